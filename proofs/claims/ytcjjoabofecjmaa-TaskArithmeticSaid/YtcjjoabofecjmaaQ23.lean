/- A part of the proof: The table of the local operations; Whatever local operation;. -/
import Derived.Test.YtcjjoabofecjmaaQ22
import Derived.Test.YtcjjoabofecjmaaQ24
import Derived.Maps.Own
import Derived.Defers
import Derived.Recover
set_option linter.unusedVariables false
set_option linter.unusedSimpArgs false
set_option maxHeartbeats 16000000
namespace Go.Proofs.Ytcjjoabofecjmaa
open Go.RowKit Go.Sort Go.Maps
open Go.Value (int)
def selfR (v : Value) : Option (DataW Value × List MemPlace) := some (.held v,[])
theorem wpList_insert_own {P : Program} (w : World) {ops : Array Oper} {rest : List Oper} {o : Oper} {a : Act} {Q : Exit → Act → World → Prop}
  (hg : o.guard = none) (m x v : Operand) (t : TypeId) (hop : o.op = Op.insert t m x v)
  (k e : TypeId) (K : Keyed P k) (ht : P.underlying t = some (.map k e)) (b n : Nat) (D : DataW Value)
  (hm : a.eval m = .map (some b)) (hown : w.ownsMap P k selfR b n D) (hn : n < maxLen) (key val : Value) (kl : Lit) (hx : a.eval x = key) (hv : a.eval v = val) (hkey : keyOf P k key = some kl)
  (hK : ∀ w',w'.ownsMap P k selfR b (n + 1) (D.put kl (.held val)) → w.grownBy w' (some b) → wpList P ops Q rest (a.put o.dst undef) w') :
  wpList P ops Q (o :: rest) a w := by
 refine wpList_plain hg fun K' hK' => ?_
 obtain ⟨w',hrun,r1,r2⟩ := hown.update K ht hn hkey (d := .held val) (ps := []) rfl
 unfold Oper.wp
 simp [execOp,hop,hm,hx,hv,hrun,Result.andThen]
 exact hK' _ _ (hK w' r1 r2)
theorem law_int : Keyed Try.prog 3 := int_keyed Try.underlying3
theorem key_int {a : Int} (h : InR a) : keyOf Try.prog 3 (int .i64 a) = some (.int .i64 a) := keyOf_int_mk Try.underlying3 (WalkArith.wf_i64 (by have := h.1;have := h.2;omega))
def Caps (w : World) (b : Nat) (l : List (Nat × Value)) : Prop := ∀ p ∈ l,Cold w p.1 ∧ w.cell? ⟨p.1,0,none⟩ = some p.2 ∧ p.1 ≠ b
theorem Caps.nil (w : World) (b : Nat) : Caps w b [] := fun _ h => by cases h
theorem Caps.keep {B : Nat} {w W : World} {b : Nat} {l : List (Nat × Value)} (h : Caps w b l) (k : Kept B w W) : Caps W b l := fun p hp => by
 obtain ⟨h1,h2,h3⟩ := h p hp
 exact ⟨(h1.keep k).1,(h1.cell k 0).trans h2,h3⟩
theorem Caps.ext {w W : World} {b : Nat} {l : List (Nat × Value)} (h : Caps w b l) (k : Ext w W) : Caps W b l := h.keep (Kept.mono k (Nat.zero_le _))
theorem Caps.grown {w W : World} {b : Nat} {l : List (Nat × Value)} (h : Caps w b l) (k : w.grownBy W (some b)) : Caps W b l := fun p hp => by
 obtain ⟨⟨o,h0,h1⟩,h2,h3⟩ := h p hp
 have h4 := k.block p.1 (Array.getElem?_eq_some_iff.1 h0).1 (fun e => h3 (by injection e))
 exact ⟨⟨o,h4.trans h0,h1⟩,(World.cell?_of_block h4).trans h2,h3⟩
theorem Caps.cons {w : World} {b C : Nat} {F : Value} {l : List (Nat × Value)} (h : Caps w b l) (h1 : Cold w C) (h2 : w.cell? ⟨C,0,none⟩ = some F) (h3 : C ≠ b) : Caps w b ((C,F) :: l) := fun p hp => by
 rcases List.mem_cons.1 hp with rfl | hp
 ·exact ⟨h1,h2,h3⟩
 ·exact h p hp
def fnV (k : Nat) : Value := .func (.func k) #[] #[]
def binV (C : Nat) : Value := .func (.func 89) #[] #[.pointer (some ⟨C,0,none⟩)]
def tabD (C3 C4 C5 C6 C7 C8 C9 C10 C11 : Nat) : DataW Value :=
 ((((((((((((((((((((((DataW.map []).put (.int .i64 1) (.held (fnV 53))).put (.int .i64 2) (.held (fnV 55))).put (.int .i64 3) (.held (binV C3))).put (.int .i64 4) (.held (binV C4))).put (.int .i64 5) (.held (binV C5))).put (.int .i64 6) (.held (binV C6))).put (.int .i64 7) (.held (binV C7))).put (.int .i64 8) (.held (binV C8))).put (.int .i64 9) (.held (binV C9))).put (.int .i64 10) (.held (binV C10))).put (.int .i64 11) (.held (binV C11))).put (.int .i64 12) (.held (fnV 69))).put (.int .i64 13) (.held (fnV 70))).put (.int .i64 14) (.held (fnV 71))).put (.int .i64 15) (.held (fnV 72))).put (.int .i64 16) (.held (fnV 73))).put (.int .i64 17) (.held (fnV 74))).put (.int .i64 18) (.held (fnV 75))).put (.int .i64 19) (.held (fnV 76))).put (.int .i64 20) (.held (fnV 77))).put (.int .i64 21) (.held (fnV 78)))
structure TabOk (w : World) (b C3 C4 C5 C6 C7 C8 C9 C10 C11 D6 D7 : Nat) : Prop where
 map : w.ownsMap Try.prog 3 selfR b 21 (tabD C3 C4 C5 C6 C7 C8 C9 C10 C11)
 caps : Caps w b [(C11,fnV 68),(C10,fnV 67),(C9,fnV 66),(C8,fnV 64),(D7,fnV 63),(C7,.func (.func 90) #[] #[.pointer (some ⟨D7,0,none⟩)]),(D6,fnV 62),(C6,.func (.func 90) #[] #[.pointer (some ⟨D6,0,none⟩)]),(C5,fnV 60),(C4,fnV 59),(C3,fnV 58)]
theorem TabOk.keep {B : Nat} {w W : World} {b C3 C4 C5 C6 C7 C8 C9 C10 C11 D6 D7 : Nat} (h : TabOk w b C3 C4 C5 C6 C7 C8 C9 C10 C11 D6 D7) (k : Kept B w W) : TabOk W b C3 C4 C5 C6 C7 C8 C9 C10 C11 D6 D7 := by
 refine ⟨?_,h.caps.keep k⟩
 obtain ⟨es,clock,hb,F,hs,hD⟩ := h.map
 exact ⟨es,clock,k.cold b _ hb rfl,F,hs,hD⟩
def Tabs (w : World) (b : Nat) : Prop := ∃ C3 C4 C5 C6 C7 C8 C9 C10 C11 D6 D7,TabOk w b C3 C4 C5 C6 C7 C8 C9 C10 C11 D6 D7
set_option maxRecDepth 8000 in
theorem operations_any (w : World) :
  Calls Try.prog 35 #[] w fun e w' => ∃ b,e = .returned (.map (some b)) ∧ Tabs w' b ∧ Ext w w' := by
 have hmm := @run_makeMap Try.prog
 have hown := World.ownsMap_made w Try.prog 3 selfR
 have HC : Caps (w.alloc (.map #[] 0)) w.heap.size [] := Caps.nil _ _
 have HE : Ext w (w.alloc (.map #[] 0)) := (Ext.refl w).alloc _
 have hlt : w.heap.size < (w.alloc (.map #[] 0)).heap.size := by simp
 have HC := Lib.hid HC
 have hown := Lib.hid hown
 have HE := Lib.hid HE
 have hlt := Lib.hid hlt
 go_enter Try.func35,Try.ntmps35
 go_wp2_with (first
  | ((with_reducible show wpList _ _ _ ({ dst := _,op := Op.insert _ _ _ _,type := _,pos := _,after := _,guard := none } :: _) _ _);refine wpList_insert_own _ rfl _ _ _ 87 rfl 3 _ law_int Try.underlying87 w.heap.size _ _ rfl hown.out (by simp only [maxLen];omega) _ _ _ rfl rfl (key_int ⟨by decide,by decide⟩) ?_;intro w1 hown1 hgr1;replace HC := Lib.hid (HC.out.grown hgr1);replace HE := Lib.hid (Below.grown HE.out hgr1 (Nat.le_of_lt hlt.out) (fun k e => by cases e;exact Nat.le_refl _));replace hlt := Lib.hid (Nat.lt_of_lt_of_le hlt.out hgr1.size);clear hown;have hown := Lib.hid hown1;clear hown1 hgr1)
  | (go_at_call 57;refine (binary_mk _ rfl _).mono ?_;rintro e w1 ⟨C,rfl,hc,hC,hcd,hb⟩;replace HC := Lib.hid ((HC.out.ext hb).cons hcd hc (by have := hlt.out;omega));replace HE := Lib.hid (Ext.trans HE.out hb);replace hlt := Lib.hid (Nat.lt_of_lt_of_le hlt.out hb.size);replace hown := Lib.hid (hown.out.kept (ext_grown hb none) (by simp));clear hc hC hcd hb)
  | (go_at_call 61;refine (divided_mk _ _).mono ?_;rintro e w1 ⟨C,D,rfl,hc,hd,hC,hD,hcd,hdd,hb⟩;replace HC := Lib.hid (((HC.out.ext hb).cons hcd hc (by have := hlt.out;omega)).cons hdd hd (by have := hlt.out;omega));replace HE := Lib.hid (Ext.trans HE.out hb);replace hlt := Lib.hid (Nat.lt_of_lt_of_le hlt.out hb.size);replace hown := Lib.hid (hown.out.kept (ext_grown hb none) (by simp));clear hc hd hC hD hcd hdd hb))
 go_ret
 have hm := hown.out
 have hcs := HC.out
 exact ⟨w.heap.size,rfl,⟨_,_,_,_,_,_,_,_,_,_,_,TabOk.mk hm hcs⟩,HE.out⟩
def opV (C3 C4 C5 C6 C7 C8 C9 C10 C11 : Nat) (k : Int) : Value :=
 if k = 1 then fnV 53 else if k = 2 then fnV 55 else if k = 3 then binV C3 else if k = 4 then binV C4 else if k = 5 then binV C5 else if k = 6 then binV C6 else if k = 7 then binV C7 else if k = 8 then binV C8
 else if k = 9 then binV C9 else if k = 10 then binV C10 else if k = 11 then binV C11 else if k = 12 then fnV 69 else if k = 13 then fnV 70 else if k = 14 then fnV 71 else if k = 15 then fnV 72
 else if k = 16 then fnV 73 else if k = 17 then fnV 74 else if k = 18 then fnV 75 else if k = 19 then fnV 76 else if k = 20 then fnV 77 else fnV 78
theorem tab_at1 (C3 C4 C5 C6 C7 C8 C9 C10 C11 : Nat) : (tabD C3 C4 C5 C6 C7 C8 C9 C10 C11).atKey (.int .i64 1) (.held .nilFunc) = .held (opV C3 C4 C5 C6 C7 C8 C9 C10 C11 1) := by kernel_rfl
theorem tab_at2 (C3 C4 C5 C6 C7 C8 C9 C10 C11 : Nat) : (tabD C3 C4 C5 C6 C7 C8 C9 C10 C11).atKey (.int .i64 2) (.held .nilFunc) = .held (opV C3 C4 C5 C6 C7 C8 C9 C10 C11 2) := by kernel_rfl
theorem tab_at3 (C3 C4 C5 C6 C7 C8 C9 C10 C11 : Nat) : (tabD C3 C4 C5 C6 C7 C8 C9 C10 C11).atKey (.int .i64 3) (.held .nilFunc) = .held (opV C3 C4 C5 C6 C7 C8 C9 C10 C11 3) := by kernel_rfl
theorem tab_at4 (C3 C4 C5 C6 C7 C8 C9 C10 C11 : Nat) : (tabD C3 C4 C5 C6 C7 C8 C9 C10 C11).atKey (.int .i64 4) (.held .nilFunc) = .held (opV C3 C4 C5 C6 C7 C8 C9 C10 C11 4) := by kernel_rfl
theorem tab_at5 (C3 C4 C5 C6 C7 C8 C9 C10 C11 : Nat) : (tabD C3 C4 C5 C6 C7 C8 C9 C10 C11).atKey (.int .i64 5) (.held .nilFunc) = .held (opV C3 C4 C5 C6 C7 C8 C9 C10 C11 5) := by kernel_rfl
theorem tab_at6 (C3 C4 C5 C6 C7 C8 C9 C10 C11 : Nat) : (tabD C3 C4 C5 C6 C7 C8 C9 C10 C11).atKey (.int .i64 6) (.held .nilFunc) = .held (opV C3 C4 C5 C6 C7 C8 C9 C10 C11 6) := by kernel_rfl
theorem tab_at7 (C3 C4 C5 C6 C7 C8 C9 C10 C11 : Nat) : (tabD C3 C4 C5 C6 C7 C8 C9 C10 C11).atKey (.int .i64 7) (.held .nilFunc) = .held (opV C3 C4 C5 C6 C7 C8 C9 C10 C11 7) := by kernel_rfl
theorem tab_at8 (C3 C4 C5 C6 C7 C8 C9 C10 C11 : Nat) : (tabD C3 C4 C5 C6 C7 C8 C9 C10 C11).atKey (.int .i64 8) (.held .nilFunc) = .held (opV C3 C4 C5 C6 C7 C8 C9 C10 C11 8) := by kernel_rfl
theorem tab_at9 (C3 C4 C5 C6 C7 C8 C9 C10 C11 : Nat) : (tabD C3 C4 C5 C6 C7 C8 C9 C10 C11).atKey (.int .i64 9) (.held .nilFunc) = .held (opV C3 C4 C5 C6 C7 C8 C9 C10 C11 9) := by kernel_rfl
theorem tab_at10 (C3 C4 C5 C6 C7 C8 C9 C10 C11 : Nat) : (tabD C3 C4 C5 C6 C7 C8 C9 C10 C11).atKey (.int .i64 10) (.held .nilFunc) = .held (opV C3 C4 C5 C6 C7 C8 C9 C10 C11 10) := by kernel_rfl
theorem tab_at11 (C3 C4 C5 C6 C7 C8 C9 C10 C11 : Nat) : (tabD C3 C4 C5 C6 C7 C8 C9 C10 C11).atKey (.int .i64 11) (.held .nilFunc) = .held (opV C3 C4 C5 C6 C7 C8 C9 C10 C11 11) := by kernel_rfl
theorem tab_at12 (C3 C4 C5 C6 C7 C8 C9 C10 C11 : Nat) : (tabD C3 C4 C5 C6 C7 C8 C9 C10 C11).atKey (.int .i64 12) (.held .nilFunc) = .held (opV C3 C4 C5 C6 C7 C8 C9 C10 C11 12) := by kernel_rfl
theorem tab_at13 (C3 C4 C5 C6 C7 C8 C9 C10 C11 : Nat) : (tabD C3 C4 C5 C6 C7 C8 C9 C10 C11).atKey (.int .i64 13) (.held .nilFunc) = .held (opV C3 C4 C5 C6 C7 C8 C9 C10 C11 13) := by kernel_rfl
theorem tab_at14 (C3 C4 C5 C6 C7 C8 C9 C10 C11 : Nat) : (tabD C3 C4 C5 C6 C7 C8 C9 C10 C11).atKey (.int .i64 14) (.held .nilFunc) = .held (opV C3 C4 C5 C6 C7 C8 C9 C10 C11 14) := by kernel_rfl
theorem tab_at15 (C3 C4 C5 C6 C7 C8 C9 C10 C11 : Nat) : (tabD C3 C4 C5 C6 C7 C8 C9 C10 C11).atKey (.int .i64 15) (.held .nilFunc) = .held (opV C3 C4 C5 C6 C7 C8 C9 C10 C11 15) := by kernel_rfl
theorem tab_at16 (C3 C4 C5 C6 C7 C8 C9 C10 C11 : Nat) : (tabD C3 C4 C5 C6 C7 C8 C9 C10 C11).atKey (.int .i64 16) (.held .nilFunc) = .held (opV C3 C4 C5 C6 C7 C8 C9 C10 C11 16) := by kernel_rfl
theorem tab_at17 (C3 C4 C5 C6 C7 C8 C9 C10 C11 : Nat) : (tabD C3 C4 C5 C6 C7 C8 C9 C10 C11).atKey (.int .i64 17) (.held .nilFunc) = .held (opV C3 C4 C5 C6 C7 C8 C9 C10 C11 17) := by kernel_rfl
theorem tab_at18 (C3 C4 C5 C6 C7 C8 C9 C10 C11 : Nat) : (tabD C3 C4 C5 C6 C7 C8 C9 C10 C11).atKey (.int .i64 18) (.held .nilFunc) = .held (opV C3 C4 C5 C6 C7 C8 C9 C10 C11 18) := by kernel_rfl
theorem tab_at19 (C3 C4 C5 C6 C7 C8 C9 C10 C11 : Nat) : (tabD C3 C4 C5 C6 C7 C8 C9 C10 C11).atKey (.int .i64 19) (.held .nilFunc) = .held (opV C3 C4 C5 C6 C7 C8 C9 C10 C11 19) := by kernel_rfl
theorem tab_at20 (C3 C4 C5 C6 C7 C8 C9 C10 C11 : Nat) : (tabD C3 C4 C5 C6 C7 C8 C9 C10 C11).atKey (.int .i64 20) (.held .nilFunc) = .held (opV C3 C4 C5 C6 C7 C8 C9 C10 C11 20) := by kernel_rfl
theorem tab_at21 (C3 C4 C5 C6 C7 C8 C9 C10 C11 : Nat) : (tabD C3 C4 C5 C6 C7 C8 C9 C10 C11).atKey (.int .i64 21) (.held .nilFunc) = .held (opV C3 C4 C5 C6 C7 C8 C9 C10 C11 21) := by kernel_rfl
theorem tab_at (C3 C4 C5 C6 C7 C8 C9 C10 C11 : Nat) (k : Int) (h : 1 ≤ k ∧ k ≤ 21) : (tabD C3 C4 C5 C6 C7 C8 C9 C10 C11).atKey (.int .i64 k) (.held .nilFunc) = .held (opV C3 C4 C5 C6 C7 C8 C9 C10 C11 k) := by
 have : k = 1 ∨ k = 2 ∨ k = 3 ∨ k = 4 ∨ k = 5 ∨ k = 6 ∨ k = 7 ∨ k = 8 ∨ k = 9 ∨ k = 10 ∨ k = 11 ∨ k = 12 ∨ k = 13 ∨ k = 14 ∨ k = 15 ∨ k = 16 ∨ k = 17 ∨ k = 18 ∨ k = 19 ∨ k = 20 ∨ k = 21 := by omega
 rcases this with rfl | rfl | rfl | rfl | rfl | rfl | rfl | rfl | rfl | rfl | rfl | rfl | rfl | rfl | rfl | rfl | rfl | rfl | rfl | rfl | rfl
 ·exact tab_at1 ..
 ·exact tab_at2 ..
 ·exact tab_at3 ..
 ·exact tab_at4 ..
 ·exact tab_at5 ..
 ·exact tab_at6 ..
 ·exact tab_at7 ..
 ·exact tab_at8 ..
 ·exact tab_at9 ..
 ·exact tab_at10 ..
 ·exact tab_at11 ..
 ·exact tab_at12 ..
 ·exact tab_at13 ..
 ·exact tab_at14 ..
 ·exact tab_at15 ..
 ·exact tab_at16 ..
 ·exact tab_at17 ..
 ·exact tab_at18 ..
 ·exact tab_at19 ..
 ·exact tab_at20 ..
 ·exact tab_at21 ..
set_option maxRecDepth 8000 in
theorem tab_look {w : World} {b C3 C4 C5 C6 C7 C8 C9 C10 C11 D6 D7 : Nat} (h : TabOk w b C3 C4 C5 C6 C7 C8 C9 C10 C11 D6 D7) {k : Int} (hk : 1 ≤ k ∧ k ≤ 21) :
  (Instr.lookup 87 (.map (some b)) (int .i64 k) false).run Try.prog w = .ok (opV C3 C4 C5 C6 C7 C8 C9 C10 C11 k) w := by
 obtain ⟨v,ps,h1,h2⟩ := h.map.lookup law_int Try.underlying87 (z := .nilFunc) (by kernel_rfl) rfl (key_int (a := k) ⟨by omega,by omega⟩)
 have hD := tab_at C3 C4 C5 C6 C7 C8 C9 C10 C11 k hk
 generalize tabD C3 C4 C5 C6 C7 C8 C9 C10 C11 = D at hD h2
 generalize opV C3 C4 C5 C6 C7 C8 C9 C10 C11 k = V at hD
 rw [hD] at h2
 simp only [selfR,Option.some.injEq,Prod.mk.injEq,DataW.held.injEq] at h2
 rw [h1,h2.1]
end Go.Proofs.Ytcjjoabofecjmaa
namespace Go.Proofs.Ytcjjoabofecjmaa
open Go.RowKit Go.Sort
open Go.Value (int)
def OpCall (X : List Value) (B R : Nat) (P3 : List Value) (w : World) (x : Ins) (VX : Value) (r : Tsk × Stp) (n : Int) (v : Value) : Prop :=
 ∃ gk lb,v = .func (.func gk) #[] lb ∧ Enters Try.prog gk ∧ Calls Try.prog gk (#[.pointer (some ⟨R,0,none⟩),.agg #[int .i64 x.op,int .i64 x.a,int .i64 x.b,int .i64 x.c,VX]] ++ lb) w (OpPost X B R P3 w r n)
theorem opcall_fn {X : List Value} {B R : Nat} {P3 : List Value} {w : World} {x : Ins} {VX : Value} {r : Tsk × Stp} {n : Int} {k : Nat} (eg : Enters Try.prog k) (h : Calls Try.prog k #[.pointer (some ⟨R,0,none⟩),.agg #[int .i64 x.op,int .i64 x.a,int .i64 x.b,int .i64 x.c,VX]] w (OpPost X B R P3 w r n)) : OpCall X B R P3 w x VX r n (fnV k) :=
 ⟨k,#[],rfl,eg,h⟩
theorem opcall_bin {X : List Value} {B R C : Nat} {P3 : List Value} {w : World} {x : Ins} {VX : Value} {r : Tsk × Stp} {n : Int} (eg : Enters Try.prog 89) (h : Calls Try.prog 89 #[.pointer (some ⟨R,0,none⟩),.agg #[int .i64 x.op,int .i64 x.a,int .i64 x.b,int .i64 x.c,VX],.pointer (some ⟨C,0,none⟩)] w (OpPost X B R P3 w r n)) : OpCall X B R P3 w x VX r n (binV C) :=
 ⟨_,#[.pointer (some ⟨C,0,none⟩)],rfl,eg,h⟩
set_option maxRecDepth 8000 in
theorem exec_any {p : Prg} {X : List Value} {B R : Nat} {P3 : List Value} {w : World} {t : Tsk} {n : Int} {VF VB : Value} {rs hs : List Value} {gs : List (List Value)} (h : RunSt X B R P3 w t n VF VB rs hs gs) (hr : RunOk p t) (hc : checkS p = 0) (hN : NumIn t) (u : World) (hu : Ext u w) (huB : u.heap.size ≤ B) (hP : RPrg u p (.agg P3.toArray)) {f : Frm} {g : Fnc} (hf : topF t = some f) (hg : FrOk p f g)
  (x : Ins) (hx : g.code[f.pc.toNat]? = some x) (hv : visS x.op = false) (A : Option Addr) (m c : Nat) (hxa : RSl 1 RInt u A m x.args) (hib : InR x.b) {b C3 C4 C5 C6 C7 C8 C9 C10 C11 D6 D7 : Nat} (T : TabOk w b C3 C4 C5 C6 C7 C8 C9 C10 C11 D6 D7) :
  OpCall X B R P3 w x (.slice A m c) (execS p t f x) n (opV C3 C4 C5 C6 C7 C8 C9 C10 C11 x.op) := by
 have ht := hr.topOk hc hf
 have hfn := fn_ok hc (fnAt_mem hg.fn)
 have hi := ins_ok (hfn.ins x (List.mem_of_getElem? hx))
 have hpc : f.pc < g.code.length := by have := (List.getElem?_eq_some_iff.1 hx).1;have := hg.pc;omega
 have hop := local_op hi.shape hv
 have hpc0 := hg.pc
 have hfr := hg.regs
 have inf : ∀ {k : Int},0 ≤ k ∧ k < g.regs → InF f k := fun hk => ⟨hk.1,by omega⟩
 have cap := fun (q : Nat × Value) (hq : q ∈ _) => (T.caps q hq).2.1
 have bin : ∀ {C : Nat} {k : Nat} {lb : Array Value} (v : Int),3 ≤ x.op → x.op ≤ 11 → Enters Try.prog k → w.cell? ⟨C,0,none⟩ = some (.func (.func k) #[] lb) →
   (∀ W,Ext w W → numB (regS f x.b) = true → numB (regS f x.c) = true → Calls Try.prog k (#[int .i64 (regS f x.b),int .i64 (regS f x.c)] ++ lb) W fun e w' => e = .returned (int .i64 v) ∧ Ext W w') → OpCall X B R P3 w x (.slice A m c) (writeS t f x.a v) n (binV C) := fun {C k lb} v h3 h11 eg hC hf' =>
  opcall_bin (enters_of Try.func89 (by kernel_rfl) rfl) (binary_ok h ht x _ (inf (need_a hi (by omega))) (inf (need_b hi (by omega))) (inf (need_c hi (by omega))) C k lb eg hC v (fun W hE => hf' W hE (regS_num hg (need_b hi (by omega))) (regS_num hg (need_c hi (by omega)))))
 have bad : ∀ {C D : Nat},3 ≤ x.op → x.op ≤ 11 → regS f x.c = 0 → w.cell? ⟨C,0,none⟩ = some (.func (.func 90) #[] #[.pointer (some ⟨D,0,none⟩)]) → OpCall X B R P3 w x (.slice A m c) (failT t 6) n (binV C) := fun {C D} h3 h11 hz hC =>
  opcall_bin (enters_of Try.func89 (by kernel_rfl) rfl) (binary_bad h ht x _ (inf (need_b hi (by omega))) (inf (need_c hi (by omega))) C _ _ (enters_of Try.func90 (by kernel_rfl) rfl) hC (fun W hE => by rw [hz];exact divided_bad _ D W))
 obtain ⟨V,hV⟩ : ∃ V,opV C3 C4 C5 C6 C7 C8 C9 C10 C11 x.op = V := ⟨_,rfl⟩
 have val : ∀ {V' : Value},opV C3 C4 C5 C6 C7 C8 C9 C10 C11 x.op = V' → V = V' := fun e => hV.symm.trans e
 rw [hV]
 refine exec_cases (motive := fun r => OpCall X B R P3 w x (.slice A m c) r n V) hop (fun e => ?_) (fun e => ?_) (fun e => ?_) (fun h3 h11 hz => ?_) (fun h3 h11 hz => ?_) (fun e => ?_) (fun e => ?_) (fun e => ?_) (fun e => ?_) (fun e => ?_) (fun e => ?_) (fun e => ?_) (fun e => ?_) (fun e => ?_)
 ·rw [val (V' := fnV 53) (by rw [e];rfl)]
  exact opcall_fn (enters_of Try.func53 (by kernel_rfl) rfl) (op_const h ht x _ (inf (need_a hi (by omega))))
 ·rw [val (V' := fnV 55) (by rw [e];rfl)]
  exact opcall_fn (enters_of Try.func55 (by kernel_rfl) rfl) (op_move h ht x _ (inf (need_a hi (by omega))) (inf (need_b hi (by omega))))
 ·rw [val (V' := fnV 69) (by rw [e];rfl)]
  exact opcall_fn (enters_of Try.func69 (by kernel_rfl) rfl) (op_not h ht x _ (inf (need_a hi (by omega))) (inf (need_b hi (by omega))))
 ·rcases hz.1 with e | e
  ·rw [val (V' := binV C6) (by rw [e];rfl)]
   exact bad h3 h11 hz.2 (cap (C6,.func (.func 90) #[] #[.pointer (some ⟨D6,0,none⟩)]) (by simp))
  ·rw [val (V' := binV C7) (by rw [e];rfl)]
   exact bad h3 h11 hz.2 (cap (C7,.func (.func 90) #[] #[.pointer (some ⟨D7,0,none⟩)]) (by simp))
 ·have hop3 : x.op = 3 ∨ x.op = 4 ∨ x.op = 5 ∨ x.op = 6 ∨ x.op = 7 ∨ x.op = 8 ∨ x.op = 9 ∨ x.op = 10 ∨ x.op = 11 := by omega
  rcases hop3 with e | e | e | e | e | e | e | e | e
  ·rw [val (V' := binV C3) (by rw [e];rfl)]
   rw [e]
   exact bin _ h3 h11 (enters_of Try.func58 (by kernel_rfl) rfl) (cap (C3,fnV 58) (by simp)) (fun W hE ha hb => f_add _ _ ha hb W)
  ·rw [val (V' := binV C4) (by rw [e];rfl)]
   rw [e]
   exact bin _ h3 h11 (enters_of Try.func59 (by kernel_rfl) rfl) (cap (C4,fnV 59) (by simp)) (fun W hE ha hb => f_sub _ _ ha hb W)
  ·rw [val (V' := binV C5) (by rw [e];rfl)]
   rw [e,show binS 5 (regS f x.b) (regS f x.c) = regS f x.b * regS f x.c from rfl,← write_prod]
   exact bin _ h3 h11 (enters_of Try.func60 (by kernel_rfl) rfl) (cap (C5,fnV 60) (by simp)) (fun W hE ha hb => f_mul _ _ ha hb W)
  ·rw [val (V' := binV C6) (by rw [e];rfl)]
   have hz0 : ¬ regS f x.c = 0 := fun e0 => hz ⟨by omega,e0⟩
   rw [e]
   exact bin _ h3 h11 (enters_of Try.func90 (by kernel_rfl) rfl) (cap (C6,.func (.func 90) #[] #[.pointer (some ⟨D6,0,none⟩)]) (by simp)) (fun W hE ha hb => divided_ok _ _ _ D6 _ W (enters_of Try.func62 (by kernel_rfl) rfl) (hE.cell (cap (D6,fnV 62) (by simp))) hz0 (fun W' hE' => f_div _ _ ha hz0 W'))
  ·rw [val (V' := binV C7) (by rw [e];rfl)]
   have hz0 : ¬ regS f x.c = 0 := fun e0 => hz ⟨by omega,e0⟩
   rw [e]
   exact bin _ h3 h11 (enters_of Try.func90 (by kernel_rfl) rfl) (cap (C7,.func (.func 90) #[] #[.pointer (some ⟨D7,0,none⟩)]) (by simp)) (fun W hE ha hb => divided_ok _ _ _ D7 _ W (enters_of Try.func63 (by kernel_rfl) rfl) (hE.cell (cap (D7,fnV 63) (by simp))) hz0 (fun W' hE' => f_mod _ _ ha hz0 W'))
  ·rw [val (V' := binV C8) (by rw [e];rfl)]
   rw [e]
   exact bin _ h3 h11 (enters_of Try.func64 (by kernel_rfl) rfl) (cap (C8,fnV 64) (by simp)) (fun W hE ha hb => f_eq _ _ W)
  ·rw [val (V' := binV C9) (by rw [e];rfl)]
   rw [e]
   exact bin _ h3 h11 (enters_of Try.func66 (by kernel_rfl) rfl) (cap (C9,fnV 66) (by simp)) (fun W hE ha hb => f_lss _ _ W)
  ·rw [val (V' := binV C10) (by rw [e];rfl)]
   rw [e]
   exact bin _ h3 h11 (enters_of Try.func67 (by kernel_rfl) rfl) (cap (C10,fnV 67) (by simp)) (fun W hE ha hb => f_and _ _ W)
  ·rw [val (V' := binV C11) (by rw [e];rfl)]
   rw [e]
   exact bin _ h3 h11 (enters_of Try.func68 (by kernel_rfl) rfl) (cap (C11,fnV 68) (by simp)) (fun W hE ha hb => f_or _ _ W)
 ·rw [val (V' := fnV 70) (by rw [e];rfl)]
  exact opcall_fn (enters_of Try.func70 (by kernel_rfl) rfl) (op_jump h ht x _ (by have := (need_jump hi).1 e;have := hfn.len;exact ⟨by omega,by omega⟩))
 ·rw [val (V' := fnV 71) (by rw [e];rfl)]
  exact opcall_fn (enters_of Try.func71 (by kernel_rfl) rfl) (op_unless h ht x _ (inf (need_a hi (by omega))) hib)
 ·rw [val (V' := fnV 72) (by rw [e];rfl)]
  obtain ⟨k,hk,hkc,hkl,har⟩ := need_args hi (.inl e)
  have hfk := fn_ok hc (fnAt_mem hk)
  have hcl : f.cleanup = false := by
   cases hcf : f.cleanup with
   | false => rfl
   | true =>
    have := hi.forb (by rw [← hg.cl];exact hcf)
    rw [e] at this;exact absurd this (by decide)
  have := hfk.par
  have := hfk.reg
  by_cases h8 : 8 ≤ plainN t
  ·exact opcall_fn (enters_of Try.func72 (by kernel_rfl) rfl) (op_call_full h hr hc hN hf hcl x _ h8)
  ·exact opcall_fn (enters_of Try.func72 (by kernel_rfl) rfl) (op_call_ok h hr hc hN u hu huB hP hf hg hpc hcl x A m c hxa (need_a hi (by omega)) k hk (by omega) har h8)
 ·rw [val (V' := fnV 73) (by rw [e];rfl)]
  exact opcall_fn (enters_of Try.func73 (by kernel_rfl) rfl) (op_return h hr hc hf x _ (inf (need_a hi (by omega))) (regS_num hg (need_a hi (by omega))))
 ·rw [val (V' := fnV 74) (by rw [e];rfl)]
  obtain ⟨k,hk,hkc,hkl,har⟩ := need_args hi (.inr e)
  have hfk := fn_ok hc (fnAt_mem hk)
  have := hfk.par
  have := hfk.reg
  have := hxa.len
  exact opcall_fn (enters_of Try.func74 (by kernel_rfl) rfl) (op_defer h hr hc hf hg hpc x A m c (hxa.mono RInt.stays hu) (by omega) har hib)
 ·rw [val (V' := fnV 75) (by rw [e];rfl)]
  exact opcall_fn (enters_of Try.func75 (by kernel_rfl) rfl) (op_mask h ht x _ (by have := hr.mask;omega))
 ·rw [val (V' := fnV 76) (by rw [e];rfl)]
  have hbl := hr.bl
  obtain ⟨bk,hb⟩ : ∃ b,lastB t = some b := ⟨_,List.getElem?_eq_getElem (show t.blocks.length - 1 < t.blocks.length by omega)⟩
  exact opcall_fn (enters_of Try.func76 (by kernel_rfl) rfl) (op_unmask h ht x _ (by have := hr.mask;omega) bk hb (by omega))
 ·rw [val (V' := fnV 77) (by rw [e];rfl)]
  exact opcall_fn (enters_of Try.func77 (by kernel_rfl) rfl) (op_assert h ht x _ (inf (need_a hi (by omega))))
 ·rw [val (V' := fnV 78) (by rw [e];rfl)]
  exact opcall_fn (enters_of Try.func78 (by kernel_rfl) rfl) (op_fail h ht x _ (inf (need_a hi (by omega))))
set_option maxRecDepth 4000 in
theorem catch_idle (S : Nat) (w : World) :
  CallsD Try.prog 34 #[.pointer (some ⟨S,0,none⟩)] .returning w fun e u' w' => e = .returned (.tuple #[]) ∧ u' = .returning ∧ w' = w := by
 refine callsD_of_wpS Try.func34 rfl fun c₀ cs hu => ?_
 apply wpS_seq
 apply wpS_region
 simp only [Try.ntmps34,List.size_toArray,List.length_cons,List.length_nil,Nat.reduceAdd,Nat.reduceSub,Array.replicate_succ,Array.replicate_zero,List.push_toArray,List.append_toArray,List.nil_append,List.cons_append]
 simp [wpOpsS,go_sem,recoverD,hu,Try.ntmps34,Exit.thenS]
 refine wpS_of_wp ?_
 go_wp2
 cases c₀
 simp_all [bodyPostS,results,Try.results34]
set_option maxRecDepth 4000 in
theorem catch_failure (S : Nat) (r : Int) (older : List PanicEntry) (w : World) (c0 : (w.cell? ⟨S,0,none⟩).isSome) (c1 : (w.cell? ⟨S,1,none⟩).isSome) (c2 : (w.cell? ⟨S,2,none⟩).isSome) (hz : ∀ o,w.frozen? ⟨S,o,none⟩ = false) :
  CallsD Try.prog 34 #[.pointer (some ⟨S,0,none⟩)] (.panicking ({ v := .iface 84 (int .i64 r),recovered := false } :: older)) w fun e u' w' => e = .returned (.tuple #[]) ∧ u' = .panicking ({ v := .iface 84 (int .i64 r),recovered := true } :: older) ∧ w' = ((w.setCell ⟨S,0,none⟩ (int .i64 3)).setCell ⟨S,1,none⟩ (int .i64 r)).setCell ⟨S,2,none⟩ (int .i64 0) := by
 obtain ⟨v0,h0⟩ := Option.isSome_iff_exists.1 c0
 obtain ⟨v1,h1⟩ := Option.isSome_iff_exists.1 c1
 obtain ⟨v2,h2⟩ := Option.isSome_iff_exists.1 c2
 clear c0 c1 c2
 refine callsD_of_wpS Try.func34 rfl fun c₀ cs hu => ?_
 apply wpS_seq
 apply wpS_region
 simp only [Try.ntmps34,List.size_toArray,List.length_cons,List.length_nil,Nat.reduceAdd,Nat.reduceSub,Array.replicate_succ,Array.replicate_zero,List.push_toArray,List.append_toArray,List.nil_append,List.cons_append]
 simp [wpOpsS,go_sem,recoverD,hu,Try.ntmps34,Exit.thenS]
 refine wpS_of_wp ?_
 have heq : ∀ w : World,(binOp BinOp.eql 20 (.iface 84 (int .i64 r)) .nilIface).run Try.prog w = .ok (.bool false) w := fun _ => by kernel_rfl
 have hta : ∀ w : World,(Instr.typeAssert (.iface 84 (int .i64 r)) 20 84 true).run Try.prog w = .ok (.tuple #[int .i64 r,.bool true]) w := fun _ => by kernel_rfl
 generalize hQ : (fun e a' w' => bodyPostS Try.prog Try.f34 c₀ cs _ e a' _ w') = Q
 have HQ := Lib.hid hQ
 clear hQ
 go_wp2
 rw [← HQ.out]
 clear HQ h0 h1 h2 hz
 cases c₀
 simp_all [bodyPostS,results,Try.results34]
set_option maxRecDepth 4000 in
theorem catch_stopped (S : Nat) (a b c : Int) (older : List PanicEntry) (w : World) (c0 : (w.cell? ⟨S,0,none⟩).isSome) (c1 : (w.cell? ⟨S,1,none⟩).isSome) (c2 : (w.cell? ⟨S,2,none⟩).isSome) (hz : ∀ o,w.frozen? ⟨S,o,none⟩ = false) (hS : S < w.heap.size) :
  CallsD Try.prog 34 #[.pointer (some ⟨S,0,none⟩)] (.panicking ({ v := .iface 86 (.agg #[int .i64 a,int .i64 b,int .i64 c]),recovered := false } :: older)) w fun e u' w' => e = .returned (.tuple #[]) ∧ u' = .panicking ({ v := .iface 86 (.agg #[int .i64 a,int .i64 b,int .i64 c]),recovered := true } :: older) ∧ w' = (((w.setCell ⟨S,0,none⟩ (int .i64 a)).setCell ⟨S,1,none⟩ (int .i64 b)).setCell ⟨S,2,none⟩ (int .i64 c)).alloc (.cells #[int .i64 a,int .i64 b,int .i64 c] 86) := by
 obtain ⟨v0,h0⟩ := Option.isSome_iff_exists.1 c0
 obtain ⟨v1,h1⟩ := Option.isSome_iff_exists.1 c1
 obtain ⟨v2,h2⟩ := Option.isSome_iff_exists.1 c2
 clear c0 c1 c2
 refine callsD_of_wpS Try.func34 rfl fun c₀ cs hu => ?_
 apply wpS_seq
 apply wpS_region
 simp only [Try.ntmps34,List.size_toArray,List.length_cons,List.length_nil,Nat.reduceAdd,Nat.reduceSub,Array.replicate_succ,Array.replicate_zero,List.push_toArray,List.append_toArray,List.nil_append,List.cons_append]
 simp [wpOpsS,go_sem,recoverD,hu,Try.ntmps34,Exit.thenS]
 refine wpS_of_wp ?_
 have heq : ∀ w : World,(binOp BinOp.eql 20 (.iface 86 (.agg #[int .i64 a,int .i64 b,int .i64 c])) .nilIface).run Try.prog w = .ok (.bool false) w := fun _ => by kernel_rfl
 have hta : ∀ w : World,(Instr.typeAssert (.iface 86 (.agg #[int .i64 a,int .i64 b,int .i64 c])) 20 84 true).run Try.prog w = .ok (.tuple #[int .i64 0,.bool false]) w := fun _ => by kernel_rfl
 have htb : ∀ w : World,(Instr.typeAssert (.iface 86 (.agg #[int .i64 a,int .i64 b,int .i64 c])) 20 86 true).run Try.prog w = .ok (.tuple #[.agg #[int .i64 a,int .i64 b,int .i64 c],.bool true]) w := fun _ => by kernel_rfl
 generalize hQ : (fun e a' w' => bodyPostS Try.prog Try.f34 c₀ cs _ e a' _ w') = Q
 have HQ := Lib.hid hQ
 clear hQ
 go_wp2
 rw [← HQ.out]
 clear HQ h0 h1 h2 hz
 cases c₀
 simp_all [bodyPostS,results,Try.results34]
def stopA (s : Stp) : Value := .agg #[int .i64 s.kind,int .i64 s.reason,int .i64 s.value]
def RunPost (X : List Value) (B R : Nat) (P3 : List Value) (w : World) (r : Tsk × Stp) (e : Ending) (w' : World) : Prop :=
 e = .returned (stopA r.2) ∧ (∃ n VF VB rs hs gs,RunSt X B R P3 w' r.1 n VF VB rs hs gs) ∧ Kept B w w'
def StopAt (w : World) (S : Nat) : Prop := w.heap[S]? = some (.cells #[int .i64 0,int .i64 0,int .i64 0] 49 (0,0))
theorem StopAt.keep {B S : Nat} {w W : World} (h : StopAt w S) (k : Kept B w W) : StopAt W S := k.cold S _ h rfl
theorem StopAt.cell {w : World} {S : Nat} (h : StopAt w S) {o : Nat} (ho : o < 3) : w.cell? ⟨S,o,none⟩ = some (int .i64 0) := by
 unfold StopAt at h
 rw [show (⟨S,o,none⟩ : Addr) = ⟨S,o,none⟩ from rfl]
 simp only [World.cell?,h]
 have : o = 0 ∨ o = 1 ∨ o = 2 := by omega
 rcases this with rfl | rfl | rfl <;> rfl
theorem StopAt.frozen {w : World} {S : Nat} (h : StopAt w S) (o : Nat) : w.frozen? ⟨S,o,none⟩ = false := by
 unfold StopAt at h
 simp [World.frozen?,h]
theorem infoStop : (Try.prog.info? 49).map (·.size) = some 3 := by kernel_rfl
theorem run_leaves {S : Nat} {tmps : Array Value} {w : World} {R : Ending → World → Prop} {a b c : Int} (h2 : tmps[2]? = some (.pointer (some ⟨S,0,none⟩))) (hR : w.rangeAt S 0 [int .i64 a,int .i64 b,int .i64 c]) (h : R (.returned (.agg #[int .i64 a,int .i64 b,int .i64 c])) w) : Leaves Try.prog Try.f19 tmps R [] .returning w := by
 refine ⟨_, ?_,h⟩
 simp [results,Try.results19,h2,asAddr,run_loadVar_mid w S 0 49 _ _ hR Try.underlying49 rfl (by rw [infoStop];rfl)]
theorem StopAt.some {w : World} {S : Nat} (h : StopAt w S) {o : Nat} (ho : o < 3) : (w.cell? ⟨S,o,none⟩).isSome := by rw [h.cell ho];rfl
theorem range3 {w : World} {S : Nat} {a b c : Int} (h0 : w.cell? ⟨S,0,none⟩ = some (int .i64 a)) (h1 : w.cell? ⟨S,1,none⟩ = some (int .i64 b)) (h2 : w.cell? ⟨S,2,none⟩ = some (int .i64 c)) : w.rangeAt S 0 [int .i64 a,int .i64 b,int .i64 c] := fun j v hj => by
 rw [Nat.zero_add]
 match j,hj with
 | 0,hj => rw [h0,← hj];rfl
 | 1,hj => rw [h1,← hj];rfl
 | 2,hj => rw [h2,← hj];rfl
theorem StopAt.set3 {w : World} {S : Nat} (h : StopAt w S) (a b c : Int) : (((w.setCell ⟨S,0,none⟩ (int .i64 a)).setCell ⟨S,1,none⟩ (int .i64 b)).setCell ⟨S,2,none⟩ (int .i64 c)).rangeAt S 0 [int .i64 a,int .i64 b,int .i64 c] := by
 have c0 := h.cell (o := 0) (by omega)
 have c1 := h.cell (o := 1) (by omega)
 have c2 := h.cell (o := 2) (by omega)
 refine range3 ?_ ?_ ?_ <;> simp [cell?_setCell_if,c0,c1,c2]
theorem set3_kept {B S : Nat} {w0 w : World} (hk : Kept B w0 w) (hS : StopAt w S) (hn : w0.heap.size ≤ S) (hB : B ≤ S) (a b c : Int) : Kept B w0 (((w.setCell ⟨S,0,none⟩ (int .i64 a)).setCell ⟨S,1,none⟩ (int .i64 b)).setCell ⟨S,2,none⟩ (int .i64 c)) := by
 refine ⟨Below.setCell (Below.setCell (Below.setCell hk.below hB _) hB _) hB _,fun i o h1 h2 => ?_⟩
 have hi : i ≠ S := by have := (Array.getElem?_eq_some_iff.1 h1).1;omega
 rw [Below.heap_setCell _ _ _ _ hi,Below.heap_setCell _ _ _ _ hi,Below.heap_setCell _ _ _ _ hi]
 exact hk.cold i o h1 h2
def StopB (w : World) (S : Nat) : Prop := ∃ cur,w.heap[S]? = some (.cells cur 49 (0,0))
theorem StopAt.b {w : World} {S : Nat} (h : StopAt w S) : StopB w S := ⟨_,h⟩
theorem StopB.setCell {w : World} {S : Nat} (h : StopB w S) (p : Addr) (v : Value) : StopB (w.setCell p v) S := by
 obtain ⟨cur,h⟩ := h
 by_cases hp : S = p.block
 ·subst hp
  refine ⟨if p.spot.isSome then cur else cur.setIfInBounds p.off v, ?_⟩
  simp only [World.setCell,Array.getElem?_modify,if_true,h]
  rfl
 ·exact ⟨cur,(Below.heap_setCell _ _ _ _ hp).trans h⟩
theorem row_ne_stop {w : World} {B S : Nat} {e : TypeId} {sz : Nat} {v : Value} {n : Nat} {xs : List Value} (h : w.ownsRow B e sz v n xs) (hS : StopB w S) (he : e ≠ 49) : v.ownBlock = none ∨ v.ownBlock ≠ some S := by
 cases hv : v.ownBlock with
 | none => exact .inl rfl
 | some x =>
  refine .inr fun e' => ?_
  injection e' with e'
  subst e'
  obtain ⟨cur,hc⟩ := ownsRow_type h hv
  obtain ⟨cur',hc'⟩ := hS
  rw [hc] at hc'
  injection hc' with hc'
  injection hc' with _ ht
  exact he ht
theorem RunSt.stop_set {X : List Value} {B R : Nat} {P3 : List Value} {w : World} {t : Tsk} {n : Int} {VF VB : Value} {rs hs : List Value} {gs : List (List Value)} (h : RunSt X B R P3 w t n VF VB rs hs gs) (hX : boxV (R + 1) ∈ X) (hS : StopB w (R + 1)) (o : Nat) (v : Value) : RunSt X B R P3 (w.setCell ⟨R + 1,o,none⟩ v) t n VF VB rs hs gs := by
 have hg : w.grownBy (w.setCell ⟨R + 1,o,none⟩ v) (some (R + 1)) := grown_setCell _ _ _
 refine ⟨h.three,h.box.kept hg (row_ne_stop h.box hS (by decide)),h.fr.kept hg (row_ne_stop h.fr.row hS (by decide)) (fun u hu => by obtain ⟨m,xs,hh⟩ := h.rs_row hu;exact row_ne_stop hh hS (by decide)),h.bl.wrote hg (row_ne_stop h.bl.row hS (by decide)) (fun u hu => by obtain ⟨m,xs,hh⟩ := h.hs_row hu;exact row_ne_stop hh hS (by decide)) (u := boxV (R + 1)) ?_ rfl,by rw [World.size_setCell];exact h.lt1⟩
 exact List.mem_cons_of_mem _ (List.mem_cons_of_mem _ (List.mem_cons_of_mem _ (List.mem_append_right _ (List.mem_append_right _ hX))))
theorem RunSt.stop_set3 {X : List Value} {B R : Nat} {P3 : List Value} {w : World} {t : Tsk} {n : Int} {VF VB : Value} {rs hs : List Value} {gs : List (List Value)} (h : RunSt X B R P3 w t n VF VB rs hs gs) (hX : boxV (R + 1) ∈ X) (hS : StopAt w (R + 1)) (a b c : Int) : RunSt X B R P3 (((w.setCell ⟨R + 1,0,none⟩ (int .i64 a)).setCell ⟨R + 1,1,none⟩ (int .i64 b)).setCell ⟨R + 1,2,none⟩ (int .i64 c)) t n VF VB rs hs gs :=
 ((h.stop_set hX hS.b 0 _).stop_set hX (hS.b.setCell _ _) 1 _).stop_set hX ((hS.b.setCell _ _).setCell _ _) 2 _
def runDefers (R : Nat) : List Deferred := [{ target := Target.fn (Fn.func 34) #[.pointer (some ⟨R + 1,0,none⟩)],args := #[] }]
theorem run_panics {X : List Value} {B R : Nat} {P3 : List Value} {w w' : World} {r : Tsk × Stp} {n : Int} {VF VB : Value} {rs hs : List Value} {gs : List (List Value)} {tmps : Array Value} {ch : List PanicEntry} (h2 : tmps[2]? = some (.pointer (some ⟨R + 1,0,none⟩))) (hX : boxV (R + 1) ∈ X) (hst : RunSt X B R P3 w' r.1 n VF VB rs hs gs)
  (hk : Kept B w w') (hS : StopAt w' (R + 1)) (hw : w.heap.size ≤ R + 1) (hB : B ≤ R + 1) (he : Ending.panicked ch = endOf r.2) (hv : r.2.kind = 3 → r.2.value = 0) :
  bodyPostD Try.prog Try.f19 (RunPost X B R P3 w r) (Exit.panic ch) { tmps := tmps,defers := runDefers R } w' := by
 show Leaves _ _ _ _ _ _ _
 unfold endOf at he
 split at he
 ·cases he
 split at he
 ·rename_i h3
  injection he with he
  subst he
  refine leaves_cons (f := 34) (args := #[.pointer (some ⟨R + 1,0,none⟩)]) (by simp) (by simp [go_sem]) ?_
  refine (catch_failure (R + 1) r.2.reason [] w' (hS.some (by omega)) (hS.some (by omega)) (hS.some (by omega)) hS.frozen).mono ?_
  rintro e u' w'' ⟨rfl,rfl,rfl⟩
  show Leaves _ _ _ _ [] .returning _
  refine run_leaves h2 (hS.set3 _ _ _) ⟨?_,⟨_,_,_,_,_,_,hst.stop_set3 hX hS _ _ _⟩,set3_kept hk hS hw hB _ _ _⟩
  unfold stopA
  rw [h3,hv h3]
 ·injection he with he
  subst he
  refine leaves_cons (f := 34) (args := #[.pointer (some ⟨R + 1,0,none⟩)]) (by simp) (by simp [go_sem]) ?_
  refine (catch_stopped (R + 1) r.2.kind r.2.reason r.2.value [] w' (hS.some (by omega)) (hS.some (by omega)) (hS.some (by omega)) hS.frozen (hst.lt1 _ hX _ rfl)).mono ?_
  rintro e u' w'' ⟨rfl,rfl,rfl⟩
  show Leaves _ _ _ _ [] .returning _
  have hE := (Ext.refl (((w'.setCell ⟨R + 1,0,none⟩ (int .i64 r.2.kind)).setCell ⟨R + 1,1,none⟩ (int .i64 r.2.reason)).setCell ⟨R + 1,2,none⟩ (int .i64 r.2.value))).alloc (.cells #[int .i64 r.2.kind,int .i64 r.2.reason,int .i64 r.2.value] 86)
  have hk3 := set3_kept hk hS hw hB r.2.kind r.2.reason r.2.value
  have hs0 := hst.lt1 _ hX _ rfl
  have hbx := hst.lt
  refine run_leaves h2 (range_ext (hS.set3 _ _ _) hE) ⟨rfl,⟨_,_,_,_,_,_,(hst.stop_set3 hX hS _ _ _).mono hE⟩,Kept.trans hk3 (Kept.mono hE (by simp only [World.size_setCell];omega))⟩
theorem run_returns {X : List Value} {B R : Nat} {P3 : List Value} {w w' : World} {r : Tsk × Stp} {n : Int} {VF VB : Value} {rs hs : List Value} {gs : List (List Value)} {tmps : Array Value} (h2 : tmps[2]? = some (.pointer (some ⟨R + 1,0,none⟩))) (hX : boxV (R + 1) ∈ X) (hst : RunSt X B R P3 w' r.1 n VF VB rs hs gs)
  (hk : Kept B w w') (hS : StopAt w' (R + 1)) (hw : w.heap.size ≤ R + 1) (hB : B ≤ R + 1) :
  bodyPostD Try.prog Try.f19 (RunPost X B R P3 w r) Exit.ret { tmps := tmps,defers := runDefers R } (((w'.setCell ⟨R + 1,0,none⟩ (int .i64 r.2.kind)).setCell ⟨R + 1,1,none⟩ (int .i64 r.2.reason)).setCell ⟨R + 1,2,none⟩ (int .i64 r.2.value)) := by
 show Leaves _ _ _ _ _ _ _
 refine leaves_cons (f := 34) (args := #[.pointer (some ⟨R + 1,0,none⟩)]) (by simp) (by simp [go_sem]) ?_
 refine (catch_idle (R + 1) _).mono ?_
 rintro e u' w'' ⟨rfl,rfl,rfl⟩
 show Leaves _ _ _ _ [] .returning _
 exact run_leaves h2 (hS.set3 _ _ _) ⟨rfl,⟨_,_,_,_,_,_,hst.stop_set3 hX hS _ _ _⟩,set3_kept hk hS hw hB _ _ _⟩
theorem RPrg.ins_in {w : World} {p : Prg} {V : Value} (h : RPrg w p V) {i : Int} {g : Fnc} (hg : fnAt p i = some g) {k : Nat} {x : Ins} (hx : g.code[k]? = some x) : InR x.b := by
 obtain ⟨Af,nf,cf,Ao,no,co,Av,nv,cv,rfl,hF,_⟩ := h
 obtain ⟨b,off,Ac,nc,cc,_,_,_,_,_,_,⟨hC,_⟩,_⟩ := hF.fnc (fnAt_some hg).2.2
 obtain ⟨b3,off3,Ax,nx,cx,_,_,_,_,i3,_⟩ := hC.ins hx
 exact i3
theorem end_zero {s : Stp} {v : Value} (h : Ending.returned v = endOf s) : s.kind = 0 := by
 unfold endOf at h
 split at h
 ·assumption
 ·split at h <;> cases h
theorem end_some {s : Stp} {ch : List PanicEntry} (h : Ending.panicked ch = endOf s) : ¬ s.kind = 0 := fun h0 => by
 unfold endOf at h
 rw [if_pos h0] at h
 cases h
def Bare (r : Tsk × Stp) : Prop := r.2.kind = 3 → r.2.value = 0
theorem bare_fail (t : Tsk) (r : Int) : Bare (failT t r) := fun _ => rfl
theorem bare_write (t : Tsk) (f : Frm) (i v : Int) : Bare (writeS t f i v) := by unfold writeS;split;exact fun _ => rfl;exact bare_fail _ _
theorem bare_give (t : Tsk) (f : Frm) (v : Int) : Bare (giveS t f v) := by
 unfold giveS
 split
 ·exact fun _ => rfl
 split
 ·exact fun h => absurd h (by show ¬ (2 : Int) = 3;decide)
 split
 ·split
  ·exact bare_fail _ _
  ·exact fun _ => rfl
 ·exact bare_fail _ _
theorem bare_exec (p : Prg) (t : Tsk) (f : Frm) (x : Ins) (hop : 1 ≤ x.op ∧ x.op ≤ 21) : Bare (execS p t f x) := by
 refine exec_cases (motive := Bare) hop (fun _ => bare_write _ _ _ _) (fun _ => bare_write _ _ _ _) (fun _ => bare_write _ _ _ _) (fun _ _ _ => bare_fail _ _) (fun _ _ _ => bare_write _ _ _ _) (fun _ _ => rfl) (fun _ _ => rfl) (fun _ => ?_) (fun _ => bare_give _ _ _) (fun _ => ?_) (fun _ => ?_) (fun _ => ?_) (fun _ => ?_) (fun _ => ?_)
 ·unfold callS;split;exact bare_fail _ _;split;exact bare_fail _ _;exact fun _ => rfl
 ·unfold deferS;split;exact bare_fail _ _;split;exact bare_fail _ _;exact fun _ => rfl
 ·unfold maskS;split;exact bare_fail _ _;exact fun _ => rfl
 ·unfold unmaskS;split;exact bare_fail _ _;split;exact bare_fail _ _;exact fun _ => rfl
 ·split;exact bare_fail _ _;exact fun _ => rfl
 ·split <;> exact bare_fail _ _
end Go.Proofs.Ytcjjoabofecjmaa

