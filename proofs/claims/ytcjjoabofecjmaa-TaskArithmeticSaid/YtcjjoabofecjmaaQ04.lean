/- A part of the proof: checker.register, the predicate of checker.args, and slices.. -/
import Derived.Test.YtcjjoabofecjmaaQ03
import Derived.Test.YtcjjoabofecjmaaQ09
import Derived.Stop.RegionWithIn
import Derived.RangeFuncFrom
import Derived.Laws.CopyOwn
import Derived.Deep.OwnRows
set_option linter.unusedVariables false
set_option linter.unusedSimpArgs false
set_option maxHeartbeats 16000000
namespace Go.Proofs.Ytcjjoabofecjmaa
open Go.RowKit
open Go.Value (int)
def regB (f : Fnc) (n : Int) : Bool := inB n 0 (f.regs - 1)
theorem register_any (p : Prg) (f : Fnc) (n : Int) (V : Value) (w : World) (hV : RCk w p f V) (hr : 0 ≤ f.regs ∧ f.regs ≤ 32) :
  Calls Try.prog 98 #[V,.int .i64 n] w fun e w' => e = .returned (.bool (regB f n)) ∧ Ext w w' := by
 obtain ⟨Af,nf,cf,Ao,no,co,Av,nv,cv,Ac,nc,cc,rfl,_,_,_,_⟩ := hV
 go_enter Try.func98,Try.ntmps98
 go_wp2_with (go_at_call 41;refine (within_any _ _ _ _).mono ?_;rintro e w' ⟨rfl,rfl⟩)
 go_ret
 exact ⟨rfl,xt⟩
theorem args1_pred (p : Prg) (f : Fnc) (B : Nat) (w : World) (xs : List Int) (hr : 0 ≤ f.regs ∧ f.regs ≤ 32)
  (hB : ∀ W,Ext w W → ∃ Af nf cf Ao no co Av nv cv Ac nc cc,RCk W p f (.agg #[.slice Af nf cf,.slice Ao no co,.slice Av nv cv,.string f.name,int .i64 f.params,int .i64 f.regs,int .i64 f.prio,.bool f.cleanup,.slice Ac nc cc]) ∧
   W.cell? ⟨B,0,none⟩ = some (.slice Af nf cf) ∧ W.cell? ⟨B,1,none⟩ = some (.slice Ao no co) ∧ W.cell? ⟨B,2,none⟩ = some (.slice Av nv cv) ∧ W.cell? ⟨B,3,none⟩ = some (.string f.name) ∧ W.cell? ⟨B,4,none⟩ = some (int .i64 f.params) ∧
   W.cell? ⟨B,5,none⟩ = some (int .i64 f.regs) ∧ W.cell? ⟨B,6,none⟩ = some (int .i64 f.prio) ∧ W.cell? ⟨B,7,none⟩ = some (.bool f.cleanup) ∧ W.cell? ⟨B,8,none⟩ = some (.slice Ac nc cc)) :
  PredOn Try.prog 97 #[.pointer (some ⟨B,0,none⟩)] (fun cs => cs.headD undef) RInt w xs (fun n => !regB f n) := by
 intro W k x cs hW hx hR
 obtain ⟨rfl,hin⟩ := hR
 obtain ⟨Af,nf,cf,Ao,no,co,Av,nv,cv,Ac,nc,cc,hV,c0,c1,c2,c3,c4,c5,c6,c7,c8⟩ := hB W hW
 clear hB hx hW
 simp only [List.headD_cons,List.push_toArray,List.append_toArray,List.cons_append,List.nil_append]
 clear w
 obtain ⟨w,hw⟩ : ∃ w,w = W := ⟨_,rfl⟩
 subst hw
 go_enter Try.func97,Try.ntmps97
 go_wp2_with (go_at_call 98;refine (register_any p f _ _ _ (hV.mono xt) hr).mono ?_;rintro e w1 ⟨rfl,hb⟩;obtain ⟨hc,hf,hs,he⟩ := Ext.use (w := w) hb xt;clear hb;(try simp only [sA,sC,sD,sN] at hs))
 go_ret
 exact ⟨rfl,xt⟩
theorem chunk_any (A : Option Addr) (n c : Nat) (w : World) :
  Calls Try.prog 101 #[.slice A n c,.int .i64 3] w fun e w' => e = .returned (.func (.func 102) #[] #[.pointer (some ⟨w.heap.size,0,none⟩),.pointer (some ⟨w.heap.size + 1,0,none⟩)]) ∧
   (w.alloc (.cells #[.slice A n c] 23)).alloc (.cells #[.int .i64 3] 3) = w' := by
 have hmf : ∀ (fn : Go.Fn) (first cap : Array Value) (w : World),(Instr.makeFunc fn first cap).run Try.prog w = .ok (.func fn first cap) w := fun _ _ _ _ => rfl
 go_enter Try.func101,Try.ntmps101
 go_wp2
 go_ret
 exact ⟨rfl,rfl⟩
end Go.Proofs.Ytcjjoabofecjmaa
namespace Go.Proofs.Ytcjjoabofecjmaa
open Go.RowKit Go.Shelf
open Go.Value (int)
attribute [local go_sem] Oper.semAt_some
def caseS (p : Prg) (f : Fnc) (kind ch reg : Int) : Int :=
 if kind = 3 then (if ch ≠ 0 ∨ reg ≠ 0 then 1 else 0)
 else if kind = 1 ∨ kind = 2 then
  (if operandS p f (oO 6) ch ≠ 0 then operandS p f (oO 6) ch else if kind = 1 ∧ regB f reg = false then 2 else if kind = 2 ∧ reg ≠ 0 then 1 else 0)
 else 8
def caseAt (p : Prg) (f : Fnc) (l : List Int) (k : Nat) : Int := caseS p f (l.getD (k * 3) 0) (l.getD (k * 3 + 1) 0) (l.getD (k * 3 + 2) 0)
def dflt (l : List Int) (k : Nat) : Nat := if l.getD (k * 3) 0 = 3 then 1 else 0
def casesFrom (p : Prg) (f : Fnc) (l : List Int) : List Nat → Nat → Int
 | [],d => if 1 < d then 16 else 0
 | k :: ks,d => if caseAt p f l k ≠ 0 then caseAt p f l k else casesFrom p f l ks (d + dflt l k)
def casesS (p : Prg) (f : Fnc) (l : List Int) : Int :=
 if l.length = 0 ∨ l.length % 3 ≠ 0 ∨ 18 < l.length then 10 else casesFrom p f l (List.range (l.length / 3)) 0
structure CasesIn {m : Nat} (w w0 : World) (p : Prg) (f : Fnc) (l : List Int) (B : Nat) (pre : List (Fin m)) (W : World) : Prop where
 below : Below w.heap.size w W
 size : B + 5 ≤ W.heap.size
 oks : ∀ k ∈ pre,caseAt p f l k.1 = 0
 cnt : W.cell? ⟨B + 2,0,none⟩ = some (.int .i64 ((pre.map fun k => (dflt l k.1 : Int)).sum))
 cntf : W.frozen? ⟨B + 2,0,none⟩ = false
 res : ∃ r,W.cell? ⟨B + 1,0,none⟩ = some (.int .i64 r)
 resf : W.frozen? ⟨B + 1,0,none⟩ = false
 ck : ∀ j v,w0.cell? ⟨B,j,none⟩ = some v → W.cell? ⟨B,j,none⟩ = some v
theorem of_ext (k : Int) (w : World) : Calls Try.prog 92 #[.int .i64 k] w fun e w' => e = .returned (.agg #[.int .i64 12,.int .i64 k]) ∧ Ext w w' :=
 (of_any k w).mono fun _ _ ⟨he,hw⟩ => ⟨he,hw ▸ (Ext.refl w).alloc _⟩
theorem dflt_le (l : List Int) {m : Nat} : ∀ (pre : List (Fin m)),0 ≤ (pre.map fun k => (dflt l k.1 : Int)).sum ∧ (pre.map fun k => (dflt l k.1 : Int)).sum ≤ pre.length
 | [] => by simp
 | k :: ks => by
  have := dflt_le l ks
  have h2 : dflt l k.1 ≤ 1 := by unfold dflt;split <;> omega
  simp only [List.map_cons,List.sum_cons,List.length_cons]
  omega
theorem foldl_one (t : Array Value) (p : Tmp) (v : Value) : ((#[p] : Array Tmp).zip #[v]).foldl (fun t (p,v) => t.setIfInBounds p v) t = t.setIfInBounds p v := by simp
theorem wpIn_hid {F : Fence} {n : Nat} {P : Program} {c : Code} {Q : Exit → Act → World → Prop} {a : Act} {w : World} (h : ∀ W,Hid (W = w) → c.wpIn F n P Q a W) : c.wpIn F n P Q a w := h w rfl
theorem casesIn_own {m : Nat} (w w0 : World) (p : Prg) (f : Fnc) (l : List Int) (B : Nat) (hw0 : w.heap.size ≤ w0.heap.size) : OwnFrom (β := List (Fin m)) w0.heap.size (CasesIn w w0 p f l B) := by
 intro pre W W' row h hg hr
 have hr' : ∀ r,row = some r → ∃ o : Obj,W.heap[r]? = some o ∧ o.isCells = false := fun r e => (hr r e).2
 obtain ⟨r,hres⟩ := h.res
 exact ⟨h.below.grown hg (Nat.le_trans h.below.size (Nat.le_refl _) |> fun _ => h.below.size) (fun k e => Nat.le_trans hw0 (hr k e).1),Nat.le_trans h.size hg.size,h.oks,cell_kept h.cnt hg hr',(frozen_kept h.cnt hg hr').trans h.cntf,⟨r,cell_kept hres hg hr'⟩,
  (frozen_kept hres hg hr').trans h.resf,fun j v hj => cell_kept (h.ck j v hj) hg hr'⟩
def CasesOut {m : Nat} (w : World) (p : Prg) (f : Fnc) (l : List Int) (B : Nat) (c : Code) (pre : List (Fin m)) (W : World) : Prop :=
 c = .ret ∧ Below w.heap.size w W ∧ ∃ pre' x,pre = pre' ++ [x] ∧ (∀ k ∈ pre',caseAt p f l k.1 = 0) ∧ caseAt p f l x.1 ≠ 0 ∧ W.cell? ⟨B + 1,0,none⟩ = some (.int .i64 (caseAt p f l x.1))
theorem casesOut_own {m : Nat} (w w0 : World) (p : Prg) (f : Fnc) (l : List Int) (B : Nat) (hw0 : w.heap.size ≤ w0.heap.size) (c : Code) : OwnFrom (β := List (Fin m)) w0.heap.size (CasesOut w p f l B c) := by
 rintro pre W W' row ⟨hc,hb,pre',x,h1,h2,h3,h4⟩ hg hr
 exact ⟨hc,hb.grown hg hb.size (fun k e => Nat.le_trans hw0 (hr k e).1),pre',x,h1,h2,h3,cell_kept h4 hg (fun r e => (hr r e).2)⟩
theorem keepsOthers_of_ext {W W' : World} (h : Ext W W') : KeepsOthers W W' :=
 ⟨h.size,fun k o hk _ => (Below.block h k (Array.getElem?_eq_some_iff.1 hk).1).trans hk⟩
theorem out_step {m : Nat} {u w0 : World} {p : Prg} {f : Fnc} {l : List Int} {pre : List (Fin m)} {W W1 : World} (h : CasesIn u w0 p f l u.heap.size pre W) (hE : Ext W W1) (x : Fin m) {v : Int} (hv : caseAt p f l x.1 = v) (hne : v ≠ 0) :
  KeepsOthers W (W1.setCell ⟨u.heap.size + 1,0,none⟩ (.int .i64 v)) ∧ CasesOut u p f l u.heap.size .ret (pre ++ [x]) (W1.setCell ⟨u.heap.size + 1,0,none⟩ (.int .i64 v)) := by
 obtain ⟨r,hres⟩ := h.res
 refine ⟨(keepsOthers_of_ext hE).trans (KeepsOthers.setCell _ _ _),rfl,(h.below.trans (Below.mono hE h.below.size)).setCell (by simp) _,pre,x,rfl,h.oks,by rw [hv];exact hne, ?_⟩
 rw [hv]
 exact World.cell?_setCell_same W1 ⟨u.heap.size + 1,0,none⟩ _ (hE.cell hres)
theorem out_step2 {m : Nat} {u w0 : World} {p : Prg} {f : Fnc} {l : List Int} {pre : List (Fin m)} {W W1 : World} (h : CasesIn u w0 p f l u.heap.size pre W) (hE : Ext W W1) (x : Fin m) {v : Int} {c : Value} (hv : caseAt p f l x.1 = v) (hne : v ≠ 0) :
  KeepsOthers W ((W1.setCell ⟨u.heap.size + 1 + 1,0,none⟩ c).setCell ⟨u.heap.size + 1,0,none⟩ (.int .i64 v)) ∧ CasesOut u p f l u.heap.size .ret (pre ++ [x]) ((W1.setCell ⟨u.heap.size + 1 + 1,0,none⟩ c).setCell ⟨u.heap.size + 1,0,none⟩ (.int .i64 v)) := by
 obtain ⟨r,hres⟩ := h.res
 refine ⟨((keepsOthers_of_ext hE).trans (KeepsOthers.setCell _ _ _)).trans (KeepsOthers.setCell _ _ _),rfl,((h.below.trans (Below.mono hE h.below.size)).setCell (by simp;omega) _).setCell (by simp) _,pre,x,rfl,h.oks,by rw [hv];exact hne, ?_⟩
 rw [hv]
 exact World.cell?_setCell_same _ ⟨u.heap.size + 1,0,none⟩ _ ((World.cell?_setCell_other _ _ _ _ (by simp)).trans (hE.cell hres))
theorem ok_step {m : Nat} {u w0 : World} {p : Prg} {f : Fnc} {l : List Int} {pre : List (Fin m)} {W W1 : World} (h : CasesIn u w0 p f l u.heap.size pre W) (hE : Ext W W1) (x : Fin m) (hv : caseAt p f l x.1 = 0) (hd : dflt l x.1 = 0) :
  KeepsOthers W W1 ∧ ChunkKeeps (u.heap.size + 3) (u.heap.size + 4) W W1 ∧ CasesIn u w0 p f l u.heap.size (pre ++ [x]) W1 := by
 have hz := h.size
 obtain ⟨r,hres⟩ := h.res
 refine ⟨keepsOthers_of_ext hE,⟨Below.block hE _ (by omega),Below.block hE _ (by omega)⟩,h.below.trans (Below.mono hE h.below.size),Nat.le_trans hz hE.size, ?_, ?_, ?_,⟨r,hE.cell hres⟩, ?_,fun j v hj => hE.cell (h.ck j v hj)⟩
 ·intro k hk
  rcases List.mem_append.1 hk with hk | hk
  ·exact h.oks k hk
  ·rw [List.mem_singleton] at hk;rw [hk];exact hv
 ·rw [List.map_append,List.sum_append];simpa [hd] using hE.cell h.cnt
 ·exact (Below.frozen hE (p := ⟨u.heap.size + 2,0,none⟩) (by simp;omega)).trans h.cntf
 ·exact (Below.frozen hE (p := ⟨u.heap.size + 1,0,none⟩) (by simp;omega)).trans h.resf
theorem df_step {m : Nat} {u w0 : World} {p : Prg} {f : Fnc} {l : List Int} {pre : List (Fin m)} {W W1 : World} {cnt : Int} (h : CasesIn u w0 p f l u.heap.size pre W) (hE : Ext W W1) (x : Fin m) (hv : caseAt p f l x.1 = 0) (hd : dflt l x.1 = 1)
  (hc : (pre.map fun k => (dflt l k.1 : Int)).sum = cnt) :
  KeepsOthers W (W1.setCell ⟨u.heap.size + 2,0,none⟩ (.int .i64 (cnt + 1))) ∧ ChunkKeeps (u.heap.size + 3) (u.heap.size + 4) W (W1.setCell ⟨u.heap.size + 2,0,none⟩ (.int .i64 (cnt + 1))) ∧ CasesIn u w0 p f l u.heap.size (pre ++ [x]) (W1.setCell ⟨u.heap.size + 2,0,none⟩ (.int .i64 (cnt + 1))) := by
 have hz := h.size
 obtain ⟨r,hres⟩ := h.res
 have hb : ∀ k,k ≠ u.heap.size + 2 → k < W.heap.size → (W1.setCell ⟨u.heap.size + 2,0,none⟩ (.int .i64 (cnt + 1))).heap[k]? = W.heap[k]? := fun k hk hl => (Below.heap_setCell _ _ _ _ hk).trans (Below.block hE _ hl)
 refine ⟨(keepsOthers_of_ext hE).trans (KeepsOthers.setCell _ _ _),⟨hb _ (by omega) (by omega),hb _ (by omega) (by omega)⟩,(h.below.trans (Below.mono hE h.below.size)).setCell (by simp) _,by simpa using Nat.le_trans hz hE.size, ?_, ?_, ?_,⟨r,(World.cell?_setCell_other _ _ _ _ (by simp)).trans (hE.cell hres)⟩, ?_,fun j v hj => ?_⟩
 ·intro k hk
  rcases List.mem_append.1 hk with hk | hk
  ·exact h.oks k hk
  ·rw [List.mem_singleton] at hk;rw [hk];exact hv
 ·rw [List.map_append,List.sum_append,hc]
  simp only [List.map_cons,List.map_nil,List.sum_cons,List.sum_nil,hd]
  exact World.cell?_setCell_same W1 ⟨u.heap.size + 2,0,none⟩ _ (hE.cell h.cnt)
 ·rw [World.frozen?_setCell]
  exact (Below.frozen hE (p := ⟨u.heap.size + 2,0,none⟩) (by simp;omega)).trans h.cntf
 ·rw [World.frozen?_setCell]
  exact (Below.frozen hE (p := ⟨u.heap.size + 1,0,none⟩) (by simp;omega)).trans h.resf
 ·exact (World.cell?_setCell_other _ _ _ _ (by simp)).trans (hE.cell (h.ck j v hj))
theorem casesFrom_ok (p : Prg) (f : Fnc) (l : List Int) : ∀ (ks : List Nat) (d : Nat),(∀ k ∈ ks,caseAt p f l k = 0) → casesFrom p f l ks d = if 1 < d + (ks.map fun k => dflt l k).sum then 16 else 0
 | [],d,_ => by simp [casesFrom]
 | k :: ks,d,h => by
  rw [casesFrom,if_neg (by simp [h k (by simp)]),casesFrom_ok p f l ks _ (fun j hj => h j (by simp [hj]))]
  simp [Nat.add_assoc]
theorem casesFrom_bad (p : Prg) (f : Fnc) (l : List Int) (x : Nat) (tl : List Nat) (hx : caseAt p f l x ≠ 0) : ∀ (ks : List Nat) (d : Nat),(∀ k ∈ ks,caseAt p f l k = 0) → casesFrom p f l (ks ++ x :: tl) d = caseAt p f l x
 | [],d,_ => by simp [casesFrom,hx]
 | k :: ks,d,h => by
  rw [List.cons_append,casesFrom,if_neg (by simp [h k (by simp)])]
  exact casesFrom_bad p f l x tl hx ks _ (fun j hj => h j (by simp [hj]))
theorem range_fin (m : Nat) : List.range m = (List.finRange m).map (·.1) := by
 apply List.ext_getElem <;> simp
theorem casesFrom_fin_ok (p : Prg) (f : Fnc) (l : List Int) (m : Nat) (h : ∀ k ∈ List.finRange m,caseAt p f l k.1 = 0) {cnt : Int} (hc : ((List.finRange m).map fun k => (dflt l k.1 : Int)).sum = cnt) :
  casesFrom p f l (List.range m) 0 = if 1 < cnt then 16 else 0 := by
 rw [range_fin,casesFrom_ok p f l _ 0 (by intro k hk;obtain ⟨j,hj,rfl⟩ := List.mem_map.1 hk;exact h j hj)]
 have e : ∀ ks : List (Fin m),((((ks.map (·.1)).map fun k => dflt l k).sum : Nat) : Int) = (ks.map fun k => (dflt l k.1 : Int)).sum := by
  intro ks
  induction ks with
  | nil => rfl
  | cons k ks ih => simp only [List.map_cons,List.sum_cons] at ih ⊢;omega
 have := e (List.finRange m)
 rw [hc] at this
 by_cases h1 : (1 : Int) < cnt
 ·rw [if_pos h1,if_pos (by omega)]
 ·rw [if_neg h1,if_neg (by omega)]
theorem casesFrom_fin_bad (p : Prg) (f : Fnc) (l : List Int) (m : Nat) {pre : List (Fin m)} {x : Fin m} (hp : pre ++ [x] <+: List.finRange m) (h : ∀ k ∈ pre,caseAt p f l k.1 = 0) (hx : caseAt p f l x.1 ≠ 0) :
  casesFrom p f l (List.range m) 0 = caseAt p f l x.1 := by
 obtain ⟨tl,ht⟩ := hp
 rw [range_fin,← ht,List.append_assoc,List.singleton_append,List.map_append,List.map_cons]
 exact casesFrom_bad p f l x.1 _ hx _ 0 (by intro k hk;obtain ⟨j,hj,rfl⟩ := List.mem_map.1 hk;exact h j hj)
theorem cases_loop (p : Prg) (f : Fnc) (l : List Int) (V : Value) (A : Option Addr) (m c : Nat) (u : World) (hV : RCk u p f V) (hr : 0 ≤ f.regs ∧ f.regs ≤ 32) (hl : RSl 1 RInt u A (m * 3) l) (hcap : m * 3 ≤ c) (hm : 0 < m) (hm6 : m ≤ 6) :
  Calls Try.prog 96 #[V,.slice A ↑(m * 3) c] u fun e w' => e = .returned (.int .i64 (casesFrom p f l (List.range m) 0)) ∧ Ext u w' := by
 have hV' := hV
 obtain ⟨Af,nf,cf,Ao,no,co,Av,nv,cv,Ac,nc,cc,rfl,_,_,_,_⟩ := hV
 have HL := Lib.hid hl.len
 have hl0 : ∃ x,l[0]? = some x := ⟨_,List.getElem?_eq_getElem (by have := HL.out;omega)⟩
 obtain ⟨x0,hx0⟩ := hl0
 obtain ⟨b,off,rfl,hlb,_,_⟩ := hl.int hx0
 clear hx0
 have t1 : (((m : Int) * 3) == 0) = false := by simp;omega
 have t3 : decide ((18 : Int) < (m : Int) * 3) = false := by simp;omega
 refine (callsIn_wide (n := 6)).1 ?_
 refine callsIn_of_wp_marks Try.func96 rfl trivial ?_ rfl
 simp only [Try.ntmps96,List.size_toArray,List.length_cons,List.length_nil,Nat.reduceAdd,Nat.reduceSub,Array.replicate_succ,Array.replicate_zero,List.push_toArray,List.append_toArray,List.nil_append,List.cons_append]
 gi_wp2_with (refine ⟨trivial, ?_⟩;gi_at_call 101;refine (callsIn_wide.2 (chunk_any _ _ _ _)).mono ?_;rintro e w' ⟨rfl,rfl⟩)
 refine wpIn_hid ?_
 intro w0 HW0
 have HE : Hid (Ext u w0) := by rw [HW0.out];exact Lib.hid xt
 have hsz : w0.heap.size = u.heap.size + 5 := by rw [HW0.out];simp
 have hb3 : w0.cell? ⟨u.heap.size + 3,0,none⟩ = some (.slice (some ⟨b,off,none⟩) (m * 3) c) := by rw [HW0.out];simp [go_sem]
 have hb4 : w0.cell? ⟨u.heap.size + 4,0,none⟩ = some (.int .i64 3) := by rw [HW0.out];simp [go_sem]
 have HI : Hid (CasesIn (m := m) u w0 p f l u.heap.size [] w0) := by
  refine ⟨HE.out,by omega,(fun _ h => by cases h), ?_, ?_,⟨0, ?_⟩, ?_,fun _ _ h => h⟩
  ·rw [HW0.out];simp [go_sem]
  ·rw [HW0.out];simp [go_sem]
  ·rw [HW0.out];simp [go_sem]
  ·rw [HW0.out];simp [go_sem]
 have hck0 : w0.cell? ⟨u.heap.size,0,none⟩ = some (.slice Af nf cf) := by rw [HW0.out];simp [go_sem]
 have hck1 : w0.cell? ⟨u.heap.size,1,none⟩ = some (.slice Ao no co) := by rw [HW0.out];simp [go_sem]
 have hck2 : w0.cell? ⟨u.heap.size,2,none⟩ = some (.slice Av nv cv) := by rw [HW0.out];simp [go_sem]
 have hck3 : w0.cell? ⟨u.heap.size,3,none⟩ = some (.string f.name) := by rw [HW0.out];simp [go_sem]
 have hck4 : w0.cell? ⟨u.heap.size,4,none⟩ = some (int .i64 f.params) := by rw [HW0.out];simp [go_sem]
 have hck5 : w0.cell? ⟨u.heap.size,5,none⟩ = some (int .i64 f.regs) := by rw [HW0.out];simp [go_sem]
 have hck6 : w0.cell? ⟨u.heap.size,6,none⟩ = some (int .i64 f.prio) := by rw [HW0.out];simp [go_sem]
 have hck7 : w0.cell? ⟨u.heap.size,7,none⟩ = some (.bool f.cleanup) := by rw [HW0.out];simp [go_sem]
 have hck8 : w0.cell? ⟨u.heap.size,8,none⟩ = some (.slice Ac nc cc) := by rw [HW0.out];simp [go_sem]
 clear HW0 t1 t3
 refine wpIn_rangeFunc_ownF (α := Fin m) rfl (by omega) (gf := 102) (lb := #[.pointer (some ⟨u.heap.size + 3,0,none⟩),.pointer (some ⟨u.heap.size + 4,0,none⟩)]) rfl trivial (enters_of Try.func102 (by kernel_rfl) rfl)
  (encs := chunkV b off) (Kp := ChunkKeeps (u.heap.size + 3) (u.heap.size + 4)) (S := fun xs => xs = List.finRange m) (Sp := fun pre => pre <+: List.finRange m) (N := m) (w0 := w0) ?hseq ?hKt ?hKb (Below.refl _ _) (fun _ => rfl)
  (CasesIn u w0 p f l u.heap.size) (CasesOut u p f l u.heap.size) (casesIn_own u w0 p f l _ (by omega)) (casesOut_own u w0 p f l _ (by omega)) HI.out ?a1 ?assign ?body ?done ?stop
 case assign =>
  intro l x W K hK
  rw [show chunkV b off x = #[.slice (some ⟨b,off + x.1 * 3,none⟩) 3 3] from rfl,foldl_one]
  simp only [List.setIfInBounds_toArray,List.set_cons_succ,List.set_cons_zero]
  gi_wp2
  exact hK
 case hKt => exact fun h k => ⟨k.1.trans h.1,k.2.trans h.2⟩
 case hKb =>
  intro W k o o' hk _ _ _
  exact ⟨World.putObj_heap_other (by omega),World.putObj_heap_other (by omega)⟩
 case hseq =>
  intro lp J Jx W hB hJ hJx hY h0
  have h := chunk1_in m (u.heap.size + 3) (u.heap.size + 4) b off c lp J Jx (by omega) hcap hY W ((Below.cell hB (by simp;omega)).trans hb3) ((Below.cell hB (by simp;omega)).trans hb4) h0
   (fun pre W n h => hJ pre W _ none h ⟨rfl,rfl,rfl,Nat.le_refl _,fun _ _ _ => rfl⟩ (fun r e => by cases e))
  simpa using h
 case body =>
  intro lp pre x w h hlen
  have hx3 : x.1 * 3 + 2 < l.length := by have := x.2;have := HL.out;omega
  have HC : Hid (caseAt p f l x.1 = caseS p f (l.getD (x.1 * 3) 0) (l.getD (x.1 * 3 + 1) 0) (l.getD (x.1 * 3 + 2) 0)) := rfl
  have HD : Hid (dflt l x.1 = if l.getD (x.1 * 3) 0 = 3 then 1 else 0) := rfl
  have e0 : l[x.1 * 3]? = some (l.getD (x.1 * 3) 0) := by simp [List.getD,List.getElem?_eq_getElem (show x.1 * 3 < l.length by omega)]
  have e1 : l[x.1 * 3 + 1]? = some (l.getD (x.1 * 3 + 1) 0) := by simp [List.getD,List.getElem?_eq_getElem (show x.1 * 3 + 1 < l.length by omega)]
  have e2 : l[x.1 * 3 + 2]? = some (l.getD (x.1 * 3 + 2) 0) := by simp [List.getD,List.getElem?_eq_getElem hx3]
  obtain ⟨b0,o0,hA0,_,hn0,hc0⟩ := hl.int e0
  obtain ⟨b1,o1,hA1,_,hn1,hc1⟩ := hl.int e1
  obtain ⟨b2,o2,hA2,_,hn2,hc2⟩ := hl.int e2
  simp only [Option.some.injEq,Addr.mk.injEq,and_true] at hA0 hA1 hA2
  obtain ⟨rfl,rfl⟩ := hA0
  obtain ⟨rfl,rfl⟩ := hA1
  obtain ⟨rfl,rfl⟩ := hA2
  replace hc0 : w.cell? ⟨b,off + x.1 * 3,none⟩ = _ := (Below.cell h.below (p := ⟨b,off + x.1 * 3,none⟩) hlb).trans hc0
  replace hc1 : w.cell? ⟨b,off + x.1 * 3 + 1,none⟩ = _ := (Below.cell h.below (p := ⟨b,off + (x.1 * 3 + 1),none⟩) hlb).trans hc1
  replace hc2 : w.cell? ⟨b,off + x.1 * 3 + 2,none⟩ = _ := (Below.cell h.below (p := ⟨b,off + (x.1 * 3 + 2),none⟩) hlb).trans hc2
  generalize l.getD (x.1 * 3) 0 = y0 at HC HD hc0 hn0 e0
  generalize l.getD (x.1 * 3 + 1) 0 = y1 at HC hc1 hn1 e1
  generalize l.getD (x.1 * 3 + 2) 0 = y2 at HC hc2 hn2 e2
  clear e0 e1 e2 hx3
  replace hck0 := h.ck 0 _ hck0
  replace hck1 := h.ck 1 _ hck1
  replace hck2 := h.ck 2 _ hck2
  replace hck3 := h.ck 3 _ hck3
  replace hck4 := h.ck 4 _ hck4
  replace hck5 := h.ck 5 _ hck5
  replace hck6 := h.ck 6 _ hck6
  replace hck7 := h.ck 7 _ hck7
  replace hck8 := h.ck 8 _ hck8
  obtain ⟨r,hres⟩ := h.res
  have hcnt := h.cnt
  have hcntf := h.cntf
  have hresf := h.resf
  have HH := Lib.hid h
  have hWs := h.size
  have hVw := hV'.mono (show Ext u w from h.below)
  have hcb : 0 ≤ (pre.map fun k => (dflt l k.1 : Int)).sum ∧ (pre.map fun k => (dflt l k.1 : Int)).sum ≤ 6 := by have := dflt_le l pre;omega
  generalize hcq : (pre.map fun k => (dflt l k.1 : Int)).sum = cnt at hcnt hcb
  have HQ := Lib.hid hcq
  clear hcq
  clear h hb3 hb4 HI
  gi_wp2
  (refine wpIn_round_quiet (by kernel_rfl) (by kernel_rfl) (by kernel_rfl) ?_;(repeat (go_big_quiet_step (fail)));refine wpQuiet_nil fun w1 h1 => ?_;obtain ⟨hc,hf,hs,he⟩ := eu (w := w) h1 xt;clear h1;(try simp only [sA,sC,sD,sN] at hs))
  gi_wp2
  all_goals try ((refine wpIn_round_quiet (by kernel_rfl) (by kernel_rfl) (by kernel_rfl) ?_;(repeat (go_big_quiet_step (first | (go_at_call 92;exact quiet_ext (of_ext _ _)) | (go_at_call 84;exact quiet_ext (operand_any p f (oO 6) _ _ _ (hVw.mono xt) hn1 hr (by decide))))));refine wpQuiet_nil fun w1 h1 => ?_;obtain ⟨hc,hf,hs,he⟩ := eu (w := w) h1 xt;clear h1;(try simp only [sA,sC,sD,sN] at hs));gi_wp2_with (refine ⟨trivial, ?_⟩;gi_at_call 98;refine (CallsIn.inRound lp (callsIn_wide.2 (register_any p f _ _ _ (hVw.mono xt) hr))).mono ?_;rintro e w2 ⟨rfl,hb⟩;obtain ⟨hc2,hf2,hs2,he2⟩ := Ext.use (w := w) hb xt;clear hb))
  all_goals try (refine ⟨trivial, ?_⟩;gi_wp2)
  all_goals first
   | exact out_step HH.out (by assumption) x (by rw [HC.out];unfold caseS;simp_all) (by simp_all)
   | exact out_step2 HH.out (by assumption) x (by rw [HC.out];unfold caseS;simp_all) (by simp_all)
   | exact ok_step HH.out (by assumption) x (by rw [HC.out];unfold caseS;simp_all) (by rw [HD.out];simp_all)
   | exact df_step HH.out (by assumption) x (by rw [HC.out];unfold caseS;simp_all) (by rw [HD.out];simp_all) (by rw [HQ.out])
 case done =>
  intro D xs W hD hxs h hK
  subst hxs
  have hcnt := h.cnt
  have hcntf := h.cntf
  have hresf := h.resf
  obtain ⟨r,hres⟩ := h.res
  have hWs := h.size
  have HH := Lib.hid h
  have hcb : 0 ≤ ((List.finRange m).map fun k => (dflt l k.1 : Int)).sum ∧ ((List.finRange m).map fun k => (dflt l k.1 : Int)).sum ≤ 6 := by have := dflt_le l (List.finRange m);simp at this ⊢;omega
  generalize hcq : ((List.finRange m).map fun k => (dflt l k.1 : Int)).sum = cnt at hcnt hcb
  have HQ := Lib.hid hcq
  clear hcq h
  have HR := Lib.hid (casesFrom_fin_ok p f l m HH.out.oks HQ.out)
  gi_wp2
  all_goals (refine ⟨by simp,.inl ⟨_,_,rfl,run_takeDeferred ((KeepsOthers.setCell W ⟨u.heap.size + 1,0,none⟩ _).same D _ hK rfl), ?_⟩⟩)
  all_goals rw [HR.out]
  all_goals first | rw [if_pos (by assumption)] | rw [if_neg (by omega)]
  all_goals (refine ⟨_, ?_,rfl,((HH.out.below.setCell (by simp) _).grown (grownBy_putObj' _ D (.deferred none)) (by simp;omega) (fun k e => by cases e;omega))⟩)
  all_goals (have hc5 := fun v => cell_kept (World.cell?_setCell_same W ⟨u.heap.size + 1,0,none⟩ v hres) (grownBy_putObj' _ D (.deferred none)) (fun r e => by cases e;exact ⟨_,((KeepsOthers.setCell W ⟨u.heap.size + 1,0,none⟩ v).same D _ hK rfl),rfl⟩))
  all_goals (simp [results,Try.results96,go_sem,hc5])
 case stop =>
  intro D c pre W hD hpf ⟨hc,hb,pre',x,hp,hok,hx,hcell⟩ hK
  subst hc hp
  gi_wp2
  refine ⟨by simp,.inl ⟨_,_,rfl,run_takeDeferred hK, ?_⟩⟩
  refine ⟨_, ?_,by rw [casesFrom_fin_bad p f l m hpf hok hx],hb.grown (grownBy_putObj' _ D (.deferred none)) hb.size (fun k e => by cases e;omega)⟩
  have hc5 := cell_kept hcell (grownBy_putObj' _ D (.deferred none)) (fun r e => by cases e;exact ⟨_,hK,rfl⟩)
  simp [results,Try.results96,go_sem,hc5]
theorem cases_any (p : Prg) (f : Fnc) (l : List Int) (V : Value) (A : Option Addr) (n c : Nat) (u : World) (hV : RCk u p f V) (hr : 0 ≤ f.regs ∧ f.regs ≤ 32) (hl : RSl 1 RInt u A n l) (hcap : n ≤ c) :
  Calls Try.prog 96 #[V,.slice A n c] u fun e w' => e = .returned (.int .i64 (casesS p f l)) ∧ Ext u w' := by
 have hlen := hl.len
 by_cases hb : n = 0 ∨ n % 3 ≠ 0 ∨ 18 < n
 ·rw [casesS,if_pos (by omega)]
  clear hlen
  obtain ⟨Af,nf,cf,Ao,no,co,Av,nv,cv,Ac,nc,cc,rfl,_,_,_,_⟩ := hV
  go_enter Try.func96,Try.ntmps96
  go_wp2
  all_goals first
   | exact absurd hb (by simp_all;omega)
   | (refine bodyPost_ret (v := .int .i64 10) (by simp [results,Try.results96,go_sem]) rfl ⟨rfl,xt⟩)
   | skip
 ·obtain ⟨m,rfl⟩ : ∃ m,n = m * 3 := ⟨n / 3,by omega⟩
  rw [casesS,if_neg (by omega),show l.length / 3 = m by omega]
  exact cases_loop p f l V A m c u hV hr hl hcap (by omega) (by omega)
end Go.Proofs.Ytcjjoabofecjmaa
namespace Go.Proofs.Ytcjjoabofecjmaa
open Go.RowKit
open Go.Value (int)
def wantS (p : Prg) (what b : Int) : Int := if what = 1 then (match p.funcs[b.toNat]? with | some g => g.params | none => 0) else 2
def argsS (p : Prg) (f : Fnc) (what : Int) (x : Ins) : Int :=
 if what = 0 then (if 0 < x.args.length then 1 else 0)
 else if what = 3 then casesS p f x.args
 else if (x.args.length : Int) ≠ wantS p what x.b then 10
 else if x.args.any (fun n => !regB f n) then 2 else 0
theorem args_plain (p : Prg) (f : Fnc) (x : Ins) (V : Value) (what : Int) (A : Option Addr) (n c : Nat) (w : World) (hV : RCk w p f V) (hr : 0 ≤ f.regs ∧ f.regs ≤ 32) (hx : RSl 1 RInt w A n x.args) (hc : n ≤ c) (hw : what = 0 ∨ what = 3) :
  Calls Try.prog 85 #[V,int .i64 what,.agg #[int .i64 x.op,int .i64 x.a,int .i64 x.b,int .i64 x.c,.slice A n c]] w fun e w' => e = .returned (int .i64 (argsS p f what x)) ∧ Ext w w' := by
 have hV' := hV
 obtain ⟨Af,nf,cf,Ao,no,co,Av,nv,cv,Ac,nc,cc,rfl,h1,h2,h3,h4⟩ := hV
 have HL := Lib.hid hx.len
 clear h1 h2 h3 h4
 rcases hw with rfl | rfl
 ·go_enter Try.func85,Try.ntmps85
  go_wp2
  all_goals (go_ret;exact ⟨ret_int (by have := HL.out;simp_all [argsS]),xt⟩)
 ·go_enter Try.func85,Try.ntmps85
  go_wp2_with (go_at_call 96;refine (cases_any p f x.args _ _ _ _ _ (hV'.mono xt) hr (hx.mono RInt.stays xt) hc).mono ?_;rintro e w1 ⟨rfl,hb⟩;obtain ⟨hc,hf,hs,he⟩ := Ext.use (w := w) hb xt;clear hb;(try simp only [sA,sC,sD,sN] at hs))
  go_ret
  exact ⟨ret_int (by simp [argsS]),xt⟩
theorem args_count (p : Prg) (f : Fnc) (x : Ins) (V : Value) (what : Int) (A : Option Addr) (n c : Nat) (w : World) (hV : RCk w p f V) (hr : 0 ≤ f.regs ∧ f.regs ≤ 32) (hx : RSl 1 RInt w A n x.args) (hc : n ≤ c)
  (hw : what = 1 ∨ what = 2) (hb : what = 1 → 0 ≤ x.b ∧ x.b < (p.funcs.length : Int)) :
  Calls Try.prog 85 #[V,int .i64 what,.agg #[int .i64 x.op,int .i64 x.a,int .i64 x.b,int .i64 x.c,.slice A n c]] w fun e w' => e = .returned (int .i64 (argsS p f what x)) ∧ Ext w w' := by
 have hV' := hV
 obtain ⟨Af,nf,cf,Ao,no,co,Av,nv,cv,Ac,nc,cc,rfl,h1,h2,h3,h4⟩ := hV
 have HL := Lib.hid hx.len
 have hle := hx.le
 have HF := Lib.hid h1.len
 have hFl := h1.le
 clear h2 h3 h4
 obtain ⟨want,HW⟩ : ∃ want,Hid (wantS p what x.b = want) := ⟨_,rfl⟩
 rcases hw with rfl | rfl
 ·obtain ⟨hb1,hb2⟩ := hb rfl
  obtain ⟨g,hg⟩ : ∃ g,p.funcs[x.b.toNat]? = some g := ⟨_,List.getElem?_eq_getElem (by omega)⟩
  obtain ⟨b,off,Aa,na,ca,rfl,hlb,i1,i2,i3,i4,hA,c0,c1,c2,c3,c4,c5⟩ := h1.fnc hg
  have hbn : x.b < (nf : Int) := by have := HF.out;omega
  have HG : Hid (wantS p 1 x.b = g.params) := by unfold Hid wantS;rw [if_pos rfl,hg]
  clear h1 hg hb c0 c2 c3 c4 c5 i1 i3 i4 hA hb2
  go_enter Try.func85,Try.ntmps85
  go_wp2_with (go_at_call 13;refine (containsFuncInt 97 #[.pointer (some ⟨w.heap.size,0,none⟩)] (enters_of Try.func97 (by kernel_rfl) rfl) (fun n => !regB f n) A n c x.args _ (hx.mono RInt.stays xt) (args1_pred p f w.heap.size _ x.args hr (fun W hW => ⟨_,_,_,_,_,_,_,_,_,_,_,_,hV'.mono (Ext.trans xt hW),hW.cell (by simp [go_sem]),hW.cell (by simp [go_sem]),hW.cell (by simp [go_sem]),hW.cell (by simp [go_sem]),hW.cell (by simp [go_sem]),hW.cell (by simp [go_sem]),hW.cell (by simp [go_sem]),hW.cell (by simp [go_sem]),hW.cell (by simp [go_sem])⟩))).mono ?_;rintro e w1 ⟨rfl,hb⟩;obtain ⟨hc,hf,hs,he⟩ := Ext.use (w := w) hb xt;clear hb;(try simp only [sA,sC,sD,sN] at hs))
  all_goals (go_ret;exact ⟨ret_int (by have h1 := HL.out;have h2 := HG.out;simp_all [argsS]),xt⟩)
 ·have HG : Hid (wantS p 2 x.b = 2) := by unfold Hid wantS;rw [if_neg (by decide)]
  clear h1 hb
  go_enter Try.func85,Try.ntmps85
  go_wp2_with (go_at_call 13;refine (containsFuncInt 97 #[.pointer (some ⟨w.heap.size,0,none⟩)] (enters_of Try.func97 (by kernel_rfl) rfl) (fun n => !regB f n) A n c x.args _ (hx.mono RInt.stays xt) (args1_pred p f w.heap.size _ x.args hr (fun W hW => ⟨_,_,_,_,_,_,_,_,_,_,_,_,hV'.mono (Ext.trans xt hW),hW.cell (by simp [go_sem]),hW.cell (by simp [go_sem]),hW.cell (by simp [go_sem]),hW.cell (by simp [go_sem]),hW.cell (by simp [go_sem]),hW.cell (by simp [go_sem]),hW.cell (by simp [go_sem]),hW.cell (by simp [go_sem]),hW.cell (by simp [go_sem])⟩))).mono ?_;rintro e w1 ⟨rfl,hb⟩;obtain ⟨hc,hf,hs,he⟩ := Ext.use (w := w) hb xt;clear hb;(try simp only [sA,sC,sD,sN] at hs))
  all_goals (go_ret;exact ⟨ret_int (by have h1 := HL.out;have h2 := HG.out;simp_all [argsS]),xt⟩)
theorem args_any (p : Prg) (f : Fnc) (x : Ins) (V : Value) (what : Int) (A : Option Addr) (n c : Nat) (w : World) (hV : RCk w p f V) (hr : 0 ≤ f.regs ∧ f.regs ≤ 32) (hx : RSl 1 RInt w A n x.args) (hc : n ≤ c)
  (hw : what = 0 ∨ what = 3 ∨ what = 1 ∨ what = 2) (hb : what = 1 → 0 ≤ x.b ∧ x.b < (p.funcs.length : Int)) :
  Calls Try.prog 85 #[V,int .i64 what,.agg #[int .i64 x.op,int .i64 x.a,int .i64 x.b,int .i64 x.c,.slice A n c]] w fun e w' => e = .returned (int .i64 (argsS p f what x)) ∧ Ext w w' := by
 rcases hw with hw | hw | hw
 ·exact args_plain p f x V what A n c w hV hr hx hc (.inl hw)
 ·exact args_plain p f x V what A n c w hV hr hx hc (.inr hw)
 ·exact args_count p f x V what A n c w hV hr hx hc hw hb
def regsOf (n : Nat) (xs : List Int) : List Int := xs ++ List.replicate (n - xs.length) 0
theorem regsOf_length {n : Nat} {xs : List Int} (h : xs.length ≤ n) : (regsOf n xs).length = n := by simp [regsOf];omega
theorem madeCells_one (z : Value) (n : Nat) : madeCells #[z] n = (List.replicate n z).toArray := by
 apply Array.ext
 ·simp [size_madeCells]
 ·intro i h1 h2
  simp [madeCells,Nat.mod_one]
theorem registers_any (nm cl cd : Value) (pa pr : Int) (n : Nat) (xs : List Int) (A : Option Addr) (m c : Nat) (w : World) (hx : RSl 1 RInt w A m xs) (hle : xs.length ≤ n) (hn : n ≤ 1000) :
  Calls Try.prog 15 #[.agg #[nm,int .i64 pa,int .i64 n,int .i64 pr,cl,cd],.slice A m c] w fun e w' => ∃ g,e = .returned (.slice (some ⟨g,0,none⟩) n n) ∧ w.heap.size < g ∧ w'.ownsRow (w.heap.size + 1) 3 1 (.slice (some ⟨g,0,none⟩) n n) n ((regsOf n xs).map (int .i64)) ∧ Ext w w' := by
 have hm := hx.len
 have HX := Lib.hid hx
 have hmk := fun W => run_make_row' (P := Try.prog) 23 3 (.int .i64 0) 8 Try.underlying23 infoInt rfl .i64 .i64 n (by omega) (by omega) W
 obtain ⟨cs,hcs⟩ : ∃ cs,cs = xs.map (int .i64) := ⟨_,rfl⟩
 have HCS := Lib.hid hcs
 have hcl : cs.length = m := by rw [hcs,List.length_map,hm]
 have hmn : m ≤ n := by omega
 have h1 : Hid (∀ v ∈ cs,v.oneCell' = true) := fun v hv => by
  rw [hcs] at hv
  obtain ⟨x,_,rfl⟩ := List.mem_map.1 hv
  rfl
 have hpos : Hid (∀ W,Ext w W → 0 < cs.length → ∃ ad,A = some ad ∧ ∀ j v,cs[j]? = some v → W.cell? (ad.add j) = some v) := fun W hW h0 => by
  obtain ⟨x,hx0⟩ : ∃ x,xs[0]? = some x := ⟨_,List.getElem?_eq_getElem (by omega)⟩
  obtain ⟨b,off,rfl,_,_,_⟩ := HX.out.int hx0
  refine ⟨_,rfl,fun j v hj => ?_⟩
  rw [HCS.out,List.getElem?_map] at hj
  cases hxj : xs[j]? with
  | none => rw [hxj] at hj;cases hj
  | some y =>
   rw [hxj] at hj
   simp only [Option.map_some,Option.some.injEq] at hj
   subst hj
   obtain ⟨b',off',e',_,_,hc⟩ := HX.out.int hxj
   cases e'
   exact hW.cell (by rw [addr_add];exact hc)
 clear hx hcs hm
 go_enter Try.func15,Try.ntmps15
 go_wp2_with (with_reducible refine wpList_copy_splice rfl (.tmp 9) (.tmp 10) _ _ rfl 3 Try.underlying23 (by kernel_rfl) _ _ n n m c rfl rfl (w.heap.size + 1) 0 (List.replicate n (.int .i64 0)) 3 (by rw [madeCells_one];simpa using heap_alloc_new (w.alloc (.cells #[nm,int .i64 pa,int .i64 n,int .i64 pr,cl,cd] 33)) (.cells (List.replicate n (int .i64 0)).toArray 3)) cs (by rw [hcl];exact (Nat.min_eq_left hmn).symm) (fun h => ⟨rfl,hpos.out _ (by exact xt) h⟩) (by rw [hcl,List.length_replicate];omega) h1.out (w.heap.size + 1) _ (Below.refl _ _) (Nat.le_refl _) ?_;intro w2 HG2 hB2)
 have hsp : splice (List.replicate n (int .i64 0)) 0 cs = (regsOf n xs).map (int .i64) := by
  unfold splice regsOf
  rw [List.take_zero,List.nil_append,Nat.zero_add,List.drop_replicate,hcl,HCS.out,List.map_append,List.map_replicate,← HX.out.len]
 have hln : ((regsOf n xs).map (int .i64)).length = n := by rw [List.length_map,regsOf_length hle]
 have hE : Ext w w2 := by
  have h1 : Ext w ((w.alloc (.cells #[nm,int .i64 pa,int .i64 n,int .i64 pr,cl,cd] 33)).alloc (.cells (madeCells #[.int .i64 0] n) 3)) := xt
  exact Below.trans h1 (Below.mono hB2 (by omega))
 refine bodyPost_ret (results_tmp rfl _ _ _) rfl ⟨w.heap.size + 1,rfl,Nat.lt_succ_self _,⟨by rw [hln,Nat.mul_one],.inr ⟨_,n,_,rfl,Nat.le_refl _,HG2.out,Nat.le_refl _,by simp only [maxLen];omega,by rw [hsp];simp only [List.size_toArray,hln];omega, ?_⟩⟩,hE⟩
 rw [hsp,Nat.mul_one]
 exact List.take_of_length_le (by rw [hln];exact Nat.le_refl _)
end Go.Proofs.Ytcjjoabofecjmaa

