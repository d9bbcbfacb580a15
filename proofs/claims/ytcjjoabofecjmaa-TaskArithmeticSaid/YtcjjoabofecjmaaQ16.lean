/- A part of the proof: The functions that the operators are made of; product of pac. -/
import Derived.Test.YtcjjoabofecjmaaQ13
set_option linter.unusedVariables false
set_option linter.unusedSimpArgs false
set_option maxHeartbeats 16000000
namespace Go.Proofs.Ytcjjoabofecjmaa
open Go.RowKit
open Go.Value (int)
theorem num_le {a : Int} (h : numB a = true) : -1099511627776 ≤ a ∧ a ≤ 1099511627776 := inB_iff.1 h
theorem f_add (a b : Int) (ha : numB a = true) (hb : numB b = true) (w : World) :
  Calls Try.prog 58 (#[int .i64 a,int .i64 b] ++ #[]) w fun e w' => e = .returned (int .i64 (a + b)) ∧ Ext w w' := by
 have hw : IntKind.i64.wrap (a + b) = a + b := IntWalk.i64_in _ (by have := num_le ha;have := num_le hb;omega)
 clear ha hb
 show Calls _ _ #[int .i64 a,int .i64 b] _ _
 go_enter Try.func58,Try.ntmps58
 go_wp2
 go_ret
 exact ⟨rfl,xt⟩
theorem f_sub (a b : Int) (ha : numB a = true) (hb : numB b = true) (w : World) :
  Calls Try.prog 59 (#[int .i64 a,int .i64 b] ++ #[]) w fun e w' => e = .returned (int .i64 (a - b)) ∧ Ext w w' := by
 have hw : IntKind.i64.wrap (a - b) = a - b := IntWalk.i64_in _ (by have := num_le ha;have := num_le hb;omega)
 clear ha hb
 show Calls _ _ #[int .i64 a,int .i64 b] _ _
 go_enter Try.func59,Try.ntmps59
 go_wp2
 go_ret
 exact ⟨rfl,xt⟩
theorem tdiv_num {a b : Int} (ha : numB a = true) : -1099511627776 ≤ a.tdiv b ∧ a.tdiv b ≤ 1099511627776 := by
 have h := num_le ha
 have h1 : (a.tdiv b).natAbs ≤ a.natAbs := by rw [Int.natAbs_tdiv];exact Nat.div_le_self _ _
 omega
theorem tmod_num {a b : Int} (ha : numB a = true) : -1099511627776 ≤ a.tmod b ∧ a.tmod b ≤ 1099511627776 := by
 have h := num_le ha
 have h1 : (a.tmod b).natAbs ≤ a.natAbs := by rw [Int.natAbs_tmod];exact Nat.mod_le _ _
 omega
theorem f_div (a b : Int) (ha : numB a = true) (hb0 : ¬ b = 0) (w : World) :
  Calls Try.prog 62 (#[int .i64 a,int .i64 b] ++ #[]) w fun e w' => e = .returned (int .i64 (a.tdiv b)) ∧ Ext w w' := by
 have hw : IntKind.i64.wrap (a.tdiv b) = a.tdiv b := IntWalk.i64_in _ (by have := tdiv_num (b := b) ha;omega)
 clear ha
 show Calls _ _ #[int .i64 a,int .i64 b] _ _
 go_enter Try.func62,Try.ntmps62
 go_wp2
 go_ret
 exact ⟨rfl,xt⟩
theorem f_mod (a b : Int) (ha : numB a = true) (hb0 : ¬ b = 0) (w : World) :
  Calls Try.prog 63 (#[int .i64 a,int .i64 b] ++ #[]) w fun e w' => e = .returned (int .i64 (a.tmod b)) ∧ Ext w w' := by
 have hw : IntKind.i64.wrap (a.tmod b) = a.tmod b := IntWalk.i64_in _ (by have := tmod_num (b := b) ha;omega)
 clear ha
 show Calls _ _ #[int .i64 a,int .i64 b] _ _
 go_enter Try.func63,Try.ntmps63
 go_wp2
 go_ret
 exact ⟨rfl,xt⟩
def prodS (a b : Int) : Int := if numB (a * b) = true then a * b else 1099511627777
theorem write_prod (t : Tsk) (f : Frm) (i a b : Int) : writeS t f i (prodS a b) = writeS t f i (a * b) := by
 unfold prodS
 by_cases h : numB (a * b) = true
 ·rw [if_pos h]
 ·rw [if_neg h]
  unfold writeS
  rw [if_neg h,if_neg (by decide)]
theorem f_eq (a b : Int) (w : World) :
  Calls Try.prog 64 (#[int .i64 a,int .i64 b] ++ #[]) w fun e w' => e = .returned (int .i64 (bitS (a == b))) ∧ Ext w w' := by
 show Calls _ _ #[int .i64 a,int .i64 b] _ _
 obtain ⟨q,hq⟩ : ∃ q,(a == b) = q := ⟨_,rfl⟩
 have HB := Lib.hid (fun W => bit_any q W)
 rw [hq]
 cases q <;> (go_enter Try.func64,Try.ntmps64;go_wp2_with (go_at_call 65;refine (HB.out _).mono ?_;rintro e w' ⟨rfl,rfl⟩);go_ret;exact ⟨rfl,xt⟩)
theorem f_lss (a b : Int) (w : World) :
  Calls Try.prog 66 (#[int .i64 a,int .i64 b] ++ #[]) w fun e w' => e = .returned (int .i64 (bitS (decide (a < b)))) ∧ Ext w w' := by
 show Calls _ _ #[int .i64 a,int .i64 b] _ _
 by_cases h : a < b
 ·have HB := Lib.hid (fun W => bit_any true W)
  rw [decide_eq_true h]
  go_enter Try.func66,Try.ntmps66;go_wp2_with (go_at_call 65;refine (HB.out _).mono ?_;rintro e w' ⟨rfl,rfl⟩);go_ret;exact ⟨rfl,xt⟩
 ·have HB := Lib.hid (fun W => bit_any false W)
  rw [decide_eq_false h]
  go_enter Try.func66,Try.ntmps66;go_wp2_with (go_at_call 65;refine (HB.out _).mono ?_;rintro e w' ⟨rfl,rfl⟩);go_ret;exact ⟨rfl,xt⟩
theorem f_and (a b : Int) (w : World) :
  Calls Try.prog 67 (#[int .i64 a,int .i64 b] ++ #[]) w fun e w' => e = .returned (int .i64 (bitS (a != 0 && b != 0))) ∧ Ext w w' := by
 show Calls _ _ #[int .i64 a,int .i64 b] _ _
 have HB := Lib.hid (fun b W => bit_any b W)
 go_enter Try.func67,Try.ntmps67
 go_wp2_with (go_at_call 65;refine (HB.out _ _).mono ?_;rintro e w' ⟨rfl,rfl⟩)
 all_goals (go_ret;exact ⟨congrArg (fun z => Ending.returned (int .i64 (bitS z))) (by simp [*]),xt⟩)
theorem f_or (a b : Int) (w : World) :
  Calls Try.prog 68 (#[int .i64 a,int .i64 b] ++ #[]) w fun e w' => e = .returned (int .i64 (bitS (a != 0 || b != 0))) ∧ Ext w w' := by
 show Calls _ _ #[int .i64 a,int .i64 b] _ _
 have HB := Lib.hid (fun b W => bit_any b W)
 go_enter Try.func68,Try.ntmps68
 go_wp2_with (go_at_call 65;refine (HB.out _ _).mono ?_;rintro e w' ⟨rfl,rfl⟩)
 all_goals (go_ret;exact ⟨congrArg (fun z => Ending.returned (int .i64 (bitS z))) (by simp [*]),xt⟩)
theorem natAbs_max (a : Int) : (if a < -a then -a else a) = (a.natAbs : Int) := by split <;> omega
theorem num_abs {x : Int} : numB x = true ↔ x.natAbs ≤ 1099511627776 := by
 unfold numB;rw [inB_iff];omega
theorem f_mul (a b : Int) (ha : numB a = true) (hb : numB b = true) (w : World) :
  Calls Try.prog 60 (#[int .i64 a,int .i64 b] ++ #[]) w fun e w' => e = .returned (int .i64 (prodS a b)) ∧ Ext w w' := by
 show Calls _ _ #[int .i64 a,int .i64 b] _ _
 have hna := num_le ha
 have hnb := num_le hb
 by_cases h0 : a = 0
 ·subst h0
  have HR : Hid (prodS 0 b = 0) := by unfold Hid prodS;rw [Int.zero_mul,if_pos (by decide)]
  clear ha hb hna hnb
  go_enter Try.func60,Try.ntmps60
  go_wp2
  go_ret
  exact ⟨ret_int HR.out.symm,xt⟩
 have h1 : IntKind.i64.wrap (-a) = -a := IntWalk.i64_in _ (by omega)
 have h2 : IntKind.i64.wrap (-b) = -b := IntWalk.i64_in _ (by omega)
 have h3 := natAbs_max a
 have h4 := natAbs_max b
 obtain ⟨A,hA⟩ : ∃ A,a.natAbs = A := ⟨_,rfl⟩
 obtain ⟨M,hM⟩ : ∃ M,b.natAbs = M := ⟨_,rfl⟩
 rw [hA] at h3
 rw [hM] at h4
 have hA0 : 0 < A := by omega
 have hAz : ¬ (A : Int) = 0 := by omega
 obtain ⟨Q,hQ⟩ : ∃ Q,1099511627776 / A = Q := ⟨_,rfl⟩
 have hq1 : (1099511627776 : Int).tdiv (A : Int) = (Q : Int) := by
  rw [← hQ];rfl
 have hQle : Q ≤ 1099511627776 := by rw [← hQ];exact Nat.div_le_self _ _
 have hq2 : IntKind.i64.wrap (Q : Int) = (Q : Int) := IntWalk.i64_in _ (by omega)
 have hab : (a * b).natAbs = A * M := by rw [Int.natAbs_mul,hA,hM]
 by_cases hlt : Q < M
 ·have hz : (Q : Int) < (M : Int) := by omega
  have HR : Hid (prodS a b = 1099511627777) := by
   unfold Hid prodS
   rw [if_neg]
   rw [num_abs,hab]
   have : 1099511627776 < A * M := by
    have h5 := Nat.lt_mul_div_succ 1099511627776 hA0
    rw [hQ] at h5
    exact Nat.lt_of_lt_of_le h5 (Nat.mul_le_mul_left A hlt)
   omega
  clear ha hb hna hnb hA hM hab hlt hQ
  go_enter Try.func60,Try.ntmps60
  go_wp2
  go_ret
  exact ⟨ret_int HR.out.symm,xt⟩
 ·have hz : ¬ (Q : Int) < (M : Int) := by omega
  have hle : A * M ≤ 1099511627776 := by
   have h5 := Nat.mul_le_mul_left A (show M ≤ Q by omega)
   rw [← hQ] at h5
   exact Nat.le_trans h5 (Nat.mul_div_le _ _)
  have HR : Hid (prodS a b = a * b) := by unfold Hid prodS;rw [if_pos (num_abs.2 (by omega))]
  have hw : IntKind.i64.wrap (a * b) = a * b := IntWalk.i64_in _ (by omega)
  clear ha hb hna hnb hA hM hab hlt hQ hle
  go_enter Try.func60,Try.ntmps60
  go_wp2
  go_ret
  exact ⟨ret_int HR.out.symm,xt⟩
theorem binary_mk (F : Value) (h1 : F.oneCell' = true) (w : World) :
  Calls Try.prog 57 #[F] w fun e w' => ∃ C,e = .returned (.func (.func 89) #[] #[.pointer (some ⟨C,0,none⟩)]) ∧ w'.cell? ⟨C,0,none⟩ = some F ∧ w.heap.size ≤ C ∧ Cold w' C ∧ Ext w w' := by
 have hmf : ∀ (fn : Fn) (first cap : Array Value) (w : World),(Instr.makeFunc fn first cap).run Try.prog w = .ok (.func fn first cap) w := fun _ _ _ _ => rfl
 go_enter Try.func57,Try.ntmps57
 go_wp2
 go_ret
 exact ⟨w.heap.size,rfl,by simp [go_sem],Nat.le_refl _,by repeat' (first | exact Cold.alloc rfl | refine Cold.setCell ?_ _ _ | rfl),xt⟩
theorem divided_ok (a b v : Int) (C : Nat) (g : FuncId) (w : World) (eg : Enters Try.prog g) (hC : w.cell? ⟨C,0,none⟩ = some (.func (.func g) #[] #[])) (hb : ¬ b = 0)
  (hv : ∀ W,Ext w W → Calls Try.prog g (#[int .i64 a,int .i64 b] ++ #[]) W fun e w' => e = .returned (int .i64 v) ∧ Ext W w') :
  Calls Try.prog 90 (#[int .i64 a,int .i64 b] ++ #[.pointer (some ⟨C,0,none⟩)]) w fun e w' => e = .returned (int .i64 v) ∧ Ext w w' := by
 show Calls _ _ #[int .i64 a,int .i64 b,.pointer (some ⟨C,0,none⟩)] _ _
 have HV := Lib.hid hv
 have hb1 : (b == 0) = false := beq_eq_false_iff_ne.2 hb
 unfold Enters at eg
 clear hv hb
 go_enter Try.func90,Try.ntmps90
 go_wp2_with (go_at_fn g;refine (HV.out _ xt).mono ?_;rintro e w4 ⟨rfl,hb4⟩)
 go_ret
 exact ⟨rfl,hb4⟩
theorem divided_bad (a : Int) (C : Nat) (w : World) :
  Calls Try.prog 90 (#[int .i64 a,int .i64 0] ++ #[.pointer (some ⟨C,0,none⟩)]) w fun e w' => e = .panicked (failV 6) ∧ Ext w w' := by
 show Calls _ _ #[int .i64 a,int .i64 0,.pointer (some ⟨C,0,none⟩)] _ _
 go_enter Try.func90,Try.ntmps90
 go_wp2
 exact ⟨rfl,rfl,xt⟩
theorem divided_mk (g : FuncId) (w : World) :
  Calls Try.prog 61 #[.func (.func g) #[] #[]] w fun e w' => ∃ C D,e = .returned (.func (.func 89) #[] #[.pointer (some ⟨C,0,none⟩)]) ∧ w'.cell? ⟨C,0,none⟩ = some (.func (.func 90) #[] #[.pointer (some ⟨D,0,none⟩)]) ∧ w'.cell? ⟨D,0,none⟩ = some (.func (.func g) #[] #[]) ∧ w.heap.size ≤ C ∧ w.heap.size ≤ D ∧ Cold w' C ∧ Cold w' D ∧ Ext w w' := by
 have hmf : ∀ (fn : Fn) (first cap : Array Value) (w : World),(Instr.makeFunc fn first cap).run Try.prog w = .ok (.func fn first cap) w := fun _ _ _ _ => rfl
 go_enter Try.func61,Try.ntmps61
 go_wp2_with (go_at_call 57;refine (binary_mk _ rfl _).mono ?_;rintro e w1 ⟨C,rfl,hc,hC,hcd,hb⟩;have hcd2 : Cold w1 w.heap.size := Cold.ext (by repeat' (first | exact Cold.alloc rfl | refine Cold.setCell ?_ _ _)) hb;have hk := hb.cell (p := ⟨w.heap.size,0,none⟩) (v := .func (.func g) #[] #[]) (by simp [go_sem]);simp only [World.size_alloc] at hC;have he : Ext w w1 := Ext.trans xt hb)
 go_ret
 exact ⟨C,w.heap.size,rfl,hc,hk,by omega,Nat.le_refl _,hcd,hcd2,he⟩
end Go.Proofs.Ytcjjoabofecjmaa
namespace Go.Proofs.Ytcjjoabofecjmaa
open Go.RowKit Go.Sort
open Go.Value (int)
theorem RunSt.jump {X : List Value} {B R : Nat} {P3 : List Value} {w : World} {t : Tsk} {n : Int} {VF VB : Value} {rs hs : List Value} {gs : List (List Value)} (h : RunSt X B R P3 w t n VF VB rs hs gs) {f : Frm} (ht : topF t = some f) {g c m : Nat} (hV : VF = .slice (some ⟨g,0,none⟩) m c) {x : Int} (hx : InR x) :
  RunSt X B R P3 (w.setCell ⟨g,(t.frames.length - 1) * 5 + 1,none⟩ (int .i64 x)) (setTop t { f with pc := x }) n VF VB rs hs gs ∧ B ≤ g := by
 obtain ⟨g',c',e,hB,_,_,h4⟩ := h.set_pc ht
 rw [hV] at e
 injection e with q1 q2 q3
 injection q1 with q1
 injection q1 with q1
 subst q1
 exact ⟨h4 x hx,hB⟩
set_option maxRecDepth 4000 in
theorem op_jump {X : List Value} {B R : Nat} {P3 : List Value} {w : World} {t : Tsk} {n : Int} {VF VB : Value} {rs hs : List Value} {gs : List (List Value)} (h : RunSt X B R P3 w t n VF VB rs hs gs) {f : Frm} (ht : TopOk t f) (x : Ins) (VX : Value) (ha : InR x.a) :
  Calls Try.prog 70 #[.pointer (some ⟨R,0,none⟩),.agg #[int .i64 x.op,int .i64 x.a,int .i64 x.b,int .i64 x.c,VX]] w (OpPost X B R P3 w (jumpS t f x.a) n) := by
 have hlR := h.lt.2
 have hBW : B ≤ w.heap.size := by have := h.lt;omega
 have R1 := h.task
 obtain ⟨gF,cF,v,rfl,hv,hpos,hgF,_,c0,c1,c2,c3,c4⟩ := h.top ht.top
 obtain ⟨g2,c2',e2,hB2,z2,_,_⟩ := h.set_pc ht.top
 cases e2
 have H := Lib.hid h
 have HT := Lib.hid ht.top
 have HA := Lib.hid ha
 have hl := ht.len
 unfold tskL at R1
 clear h ht hv
 obtain ⟨N,hN⟩ : ∃ N,t.frames.length = N := ⟨_,rfl⟩
 have HN := Lib.hid hN
 rw [hN] at R1 c0 c1 c2 c3 c4 hpos hl z2
 clear hN
 go_enter Try.func70,Try.ntmps70
 go_wp2
 (refine wp_region_quiet_tail 9 (by kernel_rfl) (by kernel_rfl) ?_;(try simp only [List.take_succ_cons,List.take_zero,List.drop_succ_cons,List.drop_zero]);(repeat (first | ((with_reducible show wpQuiet _ _ _ _ ({ dst := _,op := Op.load 44 _,type := _,pos := _,after := _,guard := none } :: _) _);refine wpQuiet_load_mid rfl 44 _ rfl _ _ rfl _ _ (range_regrown (by exact rg)) Try.underlying44 rfl (by exact infoTsk) ?_;(try simp only [Act.put,aset,dZ,dS])) | go_big_quiet_step ((go_at_call 29;exact quiet_ext ((innermost_any _ _ _ _ _ _ _ _ _ _ _ _ _ gF 0 N cF _ hpos (by omega)))))));refine wpQuiet_nil fun w1 h1 => ?_;obtain ⟨hc,hf,hs,he⟩ := eu (w := w) h1 xt;clear h1;(try simp only [sA,sC,sD,sN] at hs))
 go_wp2
 go_end0
 have h1 := H.out.mono (show Ext w w1 from he)
 obtain ⟨h2,hB⟩ := h1.jump HT.out rfl HA.out
 rw [← HN.out]
 exact ⟨rfl,⟨_,_,_,_,_,h2⟩,Kept.store (Kept.mono he hBW) hB _ (h2.hotF rfl)⟩
set_option maxRecDepth 4000 in
theorem op_assert {X : List Value} {B R : Nat} {P3 : List Value} {w : World} {t : Tsk} {n : Int} {VF VB : Value} {rs hs : List Value} {gs : List (List Value)} (h : RunSt X B R P3 w t n VF VB rs hs gs) {f : Frm} (ht : TopOk t f) (x : Ins) (VX : Value) (ha : InF f x.a) :
  Calls Try.prog 77 #[.pointer (some ⟨R,0,none⟩),.agg #[int .i64 x.op,int .i64 x.a,int .i64 x.b,int .i64 x.c,VX]] w (OpPost X B R P3 w (if regS f x.a = 0 then failT t 4 else jumpS t f (f.pc + 1)) n) := by
 have HG := Lib.hid (fun W (hE : Ext w W) => reg_is (h.mono hE) ht ha)
 have hlR := h.lt.2
 have hBW : B ≤ w.heap.size := by have := h.lt;omega
 have R1 := h.task
 obtain ⟨gF,cF,v,rfl,hv,hpos,hgF,_,c0,c1,c2,c3,c4⟩ := h.top ht.top
 obtain ⟨g2,c2',e2,hB2,z2,_,_⟩ := h.set_pc ht.top
 cases e2
 have H := Lib.hid h
 have HT := Lib.hid ht.top
 have hl := ht.len
 have hpc1 := ht.pc.1
 have hpc2 := ht.pc.2
 have hwr : IntKind.i64.wrap (f.pc + 1) = f.pc + 1 := IntWalk.i64_in _ (by omega)
 have HP : Hid (InR (f.pc + 1)) := ⟨by omega,by omega⟩
 clear h ht hv
 obtain ⟨y,hy⟩ : ∃ y,regS f x.a = y := ⟨_,rfl⟩
 rw [hy] at HG ⊢
 clear hy
 unfold tskL at R1
 obtain ⟨N,hN⟩ : ∃ N,t.frames.length = N := ⟨_,rfl⟩
 have HN := Lib.hid hN
 rw [hN] at R1 c0 c1 c2 c3 c4 hpos hl z2
 clear hN
 by_cases hy : y = 0
 ·have hy1 : (y == 0) = true := by simpa using hy
  rw [if_pos hy]
  clear hy
  go_enter Try.func77,Try.ntmps77
  go_wp2_with (first | ((first | (with_reducible refine jl 44 ?_) | (with_reducible refine il 44 ?_));refine ldm Try.underlying44 rfl rfl rfl (by exact rg) rfl (by exact infoTsk) ?_;dsimp only [dZ,dS]) | (go_at_call 56;refine (HG.out _ xt).mono ?_;rintro e w1 ⟨rfl,hb⟩;have R2 := range_ext (b := R) (o := 3) (by exact rg) hb;obtain ⟨hc,hf,hs,he⟩ := Ext.use (w := w) hb xt;clear hb;(try simp only [World.size_alloc] at hs)))
  exact ⟨rfl,rfl,⟨_,_,_,_,_,H.out.mono he⟩,Kept.mono he hBW⟩
 ·have hy1 : (y == 0) = false := by simpa using hy
  rw [if_neg hy]
  clear hy
  go_enter Try.func77,Try.ntmps77
  go_wp2_with (first | ((first | (with_reducible refine jl 44 ?_) | (with_reducible refine il 44 ?_));refine ldm Try.underlying44 rfl rfl rfl (by exact rg) rfl (by exact infoTsk) ?_;dsimp only [dZ,dS]) | (go_at_call 56;refine (HG.out _ xt).mono ?_;rintro e w1 ⟨rfl,hb⟩;have R2 := range_ext (b := R) (o := 3) (by exact rg) hb;obtain ⟨hc,hf,hs,he⟩ := Ext.use (w := w) hb xt;clear hb;(try simp only [World.size_alloc] at hs)) | (go_at_call 29;refine (innermost_any _ _ _ _ _ _ _ _ _ _ _ _ _ gF 0 N cF _ hpos (by omega)).mono ?_;rintro e w2 ⟨rfl,hb2⟩;obtain ⟨hc2,hf2,hs2,he2⟩ := Ext.use (w := w) hb2 xt;clear hb2))
  go_end0
  have h1 := H.out.mono (show Ext w w2 from he2)
  obtain ⟨h2,hB⟩ := h1.jump HT.out rfl HP.out
  rw [← HN.out]
  exact ⟨rfl,⟨_,_,_,_,_,h2⟩,Kept.store (Kept.mono he2 hBW) hB _ (h2.hotF rfl)⟩
set_option maxRecDepth 4000 in
theorem op_fail {X : List Value} {B R : Nat} {P3 : List Value} {w : World} {t : Tsk} {n : Int} {VF VB : Value} {rs hs : List Value} {gs : List (List Value)} (h : RunSt X B R P3 w t n VF VB rs hs gs) {f : Frm} (ht : TopOk t f) (x : Ins) (VX : Value) (ha : InF f x.a) :
  Calls Try.prog 78 #[.pointer (some ⟨R,0,none⟩),.agg #[int .i64 x.op,int .i64 x.a,int .i64 x.b,int .i64 x.c,VX]] w (OpPost X B R P3 w (if regS f x.a < 0 ∨ 899 < regS f x.a then failT t 8 else failT t (100 + regS f x.a)) n) := by
 have HG := Lib.hid (fun W (hE : Ext w W) => reg_is (h.mono hE) ht ha)
 have H := Lib.hid h
 have hBW : B ≤ w.heap.size := by have := h.lt;omega
 clear h ht
 obtain ⟨y,hy⟩ : ∃ y,regS f x.a = y := ⟨_,rfl⟩
 rw [hy] at HG ⊢
 clear hy
 by_cases hb : y < 0 ∨ 899 < y
 ·rw [if_pos hb]
  by_cases h0 : y < 0
  ·clear hb
   go_enter Try.func78,Try.ntmps78
   go_wp2_with (go_at_call 56;refine (HG.out _ xt).mono ?_;rintro e w1 ⟨rfl,hb⟩;obtain ⟨hc,hf,hs,he⟩ := Ext.use (w := w) hb xt;clear hb;(try simp only [sA,sC,sD,sN] at hs))
   exact ⟨rfl,rfl,⟨_,_,_,_,_,H.out.mono he⟩,Kept.mono he hBW⟩
  ·have h1 : 899 < y := by omega
   clear hb
   go_enter Try.func78,Try.ntmps78
   go_wp2_with (go_at_call 56;refine (HG.out _ xt).mono ?_;rintro e w1 ⟨rfl,hb⟩;obtain ⟨hc,hf,hs,he⟩ := Ext.use (w := w) hb xt;clear hb;(try simp only [sA,sC,sD,sN] at hs))
   exact ⟨rfl,rfl,⟨_,_,_,_,_,H.out.mono he⟩,Kept.mono he hBW⟩
 ·rw [if_neg hb]
  have h0 : ¬ y < 0 := fun h => hb (.inl h)
  have h1 : ¬ 899 < y := fun h => hb (.inr h)
  have hw : IntKind.i64.wrap (100 + y) = 100 + y := IntWalk.i64_in _ (by omega)
  clear hb
  go_enter Try.func78,Try.ntmps78
  go_wp2_with (go_at_call 56;refine (HG.out _ xt).mono ?_;rintro e w1 ⟨rfl,hb⟩;obtain ⟨hc,hf,hs,he⟩ := Ext.use (w := w) hb xt;clear hb;(try simp only [sA,sC,sD,sN] at hs))
  exact ⟨rfl,rfl,⟨_,_,_,_,_,H.out.mono he⟩,Kept.mono he hBW⟩
set_option maxRecDepth 4000 in
theorem op_unless {X : List Value} {B R : Nat} {P3 : List Value} {w : World} {t : Tsk} {n : Int} {VF VB : Value} {rs hs : List Value} {gs : List (List Value)} (h : RunSt X B R P3 w t n VF VB rs hs gs) {f : Frm} (ht : TopOk t f) (x : Ins) (VX : Value) (ha : InF f x.a) (hb : InR x.b) :
  Calls Try.prog 71 #[.pointer (some ⟨R,0,none⟩),.agg #[int .i64 x.op,int .i64 x.a,int .i64 x.b,int .i64 x.c,VX]] w (OpPost X B R P3 w (jumpS t f (if regS f x.a = 0 then x.b else f.pc + 1)) n) := by
 have hlR := h.lt.2
 have hBW : B ≤ w.heap.size := by have := h.lt;omega
 have hBR := h.lt.1
 have R1 := h.task
 obtain ⟨gF,cF,v,rfl,hv,hpos,hgF,⟨Av,cv,rfl,hcv⟩,c0,c1,c2,c3,c4⟩ := h.top ht.top
 obtain ⟨g2,c2',e2,hB2,z2,_,_⟩ := h.set_pc ht.top
 cases e2
 have H := Lib.hid h
 have HT := Lib.hid ht.top
 have hl := ht.len
 have hpc1 := ht.pc.1
 have hpc2 := ht.pc.2
 have hwr : IntKind.i64.wrap (f.pc + 1) = f.pc + 1 := IntWalk.i64_in _ (by omega)
 have HP : Hid (InR (f.pc + 1)) := ⟨by omega,by omega⟩
 have HB := Lib.hid hb
 obtain ⟨gr,cr,e3,hgr,x0⟩ := h.reg_cell ht.top hv (regS_get ha)
 cases e3
 have ha0 := ha.1
 have hal := ha.2
 have hrl := ht.regs
 obtain ⟨k,hk⟩ : ∃ k : Nat,x.a = (k : Int) := ⟨x.a.toNat,by omega⟩
 rw [hk,Int.toNat_natCast] at x0
 rw [hk] at hal ⊢
 rw [← hk] at x0 ⊢
 obtain ⟨y,hy⟩ : ∃ y,regS f x.a = y := ⟨_,rfl⟩
 rw [hy] at x0 ⊢
 clear h ht hv hy hb ha ha0
 obtain ⟨M,hM⟩ : ∃ M,f.regs.length = M := ⟨_,rfl⟩
 rw [hM] at hal hcv c2 hrl
 clear hM
 unfold tskL at R1
 obtain ⟨N,hN⟩ : ∃ N,t.frames.length = N := ⟨_,rfl⟩
 have HN := Lib.hid hN
 rw [hN] at R1 c0 c1 c2 c3 c4 hpos hl z2
 clear hN
 rw [hk]
 by_cases hy : y = 0
 ·have hy1 : (y == 0) = true := by simpa using hy
  rw [if_pos hy]
  clear hy
  go_enter Try.func71,Try.ntmps71
  go_wp2_with (first | ((first | (with_reducible refine jl 44 ?_) | (with_reducible refine il 44 ?_));refine ldm Try.underlying44 rfl rfl rfl (by exact rg) rfl (by exact infoTsk) ?_;dsimp only [dZ,dS]) | (go_at_call 29;refine (innermost_any _ _ _ _ _ _ _ _ _ _ _ _ _ gF 0 N cF _ hpos (by omega)).mono ?_;rintro e w2 ⟨rfl,hb2⟩;obtain ⟨hc2,hf2,hs2,he2⟩ := Ext.use (w := w) hb2 xt;clear hb2;(try simp only [World.size_alloc] at hs2);have y1 : gF < w2.heap.size := (by omega);have y2 : gr < w2.heap.size := (by omega);have y3 : w.heap.size < w2.heap.size := (by omega)))
  (refine wp_region_quiet_below (by kernel_rfl) (by kernel_rfl) ?_;(repeat (go_big_quiet_step (fail)));refine wpQuiet_nil fun w1 h1 => ?_;obtain ⟨hc,hf,hs,he⟩ := eu (w := w) h1 xt;clear h1;(try simp only [sA,sC,sD,sN] at hs))
  go_wp2
  go_end0
  have h1 := H.out.mono (show Ext w w1 from he)
  obtain ⟨h2,hB⟩ := h1.jump HT.out rfl HB.out
  rw [← HN.out]
  exact ⟨rfl,⟨_,_,_,_,_,h2⟩,Kept.store (Kept.mono he hBW) hB _ (h2.hotF rfl)⟩
 ·have hy1 : (y == 0) = false := by simpa using hy
  rw [if_neg hy]
  clear hy
  go_enter Try.func71,Try.ntmps71
  go_wp2_with (first | ((first | (with_reducible refine jl 44 ?_) | (with_reducible refine il 44 ?_));refine ldm Try.underlying44 rfl rfl rfl (by exact rg) rfl (by exact infoTsk) ?_;dsimp only [dZ,dS]) | (go_at_call 29;refine (innermost_any _ _ _ _ _ _ _ _ _ _ _ _ _ gF 0 N cF _ hpos (by omega)).mono ?_;rintro e w2 ⟨rfl,hb2⟩;obtain ⟨hc2,hf2,hs2,he2⟩ := Ext.use (w := w) hb2 xt;clear hb2;(try simp only [World.size_alloc] at hs2);have y1 : gF < w2.heap.size := (by omega);have y2 : gr < w2.heap.size := (by omega);have y3 : w.heap.size < w2.heap.size := (by omega)))
  (refine wp_region_quiet_below (by kernel_rfl) (by kernel_rfl) ?_;(repeat (go_big_quiet_step (fail)));refine wpQuiet_nil fun w1 h1 => ?_;obtain ⟨hc,hf,hs,he⟩ := eu (w := w) h1 xt;clear h1;(try simp only [sA,sC,sD,sN] at hs))
  go_wp2
  go_end0
  have h1 := H.out.mono (show Ext w w1 from he)
  obtain ⟨h2,hB⟩ := h1.jump HT.out rfl HP.out
  rw [← HN.out]
  exact ⟨rfl,⟨_,_,_,_,_,h2⟩,Kept.store (Kept.mono he hBW) hB _ (h2.hotF rfl)⟩
set_option maxRecDepth 4000 in
theorem op_mask {X : List Value} {B R : Nat} {P3 : List Value} {w : World} {t : Tsk} {n : Int} {VF VB : Value} {rs hs : List Value} {gs : List (List Value)} (h : RunSt X B R P3 w t n VF VB rs hs gs) {f : Frm} (ht : TopOk t f) (x : Ins) (VX : Value) (hm : -1000 ≤ t.mask ∧ t.mask ≤ 1000) :
  Calls Try.prog 75 #[.pointer (some ⟨R,0,none⟩),.agg #[int .i64 x.op,int .i64 x.a,int .i64 x.b,int .i64 x.c,VX]] w (OpPost X B R P3 w (maskS t f) n) := by
 have hlR := h.lt.2
 have hBW : B ≤ w.heap.size := by have := h.lt;omega
 have hBR := h.lt.1
 have R1 := h.task
 obtain ⟨gF,cF,v,rfl,hv,hpos,hgF,⟨Av,cv,rfl,hcv⟩,c0,c1,c2,c3,c4⟩ := h.top ht.top
 obtain ⟨g2,c2',e2,hB2,z2,_,_⟩ := h.set_pc ht.top
 cases e2
 have H := Lib.hid h
 have HT := Lib.hid ht.top
 have hl := ht.len
 have hpc1 := ht.pc.1
 have hpc2 := ht.pc.2
 have hwr : IntKind.i64.wrap (f.pc + 1) = f.pc + 1 := IntWalk.i64_in _ (by omega)
 have HP : Hid (InR (f.pc + 1)) := ⟨by omega,by omega⟩
 have m1 : w.cell? ⟨R,12,none⟩ = some (int .i64 t.mask) := h.cellT (j := 9) rfl
 have m2 := h.frozen 12
 have hm1 := hm.1
 have hm2 := hm.2
 have hwm : IntKind.i64.wrap (t.mask + 1) = t.mask + 1 := IntWalk.i64_in _ (by omega)
 have hne : ¬ gF = R := fun e => by
  have := apart_types h.fr.row h.box (by decide)
  subst e
  rcases this with h | h
  ·cases h
  ·exact h rfl
 have hne2 : ¬ R = gF := fun e => hne e.symm
 unfold maskS
 clear h ht hv hm
 unfold tskL at R1
 obtain ⟨N,hN⟩ : ∃ N,t.frames.length = N := ⟨_,rfl⟩
 have HN := Lib.hid hN
 rw [hN] at R1 c0 c1 c2 c3 c4 hpos hl z2
 clear hN
 by_cases hy : 100 ≤ t.mask
 ·rw [if_pos hy]
  go_enter Try.func75,Try.ntmps75
  go_wp2
  exact ⟨rfl,rfl,⟨_,_,_,_,_,H.out.mono xt⟩,Kept.mono (show Ext w _ from xt) hBW⟩
 ·rw [if_neg hy]
  go_enter Try.func75,Try.ntmps75
  go_wp2_with (first | ((first | (with_reducible refine jl 44 ?_) | (with_reducible refine il 44 ?_));refine ldm Try.underlying44 rfl rfl rfl (by exact rg) rfl (by exact infoTsk) ?_;dsimp only [dZ,dS]) | (go_at_call 29;refine (innermost_any _ _ _ _ _ _ _ _ _ _ _ _ _ gF 0 N cF _ hpos (by omega)).mono ?_;rintro e w2 ⟨rfl,hb2⟩;have hE2 : Ext (w.setCell ⟨R,12,none⟩ (int .i64 (t.mask + 1))) w2 := Ext.trans xt hb2;have h1 := Lib.hid ((H.out.set_mask (t.mask + 1)).mono hE2);obtain ⟨g9,c9,e9,_,z9,p9,_⟩ := h1.out.set_pc (i := t.frames.length - 1) HT.out;injection e9 with q1 q2 q3;injection q1 with q1;injection q1 with q1;subst q1;rw [HN.out] at z9 p9;clear hb2))
  go_end0
  obtain ⟨h2,hB⟩ := h1.out.jump HT.out rfl HP.out
  have hBb : Kept B w w2 := Kept.trans (Kept.store (Kept.refl _ _) hBR _ (H.out.hotR.setCell _ _)) (Kept.mono hE2 (by rw [World.size_setCell];exact hBW))
  rw [← HN.out]
  exact ⟨rfl,⟨_,_,_,_,_,h2⟩,Kept.store hBb hB _ (h2.hotF rfl)⟩
set_option maxRecDepth 4000 in
theorem op_unmask {X : List Value} {B R : Nat} {P3 : List Value} {w : World} {t : Tsk} {n : Int} {VF VB : Value} {rs hs : List Value} {gs : List (List Value)} (h : RunSt X B R P3 w t n VF VB rs hs gs) {f : Frm} (ht : TopOk t f) (x : Ins) (VX : Value) (hm : -1000 ≤ t.mask ∧ t.mask ≤ 1000) (b : Blk) (hb : lastB t = some b) (hbl : t.blocks.length ≤ 1000) :
  Calls Try.prog 76 #[.pointer (some ⟨R,0,none⟩),.agg #[int .i64 x.op,int .i64 x.a,int .i64 x.b,int .i64 x.c,VX]] w (OpPost X B R P3 w (unmaskS t f) n) := by
 have hlR := h.lt.2
 have hBW : B ≤ w.heap.size := by have := h.lt;omega
 have hBR := h.lt.1
 have R1 := h.task
 obtain ⟨gF,cF,v,rfl,hv,hpos,hgF,⟨Av,cv,rfl,hcv⟩,c0,c1,c2,c3,c4⟩ := h.top ht.top
 obtain ⟨g2,c2',e2,hB2,z2,_,_⟩ := h.set_pc ht.top
 cases e2
 have H := Lib.hid h
 have HT := Lib.hid ht.top
 have hl := ht.len
 have hpc1 := ht.pc.1
 have hpc2 := ht.pc.2
 have hwr : IntKind.i64.wrap (f.pc + 1) = f.pc + 1 := IntWalk.i64_in _ (by omega)
 have HP : Hid (InR (f.pc + 1)) := ⟨by omega,by omega⟩
 have m1 : w.cell? ⟨R,12,none⟩ = some (int .i64 t.mask) := h.cellT (j := 9) rfl
 have m2 := h.frozen 12
 unfold lastB at hb
 have hbpos : 0 < t.blocks.length := by have := (List.getElem?_eq_some_iff.1 hb).1;omega
 obtain ⟨gB,cB,eB,hgB⟩ := own_form h.bl.row hbpos
 have m3 : w.cell? ⟨R,11,none⟩ = some VB := h.cellT (j := 8) rfl
 obtain ⟨v4,hv4⟩ : ∃ v,hs[t.blocks.length - 1]? = some v := ⟨_,List.getElem?_eq_getElem (by rw [h.bl.len];omega)⟩
 have m4 : w.cell? ⟨gB,(t.blocks.length - 1) * 5 + 3,none⟩ = some (int .i64 b.mask) := by
  have h9 := h.bl.row
  rw [eB] at h9
  rw [h9.cellAt _ (by omega),rowOf_get blkCells_len hb hv4 (by omega)];rfl
 have hlB : gB < w.heap.size := lt_of_cell m4
 have HLB : Hid (lastB t = some b) := hb
 have hsB : IntKind.i64.wrap ((t.blocks.length : Int) - 1) = ((t.blocks.length - 1 : Nat) : Int) := by rw [IntWalk.i64_in _ (by omega)];omega
 have hs1B : ((t.blocks.length - 1 : Nat) : Int) < (t.blocks.length : Int) := by omega
 have hs2B : (0 : Int) ≤ ((t.blocks.length - 1 : Nat) : Int) := by omega
 have hm1 := hm.1
 have hm2 := hm.2
 have hwm : IntKind.i64.wrap (t.mask - 1) = t.mask - 1 := IntWalk.i64_in _ (by omega)
 have hne : ¬ gF = R := fun e => by
  have := apart_types h.fr.row h.box (by decide)
  subst e
  rcases this with h | h
  ·cases h
  ·exact h rfl
 have hne2 : ¬ R = gF := fun e => hne e.symm
 rw [show unmaskS t f = if t.mask = 0 ∨ t.mask = b.mask then failT t 8 else ({ setTop t { f with pc := f.pc + 1 } with mask := t.mask - 1 },goOn) by unfold unmaskS;rw [HLB.out]]
 subst eB
 clear h ht hv hm hb hv4
 unfold tskL at R1
 obtain ⟨N,hN⟩ : ∃ N,t.frames.length = N := ⟨_,rfl⟩
 have HN := Lib.hid hN
 rw [hN] at R1 c0 c1 c2 c3 c4 hpos hl z2
 clear hN
 by_cases hz : t.mask = 0
 ·rw [if_pos (.inl hz)]
  have hz1 : (t.mask == 0) = true := by simpa using hz
  clear hz
  go_enter Try.func76,Try.ntmps76
  go_wp2
  (refine wp_region_quiet_below (by kernel_rfl) (by kernel_rfl) ?_;(repeat (go_big_quiet_step (fail)));refine wpQuiet_nil fun w1 h1 => ?_;obtain ⟨hc,hf,hs,he⟩ := eu (w := w) h1 xt;clear h1;(try simp only [sA,sC,sD,sN] at hs))
  go_wp2
  exact ⟨rfl,rfl,⟨_,_,_,_,_,H.out.mono xt⟩,Kept.mono (show Ext w _ from xt) hBW⟩
 have hz1 : (t.mask == 0) = false := beq_eq_false_iff_ne.2 hz
 by_cases hy : t.mask = b.mask
 ·rw [if_pos (.inr hy)]
  have hy1 : (t.mask == b.mask) = true := by simpa using hy
  clear hz hy
  go_enter Try.func76,Try.ntmps76
  go_wp2
  (refine wp_region_quiet_below (by kernel_rfl) (by kernel_rfl) ?_;(repeat (go_big_quiet_step (fail)));refine wpQuiet_nil fun w1 h1 => ?_;obtain ⟨hc,hf,hs,he⟩ := eu (w := w) h1 xt;clear h1;(try simp only [sA,sC,sD,sN] at hs))
  go_wp2
  exact ⟨rfl,rfl,⟨_,_,_,_,_,H.out.mono xt⟩,Kept.mono (show Ext w _ from xt) hBW⟩
 ·rw [if_neg (by rintro (h | h);exact hz h;exact hy h)]
  have hy1 : (t.mask == b.mask) = false := beq_eq_false_iff_ne.2 hy
  clear hz hy
  go_enter Try.func76,Try.ntmps76
  go_wp2
  (refine wp_region_quiet_below (by kernel_rfl) (by kernel_rfl) ?_;(repeat (go_big_quiet_step (fail)));refine wpQuiet_nil fun w1 h1 => ?_;obtain ⟨hc,hf,hs,he⟩ := eu (w := w) h1 xt;clear h1;(try simp only [sA,sC,sD,sN] at hs))
  have H1 := Lib.hid (H.out.mono (show Ext w w1 from he))
  have R2 := range_ext R1 he
  have n1 := he.cell m1
  have n2 := H1.out.frozen 12
  have d1 := he.cell c1
  go_wp2_with (first | ((first | (with_reducible refine jl 44 ?_) | (with_reducible refine il 44 ?_));refine ldm Try.underlying44 rfl rfl rfl (by exact rg) rfl (by exact infoTsk) ?_;dsimp only [dZ,dS]) | (go_at_call 29;refine (innermost_any _ _ _ _ _ _ _ _ _ _ _ _ _ gF 0 N cF _ hpos (by omega)).mono ?_;rintro e w2 ⟨rfl,hb2⟩;have hE2 : Ext (w1.setCell ⟨R,12,none⟩ (int .i64 (t.mask - 1))) w2 := Ext.trans xt hb2;have h1 := Lib.hid ((H1.out.set_mask (t.mask - 1)).mono hE2);obtain ⟨g9,c9,e9,_,z9,p9,_⟩ := h1.out.set_pc (i := t.frames.length - 1) HT.out;injection e9 with q1 q2 q3;injection q1 with q1;injection q1 with q1;subst q1;rw [HN.out] at z9 p9;clear hb2))
  go_end0
  obtain ⟨h2,hB⟩ := h1.out.jump HT.out rfl HP.out
  have hBb : Kept B w w2 := Kept.trans (Kept.store (Kept.mono he hBW) hBR _ (H1.out.hotR.setCell _ _)) (Kept.mono hE2 (by rw [World.size_setCell];exact Nat.le_trans hBW he.size))
  rw [← HN.out]
  exact ⟨rfl,⟨_,_,_,_,_,h2⟩,Kept.store hBb hB _ (h2.hotF rfl)⟩
def argsTo (f : Frm) (l : List Int) (k : Nat) : List Int := (l.take k).map (regS f) ++ List.replicate (l.length - k) 0
theorem argsTo_length (f : Frm) (l : List Int) (k : Nat) (hk : k ≤ l.length) : (argsTo f l k).length = l.length := by simp [argsTo];omega
theorem argsTo_all (f : Frm) (l : List Int) : argsTo f l l.length = argsOf f l := by simp [argsTo,argsOf]
theorem argsTo_set (f : Frm) (l : List Int) (k : Nat) (a : Int) (h : l[k]? = some a) : (argsTo f l k).set k (regS f a) = argsTo f l (k + 1) := by
 have hk := (List.getElem?_eq_some_iff.1 h).1
 have ha := (List.getElem?_eq_some_iff.1 h).2
 unfold argsTo
 have hl : ((l.take k).map (regS f)).length = k := by simp;omega
 rw [List.set_append_right _ _ (by omega),hl,Nat.sub_self,show l.length - k = (l.length - (k + 1)) + 1 by omega,List.replicate_succ,List.set_cons_zero,List.take_add_one,List.map_append,List.append_assoc,h]
 rfl
set_option maxRecDepth 4000 in
theorem arguments_any {X : List Value} {B R : Nat} {P3 : List Value} {w : World} {t : Tsk} {n : Int} {VF VB : Value} {rs hs : List Value} {gs : List (List Value)} (h : RunSt X B R P3 w t n VF VB rs hs gs) {f : Frm} (ht : TopOk t f) (x : Ins) (A : Option Addr) (m c : Nat) (hx : RSl 1 RInt w A m x.args) (hm : m ≤ 1000) (ha : ∀ a ∈ x.args,InF f a) :
  Calls Try.prog 91 #[.pointer (some ⟨R,0,none⟩),.agg #[int .i64 x.op,int .i64 x.a,int .i64 x.b,int .i64 x.c,.slice A m c]] w fun e w' => ∃ g,e = .returned (.slice (some ⟨g,0,none⟩) m m) ∧ w.heap.size < g ∧ w'.ownsRow (w.heap.size + 1) 3 1 (.slice (some ⟨g,0,none⟩) m m) m ((argsOf f x.args).map (int .i64)) ∧ Ext w w' := by
 have hml := hx.len
 have HX := Lib.hid hx
 have HG := Lib.hid (fun (a : Int) (hm : a ∈ x.args) W (hE : Ext w W) => reg_is (h.mono hE) ht (ha a hm))
 have hmk := fun W => run_make_row' (P := Try.prog) 23 3 (.int .i64 0) 8 Try.underlying23 infoInt rfl .i64 .i64 m (by omega) (by omega) W
 have HML := Lib.hid hml
 clear h ht hx ha hml
 go_enter Try.func91,Try.ntmps91
 go_wp2
 refine wp_hid2 ?_
 intro W0 HW0
 have HE : Hid (Ext w W0) := by rw [HW0.out];exact Lib.hid xt
 have HO : Hid (W0.ownsRow (w.heap.size + 1) 3 1 (.slice (some ⟨w.heap.size + 1,0,none⟩) m m) m ((argsTo f x.args 0).map (int .i64))) := by
  rw [Hid,HW0.out,madeCells_one]
  have h1 := World.ownsRow_lit (base := w.heap.size + 1) (e := 3) (size := 1) (w.alloc (.cells #[int .i64 x.op,int .i64 x.a,int .i64 x.b,int .i64 x.c,.slice A m c] 30)) (List.replicate m (int .i64 0)).toArray m (by simp) (by simp only [maxLen];omega) (by simp)
  simpa [argsTo,HML.out] using h1
 clear HW0 hmk
 go_loopg [6,7,15] m (fun gg _ _ s15 wr => ∃ kk : Nat,kk ≤ m ∧ m - kk ≤ gg ∧ s15 = .int .i64 kk ∧ Hid (Ext w wr) ∧ Hid (wr.ownsRow (w.heap.size + 1) 3 1 (.slice (some ⟨w.heap.size + 1,0,none⟩) m m) m ((argsTo f x.args kk).map (int .i64))))
 case atStart => exact ⟨0,Nat.zero_le _,by omega,rfl,HE.out,HO⟩
 case round =>
  obtain ⟨kk,hkk,hg,rfl,HW,HR⟩ := hrel
  by_cases hlt : kk < m
  ·have hltz : (kk : Int) < (m : Int) := by omega
   obtain ⟨a,hak⟩ : ∃ a,x.args[kk]? = some a := ⟨_,List.getElem?_eq_getElem (by have := HML.out;omega)⟩
   obtain ⟨b,off,rfl,hlb,_,d0⟩ := HX.out.int hak
   have e0 := HW.out.cell d0
   have hlb2 := Nat.lt_of_lt_of_le hlb HW.out.size
   have HC := Lib.hid (HG.out a (List.mem_of_getElem? hak))
   have HS := Lib.hid (argsTo_set f x.args kk a hak)
   obtain ⟨y,hy⟩ : ∃ y,regS f a = y := ⟨_,rfl⟩
   rw [hy] at HC HS
   clear hy hak d0 hlb
   have HWE := HW.out
   obtain ⟨u,hu⟩ : ∃ u,((argsTo f x.args kk).map (int .i64))[kk]? = some u := ⟨_,List.getElem?_eq_getElem (by rw [List.length_map,argsTo_length f _ _ (by have := HML.out;omega)];have := HML.out;omega)⟩
   go_wp2_with (go_at_call 56;refine (HC.out _ xt).mono ?_;rintro e w3 ⟨rfl,hb3⟩;have HR3 := Lib.hid (ownsRow_ext HR.out hb3);have r1 := World.ownsRow.frozenAt (g := w.heap.size + 1) HR3.out kk;have r2 := World.ownsRow.cellAt (g := w.heap.size + 1) HR3.out kk (by omega);rw [hu] at r2)
   go_roundg (m - (kk + 1))
   case measure => omega
   case rel =>
    refine ⟨kk + 1,by omega,by omega,by go_num,(HWE.trans hb3).setCell (show w.heap.size ≤ w.heap.size + 1 by omega) _, ?_⟩
    have h9 := (World.ownsRow.stored (g := w.heap.size + 1) HR3.out kk (int .i64 y)).1
    rw [← List.map_set,HS.out] at h9
    exact h9
  ·have hltz : ¬ (kk : Int) < (m : Int) := by omega
   have hkm : kk = m := by omega
   go_wp2
   go_ret
   exact ⟨_,rfl,Nat.lt_succ_self _,by have h1 := HR.out;rw [hkm,HML.out,argsTo_all,← HML.out] at h1;exact h1,HW.out⟩
set_option maxRecDepth 4000 in
theorem leave_one {X : List Value} {B R : Nat} {P3 : List Value} {w : World} {t : Tsk} {n : Int} {VF VB : Value} {rs hs : List Value} {gs : List (List Value)} (h : RunSt X B R P3 w t n VF VB rs hs gs) {f : Frm} (ht : TopOk t f) (v : Int) (hcl : f.cleanup = false) (h1 : t.frames.length = 1) :
  Calls Try.prog 36 #[.pointer (some ⟨R,0,none⟩),int .i64 v] w (OpPost X B R P3 w (giveS t f v) n) := by
 have hR : giveS t f v = (t,⟨2,0,v⟩) := by unfold giveS;rw [if_neg (by rw [hcl];decide),if_pos h1]
 rw [hR]
 have hlR := h.lt.2
 have hBW : B ≤ w.heap.size := by have := h.lt;omega
 obtain ⟨gF,cF,v',rfl,hv,hpos,hgF,⟨Av,cv,rfl,hcv⟩,c0,c1,c2,c3,c4⟩ := h.top ht.top
 have m1 : w.cell? ⟨R,10,none⟩ = some (.slice (some ⟨gF,0,none⟩) t.frames.length cF) := h.cellT (j := 7) rfl
 have H := Lib.hid h
 rw [h1] at m1 c0 c1 c2 c3 c4
 rw [hcl] at c4
 clear h ht hv hcl hR
 go_enter Try.func36,Try.ntmps36
 go_wp2
 exact ⟨rfl,rfl,⟨_,_,_,_,_,H.out.mono xt⟩,Kept.mono (show Ext w _ from xt) hBW⟩
set_option maxRecDepth 4000 in
theorem leave_mis {X : List Value} {B R : Nat} {P3 : List Value} {w : World} {t : Tsk} {n : Int} {VF VB : Value} {rs hs : List Value} {gs : List (List Value)} (h : RunSt X B R P3 w t n VF VB rs hs gs) {f : Frm} (ht : TopOk t f) (v : Int) (hcl : f.cleanup = false) (h1 : 2 ≤ t.frames.length) (b : Blk) (hb : lastB t = some b) (hbl : t.blocks.length ≤ 1000) (hd : b.depth = (t.frames.length : Int)) :
  Calls Try.prog 36 #[.pointer (some ⟨R,0,none⟩),int .i64 v] w (OpPost X B R P3 w (giveS t f v) n) := by
 obtain ⟨y,hy⟩ : ∃ y,t.frames[t.frames.length - 2]? = some y := ⟨_,List.getElem?_eq_getElem (by omega)⟩
 have hR : giveS t f v = failT t 8 := by unfold giveS;rw [if_neg (by rw [hcl];decide),if_neg (by omega),hb,hy];dsimp only;rw [if_pos hd]
 rw [hR]
 have hlR := h.lt.2
 have hBW : B ≤ w.heap.size := by have := h.lt;omega
 obtain ⟨gF,cF,v',rfl,hv,hpos,hgF,⟨Av,cv,rfl,hcv⟩,c0,c1,c2,c3,c4⟩ := h.top ht.top
 have m1 : w.cell? ⟨R,10,none⟩ = some (.slice (some ⟨gF,0,none⟩) t.frames.length cF) := h.cellT (j := 7) rfl
 have m3 : w.cell? ⟨R,11,none⟩ = some VB := h.cellT (j := 8) rfl
 have H := Lib.hid h
 unfold lastB at hb
 have hbpos : 0 < t.blocks.length := by have := (List.getElem?_eq_some_iff.1 hb).1;omega
 obtain ⟨gB,cB,eB,hgB⟩ := own_form h.bl.row hbpos
 obtain ⟨v4,hv4⟩ : ∃ v,hs[t.blocks.length - 1]? = some v := ⟨_,List.getElem?_eq_getElem (by rw [h.bl.len];omega)⟩
 have m4 : w.cell? ⟨gB,(t.blocks.length - 1) * 5 + 1,none⟩ = some (int .i64 b.depth) := by
  have h9 := h.bl.row
  rw [eB] at h9
  rw [h9.cellAt _ (by omega),rowOf_get blkCells_len hb hv4 (by omega)];rfl
 have hlB : gB < w.heap.size := lt_of_cell m4
 have hsB : IntKind.i64.wrap ((t.blocks.length : Int) - 1) = ((t.blocks.length - 1 : Nat) : Int) := by rw [IntWalk.i64_in _ (by omega)];omega
 have hs1B : ((t.blocks.length - 1 : Nat) : Int) < (t.blocks.length : Int) := by omega
 have hs2B : (0 : Int) ≤ ((t.blocks.length - 1 : Nat) : Int) := by omega
 have hl := ht.len
 rw [hd] at m4
 rw [hcl] at c4
 subst eB
 clear h ht hv hcl hR hy hb hd hv4
 obtain ⟨N,hN⟩ : ∃ N,t.frames.length = N := ⟨_,rfl⟩
 rw [hN] at m1 c0 c1 c2 c3 c4 hpos hl h1 m4
 have hsF : IntKind.i64.wrap ((N : Int) - 1) = ((N - 1 : Nat) : Int) := by rw [IntWalk.i64_in _ (by omega)];omega
 have hs1F : ((N - 1 : Nat) : Int) < (N : Int) := by omega
 have hs2F : (0 : Int) ≤ ((N - 1 : Nat) : Int) := by omega
 have hN1 : ((N : Int) == 1) = false := beq_eq_false_iff_ne.2 (by omega)
 clear hN
 go_enter Try.func36,Try.ntmps36
 go_wp2
 (refine wp_region_quiet_below (by kernel_rfl) (by kernel_rfl) ?_;(repeat (go_big_quiet_step (fail)));refine wpQuiet_nil fun w1 h1 => ?_;obtain ⟨hc,hf,hs,he⟩ := eu (w := w) h1 xt;clear h1;(try simp only [sA,sC,sD,sN] at hs))
 go_wp2
 exact ⟨rfl,rfl,⟨_,_,_,_,_,H.out.mono xt⟩,Kept.mono (show Ext w _ from xt) hBW⟩
end Go.Proofs.Ytcjjoabofecjmaa

