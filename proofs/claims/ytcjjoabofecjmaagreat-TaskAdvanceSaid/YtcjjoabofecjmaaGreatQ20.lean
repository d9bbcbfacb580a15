/- A part of the proof: The operations of a runner on two registers; The functions t. -/
import Derived.Test.YtcjjoabofecjmaaGreatQ10
import Derived.Test.YtcjjoabofecjmaaGreatQ19
set_option linter.unusedVariables false
set_option linter.unusedSimpArgs false
set_option maxHeartbeats 16000000
namespace Go.Proofs.YtcjjoabofecjmaaGreat
open Go.RowKit Go.Sort
open Go.Value (int)
set_option maxRecDepth 4000 in
theorem binary_ok {X : List Value} {B R : Nat} {P3 : List Value} {w : World} {t : Tsk} {n : Int} {VF VB : Value} {rs hs : List Value} {gs : List (List Value)} (h : RunSt X B R P3 w t n VF VB rs hs gs) {f : Frm} (ht : TopOk t f) (x : Ins) (VX : Value) (ha : InF f x.a) (hb : InF f x.b) (hc : InF f x.c)
  (C : Nat) (g : FuncId) (lb : Array Value) (eg : Enters Tryz.prog g) (hC : w.cell? ⟨C,0,none⟩ = some (.func (.func g) #[] lb)) (v : Int)
  (hv : ∀ W,Ext w W → Calls Tryz.prog g (#[int .i64 (regS f x.b),int .i64 (regS f x.c)] ++ lb) W fun e w' => e = .returned (int .i64 v) ∧ Ext W w') :
  Calls Tryz.prog 160 #[.pointer (some ⟨R,0,none⟩),.agg #[int .i64 x.op,int .i64 x.a,int .i64 x.b,int .i64 x.c,VX],.pointer (some ⟨C,0,none⟩)] w (OpPost X B R P3 w (writeS t f x.a v) n) := by
 have HS := Lib.hid (fun W hE => set_is h ht v ha (W := W) hE)
 have HG1 := Lib.hid (fun W (hE : Ext w W) => reg_is (h.mono hE) ht hb)
 have HG2 := Lib.hid (fun W (hE : Ext w W) => reg_is (h.mono hE) ht hc)
 have HV := Lib.hid hv
 have hR := h.lt.2
 have hCl : C < w.heap.size := lt_of_cell hC
 unfold Enters at eg
 clear h hv
 obtain ⟨y,hy⟩ : ∃ y,regS f x.b = y := ⟨_,rfl⟩
 obtain ⟨z,hz⟩ : ∃ z,regS f x.c = z := ⟨_,rfl⟩
 rw [hy] at HG1 HV
 rw [hz] at HG2 HV
 clear hy hz
 go_enter Tryz.func160,Tryz.ntmps160
 go_wp2
 (refine wp_region_quiet_tail 13 (by kernel_rfl) (by kernel_rfl) ?_;(try simp only [List.take_succ_cons,List.take_zero,List.drop_succ_cons,List.drop_zero]);(repeat (go_big_quiet_step (first | (go_at_call 125;with_reducible exact quiet_ext (HG1.out _ xt)) | (go_at_call 125;with_reducible exact quiet_ext (HG2.out _ xt)) | (go_at_fn g;exact quiet_ext (HV.out _ xt)))));refine wpQuiet_nil fun w1 h1 => ?_;obtain ⟨hc,hf,hs,he⟩ := eu (w := w) h1 xt;clear h1;(try simp only [sA,sC,sD,sN] at hs))
 go_wp2_with (first | (go_at_call 123;refine (HS.out _ xt).mono ?_;rintro e w5 HP;rcases HP.ends with rfl | ⟨ch,rfl⟩))
 ·go_end0
  exact HP
 ·exact ⟨rfl,HP⟩
set_option maxRecDepth 4000 in
theorem binary_bad {X : List Value} {B R : Nat} {P3 : List Value} {w : World} {t : Tsk} {n : Int} {VF VB : Value} {rs hs : List Value} {gs : List (List Value)} (h : RunSt X B R P3 w t n VF VB rs hs gs) {f : Frm} (ht : TopOk t f) (x : Ins) (VX : Value) (hb : InF f x.b) (hc : InF f x.c)
  (C : Nat) (g : FuncId) (lb : Array Value) (eg : Enters Tryz.prog g) (hC : w.cell? ⟨C,0,none⟩ = some (.func (.func g) #[] lb))
  (hv : ∀ W,Ext w W → Calls Tryz.prog g (#[int .i64 (regS f x.b),int .i64 (regS f x.c)] ++ lb) W fun e w' => e = .panicked (failV 6) ∧ Ext W w') :
  Calls Tryz.prog 160 #[.pointer (some ⟨R,0,none⟩),.agg #[int .i64 x.op,int .i64 x.a,int .i64 x.b,int .i64 x.c,VX],.pointer (some ⟨C,0,none⟩)] w (OpPost X B R P3 w (failT t 6) n) := by
 have HH := Lib.hid h
 have HG1 := Lib.hid (fun W (hE : Ext w W) => reg_is (h.mono hE) ht hb)
 have HG2 := Lib.hid (fun W (hE : Ext w W) => reg_is (h.mono hE) ht hc)
 have HV := Lib.hid hv
 have hR := h.lt.2
 have hBR := h.lt.1
 have hCl : C < w.heap.size := lt_of_cell hC
 unfold Enters at eg
 clear h hv
 obtain ⟨y,hy⟩ : ∃ y,regS f x.b = y := ⟨_,rfl⟩
 obtain ⟨z,hz⟩ : ∃ z,regS f x.c = z := ⟨_,rfl⟩
 rw [hy] at HG1 HV
 rw [hz] at HG2 HV
 clear hy hz
 go_enter Tryz.func160,Tryz.ntmps160
 go_wp2
 refine wp_hid2 ?_
 intro W4 HW4
 have HE4 : Ext w W4 := by rw [HW4.out];exact xt
 have k1 : W4.cell? ⟨w.heap.size,1,none⟩ = some (int .i64 x.a) := by rw [HW4.out];simp [go_sem]
 have k2 : W4.cell? ⟨w.heap.size,2,none⟩ = some (int .i64 x.b) := by rw [HW4.out];simp [go_sem]
 have k3 : W4.cell? ⟨w.heap.size,3,none⟩ = some (int .i64 x.c) := by rw [HW4.out];simp [go_sem]
 have k4 := HE4.cell hC
 have hs4 : w.heap.size < W4.heap.size := lt_of_cell k1
 have hC4 : C < W4.heap.size := lt_of_cell k4
 clear HW4 hC
 refine wp_region_panics 12 _ (failV 6) (by kernel_rfl) (by kernel_rfl) rfl (by kernel_rfl) ?_ ?_
 ·rintro a w' hd ⟨p,rfl⟩
  have hE : Ext w (grow (redrawn W4 p.d) p.os) := HE4.regrown p.d p.os
  exact ⟨hd,rfl,⟨_,_,_,_,_,HH.out.mono hE⟩,Kept.mono hE (by omega)⟩
 ·simp only [List.take_succ_cons,List.take_zero]
  repeat (go_big_quiet_step (first | (go_at_call 125;with_reducible exact quiet_ext (HG1.out _ xt)) | (go_at_call 125;with_reducible exact quiet_ext (HG2.out _ xt))))
  refine wpQuiet_nil ⟨rfl,by rfl, ?_⟩
  rintro w' ⟨p,rfl⟩
  have hE : Ext w (grow (redrawn W4 p.d) p.os) := HE4.regrown p.d p.os
  refine ⟨g,#[int .i64 y,int .i64 z] ++ lb, ?_,(HV.out _ hE).mono fun e w'' hh => ⟨hh.1,regrown_of_below (Ext.trans (below_regrown W4 p.d p.os) hh.2)⟩⟩
  simp [go_sem,execOp,eg]
end Go.Proofs.YtcjjoabofecjmaaGreat
namespace Go.Proofs.YtcjjoabofecjmaaGreat
open Go.RowKit
open Go.Value (int)
theorem num_le {a : Int} (h : numB a = true) : -1099511627776 ≤ a ∧ a ≤ 1099511627776 := inB_iff.1 h
theorem f_add (a b : Int) (ha : numB a = true) (hb : numB b = true) (w : World) :
  Calls Tryz.prog 127 (#[int .i64 a,int .i64 b] ++ #[]) w fun e w' => e = .returned (int .i64 (a + b)) ∧ Ext w w' := by
 have hw : IntKind.i64.wrap (a + b) = a + b := IntWalk.i64_in _ (by have := num_le ha;have := num_le hb;omega)
 clear ha hb
 show Calls _ _ #[int .i64 a,int .i64 b] _ _
 go_enter Tryz.func127,Tryz.ntmps127
 go_wp2
 go_ret
 exact ⟨rfl,xt⟩
theorem f_sub (a b : Int) (ha : numB a = true) (hb : numB b = true) (w : World) :
  Calls Tryz.prog 128 (#[int .i64 a,int .i64 b] ++ #[]) w fun e w' => e = .returned (int .i64 (a - b)) ∧ Ext w w' := by
 have hw : IntKind.i64.wrap (a - b) = a - b := IntWalk.i64_in _ (by have := num_le ha;have := num_le hb;omega)
 clear ha hb
 show Calls _ _ #[int .i64 a,int .i64 b] _ _
 go_enter Tryz.func128,Tryz.ntmps128
 go_wp2
 go_ret
 exact ⟨rfl,xt⟩
theorem tdiv_num {a b : Int} (ha : numB a = true) : -1099511627776 ≤ a.tdiv b ∧ a.tdiv b ≤ 1099511627776 := by
 have h := num_le ha
 have h1 : (a.tdiv b).natAbs ≤ a.natAbs := by rw [Int.natAbs_tdiv];exact Nat.div_le_self _ _
 omega
theorem tmod_num {a b : Int} (ha : numB a = true) : -1099511627776 ≤ a.tmod b ∧ a.tmod b ≤ 1099511627776 := by
 have h := num_le ha
 have h1 : (a.tmod b).natAbs ≤ a.natAbs := by rw [Int.natAbs_tmod];exact Nat.mod_le _ _
 omega
theorem f_div (a b : Int) (ha : numB a = true) (hb0 : ¬ b = 0) (w : World) :
  Calls Tryz.prog 131 (#[int .i64 a,int .i64 b] ++ #[]) w fun e w' => e = .returned (int .i64 (a.tdiv b)) ∧ Ext w w' := by
 have hw : IntKind.i64.wrap (a.tdiv b) = a.tdiv b := IntWalk.i64_in _ (by have := tdiv_num (b := b) ha;omega)
 clear ha
 show Calls _ _ #[int .i64 a,int .i64 b] _ _
 go_enter Tryz.func131,Tryz.ntmps131
 go_wp2
 go_ret
 exact ⟨rfl,xt⟩
theorem f_mod (a b : Int) (ha : numB a = true) (hb0 : ¬ b = 0) (w : World) :
  Calls Tryz.prog 132 (#[int .i64 a,int .i64 b] ++ #[]) w fun e w' => e = .returned (int .i64 (a.tmod b)) ∧ Ext w w' := by
 have hw : IntKind.i64.wrap (a.tmod b) = a.tmod b := IntWalk.i64_in _ (by have := tmod_num (b := b) ha;omega)
 clear ha
 show Calls _ _ #[int .i64 a,int .i64 b] _ _
 go_enter Tryz.func132,Tryz.ntmps132
 go_wp2
 go_ret
 exact ⟨rfl,xt⟩
def prodS (a b : Int) : Int := if numB (a * b) = true then a * b else 1099511627777
theorem write_prod (t : Tsk) (f : Frm) (i a b : Int) : writeS t f i (prodS a b) = writeS t f i (a * b) := by
 unfold prodS
 by_cases h : numB (a * b) = true
 ·rw [if_pos h]
 ·rw [if_neg h]
  unfold writeS
  rw [if_neg h,if_neg (by decide)]
theorem f_eq (a b : Int) (w : World) :
  Calls Tryz.prog 133 (#[int .i64 a,int .i64 b] ++ #[]) w fun e w' => e = .returned (int .i64 (bitS (a == b))) ∧ Ext w w' := by
 show Calls _ _ #[int .i64 a,int .i64 b] _ _
 obtain ⟨q,hq⟩ : ∃ q,(a == b) = q := ⟨_,rfl⟩
 have HB := Lib.hid (fun W => bit_any q W)
 rw [hq]
 cases q <;> (go_enter Tryz.func133,Tryz.ntmps133;go_wp2_with (go_at_call 134;refine (HB.out _).mono ?_;rintro e w' ⟨rfl,rfl⟩);go_ret;exact ⟨rfl,xt⟩)
theorem f_lss (a b : Int) (w : World) :
  Calls Tryz.prog 135 (#[int .i64 a,int .i64 b] ++ #[]) w fun e w' => e = .returned (int .i64 (bitS (decide (a < b)))) ∧ Ext w w' := by
 show Calls _ _ #[int .i64 a,int .i64 b] _ _
 by_cases h : a < b
 ·have HB := Lib.hid (fun W => bit_any true W)
  rw [decide_eq_true h]
  go_enter Tryz.func135,Tryz.ntmps135;go_wp2_with (go_at_call 134;refine (HB.out _).mono ?_;rintro e w' ⟨rfl,rfl⟩);go_ret;exact ⟨rfl,xt⟩
 ·have HB := Lib.hid (fun W => bit_any false W)
  rw [decide_eq_false h]
  go_enter Tryz.func135,Tryz.ntmps135;go_wp2_with (go_at_call 134;refine (HB.out _).mono ?_;rintro e w' ⟨rfl,rfl⟩);go_ret;exact ⟨rfl,xt⟩
theorem f_and (a b : Int) (w : World) :
  Calls Tryz.prog 136 (#[int .i64 a,int .i64 b] ++ #[]) w fun e w' => e = .returned (int .i64 (bitS (a != 0 && b != 0))) ∧ Ext w w' := by
 show Calls _ _ #[int .i64 a,int .i64 b] _ _
 have HB := Lib.hid (fun b W => bit_any b W)
 go_enter Tryz.func136,Tryz.ntmps136
 go_wp2_with (go_at_call 134;refine (HB.out _ _).mono ?_;rintro e w' ⟨rfl,rfl⟩)
 all_goals (go_ret;exact ⟨congrArg (fun z => Ending.returned (int .i64 (bitS z))) (by simp [*]),xt⟩)
theorem f_or (a b : Int) (w : World) :
  Calls Tryz.prog 137 (#[int .i64 a,int .i64 b] ++ #[]) w fun e w' => e = .returned (int .i64 (bitS (a != 0 || b != 0))) ∧ Ext w w' := by
 show Calls _ _ #[int .i64 a,int .i64 b] _ _
 have HB := Lib.hid (fun b W => bit_any b W)
 go_enter Tryz.func137,Tryz.ntmps137
 go_wp2_with (go_at_call 134;refine (HB.out _ _).mono ?_;rintro e w' ⟨rfl,rfl⟩)
 all_goals (go_ret;exact ⟨congrArg (fun z => Ending.returned (int .i64 (bitS z))) (by simp [*]),xt⟩)
theorem natAbs_max (a : Int) : (if a < -a then -a else a) = (a.natAbs : Int) := by split <;> omega
theorem num_abs {x : Int} : numB x = true ↔ x.natAbs ≤ 1099511627776 := by
 unfold numB;rw [inB_iff];omega
theorem f_mul (a b : Int) (ha : numB a = true) (hb : numB b = true) (w : World) :
  Calls Tryz.prog 129 (#[int .i64 a,int .i64 b] ++ #[]) w fun e w' => e = .returned (int .i64 (prodS a b)) ∧ Ext w w' := by
 show Calls _ _ #[int .i64 a,int .i64 b] _ _
 have hna := num_le ha
 have hnb := num_le hb
 by_cases h0 : a = 0
 ·subst h0
  have HR : Hid (prodS 0 b = 0) := by unfold Hid prodS;rw [Int.zero_mul,if_pos (by decide)]
  clear ha hb hna hnb
  go_enter Tryz.func129,Tryz.ntmps129
  go_wp2
  go_ret
  exact ⟨ret_int HR.out.symm,xt⟩
 have h1 : IntKind.i64.wrap (-a) = -a := IntWalk.i64_in _ (by omega)
 have h2 : IntKind.i64.wrap (-b) = -b := IntWalk.i64_in _ (by omega)
 have h3 := natAbs_max a
 have h4 := natAbs_max b
 obtain ⟨A,hA⟩ : ∃ A,a.natAbs = A := ⟨_,rfl⟩
 obtain ⟨M,hM⟩ : ∃ M,b.natAbs = M := ⟨_,rfl⟩
 rw [hA] at h3
 rw [hM] at h4
 have hA0 : 0 < A := by omega
 have hAz : ¬ (A : Int) = 0 := by omega
 obtain ⟨Q,hQ⟩ : ∃ Q,1099511627776 / A = Q := ⟨_,rfl⟩
 have hq1 : (1099511627776 : Int).tdiv (A : Int) = (Q : Int) := by
  rw [← hQ];rfl
 have hQle : Q ≤ 1099511627776 := by rw [← hQ];exact Nat.div_le_self _ _
 have hq2 : IntKind.i64.wrap (Q : Int) = (Q : Int) := IntWalk.i64_in _ (by omega)
 have hab : (a * b).natAbs = A * M := by rw [Int.natAbs_mul,hA,hM]
 by_cases hlt : Q < M
 ·have hz : (Q : Int) < (M : Int) := by omega
  have HR : Hid (prodS a b = 1099511627777) := by
   unfold Hid prodS
   rw [if_neg]
   rw [num_abs,hab]
   have : 1099511627776 < A * M := by
    have h5 := Nat.lt_mul_div_succ 1099511627776 hA0
    rw [hQ] at h5
    exact Nat.lt_of_lt_of_le h5 (Nat.mul_le_mul_left A hlt)
   omega
  clear ha hb hna hnb hA hM hab hlt hQ
  go_enter Tryz.func129,Tryz.ntmps129
  go_wp2
  go_ret
  exact ⟨ret_int HR.out.symm,xt⟩
 ·have hz : ¬ (Q : Int) < (M : Int) := by omega
  have hle : A * M ≤ 1099511627776 := by
   have h5 := Nat.mul_le_mul_left A (show M ≤ Q by omega)
   rw [← hQ] at h5
   exact Nat.le_trans h5 (Nat.mul_div_le _ _)
  have HR : Hid (prodS a b = a * b) := by unfold Hid prodS;rw [if_pos (num_abs.2 (by omega))]
  have hw : IntKind.i64.wrap (a * b) = a * b := IntWalk.i64_in _ (by omega)
  clear ha hb hna hnb hA hM hab hlt hQ hle
  go_enter Tryz.func129,Tryz.ntmps129
  go_wp2
  go_ret
  exact ⟨ret_int HR.out.symm,xt⟩
theorem binary_mk (F : Value) (h1 : F.oneCell' = true) (w : World) :
  Calls Tryz.prog 126 #[F] w fun e w' => ∃ C,e = .returned (.func (.func 160) #[] #[.pointer (some ⟨C,0,none⟩)]) ∧ w'.cell? ⟨C,0,none⟩ = some F ∧ w.heap.size ≤ C ∧ Cold w' C ∧ Ext w w' := by
 have hmf : ∀ (fn : Fn) (first cap : Array Value) (w : World),(Instr.makeFunc fn first cap).run Tryz.prog w = .ok (.func fn first cap) w := fun _ _ _ _ => rfl
 go_enter Tryz.func126,Tryz.ntmps126
 go_wp2
 go_ret
 exact ⟨w.heap.size,rfl,by simp [go_sem],Nat.le_refl _,by repeat' (first | exact Cold.alloc rfl | refine Cold.setCell ?_ _ _ | rfl),xt⟩
theorem divided_ok (a b v : Int) (C : Nat) (g : FuncId) (w : World) (eg : Enters Tryz.prog g) (hC : w.cell? ⟨C,0,none⟩ = some (.func (.func g) #[] #[])) (hb : ¬ b = 0)
  (hv : ∀ W,Ext w W → Calls Tryz.prog g (#[int .i64 a,int .i64 b] ++ #[]) W fun e w' => e = .returned (int .i64 v) ∧ Ext W w') :
  Calls Tryz.prog 161 (#[int .i64 a,int .i64 b] ++ #[.pointer (some ⟨C,0,none⟩)]) w fun e w' => e = .returned (int .i64 v) ∧ Ext w w' := by
 show Calls _ _ #[int .i64 a,int .i64 b,.pointer (some ⟨C,0,none⟩)] _ _
 have HV := Lib.hid hv
 have hb1 : (b == 0) = false := beq_eq_false_iff_ne.2 hb
 unfold Enters at eg
 clear hv hb
 go_enter Tryz.func161,Tryz.ntmps161
 go_wp2_with (go_at_fn g;refine (HV.out _ xt).mono ?_;rintro e w4 ⟨rfl,hb4⟩)
 go_ret
 exact ⟨rfl,hb4⟩
theorem divided_bad (a : Int) (C : Nat) (w : World) :
  Calls Tryz.prog 161 (#[int .i64 a,int .i64 0] ++ #[.pointer (some ⟨C,0,none⟩)]) w fun e w' => e = .panicked (failV 6) ∧ Ext w w' := by
 show Calls _ _ #[int .i64 a,int .i64 0,.pointer (some ⟨C,0,none⟩)] _ _
 go_enter Tryz.func161,Tryz.ntmps161
 go_wp2
 exact ⟨rfl,rfl,xt⟩
theorem divided_mk (g : FuncId) (w : World) :
  Calls Tryz.prog 130 #[.func (.func g) #[] #[]] w fun e w' => ∃ C D,e = .returned (.func (.func 160) #[] #[.pointer (some ⟨C,0,none⟩)]) ∧ w'.cell? ⟨C,0,none⟩ = some (.func (.func 161) #[] #[.pointer (some ⟨D,0,none⟩)]) ∧ w'.cell? ⟨D,0,none⟩ = some (.func (.func g) #[] #[]) ∧ w.heap.size ≤ C ∧ w.heap.size ≤ D ∧ Cold w' C ∧ Cold w' D ∧ Ext w w' := by
 have hmf : ∀ (fn : Fn) (first cap : Array Value) (w : World),(Instr.makeFunc fn first cap).run Tryz.prog w = .ok (.func fn first cap) w := fun _ _ _ _ => rfl
 go_enter Tryz.func130,Tryz.ntmps130
 go_wp2_with (go_at_call 126;refine (binary_mk _ rfl _).mono ?_;rintro e w1 ⟨C,rfl,hc,hC,hcd,hb⟩;have hcd2 : Cold w1 w.heap.size := Cold.ext (by repeat' (first | exact Cold.alloc rfl | refine Cold.setCell ?_ _ _)) hb;have hk := hb.cell (p := ⟨w.heap.size,0,none⟩) (v := .func (.func g) #[] #[]) (by simp [go_sem]);simp only [World.size_alloc] at hC;have he : Ext w w1 := Ext.trans xt hb)
 go_ret
 exact ⟨C,w.heap.size,rfl,hc,hk,by omega,Nat.le_refl _,hcd,hcd2,he⟩
end Go.Proofs.YtcjjoabofecjmaaGreat
namespace Go.Proofs.YtcjjoabofecjmaaGreat
open Go.RowKit Go.Sort
open Go.Value (int)
theorem RunSt.jump {X : List Value} {B R : Nat} {P3 : List Value} {w : World} {t : Tsk} {n : Int} {VF VB : Value} {rs hs : List Value} {gs : List (List Value)} (h : RunSt X B R P3 w t n VF VB rs hs gs) {f : Frm} (ht : topF t = some f) {g c m : Nat} (hV : VF = .slice (some ⟨g,0,none⟩) m c) {x : Int} (hx : InR x) :
  RunSt X B R P3 (w.setCell ⟨g,(t.frames.length - 1) * 5 + 1,none⟩ (int .i64 x)) (setTop t { f with pc := x }) n VF VB rs hs gs ∧ B ≤ g := by
 obtain ⟨g',c',e,hB,_,_,h4⟩ := h.set_pc ht
 rw [hV] at e
 injection e with q1 q2 q3
 injection q1 with q1
 injection q1 with q1
 subst q1
 exact ⟨h4 x hx,hB⟩
set_option maxRecDepth 4000 in
theorem op_jump {X : List Value} {B R : Nat} {P3 : List Value} {w : World} {t : Tsk} {n : Int} {VF VB : Value} {rs hs : List Value} {gs : List (List Value)} (h : RunSt X B R P3 w t n VF VB rs hs gs) {f : Frm} (ht : TopOk t f) (x : Ins) (VX : Value) (ha : InR x.a) :
  Calls Tryz.prog 139 #[.pointer (some ⟨R,0,none⟩),.agg #[int .i64 x.op,int .i64 x.a,int .i64 x.b,int .i64 x.c,VX]] w (OpPost X B R P3 w (jumpS t f x.a) n) := by
 have hlR := h.lt.2
 have hBW : B ≤ w.heap.size := by have := h.lt;omega
 have R1 := h.task
 obtain ⟨gF,cF,v,rfl,hv,hpos,hgF,_,c0,c1,c2,c3,c4⟩ := h.top ht.top
 obtain ⟨g2,c2',e2,hB2,z2,_,_⟩ := h.set_pc ht.top
 cases e2
 have H := Lib.hid h
 have HT := Lib.hid ht.top
 have HA := Lib.hid ha
 have hl := ht.len
 unfold tskL at R1
 clear h ht hv
 obtain ⟨N,hN⟩ : ∃ N,t.frames.length = N := ⟨_,rfl⟩
 have HN := Lib.hid hN
 rw [hN] at R1 c0 c1 c2 c3 c4 hpos hl z2
 clear hN
 go_enter Tryz.func139,Tryz.ntmps139
 go_wp2
 (refine wp_region_quiet_tail 9 (by kernel_rfl) (by kernel_rfl) ?_;(try simp only [List.take_succ_cons,List.take_zero,List.drop_succ_cons,List.drop_zero]);(repeat (first | ((with_reducible show wpQuiet _ _ _ _ ({ dst := _,op := Op.load 32 _,type := _,pos := _,after := _,guard := none } :: _) _);refine wpQuiet_load_mid rfl 32 _ rfl _ _ rfl _ _ (range_regrown (by exact rg)) Tryz.underlying32 rfl (by exact infoTsk) ?_;(try simp only [Act.put,aset,dZ,dS])) | go_big_quiet_step ((go_at_call 75;exact quiet_ext ((innermost_any _ _ _ _ _ _ _ _ _ _ _ _ _ gF 0 N cF _ hpos (by omega)))))));refine wpQuiet_nil fun w1 h1 => ?_;obtain ⟨hc,hf,hs,he⟩ := eu (w := w) h1 xt;clear h1;(try simp only [sA,sC,sD,sN] at hs))
 go_wp2
 go_end0
 have h1 := H.out.mono (show Ext w w1 from he)
 obtain ⟨h2,hB⟩ := h1.jump HT.out rfl HA.out
 rw [← HN.out]
 exact ⟨rfl,⟨_,_,_,_,_,h2⟩,Kept.store (Kept.mono he hBW) hB _ (h2.hotF rfl)⟩
set_option maxRecDepth 4000 in
theorem op_assert {X : List Value} {B R : Nat} {P3 : List Value} {w : World} {t : Tsk} {n : Int} {VF VB : Value} {rs hs : List Value} {gs : List (List Value)} (h : RunSt X B R P3 w t n VF VB rs hs gs) {f : Frm} (ht : TopOk t f) (x : Ins) (VX : Value) (ha : InF f x.a) :
  Calls Tryz.prog 146 #[.pointer (some ⟨R,0,none⟩),.agg #[int .i64 x.op,int .i64 x.a,int .i64 x.b,int .i64 x.c,VX]] w (OpPost X B R P3 w (if regS f x.a = 0 then failT t 4 else jumpS t f (f.pc + 1)) n) := by
 have HG := Lib.hid (fun W (hE : Ext w W) => reg_is (h.mono hE) ht ha)
 have hlR := h.lt.2
 have hBW : B ≤ w.heap.size := by have := h.lt;omega
 have R1 := h.task
 obtain ⟨gF,cF,v,rfl,hv,hpos,hgF,_,c0,c1,c2,c3,c4⟩ := h.top ht.top
 obtain ⟨g2,c2',e2,hB2,z2,_,_⟩ := h.set_pc ht.top
 cases e2
 have H := Lib.hid h
 have HT := Lib.hid ht.top
 have hl := ht.len
 have hpc1 := ht.pc.1
 have hpc2 := ht.pc.2
 have hwr : IntKind.i64.wrap (f.pc + 1) = f.pc + 1 := IntWalk.i64_in _ (by omega)
 have HP : Hid (InR (f.pc + 1)) := ⟨by omega,by omega⟩
 clear h ht hv
 obtain ⟨y,hy⟩ : ∃ y,regS f x.a = y := ⟨_,rfl⟩
 rw [hy] at HG ⊢
 clear hy
 unfold tskL at R1
 obtain ⟨N,hN⟩ : ∃ N,t.frames.length = N := ⟨_,rfl⟩
 have HN := Lib.hid hN
 rw [hN] at R1 c0 c1 c2 c3 c4 hpos hl z2
 clear hN
 by_cases hy : y = 0
 ·have hy1 : (y == 0) = true := by simpa using hy
  rw [if_pos hy]
  clear hy
  go_enter Tryz.func146,Tryz.ntmps146
  go_wp2_with (first | ((first | (with_reducible refine jl 32 ?_) | (with_reducible refine il 32 ?_));refine ldm Tryz.underlying32 rfl rfl rfl (by exact rg) rfl (by exact infoTsk) ?_;dsimp only [dZ,dS]) | (go_at_call 125;refine (HG.out _ xt).mono ?_;rintro e w1 ⟨rfl,hb⟩;have R2 := range_ext (b := R) (o := 3) (by exact rg) hb;obtain ⟨hc,hf,hs,he⟩ := Ext.use (w := w) hb xt;clear hb;(try simp only [World.size_alloc] at hs)))
  exact ⟨rfl,rfl,⟨_,_,_,_,_,H.out.mono he⟩,Kept.mono he hBW⟩
 ·have hy1 : (y == 0) = false := by simpa using hy
  rw [if_neg hy]
  clear hy
  go_enter Tryz.func146,Tryz.ntmps146
  go_wp2_with (first | ((first | (with_reducible refine jl 32 ?_) | (with_reducible refine il 32 ?_));refine ldm Tryz.underlying32 rfl rfl rfl (by exact rg) rfl (by exact infoTsk) ?_;dsimp only [dZ,dS]) | (go_at_call 125;refine (HG.out _ xt).mono ?_;rintro e w1 ⟨rfl,hb⟩;have R2 := range_ext (b := R) (o := 3) (by exact rg) hb;obtain ⟨hc,hf,hs,he⟩ := Ext.use (w := w) hb xt;clear hb;(try simp only [World.size_alloc] at hs)) | (go_at_call 75;refine (innermost_any _ _ _ _ _ _ _ _ _ _ _ _ _ gF 0 N cF _ hpos (by omega)).mono ?_;rintro e w2 ⟨rfl,hb2⟩;obtain ⟨hc2,hf2,hs2,he2⟩ := Ext.use (w := w) hb2 xt;clear hb2))
  go_end0
  have h1 := H.out.mono (show Ext w w2 from he2)
  obtain ⟨h2,hB⟩ := h1.jump HT.out rfl HP.out
  rw [← HN.out]
  exact ⟨rfl,⟨_,_,_,_,_,h2⟩,Kept.store (Kept.mono he2 hBW) hB _ (h2.hotF rfl)⟩
set_option maxRecDepth 4000 in
theorem op_fail {X : List Value} {B R : Nat} {P3 : List Value} {w : World} {t : Tsk} {n : Int} {VF VB : Value} {rs hs : List Value} {gs : List (List Value)} (h : RunSt X B R P3 w t n VF VB rs hs gs) {f : Frm} (ht : TopOk t f) (x : Ins) (VX : Value) (ha : InF f x.a) :
  Calls Tryz.prog 147 #[.pointer (some ⟨R,0,none⟩),.agg #[int .i64 x.op,int .i64 x.a,int .i64 x.b,int .i64 x.c,VX]] w (OpPost X B R P3 w (if regS f x.a < 0 ∨ 899 < regS f x.a then failT t 8 else failT t (100 + regS f x.a)) n) := by
 have HG := Lib.hid (fun W (hE : Ext w W) => reg_is (h.mono hE) ht ha)
 have H := Lib.hid h
 have hBW : B ≤ w.heap.size := by have := h.lt;omega
 clear h ht
 obtain ⟨y,hy⟩ : ∃ y,regS f x.a = y := ⟨_,rfl⟩
 rw [hy] at HG ⊢
 clear hy
 by_cases hb : y < 0 ∨ 899 < y
 ·rw [if_pos hb]
  by_cases h0 : y < 0
  ·clear hb
   go_enter Tryz.func147,Tryz.ntmps147
   go_wp2_with (go_at_call 125;refine (HG.out _ xt).mono ?_;rintro e w1 ⟨rfl,hb⟩;obtain ⟨hc,hf,hs,he⟩ := Ext.use (w := w) hb xt;clear hb;(try simp only [sA,sC,sD,sN] at hs))
   exact ⟨rfl,rfl,⟨_,_,_,_,_,H.out.mono he⟩,Kept.mono he hBW⟩
  ·have h1 : 899 < y := by omega
   clear hb
   go_enter Tryz.func147,Tryz.ntmps147
   go_wp2_with (go_at_call 125;refine (HG.out _ xt).mono ?_;rintro e w1 ⟨rfl,hb⟩;obtain ⟨hc,hf,hs,he⟩ := Ext.use (w := w) hb xt;clear hb;(try simp only [sA,sC,sD,sN] at hs))
   exact ⟨rfl,rfl,⟨_,_,_,_,_,H.out.mono he⟩,Kept.mono he hBW⟩
 ·rw [if_neg hb]
  have h0 : ¬ y < 0 := fun h => hb (.inl h)
  have h1 : ¬ 899 < y := fun h => hb (.inr h)
  have hw : IntKind.i64.wrap (100 + y) = 100 + y := IntWalk.i64_in _ (by omega)
  clear hb
  go_enter Tryz.func147,Tryz.ntmps147
  go_wp2_with (go_at_call 125;refine (HG.out _ xt).mono ?_;rintro e w1 ⟨rfl,hb⟩;obtain ⟨hc,hf,hs,he⟩ := Ext.use (w := w) hb xt;clear hb;(try simp only [sA,sC,sD,sN] at hs))
  exact ⟨rfl,rfl,⟨_,_,_,_,_,H.out.mono he⟩,Kept.mono he hBW⟩
set_option maxRecDepth 4000 in
theorem op_unless {X : List Value} {B R : Nat} {P3 : List Value} {w : World} {t : Tsk} {n : Int} {VF VB : Value} {rs hs : List Value} {gs : List (List Value)} (h : RunSt X B R P3 w t n VF VB rs hs gs) {f : Frm} (ht : TopOk t f) (x : Ins) (VX : Value) (ha : InF f x.a) (hb : InR x.b) :
  Calls Tryz.prog 140 #[.pointer (some ⟨R,0,none⟩),.agg #[int .i64 x.op,int .i64 x.a,int .i64 x.b,int .i64 x.c,VX]] w (OpPost X B R P3 w (jumpS t f (if regS f x.a = 0 then x.b else f.pc + 1)) n) := by
 have hlR := h.lt.2
 have hBW : B ≤ w.heap.size := by have := h.lt;omega
 have hBR := h.lt.1
 have R1 := h.task
 obtain ⟨gF,cF,v,rfl,hv,hpos,hgF,⟨Av,cv,rfl,hcv⟩,c0,c1,c2,c3,c4⟩ := h.top ht.top
 obtain ⟨g2,c2',e2,hB2,z2,_,_⟩ := h.set_pc ht.top
 cases e2
 have H := Lib.hid h
 have HT := Lib.hid ht.top
 have hl := ht.len
 have hpc1 := ht.pc.1
 have hpc2 := ht.pc.2
 have hwr : IntKind.i64.wrap (f.pc + 1) = f.pc + 1 := IntWalk.i64_in _ (by omega)
 have HP : Hid (InR (f.pc + 1)) := ⟨by omega,by omega⟩
 have HB := Lib.hid hb
 obtain ⟨gr,cr,e3,hgr,x0⟩ := h.reg_cell ht.top hv (regS_get ha)
 cases e3
 have ha0 := ha.1
 have hal := ha.2
 have hrl := ht.regs
 obtain ⟨k,hk⟩ : ∃ k : Nat,x.a = (k : Int) := ⟨x.a.toNat,by omega⟩
 rw [hk,Int.toNat_natCast] at x0
 rw [hk] at hal ⊢
 rw [← hk] at x0 ⊢
 obtain ⟨y,hy⟩ : ∃ y,regS f x.a = y := ⟨_,rfl⟩
 rw [hy] at x0 ⊢
 clear h ht hv hy hb ha ha0
 obtain ⟨M,hM⟩ : ∃ M,f.regs.length = M := ⟨_,rfl⟩
 rw [hM] at hal hcv c2 hrl
 clear hM
 unfold tskL at R1
 obtain ⟨N,hN⟩ : ∃ N,t.frames.length = N := ⟨_,rfl⟩
 have HN := Lib.hid hN
 rw [hN] at R1 c0 c1 c2 c3 c4 hpos hl z2
 clear hN
 rw [hk]
 by_cases hy : y = 0
 ·have hy1 : (y == 0) = true := by simpa using hy
  rw [if_pos hy]
  clear hy
  go_enter Tryz.func140,Tryz.ntmps140
  go_wp2_with (first | ((first | (with_reducible refine jl 32 ?_) | (with_reducible refine il 32 ?_));refine ldm Tryz.underlying32 rfl rfl rfl (by exact rg) rfl (by exact infoTsk) ?_;dsimp only [dZ,dS]) | (go_at_call 75;refine (innermost_any _ _ _ _ _ _ _ _ _ _ _ _ _ gF 0 N cF _ hpos (by omega)).mono ?_;rintro e w2 ⟨rfl,hb2⟩;obtain ⟨hc2,hf2,hs2,he2⟩ := Ext.use (w := w) hb2 xt;clear hb2;(try simp only [World.size_alloc] at hs2);have y1 : gF < w2.heap.size := (by omega);have y2 : gr < w2.heap.size := (by omega);have y3 : w.heap.size < w2.heap.size := (by omega)))
  (refine wp_region_quiet_below (by kernel_rfl) (by kernel_rfl) ?_;(repeat (go_big_quiet_step (fail)));refine wpQuiet_nil fun w1 h1 => ?_;obtain ⟨hc,hf,hs,he⟩ := eu (w := w) h1 xt;clear h1;(try simp only [sA,sC,sD,sN] at hs))
  go_wp2
  go_end0
  have h1 := H.out.mono (show Ext w w1 from he)
  obtain ⟨h2,hB⟩ := h1.jump HT.out rfl HB.out
  rw [← HN.out]
  exact ⟨rfl,⟨_,_,_,_,_,h2⟩,Kept.store (Kept.mono he hBW) hB _ (h2.hotF rfl)⟩
 ·have hy1 : (y == 0) = false := by simpa using hy
  rw [if_neg hy]
  clear hy
  go_enter Tryz.func140,Tryz.ntmps140
  go_wp2_with (first | ((first | (with_reducible refine jl 32 ?_) | (with_reducible refine il 32 ?_));refine ldm Tryz.underlying32 rfl rfl rfl (by exact rg) rfl (by exact infoTsk) ?_;dsimp only [dZ,dS]) | (go_at_call 75;refine (innermost_any _ _ _ _ _ _ _ _ _ _ _ _ _ gF 0 N cF _ hpos (by omega)).mono ?_;rintro e w2 ⟨rfl,hb2⟩;obtain ⟨hc2,hf2,hs2,he2⟩ := Ext.use (w := w) hb2 xt;clear hb2;(try simp only [World.size_alloc] at hs2);have y1 : gF < w2.heap.size := (by omega);have y2 : gr < w2.heap.size := (by omega);have y3 : w.heap.size < w2.heap.size := (by omega)))
  (refine wp_region_quiet_below (by kernel_rfl) (by kernel_rfl) ?_;(repeat (go_big_quiet_step (fail)));refine wpQuiet_nil fun w1 h1 => ?_;obtain ⟨hc,hf,hs,he⟩ := eu (w := w) h1 xt;clear h1;(try simp only [sA,sC,sD,sN] at hs))
  go_wp2
  go_end0
  have h1 := H.out.mono (show Ext w w1 from he)
  obtain ⟨h2,hB⟩ := h1.jump HT.out rfl HP.out
  rw [← HN.out]
  exact ⟨rfl,⟨_,_,_,_,_,h2⟩,Kept.store (Kept.mono he hBW) hB _ (h2.hotF rfl)⟩
set_option maxRecDepth 4000 in
theorem op_mask {X : List Value} {B R : Nat} {P3 : List Value} {w : World} {t : Tsk} {n : Int} {VF VB : Value} {rs hs : List Value} {gs : List (List Value)} (h : RunSt X B R P3 w t n VF VB rs hs gs) {f : Frm} (ht : TopOk t f) (x : Ins) (VX : Value) (hm : -1000 ≤ t.mask ∧ t.mask ≤ 1000) :
  Calls Tryz.prog 144 #[.pointer (some ⟨R,0,none⟩),.agg #[int .i64 x.op,int .i64 x.a,int .i64 x.b,int .i64 x.c,VX]] w (OpPost X B R P3 w (maskS t f) n) := by
 have hlR := h.lt.2
 have hBW : B ≤ w.heap.size := by have := h.lt;omega
 have hBR := h.lt.1
 have R1 := h.task
 obtain ⟨gF,cF,v,rfl,hv,hpos,hgF,⟨Av,cv,rfl,hcv⟩,c0,c1,c2,c3,c4⟩ := h.top ht.top
 obtain ⟨g2,c2',e2,hB2,z2,_,_⟩ := h.set_pc ht.top
 cases e2
 have H := Lib.hid h
 have HT := Lib.hid ht.top
 have hl := ht.len
 have hpc1 := ht.pc.1
 have hpc2 := ht.pc.2
 have hwr : IntKind.i64.wrap (f.pc + 1) = f.pc + 1 := IntWalk.i64_in _ (by omega)
 have HP : Hid (InR (f.pc + 1)) := ⟨by omega,by omega⟩
 have m1 : w.cell? ⟨R,12,none⟩ = some (int .i64 t.mask) := h.cellT (j := 9) rfl
 have m2 := h.frozen 12
 have hm1 := hm.1
 have hm2 := hm.2
 have hwm : IntKind.i64.wrap (t.mask + 1) = t.mask + 1 := IntWalk.i64_in _ (by omega)
 have hne : ¬ gF = R := fun e => by
  have := apart_types h.fr.row h.box (by decide)
  subst e
  rcases this with h | h
  ·cases h
  ·exact h rfl
 have hne2 : ¬ R = gF := fun e => hne e.symm
 unfold maskS
 clear h ht hv hm
 unfold tskL at R1
 obtain ⟨N,hN⟩ : ∃ N,t.frames.length = N := ⟨_,rfl⟩
 have HN := Lib.hid hN
 rw [hN] at R1 c0 c1 c2 c3 c4 hpos hl z2
 clear hN
 by_cases hy : 100 ≤ t.mask
 ·rw [if_pos hy]
  go_enter Tryz.func144,Tryz.ntmps144
  go_wp2
  exact ⟨rfl,rfl,⟨_,_,_,_,_,H.out.mono xt⟩,Kept.mono (show Ext w _ from xt) hBW⟩
 ·rw [if_neg hy]
  go_enter Tryz.func144,Tryz.ntmps144
  go_wp2_with (first | ((first | (with_reducible refine jl 32 ?_) | (with_reducible refine il 32 ?_));refine ldm Tryz.underlying32 rfl rfl rfl (by exact rg) rfl (by exact infoTsk) ?_;dsimp only [dZ,dS]) | (go_at_call 75;refine (innermost_any _ _ _ _ _ _ _ _ _ _ _ _ _ gF 0 N cF _ hpos (by omega)).mono ?_;rintro e w2 ⟨rfl,hb2⟩;have hE2 : Ext (w.setCell ⟨R,12,none⟩ (int .i64 (t.mask + 1))) w2 := Ext.trans xt hb2;have h1 := Lib.hid ((H.out.set_mask (t.mask + 1)).mono hE2);obtain ⟨g9,c9,e9,_,z9,p9,_⟩ := h1.out.set_pc (i := t.frames.length - 1) HT.out;injection e9 with q1 q2 q3;injection q1 with q1;injection q1 with q1;subst q1;rw [HN.out] at z9 p9;clear hb2))
  go_end0
  obtain ⟨h2,hB⟩ := h1.out.jump HT.out rfl HP.out
  have hBb : Kept B w w2 := Kept.trans (Kept.store (Kept.refl _ _) hBR _ (H.out.hotR.setCell _ _)) (Kept.mono hE2 (by rw [World.size_setCell];exact hBW))
  rw [← HN.out]
  exact ⟨rfl,⟨_,_,_,_,_,h2⟩,Kept.store hBb hB _ (h2.hotF rfl)⟩
set_option maxRecDepth 4000 in
theorem op_unmask {X : List Value} {B R : Nat} {P3 : List Value} {w : World} {t : Tsk} {n : Int} {VF VB : Value} {rs hs : List Value} {gs : List (List Value)} (h : RunSt X B R P3 w t n VF VB rs hs gs) {f : Frm} (ht : TopOk t f) (x : Ins) (VX : Value) (hm : -1000 ≤ t.mask ∧ t.mask ≤ 1000) (b : Blk) (hb : lastB t = some b) (hbl : t.blocks.length ≤ 1000) :
  Calls Tryz.prog 145 #[.pointer (some ⟨R,0,none⟩),.agg #[int .i64 x.op,int .i64 x.a,int .i64 x.b,int .i64 x.c,VX]] w (OpPost X B R P3 w (unmaskS t f) n) := by
 have hlR := h.lt.2
 have hBW : B ≤ w.heap.size := by have := h.lt;omega
 have hBR := h.lt.1
 have R1 := h.task
 obtain ⟨gF,cF,v,rfl,hv,hpos,hgF,⟨Av,cv,rfl,hcv⟩,c0,c1,c2,c3,c4⟩ := h.top ht.top
 obtain ⟨g2,c2',e2,hB2,z2,_,_⟩ := h.set_pc ht.top
 cases e2
 have H := Lib.hid h
 have HT := Lib.hid ht.top
 have hl := ht.len
 have hpc1 := ht.pc.1
 have hpc2 := ht.pc.2
 have hwr : IntKind.i64.wrap (f.pc + 1) = f.pc + 1 := IntWalk.i64_in _ (by omega)
 have HP : Hid (InR (f.pc + 1)) := ⟨by omega,by omega⟩
 have m1 : w.cell? ⟨R,12,none⟩ = some (int .i64 t.mask) := h.cellT (j := 9) rfl
 have m2 := h.frozen 12
 unfold lastB at hb
 have hbpos : 0 < t.blocks.length := by have := (List.getElem?_eq_some_iff.1 hb).1;omega
 obtain ⟨gB,cB,eB,hgB⟩ := own_form h.bl.row hbpos
 have m3 : w.cell? ⟨R,11,none⟩ = some VB := h.cellT (j := 8) rfl
 obtain ⟨v4,hv4⟩ : ∃ v,hs[t.blocks.length - 1]? = some v := ⟨_,List.getElem?_eq_getElem (by rw [h.bl.len];omega)⟩
 have m4 : w.cell? ⟨gB,(t.blocks.length - 1) * 5 + 3,none⟩ = some (int .i64 b.mask) := by
  have h9 := h.bl.row
  rw [eB] at h9
  rw [h9.cellAt _ (by omega),rowOf_get blkCells_len hb hv4 (by omega)];rfl
 have hlB : gB < w.heap.size := lt_of_cell m4
 have HLB : Hid (lastB t = some b) := hb
 have hsB : IntKind.i64.wrap ((t.blocks.length : Int) - 1) = ((t.blocks.length - 1 : Nat) : Int) := by rw [IntWalk.i64_in _ (by omega)];omega
 have hs1B : ((t.blocks.length - 1 : Nat) : Int) < (t.blocks.length : Int) := by omega
 have hs2B : (0 : Int) ≤ ((t.blocks.length - 1 : Nat) : Int) := by omega
 have hm1 := hm.1
 have hm2 := hm.2
 have hwm : IntKind.i64.wrap (t.mask - 1) = t.mask - 1 := IntWalk.i64_in _ (by omega)
 have hne : ¬ gF = R := fun e => by
  have := apart_types h.fr.row h.box (by decide)
  subst e
  rcases this with h | h
  ·cases h
  ·exact h rfl
 have hne2 : ¬ R = gF := fun e => hne e.symm
 rw [show unmaskS t f = if t.mask = 0 ∨ t.mask = b.mask then failT t 8 else ({ setTop t { f with pc := f.pc + 1 } with mask := t.mask - 1 },goOn) by unfold unmaskS;rw [HLB.out]]
 subst eB
 clear h ht hv hm hb hv4
 unfold tskL at R1
 obtain ⟨N,hN⟩ : ∃ N,t.frames.length = N := ⟨_,rfl⟩
 have HN := Lib.hid hN
 rw [hN] at R1 c0 c1 c2 c3 c4 hpos hl z2
 clear hN
 by_cases hz : t.mask = 0
 ·rw [if_pos (.inl hz)]
  have hz1 : (t.mask == 0) = true := by simpa using hz
  clear hz
  go_enter Tryz.func145,Tryz.ntmps145
  go_wp2
  (refine wp_region_quiet_below (by kernel_rfl) (by kernel_rfl) ?_;(repeat (go_big_quiet_step (fail)));refine wpQuiet_nil fun w1 h1 => ?_;obtain ⟨hc,hf,hs,he⟩ := eu (w := w) h1 xt;clear h1;(try simp only [sA,sC,sD,sN] at hs))
  go_wp2
  exact ⟨rfl,rfl,⟨_,_,_,_,_,H.out.mono xt⟩,Kept.mono (show Ext w _ from xt) hBW⟩
 have hz1 : (t.mask == 0) = false := beq_eq_false_iff_ne.2 hz
 by_cases hy : t.mask = b.mask
 ·rw [if_pos (.inr hy)]
  have hy1 : (t.mask == b.mask) = true := by simpa using hy
  clear hz hy
  go_enter Tryz.func145,Tryz.ntmps145
  go_wp2
  (refine wp_region_quiet_below (by kernel_rfl) (by kernel_rfl) ?_;(repeat (go_big_quiet_step (fail)));refine wpQuiet_nil fun w1 h1 => ?_;obtain ⟨hc,hf,hs,he⟩ := eu (w := w) h1 xt;clear h1;(try simp only [sA,sC,sD,sN] at hs))
  go_wp2
  exact ⟨rfl,rfl,⟨_,_,_,_,_,H.out.mono xt⟩,Kept.mono (show Ext w _ from xt) hBW⟩
 ·rw [if_neg (by rintro (h | h);exact hz h;exact hy h)]
  have hy1 : (t.mask == b.mask) = false := beq_eq_false_iff_ne.2 hy
  clear hz hy
  go_enter Tryz.func145,Tryz.ntmps145
  go_wp2
  (refine wp_region_quiet_below (by kernel_rfl) (by kernel_rfl) ?_;(repeat (go_big_quiet_step (fail)));refine wpQuiet_nil fun w1 h1 => ?_;obtain ⟨hc,hf,hs,he⟩ := eu (w := w) h1 xt;clear h1;(try simp only [sA,sC,sD,sN] at hs))
  have H1 := Lib.hid (H.out.mono (show Ext w w1 from he))
  have R2 := range_ext R1 he
  have n1 := he.cell m1
  have n2 := H1.out.frozen 12
  have d1 := he.cell c1
  go_wp2_with (first | ((first | (with_reducible refine jl 32 ?_) | (with_reducible refine il 32 ?_));refine ldm Tryz.underlying32 rfl rfl rfl (by exact rg) rfl (by exact infoTsk) ?_;dsimp only [dZ,dS]) | (go_at_call 75;refine (innermost_any _ _ _ _ _ _ _ _ _ _ _ _ _ gF 0 N cF _ hpos (by omega)).mono ?_;rintro e w2 ⟨rfl,hb2⟩;have hE2 : Ext (w1.setCell ⟨R,12,none⟩ (int .i64 (t.mask - 1))) w2 := Ext.trans xt hb2;have h1 := Lib.hid ((H1.out.set_mask (t.mask - 1)).mono hE2);obtain ⟨g9,c9,e9,_,z9,p9,_⟩ := h1.out.set_pc (i := t.frames.length - 1) HT.out;injection e9 with q1 q2 q3;injection q1 with q1;injection q1 with q1;subst q1;rw [HN.out] at z9 p9;clear hb2))
  go_end0
  obtain ⟨h2,hB⟩ := h1.out.jump HT.out rfl HP.out
  have hBb : Kept B w w2 := Kept.trans (Kept.store (Kept.mono he hBW) hBR _ (H1.out.hotR.setCell _ _)) (Kept.mono hE2 (by rw [World.size_setCell];exact Nat.le_trans hBW he.size))
  rw [← HN.out]
  exact ⟨rfl,⟨_,_,_,_,_,h2⟩,Kept.store hBb hB _ (h2.hotF rfl)⟩
end Go.Proofs.YtcjjoabofecjmaaGreat

