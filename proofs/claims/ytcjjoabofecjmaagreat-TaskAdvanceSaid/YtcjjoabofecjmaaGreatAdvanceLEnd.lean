/- TaskAdvance returns true for every program and task, and each argument reads behind the call as it read before. -/
import Derived.Test.YtcjjoabofecjmaaGreatRows
import Derived.Test.YtcjjoabofecjmaaGreatQ02
import Derived.Test.YtcjjoabofecjmaaGreatQ54
import Derived.Below
set_option linter.unusedVariables false
set_option linter.unusedSimpArgs false
set_option maxHeartbeats 16000000
namespace Go.Proofs.YtcjjoabofecjmaaGreat
open Go.ChangeShapes Go.WideShapes Go.ChangeAt Go.RowKit
open Go.Value (int)
theorem lawAd_own : ownKnob Tryz.prog.godebug = none := by kernel_rfl
theorem lawAd_laid : laidOutB Tryz.prog = true := by kernel_rfl
set_option maxRecDepth 100000 in
theorem lawAd_lifted (os : Os) (started : os.Started) (H : Type) (enc : TypeId × Value → H) :
  ReturnsInHanded {} Tryz.checked os 5 .any (Rows.taskAdvanceSpec.pre6 enc Tryz.prog Tryz.f5 Rows.taskAdvanceRow.domain false) (Rows.taskAdvanceSpec.post enc Tryz.prog Tryz.f5 false true false false) := by
 refine returnsInHanded_of_change_sized (C := Tryz.checked) lawAd_own started (by kernel_rfl) Tryz.func5
  (ChangeSpec.witness6 (enc := enc) (C := Tryz.checked) false ⟨#[],#[.agg #[.slice none 0 0,.slice none 0 0,.slice none 0 0],.agg #[int .i64 0,int .i64 0,int .i64 0,int .i64 0,int .i64 0,int .i64 0,.bool false,.slice none 0 0,.slice none 0 0,int .i64 0,.bool false,int .i64 0,int .i64 0,int .i64 0]],[]⟩ 8 (by kernel_rfl) (by kernel_rfl) (by kernel_rfl) (by kernel_rfl)) ?_
 intro W base args ds gs before hval0 hW hcnd hwt _
 have hval : ∀ (j : Nat) t v,Tryz.f5.params[j]? = some t → args[j]? = some v → Value.okWide Tryz.prog W .any base t v := hval0
 have hW' := hW
 obtain ⟨p,q,hA0,hV,rfl,hfz,hnd⟩ := hW
 have hA : DataW.TrodAll enc Tryz.prog W 0 (fun _ => true) true Tryz.f5.params.toList args.toList ds p := hA0
 rw [Tryz.params5] at hA hval hwt
 obtain ⟨v0,vs0,d0,ds0,pp0,qq0,hargs,rfl,rfl,h0,r0⟩ := trodAll_cons hA
 obtain ⟨v1,vs1,d1,ds1,pp1,qq1,rfl,rfl,rfl,h1,r1⟩ := trodAll_cons r0
 obtain ⟨rfl,rfl,rfl⟩ := trodAll_nil r1
 obtain rfl : args = #[v0,v1] := by cases args;simp_all
 obtain ⟨rfl,rfl⟩ := trodVars_none hV
 have s0 : Small 26 d0 := fun n hn => by simpa using List.all_eq_true.1 hwt n (DataW.weights_mem_each (j := 0) rfl rfl n hn)
 have k0 := h0
 have lt0 : ∀ x ∈ pp0,x.block < W.heap.size := by obtain ⟨m,hm⟩ := k0;exact DataW.trod_lt m _ _ _ hm
 obtain ⟨p0,hP0⟩ := prg_in (hval 0 26 v0 rfl rfl) h0 s0
 have s1 : Small 32 d1 := fun n hn => by simpa using List.all_eq_true.1 hwt n (DataW.weights_mem_each (j := 1) rfl rfl n hn)
 have k1 := h1
 have lt1 : ∀ x ∈ pp1,x.block < W.heap.size := by obtain ⟨m,hm⟩ := k1;exact DataW.trod_lt m _ _ _ hm
 obtain ⟨t1,hT1⟩ := tsk_in (hval 1 32 v1 rfl rfl) h1 s1
 clear hA0 hval0
 refine (lawAdvance_any p0 t1 v0 v1 W hP0 hT1).mono fun e W' ⟨he,bel⟩ => ?_
 subst he
 exact ⟨_,rfl,_,_,_,[],_,[],hW',trodAll_mk1 (shut_bool Tryz.underlying4 _),(trodAll_cons_mk (Below.trod lawAd_laid (by kernel_rfl) (of_decide_eq_true (by kernel_rfl)) k0 bel lt0) (trodAll_cons_mk (Below.trod lawAd_laid (by kernel_rfl) (of_decide_eq_true (by kernel_rfl)) k1 bel lt1) trodAll_mk0)),rfl,bel.frame _,fun h => by cases h⟩
theorem lawAd_over : Rows.taskAdvanceRow.holds Tryz.pinned (OpenSpec.ofChange Rows.taskAdvanceSpec) :=
 OpenClaim.holds_of_wide 5 Tryz.f5 rfl rfl rfl rfl rfl rfl rfl ⟨rfl,rfl,rfl,rfl,rfl⟩ rfl rfl rfl rfl rfl (by kernel_rfl) Tryz.func5 (by kernel_rfl)
  (of_decide_eq_true (by kernel_rfl)) (by unfold Func.isWrapper;first | (rw [if_pos (by decide +kernel)];kernel_rfl) | (rw [if_neg (by decide +kernel)];exact ⟨rfl,rfl⟩))
  (fun os started H enc _ => lawAd_lifted os started H enc)
theorem taskAdvance_proved : Rows.TaskAdvanceSaid := lawAd_over
end Go.Proofs.YtcjjoabofecjmaaGreat

