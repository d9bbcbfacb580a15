/- A part of the proof: TaskAdvance answers true. -/
import Derived.Test.YtcjjoabofecjmaaGreatQ29
import Derived.Test.YtcjjoabofecjmaaGreatQ53
import Derived.Laws.StructEq
set_option linter.unusedVariables false
set_option linter.unusedSimpArgs false
set_option maxHeartbeats 16000000
namespace Go.Proofs.YtcjjoabofecjmaaGreat
open Go.RowKit Go.Sort
open Go.Value (int)
theorem rAdvance_any (p : Prg) (t : Tsk) (VP VT : Value) (w : World) (hP : RPrg w p VP) (hT : RTsk w t VT) : Calls Tryz.prog 25 #[VP,VT] w (AdvPost p t w) := by
 by_cases hc : tcheckS p t = 0
 ·by_cases hst : t.status = 1
  ·by_cases hu : t.unw = true ∧ inHand t = false
   ·exact rAdvance_unwinding p t VP VT w hP hT hc hst hu.1 hu.2
   ·exact rAdvance_run p t VP VT w hP hT hc hst (fun h => by
     cases hy : inHand t with
     | true => rfl
     | false => exact absurd ⟨h,hy⟩ hu) (frames_some hc hst hu)
  ·exact rAdvance_state p t VP VT w hP hT hc hst
 ·exact rAdvance_bad p t VP VT w hP hT hc
theorem stop_eql (k r v : Int) (w : World) : (binOp BinOp.eql 49 (.agg #[int .i64 k,int .i64 r,int .i64 v]) (.agg #[int .i64 k,int .i64 r,int .i64 v])).run Tryz.prog w = .ok (.bool true) w := by
 have hS : Tryz.prog.underlying 49 = some (.struct (Tryz.prog.fieldsOf 49)) := by kernel_rfl
 have hp : Tryz.prog.stoodInHeld 49 = false := by kernel_rfl
 rw [run_eql_struct,show (10000 : Nat) = 9999 + 1 from rfl,run_equalIn_agg w 9999 49 _ _ hS hp]
 simp only [Program.fieldsOf,Tryz.underlying49]
 go_simp
set_option maxRecDepth 8000 in
theorem lawAdvance_any (p : Prg) (t : Tsk) (VP VT : Value) (w : World) (hP : RPrg w p VP) (hT : RTsk w t VT) :
  Calls Tryz.prog 5 #[VP,VT] w fun e w' => e = .returned (.bool true) ∧ Ext w w' := by
 have HG := Lib.hid (fun W (h : Ext w W) => great_any p t VP VT W (hP.mono h) (hT.mono h))
 have HX := Lib.hid (fun W (h : Ext w W) => Advance_any p t VP VT W (hP.mono h) (hT.mono h))
 have HY := Lib.hid (fun W (h : Ext w W) => rAdvance_any p t VP VT W (hP.mono h) (hT.mono h))
 obtain ⟨ct,rfl⟩ := hT.cells
 obtain ⟨Af,nf,cf,Ao,no,co,Av,nv,cv,rfl,_⟩ := hP
 obtain ⟨⟨u,⟨k,r,v⟩,er⟩,hq⟩ : ∃ r,advanceS p t = r := ⟨_,rfl⟩
 unfold AdvPost at HX HY
 rw [hq] at HX HY
 dsimp only at HX HY
 clear hT hq
 cases hg : (greatP p || greatT t) with
 | true =>
  rw [hg] at HG
  clear hg HX HY
  go_enter Tryz.func5,Tryz.ntmps5
  go_wp2_with (first | ((first | (with_reducible refine jl 26 ?_) | (with_reducible refine il 26 ?_));refine ldm Tryz.underlying26 rfl rfl rfl (by exact rg) rfl (by exact infoPrg) ?_;dsimp only [dZ,dS]) | ((first | (with_reducible refine jl 32 ?_) | (with_reducible refine il 32 ?_));refine ldm Tryz.underlying32 rfl rfl rfl (by exact rg) rfl (by exact Cells14.info _) ?_;dsimp only [dZ,dS]) | (go_at_call 13;refine (HG.out _ xt).mono ?_;rintro e w1 ⟨rfl,hb⟩;obtain ⟨hc,hf,hs,he⟩ := Ext.use (w := w) hb xt;clear hb;(try simp only [sA,sC,sD,sN] at hs)) | (go_at_call 14;refine (awake_any _).mono ?_;rintro e w2 ⟨rfl,hb2⟩;have he2 := Ext.trans he hb2;clear hb2))
  go_ret
  exact ⟨rfl,he2⟩
 | false =>
  rw [hg] at HG
  clear hg
  unfold stopA at HX HY
  have heq := fun w => stop_eql k r v w
  go_enter Tryz.func5,Tryz.ntmps5
  go_upto_region 4 with (first | ((first | (with_reducible refine jl 26 ?_) | (with_reducible refine il 26 ?_));refine ldm Tryz.underlying26 rfl rfl rfl (by exact rg) rfl (by exact infoPrg) ?_;dsimp only [dZ,dS]) | ((first | (with_reducible refine jl 32 ?_) | (with_reducible refine il 32 ?_));refine ldm Tryz.underlying32 rfl rfl rfl (by exact rg) rfl (by exact Cells14.info _) ?_;dsimp only [dZ,dS]) | ((with_reducible refine ik 32 ?_);refine wpList_store_mid rfl 32 _ _ rfl _ _ (List.toArray (Cells14.l _)) rfl rfl (by refine Cells14.there _ ?_;exact tr) (Cells14.infoA _) (Cells14.oneA _) ?_;(try dsimp only [Act.put])) | ((first | (with_reducible refine jk 49 ?_) | (with_reducible refine ik 49 ?_));refine stm rfl rfl rfl rfl (by exact tr) infoStop (all_oneCell_toArray (by simp [Value.oneCell'])) ?_;(try dsimp only [Act.put])) | (go_at_call 13;refine (HG.out _ xt).mono ?_;rintro e w1 ⟨rfl,hb⟩;have R1 := range_ext (b := w.heap.size + 1) (o := 0) (by exact rg) hb;have Q1 := range_ext (b := w.heap.size) (o := 0) (cs := [.slice Af nf cf,.slice Ao no co,.slice Av nv cv]) (by exact rg) hb;have HE1 : Hid (Ext w w1) := Ext.trans xt hb;clear hb) | (go_at_call 24;refine (HX.out _ HE1.out).mono ?_;rintro e w2 ⟨V2,rfl,hT2,hb2⟩;obtain ⟨c2,rfl⟩ := hT2.cells;have HT2 := Lib.hid hT2;have HB2 := Lib.hid hb2;clear hT2 hb2))
  refine wp_hid2 ?_
  intro W3 HW3
  have HF3 : Hid (Ext w1 W3) := by have h := HB2.out;have h2 := h.size;rw [Hid,HW3.out];exact xts
  have HE3 : Hid (Ext w W3) := HE1.out.trans HF3.out
  have R3 : W3.rangeAt (w.heap.size + 1) 0 ct.l := range_ext R1 HF3.out
  have Q3 := range_ext Q1 HF3.out
  have HG3 : Hid (Ext w2 W3) := by rw [Hid,HW3.out];exact xts
  have U3 : W3.rangeAt w2.heap.size 0 c2.l := by rw [HW3.out];exact (ranges_two (by omega) (c2.there' (by exact tr)) (by show World.there _ _ 0 3;exact tr)).1
  have S3 : W3.rangeAt (w2.heap.size + 1) 0 [int .i64 k,int .i64 r,int .i64 v] := by rw [HW3.out];exact (ranges_two (by omega) (c2.there' (by exact tr)) (by show World.there _ _ 0 3;exact tr)).2
  have HT3 : Hid (RTsk W3 u (.agg c2.l.toArray)) := HT2.out.mono HG3.out
  clear HW3 HT2 HB2 HG3 R1 Q1
  go_upto_region 5 with (first | ((first | (with_reducible refine jl 26 ?_) | (with_reducible refine il 26 ?_));refine ldm Tryz.underlying26 rfl rfl rfl (by exact rg) rfl (by exact infoPrg) ?_;dsimp only [dZ,dS]) | ((first | (with_reducible refine jl 32 ?_) | (with_reducible refine il 32 ?_));refine ldm Tryz.underlying32 rfl rfl rfl (by exact rg) rfl (by exact Cells14.info _) ?_;dsimp only [dZ,dS]) | ((with_reducible refine ik 32 ?_);refine wpList_store_mid rfl 32 _ _ rfl _ _ (List.toArray (Cells14.l _)) rfl rfl (by refine Cells14.there _ ?_;exact tr) (Cells14.infoA _) (Cells14.oneA _) ?_;(try dsimp only [Act.put])) | ((first | (with_reducible refine jk 49 ?_) | (with_reducible refine ik 49 ?_));refine stm rfl rfl rfl rfl (by exact tr) infoStop (all_oneCell_toArray (by simp [Value.oneCell'])) ?_;(try dsimp only [Act.put])) | (go_at_call 25;refine (HY.out _ HE3.out).mono ?_;rintro e w4 ⟨V4,rfl,hT4,hb4⟩;obtain ⟨c4,rfl⟩ := hT4.cells;have HT4 := Lib.hid hT4;have HB4 := Lib.hid hb4;clear hT4 hb4))
  refine wp_hid2 ?_
  intro W5 HW5
  have HF5 : Hid (Ext W3 W5) := by have h := HB4.out;have h2 := h.size;rw [Hid,HW5.out];exact xts
  have HE5 : Hid (Ext w W5) := HE3.out.trans HF5.out
  have HG5 : Hid (Ext w4 W5) := by rw [Hid,HW5.out];exact xts
  have U5 := range_ext U3 HF5.out
  have S5 := range_ext S3 HF5.out
  have X5 : W5.rangeAt w4.heap.size 0 c4.l := by rw [HW5.out];exact (ranges_two (by omega) (c4.there' (by exact tr)) (by show World.there _ _ 0 3;exact tr)).1
  have Y5 : W5.rangeAt (w4.heap.size + 1) 0 [int .i64 k,int .i64 r,int .i64 v] := by rw [HW5.out];exact (ranges_two (by omega) (c4.there' (by exact tr)) (by show World.there _ _ 0 3;exact tr)).2
  have HSM : Hid (∀ W,Ext W5 W → Calls Tryz.prog 23 #[.agg c2.l.toArray,.agg c4.l.toArray] W fun e w' => e = .returned (.bool true) ∧ Ext W w') := fun W hW => by
   have := Same_any u u _ _ W (HT3.out.mono (HF5.out.trans hW)) (HT4.out.mono (HG5.out.trans hW))
   rw [decide_eq_true rfl] at this
   exact this
  clear HW5 HT3 HT4 HB4 U3 S3 R3 Q3 HF3 HF5 HG5 HX HY
  go_wp2_with (first | ((first | (with_reducible refine jl 32 ?_) | (with_reducible refine il 32 ?_));refine ldm Tryz.underlying32 rfl rfl rfl (by exact rg) rfl (by exact Cells14.info _) ?_;dsimp only [dZ,dS]) | ((with_reducible refine ig 49 ?_);refine ldg Tryz.underlying49 (by rfl) rfl rfl (by exact rg) rfl (by exact infoStop) ?_;dsimp only [dZ,dS]) | (go_at_call 23;refine (HSM.out _ (Ext.refl _)).mono ?_;rintro e w6 ⟨rfl,hb6⟩;have S6 := range_ext S5 hb6;have Y6 := range_ext Y5 hb6;have HE6 := Lib.hid hb6;clear hb6) | (go_at_call 14;refine (awake_any _).mono ?_;rintro e w9 ⟨rfl,hb9⟩;have HE9 := Lib.hid (Ext.trans HE6.out hb9);clear hb9))
  go_ret
  exact ⟨rfl,HE5.out.trans HE9.out⟩
end Go.Proofs.YtcjjoabofecjmaaGreat

