/- A part of the proof: TaskStops answers true. -/
import Derived.Test.YtcjjoabofecjmaaGreatQ04
import Derived.Test.YtcjjoabofecjmaaGreatQ16
import Derived.Test.YtcjjoabofecjmaaGreatQ17
set_option linter.unusedVariables false
set_option linter.unusedSimpArgs false
namespace Go.Proofs.YtcjjoabofecjmaaGreat
open Go.RowKit Go.Sort
theorem RTsk.cells2 {w : World} {t : Tsk} {V : Value} (h : RTsk w t V) : ∃ (c : Cells14) (VF VB : Value), V = .agg c.l.toArray ∧ c.l = tskL t VF VB := by
  obtain ⟨Af, nf, cf, Ab, nb, cb, rfl, _⟩ := h
  exact ⟨⟨tskL t (.slice Af nf cf) (.slice Ab nb cb), rfl, by simp [tskL, Value.oneCell']⟩, _, _, rfl, rfl⟩
theorem adv_law {p : Prg} {t u : Tsk} {k r v er : Int} {VP VT : Value} {w : World} (h : advanceS p t = (u, ⟨k, r, v⟩, er)) (hP : RPrg w p VP) (hT : RTsk w t VT) :
    Calls Tryz.prog 24 #[VP, VT] w fun e w' => ∃ V', e = .returned (.tuple #[V', .agg #[Value.int .i64 k, Value.int .i64 r, Value.int .i64 v], Value.int .i64 er]) ∧ RTsk w' u V' ∧ Ext w w' := by
  have := Advance_any p t VP VT w hP hT
  unfold AdvPost at this
  rw [h] at this
  exact this
set_option maxRecDepth 8000 in
set_option maxHeartbeats 8000000 in
theorem stops_great (p : Prg) (t : Tsk) (VP VT : Value) (w : World) (hP : RPrg w p VP) (hT : RTsk w t VT) (hg : (greatP p || greatT t) = true) : Calls Tryz.prog 6 #[VP, VT] w fun e w' => e = .returned (.bool true) ∧ Ext w w' := by
  have HG := Lib.hid (fun W (h : Ext w W) => great_any p t VP VT W (hP.mono h) (hT.mono h))
  rw [hg] at HG
  obtain ⟨c, rfl⟩ := hT.cells
  obtain ⟨Af, nf, cf, Ao, no, co, Av, nv, cv, rfl, _⟩ := hP
  clear hT hg
  go_enter Tryz.func6, Tryz.ntmps6
  go_wp2_with (first | ((first | ((with_reducible show Code.wp _ (Code.region _ (List.toArray ({ dst := _, op := Op.load 26 _, type := _, pos := _, after := _, guard := none } :: _)) false) _ _ _); refine wp_region_lit ?_) | (with_reducible show wpList _ _ _ ({ dst := _, op := Op.load 26 _, type := _, pos := _, after := _, guard := none } :: _) _ _)); refine wpList_load_mid rfl 26 _ rfl _ _ rfl _ _ (by exact rg) Tryz.underlying26 rfl (by exact infoPrg) ?_; dsimp only [dZ, dS]) | ((first | ((with_reducible show Code.wp _ (Code.region _ (List.toArray ({ dst := _, op := Op.load 32 _, type := _, pos := _, after := _, guard := none } :: _)) false) _ _ _); refine wp_region_lit ?_) | (with_reducible show wpList _ _ _ ({ dst := _, op := Op.load 32 _, type := _, pos := _, after := _, guard := none } :: _) _ _)); refine wpList_load_mid rfl 32 _ rfl _ _ rfl _ _ (by exact rg) Tryz.underlying32 rfl (by exact Cells14.info _) ?_; dsimp only [dZ, dS]) | (go_at_call 13; refine (HG.out _ xt).mono ?_; rintro e w1 ⟨rfl, hb⟩; obtain ⟨hc, hf, hs, he⟩ := Ext.use (w := w) hb xt; clear hb; (try simp only [sA, sC, sD, sN] at hs)) | (go_at_call 14; refine (awake_any _).mono ?_; rintro e w2 ⟨rfl, hb2⟩; have he2 := Ext.trans he hb2; clear hb2))
  go_ret
  exact ⟨rfl, he2⟩
set_option maxRecDepth 8000 in
set_option maxHeartbeats 8000000 in
theorem stops_err (p : Prg) (t u : Tsk) (VP VT : Value) (w : World) (er : Int) (hP : RPrg w p VP) (hT : RTsk w t VT) (hg : (greatP p || greatT t) = false) (hA : advanceS p t = (u, ⟨0, 0, 0⟩, er)) (he : (er = 1 ∧ tcheckS p t = 1) ∨ (er = 17 ∧ tcheckS p t = 0 ∧ t.status ≠ 1)) :
    Calls Tryz.prog 6 #[VP, VT] w fun e w' => e = .returned (.bool true) ∧ Ext w w' := by
  have HG := Lib.hid (fun W (h : Ext w W) => great_any p t VP VT W (hP.mono h) (hT.mono h))
  rw [hg] at HG
  have HA := Lib.hid (fun W (h : Ext w W) => adv_law hA (hP.mono h) (hT.mono h))
  have HC := Lib.hid (fun W (h : Ext w W) => tCheck_any p t VP VT W (hP.mono h) (hT.mono h))
  have HP := Lib.hid hP
  obtain ⟨c, VF, VB, rfl, hcl⟩ := hT.cells2
  have HCL := Lib.hid hcl
  obtain ⟨Af, nf, cf, Ao, no, co, Av, nv, cv, rfl, _⟩ := hP
  clear hT hg hA hcl
  rcases he with ⟨rfl, hc⟩ | ⟨rfl, hc, hst⟩
  · rw [hc] at HC
    clear hc
    go_enter Tryz.func6, Tryz.ntmps6
    go_upto_region 4 with (first | ((first | ((with_reducible show Code.wp _ (Code.region _ (List.toArray ({ dst := _, op := Op.load 26 _, type := _, pos := _, after := _, guard := none } :: _)) false) _ _ _); refine wp_region_lit ?_) | (with_reducible show wpList _ _ _ ({ dst := _, op := Op.load 26 _, type := _, pos := _, after := _, guard := none } :: _) _ _)); refine wpList_load_mid rfl 26 _ rfl _ _ rfl _ _ (by exact rg) Tryz.underlying26 rfl (by exact infoPrg) ?_; dsimp only [dZ, dS]) | ((first | ((with_reducible show Code.wp _ (Code.region _ (List.toArray ({ dst := _, op := Op.load 32 _, type := _, pos := _, after := _, guard := none } :: _)) false) _ _ _); refine wp_region_lit ?_) | (with_reducible show wpList _ _ _ ({ dst := _, op := Op.load 32 _, type := _, pos := _, after := _, guard := none } :: _) _ _)); refine wpList_load_mid rfl 32 _ rfl _ _ rfl _ _ (by exact rg) Tryz.underlying32 rfl (by exact Cells14.info _) ?_; dsimp only [dZ, dS]) | ((with_reducible show wpList _ _ _ ({ dst := _, op := Op.store 32 _ _, type := _, pos := _, after := _, guard := none } :: _) _ _); refine wpList_store_mid rfl 32 _ _ rfl _ _ (List.toArray (Cells14.l _)) rfl rfl (by refine Cells14.there _ ?_; exact tr) (Cells14.infoA _) (Cells14.oneA _) ?_; (try dsimp only [Act.put])) | ((first | ((with_reducible show Code.wp _ (Code.region _ (List.toArray ({ dst := _, op := Op.store 49 _ _, type := _, pos := _, after := _, guard := none } :: _)) false) _ _ _); refine wp_region_lit ?_) | (with_reducible show wpList _ _ _ ({ dst := _, op := Op.store 49 _ _, type := _, pos := _, after := _, guard := none } :: _) _ _)); refine wpList_store_mid rfl 49 _ _ rfl _ _ _ rfl rfl (by exact tr) infoStop (all_oneCell_toArray (by simp [Value.oneCell'])) ?_; (try dsimp only [Act.put])) | (go_at_call 13; refine (HG.out _ xt).mono ?_; rintro e w1 ⟨rfl, hb⟩; have R1 := range_ext (b := w.heap.size + 1) (o := 0) (by exact rg) hb; have Q1 := range_ext (b := w.heap.size) (o := 0) (cs := [.slice Af nf cf, .slice Ao no co, .slice Av nv cv]) (by exact rg) hb; have HE1 : Hid (Ext w w1) := Ext.trans xt hb; clear hb) | (go_at_call 24; refine (HA.out _ HE1.out).mono ?_; rintro e w2 ⟨V2, rfl, hT2, hb2⟩; obtain ⟨c2, rfl⟩ := hT2.cells; have HT2 := Lib.hid hT2; have HB2 := Lib.hid hb2; clear hT2 hb2))
    refine wp_hid2 ?_
    intro W3 HW3
    have HF3 : Hid (Ext w1 W3) := by have h := HB2.out; have h2 := h.size; rw [Hid, HW3.out]; exact xts
    have HE3 : Hid (Ext w W3) := HE1.out.trans HF3.out
    have R3 : W3.rangeAt (w.heap.size + 1) 0 c.l := range_ext R1 HF3.out
    have Q3 : W3.rangeAt w.heap.size 0 [.slice Af nf cf, .slice Ao no co, .slice Av nv cv] := range_ext Q1 HF3.out
    have T3 : W3.there w2.heap.size 0 14 := by rw [HW3.out]; exact tr
    have U3 : W3.rangeAt w2.heap.size 0 c2.l := by rw [HW3.out]; exact (ranges_two (by omega) (c2.there' (by exact tr)) (by show World.there _ _ 0 3; exact tr)).1
    have S3 : W3.rangeAt (w2.heap.size + 1) 0 [Value.int .i64 0, Value.int .i64 0, Value.int .i64 0] := by rw [HW3.out]; exact (ranges_two (by omega) (c2.there' (by exact tr)) (by show World.there _ _ 0 3; exact tr)).2
    have s0 : W3.cell? ⟨w2.heap.size + 1, 0, none⟩ = some (Value.int .i64 0) := S3 0 _ rfl
    have s1 : W3.cell? ⟨w2.heap.size + 1, 1, none⟩ = some (Value.int .i64 0) := S3 1 _ rfl
    have s2 : W3.cell? ⟨w2.heap.size + 1, 2, none⟩ = some (Value.int .i64 0) := S3 2 _ rfl
    have HT3 : Hid (RTsk W3 u (.agg c2.l.toArray)) := HT2.out.mono (by rw [HW3.out]; exact xts)
    have r3 : W3.cell? ⟨w.heap.size + 1, 3, none⟩ = some (Value.int .i64 t.status) := R3 3 _ (by rw [HCL.out]; rfl)
    clear HW3 HT2 HB2 T3
    go_wp2_with (first | ((first | ((with_reducible show Code.wp _ (Code.region _ (List.toArray ({ dst := _, op := Op.load 26 _, type := _, pos := _, after := _, guard := none } :: _)) false) _ _ _); refine wp_region_lit ?_) | (with_reducible show wpList _ _ _ ({ dst := _, op := Op.load 26 _, type := _, pos := _, after := _, guard := none } :: _) _ _)); refine wpList_load_mid rfl 26 _ rfl _ _ rfl _ _ (by exact rg) Tryz.underlying26 rfl (by exact infoPrg) ?_; dsimp only [dZ, dS]) | ((first | ((with_reducible show Code.wp _ (Code.region _ (List.toArray ({ dst := _, op := Op.load 32 _, type := _, pos := _, after := _, guard := none } :: _)) false) _ _ _); refine wp_region_lit ?_) | (with_reducible show wpList _ _ _ ({ dst := _, op := Op.load 32 _, type := _, pos := _, after := _, guard := none } :: _) _ _)); refine wpList_load_mid rfl 32 _ rfl _ _ rfl _ _ (by exact rg) Tryz.underlying32 rfl (by exact Cells14.info _) ?_; dsimp only [dZ, dS]) | (go_at_call 17; refine (HC.out _ HE3.out).mono ?_; rintro e w4 ⟨rfl, hb4⟩; have HE4 : Hid (Ext w w4) := Ext.trans HE3.out hb4; have r4 := Ext.cell hb4 r3; have hz4 := lt_of_cell r4; clear hb4) | (go_at_call 14; refine (awake_any _).mono ?_; rintro e w9 ⟨rfl, hb9⟩; have HE9 := Lib.hid (Ext.trans HE4.out hb9); clear hb9))
    go_ret
    exact ⟨rfl, HE9.out⟩
  · rw [hc] at HC
    have hs1 : (t.status == 1) = false := beq_eq_false_iff_ne.2 hst
    clear hc
    go_enter Tryz.func6, Tryz.ntmps6
    go_upto_region 4 with (first | ((first | ((with_reducible show Code.wp _ (Code.region _ (List.toArray ({ dst := _, op := Op.load 26 _, type := _, pos := _, after := _, guard := none } :: _)) false) _ _ _); refine wp_region_lit ?_) | (with_reducible show wpList _ _ _ ({ dst := _, op := Op.load 26 _, type := _, pos := _, after := _, guard := none } :: _) _ _)); refine wpList_load_mid rfl 26 _ rfl _ _ rfl _ _ (by exact rg) Tryz.underlying26 rfl (by exact infoPrg) ?_; dsimp only [dZ, dS]) | ((first | ((with_reducible show Code.wp _ (Code.region _ (List.toArray ({ dst := _, op := Op.load 32 _, type := _, pos := _, after := _, guard := none } :: _)) false) _ _ _); refine wp_region_lit ?_) | (with_reducible show wpList _ _ _ ({ dst := _, op := Op.load 32 _, type := _, pos := _, after := _, guard := none } :: _) _ _)); refine wpList_load_mid rfl 32 _ rfl _ _ rfl _ _ (by exact rg) Tryz.underlying32 rfl (by exact Cells14.info _) ?_; dsimp only [dZ, dS]) | ((with_reducible show wpList _ _ _ ({ dst := _, op := Op.store 32 _ _, type := _, pos := _, after := _, guard := none } :: _) _ _); refine wpList_store_mid rfl 32 _ _ rfl _ _ (List.toArray (Cells14.l _)) rfl rfl (by refine Cells14.there _ ?_; exact tr) (Cells14.infoA _) (Cells14.oneA _) ?_; (try dsimp only [Act.put])) | ((first | ((with_reducible show Code.wp _ (Code.region _ (List.toArray ({ dst := _, op := Op.store 49 _ _, type := _, pos := _, after := _, guard := none } :: _)) false) _ _ _); refine wp_region_lit ?_) | (with_reducible show wpList _ _ _ ({ dst := _, op := Op.store 49 _ _, type := _, pos := _, after := _, guard := none } :: _) _ _)); refine wpList_store_mid rfl 49 _ _ rfl _ _ _ rfl rfl (by exact tr) infoStop (all_oneCell_toArray (by simp [Value.oneCell'])) ?_; (try dsimp only [Act.put])) | (go_at_call 13; refine (HG.out _ xt).mono ?_; rintro e w1 ⟨rfl, hb⟩; have R1 := range_ext (b := w.heap.size + 1) (o := 0) (by exact rg) hb; have Q1 := range_ext (b := w.heap.size) (o := 0) (cs := [.slice Af nf cf, .slice Ao no co, .slice Av nv cv]) (by exact rg) hb; have HE1 : Hid (Ext w w1) := Ext.trans xt hb; clear hb) | (go_at_call 24; refine (HA.out _ HE1.out).mono ?_; rintro e w2 ⟨V2, rfl, hT2, hb2⟩; obtain ⟨c2, rfl⟩ := hT2.cells; have HT2 := Lib.hid hT2; have HB2 := Lib.hid hb2; clear hT2 hb2))
    refine wp_hid2 ?_
    intro W3 HW3
    have HF3 : Hid (Ext w1 W3) := by have h := HB2.out; have h2 := h.size; rw [Hid, HW3.out]; exact xts
    have HE3 : Hid (Ext w W3) := HE1.out.trans HF3.out
    have R3 : W3.rangeAt (w.heap.size + 1) 0 c.l := range_ext R1 HF3.out
    have Q3 : W3.rangeAt w.heap.size 0 [.slice Af nf cf, .slice Ao no co, .slice Av nv cv] := range_ext Q1 HF3.out
    have T3 : W3.there w2.heap.size 0 14 := by rw [HW3.out]; exact tr
    have U3 : W3.rangeAt w2.heap.size 0 c2.l := by rw [HW3.out]; exact (ranges_two (by omega) (c2.there' (by exact tr)) (by show World.there _ _ 0 3; exact tr)).1
    have S3 : W3.rangeAt (w2.heap.size + 1) 0 [Value.int .i64 0, Value.int .i64 0, Value.int .i64 0] := by rw [HW3.out]; exact (ranges_two (by omega) (c2.there' (by exact tr)) (by show World.there _ _ 0 3; exact tr)).2
    have s0 : W3.cell? ⟨w2.heap.size + 1, 0, none⟩ = some (Value.int .i64 0) := S3 0 _ rfl
    have s1 : W3.cell? ⟨w2.heap.size + 1, 1, none⟩ = some (Value.int .i64 0) := S3 1 _ rfl
    have s2 : W3.cell? ⟨w2.heap.size + 1, 2, none⟩ = some (Value.int .i64 0) := S3 2 _ rfl
    have HT3 : Hid (RTsk W3 u (.agg c2.l.toArray)) := HT2.out.mono (by rw [HW3.out]; exact xts)
    have r3 : W3.cell? ⟨w.heap.size + 1, 3, none⟩ = some (Value.int .i64 t.status) := R3 3 _ (by rw [HCL.out]; rfl)
    clear HW3 HT2 HB2 T3
    go_wp2_with (first | ((first | ((with_reducible show Code.wp _ (Code.region _ (List.toArray ({ dst := _, op := Op.load 26 _, type := _, pos := _, after := _, guard := none } :: _)) false) _ _ _); refine wp_region_lit ?_) | (with_reducible show wpList _ _ _ ({ dst := _, op := Op.load 26 _, type := _, pos := _, after := _, guard := none } :: _) _ _)); refine wpList_load_mid rfl 26 _ rfl _ _ rfl _ _ (by exact rg) Tryz.underlying26 rfl (by exact infoPrg) ?_; dsimp only [dZ, dS]) | ((first | ((with_reducible show Code.wp _ (Code.region _ (List.toArray ({ dst := _, op := Op.load 32 _, type := _, pos := _, after := _, guard := none } :: _)) false) _ _ _); refine wp_region_lit ?_) | (with_reducible show wpList _ _ _ ({ dst := _, op := Op.load 32 _, type := _, pos := _, after := _, guard := none } :: _) _ _)); refine wpList_load_mid rfl 32 _ rfl _ _ rfl _ _ (by exact rg) Tryz.underlying32 rfl (by exact Cells14.info _) ?_; dsimp only [dZ, dS]) | (go_at_call 17; refine (HC.out _ HE3.out).mono ?_; rintro e w4 ⟨rfl, hb4⟩; have HE4 : Hid (Ext w w4) := Ext.trans HE3.out hb4; have r4 := Ext.cell hb4 r3; have hz4 := lt_of_cell r4; clear hb4) | (go_at_call 14; refine (awake_any _).mono ?_; rintro e w9 ⟨rfl, hb9⟩; have HE9 := Lib.hid (Ext.trans HE4.out hb9); clear hb9))
    go_ret
    exact ⟨ret_bool (by simp [hst]), HE9.out⟩
set_option maxRecDepth 8000 in
set_option maxHeartbeats 8000000 in
theorem stops_early (p : Prg) (t u : Tsk) (VP VT : Value) (w : World) (k r v : Int) (x : Ins) (is : Bool) (hP : RPrg w p VP) (hT : RTsk w t VT) (hg : (greatP p || greatT t) = false) (hA : advanceS p t = (u, ⟨k, r, v⟩, 0)) (hcur : currentS p u = (x, is))
    (hk : (k = 2 ∧ r = 0 ∧ (is = true → visS x.op = false)) ∨ (k = 3 ∧ r ≠ 0 ∧ v = 0 ∧ (is = true → visS x.op = false)) ∨ (k = 4 ∧ r = 0 ∧ v = 0)) :
    Calls Tryz.prog 6 #[VP, VT] w fun e w' => e = .returned (.bool true) ∧ Ext w w' := by
  have HVi := Lib.hid (fun W => visible_any x.op W)
  have HG := Lib.hid (fun W (h : Ext w W) => great_any p t VP VT W (hP.mono h) (hT.mono h))
  rw [hg] at HG
  have HA := Lib.hid (fun W (h : Ext w W) => adv_law hA (hP.mono h) (hT.mono h))
  have HC := Lib.hid (fun W (h : Ext w W) => tCheck_any p t VP VT W (hP.mono h) (hT.mono h))
  have HP := Lib.hid hP
  obtain ⟨c, VF, VB, rfl, hcl⟩ := hT.cells2
  have HCL := Lib.hid hcl
  obtain ⟨Af, nf, cf, Ao, no, co, Av, nv, cv, rfl, _⟩ := hP
  clear hT hg hA hcl
  have HCuA : Hid (∀ W c2, RTsk W u (.agg (Cells14.l c2).toArray) → Ext w W → Calls Tryz.prog 15 #[.agg #[.slice Af nf cf, .slice Ao no co, .slice Av nv cv], .agg (Cells14.l c2).toArray] W fun e w' => ∃ A n c, e = .returned (.tuple #[.agg #[Value.int .i64 x.op, Value.int .i64 x.a, Value.int .i64 x.b, Value.int .i64 x.c, .slice A n c], .bool is]) ∧ (RSl 1 RInt w' A n x.args ∧ n ≤ c) ∧ Ext W w') := fun W c2 hT hE => by
    have := Current_any p u _ _ W (HP.out.mono hE) hT
    rw [hcur] at this
    exact this
  clear hcur
  obtain ⟨vis, hvis⟩ : ∃ q, visS x.op = q := ⟨_, rfl⟩
  rw [hvis] at HVi hk
  rcases hk with ⟨rfl, rfl, hk⟩ | ⟨rfl, hr, rfl, hk⟩ | ⟨rfl, rfl, rfl⟩
  · cases is with
    | false =>
      go_enter Tryz.func6, Tryz.ntmps6
      go_upto_region 4 with (first | ((first | ((with_reducible show Code.wp _ (Code.region _ (List.toArray ({ dst := _, op := Op.load 26 _, type := _, pos := _, after := _, guard := none } :: _)) false) _ _ _); refine wp_region_lit ?_) | (with_reducible show wpList _ _ _ ({ dst := _, op := Op.load 26 _, type := _, pos := _, after := _, guard := none } :: _) _ _)); refine wpList_load_mid rfl 26 _ rfl _ _ rfl _ _ (by exact rg) Tryz.underlying26 rfl (by exact infoPrg) ?_; dsimp only [dZ, dS]) | ((first | ((with_reducible show Code.wp _ (Code.region _ (List.toArray ({ dst := _, op := Op.load 32 _, type := _, pos := _, after := _, guard := none } :: _)) false) _ _ _); refine wp_region_lit ?_) | (with_reducible show wpList _ _ _ ({ dst := _, op := Op.load 32 _, type := _, pos := _, after := _, guard := none } :: _) _ _)); refine wpList_load_mid rfl 32 _ rfl _ _ rfl _ _ (by exact rg) Tryz.underlying32 rfl (by exact Cells14.info _) ?_; dsimp only [dZ, dS]) | ((with_reducible show wpList _ _ _ ({ dst := _, op := Op.store 32 _ _, type := _, pos := _, after := _, guard := none } :: _) _ _); refine wpList_store_mid rfl 32 _ _ rfl _ _ (List.toArray (Cells14.l _)) rfl rfl (by refine Cells14.there _ ?_; exact tr) (Cells14.infoA _) (Cells14.oneA _) ?_; (try dsimp only [Act.put])) | ((first | ((with_reducible show Code.wp _ (Code.region _ (List.toArray ({ dst := _, op := Op.store 49 _ _, type := _, pos := _, after := _, guard := none } :: _)) false) _ _ _); refine wp_region_lit ?_) | (with_reducible show wpList _ _ _ ({ dst := _, op := Op.store 49 _ _, type := _, pos := _, after := _, guard := none } :: _) _ _)); refine wpList_store_mid rfl 49 _ _ rfl _ _ _ rfl rfl (by exact tr) infoStop (all_oneCell_toArray (by simp [Value.oneCell'])) ?_; (try dsimp only [Act.put])) | (go_at_call 13; refine (HG.out _ xt).mono ?_; rintro e w1 ⟨rfl, hb⟩; have R1 := range_ext (b := w.heap.size + 1) (o := 0) (by exact rg) hb; have Q1 := range_ext (b := w.heap.size) (o := 0) (cs := [.slice Af nf cf, .slice Ao no co, .slice Av nv cv]) (by exact rg) hb; have HE1 : Hid (Ext w w1) := Ext.trans xt hb; clear hb) | (go_at_call 24; refine (HA.out _ HE1.out).mono ?_; rintro e w2 ⟨V2, rfl, hT2, hb2⟩; obtain ⟨c2, rfl⟩ := hT2.cells; have HT2 := Lib.hid hT2; have HB2 := Lib.hid hb2; clear hT2 hb2))
      refine wp_hid2 ?_
      intro W3 HW3
      have HF3 : Hid (Ext w1 W3) := by have h := HB2.out; have h2 := h.size; rw [Hid, HW3.out]; exact xts
      have HE3 : Hid (Ext w W3) := HE1.out.trans HF3.out
      have R3 : W3.rangeAt (w.heap.size + 1) 0 c.l := range_ext R1 HF3.out
      have Q3 : W3.rangeAt w.heap.size 0 [.slice Af nf cf, .slice Ao no co, .slice Av nv cv] := range_ext Q1 HF3.out
      have T3 : W3.there w2.heap.size 0 14 := by rw [HW3.out]; exact tr
      have U3 : W3.rangeAt w2.heap.size 0 c2.l := by rw [HW3.out]; exact (ranges_two (by omega) (c2.there' (by exact tr)) (by show World.there _ _ 0 3; exact tr)).1
      have S3 : W3.rangeAt (w2.heap.size + 1) 0 [Value.int .i64 2, Value.int .i64 0, Value.int .i64 v] := by rw [HW3.out]; exact (ranges_two (by omega) (c2.there' (by exact tr)) (by show World.there _ _ 0 3; exact tr)).2
      have s0 : W3.cell? ⟨w2.heap.size + 1, 0, none⟩ = some (Value.int .i64 2) := S3 0 _ rfl
      have s1 : W3.cell? ⟨w2.heap.size + 1, 1, none⟩ = some (Value.int .i64 0) := S3 1 _ rfl
      have s2 : W3.cell? ⟨w2.heap.size + 1, 2, none⟩ = some (Value.int .i64 v) := S3 2 _ rfl
      have HT3 : Hid (RTsk W3 u (.agg c2.l.toArray)) := HT2.out.mono (by rw [HW3.out]; exact xts)
      have r3 : W3.cell? ⟨w.heap.size + 1, 3, none⟩ = some (Value.int .i64 t.status) := R3 3 _ (by rw [HCL.out]; rfl)
      clear HW3 HT2 HB2 T3
      have HCu := Lib.hid (HCuA.out W3 c2 HT3.out HE3.out)
      go_upto_region 9 with (first | ((first | ((with_reducible show Code.wp _ (Code.region _ (List.toArray ({ dst := _, op := Op.load 26 _, type := _, pos := _, after := _, guard := none } :: _)) false) _ _ _); refine wp_region_lit ?_) | (with_reducible show wpList _ _ _ ({ dst := _, op := Op.load 26 _, type := _, pos := _, after := _, guard := none } :: _) _ _)); refine wpList_load_mid rfl 26 _ rfl _ _ rfl _ _ (by exact rg) Tryz.underlying26 rfl (by exact infoPrg) ?_; dsimp only [dZ, dS]) | ((first | ((with_reducible show Code.wp _ (Code.region _ (List.toArray ({ dst := _, op := Op.load 32 _, type := _, pos := _, after := _, guard := none } :: _)) false) _ _ _); refine wp_region_lit ?_) | (with_reducible show wpList _ _ _ ({ dst := _, op := Op.load 32 _, type := _, pos := _, after := _, guard := none } :: _) _ _)); refine wpList_load_mid rfl 32 _ rfl _ _ rfl _ _ (by exact rg) Tryz.underlying32 rfl (by exact Cells14.info _) ?_; dsimp only [dZ, dS]) | ((first | ((with_reducible show Code.wp _ (Code.region _ (List.toArray ({ dst := _, op := Op.store 37 _ _, type := _, pos := _, after := _, guard := none } :: _)) false) _ _ _); refine wp_region_lit ?_) | (with_reducible show wpList _ _ _ ({ dst := _, op := Op.store 37 _ _, type := _, pos := _, after := _, guard := none } :: _) _ _)); refine wpList_store_mid rfl 37 _ _ rfl _ _ _ rfl rfl (by exact tr) infoInsN (all_oneCell_toArray (by simp [Value.oneCell'])) ?_; (try dsimp only [Act.put])) | (go_at_call 15; refine HCu.out.mono ?_; rintro e w4 ⟨A4, n4, c4, rfl, _, hb4⟩; have HB4 := Lib.hid hb4; clear hb4))
      refine wp_hid2 ?_
      intro W4 HW4
      have HF4 : Hid (Ext W3 W4) := by have h := HB4.out; have h2 := h.size; rw [Hid, HW4.out]; exact xts
      have HE4 : Hid (Ext w W4) := HE3.out.trans HF4.out
      have Q4 : W4.rangeAt w.heap.size 0 [.slice Af nf cf, .slice Ao no co, .slice Av nv cv] := range_ext Q3 HF4.out
      have U4 : W4.rangeAt w2.heap.size 0 c2.l := range_ext U3 HF4.out
      have S4 : W4.rangeAt (w2.heap.size + 1) 0 [Value.int .i64 2, Value.int .i64 0, Value.int .i64 v] := range_ext S3 HF4.out
      have s0 := HF4.out.cell s0
      have s1 := HF4.out.cell s1
      have s2 := HF4.out.cell s2
      have i0 : W4.cell? ⟨w4.heap.size, 0, none⟩ = some (Value.int .i64 x.op) := by
        have h : W4.rangeAt w4.heap.size 0 [Value.int .i64 x.op, Value.int .i64 x.a, Value.int .i64 x.b, Value.int .i64 x.c, .slice A4 n4 c4] := by rw [HW4.out]; exact World.rangeAt_setCells_same _ _ 0 _ (by show World.there _ _ 0 5; exact there_new rfl rfl)
        exact h 0 _ rfl
      clear HW4 HB4
      have z0 := lt_of_cell s0
      have z1 := lt_of_cell i0
      (refine wp_region_quiet_below (by kernel_rfl) (by kernel_rfl) ?_; (repeat (go_big_quiet_step ((go_at_call 26; exact quiet_ext (HVi.out _))))); refine wpQuiet_nil ?_; intro w1 hw1; obtain ⟨hc, hf, hs, he⟩ := Ext.use (w := W4) (ext_of_regrown hw1) xt; clear hw1; (try simp only [sA, sC, sD, sN] at hs))
      have HE5 : Hid (Ext w w1) := HE4.out.trans he
      go_wp2_with (go_at_call 14; refine (awake_any _).mono ?_; rintro e w9 ⟨rfl, hb9⟩; have HE9 := Lib.hid (Ext.trans HE5.out hb9); clear hb9)
      go_ret
      exact ⟨rfl, HE9.out⟩
    | true =>
      obtain rfl : vis = false := hk rfl
      go_enter Tryz.func6, Tryz.ntmps6
      go_upto_region 4 with (first | ((first | ((with_reducible show Code.wp _ (Code.region _ (List.toArray ({ dst := _, op := Op.load 26 _, type := _, pos := _, after := _, guard := none } :: _)) false) _ _ _); refine wp_region_lit ?_) | (with_reducible show wpList _ _ _ ({ dst := _, op := Op.load 26 _, type := _, pos := _, after := _, guard := none } :: _) _ _)); refine wpList_load_mid rfl 26 _ rfl _ _ rfl _ _ (by exact rg) Tryz.underlying26 rfl (by exact infoPrg) ?_; dsimp only [dZ, dS]) | ((first | ((with_reducible show Code.wp _ (Code.region _ (List.toArray ({ dst := _, op := Op.load 32 _, type := _, pos := _, after := _, guard := none } :: _)) false) _ _ _); refine wp_region_lit ?_) | (with_reducible show wpList _ _ _ ({ dst := _, op := Op.load 32 _, type := _, pos := _, after := _, guard := none } :: _) _ _)); refine wpList_load_mid rfl 32 _ rfl _ _ rfl _ _ (by exact rg) Tryz.underlying32 rfl (by exact Cells14.info _) ?_; dsimp only [dZ, dS]) | ((with_reducible show wpList _ _ _ ({ dst := _, op := Op.store 32 _ _, type := _, pos := _, after := _, guard := none } :: _) _ _); refine wpList_store_mid rfl 32 _ _ rfl _ _ (List.toArray (Cells14.l _)) rfl rfl (by refine Cells14.there _ ?_; exact tr) (Cells14.infoA _) (Cells14.oneA _) ?_; (try dsimp only [Act.put])) | ((first | ((with_reducible show Code.wp _ (Code.region _ (List.toArray ({ dst := _, op := Op.store 49 _ _, type := _, pos := _, after := _, guard := none } :: _)) false) _ _ _); refine wp_region_lit ?_) | (with_reducible show wpList _ _ _ ({ dst := _, op := Op.store 49 _ _, type := _, pos := _, after := _, guard := none } :: _) _ _)); refine wpList_store_mid rfl 49 _ _ rfl _ _ _ rfl rfl (by exact tr) infoStop (all_oneCell_toArray (by simp [Value.oneCell'])) ?_; (try dsimp only [Act.put])) | (go_at_call 13; refine (HG.out _ xt).mono ?_; rintro e w1 ⟨rfl, hb⟩; have R1 := range_ext (b := w.heap.size + 1) (o := 0) (by exact rg) hb; have Q1 := range_ext (b := w.heap.size) (o := 0) (cs := [.slice Af nf cf, .slice Ao no co, .slice Av nv cv]) (by exact rg) hb; have HE1 : Hid (Ext w w1) := Ext.trans xt hb; clear hb) | (go_at_call 24; refine (HA.out _ HE1.out).mono ?_; rintro e w2 ⟨V2, rfl, hT2, hb2⟩; obtain ⟨c2, rfl⟩ := hT2.cells; have HT2 := Lib.hid hT2; have HB2 := Lib.hid hb2; clear hT2 hb2))
      refine wp_hid2 ?_
      intro W3 HW3
      have HF3 : Hid (Ext w1 W3) := by have h := HB2.out; have h2 := h.size; rw [Hid, HW3.out]; exact xts
      have HE3 : Hid (Ext w W3) := HE1.out.trans HF3.out
      have R3 : W3.rangeAt (w.heap.size + 1) 0 c.l := range_ext R1 HF3.out
      have Q3 : W3.rangeAt w.heap.size 0 [.slice Af nf cf, .slice Ao no co, .slice Av nv cv] := range_ext Q1 HF3.out
      have T3 : W3.there w2.heap.size 0 14 := by rw [HW3.out]; exact tr
      have U3 : W3.rangeAt w2.heap.size 0 c2.l := by rw [HW3.out]; exact (ranges_two (by omega) (c2.there' (by exact tr)) (by show World.there _ _ 0 3; exact tr)).1
      have S3 : W3.rangeAt (w2.heap.size + 1) 0 [Value.int .i64 2, Value.int .i64 0, Value.int .i64 v] := by rw [HW3.out]; exact (ranges_two (by omega) (c2.there' (by exact tr)) (by show World.there _ _ 0 3; exact tr)).2
      have s0 : W3.cell? ⟨w2.heap.size + 1, 0, none⟩ = some (Value.int .i64 2) := S3 0 _ rfl
      have s1 : W3.cell? ⟨w2.heap.size + 1, 1, none⟩ = some (Value.int .i64 0) := S3 1 _ rfl
      have s2 : W3.cell? ⟨w2.heap.size + 1, 2, none⟩ = some (Value.int .i64 v) := S3 2 _ rfl
      have HT3 : Hid (RTsk W3 u (.agg c2.l.toArray)) := HT2.out.mono (by rw [HW3.out]; exact xts)
      have r3 : W3.cell? ⟨w.heap.size + 1, 3, none⟩ = some (Value.int .i64 t.status) := R3 3 _ (by rw [HCL.out]; rfl)
      clear HW3 HT2 HB2 T3
      have HCu := Lib.hid (HCuA.out W3 c2 HT3.out HE3.out)
      go_upto_region 9 with (first | ((first | ((with_reducible show Code.wp _ (Code.region _ (List.toArray ({ dst := _, op := Op.load 26 _, type := _, pos := _, after := _, guard := none } :: _)) false) _ _ _); refine wp_region_lit ?_) | (with_reducible show wpList _ _ _ ({ dst := _, op := Op.load 26 _, type := _, pos := _, after := _, guard := none } :: _) _ _)); refine wpList_load_mid rfl 26 _ rfl _ _ rfl _ _ (by exact rg) Tryz.underlying26 rfl (by exact infoPrg) ?_; dsimp only [dZ, dS]) | ((first | ((with_reducible show Code.wp _ (Code.region _ (List.toArray ({ dst := _, op := Op.load 32 _, type := _, pos := _, after := _, guard := none } :: _)) false) _ _ _); refine wp_region_lit ?_) | (with_reducible show wpList _ _ _ ({ dst := _, op := Op.load 32 _, type := _, pos := _, after := _, guard := none } :: _) _ _)); refine wpList_load_mid rfl 32 _ rfl _ _ rfl _ _ (by exact rg) Tryz.underlying32 rfl (by exact Cells14.info _) ?_; dsimp only [dZ, dS]) | ((first | ((with_reducible show Code.wp _ (Code.region _ (List.toArray ({ dst := _, op := Op.store 37 _ _, type := _, pos := _, after := _, guard := none } :: _)) false) _ _ _); refine wp_region_lit ?_) | (with_reducible show wpList _ _ _ ({ dst := _, op := Op.store 37 _ _, type := _, pos := _, after := _, guard := none } :: _) _ _)); refine wpList_store_mid rfl 37 _ _ rfl _ _ _ rfl rfl (by exact tr) infoInsN (all_oneCell_toArray (by simp [Value.oneCell'])) ?_; (try dsimp only [Act.put])) | (go_at_call 15; refine HCu.out.mono ?_; rintro e w4 ⟨A4, n4, c4, rfl, _, hb4⟩; have HB4 := Lib.hid hb4; clear hb4))
      refine wp_hid2 ?_
      intro W4 HW4
      have HF4 : Hid (Ext W3 W4) := by have h := HB4.out; have h2 := h.size; rw [Hid, HW4.out]; exact xts
      have HE4 : Hid (Ext w W4) := HE3.out.trans HF4.out
      have Q4 : W4.rangeAt w.heap.size 0 [.slice Af nf cf, .slice Ao no co, .slice Av nv cv] := range_ext Q3 HF4.out
      have U4 : W4.rangeAt w2.heap.size 0 c2.l := range_ext U3 HF4.out
      have S4 : W4.rangeAt (w2.heap.size + 1) 0 [Value.int .i64 2, Value.int .i64 0, Value.int .i64 v] := range_ext S3 HF4.out
      have s0 := HF4.out.cell s0
      have s1 := HF4.out.cell s1
      have s2 := HF4.out.cell s2
      have i0 : W4.cell? ⟨w4.heap.size, 0, none⟩ = some (Value.int .i64 x.op) := by
        have h : W4.rangeAt w4.heap.size 0 [Value.int .i64 x.op, Value.int .i64 x.a, Value.int .i64 x.b, Value.int .i64 x.c, .slice A4 n4 c4] := by rw [HW4.out]; exact World.rangeAt_setCells_same _ _ 0 _ (by show World.there _ _ 0 5; exact there_new rfl rfl)
        exact h 0 _ rfl
      clear HW4 HB4
      have z0 := lt_of_cell s0
      have z1 := lt_of_cell i0
      (refine wp_region_quiet_below (by kernel_rfl) (by kernel_rfl) ?_; (repeat (go_big_quiet_step ((go_at_call 26; exact quiet_ext (HVi.out _))))); refine wpQuiet_nil ?_; intro w1 hw1; obtain ⟨hc, hf, hs, he⟩ := Ext.use (w := W4) (ext_of_regrown hw1) xt; clear hw1; (try simp only [sA, sC, sD, sN] at hs))
      have HE5 : Hid (Ext w w1) := HE4.out.trans he
      go_wp2_with (go_at_call 14; refine (awake_any _).mono ?_; rintro e w9 ⟨rfl, hb9⟩; have HE9 := Lib.hid (Ext.trans HE5.out hb9); clear hb9)
      go_ret
      exact ⟨rfl, HE9.out⟩
  · have hr1 : (r == 0) = false := beq_eq_false_iff_ne.2 hr
    have hr2 : (r != 0) = true := bne_iff_ne.2 hr
    cases is with
    | false =>
      go_enter Tryz.func6, Tryz.ntmps6
      go_upto_region 4 with (first | ((first | ((with_reducible show Code.wp _ (Code.region _ (List.toArray ({ dst := _, op := Op.load 26 _, type := _, pos := _, after := _, guard := none } :: _)) false) _ _ _); refine wp_region_lit ?_) | (with_reducible show wpList _ _ _ ({ dst := _, op := Op.load 26 _, type := _, pos := _, after := _, guard := none } :: _) _ _)); refine wpList_load_mid rfl 26 _ rfl _ _ rfl _ _ (by exact rg) Tryz.underlying26 rfl (by exact infoPrg) ?_; dsimp only [dZ, dS]) | ((first | ((with_reducible show Code.wp _ (Code.region _ (List.toArray ({ dst := _, op := Op.load 32 _, type := _, pos := _, after := _, guard := none } :: _)) false) _ _ _); refine wp_region_lit ?_) | (with_reducible show wpList _ _ _ ({ dst := _, op := Op.load 32 _, type := _, pos := _, after := _, guard := none } :: _) _ _)); refine wpList_load_mid rfl 32 _ rfl _ _ rfl _ _ (by exact rg) Tryz.underlying32 rfl (by exact Cells14.info _) ?_; dsimp only [dZ, dS]) | ((with_reducible show wpList _ _ _ ({ dst := _, op := Op.store 32 _ _, type := _, pos := _, after := _, guard := none } :: _) _ _); refine wpList_store_mid rfl 32 _ _ rfl _ _ (List.toArray (Cells14.l _)) rfl rfl (by refine Cells14.there _ ?_; exact tr) (Cells14.infoA _) (Cells14.oneA _) ?_; (try dsimp only [Act.put])) | ((first | ((with_reducible show Code.wp _ (Code.region _ (List.toArray ({ dst := _, op := Op.store 49 _ _, type := _, pos := _, after := _, guard := none } :: _)) false) _ _ _); refine wp_region_lit ?_) | (with_reducible show wpList _ _ _ ({ dst := _, op := Op.store 49 _ _, type := _, pos := _, after := _, guard := none } :: _) _ _)); refine wpList_store_mid rfl 49 _ _ rfl _ _ _ rfl rfl (by exact tr) infoStop (all_oneCell_toArray (by simp [Value.oneCell'])) ?_; (try dsimp only [Act.put])) | (go_at_call 13; refine (HG.out _ xt).mono ?_; rintro e w1 ⟨rfl, hb⟩; have R1 := range_ext (b := w.heap.size + 1) (o := 0) (by exact rg) hb; have Q1 := range_ext (b := w.heap.size) (o := 0) (cs := [.slice Af nf cf, .slice Ao no co, .slice Av nv cv]) (by exact rg) hb; have HE1 : Hid (Ext w w1) := Ext.trans xt hb; clear hb) | (go_at_call 24; refine (HA.out _ HE1.out).mono ?_; rintro e w2 ⟨V2, rfl, hT2, hb2⟩; obtain ⟨c2, rfl⟩ := hT2.cells; have HT2 := Lib.hid hT2; have HB2 := Lib.hid hb2; clear hT2 hb2))
      refine wp_hid2 ?_
      intro W3 HW3
      have HF3 : Hid (Ext w1 W3) := by have h := HB2.out; have h2 := h.size; rw [Hid, HW3.out]; exact xts
      have HE3 : Hid (Ext w W3) := HE1.out.trans HF3.out
      have R3 : W3.rangeAt (w.heap.size + 1) 0 c.l := range_ext R1 HF3.out
      have Q3 : W3.rangeAt w.heap.size 0 [.slice Af nf cf, .slice Ao no co, .slice Av nv cv] := range_ext Q1 HF3.out
      have T3 : W3.there w2.heap.size 0 14 := by rw [HW3.out]; exact tr
      have U3 : W3.rangeAt w2.heap.size 0 c2.l := by rw [HW3.out]; exact (ranges_two (by omega) (c2.there' (by exact tr)) (by show World.there _ _ 0 3; exact tr)).1
      have S3 : W3.rangeAt (w2.heap.size + 1) 0 [Value.int .i64 3, Value.int .i64 r, Value.int .i64 0] := by rw [HW3.out]; exact (ranges_two (by omega) (c2.there' (by exact tr)) (by show World.there _ _ 0 3; exact tr)).2
      have s0 : W3.cell? ⟨w2.heap.size + 1, 0, none⟩ = some (Value.int .i64 3) := S3 0 _ rfl
      have s1 : W3.cell? ⟨w2.heap.size + 1, 1, none⟩ = some (Value.int .i64 r) := S3 1 _ rfl
      have s2 : W3.cell? ⟨w2.heap.size + 1, 2, none⟩ = some (Value.int .i64 0) := S3 2 _ rfl
      have HT3 : Hid (RTsk W3 u (.agg c2.l.toArray)) := HT2.out.mono (by rw [HW3.out]; exact xts)
      have r3 : W3.cell? ⟨w.heap.size + 1, 3, none⟩ = some (Value.int .i64 t.status) := R3 3 _ (by rw [HCL.out]; rfl)
      clear HW3 HT2 HB2 T3
      have HCu := Lib.hid (HCuA.out W3 c2 HT3.out HE3.out)
      go_upto_region 9 with (first | ((first | ((with_reducible show Code.wp _ (Code.region _ (List.toArray ({ dst := _, op := Op.load 26 _, type := _, pos := _, after := _, guard := none } :: _)) false) _ _ _); refine wp_region_lit ?_) | (with_reducible show wpList _ _ _ ({ dst := _, op := Op.load 26 _, type := _, pos := _, after := _, guard := none } :: _) _ _)); refine wpList_load_mid rfl 26 _ rfl _ _ rfl _ _ (by exact rg) Tryz.underlying26 rfl (by exact infoPrg) ?_; dsimp only [dZ, dS]) | ((first | ((with_reducible show Code.wp _ (Code.region _ (List.toArray ({ dst := _, op := Op.load 32 _, type := _, pos := _, after := _, guard := none } :: _)) false) _ _ _); refine wp_region_lit ?_) | (with_reducible show wpList _ _ _ ({ dst := _, op := Op.load 32 _, type := _, pos := _, after := _, guard := none } :: _) _ _)); refine wpList_load_mid rfl 32 _ rfl _ _ rfl _ _ (by exact rg) Tryz.underlying32 rfl (by exact Cells14.info _) ?_; dsimp only [dZ, dS]) | ((first | ((with_reducible show Code.wp _ (Code.region _ (List.toArray ({ dst := _, op := Op.store 37 _ _, type := _, pos := _, after := _, guard := none } :: _)) false) _ _ _); refine wp_region_lit ?_) | (with_reducible show wpList _ _ _ ({ dst := _, op := Op.store 37 _ _, type := _, pos := _, after := _, guard := none } :: _) _ _)); refine wpList_store_mid rfl 37 _ _ rfl _ _ _ rfl rfl (by exact tr) infoInsN (all_oneCell_toArray (by simp [Value.oneCell'])) ?_; (try dsimp only [Act.put])) | (go_at_call 15; refine HCu.out.mono ?_; rintro e w4 ⟨A4, n4, c4, rfl, _, hb4⟩; have HB4 := Lib.hid hb4; clear hb4))
      refine wp_hid2 ?_
      intro W4 HW4
      have HF4 : Hid (Ext W3 W4) := by have h := HB4.out; have h2 := h.size; rw [Hid, HW4.out]; exact xts
      have HE4 : Hid (Ext w W4) := HE3.out.trans HF4.out
      have Q4 : W4.rangeAt w.heap.size 0 [.slice Af nf cf, .slice Ao no co, .slice Av nv cv] := range_ext Q3 HF4.out
      have U4 : W4.rangeAt w2.heap.size 0 c2.l := range_ext U3 HF4.out
      have S4 : W4.rangeAt (w2.heap.size + 1) 0 [Value.int .i64 3, Value.int .i64 r, Value.int .i64 0] := range_ext S3 HF4.out
      have s0 := HF4.out.cell s0
      have s1 := HF4.out.cell s1
      have s2 := HF4.out.cell s2
      have i0 : W4.cell? ⟨w4.heap.size, 0, none⟩ = some (Value.int .i64 x.op) := by
        have h : W4.rangeAt w4.heap.size 0 [Value.int .i64 x.op, Value.int .i64 x.a, Value.int .i64 x.b, Value.int .i64 x.c, .slice A4 n4 c4] := by rw [HW4.out]; exact World.rangeAt_setCells_same _ _ 0 _ (by show World.there _ _ 0 5; exact there_new rfl rfl)
        exact h 0 _ rfl
      clear HW4 HB4
      have z0 := lt_of_cell s0
      have z1 := lt_of_cell i0
      (refine wp_region_quiet_below (by kernel_rfl) (by kernel_rfl) ?_; (repeat (go_big_quiet_step ((go_at_call 26; exact quiet_ext (HVi.out _))))); refine wpQuiet_nil ?_; intro w1 hw1; obtain ⟨hc, hf, hs, he⟩ := Ext.use (w := W4) (ext_of_regrown hw1) xt; clear hw1; (try simp only [sA, sC, sD, sN] at hs))
      have HE5 : Hid (Ext w w1) := HE4.out.trans he
      go_wp2_with (go_at_call 14; refine (awake_any _).mono ?_; rintro e w9 ⟨rfl, hb9⟩; have HE9 := Lib.hid (Ext.trans HE5.out hb9); clear hb9)
      go_ret
      exact ⟨rfl, HE9.out⟩
    | true =>
      obtain rfl : vis = false := hk rfl
      go_enter Tryz.func6, Tryz.ntmps6
      go_upto_region 4 with (first | ((first | ((with_reducible show Code.wp _ (Code.region _ (List.toArray ({ dst := _, op := Op.load 26 _, type := _, pos := _, after := _, guard := none } :: _)) false) _ _ _); refine wp_region_lit ?_) | (with_reducible show wpList _ _ _ ({ dst := _, op := Op.load 26 _, type := _, pos := _, after := _, guard := none } :: _) _ _)); refine wpList_load_mid rfl 26 _ rfl _ _ rfl _ _ (by exact rg) Tryz.underlying26 rfl (by exact infoPrg) ?_; dsimp only [dZ, dS]) | ((first | ((with_reducible show Code.wp _ (Code.region _ (List.toArray ({ dst := _, op := Op.load 32 _, type := _, pos := _, after := _, guard := none } :: _)) false) _ _ _); refine wp_region_lit ?_) | (with_reducible show wpList _ _ _ ({ dst := _, op := Op.load 32 _, type := _, pos := _, after := _, guard := none } :: _) _ _)); refine wpList_load_mid rfl 32 _ rfl _ _ rfl _ _ (by exact rg) Tryz.underlying32 rfl (by exact Cells14.info _) ?_; dsimp only [dZ, dS]) | ((with_reducible show wpList _ _ _ ({ dst := _, op := Op.store 32 _ _, type := _, pos := _, after := _, guard := none } :: _) _ _); refine wpList_store_mid rfl 32 _ _ rfl _ _ (List.toArray (Cells14.l _)) rfl rfl (by refine Cells14.there _ ?_; exact tr) (Cells14.infoA _) (Cells14.oneA _) ?_; (try dsimp only [Act.put])) | ((first | ((with_reducible show Code.wp _ (Code.region _ (List.toArray ({ dst := _, op := Op.store 49 _ _, type := _, pos := _, after := _, guard := none } :: _)) false) _ _ _); refine wp_region_lit ?_) | (with_reducible show wpList _ _ _ ({ dst := _, op := Op.store 49 _ _, type := _, pos := _, after := _, guard := none } :: _) _ _)); refine wpList_store_mid rfl 49 _ _ rfl _ _ _ rfl rfl (by exact tr) infoStop (all_oneCell_toArray (by simp [Value.oneCell'])) ?_; (try dsimp only [Act.put])) | (go_at_call 13; refine (HG.out _ xt).mono ?_; rintro e w1 ⟨rfl, hb⟩; have R1 := range_ext (b := w.heap.size + 1) (o := 0) (by exact rg) hb; have Q1 := range_ext (b := w.heap.size) (o := 0) (cs := [.slice Af nf cf, .slice Ao no co, .slice Av nv cv]) (by exact rg) hb; have HE1 : Hid (Ext w w1) := Ext.trans xt hb; clear hb) | (go_at_call 24; refine (HA.out _ HE1.out).mono ?_; rintro e w2 ⟨V2, rfl, hT2, hb2⟩; obtain ⟨c2, rfl⟩ := hT2.cells; have HT2 := Lib.hid hT2; have HB2 := Lib.hid hb2; clear hT2 hb2))
      refine wp_hid2 ?_
      intro W3 HW3
      have HF3 : Hid (Ext w1 W3) := by have h := HB2.out; have h2 := h.size; rw [Hid, HW3.out]; exact xts
      have HE3 : Hid (Ext w W3) := HE1.out.trans HF3.out
      have R3 : W3.rangeAt (w.heap.size + 1) 0 c.l := range_ext R1 HF3.out
      have Q3 : W3.rangeAt w.heap.size 0 [.slice Af nf cf, .slice Ao no co, .slice Av nv cv] := range_ext Q1 HF3.out
      have T3 : W3.there w2.heap.size 0 14 := by rw [HW3.out]; exact tr
      have U3 : W3.rangeAt w2.heap.size 0 c2.l := by rw [HW3.out]; exact (ranges_two (by omega) (c2.there' (by exact tr)) (by show World.there _ _ 0 3; exact tr)).1
      have S3 : W3.rangeAt (w2.heap.size + 1) 0 [Value.int .i64 3, Value.int .i64 r, Value.int .i64 0] := by rw [HW3.out]; exact (ranges_two (by omega) (c2.there' (by exact tr)) (by show World.there _ _ 0 3; exact tr)).2
      have s0 : W3.cell? ⟨w2.heap.size + 1, 0, none⟩ = some (Value.int .i64 3) := S3 0 _ rfl
      have s1 : W3.cell? ⟨w2.heap.size + 1, 1, none⟩ = some (Value.int .i64 r) := S3 1 _ rfl
      have s2 : W3.cell? ⟨w2.heap.size + 1, 2, none⟩ = some (Value.int .i64 0) := S3 2 _ rfl
      have HT3 : Hid (RTsk W3 u (.agg c2.l.toArray)) := HT2.out.mono (by rw [HW3.out]; exact xts)
      have r3 : W3.cell? ⟨w.heap.size + 1, 3, none⟩ = some (Value.int .i64 t.status) := R3 3 _ (by rw [HCL.out]; rfl)
      clear HW3 HT2 HB2 T3
      have HCu := Lib.hid (HCuA.out W3 c2 HT3.out HE3.out)
      go_upto_region 9 with (first | ((first | ((with_reducible show Code.wp _ (Code.region _ (List.toArray ({ dst := _, op := Op.load 26 _, type := _, pos := _, after := _, guard := none } :: _)) false) _ _ _); refine wp_region_lit ?_) | (with_reducible show wpList _ _ _ ({ dst := _, op := Op.load 26 _, type := _, pos := _, after := _, guard := none } :: _) _ _)); refine wpList_load_mid rfl 26 _ rfl _ _ rfl _ _ (by exact rg) Tryz.underlying26 rfl (by exact infoPrg) ?_; dsimp only [dZ, dS]) | ((first | ((with_reducible show Code.wp _ (Code.region _ (List.toArray ({ dst := _, op := Op.load 32 _, type := _, pos := _, after := _, guard := none } :: _)) false) _ _ _); refine wp_region_lit ?_) | (with_reducible show wpList _ _ _ ({ dst := _, op := Op.load 32 _, type := _, pos := _, after := _, guard := none } :: _) _ _)); refine wpList_load_mid rfl 32 _ rfl _ _ rfl _ _ (by exact rg) Tryz.underlying32 rfl (by exact Cells14.info _) ?_; dsimp only [dZ, dS]) | ((first | ((with_reducible show Code.wp _ (Code.region _ (List.toArray ({ dst := _, op := Op.store 37 _ _, type := _, pos := _, after := _, guard := none } :: _)) false) _ _ _); refine wp_region_lit ?_) | (with_reducible show wpList _ _ _ ({ dst := _, op := Op.store 37 _ _, type := _, pos := _, after := _, guard := none } :: _) _ _)); refine wpList_store_mid rfl 37 _ _ rfl _ _ _ rfl rfl (by exact tr) infoInsN (all_oneCell_toArray (by simp [Value.oneCell'])) ?_; (try dsimp only [Act.put])) | (go_at_call 15; refine HCu.out.mono ?_; rintro e w4 ⟨A4, n4, c4, rfl, _, hb4⟩; have HB4 := Lib.hid hb4; clear hb4))
      refine wp_hid2 ?_
      intro W4 HW4
      have HF4 : Hid (Ext W3 W4) := by have h := HB4.out; have h2 := h.size; rw [Hid, HW4.out]; exact xts
      have HE4 : Hid (Ext w W4) := HE3.out.trans HF4.out
      have Q4 : W4.rangeAt w.heap.size 0 [.slice Af nf cf, .slice Ao no co, .slice Av nv cv] := range_ext Q3 HF4.out
      have U4 : W4.rangeAt w2.heap.size 0 c2.l := range_ext U3 HF4.out
      have S4 : W4.rangeAt (w2.heap.size + 1) 0 [Value.int .i64 3, Value.int .i64 r, Value.int .i64 0] := range_ext S3 HF4.out
      have s0 := HF4.out.cell s0
      have s1 := HF4.out.cell s1
      have s2 := HF4.out.cell s2
      have i0 : W4.cell? ⟨w4.heap.size, 0, none⟩ = some (Value.int .i64 x.op) := by
        have h : W4.rangeAt w4.heap.size 0 [Value.int .i64 x.op, Value.int .i64 x.a, Value.int .i64 x.b, Value.int .i64 x.c, .slice A4 n4 c4] := by rw [HW4.out]; exact World.rangeAt_setCells_same _ _ 0 _ (by show World.there _ _ 0 5; exact there_new rfl rfl)
        exact h 0 _ rfl
      clear HW4 HB4
      have z0 := lt_of_cell s0
      have z1 := lt_of_cell i0
      (refine wp_region_quiet_below (by kernel_rfl) (by kernel_rfl) ?_; (repeat (go_big_quiet_step ((go_at_call 26; exact quiet_ext (HVi.out _))))); refine wpQuiet_nil ?_; intro w1 hw1; obtain ⟨hc, hf, hs, he⟩ := Ext.use (w := W4) (ext_of_regrown hw1) xt; clear hw1; (try simp only [sA, sC, sD, sN] at hs))
      have HE5 : Hid (Ext w w1) := HE4.out.trans he
      go_wp2_with (go_at_call 14; refine (awake_any _).mono ?_; rintro e w9 ⟨rfl, hb9⟩; have HE9 := Lib.hid (Ext.trans HE5.out hb9); clear hb9)
      go_ret
      exact ⟨rfl, HE9.out⟩
  · cases is with
    | false =>
      go_enter Tryz.func6, Tryz.ntmps6
      go_upto_region 4 with (first | ((first | ((with_reducible show Code.wp _ (Code.region _ (List.toArray ({ dst := _, op := Op.load 26 _, type := _, pos := _, after := _, guard := none } :: _)) false) _ _ _); refine wp_region_lit ?_) | (with_reducible show wpList _ _ _ ({ dst := _, op := Op.load 26 _, type := _, pos := _, after := _, guard := none } :: _) _ _)); refine wpList_load_mid rfl 26 _ rfl _ _ rfl _ _ (by exact rg) Tryz.underlying26 rfl (by exact infoPrg) ?_; dsimp only [dZ, dS]) | ((first | ((with_reducible show Code.wp _ (Code.region _ (List.toArray ({ dst := _, op := Op.load 32 _, type := _, pos := _, after := _, guard := none } :: _)) false) _ _ _); refine wp_region_lit ?_) | (with_reducible show wpList _ _ _ ({ dst := _, op := Op.load 32 _, type := _, pos := _, after := _, guard := none } :: _) _ _)); refine wpList_load_mid rfl 32 _ rfl _ _ rfl _ _ (by exact rg) Tryz.underlying32 rfl (by exact Cells14.info _) ?_; dsimp only [dZ, dS]) | ((with_reducible show wpList _ _ _ ({ dst := _, op := Op.store 32 _ _, type := _, pos := _, after := _, guard := none } :: _) _ _); refine wpList_store_mid rfl 32 _ _ rfl _ _ (List.toArray (Cells14.l _)) rfl rfl (by refine Cells14.there _ ?_; exact tr) (Cells14.infoA _) (Cells14.oneA _) ?_; (try dsimp only [Act.put])) | ((first | ((with_reducible show Code.wp _ (Code.region _ (List.toArray ({ dst := _, op := Op.store 49 _ _, type := _, pos := _, after := _, guard := none } :: _)) false) _ _ _); refine wp_region_lit ?_) | (with_reducible show wpList _ _ _ ({ dst := _, op := Op.store 49 _ _, type := _, pos := _, after := _, guard := none } :: _) _ _)); refine wpList_store_mid rfl 49 _ _ rfl _ _ _ rfl rfl (by exact tr) infoStop (all_oneCell_toArray (by simp [Value.oneCell'])) ?_; (try dsimp only [Act.put])) | (go_at_call 13; refine (HG.out _ xt).mono ?_; rintro e w1 ⟨rfl, hb⟩; have R1 := range_ext (b := w.heap.size + 1) (o := 0) (by exact rg) hb; have Q1 := range_ext (b := w.heap.size) (o := 0) (cs := [.slice Af nf cf, .slice Ao no co, .slice Av nv cv]) (by exact rg) hb; have HE1 : Hid (Ext w w1) := Ext.trans xt hb; clear hb) | (go_at_call 24; refine (HA.out _ HE1.out).mono ?_; rintro e w2 ⟨V2, rfl, hT2, hb2⟩; obtain ⟨c2, rfl⟩ := hT2.cells; have HT2 := Lib.hid hT2; have HB2 := Lib.hid hb2; clear hT2 hb2))
      refine wp_hid2 ?_
      intro W3 HW3
      have HF3 : Hid (Ext w1 W3) := by have h := HB2.out; have h2 := h.size; rw [Hid, HW3.out]; exact xts
      have HE3 : Hid (Ext w W3) := HE1.out.trans HF3.out
      have R3 : W3.rangeAt (w.heap.size + 1) 0 c.l := range_ext R1 HF3.out
      have Q3 : W3.rangeAt w.heap.size 0 [.slice Af nf cf, .slice Ao no co, .slice Av nv cv] := range_ext Q1 HF3.out
      have T3 : W3.there w2.heap.size 0 14 := by rw [HW3.out]; exact tr
      have U3 : W3.rangeAt w2.heap.size 0 c2.l := by rw [HW3.out]; exact (ranges_two (by omega) (c2.there' (by exact tr)) (by show World.there _ _ 0 3; exact tr)).1
      have S3 : W3.rangeAt (w2.heap.size + 1) 0 [Value.int .i64 4, Value.int .i64 0, Value.int .i64 0] := by rw [HW3.out]; exact (ranges_two (by omega) (c2.there' (by exact tr)) (by show World.there _ _ 0 3; exact tr)).2
      have s0 : W3.cell? ⟨w2.heap.size + 1, 0, none⟩ = some (Value.int .i64 4) := S3 0 _ rfl
      have s1 : W3.cell? ⟨w2.heap.size + 1, 1, none⟩ = some (Value.int .i64 0) := S3 1 _ rfl
      have s2 : W3.cell? ⟨w2.heap.size + 1, 2, none⟩ = some (Value.int .i64 0) := S3 2 _ rfl
      have HT3 : Hid (RTsk W3 u (.agg c2.l.toArray)) := HT2.out.mono (by rw [HW3.out]; exact xts)
      have r3 : W3.cell? ⟨w.heap.size + 1, 3, none⟩ = some (Value.int .i64 t.status) := R3 3 _ (by rw [HCL.out]; rfl)
      clear HW3 HT2 HB2 T3
      have HCu := Lib.hid (HCuA.out W3 c2 HT3.out HE3.out)
      go_upto_region 9 with (first | ((first | ((with_reducible show Code.wp _ (Code.region _ (List.toArray ({ dst := _, op := Op.load 26 _, type := _, pos := _, after := _, guard := none } :: _)) false) _ _ _); refine wp_region_lit ?_) | (with_reducible show wpList _ _ _ ({ dst := _, op := Op.load 26 _, type := _, pos := _, after := _, guard := none } :: _) _ _)); refine wpList_load_mid rfl 26 _ rfl _ _ rfl _ _ (by exact rg) Tryz.underlying26 rfl (by exact infoPrg) ?_; dsimp only [dZ, dS]) | ((first | ((with_reducible show Code.wp _ (Code.region _ (List.toArray ({ dst := _, op := Op.load 32 _, type := _, pos := _, after := _, guard := none } :: _)) false) _ _ _); refine wp_region_lit ?_) | (with_reducible show wpList _ _ _ ({ dst := _, op := Op.load 32 _, type := _, pos := _, after := _, guard := none } :: _) _ _)); refine wpList_load_mid rfl 32 _ rfl _ _ rfl _ _ (by exact rg) Tryz.underlying32 rfl (by exact Cells14.info _) ?_; dsimp only [dZ, dS]) | ((first | ((with_reducible show Code.wp _ (Code.region _ (List.toArray ({ dst := _, op := Op.store 37 _ _, type := _, pos := _, after := _, guard := none } :: _)) false) _ _ _); refine wp_region_lit ?_) | (with_reducible show wpList _ _ _ ({ dst := _, op := Op.store 37 _ _, type := _, pos := _, after := _, guard := none } :: _) _ _)); refine wpList_store_mid rfl 37 _ _ rfl _ _ _ rfl rfl (by exact tr) infoInsN (all_oneCell_toArray (by simp [Value.oneCell'])) ?_; (try dsimp only [Act.put])) | (go_at_call 15; refine HCu.out.mono ?_; rintro e w4 ⟨A4, n4, c4, rfl, _, hb4⟩; have HB4 := Lib.hid hb4; clear hb4))
      refine wp_hid2 ?_
      intro W4 HW4
      have HF4 : Hid (Ext W3 W4) := by have h := HB4.out; have h2 := h.size; rw [Hid, HW4.out]; exact xts
      have HE4 : Hid (Ext w W4) := HE3.out.trans HF4.out
      have Q4 : W4.rangeAt w.heap.size 0 [.slice Af nf cf, .slice Ao no co, .slice Av nv cv] := range_ext Q3 HF4.out
      have U4 : W4.rangeAt w2.heap.size 0 c2.l := range_ext U3 HF4.out
      have S4 : W4.rangeAt (w2.heap.size + 1) 0 [Value.int .i64 4, Value.int .i64 0, Value.int .i64 0] := range_ext S3 HF4.out
      have s0 := HF4.out.cell s0
      have s1 := HF4.out.cell s1
      have s2 := HF4.out.cell s2
      have i0 : W4.cell? ⟨w4.heap.size, 0, none⟩ = some (Value.int .i64 x.op) := by
        have h : W4.rangeAt w4.heap.size 0 [Value.int .i64 x.op, Value.int .i64 x.a, Value.int .i64 x.b, Value.int .i64 x.c, .slice A4 n4 c4] := by rw [HW4.out]; exact World.rangeAt_setCells_same _ _ 0 _ (by show World.there _ _ 0 5; exact there_new rfl rfl)
        exact h 0 _ rfl
      clear HW4 HB4
      have z0 := lt_of_cell s0
      have z1 := lt_of_cell i0
      (refine wp_region_quiet_below (by kernel_rfl) (by kernel_rfl) ?_; (repeat (go_big_quiet_step ((go_at_call 26; exact quiet_ext (HVi.out _))))); refine wpQuiet_nil ?_; intro w1 hw1; obtain ⟨hc, hf, hs, he⟩ := Ext.use (w := W4) (ext_of_regrown hw1) xt; clear hw1; (try simp only [sA, sC, sD, sN] at hs))
      have HE5 : Hid (Ext w w1) := HE4.out.trans he
      go_wp2_with (go_at_call 14; refine (awake_any _).mono ?_; rintro e w9 ⟨rfl, hb9⟩; have HE9 := Lib.hid (Ext.trans HE5.out hb9); clear hb9)
      go_ret
      exact ⟨rfl, HE9.out⟩
    | true =>
      cases vis with
      | false =>
        go_enter Tryz.func6, Tryz.ntmps6
        go_upto_region 4 with (first | ((first | ((with_reducible show Code.wp _ (Code.region _ (List.toArray ({ dst := _, op := Op.load 26 _, type := _, pos := _, after := _, guard := none } :: _)) false) _ _ _); refine wp_region_lit ?_) | (with_reducible show wpList _ _ _ ({ dst := _, op := Op.load 26 _, type := _, pos := _, after := _, guard := none } :: _) _ _)); refine wpList_load_mid rfl 26 _ rfl _ _ rfl _ _ (by exact rg) Tryz.underlying26 rfl (by exact infoPrg) ?_; dsimp only [dZ, dS]) | ((first | ((with_reducible show Code.wp _ (Code.region _ (List.toArray ({ dst := _, op := Op.load 32 _, type := _, pos := _, after := _, guard := none } :: _)) false) _ _ _); refine wp_region_lit ?_) | (with_reducible show wpList _ _ _ ({ dst := _, op := Op.load 32 _, type := _, pos := _, after := _, guard := none } :: _) _ _)); refine wpList_load_mid rfl 32 _ rfl _ _ rfl _ _ (by exact rg) Tryz.underlying32 rfl (by exact Cells14.info _) ?_; dsimp only [dZ, dS]) | ((with_reducible show wpList _ _ _ ({ dst := _, op := Op.store 32 _ _, type := _, pos := _, after := _, guard := none } :: _) _ _); refine wpList_store_mid rfl 32 _ _ rfl _ _ (List.toArray (Cells14.l _)) rfl rfl (by refine Cells14.there _ ?_; exact tr) (Cells14.infoA _) (Cells14.oneA _) ?_; (try dsimp only [Act.put])) | ((first | ((with_reducible show Code.wp _ (Code.region _ (List.toArray ({ dst := _, op := Op.store 49 _ _, type := _, pos := _, after := _, guard := none } :: _)) false) _ _ _); refine wp_region_lit ?_) | (with_reducible show wpList _ _ _ ({ dst := _, op := Op.store 49 _ _, type := _, pos := _, after := _, guard := none } :: _) _ _)); refine wpList_store_mid rfl 49 _ _ rfl _ _ _ rfl rfl (by exact tr) infoStop (all_oneCell_toArray (by simp [Value.oneCell'])) ?_; (try dsimp only [Act.put])) | (go_at_call 13; refine (HG.out _ xt).mono ?_; rintro e w1 ⟨rfl, hb⟩; have R1 := range_ext (b := w.heap.size + 1) (o := 0) (by exact rg) hb; have Q1 := range_ext (b := w.heap.size) (o := 0) (cs := [.slice Af nf cf, .slice Ao no co, .slice Av nv cv]) (by exact rg) hb; have HE1 : Hid (Ext w w1) := Ext.trans xt hb; clear hb) | (go_at_call 24; refine (HA.out _ HE1.out).mono ?_; rintro e w2 ⟨V2, rfl, hT2, hb2⟩; obtain ⟨c2, rfl⟩ := hT2.cells; have HT2 := Lib.hid hT2; have HB2 := Lib.hid hb2; clear hT2 hb2))
        refine wp_hid2 ?_
        intro W3 HW3
        have HF3 : Hid (Ext w1 W3) := by have h := HB2.out; have h2 := h.size; rw [Hid, HW3.out]; exact xts
        have HE3 : Hid (Ext w W3) := HE1.out.trans HF3.out
        have R3 : W3.rangeAt (w.heap.size + 1) 0 c.l := range_ext R1 HF3.out
        have Q3 : W3.rangeAt w.heap.size 0 [.slice Af nf cf, .slice Ao no co, .slice Av nv cv] := range_ext Q1 HF3.out
        have T3 : W3.there w2.heap.size 0 14 := by rw [HW3.out]; exact tr
        have U3 : W3.rangeAt w2.heap.size 0 c2.l := by rw [HW3.out]; exact (ranges_two (by omega) (c2.there' (by exact tr)) (by show World.there _ _ 0 3; exact tr)).1
        have S3 : W3.rangeAt (w2.heap.size + 1) 0 [Value.int .i64 4, Value.int .i64 0, Value.int .i64 0] := by rw [HW3.out]; exact (ranges_two (by omega) (c2.there' (by exact tr)) (by show World.there _ _ 0 3; exact tr)).2
        have s0 : W3.cell? ⟨w2.heap.size + 1, 0, none⟩ = some (Value.int .i64 4) := S3 0 _ rfl
        have s1 : W3.cell? ⟨w2.heap.size + 1, 1, none⟩ = some (Value.int .i64 0) := S3 1 _ rfl
        have s2 : W3.cell? ⟨w2.heap.size + 1, 2, none⟩ = some (Value.int .i64 0) := S3 2 _ rfl
        have HT3 : Hid (RTsk W3 u (.agg c2.l.toArray)) := HT2.out.mono (by rw [HW3.out]; exact xts)
        have r3 : W3.cell? ⟨w.heap.size + 1, 3, none⟩ = some (Value.int .i64 t.status) := R3 3 _ (by rw [HCL.out]; rfl)
        clear HW3 HT2 HB2 T3
        have HCu := Lib.hid (HCuA.out W3 c2 HT3.out HE3.out)
        go_upto_region 9 with (first | ((first | ((with_reducible show Code.wp _ (Code.region _ (List.toArray ({ dst := _, op := Op.load 26 _, type := _, pos := _, after := _, guard := none } :: _)) false) _ _ _); refine wp_region_lit ?_) | (with_reducible show wpList _ _ _ ({ dst := _, op := Op.load 26 _, type := _, pos := _, after := _, guard := none } :: _) _ _)); refine wpList_load_mid rfl 26 _ rfl _ _ rfl _ _ (by exact rg) Tryz.underlying26 rfl (by exact infoPrg) ?_; dsimp only [dZ, dS]) | ((first | ((with_reducible show Code.wp _ (Code.region _ (List.toArray ({ dst := _, op := Op.load 32 _, type := _, pos := _, after := _, guard := none } :: _)) false) _ _ _); refine wp_region_lit ?_) | (with_reducible show wpList _ _ _ ({ dst := _, op := Op.load 32 _, type := _, pos := _, after := _, guard := none } :: _) _ _)); refine wpList_load_mid rfl 32 _ rfl _ _ rfl _ _ (by exact rg) Tryz.underlying32 rfl (by exact Cells14.info _) ?_; dsimp only [dZ, dS]) | ((first | ((with_reducible show Code.wp _ (Code.region _ (List.toArray ({ dst := _, op := Op.store 37 _ _, type := _, pos := _, after := _, guard := none } :: _)) false) _ _ _); refine wp_region_lit ?_) | (with_reducible show wpList _ _ _ ({ dst := _, op := Op.store 37 _ _, type := _, pos := _, after := _, guard := none } :: _) _ _)); refine wpList_store_mid rfl 37 _ _ rfl _ _ _ rfl rfl (by exact tr) infoInsN (all_oneCell_toArray (by simp [Value.oneCell'])) ?_; (try dsimp only [Act.put])) | (go_at_call 15; refine HCu.out.mono ?_; rintro e w4 ⟨A4, n4, c4, rfl, _, hb4⟩; have HB4 := Lib.hid hb4; clear hb4))
        refine wp_hid2 ?_
        intro W4 HW4
        have HF4 : Hid (Ext W3 W4) := by have h := HB4.out; have h2 := h.size; rw [Hid, HW4.out]; exact xts
        have HE4 : Hid (Ext w W4) := HE3.out.trans HF4.out
        have Q4 : W4.rangeAt w.heap.size 0 [.slice Af nf cf, .slice Ao no co, .slice Av nv cv] := range_ext Q3 HF4.out
        have U4 : W4.rangeAt w2.heap.size 0 c2.l := range_ext U3 HF4.out
        have S4 : W4.rangeAt (w2.heap.size + 1) 0 [Value.int .i64 4, Value.int .i64 0, Value.int .i64 0] := range_ext S3 HF4.out
        have s0 := HF4.out.cell s0
        have s1 := HF4.out.cell s1
        have s2 := HF4.out.cell s2
        have i0 : W4.cell? ⟨w4.heap.size, 0, none⟩ = some (Value.int .i64 x.op) := by
          have h : W4.rangeAt w4.heap.size 0 [Value.int .i64 x.op, Value.int .i64 x.a, Value.int .i64 x.b, Value.int .i64 x.c, .slice A4 n4 c4] := by rw [HW4.out]; exact World.rangeAt_setCells_same _ _ 0 _ (by show World.there _ _ 0 5; exact there_new rfl rfl)
          exact h 0 _ rfl
        clear HW4 HB4
        have z0 := lt_of_cell s0
        have z1 := lt_of_cell i0
        (refine wp_region_quiet_below (by kernel_rfl) (by kernel_rfl) ?_; (repeat (go_big_quiet_step ((go_at_call 26; exact quiet_ext (HVi.out _))))); refine wpQuiet_nil ?_; intro w1 hw1; obtain ⟨hc, hf, hs, he⟩ := Ext.use (w := W4) (ext_of_regrown hw1) xt; clear hw1; (try simp only [sA, sC, sD, sN] at hs))
        have HE5 : Hid (Ext w w1) := HE4.out.trans he
        go_wp2_with (go_at_call 14; refine (awake_any _).mono ?_; rintro e w9 ⟨rfl, hb9⟩; have HE9 := Lib.hid (Ext.trans HE5.out hb9); clear hb9)
        go_ret
        exact ⟨rfl, HE9.out⟩
      | true =>
        go_enter Tryz.func6, Tryz.ntmps6
        go_upto_region 4 with (first | ((first | ((with_reducible show Code.wp _ (Code.region _ (List.toArray ({ dst := _, op := Op.load 26 _, type := _, pos := _, after := _, guard := none } :: _)) false) _ _ _); refine wp_region_lit ?_) | (with_reducible show wpList _ _ _ ({ dst := _, op := Op.load 26 _, type := _, pos := _, after := _, guard := none } :: _) _ _)); refine wpList_load_mid rfl 26 _ rfl _ _ rfl _ _ (by exact rg) Tryz.underlying26 rfl (by exact infoPrg) ?_; dsimp only [dZ, dS]) | ((first | ((with_reducible show Code.wp _ (Code.region _ (List.toArray ({ dst := _, op := Op.load 32 _, type := _, pos := _, after := _, guard := none } :: _)) false) _ _ _); refine wp_region_lit ?_) | (with_reducible show wpList _ _ _ ({ dst := _, op := Op.load 32 _, type := _, pos := _, after := _, guard := none } :: _) _ _)); refine wpList_load_mid rfl 32 _ rfl _ _ rfl _ _ (by exact rg) Tryz.underlying32 rfl (by exact Cells14.info _) ?_; dsimp only [dZ, dS]) | ((with_reducible show wpList _ _ _ ({ dst := _, op := Op.store 32 _ _, type := _, pos := _, after := _, guard := none } :: _) _ _); refine wpList_store_mid rfl 32 _ _ rfl _ _ (List.toArray (Cells14.l _)) rfl rfl (by refine Cells14.there _ ?_; exact tr) (Cells14.infoA _) (Cells14.oneA _) ?_; (try dsimp only [Act.put])) | ((first | ((with_reducible show Code.wp _ (Code.region _ (List.toArray ({ dst := _, op := Op.store 49 _ _, type := _, pos := _, after := _, guard := none } :: _)) false) _ _ _); refine wp_region_lit ?_) | (with_reducible show wpList _ _ _ ({ dst := _, op := Op.store 49 _ _, type := _, pos := _, after := _, guard := none } :: _) _ _)); refine wpList_store_mid rfl 49 _ _ rfl _ _ _ rfl rfl (by exact tr) infoStop (all_oneCell_toArray (by simp [Value.oneCell'])) ?_; (try dsimp only [Act.put])) | (go_at_call 13; refine (HG.out _ xt).mono ?_; rintro e w1 ⟨rfl, hb⟩; have R1 := range_ext (b := w.heap.size + 1) (o := 0) (by exact rg) hb; have Q1 := range_ext (b := w.heap.size) (o := 0) (cs := [.slice Af nf cf, .slice Ao no co, .slice Av nv cv]) (by exact rg) hb; have HE1 : Hid (Ext w w1) := Ext.trans xt hb; clear hb) | (go_at_call 24; refine (HA.out _ HE1.out).mono ?_; rintro e w2 ⟨V2, rfl, hT2, hb2⟩; obtain ⟨c2, rfl⟩ := hT2.cells; have HT2 := Lib.hid hT2; have HB2 := Lib.hid hb2; clear hT2 hb2))
        refine wp_hid2 ?_
        intro W3 HW3
        have HF3 : Hid (Ext w1 W3) := by have h := HB2.out; have h2 := h.size; rw [Hid, HW3.out]; exact xts
        have HE3 : Hid (Ext w W3) := HE1.out.trans HF3.out
        have R3 : W3.rangeAt (w.heap.size + 1) 0 c.l := range_ext R1 HF3.out
        have Q3 : W3.rangeAt w.heap.size 0 [.slice Af nf cf, .slice Ao no co, .slice Av nv cv] := range_ext Q1 HF3.out
        have T3 : W3.there w2.heap.size 0 14 := by rw [HW3.out]; exact tr
        have U3 : W3.rangeAt w2.heap.size 0 c2.l := by rw [HW3.out]; exact (ranges_two (by omega) (c2.there' (by exact tr)) (by show World.there _ _ 0 3; exact tr)).1
        have S3 : W3.rangeAt (w2.heap.size + 1) 0 [Value.int .i64 4, Value.int .i64 0, Value.int .i64 0] := by rw [HW3.out]; exact (ranges_two (by omega) (c2.there' (by exact tr)) (by show World.there _ _ 0 3; exact tr)).2
        have s0 : W3.cell? ⟨w2.heap.size + 1, 0, none⟩ = some (Value.int .i64 4) := S3 0 _ rfl
        have s1 : W3.cell? ⟨w2.heap.size + 1, 1, none⟩ = some (Value.int .i64 0) := S3 1 _ rfl
        have s2 : W3.cell? ⟨w2.heap.size + 1, 2, none⟩ = some (Value.int .i64 0) := S3 2 _ rfl
        have HT3 : Hid (RTsk W3 u (.agg c2.l.toArray)) := HT2.out.mono (by rw [HW3.out]; exact xts)
        have r3 : W3.cell? ⟨w.heap.size + 1, 3, none⟩ = some (Value.int .i64 t.status) := R3 3 _ (by rw [HCL.out]; rfl)
        clear HW3 HT2 HB2 T3
        have HCu := Lib.hid (HCuA.out W3 c2 HT3.out HE3.out)
        go_upto_region 9 with (first | ((first | ((with_reducible show Code.wp _ (Code.region _ (List.toArray ({ dst := _, op := Op.load 26 _, type := _, pos := _, after := _, guard := none } :: _)) false) _ _ _); refine wp_region_lit ?_) | (with_reducible show wpList _ _ _ ({ dst := _, op := Op.load 26 _, type := _, pos := _, after := _, guard := none } :: _) _ _)); refine wpList_load_mid rfl 26 _ rfl _ _ rfl _ _ (by exact rg) Tryz.underlying26 rfl (by exact infoPrg) ?_; dsimp only [dZ, dS]) | ((first | ((with_reducible show Code.wp _ (Code.region _ (List.toArray ({ dst := _, op := Op.load 32 _, type := _, pos := _, after := _, guard := none } :: _)) false) _ _ _); refine wp_region_lit ?_) | (with_reducible show wpList _ _ _ ({ dst := _, op := Op.load 32 _, type := _, pos := _, after := _, guard := none } :: _) _ _)); refine wpList_load_mid rfl 32 _ rfl _ _ rfl _ _ (by exact rg) Tryz.underlying32 rfl (by exact Cells14.info _) ?_; dsimp only [dZ, dS]) | ((first | ((with_reducible show Code.wp _ (Code.region _ (List.toArray ({ dst := _, op := Op.store 37 _ _, type := _, pos := _, after := _, guard := none } :: _)) false) _ _ _); refine wp_region_lit ?_) | (with_reducible show wpList _ _ _ ({ dst := _, op := Op.store 37 _ _, type := _, pos := _, after := _, guard := none } :: _) _ _)); refine wpList_store_mid rfl 37 _ _ rfl _ _ _ rfl rfl (by exact tr) infoInsN (all_oneCell_toArray (by simp [Value.oneCell'])) ?_; (try dsimp only [Act.put])) | (go_at_call 15; refine HCu.out.mono ?_; rintro e w4 ⟨A4, n4, c4, rfl, _, hb4⟩; have HB4 := Lib.hid hb4; clear hb4))
        refine wp_hid2 ?_
        intro W4 HW4
        have HF4 : Hid (Ext W3 W4) := by have h := HB4.out; have h2 := h.size; rw [Hid, HW4.out]; exact xts
        have HE4 : Hid (Ext w W4) := HE3.out.trans HF4.out
        have Q4 : W4.rangeAt w.heap.size 0 [.slice Af nf cf, .slice Ao no co, .slice Av nv cv] := range_ext Q3 HF4.out
        have U4 : W4.rangeAt w2.heap.size 0 c2.l := range_ext U3 HF4.out
        have S4 : W4.rangeAt (w2.heap.size + 1) 0 [Value.int .i64 4, Value.int .i64 0, Value.int .i64 0] := range_ext S3 HF4.out
        have s0 := HF4.out.cell s0
        have s1 := HF4.out.cell s1
        have s2 := HF4.out.cell s2
        have i0 : W4.cell? ⟨w4.heap.size, 0, none⟩ = some (Value.int .i64 x.op) := by
          have h : W4.rangeAt w4.heap.size 0 [Value.int .i64 x.op, Value.int .i64 x.a, Value.int .i64 x.b, Value.int .i64 x.c, .slice A4 n4 c4] := by rw [HW4.out]; exact World.rangeAt_setCells_same _ _ 0 _ (by show World.there _ _ 0 5; exact there_new rfl rfl)
          exact h 0 _ rfl
        clear HW4 HB4
        have z0 := lt_of_cell s0
        have z1 := lt_of_cell i0
        (refine wp_region_quiet_below (by kernel_rfl) (by kernel_rfl) ?_; (repeat (go_big_quiet_step ((go_at_call 26; exact quiet_ext (HVi.out _))))); refine wpQuiet_nil ?_; intro w1 hw1; obtain ⟨hc, hf, hs, he⟩ := Ext.use (w := W4) (ext_of_regrown hw1) xt; clear hw1; (try simp only [sA, sC, sD, sN] at hs))
        have HE5 : Hid (Ext w w1) := HE4.out.trans he
        go_wp2_with (go_at_call 14; refine (awake_any _).mono ?_; rintro e w9 ⟨rfl, hb9⟩; have HE9 := Lib.hid (Ext.trans HE5.out hb9); clear hb9)
        go_ret
        exact ⟨rfl, HE9.out⟩
set_option maxRecDepth 8000 in
set_option maxHeartbeats 8000000 in
theorem stops_again (p : Prg) (t u : Tsk) (VP VT : Value) (w : World) (k : Int) (x : Ins) (is : Bool) (hP : RPrg w p VP) (hT : RTsk w t VT) (hg : (greatP p || greatT t) = false) (hA : advanceS p t = (u, ⟨k, 0, 0⟩, 0)) (hA2 : advanceS p u = (u, ⟨k, 0, 0⟩, 0)) (hcur : currentS p u = (x, is))
    (hk : (k = 1 ∧ is = true ∧ visS x.op = true) ∨ k = 5) :
    Calls Tryz.prog 6 #[VP, VT] w fun e w' => e = .returned (.bool true) ∧ Ext w w' := by
  have HVi := Lib.hid (fun W => visible_any x.op W)
  have HG := Lib.hid (fun W (h : Ext w W) => great_any p t VP VT W (hP.mono h) (hT.mono h))
  rw [hg] at HG
  have HA := Lib.hid (fun W (h : Ext w W) => adv_law hA (hP.mono h) (hT.mono h))
  have HC := Lib.hid (fun W (h : Ext w W) => tCheck_any p t VP VT W (hP.mono h) (hT.mono h))
  have HP := Lib.hid hP
  obtain ⟨c, VF, VB, rfl, hcl⟩ := hT.cells2
  have HCL := Lib.hid hcl
  obtain ⟨Af, nf, cf, Ao, no, co, Av, nv, cv, rfl, _⟩ := hP
  clear hT hg hA hcl
  have HCuA : Hid (∀ W c2, RTsk W u (.agg (Cells14.l c2).toArray) → Ext w W → Calls Tryz.prog 15 #[.agg #[.slice Af nf cf, .slice Ao no co, .slice Av nv cv], .agg (Cells14.l c2).toArray] W fun e w' => ∃ A n c, e = .returned (.tuple #[.agg #[Value.int .i64 x.op, Value.int .i64 x.a, Value.int .i64 x.b, Value.int .i64 x.c, .slice A n c], .bool is]) ∧ (RSl 1 RInt w' A n x.args ∧ n ≤ c) ∧ Ext W w') := fun W c2 hT hE => by
    have := Current_any p u _ _ W (HP.out.mono hE) hT
    rw [hcur] at this
    exact this
  have HA2 : Hid (∀ W c2, RTsk W u (.agg (Cells14.l c2).toArray) → Ext w W → Calls Tryz.prog 24 #[.agg #[.slice Af nf cf, .slice Ao no co, .slice Av nv cv], .agg (Cells14.l c2).toArray] W fun e w' => ∃ V', e = .returned (.tuple #[V', .agg #[Value.int .i64 k, Value.int .i64 0, Value.int .i64 0], Value.int .i64 0]) ∧ RTsk w' u V' ∧ Ext W w') := fun W c2 hT hE => adv_law hA2 (HP.out.mono hE) hT
  clear hcur hA2
  obtain ⟨vis, hvis⟩ : ∃ q, visS x.op = q := ⟨_, rfl⟩
  rw [hvis] at HVi hk
  rcases hk with ⟨rfl, rfl, rfl⟩ | rfl
  · go_enter Tryz.func6, Tryz.ntmps6
    go_upto_region 4 with (first | ((first | ((with_reducible show Code.wp _ (Code.region _ (List.toArray ({ dst := _, op := Op.load 26 _, type := _, pos := _, after := _, guard := none } :: _)) false) _ _ _); refine wp_region_lit ?_) | (with_reducible show wpList _ _ _ ({ dst := _, op := Op.load 26 _, type := _, pos := _, after := _, guard := none } :: _) _ _)); refine wpList_load_mid rfl 26 _ rfl _ _ rfl _ _ (by exact rg) Tryz.underlying26 rfl (by exact infoPrg) ?_; dsimp only [dZ, dS]) | ((first | ((with_reducible show Code.wp _ (Code.region _ (List.toArray ({ dst := _, op := Op.load 32 _, type := _, pos := _, after := _, guard := none } :: _)) false) _ _ _); refine wp_region_lit ?_) | (with_reducible show wpList _ _ _ ({ dst := _, op := Op.load 32 _, type := _, pos := _, after := _, guard := none } :: _) _ _)); refine wpList_load_mid rfl 32 _ rfl _ _ rfl _ _ (by exact rg) Tryz.underlying32 rfl (by exact Cells14.info _) ?_; dsimp only [dZ, dS]) | ((with_reducible show wpList _ _ _ ({ dst := _, op := Op.store 32 _ _, type := _, pos := _, after := _, guard := none } :: _) _ _); refine wpList_store_mid rfl 32 _ _ rfl _ _ (List.toArray (Cells14.l _)) rfl rfl (by refine Cells14.there _ ?_; exact tr) (Cells14.infoA _) (Cells14.oneA _) ?_; (try dsimp only [Act.put])) | ((first | ((with_reducible show Code.wp _ (Code.region _ (List.toArray ({ dst := _, op := Op.store 49 _ _, type := _, pos := _, after := _, guard := none } :: _)) false) _ _ _); refine wp_region_lit ?_) | (with_reducible show wpList _ _ _ ({ dst := _, op := Op.store 49 _ _, type := _, pos := _, after := _, guard := none } :: _) _ _)); refine wpList_store_mid rfl 49 _ _ rfl _ _ _ rfl rfl (by exact tr) infoStop (all_oneCell_toArray (by simp [Value.oneCell'])) ?_; (try dsimp only [Act.put])) | (go_at_call 13; refine (HG.out _ xt).mono ?_; rintro e w1 ⟨rfl, hb⟩; have R1 := range_ext (b := w.heap.size + 1) (o := 0) (by exact rg) hb; have Q1 := range_ext (b := w.heap.size) (o := 0) (cs := [.slice Af nf cf, .slice Ao no co, .slice Av nv cv]) (by exact rg) hb; have HE1 : Hid (Ext w w1) := Ext.trans xt hb; clear hb) | (go_at_call 24; refine (HA.out _ HE1.out).mono ?_; rintro e w2 ⟨V2, rfl, hT2, hb2⟩; obtain ⟨c2, rfl⟩ := hT2.cells; have HT2 := Lib.hid hT2; have HB2 := Lib.hid hb2; clear hT2 hb2))
    refine wp_hid2 ?_
    intro W3 HW3
    have HF3 : Hid (Ext w1 W3) := by have h := HB2.out; have h2 := h.size; rw [Hid, HW3.out]; exact xts
    have HE3 : Hid (Ext w W3) := HE1.out.trans HF3.out
    have R3 : W3.rangeAt (w.heap.size + 1) 0 c.l := range_ext R1 HF3.out
    have Q3 : W3.rangeAt w.heap.size 0 [.slice Af nf cf, .slice Ao no co, .slice Av nv cv] := range_ext Q1 HF3.out
    have T3 : W3.there w2.heap.size 0 14 := by rw [HW3.out]; exact tr
    have U3 : W3.rangeAt w2.heap.size 0 c2.l := by rw [HW3.out]; exact (ranges_two (by omega) (c2.there' (by exact tr)) (by show World.there _ _ 0 3; exact tr)).1
    have S3 : W3.rangeAt (w2.heap.size + 1) 0 [Value.int .i64 1, Value.int .i64 0, Value.int .i64 0] := by rw [HW3.out]; exact (ranges_two (by omega) (c2.there' (by exact tr)) (by show World.there _ _ 0 3; exact tr)).2
    have s0 : W3.cell? ⟨w2.heap.size + 1, 0, none⟩ = some (Value.int .i64 1) := S3 0 _ rfl
    have s1 : W3.cell? ⟨w2.heap.size + 1, 1, none⟩ = some (Value.int .i64 0) := S3 1 _ rfl
    have s2 : W3.cell? ⟨w2.heap.size + 1, 2, none⟩ = some (Value.int .i64 0) := S3 2 _ rfl
    have HT3 : Hid (RTsk W3 u (.agg c2.l.toArray)) := HT2.out.mono (by rw [HW3.out]; exact xts)
    have r3 : W3.cell? ⟨w.heap.size + 1, 3, none⟩ = some (Value.int .i64 t.status) := R3 3 _ (by rw [HCL.out]; rfl)
    clear HW3 HT2 HB2 T3
    have HCu := Lib.hid (HCuA.out W3 c2 HT3.out HE3.out)
    go_upto_region 9 with (first | ((first | ((with_reducible show Code.wp _ (Code.region _ (List.toArray ({ dst := _, op := Op.load 26 _, type := _, pos := _, after := _, guard := none } :: _)) false) _ _ _); refine wp_region_lit ?_) | (with_reducible show wpList _ _ _ ({ dst := _, op := Op.load 26 _, type := _, pos := _, after := _, guard := none } :: _) _ _)); refine wpList_load_mid rfl 26 _ rfl _ _ rfl _ _ (by exact rg) Tryz.underlying26 rfl (by exact infoPrg) ?_; dsimp only [dZ, dS]) | ((first | ((with_reducible show Code.wp _ (Code.region _ (List.toArray ({ dst := _, op := Op.load 32 _, type := _, pos := _, after := _, guard := none } :: _)) false) _ _ _); refine wp_region_lit ?_) | (with_reducible show wpList _ _ _ ({ dst := _, op := Op.load 32 _, type := _, pos := _, after := _, guard := none } :: _) _ _)); refine wpList_load_mid rfl 32 _ rfl _ _ rfl _ _ (by exact rg) Tryz.underlying32 rfl (by exact Cells14.info _) ?_; dsimp only [dZ, dS]) | ((first | ((with_reducible show Code.wp _ (Code.region _ (List.toArray ({ dst := _, op := Op.store 37 _ _, type := _, pos := _, after := _, guard := none } :: _)) false) _ _ _); refine wp_region_lit ?_) | (with_reducible show wpList _ _ _ ({ dst := _, op := Op.store 37 _ _, type := _, pos := _, after := _, guard := none } :: _) _ _)); refine wpList_store_mid rfl 37 _ _ rfl _ _ _ rfl rfl (by exact tr) infoInsN (all_oneCell_toArray (by simp [Value.oneCell'])) ?_; (try dsimp only [Act.put])) | (go_at_call 15; refine HCu.out.mono ?_; rintro e w4 ⟨A4, n4, c4, rfl, _, hb4⟩; have HB4 := Lib.hid hb4; clear hb4))
    refine wp_hid2 ?_
    intro W4 HW4
    have HF4 : Hid (Ext W3 W4) := by have h := HB4.out; have h2 := h.size; rw [Hid, HW4.out]; exact xts
    have HE4 : Hid (Ext w W4) := HE3.out.trans HF4.out
    have Q4 : W4.rangeAt w.heap.size 0 [.slice Af nf cf, .slice Ao no co, .slice Av nv cv] := range_ext Q3 HF4.out
    have U4 : W4.rangeAt w2.heap.size 0 c2.l := range_ext U3 HF4.out
    have S4 : W4.rangeAt (w2.heap.size + 1) 0 [Value.int .i64 1, Value.int .i64 0, Value.int .i64 0] := range_ext S3 HF4.out
    have s0 := HF4.out.cell s0
    have s1 := HF4.out.cell s1
    have s2 := HF4.out.cell s2
    have i0 : W4.cell? ⟨w4.heap.size, 0, none⟩ = some (Value.int .i64 x.op) := by
      have h : W4.rangeAt w4.heap.size 0 [Value.int .i64 x.op, Value.int .i64 x.a, Value.int .i64 x.b, Value.int .i64 x.c, .slice A4 n4 c4] := by rw [HW4.out]; exact World.rangeAt_setCells_same _ _ 0 _ (by show World.there _ _ 0 5; exact there_new rfl rfl)
      exact h 0 _ rfl
    clear HW4 HB4
    have z0 := lt_of_cell s0
    have z1 := lt_of_cell i0
    (refine wp_region_quiet_below (by kernel_rfl) (by kernel_rfl) ?_; (repeat (go_big_quiet_step ((go_at_call 26; exact quiet_ext (HVi.out _))))); refine wpQuiet_nil ?_; intro w1 hw1; obtain ⟨hc, hf, hs, he⟩ := Ext.use (w := W4) (ext_of_regrown hw1) xt; clear hw1; (try simp only [sA, sC, sD, sN] at hs))
    have HE5 : Hid (Ext w w1) := HE4.out.trans he
    have HT5 : Hid (RTsk w1 u (.agg c2.l.toArray)) := HT3.out.mono (HF4.out.trans he)
    have Q5 : w1.rangeAt w.heap.size 0 [.slice Af nf cf, .slice Ao no co, .slice Av nv cv] := range_ext Q4 he
    have U5 : w1.rangeAt w2.heap.size 0 c2.l := range_ext U4 he
    have S5 : w1.rangeAt (w2.heap.size + 1) 0 [Value.int .i64 1, Value.int .i64 0, Value.int .i64 0] := range_ext S4 he
    go_upto_region 14 with (first | ((first | ((with_reducible show Code.wp _ (Code.region _ (List.toArray ({ dst := _, op := Op.load 26 _, type := _, pos := _, after := _, guard := none } :: _)) false) _ _ _); refine wp_region_lit ?_) | (with_reducible show wpList _ _ _ ({ dst := _, op := Op.load 26 _, type := _, pos := _, after := _, guard := none } :: _) _ _)); refine wpList_load_mid rfl 26 _ rfl _ _ rfl _ _ (by exact rg) Tryz.underlying26 rfl (by exact infoPrg) ?_; dsimp only [dZ, dS]) | ((first | ((with_reducible show Code.wp _ (Code.region _ (List.toArray ({ dst := _, op := Op.load 32 _, type := _, pos := _, after := _, guard := none } :: _)) false) _ _ _); refine wp_region_lit ?_) | (with_reducible show wpList _ _ _ ({ dst := _, op := Op.load 32 _, type := _, pos := _, after := _, guard := none } :: _) _ _)); refine wpList_load_mid rfl 32 _ rfl _ _ rfl _ _ (by exact rg) Tryz.underlying32 rfl (by exact Cells14.info _) ?_; dsimp only [dZ, dS]) | ((with_reducible show wpList _ _ _ ({ dst := _, op := Op.store 32 _ _, type := _, pos := _, after := _, guard := none } :: _) _ _); refine wpList_store_mid rfl 32 _ _ rfl _ _ (List.toArray (Cells14.l _)) rfl rfl (by refine Cells14.there _ ?_; exact tr) (Cells14.infoA _) (Cells14.oneA _) ?_; (try dsimp only [Act.put])) | ((first | ((with_reducible show Code.wp _ (Code.region _ (List.toArray ({ dst := _, op := Op.store 49 _ _, type := _, pos := _, after := _, guard := none } :: _)) false) _ _ _); refine wp_region_lit ?_) | (with_reducible show wpList _ _ _ ({ dst := _, op := Op.store 49 _ _, type := _, pos := _, after := _, guard := none } :: _) _ _)); refine wpList_store_mid rfl 49 _ _ rfl _ _ _ rfl rfl (by exact tr) infoStop (all_oneCell_toArray (by simp [Value.oneCell'])) ?_; (try dsimp only [Act.put])) | (go_at_call 24; refine (HA2.out w1 c2 HT5.out HE5.out).mono ?_; rintro e w6 ⟨V6, rfl, hT6, hb6⟩; obtain ⟨c6, rfl⟩ := hT6.cells; have HT6 := Lib.hid hT6; have HB6 := Lib.hid hb6; clear hT6 hb6))
    refine wp_hid2 ?_
    intro W6 HW6
    have HF6 : Hid (Ext w1 W6) := by have h := HB6.out; have h2 := h.size; rw [Hid, HW6.out]; exact xts
    have HE6 : Hid (Ext w W6) := HE5.out.trans HF6.out
    have U6 : W6.rangeAt w2.heap.size 0 c2.l := range_ext U5 HF6.out
    have S6 : W6.rangeAt (w2.heap.size + 1) 0 [Value.int .i64 1, Value.int .i64 0, Value.int .i64 0] := range_ext S5 HF6.out
    have D6 : W6.rangeAt w6.heap.size 0 c6.l := by rw [HW6.out]; exact (ranges_two (by omega) (c6.there' (by exact tr)) (by show World.there _ _ 0 3; exact tr)).1
    have A6 : W6.rangeAt (w6.heap.size + 1) 0 [Value.int .i64 1, Value.int .i64 0, Value.int .i64 0] := by rw [HW6.out]; exact (ranges_two (by omega) (c6.there' (by exact tr)) (by show World.there _ _ 0 3; exact tr)).2
    have HT66 : Hid (RTsk W6 u (.agg c6.l.toArray)) := HT6.out.mono (by rw [HW6.out]; exact xts)
    have HT56 : Hid (RTsk W6 u (.agg c2.l.toArray)) := HT5.out.mono HF6.out
    clear HW6 HT6 HB6 hc hf hs he s0 s1 s2 i0 z0 z1
    have HSa := Lib.hid (Same_any u u _ _ W6 HT56.out HT66.out)
    rw [decide_eq_true rfl] at HSa
    have heq : ∀ w : World, (binOp BinOp.eql 49 (.agg #[Value.int .i64 1, Value.int .i64 0, Value.int .i64 0]) (.agg #[Value.int .i64 1, Value.int .i64 0, Value.int .i64 0])).run Tryz.prog w = .ok (.bool true) w := fun _ => by kernel_rfl
    go_wp2_with (first | ((with_reducible show wpList _ _ _ ({ dst := _, op := Op.load 32 _, type := _, pos := _, after := _, guard := some _ } :: _) _ _); refine wpList_load_mid_g (by rfl) 32 _ rfl _ _ rfl _ _ (by exact rg) Tryz.underlying32 rfl (by exact Cells14.info _) ?_; dsimp only [dZ, dS]) | ((with_reducible show wpList _ _ _ ({ dst := _, op := Op.load 49 _, type := _, pos := _, after := _, guard := some _ } :: _) _ _); refine wpList_load_mid_g (by rfl) 49 _ rfl _ _ rfl _ _ (by exact rg) Tryz.underlying49 rfl (by exact infoStop) ?_; dsimp only [dZ, dS]) | (go_at_call 23; refine HSa.out.mono ?_; rintro e w7 ⟨rfl, hb7⟩; have HE7 : Hid (Ext w w7) := HE6.out.trans hb7; have S7 := range_ext S6 hb7; have A7 := range_ext A6 hb7; clear hb7) | (go_at_call 14; refine (awake_any _).mono ?_; rintro e w9 ⟨rfl, hb9⟩; have HE9 := Lib.hid (Ext.trans HE7.out hb9); clear hb9))
    go_ret
    exact ⟨rfl, HE9.out⟩
  · cases is with
    | false =>
      go_enter Tryz.func6, Tryz.ntmps6
      go_upto_region 4 with (first | ((first | ((with_reducible show Code.wp _ (Code.region _ (List.toArray ({ dst := _, op := Op.load 26 _, type := _, pos := _, after := _, guard := none } :: _)) false) _ _ _); refine wp_region_lit ?_) | (with_reducible show wpList _ _ _ ({ dst := _, op := Op.load 26 _, type := _, pos := _, after := _, guard := none } :: _) _ _)); refine wpList_load_mid rfl 26 _ rfl _ _ rfl _ _ (by exact rg) Tryz.underlying26 rfl (by exact infoPrg) ?_; dsimp only [dZ, dS]) | ((first | ((with_reducible show Code.wp _ (Code.region _ (List.toArray ({ dst := _, op := Op.load 32 _, type := _, pos := _, after := _, guard := none } :: _)) false) _ _ _); refine wp_region_lit ?_) | (with_reducible show wpList _ _ _ ({ dst := _, op := Op.load 32 _, type := _, pos := _, after := _, guard := none } :: _) _ _)); refine wpList_load_mid rfl 32 _ rfl _ _ rfl _ _ (by exact rg) Tryz.underlying32 rfl (by exact Cells14.info _) ?_; dsimp only [dZ, dS]) | ((with_reducible show wpList _ _ _ ({ dst := _, op := Op.store 32 _ _, type := _, pos := _, after := _, guard := none } :: _) _ _); refine wpList_store_mid rfl 32 _ _ rfl _ _ (List.toArray (Cells14.l _)) rfl rfl (by refine Cells14.there _ ?_; exact tr) (Cells14.infoA _) (Cells14.oneA _) ?_; (try dsimp only [Act.put])) | ((first | ((with_reducible show Code.wp _ (Code.region _ (List.toArray ({ dst := _, op := Op.store 49 _ _, type := _, pos := _, after := _, guard := none } :: _)) false) _ _ _); refine wp_region_lit ?_) | (with_reducible show wpList _ _ _ ({ dst := _, op := Op.store 49 _ _, type := _, pos := _, after := _, guard := none } :: _) _ _)); refine wpList_store_mid rfl 49 _ _ rfl _ _ _ rfl rfl (by exact tr) infoStop (all_oneCell_toArray (by simp [Value.oneCell'])) ?_; (try dsimp only [Act.put])) | (go_at_call 13; refine (HG.out _ xt).mono ?_; rintro e w1 ⟨rfl, hb⟩; have R1 := range_ext (b := w.heap.size + 1) (o := 0) (by exact rg) hb; have Q1 := range_ext (b := w.heap.size) (o := 0) (cs := [.slice Af nf cf, .slice Ao no co, .slice Av nv cv]) (by exact rg) hb; have HE1 : Hid (Ext w w1) := Ext.trans xt hb; clear hb) | (go_at_call 24; refine (HA.out _ HE1.out).mono ?_; rintro e w2 ⟨V2, rfl, hT2, hb2⟩; obtain ⟨c2, rfl⟩ := hT2.cells; have HT2 := Lib.hid hT2; have HB2 := Lib.hid hb2; clear hT2 hb2))
      refine wp_hid2 ?_
      intro W3 HW3
      have HF3 : Hid (Ext w1 W3) := by have h := HB2.out; have h2 := h.size; rw [Hid, HW3.out]; exact xts
      have HE3 : Hid (Ext w W3) := HE1.out.trans HF3.out
      have R3 : W3.rangeAt (w.heap.size + 1) 0 c.l := range_ext R1 HF3.out
      have Q3 : W3.rangeAt w.heap.size 0 [.slice Af nf cf, .slice Ao no co, .slice Av nv cv] := range_ext Q1 HF3.out
      have T3 : W3.there w2.heap.size 0 14 := by rw [HW3.out]; exact tr
      have U3 : W3.rangeAt w2.heap.size 0 c2.l := by rw [HW3.out]; exact (ranges_two (by omega) (c2.there' (by exact tr)) (by show World.there _ _ 0 3; exact tr)).1
      have S3 : W3.rangeAt (w2.heap.size + 1) 0 [Value.int .i64 5, Value.int .i64 0, Value.int .i64 0] := by rw [HW3.out]; exact (ranges_two (by omega) (c2.there' (by exact tr)) (by show World.there _ _ 0 3; exact tr)).2
      have s0 : W3.cell? ⟨w2.heap.size + 1, 0, none⟩ = some (Value.int .i64 5) := S3 0 _ rfl
      have s1 : W3.cell? ⟨w2.heap.size + 1, 1, none⟩ = some (Value.int .i64 0) := S3 1 _ rfl
      have s2 : W3.cell? ⟨w2.heap.size + 1, 2, none⟩ = some (Value.int .i64 0) := S3 2 _ rfl
      have HT3 : Hid (RTsk W3 u (.agg c2.l.toArray)) := HT2.out.mono (by rw [HW3.out]; exact xts)
      have r3 : W3.cell? ⟨w.heap.size + 1, 3, none⟩ = some (Value.int .i64 t.status) := R3 3 _ (by rw [HCL.out]; rfl)
      clear HW3 HT2 HB2 T3
      have HCu := Lib.hid (HCuA.out W3 c2 HT3.out HE3.out)
      go_upto_region 9 with (first | ((first | ((with_reducible show Code.wp _ (Code.region _ (List.toArray ({ dst := _, op := Op.load 26 _, type := _, pos := _, after := _, guard := none } :: _)) false) _ _ _); refine wp_region_lit ?_) | (with_reducible show wpList _ _ _ ({ dst := _, op := Op.load 26 _, type := _, pos := _, after := _, guard := none } :: _) _ _)); refine wpList_load_mid rfl 26 _ rfl _ _ rfl _ _ (by exact rg) Tryz.underlying26 rfl (by exact infoPrg) ?_; dsimp only [dZ, dS]) | ((first | ((with_reducible show Code.wp _ (Code.region _ (List.toArray ({ dst := _, op := Op.load 32 _, type := _, pos := _, after := _, guard := none } :: _)) false) _ _ _); refine wp_region_lit ?_) | (with_reducible show wpList _ _ _ ({ dst := _, op := Op.load 32 _, type := _, pos := _, after := _, guard := none } :: _) _ _)); refine wpList_load_mid rfl 32 _ rfl _ _ rfl _ _ (by exact rg) Tryz.underlying32 rfl (by exact Cells14.info _) ?_; dsimp only [dZ, dS]) | ((first | ((with_reducible show Code.wp _ (Code.region _ (List.toArray ({ dst := _, op := Op.store 37 _ _, type := _, pos := _, after := _, guard := none } :: _)) false) _ _ _); refine wp_region_lit ?_) | (with_reducible show wpList _ _ _ ({ dst := _, op := Op.store 37 _ _, type := _, pos := _, after := _, guard := none } :: _) _ _)); refine wpList_store_mid rfl 37 _ _ rfl _ _ _ rfl rfl (by exact tr) infoInsN (all_oneCell_toArray (by simp [Value.oneCell'])) ?_; (try dsimp only [Act.put])) | (go_at_call 15; refine HCu.out.mono ?_; rintro e w4 ⟨A4, n4, c4, rfl, _, hb4⟩; have HB4 := Lib.hid hb4; clear hb4))
      refine wp_hid2 ?_
      intro W4 HW4
      have HF4 : Hid (Ext W3 W4) := by have h := HB4.out; have h2 := h.size; rw [Hid, HW4.out]; exact xts
      have HE4 : Hid (Ext w W4) := HE3.out.trans HF4.out
      have Q4 : W4.rangeAt w.heap.size 0 [.slice Af nf cf, .slice Ao no co, .slice Av nv cv] := range_ext Q3 HF4.out
      have U4 : W4.rangeAt w2.heap.size 0 c2.l := range_ext U3 HF4.out
      have S4 : W4.rangeAt (w2.heap.size + 1) 0 [Value.int .i64 5, Value.int .i64 0, Value.int .i64 0] := range_ext S3 HF4.out
      have s0 := HF4.out.cell s0
      have s1 := HF4.out.cell s1
      have s2 := HF4.out.cell s2
      have i0 : W4.cell? ⟨w4.heap.size, 0, none⟩ = some (Value.int .i64 x.op) := by
        have h : W4.rangeAt w4.heap.size 0 [Value.int .i64 x.op, Value.int .i64 x.a, Value.int .i64 x.b, Value.int .i64 x.c, .slice A4 n4 c4] := by rw [HW4.out]; exact World.rangeAt_setCells_same _ _ 0 _ (by show World.there _ _ 0 5; exact there_new rfl rfl)
        exact h 0 _ rfl
      clear HW4 HB4
      have z0 := lt_of_cell s0
      have z1 := lt_of_cell i0
      (refine wp_region_quiet_below (by kernel_rfl) (by kernel_rfl) ?_; (repeat (go_big_quiet_step ((go_at_call 26; exact quiet_ext (HVi.out _))))); refine wpQuiet_nil ?_; intro w1 hw1; obtain ⟨hc, hf, hs, he⟩ := Ext.use (w := W4) (ext_of_regrown hw1) xt; clear hw1; (try simp only [sA, sC, sD, sN] at hs))
      have HE5 : Hid (Ext w w1) := HE4.out.trans he
      have HT5 : Hid (RTsk w1 u (.agg c2.l.toArray)) := HT3.out.mono (HF4.out.trans he)
      have Q5 : w1.rangeAt w.heap.size 0 [.slice Af nf cf, .slice Ao no co, .slice Av nv cv] := range_ext Q4 he
      have U5 : w1.rangeAt w2.heap.size 0 c2.l := range_ext U4 he
      have S5 : w1.rangeAt (w2.heap.size + 1) 0 [Value.int .i64 5, Value.int .i64 0, Value.int .i64 0] := range_ext S4 he
      go_upto_region 14 with (first | ((first | ((with_reducible show Code.wp _ (Code.region _ (List.toArray ({ dst := _, op := Op.load 26 _, type := _, pos := _, after := _, guard := none } :: _)) false) _ _ _); refine wp_region_lit ?_) | (with_reducible show wpList _ _ _ ({ dst := _, op := Op.load 26 _, type := _, pos := _, after := _, guard := none } :: _) _ _)); refine wpList_load_mid rfl 26 _ rfl _ _ rfl _ _ (by exact rg) Tryz.underlying26 rfl (by exact infoPrg) ?_; dsimp only [dZ, dS]) | ((first | ((with_reducible show Code.wp _ (Code.region _ (List.toArray ({ dst := _, op := Op.load 32 _, type := _, pos := _, after := _, guard := none } :: _)) false) _ _ _); refine wp_region_lit ?_) | (with_reducible show wpList _ _ _ ({ dst := _, op := Op.load 32 _, type := _, pos := _, after := _, guard := none } :: _) _ _)); refine wpList_load_mid rfl 32 _ rfl _ _ rfl _ _ (by exact rg) Tryz.underlying32 rfl (by exact Cells14.info _) ?_; dsimp only [dZ, dS]) | ((with_reducible show wpList _ _ _ ({ dst := _, op := Op.store 32 _ _, type := _, pos := _, after := _, guard := none } :: _) _ _); refine wpList_store_mid rfl 32 _ _ rfl _ _ (List.toArray (Cells14.l _)) rfl rfl (by refine Cells14.there _ ?_; exact tr) (Cells14.infoA _) (Cells14.oneA _) ?_; (try dsimp only [Act.put])) | ((first | ((with_reducible show Code.wp _ (Code.region _ (List.toArray ({ dst := _, op := Op.store 49 _ _, type := _, pos := _, after := _, guard := none } :: _)) false) _ _ _); refine wp_region_lit ?_) | (with_reducible show wpList _ _ _ ({ dst := _, op := Op.store 49 _ _, type := _, pos := _, after := _, guard := none } :: _) _ _)); refine wpList_store_mid rfl 49 _ _ rfl _ _ _ rfl rfl (by exact tr) infoStop (all_oneCell_toArray (by simp [Value.oneCell'])) ?_; (try dsimp only [Act.put])) | (go_at_call 24; refine (HA2.out w1 c2 HT5.out HE5.out).mono ?_; rintro e w6 ⟨V6, rfl, hT6, hb6⟩; obtain ⟨c6, rfl⟩ := hT6.cells; have HT6 := Lib.hid hT6; have HB6 := Lib.hid hb6; clear hT6 hb6))
      refine wp_hid2 ?_
      intro W6 HW6
      have HF6 : Hid (Ext w1 W6) := by have h := HB6.out; have h2 := h.size; rw [Hid, HW6.out]; exact xts
      have HE6 : Hid (Ext w W6) := HE5.out.trans HF6.out
      have U6 : W6.rangeAt w2.heap.size 0 c2.l := range_ext U5 HF6.out
      have S6 : W6.rangeAt (w2.heap.size + 1) 0 [Value.int .i64 5, Value.int .i64 0, Value.int .i64 0] := range_ext S5 HF6.out
      have D6 : W6.rangeAt w6.heap.size 0 c6.l := by rw [HW6.out]; exact (ranges_two (by omega) (c6.there' (by exact tr)) (by show World.there _ _ 0 3; exact tr)).1
      have A6 : W6.rangeAt (w6.heap.size + 1) 0 [Value.int .i64 5, Value.int .i64 0, Value.int .i64 0] := by rw [HW6.out]; exact (ranges_two (by omega) (c6.there' (by exact tr)) (by show World.there _ _ 0 3; exact tr)).2
      have HT66 : Hid (RTsk W6 u (.agg c6.l.toArray)) := HT6.out.mono (by rw [HW6.out]; exact xts)
      have HT56 : Hid (RTsk W6 u (.agg c2.l.toArray)) := HT5.out.mono HF6.out
      clear HW6 HT6 HB6 hc hf hs he s0 s1 s2 i0 z0 z1
      have HSa := Lib.hid (Same_any u u _ _ W6 HT56.out HT66.out)
      rw [decide_eq_true rfl] at HSa
      have heq : ∀ w : World, (binOp BinOp.eql 49 (.agg #[Value.int .i64 5, Value.int .i64 0, Value.int .i64 0]) (.agg #[Value.int .i64 5, Value.int .i64 0, Value.int .i64 0])).run Tryz.prog w = .ok (.bool true) w := fun _ => by kernel_rfl
      go_wp2_with (first | ((with_reducible show wpList _ _ _ ({ dst := _, op := Op.load 32 _, type := _, pos := _, after := _, guard := some _ } :: _) _ _); refine wpList_load_mid_g (by rfl) 32 _ rfl _ _ rfl _ _ (by exact rg) Tryz.underlying32 rfl (by exact Cells14.info _) ?_; dsimp only [dZ, dS]) | ((with_reducible show wpList _ _ _ ({ dst := _, op := Op.load 49 _, type := _, pos := _, after := _, guard := some _ } :: _) _ _); refine wpList_load_mid_g (by rfl) 49 _ rfl _ _ rfl _ _ (by exact rg) Tryz.underlying49 rfl (by exact infoStop) ?_; dsimp only [dZ, dS]) | (go_at_call 23; refine HSa.out.mono ?_; rintro e w7 ⟨rfl, hb7⟩; have HE7 : Hid (Ext w w7) := HE6.out.trans hb7; have S7 := range_ext S6 hb7; have A7 := range_ext A6 hb7; clear hb7) | (go_at_call 14; refine (awake_any _).mono ?_; rintro e w9 ⟨rfl, hb9⟩; have HE9 := Lib.hid (Ext.trans HE7.out hb9); clear hb9))
      go_ret
      exact ⟨rfl, HE9.out⟩
    | true =>
      cases vis with
      | false =>
        go_enter Tryz.func6, Tryz.ntmps6
        go_upto_region 4 with (first | ((first | ((with_reducible show Code.wp _ (Code.region _ (List.toArray ({ dst := _, op := Op.load 26 _, type := _, pos := _, after := _, guard := none } :: _)) false) _ _ _); refine wp_region_lit ?_) | (with_reducible show wpList _ _ _ ({ dst := _, op := Op.load 26 _, type := _, pos := _, after := _, guard := none } :: _) _ _)); refine wpList_load_mid rfl 26 _ rfl _ _ rfl _ _ (by exact rg) Tryz.underlying26 rfl (by exact infoPrg) ?_; dsimp only [dZ, dS]) | ((first | ((with_reducible show Code.wp _ (Code.region _ (List.toArray ({ dst := _, op := Op.load 32 _, type := _, pos := _, after := _, guard := none } :: _)) false) _ _ _); refine wp_region_lit ?_) | (with_reducible show wpList _ _ _ ({ dst := _, op := Op.load 32 _, type := _, pos := _, after := _, guard := none } :: _) _ _)); refine wpList_load_mid rfl 32 _ rfl _ _ rfl _ _ (by exact rg) Tryz.underlying32 rfl (by exact Cells14.info _) ?_; dsimp only [dZ, dS]) | ((with_reducible show wpList _ _ _ ({ dst := _, op := Op.store 32 _ _, type := _, pos := _, after := _, guard := none } :: _) _ _); refine wpList_store_mid rfl 32 _ _ rfl _ _ (List.toArray (Cells14.l _)) rfl rfl (by refine Cells14.there _ ?_; exact tr) (Cells14.infoA _) (Cells14.oneA _) ?_; (try dsimp only [Act.put])) | ((first | ((with_reducible show Code.wp _ (Code.region _ (List.toArray ({ dst := _, op := Op.store 49 _ _, type := _, pos := _, after := _, guard := none } :: _)) false) _ _ _); refine wp_region_lit ?_) | (with_reducible show wpList _ _ _ ({ dst := _, op := Op.store 49 _ _, type := _, pos := _, after := _, guard := none } :: _) _ _)); refine wpList_store_mid rfl 49 _ _ rfl _ _ _ rfl rfl (by exact tr) infoStop (all_oneCell_toArray (by simp [Value.oneCell'])) ?_; (try dsimp only [Act.put])) | (go_at_call 13; refine (HG.out _ xt).mono ?_; rintro e w1 ⟨rfl, hb⟩; have R1 := range_ext (b := w.heap.size + 1) (o := 0) (by exact rg) hb; have Q1 := range_ext (b := w.heap.size) (o := 0) (cs := [.slice Af nf cf, .slice Ao no co, .slice Av nv cv]) (by exact rg) hb; have HE1 : Hid (Ext w w1) := Ext.trans xt hb; clear hb) | (go_at_call 24; refine (HA.out _ HE1.out).mono ?_; rintro e w2 ⟨V2, rfl, hT2, hb2⟩; obtain ⟨c2, rfl⟩ := hT2.cells; have HT2 := Lib.hid hT2; have HB2 := Lib.hid hb2; clear hT2 hb2))
        refine wp_hid2 ?_
        intro W3 HW3
        have HF3 : Hid (Ext w1 W3) := by have h := HB2.out; have h2 := h.size; rw [Hid, HW3.out]; exact xts
        have HE3 : Hid (Ext w W3) := HE1.out.trans HF3.out
        have R3 : W3.rangeAt (w.heap.size + 1) 0 c.l := range_ext R1 HF3.out
        have Q3 : W3.rangeAt w.heap.size 0 [.slice Af nf cf, .slice Ao no co, .slice Av nv cv] := range_ext Q1 HF3.out
        have T3 : W3.there w2.heap.size 0 14 := by rw [HW3.out]; exact tr
        have U3 : W3.rangeAt w2.heap.size 0 c2.l := by rw [HW3.out]; exact (ranges_two (by omega) (c2.there' (by exact tr)) (by show World.there _ _ 0 3; exact tr)).1
        have S3 : W3.rangeAt (w2.heap.size + 1) 0 [Value.int .i64 5, Value.int .i64 0, Value.int .i64 0] := by rw [HW3.out]; exact (ranges_two (by omega) (c2.there' (by exact tr)) (by show World.there _ _ 0 3; exact tr)).2
        have s0 : W3.cell? ⟨w2.heap.size + 1, 0, none⟩ = some (Value.int .i64 5) := S3 0 _ rfl
        have s1 : W3.cell? ⟨w2.heap.size + 1, 1, none⟩ = some (Value.int .i64 0) := S3 1 _ rfl
        have s2 : W3.cell? ⟨w2.heap.size + 1, 2, none⟩ = some (Value.int .i64 0) := S3 2 _ rfl
        have HT3 : Hid (RTsk W3 u (.agg c2.l.toArray)) := HT2.out.mono (by rw [HW3.out]; exact xts)
        have r3 : W3.cell? ⟨w.heap.size + 1, 3, none⟩ = some (Value.int .i64 t.status) := R3 3 _ (by rw [HCL.out]; rfl)
        clear HW3 HT2 HB2 T3
        have HCu := Lib.hid (HCuA.out W3 c2 HT3.out HE3.out)
        go_upto_region 9 with (first | ((first | ((with_reducible show Code.wp _ (Code.region _ (List.toArray ({ dst := _, op := Op.load 26 _, type := _, pos := _, after := _, guard := none } :: _)) false) _ _ _); refine wp_region_lit ?_) | (with_reducible show wpList _ _ _ ({ dst := _, op := Op.load 26 _, type := _, pos := _, after := _, guard := none } :: _) _ _)); refine wpList_load_mid rfl 26 _ rfl _ _ rfl _ _ (by exact rg) Tryz.underlying26 rfl (by exact infoPrg) ?_; dsimp only [dZ, dS]) | ((first | ((with_reducible show Code.wp _ (Code.region _ (List.toArray ({ dst := _, op := Op.load 32 _, type := _, pos := _, after := _, guard := none } :: _)) false) _ _ _); refine wp_region_lit ?_) | (with_reducible show wpList _ _ _ ({ dst := _, op := Op.load 32 _, type := _, pos := _, after := _, guard := none } :: _) _ _)); refine wpList_load_mid rfl 32 _ rfl _ _ rfl _ _ (by exact rg) Tryz.underlying32 rfl (by exact Cells14.info _) ?_; dsimp only [dZ, dS]) | ((first | ((with_reducible show Code.wp _ (Code.region _ (List.toArray ({ dst := _, op := Op.store 37 _ _, type := _, pos := _, after := _, guard := none } :: _)) false) _ _ _); refine wp_region_lit ?_) | (with_reducible show wpList _ _ _ ({ dst := _, op := Op.store 37 _ _, type := _, pos := _, after := _, guard := none } :: _) _ _)); refine wpList_store_mid rfl 37 _ _ rfl _ _ _ rfl rfl (by exact tr) infoInsN (all_oneCell_toArray (by simp [Value.oneCell'])) ?_; (try dsimp only [Act.put])) | (go_at_call 15; refine HCu.out.mono ?_; rintro e w4 ⟨A4, n4, c4, rfl, _, hb4⟩; have HB4 := Lib.hid hb4; clear hb4))
        refine wp_hid2 ?_
        intro W4 HW4
        have HF4 : Hid (Ext W3 W4) := by have h := HB4.out; have h2 := h.size; rw [Hid, HW4.out]; exact xts
        have HE4 : Hid (Ext w W4) := HE3.out.trans HF4.out
        have Q4 : W4.rangeAt w.heap.size 0 [.slice Af nf cf, .slice Ao no co, .slice Av nv cv] := range_ext Q3 HF4.out
        have U4 : W4.rangeAt w2.heap.size 0 c2.l := range_ext U3 HF4.out
        have S4 : W4.rangeAt (w2.heap.size + 1) 0 [Value.int .i64 5, Value.int .i64 0, Value.int .i64 0] := range_ext S3 HF4.out
        have s0 := HF4.out.cell s0
        have s1 := HF4.out.cell s1
        have s2 := HF4.out.cell s2
        have i0 : W4.cell? ⟨w4.heap.size, 0, none⟩ = some (Value.int .i64 x.op) := by
          have h : W4.rangeAt w4.heap.size 0 [Value.int .i64 x.op, Value.int .i64 x.a, Value.int .i64 x.b, Value.int .i64 x.c, .slice A4 n4 c4] := by rw [HW4.out]; exact World.rangeAt_setCells_same _ _ 0 _ (by show World.there _ _ 0 5; exact there_new rfl rfl)
          exact h 0 _ rfl
        clear HW4 HB4
        have z0 := lt_of_cell s0
        have z1 := lt_of_cell i0
        (refine wp_region_quiet_below (by kernel_rfl) (by kernel_rfl) ?_; (repeat (go_big_quiet_step ((go_at_call 26; exact quiet_ext (HVi.out _))))); refine wpQuiet_nil ?_; intro w1 hw1; obtain ⟨hc, hf, hs, he⟩ := Ext.use (w := W4) (ext_of_regrown hw1) xt; clear hw1; (try simp only [sA, sC, sD, sN] at hs))
        have HE5 : Hid (Ext w w1) := HE4.out.trans he
        have HT5 : Hid (RTsk w1 u (.agg c2.l.toArray)) := HT3.out.mono (HF4.out.trans he)
        have Q5 : w1.rangeAt w.heap.size 0 [.slice Af nf cf, .slice Ao no co, .slice Av nv cv] := range_ext Q4 he
        have U5 : w1.rangeAt w2.heap.size 0 c2.l := range_ext U4 he
        have S5 : w1.rangeAt (w2.heap.size + 1) 0 [Value.int .i64 5, Value.int .i64 0, Value.int .i64 0] := range_ext S4 he
        go_upto_region 14 with (first | ((first | ((with_reducible show Code.wp _ (Code.region _ (List.toArray ({ dst := _, op := Op.load 26 _, type := _, pos := _, after := _, guard := none } :: _)) false) _ _ _); refine wp_region_lit ?_) | (with_reducible show wpList _ _ _ ({ dst := _, op := Op.load 26 _, type := _, pos := _, after := _, guard := none } :: _) _ _)); refine wpList_load_mid rfl 26 _ rfl _ _ rfl _ _ (by exact rg) Tryz.underlying26 rfl (by exact infoPrg) ?_; dsimp only [dZ, dS]) | ((first | ((with_reducible show Code.wp _ (Code.region _ (List.toArray ({ dst := _, op := Op.load 32 _, type := _, pos := _, after := _, guard := none } :: _)) false) _ _ _); refine wp_region_lit ?_) | (with_reducible show wpList _ _ _ ({ dst := _, op := Op.load 32 _, type := _, pos := _, after := _, guard := none } :: _) _ _)); refine wpList_load_mid rfl 32 _ rfl _ _ rfl _ _ (by exact rg) Tryz.underlying32 rfl (by exact Cells14.info _) ?_; dsimp only [dZ, dS]) | ((with_reducible show wpList _ _ _ ({ dst := _, op := Op.store 32 _ _, type := _, pos := _, after := _, guard := none } :: _) _ _); refine wpList_store_mid rfl 32 _ _ rfl _ _ (List.toArray (Cells14.l _)) rfl rfl (by refine Cells14.there _ ?_; exact tr) (Cells14.infoA _) (Cells14.oneA _) ?_; (try dsimp only [Act.put])) | ((first | ((with_reducible show Code.wp _ (Code.region _ (List.toArray ({ dst := _, op := Op.store 49 _ _, type := _, pos := _, after := _, guard := none } :: _)) false) _ _ _); refine wp_region_lit ?_) | (with_reducible show wpList _ _ _ ({ dst := _, op := Op.store 49 _ _, type := _, pos := _, after := _, guard := none } :: _) _ _)); refine wpList_store_mid rfl 49 _ _ rfl _ _ _ rfl rfl (by exact tr) infoStop (all_oneCell_toArray (by simp [Value.oneCell'])) ?_; (try dsimp only [Act.put])) | (go_at_call 24; refine (HA2.out w1 c2 HT5.out HE5.out).mono ?_; rintro e w6 ⟨V6, rfl, hT6, hb6⟩; obtain ⟨c6, rfl⟩ := hT6.cells; have HT6 := Lib.hid hT6; have HB6 := Lib.hid hb6; clear hT6 hb6))
        refine wp_hid2 ?_
        intro W6 HW6
        have HF6 : Hid (Ext w1 W6) := by have h := HB6.out; have h2 := h.size; rw [Hid, HW6.out]; exact xts
        have HE6 : Hid (Ext w W6) := HE5.out.trans HF6.out
        have U6 : W6.rangeAt w2.heap.size 0 c2.l := range_ext U5 HF6.out
        have S6 : W6.rangeAt (w2.heap.size + 1) 0 [Value.int .i64 5, Value.int .i64 0, Value.int .i64 0] := range_ext S5 HF6.out
        have D6 : W6.rangeAt w6.heap.size 0 c6.l := by rw [HW6.out]; exact (ranges_two (by omega) (c6.there' (by exact tr)) (by show World.there _ _ 0 3; exact tr)).1
        have A6 : W6.rangeAt (w6.heap.size + 1) 0 [Value.int .i64 5, Value.int .i64 0, Value.int .i64 0] := by rw [HW6.out]; exact (ranges_two (by omega) (c6.there' (by exact tr)) (by show World.there _ _ 0 3; exact tr)).2
        have HT66 : Hid (RTsk W6 u (.agg c6.l.toArray)) := HT6.out.mono (by rw [HW6.out]; exact xts)
        have HT56 : Hid (RTsk W6 u (.agg c2.l.toArray)) := HT5.out.mono HF6.out
        clear HW6 HT6 HB6 hc hf hs he s0 s1 s2 i0 z0 z1
        have HSa := Lib.hid (Same_any u u _ _ W6 HT56.out HT66.out)
        rw [decide_eq_true rfl] at HSa
        have heq : ∀ w : World, (binOp BinOp.eql 49 (.agg #[Value.int .i64 5, Value.int .i64 0, Value.int .i64 0]) (.agg #[Value.int .i64 5, Value.int .i64 0, Value.int .i64 0])).run Tryz.prog w = .ok (.bool true) w := fun _ => by kernel_rfl
        go_wp2_with (first | ((with_reducible show wpList _ _ _ ({ dst := _, op := Op.load 32 _, type := _, pos := _, after := _, guard := some _ } :: _) _ _); refine wpList_load_mid_g (by rfl) 32 _ rfl _ _ rfl _ _ (by exact rg) Tryz.underlying32 rfl (by exact Cells14.info _) ?_; dsimp only [dZ, dS]) | ((with_reducible show wpList _ _ _ ({ dst := _, op := Op.load 49 _, type := _, pos := _, after := _, guard := some _ } :: _) _ _); refine wpList_load_mid_g (by rfl) 49 _ rfl _ _ rfl _ _ (by exact rg) Tryz.underlying49 rfl (by exact infoStop) ?_; dsimp only [dZ, dS]) | (go_at_call 23; refine HSa.out.mono ?_; rintro e w7 ⟨rfl, hb7⟩; have HE7 : Hid (Ext w w7) := HE6.out.trans hb7; have S7 := range_ext S6 hb7; have A7 := range_ext A6 hb7; clear hb7) | (go_at_call 14; refine (awake_any _).mono ?_; rintro e w9 ⟨rfl, hb9⟩; have HE9 := Lib.hid (Ext.trans HE7.out hb9); clear hb9))
        go_ret
        exact ⟨rfl, HE9.out⟩
      | true =>
        go_enter Tryz.func6, Tryz.ntmps6
        go_upto_region 4 with (first | ((first | ((with_reducible show Code.wp _ (Code.region _ (List.toArray ({ dst := _, op := Op.load 26 _, type := _, pos := _, after := _, guard := none } :: _)) false) _ _ _); refine wp_region_lit ?_) | (with_reducible show wpList _ _ _ ({ dst := _, op := Op.load 26 _, type := _, pos := _, after := _, guard := none } :: _) _ _)); refine wpList_load_mid rfl 26 _ rfl _ _ rfl _ _ (by exact rg) Tryz.underlying26 rfl (by exact infoPrg) ?_; dsimp only [dZ, dS]) | ((first | ((with_reducible show Code.wp _ (Code.region _ (List.toArray ({ dst := _, op := Op.load 32 _, type := _, pos := _, after := _, guard := none } :: _)) false) _ _ _); refine wp_region_lit ?_) | (with_reducible show wpList _ _ _ ({ dst := _, op := Op.load 32 _, type := _, pos := _, after := _, guard := none } :: _) _ _)); refine wpList_load_mid rfl 32 _ rfl _ _ rfl _ _ (by exact rg) Tryz.underlying32 rfl (by exact Cells14.info _) ?_; dsimp only [dZ, dS]) | ((with_reducible show wpList _ _ _ ({ dst := _, op := Op.store 32 _ _, type := _, pos := _, after := _, guard := none } :: _) _ _); refine wpList_store_mid rfl 32 _ _ rfl _ _ (List.toArray (Cells14.l _)) rfl rfl (by refine Cells14.there _ ?_; exact tr) (Cells14.infoA _) (Cells14.oneA _) ?_; (try dsimp only [Act.put])) | ((first | ((with_reducible show Code.wp _ (Code.region _ (List.toArray ({ dst := _, op := Op.store 49 _ _, type := _, pos := _, after := _, guard := none } :: _)) false) _ _ _); refine wp_region_lit ?_) | (with_reducible show wpList _ _ _ ({ dst := _, op := Op.store 49 _ _, type := _, pos := _, after := _, guard := none } :: _) _ _)); refine wpList_store_mid rfl 49 _ _ rfl _ _ _ rfl rfl (by exact tr) infoStop (all_oneCell_toArray (by simp [Value.oneCell'])) ?_; (try dsimp only [Act.put])) | (go_at_call 13; refine (HG.out _ xt).mono ?_; rintro e w1 ⟨rfl, hb⟩; have R1 := range_ext (b := w.heap.size + 1) (o := 0) (by exact rg) hb; have Q1 := range_ext (b := w.heap.size) (o := 0) (cs := [.slice Af nf cf, .slice Ao no co, .slice Av nv cv]) (by exact rg) hb; have HE1 : Hid (Ext w w1) := Ext.trans xt hb; clear hb) | (go_at_call 24; refine (HA.out _ HE1.out).mono ?_; rintro e w2 ⟨V2, rfl, hT2, hb2⟩; obtain ⟨c2, rfl⟩ := hT2.cells; have HT2 := Lib.hid hT2; have HB2 := Lib.hid hb2; clear hT2 hb2))
        refine wp_hid2 ?_
        intro W3 HW3
        have HF3 : Hid (Ext w1 W3) := by have h := HB2.out; have h2 := h.size; rw [Hid, HW3.out]; exact xts
        have HE3 : Hid (Ext w W3) := HE1.out.trans HF3.out
        have R3 : W3.rangeAt (w.heap.size + 1) 0 c.l := range_ext R1 HF3.out
        have Q3 : W3.rangeAt w.heap.size 0 [.slice Af nf cf, .slice Ao no co, .slice Av nv cv] := range_ext Q1 HF3.out
        have T3 : W3.there w2.heap.size 0 14 := by rw [HW3.out]; exact tr
        have U3 : W3.rangeAt w2.heap.size 0 c2.l := by rw [HW3.out]; exact (ranges_two (by omega) (c2.there' (by exact tr)) (by show World.there _ _ 0 3; exact tr)).1
        have S3 : W3.rangeAt (w2.heap.size + 1) 0 [Value.int .i64 5, Value.int .i64 0, Value.int .i64 0] := by rw [HW3.out]; exact (ranges_two (by omega) (c2.there' (by exact tr)) (by show World.there _ _ 0 3; exact tr)).2
        have s0 : W3.cell? ⟨w2.heap.size + 1, 0, none⟩ = some (Value.int .i64 5) := S3 0 _ rfl
        have s1 : W3.cell? ⟨w2.heap.size + 1, 1, none⟩ = some (Value.int .i64 0) := S3 1 _ rfl
        have s2 : W3.cell? ⟨w2.heap.size + 1, 2, none⟩ = some (Value.int .i64 0) := S3 2 _ rfl
        have HT3 : Hid (RTsk W3 u (.agg c2.l.toArray)) := HT2.out.mono (by rw [HW3.out]; exact xts)
        have r3 : W3.cell? ⟨w.heap.size + 1, 3, none⟩ = some (Value.int .i64 t.status) := R3 3 _ (by rw [HCL.out]; rfl)
        clear HW3 HT2 HB2 T3
        have HCu := Lib.hid (HCuA.out W3 c2 HT3.out HE3.out)
        go_upto_region 9 with (first | ((first | ((with_reducible show Code.wp _ (Code.region _ (List.toArray ({ dst := _, op := Op.load 26 _, type := _, pos := _, after := _, guard := none } :: _)) false) _ _ _); refine wp_region_lit ?_) | (with_reducible show wpList _ _ _ ({ dst := _, op := Op.load 26 _, type := _, pos := _, after := _, guard := none } :: _) _ _)); refine wpList_load_mid rfl 26 _ rfl _ _ rfl _ _ (by exact rg) Tryz.underlying26 rfl (by exact infoPrg) ?_; dsimp only [dZ, dS]) | ((first | ((with_reducible show Code.wp _ (Code.region _ (List.toArray ({ dst := _, op := Op.load 32 _, type := _, pos := _, after := _, guard := none } :: _)) false) _ _ _); refine wp_region_lit ?_) | (with_reducible show wpList _ _ _ ({ dst := _, op := Op.load 32 _, type := _, pos := _, after := _, guard := none } :: _) _ _)); refine wpList_load_mid rfl 32 _ rfl _ _ rfl _ _ (by exact rg) Tryz.underlying32 rfl (by exact Cells14.info _) ?_; dsimp only [dZ, dS]) | ((first | ((with_reducible show Code.wp _ (Code.region _ (List.toArray ({ dst := _, op := Op.store 37 _ _, type := _, pos := _, after := _, guard := none } :: _)) false) _ _ _); refine wp_region_lit ?_) | (with_reducible show wpList _ _ _ ({ dst := _, op := Op.store 37 _ _, type := _, pos := _, after := _, guard := none } :: _) _ _)); refine wpList_store_mid rfl 37 _ _ rfl _ _ _ rfl rfl (by exact tr) infoInsN (all_oneCell_toArray (by simp [Value.oneCell'])) ?_; (try dsimp only [Act.put])) | (go_at_call 15; refine HCu.out.mono ?_; rintro e w4 ⟨A4, n4, c4, rfl, _, hb4⟩; have HB4 := Lib.hid hb4; clear hb4))
        refine wp_hid2 ?_
        intro W4 HW4
        have HF4 : Hid (Ext W3 W4) := by have h := HB4.out; have h2 := h.size; rw [Hid, HW4.out]; exact xts
        have HE4 : Hid (Ext w W4) := HE3.out.trans HF4.out
        have Q4 : W4.rangeAt w.heap.size 0 [.slice Af nf cf, .slice Ao no co, .slice Av nv cv] := range_ext Q3 HF4.out
        have U4 : W4.rangeAt w2.heap.size 0 c2.l := range_ext U3 HF4.out
        have S4 : W4.rangeAt (w2.heap.size + 1) 0 [Value.int .i64 5, Value.int .i64 0, Value.int .i64 0] := range_ext S3 HF4.out
        have s0 := HF4.out.cell s0
        have s1 := HF4.out.cell s1
        have s2 := HF4.out.cell s2
        have i0 : W4.cell? ⟨w4.heap.size, 0, none⟩ = some (Value.int .i64 x.op) := by
          have h : W4.rangeAt w4.heap.size 0 [Value.int .i64 x.op, Value.int .i64 x.a, Value.int .i64 x.b, Value.int .i64 x.c, .slice A4 n4 c4] := by rw [HW4.out]; exact World.rangeAt_setCells_same _ _ 0 _ (by show World.there _ _ 0 5; exact there_new rfl rfl)
          exact h 0 _ rfl
        clear HW4 HB4
        have z0 := lt_of_cell s0
        have z1 := lt_of_cell i0
        (refine wp_region_quiet_below (by kernel_rfl) (by kernel_rfl) ?_; (repeat (go_big_quiet_step ((go_at_call 26; exact quiet_ext (HVi.out _))))); refine wpQuiet_nil ?_; intro w1 hw1; obtain ⟨hc, hf, hs, he⟩ := Ext.use (w := W4) (ext_of_regrown hw1) xt; clear hw1; (try simp only [sA, sC, sD, sN] at hs))
        have HE5 : Hid (Ext w w1) := HE4.out.trans he
        have HT5 : Hid (RTsk w1 u (.agg c2.l.toArray)) := HT3.out.mono (HF4.out.trans he)
        have Q5 : w1.rangeAt w.heap.size 0 [.slice Af nf cf, .slice Ao no co, .slice Av nv cv] := range_ext Q4 he
        have U5 : w1.rangeAt w2.heap.size 0 c2.l := range_ext U4 he
        have S5 : w1.rangeAt (w2.heap.size + 1) 0 [Value.int .i64 5, Value.int .i64 0, Value.int .i64 0] := range_ext S4 he
        go_upto_region 14 with (first | ((first | ((with_reducible show Code.wp _ (Code.region _ (List.toArray ({ dst := _, op := Op.load 26 _, type := _, pos := _, after := _, guard := none } :: _)) false) _ _ _); refine wp_region_lit ?_) | (with_reducible show wpList _ _ _ ({ dst := _, op := Op.load 26 _, type := _, pos := _, after := _, guard := none } :: _) _ _)); refine wpList_load_mid rfl 26 _ rfl _ _ rfl _ _ (by exact rg) Tryz.underlying26 rfl (by exact infoPrg) ?_; dsimp only [dZ, dS]) | ((first | ((with_reducible show Code.wp _ (Code.region _ (List.toArray ({ dst := _, op := Op.load 32 _, type := _, pos := _, after := _, guard := none } :: _)) false) _ _ _); refine wp_region_lit ?_) | (with_reducible show wpList _ _ _ ({ dst := _, op := Op.load 32 _, type := _, pos := _, after := _, guard := none } :: _) _ _)); refine wpList_load_mid rfl 32 _ rfl _ _ rfl _ _ (by exact rg) Tryz.underlying32 rfl (by exact Cells14.info _) ?_; dsimp only [dZ, dS]) | ((with_reducible show wpList _ _ _ ({ dst := _, op := Op.store 32 _ _, type := _, pos := _, after := _, guard := none } :: _) _ _); refine wpList_store_mid rfl 32 _ _ rfl _ _ (List.toArray (Cells14.l _)) rfl rfl (by refine Cells14.there _ ?_; exact tr) (Cells14.infoA _) (Cells14.oneA _) ?_; (try dsimp only [Act.put])) | ((first | ((with_reducible show Code.wp _ (Code.region _ (List.toArray ({ dst := _, op := Op.store 49 _ _, type := _, pos := _, after := _, guard := none } :: _)) false) _ _ _); refine wp_region_lit ?_) | (with_reducible show wpList _ _ _ ({ dst := _, op := Op.store 49 _ _, type := _, pos := _, after := _, guard := none } :: _) _ _)); refine wpList_store_mid rfl 49 _ _ rfl _ _ _ rfl rfl (by exact tr) infoStop (all_oneCell_toArray (by simp [Value.oneCell'])) ?_; (try dsimp only [Act.put])) | (go_at_call 24; refine (HA2.out w1 c2 HT5.out HE5.out).mono ?_; rintro e w6 ⟨V6, rfl, hT6, hb6⟩; obtain ⟨c6, rfl⟩ := hT6.cells; have HT6 := Lib.hid hT6; have HB6 := Lib.hid hb6; clear hT6 hb6))
        refine wp_hid2 ?_
        intro W6 HW6
        have HF6 : Hid (Ext w1 W6) := by have h := HB6.out; have h2 := h.size; rw [Hid, HW6.out]; exact xts
        have HE6 : Hid (Ext w W6) := HE5.out.trans HF6.out
        have U6 : W6.rangeAt w2.heap.size 0 c2.l := range_ext U5 HF6.out
        have S6 : W6.rangeAt (w2.heap.size + 1) 0 [Value.int .i64 5, Value.int .i64 0, Value.int .i64 0] := range_ext S5 HF6.out
        have D6 : W6.rangeAt w6.heap.size 0 c6.l := by rw [HW6.out]; exact (ranges_two (by omega) (c6.there' (by exact tr)) (by show World.there _ _ 0 3; exact tr)).1
        have A6 : W6.rangeAt (w6.heap.size + 1) 0 [Value.int .i64 5, Value.int .i64 0, Value.int .i64 0] := by rw [HW6.out]; exact (ranges_two (by omega) (c6.there' (by exact tr)) (by show World.there _ _ 0 3; exact tr)).2
        have HT66 : Hid (RTsk W6 u (.agg c6.l.toArray)) := HT6.out.mono (by rw [HW6.out]; exact xts)
        have HT56 : Hid (RTsk W6 u (.agg c2.l.toArray)) := HT5.out.mono HF6.out
        clear HW6 HT6 HB6 hc hf hs he s0 s1 s2 i0 z0 z1
        have HSa := Lib.hid (Same_any u u _ _ W6 HT56.out HT66.out)
        rw [decide_eq_true rfl] at HSa
        have heq : ∀ w : World, (binOp BinOp.eql 49 (.agg #[Value.int .i64 5, Value.int .i64 0, Value.int .i64 0]) (.agg #[Value.int .i64 5, Value.int .i64 0, Value.int .i64 0])).run Tryz.prog w = .ok (.bool true) w := fun _ => by kernel_rfl
        go_wp2_with (first | ((with_reducible show wpList _ _ _ ({ dst := _, op := Op.load 32 _, type := _, pos := _, after := _, guard := some _ } :: _) _ _); refine wpList_load_mid_g (by rfl) 32 _ rfl _ _ rfl _ _ (by exact rg) Tryz.underlying32 rfl (by exact Cells14.info _) ?_; dsimp only [dZ, dS]) | ((with_reducible show wpList _ _ _ ({ dst := _, op := Op.load 49 _, type := _, pos := _, after := _, guard := some _ } :: _) _ _); refine wpList_load_mid_g (by rfl) 49 _ rfl _ _ rfl _ _ (by exact rg) Tryz.underlying49 rfl (by exact infoStop) ?_; dsimp only [dZ, dS]) | (go_at_call 23; refine HSa.out.mono ?_; rintro e w7 ⟨rfl, hb7⟩; have HE7 : Hid (Ext w w7) := HE6.out.trans hb7; have S7 := range_ext S6 hb7; have A7 := range_ext A6 hb7; clear hb7) | (go_at_call 14; refine (awake_any _).mono ?_; rintro e w9 ⟨rfl, hb9⟩; have HE9 := Lib.hid (Ext.trans HE7.out hb9); clear hb9))
        go_ret
        exact ⟨rfl, HE9.out⟩
end Go.Proofs.YtcjjoabofecjmaaGreat
