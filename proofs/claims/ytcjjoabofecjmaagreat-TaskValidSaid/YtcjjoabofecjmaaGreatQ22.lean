/- A part of the proof: TaskValid answers true. -/
import Derived.Test.YtcjjoabofecjmaaGreatQ21
set_option linter.unusedVariables false
set_option linter.unusedSimpArgs false
namespace Go.Proofs.YtcjjoabofecjmaaGreat
open Go.RowKit Go.Sort
set_option maxRecDepth 8000 in
set_option maxHeartbeats 8000000 in
theorem lawValid_any (p : Prg) (t : Tsk) (level reason e1 e2 : Int) (VP VT : Value) (w : World) (hP : RPrg w p VP) (hT : RTsk w t VT) (hl : InR level) (hr : InR reason) :
    Calls Tryz.prog 12 #[VP, VT, Value.int .i64 level, Value.int .i64 reason, .agg #[Value.int .i64 e1, Value.int .i64 e2]] w fun e w' => e = .returned (.bool true) ∧ Ext w w' := by
  by_cases hall : (greatP p || greatT t) = false ∧ tcheckS p t = 0 ∧ (-1099511627776 ≤ e2 ∧ e2 ≤ 1099511627776)
  · exact valid_main p t level reason e1 e2 VP VT w hP hT hall.1 hall.2.1 hall.2.2 hl hr
  have HG := Lib.hid (fun W (h : Ext w W) => great_any p t VP VT W (hP.mono h) (hT.mono h))
  have HC := Lib.hid (fun W (h : Ext w W) => tCheck_any p t VP VT W (hP.mono h) (hT.mono h))
  obtain ⟨ct, rfl⟩ := hT.cells
  obtain ⟨Af, nf, cf, Ao, no, co, Av, nv, cv, rfl, _⟩ := hP
  have HALL := Lib.hid hall
  clear hT hl hr hall
  cases hg : (greatP p || greatT t) with
  | true =>
    rw [hg] at HG
    clear hg HC HALL
    go_enter Tryz.func12, Tryz.ntmps12
    go_wp2_with (first | ((first | ((with_reducible show Code.wp _ (Code.region _ (List.toArray ({ dst := _, op := Op.load 26 _, type := _, pos := _, after := _, guard := none } :: _)) false) _ _ _); refine wp_region_lit ?_) | (with_reducible show wpList _ _ _ ({ dst := _, op := Op.load 26 _, type := _, pos := _, after := _, guard := none } :: _) _ _)); refine wpList_load_mid rfl 26 _ rfl _ _ rfl _ _ (by exact rg) Tryz.underlying26 rfl (by exact infoPrg) ?_; dsimp only [dZ, dS]) | ((first | ((with_reducible show Code.wp _ (Code.region _ (List.toArray ({ dst := _, op := Op.load 32 _, type := _, pos := _, after := _, guard := none } :: _)) false) _ _ _); refine wp_region_lit ?_) | (with_reducible show wpList _ _ _ ({ dst := _, op := Op.load 32 _, type := _, pos := _, after := _, guard := none } :: _) _ _)); refine wpList_load_mid rfl 32 _ rfl _ _ rfl _ _ (by exact rg) Tryz.underlying32 rfl (by exact Cells14.info _) ?_; dsimp only [dZ, dS]) | (go_at_call 13; refine (HG.out _ xt).mono ?_; rintro e w1 ⟨rfl, hb⟩; obtain ⟨hc, hf, hs, he⟩ := Ext.use (w := w) hb xt; clear hb; (try simp only [sA, sC, sD, sN] at hs)) | (go_at_call 14; refine (awake_any _).mono ?_; rintro e w2 ⟨rfl, hb2⟩; have he2 := Ext.trans he hb2; clear hb2))
    go_ret
    exact ⟨rfl, he2⟩
  | false =>
    rw [hg] at HG
    obtain ⟨q, hq⟩ : ∃ q, (tcheckS p t != 0) = q := ⟨_, rfl⟩
    obtain ⟨c, hc⟩ : ∃ c, tcheckS p t = c := ⟨_, rfl⟩
    rw [hc] at HC hq
    have HAL2 : Hid (q = false → e2 < -1099511627776 ∨ 1099511627776 < e2) := fun h => by
      have h1 : c = 0 := by rw [h] at hq; simpa using hq
      have h2 := HALL.out
      rw [hg, hc] at h2
      simp only [h1, true_and, not_and] at h2
      omega
    clear HALL hg hc
    cases q with
    | true =>
      go_enter Tryz.func12, Tryz.ntmps12
      go_wp2_with (first | ((first | ((with_reducible show Code.wp _ (Code.region _ (List.toArray ({ dst := _, op := Op.load 26 _, type := _, pos := _, after := _, guard := none } :: _)) false) _ _ _); refine wp_region_lit ?_) | (with_reducible show wpList _ _ _ ({ dst := _, op := Op.load 26 _, type := _, pos := _, after := _, guard := none } :: _) _ _)); refine wpList_load_mid rfl 26 _ rfl _ _ rfl _ _ (by exact rg) Tryz.underlying26 rfl (by exact infoPrg) ?_; dsimp only [dZ, dS]) | ((first | ((with_reducible show Code.wp _ (Code.region _ (List.toArray ({ dst := _, op := Op.load 32 _, type := _, pos := _, after := _, guard := none } :: _)) false) _ _ _); refine wp_region_lit ?_) | (with_reducible show wpList _ _ _ ({ dst := _, op := Op.load 32 _, type := _, pos := _, after := _, guard := none } :: _) _ _)); refine wpList_load_mid rfl 32 _ rfl _ _ rfl _ _ (by exact rg) Tryz.underlying32 rfl (by exact Cells14.info _) ?_; dsimp only [dZ, dS]) | ((with_reducible show wpList _ _ _ ({ dst := _, op := Op.load 26 _, type := _, pos := _, after := _, guard := some _ } :: _) _ _); refine wpList_load_mid_g (by rfl) 26 _ rfl _ _ rfl _ _ (by exact rg) Tryz.underlying26 rfl (by exact infoPrg) ?_; dsimp only [dZ, dS]) | ((with_reducible show wpList _ _ _ ({ dst := _, op := Op.load 32 _, type := _, pos := _, after := _, guard := some _ } :: _) _ _); refine wpList_load_mid_g (by rfl) 32 _ rfl _ _ rfl _ _ (by exact rg) Tryz.underlying32 rfl (by exact Cells14.info _) ?_; dsimp only [dZ, dS]) | (go_at_call 13; refine (HG.out _ xt).mono ?_; rintro e w1 ⟨rfl, hb⟩; have R1 := range_ext (b := w.heap.size + 1) (o := 0) (by exact rg) hb; have Q1 := range_ext (b := w.heap.size) (o := 0) (cs := [.slice Af nf cf, .slice Ao no co, .slice Av nv cv]) (by exact rg) hb; have HE1 : Hid (Ext w w1) := Ext.trans xt hb; clear hb) | (go_at_call 17; refine (HC.out _ HE1.out).mono ?_; rintro e w2 ⟨rfl, hb⟩; have HE2 : Hid (Ext w w2) := Ext.trans HE1.out hb; clear hb) | (go_at_call 14; refine (awake_any _).mono ?_; rintro e w9 ⟨rfl, hb9⟩; have HE9 := Lib.hid (Ext.trans HE2.out hb9); clear hb9))
      go_ret
      exact ⟨rfl, HE9.out⟩
    | false =>
      rcases HAL2.out rfl with hlo | hhi
      · go_enter Tryz.func12, Tryz.ntmps12
        go_wp2_with (first | ((first | ((with_reducible show Code.wp _ (Code.region _ (List.toArray ({ dst := _, op := Op.load 26 _, type := _, pos := _, after := _, guard := none } :: _)) false) _ _ _); refine wp_region_lit ?_) | (with_reducible show wpList _ _ _ ({ dst := _, op := Op.load 26 _, type := _, pos := _, after := _, guard := none } :: _) _ _)); refine wpList_load_mid rfl 26 _ rfl _ _ rfl _ _ (by exact rg) Tryz.underlying26 rfl (by exact infoPrg) ?_; dsimp only [dZ, dS]) | ((first | ((with_reducible show Code.wp _ (Code.region _ (List.toArray ({ dst := _, op := Op.load 32 _, type := _, pos := _, after := _, guard := none } :: _)) false) _ _ _); refine wp_region_lit ?_) | (with_reducible show wpList _ _ _ ({ dst := _, op := Op.load 32 _, type := _, pos := _, after := _, guard := none } :: _) _ _)); refine wpList_load_mid rfl 32 _ rfl _ _ rfl _ _ (by exact rg) Tryz.underlying32 rfl (by exact Cells14.info _) ?_; dsimp only [dZ, dS]) | ((with_reducible show wpList _ _ _ ({ dst := _, op := Op.load 26 _, type := _, pos := _, after := _, guard := some _ } :: _) _ _); refine wpList_load_mid_g (by rfl) 26 _ rfl _ _ rfl _ _ (by exact rg) Tryz.underlying26 rfl (by exact infoPrg) ?_; dsimp only [dZ, dS]) | ((with_reducible show wpList _ _ _ ({ dst := _, op := Op.load 32 _, type := _, pos := _, after := _, guard := some _ } :: _) _ _); refine wpList_load_mid_g (by rfl) 32 _ rfl _ _ rfl _ _ (by exact rg) Tryz.underlying32 rfl (by exact Cells14.info _) ?_; dsimp only [dZ, dS]) | (go_at_call 13; refine (HG.out _ xt).mono ?_; rintro e w1 ⟨rfl, hb⟩; have R1 := range_ext (b := w.heap.size + 1) (o := 0) (by exact rg) hb; have X1 := range_ext (b := w.heap.size + 1 + 1) (o := 0) (cs := [Value.int .i64 e1, Value.int .i64 e2]) (by exact rg) hb; have Q1 := range_ext (b := w.heap.size) (o := 0) (cs := [.slice Af nf cf, .slice Ao no co, .slice Av nv cv]) (by exact rg) hb; have HE1 : Hid (Ext w w1) := Ext.trans xt hb; clear hb) | (go_at_call 17; refine (HC.out _ HE1.out).mono ?_; rintro e w2 ⟨rfl, hb⟩; have X2 := range_ext X1 hb; have HE2 : Hid (Ext w w2) := Ext.trans HE1.out hb; have y2 : w2.cell? ⟨w.heap.size + 1 + 1, 1, none⟩ = some (Value.int .i64 e2) := X2 1 _ rfl; have z2 := lt_of_cell y2; clear hb) | (go_at_call 14; refine (awake_any _).mono ?_; rintro e w9 ⟨rfl, hb9⟩; have HE9 := Lib.hid (Ext.trans HE2.out hb9); clear hb9))
        go_ret
        exact ⟨rfl, HE9.out⟩
      · have hlo : ¬ e2 < -1099511627776 := by omega
        go_enter Tryz.func12, Tryz.ntmps12
        go_wp2_with (first | ((first | ((with_reducible show Code.wp _ (Code.region _ (List.toArray ({ dst := _, op := Op.load 26 _, type := _, pos := _, after := _, guard := none } :: _)) false) _ _ _); refine wp_region_lit ?_) | (with_reducible show wpList _ _ _ ({ dst := _, op := Op.load 26 _, type := _, pos := _, after := _, guard := none } :: _) _ _)); refine wpList_load_mid rfl 26 _ rfl _ _ rfl _ _ (by exact rg) Tryz.underlying26 rfl (by exact infoPrg) ?_; dsimp only [dZ, dS]) | ((first | ((with_reducible show Code.wp _ (Code.region _ (List.toArray ({ dst := _, op := Op.load 32 _, type := _, pos := _, after := _, guard := none } :: _)) false) _ _ _); refine wp_region_lit ?_) | (with_reducible show wpList _ _ _ ({ dst := _, op := Op.load 32 _, type := _, pos := _, after := _, guard := none } :: _) _ _)); refine wpList_load_mid rfl 32 _ rfl _ _ rfl _ _ (by exact rg) Tryz.underlying32 rfl (by exact Cells14.info _) ?_; dsimp only [dZ, dS]) | ((with_reducible show wpList _ _ _ ({ dst := _, op := Op.load 26 _, type := _, pos := _, after := _, guard := some _ } :: _) _ _); refine wpList_load_mid_g (by rfl) 26 _ rfl _ _ rfl _ _ (by exact rg) Tryz.underlying26 rfl (by exact infoPrg) ?_; dsimp only [dZ, dS]) | ((with_reducible show wpList _ _ _ ({ dst := _, op := Op.load 32 _, type := _, pos := _, after := _, guard := some _ } :: _) _ _); refine wpList_load_mid_g (by rfl) 32 _ rfl _ _ rfl _ _ (by exact rg) Tryz.underlying32 rfl (by exact Cells14.info _) ?_; dsimp only [dZ, dS]) | (go_at_call 13; refine (HG.out _ xt).mono ?_; rintro e w1 ⟨rfl, hb⟩; have R1 := range_ext (b := w.heap.size + 1) (o := 0) (by exact rg) hb; have X1 := range_ext (b := w.heap.size + 1 + 1) (o := 0) (cs := [Value.int .i64 e1, Value.int .i64 e2]) (by exact rg) hb; have Q1 := range_ext (b := w.heap.size) (o := 0) (cs := [.slice Af nf cf, .slice Ao no co, .slice Av nv cv]) (by exact rg) hb; have HE1 : Hid (Ext w w1) := Ext.trans xt hb; clear hb) | (go_at_call 17; refine (HC.out _ HE1.out).mono ?_; rintro e w2 ⟨rfl, hb⟩; have X2 := range_ext X1 hb; have HE2 : Hid (Ext w w2) := Ext.trans HE1.out hb; have y2 : w2.cell? ⟨w.heap.size + 1 + 1, 1, none⟩ = some (Value.int .i64 e2) := X2 1 _ rfl; have z2 := lt_of_cell y2; clear hb) | (go_at_call 14; refine (awake_any _).mono ?_; rintro e w9 ⟨rfl, hb9⟩; have HE9 := Lib.hid (Ext.trans HE2.out hb9); clear hb9))
        go_ret
        exact ⟨rfl, HE9.out⟩
end Go.Proofs.YtcjjoabofecjmaaGreat
