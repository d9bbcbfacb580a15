/- A part of the proof: TaskCheck answers true. -/
import Derived.Test.YtcjjoabofecjmaaGreatQ04
import Derived.Test.YtcjjoabofecjmaaGreatQ17
import Derived.Test.YtcjjoabofecjmaaGreatQ22
import Derived.Test.YtcjjoabofecjmaaGreatQ16
set_option linter.unusedVariables false
set_option linter.unusedSimpArgs false
namespace Go.Proofs.YtcjjoabofecjmaaGreat
open Go.RowKit Go.Sort
set_option maxRecDepth 8000 in
set_option maxHeartbeats 8000000 in
theorem lawCheck_any (p : Prg) (t : Tsk) (VP VT : Value) (w : World) (hP : RPrg w p VP) (hT : RTsk w t VT) :
    Calls Tryz.prog 3 #[VP, VT] w fun e w' => e = .returned (.bool true) ∧ Ext w w' := by
  have HG := Lib.hid (fun W (h : Ext w W) => great_any p t VP VT W (hP.mono h) (hT.mono h))
  have HX := Lib.hid (fun W (h : Ext w W) => Current_any p t VP VT W (hP.mono h) (hT.mono h))
  have HY := Lib.hid (fun W (h : Ext w W) => rCurrent_any p t VP VT W (hP.mono h) (hT.mono h))
  have HC := Lib.hid (fun W (h : Ext w W) => tCheck_any p t VP VT W (hP.mono h) (hT.mono h))
  have HD := Lib.hid (fun W (h : Ext w W) => rtcheck_any p t VP VT W (hP.mono h) (hT.mono h))
  obtain ⟨ct, rfl⟩ := hT.cells
  obtain ⟨Af, nf, cf, Ao, no, co, Av, nv, cv, rfl, _⟩ := hP
  obtain ⟨⟨x, q⟩, hq⟩ : ∃ r, currentS p t = r := ⟨_, rfl⟩
  rw [hq] at HX HY
  dsimp only at HX HY
  unfold insV at HX HY
  obtain ⟨ck, hck⟩ : ∃ c, tcheckS p t = c := ⟨_, rfl⟩
  rw [hck] at HC HD
  clear hT hq hck
  cases hg : (greatP p || greatT t) with
  | true =>
    rw [hg] at HG
    clear hg HX HY HC HD
    go_enter Tryz.func3, Tryz.ntmps3
    go_wp2_with (first | ((first | ((with_reducible show Code.wp _ (Code.region _ (List.toArray ({ dst := _, op := Op.load 26 _, type := _, pos := _, after := _, guard := none } :: _)) false) _ _ _); refine wp_region_lit ?_) | (with_reducible show wpList _ _ _ ({ dst := _, op := Op.load 26 _, type := _, pos := _, after := _, guard := none } :: _) _ _)); refine wpList_load_mid rfl 26 _ rfl _ _ rfl _ _ (by exact rg) Tryz.underlying26 rfl (by exact infoPrg) ?_; dsimp only [dZ, dS]) | ((first | ((with_reducible show Code.wp _ (Code.region _ (List.toArray ({ dst := _, op := Op.load 32 _, type := _, pos := _, after := _, guard := none } :: _)) false) _ _ _); refine wp_region_lit ?_) | (with_reducible show wpList _ _ _ ({ dst := _, op := Op.load 32 _, type := _, pos := _, after := _, guard := none } :: _) _ _)); refine wpList_load_mid rfl 32 _ rfl _ _ rfl _ _ (by exact rg) Tryz.underlying32 rfl (by exact Cells14.info _) ?_; dsimp only [dZ, dS]) | (go_at_call 13; refine (HG.out _ xt).mono ?_; rintro e w1 ⟨rfl, hb⟩; obtain ⟨hc, hf, hs, he⟩ := Ext.use (w := w) hb xt; clear hb; (try simp only [sA, sC, sD, sN] at hs)) | (go_at_call 14; refine (awake_any _).mono ?_; rintro e w2 ⟨rfl, hb2⟩; have he2 := Ext.trans he hb2; clear hb2))
    go_ret
    exact ⟨rfl, he2⟩
  | false =>
    rw [hg] at HG
    clear hg
    go_enter Tryz.func3, Tryz.ntmps3
    go_upto_region 4 with (first | ((first | ((with_reducible show Code.wp _ (Code.region _ (List.toArray ({ dst := _, op := Op.load 26 _, type := _, pos := _, after := _, guard := none } :: _)) false) _ _ _); refine wp_region_lit ?_) | (with_reducible show wpList _ _ _ ({ dst := _, op := Op.load 26 _, type := _, pos := _, after := _, guard := none } :: _) _ _)); refine wpList_load_mid rfl 26 _ rfl _ _ rfl _ _ (by exact rg) Tryz.underlying26 rfl (by exact infoPrg) ?_; dsimp only [dZ, dS]) | ((first | ((with_reducible show Code.wp _ (Code.region _ (List.toArray ({ dst := _, op := Op.load 32 _, type := _, pos := _, after := _, guard := none } :: _)) false) _ _ _); refine wp_region_lit ?_) | (with_reducible show wpList _ _ _ ({ dst := _, op := Op.load 32 _, type := _, pos := _, after := _, guard := none } :: _) _ _)); refine wpList_load_mid rfl 32 _ rfl _ _ rfl _ _ (by exact rg) Tryz.underlying32 rfl (by exact Cells14.info _) ?_; dsimp only [dZ, dS]) | ((first | ((with_reducible show Code.wp _ (Code.region _ (List.toArray ({ dst := _, op := Op.store 37 _ _, type := _, pos := _, after := _, guard := none } :: _)) false) _ _ _); refine wp_region_lit ?_) | (with_reducible show wpList _ _ _ ({ dst := _, op := Op.store 37 _ _, type := _, pos := _, after := _, guard := none } :: _) _ _)); refine wpList_store_mid rfl 37 _ _ rfl _ _ _ rfl rfl (by exact tr) infoInsN (all_oneCell_toArray (by simp [Value.oneCell'])) ?_; (try dsimp only [Act.put])) | (go_at_call 13; refine (HG.out _ xt).mono ?_; rintro e w1 ⟨rfl, hb⟩; have R1 := range_ext (b := w.heap.size + 1) (o := 0) (by exact rg) hb; have Q1 := range_ext (b := w.heap.size) (o := 0) (cs := [.slice Af nf cf, .slice Ao no co, .slice Av nv cv]) (by exact rg) hb; have HE1 : Hid (Ext w w1) := Ext.trans xt hb; clear hb) | (go_at_call 15; refine (HX.out _ HE1.out).mono ?_; rintro e w2 ⟨A, n, c, rfl, ⟨hX, _⟩, hb2⟩; have HX2 := Lib.hid hX; have HB2 := Lib.hid hb2; clear hX hb2))
    refine wp_hid2 ?_
    intro W3 HW3
    have HF3 : Hid (Ext w1 W3) := by have h := HB2.out; have h2 := h.size; rw [Hid, HW3.out]; exact xts
    have HE3 : Hid (Ext w W3) := HE1.out.trans HF3.out
    have R3 : W3.rangeAt (w.heap.size + 1) 0 ct.l := range_ext R1 HF3.out
    have Q3 := range_ext Q1 HF3.out
    have S3 : W3.rangeAt w2.heap.size 0 [Value.int .i64 x.op, Value.int .i64 x.a, Value.int .i64 x.b, Value.int .i64 x.c, .slice A n c] := by rw [HW3.out]; exact World.rangeAt_setCells_same _ _ 0 _ (by show World.there _ _ 0 5; exact tr)
    have HA3 : Hid (RSl 1 RInt W3 A n x.args) := HX2.out.mono RInt.stays (by rw [HW3.out]; exact xts)
    clear HW3 HX2 HB2 R1 Q1
    go_upto_region 5 with (first | ((first | ((with_reducible show Code.wp _ (Code.region _ (List.toArray ({ dst := _, op := Op.load 26 _, type := _, pos := _, after := _, guard := none } :: _)) false) _ _ _); refine wp_region_lit ?_) | (with_reducible show wpList _ _ _ ({ dst := _, op := Op.load 26 _, type := _, pos := _, after := _, guard := none } :: _) _ _)); refine wpList_load_mid rfl 26 _ rfl _ _ rfl _ _ (by exact rg) Tryz.underlying26 rfl (by exact infoPrg) ?_; dsimp only [dZ, dS]) | ((first | ((with_reducible show Code.wp _ (Code.region _ (List.toArray ({ dst := _, op := Op.load 32 _, type := _, pos := _, after := _, guard := none } :: _)) false) _ _ _); refine wp_region_lit ?_) | (with_reducible show wpList _ _ _ ({ dst := _, op := Op.load 32 _, type := _, pos := _, after := _, guard := none } :: _) _ _)); refine wpList_load_mid rfl 32 _ rfl _ _ rfl _ _ (by exact rg) Tryz.underlying32 rfl (by exact Cells14.info _) ?_; dsimp only [dZ, dS]) | ((first | ((with_reducible show Code.wp _ (Code.region _ (List.toArray ({ dst := _, op := Op.store 37 _ _, type := _, pos := _, after := _, guard := none } :: _)) false) _ _ _); refine wp_region_lit ?_) | (with_reducible show wpList _ _ _ ({ dst := _, op := Op.store 37 _ _, type := _, pos := _, after := _, guard := none } :: _) _ _)); refine wpList_store_mid rfl 37 _ _ rfl _ _ _ rfl rfl (by exact tr) infoInsN (all_oneCell_toArray (by simp [Value.oneCell'])) ?_; (try dsimp only [Act.put])) | (go_at_call 16; refine (HY.out _ HE3.out).mono ?_; rintro e w4 ⟨B, m, d, rfl, ⟨hX, _⟩, hb4⟩; have HX4 := Lib.hid hX; have HB4 := Lib.hid hb4; clear hX hb4))
    refine wp_hid2 ?_
    intro W5 HW5
    have HF5 : Hid (Ext W3 W5) := by have h := HB4.out; have h2 := h.size; rw [Hid, HW5.out]; exact xts
    have HE5 : Hid (Ext w W5) := HE3.out.trans HF5.out
    have R5 : W5.rangeAt (w.heap.size + 1) 0 ct.l := range_ext R3 HF5.out
    have Q5 := range_ext Q3 HF5.out
    have S5 := range_ext S3 HF5.out
    have U5 : W5.rangeAt w4.heap.size 0 [Value.int .i64 x.op, Value.int .i64 x.a, Value.int .i64 x.b, Value.int .i64 x.c, .slice B m d] := by rw [HW5.out]; exact World.rangeAt_setCells_same _ _ 0 _ (by show World.there _ _ 0 5; exact tr)
    have HA5 : Hid (RSl 1 RInt W5 A n x.args) := HA3.out.mono RInt.stays HF5.out
    have HB5 : Hid (RSl 1 RInt W5 B m x.args) := HX4.out.mono RInt.stays (by rw [HW5.out]; exact xts)
    clear HW5 HX4 HB4 R3 Q3 S3 HA3 HX HY
    have e0 : W5.cell? ⟨w2.heap.size, 0, none⟩ = some (Value.int .i64 x.op) := S5 0 _ rfl
    have e1 : W5.cell? ⟨w2.heap.size, 1, none⟩ = some (Value.int .i64 x.a) := S5 1 _ rfl
    have e2 : W5.cell? ⟨w2.heap.size, 2, none⟩ = some (Value.int .i64 x.b) := S5 2 _ rfl
    have e3 : W5.cell? ⟨w2.heap.size, 3, none⟩ = some (Value.int .i64 x.c) := S5 3 _ rfl
    have e4 : W5.cell? ⟨w2.heap.size, 4, none⟩ = some (.slice A n c) := S5 4 _ rfl
    have f0 : W5.cell? ⟨w4.heap.size, 0, none⟩ = some (Value.int .i64 x.op) := U5 0 _ rfl
    have f1 : W5.cell? ⟨w4.heap.size, 1, none⟩ = some (Value.int .i64 x.a) := U5 1 _ rfl
    have f2 : W5.cell? ⟨w4.heap.size, 2, none⟩ = some (Value.int .i64 x.b) := U5 2 _ rfl
    have f3 : W5.cell? ⟨w4.heap.size, 3, none⟩ = some (Value.int .i64 x.c) := U5 3 _ rfl
    have f4 : W5.cell? ⟨w4.heap.size, 4, none⟩ = some (.slice B m d) := U5 4 _ rfl
    have HST : Hid (∀ W, Ext W5 W → Ext W5 W ∧ W.cell? ⟨w2.heap.size, 0, none⟩ = some (Value.int .i64 x.op) ∧ W.cell? ⟨w2.heap.size, 1, none⟩ = some (Value.int .i64 x.a) ∧ W.cell? ⟨w2.heap.size, 2, none⟩ = some (Value.int .i64 x.b) ∧ W.cell? ⟨w2.heap.size, 3, none⟩ = some (Value.int .i64 x.c) ∧ W.cell? ⟨w2.heap.size, 4, none⟩ = some (.slice A n c) ∧ W.cell? ⟨w4.heap.size, 0, none⟩ = some (Value.int .i64 x.op) ∧ W.cell? ⟨w4.heap.size, 1, none⟩ = some (Value.int .i64 x.a) ∧ W.cell? ⟨w4.heap.size, 2, none⟩ = some (Value.int .i64 x.b) ∧ W.cell? ⟨w4.heap.size, 3, none⟩ = some (Value.int .i64 x.c) ∧ W.cell? ⟨w4.heap.size, 4, none⟩ = some (.slice B m d)) :=
      fun W h => ⟨h, h.cell e0, h.cell e1, h.cell e2, h.cell e3, h.cell e4, h.cell f0, h.cell f1, h.cell f2, h.cell f3, h.cell f4⟩
    have HSI : Hid (∀ W, Ext W5 W → Calls Tryz.prog 19 #[.slice A n c, .slice B m d] W fun e w' => e = .returned (.bool true) ∧ Ext W w') := fun W hW => by
      have := SameInts_any A B n m c d x.args x.args W (HA5.out.mono RInt.stays hW) (HB5.out.mono RInt.stays hW)
      simpa using this
    clear e0 e1 e2 e3 e4 f0 f1 f2 f3 f4 S5 U5
    refine wp_region_th 50 (fun W' => Ext W5 W' ∧ W'.cell? ⟨w2.heap.size, 0, none⟩ = some (Value.int .i64 x.op) ∧ W'.cell? ⟨w2.heap.size, 1, none⟩ = some (Value.int .i64 x.a) ∧ W'.cell? ⟨w2.heap.size, 2, none⟩ = some (Value.int .i64 x.b) ∧ W'.cell? ⟨w2.heap.size, 3, none⟩ = some (Value.int .i64 x.c) ∧ W'.cell? ⟨w2.heap.size, 4, none⟩ = some (.slice A n c) ∧ W'.cell? ⟨w4.heap.size, 0, none⟩ = some (Value.int .i64 x.op) ∧ W'.cell? ⟨w4.heap.size, 1, none⟩ = some (Value.int .i64 x.a) ∧ W'.cell? ⟨w4.heap.size, 2, none⟩ = some (Value.int .i64 x.b) ∧ W'.cell? ⟨w4.heap.size, 3, none⟩ = some (Value.int .i64 x.c) ∧ W'.cell? ⟨w4.heap.size, 4, none⟩ = some (.slice B m d)) (by kernel_rfl) (by kernel_rfl) (by kernel_rfl) (by kernel_rfl) (by decide) ?_ ?_
    · exact HST.out _ xt
    intro hT hHeld
    (refine th_take (i := 0) (oi := ?oi0_1) (v := ?v0_1) hT ?hi0_1 (by decide) (by kernel_rfl) (by kernel_rfl) ?hq0_1 (Or.inl ⟨?hw0_1, ?hy0_1⟩) (by assumption) ?rest0_1; (case hi0_1 => (simp only [List.getElem?_toArray, List.getElem?_cons_zero, List.getElem?_cons_succ]; rfl)); (case hw0_1 => rfl); (case hy0_1 => (intro w' hSw; refine Eq.trans (exec_load_mid 26 _ (by rfl) w.heap.size 0 (by rfl) _ _ Tryz.underlying26 (by rfl) ?hiL0_1 w' (range_ext Q5 hSw.1)) ?eqL0_1; (case eqL0_1 => with_reducible rfl); exact infoPrg)); (case hq0_1 => (exact fun _ _ _ h => h)); (try simp only [Act.put, aset, dZ, dS]))
    (refine th_take (i := 1) (oi := ?oi1_2) (v := ?v1_2) hT ?hi1_2 (by decide) (by kernel_rfl) (by kernel_rfl) ?hq1_2 (Or.inl ⟨?hw1_2, ?hy1_2⟩) (by assumption) ?rest1_2; (case hi1_2 => (simp only [List.getElem?_toArray, List.getElem?_cons_zero, List.getElem?_cons_succ]; rfl)); (case hw1_2 => rfl); (case hy1_2 => (intro w' hSw; refine Eq.trans (exec_load_mid 32 _ (by rfl) (w.heap.size + 1) 0 (by rfl) _ _ Tryz.underlying32 (by rfl) ?hiL1_2 w' (range_ext R5 hSw.1)) ?eqL1_2; (case eqL1_2 => with_reducible rfl); exact Cells14.info _)); (case hq1_2 => (exact fun _ _ _ h => h)); (try simp only [Act.put, aset, dZ, dS]))
    (refine th_take (i := 3) (oi := ?oi3_3) (v := ?v3_3) hT ?hi3_3 (by decide) (by kernel_rfl) (by kernel_rfl) ?hq3_3 (Or.inl ⟨?hw3_3, ?hy3_3⟩) (by assumption) ?rest3_3; (case hi3_3 => (simp only [List.getElem?_toArray, List.getElem?_cons_zero, List.getElem?_cons_succ]; rfl)); (case hw3_3 => rfl); (case hy3_3 => (intro w' hSw; refine Eq.trans (exec_load_mid 26 _ (by rfl) w.heap.size 0 (by rfl) _ _ Tryz.underlying26 (by rfl) ?hiL3_3 w' (range_ext Q5 hSw.1)) ?eqL3_3; (case eqL3_3 => with_reducible rfl); exact infoPrg)); (case hq3_3 => (exact fun _ _ _ h => h)); (try simp only [Act.put, aset, dZ, dS]))
    (refine th_take (i := 4) (oi := ?oi4_4) (v := ?v4_4) hT ?hi4_4 (by decide) (by kernel_rfl) (by kernel_rfl) ?hq4_4 (Or.inl ⟨?hw4_4, ?hy4_4⟩) (by assumption) ?rest4_4; (case hi4_4 => (simp only [List.getElem?_toArray, List.getElem?_cons_zero, List.getElem?_cons_succ]; rfl)); (case hw4_4 => rfl); (case hy4_4 => (intro w' hSw; refine Eq.trans (exec_load_mid 32 _ (by rfl) (w.heap.size + 1) 0 (by rfl) _ _ Tryz.underlying32 (by rfl) ?hiL4_4 w' (range_ext R5 hSw.1)) ?eqL4_4; (case eqL4_4 => with_reducible rfl); exact Cells14.info _)); (case hq4_4 => (exact fun _ _ _ h => h)); (try simp only [Act.put, aset, dZ, dS]))
    refine tst 2 (fun K hK => ?_)
    go_simp
    go_at_call 17
    refine (HC.out _ (HE5.out.trans hHeld.1)).mono ?_
    rintro e w6 ⟨rfl, hb6⟩
    dsimp only
    refine hK.out _ _ (HST.out _ (Ext.trans hHeld.1 hb6)) (fun hHeld => ?_)
    clear hK K hb6
    (try simp only [Act.put, List.setIfInBounds_toArray, List.set_cons_zero, List.set_cons_succ])
    refine tst 5 (fun K hK => ?_)
    go_simp
    go_at_call 18
    refine (HD.out _ (HE5.out.trans hHeld.1)).mono ?_
    rintro e w7 ⟨rfl, hb7⟩
    dsimp only
    refine hK.out _ _ (HST.out _ (Ext.trans hHeld.1 hb7)) (fun hHeld => ?_)
    clear hK K hb7
    (try simp only [Act.put, List.setIfInBounds_toArray, List.set_cons_zero, List.set_cons_succ])
    (refine tht 6 hT ?_; (try simp only [Act.put, aset, dZ, dS]); refine tht 7 hT ?_; (try simp only [Act.put, aset, dZ, dS]); refine tht 8 hT ?_; (try simp only [Act.put, aset, dZ, dS]); refine tht 9 hT ?_; (try simp only [Act.put, aset, dZ, dS]); refine tht 10 hT ?_; (try simp only [Act.put, aset, dZ, dS]); refine tht 11 hT ?_; (try simp only [Act.put, aset, dZ, dS]); refine tht 12 hT ?_; (try simp only [Act.put, aset, dZ, dS]); refine tht 13 hT ?_; (try simp only [Act.put, aset, dZ, dS]); refine tht 14 hT ?_; (try simp only [Act.put, aset, dZ, dS]); refine tht 15 hT ?_; (try simp only [Act.put, aset, dZ, dS]); refine tht 16 hT ?_; (try simp only [Act.put, aset, dZ, dS]); refine tht 17 hT ?_; (try simp only [Act.put, aset, dZ, dS]); refine tht 18 hT ?_; (try simp only [Act.put, aset, dZ, dS]); refine tht 19 hT ?_; (try simp only [Act.put, aset, dZ, dS]); refine tht 20 hT ?_; (try simp only [Act.put, aset, dZ, dS]); refine tht 21 hT ?_; (try simp only [Act.put, aset, dZ, dS]); refine tht 22 hT ?_; (try simp only [Act.put, aset, dZ, dS]); refine tht 23 hT ?_; (try simp only [Act.put, aset, dZ, dS]); refine tht 24 hT ?_; (try simp only [Act.put, aset, dZ, dS]); refine tht 25 hT ?_; (try simp only [Act.put, aset, dZ, dS]); refine tht 26 hT ?_; (try simp only [Act.put, aset, dZ, dS]); refine tht 27 hT ?_; (try simp only [Act.put, aset, dZ, dS]); refine tht 28 hT ?_; (try simp only [Act.put, aset, dZ, dS]); refine tht 29 hT ?_; (try simp only [Act.put, aset, dZ, dS]); refine tht 30 hT ?_; (try simp only [Act.put, aset, dZ, dS]); refine tht 31 hT ?_; (try simp only [Act.put, aset, dZ, dS]); refine tht 32 hT ?_; (try simp only [Act.put, aset, dZ, dS]); refine tht 33 hT ?_; (try simp only [Act.put, aset, dZ, dS]); refine tht 34 hT ?_; (try simp only [Act.put, aset, dZ, dS]); refine tht 35 hT ?_; (try simp only [Act.put, aset, dZ, dS]); refine tht 36 hT ?_; (try simp only [Act.put, aset, dZ, dS]); refine tht 37 hT ?_; (try simp only [Act.put, aset, dZ, dS]); refine tht 38 hT ?_; (try simp only [Act.put, aset, dZ, dS]); refine tht 39 hT ?_; (try simp only [Act.put, aset, dZ, dS]))
    refine tst 40 (fun K hK => ?_)
    go_simp
    go_at_call 19
    refine (HSI.out _ hHeld.1).mono ?_
    rintro e w8 ⟨rfl, hb8⟩
    dsimp only
    refine hK.out _ _ (HST.out _ (Ext.trans hHeld.1 hb8)) (fun hHeld => ?_)
    clear hK K hb8
    (try simp only [Act.put, List.setIfInBounds_toArray, List.set_cons_zero, List.set_cons_succ])
    (refine tht 41 hT ?_; (try simp only [Act.put, aset, dZ, dS]); refine tht 42 hT ?_; (try simp only [Act.put, aset, dZ, dS]); refine tht 43 hT ?_; (try simp only [Act.put, aset, dZ, dS]); refine tht 44 hT ?_; (try simp only [Act.put, aset, dZ, dS]); refine tht 45 hT ?_; (try simp only [Act.put, aset, dZ, dS]); refine tht 46 hT ?_; (try simp only [Act.put, aset, dZ, dS]); refine tht 47 hT ?_; (try simp only [Act.put, aset, dZ, dS]))
    refine tst 48 (fun K hK => ?_)
    go_simp
    go_at_call 14
    refine (awake_any _).mono ?_
    rintro e w9 ⟨rfl, hb9⟩
    dsimp only
    refine hK.out _ _ (HST.out _ (Ext.trans hHeld.1 hb9)) (fun hHeld => ?_)
    clear hK K
    (try simp only [Act.put, List.setIfInBounds_toArray, List.set_cons_zero, List.set_cons_succ])
    (refine tht 49 hT ?_; (try simp only [Act.put, aset, dZ, dS]))
    refine th_done (by kernel_rfl) ?_
    simp only [List.drop_succ_cons, List.drop_zero]
    go_wp2
    go_ret
    exact ⟨rfl, HE5.out.trans hHeld.1⟩
end Go.Proofs.YtcjjoabofecjmaaGreat
