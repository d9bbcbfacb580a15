/- A part of the proof: What Advance leaves as it is; TaskFrames answers true. -/
import Derived.Test.YtcjjoabofecjmaaGreatQ16
import Derived.Test.YtcjjoabofecjmaaGreatQ04
import Derived.Test.YtcjjoabofecjmaaGreatQ17
set_option linter.unusedVariables false
set_option linter.unusedSimpArgs false
namespace Go.Proofs.YtcjjoabofecjmaaGreat
open Go.RowKit
theorem adv_frames {p : Prg} {t u : Tsk} {s : Stp} (hA : advanceS p t = (u, s, 0)) : Same t u ∧ BlkExt t u := by
  rcases tcheck_is p t with hc | hc
  · by_cases hst : t.status = 1
    · by_cases hu : t.unw = true ∧ inHand t = false
      · have h0 : advanceS p t = (t, ⟨5, 0, 0⟩, 0) := by unfold advanceS; rw [if_neg (by rw [hc]; decide), if_neg (by rw [hst]; decide), if_pos hu]
        rw [h0] at hA
        have h1 : t = u := congrArg (·.1) hA
        subst h1
        exact ⟨Same.refl _, .of_eq rfl⟩
      · have hl := frames_some hc hst hu
        have h0 : advanceS p t = ((runS p 500 t 0).1, (runS p 500 t 0).2, 0) := by unfold advanceS; rw [if_neg (by rw [hc]; decide), if_neg (by rw [hst]; decide), if_neg hu]
        rw [h0] at hA
        have h1 : (runS p 500 t 0).1 = u := congrArg (·.1) hA
        obtain ⟨v, _, _, hs, hb, h | ⟨h, _⟩⟩ := (adv_stop hc hst hu hl).end'
        · rw [h.1] at h1; subst h1; exact ⟨hs, hb⟩
        · rcases h with ⟨x, h⟩ | ⟨q, hq, h⟩ | ⟨h, _⟩
          · rw [h] at h1; subst h1; exact ⟨hs, hb⟩
          · rw [h] at h1; subst h1; exact ⟨hs, hb⟩
          · rw [h] at h1; subst h1; exact ⟨hs.trans ⟨rfl, rfl, rfl, rfl, rfl, rfl, rfl, rfl, rfl, rfl, rfl⟩, hb.trans (.of_eq rfl)⟩
    · have h0 : advanceS p t = (zeroTsk, ⟨0, 0, 0⟩, 17) := by unfold advanceS; rw [if_neg (by rw [hc]; decide), if_pos hst]; rfl
      rw [h0] at hA
      exact absurd (congrArg (·.2.2) hA) (show ¬ (17 : Int) = 0 by decide)
  · have h0 : advanceS p t = (zeroTsk, ⟨0, 0, 0⟩, 1) := by unfold advanceS; rw [if_pos (by rw [hc]; decide)]; rfl
    rw [h0] at hA
    exact absurd (congrArg (·.2.2) hA) (show ¬ (1 : Int) = 0 by decide)
end Go.Proofs.YtcjjoabofecjmaaGreat

namespace Go.Proofs.YtcjjoabofecjmaaGreat
open Go.RowKit Go.Sort
theorem RTsk.cells3 {w : World} {t : Tsk} {V : Value} (h : RTsk w t V) : ∃ (c : Cells14) (VF : Value) (A : Option Addr) (n m : Nat), V = .agg c.l.toArray ∧ c.l = tskL t VF (.slice A n m) ∧ RSl 5 RBlk w A n t.blocks ∧ n ≤ m := by
  obtain ⟨Af, nf, cf, Ab, nb, cb, rfl, _, _, _, _, _, _, _, _, _, _, _, hB, _, hc⟩ := h
  exact ⟨⟨tskL t (.slice Af nf cf) (.slice Ab nb cb), rfl, by simp [tskL, Value.oneCell']⟩, _, _, _, _, rfl, rfl, hB, hc⟩
theorem adv_frm {p : Prg} {t u : Tsk} {s : Stp} {er : Int} {VP VT : Value} {w : World} (h : advanceS p t = (u, s, er)) (hP : RPrg w p VP) (hT : RTsk w t VT) :
    Calls Tryz.prog 24 #[VP, VT] w fun e w' => ∃ V', e = .returned (.tuple #[V', .agg #[Value.int .i64 s.kind, Value.int .i64 s.reason, Value.int .i64 s.value], Value.int .i64 er]) ∧ RTsk w' u V' ∧ Ext w w' := by
  have := Advance_any p t VP VT w hP hT
  unfold AdvPost at this
  rw [h] at this
  exact this
set_option maxRecDepth 8000 in
set_option maxHeartbeats 8000000 in
theorem frames_great (p : Prg) (t : Tsk) (VP VT : Value) (w : World) (hP : RPrg w p VP) (hT : RTsk w t VT) (hg : (greatP p || greatT t) = true) : Calls Tryz.prog 7 #[VP, VT] w fun e w' => e = .returned (.bool true) ∧ Ext w w' := by
  have HG := Lib.hid (fun W (h : Ext w W) => great_any p t VP VT W (hP.mono h) (hT.mono h))
  rw [hg] at HG
  obtain ⟨c, rfl⟩ := hT.cells
  obtain ⟨Af, nf, cf, Ao, no, co, Av, nv, cv, rfl, _⟩ := hP
  clear hT hg
  go_enter Tryz.func7, Tryz.ntmps7
  go_wp2_with (first | ((first | ((with_reducible show Code.wp _ (Code.region _ (List.toArray ({ dst := _, op := Op.load 26 _, type := _, pos := _, after := _, guard := none } :: _)) false) _ _ _); refine wp_region_lit ?_) | (with_reducible show wpList _ _ _ ({ dst := _, op := Op.load 26 _, type := _, pos := _, after := _, guard := none } :: _) _ _)); refine wpList_load_mid rfl 26 _ rfl _ _ rfl _ _ (by exact rg) Tryz.underlying26 rfl (by exact infoPrg) ?_; dsimp only [dZ, dS]) | ((first | ((with_reducible show Code.wp _ (Code.region _ (List.toArray ({ dst := _, op := Op.load 32 _, type := _, pos := _, after := _, guard := none } :: _)) false) _ _ _); refine wp_region_lit ?_) | (with_reducible show wpList _ _ _ ({ dst := _, op := Op.load 32 _, type := _, pos := _, after := _, guard := none } :: _) _ _)); refine wpList_load_mid rfl 32 _ rfl _ _ rfl _ _ (by exact rg) Tryz.underlying32 rfl (by exact Cells14.info _) ?_; dsimp only [dZ, dS]) | (go_at_call 13; refine (HG.out _ xt).mono ?_; rintro e w1 ⟨rfl, hb⟩; obtain ⟨hc, hf, hs, he⟩ := Ext.use (w := w) hb xt; clear hb; (try simp only [sA, sC, sD, sN] at hs)) | (go_at_call 14; refine (awake_any _).mono ?_; rintro e w2 ⟨rfl, hb2⟩; have he2 := Ext.trans he hb2; clear hb2))
  go_ret
  exact ⟨rfl, he2⟩
set_option maxRecDepth 8000 in
set_option maxHeartbeats 8000000 in
theorem frames_err (p : Prg) (t u : Tsk) (s : Stp) (VP VT : Value) (w : World) (er : Int) (hP : RPrg w p VP) (hT : RTsk w t VT) (hg : (greatP p || greatT t) = false) (hA : advanceS p t = (u, s, er)) (her : (er != 0) = true) :
    Calls Tryz.prog 7 #[VP, VT] w fun e w' => e = .returned (.bool true) ∧ Ext w w' := by
  have HG := Lib.hid (fun W (h : Ext w W) => great_any p t VP VT W (hP.mono h) (hT.mono h))
  rw [hg] at HG
  have HA := Lib.hid (fun W (h : Ext w W) => adv_frm hA (hP.mono h) (hT.mono h))
  obtain ⟨c, rfl⟩ := hT.cells
  obtain ⟨Af, nf, cf, Ao, no, co, Av, nv, cv, rfl, _⟩ := hP
  clear hT hg hA
  go_enter Tryz.func7, Tryz.ntmps7
  go_upto_region 4 with (first | ((first | ((with_reducible show Code.wp _ (Code.region _ (List.toArray ({ dst := _, op := Op.load 26 _, type := _, pos := _, after := _, guard := none } :: _)) false) _ _ _); refine wp_region_lit ?_) | (with_reducible show wpList _ _ _ ({ dst := _, op := Op.load 26 _, type := _, pos := _, after := _, guard := none } :: _) _ _)); refine wpList_load_mid rfl 26 _ rfl _ _ rfl _ _ (by exact rg) Tryz.underlying26 rfl (by exact infoPrg) ?_; dsimp only [dZ, dS]) | ((first | ((with_reducible show Code.wp _ (Code.region _ (List.toArray ({ dst := _, op := Op.load 32 _, type := _, pos := _, after := _, guard := none } :: _)) false) _ _ _); refine wp_region_lit ?_) | (with_reducible show wpList _ _ _ ({ dst := _, op := Op.load 32 _, type := _, pos := _, after := _, guard := none } :: _) _ _)); refine wpList_load_mid rfl 32 _ rfl _ _ rfl _ _ (by exact rg) Tryz.underlying32 rfl (by exact Cells14.info _) ?_; dsimp only [dZ, dS]) | ((with_reducible show wpList _ _ _ ({ dst := _, op := Op.store 32 _ _, type := _, pos := _, after := _, guard := none } :: _) _ _); refine wpList_store_mid rfl 32 _ _ rfl _ _ (List.toArray (Cells14.l _)) rfl rfl (by refine Cells14.there _ ?_; exact tr) (Cells14.infoA _) (Cells14.oneA _) ?_; (try dsimp only [Act.put])) | ((first | ((with_reducible show Code.wp _ (Code.region _ (List.toArray ({ dst := _, op := Op.store 49 _ _, type := _, pos := _, after := _, guard := none } :: _)) false) _ _ _); refine wp_region_lit ?_) | (with_reducible show wpList _ _ _ ({ dst := _, op := Op.store 49 _ _, type := _, pos := _, after := _, guard := none } :: _) _ _)); refine wpList_store_mid rfl 49 _ _ rfl _ _ _ rfl rfl (by exact tr) infoStop (all_oneCell_toArray (by simp [Value.oneCell'])) ?_; (try dsimp only [Act.put])) | (go_at_call 13; refine (HG.out _ xt).mono ?_; rintro e w1 ⟨rfl, hb⟩; have R1 := range_ext (b := w.heap.size + 1) (o := 0) (by exact rg) hb; have Q1 := range_ext (b := w.heap.size) (o := 0) (cs := [.slice Af nf cf, .slice Ao no co, .slice Av nv cv]) (by exact rg) hb; have HE1 : Hid (Ext w w1) := Ext.trans xt hb; clear hb) | (go_at_call 24; refine (HA.out _ HE1.out).mono ?_; rintro e w2 ⟨V2, rfl, hT2, hb2⟩; obtain ⟨c2, rfl⟩ := hT2.cells; have HB2 := Lib.hid hb2; clear hT2 hb2))
  refine wp_hid2 ?_
  intro W3 HW3
  have HE3 : Hid (Ext w W3) := HE1.out.trans (by have h := HB2.out; have h2 := h.size; rw [HW3.out]; exact xts)
  clear HW3 HB2
  go_wp2_with (go_at_call 14; refine (awake_any _).mono ?_; rintro e w9 ⟨rfl, hb9⟩; have HE9 := Lib.hid (Ext.trans HE3.out hb9); clear hb9)
  go_ret
  exact ⟨rfl, HE9.out⟩
set_option maxRecDepth 8000 in
set_option maxHeartbeats 8000000 in
theorem frames_ok (p : Prg) (t u : Tsk) (s : Stp) (VP VT : Value) (w : World) (hP : RPrg w p VP) (hT : RTsk w t VT) (hg : (greatP p || greatT t) = false) (hA : advanceS p t = (u, s, 0)) :
    Calls Tryz.prog 7 #[VP, VT] w fun e w' => e = .returned (.bool true) ∧ Ext w w' := by
  obtain ⟨hS, hX⟩ := adv_frames hA
  have HX := Lib.hid hX
  have HG := Lib.hid (fun W (h : Ext w W) => great_any p t VP VT W (hP.mono h) (hT.mono h))
  rw [hg] at HG
  have HA := Lib.hid (fun W (h : Ext w W) => adv_frm hA (hP.mono h) (hT.mono h))
  have HT := Lib.hid hT
  obtain ⟨c, VF, Ab, nb, cb, rfl, hcl, hB, hcb⟩ := hT.cells3
  have HCL := Lib.hid hcl
  have HB := Lib.hid hB
  have HL := Lib.hid hB.len
  have hle := hB.le
  obtain ⟨Af, nf, cf, Ao, no, co, Av, nv, cv, rfl, _⟩ := hP
  obtain ⟨s1, s2, s3, s4, s5, s6, s7, s8, s9, s10, s11⟩ := hS
  have HS : Hid (u.fn = t.fn ∧ u.scope = t.scope ∧ u.prio = t.prio ∧ u.status = t.status ∧ u.unw = t.unw ∧ u.level = t.level ∧ u.reason = t.reason ∧ u.result = t.result) := by refine ⟨?_, ?_, ?_, ?_, ?_, ?_, ?_, ?_⟩ <;> assumption
  clear hT hg hA hcl hX s1 s2 s3 s4 s5 s6 s7 s8 s9 s10 s11 hB
  go_enter Tryz.func7, Tryz.ntmps7
  go_upto_region 4 with (first | ((first | ((with_reducible show Code.wp _ (Code.region _ (List.toArray ({ dst := _, op := Op.load 26 _, type := _, pos := _, after := _, guard := none } :: _)) false) _ _ _); refine wp_region_lit ?_) | (with_reducible show wpList _ _ _ ({ dst := _, op := Op.load 26 _, type := _, pos := _, after := _, guard := none } :: _) _ _)); refine wpList_load_mid rfl 26 _ rfl _ _ rfl _ _ (by exact rg) Tryz.underlying26 rfl (by exact infoPrg) ?_; dsimp only [dZ, dS]) | ((first | ((with_reducible show Code.wp _ (Code.region _ (List.toArray ({ dst := _, op := Op.load 32 _, type := _, pos := _, after := _, guard := none } :: _)) false) _ _ _); refine wp_region_lit ?_) | (with_reducible show wpList _ _ _ ({ dst := _, op := Op.load 32 _, type := _, pos := _, after := _, guard := none } :: _) _ _)); refine wpList_load_mid rfl 32 _ rfl _ _ rfl _ _ (by exact rg) Tryz.underlying32 rfl (by exact Cells14.info _) ?_; dsimp only [dZ, dS]) | ((with_reducible show wpList _ _ _ ({ dst := _, op := Op.store 32 _ _, type := _, pos := _, after := _, guard := none } :: _) _ _); refine wpList_store_mid rfl 32 _ _ rfl _ _ (List.toArray (Cells14.l _)) rfl rfl (by refine Cells14.there _ ?_; exact tr) (Cells14.infoA _) (Cells14.oneA _) ?_; (try dsimp only [Act.put])) | ((first | ((with_reducible show Code.wp _ (Code.region _ (List.toArray ({ dst := _, op := Op.store 49 _ _, type := _, pos := _, after := _, guard := none } :: _)) false) _ _ _); refine wp_region_lit ?_) | (with_reducible show wpList _ _ _ ({ dst := _, op := Op.store 49 _ _, type := _, pos := _, after := _, guard := none } :: _) _ _)); refine wpList_store_mid rfl 49 _ _ rfl _ _ _ rfl rfl (by exact tr) infoStop (all_oneCell_toArray (by simp [Value.oneCell'])) ?_; (try dsimp only [Act.put])) | (go_at_call 13; refine (HG.out _ xt).mono ?_; rintro e w1 ⟨rfl, hb⟩; have R1 := range_ext (b := w.heap.size + 1) (o := 0) (by exact rg) hb; have Q1 := range_ext (b := w.heap.size) (o := 0) (cs := [.slice Af nf cf, .slice Ao no co, .slice Av nv cv]) (by exact rg) hb; have HE1 : Hid (Ext w w1) := Ext.trans xt hb; clear hb) | (go_at_call 24; refine (HA.out _ HE1.out).mono ?_; rintro e w2 ⟨V2, rfl, hT2, hb2⟩; obtain ⟨c2, VF2, Ab2, nb2, cb2, rfl, hcl2, hB2, hcb2⟩ := hT2.cells3; have HBB2 := Lib.hid hB2; have hle2 := hB2.le; have HCL2 := Lib.hid hcl2; have HB2 := Lib.hid hb2; clear hT2 hb2 hB2 hcl2))
  obtain rfl : nb = nb2 := by have h1 := HL.out; have h2 := HBB2.out.len; have h3 := HX.out.1; omega
  refine wp_hid2 ?_
  intro W3 HW3
  have HF3 : Hid (Ext w1 W3) := by have h := HB2.out; have h2 := h.size; rw [Hid, HW3.out]; exact xts
  have HE3 : Hid (Ext w W3) := HE1.out.trans HF3.out
  have R3 : W3.rangeAt (w.heap.size + 1) 0 c.l := range_ext R1 HF3.out
  have U3 : W3.rangeAt w2.heap.size 0 c2.l := by rw [HW3.out]; exact (ranges_two (by omega) (c2.there' (by exact tr)) (by show World.there _ _ 0 3; exact tr)).1
  have HB3 : Hid (RSl 5 RBlk W3 Ab nb t.blocks) := HB.out.mono RBlk.stays HE3.out
  have HU3 : Hid (RSl 5 RBlk W3 Ab2 nb u.blocks) := HBB2.out.mono RBlk.stays (by rw [HW3.out]; exact xts)
  rw [HCL.out] at R3
  rw [HCL2.out] at U3
  have r0 : W3.cell? ⟨w.heap.size + 1, 0, none⟩ = some (Value.int .i64 t.fn) := R3 0 _ rfl
  have r1 : W3.cell? ⟨w.heap.size + 1, 1, none⟩ = some (Value.int .i64 t.scope) := R3 1 _ rfl
  have r2 : W3.cell? ⟨w.heap.size + 1, 2, none⟩ = some (Value.int .i64 t.prio) := R3 2 _ rfl
  have r3 : W3.cell? ⟨w.heap.size + 1, 3, none⟩ = some (Value.int .i64 t.status) := R3 3 _ rfl
  have r8 : W3.cell? ⟨w.heap.size + 1, 8, none⟩ = some (.slice Ab nb cb) := R3 8 _ rfl
  have r10 : W3.cell? ⟨w.heap.size + 1, 10, none⟩ = some (.bool t.unw) := R3 10 _ rfl
  have r11 : W3.cell? ⟨w.heap.size + 1, 11, none⟩ = some (Value.int .i64 t.level) := R3 11 _ rfl
  have r12 : W3.cell? ⟨w.heap.size + 1, 12, none⟩ = some (Value.int .i64 t.reason) := R3 12 _ rfl
  have r13 : W3.cell? ⟨w.heap.size + 1, 13, none⟩ = some (Value.int .i64 t.result) := R3 13 _ rfl
  obtain ⟨s1, s2, s3, s4, s5, s6, s7, s8⟩ := HS.out
  have q0 : W3.cell? ⟨w2.heap.size, 0, none⟩ = some (Value.int .i64 t.fn) := by rw [← s1]; exact U3 0 _ rfl
  have q1 : W3.cell? ⟨w2.heap.size, 1, none⟩ = some (Value.int .i64 t.scope) := by rw [← s2]; exact U3 1 _ rfl
  have q2 : W3.cell? ⟨w2.heap.size, 2, none⟩ = some (Value.int .i64 t.prio) := by rw [← s3]; exact U3 2 _ rfl
  have q3 : W3.cell? ⟨w2.heap.size, 3, none⟩ = some (Value.int .i64 t.status) := by rw [← s4]; exact U3 3 _ rfl
  have q8 : W3.cell? ⟨w2.heap.size, 8, none⟩ = some (.slice Ab2 nb cb2) := U3 8 _ rfl
  have q10 : W3.cell? ⟨w2.heap.size, 10, none⟩ = some (.bool t.unw) := by rw [← s5]; exact U3 10 _ rfl
  have q11 : W3.cell? ⟨w2.heap.size, 11, none⟩ = some (Value.int .i64 t.level) := by rw [← s6]; exact U3 11 _ rfl
  have q12 : W3.cell? ⟨w2.heap.size, 12, none⟩ = some (Value.int .i64 t.reason) := by rw [← s7]; exact U3 12 _ rfl
  have q13 : W3.cell? ⟨w2.heap.size, 13, none⟩ = some (Value.int .i64 t.result) := by rw [← s8]; exact U3 13 _ rfl
  have hz1 := lt_of_cell r0
  have hz2 := lt_of_cell q0
  clear HW3 HB2 R3 U3 R1 Q1 HG HA HBB2 HB HF3 HS s1 s2 s3 s4 s5 s6 s7 s8 HT HCL HCL2
  go_wp2
  go_loopg [8, 9, 10, 11, 92] nb (fun gg _ _ _ _ s92 wr => ∃ k : Nat, k ≤ nb ∧ nb - k ≤ gg ∧ s92 = .int .i64 k ∧ Hid (Ext W3 wr))
  case atStart => exact ⟨0, Nat.zero_le _, by omega, rfl, Ext.refl W3⟩
  case round =>
    obtain ⟨k, hk, hg, rfl, HEr⟩ := hrel
    have hEr := HEr.out
    replace r8 := hEr.cell r8
    replace q8 := hEr.cell q8
    have hsz := hEr.size
    by_cases hlt : k < nb
    · have hltz : (k : Int) < (nb : Int) := by omega
      obtain ⟨b, hb⟩ : ∃ x, t.blocks[k]? = some x := ⟨_, List.getElem?_eq_getElem (by have := HL.out; omega)⟩
      obtain ⟨d, hd, hsk, ⟨l, hl⟩, hlast⟩ := HX.out.2 k b hb
      obtain ⟨x1, o1, Aa, na, ca, rfl, hx1, _, _, _, _, ⟨hH, hna⟩, d0, d1, d2, d3, d4⟩ := (HB3.out.mono RBlk.stays hEr).blk hb
      obtain ⟨x2, o2, Ac, nc, cc, rfl, hx2, _, _, _, _, ⟨hC, hnc⟩, e0, e1, e2, e3, e4⟩ := (HU3.out.mono RBlk.stays hEr).blk hd
      unfold skB at hsk
      injection hsk with k1 hsk
      injection hsk with k2 hsk
      injection hsk with k3 k4
      rw [k1] at e0
      rw [k2] at e1
      rw [k3] at e2
      rw [k4] at e3
      have hnl := hH.len
      have hncl := hC.len
      have hle1 := hH.le
      have hle3 := hC.le
      have hn3 : na ≤ nc := by rw [hnl, hncl, hl, List.length_append]; omega
      have hn4 : k + 1 < nb → nc = na := fun h => by rw [hnl, hncl, hlast (by have := HL.out; omega)]
      have HH := Lib.hid hH
      have HC := Lib.hid (hC.take hn3)
      have hl2 : d.handlers.take na = b.handlers := by rw [hl, hnl, List.take_left']; rfl
      rw [hl2] at HC
      clear hb hd hl hlast hH hC hl2 hnl hncl k1 k2 k3 k4
      have hSame : Hid (∀ W, Ext wr W → Calls Tryz.prog 27 #[.slice Aa na ca, .slice Ac na cc] W fun e w' => e = .returned (.bool true) ∧ Ext W w') := fun W hW => by
        have := SameHdl_any Aa Ac na na ca cc b.handlers b.handlers W (HH.out.mono RHdl.stays hW) (HC.out.mono RHdl.stays hW)
        rwa [decide_eq_true rfl] at this
      go_upto_region 12 with fail
      refine wp_hid2 ?_
      intro Wr HWr
      have HE5 : Hid (Ext wr Wr) := by rw [Hid, HWr.out]; exact xt
      have D5 : Wr.rangeAt wr.heap.size 0 [Value.int .i64 b.scope, Value.int .i64 b.depth, Value.int .i64 b.exit, Value.int .i64 b.mask, .slice Aa na ca] := by rw [HWr.out]; exact range_old (range_new rfl) _
      have E5 : Wr.rangeAt (wr.heap.size + 1) 0 [Value.int .i64 b.scope, Value.int .i64 b.depth, Value.int .i64 b.exit, Value.int .i64 b.mask, .slice Ac nc cc] := by rw [HWr.out]; exact range_new (by simp)
      have a0 : Wr.cell? ⟨wr.heap.size, 0, none⟩ = some (Value.int .i64 b.scope) := D5 0 _ rfl
      have a1 : Wr.cell? ⟨wr.heap.size, 1, none⟩ = some (Value.int .i64 b.depth) := D5 1 _ rfl
      have a2 : Wr.cell? ⟨wr.heap.size, 2, none⟩ = some (Value.int .i64 b.exit) := D5 2 _ rfl
      have a3 : Wr.cell? ⟨wr.heap.size, 3, none⟩ = some (Value.int .i64 b.mask) := D5 3 _ rfl
      have a4 : Wr.cell? ⟨wr.heap.size, 4, none⟩ = some (.slice Aa na ca) := D5 4 _ rfl
      have b0 : Wr.cell? ⟨wr.heap.size + 1, 0, none⟩ = some (Value.int .i64 b.scope) := E5 0 _ rfl
      have b1 : Wr.cell? ⟨wr.heap.size + 1, 1, none⟩ = some (Value.int .i64 b.depth) := E5 1 _ rfl
      have b2 : Wr.cell? ⟨wr.heap.size + 1, 2, none⟩ = some (Value.int .i64 b.exit) := E5 2 _ rfl
      have b3 : Wr.cell? ⟨wr.heap.size + 1, 3, none⟩ = some (Value.int .i64 b.mask) := E5 3 _ rfl
      have b4 : Wr.cell? ⟨wr.heap.size + 1, 4, none⟩ = some (.slice Ac nc cc) := E5 4 _ rfl
      have r9 : Wr.cell? ⟨w.heap.size + 1, 8, none⟩ = some (.slice (some ⟨x1, o1, none⟩) nb cb) := HE5.out.cell r8
      have z1 := lt_of_cell a0
      have z2 := lt_of_cell b0
      have z3 := lt_of_cell r9
      have hnc0 : (0 : Int) ≤ (na : Int) := by omega
      have hnc1 : (na : Int) ≤ (cc : Int) := by omega
      have hncz : ¬ (nc : Int) < (na : Int) := by omega
      have hnb64 : nb ≤ 9223372036854775807 := by have := HB3.out.le; omega
      have hwn : IntKind.i64.wrap ((nb : Int) - 1) = (nb : Int) - 1 := IntWalk.i64_in _ (by omega)
      have hwk : IntKind.i64.wrap ((k : Int) + 1) = ((k + 1 : Nat) : Int) := by rw [IntWalk.i64_in _ (by omega)]; omega
      have HK := Lib.hid hwk
      have hend : Hid ((decide ((k : Int) < (nb : Int) - 1) && ((nc : Int) != (na : Int))) = false) := by
        by_cases h9 : k + 1 < nb
        · rw [hn4 h9]; simp [Hid]
        · rw [decide_eq_false (by omega)]; rfl
      clear HWr D5 E5 r8 q8 d0 d1 d2 d3 d4 e0 e1 e2 e3 e4 hn4 hx1 hx2 HH HC
      by_cases hlast : (k : Int) < (nb : Int) - 1
      · have hne : ((nc : Int) != (na : Int)) = false := by
          have := hend.out
          rw [decide_eq_true hlast] at this
          simpa using this
        go_upto_region 15 with fail
        (refine wp_region_quiet_below (by kernel_rfl) (by kernel_rfl) ?_; (repeat (go_big_quiet_step ((go_at_call 27; exact quiet_ext (hSame.out _ (Ext.trans HE5.out xt)))))); refine wpQuiet_nil ?_; intro w1 hw1; obtain ⟨hc, hf, hs, he⟩ := Ext.use (w := Wr) (ext_of_regrown hw1) xt; clear hw1; (try simp only [sA, sC, sD, sN] at hs))
        go_wp2
        go_roundg (nb - (k + 1))
        case measure => omega
        case rel => exact ⟨k + 1, by omega, by omega, by go_num, Ext.trans HEr.out (Ext.trans HE5.out he)⟩
      · go_upto_region 15 with fail
        (refine wp_region_quiet_below (by kernel_rfl) (by kernel_rfl) ?_; (repeat (go_big_quiet_step ((go_at_call 27; exact quiet_ext (hSame.out _ (Ext.trans HE5.out xt)))))); refine wpQuiet_nil ?_; intro w1 hw1; obtain ⟨hc, hf, hs, he⟩ := Ext.use (w := Wr) (ext_of_regrown hw1) xt; clear hw1; (try simp only [sA, sC, sD, sN] at hs))
        go_wp2
        go_roundg (nb - (k + 1))
        case measure => omega
        case rel => exact ⟨k + 1, by omega, by omega, by go_num, Ext.trans HEr.out (Ext.trans HE5.out he)⟩
    · have hltz : ¬ (k : Int) < (nb : Int) := by omega
      obtain rfl : k = nb := by omega
      have HE4 := Lib.hid (HE3.out.trans hEr)
      go_wp2_with (go_at_call 14; refine (awake_any _).mono ?_; rintro e w9 ⟨rfl, hb9⟩; have HE9 := Lib.hid (Ext.trans HE4.out hb9); clear hb9)
      go_ret
      exact ⟨rfl, HE9.out⟩
theorem frames_any (p : Prg) (t : Tsk) (VP VT : Value) (w : World) (hP : RPrg w p VP) (hT : RTsk w t VT) : Calls Tryz.prog 7 #[VP, VT] w fun e w' => e = .returned (.bool true) ∧ Ext w w' := by
  cases hg : (greatP p || greatT t) with
  | true => exact frames_great p t VP VT w hP hT hg
  | false =>
    obtain ⟨⟨u, s, er⟩, hA⟩ : ∃ r, advanceS p t = r := ⟨_, rfl⟩
    by_cases h : er = 0
    · subst h; exact frames_ok p t u s VP VT w hP hT hg hA
    · exact frames_err p t u s VP VT w er hP hT hg hA (by simpa using h)
end Go.Proofs.YtcjjoabofecjmaaGreat
