/- A part of the proof: Interrupt of package task; An operation whose guard says no, in a region that draws. -/
import Derived.Test.YtcjjoabofecjmaaGreatQ18
import Derived.Test.YtcjjoabofecjmaaGreatQ04
set_option linter.unusedVariables false
set_option linter.unusedSimpArgs false
namespace Go.Proofs.YtcjjoabofecjmaaGreat
open Go.RowKit
def badS (t : Tsk) : Prop := t.status = 3 ∨ t.blocks.length = 0 ∨ t.unw = true ∨ inHand t = true
theorem interruptS_err {t : Tsk} {level reason : Int} (h : badS t) : interruptS t level reason = (zeroTsk, 17) := by unfold interruptS; exact if_pos h
theorem interruptS_range {t : Tsk} {level reason : Int} (h : ¬ badS t) (hl : level ≠ 0 ∧ (level < 2 ∨ (t.blocks.length : Int) < level)) : interruptS t level reason = (zeroTsk, 2) := by
  unfold interruptS; rw [if_neg (show ¬ (_ ∨ _ ∨ _ ∨ _) from h), if_pos hl]
theorem interruptS_all {t : Tsk} {reason : Int} (h : ¬ badS t) : interruptS t 0 reason = ({ t with unw := true, level := 0, frames := [], mask := 0, reason := reason, result := 0 }, 0) := by
  unfold interruptS; rw [if_neg (show ¬ (_ ∨ _ ∨ _ ∨ _) from h), if_neg (by omega), if_pos rfl]
theorem interruptS_lvl {t : Tsk} {k : Nat} {reason : Int} {b : Blk} (h : ¬ badS t) (h1 : 1 ≤ k) (hb : t.blocks[k]? = some b) : interruptS t ((k : Int) + 1) reason = ({ t with unw := true, level := (k : Int) + 1, frames := t.frames.take b.depth.toNat, mask := b.mask }, 0) := by
  have hk := (List.getElem?_eq_some_iff.1 hb).1
  have e : ((k : Int) + 1 - 1).toNat = k := by omega
  unfold interruptS; rw [if_neg (show ¬ (_ ∨ _ ∨ _ ∨ _) from h), if_neg (by omega), if_neg (by omega), e, hb]
theorem take_min {α : Type} (l : List α) (n : Nat) : l.take (min n l.length) = l.take n := by
  rcases Nat.le_total n l.length with h | h
  · rw [Nat.min_eq_left h]
  · rw [Nat.min_eq_right h, List.take_length, List.take_of_length_le h]
set_option maxRecDepth 4000 in
set_option maxHeartbeats 4000000 in
theorem interrupt_lvl (t : Tsk) (level reason : Int) (V : Value) (w : World) (hV : RTsk w t V) (hnf : t.frames.length ≤ 1000) (hr : InR reason) (hQ : ¬ badS t) (hl1 : 2 ≤ level) (hl2 : level ≤ (t.blocks.length : Int)) :
    Calls Tryz.prog 32 #[V, Value.int .i64 level, Value.int .i64 reason] w fun e w' => ∃ V', e = .returned (.tuple #[V', Value.int .i64 (interruptS t level reason).2]) ∧ RTsk w' (interruptS t level reason).1 V' ∧ Ext w w' := by
  have HI := Lib.hid hV.inr
  have HH := Lib.hid (fun W h => handles_any t V W (hV.mono h))
  have HQ := Lib.hid hQ
  have hq : ¬ t.status = 3 := fun h => hQ (.inl h)
  have hu : t.unw = false := by cases h : t.unw with | true => exact absurd (.inr (.inr (.inl h))) hQ | false => rfl
  have hin : inHand t = false := by cases h : inHand t with | true => exact absurd (.inr (.inr (.inr h))) hQ | false => rfl
  obtain ⟨Af, nf, cf, Ab, nb, cb, rfl, _, _, _, _, _, _, _, _, _, _, hF, hB, hcf, hcb⟩ := hV
  have LB := Lib.hid hB.len
  have LF := Lib.hid hF.len
  have HNF : Hid (nf ≤ 1000) := by have := hF.len; rw [Hid]; omega
  have hle := hF.le
  have hle2 := hB.le
  have HF := Lib.hid hF
  have HB := Lib.hid hB
  rw [hin, hu] at HH
  clear hF hB hr hnf hQ hin
  have hq1 : (t.status == 3) = false := beq_eq_false_iff_ne.2 hq
  obtain ⟨k, hk1, rfl⟩ : ∃ k : Nat, 1 ≤ k ∧ level = (k : Int) + 1 := ⟨(level - 1).toNat, by omega, by omega⟩
  have hkb : (k : Int) < (nb : Int) := by have := LB.out; omega
  have hnb0 : ¬ (nb : Int) = 0 := by omega
  have hq2 : ((nb : Int) == 0) = false := beq_eq_false_iff_ne.2 hnb0
  have hl1' : (((k : Int) + 1) != 0) = true := by simp; omega
  have hl2' : ¬ (k : Int) + 1 < 2 := by omega
  have hl3' : ¬ (nb : Int) < (k : Int) + 1 := by omega
  clear hl1 hl2
  obtain ⟨x, hx⟩ : ∃ x, t.blocks[k]? = some x := ⟨_, List.getElem?_eq_getElem (by have := LB.out; omega)⟩
  have HS := Lib.hid (interruptS_lvl (reason := reason) HQ.out hk1 hx)
  obtain ⟨bb, off, Aa, na, ca, rfl, hlb, _, xi2, _, xi4, _, c0, c1, c2, c3, c4⟩ := HB.out.blk hx
  have HX4 := Lib.hid xi4
  have hs1 : IntKind.i64.wrap ((k : Int) + 1 - 1) = (k : Int) := by rw [IntWalk.i64_in _ (by omega)]; omega
  have hs2 : IntKind.i64.wrap (k : Int) = (k : Int) := by rw [IntWalk.i64_in _ (by omega)]
  have hkb : (k : Int) < (nb : Int) := by omega
  have hk0 : (0 : Int) ≤ (k : Int) := by omega
  obtain ⟨m, hm⟩ : ∃ m : Nat, m = min x.depth.toNat nf := ⟨_, rfl⟩
  have hm1 : (if (nf : Int) < (if x.depth < 0 then 0 else x.depth) then (nf : Int) else (if x.depth < 0 then 0 else x.depth)) = (m : Int) := by
    split <;> split <;> omega
  have hm2 : (m : Int) ≤ (cf : Int) := by omega
  have hm0 : (0 : Int) ≤ (m : Int) := by omega
  have HM : Hid (t.frames.take x.depth.toNat = t.frames.take m) := by rw [Hid, hm, LF.out, take_min]
  have hmn : m ≤ nf := by omega
  obtain ⟨cs, hcs, hone, hrd⟩ := RSl.cells (by omega) RFrm.stays RFrm.one (HF.out.take hmn)
  have HN := Lib.hid (HF.out.take hmn).nil_of_none
  have HCS := Lib.hid hcs
  have HON := Lib.hid hone
  have HRD := Lib.hid hrd
  clear hcs hone hrd hx hm xi2 xi4
  go_enter Tryz.func32, Tryz.ntmps32
  go_wp2_with (first | ((first | ((with_reducible show Code.wp _ (Code.region _ (List.toArray ({ dst := _, op := Op.load 32 _, type := _, pos := _, after := _, guard := none } :: _)) false) _ _ _); refine wp_region_lit ?_) | (with_reducible show wpList _ _ _ ({ dst := _, op := Op.load 32 _, type := _, pos := _, after := _, guard := none } :: _) _ _)); refine wpList_load_mid rfl 32 _ rfl _ _ rfl _ _ (by exact rg) Tryz.underlying32 rfl (by exact infoTsk) ?_; dsimp only [dZ, dS]) | ((with_reducible show wpList _ _ _ ({ dst := _, op := Op.store 32 _ _, type := _, pos := _, after := _, guard := none } :: _) _ _); refine wpList_store_mid rfl 32 _ _ rfl _ _ _ rfl rfl (by exact tr) infoTsk (all_oneCell_toArray (by simp [Value.oneCell'])) ?_; (try dsimp only [Act.put])) | (go_at_call 65; refine (HH.out _ xt).mono ?_; rintro e w1 ⟨rfl, hb⟩; have R1 := range_ext (b := w.heap.size) (o := 0) (by exact rg) hb; have T1 := there_ext (b := w.heap.size + 1) (o := 0) (n := 14) (by exact tr) hb; obtain ⟨hc, hf, hs, he⟩ := Ext.use (w := w) hb xt; clear hb; (try simp only [World.size_alloc] at hs)) | (go_at_call 74; with_reducible refine (cloneFrm Af m cf cs _ HN.out (HCS.out.mono xt) HON.out (by have := HNF.out; omega)).mono ?_; rintro e w2 ⟨v1, rfl, hown1, hb⟩; have R2 := range_ext (b := w.heap.size) (o := 0) (by exact rg) hb; have T2 := there_ext (b := w.heap.size + 1) (o := 0) (n := 14) (by exact tr) hb; obtain ⟨hc2, hf2, hs2, he2⟩ := Ext.use (w := w) hb xt; have HO1 := Lib.hid hown1; obtain ⟨A1, c1, rfl, hc1, _⟩ := ownsRow_shape hown1; clear hb hown1; (try simp only [World.size_alloc, World.size_setCell] at hs2)))
  all_goals
    have HRr : ∀ W, Ext w W → W.ownsRow (w.heap.size + 1 + 1) 62 5 (.slice A1 m c1) m cs → RSl 5 RFrm W A1 m (t.frames.take x.depth.toNat) := fun W hE hO => by
      obtain ⟨A', c', e, _, hr⟩ := row_reads (A := none) hE HRD.out hO
      injection e with e1 e2 e3
      subst e1
      rw [HM.out]
      exact hr
    have HOm : w2.ownsRow (w.heap.size + 1 + 1) 62 5 (.slice A1 m c1) m cs := World.ownsRow.mono HO1.out (by simp only [World.size_alloc, World.size_setCell]; omega)
    refine ret_range2 (b := w.heap.size + 1) Tryz.results32 rfl rfl rfl rfl (World.rangeAt_setCells_same _ _ 0 _ (by exact tr)) ?_
    rw [HS.out]
    refine ⟨_, rfl, rtsk_of (t := { t with unw := true, level := (k : Int) + 1, frames := t.frames.take x.depth.toNat, mask := x.mask }) ⟨HI.out.1, HI.out.2.1, HI.out.2.2.1, HI.out.2.2.2.1, HI.out.2.2.2.2.1, HI.out.2.2.2.2.2.1, HX4.out, ⟨by show (-9223372036854775808 : Int) ≤ (k : Int) + 1; omega, by show (k : Int) + 1 ≤ 9223372036854775807; omega⟩, HI.out.2.2.2.2.2.2.2.2.1, HI.out.2.2.2.2.2.2.2.2.2⟩ ?_ hc1 (HB.out.mono RBlk.stays xts) hcb, xts⟩
    exact HRr _ xts (own_setCells (own_setCell (own_setCell HOm (show w.heap.size < _ by omega)) (show w.heap.size < _ by omega)) (by omega))
set_option maxRecDepth 4000 in
set_option maxHeartbeats 4000000 in
theorem interrupt_any (t : Tsk) (level reason : Int) (V : Value) (w : World) (hV : RTsk w t V) (hnf : t.frames.length ≤ 1000) (hl : InR level) (hr : InR reason) :
    Calls Tryz.prog 32 #[V, Value.int .i64 level, Value.int .i64 reason] w fun e w' => ∃ V', e = .returned (.tuple #[V', Value.int .i64 (interruptS t level reason).2]) ∧ RTsk w' (interruptS t level reason).1 V' ∧ Ext w w' := by
  have HV := Lib.hid hV
  have HI := Lib.hid hV.inr
  have HRR := Lib.hid hr
  have HLL := Lib.hid hl
  have HH := Lib.hid (fun W h => handles_any t V W (hV.mono h))
  obtain ⟨Af, nf, cf, Ab, nb, cb, rfl, _, _, _, _, _, _, _, _, _, _, hF, hB, hcf, hcb⟩ := hV
  have LB := Lib.hid hB.len
  have LF := Lib.hid hF.len
  have HNF : Hid (nf ≤ 1000) := by have := hF.len; rw [Hid]; omega
  have hle := hF.le
  have hle2 := hB.le
  have HF := Lib.hid hF
  have HB := Lib.hid hB
  clear hF hB hr hl hnf
  by_cases hq : t.status = 3
  · have HS : Hid (interruptS t level reason = (zeroTsk, 17)) := interruptS_err (.inl hq)
    go_enter Tryz.func32, Tryz.ntmps32
    go_wp2_with (first | ((first | ((with_reducible show Code.wp _ (Code.region _ (List.toArray ({ dst := _, op := Op.load 32 _, type := _, pos := _, after := _, guard := none } :: _)) false) _ _ _); refine wp_region_lit ?_) | (with_reducible show wpList _ _ _ ({ dst := _, op := Op.load 32 _, type := _, pos := _, after := _, guard := none } :: _) _ _)); refine wpList_load_mid rfl 32 _ rfl _ _ rfl _ _ (by exact rg) Tryz.underlying32 rfl (by exact infoTsk) ?_; dsimp only [dZ, dS]) | ((with_reducible show wpList _ _ _ ({ dst := _, op := Op.store 32 _ _, type := _, pos := _, after := _, guard := none } :: _) _ _); refine wpList_store_mid rfl 32 _ _ rfl _ _ _ rfl rfl (by exact tr) infoTsk (all_oneCell_toArray (by simp [Value.oneCell'])) ?_; (try dsimp only [Act.put])))
    refine ret_range2 (b := w.heap.size + 1) Tryz.results32 rfl rfl rfl rfl (World.rangeAt_setCells_same _ _ 0 _ (by exact tr)) ?_
    rw [HS.out]
    exact ⟨_, rfl, zero_reads _, xts⟩
  have hq1 : (t.status == 3) = false := beq_eq_false_iff_ne.2 hq
  rcases Nat.eq_zero_or_pos nb with h0 | h0
  · subst h0
    have HS : Hid (interruptS t level reason = (zeroTsk, 17)) := interruptS_err (.inr (.inl LB.out.symm))
    go_enter Tryz.func32, Tryz.ntmps32
    go_wp2_with (first | ((first | ((with_reducible show Code.wp _ (Code.region _ (List.toArray ({ dst := _, op := Op.load 32 _, type := _, pos := _, after := _, guard := none } :: _)) false) _ _ _); refine wp_region_lit ?_) | (with_reducible show wpList _ _ _ ({ dst := _, op := Op.load 32 _, type := _, pos := _, after := _, guard := none } :: _) _ _)); refine wpList_load_mid rfl 32 _ rfl _ _ rfl _ _ (by exact rg) Tryz.underlying32 rfl (by exact infoTsk) ?_; dsimp only [dZ, dS]) | ((with_reducible show wpList _ _ _ ({ dst := _, op := Op.store 32 _ _, type := _, pos := _, after := _, guard := none } :: _) _ _); refine wpList_store_mid rfl 32 _ _ rfl _ _ _ rfl rfl (by exact tr) infoTsk (all_oneCell_toArray (by simp [Value.oneCell'])) ?_; (try dsimp only [Act.put])))
    refine ret_range2 (b := w.heap.size + 1) Tryz.results32 rfl rfl rfl rfl (World.rangeAt_setCells_same _ _ 0 _ (by exact tr)) ?_
    rw [HS.out]
    exact ⟨_, rfl, zero_reads _, xts⟩
  have hnb0 : ¬ (nb : Int) = 0 := by omega
  have hq2 : ((nb : Int) == 0) = false := beq_eq_false_iff_ne.2 hnb0
  cases hu : t.unw with
  | true =>
    have HS : Hid (interruptS t level reason = (zeroTsk, 17)) := interruptS_err (.inr (.inr (.inl hu)))
    rw [hu] at HH
    go_enter Tryz.func32, Tryz.ntmps32
    go_wp2_with (first | ((first | ((with_reducible show Code.wp _ (Code.region _ (List.toArray ({ dst := _, op := Op.load 32 _, type := _, pos := _, after := _, guard := none } :: _)) false) _ _ _); refine wp_region_lit ?_) | (with_reducible show wpList _ _ _ ({ dst := _, op := Op.load 32 _, type := _, pos := _, after := _, guard := none } :: _) _ _)); refine wpList_load_mid rfl 32 _ rfl _ _ rfl _ _ (by exact rg) Tryz.underlying32 rfl (by exact infoTsk) ?_; dsimp only [dZ, dS]) | ((with_reducible show wpList _ _ _ ({ dst := _, op := Op.store 32 _ _, type := _, pos := _, after := _, guard := none } :: _) _ _); refine wpList_store_mid rfl 32 _ _ rfl _ _ _ rfl rfl (by exact tr) infoTsk (all_oneCell_toArray (by simp [Value.oneCell'])) ?_; (try dsimp only [Act.put])))
    refine ret_range2 (b := w.heap.size + 1) Tryz.results32 rfl rfl rfl rfl (World.rangeAt_setCells_same _ _ 0 _ (by exact tr)) ?_
    rw [HS.out]
    exact ⟨_, rfl, zero_reads _, xts⟩
  | false =>
    rw [hu] at HH
    cases hin : inHand t with
    | true =>
      have HS : Hid (interruptS t level reason = (zeroTsk, 17)) := interruptS_err (.inr (.inr (.inr hin)))
      rw [hin] at HH
      clear hin
      go_enter Tryz.func32, Tryz.ntmps32
      go_wp2_with (first | ((first | ((with_reducible show Code.wp _ (Code.region _ (List.toArray ({ dst := _, op := Op.load 32 _, type := _, pos := _, after := _, guard := none } :: _)) false) _ _ _); refine wp_region_lit ?_) | (with_reducible show wpList _ _ _ ({ dst := _, op := Op.load 32 _, type := _, pos := _, after := _, guard := none } :: _) _ _)); refine wpList_load_mid rfl 32 _ rfl _ _ rfl _ _ (by exact rg) Tryz.underlying32 rfl (by exact infoTsk) ?_; dsimp only [dZ, dS]) | ((with_reducible show wpList _ _ _ ({ dst := _, op := Op.store 32 _ _, type := _, pos := _, after := _, guard := none } :: _) _ _); refine wpList_store_mid rfl 32 _ _ rfl _ _ _ rfl rfl (by exact tr) infoTsk (all_oneCell_toArray (by simp [Value.oneCell'])) ?_; (try dsimp only [Act.put])) | (go_at_call 65; refine (HH.out _ xt).mono ?_; rintro e w1 ⟨rfl, hb⟩; have R1 := range_ext (b := w.heap.size) (o := 0) (by exact rg) hb; have T1 := there_ext (b := w.heap.size + 1) (o := 0) (n := 14) (by exact tr) hb; obtain ⟨hc, hf, hs, he⟩ := Ext.use (w := w) hb xt; clear hb; (try simp only [World.size_alloc] at hs)))
      refine ret_range2 (b := w.heap.size + 1) Tryz.results32 rfl rfl rfl rfl (World.rangeAt_setCells_same _ _ 0 _ (by exact tr)) ?_
      rw [HS.out]
      exact ⟨_, rfl, zero_reads _, xts⟩
    | false =>
      have HQ : Hid (¬ badS t) := by
        rintro (h | h | h | h)
        · exact hq h
        · have := LB.out; omega
        · rw [hu] at h; cases h
        · rw [hin] at h; cases h
      rw [hin] at HH
      clear hin
      by_cases hl0 : level = 0
      · subst hl0
        have HS := Lib.hid (interruptS_all (reason := reason) HQ.out)
        go_enter Tryz.func32, Tryz.ntmps32
        go_wp2_with (first | ((first | ((with_reducible show Code.wp _ (Code.region _ (List.toArray ({ dst := _, op := Op.load 32 _, type := _, pos := _, after := _, guard := none } :: _)) false) _ _ _); refine wp_region_lit ?_) | (with_reducible show wpList _ _ _ ({ dst := _, op := Op.load 32 _, type := _, pos := _, after := _, guard := none } :: _) _ _)); refine wpList_load_mid rfl 32 _ rfl _ _ rfl _ _ (by exact rg) Tryz.underlying32 rfl (by exact infoTsk) ?_; dsimp only [dZ, dS]) | ((with_reducible show wpList _ _ _ ({ dst := _, op := Op.store 32 _ _, type := _, pos := _, after := _, guard := none } :: _) _ _); refine wpList_store_mid rfl 32 _ _ rfl _ _ _ rfl rfl (by exact tr) infoTsk (all_oneCell_toArray (by simp [Value.oneCell'])) ?_; (try dsimp only [Act.put])) | (go_at_call 65; refine (HH.out _ xt).mono ?_; rintro e w1 ⟨rfl, hb⟩; have R1 := range_ext (b := w.heap.size) (o := 0) (by exact rg) hb; have T1 := there_ext (b := w.heap.size + 1) (o := 0) (n := 14) (by exact tr) hb; obtain ⟨hc, hf, hs, he⟩ := Ext.use (w := w) hb xt; clear hb; (try simp only [World.size_alloc] at hs)))
        refine ret_range2 (b := w.heap.size + 1) Tryz.results32 rfl rfl rfl rfl (World.rangeAt_setCells_same _ _ 0 _ (by exact tr)) ?_
        rw [HS.out]
        exact ⟨_, rfl, rtsk_of (t := { t with unw := true, level := 0, frames := [], mask := 0, reason := reason, result := 0 }) ⟨HI.out.1, HI.out.2.1, HI.out.2.2.1, HI.out.2.2.2.1, HI.out.2.2.2.2.1, HI.out.2.2.2.2.2.1, zero_in, zero_in, HRR.out, zero_in⟩ (RSl.nil _) (Nat.le_refl _) (HB.out.mono RBlk.stays xts) hcb, xts⟩
      have hl1 : (level == 0) = false := beq_eq_false_iff_ne.2 hl0
      have hl1' : (level != 0) = true := by simp [hl0]
      by_cases hl2 : level < 2
      · have HS : Hid (interruptS t level reason = (zeroTsk, 2)) := interruptS_range HQ.out ⟨hl0, .inl hl2⟩
        go_enter Tryz.func32, Tryz.ntmps32
        go_wp2_with (first | ((first | ((with_reducible show Code.wp _ (Code.region _ (List.toArray ({ dst := _, op := Op.load 32 _, type := _, pos := _, after := _, guard := none } :: _)) false) _ _ _); refine wp_region_lit ?_) | (with_reducible show wpList _ _ _ ({ dst := _, op := Op.load 32 _, type := _, pos := _, after := _, guard := none } :: _) _ _)); refine wpList_load_mid rfl 32 _ rfl _ _ rfl _ _ (by exact rg) Tryz.underlying32 rfl (by exact infoTsk) ?_; dsimp only [dZ, dS]) | ((with_reducible show wpList _ _ _ ({ dst := _, op := Op.store 32 _ _, type := _, pos := _, after := _, guard := none } :: _) _ _); refine wpList_store_mid rfl 32 _ _ rfl _ _ _ rfl rfl (by exact tr) infoTsk (all_oneCell_toArray (by simp [Value.oneCell'])) ?_; (try dsimp only [Act.put])) | (go_at_call 65; refine (HH.out _ xt).mono ?_; rintro e w1 ⟨rfl, hb⟩; have R1 := range_ext (b := w.heap.size) (o := 0) (by exact rg) hb; have T1 := there_ext (b := w.heap.size + 1) (o := 0) (n := 14) (by exact tr) hb; obtain ⟨hc, hf, hs, he⟩ := Ext.use (w := w) hb xt; clear hb; (try simp only [World.size_alloc] at hs)))
        refine ret_range2 (b := w.heap.size + 1) Tryz.results32 rfl rfl rfl rfl (World.rangeAt_setCells_same _ _ 0 _ (by exact tr)) ?_
        rw [HS.out]
        exact ⟨_, rfl, zero_reads _, xts⟩
      by_cases hl3 : (nb : Int) < level
      · have HS : Hid (interruptS t level reason = (zeroTsk, 2)) := interruptS_range HQ.out ⟨hl0, .inr (by rw [← LB.out]; exact hl3)⟩
        go_enter Tryz.func32, Tryz.ntmps32
        go_wp2_with (first | ((first | ((with_reducible show Code.wp _ (Code.region _ (List.toArray ({ dst := _, op := Op.load 32 _, type := _, pos := _, after := _, guard := none } :: _)) false) _ _ _); refine wp_region_lit ?_) | (with_reducible show wpList _ _ _ ({ dst := _, op := Op.load 32 _, type := _, pos := _, after := _, guard := none } :: _) _ _)); refine wpList_load_mid rfl 32 _ rfl _ _ rfl _ _ (by exact rg) Tryz.underlying32 rfl (by exact infoTsk) ?_; dsimp only [dZ, dS]) | ((with_reducible show wpList _ _ _ ({ dst := _, op := Op.store 32 _ _, type := _, pos := _, after := _, guard := none } :: _) _ _); refine wpList_store_mid rfl 32 _ _ rfl _ _ _ rfl rfl (by exact tr) infoTsk (all_oneCell_toArray (by simp [Value.oneCell'])) ?_; (try dsimp only [Act.put])) | (go_at_call 65; refine (HH.out _ xt).mono ?_; rintro e w1 ⟨rfl, hb⟩; have R1 := range_ext (b := w.heap.size) (o := 0) (by exact rg) hb; have T1 := there_ext (b := w.heap.size + 1) (o := 0) (n := 14) (by exact tr) hb; obtain ⟨hc, hf, hs, he⟩ := Ext.use (w := w) hb xt; clear hb; (try simp only [World.size_alloc] at hs)))
        refine ret_range2 (b := w.heap.size + 1) Tryz.results32 rfl rfl rfl rfl (World.rangeAt_setCells_same _ _ 0 _ (by exact tr)) ?_
        rw [HS.out]
        exact ⟨_, rfl, zero_reads _, xts⟩
      exact interrupt_lvl t level reason _ w (by have h0 := HV.out; rw [hu] at h0; exact h0) (by have := LF.out; have := HNF.out; omega) HRR.out HQ.out (by omega) (by rw [← LB.out]; omega)
end Go.Proofs.YtcjjoabofecjmaaGreat

namespace Go.Proofs.YtcjjoabofecjmaaGreat
open Go.RowKit Go.Sort
section
variable {P : Program} {ops : Array Oper} {Q : Exit → Act → World → Prop} {S : World → Prop}
theorem thn (i : Nat) {n g f : Nat} {oi : Oper} {l : List Oper} {listed : Array Bool} {a : Act} {w : World} (T : TOk ops n)
    (h : THeld P ops Q S l g n f (listed.setIfInBounds i true) (a.put oi.dst undef) w)
    (hin : i < n := by decide) (hf : Region.free .any ops listed i = true := by kernel_rfl) (hr : (Region.ready .any ops listed).contains i = true := by kernel_rfl) (hS : S w := by assumption)
    (hi : ops[i]? = some oi := by (simp only [List.getElem?_toArray, List.getElem?_cons_zero, List.getElem?_cons_succ]; rfl))
    (hw : Region.wanted oi (yielded ops a.tmps) = false := by exact rfl)
    (hQ : ∀ c a w, Q (.panic c) (a.put oi.dst undef) w → Q (.panic c) a w := by exact fun _ _ _ h => h) : THeld P ops Q S l g n (f + 1) listed a w :=
  th_take T hi hin hf hr hQ (.inr ⟨hw, rfl⟩) hS h
end
end Go.Proofs.YtcjjoabofecjmaaGreat
