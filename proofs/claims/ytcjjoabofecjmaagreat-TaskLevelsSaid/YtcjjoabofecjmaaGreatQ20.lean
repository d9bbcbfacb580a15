/- A part of the proof: TaskLevels answers true. -/
import Derived.Test.YtcjjoabofecjmaaGreatQ04
import Derived.Test.YtcjjoabofecjmaaGreatQ17
import Derived.Test.YtcjjoabofecjmaaGreatQ18
import Derived.Test.YtcjjoabofecjmaaGreatQ19
import Derived.Test.YtcjjoabofecjmaaGreatQ14
import Derived.Test.YtcjjoabofecjmaaGreatQ16
import Derived.Deep.CutRange
set_option linter.unusedVariables false
set_option linter.unusedSimpArgs false
namespace Go.Proofs.YtcjjoabofecjmaaGreat
open Go.RowKit Go.Sort
theorem infoBlkS : (Tryz.prog.info? 55).map (·.size) = some 5 := by kernel_rfl
theorem infoFrmS2 : (Tryz.prog.info? 62).map (·.size) = some 5 := by kernel_rfl
theorem RTsk.open {w : World} {t : Tsk} {V : Value} (h : RTsk w t V) : ∃ (c : Cells14) (Af : Option Addr) (nf cf : Nat) (Ab : Option Addr) (nb cb : Nat), V = .agg c.l.toArray ∧ c.l = tskL t (.slice Af nf cf) (.slice Ab nb cb) ∧ RSl 5 RFrm w Af nf t.frames ∧ RSl 5 RBlk w Ab nb t.blocks ∧ nf ≤ cf ∧ nb ≤ cb := by
  obtain ⟨Af, nf, cf, Ab, nb, cb, rfl, _, _, _, _, _, _, _, _, _, _, hF, hB, h1, h2⟩ := h
  exact ⟨⟨tskL t (.slice Af nf cf) (.slice Ab nb cb), rfl, by simp [tskL, Value.oneCell']⟩, _, _, _, _, _, _, rfl, rfl, hF, hB, h1, h2⟩
theorem bare_reads {W : World} {B g c n : Nat} {bs : List Blk} {hs : List Value} (h : W.ownsRow B 55 5 (.slice (some ⟨g, 0, none⟩) n c) n (rowOf blkCells bs hs)) (hl : hs.length = bs.length) (hn : n = bs.length) (hn2 : n ≤ 1000) (hz : ∀ j, j < n → hs[j]? = some (.slice none 0 0)) (hi : ∀ b ∈ bs, InR b.scope ∧ InR b.depth ∧ InR b.exit ∧ InR b.mask) :
    RSl 5 RBlk W (some ⟨g, 0, none⟩) n (bs.map cutH) := by
  refine ⟨by rw [List.length_map]; exact hn, by omega, fun k x hk => ?_⟩
  rw [List.getElem?_map] at hk
  cases hb : bs[k]? with
  | none => rw [hb] at hk; cases hk
  | some b =>
    rw [hb] at hk
    simp only [Option.map_some, Option.some.injEq] at hk
    subst hk
    have hkn : k < n := by have := (List.getElem?_eq_some_iff.1 hb).1; omega
    obtain ⟨i1, i2, i3, i4⟩ := hi b (List.mem_of_getElem? hb)
    refine ⟨g, 0, blkCells b (.slice none 0 0), rfl, rfl, ⟨none, 0, 0, rfl, i1, i2, i3, i4, RSl.nil _, Nat.le_refl _⟩, fun j v hj => ?_⟩
    have hj5 : j < 5 := by have := (List.getElem?_eq_some_iff.1 hj).1; simpa [blkCells] using this
    rw [Nat.zero_add, h.cellAt _ (by omega), rowOf_get blkCells_len hb (hz k hkn) hj5]
    exact hj
theorem bare_out {w : World} {g b o n : Nat} {bs : List Blk} {vs : List Value} (h : RSl 5 RBlk w (some ⟨g, 0, none⟩) n bs) (hb : g ≠ b) (hz : ∀ x ∈ bs, x.handlers = []) : RSl 5 RBlk (w.setCells b o vs) (some ⟨g, 0, none⟩) n bs := by
  refine ⟨h.1, h.2.1, fun k x hk => ?_⟩
  obtain ⟨b', o', cs, hA, hcl, ⟨Aa, na, ca, rfl, i1, i2, i3, i4, hH, hc⟩, hcell⟩ := h.2.2 k x hk
  injection hA with hA
  injection hA with e1 e2 _
  subst e1 e2
  have h0 := hz x (List.mem_of_getElem? hk)
  refine ⟨g, 0, _, rfl, hcl, ⟨Aa, na, ca, rfl, i1, i2, i3, i4, ⟨?_, hc⟩⟩, fun j v hj => ?_⟩
  · refine ⟨hH.1, hH.2.1, fun k y hy => ?_⟩
    rw [h0] at hy; simp at hy
  · rw [World.cell?_setCells_out b vs o _ _ (fun e => absurd e hb)]; exact hcell j v hj
theorem lv_bare (t : Tsk) (level : Int) (b : Blk) (k : Nat) : ∀ x ∈ (lvT t level b k).blocks, x.handlers = [] := fun x hx => by
  have hx : x ∈ (t.blocks.map cutH).take k := hx
  obtain ⟨a, _, rfl⟩ := List.mem_map.1 (List.mem_of_mem_take hx)
  rfl
set_option maxRecDepth 8000 in
set_option maxHeartbeats 8000000 in
theorem levels_main (p : Prg) (t : Tsk) (L : Nat) (VP VT : Value) (w : World) (hP : RPrg w p VP) (hT : RTsk w t VT) (hg : (greatP p || greatT t) = false) (H : LevOk p t (L : Int)) (hl : InR (L : Int)) :
    Calls Tryz.prog 10 #[VP, VT, Value.int .i64 L] w fun e w' => e = .returned (.bool true) ∧ Ext w w' := by
  have HG := Lib.hid (fun W (h : Ext w W) => great_any p t VP VT W (hP.mono h) (hT.mono h))
  rw [hg] at HG
  have HC := Lib.hid (fun W (h : Ext w W) => tCheck_any p t VP VT W (hP.mono h) (hT.mono h))
  rw [H.hv] at HC
  have HP := Lib.hid hP
  have HLV := Lib.hid H
  have HTI := Lib.hid hT.inr
  obtain ⟨n1, n2, n3, n4⟩ := not_great (show greatT t = false by simp only [Bool.or_eq_false_iff] at hg; exact hg.2)
  obtain ⟨b, hb, hint, hd1, hd2⟩ := H.parts 1
  have HB := Lib.hid hb
  have l0 := valid_lv H.hv (by rw [H.st]; decide)
  have hpos : 0 < t.frames.length := by omega
  obtain ⟨f, hf⟩ : ∃ f, t.frames[t.frames.length - 1]? = some f := ⟨_, List.getElem?_eq_getElem (by omega)⟩
  have hfc : f.cleanup = false := no_hand l0 H.hand f (List.mem_of_getElem? hf)
  have HI := Lib.hid (fun W (h : Ext w W) => interrupt_any t L 1 VT W (hT.mono h) (by omega) hl ⟨by decide, by decide⟩)
  rw [hint] at HI
  obtain ⟨ct, Bf, mf, df, Bb, mb, db, rfl, hcl, hFF, hBB, hdf, hdb⟩ := hT.open
  have HCL := Lib.hid hcl
  have HFF := Lib.hid hFF
  have HBB := Lib.hid hBB
  obtain rfl : mf = t.frames.length := hFF.len
  obtain rfl : mb = t.blocks.length := hBB.len
  obtain ⟨bf, of, Ar, nr, cr, rfl, hlf, _, _, _, _, d0, d1, d2, d3, d4⟩ := hFF.frm hf
  rw [hfc] at d4
  obtain ⟨Af, nf, cf, Ao, no, co, Av, nv, cv, rfl, _⟩ := hP
  have hst1 : (t.status != 1) = false := by rw [H.st]; decide
  have hlo : ¬ (L : Int) < 2 := by have := H.lvl; omega
  have hhi : ¬ (t.blocks.length : Int) < (L : Int) := by have := H.lvl; omega
  have hL2 : 2 ≤ L ∧ L ≤ t.blocks.length := by have := H.lvl; omega
  have hflen : t.frames.length ≤ 9223372036854775807 := by omega
  have hblen : t.blocks.length ≤ 9223372036854775807 := by omega
  have HUN := Lib.hid H.unw
  have HSZ := Lib.hid (And.intro n1 (And.intro n2 (And.intro n3 n4)))
  clear hT hg H hb hint l0 hf hfc hcl hFF hBB d0 d1 d2 d3 n1 n2 n3 n4
  go_enter Tryz.func10, Tryz.ntmps10
  go_upto_region 5 with (first | ((first | ((with_reducible show Code.wp _ (Code.region _ (List.toArray ({ dst := _, op := Op.load 26 _, type := _, pos := _, after := _, guard := none } :: _)) false) _ _ _); refine wp_region_lit ?_) | (with_reducible show wpList _ _ _ ({ dst := _, op := Op.load 26 _, type := _, pos := _, after := _, guard := none } :: _) _ _)); refine wpList_load_mid rfl 26 _ rfl _ _ rfl _ _ (by exact rg) Tryz.underlying26 rfl (by exact infoPrg) ?_; dsimp only [dZ, dS]) | ((first | ((with_reducible show Code.wp _ (Code.region _ (List.toArray ({ dst := _, op := Op.load 32 _, type := _, pos := _, after := _, guard := none } :: _)) false) _ _ _); refine wp_region_lit ?_) | (with_reducible show wpList _ _ _ ({ dst := _, op := Op.load 32 _, type := _, pos := _, after := _, guard := none } :: _) _ _)); refine wpList_load_mid rfl 32 _ rfl _ _ rfl _ _ (by exact rg) Tryz.underlying32 rfl (by exact Cells14.info _) ?_; dsimp only [dZ, dS]) | ((with_reducible show wpList _ _ _ ({ dst := _, op := Op.load 26 _, type := _, pos := _, after := _, guard := some _ } :: _) _ _); refine wpList_load_mid_g (by rfl) 26 _ rfl _ _ rfl _ _ (by exact rg) Tryz.underlying26 rfl (by exact infoPrg) ?_; dsimp only [dZ, dS]) | ((with_reducible show wpList _ _ _ ({ dst := _, op := Op.load 32 _, type := _, pos := _, after := _, guard := some _ } :: _) _ _); refine wpList_load_mid_g (by rfl) 32 _ rfl _ _ rfl _ _ (by exact rg) Tryz.underlying32 rfl (by exact Cells14.info _) ?_; dsimp only [dZ, dS]) | (go_at_call 13; refine (HG.out _ xt).mono ?_; rintro e w1 ⟨rfl, hb⟩; have R1 := range_ext (b := w.heap.size + 1) (o := 0) (by exact rg) hb; have Q1 := range_ext (b := w.heap.size) (o := 0) (cs := [.slice Af nf cf, .slice Ao no co, .slice Av nv cv]) (by exact rg) hb; have HE1 : Hid (Ext w w1) := Ext.trans xt hb; clear hb) | (go_at_call 17; refine (HC.out _ HE1.out).mono ?_; rintro e w2 ⟨rfl, hb⟩; have R2 := range_ext R1 hb; have Q2 := range_ext Q1 hb; have HE2 : Hid (Ext w w2) := Ext.trans HE1.out hb; have y3 : w2.cell? ⟨w.heap.size + 1, 3, none⟩ = some (Value.int .i64 t.status) := R2 3 _ (by rw [HCL.out]; rfl); have y7 : w2.cell? ⟨w.heap.size + 1, 7, none⟩ = some (.slice (some ⟨bf, of, none⟩) t.frames.length df) := R2 7 _ (by rw [HCL.out]; rfl); have y8 : w2.cell? ⟨w.heap.size + 1, 8, none⟩ = some (.slice Bb t.blocks.length db) := R2 8 _ (by rw [HCL.out]; rfl); have y10 : w2.cell? ⟨w.heap.size + 1, 10, none⟩ = some (.bool false) := R2 10 _ (by rw [HCL.out, ← HUN.out]; rfl); have x4 := HE2.out.cell d4; have z2 := lt_of_cell y3; have z3 := lt_of_cell x4; clear hb))
  go_upto_region 6 with (first | ((first | ((with_reducible show Code.wp _ (Code.region _ (List.toArray ({ dst := _, op := Op.load 32 _, type := _, pos := _, after := _, guard := none } :: _)) false) _ _ _); refine wp_region_lit ?_) | (with_reducible show wpList _ _ _ ({ dst := _, op := Op.load 32 _, type := _, pos := _, after := _, guard := none } :: _) _ _)); refine wpList_load_mid rfl 32 _ rfl _ _ rfl _ _ (by exact rg) Tryz.underlying32 rfl (by exact Cells14.info _) ?_; dsimp only [dZ, dS]) | ((with_reducible show wpList _ _ _ ({ dst := _, op := Op.store 32 _ _, type := _, pos := _, after := _, guard := none } :: _) _ _); refine wpList_store_mid rfl 32 _ _ rfl _ _ (List.toArray (Cells14.l _)) rfl rfl (by refine Cells14.there _ ?_; exact tr) (Cells14.infoA _) (Cells14.oneA _) ?_; (try dsimp only [Act.put])) | (go_at_call 32; refine (HI.out _ HE2.out).mono ?_; rintro e w4 ⟨V4, rfl, hT4, hb4⟩; obtain ⟨c4, F4, nf4, cf4, B4, nb4, cb4, rfl, hc4, hF4, hB4, hcf4, _⟩ := hT4.open; have HC4 := Lib.hid hc4; have HF4 := Lib.hid hF4; have HB4 := Lib.hid hB4; have HX4 := Lib.hid hb4; clear hT4 hb4 hc4 hF4 hB4))
  refine wp_hid2 ?_
  intro W5 HW5
  have HE4 : Hid (Ext w w4) := HE2.out.trans HX4.out
  have HG5 : Hid (Ext w4 W5) := by rw [Hid, HW5.out]; exact xts
  have R4 : w4.rangeAt (w.heap.size + 1) 0 ct.l := range_ext R2 HX4.out
  have Q4 := range_ext Q2 HX4.out
  have A5 : W5.rangeAt w4.heap.size 0 c4.l := by rw [HW5.out]; exact c4.same (there_new rfl rfl)
  have T5 : W5.there w4.heap.size 0 14 := by rw [HW5.out]; exact there_sets (there_new rfl rfl)
  clear HW5 R1 Q1 R2 Q2 y3 y7 y8 y10 x4 z2 z3 HX4 HE1 HE2 d4 HC HG HI hst1
  obtain rfl : nb4 = t.blocks.length := HB4.out.len
  obtain ⟨hs0, hsl, hcs, hin⟩ := blocks_cells HB4.out
  replace hsl : hs0.length = t.blocks.length := hsl
  have HCS := Lib.hid hcs
  have HON : Hid (∀ u ∈ rowOf blkCells t.blocks hs0, u.oneCell' = true) := rowOf_one blkCells_one (fun v hv => by
    obtain ⟨i, hi, rfl⟩ := List.getElem_of_mem hv
    obtain ⟨⟨A, c, e, _⟩, _⟩ := hin i _ _ (List.getElem?_eq_getElem (show i < t.blocks.length by rw [← hsl]; exact hi)) (List.getElem?_eq_getElem hi)
    rw [e]; rfl)
  have HBI : Hid (∀ x ∈ t.blocks, InR x.scope ∧ InR x.depth ∧ InR x.exit ∧ InR x.mask) := fun x hx => by
    obtain ⟨i, hi, rfl⟩ := List.getElem_of_mem hx
    exact (hin i _ _ (List.getElem?_eq_getElem hi) (List.getElem?_eq_getElem (show i < hs0.length by rw [hsl]; exact hi))).2
  have HBM : Hid (InR b.mask) := (HBI.out b (List.mem_of_getElem? HB.out)).2.2.2
  have HCF : Hid (nf4 ≤ cf4) := hcf4
  have HSL : Hid (hs0.length = t.blocks.length) := hsl
  clear hcs hin hsl
  have hb12 : t.blocks.length ≤ 12 := HSZ.out.2.1
  have a8 : W5.cell? ⟨w4.heap.size, 8, none⟩ = some (.slice B4 t.blocks.length cb4) := A5 8 _ (by rw [HC4.out]; rfl)
  have a10 : W5.cell? ⟨w4.heap.size, 10, none⟩ = some (.bool true) := A5 10 _ (by rw [HC4.out]; rfl)
  have a12 : W5.cell? ⟨w4.heap.size, 12, none⟩ = some (Value.int .i64 t.reason) := A5 12 _ (by rw [HC4.out]; rfl)
  have x12 : W5.cell? ⟨w.heap.size + 1, 12, none⟩ = some (Value.int .i64 t.reason) := HG5.out.cell (R4 12 _ (by rw [HCL.out]; rfl))
  have f8 := (T5 8 (by omega)).2
  have z5 := lt_of_cell a8
  go_upto_region 9 with (go_at_call 33; refine (cloneBlk B4 _ cb4 _ _ HB4.out.nil_of_none (HCS.out.mono HG5.out) HON.out (by omega)).mono ?_; rintro e w6 ⟨v6, rfl, hown, hbb⟩; obtain ⟨g, c6, rfl, hg⟩ := own_form hown (by omega); have A6 := range_ext A5 hbb; have HG6 : Hid (Ext w4 w6) := HG5.out.trans hbb; have HO6 := Lib.hid (World.ownsRow.mono (base' := w4.heap.size + 1) hown (by omega)); have hg6 : w4.heap.size + 1 ≤ g := Nat.le_trans (by omega) hg; have T6 := there_ext T5 hbb; have f8 := (T6 8 (by omega)).2; have HCC : Hid (t.blocks.length ≤ c6) := (ownsRow_shape hown |> fun ⟨_, _, e, h, _⟩ => by injection e with _ _ e; rw [e]; exact h); have b8 := hbb.cell a8; clear hown hbb)
  refine wp_hid2 ?_
  intro W8 HW8
  have HG8 : Hid (Ext w4 W8) := by rw [Hid, HW8.out]; exact HG6.out.setCell (Nat.le_refl _) _
  have A8 : W8.rangeAt w4.heap.size 0 (tskL { intT t L b with blocks := t.blocks.map cutH } (.slice F4 nf4 cf4) (.slice (some ⟨g, 0, none⟩) t.blocks.length c6)) := by
    have h9 := range_same (k := 8) (u := .slice (some ⟨g, 0, none⟩) t.blocks.length c6) A6
    rw [HC4.out] at h9
    rw [HW8.out]; exact h9
  have HO8 : Hid (W8.ownsRow (w4.heap.size + 1) 55 5 (.slice (some ⟨g, 0, none⟩) t.blocks.length c6) t.blocks.length (rowOf blkCells t.blocks hs0)) := by rw [Hid, HW8.out]; exact ownsRow_setCell_below HO6.out (show w4.heap.size < _ by omega) _
  have T8 : W8.there w4.heap.size 0 14 := by rw [HW8.out]; exact there_set T6
  clear HW8 A5 A6 T5 T6 HO6 HG6 a8 a10 a12 x12 f8 b8 z5 HON HCS
  have a8 : W8.cell? ⟨w4.heap.size, 8, none⟩ = some (.slice (some ⟨g, 0, none⟩) t.blocks.length c6) := A8 8 _ rfl
  go_wp2
  go_loopg [9, 88] t.blocks.length (fun gg _ s88 wr => ∃ (k : Nat) (hs' : List Value), k ≤ t.blocks.length ∧ t.blocks.length - k ≤ gg ∧ s88 = .int .i64 k ∧ Hid (Ext w4 wr) ∧ Hid (wr.ownsRow (w4.heap.size + 1) 55 5 (.slice (some ⟨g, 0, none⟩) t.blocks.length c6) t.blocks.length (rowOf blkCells t.blocks hs')) ∧ Hid (hs'.length = t.blocks.length ∧ ∀ j, j < k → hs'[j]? = some (.slice none 0 0)) ∧ Hid (wr.rangeAt w4.heap.size 0 (tskL { intT t L b with blocks := t.blocks.map cutH } (.slice F4 nf4 cf4) (.slice (some ⟨g, 0, none⟩) t.blocks.length c6))) ∧ Hid (wr.there w4.heap.size 0 14))
  case atStart => exact ⟨0, hs0, by omega, by omega, rfl, HG8, HO8, ⟨HSL.out, fun j hj => by omega⟩, A8, T8⟩
  case round =>
    obtain ⟨k, hs', hk, hgg, rfl, HW, HO, HN, HA, HTH⟩ := hrel
    clear A8 HO8 HG8 a8
    by_cases hlt : k < t.blocks.length
    · have hltz : (k : Int) < (t.blocks.length : Int) := by omega
      have a8 : wr.cell? ⟨w4.heap.size, 8, none⟩ = some (.slice (some ⟨g, 0, none⟩) t.blocks.length c6) := HA.out 8 _ rfl
      obtain ⟨x, hx⟩ : ∃ x, t.blocks[k]? = some x := ⟨_, List.getElem?_eq_getElem hlt⟩
      obtain ⟨v, hv⟩ : ∃ v, hs'[k]? = some v := ⟨_, List.getElem?_eq_getElem (by rw [HN.out.1]; exact hlt)⟩
      have r1 := World.ownsRow.frozenAt (g := g) HO.out (k * 5 + 4)
      have r2 := World.ownsRow.cellAt (g := g) HO.out (k * 5 + 4) (by omega)
      rw [rowOf_get blkCells_len hx hv (by omega)] at r2
      obtain ⟨u4, hu4⟩ : ∃ u, (blkCells x v)[4]? = some u := ⟨_, rfl⟩
      rw [hu4] at r2
      have HXX := Lib.hid hx
      have HVV := Lib.hid hv
      clear hx hv hu4
      go_wp2
      go_roundg (t.blocks.length - (k + 1))
      case measure => omega
      case rel =>
        have h9 := (World.ownsRow.stored (g := g) HO.out (k * 5 + 4) (.slice none 0 0)).1
        rw [rowOf_put blkCells_len (j := 4) (u := .slice none 0 0) (v' := .slice none 0 0) HXX.out HVV.out (by omega) (by rfl)] at h9
        refine ⟨k + 1, hs'.set k (.slice none 0 0), by omega, by omega, by go_num, HW.out.setCell (show w4.heap.size ≤ g by omega) _, h9, ⟨by rw [List.length_set]; exact HN.out.1, fun j hj => ?_⟩, range_other HA.out (show ¬ g = w4.heap.size by omega), there_set HTH.out⟩
        rw [List.getElem?_set]
        split
        · rename_i e
          subst e
          rw [if_pos (by rw [HN.out.1]; exact hlt)]
        · exact HN.out.2 j (by omega)
    · have hltz : ¬ (k : Int) < (t.blocks.length : Int) := by omega
      obtain rfl : k = t.blocks.length := by omega
      have HB0 := Lib.hid (bare_reads HO.out HN.out.1 rfl (by omega) HN.out.2 HBI.out)
      have HT7 : Hid (wr.there w4.heap.size 0 14) := HTH.out
      go_wp2
      go_loopg [10, 11, 12, 13] t.blocks.length (fun gg _ _ _ _ wq => ∃ (k g' c' : Nat), L ≤ k ∧ k ≤ t.blocks.length ∧ k - L ≤ gg ∧ Hid (Ext w4 wq) ∧ Hid (wq.rangeAt w4.heap.size 0 (tskL (lvT t L b k) (.slice F4 nf4 cf4) (.slice (some ⟨g', 0, none⟩) k c'))) ∧ Hid (RSl 5 RBlk wq (some ⟨g', 0, none⟩) k (lvT t L b k).blocks) ∧ Hid (w4.heap.size < g' ∧ k ≤ c') ∧ Hid (wq.there w4.heap.size 0 14))
      case atStart => exact ⟨t.blocks.length, g, c6, hL2.2, Nat.le_refl _, by omega, HW, HA, (by rw [Hid]; show RSl 5 RBlk _ _ _ ((t.blocks.map cutH).take t.blocks.length); rw [List.take_of_length_le (by rw [List.length_map]; exact Nat.le_refl _)]; exact HB0.out), ⟨by omega, HCC.out⟩, HT7⟩
      case round =>
        obtain ⟨k, g', c', hk1, hk2, hgg, HW, HA, HBk, HGC, HT7⟩ := hrel
        have HRT : Hid (∀ W, Ext wr W → RTsk W (lvT t L b k) (.agg (tskL (lvT t L b k) (.slice F4 nf4 cf4) (.slice (some ⟨g', 0, none⟩) k c')).toArray)) := fun W hW =>
          rtsk_of (t := lvT t L b k) ⟨HTI.out.1, HTI.out.2.1, HTI.out.2.2.1, HTI.out.2.2.2.1, HTI.out.2.2.2.2.1, HTI.out.2.2.2.2.2.1, HBM.out, hl, HTI.out.2.2.2.2.2.2.2.2.1, HTI.out.2.2.2.2.2.2.2.2.2⟩ (HF4.out.mono RFrm.stays (HW.out.trans hW)) HCF.out (HBk.out.mono RBlk.stays hW) HGC.out.2
        obtain ⟨cl, hcl⟩ : ∃ cl : Cells14, cl.l = tskL (lvT t L b k) (.slice F4 nf4 cf4) (.slice (some ⟨g', 0, none⟩) k c') := ⟨⟨_, rfl, by simp [tskL, Value.oneCell']⟩, rfl⟩
        rw [← hcl] at HRT HA
        have HCl := Lib.hid hcl
        have a8 : wr.cell? ⟨w4.heap.size, 8, none⟩ = some (.slice (some ⟨g', 0, none⟩) k c') := HA.out 8 _ (by rw [hcl]; rfl)
        have zq := lt_of_cell a8
        have A0 : wr.rangeAt w4.heap.size 0 cl.l := HA.out
        have HRS : Hid (∀ W, Ext wr W → Calls Tryz.prog 34 #[.agg cl.l.toArray] W fun e w' => ∃ V', e = .returned (.tuple #[V', Value.int .i64 (resumeS (lvT t L b k)).2]) ∧ RTsk w' (resumeS (lvT t L b k)).1 V' ∧ Ext W w') := fun W hW =>
          resume_any (lvT t L b k) _ W (HRT.out W hW) (by show (List.take _ _).length ≤ 1000; rw [List.length_take]; have := HSZ.out.1; omega) (by show (List.take _ _).length ≤ 1000; rw [List.length_take, List.length_map]; omega) (fun y hy => by have := HSZ.out.2.2.1 y (List.mem_of_mem_take hy); omega) (fun y hy => by rw [lv_bare t L b k y hy]; decide)
        clear hcl
        by_cases hlt : L < k
        · have hltz : (L : Int) < (k : Int) := by omega
          rw [HLV.out.stuck (by omega) hk2] at HRS
          have hsk : IntKind.i64.wrap ((k : Int) - 1) = ((k - 1 : Nat) : Int) := by rw [IntWalk.i64_in _ (by omega)]; omega
          have HPO : Hid (∀ W, Ext wr W → Calls Tryz.prog 35 #[.agg cl.l.toArray] W fun e w' => ∃ (c : Cells14) (g2 c2 : Nat), e = .returned (.tuple #[.agg c.l.toArray, Value.int .i64 0]) ∧ c.l = tskL (lvT t L b (k - 1)) (.slice F4 nf4 cf4) (.slice (some ⟨g2, 0, none⟩) (k - 1) c2) ∧ RSl 5 RBlk w' (some ⟨g2, 0, none⟩) (k - 1) (lvT t L b (k - 1)).blocks ∧ (W.heap.size ≤ g2 ∧ k - 1 ≤ c2) ∧ Ext W w') := fun W hW => by
            have hlen : (lvT t L b k).blocks.length = k := by show (List.take _ _).length = _; rw [List.length_take, List.length_map]; omega
            obtain ⟨x, hx⟩ : ∃ x, (lvT t L b k).blocks[(lvT t L b k).blocks.length - 1]? = some x := ⟨_, List.getElem?_eq_getElem (by omega)⟩
            have hR := HRT.out W hW
            rw [HCl.out] at hR ⊢
            have hlv : ({ lvT t L b k with blocks := (lvT t L b k).blocks.take ((lvT t L b k).blocks.length - 1) } : Tsk) = lvT t L b (k - 1) := by
              rw [hlen]
              unfold lvT
              dsimp only
              rw [List.take_take, Nat.min_eq_left (by omega)]
            have := pop_ok (lvT t L b k) (.slice F4 nf4 cf4) (.slice (some ⟨g', 0, none⟩) k c') x W hR (by omega) (by omega) hx (lv_bare t L b k x (List.mem_of_getElem? hx))
            rw [hlv, hlen] at this
            refine this.mono fun e w' ⟨g2, c2, h1, h2, h3, h4⟩ => ?_
            obtain ⟨_, _, _, A2, n2, c2', e2, _, _, _, _, _, _, _, _, _, _, _, hBl, _, hc2⟩ := h2
            have e3 : Value.slice (some ⟨g2, 0, none⟩) (k - 1) c2 = .slice A2 n2 c2' := by
              have := congrArg (fun v => match v with | .agg a => a.toList[8]? | _ => none) e2
              simpa [tskL] using this
            injection e3 with e31 e32 e33
            subst e31 e32 e33
            exact ⟨⟨_, rfl, by simp [tskL, Value.oneCell']⟩, g2, c2, h1, rfl, hBl, ⟨h3, hc2⟩, h4⟩
          go_upto_region 16 with (first | ((first | ((with_reducible show Code.wp _ (Code.region _ (List.toArray ({ dst := _, op := Op.load 32 _, type := _, pos := _, after := _, guard := none } :: _)) false) _ _ _); refine wp_region_lit ?_) | (with_reducible show wpList _ _ _ ({ dst := _, op := Op.load 32 _, type := _, pos := _, after := _, guard := none } :: _) _ _)); refine wpList_load_mid rfl 32 _ rfl _ _ rfl _ _ (by exact rg) Tryz.underlying32 rfl (by exact Cells14.info _) ?_; dsimp only [dZ, dS]) | ((with_reducible show wpList _ _ _ ({ dst := _, op := Op.store 32 _ _, type := _, pos := _, after := _, guard := none } :: _) _ _); refine wpList_store_mid rfl 32 _ _ rfl _ _ (List.toArray (Cells14.l _)) rfl rfl (by refine Cells14.there _ ?_; exact tr) (Cells14.infoA _) (Cells14.oneA _) ?_; (try dsimp only [Act.put])) | (go_at_call 34; refine (HRS.out _ (Ext.refl _)).mono ?_; rintro e w10 ⟨V10, rfl, hT10, hb10⟩; obtain ⟨c10, rfl⟩ := hT10.cells; have HB10 := Lib.hid hb10; clear hT10 hb10))
          refine wp_hid2 ?_
          intro W15 HW15
          have HX15 : Hid (Ext wr W15) := by have h := HB10.out; have h2 := h.size; rw [Hid, HW15.out]; exact xts
          have A15 : W15.rangeAt w4.heap.size 0 cl.l := range_ext HA.out HX15.out
          have T15 := there_ext HT7.out HX15.out
          have b8 := HX15.out.cell a8
          clear HW15 HB10
          go_upto_region 19 with (first | ((first | ((with_reducible show Code.wp _ (Code.region _ (List.toArray ({ dst := _, op := Op.load 32 _, type := _, pos := _, after := _, guard := none } :: _)) false) _ _ _); refine wp_region_lit ?_) | (with_reducible show wpList _ _ _ ({ dst := _, op := Op.load 32 _, type := _, pos := _, after := _, guard := none } :: _) _ _)); refine wpList_load_mid rfl 32 _ rfl _ _ rfl _ _ (by exact rg) Tryz.underlying32 rfl (by exact Cells14.info _) ?_; dsimp only [dZ, dS]) | ((with_reducible show wpList _ _ _ ({ dst := _, op := Op.store 32 _ _, type := _, pos := _, after := _, guard := none } :: _) _ _); refine wpList_store_mid rfl 32 _ _ rfl _ _ (List.toArray (Cells14.l _)) rfl rfl (by refine Cells14.there _ ?_; exact tr) (Cells14.infoA _) (Cells14.oneA _) ?_; (try dsimp only [Act.put])) | (go_at_call 35; refine (HPO.out _ HX15.out).mono ?_; rintro e w12 ⟨c12, g2, c2, rfl, hc12, hBl, hgc, hb12⟩; have HC12 := Lib.hid hc12; have HBl := Lib.hid hBl; have HGC2 := Lib.hid hgc; have HB12 := Lib.hid hb12; clear hc12 hBl hgc hb12))
          refine wp_hid2 ?_
          intro W18 HW18
          have HX18 : Hid (Ext W15 W18) := by have h := HB12.out; have h2 := h.size; rw [Hid, HW18.out]; exact xts
          have HY18 : Hid (Ext w12 W18) := by rw [Hid, HW18.out]; exact xts
          have A18 : W18.rangeAt w12.heap.size 0 c12.l := by rw [HW18.out]; exact c12.same (there_new rfl rfl)
          have T18 := there_ext T15 HX18.out
          have b8 := HX18.out.cell b8
          have d8 : W18.cell? ⟨w12.heap.size, 8, none⟩ = some (.slice (some ⟨g2, 0, none⟩) (k - 1) c2) := A18 8 _ (by rw [HC12.out]; rfl)
          have HBq : Hid (RSl 5 RBlk W18 (some ⟨g2, 0, none⟩) (k - 1) (lvT t L b (k - 1)).blocks) := HBl.out.mono RBlk.stays HY18.out
          have z15 : w4.heap.size < W15.heap.size := Nat.lt_of_lt_of_le zq HX15.out.size
          clear HW18 HB12 A15 T15 HBl HY18
          go_wp2_with (first | ((first | ((with_reducible show Code.wp _ (Code.region _ (List.toArray ({ dst := _, op := Op.load 32 _, type := _, pos := _, after := _, guard := none } :: _)) false) _ _ _); refine wp_region_lit ?_) | (with_reducible show wpList _ _ _ ({ dst := _, op := Op.load 32 _, type := _, pos := _, after := _, guard := none } :: _) _ _)); refine wpList_load_mid rfl 32 _ rfl _ _ rfl _ _ (by exact rg) Tryz.underlying32 rfl (by exact Cells14.info _) ?_; dsimp only [dZ, dS]) | ((with_reducible show wpList _ _ _ ({ dst := _, op := Op.store 32 _ _, type := _, pos := _, after := _, guard := none } :: _) _ _); refine wpList_store_mid rfl 32 _ _ rfl _ _ (List.toArray (Cells14.l _)) rfl rfl (by refine Cells14.there _ ?_; exact tr) (Cells14.infoA _) (Cells14.oneA _) ?_; (try dsimp only [Act.put])))
          go_roundg (k - 1 - L)
          case measure => omega
          case rel =>
            refine ⟨k - 1, g2, c2, by omega, by omega, by omega, ((HW.out.trans HX15.out).trans HX18.out).setCells (Nat.le_refl _) 0 _, ?_, bare_out HBq.out (by have := HGC2.out.1; omega) (lv_bare t L b (k - 1)), ⟨by have := HGC2.out.1; omega, HGC2.out.2⟩, there_sets T18⟩
            rw [Hid, ← HC12.out]
            exact c12.same T18
        · obtain rfl : L = k := by omega
          have hltz : ¬ (L : Int) < (L : Int) := by omega
          obtain ⟨v, f2, x, he, h1, h2, h3, h4, h5, h6, h7, h8⟩ := HLV.out.end HB.out
          rw [Int.toNat_natCast] at he
          rw [he] at HRS
          have HV1 := Lib.hid h1
          have HV2 := Lib.hid h2
          have HV3 := Lib.hid h3
          have HV4 := Lib.hid h4
          have HV5 := Lib.hid h5
          have HV6 := Lib.hid h6
          have HV7 := Lib.hid h7
          have HV8 := Lib.hid h8
          obtain ⟨bb, ob, csb, eBb, hlcs, hRb, hcb⟩ := HBB.out.2.2 (L - 1) b (by have := HB.out; rwa [show ((L : Int) - 1).toNat = L - 1 by omega] at this)
          obtain ⟨Ab, nb, cb, rfl, _, _, _, _, _⟩ := hRb
          subst eBb
          have RB : w.rangeAt bb (ob + (L - 1) * 5) [Value.int .i64 b.scope, Value.int .i64 b.depth, Value.int .i64 b.exit, Value.int .i64 b.mask, .slice Ab nb cb] := hcb
          have hsL : IntKind.i64.wrap ((L : Int) - 1) = ((L - 1 : Nat) : Int) := by rw [IntWalk.i64_in _ (by omega)]; omega
          have hs1L : ((L - 1 : Nat) : Int) < (t.blocks.length : Int) := by omega
          have hs2L : (0 : Int) ≤ ((L - 1 : Nat) : Int) := by omega
          clear he h1 h2 h3 h4 h5 h6 h7 h8 hcb hlcs
          go_upto_region 23 with (first | ((first | ((with_reducible show Code.wp _ (Code.region _ (List.toArray ({ dst := _, op := Op.load 32 _, type := _, pos := _, after := _, guard := none } :: _)) false) _ _ _); refine wp_region_lit ?_) | (with_reducible show wpList _ _ _ ({ dst := _, op := Op.load 32 _, type := _, pos := _, after := _, guard := none } :: _) _ _)); refine wpList_load_mid rfl 32 _ rfl _ _ rfl _ _ (by exact rg) Tryz.underlying32 rfl (by exact Cells14.info _) ?_; dsimp only [dZ, dS]) | ((with_reducible show wpList _ _ _ ({ dst := _, op := Op.store 32 _ _, type := _, pos := _, after := _, guard := none } :: _) _ _); refine wpList_store_mid rfl 32 _ _ rfl _ _ (List.toArray (Cells14.l _)) rfl rfl (by refine Cells14.there _ ?_; exact tr) (Cells14.infoA _) (Cells14.oneA _) ?_; (try dsimp only [Act.put])) | (go_at_call 34; refine (HRS.out _ (Ext.refl _)).mono ?_; rintro e w14 ⟨V14, rfl, hT14, hb14⟩; have HT14 := Lib.hid hT14; obtain ⟨c14, F5, nf5, cf5, B5, nb5, cb5, rfl, hc14, hF5, _, _, _⟩ := hT14.open; have HC14 := Lib.hid hc14; have HF5 := Lib.hid hF5; have HB14 := Lib.hid hb14; clear hT14 hb14 hc14 hF5))
          refine wp_hid2 ?_
          intro W22 HW22
          have HX22 : Hid (Ext wr W22) := by have h := HB14.out; have h2 := h.size; rw [Hid, HW22.out]; exact xts
          have HY22 : Hid (Ext w14 W22) := by rw [Hid, HW22.out]; exact xts
          have A22 : W22.rangeAt w14.heap.size 0 c14.l := by rw [HW22.out]; exact c14.same (there_new rfl rfl)
          have HE22 : Hid (Ext w W22) := (HE4.out.trans HW.out).trans HX22.out
          have Q22 : W22.rangeAt w.heap.size 0 [.slice Af nf cf, .slice Ao no co, .slice Av nv cv] := range_ext Q4 (HW.out.trans HX22.out)
          have R22 : W22.rangeAt (w.heap.size + 1) 0 ct.l := range_ext R4 (HW.out.trans HX22.out)
          have RB22 := range_ext RB HE22.out
          have y8 : W22.cell? ⟨w.heap.size + 1, 8, none⟩ = some (.slice (some ⟨bb, ob, none⟩) t.blocks.length db) := R22 8 _ (by rw [HCL.out]; rfl)
          have z22 := lt_of_cell y8
          clear HW22 HB14 HA HBk HGC HT7 HRT A0 a8 zq HRS HX22 RB
          go_upto_region 24 with (first | ((first | ((with_reducible show Code.wp _ (Code.region _ (List.toArray ({ dst := _, op := Op.load 55 _, type := _, pos := _, after := _, guard := none } :: _)) false) _ _ _); refine wp_region_lit ?_) | (with_reducible show wpList _ _ _ ({ dst := _, op := Op.load 55 _, type := _, pos := _, after := _, guard := none } :: _) _ _)); refine wpList_load_mid rfl 55 _ rfl _ _ rfl _ _ (by exact rg) Tryz.underlying55 rfl (by exact infoBlkS) ?_; dsimp only [dZ, dS]) | ((first | ((with_reducible show Code.wp _ (Code.region _ (List.toArray ({ dst := _, op := Op.store 55 _ _, type := _, pos := _, after := _, guard := none } :: _)) false) _ _ _); refine wp_region_lit ?_) | (with_reducible show wpList _ _ _ ({ dst := _, op := Op.store 55 _ _, type := _, pos := _, after := _, guard := none } :: _) _ _)); refine wpList_store_mid rfl 55 _ _ rfl _ _ _ rfl rfl (by exact tr) infoBlkS (all_oneCell_toArray (by simp [Value.oneCell'])) ?_; (try dsimp only [Act.put])))
          refine wp_hid2 ?_
          intro W23 HW23
          have HX23 : Hid (Ext W22 W23) := by rw [Hid, HW23.out]; exact xts
          have B23 : W23.rangeAt W22.heap.size 0 [Value.int .i64 b.scope, Value.int .i64 b.depth, Value.int .i64 b.exit, Value.int .i64 b.mask, .slice Ab nb cb] := by rw [HW23.out]; exact World.rangeAt_setCells_same _ _ 0 _ (by show World.there _ _ 0 5; exact tr)
          have A23 := range_ext A22 HX23.out
          have Q23 := range_ext Q22 HX23.out
          have R23 := range_ext R22 HX23.out
          obtain rfl : nf5 = v.frames.length := HF5.out.len
          have m7 : W23.cell? ⟨w14.heap.size, 7, none⟩ = some (.slice F5 v.frames.length cf5) := A23 7 _ (by rw [HC14.out]; rfl)
          have m9 : W23.cell? ⟨w14.heap.size, 9, none⟩ = some (Value.int .i64 b.mask) := A23 9 _ (by rw [HC14.out, ← HV2.out]; rfl)
          have m10 : W23.cell? ⟨w14.heap.size, 10, none⟩ = some (.bool false) := A23 10 _ (by rw [HC14.out, ← HV1.out]; rfl)
          have q1 : W23.cell? ⟨W22.heap.size, 1, none⟩ = some (Value.int .i64 (v.frames.length : Int)) := B23 1 _ (by rw [HV3.out]; rfl)
          have q3 : W23.cell? ⟨W22.heap.size, 3, none⟩ = some (Value.int .i64 b.mask) := B23 3 _ rfl
          have z23 := lt_of_cell m7
          have HCv : Hid (∀ W, Ext W23 W → Calls Tryz.prog 17 #[.agg #[.slice Af nf cf, .slice Ao no co, .slice Av nv cv], .agg c14.l.toArray] W fun e w' => e = .returned (Value.int .i64 0) ∧ Ext W w') := fun W hW => by
            have := tCheck_any p v _ _ W (HP.out.mono (HE22.out.trans (HX23.out.trans hW))) (HT14.out.mono (HY22.out.trans (HX23.out.trans hW)))
            rw [HV4.out] at this
            exact this
          have HCu : Hid (∀ W, Ext W23 W → Calls Tryz.prog 15 #[.agg #[.slice Af nf cf, .slice Ao no co, .slice Av nv cv], .agg c14.l.toArray] W fun e w' => ∃ A n c, e = .returned (.tuple #[.agg #[Value.int .i64 x.op, Value.int .i64 x.a, Value.int .i64 x.b, Value.int .i64 x.c, .slice A n c], .bool true]) ∧ Ext W w') := fun W hW => by
            have := Current_any p v _ _ W (HP.out.mono (HE22.out.trans (HX23.out.trans hW))) (HT14.out.mono (HY22.out.trans (HX23.out.trans hW)))
            rw [HV5.out] at this
            exact this.mono fun e w' ⟨A, n, c, h1, _, h2⟩ => ⟨A, n, c, h1, h2⟩
          have HF23 : Hid (RSl 5 RFrm W23 F5 v.frames.length v.frames) := HF5.out.mono RFrm.stays (HY22.out.trans HX23.out)
          have HE23 : Hid (Ext w W23) := HE22.out.trans HX23.out
          clear HW23 A22 Q22 R22 RB22 y8 z22 HX23 HY22 HT14 HF5 HE22 HV4 HV5
          have hvl : v.frames.length ≤ 9223372036854775807 := HF23.out.le
          go_upto_region 26 with (first | ((first | ((with_reducible show Code.wp _ (Code.region _ (List.toArray ({ dst := _, op := Op.load 26 _, type := _, pos := _, after := _, guard := none } :: _)) false) _ _ _); refine wp_region_lit ?_) | (with_reducible show wpList _ _ _ ({ dst := _, op := Op.load 26 _, type := _, pos := _, after := _, guard := none } :: _) _ _)); refine wpList_load_mid rfl 26 _ rfl _ _ rfl _ _ (by exact rg) Tryz.underlying26 rfl (by exact infoPrg) ?_; dsimp only [dZ, dS]) | ((with_reducible show wpList _ _ _ ({ dst := _, op := Op.load 26 _, type := _, pos := _, after := _, guard := some _ } :: _) _ _); refine wpList_load_mid_g (by rfl) 26 _ rfl _ _ rfl _ _ (by exact rg) Tryz.underlying26 rfl (by exact infoPrg) ?_; dsimp only [dZ, dS]) | ((first | ((with_reducible show Code.wp _ (Code.region _ (List.toArray ({ dst := _, op := Op.load 32 _, type := _, pos := _, after := _, guard := none } :: _)) false) _ _ _); refine wp_region_lit ?_) | (with_reducible show wpList _ _ _ ({ dst := _, op := Op.load 32 _, type := _, pos := _, after := _, guard := none } :: _) _ _)); refine wpList_load_mid rfl 32 _ rfl _ _ rfl _ _ (by exact rg) Tryz.underlying32 rfl (by exact Cells14.info _) ?_; dsimp only [dZ, dS]) | ((with_reducible show wpList _ _ _ ({ dst := _, op := Op.load 32 _, type := _, pos := _, after := _, guard := some _ } :: _) _ _); refine wpList_load_mid_g (by rfl) 32 _ rfl _ _ rfl _ _ (by exact rg) Tryz.underlying32 rfl (by exact Cells14.info _) ?_; dsimp only [dZ, dS]) | (go_at_call 17; refine (HCv.out _ (Ext.refl _)).mono ?_; rintro e w25 ⟨rfl, hb⟩; have HX25 : Hid (Ext W23 w25) := hb; have m7 := Ext.cell hb m7; have A25 := range_ext A23 hb; have Q25 := range_ext Q23 hb; have z25 := lt_of_cell m7; clear hb))
          refine wp_hid2 ?_
          intro W26 HW26
          have HX26 : Hid (Ext W23 W26) := by rw [Hid, HW26.out]; exact HX25.out
          have R26 := range_ext R23 HX26.out
          have Q26 := range_ext Q23 HX26.out
          have A26 := range_ext A23 HX26.out
          have B26 := range_ext B23 HX26.out
          have HE26 : Hid (Ext w W26) := HE23.out.trans HX26.out
          have HF26 : Hid (RSl 5 RFrm W26 F5 v.frames.length v.frames) := HF23.out.mono RFrm.stays HX26.out
          have n7 : W26.cell? ⟨w14.heap.size, 7, none⟩ = some (.slice F5 v.frames.length cf5) := HX26.out.cell (A23 7 _ (by rw [HC14.out]; rfl))
          have z26 := lt_of_cell n7
          clear HW26 HX25 A25 Q25 m7 z25 R23 Q23 A23 B23 HF23 HE23 m9 m10 q1 q3 z23 HCv
          go_wp2
          go_loopg [17, 18, 168] v.frames.length (fun gg _ _ s168 wr => ∃ (k : Nat), k ≤ v.frames.length ∧ v.frames.length - k ≤ gg ∧ s168 = .int .i64 k ∧ Hid (Ext W26 wr))
          case atStart => exact ⟨0, Nat.zero_le _, by omega, rfl, Ext.refl _⟩
          case round =>
            obtain ⟨k, hk, hgg, rfl, HW3⟩ := hrel
            by_cases hlt : k < v.frames.length
            · have hltz : (k : Int) < (v.frames.length : Int) := by omega
              obtain ⟨y, hy⟩ : ∃ y, v.frames[k]? = some y := ⟨_, List.getElem?_eq_getElem hlt⟩
              have hdv : b.depth.toNat = v.frames.length := by have := HV3.out; omega
              obtain ⟨z, hz⟩ : ∃ z, t.frames[k]? = some z := ⟨_, List.getElem?_eq_getElem (by omega)⟩
              have hrel : y.regs = z.regs ∧ y.fn = z.fn ∧ (k < v.frames.length - 1 → y.pc = z.pc) ∧ (k = v.frames.length - 1 → y.pc = b.exit) := by
                have h9 := hy
                by_cases e : k = v.frames.length - 1
                · have h10 : v.frames[k]? = some { f2 with pc := b.exit } := by
                    rw [HV7.out, hdv, e]
                    exact List.getElem?_set_self (by rw [List.length_take]; omega)
                  rw [hy] at h10
                  injection h10 with h10
                  have hf2 := HV8.out
                  rw [hdv, ← e, hz] at hf2
                  injection hf2 with hf2
                  subst hf2 h10
                  exact ⟨rfl, rfl, fun h => by omega, fun _ => rfl⟩
                · have h10 : v.frames[k]? = t.frames[k]? := by
                    rw [HV7.out, hdv, List.getElem?_set_ne (by omega), List.getElem?_take, if_pos hlt]
                  rw [hy, hz] at h10
                  injection h10 with h10
                  subst h10
                  exact ⟨rfl, rfl, fun _ => rfl, fun h => absurd h e⟩
              obtain ⟨by', oy, csy, eF5, hlcy, ⟨Ay, ny, cy, rfl, _, _, _, hRy, _⟩, hcy⟩ := HF26.out.2.2 k y hy
              subst eF5
              have RY : wr.rangeAt by' (oy + k * 5) [Value.int .i64 y.fn, Value.int .i64 y.pc, .slice Ay ny cy, Value.int .i64 y.result, .bool y.cleanup] := range_ext (show W26.rangeAt by' (oy + k * 5) _ from hcy) HW3.out
              obtain ⟨bz, oz, Az, nz, cz, ez, _, _, _, _, ⟨hRz, _⟩, z0, z1, z2, z3, z4⟩ := HFF.out.frm hz
              injection ez with ez
              injection ez with ez1 ez2 _
              subst ez1 ez2
              have HEr : Hid (Ext w wr) := HE26.out.trans HW3.out
              have HRy : Hid (RSl 1 RInt wr Ay ny y.regs) := hRy.mono RInt.stays HW3.out
              have HRz : Hid (RSl 1 RInt wr Az nz y.regs) := by have h9 := hRz.mono RInt.stays HEr.out; rw [← hrel.1] at h9; exact h9
              have zr := lt_of_cell (RY 0 _ rfl)
              have HREL := Lib.hid hrel
              clear hy hz hrel hlcy hcy hRy hRz
              go_upto_region 29 with (first | ((first | ((with_reducible show Code.wp _ (Code.region _ (List.toArray ({ dst := _, op := Op.load 62 _, type := _, pos := _, after := _, guard := none } :: _)) false) _ _ _); refine wp_region_lit ?_) | (with_reducible show wpList _ _ _ ({ dst := _, op := Op.load 62 _, type := _, pos := _, after := _, guard := none } :: _) _ _)); refine wpList_load_mid rfl 62 _ rfl _ _ rfl _ _ (by exact rg) Tryz.underlying62 rfl (by exact infoFrmS2) ?_; dsimp only [dZ, dS]) | ((first | ((with_reducible show Code.wp _ (Code.region _ (List.toArray ({ dst := _, op := Op.store 62 _ _, type := _, pos := _, after := _, guard := none } :: _)) false) _ _ _); refine wp_region_lit ?_) | (with_reducible show wpList _ _ _ ({ dst := _, op := Op.store 62 _ _, type := _, pos := _, after := _, guard := none } :: _) _ _)); refine wpList_store_mid rfl 62 _ _ rfl _ _ _ rfl rfl (by exact tr) infoFrmS2 (all_oneCell_toArray (by simp [Value.oneCell'])) ?_; (try dsimp only [Act.put])))
              refine wp_hid2 ?_
              intro W28 HW28
              have HX28 : Hid (Ext wr W28) := by rw [Hid, HW28.out]; exact xts
              have C28 : W28.rangeAt wr.heap.size 0 [Value.int .i64 y.fn, Value.int .i64 y.pc, .slice Ay ny cy, Value.int .i64 y.result, .bool y.cleanup] := by rw [HW28.out]; exact World.rangeAt_setCells_same _ _ 0 _ (by show World.there _ _ 0 5; exact tr)
              clear HW28
              have k0 : W28.cell? ⟨wr.heap.size, 0, none⟩ = some (Value.int .i64 y.fn) := C28 0 _ rfl
              have k1 : W28.cell? ⟨wr.heap.size, 1, none⟩ = some (Value.int .i64 y.pc) := C28 1 _ rfl
              have k2 : W28.cell? ⟨wr.heap.size, 2, none⟩ = some (.slice Ay ny cy) := C28 2 _ rfl
              have k3 : W28.cell? ⟨w.heap.size + 1, 7, none⟩ = some (.slice (some ⟨bf, of, none⟩) t.frames.length df) := (HW3.out.trans HX28.out).cell (R26 7 _ (by rw [HCL.out]; rfl))
              have k4 : W28.cell? ⟨bf, of + k * 5, none⟩ = some (Value.int .i64 y.fn) := by have h9 := (HEr.out.trans HX28.out).cell z0; rw [← HREL.out.2.1] at h9; exact h9
              obtain ⟨zpc, hzpc⟩ : ∃ q, z.pc = q := ⟨_, rfl⟩
              have k5 : W28.cell? ⟨bf, of + k * 5 + 1, none⟩ = some (Value.int .i64 zpc) := by have h9 := (HEr.out.trans HX28.out).cell z1; rw [hzpc] at h9; exact h9
              have k6 : W28.cell? ⟨bf, of + k * 5 + 2, none⟩ = some (.slice Az nz cz) := (HEr.out.trans HX28.out).cell z2
              have k7 : W28.cell? ⟨W22.heap.size, 1, none⟩ = some (Value.int .i64 (v.frames.length : Int)) := (HW3.out.trans HX28.out).cell (B26 1 _ (by rw [HV3.out]; rfl))
              have k8 : W28.cell? ⟨W22.heap.size, 2, none⟩ = some (Value.int .i64 b.exit) := (HW3.out.trans HX28.out).cell (B26 2 _ rfl)
              have HST : Hid (∀ W, Ext W28 W → Ext W28 W ∧ W.cell? ⟨wr.heap.size, 0, none⟩ = some (Value.int .i64 y.fn) ∧ W.cell? ⟨wr.heap.size, 1, none⟩ = some (Value.int .i64 y.pc) ∧ W.cell? ⟨wr.heap.size, 2, none⟩ = some (.slice Ay ny cy) ∧ W.cell? ⟨w.heap.size + 1, 7, none⟩ = some (.slice (some ⟨bf, of, none⟩) t.frames.length df) ∧ W.cell? ⟨bf, of + k * 5, none⟩ = some (Value.int .i64 y.fn) ∧ W.cell? ⟨bf, of + k * 5 + 1, none⟩ = some (Value.int .i64 zpc) ∧ W.cell? ⟨bf, of + k * 5 + 2, none⟩ = some (.slice Az nz cz) ∧ W.cell? ⟨W22.heap.size, 1, none⟩ = some (Value.int .i64 (v.frames.length : Int)) ∧ W.cell? ⟨W22.heap.size, 2, none⟩ = some (Value.int .i64 b.exit)) :=
                fun W h => ⟨h, h.cell k0, h.cell k1, h.cell k2, h.cell k3, h.cell k4, h.cell k5, h.cell k6, h.cell k7, h.cell k8⟩
              have HSI : Hid (∀ W, Ext W28 W → Calls Tryz.prog 19 #[.slice Ay ny cy, .slice Az nz cz] W fun e w' => e = .returned (.bool true) ∧ Ext W w') := fun W hW => by
                have := SameInts_any Ay Az ny nz cy cz y.regs y.regs W (HRy.out.mono RInt.stays (HX28.out.trans hW)) (HRz.out.mono RInt.stays (HX28.out.trans hW))
                simpa using this
              have hkt : (k : Int) < (t.frames.length : Int) := by omega
              have hsD : IntKind.i64.wrap ((v.frames.length : Int) - 1) = ((v.frames.length - 1 : Nat) : Int) := by rw [IntWalk.i64_in _ (by omega)]; omega
              clear k0 k1 k2 k3 k4 k5 k6 k7 k8 C28 RY z0 z1 z2 z3 z4 HRy HRz
              by_cases hlast : k < v.frames.length - 1
              · have e1 : (k : Int) < ((v.frames.length - 1 : Nat) : Int) := by omega
                have e2 : ((k : Int) == ((v.frames.length - 1 : Nat) : Int)) = false := beq_eq_false_iff_ne.2 (by omega)
                have hzy : zpc = y.pc := by rw [← hzpc]; exact (HREL.out.2.2.1 hlast).symm
                rw [hzy] at HST
                clear hzy hzpc
                refine wp_region_th 52 (fun W' => Ext W28 W' ∧ W'.cell? ⟨wr.heap.size, 0, none⟩ = some (Value.int .i64 y.fn) ∧ W'.cell? ⟨wr.heap.size, 1, none⟩ = some (Value.int .i64 y.pc) ∧ W'.cell? ⟨wr.heap.size, 2, none⟩ = some (.slice Ay ny cy) ∧ W'.cell? ⟨w.heap.size + 1, 7, none⟩ = some (.slice (some ⟨bf, of, none⟩) t.frames.length df) ∧ W'.cell? ⟨bf, of + k * 5, none⟩ = some (Value.int .i64 y.fn) ∧ W'.cell? ⟨bf, of + k * 5 + 1, none⟩ = some (Value.int .i64 y.pc) ∧ W'.cell? ⟨bf, of + k * 5 + 2, none⟩ = some (.slice Az nz cz) ∧ W'.cell? ⟨W22.heap.size, 1, none⟩ = some (Value.int .i64 (v.frames.length : Int)) ∧ W'.cell? ⟨W22.heap.size, 2, none⟩ = some (Value.int .i64 b.exit)) (by kernel_rfl) (by kernel_rfl) (by kernel_rfl) (by kernel_rfl) (by decide) ?_ ?_
                · exact HST.out _ xt
                intro hT hHeld
                (refine tht 0 hT ?_; (try simp only [Act.put, aset, dZ, dS]); refine tht 1 hT ?_; (try simp only [Act.put, aset, dZ, dS]); refine tht 2 hT ?_; (try simp only [Act.put, aset, dZ, dS]); refine tht 3 hT ?_; (try simp only [Act.put, aset, dZ, dS]); refine tht 4 hT ?_; (try simp only [Act.put, aset, dZ, dS]); refine tht 5 hT ?_; (try simp only [Act.put, aset, dZ, dS]); refine tht 6 hT ?_; (try simp only [Act.put, aset, dZ, dS]); refine tht 7 hT ?_; (try simp only [Act.put, aset, dZ, dS]))
                refine tst 8 (fun K hK => ?_)
                go_simp
                go_at_call 19
                refine (HSI.out _ hHeld.1).mono ?_
                rintro e wk ⟨rfl, hb⟩
                dsimp only
                refine hK.out _ _ (HST.out _ (Ext.trans hHeld.1 hb)) (fun hHeld => ?_)
                clear hK K hb
                (try simp only [Act.put, List.setIfInBounds_toArray, List.set_cons_zero, List.set_cons_succ])
                (refine tht 9 hT ?_; (try simp only [Act.put, aset, dZ, dS]); refine tht 10 hT ?_; (try simp only [Act.put, aset, dZ, dS]); refine tht 11 hT ?_; (try simp only [Act.put, aset, dZ, dS]); refine tht 12 hT ?_; (try simp only [Act.put, aset, dZ, dS]); refine tht 13 hT ?_; (try simp only [Act.put, aset, dZ, dS]); refine tht 14 hT ?_; (try simp only [Act.put, aset, dZ, dS]); refine tht 15 hT ?_; (try simp only [Act.put, aset, dZ, dS]); refine tht 16 hT ?_; (try simp only [Act.put, aset, dZ, dS]); refine tht 17 hT ?_; (try simp only [Act.put, aset, dZ, dS]); refine tht 18 hT ?_; (try simp only [Act.put, aset, dZ, dS]); refine tht 19 hT ?_; (try simp only [Act.put, aset, dZ, dS]); refine tht 20 hT ?_; (try simp only [Act.put, aset, dZ, dS]); refine tht 21 hT ?_; (try simp only [Act.put, aset, dZ, dS]); refine tht 22 hT ?_; (try simp only [Act.put, aset, dZ, dS]); refine tht 23 hT ?_; (try simp only [Act.put, aset, dZ, dS]); refine tht 24 hT ?_; (try simp only [Act.put, aset, dZ, dS]); refine tht 25 hT ?_; (try simp only [Act.put, aset, dZ, dS]); refine tht 26 hT ?_; (try simp only [Act.put, aset, dZ, dS]); refine tht 27 hT ?_; (try simp only [Act.put, aset, dZ, dS]); refine tht 28 hT ?_; (try simp only [Act.put, aset, dZ, dS]); refine tht 29 hT ?_; (try simp only [Act.put, aset, dZ, dS]); refine tht 30 hT ?_; (try simp only [Act.put, aset, dZ, dS]); refine tht 31 hT ?_; (try simp only [Act.put, aset, dZ, dS]); refine tht 32 hT ?_; (try simp only [Act.put, aset, dZ, dS]); refine tht 33 hT ?_; (try simp only [Act.put, aset, dZ, dS]); refine tht 34 hT ?_; (try simp only [Act.put, aset, dZ, dS]); refine tht 35 hT ?_; (try simp only [Act.put, aset, dZ, dS]); refine tht 36 hT ?_; (try simp only [Act.put, aset, dZ, dS]); refine tht 37 hT ?_; (try simp only [Act.put, aset, dZ, dS]); refine tht 38 hT ?_; (try simp only [Act.put, aset, dZ, dS]); refine tht 39 hT ?_; (try simp only [Act.put, aset, dZ, dS]); refine tht 40 hT ?_; (try simp only [Act.put, aset, dZ, dS]); refine tht 41 hT ?_; (try simp only [Act.put, aset, dZ, dS]); refine tht 42 hT ?_; (try simp only [Act.put, aset, dZ, dS]); refine tht 43 hT ?_; (try simp only [Act.put, aset, dZ, dS]); refine tht 44 hT ?_; (try simp only [Act.put, aset, dZ, dS]); refine tht 45 hT ?_; (try simp only [Act.put, aset, dZ, dS]))
                (refine thn 46 hT ?_; (try simp only [Act.put, aset, dZ, dS]); refine thn 47 hT ?_; (try simp only [Act.put, aset, dZ, dS]); refine thn 48 hT ?_; (try simp only [Act.put, aset, dZ, dS]); refine thn 49 hT ?_; (try simp only [Act.put, aset, dZ, dS]); refine thn 50 hT ?_; (try simp only [Act.put, aset, dZ, dS]))
                (refine tht 51 hT ?_; (try simp only [Act.put, aset, dZ, dS]))
                refine th_done (by kernel_rfl) ?_
                simp only [List.drop_succ_cons, List.drop_zero]
                go_wp2
                go_roundg (v.frames.length - (k + 1))
                case measure => omega
                case rel => exact ⟨k + 1, by omega, by omega, by go_num, HW3.out.trans (HX28.out.trans hHeld.1)⟩
              · have e1 : ¬ (k : Int) < ((v.frames.length - 1 : Nat) : Int) := by omega
                have e2 : ((k : Int) == ((v.frames.length - 1 : Nat) : Int)) = true := by rw [beq_iff_eq]; omega
                have hpcy : y.pc = b.exit := HREL.out.2.2.2 (by omega)
                rw [hpcy] at HST
                refine wp_region_th 52 (fun W' => Ext W28 W' ∧ W'.cell? ⟨wr.heap.size, 0, none⟩ = some (Value.int .i64 y.fn) ∧ W'.cell? ⟨wr.heap.size, 1, none⟩ = some (Value.int .i64 b.exit) ∧ W'.cell? ⟨wr.heap.size, 2, none⟩ = some (.slice Ay ny cy) ∧ W'.cell? ⟨w.heap.size + 1, 7, none⟩ = some (.slice (some ⟨bf, of, none⟩) t.frames.length df) ∧ W'.cell? ⟨bf, of + k * 5, none⟩ = some (Value.int .i64 y.fn) ∧ W'.cell? ⟨bf, of + k * 5 + 1, none⟩ = some (Value.int .i64 zpc) ∧ W'.cell? ⟨bf, of + k * 5 + 2, none⟩ = some (.slice Az nz cz) ∧ W'.cell? ⟨W22.heap.size, 1, none⟩ = some (Value.int .i64 (v.frames.length : Int)) ∧ W'.cell? ⟨W22.heap.size, 2, none⟩ = some (Value.int .i64 b.exit)) (by kernel_rfl) (by kernel_rfl) (by kernel_rfl) (by kernel_rfl) (by decide) ?_ ?_
                · exact HST.out _ xt
                intro hT hHeld
                (refine tht 0 hT ?_; (try simp only [Act.put, aset, dZ, dS]); refine tht 1 hT ?_; (try simp only [Act.put, aset, dZ, dS]); refine tht 2 hT ?_; (try simp only [Act.put, aset, dZ, dS]); refine tht 3 hT ?_; (try simp only [Act.put, aset, dZ, dS]); refine tht 4 hT ?_; (try simp only [Act.put, aset, dZ, dS]); refine tht 5 hT ?_; (try simp only [Act.put, aset, dZ, dS]); refine tht 6 hT ?_; (try simp only [Act.put, aset, dZ, dS]); refine tht 7 hT ?_; (try simp only [Act.put, aset, dZ, dS]))
                refine tst 8 (fun K hK => ?_)
                go_simp
                go_at_call 19
                refine (HSI.out _ hHeld.1).mono ?_
                rintro e wk ⟨rfl, hb⟩
                dsimp only
                refine hK.out _ _ (HST.out _ (Ext.trans hHeld.1 hb)) (fun hHeld => ?_)
                clear hK K hb
                (try simp only [Act.put, List.setIfInBounds_toArray, List.set_cons_zero, List.set_cons_succ])
                (refine tht 9 hT ?_; (try simp only [Act.put, aset, dZ, dS]); refine tht 10 hT ?_; (try simp only [Act.put, aset, dZ, dS]); refine tht 11 hT ?_; (try simp only [Act.put, aset, dZ, dS]); refine tht 12 hT ?_; (try simp only [Act.put, aset, dZ, dS]); refine tht 13 hT ?_; (try simp only [Act.put, aset, dZ, dS]); refine tht 14 hT ?_; (try simp only [Act.put, aset, dZ, dS]); refine tht 15 hT ?_; (try simp only [Act.put, aset, dZ, dS]); refine tht 16 hT ?_; (try simp only [Act.put, aset, dZ, dS]); refine tht 17 hT ?_; (try simp only [Act.put, aset, dZ, dS]); refine tht 18 hT ?_; (try simp only [Act.put, aset, dZ, dS]); refine tht 19 hT ?_; (try simp only [Act.put, aset, dZ, dS]); refine tht 20 hT ?_; (try simp only [Act.put, aset, dZ, dS]); refine tht 21 hT ?_; (try simp only [Act.put, aset, dZ, dS]); refine tht 22 hT ?_; (try simp only [Act.put, aset, dZ, dS]); refine tht 23 hT ?_; (try simp only [Act.put, aset, dZ, dS]); refine tht 24 hT ?_; (try simp only [Act.put, aset, dZ, dS]); refine tht 25 hT ?_; (try simp only [Act.put, aset, dZ, dS]); refine tht 26 hT ?_; (try simp only [Act.put, aset, dZ, dS]); refine tht 27 hT ?_; (try simp only [Act.put, aset, dZ, dS]))
                (refine thn 28 hT ?_; (try simp only [Act.put, aset, dZ, dS]); refine thn 29 hT ?_; (try simp only [Act.put, aset, dZ, dS]); refine thn 30 hT ?_; (try simp only [Act.put, aset, dZ, dS]); refine thn 31 hT ?_; (try simp only [Act.put, aset, dZ, dS]); refine thn 32 hT ?_; (try simp only [Act.put, aset, dZ, dS]); refine thn 33 hT ?_; (try simp only [Act.put, aset, dZ, dS]); refine thn 34 hT ?_; (try simp only [Act.put, aset, dZ, dS]); refine thn 35 hT ?_; (try simp only [Act.put, aset, dZ, dS]); refine thn 36 hT ?_; (try simp only [Act.put, aset, dZ, dS]))
                (refine tht 37 hT ?_; (try simp only [Act.put, aset, dZ, dS]); refine tht 38 hT ?_; (try simp only [Act.put, aset, dZ, dS]); refine tht 39 hT ?_; (try simp only [Act.put, aset, dZ, dS]); refine tht 40 hT ?_; (try simp only [Act.put, aset, dZ, dS]); refine tht 41 hT ?_; (try simp only [Act.put, aset, dZ, dS]); refine tht 42 hT ?_; (try simp only [Act.put, aset, dZ, dS]); refine tht 43 hT ?_; (try simp only [Act.put, aset, dZ, dS]); refine tht 44 hT ?_; (try simp only [Act.put, aset, dZ, dS]); refine tht 45 hT ?_; (try simp only [Act.put, aset, dZ, dS]); refine tht 46 hT ?_; (try simp only [Act.put, aset, dZ, dS]); refine tht 47 hT ?_; (try simp only [Act.put, aset, dZ, dS]); refine tht 48 hT ?_; (try simp only [Act.put, aset, dZ, dS]); refine tht 49 hT ?_; (try simp only [Act.put, aset, dZ, dS]); refine tht 50 hT ?_; (try simp only [Act.put, aset, dZ, dS]); refine tht 51 hT ?_; (try simp only [Act.put, aset, dZ, dS]))
                refine th_done (by kernel_rfl) ?_
                simp only [List.drop_succ_cons, List.drop_zero]
                go_wp2
                go_roundg (v.frames.length - (k + 1))
                case measure => omega
                case rel => exact ⟨k + 1, by omega, by omega, by go_num, HW3.out.trans (HX28.out.trans hHeld.1)⟩
            · have hltz : ¬ (k : Int) < (v.frames.length : Int) := by omega
              have hcu := HCu.out wr (HX26.out.trans HW3.out)
              have A32 : wr.rangeAt w14.heap.size 0 c14.l := range_ext A26 HW3.out
              have Q32 : wr.rangeAt w.heap.size 0 [.slice Af nf cf, .slice Ao no co, .slice Av nv cv] := range_ext Q26 HW3.out
              have HCU2 := Lib.hid hcu
              clear hcu
              go_upto_region 33 with (first | ((first | ((with_reducible show Code.wp _ (Code.region _ (List.toArray ({ dst := _, op := Op.load 26 _, type := _, pos := _, after := _, guard := none } :: _)) false) _ _ _); refine wp_region_lit ?_) | (with_reducible show wpList _ _ _ ({ dst := _, op := Op.load 26 _, type := _, pos := _, after := _, guard := none } :: _) _ _)); refine wpList_load_mid rfl 26 _ rfl _ _ rfl _ _ (by exact rg) Tryz.underlying26 rfl (by exact infoPrg) ?_; dsimp only [dZ, dS]) | ((first | ((with_reducible show Code.wp _ (Code.region _ (List.toArray ({ dst := _, op := Op.load 32 _, type := _, pos := _, after := _, guard := none } :: _)) false) _ _ _); refine wp_region_lit ?_) | (with_reducible show wpList _ _ _ ({ dst := _, op := Op.load 32 _, type := _, pos := _, after := _, guard := none } :: _) _ _)); refine wpList_load_mid rfl 32 _ rfl _ _ rfl _ _ (by exact rg) Tryz.underlying32 rfl (by exact Cells14.info _) ?_; dsimp only [dZ, dS]) | ((first | ((with_reducible show Code.wp _ (Code.region _ (List.toArray ({ dst := _, op := Op.store 37 _ _, type := _, pos := _, after := _, guard := none } :: _)) false) _ _ _); refine wp_region_lit ?_) | (with_reducible show wpList _ _ _ ({ dst := _, op := Op.store 37 _ _, type := _, pos := _, after := _, guard := none } :: _) _ _)); refine wpList_store_mid rfl 37 _ _ rfl _ _ _ rfl rfl (by exact tr) infoInsN (all_oneCell_toArray (by simp [Value.oneCell'])) ?_; (try dsimp only [Act.put])) | (go_at_call 15; refine HCU2.out.mono ?_; rintro e w32 ⟨AA, nn, cc2, rfl, hbb⟩; have HBB2 := Lib.hid hbb; clear hbb))
              refine wp_hid2 ?_
              intro W33 HW33
              have HX33 : Hid (Ext wr W33) := by have h := HBB2.out; have h2 := h.size; rw [Hid, HW33.out]; exact xts
              have I33 : W33.rangeAt w32.heap.size 0 [Value.int .i64 x.op, Value.int .i64 x.a, Value.int .i64 x.b, Value.int .i64 x.c, .slice AA nn cc2] := by rw [HW33.out]; exact World.rangeAt_setCells_same _ _ 0 _ (by show World.there _ _ 0 5; exact tr)
              have i0 : W33.cell? ⟨w32.heap.size, 0, none⟩ = some (Value.int .i64 36) := I33 0 _ (by rw [HV6.out]; rfl)
              have zi := lt_of_cell i0
              clear HW33 HBB2 I33
              go_wp2_with (first | (go_at_call 14; refine (awake_any _).mono ?_; rintro e w9 ⟨rfl, hb9⟩; have HE9 := Lib.hid hb9; clear hb9))
              go_ret
              exact ⟨rfl, HE26.out.trans (HW3.out.trans (HX33.out.trans HE9.out))⟩
end Go.Proofs.YtcjjoabofecjmaaGreat
