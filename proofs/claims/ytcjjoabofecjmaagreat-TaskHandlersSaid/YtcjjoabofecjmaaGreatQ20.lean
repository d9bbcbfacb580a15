/- A part of the proof: TaskHandlers answers true where handlers begin. -/
import Derived.Test.YtcjjoabofecjmaaGreatQ17
import Derived.Test.YtcjjoabofecjmaaGreatQ18
import Derived.Test.YtcjjoabofecjmaaGreatQ19
import Derived.Deep.AppendLies
import Derived.Deep.CutRange
set_option linter.unusedVariables false
set_option linter.unusedSimpArgs false
namespace Go.Proofs.YtcjjoabofecjmaaGreat
open Go.RowKit Go.Sort
set_option maxRecDepth 8000 in
set_option maxHeartbeats 8000000 in
theorem handlers_go (p : Prg) (t : Tsk) (VP VT : Value) (w : World) (hP : RPrg w p VP) (hT : RTsk w t VT) (hg : (greatP p || greatT t) = false) (hc : tcheckS p t = 0) (hst : t.status = 1) : Calls Tryz.prog 9 #[VP, VT] w fun e w' => e = .returned (.bool true) ∧ Ext w w' := by
  have HG := Lib.hid (fun W (h : Ext w W) => great_any p t VP VT W (hP.mono h) (hT.mono h))
  have HC := Lib.hid (fun W (h : Ext w W) => tCheck_any p t VP VT W (hP.mono h) (hT.mono h))
  rw [hg] at HG
  rw [hc] at HC
  have hlv := liv_ok (live_ok hc (by omega))
  have hbl := blks_len hlv.blks
  obtain ⟨b, hb⟩ : ∃ b, lastB t = some b := ⟨_, List.getElem?_eq_getElem (show t.blocks.length - 1 < t.blocks.length by omega)⟩
  have hm8 := (hlv.wk (tcheck_check hc)).hdl b (List.mem_of_getElem? hb)
  have HWK := Lib.hid (hlv.wk (tcheck_check hc))
  have HNum := Lib.hid hT.nums
  have HFc := Lib.hid hc
  have HSt := Lib.hid hst
  have HLB := Lib.hid hb
  have HPP := Lib.hid hP
  have HT := Lib.hid hT
  obtain ⟨c, Bf, mf, df, Bb, mb, db, rfl, hcl, hF2, hdf, hB2, hdb⟩ := hT.cells4
  have HCL := Lib.hid hcl
  have HF2 := Lib.hid hF2
  have HF2L := Lib.hid hF2.len
  have hF2le := hF2.le
  have hmbl := hB2.len
  obtain ⟨x1, o1, Ah, nh, ch, rfl, hx1, _, _, _, _, ⟨hH, hnh⟩, _, _, _, _, c4⟩ := hB2.blk (show t.blocks[t.blocks.length - 1]? = some b from hb)
  rw [← hmbl] at c4 hbl
  have hnhl := hH.len
  obtain ⟨ps, hps, hrd⟩ := hdl_hcs hH
  have HPS := Lib.hid hps
  have HRD := Lib.hid hrd
  have HNil := Lib.hid hH.nil_of_none
  obtain ⟨Af, nf, cf, Ao, no, co, Av, nv, cv, rfl, _⟩ := hP
  have hs1 : (t.status != 1) = false := by simp [hst]
  have hmbz : ((mb : Int) == 0) = false := beq_eq_false_iff_ne.2 (by omega)
  have hmb0 : mb ≤ 9223372036854775807 := by omega
  have hsB : IntKind.i64.wrap ((mb : Int) - 1) = ((mb - 1 : Nat) : Int) := by rw [IntWalk.i64_in _ (by omega)]; omega
  have hs1B : ((mb - 1 : Nat) : Int) < (mb : Int) := by omega
  have hs2B : (0 : Int) ≤ ((mb - 1 : Nat) : Int) := by omega
  have HMB := Lib.hid hmbl
  have HNH := Lib.hid hnhl
  have hnh8 : nh ≤ 8 := by omega
  clear hT hcl hg hc hst hlv hb hF2 hB2 hps hrd hH hmbl hnhl
  go_enter Tryz.func9, Tryz.ntmps9
  go_upto_region 4 with (first | ((first | ((with_reducible show Code.wp _ (Code.region _ (List.toArray ({ dst := _, op := Op.load 26 _, type := _, pos := _, after := _, guard := none } :: _)) false) _ _ _); refine wp_region_lit ?_) | (with_reducible show wpList _ _ _ ({ dst := _, op := Op.load 26 _, type := _, pos := _, after := _, guard := none } :: _) _ _)); refine wpList_load_mid rfl 26 _ rfl _ _ rfl _ _ (by exact rg) Tryz.underlying26 rfl (by exact infoPrg) ?_; dsimp only [dZ, dS]) | ((first | ((with_reducible show Code.wp _ (Code.region _ (List.toArray ({ dst := _, op := Op.load 32 _, type := _, pos := _, after := _, guard := none } :: _)) false) _ _ _); refine wp_region_lit ?_) | (with_reducible show wpList _ _ _ ({ dst := _, op := Op.load 32 _, type := _, pos := _, after := _, guard := none } :: _) _ _)); refine wpList_load_mid rfl 32 _ rfl _ _ rfl _ _ (by exact rg) Tryz.underlying32 rfl (by exact Cells14.info _) ?_; dsimp only [dZ, dS]) | ((with_reducible show wpList _ _ _ ({ dst := _, op := Op.load 26 _, type := _, pos := _, after := _, guard := some _ } :: _) _ _); refine wpList_load_mid_g (by rfl) 26 _ rfl _ _ rfl _ _ (by exact rg) Tryz.underlying26 rfl (by exact infoPrg) ?_; dsimp only [dZ, dS]) | ((with_reducible show wpList _ _ _ ({ dst := _, op := Op.load 32 _, type := _, pos := _, after := _, guard := some _ } :: _) _ _); refine wpList_load_mid_g (by rfl) 32 _ rfl _ _ rfl _ _ (by exact rg) Tryz.underlying32 rfl (by exact Cells14.info _) ?_; dsimp only [dZ, dS]) | (go_at_call 13; refine (HG.out _ xt).mono ?_; rintro e w1 ⟨rfl, hb⟩; have R1 := range_ext (b := w.heap.size + 1) (o := 0) (by exact rg) hb; have T1 := there_ext (b := w.heap.size + 1) (o := 0) (n := 14) (by exact there_new (by simp) (by simp [c.len])) hb; have Q1 := range_ext (b := w.heap.size) (o := 0) (cs := [.slice Af nf cf, .slice Ao no co, .slice Av nv cv]) (by exact rg) hb; have HE1 : Hid (Ext w w1) := Ext.trans xt hb; clear hb) | (go_at_call 17; refine (HC.out _ HE1.out).mono ?_; rintro e w4 ⟨rfl, hb4⟩; have HE4 : Hid (Ext w w4) := Ext.trans HE1.out hb4; have R4 := range_ext R1 hb4; have T4 := there_ext T1 hb4; have Q4 := range_ext Q1 hb4; have R44 : w4.rangeAt (w.heap.size + 1) 0 (tskL t (.slice Bf mf df) (.slice (some ⟨x1, o1, none⟩) mb db)) := (by rw [← HCL.out]; exact R4); have r3 : w4.cell? ⟨w.heap.size + 1, 3, none⟩ = some (Value.int .i64 t.status) := R44 3 _ rfl; have r7 : w4.cell? ⟨w.heap.size + 1, 7, none⟩ = some (.slice Bf mf df) := R44 7 _ rfl; have r8 : w4.cell? ⟨w.heap.size + 1, 8, none⟩ = some (.slice (some ⟨x1, o1, none⟩) mb db) := R44 8 _ rfl; have hz4 : w.heap.size + 1 < w4.heap.size := lt_of_cell r3; clear hb4))
  have c5 := HE4.out.cell c4
  have hx4 := lt_of_cell c5
  go_cut [50] from 40 to 50 (fun s50 wx => s50 = .bool (inHand t) ∧ wx = w4)
  case first =>
    rcases Nat.eq_zero_or_pos mf with h0 | h0
    · subst h0
      have hin : inHand t = false := inHand_nil (List.eq_nil_of_length_eq_zero HF2L.out.symm)
      have HI0 := Lib.hid hin
      clear hin
      go_wp2
      go_meet
      exact ⟨by rw [HI0.out], rfl⟩
    · obtain ⟨f, hf⟩ : ∃ f, t.frames[mf - 1]? = some f := ⟨_, List.getElem?_eq_getElem (by have := HF2L.out; omega)⟩
      have hin : inHand t = f.cleanup := inHand_last (by rw [← HF2L.out]; exact hf)
      obtain ⟨x2, o2, Ar, nr, cr, rfl, hx2, _, _, _, _, _, _, _, _, d4⟩ := HF2.out.frm hf
      replace d4 := HE4.out.cell d4
      have hx2 := lt_of_cell d4
      have hgt : ((mf : Int) > 0) := by omega
      have hsF : IntKind.i64.wrap ((mf : Int) - 1) = ((mf - 1 : Nat) : Int) := by rw [IntWalk.i64_in _ (by omega)]; omega
      have hs1F : ((mf - 1 : Nat) : Int) < (mf : Int) := by omega
      have hs2F : (0 : Int) ≤ ((mf - 1 : Nat) : Int) := by omega
      have HI0 := Lib.hid hin
      clear hf hin
      go_wp2
      go_meet
      exact ⟨by rw [HI0.out], rfl⟩
  case rest =>
  obtain ⟨rfl, rfl⟩ := hcut
  cases hin : inHand t with
  | true =>
    go_wp2_with (go_at_call 14; refine (awake_any _).mono ?_; rintro e w9 ⟨rfl, hb9⟩; have HE9 := Lib.hid (Ext.trans HE4.out hb9); clear hb9)
    go_ret
    exact ⟨rfl, HE9.out⟩
  | false =>
  have HIn := Lib.hid hin
  clear hin
  go_upto_region 7 with (go_at_call 30; refine (cloneHdl _ nh ch (hcs ps) _ HNil.out (HPS.out.mono HE4.out) (hcs_one ps) (by omega)).mono ?_; rintro e w5 ⟨v5, rfl, hown5, hb5⟩; obtain ⟨A5, cp5, rfl, hc5, _⟩ := ownsRow_shape hown5; have HO5 := Lib.hid hown5; have HB5 := Lib.hid hb5; clear hown5 hb5 hc5)
  go_wp2_with (go_at_call 31; refine (reverse_all A5 nh cp5 _ ps w5 (by rw [HRD.out.1, HNH.out]) (by omega) HO5.out).mono ?_; rintro e w6 ⟨rfl, hown6, hg6⟩; have HO6 := Lib.hid hown6; have HG6 := Lib.hid hg6; clear hown6 hg6)
  have HI := Lib.hid (hinv_start HLB.out HE4.out HB5.out hz4 HO5.out HO6.out HG6.out Q4 (by rw [← HF2L.out]; exact HCL.out) R4 T4 HT.out)
  have h6z : w.heap.size + 1 < w6.heap.size := by have := HG6.out.size; have := HB5.out.size; omega
  have H6 := HO6
  clear HG6 HO6 HB5 HO5 R4 T4 Q4 R44 r3 r7 r8 c4 c5 hx4 R1 T1 Q1 HC HG HNil HPS hx1
  go_loopg [7, 8, 9, 10, 11, 12, 66] nh (fun gg s7 _ _ _ _ _ s66 wr => ∃ (k : Nat) (Ag : Option Addr) (cg : Nat) (ck : Cells14) (AF : Option Addr) (cF : Nat) (VB : Value), k ≤ nh ∧ nh - k ≤ gg ∧ s66 = .int .i64 k ∧ s7 = .slice Ag k cg ∧ Hid (HInv w w6 t b ps wc.heap.size A5 nh cp5 [.slice Af nf cf, .slice Ao no co, .slice Av nv cv] k Ag cg ck AF cF VB wr))
  case atStart => exact ⟨0, none, 0, c, Bf, df, _, Nat.zero_le _, by omega, rfl, rfl, HI.out⟩
  case round =>
    obtain ⟨k, Ag, cg, ck, AF, cF, VB, hk, hgk, rfl, rfl, HV⟩ := hrel
    clear HI
    have HEr : Hid (Ext w wr) := HV.out.ext
    have Qr := HV.out.prog
    have Rr := HV.out.task
    have Tr := HV.out.there
    by_cases hlt : k < nh
    · have hltz : (k : Int) < (nh : Int) := by omega
      obtain ⟨h, hh⟩ : ∃ h, b.handlers.reverse[k]? = some h := ⟨_, List.getElem?_eq_getElem (by rw [List.length_reverse]; have := HNH.out; omega)⟩
      obtain ⟨g, hg, hgl, hS⟩ := cut_step HFc.out HSt.out HIn.out HLB.out hh
      have HH : Hid (Calls Tryz.prog 28 #[.agg #[.slice Af nf cf, .slice Ao no co, .slice Av nv cv], .agg ck.l.toArray] wr fun e w' => ∃ c2 AF2 cF2 AB2 cB2 rs2 hs2 gs2 Aa na ca, e = .returned (.tuple #[.agg (Cells14.l c2).toArray, .agg #[Value.int .i64 h.fn, .slice Aa na ca], Value.int .i64 0]) ∧ HandO ({ cutT t b (k + 1) with frames := t.frames ++ [⟨h.fn, 0, regsOf g.regs.toNat h.args, -1, true⟩], mask := t.mask + 1 }, h, 0) (cutT t b k) (.agg ck.l.toArray) wr w' c2 AF2 cF2 AB2 cB2 rs2 hs2 gs2 Aa na ca) := by
        have h1 := Handle_args p (cutT t b k) _ _ wr (HPP.out.mono HEr.out) HV.out.reads (cut_check HFc.out HSt.out HLB.out k) HSt.out HIn.out
        rw [hS] at h1
        exact h1.mono fun e w' h2 => h2.elim (fun h3 => absurd rfl h3.1) handA_open
      have HHh := Lib.hid hh
      have HGg := Lib.hid (And.intro hg hgl)
      clear hh hg hgl hS
      go_upto_region 12 with (first | ((first | ((with_reducible show Code.wp _ (Code.region _ (List.toArray ({ dst := _, op := Op.load 26 _, type := _, pos := _, after := _, guard := none } :: _)) false) _ _ _); refine wp_region_lit ?_) | (with_reducible show wpList _ _ _ ({ dst := _, op := Op.load 26 _, type := _, pos := _, after := _, guard := none } :: _) _ _)); refine wpList_load_mid rfl 26 _ rfl _ _ rfl _ _ (by exact rg) Tryz.underlying26 rfl (by exact infoPrg) ?_; dsimp only [dZ, dS]) | ((first | ((with_reducible show Code.wp _ (Code.region _ (List.toArray ({ dst := _, op := Op.load 32 _, type := _, pos := _, after := _, guard := none } :: _)) false) _ _ _); refine wp_region_lit ?_) | (with_reducible show wpList _ _ _ ({ dst := _, op := Op.load 32 _, type := _, pos := _, after := _, guard := none } :: _) _ _)); refine wpList_load_mid rfl 32 _ rfl _ _ rfl _ _ (by exact rg) Tryz.underlying32 rfl (by exact Cells14.info _) ?_; dsimp only [dZ, dS]) | ((with_reducible show wpList _ _ _ ({ dst := _, op := Op.store 32 _ _, type := _, pos := _, after := _, guard := none } :: _) _ _); refine wpList_store_mid rfl 32 _ _ rfl _ _ (List.toArray (Cells14.l _)) rfl rfl (by refine Cells14.there _ ?_; exact tr) (Cells14.infoA _) (Cells14.oneA _) ?_; (try dsimp only [Act.put])) | ((first | ((with_reducible show Code.wp _ (Code.region _ (List.toArray ({ dst := _, op := Op.store 58 _ _, type := _, pos := _, after := _, guard := none } :: _)) false) _ _ _); refine wp_region_lit ?_) | (with_reducible show wpList _ _ _ ({ dst := _, op := Op.store 58 _ _, type := _, pos := _, after := _, guard := none } :: _) _ _)); refine wpList_store_mid rfl 58 _ _ rfl _ _ _ rfl rfl (by exact tr) infoHdl2 (all_oneCell_toArray (by simp [Value.oneCell'])) ?_; (try dsimp only [Act.put])) | (go_at_call 28; refine HH.out.mono ?_; rintro e w2 ⟨c2, AF2, cF2, AB2, cB2, rs2, hs2, gs2, Aa, na, ca, rfl, hO2⟩; have HO2 := Lib.hid hO2; have hb2 := hO2.ext.size; clear hO2))
      refine wp_hid2 ?_
      intro W2 HW2
      have E22 : Ext w2 W2 := by rw [HW2.out]; exact xts
      have hrw := HV.out.size
      have hzr : w.heap.size + 1 < wr.heap.size := lt_of_cell (Rr 0 (Value.int .i64 (cutT t b k).fn) (by rw [HV.out.cell]; rfl))
      have HE2 : Hid (Ext w W2) := (HEr.out.trans HO2.out.ext).trans E22
      have U2 : W2.rangeAt w2.heap.size 0 c2.l := by rw [HW2.out]; exact (ranges_two (by omega) (c2.there' (by exact tr)) (by show World.there _ _ 0 2; exact tr)).1
      have S2 : W2.rangeAt (w2.heap.size + 1) 0 [Value.int .i64 h.fn, .slice Aa na ca] := by rw [HW2.out]; exact (ranges_two (by omega) (c2.there' (by exact tr)) (by show World.there _ _ 0 2; exact tr)).2
      have V2 : W2.there w2.heap.size 0 14 := by rw [HW2.out]; exact tr
      have R2 : W2.rangeAt (w.heap.size + 1) 0 ck.l := range_ext Rr (HO2.out.ext.trans E22)
      have T2 : W2.there (w.heap.size + 1) 0 14 := there_ext Tr (HO2.out.ext.trans E22)
      have Q2 : W2.rangeAt w.heap.size 0 [.slice Af nf cf, .slice Ao no co, .slice Av nv cv] := range_ext Qr (HO2.out.ext.trans E22)
      obtain ⟨NF, hNF⟩ : ∃ NF, t.frames.length = NF := ⟨_, rfl⟩
      have hNF9 : NF ≤ 9 := by rw [← hNF]; exact (liv_ok (live_ok HFc.out (by rw [HSt.out]; decide))).frames9
      have hlen : (t.frames ++ [(⟨h.fn, 0, regsOf g.regs.toNat h.args, -1, true⟩ : Frm)]).length = NF + 1 := by simp [hNF]
      have u7 : W2.cell? ⟨w2.heap.size, 7, none⟩ = some (.slice AF2 (NF + 1) cF2) := by
        have := U2 7 (.slice AF2 (t.frames ++ [(⟨h.fn, 0, regsOf g.regs.toNat h.args, -1, true⟩ : Frm)]).length cF2) (by rw [HO2.out.cell]; rfl)
        rw [hlen] at this; exact this
      have u9 : W2.cell? ⟨w2.heap.size, 9, none⟩ = some (Value.int .i64 (t.mask + 1)) := U2 9 _ (by rw [HO2.out.cell]; rfl)
      have r7 : W2.cell? ⟨w.heap.size + 1, 7, none⟩ = some (.slice AF NF cF) := by
        have := R2 7 (.slice AF t.frames.length cF) (by rw [HV.out.cell]; rfl)
        rw [hNF] at this; exact this
      have r9 : W2.cell? ⟨w.heap.size + 1, 9, none⟩ = some (Value.int .i64 t.mask) := R2 9 _ (by rw [HV.out.cell]; rfl)
      have s0 : W2.cell? ⟨w2.heap.size + 1, 0, none⟩ = some (Value.int .i64 h.fn) := S2 0 _ rfl
      have s1 : W2.cell? ⟨w2.heap.size + 1, 1, none⟩ = some (.slice Aa na ca) := S2 1 _ rfl
      have hfr := HO2.out.fr
      dsimp only at hfr
      rw [hlen] at hfr
      have hrow := hfr.row
      rw [hlen] at hrow
      obtain ⟨gF, cF', eF, hgF⟩ := own_form hrow (by omega)
      injection eF with eF1 _ eF3
      subst eF1 eF3
      have hcF2 : Hid (NF + 1 ≤ cF2) := by
        obtain ⟨A9, c9, e9, h9, _⟩ := ownsRow_shape hrow
        injection e9 with _ _ q3
        rw [Hid, q3]; exact h9
      have hlast : (t.frames ++ [(⟨h.fn, 0, regsOf g.regs.toNat h.args, -1, true⟩ : Frm)])[NF]? = some ⟨h.fn, 0, regsOf g.regs.toNat h.args, -1, true⟩ := by rw [List.getElem?_append_right (by omega), hNF, Nat.sub_self]; rfl
      obtain ⟨rv, hrv⟩ : ∃ v, rs2[NF]? = some v := ⟨_, List.getElem?_eq_getElem (by rw [hfr.len, hlen]; omega)⟩
      have hreg := hfr.reg NF _ rv hlast hrv
      have hinr := (hfr.inr _ (List.mem_of_getElem? hlast)).2.2.2
      dsimp only at hreg hinr
      rw [regsOf_length HGg.out.2] at hreg
      obtain ⟨Ar, cr, rfl, hcr, _⟩ := ownsRow_shape hreg
      have hcel : ∀ j, j < 5 → W2.cell? ⟨gF, NF * 5 + j, none⟩ = (frmCells ⟨h.fn, 0, regsOf g.regs.toNat h.args, -1, true⟩ (.slice Ar g.regs.toNat cr))[j]? := fun j hj => by
        have h9 := (ownsRow_ext hrow E22).cellAt (NF * 5 + j) (by omega)
        rw [h9, rowOf_get frmCells_len hlast hrv hj]
      have f0 : W2.cell? ⟨gF, NF * 5, none⟩ = some (Value.int .i64 h.fn) := hcel 0 (by omega)
      have f1 : W2.cell? ⟨gF, NF * 5 + 1, none⟩ = some (Value.int .i64 0) := hcel 1 (by omega)
      have f2 : W2.cell? ⟨gF, NF * 5 + 2, none⟩ = some (.slice Ar g.regs.toNat cr) := hcel 2 (by omega)
      have f3 : W2.cell? ⟨gF, NF * 5 + 3, none⟩ = some (Value.int .i64 (-1)) := hcel 3 (by omega)
      have f4 : W2.cell? ⟨gF, NF * 5 + 4, none⟩ = some (.bool true) := hcel 4 (by omega)
      have hN32 : g.regs.toNat ≤ 32 := by
        have := (fn_ok (tcheck_check HFc.out) (fnAt_mem HGg.out.1)).reg; omega
      have hral := HO2.out.ra.len
      dsimp only at hral
      have hgl := HGg.out.2
      obtain ⟨NR, hNR⟩ : ∃ NR, g.regs.toNat = NR := ⟨_, rfl⟩
      have HSI : Hid (∀ W, Ext W2 W → Calls Tryz.prog 19 #[.slice Ar na cr, .slice Aa na ca] W fun e w' => e = .returned (.bool true) ∧ Ext W w') := fun W hW => by
        have h9 := (RSl.of_row hreg (by rw [regsOf_length HGg.out.2]) (by omega) hinr).take (m := na) (by omega)
        have h10 : (regsOf g.regs.toNat h.args).take na = h.args := by unfold regsOf; rw [hral, List.take_left']; rfl
        rw [h10] at h9
        have := SameInts_any Ar Aa na na cr ca h.args h.args W (h9.mono RInt.stays (E22.trans hW)) (HO2.out.ra.mono RInt.stays (E22.trans hW))
        rwa [decide_eq_true rfl] at this
      rw [hNR] at f2 hcr hN32 hgl
      have zg : gF < W2.heap.size := lt_of_cell f0
      have zu : w2.heap.size < W2.heap.size := lt_of_cell u7
      have zs : w2.heap.size + 1 < W2.heap.size := lt_of_cell s0
      have zR : w.heap.size + 1 < W2.heap.size := lt_of_cell r7
      have hb1 : (((NF + 1 : Nat) : Int) == 0) = false := beq_eq_false_iff_ne.2 (by omega)
      have hb2' : IntKind.i64.wrap ((NF : Int) + 1) = ((NF + 1 : Nat) : Int) := by rw [IntWalk.i64_in _ (by omega)]; omega
      have hmk := (liv_ok (live_ok HFc.out (by rw [HSt.out]; decide))).mask
      have hmk2 : 0 ≤ t.mask ∧ t.mask ≤ 101 := by unfold leastI mostI at hmk; split at hmk <;> omega
      have HIM : Hid (-9223372036854775808 ≤ t.mask ∧ t.mask ≤ 9223372036854775807) := by rw [Hid]; omega
      have hb3 : IntKind.i64.wrap (t.mask + 1) = t.mask + 1 := IntWalk.i64_in _ (by omega)
      have hb4 : IntKind.i64.wrap (((NF + 1 : Nat) : Int) - 1) = ((NF : Nat) : Int) := by rw [IntWalk.i64_in _ (by omega)]; omega
      have hb5 : ((NF : Nat) : Int) < ((NF + 1 : Nat) : Int) := by omega
      have hb6 : (0 : Int) ≤ ((NF : Nat) : Int) := by omega
      have hb7 : (0 : Int) ≤ (na : Int) := by omega
      have hb8 : (na : Int) ≤ (cr : Int) := by omega
      have hb9 : ¬ (NR : Int) < (na : Int) := by omega
      have HNF := Lib.hid hNF
      have HNR := Lib.hid hNR
      have HLast := Lib.hid hlast
      have HLen := Lib.hid hlen
      clear HW2 hcel hreg hrv hfr hrow hinr hral hmk hmk2 hNF hNR hgl hlast hlen HH
      go_upto_region 16 with fail
      refine wp_hid2 ?_
      intro W3 HW3
      have E3 : Ext W2 W3 := by rw [HW3.out]; exact (Ext.refl _).alloc _
      have M3 : W3.rangeAt W2.heap.size 0 [Value.int .i64 h.fn, Value.int .i64 0, .slice Ar NR cr, Value.int .i64 (-1), .bool true] := by rw [HW3.out]; exact range_new rfl
      have m0 : W3.cell? ⟨W2.heap.size, 0, none⟩ = some (Value.int .i64 h.fn) := M3 0 _ rfl
      have m1 : W3.cell? ⟨W2.heap.size, 1, none⟩ = some (Value.int .i64 0) := M3 1 _ rfl
      have m2 : W3.cell? ⟨W2.heap.size, 2, none⟩ = some (.slice Ar NR cr) := M3 2 _ rfl
      have m4 : W3.cell? ⟨W2.heap.size, 4, none⟩ = some (.bool true) := M3 4 _ rfl
      have n0 := E3.cell s0
      have n1 := E3.cell s1
      have zm : W2.heap.size < W3.heap.size := lt_of_cell m0
      have zn : w2.heap.size + 1 < W3.heap.size := lt_of_cell n0
      clear HW3 f0 f1 f2 f3 f4 s0 s1
      (refine wp_region_quiet_below (by kernel_rfl) (by kernel_rfl) ?_; (repeat (go_big_quiet_step ((go_at_call 19; exact quiet_ext (HSI.out _ (Ext.trans E3 xt)))))); refine wpQuiet_nil ?_; intro w1 hw1; obtain ⟨hc, hf, hs, he⟩ := Ext.use (w := W3) (ext_of_regrown hw1) xt; clear hw1; (try simp only [sA, sC, sD, sN] at hs))
      clear hc hf hs
      have he2 := E3.trans he
      replace n0 := he.cell n0
      replace n1 := he.cell n1
      have Er1 : Ext wr w1 := HO2.out.ext.trans (E22.trans he2)
      have H21 : Hid (Ext w2 w1) := E22.trans he2
      have U1 := range_ext U2 he2
      have V1 := there_ext V2 he2
      have R1 := range_ext R2 he2
      have T1 := there_ext T2 he2
      have Q1 := range_ext Q2 he2
      have zw1 : W2.heap.size ≤ w1.heap.size := he2.size
      obtain ⟨gs, hgs, hgr⟩ := HV.out.got
      have HGs := Lib.hid (And.intro hgs hgr)
      have hgl := hgr.lt
      have HRow := Lib.hid (fun W (h : Ext wr W) => ownsRow_ext hgr h)
      have hgb : w6.heap.size ≤ w1.heap.size := by have := Er1.size; omega
      have HEr1 := Lib.hid Er1
      have HE2 := Lib.hid he2
      clear hgs hgr U2 V2 R2 T2 Q2 u7 u9 r7 r9 m0 m1 m2 m4 M3 he he2 Er1
      go_upto_region 19 with (at_builtin; obtain ⟨i0, hi0, hz0, hz1, hz2⟩ := info_parts infoHdl; refine wpList_append_lies _ rfl (.tmp 142) (.tmp 144) _ rfl w6.heap.size 58 i0 _ 2 32 Tryz.underlying53 hi0 hz0 hz1 hz2 rfl (by omega) _ k _ rfl (HRow.out _ (HEr1.out.alloc _)) ⟨w1.heap.size, 0, none⟩ 1 1 [Value.int .i64 h.fn, .slice Aa na ca] rfl rfl (fun j u hj => by rw [addr_add]; simpa [go_sem] using hj) (by intro u hu; simp at hu; rcases hu with rfl | rfl <;> rfl) (by omega) (by simp only [maxLen]; omega) (by omega) (by simp; omega) _ rfl ?_; clear hi0 hz0 hz1 hz2; intro g7 cap7 w7 hown7 hgr7 hat7 hlt7; replace hgr7 : (w1.alloc (.cells #[Value.int .i64 h.fn, .slice Aa na ca] 58)).grownBy w7 (Value.slice Ag k cg).ownBlock := hgr7; replace hat7 : (Value.slice Ag k cg).ownBlock = some g7 ∨ g7 = w1.heap.size + 1 := (by rw [← World.size_alloc w1 (.cells #[Value.int .i64 h.fn, .slice Aa na ca] 58)]; exact hat7))
      have U7 : w7.rangeAt w2.heap.size 0 c2.l := range_row (range_old U1 _) (by simp; omega) hgr7 (fun e => by have := hgl _ e; omega)
      have V7 : w7.there w2.heap.size 0 14 := there_row (there_old V1 _) (by simp; omega) hgr7 (fun e => by have := hgl _ e; omega)
      have T7 : w7.there (w.heap.size + 1) 0 14 := there_row (there_old T1 _) (by simp; omega) hgr7 (fun e => by have := hgl _ e; omega)
      have u7 : w7.cell? ⟨w2.heap.size, 7, none⟩ = some (.slice (some ⟨gF, 0, none⟩) (NF + 1) cF2) := by
        have := U7 7 (.slice (some ⟨gF, 0, none⟩) (t.frames ++ [(⟨h.fn, 0, regsOf g.regs.toNat h.args, -1, true⟩ : Frm)]).length cF2) (by rw [HO2.out.cell]; rfl)
        rw [HLen.out] at this; exact this
      have u9 : w7.cell? ⟨w2.heap.size, 9, none⟩ = some (Value.int .i64 (t.mask + 1)) := U7 9 _ (by rw [HO2.out.cell]; rfl)
      have f7 : w7.frozen? ⟨w2.heap.size, 7, none⟩ = false := (V7 7 (by omega)).2
      have f9 : w7.frozen? ⟨w2.heap.size, 9, none⟩ = false := (V7 9 (by omega)).2
      have hb10 : wrap64 t.mask = t.mask := by have := HIM.out; unfold wrap64; omega
      have hb11 : (NF : Int) ≤ (cF2 : Int) := by have := hcF2.out; omega
      have zu7 : w2.heap.size < w7.heap.size := lt_of_cell u7
      clear U1 V1 T1 Q1 R1 n0 n1
      go_region
      go_upto_region 20 with fail
      refine wp_hid2 ?_
      intro W8 HW8
      have U8 : W8.rangeAt w2.heap.size 0 ((c2.l.set 7 (.slice (some ⟨gF, 0, none⟩) NF cF2)).set 9 (Value.int .i64 t.mask)) := by rw [HW8.out]; exact range_drew (range_same (range_same U7))
      have T8 : W8.there (w.heap.size + 1) 0 14 := by rw [HW8.out]; exact there_drew (there_set (there_set T7))
      have G8 : w7.grownBy W8 (some w2.heap.size) := by
        rw [HW8.out]
        exact (World.grownBy.trans (grown_setCell w7 ⟨w2.heap.size, 7, none⟩ _) (grown_setCell _ ⟨w2.heap.size, 9, none⟩ _)).trans (ext_grown ((Ext.refl _).drew) _)
      obtain ⟨c3, hc3⟩ : ∃ c3 : Cells14, c3.l = tskL (cutT t b (k + 1)) (.slice (some ⟨gF, 0, none⟩) t.frames.length cF2) (.slice AB2 (cutT t b (k + 1)).blocks.length cB2) := ⟨⟨_, rfl, by simp [tskL, Value.oneCell']⟩, rfl⟩
      rw [show (c2.l.set 7 (.slice (some ⟨gF, 0, none⟩) NF cF2)).set 9 (Value.int .i64 t.mask) = c3.l by rw [HO2.out.cell, hc3, ← HNF.out]; rfl] at U8
      have hnew := Lib.hid (hinv_step HV.out HO2.out H6.out (show w.heap.size + 1 < wc.heap.size from hz4) h6z HWK.out HNum.out HHh.out hm8 HGs.out.1 HGs.out.2 H21.out (by omega) hown7 hgr7 hat7 G8 hc3)
      clear HW8 G8 U7 V7 T7 u7 u9 f7 f9 hown7 hgr7 hat7 hc3
      go_wp2_with (first | ((first | ((with_reducible show Code.wp _ (Code.region _ (List.toArray ({ dst := _, op := Op.load 32 _, type := _, pos := _, after := _, guard := none } :: _)) false) _ _ _); refine wp_region_lit ?_) | (with_reducible show wpList _ _ _ ({ dst := _, op := Op.load 32 _, type := _, pos := _, after := _, guard := none } :: _) _ _)); refine wpList_load_mid rfl 32 _ rfl _ _ rfl _ _ (by exact rg) Tryz.underlying32 rfl (by exact Cells14.info _) ?_; dsimp only [dZ, dS]) | ((with_reducible show wpList _ _ _ ({ dst := _, op := Op.store 32 _ _, type := _, pos := _, after := _, guard := none } :: _) _ _); refine wpList_store_mid rfl 32 _ _ rfl _ _ (List.toArray (Cells14.l _)) rfl rfl (by refine Cells14.there _ ?_; exact tr) (Cells14.infoA _) (Cells14.oneA _) ?_; (try dsimp only [Act.put])))
      go_roundg (nh - (k + 1))
      case measure => omega
      case rel => exact ⟨k + 1, some ⟨g7, 0, none⟩, cap7, c3, some ⟨gF, 0, none⟩, cF2, _, by omega, by omega, by go_num, rfl, hnew.out⟩
    · have hltz : ¬ (k : Int) < (nh : Int) := by omega
      obtain rfl : k = nh := by omega
      obtain ⟨gs, hgs, hgr⟩ := HV.out.got
      have hbk : b.handlers.length = k := HNH.out.symm
      rw [show b.handlers.reverse.take k = b.handlers.reverse by rw [List.take_of_length_le]; rw [List.length_reverse]; omega] at hgs
      have HSm : Hid (∀ W, Ext wr W → Calls Tryz.prog 27 #[.slice Ag k cg, .slice A5 k cp5] W fun e w' => e = .returned (.bool true) ∧ Ext W w') := fun W hW => by
        have h1 := hcs_reads (ownsRow_ext hgr hW) hgs (HEr.out.trans hW) (by rw [List.length_reverse]; omega) (by omega)
        have h2 := hcs_reads (ownsRow_ext HV.out.want hW) HRD.out.reverse (HEr.out.trans hW) (by rw [List.length_reverse]; omega) (by omega)
        have := SameHdl_any Ag A5 k k cg cp5 _ _ W h1 h2
        rwa [decide_eq_true rfl] at this
      have HH : Hid (Calls Tryz.prog 28 #[.agg #[.slice Af nf cf, .slice Ao no co, .slice Av nv cv], .agg ck.l.toArray] wr (HandPost (zeroTsk, noHdl, 23) wr)) := by
        have hend := cut_end HFc.out HSt.out HIn.out HLB.out
        have hr := HV.out.reads
        rw [hbk] at hend
        have h1 := Handle_any p (cutT t b k) _ _ wr (HPP.out.mono HEr.out) hr
        rw [hend] at h1
        exact h1
      clear hgs hgr
      go_upto_region 23 with (first | ((first | ((with_reducible show Code.wp _ (Code.region _ (List.toArray ({ dst := _, op := Op.load 26 _, type := _, pos := _, after := _, guard := none } :: _)) false) _ _ _); refine wp_region_lit ?_) | (with_reducible show wpList _ _ _ ({ dst := _, op := Op.load 26 _, type := _, pos := _, after := _, guard := none } :: _) _ _)); refine wpList_load_mid rfl 26 _ rfl _ _ rfl _ _ (by exact rg) Tryz.underlying26 rfl (by exact infoPrg) ?_; dsimp only [dZ, dS]) | ((first | ((with_reducible show Code.wp _ (Code.region _ (List.toArray ({ dst := _, op := Op.load 32 _, type := _, pos := _, after := _, guard := none } :: _)) false) _ _ _); refine wp_region_lit ?_) | (with_reducible show wpList _ _ _ ({ dst := _, op := Op.load 32 _, type := _, pos := _, after := _, guard := none } :: _) _ _)); refine wpList_load_mid rfl 32 _ rfl _ _ rfl _ _ (by exact rg) Tryz.underlying32 rfl (by exact Cells14.info _) ?_; dsimp only [dZ, dS]) | ((with_reducible show wpList _ _ _ ({ dst := _, op := Op.store 32 _ _, type := _, pos := _, after := _, guard := none } :: _) _ _); refine wpList_store_mid rfl 32 _ _ rfl _ _ (List.toArray (Cells14.l _)) rfl rfl (by refine Cells14.there _ ?_; exact tr) (Cells14.infoA _) (Cells14.oneA _) ?_; (try dsimp only [Act.put])) | ((first | ((with_reducible show Code.wp _ (Code.region _ (List.toArray ({ dst := _, op := Op.store 58 _ _, type := _, pos := _, after := _, guard := none } :: _)) false) _ _ _); refine wp_region_lit ?_) | (with_reducible show wpList _ _ _ ({ dst := _, op := Op.store 58 _ _, type := _, pos := _, after := _, guard := none } :: _) _ _)); refine wpList_store_mid rfl 58 _ _ rfl _ _ _ rfl rfl (by exact tr) infoHdl2 (all_oneCell_toArray (by simp [Value.oneCell'])) ?_; (try dsimp only [Act.put])) | (go_at_call 28; refine HH.out.mono ?_; rintro e w2 ⟨V2, Aa, na, ca, rfl, hT2, _, _, hb2⟩; obtain ⟨c2, rfl⟩ := hT2.cells; have HB2 := Lib.hid hb2; clear hT2 hb2))
      refine wp_hid2 ?_
      intro W2 HW2
      have E2 : Hid (Ext wr W2) := by have h := HB2.out; have h2 := h.size; rw [Hid, HW2.out]; exact xts
      clear HW2
      go_wp2_with (first | (go_at_call 27; refine (HSm.out _ E2.out).mono ?_; rintro e w3 ⟨rfl, hb3⟩; have E3 := Lib.hid (Ext.trans E2.out hb3); clear hb3) | (go_at_call 14; refine (awake_any _).mono ?_; rintro e w9 ⟨rfl, hb9⟩; have HE9 := Lib.hid (Ext.trans (Ext.trans HEr.out E3.out) hb9); clear hb9))
      go_ret
      exact ⟨rfl, HE9.out⟩
theorem handlers_any (p : Prg) (t : Tsk) (VP VT : Value) (w : World) (hP : RPrg w p VP) (hT : RTsk w t VT) : Calls Tryz.prog 9 #[VP, VT] w fun e w' => e = .returned (.bool true) ∧ Ext w w' := by
  cases hg : (greatP p || greatT t) with
  | true => exact handlers_early p t VP VT w hP hT (.inl hg)
  | false =>
    by_cases hc : tcheckS p t = 0
    · by_cases hst : t.status = 1
      · exact handlers_go p t VP VT w hP hT hg hc hst
      · exact handlers_early p t VP VT w hP hT (.inr ⟨hg, .inr ⟨hc, hst⟩⟩)
    · exact handlers_early p t VP VT w hP hT (.inr ⟨hg, .inl hc⟩)
end Go.Proofs.YtcjjoabofecjmaaGreat
