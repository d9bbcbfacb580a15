/- A part of the proof: The handlers of the innermost block, begun one after the other; Advance of package task where a clean-up handler runs (made out of XAdvB by program); Advance, whatever it is given; A new task of one frame and one block, laid into cells of its own, reads as it should; Start of package task where nothing is wrong; Start of package task; awake of nurserylaw28. -/
import Derived.Test.YtcjjoabofecjmaaGreatQ15
import Derived.Test.YtcjjoabofecjmaaGreatQ07
import Derived.Test.YtcjjoabofecjmaaGreatQ04
import Derived.Test.YtcjjoabofecjmaaGreatQ11
import Derived.Test.YtcjjoabofecjmaaGreatQ14
set_option linter.unusedVariables false
set_option linter.unusedSimpArgs false
namespace Go.Proofs.YtcjjoabofecjmaaGreat
open Go.RowKit
theorem liv_hdl {p : Prg} {t : Tsk} {bs : List Blk} (h : livB p t = true) (hB : bs.map skB = t.blocks.map skB) (hb : blksB p bs = true) : livB p { t with blocks := bs } = true := by
  have hl : bs.length = t.blocks.length := sk_len hB
  have hd : ∀ k, depthAt { t with blocks := bs } k = depthAt t k := depthAt_sk (t := t) (t' := { t with blocks := bs }) hB
  unfold livB at h ⊢
  simp only [Bool.and_eq_true] at h ⊢
  obtain ⟨⟨⟨⟨⟨⟨⟨_, hm⟩, hp⟩, h4⟩, h5⟩, h6⟩, hfr⟩, hk⟩ := h
  refine ⟨⟨⟨⟨⟨⟨⟨hb, hm⟩, hp⟩, h4⟩, ?_⟩, ?_⟩, hfr⟩, ?_⟩
  · show (!((t.level != 0) && (!t.unw || !inB t.level 2 (bs.length : Int)))) = true
    rw [hl]; exact h5
  · show (!(t.unw && (((t.level == 0) && decide (0 < plainN t)) || (decide (0 < t.level) && ((plainN t : Int) != depthAt { t with blocks := bs } (t.level - 1)))))) = true
    rw [hd]; exact h6
  · have hkn : keepsN { t with blocks := bs } = keepsN t := by unfold keepsN; dsimp only; rw [hl]
    rw [hkn]
    refine allB_iff.2 fun i h1 h2 => ?_
    have hki := allB_iff.1 hk i h1 h2
    refine keepB_mono hki hB (fun b hb => ?_) (fun b f hb hf => ⟨f, hf, rfl⟩)
    obtain ⟨b', _, _, _, hb', hd', _⟩ := keepB_iff.1 hki
    rw [hb] at hb'; injection hb' with hb'; subst hb'
    exact hd'
def cutT (t : Tsk) (b : Blk) (k : Nat) : Tsk := { t with blocks := t.blocks.set (t.blocks.length - 1) { b with handlers := b.handlers.take (b.handlers.length - k) } }
section
variable {p : Prg} {t : Tsk} {b : Blk}
theorem cut_zero (hb : lastB t = some b) : cutT t b 0 = t := by
  unfold cutT
  rw [Nat.sub_zero, List.take_length]
  have : t.blocks.set (t.blocks.length - 1) b = t.blocks := by
    unfold lastB at hb
    obtain ⟨h1, h2⟩ := List.getElem?_eq_some_iff.1 hb
    rw [← h2, List.set_getElem_self]
  show { t with blocks := t.blocks.set (t.blocks.length - 1) b } = t
  rw [this]
theorem cut_last (hb : lastB t = some b) (k : Nat) : lastB (cutT t b k) = some { b with handlers := b.handlers.take (b.handlers.length - k) } := by
  have h1 := (List.getElem?_eq_some_iff.1 (show t.blocks[t.blocks.length - 1]? = some b from hb)).1
  unfold lastB cutT
  dsimp only
  rw [List.length_set, List.getElem?_set_self h1]
theorem cut_check (hc : tcheckS p t = 0) (hst : t.status = 1) (hb : lastB t = some b) (k : Nat) : tcheckS p (cutT t b k) = 0 := by
  have hl := live_ok hc (by omega)
  have hlv := liv_ok hl
  have hB : (cutT t b k).blocks.map skB = t.blocks.map skB := map_set_same hb rfl
  have h0 : livB p (cutT t b k) = true := by
    refine liv_hdl hl hB (blks_same hlv.blks hB fun x hx => ?_)
    have hat : ∀ c ∈ t.blocks, c.handlers.length ≤ 8 ∧ ∀ z ∈ c.handlers, hdlB p z = true := fun c hc => by
      obtain ⟨i, hi, rfl⟩ := List.getElem_of_mem hc
      obtain ⟨h1, h2, _⟩ := blk_at hlv.blks (List.getElem?_eq_getElem hi)
      exact ⟨h1, h2⟩
    rcases List.mem_or_eq_of_mem_set hx with hx | rfl
    · exact hat x hx
    · obtain ⟨h1, h2⟩ := hat b (List.mem_of_getElem? hb)
      exact ⟨by show List.length (List.take _ _) ≤ 8; rw [List.length_take]; omega, fun z hz => h2 z (List.mem_of_mem_take hz)⟩
  unfold tcheckS at hc ⊢
  split at hc
  · cases hc
  · rename_i hn
    rw [if_neg (show ¬ (checkS p ≠ 0 ∨ numsB p (cutT t b k) = false ∨ waitB p (cutT t b k) = false) from hn), if_neg (show ¬ (cutT t b k).status = 3 from by show ¬ t.status = 3; omega), if_pos h0]
theorem cut_step (hc : tcheckS p t = 0) (hst : t.status = 1) (hi : inHand t = false) (hb : lastB t = some b) {k : Nat} {h : Hdl} (hk : b.handlers.reverse[k]? = some h) :
    ∃ g, fnAt p h.fn = some g ∧ h.args.length ≤ g.regs.toNat ∧ handleS p (cutT t b k) = ({ cutT t b (k + 1) with frames := t.frames ++ [⟨h.fn, 0, regsOf g.regs.toNat h.args, -1, true⟩], mask := t.mask + 1 }, h, 0) := by
  have hkl : k < b.handlers.length := by have := (List.getElem?_eq_some_iff.1 hk).1; rwa [List.length_reverse] at this
  rw [List.getElem?_reverse hkl] at hk
  have hlv := liv_ok (live_ok hc (by omega))
  obtain ⟨g, hg, _, hga, _⟩ := hlv.hdl hb (List.mem_of_getElem? hk)
  have hgo := fn_ok (tcheck_check hc) (fnAt_mem hg)
  have hp1 := hgo.par
  have hp2 := hgo.reg
  have h1 := cut_check hc hst hb k
  refine ⟨g, hg, by omega, ?_⟩
  unfold handleS
  rw [if_neg (by simpa using h1), if_neg (show ¬ ((cutT t b k).status ≠ 1 ∨ inHand (cutT t b k) = true) from by show ¬ (t.status ≠ 1 ∨ inHand t = true); rw [hi, hst]; simp), cut_last hb]
  dsimp only
  have hl : (b.handlers.take (b.handlers.length - k)).length = b.handlers.length - k := by rw [List.length_take]; omega
  rw [hl, List.getElem?_take, if_pos (by omega), show b.handlers.length - k - 1 = b.handlers.length - 1 - k by omega, hk]
  dsimp only
  rw [hg]
  unfold handleT cutT
  dsimp only
  rw [List.length_set, List.set_set, hl, List.take_take, Nat.min_eq_left (by omega), show b.handlers.length - k - 1 = b.handlers.length - (k + 1) by omega]
theorem cut_end (hc : tcheckS p t = 0) (hst : t.status = 1) (hi : inHand t = false) (hb : lastB t = some b) : handleS p (cutT t b b.handlers.length) = (zeroTsk, noHdl, 23) := by
  have h1 := cut_check hc hst hb b.handlers.length
  unfold handleS
  rw [if_neg (by simpa using h1), if_neg (show ¬ ((cutT t b b.handlers.length).status ≠ 1 ∨ inHand (cutT t b b.handlers.length) = true) from by show ¬ (t.status ≠ 1 ∨ inHand t = true); rw [hi, hst]; simp), cut_last hb]
  dsimp only
  rw [Nat.sub_self, List.take_zero]
  rfl
end
end Go.Proofs.YtcjjoabofecjmaaGreat

namespace Go.Proofs.YtcjjoabofecjmaaGreat
open Go.RowKit Go.Sort
set_option maxRecDepth 8000 in
set_option maxHeartbeats 4000000 in
theorem Advance_hand (p : Prg) (t : Tsk) (VP VT : Value) (w : World) (hP : RPrg w p VP) (hT : RTsk w t VT) (hc : tcheckS p t = 0) (hst : t.status = 1) (hu : t.unw = true) (hi : inHand t = true) (hl : t.frames.length ≠ 0) : Calls Tryz.prog 24 #[VP, VT] w (AdvPost p t w) := by
  have HC := Lib.hid (fun W h => tCheck_any p t VP VT W (hP.mono h) (hT.mono h))
  rw [hc] at HC
  have HH := Lib.hid (fun W h => handles_any t VT W (hT.mono h))
  rw [hi] at HH
  have HCk := Lib.hid (tcheck_check hc)
  have HRO := Lib.hid (run_ok hc hst hl)
  have HNum := Lib.hid hT.nums
  have hwk := HRO.out.wk HCk.out
  have HWK := Lib.hid hwk
  have HCo := Lib.hid (fun W h => copied_any t VT w W hT h (by have := hwk.len; omega) (by have := hwk.bl; omega) (fun f hf => by have := hwk.regs f hf; omega) (fun b hb => by have := hwk.hdl b hb; omega))
  have HP := Lib.hid hP
  have HT := Lib.hid hT
  have HR : Hid (advanceS p t = ((runS p 500 t 0).1, (runS p 500 t 0).2, 0)) := by unfold Hid advanceS; rw [if_neg (by simpa using hc), if_neg (by simpa using hst), if_neg (by rw [hi]; rintro ⟨_, h⟩; cases h)]
  obtain ⟨Af, nf, cf, Ao, no, co, Av, nv, cv, rfl, hF, hO, hVr, hcf, hco, hcv⟩ := hP
  obtain ⟨Bf, mf, df, Bb, mb, db, rfl, _, _, _, _, _, _, _, _, _, _, hF2, hB2, hdf, hdb⟩ := hT
  clear hO hVr hcf hco hcv hB2 hF hF2
  have HSt := Lib.hid hst
  have HUn := Lib.hid hu
  rw [hu, hst] at HT HC HCo HH ⊢
  clear hc hst hu hi hl hwk
  unfold AdvPost
  go_enter Tryz.func24, Tryz.ntmps24
  go_wp2_with (first | ((first | ((with_reducible show Code.wp _ (Code.region _ (List.toArray ({ dst := _, op := Op.load 32 _, type := _, pos := _, after := _, guard := none } :: _)) false) _ _ _); refine wp_region_lit ?_) | (with_reducible show wpList _ _ _ ({ dst := _, op := Op.load 32 _, type := _, pos := _, after := _, guard := none } :: _) _ _)); refine wpList_load_mid rfl 32 _ rfl _ _ rfl _ _ (by exact rg) Tryz.underlying32 rfl (by exact infoTsk) ?_; dsimp only [dZ, dS]) | ((with_reducible show wpList _ _ _ ({ dst := _, op := Op.load 32 _, type := _, pos := _, after := _, guard := some _ } :: _) _ _); refine wpList_load_mid_g (by rfl) 32 _ rfl _ _ rfl _ _ (by exact rg) Tryz.underlying32 rfl (by exact infoTsk) ?_; dsimp only [dZ, dS]) | (go_at_call 17; refine (HC.out _ xt).mono ?_; rintro e w1 ⟨rfl, hb⟩; have T1 := there_ext (b := w.heap.size + 1 + 1) (o := 0) (n := 14) (by exact tr) hb; have U1 := there_ext (b := w.heap.size + 1 + 1 + 1) (o := 0) (n := 3) (by exact tr) hb; have R1 := range_ext (b := w.heap.size + 1) (o := 0) (by exact rg) hb; have Q1 := range_ext (b := w.heap.size) (o := 0) (cs := [.slice Af nf cf, .slice Ao no co, .slice Av nv cv]) (by exact rg) hb; have he0 := Lib.hid hb; obtain ⟨hc, hf, hs, he⟩ := Ext.use (w := w) hb xt; clear hb; (try simp only [World.size_alloc] at hs); have hz1 : w.heap.size + 1 + 1 + 1 < w1.heap.size := (by omega)) | (go_at_call 65; refine (HH.out _ xt).mono ?_; rintro e w2 ⟨rfl, hb⟩; have T1 := there_ext T1 hb; have U1 := there_ext U1 hb; have R1 := range_ext R1 hb; have Q1 := range_ext Q1 hb; have he0 := Lib.hid (Ext.trans he0.out hb); have he := Ext.trans he hb; have hz1 := Nat.lt_of_lt_of_le hz1 hb.size; clear hb))
  have HE1 := Lib.hid he
  have HC4 : Hid (Cold w2 (w.heap.size + 1 + 1)) := by
    refine Cold.ext ?_ he0.out
    refine Cold.ext (w := ((w.alloc _).alloc _).alloc _) ?_ xt
    simpa using Cold.alloc (w := (w.alloc _).alloc _) rfl
  have HC5 : Hid (Cold w2 (w.heap.size + 1 + 1 + 1)) := by
    refine Cold.ext ?_ he0.out
    simpa using Cold.alloc (w := ((w.alloc _).alloc _).alloc _) rfl
  clear hc hf hs he
  refine wp_region_th 5 (fun W' => Ext w2 W') (by kernel_rfl) (by kernel_rfl) (by kernel_rfl) (by kernel_rfl) (by decide) ?_ ?_
  · exact xt
  intro hT hHeld
  (refine th_take (i := 0) (oi := ?oi0_10) (v := ?v0_10) hT ?hi0_10 (by decide) (by kernel_rfl) (by kernel_rfl) ?hq0_10 (Or.inl ⟨?hw0_10, ?hy0_10⟩) (by assumption) ?rest0_10; (case hi0_10 => (simp only [List.getElem?_toArray, List.getElem?_cons_zero, List.getElem?_cons_succ]; rfl)); (case hw0_10 => rfl); (case hy0_10 => (intro w' hSw; refine Eq.trans (exec_load_mid 26 _ (by rfl) w.heap.size 0 (by rfl) _ _ Tryz.underlying26 (by rfl) ?hiL0_10 w' (range_ext Q1 hSw)) ?eqL0_10; (case eqL0_10 => with_reducible rfl); exact infoPrg)); (case hq0_10 => (exact fun _ _ _ h => h)); (try simp only [Act.put, aset, dZ, dS]))
  (refine th_take (i := 1) (oi := ?oi1_11) (v := ?v1_11) hT ?hi1_11 (by decide) (by kernel_rfl) (by kernel_rfl) ?hq1_11 (Or.inl ⟨?hw1_11, ?hy1_11⟩) (by assumption) ?rest1_11; (case hi1_11 => (simp only [List.getElem?_toArray, List.getElem?_cons_zero, List.getElem?_cons_succ]; rfl)); (case hw1_11 => rfl); (case hy1_11 => (intro w' hSw; refine Eq.trans (exec_load_mid 32 _ (by rfl) (w.heap.size + 1) 0 (by rfl) _ _ Tryz.underlying32 (by rfl) ?hiL1_11 w' (range_ext R1 hSw)) ?eqL1_11; (case eqL1_11 => with_reducible rfl); exact infoTsk)); (case hq1_11 => (exact fun _ _ _ h => h)); (try simp only [Act.put, aset, dZ, dS]))
  refine tst 2 (fun K hK => ?_)
  go_simp
  go_at_call 66
  refine (HCo.out _ (Ext.trans HE1.out hHeld)).mono ?_
  rintro e w5 ⟨VF, VB, rs, hs, gs, rfl, hOF, hOB, hb5⟩
  have hE5 : Ext w2 w5 := Ext.trans hHeld hb5
  dsimp only
  refine hK.out _ _ hE5 (fun hHeld => ?_)
  clear hK K
  (try simp only [Act.put, List.setIfInBounds_toArray, List.set_cons_zero, List.set_cons_succ])
  (refine tht 3 hT ?_; (try simp only [Act.put, aset, dZ, dS]))
  refine tst 4 (fun K hK => ?_)
  go_simp
  refine hK.out _ _ (hE5.alloc _) (fun hHeld => ?_)
  clear hK K
  (try simp only [Act.put, List.setIfInBounds_toArray, List.set_cons_zero, List.set_cons_succ])
  refine th_done (by kernel_rfl) ?_
  simp only [List.drop_succ_cons, List.drop_zero]
  refine wpList_name ?_
  intro W6 HW6
  have hz1 : w.heap.size + 1 + 1 + 1 < w2.heap.size := hz1
  have hs5 := hE5.size
  have hs6 : W6.heap.size = w5.heap.size + 1 := by rw [HW6.out]; simp
  have HE6 : Hid (Ext w2 W6) := by rw [Hid, HW6.out]; exact hE5.alloc _
  have HFirst := Lib.hid (run_first (B := w2.heap.size) (R := w5.heap.size) (X := [boxV (w5.heap.size + 1), boxV (w.heap.size + 1 + 1), boxV (w.heap.size + 1 + 1 + 1)]) (w0 := w) (W6 := W6) (t := t) (V0 := .slice Af nf cf) (V1 := .slice Ao no co) (V2 := .slice Av nv cv) (VF := VF) (VB := VB) HE1.out.size rfl hs5 (by rw [HW6.out]; unfold tskL; rw [HSt.out, HUn.out]; rfl) hOF hOB (fun r hr x hx => by
    simp only [List.mem_cons, List.not_mem_nil, or_false] at hr
    have := HE1.out.size
    rcases hr with rfl | rfl | rfl
    · have h2 : w5.heap.size + 1 = x := by injection hx
      omega
    · have h2 : w.heap.size + 1 + 1 = x := by injection hx
      omega
    · have h2 : w.heap.size + 1 + 1 + 1 = x := by injection hx
      omega))
  have HRun := Lib.hid (run_any (X := [boxV (w5.heap.size + 1), boxV (w.heap.size + 1 + 1), boxV (w.heap.size + 1 + 1 + 1)]) (by simp) hs6 hs5 HFirst.out HRO.out HCk.out HNum.out w (HE1.out.trans HE6.out) HE1.out.size HP.out)
  obtain ⟨hwkG, hsame⟩ := runS_wk HCk.out 500 t 0 HRO.out
  have HWG := Lib.hid hwkG
  have HNG := Lib.hid (HNum.out.same hsame)
  clear hwkG hsame HFirst hOF hOB HW6 hE5 hHeld HCo
  obtain ⟨G, hG⟩ : ∃ G, runS p 500 t 0 = G := ⟨_, rfl⟩
  rw [hG] at HRun HWG HNG HR
  clear hG
  unfold RunPost stopA at HRun
  go_wp2_with (first | (go_at_call 67; refine HRun.out.mono ?_; rintro e w7 ⟨rfl, ⟨n7, VF7, VB7, rs7, hs7, gs7, hst7⟩, hk7⟩; obtain ⟨A7, c7, e7, hcF7, _⟩ := ownsRow_shape hst7.fr.row; subst e7; obtain ⟨Ab7, cb7, eb7, _⟩ := ownsRow_shape hst7.bl.row; subst eb7; have HS7 := Lib.hid hst7; have HK7 := Lib.hid hk7; obtain ⟨N7, hN7⟩ : ∃ N7, G.1.frames.length = N7 := ⟨_, rfl⟩; have HN7 := Lib.hid hN7; have m7 := hst7.cellT (j := 7) (v := .slice A7 N7 c7) (by rw [← hN7]; rfl); have f7 := hst7.frozen 10; have zR7 := hst7.lt.2; have hN9 : N7 ≤ 9 := (by have := HWG.out.len; omega); rw [hN7] at hcF7; clear hst7 hk7 hN7) | (go_at_call 68; refine (clip_any A7 N7 c7 _ hcF7 (by omega)).mono ?_; rintro e w8 ⟨rfl, rfl⟩))
  refine wp_hid2 ?_
  intro W9 HW9
  have hN77 := HN7.out
  have hsz7 := HK7.out.below.size
  have hX4 : w.heap.size + 1 + 1 < w2.heap.size := by omega
  have R9 : W9.rangeAt w5.heap.size 3 (tskL G.1 (.slice A7 N7 N7) (.slice Ab7 G.1.blocks.length cb7)) := by
    rw [HW9.out]
    exact range_old (range_at (HS7.out.task) (by omega)) _
  have S9 : W9.rangeAt w7.heap.size 0 [Value.int .i64 G.2.kind, Value.int .i64 G.2.reason, Value.int .i64 G.2.value] := by
    rw [HW9.out]; exact range_new (by simp)
  have T9 : W9.there (w.heap.size + 1 + 1) 0 14 := by
    rw [HW9.out]; exact there_old (there_set (there_below (there_ext T1 HE6.out) hX4 HK7.out.below)) _
  have U9 : W9.there (w.heap.size + 1 + 1 + 1) 0 3 := by
    rw [HW9.out]; exact there_old (there_set (there_below (there_ext U1 HE6.out) hz1 HK7.out.below)) _
  have TS9 : TskSt [boxV (w5.heap.size + 1), boxV (w.heap.size + 1 + 1), boxV (w.heap.size + 1 + 1 + 1)] w2.heap.size w5.heap.size W9 G.1 (.slice A7 G.1.frames.length c7) (.slice Ab7 G.1.blocks.length cb7) rs7 hs7 gs7 := by
    rw [HW9.out]; exact (HS7.out.off_box 10 _).mono ((Ext.refl _).alloc _)
  have C49 : Cold W9 (w.heap.size + 1 + 1) := by
    rw [HW9.out]; exact Cold.ext ((((HC4.out.ext HE6.out).keep HK7.out).1).setCell _ _) ((Ext.refl _).alloc _)
  have C59 : Cold W9 (w.heap.size + 1 + 1 + 1) := by
    rw [HW9.out]; exact Cold.ext ((((HC5.out.ext HE6.out).keep HK7.out).1).setCell _ _) ((Ext.refl _).alloc _)
  have E9 : Hid (Ext w W9) := by
    have h1 : Ext w w7 := Below.trans (HE1.out.trans HE6.out) (Below.mono HK7.out.below HE1.out.size)
    have h2 := HE1.out.size
    rw [Hid, HW9.out]
    exact (h1.setCell (show w.heap.size ≤ w5.heap.size by omega) _).alloc _
  have hsw7 : w7.heap.size < W9.heap.size := by rw [HW9.out]; simp
  have hw2 := HE1.out.size
  have TSH := Lib.hid TS9
  have C4H := Lib.hid C49
  have C5H := Lib.hid C59
  unfold tskL at R9
  clear TS9 C49 C59 HW9 m7 f7 HS7 HK7 R1 Q1 T1 U1
  refine wp_region_th 6 (fun W' => W'.rangeAt w5.heap.size 3 [Value.int .i64 G.1.fn, Value.int .i64 G.1.scope, Value.int .i64 G.1.prio, Value.int .i64 G.1.status, Value.int .i64 G.1.wkind, Value.int .i64 G.1.windex, .bool G.1.wagain, .slice A7 N7 N7, .slice Ab7 G.1.blocks.length cb7, Value.int .i64 G.1.mask, .bool G.1.unw, Value.int .i64 G.1.level, Value.int .i64 G.1.reason, Value.int .i64 G.1.result] ∧ W'.rangeAt w7.heap.size 0 [Value.int .i64 G.2.kind, Value.int .i64 G.2.reason, Value.int .i64 G.2.value]) (by kernel_rfl) (by kernel_rfl) (by kernel_rfl) (by kernel_rfl) (by decide) ?_ ?_
  · exact ⟨range_drew R9, range_drew S9⟩
  intro hT hHeld
  (refine tht 0 hT ?_; (try simp only [Act.put, aset, dZ, dS]); refine tht 1 hT ?_; (try simp only [Act.put, aset, dZ, dS]); refine tht 2 hT ?_; (try simp only [Act.put, aset, dZ, dS]))
  (refine th_take (i := 3) (oi := ?oi3_12) (v := ?v3_12) hT ?hi3_12 (by decide) (by kernel_rfl) (by kernel_rfl) ?hq3_12 (Or.inl ⟨?hw3_12, ?hy3_12⟩) (by assumption) ?rest3_12; (case hi3_12 => (simp only [List.getElem?_toArray, List.getElem?_cons_zero, List.getElem?_cons_succ]; rfl)); (case hw3_12 => rfl); (case hy3_12 => (intro w' hSw; refine Eq.trans (exec_load_mid 32 _ (by rfl) w5.heap.size 3 (by rfl) _ _ Tryz.underlying32 (by rfl) ?hiL3_12 w' (hSw.1)) ?eqL3_12; (case eqL3_12 => with_reducible rfl); exact infoTsk)); (case hq3_12 => (exact fun _ _ _ h => h)); (try simp only [Act.put, aset, dZ, dS]))
  (refine th_take (i := 4) (oi := ?oi4_13) (v := ?v4_13) hT ?hi4_13 (by decide) (by kernel_rfl) (by kernel_rfl) ?hq4_13 (Or.inl ⟨?hw4_13, ?hy4_13⟩) (by assumption) ?rest4_13; (case hi4_13 => (simp only [List.getElem?_toArray, List.getElem?_cons_zero, List.getElem?_cons_succ]; rfl)); (case hw4_13 => rfl); (case hy4_13 => (intro w' hSw; refine Eq.trans (exec_load_mid 49 _ (by rfl) w7.heap.size 0 (by rfl) _ _ Tryz.underlying49 (by rfl) ?hiL4_13 w' (hSw.2)) ?eqL4_13; (case eqL4_13 => with_reducible rfl); exact infoStop)); (case hq4_13 => (exact fun _ _ _ h => h)); (try simp only [Act.put, aset, dZ, dS]))
  refine tst 5 (fun K hK => ?_)
  have T10 : W9.drew.there (w.heap.size + 1 + 1) 0 14 := there_drew T9
  have U10 : W9.drew.there (w.heap.size + 1 + 1 + 1) 0 3 := there_drew U9
  rw [if_pos (by rfl)]
  refine wp_store_mid _ _ _ rfl _ _ (List.toArray _) rfl rfl T10 infoTsk (all_oneCell_toArray (by simp [Value.oneCell'])) ?_
  refine hK.out _ _ ⟨range_out hHeld.1 (by omega), range_out hHeld.2 (by omega)⟩ (fun hHeld => ?_)
  clear hK K
  (try simp only [Act.put, List.setIfInBounds_toArray, List.set_cons_zero, List.set_cons_succ])
  refine th_done (by kernel_rfl) ?_
  simp only [List.drop_succ_cons, List.drop_zero]
  go_wp2_with ((with_reducible show wpList _ _ _ ({ dst := _, op := Op.store 49 _ _, type := _, pos := _, after := _, guard := none } :: _) _ _); refine wpList_store_mid rfl 49 _ _ rfl _ _ _ rfl rfl (by exact tr) infoStop (all_oneCell_toArray (by simp [Value.oneCell'])) ?_; (try dsimp only [Act.put]))
  have hd : Ext W9 W9.drew := (Ext.refl _).drew
  have hfin := Lib.hid (fun (cs cs2 : List Value) => (((TSH.out.mono hd).cold (b := w.heap.size + 1 + 1) (by simp) (C4H.out.ext hd) (setCells_grown _ cs 0 _)).cold (b := w.heap.size + 1 + 1 + 1) (by simp) (((C5H.out.ext hd).grown (setCells_grown _ cs 0 _) (by omega))) (setCells_grown _ cs2 0 _)).reads HNG.out HWG.out)
  refine ret_range3 (b := w.heap.size + 1 + 1) (b2 := w.heap.size + 1 + 1 + 1) Tryz.results24 rfl rfl rfl rfl ?hl ?hl2 (ranges_two (by omega) ?t1 ?t2).1 (ranges_two (by omega) ?t3 ?t4).2 ?fin
  case hl => rfl
  case hl2 => rfl
  case t1 => exact T10
  case t2 => exact U10
  case t3 => exact T10
  case t4 => exact U10
  case fin =>
    rw [HR.out]
    refine ⟨_, rfl, ?_, ?_⟩
    · obtain ⟨Af7, cf7, ef7, hrt⟩ := hfin.out [Value.int .i64 G.1.fn, Value.int .i64 G.1.scope, Value.int .i64 G.1.prio, Value.int .i64 G.1.status, Value.int .i64 G.1.wkind, Value.int .i64 G.1.windex, .bool G.1.wagain, .slice A7 N7 N7, .slice Ab7 G.1.blocks.length cb7, Value.int .i64 G.1.mask, .bool G.1.unw, Value.int .i64 G.1.level, Value.int .i64 G.1.reason, Value.int .i64 G.1.result] [Value.int .i64 G.2.kind, Value.int .i64 G.2.reason, Value.int .i64 G.2.value]
      injection ef7 with q1 q2 q3
      rw [← q1, HN7.out] at hrt
      exact hrt
    · have h9 := E9.out
      exact xts
theorem frames_some {p : Prg} {t : Tsk} (h : tcheckS p t = 0) (hst : t.status = 1) (hu : ¬ (t.unw = true ∧ inHand t = false)) : t.frames.length ≠ 0 := fun h0 => by
  have hi : inHand t = false := inHand_nil (List.eq_nil_of_length_eq_zero h0)
  have hu' : t.unw = false := by
    cases hx : t.unw with
    | false => rfl
    | true => exact absurd ⟨hx, hi⟩ hu
  unfold tcheckS at h
  split at h
  · cases h
  rw [if_neg (by omega)] at h
  split at h
  · rename_i h1
    unfold livB at h1
    simp only [Bool.and_eq_true] at h1
    obtain ⟨⟨⟨⟨⟨⟨⟨_, _⟩, _⟩, h4⟩, _⟩, _⟩, _⟩, _⟩ := h1
    have hp : plainN t = 0 := by unfold plainN; rw [hi]; simpa using h0
    rw [hp, hu'] at h4
    simp at h4
  · cases h
theorem Advance_any (p : Prg) (t : Tsk) (VP VT : Value) (w : World) (hP : RPrg w p VP) (hT : RTsk w t VT) : Calls Tryz.prog 24 #[VP, VT] w (AdvPost p t w) := by
  by_cases hc : tcheckS p t = 0
  · by_cases hst : t.status = 1
    · by_cases hu : t.unw = true ∧ inHand t = false
      · exact Advance_unwinding p t VP VT w hP hT hc hst hu.1 hu.2
      · have hl := frames_some hc hst hu
        cases hx : t.unw with
        | false => exact Advance_go p t VP VT w hP hT hc hst hx hl
        | true =>
          cases hy : inHand t with
          | false => exact absurd ⟨hx, hy⟩ hu
          | true => exact Advance_hand p t VP VT w hP hT hc hst hx hy hl
    · exact Advance_state p t VP VT w hP hT hc hst
  · exact Advance_bad p t VP VT w hP hT hc
end Go.Proofs.YtcjjoabofecjmaaGreat

namespace Go.Proofs.YtcjjoabofecjmaaGreat
open Go.RowKit
theorem own_ints {w : World} {B : Nat} {A : Option Addr} {n c : Nat} {xs : List Int} (h : w.ownsRow B 3 1 (.slice A n c) n (xs.map (Value.int .i64))) (hn : n ≤ 1000) (hi : ∀ x ∈ xs, InR x) : RSl 1 RInt w A n xs ∧ n ≤ c := by
  obtain ⟨A', c', e, hc, _, hcs⟩ := ownsRow_shape h
  injection e with e1 e2 e3
  subst e1 e3
  have hl : n = xs.length := by have := hcs.1; rw [List.length_map] at this; omega
  refine ⟨⟨hl, by omega, fun q x hq => ?_⟩, hc⟩
  obtain ⟨b2, o2, rfl, hcell2⟩ := hcs.2 (by have := (List.getElem?_eq_some_iff.1 hq).1; omega)
  refine ⟨b2, o2, [Value.int .i64 x], rfl, rfl, ⟨rfl, hi x (List.mem_of_getElem? hq)⟩, fun j u hj => ?_⟩
  cases j with
  | zero =>
    simp only [List.getElem?_cons_zero, Option.some.injEq] at hj
    subst hj
    have := hcell2 q (Value.int .i64 x) (by rw [List.getElem?_map, hq]; rfl)
    simpa using this
  | succ j => simp at hj
theorem range_sets_other {w : World} {b o b' o' : Nat} {cs vs : List Value} (h : w.rangeAt b o cs) (hb : ¬ b = b') : (w.setCells b' o' vs).rangeAt b o cs := fun j v hj => by
  rw [World.cell?_setCells_out b' vs o' w _ (fun h1 _ => absurd h1 hb)]
  exact h j v hj
theorem one_frame {W : World} {bF g5 N : Nat} {fn result : Int} {cl : Bool} {xs : List Int} (h : W.rangeAt bF 0 [Value.int .i64 fn, Value.int .i64 0, .slice (some ⟨g5, 0, none⟩) N N, Value.int .i64 result, .bool cl]) (hr : RSl 1 RInt W (some ⟨g5, 0, none⟩) N xs) (h1 : InR fn) (h2 : InR result) :
    RSl 5 RFrm W (some ⟨bF, 0, none⟩) 1 [⟨fn, 0, xs, result, cl⟩] := by
  refine ⟨rfl, by omega, fun k x hk => ?_⟩
  cases k with
  | succ k => simp at hk
  | zero =>
    simp only [List.getElem?_cons_zero, Option.some.injEq] at hk
    subst hk
    exact ⟨bF, 0, _, rfl, rfl, ⟨_, _, _, rfl, h1, zero_in, h2, hr, Nat.le_refl _⟩, fun j v hj => by rw [Nat.zero_mul, Nat.add_zero]; exact h j v hj⟩
theorem one_block {W : World} {bB : Nat} (h : W.rangeAt bB 0 [Value.int .i64 (-1), Value.int .i64 0, Value.int .i64 0, Value.int .i64 0, .slice none 0 0]) : RSl 5 RBlk W (some ⟨bB, 0, none⟩) 1 [⟨-1, 0, 0, 0, []⟩] := by
  refine ⟨rfl, by omega, fun k x hk => ?_⟩
  cases k with
  | succ k => simp at hk
  | zero =>
    simp only [List.getElem?_cons_zero, Option.some.injEq] at hk
    subst hk
    exact ⟨bB, 0, _, rfl, rfl, ⟨_, _, _, rfl, by constructor <;> decide, zero_in, zero_in, zero_in, RSl.nil _, Nat.le_refl _⟩, fun j v hj => by rw [Nat.zero_mul, Nat.add_zero]; exact h j v hj⟩
theorem regsOf_in {N : Nat} {xs : List Int} (h : ∀ x ∈ xs, InR x) : ∀ x ∈ regsOf N xs, InR x := fun x hx => by
  rcases List.mem_append.1 hx with h1 | h1
  · exact h x h1
  · rw [List.eq_of_mem_replicate h1]; exact zero_in
def startL (k : Nat) (g : Fnc) (scope : Int) (bF bB : Nat) : List Value := [Value.int .i64 k, Value.int .i64 scope, Value.int .i64 g.prio, Value.int .i64 1, Value.int .i64 0, Value.int .i64 0, .bool false, .slice (some ⟨bF, 0, none⟩) 1 1, .slice (some ⟨bB, 0, none⟩) 1 1, Value.int .i64 0, .bool false, Value.int .i64 0, Value.int .i64 0, Value.int .i64 0]
theorem start_fin {w X : World} {k bF bB g5 N B : Nat} {g : Fnc} {args : List Int} {scope : Int} (hX : Ext w X) (hB : w.heap.size + 2 ≤ B) (hN : g.regs = (N : Int)) (hN2 : N ≤ 1000) (h1 : w.heap.size + 1 < bF) (h2 : w.heap.size + 1 < bB)
    (hF : X.rangeAt bF 0 [Value.int .i64 k, Value.int .i64 0, .slice (some ⟨g5, 0, none⟩) N N, Value.int .i64 (-1), .bool false]) (hBl : X.rangeAt bB 0 [Value.int .i64 (-1), Value.int .i64 0, Value.int .i64 0, Value.int .i64 0, .slice none 0 0]) (ho : X.ownsRow B 3 1 (.slice (some ⟨g5, 0, none⟩) N N) N ((regsOf N args).map (Value.int .i64)))
    (ha : ∀ x ∈ args, InR x) (hk : InR (k : Int)) (hs : InR scope) (hp : InR g.prio) :
    RTsk (X.setCells (w.heap.size + 1) 0 (startL k g scope bF bB)) (firstTsk k g args scope) (.agg (startL k g scope bF bB).toArray) ∧ Ext w (X.setCells (w.heap.size + 1) 0 (startL k g scope bF bB)) := by
  refine ⟨?_, hX.setCells (by omega) 0 _⟩
  have e : g.regs.toNat = N := by omega
  refine rtsk_of (t := firstTsk k g args scope) ⟨hk, hs, hp, by constructor <;> (show _ ≤ (_ : Int)) <;> simp [firstTsk], zero_in, zero_in, zero_in, zero_in, zero_in, zero_in⟩ ?_ (Nat.le_refl 1) ?_ (Nat.le_refl 1)
  · show RSl 5 RFrm _ _ _ [⟨(k : Int), 0, regsOf g.regs.toNat args, -1, false⟩]
    rw [e]
    exact one_frame (range_sets_other hF (by omega)) (own_ints (own_setCells ho (by omega)) hN2 (regsOf_in ha)).1 hk (by constructor <;> decide)
  · exact one_block (range_sets_other hBl (by omega))
theorem start_fin2 {w Y : World} {k bF bB g5 N B : Nat} {g : Fnc} {args : List Int} {scope : Int} (hN : g.regs = (N : Int)) (hN2 : N ≤ 1000)
    (hF : Y.rangeAt bF 0 [Value.int .i64 k, Value.int .i64 0, .slice (some ⟨g5, 0, none⟩) N N, Value.int .i64 (-1), .bool false]) (hBl : Y.rangeAt bB 0 [Value.int .i64 (-1), Value.int .i64 0, Value.int .i64 0, Value.int .i64 0, .slice none 0 0]) (ho : Y.ownsRow B 3 1 (.slice (some ⟨g5, 0, none⟩) N N) N ((regsOf N args).map (Value.int .i64)))
    (ha : ∀ x ∈ args, InR x) (hk : InR (k : Int)) (hs : InR scope) (hp : InR g.prio) :
    RTsk Y (firstTsk k g args scope) (.agg (startL k g scope bF bB).toArray) := by
  have e : g.regs.toNat = N := by omega
  refine rtsk_of (t := firstTsk k g args scope) ⟨hk, hs, hp, by constructor <;> (show _ ≤ (_ : Int)) <;> simp [firstTsk], zero_in, zero_in, zero_in, zero_in, zero_in, zero_in⟩ ?_ (Nat.le_refl 1) ?_ (Nat.le_refl 1)
  · show RSl 5 RFrm _ _ _ [⟨(k : Int), 0, regsOf g.regs.toNat args, -1, false⟩]
    rw [e]
    exact one_frame hF (own_ints ho hN2 (regsOf_in ha)).1 hk (by constructor <;> decide)
  · exact one_block hBl
end Go.Proofs.YtcjjoabofecjmaaGreat

namespace Go.Proofs.YtcjjoabofecjmaaGreat
open Go.RowKit
theorem chain14 (X : World) (b : Nat) (v0 v1 v2 v3 v4 v5 v6 v7 v8 v9 v10 v11 v12 v13 : Value) : ((((((((((((((X.setCell ⟨b, 0, none⟩ v0).setCell ⟨b, 1, none⟩ v1).setCell ⟨b, 2, none⟩ v2).setCell ⟨b, 3, none⟩ v3).setCell ⟨b, 4, none⟩ v4).setCell ⟨b, 5, none⟩ v5).setCell ⟨b, 6, none⟩ v6).setCell ⟨b, 7, none⟩ v7).setCell ⟨b, 8, none⟩ v8).setCell ⟨b, 9, none⟩ v9).setCell ⟨b, 10, none⟩ v10).setCell ⟨b, 11, none⟩ v11).setCell ⟨b, 12, none⟩ v12).setCell ⟨b, 13, none⟩ v13) = X.setCells b 0 [v0, v1, v2, v3, v4, v5, v6, v7, v8, v9, v10, v11, v12, v13] := rfl
theorem check_params {p : Prg} (h : checkS p = 0) : ∀ g : Fnc, g ∈ p.funcs → g.params ≤ g.regs := fun g hg => by
  obtain ⟨i, hi, rfl⟩ := List.getElem_of_mem hg
  have h1 := check_fn h hi
  unfold checkFnS at h1
  rw [List.getElem?_eq_getElem hi] at h1
  dsimp only at h1
  split at h1
  · cases h1
  · split at h1
    · cases h1
    · split at h1
      · cases h1
      · rename_i h2
        simp only [not_or, Bool.not_eq_false, inB_iff] at h2
        omega
set_option maxRecDepth 4000 in
set_option maxHeartbeats 4000000 in
theorem Start_ok (p : Prg) (k : Nat) (g : Fnc) (args : List Int) (scope : Int) (VP : Value) (A : Option Addr) (n c : Nat) (w : World) (hP : RPrg w p VP) (hA : RSl 1 RInt w A n args) (hf : InR (k : Int)) (hs : InR scope)
    (hc : checkS p = 0) (hfn : fnAt p k = some g) (hcl : g.cleanup = false) (hpm : (n : Int) = g.params) (hq : args.all numB = true) (hs0 : ¬ scope < 0) (hs1 : ¬ (32 : Int) ≤ scope) :
    Calls Tryz.prog 21 #[VP, Value.int .i64 k, .slice A n c, Value.int .i64 scope] w fun e w' => ∃ V', e = .returned (.tuple #[V', Value.int .i64 0]) ∧ RTsk w' (firstTsk k g args scope) V' ∧ Ext w w' := by
  have HC := Lib.hid (fun W h => Check_any p VP W (hP.mono h))
  obtain ⟨Af, nf, cf, Ao, no, co, Av, nv, cv, rfl, hF, hO, hVr, hcf, hco, hcv⟩ := hP
  clear hO hVr hcf hco hcv
  have hle := hF.le
  have hnl := hA.le
  have HL := Lib.hid hF.len
  have HN := Lib.hid hA.len
  have HA := Lib.hid hA
  have HFI := Lib.hid hf
  have HSI := Lib.hid hs
  have HF := Lib.hid hF
  have HPO := Lib.hid (check_regs hc)
  have HC0 := Lib.hid hc
  rw [hc] at HC
  obtain ⟨h0, h1, h2⟩ := fnAt_some hfn
  obtain ⟨b, off, Ac, nc, cc, rfl, hlb, hsz, i1, i2, i3, ⟨hCd, hcc⟩, c0, c1, c2, c3, c4, c5⟩ := HF.out.fnc h2
  have hlt : (k : Int) < (nf : Int) := by have := HL.out; omega
  have hf0 : ¬ (k : Int) < 0 := by omega
  have hf1 : ¬ (nf : Int) ≤ (k : Int) := by omega
  have hrg := HPO.out g (List.mem_of_getElem? h2)
  have HG2 := Lib.hid i3
  have HO : Hid (∀ W, Ext w W → Calls Tryz.prog 58 #[.slice A n c, .func (.func 59) #[] #[]] W fun e w' => e = .returned (.bool (!true)) ∧ Ext W w') := fun W hW => by
    have := outs_any A n c args W (HA.out.mono RInt.stays hW)
    rw [hq] at this
    exact this
  have e0 : ((n : Int) != g.params) = false := by simpa using hpm
  have HPR : Hid ((n : Int) = g.params ∧ g.params ≤ g.regs) := ⟨hpm, check_params hc g (List.mem_of_getElem? h2)⟩
  rw [hcl] at c4
  clear hF hA hf hs hc hfn h1 h2 i1 i2 i3 hCd hcl hpm hq
  rw [Int.toNat_natCast] at c0 c1 c2 c3 c4 c5
  go_enter Tryz.func21, Tryz.ntmps21
  go_wp2_with (first | ((with_reducible show wpList _ _ _ ({ dst := _, op := Op.store 32 _ _, type := _, pos := _, after := _, guard := none } :: _) _ _); refine wpList_store_mid rfl 32 _ _ rfl _ _ _ rfl rfl (by exact tr) infoTsk (all_oneCell_toArray (by simp [Value.oneCell'])) ?_; (try dsimp only [Act.put])) | (go_at_call 45; refine (HC.out _ xt).mono ?_; rintro e w1 ⟨rfl, hb⟩; have Z1 := range_ext (b := w.heap.size + 1) (o := 0) (cs := [Value.int .i64 0, Value.int .i64 0, Value.int .i64 0, Value.int .i64 0, Value.int .i64 0, Value.int .i64 0, .bool false, .slice none 0 0, .slice none 0 0, Value.int .i64 0, .bool false, Value.int .i64 0, Value.int .i64 0, Value.int .i64 0]) (by exact rg) hb; have T1 := there_ext (b := w.heap.size + 1) (o := 0) (n := 14) (by exact tr) hb; obtain ⟨hc, hf, hs, he⟩ := Ext.use (w := w) hb xt; clear hb; (try simp only [World.size_alloc] at hs)) | (go_at_call 58; refine (HO.out _ xt).mono ?_; rintro e w2 ⟨rfl, hb⟩; have Z2 := range_ext Z1 hb; have T2 := there_ext T1 hb; obtain ⟨hc2, hf2, hs2, he2⟩ := Ext.use (w := w) hb xt; clear hb))
  refine wp_hid2 ?_
  intro W4 HW4
  have HE4 : Ext w W4 := by rw [HW4.out]; exact he2
  have T4 : W4.there (w.heap.size + 1) 0 14 := by rw [HW4.out]; exact T2
  have k0 : W4.cell? ⟨w.heap.size, 0, none⟩ = some (.slice (some ⟨b, off, none⟩) nf cf) := by rw [HW4.out, hc2, if_pos (by omega), hc]; simp [go_sem]
  have hs4 : w.heap.size + 1 < W4.heap.size := by rw [HW4.out]; omega
  have F4 : ∀ o, W4.frozen? ⟨w.heap.size + 1, o, none⟩ = false := fun o => by rw [HW4.out, hf2, if_pos (by omega), hf, if_pos (by simp)]; simp [go_sem]
  have Z4 : W4.rangeAt (w.heap.size + 1) 0 [Value.int .i64 0, Value.int .i64 0, Value.int .i64 0, Value.int .i64 0, Value.int .i64 0, Value.int .i64 0, .bool false, .slice none 0 0, .slice none 0 0, Value.int .i64 0, .bool false, Value.int .i64 0, Value.int .i64 0, Value.int .i64 0] := by rw [HW4.out]; exact Z2
  have z0 : W4.cell? ⟨w.heap.size + 1, 0, none⟩ = some (Value.int .i64 0) := Z4 0 _ rfl
  have z1 : W4.cell? ⟨w.heap.size + 1, 1, none⟩ = some (Value.int .i64 0) := Z4 1 _ rfl
  have z2 : W4.cell? ⟨w.heap.size + 1, 2, none⟩ = some (Value.int .i64 0) := Z4 2 _ rfl
  have z3 : W4.cell? ⟨w.heap.size + 1, 3, none⟩ = some (Value.int .i64 0) := Z4 3 _ rfl
  have z4 : W4.cell? ⟨w.heap.size + 1, 4, none⟩ = some (Value.int .i64 0) := Z4 4 _ rfl
  have z5 : W4.cell? ⟨w.heap.size + 1, 5, none⟩ = some (Value.int .i64 0) := Z4 5 _ rfl
  have z6 : W4.cell? ⟨w.heap.size + 1, 6, none⟩ = some (.bool false) := Z4 6 _ rfl
  have z7 : W4.cell? ⟨w.heap.size + 1, 7, none⟩ = some (.slice none 0 0) := Z4 7 _ rfl
  have z8 : W4.cell? ⟨w.heap.size + 1, 8, none⟩ = some (.slice none 0 0) := Z4 8 _ rfl
  have z9 : W4.cell? ⟨w.heap.size + 1, 9, none⟩ = some (Value.int .i64 0) := Z4 9 _ rfl
  have z10 : W4.cell? ⟨w.heap.size + 1, 10, none⟩ = some (.bool false) := Z4 10 _ rfl
  have z11 : W4.cell? ⟨w.heap.size + 1, 11, none⟩ = some (Value.int .i64 0) := Z4 11 _ rfl
  have z12 : W4.cell? ⟨w.heap.size + 1, 12, none⟩ = some (Value.int .i64 0) := Z4 12 _ rfl
  have z13 : W4.cell? ⟨w.heap.size + 1, 13, none⟩ = some (Value.int .i64 0) := Z4 13 _ rfl
  clear HW4 hc hc2 hf hf2 T1 T2
  obtain ⟨N, hN⟩ : ∃ N : Nat, g.regs = (N : Int) := ⟨g.regs.toNat, by omega⟩
  have d0 := HE4.cell c0
  have d1 := HE4.cell c1
  have d2 := HE4.cell c2
  rw [hN] at d2
  have d3 := HE4.cell c3
  have d4 := HE4.cell c4
  have d5 := HE4.cell c5
  have hlb4 : b < W4.heap.size := Nat.lt_of_lt_of_le hlb HE4.size
  clear c0 c1 c2 c3 c4 c5
  have hs6 : w.heap.size < W4.heap.size := by omega
  have hbn1 : ¬ b = w.heap.size + 1 := by omega
  have hbn2 : ¬ w.heap.size + 1 = b := by omega
  have HNN := Lib.hid hN
  have HLE : Hid (args.length ≤ N) := by have h1 := HN.out; have h2 := HPR.out; rw [Hid]; omega
  go_region_held3 (fun W' => W'.cell? ⟨w.heap.size, 0, none⟩ = some (.slice (some ⟨b, off, none⟩) nf cf) ∧ W'.cell? ⟨b, off + k * 6, none⟩ = some (.string g.name) ∧ W'.cell? ⟨b, off + k * 6 + 1, none⟩ = some (Value.int .i64 g.params) ∧ W'.cell? ⟨b, off + k * 6 + 2, none⟩ = some (Value.int .i64 (N : Int)) ∧ W'.cell? ⟨b, off + k * 6 + 3, none⟩ = some (Value.int .i64 g.prio) ∧ W'.cell? ⟨b, off + k * 6 + 4, none⟩ = some (.bool false) ∧ W'.cell? ⟨b, off + k * 6 + 5, none⟩ = some (.slice Ac nc cc))
    ((repeat' (with_reducible apply And.intro)) <;> (go_simp; done))
    ((go_at_call 60; refine (registers_any _ _ _ _ _ N args A n c _ (HA.out.mono RInt.stays xt) HLE.out (by omega)).mono ?_; rintro e w5 ⟨g5, rfl, hg5, hown5, hb5⟩; have HB5 := Lib.hid hb5; obtain ⟨hc5, hf5, hs5, he5⟩ := Ext.use (w := W4) hb5 xt; clear hb5; (try simp only [World.size_drew, World.size_alloc] at hs5); have hs7 : w.heap.size < w5.heap.size := (by omega); have hlb5 : b < w5.heap.size := (by omega); have hs8 : w.heap.size + 1 < w5.heap.size := (by omega)))
  all_goals
    have HAI : Hid (∀ x ∈ args, InR x) := fun x hx => by
      obtain ⟨i, hi, rfl⟩ := List.getElem_of_mem hx
      exact (HA.out.int (List.getElem?_eq_getElem hi)).choose_spec.choose_spec.2.2.1
    have he45 := HE4.trans he5
    have T5 := there_ext T4 he5
    generalize hWF : World.setCell _ _ _ = WF
    have HWF := Lib.hid hWF
    clear hWF
    go_wp2
  · obtain ⟨B5, hB5, hown5⟩ : ∃ B, w.heap.size + 2 ≤ B ∧ w5.ownsRow B 3 1 (.slice (some ⟨g5, 0, none⟩) N N) N ((regsOf N args).map (Value.int .i64)) := ⟨_, by simp; omega, hown5⟩
    have hW2 := HWF.out
    rw [chain14] at hW2
    have RW : WF.rangeAt (w.heap.size + 1) 0 (startL k g scope (w5.heap.size) (w5.heap.size + 1)) := by
      rw [← hW2]
      exact World.rangeAt_setCells_same _ _ 0 _ (by show World.there _ _ 0 14; exact tr)
    have EW : Ext w WF := by rw [← hW2]; exact he45.setCells (by omega) 0 _
    have OW : WF.ownsRow B5 3 1 (.slice (some ⟨g5, 0, none⟩) N N) N ((regsOf N args).map (Value.int .i64)) := by rw [← hW2]; exact own_setCells hown5 (by omega)
    have SW : WF.heap.size = w5.heap.size := by rw [← hW2]; exact setCells_size _ _ _ _
    refine ret_range2 (b := w.heap.size + 1) (cs := startL k g scope (w5.heap.size) (w5.heap.size + 1)) Tryz.results21 rfl rfl rfl rfl (range_old (range_old RW _) _) ⟨_, rfl, start_fin2 (B := B5) (N := N) (g5 := g5) (g := g) (args := args) (w := w) HNN.out (by omega) ?_ ?_ (ownsRow_ext OW ?_) HAI.out HFI.out HSI.out HG2.out, ?_⟩
    · exact range_old (range_new (t := 62) SW.symm) _
    · exact range_new (by simp [SW])
    · exact xt
    · exact xt
  · obtain ⟨B5, hB5, hown5⟩ : ∃ B, w.heap.size + 2 ≤ B ∧ w5.ownsRow B 3 1 (.slice (some ⟨g5, 0, none⟩) N N) N ((regsOf N args).map (Value.int .i64)) := ⟨_, by simp; omega, hown5⟩
    have hW2 := HWF.out
    rw [chain14] at hW2
    have RW : WF.rangeAt (w.heap.size + 1) 0 (startL k g scope (w5.heap.size + 1) (w5.heap.size)) := by
      rw [← hW2]
      exact World.rangeAt_setCells_same _ _ 0 _ (by show World.there _ _ 0 14; exact tr)
    have EW : Ext w WF := by rw [← hW2]; exact he45.setCells (by omega) 0 _
    have OW : WF.ownsRow B5 3 1 (.slice (some ⟨g5, 0, none⟩) N N) N ((regsOf N args).map (Value.int .i64)) := by rw [← hW2]; exact own_setCells hown5 (by omega)
    have SW : WF.heap.size = w5.heap.size := by rw [← hW2]; exact setCells_size _ _ _ _
    refine ret_range2 (b := w.heap.size + 1) (cs := startL k g scope (w5.heap.size + 1) (w5.heap.size)) Tryz.results21 rfl rfl rfl rfl (range_old (range_old RW _) _) ⟨_, rfl, start_fin2 (B := B5) (N := N) (g5 := g5) (g := g) (args := args) (w := w) HNN.out (by omega) ?_ ?_ (ownsRow_ext OW ?_) HAI.out HFI.out HSI.out HG2.out, ?_⟩
    · exact range_new (by simp [SW])
    · exact range_old (range_new (t := 55) SW.symm) _
    · exact xt
    · exact xt
  · obtain ⟨B5, hB5, hown5⟩ : ∃ B, w.heap.size + 2 ≤ B ∧ w5.ownsRow B 3 1 (.slice (some ⟨g5, 0, none⟩) N N) N ((regsOf N args).map (Value.int .i64)) := ⟨_, by simp; omega, hown5⟩
    have RB5 := range_ext (b := W4.heap.size) (o := 0) (cs := [Value.int .i64 (-1), Value.int .i64 0, Value.int .i64 0, Value.int .i64 0, .slice none 0 0]) (by exact rg) HB5.out
    have hW2 := HWF.out
    rw [chain14] at hW2
    have RW : WF.rangeAt (w.heap.size + 1) 0 (startL k g scope (w5.heap.size) (W4.heap.size)) := by
      rw [← hW2]
      exact World.rangeAt_setCells_same _ _ 0 _ (by show World.there _ _ 0 14; exact tr)
    have EW : Ext w WF := by rw [← hW2]; exact he45.setCells (by omega) 0 _
    have OW : WF.ownsRow B5 3 1 (.slice (some ⟨g5, 0, none⟩) N N) N ((regsOf N args).map (Value.int .i64)) := by rw [← hW2]; exact own_setCells hown5 (by omega)
    have SW : WF.heap.size = w5.heap.size := by rw [← hW2]; exact setCells_size _ _ _ _
    have BW : WF.rangeAt W4.heap.size 0 [Value.int .i64 (-1), Value.int .i64 0, Value.int .i64 0, Value.int .i64 0, .slice none 0 0] := by rw [← hW2]; exact range_sets_other RB5 (by omega)
    refine ret_range2 (b := w.heap.size + 1) (cs := startL k g scope (w5.heap.size) (W4.heap.size)) Tryz.results21 rfl rfl rfl rfl (range_old RW _) ⟨_, rfl, start_fin2 (B := B5) (N := N) (g5 := g5) (g := g) (args := args) (w := w) HNN.out (by omega) ?_ ?_ (ownsRow_ext OW ?_) HAI.out HFI.out HSI.out HG2.out, ?_⟩
    · exact range_new SW.symm
    · exact range_old BW _
    · exact xt
    · exact xt
end Go.Proofs.YtcjjoabofecjmaaGreat

namespace Go.Proofs.YtcjjoabofecjmaaGreat
open Go.RowKit
set_option maxRecDepth 4000 in
set_option maxHeartbeats 4000000 in
theorem Start_any (p : Prg) (f : Int) (args : List Int) (scope : Int) (VP : Value) (A : Option Addr) (n c : Nat) (w : World) (hP : RPrg w p VP) (hA : RSl 1 RInt w A n args) (hf : InR f) (hs : InR scope) :
    Calls Tryz.prog 21 #[VP, Value.int .i64 f, .slice A n c, Value.int .i64 scope] w fun e w' => ∃ V', e = .returned (.tuple #[V', Value.int .i64 (startS p f args scope).2]) ∧ RTsk w' (startS p f args scope).1 V' ∧ Ext w w' := by
  have HC := Lib.hid (fun W h => Check_any p VP W (hP.mono h))
  have HPP := Lib.hid hP
  obtain ⟨Af, nf, cf, Ao, no, co, Av, nv, cv, rfl, hF, hO, hVr, hcf, hco, hcv⟩ := hP
  clear hO hVr hcf hco hcv
  have hle := hF.le
  have hnl := hA.le
  have HL := Lib.hid hF.len
  have HN := Lib.hid hA.len
  have HA := Lib.hid hA
  have HFI := Lib.hid hf
  have HSI := Lib.hid hs
  have HF := Lib.hid hF
  clear hF hA hf hs
  by_cases hc : checkS p = 0
  rotate_left
  · have HR : Hid (startS p f args scope = (zeroTsk, 1)) := by unfold Hid startS; rw [if_pos hc]
    have hcb : (checkS p != 0) = true := by simpa using hc
    clear hc
    go_enter Tryz.func21, Tryz.ntmps21
    go_wp2_with (first | ((with_reducible show wpList _ _ _ ({ dst := _, op := Op.store 32 _ _, type := _, pos := _, after := _, guard := none } :: _) _ _); refine wpList_store_mid rfl 32 _ _ rfl _ _ _ rfl rfl (by exact tr) infoTsk (all_oneCell_toArray (by simp [Value.oneCell'])) ?_; (try dsimp only [Act.put])) | (go_at_call 45; refine (HC.out _ xt).mono ?_; rintro e w1 ⟨rfl, hb⟩; have T1 := there_ext (b := w.heap.size + 1) (o := 0) (n := 14) (by exact tr) hb; obtain ⟨hc, hf, hs, he⟩ := Ext.use (w := w) hb xt; clear hb; (try simp only [World.size_alloc] at hs)))
    refine ret_range2 (b := w.heap.size + 1) Tryz.results21 rfl rfl rfl rfl (World.rangeAt_setCells_same _ _ 0 _ (by exact tr)) ?_
    rw [HR.out]
    exact ⟨_, rfl, zero_reads _, xts⟩
  have HPO := Lib.hid (check_regs hc)
  have HC0 := Lib.hid hc
  rw [hc] at HC
  cases hfn : fnAt p f with
  | none =>
    have HR : Hid (startS p f args scope = (zeroTsk, 2)) := by unfold Hid startS; rw [if_neg (by simpa using hc), hfn]
    have h0 : ¬ f < 0 → (nf : Int) ≤ f := by rcases fnAt_none hfn with h | h <;> have := HL.out <;> omega
    clear hc hfn
    by_cases hf0 : f < 0
    · clear h0
      go_enter Tryz.func21, Tryz.ntmps21
      go_wp2_with (first | ((with_reducible show wpList _ _ _ ({ dst := _, op := Op.store 32 _ _, type := _, pos := _, after := _, guard := none } :: _) _ _); refine wpList_store_mid rfl 32 _ _ rfl _ _ _ rfl rfl (by exact tr) infoTsk (all_oneCell_toArray (by simp [Value.oneCell'])) ?_; (try dsimp only [Act.put])) | (go_at_call 45; refine (HC.out _ xt).mono ?_; rintro e w1 ⟨rfl, hb⟩; have T1 := there_ext (b := w.heap.size + 1) (o := 0) (n := 14) (by exact tr) hb; obtain ⟨hc, hf, hs, he⟩ := Ext.use (w := w) hb xt; clear hb; (try simp only [World.size_alloc] at hs)))
      refine ret_range2 (b := w.heap.size + 1) Tryz.results21 rfl rfl rfl rfl (World.rangeAt_setCells_same _ _ 0 _ (by exact tr)) ?_
      rw [HR.out]
      exact ⟨_, rfl, zero_reads _, xts⟩
    · have h1 := h0 hf0
      clear h0
      go_enter Tryz.func21, Tryz.ntmps21
      go_wp2_with (first | ((with_reducible show wpList _ _ _ ({ dst := _, op := Op.store 32 _ _, type := _, pos := _, after := _, guard := none } :: _) _ _); refine wpList_store_mid rfl 32 _ _ rfl _ _ _ rfl rfl (by exact tr) infoTsk (all_oneCell_toArray (by simp [Value.oneCell'])) ?_; (try dsimp only [Act.put])) | (go_at_call 45; refine (HC.out _ xt).mono ?_; rintro e w1 ⟨rfl, hb⟩; have T1 := there_ext (b := w.heap.size + 1) (o := 0) (n := 14) (by exact tr) hb; obtain ⟨hc, hf, hs, he⟩ := Ext.use (w := w) hb xt; clear hb; (try simp only [World.size_alloc] at hs)))
      refine ret_range2 (b := w.heap.size + 1) Tryz.results21 rfl rfl rfl rfl (World.rangeAt_setCells_same _ _ 0 _ (by exact tr)) ?_
      rw [HR.out]
      exact ⟨_, rfl, zero_reads _, xts⟩
  | some g =>
  obtain ⟨h0, h1, h2⟩ := fnAt_some hfn
  have hfn' := hfn
  have HR : Hid (startS p f args scope = if g.cleanup = true then (zeroTsk, 16) else if (n : Int) ≠ g.params then (zeroTsk, 10) else if args.all numB = false ∨ scope < 0 ∨ 32 ≤ scope then (zeroTsk, 2) else (firstTsk f g args scope, 0)) := by
    unfold Hid startS; rw [if_neg (by simpa using hc), hfn, HN.out]
  obtain ⟨b, off, Ac, nc, cc, rfl, hlb, hsz, i1, i2, i3, ⟨hCd, hcc⟩, c0, c1, c2, c3, c4, c5⟩ := HF.out.fnc h2
  have hlt : f < (nf : Int) := by have := HL.out; omega
  have hf0 : ¬ f < 0 := by omega
  have hf1 : ¬ (nf : Int) ≤ f := by omega
  have hrg := HPO.out g (List.mem_of_getElem? h2)
  have HG2 := Lib.hid i3
  have HG0 := Lib.hid h2
  clear hc hfn h1 h2 i1 i2 i3 hCd
  have HO : Hid (∀ W, Ext w W → Calls Tryz.prog 58 #[.slice A n c, .func (.func 59) #[] #[]] W fun e w' => e = .returned (.bool (!args.all numB)) ∧ Ext W w') := fun W hW => outs_any A n c args W (HA.out.mono RInt.stays hW)
  obtain ⟨q, hq⟩ : ∃ q, args.all numB = q := ⟨_, rfl⟩
  rw [hq] at HR HO
  have HQA := Lib.hid hq
  have HFN := Lib.hid hfn'
  clear hq
  cases hcl : g.cleanup with
  | true =>
    rw [hcl] at c4
    have HR : Hid (startS p f args scope = (zeroTsk, 16)) := by rw [Hid, HR.out, if_pos hcl]
    clear hcl
    go_enter Tryz.func21, Tryz.ntmps21
    go_wp2_with (first | ((with_reducible show wpList _ _ _ ({ dst := _, op := Op.store 32 _ _, type := _, pos := _, after := _, guard := none } :: _) _ _); refine wpList_store_mid rfl 32 _ _ rfl _ _ _ rfl rfl (by exact tr) infoTsk (all_oneCell_toArray (by simp [Value.oneCell'])) ?_; (try dsimp only [Act.put])) | (go_at_call 45; refine (HC.out _ xt).mono ?_; rintro e w1 ⟨rfl, hb⟩; have T1 := there_ext (b := w.heap.size + 1) (o := 0) (n := 14) (by exact tr) hb; obtain ⟨hc, hf, hs, he⟩ := Ext.use (w := w) hb xt; clear hb; (try simp only [World.size_alloc] at hs)))
    refine ret_range2 (b := w.heap.size + 1) Tryz.results21 rfl rfl rfl rfl (World.rangeAt_setCells_same _ _ 0 _ (by exact tr)) ?_
    rw [HR.out]
    exact ⟨_, rfl, zero_reads _, xts⟩
  | false =>
  rw [hcl] at c4
  by_cases hpm : (n : Int) = g.params
  rotate_left
  · have e0 : ((n : Int) != g.params) = true := by simpa using hpm
    have HR : Hid (startS p f args scope = (zeroTsk, 10)) := by rw [Hid, HR.out, if_neg (by rw [hcl]; decide), if_pos hpm]
    clear hcl hpm
    go_enter Tryz.func21, Tryz.ntmps21
    go_wp2_with (first | ((with_reducible show wpList _ _ _ ({ dst := _, op := Op.store 32 _ _, type := _, pos := _, after := _, guard := none } :: _) _ _); refine wpList_store_mid rfl 32 _ _ rfl _ _ _ rfl rfl (by exact tr) infoTsk (all_oneCell_toArray (by simp [Value.oneCell'])) ?_; (try dsimp only [Act.put])) | (go_at_call 45; refine (HC.out _ xt).mono ?_; rintro e w1 ⟨rfl, hb⟩; have T1 := there_ext (b := w.heap.size + 1) (o := 0) (n := 14) (by exact tr) hb; obtain ⟨hc, hf, hs, he⟩ := Ext.use (w := w) hb xt; clear hb; (try simp only [World.size_alloc] at hs)))
    refine ret_range2 (b := w.heap.size + 1) Tryz.results21 rfl rfl rfl rfl (World.rangeAt_setCells_same _ _ 0 _ (by exact tr)) ?_
    rw [HR.out]
    exact ⟨_, rfl, zero_reads _, xts⟩
  have e0 : ((n : Int) != g.params) = false := by simpa using hpm
  have HR : Hid (startS p f args scope = if q = false ∨ scope < 0 ∨ 32 ≤ scope then (zeroTsk, 2) else (firstTsk f g args scope, 0)) := by
    rw [Hid, HR.out, if_neg (by rw [hcl]; decide), if_neg (by simpa using hpm)]
  by_cases hbad : q = false ∨ scope < 0 ∨ 32 ≤ scope
  · have HR : Hid (startS p f args scope = (zeroTsk, 2)) := by rw [Hid, HR.out, if_pos hbad]
    clear hcl hpm
    have hb3 : q = true → ¬ scope < 0 → (32 : Int) ≤ scope := by
      rintro rfl h
      rcases hbad with h' | h' | h'
      · cases h'
      · exact absurd h' h
      · exact h'
    clear hbad
    go_enter Tryz.func21, Tryz.ntmps21
    go_wp2_with (first | ((with_reducible show wpList _ _ _ ({ dst := _, op := Op.store 32 _ _, type := _, pos := _, after := _, guard := none } :: _) _ _); refine wpList_store_mid rfl 32 _ _ rfl _ _ _ rfl rfl (by exact tr) infoTsk (all_oneCell_toArray (by simp [Value.oneCell'])) ?_; (try dsimp only [Act.put])) | (go_at_call 45; refine (HC.out _ xt).mono ?_; rintro e w1 ⟨rfl, hb⟩; have T1 := there_ext (b := w.heap.size + 1) (o := 0) (n := 14) (by exact tr) hb; obtain ⟨hc, hf, hs, he⟩ := Ext.use (w := w) hb xt; clear hb; (try simp only [World.size_alloc] at hs)) | (go_at_call 58; refine (HO.out _ xt).mono ?_; rintro e w2 ⟨rfl, hb⟩; have T2 := there_ext T1 hb; obtain ⟨hc2, hf2, hs2, he2⟩ := Ext.use (w := w) hb xt; clear hb))
    all_goals first
      | (refine ret_range2 (b := w.heap.size + 1) Tryz.results21 rfl rfl rfl rfl (World.rangeAt_setCells_same _ _ 0 _ (by exact tr)) ?_; rw [HR.out]; exact ⟨_, rfl, zero_reads _, xts⟩)
      | (exfalso; simp_all; omega)
  · have HR9 : Hid (startS p f args scope = (firstTsk f g args scope, 0)) := by rw [Hid, HR.out, if_neg hbad]
    have hq1 : q = true := by cases q with | true => rfl | false => exact absurd (.inl rfl) hbad
    have hs0 : ¬ scope < 0 := fun h => hbad (.inr (.inl h))
    have hs1 : ¬ (32 : Int) ≤ scope := fun h => hbad (.inr (.inr h))
    subst hq1
    obtain ⟨k, rfl⟩ : ∃ k : Nat, f = (k : Int) := ⟨f.toNat, by omega⟩
    rw [HR9.out]
    exact Start_ok p k g args scope _ A n c w HPP.out HA.out HFI.out HSI.out HC0.out HFN.out hcl hpm HQA.out hs0 hs1
end Go.Proofs.YtcjjoabofecjmaaGreat

namespace Go.Proofs.YtcjjoabofecjmaaGreat
open Go.RowKit Go.Sort
def insRow (x : Ins) (v : Value) : List Value := [Value.int .i64 x.op, Value.int .i64 x.a, Value.int .i64 x.b, Value.int .i64 x.c, v]
def codeCells (xs : List Ins) : List Value := rowOf insRow xs (List.replicate xs.length (.slice none 0 0))
theorem rins_list {w : World} {C : Nat} {xs : List Ins} (h : w.rangeAt C 0 (codeCells xs)) (hx : ∀ x ∈ xs, x.args = [] ∧ InR x.op ∧ InR x.a ∧ InR x.b ∧ InR x.c) (hn : xs.length ≤ 1000) : RSl 5 RIns w (some ⟨C, 0, none⟩) xs.length xs := by
  refine ⟨rfl, by omega, fun k x hk => ?_⟩
  have hlt := (List.getElem?_eq_some_iff.1 hk).1
  obtain ⟨h1, h2, h3, h4, h5⟩ := hx x (List.mem_of_getElem? hk)
  refine ⟨C, 0, insRow x (.slice none 0 0), rfl, rfl, ⟨none, 0, 0, rfl, h2, h3, h4, h5, by rw [h1]; exact RSl.nil _, Nat.le_refl _⟩, fun j v hj => ?_⟩
  have hj5 : j < 5 := (List.getElem?_eq_some_iff.1 hj).1
  have h6 : (codeCells xs)[k * 5 + j]? = some v := by
    unfold codeCells
    rw [rowOf_get (k := 5) (fun _ _ => rfl) hk (List.getElem?_replicate_of_lt hlt) hj5]; exact hj
  have := h (k * 5 + j) v h6
  rw [Nat.add_assoc]
  exact this
theorem rprg_one {w : World} {name : ByteArray} {regs : Int} {xs : List Ins} {C F c : Nat} (hC : w.rangeAt C 0 (codeCells xs)) (hF : w.rangeAt F 0 [.string name, Value.int .i64 0, Value.int .i64 regs, Value.int .i64 0, .bool false, .slice (some ⟨C, 0, none⟩) xs.length c]) (hc : xs.length ≤ c) (hname : name.size ≤ 1000) (hr : InR regs)
    (hx : ∀ x ∈ xs, x.args = [] ∧ InR x.op ∧ InR x.a ∧ InR x.b ∧ InR x.c) (hn : xs.length ≤ 1000) : RPrg w ⟨[⟨name, 0, regs, 0, false, xs⟩], [], []⟩ (.agg #[.slice (some ⟨F, 0, none⟩) 1 1, .slice none 0 0, .slice none 0 0]) := by
  refine ⟨_, _, _, _, _, _, _, _, _, rfl, ⟨rfl, by decide, fun k x hk => ?_⟩, RSl.nil _, RSl.nil _, Nat.le_refl _, Nat.le_refl _, Nat.le_refl _⟩
  have hk0 : k = 0 := by have := (List.getElem?_eq_some_iff.1 hk).1; simpa using this
  subst hk0
  have hx0 : x = ⟨name, 0, regs, 0, false, xs⟩ := by simpa using hk.symm
  subst hx0
  refine ⟨F, 0, _, rfl, rfl, ⟨_, _, c, rfl, (show name.size ≤ 140737488355328 by omega), (show InR 0 from ⟨by decide, by decide⟩), hr, (show InR 0 from ⟨by decide, by decide⟩), rins_list hC hx hn, hc⟩, fun j v hj => ?_⟩
  have := hF j v hj
  simpa using this
def mainN : ByteArray := ⟨#[109, 97, 105, 110]⟩
def codeA : List Ins := [⟨1, 0, 6, 0, []⟩, ⟨1, 1, 7, 0, []⟩, ⟨5, 0, 0, 1, []⟩, ⟨41, 0, 0, 0, []⟩]
def codeB : List Ins := [⟨1, 0, 6, 0, []⟩, ⟨1, 1, 0, 0, []⟩, ⟨6, 0, 0, 1, []⟩, ⟨41, 0, 0, 0, []⟩]
def prgA : Prg := ⟨[⟨mainN, 0, 2, 0, false, codeA⟩], [], []⟩
def prgB : Prg := ⟨[⟨mainN, 0, 2, 0, false, codeB⟩], [], []⟩
def tskAt (pc a b : Int) : Tsk := ⟨0, 0, 0, 1, 0, 0, false, [⟨0, pc, [a, b], -1, false⟩], [⟨-1, 0, 0, 0, []⟩], 0, false, 0, 0, 0⟩
theorem codeA_in : ∀ x ∈ codeA, x.args = [] ∧ InR x.op ∧ InR x.a ∧ InR x.b ∧ InR x.c := fun x hx => by
  simp only [codeA, List.mem_cons, List.not_mem_nil, or_false] at hx
  rcases hx with rfl | rfl | rfl | rfl <;> simp [InR]
theorem codeB_in : ∀ x ∈ codeB, x.args = [] ∧ InR x.op ∧ InR x.a ∧ InR x.b ∧ InR x.c := fun x hx => by
  simp only [codeB, List.mem_cons, List.not_mem_nil, or_false] at hx
  rcases hx with rfl | rfl | rfl | rfl <;> simp [InR]
theorem codeA_one : ∀ u ∈ codeCells codeA, u.oneCell' = true := List.all_eq_true.1 (show (codeCells codeA).all (·.oneCell') = true by kernel_rfl)
theorem infoInsN : (Tryz.prog.info? 37).map (·.size) = some 5 := by kernel_rfl
theorem codeB_of : ((codeCells codeA).set 7 (Value.int .i64 0)).set 10 (Value.int .i64 6) = codeCells codeB := rfl
def tskCells (VF VB : Value) : List Value := [Value.int .i64 0, Value.int .i64 0, Value.int .i64 0, Value.int .i64 1, Value.int .i64 0, Value.int .i64 0, .bool false, VF, VB, Value.int .i64 0, .bool false, Value.int .i64 0, Value.int .i64 0, Value.int .i64 0]
theorem tsk_parts {w : World} {pc a b : Int} {V : Value} (h : RTsk w (tskAt pc a b) V) : ∃ gF oF cF Ab cb Ar cr, V = .agg (tskCells (.slice (some ⟨gF, oF, none⟩) 1 cF) (.slice Ab 1 cb)).toArray ∧ w.cell? ⟨gF, oF + 1, none⟩ = some (Value.int .i64 pc) ∧ w.cell? ⟨gF, oF + 2, none⟩ = some (.slice Ar 2 cr) ∧ RSl 1 RInt w Ar 2 [a, b] := by
  obtain ⟨Af, nf, cf, Ab, nb, cb, rfl, _, _, _, _, _, _, _, _, _, _, hF, hB, _, _⟩ := h
  have h1 : nf = 1 := hF.len
  have h2 : nb = 1 := hB.len
  subst h1 h2
  obtain ⟨b2, off, Ar, nr, cr, rfl, _, _, _, _, ⟨hR, _⟩, c0, c1, c2, _, _⟩ := hF.frm (k := 0) rfl
  have h3 : nr = 2 := hR.len
  subst h3
  exact ⟨b2, off, cf, Ab, cb, Ar, cr, rfl, by simpa using c1, by simpa using c2, hR⟩
theorem awk_start : startS prgA 0 [] 0 = (tskAt 0 0 0, 0) := by kernel_rfl
theorem awk_go : advanceS prgA (tskAt 0 0 0) = (tskAt 3 42 7, ⟨1, 0, 0⟩, 0) := by kernel_rfl
theorem awk_now : currentS prgA (tskAt 3 42 7) = (⟨41, 0, 0, 0, []⟩, true) := by kernel_rfl
theorem awk_div : advanceS prgB (tskAt 0 0 0) = (tskAt 2 6 0, ⟨3, 6, 0⟩, 0) := by kernel_rfl
end Go.Proofs.YtcjjoabofecjmaaGreat
