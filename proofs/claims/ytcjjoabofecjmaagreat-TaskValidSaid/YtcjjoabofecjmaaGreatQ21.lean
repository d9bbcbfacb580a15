/- A part of the proof: TaskValid answers true. -/
import Derived.Test.YtcjjoabofecjmaaGreatQ04
import Derived.Test.YtcjjoabofecjmaaGreatQ17
import Derived.Test.YtcjjoabofecjmaaGreatQ18
import Derived.Test.YtcjjoabofecjmaaGreatQ19
import Derived.Test.YtcjjoabofecjmaaGreatQ20
import Derived.Test.YtcjjoabofecjmaaGreatQ15
import Derived.Test.YtcjjoabofecjmaaGreatQ16
import Derived.Deep.CutRange
set_option linter.unusedVariables false
set_option linter.unusedSimpArgs false
namespace Go.Proofs.YtcjjoabofecjmaaGreat
open Go.RowKit Go.Sort
section
variable {P : Program} {ops : Array Oper} {Q : Exit → Act → World → Prop} {S : World → Prop}
theorem thn (i : Nat) {n g f : Nat} {oi : Oper} {l : List Oper} {listed : Array Bool} {a : Act} {w : World} (T : TOk ops n)
    (h : THeld P ops Q S l g n f (listed.setIfInBounds i true) (a.put oi.dst undef) w)
    (hin : i < n := by decide) (hf : Region.free .any ops listed i = true := by kernel_rfl) (hr : (Region.ready .any ops listed).contains i = true := by kernel_rfl) (hS : S w := by assumption)
    (hi : ops[i]? = some oi := by (simp only [List.getElem?_toArray, List.getElem?_cons_zero, List.getElem?_cons_succ]; rfl))
    (hw : Region.wanted oi (yielded ops a.tmps) = false := by exact rfl)
    (hQ : ∀ c a w, Q (.panic c) (a.put oi.dst undef) w → Q (.panic c) a w := by exact fun _ _ _ h => h) : THeld P ops Q S l g n (f + 1) listed a w :=
  th_take T hi hin hf hr hQ (.inr ⟨hw, rfl⟩) hS h
end
theorem RTsk.cellsV {w : World} {t : Tsk} {V : Value} (h : RTsk w t V) : ∃ (c : Cells14) (VF VB : Value), V = .agg c.l.toArray ∧ c.l = tskL t VF VB ∧ (∀ u ∈ tskL (readyT t) VF VB, u.oneCell' = true) ∧ ∀ W, Ext w W → RTsk W (readyT t) (.agg (tskL (readyT t) VF VB).toArray) := by
  have hi := h.inr
  obtain ⟨Af, nf, cf, Ab, nb, cb, rfl, _, _, _, _, _, _, _, _, _, _, hF, hB, h1, h2⟩ := h
  refine ⟨⟨tskL t (.slice Af nf cf) (.slice Ab nb cb), rfl, by simp [tskL, Value.oneCell']⟩, _, _, rfl, rfl, by simp [tskL, Value.oneCell'], fun W hW => ?_⟩
  exact rtsk_of (t := readyT t) ⟨hi.1, hi.2.1, hi.2.2.1, ⟨by show _ ≤ (1 : Int); decide, by show (1 : Int) ≤ _; decide⟩, zero_in, zero_in, hi.2.2.2.2.2.2.1, hi.2.2.2.2.2.2.2.1, hi.2.2.2.2.2.2.2.2.1, hi.2.2.2.2.2.2.2.2.2⟩ (hF.mono RFrm.stays hW) h1 (hB.mono RBlk.stays hW) h2
theorem adv_lawV {p : Prg} {t u : Tsk} {k r v er : Int} {VP VT : Value} {w : World} (h : advanceS p t = (u, ⟨k, r, v⟩, er)) (hP : RPrg w p VP) (hT : RTsk w t VT) :
    Calls Tryz.prog 24 #[VP, VT] w fun e w' => ∃ V', e = .returned (.tuple #[V', .agg #[Value.int .i64 k, Value.int .i64 r, Value.int .i64 v], Value.int .i64 er]) ∧ RTsk w' u V' ∧ Ext w w' := by
  have := Advance_any p t VP VT w hP hT
  unfold AdvPost at this
  rw [h] at this
  exact this
theorem valid_nums {p : Prg} {t : Tsk} (h : tcheckS p t = 0) : checkS p = 0 ∧ numsB p t = true := by
  unfold tcheckS at h
  split at h
  · cases h
  · rename_i h1
    simp only [not_or, ne_eq, Decidable.not_not, Bool.not_eq_false] at h1
    exact ⟨h1.1, h1.2.1⟩
theorem start_law {p : Prg} {t : Tsk} (h : tcheckS p t = 0) : ∃ g N u, fnAt p t.fn = some g ∧ g.params = ((N : Nat) : Int) ∧ N ≤ 8 ∧ startS p t.fn (List.replicate N 0) t.scope = (u, 0) ∧ tcheckS p u = 0 := by
  obtain ⟨hc, hn⟩ := valid_nums h
  obtain ⟨g, hg, hcl, _, hs, _⟩ := nums_iff.1 hn
  have hgo := fn_ok hc (fnAt_mem hg)
  have hp := hgo.par
  have hz : ∀ x ∈ List.replicate g.params.toNat (0 : Int), numB x = true := fun x hx => by rw [List.eq_of_mem_replicate hx]; decide
  have hal : ((List.replicate g.params.toNat (0 : Int)).length : Int) = g.params := by rw [List.length_replicate]; omega
  refine ⟨g, g.params.toNat, firstTsk t.fn g (List.replicate g.params.toNat 0) t.scope, hg, by omega, by omega, ?_, start_valid hc hg hcl hal hz hs⟩
  unfold startS
  rw [if_neg (by simpa using hc), hg]
  dsimp only
  rw [if_neg (by rw [hcl]; decide), if_neg (by rw [hal]; simp), if_neg]
  simp only [not_or, Bool.not_eq_false]
  exact ⟨List.all_eq_true.2 hz, by omega, by omega⟩
theorem handle_status {p : Prg} {t : Tsk} (h : (handleS p t).2.2 = 0) : t.status = 1 := by
  unfold handleS at h
  split at h
  · cases h
  · split at h
    · cases h
    · rename_i h1
      exact Decidable.not_not.1 fun e => h1 (.inl e)
theorem current_now {p : Prg} {t : Tsk} {x : Ins} (h : currentS p t = (x, true)) : nowS p t = some x := by
  unfold currentS at h
  split at h
  · injection h with _ h; cases h
  · cases hn : nowS p t with
    | none => rw [hn] at h; injection h with _ h; cases h
    | some y => rw [hn] at h; injection h with h; rw [h]
theorem now_frames {p : Prg} {t : Tsk} {x : Ins} (h : nowS p t = some x) : t.frames.length ≠ 0 := fun h0 => by
  unfold nowS at h
  rw [List.getElem?_eq_none (by omega)] at h
  cases h
theorem infoWait : (Tryz.prog.info? 28).map (·.size) = some 3 := by kernel_rfl
theorem RSl.zeros {W : World} {b N : Nat} (h : W.rangeAt b 0 (List.replicate N (Value.int .i64 0))) (hN : N ≤ 8) : RSl 1 RInt W (some ⟨b, 0, none⟩) N (List.replicate N 0) := by
  refine ⟨by simp, by omega, fun k x hk => ?_⟩
  have hkN : k < N := by have := (List.getElem?_eq_some_iff.1 hk).1; simpa using this
  have hx : x = 0 := List.eq_of_mem_replicate (List.mem_of_getElem? hk)
  subst hx
  refine ⟨b, 0, [Value.int .i64 0], rfl, rfl, ⟨rfl, zero_in⟩, fun j v hj => ?_⟩
  cases j with
  | succ j => simp at hj
  | zero =>
    simp only [List.getElem?_cons_zero, Option.some.injEq] at hj
    subst hj
    have := h k (Value.int .i64 0) (by rw [List.getElem?_replicate, if_pos hkN])
    simpa using this
set_option maxRecDepth 8000 in
set_option maxHeartbeats 8000000 in
theorem valid_main (p : Prg) (t : Tsk) (level reason e1 e2 : Int) (VP VT : Value) (w : World) (hP : RPrg w p VP) (hT : RTsk w t VT) (hg : (greatP p || greatT t) = false) (hv : tcheckS p t = 0) (h2 : -1099511627776 ≤ e2 ∧ e2 ≤ 1099511627776) (hl : InR level) (hr : InR reason) :
    Calls Tryz.prog 12 #[VP, VT, Value.int .i64 level, Value.int .i64 reason, .agg #[Value.int .i64 e1, Value.int .i64 e2]] w fun e w' => e = .returned (.bool true) ∧ Ext w w' := by
  have HG := Lib.hid (fun W (h : Ext w W) => great_any p t VP VT W (hP.mono h) (hT.mono h))
  rw [hg] at HG
  have HC := Lib.hid (fun W (h : Ext w W) => tCheck_any p t VP VT W (hP.mono h) (hT.mono h))
  rw [hv] at HC
  have HV := Lib.hid hv
  have HP := Lib.hid hP
  have HT := Lib.hid hT
  have HL := Lib.hid hl
  have HR := Lib.hid hr
  obtain ⟨g, N, u1, hgf, hgp, hN8, hst1, hv1⟩ := start_law hv
  have HST := Lib.hid hst1
  have HV1 := Lib.hid hv1
  obtain ⟨ct, VF, VB, rfl, hcl, hrd⟩ := hT.cellsV
  have HCL := Lib.hid hcl
  obtain ⟨cu, hcu, hrd⟩ : ∃ cu : Cells14, cu.l = tskL (readyT t) VF VB ∧ ∀ W, Ext w W → RTsk W (readyT t) (.agg cu.l.toArray) := ⟨⟨tskL (readyT t) VF VB, rfl, hrd.1⟩, rfl, hrd.2⟩
  have HCU := Lib.hid hcu
  have HRD := Lib.hid hrd
  obtain ⟨n1, n2, n3, n4⟩ := not_great (show greatT t = false by simp only [Bool.or_eq_false_iff] at hg; exact hg.2)
  have HNN := Lib.hid (And.intro (show (readyT t).frames.length ≤ 1000 by show t.frames.length ≤ 1000; omega) (And.intro (show (readyT t).blocks.length ≤ 1000 by show t.blocks.length ≤ 1000; omega) (And.intro (show ∀ f : Frm, f ∈ (readyT t).frames → f.regs.length ≤ 1000 from fun f hf => by have := n3 f hf; omega) (show ∀ b : Blk, b ∈ (readyT t).blocks → b.handlers.length ≤ 1000 from fun b hb => by have := n4 b hb; omega))))
  obtain ⟨⟨u5, er5⟩, hq5⟩ : ∃ x, resumeS (readyT t) = x := ⟨_, rfl⟩
  have HRM : Hid (∀ W, Ext w W → Calls Tryz.prog 34 #[.agg cu.l.toArray] W fun e w' => ∃ V', e = .returned (.tuple #[V', Value.int .i64 er5]) ∧ RTsk w' u5 V' ∧ Ext W w') := fun W hW => by
    have := resume_any (readyT t) _ W (hrd W hW) HNN.out.1 HNN.out.2.1 HNN.out.2.2.1 HNN.out.2.2.2
    rw [hq5] at this
    exact this
  have HV5 : Hid (t.status ≠ 3 → er5 = 0 → tcheckS p u5 = 0) := fun h1 h2 => by have := resume_valid (ready_valid hv h1) rfl (by rw [hq5]; exact h2); rw [hq5] at this; exact this
  obtain ⟨Af, nf, cf, Ao, no, co, Av, nv, cv, rfl, hF, _⟩ := hP
  obtain ⟨g0, g1, g2⟩ := fnAt_some hgf
  obtain ⟨bF, off, Ac, nc, cc, rfl, hlb, _, _, _, _, _, d0, d1, d2, d3, d4, d5⟩ := hF.fnc g2
  have hlt : t.fn < (nf : Int) := by have := hF.len; omega
  have hnl := hF.le
  rw [hgp] at d1
  have hm1 : ¬ e2 < -1099511627776 := by omega
  have hm2 : ¬ (1099511627776 : Int) < e2 := by omega
  have hmk := fun W => run_make_row' (P := Tryz.prog) 35 3 (.int .i64 0) 8 Tryz.underlying35 infoInt rfl .i64 .i64 N (by omega) (by omega) W
  have HX : Hid (∀ W A, Ext w W → RSl 1 RInt W A N (List.replicate N 0) → Calls Tryz.prog 21 #[.agg #[.slice (some ⟨bF, off, none⟩) nf cf, .slice Ao no co, .slice Av nv cv], Value.int .i64 t.fn, .slice A N N, Value.int .i64 t.scope] W fun e w' => ∃ V', e = .returned (.tuple #[V', Value.int .i64 0]) ∧ RTsk w' u1 V' ∧ Ext W w') := fun W A hW hA => by
    have := Start_any p t.fn (List.replicate N 0) t.scope _ A N N W (HP.out.mono hW) hA HT.out.inr.1 HT.out.inr.2.1
    rw [hst1] at this
    exact this
  obtain ⟨⟨u2, ⟨sk, sr, sv⟩, er2⟩, hq2⟩ : ∃ r, advanceS p t = r := ⟨_, rfl⟩
  have HA := Lib.hid (fun W (h : Ext w W) => adv_lawV hq2 (HP.out.mono h) (HT.out.mono h))
  have HV2 : Hid (er2 = 0 → tcheckS p u2 = 0) := fun h => by have := advance_valid (p := p) (t := t) (by rw [hq2]; exact h); rw [hq2] at this; exact this
  obtain ⟨⟨u3, y, er3⟩, hq3⟩ : ∃ r, handleS p t = r := ⟨_, rfl⟩
  have HH := Lib.hid (fun W (h : Ext w W) => Handle_any p t _ _ W (HP.out.mono h) (HT.out.mono h))
  rw [hq3] at HH
  unfold HandPost at HH
  dsimp only at HH
  have HV3 : Hid (er3 = 0 → tcheckS p u3 = 0) := fun h => by have := handle_valid hv (handle_status (p := p) (t := t) (by rw [hq3]; exact h)) (by rw [hq3]; exact h); rw [hq3] at this; exact this
  have hin2 : InR e2 := ⟨by omega, by omega⟩
  obtain ⟨⟨x, is⟩, hqc⟩ : ∃ r, currentS p t = r := ⟨_, rfl⟩
  have HCur := Lib.hid (fun W (h : Ext w W) => Current_any p t _ _ W (HP.out.mono h) (HT.out.mono h))
  rw [hqc] at HCur
  dsimp only at HCur
  unfold insV at HCur
  have HNZ : Hid (is = true → t.frames.length ≠ 0) := fun h => now_frames (current_now (p := p) (x := x) (by rw [hqc, h]))
  have HC7 : Hid (is = true → ∀ W V, Ext w W → RTsk W (finishS t [(e1, e2)]) V → Calls Tryz.prog 17 #[.agg #[.slice (some ⟨bF, off, none⟩) nf cf, .slice Ao no co, .slice Av nv cv], V] W fun e w' => e = .returned (Value.int .i64 0) ∧ Ext W w') := fun h W V hW hV => by
    have := tCheck_any p _ _ V W (HP.out.mono hW) hV
    rw [finish_valid (e := (e1, e2)) hv (current_now (p := p) (x := x) (by rw [hqc, h])) (by unfold numB; rw [inB_iff]; exact h2)] at this
    exact this
  obtain ⟨vis, hvis⟩ : ∃ q, visS x.op = q := ⟨_, rfl⟩
  have HSS : Hid (t.status = 1 ∨ t.status = 2 ∨ t.status = 3) := by
    obtain ⟨_, _, _, _, _, _, _, h1, h2⟩ := nums_iff.1 (valid_nums hv).2
    rw [Hid]; omega
  have HS1 : Hid (t.status = 1 → (er2 == 0) = true) := fun h => by
    have h9 : er2 = 0 := by
      unfold advanceS at hq2
      rw [if_neg (by rw [hv]; simp), if_neg (by rw [h]; simp)] at hq2
      split at hq2
      · injection hq2 with _ h3; injection h3 with _ h4; exact h4.symm
      · injection hq2 with _ h3; injection h3 with _ h4; exact h4.symm
    rw [h9]; rfl
  have HS2 : Hid (t.status ≠ 1 → (er2 == 0) = false ∧ (er3 == 0) = false) := fun h => by
    have h9 : er2 = 17 := by
      unfold advanceS at hq2
      rw [if_neg (by rw [hv]; simp), if_pos h] at hq2
      injection hq2 with _ h3; injection h3 with _ h4; exact h4.symm
    have h8 : er3 = 17 := by
      unfold handleS at hq3
      rw [if_neg (by rw [hv]; simp), if_pos (.inl h)] at hq3
      injection hq3 with _ h3; injection h3 with _ h4; exact h4.symm
    rw [h9, h8]; exact ⟨rfl, rfl⟩
  clear hqc hq2 hq3 hq5 hrd hcu n1 n2 n3 n4 hT hg hv hl hr hst1 hv1 hcl hF hgf g2 d0 d2 d3 d4 d5 hgp
  go_enter Tryz.func12, Tryz.ntmps12
  go_upto_region 3 with (first | ((first | ((with_reducible show Code.wp _ (Code.region _ (List.toArray ({ dst := _, op := Op.load 26 _, type := _, pos := _, after := _, guard := none } :: _)) false) _ _ _); refine wp_region_lit ?_) | (with_reducible show wpList _ _ _ ({ dst := _, op := Op.load 26 _, type := _, pos := _, after := _, guard := none } :: _) _ _)); refine wpList_load_mid rfl 26 _ rfl _ _ rfl _ _ (by exact rg) Tryz.underlying26 rfl (by exact infoPrg) ?_; dsimp only [dZ, dS]) | ((first | ((with_reducible show Code.wp _ (Code.region _ (List.toArray ({ dst := _, op := Op.load 32 _, type := _, pos := _, after := _, guard := none } :: _)) false) _ _ _); refine wp_region_lit ?_) | (with_reducible show wpList _ _ _ ({ dst := _, op := Op.load 32 _, type := _, pos := _, after := _, guard := none } :: _) _ _)); refine wpList_load_mid rfl 32 _ rfl _ _ rfl _ _ (by exact rg) Tryz.underlying32 rfl (by exact Cells14.info _) ?_; dsimp only [dZ, dS]) | ((with_reducible show wpList _ _ _ ({ dst := _, op := Op.load 26 _, type := _, pos := _, after := _, guard := some _ } :: _) _ _); refine wpList_load_mid_g (by rfl) 26 _ rfl _ _ rfl _ _ (by exact rg) Tryz.underlying26 rfl (by exact infoPrg) ?_; dsimp only [dZ, dS]) | ((with_reducible show wpList _ _ _ ({ dst := _, op := Op.load 32 _, type := _, pos := _, after := _, guard := some _ } :: _) _ _); refine wpList_load_mid_g (by rfl) 32 _ rfl _ _ rfl _ _ (by exact rg) Tryz.underlying32 rfl (by exact Cells14.info _) ?_; dsimp only [dZ, dS]) | (go_at_call 13; refine (HG.out _ xt).mono ?_; rintro e w1 ⟨rfl, hb⟩; have R1 := range_ext (b := w.heap.size + 1) (o := 0) (by exact rg) hb; have Q1 := range_ext (b := w.heap.size) (o := 0) (cs := [.slice (some ⟨bF, off, none⟩) nf cf, .slice Ao no co, .slice Av nv cv]) (by exact rg) hb; have X1 := range_ext (b := w.heap.size + 1 + 1) (o := 0) (cs := [Value.int .i64 e1, Value.int .i64 e2]) (by exact rg) hb; have HE1 : Hid (Ext w w1) := Ext.trans xt hb; clear hb) | (go_at_call 17; refine (HC.out _ HE1.out).mono ?_; rintro e w2 ⟨rfl, hb⟩; have R2 := range_ext R1 hb; have Q2 := range_ext Q1 hb; have X2 := range_ext X1 hb; have HE2 : Hid (Ext w w2) := Ext.trans HE1.out hb; have y2 : w2.cell? ⟨w.heap.size + 1 + 1, 1, none⟩ = some (Value.int .i64 e2) := X2 1 _ rfl; have z2 := lt_of_cell y2; clear hb))
  refine wp_hid2 ?_
  intro W2 HW2
  have HF2 : Hid (Ext w2 W2) := by rw [Hid, HW2.out]; exact xt
  have HE2 : Hid (Ext w W2) := HE2.out.trans HF2.out
  have R2 := range_ext R2 HF2.out
  have Q2 := range_ext Q2 HF2.out
  have X2 := range_ext X2 HF2.out
  clear HW2 R1 Q1 X1 HE1 HF2 HG y2 z2
  go_cut [52] from 47 to 51 (fun s52 wx => s52 = .bool (decide (reason < 0) || decide (9 < reason)) ∧ wx = W2)
  case first =>
    by_cases a1 : reason < 0
    · go_wp2
      go_meet
      exact ⟨by simp [a1], rfl⟩
    · by_cases a2 : (9 : Int) < reason
      · go_wp2
        go_meet
        exact ⟨by simp [a2], rfl⟩
      · go_wp2
        go_meet
        exact ⟨by simp [a1, a2], rfl⟩
  case rest =>
  obtain ⟨rfl, rfl⟩ := hcut
  obtain ⟨q, hq⟩ : ∃ q, (decide (reason < 0) || decide ((9 : Int) < reason)) = q := ⟨_, rfl⟩
  rw [hq]
  have HQ := Lib.hid hq
  clear hq
  go_upto_if 52 with fail
  go_cut [3] from 47 to 52 (fun s3 wx => ∃ r, s3 = .int .i64 r ∧ Hid (okReason r) ∧ wx = wc)
  case first =>
    cases q with
    | true =>
      go_wp2
      go_meet
      exact ⟨100, rfl, .inr ⟨by decide, by decide⟩, rfl⟩
    | false =>
      have HQ1 : Hid (okReason reason) := by
        have := HQ.out
        simp only [Bool.or_eq_false_iff, decide_eq_false_iff_not] at this
        exact .inl ⟨by omega, by omega⟩
      go_wp2
      go_meet
      exact ⟨reason, rfl, HQ1, rfl⟩
  case rest =>
    obtain ⟨r, rfl, HRS, hww⟩ := hcut
    subst hww
    have q0 : wc.cell? ⟨w.heap.size, 0, none⟩ = some (.slice (some ⟨bF, off, none⟩) nf cf) := Q2 0 _ rfl
    have r0 : wc.cell? ⟨w.heap.size + 1, 0, none⟩ = some (Value.int .i64 t.fn) := R2 0 _ (by rw [HCL.out]; rfl)
    have p1 := HE2.out.cell d1
    have zz := lt_of_cell r0
    have zq := lt_of_cell p1
    go_upto_region 6 with fail
    refine wp_hid2 ?_
    intro W3 HWW
    have HFF : Hid (Ext wc W3) := by rw [Hid, HWW.out]; exact (Ext.refl _).alloc _
    have HA3 : Hid (RSl 1 RInt W3 (some ⟨wc.heap.size, 0, none⟩) N (List.replicate N 0)) := by rw [Hid, HWW.out, madeCells_one]; exact RSl.zeros (range_new rfl) hN8
    have HE3 : Hid (Ext w W3) := HE2.out.trans HFF.out
    have R3 : W3.rangeAt (w.heap.size + 1) 0 ct.l := range_ext R2 HFF.out
    have Q3 : W3.rangeAt w.heap.size 0 [.slice (some ⟨bF, off, none⟩) nf cf, .slice Ao no co, .slice Av nv cv] := range_ext Q2 HFF.out
    have X3 : W3.rangeAt (w.heap.size + 1 + 1) 0 [Value.int .i64 e1, Value.int .i64 e2] := range_ext X2 HFF.out
    clear HWW HFF q0 r0 p1 zz zq hmk R2 Q2 X2 HE2
    have r0 : W3.cell? ⟨w.heap.size + 1, 0, none⟩ = some (Value.int .i64 t.fn) := R3 0 _ (by rw [HCL.out]; rfl)
    have r1 : W3.cell? ⟨w.heap.size + 1, 1, none⟩ = some (Value.int .i64 t.scope) := R3 1 _ (by rw [HCL.out]; rfl)
    have zz := lt_of_cell r0
    go_upto_region 7 with (first | ((first | ((with_reducible show Code.wp _ (Code.region _ (List.toArray ({ dst := _, op := Op.load 26 _, type := _, pos := _, after := _, guard := none } :: _)) false) _ _ _); refine wp_region_lit ?_) | (with_reducible show wpList _ _ _ ({ dst := _, op := Op.load 26 _, type := _, pos := _, after := _, guard := none } :: _) _ _)); refine wpList_load_mid rfl 26 _ rfl _ _ rfl _ _ (by exact rg) Tryz.underlying26 rfl (by exact infoPrg) ?_; dsimp only [dZ, dS]) | ((first | ((with_reducible show Code.wp _ (Code.region _ (List.toArray ({ dst := _, op := Op.load 32 _, type := _, pos := _, after := _, guard := none } :: _)) false) _ _ _); refine wp_region_lit ?_) | (with_reducible show wpList _ _ _ ({ dst := _, op := Op.load 32 _, type := _, pos := _, after := _, guard := none } :: _) _ _)); refine wpList_load_mid rfl 32 _ rfl _ _ rfl _ _ (by exact rg) Tryz.underlying32 rfl (by exact Cells14.info _) ?_; dsimp only [dZ, dS]) | ((with_reducible show wpList _ _ _ ({ dst := _, op := Op.store 32 _ _, type := _, pos := _, after := _, guard := none } :: _) _ _); refine wpList_store_mid rfl 32 _ _ rfl _ _ (List.toArray (Cells14.l _)) rfl rfl (by refine Cells14.there _ ?_; exact tr) (Cells14.infoA _) (Cells14.oneA _) ?_; (try dsimp only [Act.put])) | (go_at_call 21; refine (HX.out _ _ HE3.out HA3.out).mono ?_; rintro e w4 ⟨VV, rfl, hTT, hbb⟩; obtain ⟨c1, rfl⟩ := hTT.cells; have HTT := Lib.hid hTT; have HBB := Lib.hid hbb; clear hTT hbb))
    refine wp_hid2 ?_
    intro W4 HWW
    have HFF : Hid (Ext W3 W4) := by have h := HBB.out; have h2 := h.size; rw [Hid, HWW.out]; exact xts
    have HGG : Hid (Ext w4 W4) := by rw [Hid, HWW.out]; exact xts
    have HE4 : Hid (Ext w W4) := HE3.out.trans HFF.out
    have R4 : W4.rangeAt (w.heap.size + 1) 0 ct.l := range_ext R3 HFF.out
    have Q4 : W4.rangeAt w.heap.size 0 [.slice (some ⟨bF, off, none⟩) nf cf, .slice Ao no co, .slice Av nv cv] := range_ext Q3 HFF.out
    have X4 : W4.rangeAt (w.heap.size + 1 + 1) 0 [Value.int .i64 e1, Value.int .i64 e2] := range_ext X3 HFF.out
    have A1 : W4.rangeAt w4.heap.size 0 c1.l := by rw [HWW.out]; exact c1.same (there_new rfl rfl)
    have HT1 : Hid (RTsk W4 u1 (.agg c1.l.toArray)) := HTT.out.mono HGG.out
    clear HWW HTT HBB HFF HGG R3 Q3 X3 HE3
    clear r0 r1 zz HA3 HX
    go_upto_region 8 with (first | ((first | ((with_reducible show Code.wp _ (Code.region _ (List.toArray ({ dst := _, op := Op.load 26 _, type := _, pos := _, after := _, guard := none } :: _)) false) _ _ _); refine wp_region_lit ?_) | (with_reducible show wpList _ _ _ ({ dst := _, op := Op.load 26 _, type := _, pos := _, after := _, guard := none } :: _) _ _)); refine wpList_load_mid rfl 26 _ rfl _ _ rfl _ _ (by exact rg) Tryz.underlying26 rfl (by exact infoPrg) ?_; dsimp only [dZ, dS]) | ((first | ((with_reducible show Code.wp _ (Code.region _ (List.toArray ({ dst := _, op := Op.load 32 _, type := _, pos := _, after := _, guard := none } :: _)) false) _ _ _); refine wp_region_lit ?_) | (with_reducible show wpList _ _ _ ({ dst := _, op := Op.load 32 _, type := _, pos := _, after := _, guard := none } :: _) _ _)); refine wpList_load_mid rfl 32 _ rfl _ _ rfl _ _ (by exact rg) Tryz.underlying32 rfl (by exact Cells14.info _) ?_; dsimp only [dZ, dS]) | ((with_reducible show wpList _ _ _ ({ dst := _, op := Op.store 32 _ _, type := _, pos := _, after := _, guard := none } :: _) _ _); refine wpList_store_mid rfl 32 _ _ rfl _ _ (List.toArray (Cells14.l _)) rfl rfl (by refine Cells14.there _ ?_; exact tr) (Cells14.infoA _) (Cells14.oneA _) ?_; (try dsimp only [Act.put])) | ((first | ((with_reducible show Code.wp _ (Code.region _ (List.toArray ({ dst := _, op := Op.store 49 _ _, type := _, pos := _, after := _, guard := none } :: _)) false) _ _ _); refine wp_region_lit ?_) | (with_reducible show wpList _ _ _ ({ dst := _, op := Op.store 49 _ _, type := _, pos := _, after := _, guard := none } :: _) _ _)); refine wpList_store_mid rfl 49 _ _ rfl _ _ _ rfl rfl (by exact tr) infoStop (all_oneCell_toArray (by simp [Value.oneCell'])) ?_; (try dsimp only [Act.put])) | (go_at_call 24; refine (HA.out _ HE4.out).mono ?_; rintro e w5 ⟨VV, rfl, hTT, hbb⟩; obtain ⟨c2, rfl⟩ := hTT.cells; have HTT := Lib.hid hTT; have HBB := Lib.hid hbb; clear hTT hbb))
    refine wp_hid2 ?_
    intro W5 HWW
    have HFF : Hid (Ext W4 W5) := by have h := HBB.out; have h2 := h.size; rw [Hid, HWW.out]; exact xts
    have HGG : Hid (Ext w5 W5) := by rw [Hid, HWW.out]; exact xts
    have HE5 : Hid (Ext w W5) := HE4.out.trans HFF.out
    have R5 : W5.rangeAt (w.heap.size + 1) 0 ct.l := range_ext R4 HFF.out
    have Q5 : W5.rangeAt w.heap.size 0 [.slice (some ⟨bF, off, none⟩) nf cf, .slice Ao no co, .slice Av nv cv] := range_ext Q4 HFF.out
    have X5 : W5.rangeAt (w.heap.size + 1 + 1) 0 [Value.int .i64 e1, Value.int .i64 e2] := range_ext X4 HFF.out
    replace A1 : W5.rangeAt w4.heap.size 0 c1.l := range_ext A1 HFF.out
    replace HT1 : Hid (RTsk W5 u1 (.agg c1.l.toArray)) := HT1.out.mono HFF.out
    have A2 : W5.rangeAt w5.heap.size 0 c2.l := by rw [HWW.out]; exact (ranges_two (by omega) (c2.there' (by exact tr)) (by show World.there _ _ 0 3; exact tr)).1
    have HT2 : Hid (RTsk W5 u2 (.agg c2.l.toArray)) := HTT.out.mono HGG.out
    clear HWW HTT HBB HFF HGG R4 Q4 X4 HE4
    clear HA
    go_upto_region 9 with (first | ((first | ((with_reducible show Code.wp _ (Code.region _ (List.toArray ({ dst := _, op := Op.load 26 _, type := _, pos := _, after := _, guard := none } :: _)) false) _ _ _); refine wp_region_lit ?_) | (with_reducible show wpList _ _ _ ({ dst := _, op := Op.load 26 _, type := _, pos := _, after := _, guard := none } :: _) _ _)); refine wpList_load_mid rfl 26 _ rfl _ _ rfl _ _ (by exact rg) Tryz.underlying26 rfl (by exact infoPrg) ?_; dsimp only [dZ, dS]) | ((first | ((with_reducible show Code.wp _ (Code.region _ (List.toArray ({ dst := _, op := Op.load 32 _, type := _, pos := _, after := _, guard := none } :: _)) false) _ _ _); refine wp_region_lit ?_) | (with_reducible show wpList _ _ _ ({ dst := _, op := Op.load 32 _, type := _, pos := _, after := _, guard := none } :: _) _ _)); refine wpList_load_mid rfl 32 _ rfl _ _ rfl _ _ (by exact rg) Tryz.underlying32 rfl (by exact Cells14.info _) ?_; dsimp only [dZ, dS]) | ((with_reducible show wpList _ _ _ ({ dst := _, op := Op.store 32 _ _, type := _, pos := _, after := _, guard := none } :: _) _ _); refine wpList_store_mid rfl 32 _ _ rfl _ _ (List.toArray (Cells14.l _)) rfl rfl (by refine Cells14.there _ ?_; exact tr) (Cells14.infoA _) (Cells14.oneA _) ?_; (try dsimp only [Act.put])) | ((first | ((with_reducible show Code.wp _ (Code.region _ (List.toArray ({ dst := _, op := Op.store 58 _ _, type := _, pos := _, after := _, guard := none } :: _)) false) _ _ _); refine wp_region_lit ?_) | (with_reducible show wpList _ _ _ ({ dst := _, op := Op.store 58 _ _, type := _, pos := _, after := _, guard := none } :: _) _ _)); refine wpList_store_mid rfl 58 _ _ rfl _ _ _ rfl rfl (by exact tr) infoHdl2 (all_oneCell_toArray (by simp [Value.oneCell'])) ?_; (try dsimp only [Act.put])) | (go_at_call 28; refine (HH.out _ HE5.out).mono ?_; rintro e w6 ⟨VV, AA, nn, cc2, rfl, hTT, _, _, hbb⟩; obtain ⟨c3, rfl⟩ := hTT.cells; have HTT := Lib.hid hTT; have HBB := Lib.hid hbb; clear hTT hbb))
    refine wp_hid2 ?_
    intro W6 HWW
    have HFF : Hid (Ext W5 W6) := by have h := HBB.out; have h2 := h.size; rw [Hid, HWW.out]; exact xts
    have HGG : Hid (Ext w6 W6) := by rw [Hid, HWW.out]; exact xts
    have HE6 : Hid (Ext w W6) := HE5.out.trans HFF.out
    have R6 : W6.rangeAt (w.heap.size + 1) 0 ct.l := range_ext R5 HFF.out
    have Q6 : W6.rangeAt w.heap.size 0 [.slice (some ⟨bF, off, none⟩) nf cf, .slice Ao no co, .slice Av nv cv] := range_ext Q5 HFF.out
    have X6 : W6.rangeAt (w.heap.size + 1 + 1) 0 [Value.int .i64 e1, Value.int .i64 e2] := range_ext X5 HFF.out
    replace A1 : W6.rangeAt w4.heap.size 0 c1.l := range_ext A1 HFF.out
    replace HT1 : Hid (RTsk W6 u1 (.agg c1.l.toArray)) := HT1.out.mono HFF.out
    replace A2 : W6.rangeAt w5.heap.size 0 c2.l := range_ext A2 HFF.out
    replace HT2 : Hid (RTsk W6 u2 (.agg c2.l.toArray)) := HT2.out.mono HFF.out
    have A3 : W6.rangeAt w6.heap.size 0 c3.l := by rw [HWW.out]; exact (ranges_two (by omega) (c3.there' (by exact tr)) (by show World.there _ _ 0 2; exact tr)).1
    have HT3 : Hid (RTsk W6 u3 (.agg c3.l.toArray)) := HTT.out.mono HGG.out
    clear HWW HTT HBB HFF HGG R5 Q5 X5 HE5
    clear HH
    go_upto_region 10 with (first | ((first | ((with_reducible show Code.wp _ (Code.region _ (List.toArray ({ dst := _, op := Op.load 32 _, type := _, pos := _, after := _, guard := none } :: _)) false) _ _ _); refine wp_region_lit ?_) | (with_reducible show wpList _ _ _ ({ dst := _, op := Op.load 32 _, type := _, pos := _, after := _, guard := none } :: _) _ _)); refine wpList_load_mid rfl 32 _ rfl _ _ rfl _ _ (by exact rg) Tryz.underlying32 rfl (by exact Cells14.info _) ?_; dsimp only [dZ, dS]) | ((with_reducible show wpList _ _ _ ({ dst := _, op := Op.store 32 _ _, type := _, pos := _, after := _, guard := none } :: _) _ _); refine wpList_store_mid rfl 32 _ _ rfl _ _ (List.toArray (Cells14.l _)) rfl rfl (by refine Cells14.there _ ?_; exact tr) (Cells14.infoA _) (Cells14.oneA _) ?_; (try dsimp only [Act.put])))
    refine wp_hid2 ?_
    intro W7 HWW
    have HF7 : Hid (Ext W6 W7) := by rw [Hid, HWW.out]; exact xts
    have A7 : W7.rangeAt W6.heap.size 0 ct.l := by rw [HWW.out]; exact ct.same (there_new rfl rfl)
    have z6 : W6.heap.size < W7.heap.size := by rw [HWW.out, setCells_size]; simp
    have T0 : W7.there W6.heap.size 0 14 := by rw [HWW.out]; exact there_sets (there_new rfl rfl)
    clear HWW
    have a3 : W7.cell? ⟨W6.heap.size, 3, none⟩ = some (Value.int .i64 t.status) := A7 3 _ (by rw [HCL.out]; rfl)
    have f3 := (T0 3 (by omega)).2
    have T4 : W7.there W6.heap.size 4 3 := fun j hj => by have := T0 (4 + j) (by omega); simpa [Nat.zero_add] using this
    go_upto_region 11 with (first | ((first | ((with_reducible show Code.wp _ (Code.region _ (List.toArray ({ dst := _, op := Op.store 28 _ _, type := _, pos := _, after := _, guard := none } :: _)) false) _ _ _); refine wp_region_lit ?_) | (with_reducible show wpList _ _ _ ({ dst := _, op := Op.store 28 _ _, type := _, pos := _, after := _, guard := none } :: _) _ _)); refine wpList_store_mid rfl 28 _ _ rfl _ _ _ rfl rfl (by exact tr) infoWait (all_oneCell_toArray (by simp [Value.oneCell'])) ?_; (try dsimp only [Act.put])))
    refine wp_hid2 ?_
    intro W8 HWW
    have HFF : Hid (Ext W6 W8) := by rw [Hid, HWW.out]; exact (HF7.out.setCell (Nat.le_refl _) _).setCells (Nat.le_refl _) 4 _
    have HE8 : Hid (Ext w W8) := HE6.out.trans HFF.out
    have R8 : W8.rangeAt (w.heap.size + 1) 0 ct.l := range_ext R6 HFF.out
    have Q8 : W8.rangeAt w.heap.size 0 [.slice (some ⟨bF, off, none⟩) nf cf, .slice Ao no co, .slice Av nv cv] := range_ext Q6 HFF.out
    have X8 : W8.rangeAt (w.heap.size + 1 + 1) 0 [Value.int .i64 e1, Value.int .i64 e2] := range_ext X6 HFF.out
    replace A1 : W8.rangeAt w4.heap.size 0 c1.l := range_ext A1 HFF.out
    replace HT1 : Hid (RTsk W8 u1 (.agg c1.l.toArray)) := HT1.out.mono HFF.out
    replace A2 : W8.rangeAt w5.heap.size 0 c2.l := range_ext A2 HFF.out
    replace HT2 : Hid (RTsk W8 u2 (.agg c2.l.toArray)) := HT2.out.mono HFF.out
    replace A3 : W8.rangeAt w6.heap.size 0 c3.l := range_ext A3 HFF.out
    replace HT3 : Hid (RTsk W8 u3 (.agg c3.l.toArray)) := HT3.out.mono HFF.out
    have A8 : W8.rangeAt W6.heap.size 0 cu.l := by
      have h4 := range_same (k := 6) (u := .bool false) (range_same (k := 5) (u := Value.int .i64 0) (range_same (k := 4) (u := Value.int .i64 0) (range_same (k := 3) (u := Value.int .i64 1) A7)))
      rw [HCL.out] at h4
      rw [HWW.out, HCU.out]; exact h4
    have HT8 : Hid (RTsk W8 (readyT t) (.agg cu.l.toArray)) := HRD.out _ HE8.out
    clear HWW HFF HF7 A7 z6 T0 a3 f3 T4 R6 Q6 X6 HE6
    obtain ⟨⟨u4, er4⟩, hq4⟩ : ∃ x, interruptS (readyT t) level r = x := ⟨_, rfl⟩
    have hrr : InR r := by have := HRS.out; rcases this with h | h <;> exact ⟨by omega, by omega⟩
    have HI : Hid (∀ W, Ext w W → Calls Tryz.prog 32 #[.agg cu.l.toArray, Value.int .i64 level, Value.int .i64 r] W fun e w' => ∃ V', e = .returned (.tuple #[V', Value.int .i64 er4]) ∧ RTsk w' u4 V' ∧ Ext W w') := fun W hW => by
      have := interrupt_any (readyT t) level r _ W (HRD.out W hW) HNN.out.1 HL.out hrr
      rw [hq4] at this
      exact this
    have HV4 : Hid (t.status ≠ 3 → er4 = 0 → tcheckS p u4 = 0) := fun h1 h2 => by have := interrupt_valid (ready_valid HV.out h1) rfl level r HRS.out (by rw [hq4]; exact h2); rw [hq4] at this; exact this
    obtain ⟨u6, hq6⟩ : ∃ x, failS (readyT t) r = x := ⟨_, rfl⟩
    have HFl : Hid (∀ W, Ext w W → Calls Tryz.prog 39 #[.agg cu.l.toArray, Value.int .i64 r] W fun e w' => ∃ V', e = .returned V' ∧ RTsk w' u6 V' ∧ Ext W w') := fun W hW => by
      have := fail_any (readyT t) r _ W (HRD.out W hW) HNN.out.1 hrr
      rw [hq6] at this
      exact this
    have HV6 : Hid (t.status ≠ 3 → tcheckS p u6 = 0) := fun h1 => by have := fail_valid (ready_valid HV.out h1) rfl r HRS.out; rw [hq6] at this; exact this
    clear hq4 hq6 hrr
    go_upto_region 12 with (first | ((first | ((with_reducible show Code.wp _ (Code.region _ (List.toArray ({ dst := _, op := Op.load 26 _, type := _, pos := _, after := _, guard := none } :: _)) false) _ _ _); refine wp_region_lit ?_) | (with_reducible show wpList _ _ _ ({ dst := _, op := Op.load 26 _, type := _, pos := _, after := _, guard := none } :: _) _ _)); refine wpList_load_mid rfl 26 _ rfl _ _ rfl _ _ (by exact rg) Tryz.underlying26 rfl (by exact infoPrg) ?_; dsimp only [dZ, dS]) | ((first | ((with_reducible show Code.wp _ (Code.region _ (List.toArray ({ dst := _, op := Op.load 32 _, type := _, pos := _, after := _, guard := none } :: _)) false) _ _ _); refine wp_region_lit ?_) | (with_reducible show wpList _ _ _ ({ dst := _, op := Op.load 32 _, type := _, pos := _, after := _, guard := none } :: _) _ _)); refine wpList_load_mid rfl 32 _ rfl _ _ rfl _ _ (by exact rg) Tryz.underlying32 rfl (by exact Cells14.info _) ?_; dsimp only [dZ, dS]) | ((with_reducible show wpList _ _ _ ({ dst := _, op := Op.store 32 _ _, type := _, pos := _, after := _, guard := none } :: _) _ _); refine wpList_store_mid rfl 32 _ _ rfl _ _ (List.toArray (Cells14.l _)) rfl rfl (by refine Cells14.there _ ?_; exact tr) (Cells14.infoA _) (Cells14.oneA _) ?_; (try dsimp only [Act.put])) | (go_at_call 32; refine (HI.out _ HE8.out).mono ?_; rintro e w9 ⟨VV, rfl, hTT, hbb⟩; obtain ⟨c4, rfl⟩ := hTT.cells; have HTT := Lib.hid hTT; have HBB := Lib.hid hbb; clear hTT hbb))
    refine wp_hid2 ?_
    intro W9 HWW
    have HFF : Hid (Ext W8 W9) := by have h := HBB.out; have h2 := h.size; rw [Hid, HWW.out]; exact xts
    have HGG : Hid (Ext w9 W9) := by rw [Hid, HWW.out]; exact xts
    have HE9 : Hid (Ext w W9) := HE8.out.trans HFF.out
    have R9 : W9.rangeAt (w.heap.size + 1) 0 ct.l := range_ext R8 HFF.out
    have Q9 : W9.rangeAt w.heap.size 0 [.slice (some ⟨bF, off, none⟩) nf cf, .slice Ao no co, .slice Av nv cv] := range_ext Q8 HFF.out
    have X9 : W9.rangeAt (w.heap.size + 1 + 1) 0 [Value.int .i64 e1, Value.int .i64 e2] := range_ext X8 HFF.out
    replace A1 : W9.rangeAt w4.heap.size 0 c1.l := range_ext A1 HFF.out
    replace HT1 : Hid (RTsk W9 u1 (.agg c1.l.toArray)) := HT1.out.mono HFF.out
    replace A2 : W9.rangeAt w5.heap.size 0 c2.l := range_ext A2 HFF.out
    replace HT2 : Hid (RTsk W9 u2 (.agg c2.l.toArray)) := HT2.out.mono HFF.out
    replace A3 : W9.rangeAt w6.heap.size 0 c3.l := range_ext A3 HFF.out
    replace HT3 : Hid (RTsk W9 u3 (.agg c3.l.toArray)) := HT3.out.mono HFF.out
    replace A8 : W9.rangeAt W6.heap.size 0 cu.l := range_ext A8 HFF.out
    replace HT8 : Hid (RTsk W9 (readyT t) (.agg cu.l.toArray)) := HT8.out.mono HFF.out
    have A4 : W9.rangeAt w9.heap.size 0 c4.l := by rw [HWW.out]; exact c4.same (there_new rfl rfl)
    have HT4 : Hid (RTsk W9 u4 (.agg c4.l.toArray)) := HTT.out.mono HGG.out
    clear HWW HTT HBB HFF HGG R8 Q8 X8 HE8
    clear HI
    go_upto_region 13 with (first | ((first | ((with_reducible show Code.wp _ (Code.region _ (List.toArray ({ dst := _, op := Op.load 26 _, type := _, pos := _, after := _, guard := none } :: _)) false) _ _ _); refine wp_region_lit ?_) | (with_reducible show wpList _ _ _ ({ dst := _, op := Op.load 26 _, type := _, pos := _, after := _, guard := none } :: _) _ _)); refine wpList_load_mid rfl 26 _ rfl _ _ rfl _ _ (by exact rg) Tryz.underlying26 rfl (by exact infoPrg) ?_; dsimp only [dZ, dS]) | ((first | ((with_reducible show Code.wp _ (Code.region _ (List.toArray ({ dst := _, op := Op.load 32 _, type := _, pos := _, after := _, guard := none } :: _)) false) _ _ _); refine wp_region_lit ?_) | (with_reducible show wpList _ _ _ ({ dst := _, op := Op.load 32 _, type := _, pos := _, after := _, guard := none } :: _) _ _)); refine wpList_load_mid rfl 32 _ rfl _ _ rfl _ _ (by exact rg) Tryz.underlying32 rfl (by exact Cells14.info _) ?_; dsimp only [dZ, dS]) | ((with_reducible show wpList _ _ _ ({ dst := _, op := Op.store 32 _ _, type := _, pos := _, after := _, guard := none } :: _) _ _); refine wpList_store_mid rfl 32 _ _ rfl _ _ (List.toArray (Cells14.l _)) rfl rfl (by refine Cells14.there _ ?_; exact tr) (Cells14.infoA _) (Cells14.oneA _) ?_; (try dsimp only [Act.put])) | (go_at_call 34; refine (HRM.out _ HE9.out).mono ?_; rintro e w10 ⟨VV, rfl, hTT, hbb⟩; obtain ⟨c5, rfl⟩ := hTT.cells; have HTT := Lib.hid hTT; have HBB := Lib.hid hbb; clear hTT hbb))
    refine wp_hid2 ?_
    intro W10 HWW
    have HFF : Hid (Ext W9 W10) := by have h := HBB.out; have h2 := h.size; rw [Hid, HWW.out]; exact xts
    have HGG : Hid (Ext w10 W10) := by rw [Hid, HWW.out]; exact xts
    have HE10 : Hid (Ext w W10) := HE9.out.trans HFF.out
    have R10 : W10.rangeAt (w.heap.size + 1) 0 ct.l := range_ext R9 HFF.out
    have Q10 : W10.rangeAt w.heap.size 0 [.slice (some ⟨bF, off, none⟩) nf cf, .slice Ao no co, .slice Av nv cv] := range_ext Q9 HFF.out
    have X10 : W10.rangeAt (w.heap.size + 1 + 1) 0 [Value.int .i64 e1, Value.int .i64 e2] := range_ext X9 HFF.out
    replace A1 : W10.rangeAt w4.heap.size 0 c1.l := range_ext A1 HFF.out
    replace HT1 : Hid (RTsk W10 u1 (.agg c1.l.toArray)) := HT1.out.mono HFF.out
    replace A2 : W10.rangeAt w5.heap.size 0 c2.l := range_ext A2 HFF.out
    replace HT2 : Hid (RTsk W10 u2 (.agg c2.l.toArray)) := HT2.out.mono HFF.out
    replace A3 : W10.rangeAt w6.heap.size 0 c3.l := range_ext A3 HFF.out
    replace HT3 : Hid (RTsk W10 u3 (.agg c3.l.toArray)) := HT3.out.mono HFF.out
    replace A8 : W10.rangeAt W6.heap.size 0 cu.l := range_ext A8 HFF.out
    replace HT8 : Hid (RTsk W10 (readyT t) (.agg cu.l.toArray)) := HT8.out.mono HFF.out
    replace A4 : W10.rangeAt w9.heap.size 0 c4.l := range_ext A4 HFF.out
    replace HT4 : Hid (RTsk W10 u4 (.agg c4.l.toArray)) := HT4.out.mono HFF.out
    have A5 : W10.rangeAt w10.heap.size 0 c5.l := by rw [HWW.out]; exact c5.same (there_new rfl rfl)
    have HT5 : Hid (RTsk W10 u5 (.agg c5.l.toArray)) := HTT.out.mono HGG.out
    clear HWW HTT HBB HFF HGG R9 Q9 X9 HE9
    clear HRM
    have HC1 : Hid (∀ W, Ext W10 W → Calls Tryz.prog 17 #[.agg #[.slice (some ⟨bF, off, none⟩) nf cf, .slice Ao no co, .slice Av nv cv], .agg c1.l.toArray] W fun e w' => e = .returned (Value.int .i64 0) ∧ Ext W w') := fun W hW => by
      have := tCheck_any p u1 _ _ W (HP.out.mono (HE10.out.trans hW)) (HT1.out.mono hW)
      rw [HV1.out] at this
      exact this
    have HC2 : Hid ((er2 == 0) = true → ∀ W, Ext W10 W → Calls Tryz.prog 17 #[.agg #[.slice (some ⟨bF, off, none⟩) nf cf, .slice Ao no co, .slice Av nv cv], .agg c2.l.toArray] W fun e w' => e = .returned (Value.int .i64 0) ∧ Ext W w') := fun h2 W hW => by
      have := tCheck_any p u2 _ _ W (HP.out.mono (HE10.out.trans hW)) (HT2.out.mono hW)
      rw [(HV2.out (by simpa using h2))] at this
      exact this
    have HC3 : Hid ((er3 == 0) = true → ∀ W, Ext W10 W → Calls Tryz.prog 17 #[.agg #[.slice (some ⟨bF, off, none⟩) nf cf, .slice Ao no co, .slice Av nv cv], .agg c3.l.toArray] W fun e w' => e = .returned (Value.int .i64 0) ∧ Ext W w') := fun h2 W hW => by
      have := tCheck_any p u3 _ _ W (HP.out.mono (HE10.out.trans hW)) (HT3.out.mono hW)
      rw [(HV3.out (by simpa using h2))] at this
      exact this
    have HC4 : Hid ((t.status != 3) = true → (er4 == 0) = true → ∀ W, Ext W10 W → Calls Tryz.prog 17 #[.agg #[.slice (some ⟨bF, off, none⟩) nf cf, .slice Ao no co, .slice Av nv cv], .agg c4.l.toArray] W fun e w' => e = .returned (Value.int .i64 0) ∧ Ext W w') := fun h1 h2 W hW => by
      have := tCheck_any p u4 _ _ W (HP.out.mono (HE10.out.trans hW)) (HT4.out.mono hW)
      rw [(HV4.out (by simpa using h1) (by simpa using h2))] at this
      exact this
    have s3 : W10.cell? ⟨w.heap.size + 1, 3, none⟩ = some (Value.int .i64 t.status) := R10 3 _ (by rw [HCL.out]; rfl)
    obtain ⟨b2, hb2⟩ : ∃ b, (er2 == 0) = b := ⟨_, rfl⟩
    obtain ⟨b3, hb3⟩ : ∃ b, (er3 == 0) = b := ⟨_, rfl⟩
    obtain ⟨b4, hb4⟩ : ∃ b, (er4 == 0) = b := ⟨_, rfl⟩
    obtain ⟨bs, hbs⟩ : ∃ b, (t.status != 3) = b := ⟨_, rfl⟩
    rw [hb2] at HC2
    rw [hb3] at HC3
    rw [hbs, hb4] at HC4
    have HZ : Hid (Ext W10 W10) := Ext.refl _
    go_cut [143] from 101 to 142 (fun s143 wx => s143 = .bool false ∧ Hid (Ext W10 wx))
    case first =>
      clear X10
      have hcs : Hid ((b2 = false ∧ b3 = false ∧ bs = false) ∨ (b2 = false ∧ b3 = false ∧ bs = true) ∨ (b2 = true ∧ bs = true)) := by
        rw [← hb2, ← hb3, ← hbs]
        rcases HSS.out with h | h | h
        · exact .inr (.inr ⟨HS1.out h, by rw [h]; decide⟩)
        · exact .inr (.inl ⟨(HS2.out (by omega)).1, (HS2.out (by omega)).2, by rw [h]; decide⟩)
        · exact .inl ⟨(HS2.out (by omega)).1, (HS2.out (by omega)).2, by rw [h]; decide⟩
      clear HV1 HV2 HV3 HV4 HV5 HV6 HL HR HS1 HS2 HSS HT1 HT2 HT3 HT4 HT5 HT8 HFl HRD HNN HCU HST HRS HE10 HV HP HT HC HCur HNZ HC7 hvis
      rcases hcs.out with ⟨rfl, rfl, rfl⟩ | ⟨rfl, rfl, rfl⟩ | ⟨rfl, rfl⟩
      · go_wp2_with (first | ((first | ((with_reducible show Code.wp _ (Code.region _ (List.toArray ({ dst := _, op := Op.load 26 _, type := _, pos := _, after := _, guard := none } :: _)) false) _ _ _); refine wp_region_lit ?_) | (with_reducible show wpList _ _ _ ({ dst := _, op := Op.load 26 _, type := _, pos := _, after := _, guard := none } :: _) _ _)); refine wpList_load_mid rfl 26 _ rfl _ _ rfl _ _ (by exact rg) Tryz.underlying26 rfl (by exact infoPrg) ?_; dsimp only [dZ, dS]) | ((with_reducible show wpList _ _ _ ({ dst := _, op := Op.load 26 _, type := _, pos := _, after := _, guard := some _ } :: _) _ _); refine wpList_load_mid_g (by rfl) 26 _ rfl _ _ rfl _ _ (by exact rg) Tryz.underlying26 rfl (by exact infoPrg) ?_; dsimp only [dZ, dS]) | ((first | ((with_reducible show Code.wp _ (Code.region _ (List.toArray ({ dst := _, op := Op.load 32 _, type := _, pos := _, after := _, guard := none } :: _)) false) _ _ _); refine wp_region_lit ?_) | (with_reducible show wpList _ _ _ ({ dst := _, op := Op.load 32 _, type := _, pos := _, after := _, guard := none } :: _) _ _)); refine wpList_load_mid rfl 32 _ rfl _ _ rfl _ _ (by exact rg) Tryz.underlying32 rfl (by exact Cells14.info _) ?_; dsimp only [dZ, dS]) | ((with_reducible show wpList _ _ _ ({ dst := _, op := Op.load 32 _, type := _, pos := _, after := _, guard := some _ } :: _) _ _); refine wpList_load_mid_g (by rfl) 32 _ rfl _ _ rfl _ _ (by exact rg) Tryz.underlying32 rfl (by exact Cells14.info _) ?_; dsimp only [dZ, dS]) | (go_at_call 17; (with_reducible refine (HC1.out _ HZ.out).mono ?_); rintro e wk ⟨rfl, hb⟩; have HZ : Hid (Ext W10 wk) := Ext.trans HZ.out hb; have R10 := range_ext R10 hb; have Q10 := range_ext Q10 hb; have A1 := range_ext A1 hb; have A2 := range_ext A2 hb; have A3 := range_ext A3 hb; have A8 := range_ext A8 hb; have A4 := range_ext A4 hb; have A5 := range_ext A5 hb; have s3 := Ext.cell hb s3; clear hb) | (go_at_call 17; (with_reducible refine (HC2.out (by first | trivial | rfl) _ HZ.out).mono ?_); rintro e wk ⟨rfl, hb⟩; have HZ : Hid (Ext W10 wk) := Ext.trans HZ.out hb; have R10 := range_ext R10 hb; have Q10 := range_ext Q10 hb; have A1 := range_ext A1 hb; have A2 := range_ext A2 hb; have A3 := range_ext A3 hb; have A8 := range_ext A8 hb; have A4 := range_ext A4 hb; have A5 := range_ext A5 hb; have s3 := Ext.cell hb s3; clear hb) | (go_at_call 17; (with_reducible refine (HC3.out (by first | trivial | rfl) _ HZ.out).mono ?_); rintro e wk ⟨rfl, hb⟩; have HZ : Hid (Ext W10 wk) := Ext.trans HZ.out hb; have R10 := range_ext R10 hb; have Q10 := range_ext Q10 hb; have A1 := range_ext A1 hb; have A2 := range_ext A2 hb; have A3 := range_ext A3 hb; have A8 := range_ext A8 hb; have A4 := range_ext A4 hb; have A5 := range_ext A5 hb; have s3 := Ext.cell hb s3; clear hb) | (go_at_call 17; (with_reducible refine (HC4.out (by first | trivial | rfl) (by first | trivial | rfl) _ HZ.out).mono ?_); rintro e wk ⟨rfl, hb⟩; have HZ : Hid (Ext W10 wk) := Ext.trans HZ.out hb; have R10 := range_ext R10 hb; have Q10 := range_ext Q10 hb; have A1 := range_ext A1 hb; have A2 := range_ext A2 hb; have A3 := range_ext A3 hb; have A8 := range_ext A8 hb; have A4 := range_ext A4 hb; have A5 := range_ext A5 hb; have s3 := Ext.cell hb s3; clear hb))
        go_meet
        exact ⟨rfl, HZ⟩
      · cases b4
        all_goals
          go_wp2_with (first | ((first | ((with_reducible show Code.wp _ (Code.region _ (List.toArray ({ dst := _, op := Op.load 26 _, type := _, pos := _, after := _, guard := none } :: _)) false) _ _ _); refine wp_region_lit ?_) | (with_reducible show wpList _ _ _ ({ dst := _, op := Op.load 26 _, type := _, pos := _, after := _, guard := none } :: _) _ _)); refine wpList_load_mid rfl 26 _ rfl _ _ rfl _ _ (by exact rg) Tryz.underlying26 rfl (by exact infoPrg) ?_; dsimp only [dZ, dS]) | ((with_reducible show wpList _ _ _ ({ dst := _, op := Op.load 26 _, type := _, pos := _, after := _, guard := some _ } :: _) _ _); refine wpList_load_mid_g (by rfl) 26 _ rfl _ _ rfl _ _ (by exact rg) Tryz.underlying26 rfl (by exact infoPrg) ?_; dsimp only [dZ, dS]) | ((first | ((with_reducible show Code.wp _ (Code.region _ (List.toArray ({ dst := _, op := Op.load 32 _, type := _, pos := _, after := _, guard := none } :: _)) false) _ _ _); refine wp_region_lit ?_) | (with_reducible show wpList _ _ _ ({ dst := _, op := Op.load 32 _, type := _, pos := _, after := _, guard := none } :: _) _ _)); refine wpList_load_mid rfl 32 _ rfl _ _ rfl _ _ (by exact rg) Tryz.underlying32 rfl (by exact Cells14.info _) ?_; dsimp only [dZ, dS]) | ((with_reducible show wpList _ _ _ ({ dst := _, op := Op.load 32 _, type := _, pos := _, after := _, guard := some _ } :: _) _ _); refine wpList_load_mid_g (by rfl) 32 _ rfl _ _ rfl _ _ (by exact rg) Tryz.underlying32 rfl (by exact Cells14.info _) ?_; dsimp only [dZ, dS]) | (go_at_call 17; (with_reducible refine (HC1.out _ HZ.out).mono ?_); rintro e wk ⟨rfl, hb⟩; have HZ : Hid (Ext W10 wk) := Ext.trans HZ.out hb; have R10 := range_ext R10 hb; have Q10 := range_ext Q10 hb; have A1 := range_ext A1 hb; have A2 := range_ext A2 hb; have A3 := range_ext A3 hb; have A8 := range_ext A8 hb; have A4 := range_ext A4 hb; have A5 := range_ext A5 hb; have s3 := Ext.cell hb s3; clear hb) | (go_at_call 17; (with_reducible refine (HC2.out (by first | trivial | rfl) _ HZ.out).mono ?_); rintro e wk ⟨rfl, hb⟩; have HZ : Hid (Ext W10 wk) := Ext.trans HZ.out hb; have R10 := range_ext R10 hb; have Q10 := range_ext Q10 hb; have A1 := range_ext A1 hb; have A2 := range_ext A2 hb; have A3 := range_ext A3 hb; have A8 := range_ext A8 hb; have A4 := range_ext A4 hb; have A5 := range_ext A5 hb; have s3 := Ext.cell hb s3; clear hb) | (go_at_call 17; (with_reducible refine (HC3.out (by first | trivial | rfl) _ HZ.out).mono ?_); rintro e wk ⟨rfl, hb⟩; have HZ : Hid (Ext W10 wk) := Ext.trans HZ.out hb; have R10 := range_ext R10 hb; have Q10 := range_ext Q10 hb; have A1 := range_ext A1 hb; have A2 := range_ext A2 hb; have A3 := range_ext A3 hb; have A8 := range_ext A8 hb; have A4 := range_ext A4 hb; have A5 := range_ext A5 hb; have s3 := Ext.cell hb s3; clear hb) | (go_at_call 17; (with_reducible refine (HC4.out (by first | trivial | rfl) (by first | trivial | rfl) _ HZ.out).mono ?_); rintro e wk ⟨rfl, hb⟩; have HZ : Hid (Ext W10 wk) := Ext.trans HZ.out hb; have R10 := range_ext R10 hb; have Q10 := range_ext Q10 hb; have A1 := range_ext A1 hb; have A2 := range_ext A2 hb; have A3 := range_ext A3 hb; have A8 := range_ext A8 hb; have A4 := range_ext A4 hb; have A5 := range_ext A5 hb; have s3 := Ext.cell hb s3; clear hb))
          go_meet
          exact ⟨rfl, HZ⟩
      · cases b3 <;> cases b4
        all_goals
          go_wp2_with (first | ((first | ((with_reducible show Code.wp _ (Code.region _ (List.toArray ({ dst := _, op := Op.load 26 _, type := _, pos := _, after := _, guard := none } :: _)) false) _ _ _); refine wp_region_lit ?_) | (with_reducible show wpList _ _ _ ({ dst := _, op := Op.load 26 _, type := _, pos := _, after := _, guard := none } :: _) _ _)); refine wpList_load_mid rfl 26 _ rfl _ _ rfl _ _ (by exact rg) Tryz.underlying26 rfl (by exact infoPrg) ?_; dsimp only [dZ, dS]) | ((with_reducible show wpList _ _ _ ({ dst := _, op := Op.load 26 _, type := _, pos := _, after := _, guard := some _ } :: _) _ _); refine wpList_load_mid_g (by rfl) 26 _ rfl _ _ rfl _ _ (by exact rg) Tryz.underlying26 rfl (by exact infoPrg) ?_; dsimp only [dZ, dS]) | ((first | ((with_reducible show Code.wp _ (Code.region _ (List.toArray ({ dst := _, op := Op.load 32 _, type := _, pos := _, after := _, guard := none } :: _)) false) _ _ _); refine wp_region_lit ?_) | (with_reducible show wpList _ _ _ ({ dst := _, op := Op.load 32 _, type := _, pos := _, after := _, guard := none } :: _) _ _)); refine wpList_load_mid rfl 32 _ rfl _ _ rfl _ _ (by exact rg) Tryz.underlying32 rfl (by exact Cells14.info _) ?_; dsimp only [dZ, dS]) | ((with_reducible show wpList _ _ _ ({ dst := _, op := Op.load 32 _, type := _, pos := _, after := _, guard := some _ } :: _) _ _); refine wpList_load_mid_g (by rfl) 32 _ rfl _ _ rfl _ _ (by exact rg) Tryz.underlying32 rfl (by exact Cells14.info _) ?_; dsimp only [dZ, dS]) | (go_at_call 17; (with_reducible refine (HC1.out _ HZ.out).mono ?_); rintro e wk ⟨rfl, hb⟩; have HZ : Hid (Ext W10 wk) := Ext.trans HZ.out hb; have R10 := range_ext R10 hb; have Q10 := range_ext Q10 hb; have A1 := range_ext A1 hb; have A2 := range_ext A2 hb; have A3 := range_ext A3 hb; have A8 := range_ext A8 hb; have A4 := range_ext A4 hb; have A5 := range_ext A5 hb; have s3 := Ext.cell hb s3; clear hb) | (go_at_call 17; (with_reducible refine (HC2.out (by first | trivial | rfl) _ HZ.out).mono ?_); rintro e wk ⟨rfl, hb⟩; have HZ : Hid (Ext W10 wk) := Ext.trans HZ.out hb; have R10 := range_ext R10 hb; have Q10 := range_ext Q10 hb; have A1 := range_ext A1 hb; have A2 := range_ext A2 hb; have A3 := range_ext A3 hb; have A8 := range_ext A8 hb; have A4 := range_ext A4 hb; have A5 := range_ext A5 hb; have s3 := Ext.cell hb s3; clear hb) | (go_at_call 17; (with_reducible refine (HC3.out (by first | trivial | rfl) _ HZ.out).mono ?_); rintro e wk ⟨rfl, hb⟩; have HZ : Hid (Ext W10 wk) := Ext.trans HZ.out hb; have R10 := range_ext R10 hb; have Q10 := range_ext Q10 hb; have A1 := range_ext A1 hb; have A2 := range_ext A2 hb; have A3 := range_ext A3 hb; have A8 := range_ext A8 hb; have A4 := range_ext A4 hb; have A5 := range_ext A5 hb; have s3 := Ext.cell hb s3; clear hb) | (go_at_call 17; (with_reducible refine (HC4.out (by first | trivial | rfl) (by first | trivial | rfl) _ HZ.out).mono ?_); rintro e wk ⟨rfl, hb⟩; have HZ : Hid (Ext W10 wk) := Ext.trans HZ.out hb; have R10 := range_ext R10 hb; have Q10 := range_ext Q10 hb; have A1 := range_ext A1 hb; have A2 := range_ext A2 hb; have A3 := range_ext A3 hb; have A8 := range_ext A8 hb; have A4 := range_ext A4 hb; have A5 := range_ext A5 hb; have s3 := Ext.cell hb s3; clear hb))
          go_meet
          exact ⟨rfl, HZ⟩
    case rest =>
      clear HZ HC1 HC2 HC3 HC4
      obtain ⟨rfl, HZ⟩ := hcut
      have HEc : Hid (Ext w wc) := HE10.out.trans HZ.out
      have Rc : wc.rangeAt (w.heap.size + 1) 0 ct.l := range_ext R10 HZ.out
      have Qc : wc.rangeAt w.heap.size 0 [.slice (some ⟨bF, off, none⟩) nf cf, .slice Ao no co, .slice Av nv cv] := range_ext Q10 HZ.out
      have Xc : wc.rangeAt (w.heap.size + 1 + 1) 0 [Value.int .i64 e1, Value.int .i64 e2] := range_ext X10 HZ.out
      replace A1 : wc.rangeAt w4.heap.size 0 c1.l := range_ext A1 HZ.out
      replace HT1 : Hid (RTsk wc u1 (.agg c1.l.toArray)) := HT1.out.mono HZ.out
      replace A2 : wc.rangeAt w5.heap.size 0 c2.l := range_ext A2 HZ.out
      replace HT2 : Hid (RTsk wc u2 (.agg c2.l.toArray)) := HT2.out.mono HZ.out
      replace A3 : wc.rangeAt w6.heap.size 0 c3.l := range_ext A3 HZ.out
      replace HT3 : Hid (RTsk wc u3 (.agg c3.l.toArray)) := HT3.out.mono HZ.out
      replace A8 : wc.rangeAt W6.heap.size 0 cu.l := range_ext A8 HZ.out
      replace HT8 : Hid (RTsk wc (readyT t) (.agg cu.l.toArray)) := HT8.out.mono HZ.out
      replace A4 : wc.rangeAt w9.heap.size 0 c4.l := range_ext A4 HZ.out
      replace HT4 : Hid (RTsk wc u4 (.agg c4.l.toArray)) := HT4.out.mono HZ.out
      replace A5 : wc.rangeAt w10.heap.size 0 c5.l := range_ext A5 HZ.out
      replace HT5 : Hid (RTsk wc u5 (.agg c5.l.toArray)) := HT5.out.mono HZ.out
      clear HZ R10 Q10 X10 HE10 s3 hb2 hb3 hb4
      have s3 : wc.cell? ⟨w.heap.size + 1, 3, none⟩ = some (Value.int .i64 t.status) := Rc 3 _ (by rw [HCL.out]; rfl)
      have HC5 : Hid ((t.status != 3) = true → (er5 == 0) = true → ∀ W, Ext wc W → Calls Tryz.prog 17 #[.agg #[.slice (some ⟨bF, off, none⟩) nf cf, .slice Ao no co, .slice Av nv cv], .agg c5.l.toArray] W fun e w' => e = .returned (Value.int .i64 0) ∧ Ext W w') := fun h1 h2 W hW => by
        have := tCheck_any p u5 _ _ W (HP.out.mono (HEc.out.trans hW)) (HT5.out.mono hW)
        rw [HV5.out (by simpa using h1) (by simpa using h2)] at this
        exact this
      have HC6 : Hid ((t.status != 3) = true → ∀ W V, Ext wc W → RTsk W u6 V → Calls Tryz.prog 17 #[.agg #[.slice (some ⟨bF, off, none⟩) nf cf, .slice Ao no co, .slice Av nv cv], V] W fun e w' => e = .returned (Value.int .i64 0) ∧ Ext W w') := fun h1 W V hW hV => by
        have := tCheck_any p u6 _ _ W (HP.out.mono (HEc.out.trans hW)) hV
        rw [HV6.out (by simpa using h1)] at this
        exact this
      rw [hbs] at HC5 HC6
      obtain ⟨b5, hb5⟩ : ∃ b, (er5 == 0) = b := ⟨_, rfl⟩
      rw [hb5] at HC5
      have HST3 : Hid (∀ W, Ext wc W → Ext wc W ∧ W.cell? ⟨w.heap.size + 1, 3, none⟩ = some (Value.int .i64 t.status)) := fun W h => ⟨h, h.cell s3⟩
      go_upto_region 15 with fail
      go_cut [164] from 144 to 163 (fun s164 wx => s164 = .bool false ∧ Hid (Ext wc wx))
      case first =>
        cases bs with
        | false =>
          refine wp_region_th 20 (fun W' => Ext wc W' ∧ W'.cell? ⟨w.heap.size + 1, 3, none⟩ = some (Value.int .i64 t.status)) (by kernel_rfl) (by kernel_rfl) (by kernel_rfl) (by kernel_rfl) (by decide) ?_ ?_
          · exact HST3.out _ xt
          intro hT hHeld
          (refine tht 0 hT ?_; (try simp only [Act.put, aset, dZ, dS]); refine tht 1 hT ?_; (try simp only [Act.put, aset, dZ, dS]); refine tht 2 hT ?_; (try simp only [Act.put, aset, dZ, dS]); refine tht 3 hT ?_; (try simp only [Act.put, aset, dZ, dS]))
          (refine thn 4 hT ?_; (try simp only [Act.put, aset, dZ, dS]); refine thn 5 hT ?_; (try simp only [Act.put, aset, dZ, dS]); refine thn 6 hT ?_; (try simp only [Act.put, aset, dZ, dS]); refine thn 7 hT ?_; (try simp only [Act.put, aset, dZ, dS]); refine thn 8 hT ?_; (try simp only [Act.put, aset, dZ, dS]); refine thn 9 hT ?_; (try simp only [Act.put, aset, dZ, dS]); refine thn 10 hT ?_; (try simp only [Act.put, aset, dZ, dS]); refine thn 11 hT ?_; (try simp only [Act.put, aset, dZ, dS]); refine thn 12 hT ?_; (try simp only [Act.put, aset, dZ, dS]); refine thn 13 hT ?_; (try simp only [Act.put, aset, dZ, dS]); refine thn 14 hT ?_; (try simp only [Act.put, aset, dZ, dS]); refine thn 15 hT ?_; (try simp only [Act.put, aset, dZ, dS]); refine thn 16 hT ?_; (try simp only [Act.put, aset, dZ, dS]); refine thn 17 hT ?_; (try simp only [Act.put, aset, dZ, dS]); refine thn 18 hT ?_; (try simp only [Act.put, aset, dZ, dS]); refine thn 19 hT ?_; (try simp only [Act.put, aset, dZ, dS]))
          refine th_done (by kernel_rfl) ?_
          simp only [List.drop_succ_cons, List.drop_zero]
          go_wp2
          go_meet
          exact ⟨rfl, hHeld.1⟩
        | true =>
          cases b5 with
          | false =>
            refine wp_region_th 20 (fun W' => Ext wc W' ∧ W'.cell? ⟨w.heap.size + 1, 3, none⟩ = some (Value.int .i64 t.status)) (by kernel_rfl) (by kernel_rfl) (by kernel_rfl) (by kernel_rfl) (by decide) ?_ ?_
            · exact HST3.out _ xt
            intro hT hHeld
            (refine tht 0 hT ?_; (try simp only [Act.put, aset, dZ, dS]); refine tht 1 hT ?_; (try simp only [Act.put, aset, dZ, dS]); refine tht 2 hT ?_; (try simp only [Act.put, aset, dZ, dS]); refine tht 3 hT ?_; (try simp only [Act.put, aset, dZ, dS]); refine tht 4 hT ?_; (try simp only [Act.put, aset, dZ, dS]); refine tht 5 hT ?_; (try simp only [Act.put, aset, dZ, dS]); refine tht 6 hT ?_; (try simp only [Act.put, aset, dZ, dS]))
            (refine thn 7 hT ?_; (try simp only [Act.put, aset, dZ, dS]); refine thn 8 hT ?_; (try simp only [Act.put, aset, dZ, dS]); refine thn 9 hT ?_; (try simp only [Act.put, aset, dZ, dS]); refine thn 10 hT ?_; (try simp only [Act.put, aset, dZ, dS]))
            (refine tht 11 hT ?_; (try simp only [Act.put, aset, dZ, dS]); refine tht 12 hT ?_; (try simp only [Act.put, aset, dZ, dS]))
            (refine th_take (i := 13) (oi := ?oi13_1) (v := ?v13_1) hT ?hi13_1 (by decide) (by kernel_rfl) (by kernel_rfl) ?hq13_1 (Or.inl ⟨?hw13_1, ?hy13_1⟩) (by assumption) ?rest13_1; (case hi13_1 => (simp only [List.getElem?_toArray, List.getElem?_cons_zero, List.getElem?_cons_succ]; rfl)); (case hw13_1 => rfl); (case hy13_1 => (intro w' hSw; refine Eq.trans (exec_load_mid 26 _ (by rfl) w.heap.size 0 (by rfl) _ _ Tryz.underlying26 (by rfl) ?hiL13_1 w' (range_ext Qc hSw.1)) ?eqL13_1; (case eqL13_1 => with_reducible rfl); exact infoPrg)); (case hq13_1 => (exact fun _ _ _ h => h)); (try simp only [Act.put, aset, dZ, dS]))
            (refine th_take (i := 14) (oi := ?oi14_2) (v := ?v14_2) hT ?hi14_2 (by decide) (by kernel_rfl) (by kernel_rfl) ?hq14_2 (Or.inl ⟨?hw14_2, ?hy14_2⟩) (by assumption) ?rest14_2; (case hi14_2 => (simp only [List.getElem?_toArray, List.getElem?_cons_zero, List.getElem?_cons_succ]; rfl)); (case hw14_2 => rfl); (case hy14_2 => (intro w' hSw; refine Eq.trans (exec_load_mid 32 _ (by rfl) W6.heap.size 0 (by rfl) _ _ Tryz.underlying32 (by rfl) ?hiL14_2 w' (range_ext A8 hSw.1)) ?eqL14_2; (case eqL14_2 => with_reducible rfl); exact Cells14.info _)); (case hq14_2 => (exact fun _ _ _ h => h)); (try simp only [Act.put, aset, dZ, dS]))
            (refine tht 15 hT ?_; (try simp only [Act.put, aset, dZ, dS]))
            refine tst 16 (fun K hK => ?_)
            go_simp
            go_at_call 39
            refine (HFl.out _ (HEc.out.trans hHeld.1)).mono ?_
            rintro e wk ⟨V6, rfl, hT6, hb⟩
            dsimp only
            refine hK.out _ _ (HST3.out _ (Ext.trans hHeld.1 hb)) (fun hHeld => ?_)
            clear hK K
            (try simp only [Act.put, List.setIfInBounds_toArray, List.set_cons_zero, List.set_cons_succ])
            refine tst 17 (fun K hK => ?_)
            go_simp
            go_at_call 17
            refine (HC6.out (by first | trivial | rfl) _ _ hHeld.1 hT6).mono ?_
            rintro e wk ⟨rfl, hb⟩
            dsimp only
            refine hK.out _ _ (HST3.out _ (Ext.trans hHeld.1 hb)) (fun hHeld => ?_)
            clear hK K
            (try simp only [Act.put, List.setIfInBounds_toArray, List.set_cons_zero, List.set_cons_succ])
            (refine tht 18 hT ?_; (try simp only [Act.put, aset, dZ, dS]); refine tht 19 hT ?_; (try simp only [Act.put, aset, dZ, dS]))
            refine th_done (by kernel_rfl) ?_
            simp only [List.drop_succ_cons, List.drop_zero]
            go_wp2
            go_meet
            exact ⟨rfl, hHeld.1⟩
          | true =>
            refine wp_region_th 20 (fun W' => Ext wc W' ∧ W'.cell? ⟨w.heap.size + 1, 3, none⟩ = some (Value.int .i64 t.status)) (by kernel_rfl) (by kernel_rfl) (by kernel_rfl) (by kernel_rfl) (by decide) ?_ ?_
            · exact HST3.out _ xt
            intro hT hHeld
            (refine tht 0 hT ?_; (try simp only [Act.put, aset, dZ, dS]); refine tht 1 hT ?_; (try simp only [Act.put, aset, dZ, dS]); refine tht 2 hT ?_; (try simp only [Act.put, aset, dZ, dS]); refine tht 3 hT ?_; (try simp only [Act.put, aset, dZ, dS]); refine tht 4 hT ?_; (try simp only [Act.put, aset, dZ, dS]); refine tht 5 hT ?_; (try simp only [Act.put, aset, dZ, dS]); refine tht 6 hT ?_; (try simp only [Act.put, aset, dZ, dS]))
            (refine th_take (i := 7) (oi := ?oi7_3) (v := ?v7_3) hT ?hi7_3 (by decide) (by kernel_rfl) (by kernel_rfl) ?hq7_3 (Or.inl ⟨?hw7_3, ?hy7_3⟩) (by assumption) ?rest7_3; (case hi7_3 => (simp only [List.getElem?_toArray, List.getElem?_cons_zero, List.getElem?_cons_succ]; rfl)); (case hw7_3 => rfl); (case hy7_3 => (intro w' hSw; refine Eq.trans (exec_load_mid 26 _ (by rfl) w.heap.size 0 (by rfl) _ _ Tryz.underlying26 (by rfl) ?hiL7_3 w' (range_ext Qc hSw.1)) ?eqL7_3; (case eqL7_3 => with_reducible rfl); exact infoPrg)); (case hq7_3 => (exact fun _ _ _ h => h)); (try simp only [Act.put, aset, dZ, dS]))
            (refine th_take (i := 8) (oi := ?oi8_4) (v := ?v8_4) hT ?hi8_4 (by decide) (by kernel_rfl) (by kernel_rfl) ?hq8_4 (Or.inl ⟨?hw8_4, ?hy8_4⟩) (by assumption) ?rest8_4; (case hi8_4 => (simp only [List.getElem?_toArray, List.getElem?_cons_zero, List.getElem?_cons_succ]; rfl)); (case hw8_4 => rfl); (case hy8_4 => (intro w' hSw; refine Eq.trans (exec_load_mid 32 _ (by rfl) w10.heap.size 0 (by rfl) _ _ Tryz.underlying32 (by rfl) ?hiL8_4 w' (range_ext A5 hSw.1)) ?eqL8_4; (case eqL8_4 => with_reducible rfl); exact Cells14.info _)); (case hq8_4 => (exact fun _ _ _ h => h)); (try simp only [Act.put, aset, dZ, dS]))
            refine tst 9 (fun K hK => ?_)
            go_simp
            go_at_call 17
            refine (HC5.out (by first | trivial | rfl) (by first | trivial | rfl) _ hHeld.1).mono ?_
            rintro e wk ⟨rfl, hb⟩
            dsimp only
            refine hK.out _ _ (HST3.out _ (Ext.trans hHeld.1 hb)) (fun hHeld => ?_)
            clear hK K
            (try simp only [Act.put, List.setIfInBounds_toArray, List.set_cons_zero, List.set_cons_succ])
            (refine tht 10 hT ?_; (try simp only [Act.put, aset, dZ, dS]); refine tht 11 hT ?_; (try simp only [Act.put, aset, dZ, dS]); refine tht 12 hT ?_; (try simp only [Act.put, aset, dZ, dS]))
            (refine th_take (i := 13) (oi := ?oi13_5) (v := ?v13_5) hT ?hi13_5 (by decide) (by kernel_rfl) (by kernel_rfl) ?hq13_5 (Or.inl ⟨?hw13_5, ?hy13_5⟩) (by assumption) ?rest13_5; (case hi13_5 => (simp only [List.getElem?_toArray, List.getElem?_cons_zero, List.getElem?_cons_succ]; rfl)); (case hw13_5 => rfl); (case hy13_5 => (intro w' hSw; refine Eq.trans (exec_load_mid 26 _ (by rfl) w.heap.size 0 (by rfl) _ _ Tryz.underlying26 (by rfl) ?hiL13_5 w' (range_ext Qc hSw.1)) ?eqL13_5; (case eqL13_5 => with_reducible rfl); exact infoPrg)); (case hq13_5 => (exact fun _ _ _ h => h)); (try simp only [Act.put, aset, dZ, dS]))
            (refine th_take (i := 14) (oi := ?oi14_6) (v := ?v14_6) hT ?hi14_6 (by decide) (by kernel_rfl) (by kernel_rfl) ?hq14_6 (Or.inl ⟨?hw14_6, ?hy14_6⟩) (by assumption) ?rest14_6; (case hi14_6 => (simp only [List.getElem?_toArray, List.getElem?_cons_zero, List.getElem?_cons_succ]; rfl)); (case hw14_6 => rfl); (case hy14_6 => (intro w' hSw; refine Eq.trans (exec_load_mid 32 _ (by rfl) W6.heap.size 0 (by rfl) _ _ Tryz.underlying32 (by rfl) ?hiL14_6 w' (range_ext A8 hSw.1)) ?eqL14_6; (case eqL14_6 => with_reducible rfl); exact Cells14.info _)); (case hq14_6 => (exact fun _ _ _ h => h)); (try simp only [Act.put, aset, dZ, dS]))
            (refine tht 15 hT ?_; (try simp only [Act.put, aset, dZ, dS]))
            refine tst 16 (fun K hK => ?_)
            go_simp
            go_at_call 39
            refine (HFl.out _ (HEc.out.trans hHeld.1)).mono ?_
            rintro e wk ⟨V6, rfl, hT6, hb⟩
            dsimp only
            refine hK.out _ _ (HST3.out _ (Ext.trans hHeld.1 hb)) (fun hHeld => ?_)
            clear hK K
            (try simp only [Act.put, List.setIfInBounds_toArray, List.set_cons_zero, List.set_cons_succ])
            refine tst 17 (fun K hK => ?_)
            go_simp
            go_at_call 17
            refine (HC6.out (by first | trivial | rfl) _ _ hHeld.1 hT6).mono ?_
            rintro e wk ⟨rfl, hb⟩
            dsimp only
            refine hK.out _ _ (HST3.out _ (Ext.trans hHeld.1 hb)) (fun hHeld => ?_)
            clear hK K
            (try simp only [Act.put, List.setIfInBounds_toArray, List.set_cons_zero, List.set_cons_succ])
            (refine tht 18 hT ?_; (try simp only [Act.put, aset, dZ, dS]); refine tht 19 hT ?_; (try simp only [Act.put, aset, dZ, dS]))
            refine th_done (by kernel_rfl) ?_
            simp only [List.drop_succ_cons, List.drop_zero]
            go_wp2
            go_meet
            exact ⟨rfl, hHeld.1⟩
      case rest =>
        clear HC5 HC6 HST3 s3 hb5 hbs HFl HV6 HV5 HV4 HV3 HV2 HV1 HT1 HT2 HT3 HT4 HT5 HT8 A1 A2 A3 A4 A5 A8 HSS HS1 HS2
        obtain ⟨rfl, HZ⟩ := hcut
        have HEc : Hid (Ext w wc) := HEc.out.trans HZ.out
        have Rc : wc.rangeAt (w.heap.size + 1) 0 ct.l := range_ext Rc HZ.out
        have Qc : wc.rangeAt w.heap.size 0 [.slice (some ⟨bF, off, none⟩) nf cf, .slice Ao no co, .slice Av nv cv] := range_ext Qc HZ.out
        have Xc : wc.rangeAt (w.heap.size + 1 + 1) 0 [Value.int .i64 e1, Value.int .i64 e2] := range_ext Xc HZ.out
        clear HZ
        go_upto_region 18 with (first | ((first | ((with_reducible show Code.wp _ (Code.region _ (List.toArray ({ dst := _, op := Op.load 26 _, type := _, pos := _, after := _, guard := none } :: _)) false) _ _ _); refine wp_region_lit ?_) | (with_reducible show wpList _ _ _ ({ dst := _, op := Op.load 26 _, type := _, pos := _, after := _, guard := none } :: _) _ _)); refine wpList_load_mid rfl 26 _ rfl _ _ rfl _ _ (by exact rg) Tryz.underlying26 rfl (by exact infoPrg) ?_; dsimp only [dZ, dS]) | ((first | ((with_reducible show Code.wp _ (Code.region _ (List.toArray ({ dst := _, op := Op.load 32 _, type := _, pos := _, after := _, guard := none } :: _)) false) _ _ _); refine wp_region_lit ?_) | (with_reducible show wpList _ _ _ ({ dst := _, op := Op.load 32 _, type := _, pos := _, after := _, guard := none } :: _) _ _)); refine wpList_load_mid rfl 32 _ rfl _ _ rfl _ _ (by exact rg) Tryz.underlying32 rfl (by exact Cells14.info _) ?_; dsimp only [dZ, dS]) | ((first | ((with_reducible show Code.wp _ (Code.region _ (List.toArray ({ dst := _, op := Op.store 37 _ _, type := _, pos := _, after := _, guard := none } :: _)) false) _ _ _); refine wp_region_lit ?_) | (with_reducible show wpList _ _ _ ({ dst := _, op := Op.store 37 _ _, type := _, pos := _, after := _, guard := none } :: _) _ _)); refine wpList_store_mid rfl 37 _ _ rfl _ _ _ rfl rfl (by exact tr) infoInsN (all_oneCell_toArray (by simp [Value.oneCell'])) ?_; (try dsimp only [Act.put])) | (go_at_call 15; refine (HCur.out _ HEc.out).mono ?_; rintro e w17 ⟨AA, nn, cc2, rfl, _, hbb⟩; have HBB := Lib.hid hbb; clear hbb))
        refine wp_hid2 ?_
        intro W18 HWW
        have HFF : Hid (Ext wc W18) := by have h := HBB.out; have h2 := h.size; rw [Hid, HWW.out]; exact xts
        have HE18 : Hid (Ext w W18) := HEc.out.trans HFF.out
        have R18 : W18.rangeAt (w.heap.size + 1) 0 ct.l := range_ext Rc HFF.out
        have Q18 : W18.rangeAt w.heap.size 0 [.slice (some ⟨bF, off, none⟩) nf cf, .slice Ao no co, .slice Av nv cv] := range_ext Qc HFF.out
        have X18 : W18.rangeAt (w.heap.size + 1 + 1) 0 [Value.int .i64 e1, Value.int .i64 e2] := range_ext Xc HFF.out
        have I18 : W18.rangeAt w17.heap.size 0 [Value.int .i64 x.op, Value.int .i64 x.a, Value.int .i64 x.b, Value.int .i64 x.c, .slice AA nn cc2] := by rw [HWW.out]; exact World.rangeAt_setCells_same _ _ 0 _ (by show World.there _ _ 0 5; exact tr)
        have i0 : W18.cell? ⟨w17.heap.size, 0, none⟩ = some (Value.int .i64 x.op) := I18 0 _ rfl
        clear HWW HBB HFF Rc Qc Xc HEc HCur I18
        have HVi : Hid (∀ W, Calls Tryz.prog 41 #[Value.int .i64 x.op] W fun e w' => e = .returned (.bool vis) ∧ Ext W w') := fun W => by have := rvisible_any x.op W; rw [hvis] at this; exact this
        clear hvis
        cases is with
        | false =>
          have HEY : Hid (Ext W18 W18) := Ext.refl _
          go_wp2_with (first | (go_at_call 14; refine (awake_any _).mono ?_; rintro e w9 ⟨rfl, hb9⟩; have HE9 := Lib.hid (Ext.trans HEY.out hb9); clear hb9))
          go_ret
          exact ⟨rfl, HE18.out.trans HE9.out⟩
        | true =>
          cases vis with
          | false =>
            go_wp2_with (first | (go_at_call 41; refine (HVi.out _).mono ?_; rintro e w19 ⟨rfl, hb⟩; have HEY : Hid (Ext W18 w19) := hb; have i1 := Ext.cell hb i0; have zi := lt_of_cell i1; clear hb) | (go_at_call 14; refine (awake_any _).mono ?_; rintro e w9 ⟨rfl, hb9⟩; have HE9 := Lib.hid (Ext.trans HEY.out hb9); clear hb9))
            go_ret
            exact ⟨rfl, HE18.out.trans HE9.out⟩
          | true =>
            go_upto_region 19 with (first | (go_at_call 41; refine (HVi.out _).mono ?_; rintro e w19 ⟨rfl, hb⟩; have HEY : Hid (Ext W18 w19) := hb; have i1 := Ext.cell hb i0; have zi := lt_of_cell i1; clear hb))
            have HX9 := Lib.hid (fun W (h : Ext W18 W) => HE18.out.trans h)
            refine wp_region_th 10 (fun W' => Ext W18 W') (by kernel_rfl) (by kernel_rfl) (by kernel_rfl) (by kernel_rfl) (by decide) ?_ ?_
            · exact Ext.trans HEY.out xt
            intro hT hHeld
            (refine th_take (i := 0) (oi := ?oi0_7) (v := ?v0_7) hT ?hi0_7 (by decide) (by kernel_rfl) (by kernel_rfl) ?hq0_7 (Or.inl ⟨?hw0_7, ?hy0_7⟩) (by assumption) ?rest0_7; (case hi0_7 => (simp only [List.getElem?_toArray, List.getElem?_cons_zero, List.getElem?_cons_succ]; rfl)); (case hw0_7 => rfl); (case hy0_7 => (intro w' hSw; refine Eq.trans (exec_load_mid 26 _ (by rfl) w.heap.size 0 (by rfl) _ _ Tryz.underlying26 (by rfl) ?hiL0_7 w' (range_ext Q18 hSw)) ?eqL0_7; (case eqL0_7 => with_reducible rfl); exact infoPrg)); (case hq0_7 => (exact fun _ _ _ h => h)); (try simp only [Act.put, aset, dZ, dS]))
            (refine th_take (i := 1) (oi := ?oi1_8) (v := ?v1_8) hT ?hi1_8 (by decide) (by kernel_rfl) (by kernel_rfl) ?hq1_8 (Or.inl ⟨?hw1_8, ?hy1_8⟩) (by assumption) ?rest1_8; (case hi1_8 => (simp only [List.getElem?_toArray, List.getElem?_cons_zero, List.getElem?_cons_succ]; rfl)); (case hw1_8 => rfl); (case hy1_8 => (intro w' hSw; refine Eq.trans (exec_load_mid 32 _ (by rfl) (w.heap.size + 1) 0 (by rfl) _ _ Tryz.underlying32 (by rfl) ?hiL1_8 w' (range_ext R18 hSw)) ?eqL1_8; (case eqL1_8 => with_reducible rfl); exact Cells14.info _)); (case hq1_8 => (exact fun _ _ _ h => h)); (try simp only [Act.put, aset, dZ, dS]))
            (refine th_take (i := 2) (oi := ?oi2_9) (v := ?v2_9) hT ?hi2_9 (by decide) (by kernel_rfl) (by kernel_rfl) ?hq2_9 (Or.inl ⟨?hw2_9, ?hy2_9⟩) (by assumption) ?rest2_9; (case hi2_9 => (simp only [List.getElem?_toArray, List.getElem?_cons_zero, List.getElem?_cons_succ]; rfl)); (case hw2_9 => rfl); (case hy2_9 => (intro w' hSw; refine Eq.trans (exec_load_mid 73 _ (by rfl) (w.heap.size + 1 + 1) 0 (by rfl) _ _ Tryz.underlying73 (by rfl) ?hiL2_9 w' (range_ext X18 hSw)) ?eqL2_9; (case eqL2_9 => with_reducible rfl); exact infoEdge)); (case hq2_9 => (exact fun _ _ _ h => h)); (try simp only [Act.put, aset, dZ, dS]))
            refine tst 3 (fun K hK => ?_)
            go_simp
            refine hK.out _ _ (hHeld.alloc _) (fun hHeld2 => ?_)
            clear hK K
            (try simp only [Act.put, List.setIfInBounds_toArray, List.set_cons_zero, List.set_cons_succ])
            refine tst 4 (fun K hK => ?_)
            go_simp
            go_at_call 42
            refine (finish_one t _ e1 e2 _ _ _ (HT.out.mono (HE18.out.trans hHeld2)) (HNZ.out (by first | trivial | rfl)) HNN.out.1 HNN.out.2.1 HNN.out.2.2.1 HNN.out.2.2.2 (range_new (by simp)) hin2).mono ?_
            rintro e wk ⟨V7, rfl, hT7, hb⟩
            dsimp only
            refine hK.out _ _ (Ext.trans hHeld2 hb) (fun hHeld3 => ?_)
            clear hK K
            (try simp only [Act.put, List.setIfInBounds_toArray, List.set_cons_zero, List.set_cons_succ])
            refine tst 5 (fun K hK => ?_)
            go_simp
            go_at_call 17
            refine (HC7.out (by first | trivial | rfl) _ _ (HE18.out.trans hHeld3) hT7).mono ?_
            rintro e wl ⟨rfl, hb⟩
            dsimp only
            refine hK.out _ _ (Ext.trans hHeld3 hb) (fun hHeld => ?_)
            clear hK K
            (try simp only [Act.put, List.setIfInBounds_toArray, List.set_cons_zero, List.set_cons_succ])
            (refine tht 6 hT ?_; (try simp only [Act.put, aset, dZ, dS]); refine tht 7 hT ?_; (try simp only [Act.put, aset, dZ, dS]))
            refine tst 8 (fun K hK => ?_)
            go_simp
            go_at_call 14
            refine (awake_any _).mono ?_
            rintro e wm ⟨rfl, hb⟩
            dsimp only
            refine hK.out _ _ (Ext.trans hHeld hb) (fun hHeld => ?_)
            clear hK K
            (try simp only [Act.put, List.setIfInBounds_toArray, List.set_cons_zero, List.set_cons_succ])
            (refine tht 9 hT ?_; (try simp only [Act.put, aset, dZ, dS]))
            refine th_done (by kernel_rfl) ?_
            simp only [List.drop_succ_cons, List.drop_zero]
            go_wp2
            go_ret
            exact ⟨rfl, HE18.out.trans hHeld⟩
end Go.Proofs.YtcjjoabofecjmaaGreat
