/- A part of the proof: Handle of package task where no handler begins; slices.Reverse at handlers, on a row of the call's own; Rows of handlers by their cells. -/
import Derived.Test.YtcjjoabofecjmaaGreatQ17
import Derived.Test.YtcjjoabofecjmaaGreatQ15
import Derived.Test.YtcjjoabofecjmaaGreatQ04
set_option linter.unusedVariables false
set_option linter.unusedSimpArgs false
namespace Go.Proofs.YtcjjoabofecjmaaGreat
open Go.RowKit Go.Sort
theorem infoHdl2 : (Tryz.prog.info? 58).map (·.size) = some 2 := by kernel_rfl
theorem ret_range4 {fn : Func} {R : Ending → World → Prop} {a : Act} {w : World} {b b2 s s2 k : Nat} {cs cs2 : List Value} {v : Value} (hfn : fn.results = #[ResultVar.cell s 32, ResultVar.cell s2 58, ResultVar.tmp k]) (hs : a.tmps[s]? = some (.pointer (some ⟨b, 0, none⟩))) (hs2 : a.tmps[s2]? = some (.pointer (some ⟨b2, 0, none⟩))) (hk : a.tmps[k]? = some v) (hd : a.defers = []) (hl : cs.length = 14) (hl2 : cs2.length = 2) (hR : w.rangeAt b 0 cs) (hR2 : w.rangeAt b2 0 cs2)
    (h : R (.returned (.tuple #[.agg cs.toArray, .agg cs2.toArray, v])) w) : bodyPost Tryz.prog fn R .ret a w :=
  bodyPost_ret (by simp [results, hfn, hs, hs2, hk, asAddr, run_loadVar_mid w b 0 32 cs _ hR Tryz.underlying32 rfl (by rw [infoTsk, hl]), run_loadVar_mid w b2 0 58 cs2 _ hR2 Tryz.underlying58 rfl (by rw [infoHdl2, hl2])]) hd h
def HandPost (r : Tsk × Hdl × Int) (w : World) (e : Ending) (w' : World) : Prop := ∃ V' A n c, e = .returned (.tuple #[V', .agg #[Value.int .i64 r.2.1.fn, .slice A n c], Value.int .i64 r.2.2]) ∧ RTsk w' r.1 V' ∧ (RSl 1 RInt w' A n r.2.1.args ∧ n ≤ c) ∧ InR r.2.1.fn ∧ Ext w w'
theorem handPost_no {w W : World} {n : Int} (h : Ext w W) : HandPost (zeroTsk, noHdl, n) w (.returned (.tuple #[zeroV, .agg #[Value.int .i64 0, .slice none 0 0], Value.int .i64 n])) W := ⟨_, none, 0, 0, rfl, zero_reads _, ⟨RSl.nil _, Nat.le_refl _⟩, zero_in, h⟩
set_option maxRecDepth 4000 in
set_option maxHeartbeats 4000000 in
theorem Handle_bad (p : Prg) (t : Tsk) (VP VT : Value) (w : World) (hP : RPrg w p VP) (hT : RTsk w t VT) (hc : tcheckS p t ≠ 0) : Calls Tryz.prog 28 #[VP, VT] w (HandPost (handleS p t) w) := by
  have HC := Lib.hid (fun W h => tCheck_any p t VP VT W (hP.mono h) (hT.mono h))
  obtain ⟨Af, nf, cf, Ao, no, co, Av, nv, cv, rfl, _⟩ := hP
  obtain ⟨Bf, mf, df, Bb, mb, db, rfl, _⟩ := hT
  have HR : Hid (handleS p t = (zeroTsk, noHdl, 1)) := by unfold Hid handleS; rw [if_pos hc]
  have hcb : (tcheckS p t != 0) = true := by simpa using hc
  clear hc
  go_enter Tryz.func28, Tryz.ntmps28
  go_wp2_with (first | ((first | ((with_reducible show Code.wp _ (Code.region _ (List.toArray ({ dst := _, op := Op.load 32 _, type := _, pos := _, after := _, guard := none } :: _)) false) _ _ _); refine wp_region_lit ?_) | (with_reducible show wpList _ _ _ ({ dst := _, op := Op.load 32 _, type := _, pos := _, after := _, guard := none } :: _) _ _)); refine wpList_load_mid rfl 32 _ rfl _ _ rfl _ _ (by exact rg) Tryz.underlying32 rfl (by exact infoTsk) ?_; dsimp only [dZ, dS]) | ((with_reducible show wpList _ _ _ ({ dst := _, op := Op.store 32 _ _, type := _, pos := _, after := _, guard := none } :: _) _ _); refine wpList_store_mid rfl 32 _ _ rfl _ _ _ rfl rfl (by exact tr) infoTsk (all_oneCell_toArray (by simp [Value.oneCell'])) ?_; (try dsimp only [Act.put])) | ((with_reducible show wpList _ _ _ ({ dst := _, op := Op.store 58 _ _, type := _, pos := _, after := _, guard := none } :: _) _ _); refine wpList_store_mid rfl 58 _ _ rfl _ _ _ rfl rfl (by exact tr) infoHdl2 (all_oneCell_toArray (by simp [Value.oneCell'])) ?_; (try dsimp only [Act.put])) | (go_at_call 17; refine (HC.out _ xt).mono ?_; rintro e w1 ⟨rfl, hb⟩; have T1 := there_ext (b := w.heap.size + 1 + 1) (o := 0) (n := 14) (by exact tr) hb; have U1 := there_ext (b := w.heap.size + 1 + 1 + 1) (o := 0) (n := 2) (by exact tr) hb; have he0 := Lib.hid hb; obtain ⟨hc, hf, hs, he⟩ := Ext.use (w := w) hb xt; clear hb; (try simp only [World.size_alloc] at hs); have hz1 : w.heap.size + 1 + 1 + 1 < w1.heap.size := (by omega)))
  refine ret_range4 (b := w.heap.size + 1 + 1) (b2 := w.heap.size + 1 + 1 + 1) Tryz.results28 rfl rfl rfl rfl ?hl ?hl2 (ranges_two (by omega) ?t1 ?t2).1 (ranges_two (by omega) ?t3 ?t4).2 ?fin
  case hl => rfl
  case hl2 => rfl
  case t1 => exact tr
  case t2 => exact tr
  case t3 => exact tr
  case t4 => exact tr
  rw [HR.out]
  exact handPost_no xts
set_option maxRecDepth 4000 in
set_option maxHeartbeats 4000000 in
theorem Handle_state (p : Prg) (t : Tsk) (VP VT : Value) (w : World) (hP : RPrg w p VP) (hT : RTsk w t VT) (hc : tcheckS p t = 0) (hst : t.status ≠ 1 ∨ inHand t = true) : Calls Tryz.prog 28 #[VP, VT] w (HandPost (handleS p t) w) := by
  have HC := Lib.hid (fun W h => tCheck_any p t VP VT W (hP.mono h) (hT.mono h))
  rw [hc] at HC
  have HH := Lib.hid (fun W h => handles_any t VT W (hT.mono h))
  obtain ⟨Af, nf, cf, Ao, no, co, Av, nv, cv, rfl, _⟩ := hP
  obtain ⟨Bf, mf, df, Bb, mb, db, rfl, _⟩ := hT
  have HR : Hid (handleS p t = (zeroTsk, noHdl, 17)) := by unfold Hid handleS; rw [if_neg (by simpa using hc), if_pos hst]
  clear hc
  by_cases h1 : t.status = 1
  · have hh : inHand t = true := hst.resolve_left (fun h => h h1)
    rw [hh] at HH
    rw [h1] at HC HH ⊢
    clear hst hh h1
    go_enter Tryz.func28, Tryz.ntmps28
    go_wp2_with (first | ((first | ((with_reducible show Code.wp _ (Code.region _ (List.toArray ({ dst := _, op := Op.load 32 _, type := _, pos := _, after := _, guard := none } :: _)) false) _ _ _); refine wp_region_lit ?_) | (with_reducible show wpList _ _ _ ({ dst := _, op := Op.load 32 _, type := _, pos := _, after := _, guard := none } :: _) _ _)); refine wpList_load_mid rfl 32 _ rfl _ _ rfl _ _ (by exact rg) Tryz.underlying32 rfl (by exact infoTsk) ?_; dsimp only [dZ, dS]) | ((with_reducible show wpList _ _ _ ({ dst := _, op := Op.load 32 _, type := _, pos := _, after := _, guard := some _ } :: _) _ _); refine wpList_load_mid_g (by rfl) 32 _ rfl _ _ rfl _ _ (by exact rg) Tryz.underlying32 rfl (by exact infoTsk) ?_; dsimp only [dZ, dS]) | ((with_reducible show wpList _ _ _ ({ dst := _, op := Op.store 32 _ _, type := _, pos := _, after := _, guard := none } :: _) _ _); refine wpList_store_mid rfl 32 _ _ rfl _ _ _ rfl rfl (by exact tr) infoTsk (all_oneCell_toArray (by simp [Value.oneCell'])) ?_; (try dsimp only [Act.put])) | ((with_reducible show wpList _ _ _ ({ dst := _, op := Op.store 58 _ _, type := _, pos := _, after := _, guard := none } :: _) _ _); refine wpList_store_mid rfl 58 _ _ rfl _ _ _ rfl rfl (by exact tr) infoHdl2 (all_oneCell_toArray (by simp [Value.oneCell'])) ?_; (try dsimp only [Act.put])) | (go_at_call 17; refine (HC.out _ xt).mono ?_; rintro e w1 ⟨rfl, hb⟩; have T1 := there_ext (b := w.heap.size + 1 + 1) (o := 0) (n := 14) (by exact tr) hb; have U1 := there_ext (b := w.heap.size + 1 + 1 + 1) (o := 0) (n := 2) (by exact tr) hb; have R1 := range_ext (b := w.heap.size + 1) (o := 0) (by exact rg) hb; have he0 := Lib.hid hb; obtain ⟨hc, hf, hs, he⟩ := Ext.use (w := w) hb xt; clear hb; (try simp only [World.size_alloc] at hs); have hz1 : w.heap.size + 1 + 1 + 1 < w1.heap.size := (by omega)) | (go_at_call 65; refine (HH.out _ xt).mono ?_; rintro e w2 ⟨rfl, hb⟩; have T2 := there_ext T1 hb; have U2 := there_ext U1 hb; have he0 := Lib.hid hb; obtain ⟨hc2, hf2, hs2, he2⟩ := Ext.use (w := w) hb xt; clear hb))
    refine ret_range4 (b := w.heap.size + 1 + 1) (b2 := w.heap.size + 1 + 1 + 1) Tryz.results28 rfl rfl rfl rfl ?hl ?hl2 (ranges_two (by omega) ?t1 ?t2).1 (ranges_two (by omega) ?t3 ?t4).2 ?fin
    case hl => rfl
    case hl2 => rfl
    case t1 => exact tr
    case t2 => exact tr
    case t3 => exact tr
    case t4 => exact tr
    rw [HR.out]
    exact handPost_no xts
  · have hcb : (t.status != 1) = true := by simpa using h1
    clear hst h1
    go_enter Tryz.func28, Tryz.ntmps28
    go_wp2_with (first | ((first | ((with_reducible show Code.wp _ (Code.region _ (List.toArray ({ dst := _, op := Op.load 32 _, type := _, pos := _, after := _, guard := none } :: _)) false) _ _ _); refine wp_region_lit ?_) | (with_reducible show wpList _ _ _ ({ dst := _, op := Op.load 32 _, type := _, pos := _, after := _, guard := none } :: _) _ _)); refine wpList_load_mid rfl 32 _ rfl _ _ rfl _ _ (by exact rg) Tryz.underlying32 rfl (by exact infoTsk) ?_; dsimp only [dZ, dS]) | ((with_reducible show wpList _ _ _ ({ dst := _, op := Op.store 32 _ _, type := _, pos := _, after := _, guard := none } :: _) _ _); refine wpList_store_mid rfl 32 _ _ rfl _ _ _ rfl rfl (by exact tr) infoTsk (all_oneCell_toArray (by simp [Value.oneCell'])) ?_; (try dsimp only [Act.put])) | ((with_reducible show wpList _ _ _ ({ dst := _, op := Op.store 58 _ _, type := _, pos := _, after := _, guard := none } :: _) _ _); refine wpList_store_mid rfl 58 _ _ rfl _ _ _ rfl rfl (by exact tr) infoHdl2 (all_oneCell_toArray (by simp [Value.oneCell'])) ?_; (try dsimp only [Act.put])) | (go_at_call 17; refine (HC.out _ xt).mono ?_; rintro e w1 ⟨rfl, hb⟩; have T1 := there_ext (b := w.heap.size + 1 + 1) (o := 0) (n := 14) (by exact tr) hb; have U1 := there_ext (b := w.heap.size + 1 + 1 + 1) (o := 0) (n := 2) (by exact tr) hb; have he0 := Lib.hid hb; obtain ⟨hc, hf, hs, he⟩ := Ext.use (w := w) hb xt; clear hb; (try simp only [World.size_alloc] at hs); have hz1 : w.heap.size + 1 + 1 + 1 < w1.heap.size := (by omega)))
    refine ret_range4 (b := w.heap.size + 1 + 1) (b2 := w.heap.size + 1 + 1 + 1) Tryz.results28 rfl rfl rfl rfl ?hlb ?hl2b (ranges_two (by omega) ?t1b ?t2b).1 (ranges_two (by omega) ?t3b ?t4b).2 ?finb
    case hlb => rfl
    case hl2b => rfl
    case t1b => exact tr
    case t2b => exact tr
    case t3b => exact tr
    case t4b => exact tr
    rw [HR.out]
    exact handPost_no xts
end Go.Proofs.YtcjjoabofecjmaaGreat

namespace Go.Proofs.YtcjjoabofecjmaaGreat
open Go.RowKit Go.Sort
abbrev HC := Int × Option Addr × Nat × Nat
def hcv (p : HC) : Value := .slice p.2.1 p.2.2.1 p.2.2.2
def hcs (ps : List HC) : List Value := (ps.map fun p => [Value.int .i64 p.1, hcv p]).flatten
theorem hcs_len (ps : List HC) : (hcs ps).length = ps.length * 2 := by
  induction ps with
  | nil => rfl
  | cons p ps ih => simp only [hcs, List.map_cons, List.flatten_cons, List.length_append, List.length_cons, List.length_nil] at ih ⊢; omega
theorem hcs_get : ∀ {ps : List HC} {i : Nat} {p : HC}, ps[i]? = some p → (hcs ps)[i * 2]? = some (Value.int .i64 p.1) ∧ (hcs ps)[i * 2 + 1]? = some (hcv p)
  | [], i, p, h => by simp at h
  | q :: ps, 0, p, h => by
    simp only [List.getElem?_cons_zero, Option.some.injEq] at h
    subst h
    exact ⟨rfl, rfl⟩
  | q :: ps, i + 1, p, h => by
    simp only [List.getElem?_cons_succ] at h
    have := hcs_get h
    rw [Nat.add_mul]
    exact this
theorem hcs_set : ∀ {ps : List HC} {i : Nat} {p : HC}, i < ps.length → ((hcs ps).set (i * 2) (Value.int .i64 p.1)).set (i * 2 + 1) (hcv p) = hcs (ps.set i p)
  | [], i, p, h => by simp at h
  | q :: ps, 0, p, h => rfl
  | q :: ps, i + 1, p, h => by
    have := hcs_set (ps := ps) (i := i) (p := p) (by simpa using h)
    rw [Nat.add_mul, List.set_cons_succ]
    show ((Value.int .i64 q.1 :: hcv q :: hcs ps).set _ _).set _ _ = Value.int .i64 q.1 :: hcv q :: hcs (ps.set i p)
    rw [← this]; rfl
def RevTo (ps0 : List HC) (i : Nat) (ps : List HC) : Prop := ps.length = ps0.length ∧ ∀ m, m < ps0.length → ps[m]? = if m < i ∨ ps0.length - i ≤ m then ps0[ps0.length - 1 - m]? else ps0[m]?
theorem RevTo.done {ps0 ps : List HC} {i : Nat} (h : RevTo ps0 i ps) (hi : ps0.length ≤ 2 * i + 1) : ps = ps0.reverse := by
  apply List.ext_getElem?
  intro m
  rcases Nat.lt_or_ge m ps0.length with hm | hm
  · rw [List.getElem?_reverse hm, h.2 m hm]
    split
    · rfl
    · congr 1; omega
  · rw [List.getElem?_eq_none (by rw [h.1]; exact hm), List.getElem?_eq_none (by rw [List.length_reverse]; exact hm)]
theorem RevTo.step {ps0 ps : List HC} {i : Nat} {p q : HC} (h : RevTo ps0 i ps) (hi : 2 * i + 1 < ps0.length) (hp : ps[i]? = some p) (hq : ps[ps0.length - 1 - i]? = some q) : RevTo ps0 (i + 1) ((ps.set i q).set (ps0.length - 1 - i) p) := by
  refine ⟨by rw [List.length_set, List.length_set]; exact h.1, fun m hm => ?_⟩
  have h1 := h.2 i (by omega)
  have h2 := h.2 (ps0.length - 1 - i) (by omega)
  rw [if_neg (by omega), hp] at h1
  rw [if_neg (by omega), hq] at h2
  have hl := h.1
  rw [List.getElem?_set, List.getElem?_set, List.length_set]
  split
  · rename_i e
    subst e
    rw [if_pos (by omega), if_pos (by omega), show ps0.length - 1 - (ps0.length - 1 - i) = i by omega]; exact h1
  · split
    · rename_i e
      subst e
      rw [if_pos (by omega), if_pos (by omega)]; exact h2
    · rw [h.2 m hm]
      by_cases hc : m < i ∨ ps0.length - i ≤ m
      · rw [if_pos hc, if_pos (by omega)]
      · rw [if_neg hc, if_neg (by omega)]
set_option maxRecDepth 8000 in
set_option maxHeartbeats 4000000 in
theorem reverse_hdl (g n c : Nat) (B : Nat) (ps : List HC) (w : World) (hn : ps.length = n) (hn8 : n ≤ 1000) (hrow : w.ownsRow B 58 2 (.slice (some ⟨g, 0, none⟩) n c) n (hcs ps)) :
    Calls Tryz.prog 31 #[.slice (some ⟨g, 0, none⟩) n c] w fun e w' => e = .returned (.tuple #[]) ∧ w'.ownsRow B 58 2 (.slice (some ⟨g, 0, none⟩) n c) n (hcs ps.reverse) ∧ w.grownBy w' (some g) := by
  have HRow := Lib.hid hrow
  have HN := Lib.hid hn
  have hw0 : IntKind.i64.wrap ((n : Int) - 1) = (n : Int) - 1 := IntWalk.i64_in _ (by omega)
  clear hrow hn
  go_enter Tryz.func31, Tryz.ntmps31
  go_wp2
  go_loopg [2, 3] n (fun k s2 s3 wr => ∃ (i : Nat) (jz : Int) (qs : List HC), s2 = .int .i64 i ∧ s3 = .int .i64 jz ∧ jz = (n : Int) - 1 - i ∧ i ≤ n ∧ n - i ≤ k ∧ Hid (RevTo ps i qs) ∧ Hid (wr.ownsRow B 58 2 (.slice (some ⟨g, 0, none⟩) n c) n (hcs qs)) ∧ Hid (w.grownBy wr (some g)))
  case atStart => exact ⟨0, (n : Int) - 1, ps, rfl, rfl, by omega, by omega, by omega, ⟨rfl, fun m hm => by rw [if_neg (by have := HN.out; omega)]⟩, HRow.out, World.grownBy.refl _ _⟩
  case round =>
    obtain ⟨i, jz, qs, rfl, rfl, hj, hin, hk, hR, hW, hG⟩ := hrel
    have HJ := Lib.hid hj
    by_cases hlt : (i : Int) < jz
    · obtain ⟨jn, rfl⟩ : ∃ jn : Nat, jz = (jn : Int) := ⟨jz.toNat, by omega⟩
      have hjn : jn = n - 1 - i := by omega
      have hij : 2 * i + 1 < n := by omega
      obtain ⟨⟨p1, p2, p3, p4⟩, hp⟩ : ∃ p, qs[i]? = some p := ⟨_, List.getElem?_eq_getElem (by have := hR.out.1; have := HN.out; omega)⟩
      obtain ⟨⟨q1, q2, q3, q4⟩, hq⟩ : ∃ q, qs[jn]? = some q := ⟨_, List.getElem?_eq_getElem (by have := hR.out.1; have := HN.out; omega)⟩
      have hRow := hW.out
      have cl := hcs_len qs
      have hql := hR.out.1
      have hnl := HN.out
      have c0 : wr.cell? ⟨g, i * 2, none⟩ = some (Value.int .i64 p1) := by rw [hRow.cellAt _ (by omega)]; exact (hcs_get hp).1
      have c1 : wr.cell? ⟨g, i * 2 + 1, none⟩ = some (.slice p2 p3 p4) := by rw [hRow.cellAt _ (by omega)]; exact (hcs_get hp).2
      have d0 : wr.cell? ⟨g, jn * 2, none⟩ = some (Value.int .i64 q1) := by rw [hRow.cellAt _ (by omega)]; exact (hcs_get hq).1
      have d1 : wr.cell? ⟨g, jn * 2 + 1, none⟩ = some (.slice q2 q3 q4) := by rw [hRow.cellAt _ (by omega)]; exact (hcs_get hq).2
      have f0 := hRow.frozenAt (i * 2)
      have f1 := hRow.frozenAt (i * 2 + 1)
      have f2 := hRow.frozenAt (jn * 2)
      have f3 := hRow.frozenAt (jn * 2 + 1)
      have hi0 : (0 : Int) ≤ (i : Int) := by omega
      have hi1 : (i : Int) < (n : Int) := by omega
      have hj0 : (0 : Int) ≤ (jn : Int) := by omega
      have hj1 : (jn : Int) < (n : Int) := by omega
      have HJN := Lib.hid hjn
      have HP := Lib.hid hp
      have HQ := Lib.hid hq
      clear hRow cl hql hnl hjn hj hij hp hq hin
      have hb1 : Int.toNat (i : Int) * 2 = i * 2 := by omega
      go_upto_region 3 with fail
      go_region
      go_wp2
      have hql := hR.out.1
      have hnl := HN.out
      obtain ⟨e1, e2⟩ := hW.out.stored (i * 2) (Value.int .i64 q1)
      obtain ⟨e3, e4⟩ := e1.stored (i * 2 + 1) (.slice q2 q3 q4)
      obtain ⟨e5, e6⟩ := e3.stored (jn * 2) (Value.int .i64 p1)
      obtain ⟨e7, e8⟩ := e5.stored (jn * 2 + 1) (.slice p2 p3 p4)
      have hjn := HJN.out
      have g1 := hcs_set (ps := qs) (i := i) (p := (q1, q2, q3, q4)) (by omega)
      have g2 := hcs_set (ps := qs.set i (q1, q2, q3, q4)) (i := jn) (p := (p1, p2, p3, p4)) (by rw [List.length_set]; omega)
      dsimp only [hcv] at g1 g2
      rw [g1, g2] at e7
      have hE : ∀ W : World, Ext W W.drew := fun W => (Ext.refl W).drew
      have e9 := ownsRow_ext e7 (hE _)
      have e10 := ((((hG.out.trans e2).trans e4).trans e6).trans e8).trans (ext_grown (hE _) (some g))
      have hq := HQ.out
      have hjl : jn = ps.length - 1 - i := by omega
      rw [hjl] at hq
      have h9 := hR.out.step (by omega) HP.out hq
      rw [← hjl] at h9
      go_roundg (n - (i + 1))
      case measure => omega
      case rel => exact ⟨i + 1, (jn : Int) - 1, _, by go_num, rfl, by have := HJ.out; omega, by omega, by omega, h9, e9, e10⟩
    · clear hj
      go_wp2
      go_end0
      have h9 := hR.out.done (by have := HJ.out; have := HN.out; omega)
      subst h9
      exact ⟨rfl, hW.out, hG.out⟩
end Go.Proofs.YtcjjoabofecjmaaGreat

namespace Go.Proofs.YtcjjoabofecjmaaGreat
open Go.RowKit Go.Sort
def HRd (w : World) (p : HC) (x : Hdl) : Prop := p.1 = x.fn ∧ InR x.fn ∧ RSl 1 RInt w p.2.1 p.2.2.1 x.args ∧ p.2.2.1 ≤ p.2.2.2
def HRds (w : World) (ps : List HC) (xs : List Hdl) : Prop := ps.length = xs.length ∧ ∀ (i : Nat) (p : HC) (x : Hdl), ps[i]? = some p → xs[i]? = some x → HRd w p x
theorem HRd.mono {w W : World} {p : HC} {x : Hdl} (h : HRd w p x) (hE : Ext w W) : HRd W p x := ⟨h.1, h.2.1, h.2.2.1.mono RInt.stays hE, h.2.2.2⟩
theorem hcs_one (ps : List HC) : ∀ u ∈ hcs ps, u.oneCell' = true := by
  induction ps with
  | nil => intro u hu; cases hu
  | cons p ps ih =>
    intro u hu
    have : u = Value.int .i64 p.1 ∨ u = hcv p ∨ u ∈ hcs ps := by simpa [hcs] using hu
    rcases this with rfl | rfl | h
    · rfl
    · rfl
    · exact ih u h
theorem hcs_append (ps : List HC) (p : HC) : hcs (ps ++ [p]) = hcs ps ++ [Value.int .i64 p.1, hcv p] := by simp [hcs]
theorem rowOf_hcs : ∀ {xs : List Hdl} {gs : List Value}, gs.length = xs.length → (∀ v ∈ gs, ∃ A n c, v = .slice A n c) → ∃ ps : List HC, hcs ps = rowOf hdlCells xs gs ∧ ps.length = xs.length ∧ ∀ (i : Nat) (p : HC) (x : Hdl), ps[i]? = some p → xs[i]? = some x → p.1 = x.fn ∧ gs[i]? = some (hcv p)
  | [], [], _, _ => ⟨[], rfl, rfl, fun i p x h => by simp at h⟩
  | [], _ :: _, h, _ => by simp at h
  | _ :: _, [], h, _ => by simp at h
  | x :: xs, g :: gs, h, hg => by
    obtain ⟨ps, h1, h2, h3⟩ := rowOf_hcs (xs := xs) (gs := gs) (by simpa using h) (fun v hv => hg v (List.mem_cons_of_mem _ hv))
    obtain ⟨A, n, c, rfl⟩ := hg g List.mem_cons_self
    refine ⟨(x.fn, A, n, c) :: ps, ?_, by simp [h2], fun i p y hp hy => ?_⟩
    · show [Value.int .i64 x.fn, Value.slice A n c] ++ hcs ps = hdlCells x (.slice A n c) ++ rowOf hdlCells xs gs
      rw [h1]; rfl
    · cases i with
      | zero =>
        simp only [List.getElem?_cons_zero, Option.some.injEq] at hp hy
        subst hp hy
        exact ⟨rfl, rfl⟩
      | succ i =>
        simp only [List.getElem?_cons_succ] at hp hy
        exact h3 i p y hp hy
theorem hdl_hcs {w : World} {A : Option Addr} {n : Nat} {xs : List Hdl} (h : RSl 2 RHdl w A n xs) : ∃ ps : List HC, CSl w A n 2 (hcs ps) ∧ HRds w ps xs := by
  obtain ⟨gs, h1, h2, h3⟩ := handlers_cells h
  obtain ⟨ps, e1, e2, e3⟩ := rowOf_hcs h1 (fun v hv => by
    obtain ⟨i, hi, rfl⟩ := List.getElem_of_mem hv
    obtain ⟨_, A, m, c, e, _⟩ := h3 i _ _ (List.getElem?_eq_getElem (by omega)) (List.getElem?_eq_getElem hi)
    exact ⟨A, m, c, e⟩)
  rw [← e1] at h2
  refine ⟨ps, h2, e2, fun i p x hp hx => ?_⟩
  obtain ⟨q1, q2⟩ := e3 i p x hp hx
  obtain ⟨q3, A, m, c, e, q4, q5⟩ := h3 i x _ hx q2
  unfold hcv at e
  injection e with e4 e5 e6
  exact ⟨q1, q3, by rw [e4, e5]; exact q4, by rw [e5, e6]; exact q5⟩
theorem hcs_reads {w W : World} {B n c : Nat} {A : Option Addr} {ps : List HC} {xs : List Hdl} (hr : W.ownsRow B 58 2 (.slice A n c) n (hcs ps)) (h : HRds w ps xs) (hE : Ext w W) (hn : n = xs.length) (hn8 : n ≤ 1000) : RSl 2 RHdl W A n xs := by
  obtain ⟨A', c', e, _, _, hC⟩ := ownsRow_shape hr
  injection e with e1 _ _
  subst e1
  refine ⟨hn, by omega, fun k x hk => ?_⟩
  have hkl := (List.getElem?_eq_some_iff.1 hk).1
  obtain ⟨p, hp⟩ : ∃ p, ps[k]? = some p := ⟨_, List.getElem?_eq_getElem (by rw [h.1]; exact hkl)⟩
  obtain ⟨q1, q2, q3, q4⟩ := h.2 k p x hp hk
  obtain ⟨g1, g2⟩ := hcs_get hp
  obtain ⟨b, o, hA, hc⟩ := hC.2 (by omega)
  refine ⟨b, o, [Value.int .i64 x.fn, hcv p], hA, rfl, ⟨_, _, _, rfl, q2, q3.mono RInt.stays hE, q4⟩, fun j v hj => ?_⟩
  match j, hj with
  | 0, hj =>
    have hj : Value.int .i64 x.fn = v := by simpa using hj
    subst hj
    have := hc (k * 2) _ g1
    rw [q1] at this
    exact this
  | 1, hj =>
    have hj : hcv p = v := by simpa using hj
    subst hj
    have := hc (k * 2 + 1) _ g2
    rw [← Nat.add_assoc] at this
    exact this
  | j + 2, hj => simp at hj
theorem HRds.reverse {w : World} {ps : List HC} {xs : List Hdl} (h : HRds w ps xs) : HRds w ps.reverse xs.reverse := by
  refine ⟨by rw [List.length_reverse, List.length_reverse, h.1], fun i p x hp hx => ?_⟩
  have hi : i < ps.length := by have := (List.getElem?_eq_some_iff.1 hp).1; rwa [List.length_reverse] at this
  rw [List.getElem?_reverse hi] at hp
  rw [List.getElem?_reverse (by rw [← h.1]; exact hi)] at hx
  exact h.2 _ p x hp (by rw [h.1]; exact hx)
theorem HRds.snoc {w : World} {ps : List HC} {xs : List Hdl} {k : Nat} {p : HC} {x : Hdl} (h : HRds w ps (xs.take k)) (hk : xs[k]? = some x) (hp : HRd w p x) : HRds w (ps ++ [p]) (xs.take (k + 1)) := by
  have hkl := (List.getElem?_eq_some_iff.1 hk).1
  have hl := h.1
  rw [List.length_take, Nat.min_eq_left (by omega)] at hl
  refine ⟨by rw [List.length_append, List.length_take, hl]; simp; omega, fun i q y hq hy => ?_⟩
  rw [List.getElem?_take] at hy
  split at hy
  · rename_i hi
    rcases Nat.lt_or_ge i k with h1 | h1
    · rw [List.getElem?_append_left (by omega)] at hq
      exact h.2 i q y hq (by rw [List.getElem?_take, if_pos h1]; exact hy)
    · have : i = k := by omega
      subst this
      rw [List.getElem?_append_right (by omega), hl, Nat.sub_self] at hq
      simp only [List.getElem?_cons_zero, Option.some.injEq] at hq
      subst hq
      rw [hk] at hy
      injection hy with hy
      subst hy
      exact hp
  · cases hy
set_option maxRecDepth 8000 in
set_option maxHeartbeats 4000000 in
theorem reverse_none (A : Option Addr) (c : Nat) (w : World) : Calls Tryz.prog 31 #[.slice A 0 c] w fun e w' => e = .returned (.tuple #[]) ∧ w' = w := by
  have hw0 : IntKind.i64.wrap ((0 : Int) - 1) = -1 := by decide
  go_enter Tryz.func31, Tryz.ntmps31
  go_wp2
  go_loopg [2, 3] 0 (fun _ s2 s3 wr => s2 = .int .i64 0 ∧ s3 = .int .i64 (-1) ∧ wr = w)
  case atStart => exact ⟨rfl, rfl, rfl⟩
  case round =>
    obtain ⟨rfl, rfl, rfl⟩ := hrel
    go_wp2
    go_end0
    exact ⟨rfl, rfl⟩
theorem reverse_all (A : Option Addr) (n c B : Nat) (ps : List HC) (w : World) (hn : ps.length = n) (hn8 : n ≤ 1000) (hrow : w.ownsRow B 58 2 (.slice A n c) n (hcs ps)) :
    Calls Tryz.prog 31 #[.slice A n c] w fun e w' => e = .returned (.tuple #[]) ∧ w'.ownsRow B 58 2 (.slice A n c) n (hcs ps.reverse) ∧ w.grownBy w' (Value.slice A n c).ownBlock := by
  rcases Nat.eq_zero_or_pos n with h0 | h0
  · subst h0
    have : ps = [] := List.eq_nil_of_length_eq_zero hn
    subst this
    exact (reverse_none A c w).mono fun e w' ⟨h1, h2⟩ => by subst h2; exact ⟨h1, hrow, World.grownBy.refl _ _⟩
  · obtain ⟨g, c', e, _⟩ := own_form hrow h0
    injection e with e1 _ e3
    subst e1 e3
    exact reverse_hdl g n c B ps w hn hn8 hrow
end Go.Proofs.YtcjjoabofecjmaaGreat
