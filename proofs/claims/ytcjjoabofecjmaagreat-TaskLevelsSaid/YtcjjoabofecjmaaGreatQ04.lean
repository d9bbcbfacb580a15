/- A part of the proof: Whole tasks loaded from and stored into the middle of a block, with no unrolling; how ranges bear what the walks do to a world; Great of the reference; A region that draws its order, whose first operations read or call what only adds to memory, and whose last ones can come in one order alone; A region that draws its order, whose first operations read, or call what may answer with a new block, and whose last ones can come in one order alone; More for XHTail; Tools of the laws; Great of the reference of programs; A whole task loaded by an operation that is guarded ('&&', '||'), its guard decided. -/
import Derived.Test.YtcjjoabofecjmaaGreatQ03
import Derived.Test.YtcjjoabofecjmaaGreatQ02
import Derived.Test.YtcjjoabofecjmaaGreatQ01
import Derived.Test.YtcjjoabofecjmaaGreatProg
import Derived.Deep.MidRow
import Derived.StillTail
import Derived.Deep.CutRange
import Derived.Lib.Hide
import Derived.BigQuiet
set_option linter.unusedVariables false
set_option linter.unusedSimpArgs false
namespace Go.Proofs.YtcjjoabofecjmaaGreat
open Go.RowKit
theorem infoTsk : (Tryz.prog.info? 32).map (·.size) = some 14 := by kernel_rfl
theorem range_new {w : World} {b : Nat} {cs : List Value} {t : TypeId} (hb : b = w.heap.size) : (w.alloc (.cells cs.toArray t)).rangeAt b 0 cs := fun j v hj => by
  subst hb
  rw [cell?_alloc_if, if_neg (Nat.lt_irrefl _), if_pos rfl, Nat.zero_add]
  simpa using hj
theorem range_old {w : World} {b o : Nat} {cs : List Value} (h : w.rangeAt b o cs) (ob : Obj) : (w.alloc ob).rangeAt b o cs := World.rangeAt_alloc h ob
theorem range_ext {w W : World} {b o : Nat} {cs : List Value} (h : w.rangeAt b o cs) (he : Ext w W) : W.rangeAt b o cs := fun j v hj => he.cell (h j v hj)
theorem range_same {w : World} {b k : Nat} {cs : List Value} {u : Value} (h : w.rangeAt b 0 cs) : (w.setCell ⟨b, k, none⟩ u).rangeAt b 0 (cs.set k u) := fun j v hj => by
  rw [cell?_setCell_if, List.getElem?_set] at *
  rw [Nat.zero_add]
  split at hj
  · rename_i e
    subst e
    split at hj
    · rename_i hlt
      rw [if_pos ⟨rfl, rfl⟩]
      have := h k _ (List.getElem?_eq_getElem hlt)
      rw [Nat.zero_add] at this
      rw [this]; simpa using hj
    · cases hj
  · rename_i e
    rw [if_neg (fun h => e h.2)]
    have := h j v hj
    rwa [Nat.zero_add] at this
theorem range_at {w : World} {b o k : Nat} {cs : List Value} {u : Value} (h : w.rangeAt b o cs) (hk : o ≤ k) : (w.setCell ⟨b, k, none⟩ u).rangeAt b o (cs.set (k - o) u) := fun j v hj => by
  rw [cell?_setCell_if, List.getElem?_set] at *
  split at hj
  · rename_i e
    subst e
    split at hj
    · rename_i hlt
      have e2 : o + (k - o) = k := by omega
      rw [if_pos ⟨rfl, e2.symm⟩]
      have := h (k - o) _ (List.getElem?_eq_getElem hlt)
      rw [this]; simpa using hj
    · cases hj
  · rename_i e
    rw [if_neg (fun h => e (by omega))]
    exact h j v hj
theorem range_other {w : World} {b o : Nat} {cs : List Value} {p : Addr} {u : Value} (h : w.rangeAt b o cs) (hb : ¬ p.block = b) : (w.setCell p u).rangeAt b o cs := fun j v hj => by
  rw [World.cell?_setCell_other]
  · exact h j v hj
  · intro e; exact hb (by rw [e])
theorem range_drew {w : World} {b o : Nat} {cs : List Value} (h : w.rangeAt b o cs) : w.drew.rangeAt b o cs := (World.rangeAt_drew w b o cs).2 h
theorem there_new {w : World} {b n : Nat} {cs : Array Value} {t : TypeId} (hb : b = w.heap.size) (hn : n = cs.size) : (w.alloc (.cells cs t)).there b 0 n := fun j hj => by
  subst hb hn
  rw [cell?_alloc_if, if_neg (Nat.lt_irrefl _), if_pos rfl, Nat.zero_add, frozen?_alloc_if, if_neg (Nat.lt_irrefl _)]
  exact ⟨by rw [Array.getElem?_eq_getElem hj]; rfl, rfl⟩
theorem there_old {w : World} {b o n : Nat} (h : w.there b o n) (ob : Obj) : (w.alloc ob).there b o n := World.there_alloc h ob
theorem there_ext {w W : World} {b o n : Nat} (h : w.there b o n) (he : Ext w W) : W.there b o n := fun j hj => by
  obtain ⟨h1, h2⟩ := h j hj
  cases hc : w.cell? ⟨b, o + j, none⟩ with
  | none => rw [hc] at h1; cases h1
  | some v => exact ⟨by rw [he.cell hc]; rfl, by rw [Below.frozen he (lt_of_cell hc)]; exact h2⟩
theorem there_set {w : World} {b o n : Nat} {p : Addr} {u : Value} (h : w.there b o n) : (w.setCell p u).there b o n := fun j hj => by
  obtain ⟨h1, h2⟩ := h j hj
  refine ⟨?_, by rw [World.frozen?_setCell]; exact h2⟩
  cases hc : w.cell? ⟨b, o + j, none⟩ with
  | none => rw [hc] at h1; cases h1
  | some v =>
    by_cases e : p = ⟨b, o + j, none⟩
    · rw [e, World.cell?_setCell_same w _ _ hc]; rfl
    · rw [World.cell?_setCell_other _ _ _ _ e, hc]; rfl
theorem there_sets {w : World} {b o n b' o' : Nat} {vs : List Value} (h : w.there b o n) : (w.setCells b' o' vs).there b o n := World.there_setCells h b' o' vs
theorem there_drew {w : World} {b o n : Nat} (h : w.there b o n) : w.drew.there b o n := (World.there_drew w b o n).2 h
theorem setCells_grown (b : Nat) : ∀ (vs : List Value) (o : Nat) (w : World), w.grownBy (w.setCells b o vs) (some b)
  | [], o, w => World.grownBy.refl _ _
  | v :: vs, o, w => (grown_setCell w ⟨b, o, none⟩ v).trans (setCells_grown b vs (o + 1) _)
theorem Ext.setCells {w W : World} (h : Ext w W) {b : Nat} (hb : w.heap.size ≤ b) (o : Nat) (vs : List Value) : Ext w (W.setCells b o vs) := by
  induction vs generalizing W o with
  | nil => exact h
  | cons v vs ih => exact ih (h.setCell hb v) (o + 1)
theorem setCells_cell {w : World} {b n : Nat} {vs : List Value} (T : w.there b 0 n) (hl : vs.length = n) (b' o : Nat) : (w.setCells b 0 vs).cell? ⟨b', o, none⟩ = if b' = b ∧ o < n then vs[o]? else w.cell? ⟨b', o, none⟩ := by
  subst hl
  split
  · rename_i h
    obtain ⟨rfl, h⟩ := h
    have := World.cell?_setCells_in b' vs 0 w (fun j hj => (T j hj).1) o h
    rw [Nat.zero_add] at this
    rw [this, List.getElem?_eq_getElem h]
  · rename_i h
    exact World.cell?_setCells_out b vs 0 w _ (fun h1 _ => by
      show o < 0 ∨ 0 + vs.length ≤ o
      have h1 : b' = b := h1
      rcases Nat.lt_or_ge o vs.length with h2 | h2
      · exact absurd ⟨h1, h2⟩ h
      · omega)
theorem setCells_size (b : Nat) : ∀ (vs : List Value) (o : Nat) (w : World), (w.setCells b o vs).heap.size = w.heap.size
  | [], _, _ => rfl
  | v :: vs, o, w => (setCells_size b vs (o + 1) (w.setCell ⟨b, o, none⟩ v)).trans (World.size_setCell _ _ _)
theorem own_setCell {w : World} {B : Nat} {e : TypeId} {sz : Nat} {v : Value} {n : Nat} {xs : List Value} {p : Addr} {u : Value} (h : w.ownsRow B e sz v n xs) (hp : p.block < B) : (w.setCell p u).ownsRow B e sz v n xs :=
  h.kept (grown_setCell _ _ _) (own_ne h hp)
theorem own_setCells {w : World} {B : Nat} {e : TypeId} {sz : Nat} {v : Value} {n : Nat} {xs : List Value} {b o : Nat} {vs : List Value} (h : w.ownsRow B e sz v n xs) (hp : b < B) : (w.setCells b o vs).ownsRow B e sz v n xs :=
  h.kept (setCells_grown _ _ _ _) (own_ne h hp)
theorem xts {w W : World} (h : Ext w W := by repeat' (first | with_reducible assumption | with_reducible refine Ext.setCells ?_ (by first | omega | (simp; done) | (simp; omega)) _ _ | with_reducible exact Ext.refl _ | with_reducible refine Ext.alloc ?_ _ | with_reducible refine Ext.drew ?_ | with_reducible refine Ext.drewN ?_ _ | with_reducible refine Ext.regrown ?_ _ _ | with_reducible refine Ext.setCell ?_ (by first | (simp; done) | (simp; omega)) _)) : Ext w W := h
theorem tr {w : World} {b o n : Nat} (h : w.there b o n := by (repeat' (first | with_reducible assumption | ((with_reducible apply there_new) <;> (simp; done)) | with_reducible apply there_old | with_reducible apply there_drew | with_reducible apply there_set | with_reducible apply there_sets | assumption))) : w.there b o n := h
theorem rg {w : World} {b o : Nat} {cs : List Value} (h : w.rangeAt b o cs := by (repeat' (first | with_reducible assumption | ((with_reducible apply range_new); simp; done) | with_reducible apply range_old | with_reducible apply range_drew | ((with_reducible apply World.rangeAt_setCells_same) <;> (repeat' (first | with_reducible assumption | ((with_reducible apply there_new) <;> (simp; done)) | with_reducible apply there_old | with_reducible apply there_drew | with_reducible apply there_set | with_reducible apply there_sets | assumption))) | with_reducible apply range_same | ((with_reducible apply range_at) <;> first | omega | skip) | ((with_reducible apply range_other) <;> first | (simp; omega) | skip)))) : w.rangeAt b o cs := h
theorem ret_range {fn : Func} {R : Ending → World → Prop} {a : Act} {w : World} {b s : Nat} {cs : List Value} (hfn : fn.results = #[ResultVar.cell s 32]) (hs : a.tmps[s]? = some (.pointer (some ⟨b, 0, none⟩))) (hd : a.defers = []) (hl : cs.length = 14) (hR : w.rangeAt b 0 cs)
    (h : R (.returned (.agg cs.toArray)) w) : bodyPost Tryz.prog fn R .ret a w :=
  bodyPost_ret (by simp [results, hfn, hs, asAddr, run_loadVar_mid w b 0 32 cs _ hR Tryz.underlying32 rfl (by rw [infoTsk, hl])]) hd h
theorem ret_range2 {fn : Func} {R : Ending → World → Prop} {a : Act} {w : World} {b s k : Nat} {cs : List Value} {v : Value} (hfn : fn.results = #[ResultVar.cell s 32, ResultVar.tmp k]) (hs : a.tmps[s]? = some (.pointer (some ⟨b, 0, none⟩))) (hk : a.tmps[k]? = some v) (hd : a.defers = []) (hl : cs.length = 14) (hR : w.rangeAt b 0 cs)
    (h : R (.returned (.tuple #[.agg cs.toArray, v])) w) : bodyPost Tryz.prog fn R .ret a w :=
  bodyPost_ret (by simp [results, hfn, hs, hk, asAddr, run_loadVar_mid w b 0 32 cs _ hR Tryz.underlying32 rfl (by rw [infoTsk, hl])]) hd h
def tskL (t : Tsk) (VF VB : Value) : List Value := [Value.int .i64 t.fn, Value.int .i64 t.scope, Value.int .i64 t.prio, Value.int .i64 t.status, Value.int .i64 t.wkind, Value.int .i64 t.windex, .bool t.wagain, VF, VB, Value.int .i64 t.mask, .bool t.unw, Value.int .i64 t.level, Value.int .i64 t.reason, Value.int .i64 t.result]
theorem rtsk_of {W : World} {t : Tsk} {Af Ab : Option Addr} {nf cf nb cb : Nat} (hi : InR t.fn ∧ InR t.scope ∧ InR t.prio ∧ InR t.status ∧ InR t.wkind ∧ InR t.windex ∧ InR t.mask ∧ InR t.level ∧ InR t.reason ∧ InR t.result)
    (hF : RSl 5 RFrm W Af nf t.frames) (hc : nf ≤ cf) (hB : RSl 5 RBlk W Ab nb t.blocks) (hcb : nb ≤ cb) : RTsk W t (tskV t (.slice Af nf cf) (.slice Ab nb cb)) :=
  ⟨Af, nf, cf, Ab, nb, cb, rfl, hi.1, hi.2.1, hi.2.2.1, hi.2.2.2.1, hi.2.2.2.2.1, hi.2.2.2.2.2.1, hi.2.2.2.2.2.2.1, hi.2.2.2.2.2.2.2.1, hi.2.2.2.2.2.2.2.2.1, hi.2.2.2.2.2.2.2.2.2, hF, hB, hc, hcb⟩
theorem RTsk.inr {w : World} {t : Tsk} {V : Value} (h : RTsk w t V) : InR t.fn ∧ InR t.scope ∧ InR t.prio ∧ InR t.status ∧ InR t.wkind ∧ InR t.windex ∧ InR t.mask ∧ InR t.level ∧ InR t.reason ∧ InR t.result := by
  obtain ⟨_, _, _, _, _, _, _, h1, h2, h3, h4, h5, h6, h7, h8, h9, h10, _⟩ := h
  exact ⟨h1, h2, h3, h4, h5, h6, h7, h8, h9, h10⟩
end Go.Proofs.YtcjjoabofecjmaaGreat

namespace Go.Proofs.YtcjjoabofecjmaaGreat
open Go.RowKit
theorem wp_hid' {P : Program} {c : Code} {Q : Exit → Act → World → Prop} {a : Act} {w : World} (h : ∀ W, Hid (W = w) → c.wp P Q a W) : c.wp P Q a w := h w rfl
def greatF (f : Frm) : Bool := decide (40 < f.regs.length)
def greatH (h : Hdl) : Bool := decide (12 < h.args.length)
def greatB (b : Blk) : Bool := decide (12 < b.handlers.length) || b.handlers.any greatH
def greatT (t : Tsk) : Bool := decide (12 < t.frames.length) || decide (12 < t.blocks.length) || t.frames.any greatF || t.blocks.any greatB
theorem any_drop {α : Type} (g : α → Bool) {xs : List α} {k : Nat} {x : α} (hx : xs[k]? = some x) : (xs.drop k).any g = (g x || (xs.drop (k + 1)).any g) := by
  rw [drop_cons hx, List.any_cons]
set_option maxHeartbeats 4000000 in
theorem refGreat_any (t : Tsk) (V : Value) (w : World) (hV : RTsk w t V) :
    Calls Tryz.prog 36 #[V] w fun e w' => e = .returned (.bool (greatT t)) ∧ Ext w w' := by
  obtain ⟨Af, nf, cf, Ab, nb, cb, rfl, _, _, _, _, _, _, _, _, _, _, hF, hB, _⟩ := hV
  have hle := hF.le
  have hle2 := hB.le
  have LF := Lib.hid hF.len
  have LB := Lib.hid hB.len
  obtain ⟨qf, HQF⟩ : ∃ q, Hid (t.frames.any greatF = q) := ⟨_, rfl⟩
  obtain ⟨qb, HQB⟩ : ∃ q, Hid (t.blocks.any greatB = q) := ⟨_, rfl⟩
  have HG : Hid (greatT t = (decide (12 < nf) || decide (12 < nb) || qf || qb)) := by unfold Hid greatT; rw [HQF.out, HQB.out, LF.out, LB.out]
  have HF := Lib.hid hF
  have HB := Lib.hid hB
  clear hF hB
  go_enter Tryz.func36, Tryz.ntmps36
  go_wp2
  all_goals try (go_ret; exact ⟨ret_bool (by have g := HG.out; clear HG; rw [g]; simp; omega), xt⟩)
  refine wp_hid' ?_
  intro W0 HW0
  have HE : Hid (Ext w W0) := by rw [HW0.out]; exact Lib.hid xt
  have k7 : W0.cell? ⟨w.heap.size, 7, none⟩ = some (.slice Af nf cf) := by rw [HW0.out]; simp [go_sem]
  have k8 : W0.cell? ⟨w.heap.size, 8, none⟩ = some (.slice Ab nb cb) := by rw [HW0.out]; simp [go_sem]
  have HG2 : Hid (greatT t = (qf || qb)) := by
    have g := HG.out
    rw [Hid, g]
    have h1 : ¬ 12 < nf := by omega
    have h2 : ¬ 12 < nb := by omega
    simp [h1, h2]
  clear HW0 HG
  go_loopg [3] nf (fun gg s3 wr => ∃ k : Nat, k ≤ nf ∧ nf - k ≤ gg ∧ s3 = .int .i64 k ∧ Hid (W0 = wr) ∧ Hid (qf = (t.frames.drop k).any greatF))
  case atStart => exact ⟨0, Nat.zero_le _, by omega, rfl, rfl, HQF.out.symm⟩
  case round =>
    obtain ⟨k, hk, hg, rfl, HW, HI⟩ := hrel
    by_cases hlt : k < nf
    · have hltz : (k : Int) < (nf : Int) := by omega
      obtain ⟨x, hx⟩ : ∃ x, t.frames[k]? = some x := ⟨_, List.getElem?_eq_getElem (by have := LF.out; omega)⟩
      obtain ⟨b, off, Aa, na, ca, rfl, hlb, _, _, _, ⟨hA, _⟩, c0, c1, c2, c3, c4⟩ := (HF.out.mono RFrm.stays HE.out).frm hx
      have HD := Lib.hid (any_drop greatF hx)
      have HX : Hid (greatF x = decide (40 < na)) := by rw [Hid, greatF, hA.len]
      rw [HW.out] at k7 k8 c0 c1 c2 c3 c4
      have hle3 := hA.le
      clear hx hA
      by_cases h40 : 40 < na
      · have h40z : (40 : Int) < (na : Int) := by omega
        go_wp2
        go_ret
        exact ⟨ret_bool (by rw [HG2.out, HI.out, HD.out, HX.out, decide_eq_true h40]; rfl), HW.out ▸ HE.out⟩
      · have h40z : ¬ (40 : Int) < (na : Int) := by omega
        go_wp2
        go_roundg (nf - (k + 1))
        case measure => omega
        case rel => exact ⟨k + 1, by omega, by omega, by go_num, HW.out, by rw [Hid, HI.out, HD.out, HX.out, decide_eq_false h40]; rfl⟩
    · have hltz : ¬ (k : Int) < (nf : Int) := by omega
      have hq : qf = false := by rw [HI.out, List.drop_eq_nil_of_le (by have := LF.out; omega)]; rfl
      subst hq
      obtain ⟨W1, eW1⟩ : ∃ W, W = wr := ⟨_, rfl⟩
      subst eW1
      rw [HW.out] at k7 k8
      have HE1 : Hid (Ext w W1) := HW.out ▸ HE
      go_wp2
      go_loopg [4, 5] nb (fun gg s4 _ wr => ∃ j : Nat, j ≤ nb ∧ nb - j ≤ gg ∧ s4 = .int .i64 j ∧ Hid (W1 = wr) ∧ Hid (qb = (t.blocks.drop j).any greatB))
      case atStart => exact ⟨0, Nat.zero_le _, by omega, rfl, rfl, HQB.out.symm⟩
      case round =>
        obtain ⟨j, hj, hgj, rfl, HWj, HIj⟩ := hrel
        obtain ⟨W2, eW2⟩ : ∃ W, W = wr := ⟨_, rfl⟩
        subst eW2
        rw [HWj.out] at k7 k8
        have HE2 : Hid (Ext w W2) := HWj.out ▸ HE1
        by_cases hlt : j < nb
        · have hltz : (j : Int) < (nb : Int) := by omega
          obtain ⟨x, hx⟩ : ∃ x, t.blocks[j]? = some x := ⟨_, List.getElem?_eq_getElem (by have := LB.out; omega)⟩
          obtain ⟨b, off, Aa, na, ca, rfl, hlb, _, _, _, _, ⟨hA, _⟩, c0, c1, c2, c3, c4⟩ := (HB.out.mono RBlk.stays HE2.out).blk hx
          have HD := Lib.hid (any_drop greatB hx)
          have LA := Lib.hid hA.len
          have hle3 := hA.le
          have HA := Lib.hid hA
          clear hx hA
          by_cases h12 : 12 < na
          · have h12z : (12 : Int) < (na : Int) := by omega
            go_wp2
            go_ret
            exact ⟨ret_bool (by rw [HG2.out, HIj.out, HD.out, greatB, ← LA.out, decide_eq_true h12]; rfl), HE2.out⟩
          · have h12z : ¬ (12 : Int) < (na : Int) := by omega
            have HX : Hid (greatB x = x.handlers.any greatH) := by rw [Hid, greatB, ← LA.out, decide_eq_false h12]; rfl
            go_wp2
            go_loopg [5] na (fun gg s5 wr => ∃ i : Nat, i ≤ na ∧ na - i ≤ gg ∧ s5 = .int .i64 i ∧ Hid (W2 = wr) ∧ Hid (x.handlers.any greatH = (x.handlers.drop i).any greatH))
            case atStart => exact ⟨0, Nat.zero_le _, by omega, rfl, rfl, rfl⟩
            case round =>
              obtain ⟨i, hi, hgi, rfl, HWi, HIi⟩ := hrel
              rw [HWi.out] at k7 k8 c4
              by_cases hlt : i < na
              · have hltz : (i : Int) < (na : Int) := by omega
                obtain ⟨y, hy⟩ : ∃ y, x.handlers[i]? = some y := ⟨_, List.getElem?_eq_getElem (by have := LA.out; omega)⟩
                obtain ⟨b2, off2, Ac, nc, cc, rfl, hlb2, _, ⟨hC, _⟩, d0, d1⟩ := HA.out.hdl hy
                rw [HWi.out] at d0 d1
                have HDi := Lib.hid (any_drop greatH hy)
                have HY : Hid (greatH y = decide (12 < nc)) := by rw [Hid, greatH, hC.len]
                have hle4 := hC.le
                clear hy hC
                by_cases h12' : 12 < nc
                · have h12y : (12 : Int) < (nc : Int) := by omega
                  go_wp2
                  go_ret
                  exact ⟨ret_bool (by rw [HG2.out, HIj.out, HD.out, HX.out, HIi.out, HDi.out, HY.out, decide_eq_true h12']; rfl), HWi.out ▸ HE2.out⟩
                · have h12y : ¬ (12 : Int) < (nc : Int) := by omega
                  go_wp2
                  go_roundg (na - (i + 1))
                  case measure => omega
                  case rel => exact ⟨i + 1, by omega, by omega, by go_num, HWi.out, by rw [Hid, HIi.out, HDi.out, HY.out, decide_eq_false h12']; rfl⟩
              · have hltz : ¬ (i : Int) < (na : Int) := by omega
                go_wp2
                go_roundg (nb - (j + 1))
                case measure => omega
                case rel => exact ⟨j + 1, by omega, by omega, by go_num, HWj.out.trans HWi.out, by rw [Hid, HIj.out, HD.out, HX.out, HIi.out, List.drop_eq_nil_of_le (by have := LA.out; omega)]; rfl⟩
        · have hltz : ¬ (j : Int) < (nb : Int) := by omega
          go_wp2
          go_ret
          exact ⟨ret_bool (by rw [HG2.out, HIj.out, List.drop_eq_nil_of_le (by have := LB.out; omega)]; rfl), HE2.out⟩
end Go.Proofs.YtcjjoabofecjmaaGreat

namespace Go.Proofs.YtcjjoabofecjmaaGreat
open Go.RowKit Go.Sort
section
variable {P : Program} {ops : Array Oper} {md : Region.Mode} {C : World → Prop}
def anyLQ (P : Program) (md : Region.Mode) (ops : Array Oper) (C : World → Prop) (n : Nat) (L : Array Bool → Act → Prop) : Nat → Array Bool → Act → Prop
  | 0, listed, a => L listed a
  | f + 1, listed, a => Region.ready md ops listed ≠ [] ∧ ∀ i ∈ Region.ready md ops listed, i < n ∧ qOp P ops C i (anyLQ P md ops C n L f (listed.setIfInBounds i true)) a
theorem any_of_head {n g : Nat} {L : Array Bool → Act → Prop} {Q' : Exit → Act → World → Prop} (hL : ∀ listed a w, C w → L listed a → wpAny P md ops Q' g listed a w) :
    ∀ (f : Nat) (listed : Array Bool) (a : Act) (w : World), C w → anyLQ P md ops C n L f listed a → wpAny P md ops Q' (f + g) listed a w
  | 0, listed, a, w, hw, h => by rw [Nat.zero_add]; exact hL _ _ _ hw h
  | f + 1, listed, a, w, hw, h => by
    rw [show f + 1 + g = (f + g) + 1 by omega]
    exact ⟨fun h0 => absurd h0 h.1, fun i hi => wpOp_of_qOp hw (fun a' w' hw' h' => any_of_head hL f _ a' w' hw' h') (h.2 i hi).2⟩
theorem anyLQ_first {n i : Nat} {oi : Oper} {v : Value} {L : Array Bool → Act → Prop} (hi : ops[i]? = some oi) (hsel : ∀ (j : Nat) (o : Oper) cs b, ops[j]? = some o → o.op ≠ .select cs b)
    (hs : Region.sinkB md ops n = true) (hc : Region.chainB md ops n = true) (hn : n < ops.size) (hin : i < n)
    (hdone : ∀ listed a, L listed a → ∀ j ∈ Region.ready md ops listed, n ≤ j) :
    ∀ (f : Nat) (listed : Array Bool) (a : Act), HeadInv md ops n listed →
      (∀ j oj, ops[j]? = some oj → j ≠ i → listed.getD j true = false → (∀ e ∈ oj.after, Region.binds md e = true → e.on ≠ i) → oi.apart ops oj = true) →
      i ∈ Region.ready md ops listed → YieldsIn P ops C oi v a →
      anyLQ P md ops C n L f (listed.setIfInBounds i true) (a.put oi.dst v) → anyLQ P md ops C n L (f + 1) listed a := by
  intro f
  induction f with
  | zero =>
    intro listed a inv _ hr hy H
    have hun := (mem_ready.1 hr).1
    refine ⟨fun h => (by rw [h] at hr; cases hr), fun j hj => ?_⟩
    have hjn : j < n := by
      rcases Nat.lt_or_ge j n with h | h
      · exact h
      · exact absurd hj (tail_waits hs hc hn inv _ i rfl hin hun j h)
    refine ⟨hjn, ?_⟩
    by_cases hji : j = i
    · subst hji; exact hy.qOp hi H
    · have := hdone _ _ H j (ready_mono hj hji)
      omega
  | succ f ih =>
    intro listed a inv hfree hr hy H
    have hun := (mem_ready.1 hr).1
    refine ⟨fun h => (by rw [h] at hr; cases hr), fun j hj => ?_⟩
    have hjn : j < n := by
      rcases Nat.lt_or_ge j n with h | h
      · exact h
      · exact absurd hj (tail_waits hs hc hn inv _ i rfl hin hun j h)
    refine ⟨hjn, ?_⟩
    by_cases hji : j = i
    · subst hji; exact hy.qOp hi H
    · have h1 := (H.2 j (ready_mono hj hji)).2
      obtain ⟨hjun, oj, hoj, hall⟩ := mem_ready.1 hj
      have hnot : ∀ e ∈ oj.after, Region.binds md e = true → e.on ≠ i := fun e he hb heq => by
        have h1 := hall e he hb
        rw [heq, getD_both hun] at h1
        cases h1
      have h2 := qOp_put hoj (hfree j oj hoj hji hjun hnot) (fun cs b => hsel i oi cs b hi) (fun cs b => hsel j oj cs b hoj) hy h1
      have hfree' : ∀ k ok, ops[k]? = some ok → k ≠ i → (listed.setIfInBounds j true).getD k true = false →
          (∀ e ∈ ok.after, Region.binds md e = true → e.on ≠ i) → oi.apart ops ok = true := fun k ok hk hki hun hno => by
        refine hfree k ok hk hki ?_ hno
        by_cases hjk : j = k
        · subst hjk; exact hjun
        · rw [getD_set_ne true hjk] at hun; exact hun
      refine qOp_mono (fun a' h3 => ih (listed.setIfInBounds j true) a' (inv.set hj hjn) hfree' (ready_mono hr (Ne.symm hji)) h3.1 ?_) h2
      rw [Array.setIfInBounds_comm _ _ hji]
      exact h3.2
theorem anyLQ_lex {n g : Nat} {Lq : Act → Prop} (hsel : Region.noSelect ops = true) (hs : Region.sinkB md ops n = true) (hc : Region.chainB md ops n = true) (hn : n < ops.size) :
    ∀ (l : List Oper) (k : Nat) (listed : Array Bool) (a : Act), (∀ j, j < l.length → l[j]? = ops[k + j]?) → k + l.length = n → HeadInv md ops n listed →
    Region.lexHead md ops g l.length k listed = true → wpQuiet P ops C Lq l a →
    anyLQ P md ops C n (fun listed' a' => Region.seqB md ops g n listed' = true ∧ Lq a') l.length listed a
  | [], k, listed, a, _, hk, _, hB, h => by
    have : k = n := by simpa using hk
    subst this
    exact ⟨by simpa [Region.lexHead] using hB, h⟩
  | o :: l, k, listed, a, hl, hk, inv, hB, h => by
    have h0 : ops[k]? = some o := by simpa using (hl 0 (by simp)).symm
    simp only [List.length_cons, Region.lexHead, Bool.and_eq_true] at hB
    obtain ⟨⟨hr, hf⟩, hB'⟩ := hB
    have hkn : k < n := by simp only [List.length_cons] at hk; omega
    have hr' : k ∈ Region.ready md ops listed := by simpa using hr
    have hst : qOp P ops C k (wpQuiet P ops C Lq l) a := by unfold qOp; simp only [h0]; exact h
    obtain ⟨v, hy, hK⟩ := yieldsIn_of_qOp h0 hst
    exact anyLQ_first h0 (Region.noSelect_spec hsel) hs hc hn hkn (fun listed' a' hL => seqB_ready hL.1) l.length listed a inv (Region.free_spec h0 hf) hr' hy
      (anyLQ_lex hsel hs hc hn l (k + 1) _ _ (fun j hj => by have := hl (j + 1) (by simp; omega); simpa [Nat.add_assoc, Nat.add_comm 1 j] using this) (by simp only [List.length_cons] at hk; omega) (inv.set hr' hkn) hB' hK)
theorem wp_region_quiet_tail {id : Nat} {Q : Exit → Act → World → Prop} {a : Act} {w : World} {l : List Oper} (n : Nat) (hm : P.follows .mixedOrders = true) (hB : Region.lexTailB .any l.toArray n = true)
    (h : wpQuiet P l.toArray (fun w' => ∃ p : Regrown, w' = grow (redrawn w p.d) p.os) (fun a' => ∀ w', (∃ p : Regrown, w' = grow (redrawn w p.d) p.os) → wpList P l.toArray Q (l.drop n) a' w') (l.take n) a) : (Code.region id l.toArray true).wp P Q a w := by
  simp only [Region.lexTailB, Bool.and_eq_true, decide_eq_true_eq] at hB
  obtain ⟨⟨⟨⟨hsel, hn⟩, hs⟩, hc⟩, hlex⟩ := hB
  have hn' : n < l.length := by simpa using hn
  have htl : (l.take n).length = n := by simp; omega
  have hdl : (l.drop n).length = l.toArray.size - n := by simp
  have inv0 : HeadInv .any l.toArray n (Array.replicate l.toArray.size false) :=
    ⟨by simp, fun j oj _ hl => (by rw [getD_replicate_false] at hl; cases hl), fun t _ ht => getD_in (by simpa using ht) (getD_replicate_false _ _)⟩
  have H := anyLQ_lex (md := .any) (g := l.toArray.size - n) hsel hs hc hn (l.take n) 0 _ a (fun j hj => by
    have hj' : j < n := by rw [htl] at hj; exact hj
    simp [hj']) (by simpa using htl) inv0 (by rw [htl]; exact hlex) h
  refine wp_region_any hm ?_
  have := any_of_head (Q' := Q) (g := l.toArray.size - n) (fun listed a' w' hw' hL => by
    have := wpAny_of_seq (md := .any) (Q' := Q) (l.drop n) n listed a' w' (fun j => by simp [List.getElem?_drop]) (by rw [hdl]; exact hL.1) (hL.2 w' hw')
    rwa [hdl] at this) _ _ _ { w with drawn := w.drawn + 1 } ⟨⟨w.drawn + 1, #[]⟩, by rw [grow_empty]; rfl⟩ H
  rw [htl, show n + (l.toArray.size - n) = l.toArray.size by omega] at this
  exact this
end
end Go.Proofs.YtcjjoabofecjmaaGreat

namespace Go.Proofs.YtcjjoabofecjmaaGreat
open Go.RowKit Go.Sort
section
variable {P : Program} {ops : Array Oper} {md : Region.Mode} {Q : Exit → Act → World → Prop} {S : World → Prop}
def anyTH (P : Program) (md : Region.Mode) (ops : Array Oper) (Q : Exit → Act → World → Prop) (S : World → Prop) (n : Nat) (L : Array Bool → Act → World → Prop) : Nat → Array Bool → Act → World → Prop
  | 0, listed, a, w => L listed a w
  | f + 1, listed, a, w => Region.ready md ops listed ≠ [] ∧ ∀ i ∈ Region.ready md ops listed, i < n ∧ wpOp P ops Q i (fun a' w' => S w' ∧ anyTH P md ops Q S n L f (listed.setIfInBounds i true) a' w') a w
theorem any_of_th {n g : Nat} {L : Array Bool → Act → World → Prop} (hL : ∀ listed a w, L listed a w → wpAny P md ops Q g listed a w) :
    ∀ (f : Nat) (listed : Array Bool) (a : Act) (w : World), anyTH P md ops Q S n L f listed a w → wpAny P md ops Q (f + g) listed a w
  | 0, listed, a, w, h => by rw [Nat.zero_add]; exact hL _ _ _ h
  | f + 1, listed, a, w, h => by
    rw [show f + 1 + g = (f + g) + 1 by omega]
    exact ⟨fun h0 => absurd h0 h.1, fun i hi => wpOp_mono (fun a' w' h' => any_of_th hL f _ a' w' h'.2) (h.2 i hi).2⟩
theorem anyTH_first {n i : Nat} {oi : Oper} {v : Value} {L : Array Bool → Act → World → Prop} (hi : ops[i]? = some oi) (hsel : ∀ (j : Nat) (o : Oper) cs b, ops[j]? = some o → o.op ≠ .select cs b)
    (hQ : ∀ c a w, Q (.panic c) (a.put oi.dst v) w → Q (.panic c) a w)
    (hs : Region.sinkB md ops n = true) (hc : Region.chainB md ops n = true) (hn : n < ops.size) (hin : i < n) (hL : ∀ listed a w, L listed a w → ∀ j ∈ Region.ready md ops listed, n ≤ j) :
    ∀ (f : Nat) (listed : Array Bool) (a : Act) (w : World), HeadInv md ops n listed →
      (∀ j oj, ops[j]? = some oj → j ≠ i → listed.getD j true = false → (∀ e ∈ oj.after, Region.binds md e = true → e.on ≠ i) → oi.apart ops oj = true) →
      i ∈ Region.ready md ops listed → YieldsIf P ops S oi v a → S w →
      anyTH P md ops Q S n L f (listed.setIfInBounds i true) (a.put oi.dst v) w → anyTH P md ops Q S n L (f + 1) listed a w := by
  intro f
  induction f with
  | zero =>
    intro listed a w inv _ hr hy hS H
    have hun := (mem_ready.1 hr).1
    refine ⟨fun h => (by rw [h] at hr; cases hr), fun j hj => ?_⟩
    have hjn : j < n := by
      rcases Nat.lt_or_ge j n with h | h
      · exact h
      · exact absurd hj (tail_waits hs hc hn inv _ i rfl hin hun j h)
    refine ⟨hjn, ?_⟩
    by_cases hji : j = i
    · subst hji; exact hy.wpOp hi hS ⟨hS, H⟩
    · have := hL _ _ _ H j (ready_mono hj hji)
      omega
  | succ f ih =>
    intro listed a w inv hfree hr hy hS H
    have hun := (mem_ready.1 hr).1
    refine ⟨fun h => (by rw [h] at hr; cases hr), fun j hj => ?_⟩
    have hjn : j < n := by
      rcases Nat.lt_or_ge j n with h | h
      · exact h
      · exact absurd hj (tail_waits hs hc hn inv _ i rfl hin hun j h)
    refine ⟨hjn, ?_⟩
    by_cases hji : j = i
    · subst hji; exact hy.wpOp hi hS ⟨hS, H⟩
    · have h1 := (H.2 j (ready_mono hj hji)).2
      obtain ⟨hjun, oj, hoj, hall⟩ := mem_ready.1 hj
      have hnot : ∀ e ∈ oj.after, Region.binds md e = true → e.on ≠ i := fun e he hb heq => by
        have h1 := hall e he hb
        rw [heq, getD_both hun] at h1
        cases h1
      have h2 := wpOp_putIf hoj (hfree j oj hoj hji hjun hnot) (fun cs b => hsel i oi cs b hi) (fun cs b => hsel j oj cs b hoj) hQ hy h1
      have hfree' : ∀ k ok, ops[k]? = some ok → k ≠ i → (listed.setIfInBounds j true).getD k true = false →
          (∀ e ∈ ok.after, Region.binds md e = true → e.on ≠ i) → oi.apart ops ok = true := fun k ok hk hki hun hno => by
        refine hfree k ok hk hki ?_ hno
        by_cases hjk : j = k
        · subst hjk; exact hjun
        · rw [getD_set_ne true hjk] at hun; exact hun
      refine wpOp_mono (fun a' w' h3 => ⟨h3.2.1, ih (listed.setIfInBounds j true) a' w' (inv.set hj hjn) hfree' (ready_mono hr (Ne.symm hji)) h3.1 h3.2.1 ?_⟩) h2
      rw [Array.setIfInBounds_comm _ _ hji]
      exact h3.2.2
def TailL (P : Program) (md : Region.Mode) (ops : Array Oper) (Q : Exit → Act → World → Prop) (l : List Oper) (g n : Nat) (listed : Array Bool) (a : Act) (w : World) : Prop := Region.seqB md ops g n listed = true ∧ wpList P ops Q l a w
def THeld (P : Program) (ops : Array Oper) (Q : Exit → Act → World → Prop) (S : World → Prop) (l : List Oper) (g n f : Nat) (listed : Array Bool) (a : Act) (w : World) : Prop := HeadInv .any ops n listed → anyTH P .any ops Q S n (TailL P .any ops Q l g n) f listed a w
structure TOk (ops : Array Oper) (n : Nat) : Prop where
  sel : Region.noSelect ops = true
  sink : Region.sinkB .any ops n = true
  chain : Region.chainB .any ops n = true
  lt : n < ops.size
theorem th_take {n g f i : Nat} {oi : Oper} {v : Value} {l : List Oper} {listed : Array Bool} {a : Act} {w : World} (T : TOk ops n) (hi : ops[i]? = some oi) (hin : i < n) (hf : Region.free .any ops listed i = true) (hr : (Region.ready .any ops listed).contains i = true)
    (hQ : ∀ c a w, Q (.panic c) (a.put oi.dst v) w → Q (.panic c) a w) (hy : YieldsIf P ops S oi v a) (hS : S w)
    (h : THeld P ops Q S l g n f (listed.setIfInBounds i true) (a.put oi.dst v) w) : THeld P ops Q S l g n (f + 1) listed a w := fun inv =>
  anyTH_first hi (Region.noSelect_spec T.sel) hQ T.sink T.chain T.lt hin (fun _ _ _ hL => seqB_ready hL.1) f listed a w inv (Region.free_spec hi hf) (by simpa using hr) hy hS (h (inv.set (by simpa using hr) hin))
theorem th_step {n g f i : Nat} {oi : Oper} {l : List Oper} {listed : Array Bool} {a : Act} {w : World} (hi : ops[i]? = some oi) (hin : i < n) (hr : Region.ready .any ops listed = [i])
    (h : ∀ K' : Act → World → Prop, Shut (∀ a w, S w → (S w → THeld P ops Q S l g n f (listed.setIfInBounds i true) a w) → K' a w) → if Region.wanted oi (yielded ops a.tmps) = true then Oper.wp P oi a w K' Q else K' (a.put oi.dst undef) w) : THeld P ops Q S l g n (f + 1) listed a w := fun inv => by
  refine ⟨by rw [hr]; simp, fun j hj => ?_⟩
  rw [hr] at hj
  have : j = i := by simpa using hj
  subst this
  refine ⟨hin, ?_⟩
  have h1 := h (fun a' w' => S w' ∧ anyTH P .any ops Q S n (TailL P .any ops Q l g n) f (listed.setIfInBounds j true) a' w') (fun a' w' hS hh => ⟨hS, hh hS (inv.set (by rw [hr]; simp) hin)⟩)
  unfold wpOp
  simp only [hi]
  split
  · rename_i hw; rw [if_pos hw] at h1; exact .inl h1
  · rename_i hw; rw [if_neg hw] at h1; exact h1
theorem tht (i : Nat) {n g f : Nat} {oi : Oper} {v : Value} {l : List Oper} {listed : Array Bool} {a : Act} {w : World} (T : TOk ops n)
    (h : THeld P ops Q S l g n f (listed.setIfInBounds i true) (a.put oi.dst v) w)
    (hin : i < n := by decide) (hf : Region.free .any ops listed i = true := by kernel_rfl) (hr : (Region.ready .any ops listed).contains i = true := by kernel_rfl) (hS : S w := by assumption)
    (hi : ops[i]? = some oi := by (simp only [List.getElem?_toArray, List.getElem?_cons_zero, List.getElem?_cons_succ]; rfl))
    (hw : Region.wanted oi (yielded ops a.tmps) = true := by exact rfl) (hy : ∀ w, S w → (execOp a.eval oi).run P w = .ok (.value v) w := by (intro w hSw; (try dsimp only at hSw); go_simp) <;> (with_reducible rfl))
    (hQ : ∀ c a w, Q (.panic c) (a.put oi.dst v) w → Q (.panic c) a w := by exact fun _ _ _ h => h) : THeld P ops Q S l g n (f + 1) listed a w :=
  th_take T hi hin hf hr hQ (.inl ⟨hw, hy⟩) hS h
theorem tst (i : Nat) {n g f : Nat} {oi : Oper} {l : List Oper} {listed : Array Bool} {a : Act} {w : World}
    (h : ∀ K' : Act → World → Prop, Shut (∀ a w, S w → (S w → THeld P ops Q S l g n f (listed.setIfInBounds i true) a w) → K' a w) → if Region.wanted oi (yielded ops a.tmps) = true then Oper.wp P oi a w K' Q else K' (a.put oi.dst undef) w)
    (hin : i < n := by decide) (hr : Region.ready .any ops listed = [i] := by kernel_rfl) (hi : ops[i]? = some oi := by (simp only [List.getElem?_toArray, List.getElem?_cons_zero, List.getElem?_cons_succ]; rfl)) : THeld P ops Q S l g n (f + 1) listed a w := th_step hi hin hr h
theorem th_done {n g : Nat} {l : List Oper} {listed : Array Bool} {a : Act} {w : World} (hq : Region.seqB .any ops g n listed = true) (h : wpList P ops Q l a w) : THeld P ops Q S l g n 0 listed a w := fun _ => ⟨hq, h⟩
theorem wp_region_th {id : Nat} {a : Act} {w : World} {l : List Oper} (n : Nat) (S : World → Prop) (hm : P.follows .mixedOrders = true) (hsel : Region.noSelect l.toArray = true) (hs : Region.sinkB .any l.toArray n = true) (hc : Region.chainB .any l.toArray n = true) (hn : n < l.length)
    (hS : S w.drew) (h : TOk l.toArray n → S w.drew → THeld P l.toArray Q S (l.drop n) (l.length - n) n n (Array.replicate l.length false) a w.drew) : (Code.region id l.toArray true).wp P Q a w := by
  have T : TOk l.toArray n := ⟨hsel, hs, hc, by simpa using hn⟩
  have inv0 : HeadInv .any l.toArray n (Array.replicate l.length false) :=
    ⟨by simp, fun j oj _ hl => (by rw [getD_replicate_false] at hl; cases hl), fun t _ ht => getD_in (by simpa using ht) (getD_replicate_false _ _)⟩
  have H := h T hS inv0
  refine wp_region_any hm ?_
  have hdl : (l.drop n).length = l.length - n := by simp
  have := any_of_th (g := l.length - n) (fun listed a' w' hL => by
    have := wpAny_of_seq (md := .any) (Q' := Q) (l.drop n) n listed a' w' (fun j => by simp [List.getElem?_drop]) (by rw [hdl]; exact hL.1) hL.2
    rwa [hdl] at this) _ _ _ _ H
  rw [show n + (l.length - n) = l.toArray.size by simp; omega] at this
  simpa using this
end
end Go.Proofs.YtcjjoabofecjmaaGreat

namespace Go.Proofs.YtcjjoabofecjmaaGreat
open Go.RowKit Go.Sort
section
variable {P : Program} {ops : Array Oper} {Q : Exit → Act → World → Prop} {S : World → Prop}
theorem th_two {n g f i j : Nat} {oi oj : Oper} {l : List Oper} {listed : Array Bool} {a : Act} {w : World} (hi : ops[i]? = some oi) (hj : ops[j]? = some oj) (hin : i < n) (hjn : j < n) (hr : Region.ready .any ops listed = [i, j])
    (h1 : ∀ K' : Act → World → Prop, Shut (∀ a w, S w → (S w → THeld P ops Q S l g n f (listed.setIfInBounds i true) a w) → K' a w) → if Region.wanted oi (yielded ops a.tmps) = true then Oper.wp P oi a w K' Q else K' (a.put oi.dst undef) w)
    (h2 : ∀ K' : Act → World → Prop, Shut (∀ a w, S w → (S w → THeld P ops Q S l g n f (listed.setIfInBounds j true) a w) → K' a w) → if Region.wanted oj (yielded ops a.tmps) = true then Oper.wp P oj a w K' Q else K' (a.put oj.dst undef) w) : THeld P ops Q S l g n (f + 1) listed a w := fun inv => by
  refine ⟨by rw [hr]; simp, fun k hk => ?_⟩
  rw [hr] at hk
  have hk2 : k = i ∨ k = j := by simpa using hk
  rcases hk2 with rfl | rfl
  · refine ⟨hin, ?_⟩
    have h3 := h1 (fun a' w' => S w' ∧ anyTH P .any ops Q S n (TailL P .any ops Q l g n) f (listed.setIfInBounds k true) a' w') (fun a' w' hS hh => ⟨hS, hh hS (inv.set (by rw [hr]; simp) hin)⟩)
    unfold wpOp
    simp only [hi]
    split
    · rename_i hw; rw [if_pos hw] at h3; exact .inl h3
    · rename_i hw; rw [if_neg hw] at h3; exact h3
  · refine ⟨hjn, ?_⟩
    have h3 := h2 (fun a' w' => S w' ∧ anyTH P .any ops Q S n (TailL P .any ops Q l g n) f (listed.setIfInBounds k true) a' w') (fun a' w' hS hh => ⟨hS, hh hS (inv.set (by rw [hr]; simp) hjn)⟩)
    unfold wpOp
    simp only [hj]
    split
    · rename_i hw; rw [if_pos hw] at h3; exact .inl h3
    · rename_i hw; rw [if_neg hw] at h3; exact h3
theorem exec_load_mid {op : Oper} {a : Act} (ty : TypeId) (x : Operand) (ho : op.op = .load ty x) (b o : Nat) (hx : a.eval x = .pointer (some ⟨b, o, none⟩)) (cs : List Value) (d : TypeDesc) (hu : P.underlying ty = some d) (hd : d.isRow = true) (hi : (P.info? ty).map (·.size) = some cs.length)
    (w : World) (hc : w.rangeAt b o cs) : (execOp a.eval op).run P w = .ok (.value (.agg cs.toArray)) w := by
  unfold execOp
  simp only [ho, hx, Instr.loadAt, Instr.sureAddr, Sem.run_bind, Sem.run_pure, Result.andThen_ok, run_loadVar_mid w b o ty cs d hc hu hd hi]
end
theorem infoPrg : (Tryz.prog.info? 26).map (·.size) = some 3 := by kernel_rfl
end Go.Proofs.YtcjjoabofecjmaaGreat

namespace Go.Proofs.YtcjjoabofecjmaaGreat
open Go.RowKit Go.Sort
structure Cells14 where
  l : List Value
  len : l.length = 14
  one : ∀ u ∈ l, u.oneCell' = true
theorem RTsk.cells {w : World} {t : Tsk} {V : Value} (h : RTsk w t V) : ∃ c : Cells14, V = .agg c.l.toArray := by
  obtain ⟨Af, nf, cf, Ab, nb, cb, rfl, _⟩ := h
  exact ⟨⟨tskL t (.slice Af nf cf) (.slice Ab nb cb), rfl, by simp [tskL, Value.oneCell']⟩, rfl⟩
theorem Cells14.info (c : Cells14) : (Tryz.prog.info? 32).map (·.size) = some c.l.length := by rw [infoTsk, c.len]
theorem Cells14.infoA (c : Cells14) : (Tryz.prog.info? 32).map (·.size) = some c.l.toArray.size := by rw [infoTsk, List.size_toArray, c.len]
theorem Cells14.oneA (c : Cells14) : c.l.toArray.all (·.oneCell') = true := all_oneCell_toArray c.one
theorem Cells14.there {w : World} {b o : Nat} (c : Cells14) (h : w.there b o 14) : w.there b o c.l.toArray.size := by rw [List.size_toArray, c.len]; exact h
theorem Cells14.there' {w : World} {b o : Nat} (c : Cells14) (h : w.there b o 14) : w.there b o c.l.length := by rw [c.len]; exact h
theorem Cells14.same {w : World} {b : Nat} (c : Cells14) (h : w.there b 0 14) : (w.setCells b 0 c.l).rangeAt b 0 c.l := World.rangeAt_setCells_same _ _ 0 _ (c.there' h)
theorem not_great {t : Tsk} (h : greatT t = false) : t.frames.length ≤ 12 ∧ t.blocks.length ≤ 12 ∧ (∀ f ∈ t.frames, f.regs.length ≤ 40) ∧ ∀ b ∈ t.blocks, b.handlers.length ≤ 12 := by
  unfold greatT at h
  simp only [Bool.or_eq_false_iff, decide_eq_false_iff_not, List.any_eq_false] at h
  obtain ⟨⟨⟨h1, h2⟩, h3⟩, h4⟩ := h
  refine ⟨by omega, by omega, fun f hf => ?_, fun b hb => ?_⟩
  · have := h3 f hf
    simp [greatF] at this
    omega
  · have := h4 b hb
    simp [greatB] at this
    omega
end Go.Proofs.YtcjjoabofecjmaaGreat

namespace Go.Proofs.YtcjjoabofecjmaaGreat
open Go.RowKit
def greatI (x : Ins) : Bool := decide (24 < x.args.length)
def greatO (x : Ob) : Bool := decide (40 < x.name.size)
def greatV (x : Vr) : Bool := decide (40 < x.name.size)
def greatFs : Nat → List Fnc → Bool
  | _, [] => false
  | n, f :: fs => decide (250 < n + f.code.length) || decide (40 < f.name.size) || f.code.any greatI || greatFs (n + f.code.length) fs
def greatP (p : Prg) : Bool := decide (34 < p.funcs.length) || decide (18 < p.objs.length) || decide (18 < p.vars.length) || greatFs 0 p.funcs || p.objs.any greatO || p.vars.any greatV
theorem greatFs_drop {n : Nat} {xs : List Fnc} {k : Nat} {x : Fnc} (hx : xs[k]? = some x) : greatFs n (xs.drop k) = (decide (250 < n + x.code.length) || decide (40 < x.name.size) || x.code.any greatI || greatFs (n + x.code.length) (xs.drop (k + 1))) := by
  rw [drop_cons hx, greatFs]
theorem add64 {a b m : Nat} (h : a + b ≤ 281474976710656) (hm : m = a + b) : wrap64 ((a : Int) + (b : Int)) = (m : Int) := by unfold wrap64; omega
set_option maxHeartbeats 1000000 in
theorem greatInstr_any (a b c d : Int) (A : Option Addr) (n cap : Nat) (w : World) (hn : n ≤ 140737488355328) :
    Calls Tryz.prog 57 #[.agg #[Value.int .i64 a, Value.int .i64 b, Value.int .i64 c, Value.int .i64 d, .slice A n cap]] w fun e w' => e = .returned (.bool (decide (24 < n))) ∧ Ext w w' := by
  by_cases h : 24 < n
  · have hz : (24 : Int) < (n : Int) := by omega
    go_enter Tryz.func57, Tryz.ntmps57
    go_wp2
    go_ret
    exact ⟨ret_bool (by simp [h]), xt⟩
  · have hz : ¬ (24 : Int) < (n : Int) := by omega
    go_enter Tryz.func57, Tryz.ntmps57
    go_wp2
    go_ret
    exact ⟨ret_bool (by simp [h]), xt⟩
set_option maxHeartbeats 8000000 in
theorem refGreatP_any (p : Prg) (V : Value) (w : World) (hV : RPrg w p V) :
    Calls Tryz.prog 20 #[V] w fun e w' => e = .returned (.bool (greatP p)) ∧ Ext w w' := by
  obtain ⟨Af, nf, cf, Ao, no, co, Av, nv, cv, rfl, hF, hO, hV, _, _, _⟩ := hV
  have hle := hF.le
  have hle2 := hO.le
  have hle3 := hV.le
  have LF := Lib.hid hF.len
  have LO := Lib.hid hO.len
  have LV := Lib.hid hV.len
  obtain ⟨qf, HQF⟩ : ∃ q, Hid (greatFs 0 p.funcs = q) := ⟨_, rfl⟩
  obtain ⟨qo, HQO⟩ : ∃ q, Hid (p.objs.any greatO = q) := ⟨_, rfl⟩
  obtain ⟨qv, HQV⟩ : ∃ q, Hid (p.vars.any greatV = q) := ⟨_, rfl⟩
  have HG : Hid (greatP p = (decide (34 < nf) || decide (18 < no) || decide (18 < nv) || qf || qo || qv)) := by unfold Hid greatP; rw [HQF.out, HQO.out, HQV.out, LF.out, LO.out, LV.out]
  have HF := Lib.hid hF
  have HO := Lib.hid hO
  have HV := Lib.hid hV
  clear hF hO hV
  go_enter Tryz.func20, Tryz.ntmps20
  go_wp2
  all_goals try (go_ret; exact ⟨ret_bool (by have g := HG.out; clear HG; rw [g]; simp; omega), xt⟩)
  refine wp_hid' ?_
  intro W0 HW0
  have HE : Hid (Ext w W0) := by rw [HW0.out]; exact Lib.hid xt
  have k0 : W0.cell? ⟨w.heap.size, 0, none⟩ = some (.slice Af nf cf) := by rw [HW0.out]; simp [go_sem]
  have k1 : W0.cell? ⟨w.heap.size, 1, none⟩ = some (.slice Ao no co) := by rw [HW0.out]; simp [go_sem]
  have k2 : W0.cell? ⟨w.heap.size, 2, none⟩ = some (.slice Av nv cv) := by rw [HW0.out]; simp [go_sem]
  have HG2 : Hid (greatP p = (qf || qo || qv)) := by
    have g := HG.out
    rw [Hid, g]
    have h1 : ¬ 34 < nf := by omega
    have h2 : ¬ 18 < no := by omega
    have h3 : ¬ 18 < nv := by omega
    simp [h1, h2, h3]
  clear HW0 HG
  go_loopg [3, 4, 5] nf (fun gg s3 s4 _ wr => ∃ k n : Nat, k ≤ nf ∧ nf - k ≤ gg ∧ n ≤ 250 ∧ s3 = .int .i64 n ∧ s4 = .int .i64 k ∧ Hid (Ext W0 wr) ∧ Hid (qf = greatFs n (p.funcs.drop k)))
  case atStart => exact ⟨0, 0, Nat.zero_le _, by omega, by omega, rfl, rfl, Ext.refl _, HQF.out.symm⟩
  case round =>
    obtain ⟨k, n, hk, hg, hn, rfl, rfl, HW, HI⟩ := hrel
    have HE0 : Hid (Ext w wr) := HE.out.trans HW.out
    have k0 := HW.out.cell k0
    have k1 := HW.out.cell k1
    have k2 := HW.out.cell k2
    by_cases hlt : k < nf
    · have hltz : (k : Int) < (nf : Int) := by omega
      obtain ⟨x, hx⟩ : ∃ x, p.funcs[k]? = some x := ⟨_, List.getElem?_eq_getElem (by have := LF.out; omega)⟩
      obtain ⟨b, off, Ac, nc, cc, rfl, hlb, hnm, _, _, _, ⟨hA, _⟩, c0, c1, c2, c3, c4, c5⟩ := (HF.out.mono RFnc.stays HE0.out).fnc hx
      have HD := Lib.hid (greatFs_drop (n := n) hx)
      have LA := Lib.hid hA.len
      have hle4 := hA.le
      have HA := Lib.hid hA
      have hA0 := hA
      clear hx hA
      have hle5 := hA0.2.1
      obtain ⟨m, hm⟩ : ∃ m, m = n + nc := ⟨_, rfl⟩
      go_upto_region 8 with fail
      rw [show ((n : Int) + (nc : Int)) = (m : Int) by omega]
      have HM := Lib.hid hm
      rw [← LA.out, ← hm] at HD
      clear hm hA0
      by_cases h250 : 250 < m
      · have h250z : (250 : Int) < (m : Int) := by omega
        go_wp2
        go_ret
        exact ⟨ret_bool (by rw [HG2.out, HI.out, HD.out, decide_eq_true h250]; rfl), HE0.out⟩
      have h250z : ¬ (250 : Int) < (m : Int) := by omega
      by_cases h40 : 40 < x.name.size
      · have h40z : (40 : Int) < (x.name.size : Int) := by omega
        go_wp2
        go_ret
        exact ⟨ret_bool (by rw [HG2.out, HI.out, HD.out, decide_eq_true h40]; simp), HE0.out⟩
      have h40z : ¬ (40 : Int) < (x.name.size : Int) := by omega
      obtain ⟨qi, HQI⟩ : ∃ q, Hid (x.code.any greatI = q) := ⟨_, rfl⟩
      have HD2 : Hid (greatFs n (p.funcs.drop k) = (qi || greatFs m (p.funcs.drop (k + 1)))) := by
        rw [Hid, HD.out, decide_eq_false h250, decide_eq_false h40, HQI.out]; rfl
      obtain ⟨W1, eW1⟩ : ∃ W, W = wr := ⟨_, rfl⟩
      subst eW1
      have H0 := Lib.hid k0
      have H1 := Lib.hid k1
      have H2 := Lib.hid k2
      have H5 := Lib.hid c5
      go_wp2
      clear c0 c1 c2 c3 c4
      go_loopg [5] nc (fun gg s5 wr => ∃ i : Nat, i ≤ nc ∧ nc - i ≤ gg ∧ s5 = .int .i64 i ∧ Hid (Ext W1 wr) ∧ Hid (qi = (x.code.drop i).any greatI))
      case atStart => exact ⟨0, Nat.zero_le _, by omega, rfl, Ext.refl _, HQI.out.symm⟩
      case round =>
        obtain ⟨i, hi, hgi, rfl, HWi, HIi⟩ := hrel
        have k0 := HWi.out.cell H0.out
        have c5 := HWi.out.cell H5.out
        have HE1 : Hid (Ext w wr) := HE0.out.trans HWi.out
        by_cases hlt : i < nc
        · have hltz : (i : Int) < (nc : Int) := by omega
          obtain ⟨y, hy⟩ : ∃ y, x.code[i]? = some y := ⟨_, List.getElem?_eq_getElem (by have := LA.out; omega)⟩
          obtain ⟨b2, off2, Ay, ny, cy, rfl, hlb2, _, _, _, _, ⟨hC, _⟩, d0, d1, d2, d3, d4⟩ := (HA.out.mono RIns.stays HWi.out).ins hy
          have HDi := Lib.hid (any_drop greatI hy)
          have HY : Hid (greatI y = decide (24 < ny)) := by rw [Hid, greatI, hC.len]
          have hle6 := hC.2.1
          clear hy hC
          by_cases h24 : 24 < ny
          · have HR : Hid (decide (24 < ny) = true) := decide_eq_true h24
            have HCI := Lib.hid (fun W => greatInstr_any y.op y.a y.b y.c Ay ny cy W hle6)
            rw [HR.out] at HCI
            go_wp2_with (go_at_call 57; refine (HCI.out _).mono ?_; rintro e w2 ⟨rfl, hb⟩; obtain ⟨hc2, hf2, hs2, he2⟩ := Ext.use (w := wr) hb xt; clear hb; (try simp only [sA, sC, sD, sN] at hs2))
            go_ret
            exact ⟨ret_bool (by rw [HG2.out, HI.out, HD2.out, HIi.out, HDi.out, HY.out, HR.out]; simp), HE1.out.trans he2⟩
          · have HR : Hid (decide (24 < ny) = false) := decide_eq_false h24
            have HCI := Lib.hid (fun W => greatInstr_any y.op y.a y.b y.c Ay ny cy W hle6)
            rw [HR.out] at HCI
            go_wp2_with (go_at_call 57; refine (HCI.out _).mono ?_; rintro e w2 ⟨rfl, hb⟩; obtain ⟨hc2, hf2, hs2, he2⟩ := Ext.use (w := wr) hb xt; clear hb; (try simp only [sA, sC, sD, sN] at hs2))
            go_roundg (nc - (i + 1))
            case measure => omega
            case rel => exact ⟨i + 1, by omega, by omega, by go_num, HWi.out.trans he2, by rw [Hid, HIi.out, HDi.out, HY.out, HR.out]; rfl⟩
        · have hltz : ¬ (i : Int) < (nc : Int) := by omega
          go_wp2
          go_roundg (nf - (k + 1))
          case measure => omega
          case rel => exact ⟨k + 1, m, by omega, by omega, by omega, rfl, by go_num, HW.out.trans HWi.out, by rw [Hid, HI.out, HD2.out, HIi.out, List.drop_eq_nil_of_le (by have := LA.out; omega)]; rfl⟩
    · have hltz : ¬ (k : Int) < (nf : Int) := by omega
      have hq : qf = false := by rw [HI.out, List.drop_eq_nil_of_le (by have := LF.out; omega)]; rfl
      subst hq
      obtain ⟨W1, eW1⟩ : ∃ W, W = wr := ⟨_, rfl⟩
      subst eW1
      go_wp2
      go_loopg [6] no (fun gg s6 wr => ∃ i : Nat, i ≤ no ∧ no - i ≤ gg ∧ s6 = .int .i64 i ∧ Hid (W1 = wr) ∧ Hid (qo = (p.objs.drop i).any greatO))
      case atStart => exact ⟨0, Nat.zero_le _, by omega, rfl, rfl, HQO.out.symm⟩
      case round =>
        obtain ⟨i, hi, hgi, rfl, HWi, HIi⟩ := hrel
        obtain ⟨W2, eW2⟩ : ∃ W, W = wr := ⟨_, rfl⟩
        subst eW2
        rw [HWi.out] at k1 k2
        have HE2 : Hid (Ext w W2) := HWi.out ▸ HE0
        by_cases hlt : i < no
        · have hltz : (i : Int) < (no : Int) := by omega
          obtain ⟨y, hy⟩ : ∃ y, p.objs[i]? = some y := ⟨_, List.getElem?_eq_getElem (by have := LO.out; omega)⟩
          obtain ⟨b2, off2, rfl, hlb2, hnm, _, _, _, d0, d1, d2, d3⟩ := (HO.out.mono ROb.stays HE2.out).ob hy
          have HDi := Lib.hid (any_drop greatO hy)
          clear hy
          by_cases h40 : 40 < y.name.size
          · have h40z : (40 : Int) < (y.name.size : Int) := by omega
            go_wp2
            go_ret
            exact ⟨ret_bool (by rw [HG2.out, HIi.out, HDi.out, greatO, decide_eq_true h40]; simp), HE2.out⟩
          · have h40z : ¬ (40 : Int) < (y.name.size : Int) := by omega
            go_wp2
            go_roundg (no - (i + 1))
            case measure => omega
            case rel => exact ⟨i + 1, by omega, by omega, by go_num, HWi.out, by rw [Hid, HIi.out, HDi.out, greatO, decide_eq_false h40]; rfl⟩
        · have hltz : ¬ (i : Int) < (no : Int) := by omega
          have hq : qo = false := by rw [HIi.out, List.drop_eq_nil_of_le (by have := LO.out; omega)]; rfl
          subst hq
          go_wp2
          go_loopg [7] nv (fun gg s7 wr => ∃ i : Nat, i ≤ nv ∧ nv - i ≤ gg ∧ s7 = .int .i64 i ∧ Hid (W2 = wr) ∧ Hid (qv = (p.vars.drop i).any greatV))
          case atStart => exact ⟨0, Nat.zero_le _, by omega, rfl, rfl, HQV.out.symm⟩
          case round =>
            obtain ⟨j, hj, hgj, rfl, HWj, HIj⟩ := hrel
            obtain ⟨W3, eW3⟩ : ∃ W, W = wr := ⟨_, rfl⟩
            subst eW3
            rw [HWj.out] at k2
            have HE3 : Hid (Ext w W3) := HWj.out ▸ HE2
            by_cases hlt : j < nv
            · have hltz : (j : Int) < (nv : Int) := by omega
              obtain ⟨y, hy⟩ : ∃ y, p.vars[j]? = some y := ⟨_, List.getElem?_eq_getElem (by have := LV.out; omega)⟩
              obtain ⟨b2, off2, rfl, hlb2, hnm, _, d0, d1, d2⟩ := (HV.out.mono RVr.stays HE3.out).vr hy
              have HDj := Lib.hid (any_drop greatV hy)
              clear hy
              by_cases h40 : 40 < y.name.size
              · have h40z : (40 : Int) < (y.name.size : Int) := by omega
                go_wp2
                go_ret
                exact ⟨ret_bool (by rw [HG2.out, HIj.out, HDj.out, greatV, decide_eq_true h40]; simp), HE3.out⟩
              · have h40z : ¬ (40 : Int) < (y.name.size : Int) := by omega
                go_wp2
                go_roundg (nv - (j + 1))
                case measure => omega
                case rel => exact ⟨j + 1, by omega, by omega, by go_num, HWj.out, by rw [Hid, HIj.out, HDj.out, greatV, decide_eq_false h40]; rfl⟩
            · have hltz : ¬ (j : Int) < (nv : Int) := by omega
              go_wp2
              go_ret
              exact ⟨ret_bool (by rw [HG2.out, HIj.out, List.drop_eq_nil_of_le (by have := LV.out; omega)]; rfl), HE3.out⟩
end Go.Proofs.YtcjjoabofecjmaaGreat

namespace Go.Proofs.YtcjjoabofecjmaaGreat
open Go.RowKit
theorem wpList_load_mid_g {P : Program} {ops : Array Oper} {rest : List Oper} {op : Oper} {a : Act} {w : World} {Q : Exit → Act → World → Prop} (hg : Region.wanted op (yielded ops a.tmps) = true) (ty : TypeId) (x : Operand) (ho : op.op = .load ty x)
    (b o : Nat) (hx : a.eval x = .pointer (some ⟨b, o, none⟩)) (cs : List Value) (d : TypeDesc) (hc : w.rangeAt b o cs)
    (hu : P.underlying ty = some d) (hd : d.isRow = true) (hi : (P.info? ty).map (·.size) = some cs.length)
    (h : wpList P ops Q rest (a.put op.dst (.agg cs.toArray)) w) : wpList P ops Q (op :: rest) a w :=
  wpList_step fun _ hK => by rw [if_pos hg]; exact wp_load_mid ty x ho b o hx cs d hc hu hd hi (hK _ _ h)
end Go.Proofs.YtcjjoabofecjmaaGreat

namespace Go.Proofs.YtcjjoabofecjmaaGreat
open Go.RowKit Go.Sort
set_option maxHeartbeats 4000000 in
theorem great_any (p : Prg) (t : Tsk) (VP VT : Value) (w : World) (hP : RPrg w p VP) (hT : RTsk w t VT) :
    Calls Tryz.prog 13 #[VP, VT] w fun e w' => e = .returned (.bool (greatP p || greatT t)) ∧ Ext w w' := by
  have HP := Lib.hid (fun W h => refGreatP_any p VP W (hP.mono h))
  have HT := Lib.hid (fun W h => refGreat_any t VT W (hT.mono h))
  obtain ⟨c, rfl⟩ := hT.cells
  obtain ⟨Af, nf, cf, Ao, no, co, Av, nv, cv, rfl, _⟩ := hP
  cases hp : greatP p with
  | true =>
    rw [hp] at HP
    clear hT HT hp
    go_enter Tryz.func13, Tryz.ntmps13
    go_wp2_with (first | ((first | ((with_reducible show Code.wp _ (Code.region _ (List.toArray ({ dst := _, op := Op.load 26 _, type := _, pos := _, after := _, guard := none } :: _)) false) _ _ _); refine wp_region_lit ?_) | (with_reducible show wpList _ _ _ ({ dst := _, op := Op.load 26 _, type := _, pos := _, after := _, guard := none } :: _) _ _)); refine wpList_load_mid rfl 26 _ rfl _ _ rfl _ _ (by exact rg) Tryz.underlying26 rfl (by exact infoPrg) ?_; dsimp only [dZ, dS]) | (go_at_call 20; refine (HP.out _ xt).mono ?_; rintro e w1 ⟨rfl, hb⟩; obtain ⟨hc, hf, hs, he⟩ := Ext.use (w := w) hb xt; clear hb; (try simp only [sA, sC, sD, sN] at hs)))
    go_ret
    exact ⟨rfl, he⟩
  | false =>
    rw [hp] at HP
    clear hT hp
    obtain ⟨q, hq⟩ : ∃ q, greatT t = q := ⟨_, rfl⟩
    rw [hq] at HT ⊢
    clear hq
    go_enter Tryz.func13, Tryz.ntmps13
    go_wp2_with (first | ((first | ((with_reducible show Code.wp _ (Code.region _ (List.toArray ({ dst := _, op := Op.load 26 _, type := _, pos := _, after := _, guard := none } :: _)) false) _ _ _); refine wp_region_lit ?_) | (with_reducible show wpList _ _ _ ({ dst := _, op := Op.load 26 _, type := _, pos := _, after := _, guard := none } :: _) _ _)); refine wpList_load_mid rfl 26 _ rfl _ _ rfl _ _ (by exact rg) Tryz.underlying26 rfl (by exact infoPrg) ?_; dsimp only [dZ, dS]) | ((with_reducible show wpList _ _ _ ({ dst := _, op := Op.load 32 _, type := _, pos := _, after := _, guard := some _ } :: _) _ _); refine wpList_load_mid_g (by rfl) 32 _ rfl _ _ rfl _ _ (by exact rg) Tryz.underlying32 rfl (by exact Cells14.info _) ?_; dsimp only [dZ, dS]) | (go_at_call 20; refine (HP.out _ xt).mono ?_; rintro e w1 ⟨rfl, hb⟩; have R1 := range_ext (b := w.heap.size + 1) (o := 0) (by exact rg) hb; obtain ⟨hc, hf, hs, he⟩ := Ext.use (w := w) hb xt; clear hb) | (go_at_call 36; refine (HT.out _ xt).mono ?_; rintro e w2 ⟨rfl, hb⟩; obtain ⟨hc2, hf2, hs2, he2⟩ := Ext.use (w := w1) hb xt; clear hb; (try simp only [sA, sC, sD, sN] at hs2)))
    go_ret
    exact ⟨ret_bool (by simp), he.trans he2⟩
end Go.Proofs.YtcjjoabofecjmaaGreat

namespace Go.Proofs.YtcjjoabofecjmaaGreat
structure Opd where
  what : Int
  kind : Int
  deriving DecidableEq, Inhabited
structure Shp where
  a : Opd
  b : Opd
  c : Opd
  args : Int
  deriving DecidableEq, Inhabited
def shpV (s : Shp) : Value := .agg #[.int .i64 s.a.what, .int .i64 s.a.kind, .int .i64 s.b.what, .int .i64 s.b.kind, .int .i64 s.c.what, .int .i64 s.c.kind, .int .i64 s.args]
def oZ : Opd := ⟨0, 0⟩
def oR : Opd := ⟨3, 0⟩
def oW : Opd := ⟨4, 0⟩
def oO (k : Int) : Opd := ⟨12, k⟩
def oQ (k : Int) : Opd := ⟨k, 0⟩
def shpZ : Shp := ⟨oZ, oZ, oZ, 0⟩
def groupsS (op : Int) : Option Shp :=
  if op = 3 ∨ op = 4 ∨ op = 5 ∨ op = 6 ∨ op = 7 ∨ op = 8 ∨ op = 9 ∨ op = 10 ∨ op = 11 then some ⟨oW, oR, oR, 0⟩
  else if op = 2 ∨ op = 12 then some ⟨oW, oR, oZ, 0⟩
  else if op = 16 ∨ op = 20 ∨ op = 21 ∨ op = 40 ∨ op = 41 ∨ op = 43 then some ⟨oR, oZ, oZ, 0⟩
  else if op = 18 ∨ op = 19 ∨ op = 37 ∨ op = 38 ∨ op = 39 then some shpZ
  else if op = 50 ∨ op = 52 then some ⟨oO 1, oZ, oZ, 0⟩
  else if op = 53 ∨ op = 54 ∨ op = 55 ∨ op = 56 then some ⟨oO 2, oZ, oZ, 0⟩
  else if op = 57 ∨ op = 58 ∨ op = 59 then some ⟨oO 3, oZ, oZ, 0⟩
  else if op = 60 ∨ op = 62 then some ⟨oO 4, oR, oZ, 0⟩
  else if op = 69 ∨ op = 71 then some ⟨oO 7, oZ, oZ, 0⟩
  else none
def shapeS (op : Int) : Option Shp :=
  if op = 1 then some ⟨oW, oQ 1, oZ, 0⟩
  else if op = 13 then some ⟨oQ 6, oZ, oZ, 0⟩
  else if op = 14 then some ⟨oR, oQ 6, oZ, 0⟩
  else if op = 15 ∨ op = 34 then some ⟨oW, oQ 8, oZ, 1⟩
  else if op = 17 then some ⟨oZ, oQ 9, oZ, 1⟩
  else if op = 30 then some ⟨oW, oQ 10, oZ, 0⟩
  else if op = 31 then some ⟨oQ 10, oR, oZ, 0⟩
  else if op = 32 then some ⟨oW, oQ 11, oR, 0⟩
  else if op = 33 then some ⟨oW, oQ 11, oZ, 2⟩
  else if op = 35 then some ⟨oQ 5, oQ 5, oQ 7, 0⟩
  else if op = 36 then some ⟨oW, oZ, oZ, 0⟩
  else if op = 42 then some ⟨oQ 2, oR, oZ, 0⟩
  else if op = 51 then some ⟨oW, oO 1, oZ, 0⟩
  else if op = 61 then some ⟨oW, oO 4, oR, 0⟩
  else if op = 63 then some ⟨oW, oO 5, oZ, 0⟩
  else if op = 64 then some ⟨oO 6, oR, oZ, 0⟩
  else if op = 65 then some ⟨oW, oO 6, oW, 0⟩
  else if op = 66 then some ⟨oO 6, oZ, oZ, 0⟩
  else if op = 67 then some ⟨oW, oW, oW, 3⟩
  else if op = 68 then some ⟨oO 7, oR, oZ, 0⟩
  else if op = 70 then some ⟨oW, oO 7, oZ, 0⟩
  else if op = 72 then some ⟨oO 8, oR, oZ, 0⟩
  else if op = 73 then some ⟨oO 9, oR, oZ, 0⟩
  else if op = 74 then some ⟨oW, oO 9, oZ, 0⟩
  else groupsS op
def gS (op : Int) : Shp := (groupsS op).getD shpZ
def sS (op : Int) : Shp := (shapeS op).getD shpZ
end Go.Proofs.YtcjjoabofecjmaaGreat

namespace Go.Proofs.YtcjjoabofecjmaaGreat
open Go.RowKit
def inB (n lo hi : Int) : Bool := decide (lo ≤ n ∧ n ≤ hi)
set_option maxHeartbeats 400000 in
theorem within_any (n lo hi : Int) (w : World) :
    Calls Tryz.prog 107 #[.int .i64 n, .int .i64 lo, .int .i64 hi] w fun e w' => e = .returned (.bool (inB n lo hi)) ∧ w = w' := by
  go_enter Tryz.func107, Tryz.ntmps107
  go_wp2
  all_goals (go_ret; exact ⟨ret_bool (by unfold inB; simp [*] <;> omega), rfl⟩)
def sizesS (k : Int) : Int × Int := if k = 6 then (0, 100) else if k = 4 ∨ k = 5 ∨ k = 7 ∨ k = 8 then (1, 100) else (0, 0)
set_option maxHeartbeats 400000 in
theorem sizes_any (k : Int) (w : World) :
    Calls Tryz.prog 104 #[.int .i64 k] w fun e w' => e = .returned (.tuple #[.int .i64 (sizesS k).1, .int .i64 (sizesS k).2]) ∧ w = w' := by
  go_enter Tryz.func104, Tryz.ntmps104
  go_wp2
  all_goals (go_ret2; exact ⟨by simp_all [sizesS], rfl⟩)
def othersS (no : Int) (k : Int) : Int × Int := if k = 3 then (0, no - 1) else if k = 4 then (0, 1) else if k = 8 then (1, 1099511627776) else (0, 0)
set_option maxHeartbeats 400000 in
theorem others_any (V1 V3 : Value) (ao : Option Addr) (no co : Nat) (k : Int) (w : World) (hno : no ≤ 9223372036854775807) :
    Calls Tryz.prog 105 #[.agg #[V1, .slice ao no co, V3], .int .i64 k] w fun e w' => e = .returned (.tuple #[.int .i64 (othersS no k).1, .int .i64 (othersS no k).2]) ∧ Ext w w' := by
  go_enter Tryz.func105, Tryz.ntmps105
  go_wp2
  all_goals try (go_ret2; exact ⟨by simp_all [othersS], xt⟩)
  go_quiet (fail)
  go_wp2
  all_goals (go_ret2; exact ⟨by simp_all [othersS], xt⟩)
set_option maxHeartbeats 400000 in
theorem of_any (k : Int) (w : World) :
    Calls Tryz.prog 102 #[.int .i64 k] w fun e w' => e = .returned (.agg #[.int .i64 12, .int .i64 k]) ∧ w.alloc (.cells #[.int .i64 12, .int .i64 k] 106) = w' := by
  go_enter Tryz.func102, Tryz.ntmps102
  go_wp2
  exact bodyPost_ret (v := .agg #[.int .i64 12, .int .i64 k]) (by simp [results, Tryz.results102, go_sem]) rfl ⟨rfl, rfl⟩
def insideS (n len : Int) : Int := if 0 ≤ n ∧ n < len then 0 else 2
set_option maxHeartbeats 400000 in
theorem inside_any (n len : Int) (w : World) (h1 : -9223372036854775808 < len) (h2 : len ≤ 9223372036854775807) :
    Calls Tryz.prog 164 #[.int .i64 n, .int .i64 len] w fun e w' => e = .returned (.int .i64 (insideS n len)) ∧ w = w' := by
  go_enter Tryz.func164, Tryz.ntmps164
  go_wp2_with (go_at_call 107; refine (within_any _ _ _ _).mono ?_; rintro e w' ⟨rfl, rfl⟩)
  all_goals (go_ret; exact ⟨ret_int (by unfold insideS; unfold inB at *; simp at *; omega), rfl⟩)
end Go.Proofs.YtcjjoabofecjmaaGreat
