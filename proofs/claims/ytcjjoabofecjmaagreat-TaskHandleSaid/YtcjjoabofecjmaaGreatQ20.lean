/- A part of the proof: The reference of layer 13; The reference of layer 28; Start of the reference of layer 28; Start of the reference of layer 28; Same of the reference; TaskStart answers true. -/
import Derived.Test.YtcjjoabofecjmaaGreatQ19
import Derived.Test.YtcjjoabofecjmaaGreatQ07
import Derived.Test.YtcjjoabofecjmaaGreatQ02
import Derived.Test.YtcjjoabofecjmaaGreatQ17
import Derived.Test.YtcjjoabofecjmaaGreatQ16
import Derived.Test.YtcjjoabofecjmaaGreatQ04
set_option linter.unusedVariables false
set_option linter.unusedSimpArgs false
namespace Go.Proofs.YtcjjoabofecjmaaGreat
open Go.RowKit Go.Sort
set_option maxHeartbeats 4000000 in
theorem rCheck_any (p : Prg) (V : Value) (w : World) (hV : RPrg w p V) :
    Calls Tryz.prog 49 #[V] w fun e w' => e = .returned (.int .i64 (checkS p)) ∧ Ext w w' := by
  have hV' := hV
  obtain ⟨Af, nf, cf, Ao, no, co, Av, nv, cv, rfl, hF, hO, hVr, hcf, hco, hcv⟩ := hV
  have LF := Lib.hid hF.len
  have LO := Lib.hid hO.len
  have LV := Lib.hid hVr.len
  have hF64 := hF.le
  have hO64 := hO.le
  have hV64 := hVr.le
  obtain ⟨eo, HEO⟩ : ∃ e, Hid (firstBad (checkObS p) p.objs.length 0 = e) := ⟨_, rfl⟩
  obtain ⟨ev, HEV⟩ : ∃ e, Hid (firstBad (checkVrS p) p.vars.length 0 = e) := ⟨_, rfl⟩
  obtain ⟨ef, HEF⟩ : ∃ e, Hid (firstBad (checkFnS p) p.funcs.length 0 = e) := ⟨_, rfl⟩
  have HS : Hid (checkS p = if nf = 0 then 1 else if 32 < nf ∨ 16 < no ∨ 16 < nv then 4 else if eo ≠ 0 then eo else if ev ≠ 0 then ev else ef) := by
    unfold Hid checkS; rw [← HEO.out, ← HEV.out, ← HEF.out, LF.out, LO.out, LV.out]
  have HO : ∀ (i : Nat) (W : World), Ext w W → i < no → Calls Tryz.prog 83 #[.agg #[.slice Af nf cf, .slice Ao no co, .slice Av nv cv], .int .i64 i] W fun e w' => e = .returned (.int .i64 (checkObS p i)) ∧ Ext W w' :=
    fun i W hW hi => robject_any p i _ W (hV'.mono hW) (by have := LO.out; omega)
  have HVr : ∀ (i : Nat) (W : World), Ext w W → i < nv → Calls Tryz.prog 84 #[.agg #[.slice Af nf cf, .slice Ao no co, .slice Av nv cv], .int .i64 i] W fun e w' => e = .returned (.int .i64 (checkVrS p i)) ∧ Ext W w' :=
    fun i W hW hi => rvar_any p i _ W (hV'.mono hW) (by have := LV.out; omega)
  have HF : ∀ (i : Nat) (W : World), Ext w W → i < nf → Calls Tryz.prog 85 #[.agg #[.slice Af nf cf, .slice Ao no co, .slice Av nv cv], .int .i64 i] W fun e w' => e = .returned (.int .i64 (checkFnS p i)) ∧ Ext W w' :=
    fun i W hW hi => rfunc_any p i _ W (hV'.mono hW) (by have := LF.out; omega)
  clear hV' hF hO hVr hcf hco hcv
  have Hnf : nf = 0 ∨ 0 < nf := by omega
  have Hnf : nf = 0 ∨ 0 < nf := by omega
  go_enter Tryz.func49, Tryz.ntmps49
  go_wp2
  all_goals try (go_ret; exact ⟨ret_int (by have g := HS.out; clear HO HVr HF HS; rw [g]; clear g; simp only [beq_iff_eq, beq_eq_false_iff_ne, ne_eq] at *; first | rw [if_neg (by omega), if_pos (by omega)] | rw [if_pos (by omega)]), xt⟩)
  refine wp_hid ?_
  intro W0 HW0
  have HE : Hid (Ext w W0) := by rw [HW0.out]; exact Lib.hid xt
  have hl0 : w.heap.size < W0.heap.size := by rw [HW0.out]; simp
  have k0 : W0.cell? ⟨w.heap.size, 0, none⟩ = some (.slice Af nf cf) := by rw [HW0.out]; simp [go_sem]
  have k1 : W0.cell? ⟨w.heap.size, 1, none⟩ = some (.slice Ao no co) := by rw [HW0.out]; simp [go_sem]
  have k2 : W0.cell? ⟨w.heap.size, 2, none⟩ = some (.slice Av nv cv) := by rw [HW0.out]; simp [go_sem]
  have HS2 : Hid (checkS p = if eo ≠ 0 then eo else if ev ≠ 0 then ev else ef) := by have g := HS.out; clear HO HVr HF HS; rw [Hid, g]; clear g; simp only [beq_iff_eq, beq_eq_false_iff_ne, ne_eq] at *; rw [if_neg (by omega), if_neg (by omega)]
  clear HW0 HS
  go_loopg [3, 4] no (fun gg s3 _ wr => ∃ j : Nat, j ≤ no ∧ no - j ≤ gg ∧ s3 = .int .i64 j ∧ Hid (Ext W0 wr) ∧ Hid (eo = firstBad (checkObS p) (no - j) j))
  case atStart => exact ⟨0, Nat.zero_le _, by omega, rfl, Ext.refl _, by rw [Hid, ← HEO.out, LO.out]; rfl⟩
  case round =>
    obtain ⟨j, hk0, hg0, rfl, HW1, HI1⟩ := hrel
    obtain ⟨wr1, ewr1⟩ : ∃ W, W = wr := ⟨_, rfl⟩
    subst ewr1
    have hW0 := HW1.out
    have hE0 := HE.out.trans hW0
    replace k0 := hW0.cell k0
    replace k1 := hW0.cell k1
    replace k2 := hW0.cell k2
    have hl1 := Nat.lt_of_lt_of_le hl0 hW0.size
    by_cases hlt : j < no
    · have hltz : (j : Int) < (no : Int) := by omega
      have HD : Hid (firstBad (checkObS p) (no - j) j = if checkObS p j ≠ 0 then checkObS p j else firstBad (checkObS p) (no - (j + 1)) (j + 1)) := by rw [Hid, show no - j = (no - (j + 1)) + 1 by omega]; rfl
      have HX := HO j wr1 hE0 hlt
      obtain ⟨e0, he0⟩ : ∃ e0, checkObS p j = e0 := ⟨_, rfl⟩
      rw [he0] at HX
      have HQ := Lib.hid he0
      clear he0
      by_cases hz : e0 = 0
      · subst hz
        go_wp2_with (go_at_call 83; refine (HX).mono ?_; rintro e w9 ⟨rfl, hb⟩; obtain ⟨hc9, hf9, hs9, he9⟩ := Ext.use (w := wr1) hb xt; clear hb; (try simp only [sA, sC, sD, sN] at hs9))
        go_roundg (no - (j + 1))
        case measure => omega
        case rel => exact ⟨j + 1, by omega, by omega, by go_num, HW1.out.trans he9, by rw [Hid, HI1.out, HD.out, if_neg (by rw [HQ.out]; decide)]⟩
      · have hz' : (e0 != 0) = true := by simpa using hz
        go_wp2_with (go_at_call 83; refine (HX).mono ?_; rintro e w9 ⟨rfl, hb⟩; obtain ⟨hc9, hf9, hs9, he9⟩ := Ext.use (w := wr1) hb xt; clear hb; (try simp only [sA, sC, sD, sN] at hs9))
        go_ret
        exact ⟨ret_int (by
          have g : eo = e0 := by rw [HI1.out, HD.out, HQ.out, if_pos hz]
          rw [HS2.out, g, if_pos hz]), hE0.trans he9⟩
    · have hltz : ¬ (j : Int) < (no : Int) := by omega
      have hzo : eo = 0 := by rw [HI1.out, show no - j = 0 by omega]; rfl
      clear HO
      go_wp2
      go_loopg [5, 6] nv (fun gg s5 _ wr => ∃ k : Nat, k ≤ nv ∧ nv - k ≤ gg ∧ s5 = .int .i64 k ∧ Hid (Ext wr1 wr) ∧ Hid (ev = firstBad (checkVrS p) (nv - k) k))
      case atStart => exact ⟨0, Nat.zero_le _, by omega, rfl, Ext.refl _, by rw [Hid, ← HEV.out, LV.out]; rfl⟩
      case round =>
        obtain ⟨k, hk1, hg1, rfl, HW2, HI2⟩ := hrel
        obtain ⟨wr2, ewr2⟩ : ∃ W, W = wr := ⟨_, rfl⟩
        subst ewr2
        have hW1 := HW2.out
        have hE1 := hE0.trans hW1
        replace k0 := hW1.cell k0
        replace k1 := hW1.cell k1
        replace k2 := hW1.cell k2
        have hl2 := Nat.lt_of_lt_of_le hl1 hW1.size
        by_cases hlt : k < nv
        · have hltz : (k : Int) < (nv : Int) := by omega
          have HD : Hid (firstBad (checkVrS p) (nv - k) k = if checkVrS p k ≠ 0 then checkVrS p k else firstBad (checkVrS p) (nv - (k + 1)) (k + 1)) := by rw [Hid, show nv - k = (nv - (k + 1)) + 1 by omega]; rfl
          have HX := HVr k wr2 hE1 hlt
          obtain ⟨e0, he0⟩ : ∃ e0, checkVrS p k = e0 := ⟨_, rfl⟩
          rw [he0] at HX
          have HQ := Lib.hid he0
          clear he0
          by_cases hz : e0 = 0
          · subst hz
            go_wp2_with (go_at_call 84; refine (HX).mono ?_; rintro e w9 ⟨rfl, hb⟩; obtain ⟨hc9, hf9, hs9, he9⟩ := Ext.use (w := wr2) hb xt; clear hb; (try simp only [sA, sC, sD, sN] at hs9))
            go_roundg (nv - (k + 1))
            case measure => omega
            case rel => exact ⟨k + 1, by omega, by omega, by go_num, HW2.out.trans he9, by rw [Hid, HI2.out, HD.out, if_neg (by rw [HQ.out]; decide)]⟩
          · have hz' : (e0 != 0) = true := by simpa using hz
            go_wp2_with (go_at_call 84; refine (HX).mono ?_; rintro e w9 ⟨rfl, hb⟩; obtain ⟨hc9, hf9, hs9, he9⟩ := Ext.use (w := wr2) hb xt; clear hb; (try simp only [sA, sC, sD, sN] at hs9))
            go_ret
            exact ⟨ret_int (by
              have g : ev = e0 := by rw [HI2.out, HD.out, HQ.out, if_pos hz]
              rw [HS2.out, if_neg (by simp [hzo]), g, if_pos hz]), hE1.trans he9⟩
        · have hltz : ¬ (k : Int) < (nv : Int) := by omega
          have hzv : ev = 0 := by rw [HI2.out, show nv - k = 0 by omega]; rfl
          clear HVr
          go_wp2
          go_loopg [7, 8] nf (fun gg s7 _ wr => ∃ l : Nat, l ≤ nf ∧ nf - l ≤ gg ∧ s7 = .int .i64 l ∧ Hid (Ext wr2 wr) ∧ Hid (ef = firstBad (checkFnS p) (nf - l) l))
          case atStart => exact ⟨0, Nat.zero_le _, by omega, rfl, Ext.refl _, by rw [Hid, ← HEF.out, LF.out]; rfl⟩
          case round =>
            obtain ⟨l, hk2, hg2, rfl, HW3, HI3⟩ := hrel
            obtain ⟨wr3, ewr3⟩ : ∃ W, W = wr := ⟨_, rfl⟩
            subst ewr3
            have hW2 := HW3.out
            have hE2 := hE1.trans hW2
            replace k0 := hW2.cell k0
            replace k1 := hW2.cell k1
            replace k2 := hW2.cell k2
            have hl3 := Nat.lt_of_lt_of_le hl2 hW2.size
            by_cases hlt : l < nf
            · have hltz : (l : Int) < (nf : Int) := by omega
              have HD : Hid (firstBad (checkFnS p) (nf - l) l = if checkFnS p l ≠ 0 then checkFnS p l else firstBad (checkFnS p) (nf - (l + 1)) (l + 1)) := by rw [Hid, show nf - l = (nf - (l + 1)) + 1 by omega]; rfl
              have HX := HF l wr3 hE2 hlt
              obtain ⟨e0, he0⟩ : ∃ e0, checkFnS p l = e0 := ⟨_, rfl⟩
              rw [he0] at HX
              have HQ := Lib.hid he0
              clear he0
              by_cases hz : e0 = 0
              · subst hz
                go_wp2_with (go_at_call 85; refine (HX).mono ?_; rintro e w9 ⟨rfl, hb⟩; obtain ⟨hc9, hf9, hs9, he9⟩ := Ext.use (w := wr3) hb xt; clear hb; (try simp only [sA, sC, sD, sN] at hs9))
                go_roundg (nf - (l + 1))
                case measure => omega
                case rel => exact ⟨l + 1, by omega, by omega, by go_num, HW3.out.trans he9, by rw [Hid, HI3.out, HD.out, if_neg (by rw [HQ.out]; decide)]⟩
              · have hz' : (e0 != 0) = true := by simpa using hz
                go_wp2_with (go_at_call 85; refine (HX).mono ?_; rintro e w9 ⟨rfl, hb⟩; obtain ⟨hc9, hf9, hs9, he9⟩ := Ext.use (w := wr3) hb xt; clear hb; (try simp only [sA, sC, sD, sN] at hs9))
                go_ret
                exact ⟨ret_int (by
                  have g : ef = e0 := by rw [HI3.out, HD.out, HQ.out, if_pos hz]
                  rw [HS2.out, if_neg (by simp [hzo]), if_neg (by simp [hzv]), g]), hE2.trans he9⟩
            · have hltz : ¬ (l : Int) < (nf : Int) := by omega
              have hz_ : ef = 0 := by rw [HI3.out, show nf - l = 0 by omega]; rfl
              clear HF
              go_wp2
              go_ret
              exact ⟨ret_int (by rw [HS2.out, if_neg (by simp [hzo]), if_neg (by simp [hzv]), hz_]), hE2⟩
end Go.Proofs.YtcjjoabofecjmaaGreat

namespace Go.Proofs.YtcjjoabofecjmaaGreat
open Go.RowKit Go.Sort
theorem rnumber_any (n : Int) (w : World) :
    Calls Tryz.prog 51 #[Value.int .i64 n] w fun e w' => e = .returned (.bool (numB n)) ∧ w = w' := by
  go_enter Tryz.func51, Tryz.ntmps51
  go_wp2
  all_goals (go_ret; exact ⟨ret_bool (by unfold numB inB; rw [Bool.eq_iff_iff]; simp at * <;> omega), rfl⟩)
theorem rreason_any (n : Int) (w : World) :
    Calls Tryz.prog 52 #[Value.int .i64 n] w fun e w' => e = .returned (.bool (inB n 0 9 || inB n 100 999)) ∧ w = w' := by
  go_enter Tryz.func52, Tryz.ntmps52
  go_wp2
  all_goals (go_ret; exact ⟨ret_bool (by unfold inB; rw [Bool.eq_iff_iff]; simp at * <;> omega), rfl⟩)
theorem all_drop {α : Type} {g : α → Bool} {l : List α} {k : Nat} {y : α} (h : l[k]? = some y) : (l.drop k).all g = (g y && (l.drop (k + 1)).all g) := by
  obtain ⟨h1, h2⟩ := List.getElem?_eq_some_iff.1 h
  rw [List.drop_eq_getElem_cons h1, h2]; rfl
set_option maxRecDepth 8000 in
set_option maxHeartbeats 2000000 in
theorem rnumbers_any (A : Option Addr) (n c : Nat) (xs : List Int) (w : World) (hx : RSl 1 RInt w A n xs) :
    Calls Tryz.prog 61 #[.slice A n c] w fun e w' => e = .returned (.bool (xs.all numB)) ∧ Ext w w' := by
  have HX := Lib.hid hx
  have HL := Lib.hid hx.len
  have hle := hx.le
  clear hx
  go_enter Tryz.func61, Tryz.ntmps61
  go_wp2
  go_loopg [3] n (fun gg s3 wr => ∃ k : Nat, k ≤ n ∧ n - k ≤ gg ∧ s3 = .int .i64 k ∧ Hid (Ext w wr) ∧ Hid (xs.all numB = (xs.drop k).all numB))
  case atStart => exact ⟨0, Nat.zero_le _, by omega, rfl, Ext.refl _, rfl⟩
  case round =>
    obtain ⟨k, hk, hg, rfl, HW, HI⟩ := hrel
    by_cases hlt : k < n
    · have hltz : (k : Int) < (n : Int) := by omega
      have hk0 : (0 : Int) ≤ (k : Int) := by omega
      obtain ⟨y, hy⟩ : ∃ y, xs[k]? = some y := ⟨_, List.getElem?_eq_getElem (by have := HL.out; omega)⟩
      obtain ⟨b, off, rfl, hb, _, c0⟩ := HX.out.int hy
      replace c0 := HW.out.cell c0
      have zb := lt_of_cell c0
      have HD := Lib.hid (all_drop (g := numB) hy)
      obtain ⟨q, hq⟩ : ∃ q, numB y = q := ⟨_, rfl⟩
      have HB := Lib.hid (fun W => rnumber_any y W)
      rw [hq] at HB HD
      clear hq hy
      cases q with
      | false =>
        go_wp2_with (go_at_call 51; refine (HB.out _).mono ?_; rintro e w' ⟨rfl, rfl⟩)
        go_ret
        exact ⟨ret_bool (by rw [HI.out, HD.out]; rfl), HW.out⟩
      | true =>
        go_wp2_with (go_at_call 51; refine (HB.out _).mono ?_; rintro e w' ⟨rfl, rfl⟩)
        go_roundg (n - (k + 1))
        case measure => omega
        case rel => exact ⟨k + 1, by omega, by omega, by go_num, HW.out, by rw [Hid, HI.out, HD.out]; rfl⟩
    · have hltz : ¬ (k : Int) < (n : Int) := by omega
      have HF : Hid (xs.all numB = true) := by rw [Hid, HI.out, List.drop_eq_nil_of_le (by have := HL.out; omega)]; rfl
      go_wp2
      go_ret
      exact ⟨ret_bool HF.out.symm, HW.out⟩
def fnB (p : Prg) (i : Int) (cl : Bool) : Bool := match fnAt p i with | none => false | some g => g.cleanup == cl
set_option maxRecDepth 8000 in
set_option maxHeartbeats 2000000 in
theorem rfunction_any (p : Prg) (i : Int) (cl : Bool) (V : Value) (w : World) (hV : RPrg w p V) :
    Calls Tryz.prog 50 #[V, Value.int .i64 i, .bool cl] w fun e w' => e = .returned (.bool (fnB p i cl)) ∧ Ext w w' := by
  obtain ⟨Af, nf, cf, Ao, no, co, Av, nv, cv, rfl, hF, _⟩ := hV
  have hle := hF.le
  have hln := hF.len
  cases hfn : fnAt p i with
  | none =>
    have HR : Hid (fnB p i cl = false) := by unfold Hid fnB; rw [hfn]
    have h0 := fnAt_none hfn
    by_cases h1 : 0 ≤ i
    · have h2 : ¬ i < (nf : Int) := by omega
      clear hfn hF hln h0
      go_enter Tryz.func50, Tryz.ntmps50
      go_wp2
      go_ret
      exact ⟨ret_bool HR.out.symm, xt⟩
    · clear hfn hF hln h0
      go_enter Tryz.func50, Tryz.ntmps50
      go_wp2
      go_ret
      exact ⟨ret_bool HR.out.symm, xt⟩
  | some f =>
    obtain ⟨h0, h1, h2⟩ := fnAt_some hfn
    have hlt : i < (nf : Int) := by omega
    obtain ⟨b, off, Ac, nc, cc, rfl, hlb, _, _, _, _, _, _, _, _, _, c4, _⟩ := hF.fnc h2
    have HR : Hid (fnB p i cl = (f.cleanup == cl)) := by unfold Hid fnB; rw [hfn]
    clear hfn hF hln h1 h2
    go_enter Tryz.func50, Tryz.ntmps50
    go_wp2
    all_goals (go_ret; exact ⟨ret_bool (by rw [HR.out]), xt⟩)
set_option maxRecDepth 8000 in
set_option maxHeartbeats 8000000 in
theorem rwaits_any (p : Prg) (t : Tsk) (VP VT : Value) (w : World) (hP : RPrg w p VP) (hT : RTsk w t VT) (hst3 : t.status = 1 ∨ t.status = 2 ∨ t.status = 3) :
    Calls Tryz.prog 53 #[VP, VT] w fun e w' => e = .returned (.bool (waitB p t)) ∧ Ext w w' := by
  obtain ⟨Af, nf, cf, Ao, no, co, Av, nv, cv, rfl, hF, hO, hVr, hcf, hco, hcv⟩ := hP
  obtain ⟨Bf, mf, df, Bb, mb, db, rfl, _⟩ := hT
  clear hF hVr hcf hco hcv
  have hle := hO.le
  have HL := hO.len
  by_cases hst : t.status = 2
  rotate_left
  · have e0 : (t.status != 2) = true := by simpa using hst
    have HR : Hid (waitB p t = ((t.wkind == 0) && (t.windex == 0) && !t.wagain)) := by unfold Hid waitB; rw [if_pos hst]
    clear hst hO HL hst3
    go_enter Tryz.func53, Tryz.ntmps53
    go_wp2
    all_goals (go_ret; exact ⟨ret_bool (by rw [HR.out]; simp_all), xt⟩)
  have e0 : (t.status != 2) = false := by simpa using hst
  clear hst3
  by_cases hin : inB t.windex 0 ((no : Int) - 1) = true
  · have hin' := inB_iff.1 hin
    obtain ⟨o, ho⟩ : ∃ o, p.objs[t.windex.toNat]? = some o := ⟨_, List.getElem?_eq_getElem (by omega)⟩
    obtain ⟨b, off, rfl, hlb, _, _, _, _, c0, c1, c2, c3⟩ := hO.ob ho
    have hlt : t.windex < (no : Int) := by omega
    have hge : 0 ≤ t.windex := hin'.1
    have HR : Hid (waitB p t = if t.wagain = true ∧ t.wkind ≠ 5 then false else if t.wkind = 1 then true else if t.wkind = 5 then o.kind == 1 else if t.wkind = 4 then decide (t.windex < 32) else if t.wkind = 2 ∨ t.wkind = 3 then t.windex == 0 else false) := by
      have h31 : inB t.windex 0 31 = decide (t.windex < 32) := by unfold inB; rw [decide_eq_decide]; omega
      unfold Hid waitB kindAt; rw [if_neg (by simpa using hst), ← HL, hin, ho, h31]; simp
    clear hst hO HL ho hin hin'
    go_enter Tryz.func53, Tryz.ntmps53
    go_wp2
    all_goals (go_ret; exact ⟨ret_bool (by have g := HR.out; clear HR; rw [g]; clear g; simp only [beq_iff_eq, beq_eq_false_iff_ne, ne_eq, bne_iff_ne, bne_eq_false_iff_eq, Bool.not_eq_true] at *; simp [*]), xt⟩)
  · have hin : inB t.windex 0 ((no : Int) - 1) = false := by simpa using hin
    have hin' := inB_off.1 hin
    have HR : Hid (waitB p t = if t.wagain = true ∧ t.wkind ≠ 5 then false else if t.wkind = 1 then false else if t.wkind = 5 then false else if t.wkind = 4 then (decide (0 ≤ t.windex) && decide (t.windex < 32)) else if t.wkind = 2 ∨ t.wkind = 3 then t.windex == 0 else false) := by
      have h31 : inB t.windex 0 31 = (decide (0 ≤ t.windex) && decide (t.windex < 32)) := by unfold inB; rw [Bool.eq_iff_iff]; simp; omega
      unfold Hid waitB kindAt; rw [if_neg (by simpa using hst), ← HL, hin, h31]; simp
    by_cases hge : 0 ≤ t.windex
    · have hlt : ¬ t.windex < (no : Int) := by omega
      clear hst hO HL hin hin'
      go_enter Tryz.func53, Tryz.ntmps53
      go_wp2
      all_goals (go_ret; exact ⟨ret_bool (by have g := HR.out; clear HR; rw [g]; clear g; simp only [beq_iff_eq, beq_eq_false_iff_ne, ne_eq, bne_iff_ne, bne_eq_false_iff_eq, Bool.not_eq_true] at *; simp [*]), xt⟩)
    · clear hst hO HL hin hin'
      go_enter Tryz.func53, Tryz.ntmps53
      go_wp2
      all_goals (go_ret; exact ⟨ret_bool (by have g := HR.out; clear HR; rw [g]; clear g; simp only [beq_iff_eq, beq_eq_false_iff_ne, ne_eq, bne_iff_ne, bne_eq_false_iff_eq, Bool.not_eq_true] at *; first | (simp [*]; done) | (simp [*]; omega)), xt⟩)
set_option maxRecDepth 8000 in
set_option maxHeartbeats 8000000 in
theorem rhandlers_any (p : Prg) (l : List Hdl) (V : Value) (A : Option Addr) (n c : Nat) (w : World) (hV : RPrg w p V) (hx : RSl 2 RHdl w A n l) :
    Calls Tryz.prog 86 #[V, .slice A n c] w fun e w' => e = .returned (.bool (decide (l.length ≤ 8) && l.all (hdlB p))) ∧ Ext w w' := by
  have HV := Lib.hid hV
  have HX := Lib.hid hx
  have HL := Lib.hid hx.len
  have hle := hx.le
  obtain ⟨Af, nf, cf, Ao, no, co, Av, nv, cv, rfl, hF, _⟩ := hV
  have HF := Lib.hid hF
  have hnf := hF.le
  have HNF := Lib.hid hF.len
  clear hx hF
  by_cases h8 : (8 : Int) < (n : Int)
  · have HR : Hid ((decide (l.length ≤ 8) && l.all (hdlB p)) = false) := by rw [Hid, decide_eq_false (by have := HL.out; omega)]; rfl
    go_enter Tryz.func86, Tryz.ntmps86
    go_wp2
    go_ret
    exact ⟨ret_bool HR.out.symm, xt⟩
  have HR : Hid ((decide (l.length ≤ 8) && l.all (hdlB p)) = l.all (hdlB p)) := by rw [Hid, decide_eq_true (by have := HL.out; omega)]; rfl
  go_enter Tryz.func86, Tryz.ntmps86
  go_wp2
  refine wp_hid2 ?_
  intro W0 HW0
  have HE : Hid (Ext w W0) := by rw [HW0.out]; exact Lib.hid xt
  have e0 : W0.cell? ⟨w.heap.size, 0, none⟩ = some (.slice Af nf cf) := by rw [HW0.out]; simp [go_sem]
  have e1 : W0.cell? ⟨w.heap.size, 1, none⟩ = some (.slice Ao no co) := by rw [HW0.out]; simp [go_sem]
  have e2 : W0.cell? ⟨w.heap.size, 2, none⟩ = some (.slice Av nv cv) := by rw [HW0.out]; simp [go_sem]
  have z0 : w.heap.size < W0.heap.size := lt_of_cell e0
  clear HW0
  go_loopg [5] n (fun gg s5 wr => ∃ k : Nat, k ≤ n ∧ n - k ≤ gg ∧ s5 = .int .i64 k ∧ Hid (Ext W0 wr) ∧ Hid (l.all (hdlB p) = (l.drop k).all (hdlB p)))
  case atStart => exact ⟨0, Nat.zero_le _, by omega, rfl, Ext.refl _, rfl⟩
  case round =>
    obtain ⟨k, hk, hg, rfl, HW, HI⟩ := hrel
    have hW := HW.out
    replace e0 := hW.cell e0
    replace e1 := hW.cell e1
    replace e2 := hW.cell e2
    have hsz := hW.size
    by_cases hlt : k < n
    · have hltz : (k : Int) < (n : Int) := by omega
      have hk0 : (0 : Int) ≤ (k : Int) := by omega
      obtain ⟨h, hh⟩ : ∃ h, l[k]? = some h := ⟨_, List.getElem?_eq_getElem (by have := HL.out; omega)⟩
      obtain ⟨b2, off2, Aa, na, ca, rfl, hb2, _, ⟨hA, _⟩, c0, c1⟩ := (HX.out.mono RHdl.stays (HE.out.trans hW)).hdl hh
      have HD := Lib.hid (all_drop (g := hdlB p) hh)
      have HFn := Lib.hid (fun W (hE : Ext wr W) => rfunction_any p h.fn true _ W (HV.out.mono ((HE.out.trans hW).trans hE)))
      have HNs := Lib.hid (fun W (hE : Ext wr W) => rnumbers_any Aa na ca h.args W (hA.mono RInt.stays hE))
      have hal := hA.len
      have hnal := hA.le
      cases hfn : fnAt p h.fn with
      | none =>
        have hq : fnB p h.fn true = false := by unfold fnB; rw [hfn]
        have HQ : Hid (hdlB p h = false) := by unfold Hid hdlB; rw [hfn]
        rw [hq] at HFn
        clear hh hA hq hfn hal
        go_wp2
        (refine wp_region_quiet_below (by kernel_rfl) (by kernel_rfl) ?_; (repeat (go_big_quiet_step ((go_at_call 50; exact quiet_ext (HFn.out _ xt))))); refine wpQuiet_nil ?_; intro w1 hw1; obtain ⟨hc, hf, hs, he⟩ := Ext.use (w := wr) (ext_of_regrown hw1) xt; clear hw1; (try simp only [sA, sC, sD, sN] at hs))
        go_wp2
        go_ret
        exact ⟨ret_bool (by rw [HR.out, HI.out, HD.out, HQ.out]; rfl), (HE.out.trans HW.out).trans he⟩
      | some g =>
        obtain ⟨h0, h1, h2⟩ := fnAt_some hfn
        cases hcl : g.cleanup with
        | false =>
          have hq : fnB p h.fn true = false := by unfold fnB; rw [hfn]; dsimp only; rw [hcl]; rfl
          have HQ : Hid (hdlB p h = false) := by unfold Hid hdlB; rw [hfn]; dsimp only; rw [hcl]; rfl
          rw [hq] at HFn
          clear hh hA hq hfn hal h0 h1 h2 hcl
          go_wp2
          (refine wp_region_quiet_below (by kernel_rfl) (by kernel_rfl) ?_; (repeat (go_big_quiet_step ((go_at_call 50; exact quiet_ext (HFn.out _ xt))))); refine wpQuiet_nil ?_; intro w1 hw1; obtain ⟨hc, hf, hs, he⟩ := Ext.use (w := wr) (ext_of_regrown hw1) xt; clear hw1; (try simp only [sA, sC, sD, sN] at hs))
          go_wp2
          go_ret
          exact ⟨ret_bool (by rw [HR.out, HI.out, HD.out, HQ.out]; rfl), (HE.out.trans HW.out).trans he⟩
        | true =>
          have hq : fnB p h.fn true = true := by unfold fnB; rw [hfn]; dsimp only; rw [hcl]; rfl
          have HQ : Hid (hdlB p h = (((na : Int) == g.params) && h.args.all numB)) := by unfold Hid hdlB; rw [hfn]; dsimp only; rw [hcl, ← hal]; rfl
          rw [hq] at HFn
          obtain ⟨b3, off3, Ac, nc, cc, rfl, _, _, _, _, _, _, _, p1, _, _, _, _⟩ := HF.out.fnc h2
          replace p1 := hW.cell (HE.out.cell p1)
          have zb3 := lt_of_cell p1
          have zb2 := lt_of_cell c0
          have hltf : h.fn < (nf : Int) := by have := HNF.out; omega
          obtain ⟨q2, hq2⟩ : ∃ q, ((na : Int) == g.params) = q := ⟨_, rfl⟩
          obtain ⟨q3, hq3⟩ : ∃ q, h.args.all numB = q := ⟨_, rfl⟩
          have hq2' : ((na : Int) != g.params) = !q2 := by rw [← hq2]; rfl
          rw [hq2, hq3] at HQ
          rw [hq3] at HNs
          clear hh hA hq hfn hal h1 h2 hcl hq3
          cases q2 with
          | false =>
            have hq4 : ((na : Int) != g.params) = true := hq2'
            clear hq2'
            go_wp2
            (refine wp_region_quiet_below (by kernel_rfl) (by kernel_rfl) ?_; (repeat (go_big_quiet_step (first | (go_at_call 50; exact quiet_ext (HFn.out _ xt)) | (go_at_call 61; exact quiet_ext (HNs.out _ xt))))); refine wpQuiet_nil ?_; intro w1 hw1; obtain ⟨hc, hf, hs, he⟩ := Ext.use (w := wr) (ext_of_regrown hw1) xt; clear hw1; (try simp only [sA, sC, sD, sN] at hs))
            go_wp2
            go_ret
            exact ⟨ret_bool (by rw [HR.out, HI.out, HD.out, HQ.out]; rfl), (HE.out.trans HW.out).trans he⟩
          | true =>
            have hq4 : ((na : Int) != g.params) = false := hq2'
            clear hq2'
            cases q3 with
            | false =>
              go_wp2
              (refine wp_region_quiet_below (by kernel_rfl) (by kernel_rfl) ?_; (repeat (go_big_quiet_step (first | (go_at_call 50; exact quiet_ext (HFn.out _ xt)) | (go_at_call 61; exact quiet_ext (HNs.out _ xt))))); refine wpQuiet_nil ?_; intro w1 hw1; obtain ⟨hc, hf, hs, he⟩ := Ext.use (w := wr) (ext_of_regrown hw1) xt; clear hw1; (try simp only [sA, sC, sD, sN] at hs))
              go_wp2
              go_ret
              exact ⟨ret_bool (by rw [HR.out, HI.out, HD.out, HQ.out]; rfl), (HE.out.trans HW.out).trans he⟩
            | true =>
              go_wp2
              (refine wp_region_quiet_below (by kernel_rfl) (by kernel_rfl) ?_; (repeat (go_big_quiet_step (first | (go_at_call 50; exact quiet_ext (HFn.out _ xt)) | (go_at_call 61; exact quiet_ext (HNs.out _ xt))))); refine wpQuiet_nil ?_; intro w1 hw1; obtain ⟨hc, hf, hs, he⟩ := Ext.use (w := wr) (ext_of_regrown hw1) xt; clear hw1; (try simp only [sA, sC, sD, sN] at hs))
              go_wp2
              go_roundg (n - (k + 1))
              case measure => omega
              case rel => exact ⟨k + 1, by omega, by omega, by go_num, Ext.trans HW.out he, by rw [Hid, HI.out, HD.out, HQ.out]; rfl⟩
    · have hltz : ¬ (k : Int) < (n : Int) := by omega
      have HFi : Hid (l.all (hdlB p) = true) := by rw [Hid, HI.out, List.drop_eq_nil_of_le (by have := HL.out; omega)]; rfl
      go_wp2
      go_ret
      exact ⟨ret_bool (by rw [HR.out, HFi.out]), HE.out.trans HW.out⟩
end Go.Proofs.YtcjjoabofecjmaaGreat

namespace Go.Proofs.YtcjjoabofecjmaaGreat
open Go.RowKit
theorem infoFrmS : (Tryz.prog.info? 62).map (·.size) = some 5 := by kernel_rfl
set_option maxRecDepth 4000 in
set_option maxHeartbeats 4000000 in
theorem rStart_ok (p : Prg) (k : Nat) (g : Fnc) (args : List Int) (scope : Int) (VP : Value) (A : Option Addr) (n c : Nat) (w : World) (hP : RPrg w p VP) (hA : RSl 1 RInt w A n args) (hf : InR (k : Int)) (hs : InR scope)
    (hc : checkS p = 0) (hfn : fnAt p k = some g) (hcl : g.cleanup = false) (hpm : (n : Int) = g.params) (hq : args.all numB = true) (hs0 : ¬ scope < 0) (hs1 : ¬ (32 : Int) ≤ scope) :
    Calls Tryz.prog 22 #[VP, Value.int .i64 k, .slice A n c, Value.int .i64 scope] w fun e w' => ∃ V', e = .returned (.tuple #[V', Value.int .i64 0]) ∧ RTsk w' (firstTsk k g args scope) V' ∧ Ext w w' := by
  have HC := Lib.hid (fun W h => rCheck_any p VP W (hP.mono h))
  obtain ⟨Af, nf, cf, Ao, no, co, Av, nv, cv, rfl, hF, hO, hVr, hcf, hco, hcv⟩ := hP
  clear hO hVr hcf hco hcv
  have hle := hF.le
  have hnl := hA.le
  have HL := Lib.hid hF.len
  have HN := Lib.hid hA.len
  have HA := Lib.hid hA
  have HFI := Lib.hid hf
  have HSI := Lib.hid hs
  have HF := Lib.hid hF
  have HPO := Lib.hid (check_regs hc)
  have HC0 := Lib.hid hc
  rw [hc] at HC
  obtain ⟨h0, h1, h2⟩ := fnAt_some hfn
  obtain ⟨b, off, Ac, nc, cc, rfl, hlb, hsz, i1, i2, i3, ⟨hCd, hcc⟩, c0, c1, c2, c3, c4, c5⟩ := HF.out.fnc h2
  have hlt : (k : Int) < (nf : Int) := by have := HL.out; omega
  have hf0 : ¬ (k : Int) < 0 := by omega
  have hf1 : ¬ (nf : Int) ≤ (k : Int) := by omega
  have hrg := HPO.out g (List.mem_of_getElem? h2)
  have HG2 := Lib.hid i3
  have HO : Hid (∀ W, Ext w W → Calls Tryz.prog 61 #[.slice A n c] W fun e w' => e = .returned (.bool true) ∧ Ext W w') := fun W hW => by
    have := rnumbers_any A n c args W (HA.out.mono RInt.stays hW)
    rw [hq] at this
    exact this
  have e0 : ((n : Int) != g.params) = false := by simpa using hpm
  have HPR : Hid ((n : Int) = g.params ∧ g.params ≤ g.regs) := ⟨hpm, check_params hc g (List.mem_of_getElem? h2)⟩
  rw [hcl] at c4
  clear hF hA hf hs hc hfn h1 h2 i1 i2 i3 hCd hcl hpm hq
  rw [Int.toNat_natCast] at c0 c1 c2 c3 c4 c5
  go_enter Tryz.func22, Tryz.ntmps22
  go_upto_region 11 with (first | ((with_reducible show wpList _ _ _ ({ dst := _, op := Op.store 32 _ _, type := _, pos := _, after := _, guard := none } :: _) _ _); refine wpList_store_mid rfl 32 _ _ rfl _ _ _ rfl rfl (by exact tr) infoTsk (all_oneCell_toArray (by simp [Value.oneCell'])) ?_; (try dsimp only [Act.put])) | (go_at_call 49; refine (HC.out _ xt).mono ?_; rintro e w1 ⟨rfl, hb⟩; have T1 := there_ext (b := w.heap.size + 1) (o := 0) (n := 14) (by exact tr) hb; obtain ⟨hc, hf, hs, he⟩ := Ext.use (w := w) hb xt; clear hb; (try simp only [World.size_alloc] at hs)) | (go_at_call 61; refine (HO.out _ xt).mono ?_; rintro e w2 ⟨rfl, hb⟩; have T2 := there_ext T1 hb; obtain ⟨hc2, hf2, hs2, he2⟩ := Ext.use (w := w) hb xt; clear hb))
  refine wp_hid2 ?_
  intro W4 HW4
  have HE4 : Ext w W4 := by rw [HW4.out]; exact he2
  have T4 : W4.there (w.heap.size + 1) 0 14 := by rw [HW4.out]; exact T2
  have k0 : W4.cell? ⟨w.heap.size, 0, none⟩ = some (.slice (some ⟨b, off, none⟩) nf cf) := by rw [HW4.out, hc2, if_pos (by omega), hc]; simp [go_sem]
  have hs4 : w.heap.size + 1 < W4.heap.size := by rw [HW4.out]; omega
  have F4 : ∀ o, W4.frozen? ⟨w.heap.size + 1, o, none⟩ = false := fun o => by rw [HW4.out, hf2, if_pos (by omega), hf, if_pos (by simp)]; simp [go_sem]
  clear HW4 hc hc2 hf hf2 T1 T2
  obtain ⟨N, hN⟩ : ∃ N : Nat, g.regs = (N : Int) := ⟨g.regs.toNat, by omega⟩
  have d2 := HE4.cell c2
  rw [hN] at d2
  have d3 := HE4.cell c3
  have hlb4 : b < W4.heap.size := Nat.lt_of_lt_of_le hlb HE4.size
  clear c0 c1 c2 c3 c4 c5
  have hs6 : w.heap.size < W4.heap.size := by omega
  have HNN := Lib.hid hN
  have HLE : Hid (args.length ≤ N) := by have h1 := HN.out; have h2 := HPR.out; rw [Hid]; omega
  have HAI : Hid (∀ x ∈ args, InR x) := fun x hx => by
    obtain ⟨i, hi, rfl⟩ := List.getElem_of_mem hx
    exact (HA.out.int (List.getElem?_eq_getElem hi)).choose_spec.choose_spec.2.2.1
  go_upto_region 12 with (go_at_call 62; refine (rregs_any N args A n c _ (HA.out.mono RInt.stays xt) HLE.out (by omega)).mono ?_; rintro e w5 ⟨g5, rfl, hg5, hown5, hb5⟩; have HB5 := Lib.hid hb5; have HO5 := Lib.hid hown5; clear hown5 hb5)
  refine wp_hid2 ?_
  intro W5 HW5
  have HX5 : Hid (Ext W4 W5) := by rw [Hid, HW5.out]; exact HB5.out.alloc _
  have HY5 : Hid (Ext w5 W5) := by rw [Hid, HW5.out]; exact (Ext.refl _).alloc _
  have HE5 : Hid (Ext w W5) := HE4.trans HX5.out
  have k5 := HX5.out.cell k0
  have d5 := HX5.out.cell d3
  have T5 := there_ext T4 HX5.out
  have RF : W5.rangeAt w5.heap.size 0 [Value.int .i64 k, Value.int .i64 0, .slice (some ⟨g5, 0, none⟩) N N, Value.int .i64 (-1), .bool false] := by rw [HW5.out]; exact range_new (by simp)
  have O5 : Hid (W5.ownsRow W4.heap.size 3 1 (.slice (some ⟨g5, 0, none⟩) N N) N ((regsOf N args).map (Value.int .i64))) := ownsRow_ext HO5.out HY5.out
  have z5 : w5.heap.size < W5.heap.size := by rw [HW5.out]; simp
  have z4 : W4.heap.size ≤ w5.heap.size := HB5.out.size
  have zb : b < W5.heap.size := by omega
  have z0 : w.heap.size < W5.heap.size := by omega
  clear HW5 HO5 k0 d2 d3 T4 F4 HX5 HY5 HB5
  refine wp_region_th 13 (fun W' => W'.cell? ⟨w.heap.size, 0, none⟩ = some (.slice (some ⟨b, off, none⟩) nf cf) ∧ W'.cell? ⟨b, off + k * 6 + 3, none⟩ = some (Value.int .i64 g.prio) ∧ W'.rangeAt w5.heap.size 0 [Value.int .i64 k, Value.int .i64 0, .slice (some ⟨g5, 0, none⟩) N N, Value.int .i64 (-1), .bool false]) (by kernel_rfl) (by kernel_rfl) (by kernel_rfl) (by kernel_rfl) (by decide) ?_ ?_
  · exact ⟨by go_simp, by go_simp, range_drew RF⟩
  intro hT hHeld
  (refine tht 0 hT ?_; (try simp only [Act.put, aset, dZ, dS]); refine tht 1 hT ?_; (try simp only [Act.put, aset, dZ, dS]); refine tht 2 hT ?_; (try simp only [Act.put, aset, dZ, dS]); refine tht 3 hT ?_; (try simp only [Act.put, aset, dZ, dS]); refine tht 4 hT ?_; (try simp only [Act.put, aset, dZ, dS]); refine tht 5 hT ?_; (try simp only [Act.put, aset, dZ, dS]); refine tht 6 hT ?_; (try simp only [Act.put, aset, dZ, dS]); refine tht 7 hT ?_; (try simp only [Act.put, aset, dZ, dS]))
  (refine th_take (i := 8) (oi := ?oi8_1) (v := ?v8_1) hT ?hi8_1 (by decide) (by kernel_rfl) (by kernel_rfl) ?hq8_1 (Or.inl ⟨?hw8_1, ?hy8_1⟩) (by assumption) ?rest8_1; (case hi8_1 => (simp only [List.getElem?_toArray, List.getElem?_cons_zero, List.getElem?_cons_succ]; rfl)); (case hw8_1 => rfl); (case hy8_1 => (intro w' hSw; refine Eq.trans (exec_load_mid 62 _ (by rfl) w5.heap.size 0 (by rfl) _ _ Tryz.underlying62 (by rfl) ?hiL8_1 w' (hSw.2.2)) ?eqL8_1; (case eqL8_1 => with_reducible rfl); exact infoFrmS)); (case hq8_1 => (exact fun _ _ _ h => h)); (try simp only [Act.put, aset, dZ, dS]))
  (refine tht 10 hT ?_; (try simp only [Act.put, aset, dZ, dS]))
  (refine th_two (i := 9) (j := 11) (oi := ?oA9_2) (oj := ?oB9_2) ?hA9_2 ?hB9_2 (by decide) (by decide) (by kernel_rfl) (fun K hK => ?_) (fun K hK => ?_); (case hA9_2 => (simp only [List.getElem?_toArray, List.getElem?_cons_zero, List.getElem?_cons_succ]; rfl)); (case hB9_2 => (simp only [List.getElem?_toArray, List.getElem?_cons_zero, List.getElem?_cons_succ]; rfl)))
  · go_simp
    refine hK.out _ _ ⟨by go_simp, by go_simp, range_old hHeld.2.2 _⟩ (fun hHeld => ?_)
    clear hK K
    (try simp only [Act.put, List.setIfInBounds_toArray, List.set_cons_zero, List.set_cons_succ])
    refine tst 11 (fun K hK => ?_)
    go_simp
    refine hK.out _ _ ⟨by go_simp, by go_simp, range_old hHeld.2.2 _⟩ (fun hHeld => ?_)
    clear hK K
    (try simp only [Act.put, List.setIfInBounds_toArray, List.set_cons_zero, List.set_cons_succ])
    (refine tht 12 hT ?_; (try simp only [Act.put, aset, dZ, dS]))
    refine th_done (by kernel_rfl) ?_
    simp only [List.drop_succ_cons, List.drop_zero]
    go_wp2_with ((with_reducible show wpList _ _ _ ({ dst := _, op := Op.store 32 _ _, type := _, pos := _, after := _, guard := none } :: _) _ _); refine wpList_store_mid rfl 32 _ _ rfl _ _ _ rfl rfl (by exact tr) infoTsk (all_oneCell_toArray (by simp [Value.oneCell'])) ?_; (try dsimp only [Act.put]))
    refine ret_range2 (b := w.heap.size + 1) (cs := startL k g scope W5.heap.size (W5.heap.size + 1)) Tryz.results22 rfl rfl rfl rfl (World.rangeAt_setCells_same _ _ 0 _ (by show World.there _ _ 0 14; exact tr)) ⟨_, rfl, start_fin (B := W4.heap.size) (g5 := g5) (N := N) ((HE5.out.drew.alloc _).alloc _) (by omega) HNN.out (by omega) (by omega) (by omega) (range_old (range_new (by simp)) _) (range_new (by simp)) (ownsRow_ext O5.out xt) HAI.out HFI.out HSI.out HG2.out⟩
  · go_simp
    refine hK.out _ _ ⟨by go_simp, by go_simp, range_old hHeld.2.2 _⟩ (fun hHeld => ?_)
    clear hK K
    (try simp only [Act.put, List.setIfInBounds_toArray, List.set_cons_zero, List.set_cons_succ])
    refine tst 9 (fun K hK => ?_)
    go_simp
    refine hK.out _ _ ⟨by go_simp, by go_simp, range_old hHeld.2.2 _⟩ (fun hHeld => ?_)
    clear hK K
    (try simp only [Act.put, List.setIfInBounds_toArray, List.set_cons_zero, List.set_cons_succ])
    (refine tht 12 hT ?_; (try simp only [Act.put, aset, dZ, dS]))
    refine th_done (by kernel_rfl) ?_
    simp only [List.drop_succ_cons, List.drop_zero]
    go_wp2_with ((with_reducible show wpList _ _ _ ({ dst := _, op := Op.store 32 _ _, type := _, pos := _, after := _, guard := none } :: _) _ _); refine wpList_store_mid rfl 32 _ _ rfl _ _ _ rfl rfl (by exact tr) infoTsk (all_oneCell_toArray (by simp [Value.oneCell'])) ?_; (try dsimp only [Act.put]))
    refine ret_range2 (b := w.heap.size + 1) (cs := startL k g scope (W5.heap.size + 1) W5.heap.size) Tryz.results22 rfl rfl rfl rfl (World.rangeAt_setCells_same _ _ 0 _ (by show World.there _ _ 0 14; exact tr)) ⟨_, rfl, start_fin (B := W4.heap.size) (g5 := g5) (N := N) ((HE5.out.drew.alloc _).alloc _) (by omega) HNN.out (by omega) (by omega) (by omega) (range_new (by simp)) (range_old (range_new (by simp)) _) (ownsRow_ext O5.out xt) HAI.out HFI.out HSI.out HG2.out⟩
end Go.Proofs.YtcjjoabofecjmaaGreat

namespace Go.Proofs.YtcjjoabofecjmaaGreat
open Go.RowKit
set_option maxRecDepth 4000 in
set_option maxHeartbeats 4000000 in
theorem rStart_any (p : Prg) (f : Int) (args : List Int) (scope : Int) (VP : Value) (A : Option Addr) (n c : Nat) (w : World) (hP : RPrg w p VP) (hA : RSl 1 RInt w A n args) (hf : InR f) (hs : InR scope) :
    Calls Tryz.prog 22 #[VP, Value.int .i64 f, .slice A n c, Value.int .i64 scope] w fun e w' => ∃ V', e = .returned (.tuple #[V', Value.int .i64 (startS p f args scope).2]) ∧ RTsk w' (startS p f args scope).1 V' ∧ Ext w w' := by
  have HC := Lib.hid (fun W h => rCheck_any p VP W (hP.mono h))
  have HPP := Lib.hid hP
  obtain ⟨Af, nf, cf, Ao, no, co, Av, nv, cv, rfl, hF, hO, hVr, hcf, hco, hcv⟩ := hP
  clear hO hVr hcf hco hcv
  have hle := hF.le
  have hnl := hA.le
  have HL := Lib.hid hF.len
  have HN := Lib.hid hA.len
  have HA := Lib.hid hA
  have HFI := Lib.hid hf
  have HSI := Lib.hid hs
  have HF := Lib.hid hF
  clear hF hA hf hs
  by_cases hc : checkS p = 0
  rotate_left
  · have HR : Hid (startS p f args scope = (zeroTsk, 1)) := by unfold Hid startS; rw [if_pos hc]
    have hcb : (checkS p != 0) = true := by simpa using hc
    clear hc
    go_enter Tryz.func22, Tryz.ntmps22
    go_wp2_with (first | ((with_reducible show wpList _ _ _ ({ dst := _, op := Op.store 32 _ _, type := _, pos := _, after := _, guard := none } :: _) _ _); refine wpList_store_mid rfl 32 _ _ rfl _ _ _ rfl rfl (by exact tr) infoTsk (all_oneCell_toArray (by simp [Value.oneCell'])) ?_; (try dsimp only [Act.put])) | (go_at_call 49; refine (HC.out _ xt).mono ?_; rintro e w1 ⟨rfl, hb⟩; have T1 := there_ext (b := w.heap.size + 1) (o := 0) (n := 14) (by exact tr) hb; obtain ⟨hc, hf, hs, he⟩ := Ext.use (w := w) hb xt; clear hb; (try simp only [World.size_alloc] at hs)))
    refine ret_range2 (b := w.heap.size + 1) Tryz.results22 rfl rfl rfl rfl (World.rangeAt_setCells_same _ _ 0 _ (by exact tr)) ?_
    rw [HR.out]
    exact ⟨_, rfl, zero_reads _, xts⟩
  have HPO := Lib.hid (check_regs hc)
  have HC0 := Lib.hid hc
  rw [hc] at HC
  cases hfn : fnAt p f with
  | none =>
    have HR : Hid (startS p f args scope = (zeroTsk, 2)) := by unfold Hid startS; rw [if_neg (by simpa using hc), hfn]
    have h0 : ¬ f < 0 → (nf : Int) ≤ f := by rcases fnAt_none hfn with h | h <;> have := HL.out <;> omega
    clear hc hfn
    by_cases hf0 : f < 0
    · clear h0
      go_enter Tryz.func22, Tryz.ntmps22
      go_wp2_with (first | ((with_reducible show wpList _ _ _ ({ dst := _, op := Op.store 32 _ _, type := _, pos := _, after := _, guard := none } :: _) _ _); refine wpList_store_mid rfl 32 _ _ rfl _ _ _ rfl rfl (by exact tr) infoTsk (all_oneCell_toArray (by simp [Value.oneCell'])) ?_; (try dsimp only [Act.put])) | (go_at_call 49; refine (HC.out _ xt).mono ?_; rintro e w1 ⟨rfl, hb⟩; have T1 := there_ext (b := w.heap.size + 1) (o := 0) (n := 14) (by exact tr) hb; obtain ⟨hc, hf, hs, he⟩ := Ext.use (w := w) hb xt; clear hb; (try simp only [World.size_alloc] at hs)))
      refine ret_range2 (b := w.heap.size + 1) Tryz.results22 rfl rfl rfl rfl (World.rangeAt_setCells_same _ _ 0 _ (by exact tr)) ?_
      rw [HR.out]
      exact ⟨_, rfl, zero_reads _, xts⟩
    · have h1 := h0 hf0
      clear h0
      go_enter Tryz.func22, Tryz.ntmps22
      go_wp2_with (first | ((with_reducible show wpList _ _ _ ({ dst := _, op := Op.store 32 _ _, type := _, pos := _, after := _, guard := none } :: _) _ _); refine wpList_store_mid rfl 32 _ _ rfl _ _ _ rfl rfl (by exact tr) infoTsk (all_oneCell_toArray (by simp [Value.oneCell'])) ?_; (try dsimp only [Act.put])) | (go_at_call 49; refine (HC.out _ xt).mono ?_; rintro e w1 ⟨rfl, hb⟩; have T1 := there_ext (b := w.heap.size + 1) (o := 0) (n := 14) (by exact tr) hb; obtain ⟨hc, hf, hs, he⟩ := Ext.use (w := w) hb xt; clear hb; (try simp only [World.size_alloc] at hs)))
      refine ret_range2 (b := w.heap.size + 1) Tryz.results22 rfl rfl rfl rfl (World.rangeAt_setCells_same _ _ 0 _ (by exact tr)) ?_
      rw [HR.out]
      exact ⟨_, rfl, zero_reads _, xts⟩
  | some g =>
  obtain ⟨h0, h1, h2⟩ := fnAt_some hfn
  have hfn' := hfn
  have HR : Hid (startS p f args scope = if g.cleanup = true then (zeroTsk, 16) else if (n : Int) ≠ g.params then (zeroTsk, 10) else if args.all numB = false ∨ scope < 0 ∨ 32 ≤ scope then (zeroTsk, 2) else (firstTsk f g args scope, 0)) := by
    unfold Hid startS; rw [if_neg (by simpa using hc), hfn, HN.out]
  obtain ⟨b, off, Ac, nc, cc, rfl, hlb, hsz, i1, i2, i3, ⟨hCd, hcc⟩, c0, c1, c2, c3, c4, c5⟩ := HF.out.fnc h2
  have hlt : f < (nf : Int) := by have := HL.out; omega
  have hf0 : ¬ f < 0 := by omega
  have hf1 : ¬ (nf : Int) ≤ f := by omega
  have hrg := HPO.out g (List.mem_of_getElem? h2)
  have HG2 := Lib.hid i3
  have HG0 := Lib.hid h2
  clear hc hfn h1 h2 i1 i2 i3 hCd
  have HO : Hid (∀ W, Ext w W → Calls Tryz.prog 61 #[.slice A n c] W fun e w' => e = .returned (.bool (args.all numB)) ∧ Ext W w') := fun W hW => rnumbers_any A n c args W (HA.out.mono RInt.stays hW)
  obtain ⟨q, hq⟩ : ∃ q, args.all numB = q := ⟨_, rfl⟩
  rw [hq] at HR HO
  have HQA := Lib.hid hq
  have HFN := Lib.hid hfn'
  clear hq
  cases hcl : g.cleanup with
  | true =>
    rw [hcl] at c4
    have HR : Hid (startS p f args scope = (zeroTsk, 16)) := by rw [Hid, HR.out, if_pos hcl]
    clear hcl
    go_enter Tryz.func22, Tryz.ntmps22
    go_wp2_with (first | ((with_reducible show wpList _ _ _ ({ dst := _, op := Op.store 32 _ _, type := _, pos := _, after := _, guard := none } :: _) _ _); refine wpList_store_mid rfl 32 _ _ rfl _ _ _ rfl rfl (by exact tr) infoTsk (all_oneCell_toArray (by simp [Value.oneCell'])) ?_; (try dsimp only [Act.put])) | (go_at_call 49; refine (HC.out _ xt).mono ?_; rintro e w1 ⟨rfl, hb⟩; have T1 := there_ext (b := w.heap.size + 1) (o := 0) (n := 14) (by exact tr) hb; obtain ⟨hc, hf, hs, he⟩ := Ext.use (w := w) hb xt; clear hb; (try simp only [World.size_alloc] at hs)))
    refine ret_range2 (b := w.heap.size + 1) Tryz.results22 rfl rfl rfl rfl (World.rangeAt_setCells_same _ _ 0 _ (by exact tr)) ?_
    rw [HR.out]
    exact ⟨_, rfl, zero_reads _, xts⟩
  | false =>
  rw [hcl] at c4
  by_cases hpm : (n : Int) = g.params
  rotate_left
  · have e0 : ((n : Int) != g.params) = true := by simpa using hpm
    have HR : Hid (startS p f args scope = (zeroTsk, 10)) := by rw [Hid, HR.out, if_neg (by rw [hcl]; decide), if_pos hpm]
    clear hcl hpm
    go_enter Tryz.func22, Tryz.ntmps22
    go_wp2_with (first | ((with_reducible show wpList _ _ _ ({ dst := _, op := Op.store 32 _ _, type := _, pos := _, after := _, guard := none } :: _) _ _); refine wpList_store_mid rfl 32 _ _ rfl _ _ _ rfl rfl (by exact tr) infoTsk (all_oneCell_toArray (by simp [Value.oneCell'])) ?_; (try dsimp only [Act.put])) | (go_at_call 49; refine (HC.out _ xt).mono ?_; rintro e w1 ⟨rfl, hb⟩; have T1 := there_ext (b := w.heap.size + 1) (o := 0) (n := 14) (by exact tr) hb; obtain ⟨hc, hf, hs, he⟩ := Ext.use (w := w) hb xt; clear hb; (try simp only [World.size_alloc] at hs)))
    refine ret_range2 (b := w.heap.size + 1) Tryz.results22 rfl rfl rfl rfl (World.rangeAt_setCells_same _ _ 0 _ (by exact tr)) ?_
    rw [HR.out]
    exact ⟨_, rfl, zero_reads _, xts⟩
  have e0 : ((n : Int) != g.params) = false := by simpa using hpm
  have HR : Hid (startS p f args scope = if q = false ∨ scope < 0 ∨ 32 ≤ scope then (zeroTsk, 2) else (firstTsk f g args scope, 0)) := by
    rw [Hid, HR.out, if_neg (by rw [hcl]; decide), if_neg (by simpa using hpm)]
  by_cases hbad : q = false ∨ scope < 0 ∨ 32 ≤ scope
  · have HR : Hid (startS p f args scope = (zeroTsk, 2)) := by rw [Hid, HR.out, if_pos hbad]
    clear hcl hpm
    have hb3 : q = true → ¬ scope < 0 → (32 : Int) ≤ scope := by
      rintro rfl h
      rcases hbad with h' | h' | h'
      · cases h'
      · exact absurd h' h
      · exact h'
    clear hbad
    go_enter Tryz.func22, Tryz.ntmps22
    go_wp2_with (first | ((with_reducible show wpList _ _ _ ({ dst := _, op := Op.store 32 _ _, type := _, pos := _, after := _, guard := none } :: _) _ _); refine wpList_store_mid rfl 32 _ _ rfl _ _ _ rfl rfl (by exact tr) infoTsk (all_oneCell_toArray (by simp [Value.oneCell'])) ?_; (try dsimp only [Act.put])) | (go_at_call 49; refine (HC.out _ xt).mono ?_; rintro e w1 ⟨rfl, hb⟩; have T1 := there_ext (b := w.heap.size + 1) (o := 0) (n := 14) (by exact tr) hb; obtain ⟨hc, hf, hs, he⟩ := Ext.use (w := w) hb xt; clear hb; (try simp only [World.size_alloc] at hs)) | (go_at_call 61; refine (HO.out _ xt).mono ?_; rintro e w2 ⟨rfl, hb⟩; have T2 := there_ext T1 hb; obtain ⟨hc2, hf2, hs2, he2⟩ := Ext.use (w := w) hb xt; clear hb))
    all_goals first
      | (refine ret_range2 (b := w.heap.size + 1) Tryz.results22 rfl rfl rfl rfl (World.rangeAt_setCells_same _ _ 0 _ (by exact tr)) ?_; rw [HR.out]; exact ⟨_, rfl, zero_reads _, xts⟩)
      | (exfalso; simp_all; omega)
  · have HR9 : Hid (startS p f args scope = (firstTsk f g args scope, 0)) := by rw [Hid, HR.out, if_neg hbad]
    have hq1 : q = true := by cases q with | true => rfl | false => exact absurd (.inl rfl) hbad
    have hs0 : ¬ scope < 0 := fun h => hbad (.inr (.inl h))
    have hs1 : ¬ (32 : Int) ≤ scope := fun h => hbad (.inr (.inr h))
    subst hq1
    obtain ⟨k, rfl⟩ : ∃ k : Nat, f = (k : Int) := ⟨f.toNat, by omega⟩
    rw [HR9.out]
    exact rStart_ok p k g args scope _ A n c w HPP.out HA.out HFI.out HSI.out HC0.out HFN.out hcl hpm HQA.out hs0 hs1
end Go.Proofs.YtcjjoabofecjmaaGreat

namespace Go.Proofs.YtcjjoabofecjmaaGreat
open Go.RowKit
attribute [local go_sem] Oper.semAt_some
theorem extTsk (a b : Tsk) : a = b ↔ a.fn = b.fn ∧ a.scope = b.scope ∧ a.prio = b.prio ∧ a.status = b.status ∧ (a.wkind = b.wkind ∧ a.windex = b.windex ∧ a.wagain = b.wagain) ∧ a.mask = b.mask ∧ a.unw = b.unw ∧ a.level = b.level ∧ a.reason = b.reason ∧ a.result = b.result ∧ a.frames = b.frames ∧ a.blocks = b.blocks := by
  constructor
  · rintro rfl; simp
  · rintro ⟨h1, h2, h3, h4, ⟨h5, h6, h7⟩, h8, h9, h10, h11, h12, h13, h14⟩
    cases a; cases b; simp_all
set_option maxHeartbeats 4000000 in
theorem Same_any (s t : Tsk) (V U : Value) (w : World) (hV : RTsk w s V) (hU : RTsk w t U) :
    Calls Tryz.prog 23 #[V, U] w fun e w' => e = .returned (.bool (decide (s = t))) ∧ Ext w w' := by
  obtain ⟨Af, nf, cf, Ab, nb, cb, rfl, _, _, _, _, _, _, _, _, _, _, hF, hB, _⟩ := hV
  obtain ⟨Bf, mf, df, Bb, mb, db, rfl, _, _, _, _, _, _, _, _, _, _, hF2, hB2, _⟩ := hU
  obtain ⟨qf, hqf⟩ : ∃ q, decide (s.frames = t.frames) = q := ⟨_, rfl⟩
  obtain ⟨qb, hqb⟩ : ∃ q, decide (s.blocks = t.blocks) = q := ⟨_, rfl⟩
  have HF : ∀ W, Ext w W → Calls Tryz.prog 63 #[.slice Af nf cf, .slice Bf mf df] W fun e w' => e = .returned (.bool qf) ∧ Ext W w' := fun W hW => by rw [← hqf]; exact SameFrm_any Af Bf nf mf cf df _ _ W (hF.mono RFrm.stays hW) (hF2.mono RFrm.stays hW)
  have HB : ∀ W, Ext w W → Calls Tryz.prog 64 #[.slice Ab nb cb, .slice Bb mb db] W fun e w' => e = .returned (.bool qb) ∧ Ext W w' := fun W hW => by rw [← hqb]; exact SameBlk_any Ab Bb nb mb cb db _ _ W (hB.mono RBlk.stays hW) (hB2.mono RBlk.stays hW)
  have HD : Hid (decide (s = t) = (decide (s.fn = t.fn) && decide (s.scope = t.scope) && decide (s.prio = t.prio) && decide (s.status = t.status) && (decide (s.wkind = t.wkind) && decide (s.windex = t.windex) && decide (s.wagain = t.wagain)) && decide (s.mask = t.mask) && decide (s.unw = t.unw) && decide (s.level = t.level) && decide (s.reason = t.reason) && decide (s.result = t.result) && qf && qb)) := by
    unfold Hid
    rw [← hqf, ← hqb]
    rw [Bool.eq_iff_iff]
    simp only [decide_eq_true_eq, Bool.and_eq_true, extTsk]
    constructor <;> (intro h; simp_all)
  clear hqf hqb hF hF2 hB hB2
  go_enter Tryz.func23, Tryz.ntmps23
  go_wp2_with (first | (go_at_call 63; refine (HF _ xt).mono ?_; rintro e w1 ⟨rfl, hb⟩; obtain ⟨hc, hf, hs, he⟩ := Ext.use (w := w) hb xt; clear hb; (try simp only [sA, sC, sD, sN] at hs)) | (go_at_call 64; refine (HB _ xt).mono ?_; rintro e w1 ⟨rfl, hb⟩; obtain ⟨hc, hf, hs, he⟩ := Ext.use (w := w) hb xt; clear hb; (try simp only [sA, sC, sD, sN] at hs)))
  all_goals (go_ret; exact ⟨ret_bool (by have g := HD.out; clear HD HF HB; rw [g]; clear g; simp_all), xt⟩)
end Go.Proofs.YtcjjoabofecjmaaGreat

namespace Go.Proofs.YtcjjoabofecjmaaGreat
open Go.RowKit Go.Sort
set_option maxRecDepth 8000 in
set_option maxHeartbeats 8000000 in
theorem lawStart_any (p : Prg) (f : Int) (args : List Int) (scope : Int) (VP : Value) (A : Option Addr) (n c : Nat) (w : World) (hP : RPrg w p VP) (hA : RSl 1 RInt w A n args) (hf : InR f) (hs : InR scope) :
    Calls Tryz.prog 4 #[VP, Value.int .i64 f, .slice A n c, Value.int .i64 scope] w fun e w' => e = .returned (.bool true) ∧ Ext w w' := by
  have HG := Lib.hid (fun W (h : Ext w W) => refGreatP_any p VP W (hP.mono h))
  have HX := Lib.hid (fun W (h : Ext w W) => Start_any p f args scope VP A n c W (hP.mono h) (hA.mono RInt.stays h) hf hs)
  have HY := Lib.hid (fun W (h : Ext w W) => rStart_any p f args scope VP A n c W (hP.mono h) (hA.mono RInt.stays h) hf hs)
  obtain ⟨Af, nf, cf, Ao, no, co, Av, nv, cv, rfl, _⟩ := hP
  obtain ⟨⟨t, er⟩, hr⟩ : ∃ r, startS p f args scope = r := ⟨_, rfl⟩
  rw [hr] at HX HY
  clear hr
  dsimp only at HX HY
  have hnl := hA.le
  clear hA hf hs
  cases hg : greatP p with
  | true =>
    rw [hg] at HG
    clear hg HX HY
    go_enter Tryz.func4, Tryz.ntmps4
    go_wp2_with (first | ((first | ((with_reducible show Code.wp _ (Code.region _ (List.toArray ({ dst := _, op := Op.load 26 _, type := _, pos := _, after := _, guard := none } :: _)) false) _ _ _); refine wp_region_lit ?_) | (with_reducible show wpList _ _ _ ({ dst := _, op := Op.load 26 _, type := _, pos := _, after := _, guard := none } :: _) _ _)); refine wpList_load_mid rfl 26 _ rfl _ _ rfl _ _ (by exact rg) Tryz.underlying26 rfl (by exact infoPrg) ?_; dsimp only [dZ, dS]) | (go_at_call 20; refine (HG.out _ xt).mono ?_; rintro e w1 ⟨rfl, hb⟩; obtain ⟨hc, hf, hs, he⟩ := Ext.use (w := w) hb xt; clear hb; (try simp only [sA, sC, sD, sN] at hs)) | (go_at_call 14; refine (awake_any _).mono ?_; rintro e w2 ⟨rfl, hb2⟩; have he2 := Ext.trans he hb2; clear hb2))
    go_ret
    exact ⟨rfl, he2⟩
  | false =>
    rw [hg] at HG
    clear hg
    by_cases hn : (12 : Int) < (n : Int)
    · clear HX HY
      go_enter Tryz.func4, Tryz.ntmps4
      go_wp2_with (first | ((first | ((with_reducible show Code.wp _ (Code.region _ (List.toArray ({ dst := _, op := Op.load 26 _, type := _, pos := _, after := _, guard := none } :: _)) false) _ _ _); refine wp_region_lit ?_) | (with_reducible show wpList _ _ _ ({ dst := _, op := Op.load 26 _, type := _, pos := _, after := _, guard := none } :: _) _ _)); refine wpList_load_mid rfl 26 _ rfl _ _ rfl _ _ (by exact rg) Tryz.underlying26 rfl (by exact infoPrg) ?_; dsimp only [dZ, dS]) | (go_at_call 20; refine (HG.out _ xt).mono ?_; rintro e w1 ⟨rfl, hb⟩; obtain ⟨hc, hf, hs, he⟩ := Ext.use (w := w) hb xt; clear hb; (try simp only [sA, sC, sD, sN] at hs)) | (go_at_call 14; refine (awake_any _).mono ?_; rintro e w2 ⟨rfl, hb2⟩; have he2 := Ext.trans he hb2; clear hb2))
      go_ret
      exact ⟨rfl, he2⟩
    · go_enter Tryz.func4, Tryz.ntmps4
      go_upto_region 4 with (first | ((first | ((with_reducible show Code.wp _ (Code.region _ (List.toArray ({ dst := _, op := Op.load 26 _, type := _, pos := _, after := _, guard := none } :: _)) false) _ _ _); refine wp_region_lit ?_) | (with_reducible show wpList _ _ _ ({ dst := _, op := Op.load 26 _, type := _, pos := _, after := _, guard := none } :: _) _ _)); refine wpList_load_mid rfl 26 _ rfl _ _ rfl _ _ (by exact rg) Tryz.underlying26 rfl (by exact infoPrg) ?_; dsimp only [dZ, dS]) | ((with_reducible show wpList _ _ _ ({ dst := _, op := Op.store 32 _ _, type := _, pos := _, after := _, guard := none } :: _) _ _); refine wpList_store_mid rfl 32 _ _ rfl _ _ (List.toArray (Cells14.l _)) rfl rfl (by refine Cells14.there _ ?_; exact tr) (Cells14.infoA _) (Cells14.oneA _) ?_; (try dsimp only [Act.put])) | (go_at_call 20; refine (HG.out _ xt).mono ?_; rintro e w1 ⟨rfl, hb⟩; have Q1 := range_ext (b := w.heap.size) (o := 0) (cs := [.slice Af nf cf, .slice Ao no co, .slice Av nv cv]) (by exact rg) hb; have HE1 : Hid (Ext w w1) := Ext.trans xt hb; clear hb) | (go_at_call 21; refine (HX.out _ HE1.out).mono ?_; rintro e w2 ⟨V2, rfl, hT2, hb2⟩; obtain ⟨c2, rfl⟩ := hT2.cells; have HT2 := Lib.hid hT2; have HB2 := Lib.hid hb2; clear hT2 hb2))
      refine wp_hid2 ?_
      intro W3 HW3
      have HF3 : Hid (Ext w1 W3) := by have h := HB2.out; have h2 := h.size; rw [Hid, HW3.out]; exact xts
      have HE3 : Hid (Ext w W3) := HE1.out.trans HF3.out
      have Q3 : W3.rangeAt w.heap.size 0 [.slice Af nf cf, .slice Ao no co, .slice Av nv cv] := range_ext Q1 HF3.out
      have S3 : W3.rangeAt w2.heap.size 0 c2.l := by rw [HW3.out]; exact c2.same (there_new rfl rfl)
      have HT3 : Hid (RTsk W3 t (.agg c2.l.toArray)) := HT2.out.mono (by rw [HW3.out]; exact xts)
      clear HW3 HT2 HB2
      go_upto_region 5 with (first | ((first | ((with_reducible show Code.wp _ (Code.region _ (List.toArray ({ dst := _, op := Op.load 26 _, type := _, pos := _, after := _, guard := none } :: _)) false) _ _ _); refine wp_region_lit ?_) | (with_reducible show wpList _ _ _ ({ dst := _, op := Op.load 26 _, type := _, pos := _, after := _, guard := none } :: _) _ _)); refine wpList_load_mid rfl 26 _ rfl _ _ rfl _ _ (by exact rg) Tryz.underlying26 rfl (by exact infoPrg) ?_; dsimp only [dZ, dS]) | ((with_reducible show wpList _ _ _ ({ dst := _, op := Op.store 32 _ _, type := _, pos := _, after := _, guard := none } :: _) _ _); refine wpList_store_mid rfl 32 _ _ rfl _ _ (List.toArray (Cells14.l _)) rfl rfl (by refine Cells14.there _ ?_; exact tr) (Cells14.infoA _) (Cells14.oneA _) ?_; (try dsimp only [Act.put])) | (go_at_call 22; refine (HY.out _ HE3.out).mono ?_; rintro e w4 ⟨V4, rfl, hT4, hb4⟩; obtain ⟨c4, rfl⟩ := hT4.cells; have HT4 := Lib.hid hT4; have HB4 := Lib.hid hb4; clear hT4 hb4))
      refine wp_hid2 ?_
      intro W5 HW5
      have HF5 : Hid (Ext W3 W5) := by have h := HB4.out; have h2 := h.size; rw [Hid, HW5.out]; exact xts
      have HE5 : Hid (Ext w W5) := HE3.out.trans HF5.out
      have S5 : W5.rangeAt w2.heap.size 0 c2.l := range_ext S3 HF5.out
      have HT5 : Hid (RTsk W5 t (.agg c2.l.toArray)) := HT3.out.mono HF5.out
      have U5 : W5.rangeAt w4.heap.size 0 c4.l := by rw [HW5.out]; exact c4.same (there_new rfl rfl)
      have HU5 : Hid (RTsk W5 t (.agg c4.l.toArray)) := HT4.out.mono (by rw [HW5.out]; exact xts)
      have HSM : Hid (∀ W, Ext W5 W → Calls Tryz.prog 23 #[.agg c2.l.toArray, .agg c4.l.toArray] W fun e w' => e = .returned (.bool true) ∧ Ext W w') := fun W hW => by
        have := Same_any t t _ _ W (HT5.out.mono hW) (HU5.out.mono hW)
        rw [decide_eq_true rfl] at this
        exact this
      clear HW5 HT4 HB4
      go_wp2_with (first | ((first | ((with_reducible show Code.wp _ (Code.region _ (List.toArray ({ dst := _, op := Op.load 32 _, type := _, pos := _, after := _, guard := none } :: _)) false) _ _ _); refine wp_region_lit ?_) | (with_reducible show wpList _ _ _ ({ dst := _, op := Op.load 32 _, type := _, pos := _, after := _, guard := none } :: _) _ _)); refine wpList_load_mid rfl 32 _ rfl _ _ rfl _ _ (by exact rg) Tryz.underlying32 rfl (by exact Cells14.info _) ?_; dsimp only [dZ, dS]) | (go_at_call 23; refine (HSM.out _ (Ext.refl _)).mono ?_; rintro e w6 ⟨rfl, hb6⟩; have HE6 := Lib.hid (Ext.trans HE5.out hb6); clear hb6) | (go_at_call 14; refine (awake_any _).mono ?_; rintro e w9 ⟨rfl, hb9⟩; have HE9 := Lib.hid (Ext.trans HE6.out hb9); clear hb9))
      go_ret
      exact ⟨rfl, HE9.out⟩
end Go.Proofs.YtcjjoabofecjmaaGreat
