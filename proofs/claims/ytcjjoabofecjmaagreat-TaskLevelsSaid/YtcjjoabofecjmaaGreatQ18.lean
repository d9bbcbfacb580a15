/- A part of the proof: What Check asks of a living task, as a proposition in parts; and that it holds of what the functions of chapter 28 return; What Handle, Interrupt, Resume, Fail and Finish of chapter 28 return for a valid task is valid, in plain logic; What Resume, Finish and Advance of chapter 28 return for a valid task is valid, in plain logic; Levels; Pop of package task where the innermost block has no handlers and another is below it; Fail of package task. -/
import Derived.Test.YtcjjoabofecjmaaGreatQ17
import Derived.Test.YtcjjoabofecjmaaGreatQ04
import Derived.Test.YtcjjoabofecjmaaGreatQ08
set_option linter.unusedVariables false
set_option linter.unusedSimpArgs false
namespace Go.Proofs.YtcjjoabofecjmaaGreat
open Go.RowKit
structure FrsOk (p : Prg) (fn : Int) (fs : List Frm) : Prop where
  fr : ∀ (i : Nat) f, fs[i]? = some f → ∃ g, FrOk p f g
  cl : ∀ (i : Nat) f, fs[i]? = some f → f.cleanup = true → f.result = -1 ∧ i + 1 = fs.length
  fst : ∀ f, fs[0]? = some f → f.cleanup = false → f.fn = fn ∧ f.result = -1
  res : ∀ (i : Nat) f h, fs[i + 1]? = some f → fs[i]? = some h → f.cleanup = false → ∃ k, fnAt p h.fn = some k ∧ 0 ≤ f.result ∧ f.result ≤ k.regs - 1
theorem FrsOk.nil (p : Prg) (fn : Int) : FrsOk p fn [] := ⟨fun i f h => by simp at h, fun i f h => by simp at h, fun f h => by simp at h, fun i f _ h => by simp at h⟩
theorem frs_iff {p : Prg} {t : Tsk} : allB (frmB p t) t.frames.length 0 = true ↔ FrsOk p t.fn t.frames := by
  rw [allB_iff]
  constructor
  · intro h
    have h1 : ∀ (i : Nat) f, t.frames[i]? = some f → ∃ g, FrOk p f g ∧ (if f.cleanup = true then (f.result == -1) && (i + 1 == t.frames.length)
       else if i = 0 then (f.fn == t.fn) && (f.result == -1)
       else match t.frames[i - 1]? with
        | none => false
        | some h => match fnAt p h.fn with
          | none => false
          | some k => inB f.result 0 (k.regs - 1)) = true := fun i f hf => by
      have h2 := h i (Nat.zero_le _) (by have := (List.getElem?_eq_some_iff.1 hf).1; omega)
      unfold frmB at h2
      rw [hf] at h2
      dsimp only at h2
      cases hg : fnAt p f.fn with
      | none => rw [hg] at h2; cases h2
      | some g =>
        rw [hg] at h2
        dsimp only at h2
        rw [Bool.and_eq_true] at h2
        obtain ⟨h2, h3⟩ := h2
        simp only [Bool.and_eq_true, beq_iff_eq, inB_iff, List.all_eq_true] at h2
        exact ⟨g, ⟨hg, h2.1.1.1, h2.1.1.2, h2.1.2, h2.2⟩, h3⟩
    refine ⟨fun i f hf => ?_, fun i f hf hc => ?_, fun f hf hc => ?_, fun i f x hf hx hc => ?_⟩
    · obtain ⟨g, hg, _⟩ := h1 i f hf; exact ⟨g, hg⟩
    · obtain ⟨g, _, h3⟩ := h1 i f hf
      rw [if_pos hc] at h3
      simpa using h3
    · obtain ⟨g, _, h3⟩ := h1 0 f hf
      rw [if_neg (by rw [hc]; decide), if_pos rfl] at h3
      simpa using h3
    · obtain ⟨g, _, h3⟩ := h1 (i + 1) f hf
      rw [if_neg (by rw [hc]; decide), if_neg (by omega), Nat.add_sub_cancel, hx] at h3
      dsimp only at h3
      cases hk : fnAt p x.fn with
      | none => rw [hk] at h3; cases h3
      | some k => rw [hk] at h3; exact ⟨k, rfl, inB_iff.1 h3⟩
  · intro h i _ hi
    obtain ⟨f, hf⟩ : ∃ f, t.frames[i]? = some f := ⟨_, List.getElem?_eq_getElem (by omega)⟩
    obtain ⟨g, hg⟩ := h.fr i f hf
    unfold frmB
    rw [hf]
    dsimp only
    rw [hg.fn]
    dsimp only
    rw [Bool.and_eq_true]
    refine ⟨?_, ?_⟩
    · simp only [Bool.and_eq_true, beq_iff_eq, inB_iff, List.all_eq_true]
      exact ⟨⟨⟨hg.regs, hg.num⟩, hg.pc⟩, hg.cl⟩
    · cases hc : f.cleanup with
      | true =>
        rw [if_pos rfl]
        have := h.cl i f hf hc
        simpa using this
      | false =>
        rw [if_neg (by decide)]
        cases i with
        | zero =>
          rw [if_pos rfl]
          have := h.fst f hf hc
          simpa using this
        | succ i =>
          rw [if_neg (by omega), Nat.add_sub_cancel]
          obtain ⟨x, hx⟩ : ∃ x, t.frames[i]? = some x := ⟨_, List.getElem?_eq_getElem (by omega)⟩
          rw [hx]
          dsimp only
          obtain ⟨k, hk, hr⟩ := h.res i f x hf hx hc
          rw [hk]
          exact inB_iff.2 hr
theorem FrsOk.take {p : Prg} {fn : Int} {fs : List Frm} (h : FrsOk p fn fs) (n : Nat) : FrsOk p fn (fs.take n) := by
  have old : ∀ {i : Nat} {f : Frm}, (fs.take n)[i]? = some f → i < n ∧ fs[i]? = some f := fun {i f} hf => by
    rw [List.getElem?_take] at hf
    split at hf
    · exact ⟨by assumption, hf⟩
    · cases hf
  refine ⟨fun i f hf => h.fr i f (old hf).2, fun i f hf hc => ?_, fun f hf hc => h.fst f (old hf).2 hc, fun i f x hf hx hc => h.res i f x (old hf).2 (old hx).2 hc⟩
  obtain ⟨a, b⟩ := h.cl i f (old hf).2 hc
  refine ⟨a, ?_⟩
  have := (old hf).1
  rw [List.length_take]; omega
theorem FrsOk.put {p : Prg} {fn : Int} {fs : List Frm} (h : FrsOk p fn fs) {k : Nat} {f f' : Frm} {g : Fnc} (hf : fs[k]? = some f) (hs : skF f' = skF f) (hg : FrOk p f' g) : FrsOk p fn (fs.set k f') := by
  have hm := map_set_same (g := skF) hf hs
  have old : ∀ {i : Nat} {x : Frm}, (fs.set k f')[i]? = some x → ∃ y, fs[i]? = some y ∧ skF x = skF y := fun hx => sk_get hm hx
  have sk : ∀ {x y : Frm}, skF x = skF y → x.fn = y.fn ∧ x.result = y.result ∧ x.cleanup = y.cleanup := fun {x y} e => by
    unfold skF at e
    simp only [Prod.mk.injEq] at e
    exact ⟨e.1, e.2.1, e.2.2⟩
  refine ⟨fun i x hx => ?_, fun i x hx hc => ?_, fun x hx hc => ?_, fun i x y hx hy hc => ?_⟩
  · rw [List.getElem?_set] at hx
    split at hx
    · split at hx
      · injection hx with hx; subst hx; exact ⟨g, hg⟩
      · cases hx
    · exact h.fr i x hx
  · obtain ⟨y, hy, e⟩ := old hx
    obtain ⟨e1, e2, e3⟩ := sk e
    rw [List.length_set, e2]
    exact h.cl i y hy (by rw [← e3]; exact hc)
  · obtain ⟨y, hy, e⟩ := old hx
    obtain ⟨e1, e2, e3⟩ := sk e
    rw [e1, e2]
    exact h.fst y hy (by rw [← e3]; exact hc)
  · obtain ⟨x', hx', e⟩ := old hx
    obtain ⟨y', hy', e'⟩ := old hy
    obtain ⟨e1, e2, e3⟩ := sk e
    obtain ⟨a1, a2, a3⟩ := sk e'
    rw [e2, a1]
    exact h.res i x' y' hx' hy' (by rw [← e3]; exact hc)
theorem FrsOk.hand {p : Prg} {fn : Int} {fs : List Frm} (h : FrsOk p fn fs) (hn : ∀ f ∈ fs, f.cleanup = false) {f : Frm} {g : Fnc} (hg : FrOk p f g) (hc : f.cleanup = true) (hr : f.result = -1) : FrsOk p fn (fs ++ [f]) := by
  have cs : ∀ {i : Nat} {x : Frm}, (fs ++ [f])[i]? = some x → (i < fs.length ∧ fs[i]? = some x) ∨ (i = fs.length ∧ x = f) := fun {i x} hx => by
    rw [List.getElem?_append] at hx
    split at hx
    · exact .inl ⟨by assumption, hx⟩
    · rename_i h1
      cases hz : i - fs.length with
      | zero =>
        rw [hz] at hx
        simp only [List.getElem?_cons_zero, Option.some.injEq] at hx
        exact .inr ⟨by omega, hx.symm⟩
      | succ m => rw [hz] at hx; simp at hx
  refine ⟨fun i x hx => ?_, fun i x hx hcx => ?_, fun x hx hcx => ?_, fun i x y hx hy hcx => ?_⟩
  · rcases cs hx with ⟨_, h1⟩ | ⟨_, rfl⟩
    · exact h.fr i x h1
    · exact ⟨g, hg⟩
  · rcases cs hx with ⟨_, h1⟩ | ⟨h1, rfl⟩
    · have := hn x (List.mem_of_getElem? h1); rw [hcx] at this; cases this
    · exact ⟨hr, by rw [List.length_append]; simp; omega⟩
  · rcases cs hx with ⟨_, h1⟩ | ⟨_, rfl⟩
    · exact h.fst x h1 hcx
    · rw [hc] at hcx; cases hcx
  · rcases cs hx with ⟨h2, h1⟩ | ⟨_, rfl⟩
    · rcases cs hy with ⟨_, h3⟩ | ⟨h4, _⟩
      · exact h.res i x y h1 h3 hcx
      · omega
    · rw [hc] at hcx; cases hcx
structure Lv (p : Prg) (t : Tsk) : Prop where
  blks : blksB p t.blocks = true
  mask : leastI t ≤ t.mask ∧ t.mask ≤ mostI t
  plain : plainN t ≤ 8
  zero : plainN t = 0 → t.unw = true ∧ t.level = 0
  lvl : t.level ≠ 0 → t.unw = true ∧ 2 ≤ t.level ∧ t.level ≤ t.blocks.length
  unw : t.unw = true → (t.level = 0 → plainN t = 0) ∧ (0 < t.level → (plainN t : Int) = depthAt t (t.level - 1))
  fr : FrsOk p t.fn t.frames
  keep : ∀ i, 1 ≤ i → i < keepsN t → keepB p t i = true
theorem lv_iff {p : Prg} {t : Tsk} : livB p t = true ↔ Lv p t := by
  constructor
  · intro h
    unfold livB at h
    simp only [Bool.and_eq_true] at h
    obtain ⟨⟨⟨⟨⟨⟨⟨hb, hm⟩, hp⟩, h4⟩, h5⟩, h6⟩, hfr⟩, hk⟩ := h
    refine ⟨hb, inB_iff.1 hm, by simpa using hp, fun h0 => ?_, fun hl => ?_, fun hu => ⟨fun hl => ?_, fun hl => ?_⟩, frs_iff.1 hfr, fun i h1 h2 => ?_⟩
    · rw [h0] at h4
      simp at h4
      exact h4
    · cases hu : t.unw with
      | false => rw [hu] at h5; simp [hl] at h5
      | true =>
        rw [hu] at h5
        simp only [Bool.not_true, Bool.false_or, Bool.not_eq_true', Bool.and_eq_false_iff, bne_eq_false_iff_eq, Bool.not_eq_false'] at h5
        rcases h5 with h5 | h5
        · exact absurd h5 hl
        · rw [inB_iff] at h5; exact ⟨rfl, by omega, by omega⟩
    · rw [hu, hl] at h6
      simp at h6
      omega
    · rw [hu] at h6
      simp only [Bool.true_and, Bool.not_eq_true', Bool.or_eq_false_iff, Bool.and_eq_false_iff, decide_eq_false_iff_not, bne_eq_false_iff_eq] at h6
      rcases h6.2 with h7 | h7
      · exact absurd hl h7
      · exact h7
    · exact allB_iff.1 hk i h1 (by omega)
  · intro l
    unfold livB
    simp only [Bool.and_eq_true]
    refine ⟨⟨⟨⟨⟨⟨⟨l.blks, inB_iff.2 l.mask⟩, by simpa using l.plain⟩, ?_⟩, ?_⟩, ?_⟩, frs_iff.2 l.fr⟩, allB_iff.2 fun i h1 h2 => l.keep i h1 (by omega)⟩
    · simp only [Bool.not_eq_true', Bool.and_eq_false_iff, decide_eq_false_iff_not, Bool.or_eq_false_iff, Bool.not_eq_false', bne_eq_false_iff_eq]
      rcases Decidable.em (plainN t = 0) with h | h
      · exact .inr (l.zero h)
      · exact .inl h
    · simp only [Bool.not_eq_true', Bool.and_eq_false_iff, Bool.or_eq_false_iff, Bool.not_eq_false', bne_eq_false_iff_eq]
      rcases Decidable.em (t.level = 0) with h | h
      · exact .inl h
      · obtain ⟨a, b, c⟩ := l.lvl h
        exact .inr ⟨a, inB_iff.2 ⟨b, c⟩⟩
    · simp only [Bool.not_eq_true', Bool.and_eq_false_iff, Bool.or_eq_false_iff, decide_eq_false_iff_not, bne_eq_false_iff_eq, beq_eq_false_iff_ne]
      cases hu : t.unw with
      | false => exact .inl rfl
      | true =>
        obtain ⟨a, b⟩ := l.unw hu
        refine .inr ⟨?_, ?_⟩
        · rcases Decidable.em (t.level = 0) with h | h
          · exact .inr (by have := a h; omega)
          · exact .inl h
        · rcases Decidable.em (0 < t.level) with h | h
          · exact .inr (b h)
          · exact .inl h
theorem valid_lv {p : Prg} {t : Tsk} (h : tcheckS p t = 0) (hst : t.status ≠ 3) : Lv p t := lv_iff.1 (valid_parts h hst).2.2.2
theorem Lv.valid {p : Prg} {t : Tsk} (l : Lv p t) (hst : t.status ≠ 3) (hc : checkS p = 0) (hn : numsB p t = true) (hw : waitB p t = true) : tcheckS p t = 0 := valid_of hst hc hn hw (lv_iff.2 l)
theorem wait_ready {p : Prg} {t : Tsk} (h1 : t.status = 1) (h2 : t.wkind = 0) (h3 : t.windex = 0) (h4 : t.wagain = false) : waitB p t = true := by
  unfold waitB
  rw [if_pos (by omega), h2, h3, h4]; rfl
theorem nums_iff {p : Prg} {t : Tsk} : numsB p t = true ↔ ∃ f, fnAt p t.fn = some f ∧ f.cleanup = false ∧ t.prio = f.prio ∧ (0 ≤ t.scope ∧ t.scope ≤ 31) ∧ numB t.result = true ∧ ((0 ≤ t.reason ∧ t.reason ≤ 9) ∨ (100 ≤ t.reason ∧ t.reason ≤ 999)) ∧ 1 ≤ t.status ∧ t.status ≤ 3 := by
  unfold numsB
  cases hf : fnAt p t.fn with
  | none => simp
  | some f => simp [inB_iff, and_assoc]
theorem start_valid {p : Prg} {f : Int} {g : Fnc} {args : List Int} {scope : Int} (hc : checkS p = 0) (hg : fnAt p f = some g) (hcl : g.cleanup = false) (hal : (args.length : Int) = g.params) (hn : ∀ x ∈ args, numB x = true) (hs : 0 ≤ scope ∧ scope ≤ 31) : tcheckS p (firstTsk f g args scope) = 0 := by
  have hgo := fn_ok hc (fnAt_mem hg)
  have hp := hgo.par
  have hr := hgo.reg
  have hin : inHand (firstTsk f g args scope) = false := rfl
  have hpl : plainN (firstTsk f g args scope) = 1 := rfl
  have hfo : FrOk p ⟨f, 0, regsOf g.regs.toNat args, -1, false⟩ g := by
    refine ⟨hg, ?_, fun x hx => ?_, ⟨Int.le_refl _, by show (0 : Int) ≤ _; omega⟩, hcl.symm⟩
    · show ((regsOf _ _).length : Int) = _
      rw [regsOf_length (by omega)]; omega
    · rcases List.mem_append.1 hx with h | h
      · exact hn x h
      · rw [List.eq_of_mem_replicate h]; decide
  refine Lv.valid ⟨?_, ?_, by rw [hpl]; omega, fun h => by rw [hpl] at h; omega, fun h => absurd rfl h, fun h => (by cases h), ?_, fun i h1 h2 => ?_⟩ (by show (1 : Int) ≠ 3; decide) hc (nums_iff.2 ⟨g, hg, hcl, rfl, hs, (by decide : numB 0 = true), .inl (by decide : (0 : Int) ≤ 0 ∧ (0 : Int) ≤ 9), (by decide : (1 : Int) ≤ 1), (by decide : (1 : Int) ≤ 3)⟩) (wait_ready rfl rfl rfl rfl)
  · show blksB p [⟨-1, 0, 0, 0, []⟩] = true
    simp [blksB, inB, allB, blkB]
  · unfold leastI mostI
    rw [hin]
    exact ⟨Int.le_refl _, by show (0 : Int) ≤ 100; decide⟩
  · refine ⟨fun i x hx => ?_, fun i x hx hcx => ?_, fun x hx hcx => ?_, fun i x y hx hy hcx => ?_⟩
    · cases i with
      | zero => simp only [firstTsk, List.getElem?_cons_zero, Option.some.injEq] at hx; subst hx; exact ⟨g, hfo⟩
      | succ i => simp [firstTsk] at hx
    · cases i with
      | zero => simp only [firstTsk, List.getElem?_cons_zero, Option.some.injEq] at hx; subst hx; cases hcx
      | succ i => simp [firstTsk] at hx
    · simp only [firstTsk, List.getElem?_cons_zero, Option.some.injEq] at hx; subst hx; exact ⟨rfl, rfl⟩
    · simp [firstTsk] at hx
  · have : keepsN (firstTsk f g args scope) = 1 := rfl
    omega
end Go.Proofs.YtcjjoabofecjmaaGreat

namespace Go.Proofs.YtcjjoabofecjmaaGreat
open Go.RowKit
theorem no_hand {p : Prg} {t : Tsk} (l : Lv p t) (hi : inHand t = false) : ∀ f ∈ t.frames, f.cleanup = false := fun f hf => by
  obtain ⟨i, hk, rfl⟩ := List.getElem_of_mem hf
  cases hc : (t.frames[i]).cleanup with
  | false => rfl
  | true =>
    obtain ⟨_, h2⟩ := l.fr.cl i _ (List.getElem?_eq_getElem hk) hc
    have h3 : topF t = some t.frames[i] := by unfold topF; rw [show t.frames.length - 1 = i by omega]; exact List.getElem?_eq_getElem hk
    rw [inHand_top h3, hc] at hi
    cases hi
theorem hand_of {t : Tsk} (h : ∀ f ∈ t.frames, f.cleanup = false) : inHand t = false := by
  unfold inHand
  cases hl : t.frames.getLast? with
  | none => rfl
  | some f => exact h f (List.mem_of_getLast? hl)
theorem plain_of {t : Tsk} (h : inHand t = false) : plainN t = t.frames.length := by unfold plainN; rw [h]; rfl
theorem plain_hand {t : Tsk} (h : inHand t = true) : plainN t = t.frames.length - 1 := by unfold plainN; rw [h]; rfl
theorem handle_valid {p : Prg} {t : Tsk} (hv : tcheckS p t = 0) (hst : t.status = 1) (he : (handleS p t).2.2 = 0) : tcheckS p (handleS p t).1 = 0 := by
  obtain ⟨hc, hn, hw, _⟩ := valid_parts hv (by omega)
  have l := valid_lv hv (by omega)
  unfold handleS at he ⊢
  rw [if_neg (by rw [hv]; simp)] at he ⊢
  split
  · rename_i h; rw [if_pos h] at he; cases he
  rename_i hi
  rw [if_neg hi] at he
  have hi : inHand t = false := by
    cases h : inHand t with
    | false => rfl
    | true => exact absurd (.inr h) hi
  cases hb : lastB t with
  | none => rw [hb] at he; cases he
  | some b =>
    rw [hb] at he
    dsimp only at he ⊢
    cases hh : b.handlers[b.handlers.length - 1]? with
    | none => rw [hh] at he; cases he
    | some x =>
      rw [hh] at he
      dsimp only at he ⊢
      cases hg : fnAt p x.fn with
      | none => rw [hg] at he; cases he
      | some g =>
        dsimp only
        have hbl := blk_at l.blks (show t.blocks[t.blocks.length - 1]? = some b from hb)
        obtain ⟨g', hg', hcl, hal, har⟩ := hdl_ok (hbl.2.1 x (List.mem_of_getElem? hh))
        rw [hg] at hg'
        injection hg' with hg'
        subst hg'
        have hgo := fn_ok hc (fnAt_mem hg)
        have hp := hgo.par
        have hr := hgo.reg
        have hfo : FrOk p ⟨x.fn, 0, regsOf g.regs.toNat x.args, -1, true⟩ g := by
          refine ⟨hg, ?_, fun z hz => ?_, ⟨Int.le_refl _, by show (0 : Int) ≤ _; omega⟩, hcl.symm⟩
          · show ((regsOf _ _).length : Int) = _
            rw [regsOf_length (by omega)]; omega
          · rcases List.mem_append.1 hz with h | h
            · exact har z h
            · rw [List.eq_of_mem_replicate h]; decide
        have hin : inHand (handleT t b x g) = true := by
          show inHand _ = Frm.cleanup ⟨x.fn, 0, regsOf g.regs.toNat x.args, -1, true⟩
          exact inHand_snoc rfl
        have hpl : plainN (handleT t b x g) = plainN t := by
          rw [plain_hand hin, plain_of hi]
          show (t.frames ++ [_]).length - 1 = _
          simp
        have hB : (handleT t b x g).blocks.map skB = t.blocks.map skB := map_set_same (show t.blocks[t.blocks.length - 1]? = some b from hb) rfl
        have hbs : blksB p (handleT t b x g).blocks = true := blks_same l.blks hB fun b' hb' => by
          rcases List.mem_or_eq_of_mem_set hb' with h | rfl
          · obtain ⟨i, hk, rfl⟩ := List.getElem_of_mem h
            have := blk_at l.blks (List.getElem?_eq_getElem hk)
            exact ⟨this.1, this.2.1⟩
          · refine ⟨by show (List.take _ _).length ≤ 8; rw [List.length_take]; have := hbl.1; omega, fun y hy => hbl.2.1 y (List.mem_of_mem_take hy)⟩
        have hlen : (handleT t b x g).blocks.length = t.blocks.length := List.length_set ..
        have hm := l.mask
        unfold leastI mostI at hm
        rw [hi] at hm
        rw [if_neg (by decide), if_neg (by decide)] at hm
        refine Lv.valid ⟨hbs, ?_, by rw [hpl]; exact l.plain, fun h => l.zero (by rw [← hpl]; exact h), fun h => ?_, fun h => ?_, l.fr.hand (no_hand l hi) hfo rfl rfl, fun i h1 h2 => ?_⟩ (by show t.status ≠ 3; omega) hc (by rw [← hn]; rfl) (by rw [← hw]; rfl)
        · unfold leastI mostI
          rw [hin, if_pos rfl, if_pos rfl]
          show 1 ≤ t.mask + 1 ∧ t.mask + 1 ≤ 101
          omega
        · rw [hlen]; exact l.lvl h
        · rw [hpl, depthAt_sk hB]; exact l.unw h
        · have h2' : i < keepsN t := by unfold keepsN at h2 ⊢; rw [hlen] at h2; exact h2
          have hk := l.keep i h1 h2'
          rw [keepB_iff] at hk ⊢
          obtain ⟨b1, f1, g1, x1, e1, e2, e3, e4⟩ := hk
          obtain ⟨b2, e5, e6⟩ := sk_get hB.symm e1
          unfold skB at e6
          simp only [Prod.mk.injEq] at e6
          refine ⟨b2, f1, g1, x1, e5, by rw [hpl, ← e6.2.1]; exact e2, ?_, ?_⟩
          · rw [← e6.2.1]
            show (t.frames ++ [_])[_]? = _
            rw [List.getElem?_append, if_pos (List.getElem?_eq_some_iff.1 e3).1]
            exact e3
          · rw [← e6.2.2.1]; exact e4
theorem keep_take {p : Prg} {t u : Tsk} {i d : Nat} (h : keepB p t i = true) (hB : u.blocks = t.blocks) (hF : u.frames = t.frames.take d) (hp : plainN u = d) (hd : ∀ b, t.blocks[i]? = some b → 1 ≤ b.depth ∧ b.depth ≤ (d : Int)) : keepB p u i = true := by
  rw [keepB_iff] at h ⊢
  obtain ⟨b, f, g, x, e1, e2, e3, e4⟩ := h
  obtain ⟨d1, d2⟩ := hd b e1
  refine ⟨b, f, g, x, by rw [hB]; exact e1, by rw [hp]; exact d2, ?_, e4⟩
  rw [hF, List.getElem?_take, if_pos (by omega)]
  exact e3
theorem bottom_lv {p : Prg} {t u : Tsk} (hb : blksB p t.blocks = true) (hB : u.blocks = t.blocks) (hF : u.frames = []) (hm : u.mask = 0) (hu : u.unw = true) (hl : u.level = 0) : Lv p u := by
  have hin : inHand u = false := inHand_nil hF
  have hpl : plainN u = 0 := by rw [plain_of hin, hF]; rfl
  refine ⟨by rw [hB]; exact hb, ?_, by rw [hpl]; omega, fun _ => ⟨hu, hl⟩, fun h => absurd hl h, fun _ => ⟨fun _ => hpl, fun h => by omega⟩, by rw [hF]; exact FrsOk.nil .., fun i h1 h2 => ?_⟩
  · unfold leastI mostI
    rw [hin, hm]; decide
  · unfold keepsN at h2
    rw [if_pos hu, hl] at h2
    simp at h2
def okReason (r : Int) : Prop := (0 ≤ r ∧ r ≤ 9) ∨ (100 ≤ r ∧ r ≤ 999)
def readyT (t : Tsk) : Tsk := { t with status := 1, wkind := 0, windex := 0, wagain := false }
theorem ready_nums {p : Prg} {t : Tsk} (h : numsB p t = true) : numsB p (readyT t) = true := by
  rw [nums_iff] at h ⊢
  obtain ⟨f, h1, h2, h3, h4, h5, h6, _, _⟩ := h
  exact ⟨f, h1, h2, h3, h4, h5, h6, (by decide : (1 : Int) ≤ 1), (by decide : (1 : Int) ≤ 3)⟩
theorem ready_valid {p : Prg} {t : Tsk} (hv : tcheckS p t = 0) (hst : t.status ≠ 3) : tcheckS p (readyT t) = 0 := by
  obtain ⟨hc, hn, _, hl⟩ := valid_parts hv hst
  exact valid_of (by show (1 : Int) ≠ 3; decide) hc (ready_nums hn) (wait_ready rfl rfl rfl rfl) hl
theorem depth_le {p : Prg} {t : Tsk} (hb : blksB p t.blocks = true) {i j : Nat} {a b : Blk} (ha : t.blocks[i]? = some a) (hbj : t.blocks[j]? = some b) (hij : i ≤ j) : a.depth ≤ b.depth :=
  depth_mono hb ha (j - i) b (by rw [show i + (j - i) = j by omega]; exact hbj)
theorem interrupt_valid {p : Prg} {t : Tsk} (hv : tcheckS p t = 0) (hst : t.status = 1) (level reason : Int) (hr : okReason reason) (he : (interruptS t level reason).2 = 0) : tcheckS p (interruptS t level reason).1 = 0 := by
  obtain ⟨hc, hn, hw, _⟩ := valid_parts hv (by omega)
  have l := valid_lv hv (by omega)
  unfold interruptS at he ⊢
  split
  · rename_i h; rw [if_pos h] at he; cases he
  rename_i h0
  rw [if_neg h0] at he
  simp only [not_or] at h0
  obtain ⟨_, hbn, hu0, hi0⟩ := h0
  have hu : t.unw = false := by simpa using hu0
  have hi : inHand t = false := by simpa using hi0
  split
  · rename_i h; rw [if_pos h] at he; cases he
  rename_i h1
  rw [if_neg h1] at he
  split
  · rename_i h2
    refine Lv.valid (bottom_lv (t := t) l.blks rfl rfl rfl rfl rfl) (by show t.status ≠ 3; omega) hc ?_ (by rw [← hw]; rfl)
    rw [nums_iff] at hn ⊢
    obtain ⟨f, a1, a2, a3, a4, a5, a6, a7⟩ := hn
    exact ⟨f, a1, a2, a3, a4, (by decide : numB 0 = true), hr, a7⟩
  rename_i h2
  rw [if_neg h2] at he
  have hlv : 2 ≤ level ∧ level ≤ (t.blocks.length : Int) := by omega
  cases hb : t.blocks[(level - 1).toNat]? with
  | none => rw [hb] at he; cases he
  | some b =>
    dsimp only
    have hkn : keepsN t = t.blocks.length := by unfold keepsN; rw [hu]; rfl
    have hkp := l.keep (level - 1).toNat (by omega) (by rw [hkn]; omega)
    rw [keepB_iff] at hkp
    obtain ⟨b', f', g', x', e1, e2, e3, e4⟩ := hkp
    rw [hb] at e1
    injection e1 with e1
    subst e1
    have hbk := blk_at l.blks hb
    have hd1 : 1 ≤ b.depth ∧ b.depth ≤ 8 ∧ 0 ≤ b.mask ∧ b.mask ≤ 100 := by
      obtain ⟨a, ha, q⟩ := hbk.2.2.2 (by omega)
      omega
    rw [plain_of hi] at e2
    have hnh : ∀ f ∈ t.frames.take b.depth.toNat, f.cleanup = false := fun f hf => no_hand l hi f (List.mem_of_mem_take hf)
    have hin : inHand { t with unw := true, level := level, frames := t.frames.take b.depth.toNat, mask := b.mask } = false := hand_of hnh
    have hpl : plainN { t with unw := true, level := level, frames := t.frames.take b.depth.toNat, mask := b.mask } = b.depth.toNat := by
      rw [plain_of hin]
      show (List.take _ _).length = _
      rw [List.length_take]; omega
    refine Lv.valid ⟨l.blks, ?_, by rw [hpl]; omega, fun h => by rw [hpl] at h; omega, fun _ => ⟨rfl, hlv.1, hlv.2⟩, fun _ => ⟨fun h => by exfalso; have h : level = 0 := h; omega, fun _ => ?_⟩, l.fr.take _, fun i h3 h4 => ?_⟩ (by show t.status ≠ 3; omega) hc (by rw [← hn]; rfl) (by rw [← hw]; rfl)
    · unfold leastI mostI
      rw [hin, if_neg (by decide), if_neg (by decide)]
      exact ⟨hd1.2.2.1, hd1.2.2.2⟩
    · rw [hpl]
      unfold depthAt
      show _ = (match t.blocks[(level - 1).toNat]? with | some b => b.depth | none => 0)
      rw [hb]
      show ((b.depth.toNat : Nat) : Int) = b.depth
      omega
    · have h4 : i < level.toNat := by
        unfold keepsN at h4
        exact h4
      refine keep_take (d := b.depth.toNat) (l.keep i h3 (by rw [hkn]; omega)) rfl rfl hpl fun a ha => ?_
      have hak := blk_at l.blks ha
      obtain ⟨z, hz, q⟩ := hak.2.2.2 (by omega)
      have := depth_le l.blks ha hb (by omega)
      omega
theorem pop_valid {p : Prg} {t : Tsk} (hv : tcheckS p t = 0) (hst : t.status = 1) (hi : inHand t = true) : tcheckS p (popT t) = 0 := by
  obtain ⟨hc, hn, hw, _⟩ := valid_parts hv (by omega)
  have l := valid_lv hv (by omega)
  have hpos := inHand_pos hi
  have hnh : ∀ f ∈ t.frames.take (t.frames.length - 1), f.cleanup = false := fun f hf => by
    obtain ⟨i, hk, rfl⟩ := List.getElem_of_mem hf
    rw [List.length_take] at hk
    rw [List.getElem_take]
    cases hcl : (t.frames[i]'(by omega)).cleanup with
    | false => rfl
    | true =>
      obtain ⟨_, h2⟩ := l.fr.cl i _ (List.getElem?_eq_getElem (by omega)) hcl
      omega
  have hin : inHand (popT t) = false := hand_of hnh
  have hpl : plainN (popT t) = plainN t := by
    rw [plain_of hin, plain_hand hi]
    show (List.take _ _).length = _
    rw [List.length_take]; omega
  have hm := l.mask
  unfold leastI mostI at hm
  rw [hi, if_pos rfl, if_pos rfl] at hm
  have hwr : wr64 (t.mask - 1) = t.mask - 1 := by unfold wr64 wrap64; omega
  refine Lv.valid ⟨l.blks, ?_, by rw [hpl]; exact l.plain, fun h => l.zero (by rw [← hpl]; exact h), l.lvl, fun h => by rw [hpl]; exact l.unw h, l.fr.take _, fun i h1 h2 => ?_⟩ (by show t.status ≠ 3; omega) hc (by rw [← hn]; rfl) (by rw [← hw]; rfl)
  · unfold leastI mostI
    rw [hin, if_neg (by decide), if_neg (by decide)]
    show 0 ≤ wr64 _ ∧ wr64 _ ≤ 100
    rw [hwr]; omega
  · have hk := l.keep i h1 h2
    rw [keepB_iff] at hk ⊢
    obtain ⟨b1, f1, g1, x1, e1, e2, e3, e4⟩ := hk
    have hbk := blk_at l.blks e1
    obtain ⟨z, hz, q⟩ := hbk.2.2.2 (by omega)
    rw [plain_hand hi] at e2
    refine ⟨b1, f1, g1, x1, e1, by rw [hpl, plain_hand hi]; exact e2, ?_, e4⟩
    show (t.frames.take (t.frames.length - 1))[_]? = _
    rw [List.getElem?_take, if_pos (by omega)]
    exact e3
theorem fail_valid {p : Prg} {t : Tsk} (hv : tcheckS p t = 0) (hst : t.status = 1) (reason : Int) (hr : okReason reason) : tcheckS p (failS t reason) = 0 := by
  obtain ⟨hc, hn, hw, _⟩ := valid_parts hv (by omega)
  have l := valid_lv hv (by omega)
  unfold failS
  split
  · exact hv
  split
  · rename_i h
    obtain ⟨hi, _⟩ := h
    exact pop_valid hv hst hi
  · refine Lv.valid (bottom_lv (t := t) l.blks rfl rfl rfl rfl rfl) (by show t.status ≠ 3; omega) hc ?_ (by rw [← hw]; rfl)
    rw [nums_iff] at hn ⊢
    obtain ⟨f, a1, a2, a3, a4, a5, a6, a7⟩ := hn
    exact ⟨f, a1, a2, a3, a4, (by decide : numB 0 = true), hr, a7⟩
end Go.Proofs.YtcjjoabofecjmaaGreat

namespace Go.Proofs.YtcjjoabofecjmaaGreat
open Go.RowKit
theorem Lv.setTop {p : Prg} {t : Tsk} (l : Lv p t) {f f' : Frm} {g : Fnc} (hf : topF t = some f) (hs : skF f' = skF f) (hg : FrOk p f' g) : Lv p (setTop t f') := by
  have hF : (Go.Proofs.YtcjjoabofecjmaaGreat.setTop t f').frames.map skF = t.frames.map skF := map_set_same hf hs
  have hpl := plainN_sk (t' := Go.Proofs.YtcjjoabofecjmaaGreat.setTop t f') hF
  have hin := inHand_sk (t' := Go.Proofs.YtcjjoabofecjmaaGreat.setTop t f') hF
  refine ⟨l.blks, ?_, by rw [hpl]; exact l.plain, fun h => l.zero (by rw [← hpl]; exact h), l.lvl, fun h => by rw [hpl]; exact l.unw h, l.fr.put hf hs hg, fun i h1 h2 => keepB_mono (l.keep i h1 h2) rfl (fun b hb => ?_) fun b x hb hx => ?_⟩
  · have := l.mask
    unfold leastI mostI at this ⊢
    rw [hin]; exact this
  · rw [hpl]
    have h3 := l.keep i h1 h2
    rw [keepB_iff] at h3
    obtain ⟨b', _, _, _, e, e2, _⟩ := h3
    rw [hb] at e
    injection e with e
    subst e
    exact e2
  · obtain ⟨y, hy, e⟩ := sk_get hF.symm hx
    unfold skF at e
    simp only [Prod.mk.injEq] at e
    exact ⟨y, hy, e.1.symm⟩
theorem top_at {p : Prg} {t : Tsk} (l : Lv p t) (hp : t.frames.length ≠ 0) : ∃ f g, topF t = some f ∧ FrOk p f g := by
  obtain ⟨f, hf⟩ : ∃ f, topF t = some f := ⟨_, List.getElem?_eq_getElem (show t.frames.length - 1 < t.frames.length by omega)⟩
  obtain ⟨g, hg⟩ := l.fr.fr _ f hf
  exact ⟨f, g, hf, hg⟩
structure Resumed (p : Prg) (t : Tsk) (f : Frm) (b : Blk) (g : Fnc) (x : Ins) : Prop where
  hand : inHand t = false
  lvl : 2 ≤ t.level ∧ t.level = (t.blocks.length : Int)
  top : topF t = some f
  last : t.blocks[t.blocks.length - 1]? = some b
  dep : (t.frames.length : Int) = b.depth
  fr : FrOk p f g
  ex : 0 ≤ b.exit ∧ b.exit ≤ (g.code.length : Int) - 1
  ins : g.code[b.exit.toNat]? = some x ∧ x.op = 36
  eq : resumeS t = ({ t with unw := false, level := 0, frames := t.frames.set (t.frames.length - 1) { f with pc := b.exit } }, 0)
theorem resumed {p : Prg} {t : Tsk} (l : Lv p t) (he : (resumeS t).2 = 0) : ∃ f b g x, Resumed p t f b g x := by
  have hq : ¬ (t.unw = false ∨ t.level = 0 ∨ (t.blocks.length : Int) ≠ t.level ∨ t.frames.length = 0 ∨ inHand t = true) := fun h => by
    unfold resumeS at he
    rw [if_pos h] at he; cases he
  simp only [not_or] at hq
  obtain ⟨h1, h2, h3, h4, h5⟩ := hq
  have hu : t.unw = true := by simpa using h1
  have hi : inHand t = false := by simpa using h5
  have hL := l.lvl h2
  have hle : t.level = (t.blocks.length : Int) := by omega
  obtain ⟨f, g, hf, hg⟩ := top_at l h4
  obtain ⟨b, hb⟩ : ∃ b, t.blocks[t.blocks.length - 1]? = some b := ⟨_, List.getElem?_eq_getElem (by omega)⟩
  have hd := (l.unw hu).2 (by omega)
  rw [plain_of hi] at hd
  unfold depthAt at hd
  rw [show (t.level - 1).toNat = t.blocks.length - 1 by omega, hb] at hd
  dsimp only at hd
  have hk := l.keep (t.blocks.length - 1) (by omega) (by unfold keepsN; rw [if_pos hu]; omega)
  rw [keepB_iff] at hk
  obtain ⟨b', f', g', x, e1, e2, e3, e4, e5, e6, e7⟩ := hk
  rw [hb] at e1
  injection e1 with e1
  subst e1
  rw [show (b.depth - 1).toNat = t.frames.length - 1 by omega, show t.frames[t.frames.length - 1]? = some f from hf] at e3
  injection e3 with e3
  subst e3
  rw [hg.fn] at e4
  injection e4 with e4
  subst e4
  refine ⟨f, b, g, x, hi, ⟨hL.2.1, hle⟩, hf, hb, hd, hg, e5, ⟨e6, e7⟩, ?_⟩
  unfold resumeS
  rw [if_neg (by simp only [not_or]; exact ⟨h1, h2, h3, h4, h5⟩), show t.frames[t.frames.length - 1]? = some f from hf, hb]
theorem Resumed.pcOk {p : Prg} {t : Tsk} {f : Frm} {b : Blk} {g : Fnc} {x : Ins} (h : Resumed p t f b g x) : FrOk p { f with pc := b.exit } g := ⟨h.fr.fn, h.fr.regs, h.fr.num, ⟨h.ex.1, by show b.exit ≤ _; have := h.ex.2; omega⟩, h.fr.cl⟩
theorem resume_valid {p : Prg} {t : Tsk} (hv : tcheckS p t = 0) (hst : t.status = 1) (he : (resumeS t).2 = 0) : tcheckS p (resumeS t).1 = 0 := by
  obtain ⟨hc, hn, hw, _⟩ := valid_parts hv (by omega)
  have l := valid_lv hv (by omega)
  obtain ⟨f, b, g, x, R⟩ := resumed l he
  rw [R.eq]
  have l2 := l.setTop R.top (f' := { f with pc := b.exit }) rfl R.pcOk
  have hin : inHand (Go.Proofs.YtcjjoabofecjmaaGreat.setTop t { f with pc := b.exit }) = false := (inHand_sk (t' := Go.Proofs.YtcjjoabofecjmaaGreat.setTop t { f with pc := b.exit }) (map_set_same (g := skF) (y := { f with pc := b.exit }) R.top rfl)).trans R.hand
  have hpos : 1 ≤ t.frames.length := by
    have := (List.getElem?_eq_some_iff.1 (show t.frames[t.frames.length - 1]? = some f from R.top)).1; omega
  have hL := R.lvl
  have hpl : plainN (Go.Proofs.YtcjjoabofecjmaaGreat.setTop t { f with pc := b.exit }) = t.frames.length := by rw [plain_of hin]; exact List.length_set ..
  have hu : t.unw = true := (l.lvl (by omega)).1
  refine Lv.valid ⟨l2.blks, l2.mask, l2.plain, fun h => ?_, fun h => absurd rfl h, fun h => (by cases h), l2.fr, fun i h1 h2 => ?_⟩ (by show t.status ≠ 3; omega) hc (by rw [← hn]; rfl) (by rw [← hw]; rfl)
  · have h : plainN (Go.Proofs.YtcjjoabofecjmaaGreat.setTop t { f with pc := b.exit }) = 0 := h
    rw [hpl] at h; omega
  · have h2 : i < t.blocks.length := h2
    exact l2.keep i h1 (by unfold keepsN; rw [if_pos (show (Go.Proofs.YtcjjoabofecjmaaGreat.setTop t { f with pc := b.exit }).unw = true from hu)]; show i < t.level.toNat; omega)
def putE (regs : List Int) (e : Int × Int) : List Int := if 0 ≤ e.1 ∧ e.1 < (regs.length : Int) then regs.set e.1.toNat e.2 else regs
def finishS (t : Tsk) (ws : List (Int × Int)) : Tsk := match topF t with
  | none => t
  | some f => Go.Proofs.YtcjjoabofecjmaaGreat.setTop t { f with regs := ws.foldl putE f.regs, pc := wr64 (f.pc + 1) }
theorem finish_valid {p : Prg} {t : Tsk} {e : Int × Int} {x : Ins} (hv : tcheckS p t = 0) (hx : nowS p t = some x) (he : numB e.2 = true) : tcheckS p (finishS t [e]) = 0 := by
  have hl : t.frames.length ≠ 0 := fun h => by
    unfold nowS at hx
    rw [List.getElem?_eq_none (by omega)] at hx
    cases hx
  have hst : t.status ≠ 3 := fun h => by
    unfold tcheckS at hv
    split at hv
    · cases hv
    · (try rw [if_pos h] at hv)
      split at hv
      · rename_i h2; exact hl h2.1
      · cases hv
  obtain ⟨hc, hn, hw, _⟩ := valid_parts hv hst
  have l := valid_lv hv hst
  obtain ⟨f, g, hf, hg⟩ := top_at l hl
  have hnow := now_at hf hg
  rw [hx] at hnow
  have hlt := (List.getElem?_eq_some_iff.1 hnow.symm).1
  have hpc := hg.pc
  have hcl : g.code.length ≤ 200 := (fn_ok hc (fnAt_mem hg.fn)).len
  have hwr : wr64 (f.pc + 1) = f.pc + 1 := by unfold wr64 wrap64; omega
  unfold finishS
  rw [hf]
  dsimp only [List.foldl]
  refine (l.setTop hf (f' := { f with regs := putE f.regs e, pc := wr64 (f.pc + 1) }) rfl ⟨hg.fn, ?_, fun z hz => ?_, ?_, hg.cl⟩).valid hst hc (by rw [← hn]; rfl) (by rw [← hw]; rfl)
  · show ((putE f.regs e).length : Int) = _
    unfold putE
    split
    · rw [List.length_set]; exact hg.regs
    · exact hg.regs
  · have hz : z ∈ putE f.regs e := hz
    unfold putE at hz
    split at hz
    · rcases List.mem_or_eq_of_mem_set hz with h | rfl
      · exact hg.num z h
      · exact he
    · exact hg.num z hz
  · show 0 ≤ wr64 _ ∧ wr64 _ ≤ _
    rw [hwr]; omega
theorem advance_valid {p : Prg} {t : Tsk} (he : (advanceS p t).2.2 = 0) : tcheckS p (advanceS p t).1 = 0 := by
  unfold advanceS at he ⊢
  split
  · rename_i h; rw [if_pos h] at he; cases he
  rename_i hv
  rw [if_neg hv] at he
  have hv : tcheckS p t = 0 := Decidable.not_not.1 hv
  split
  · rename_i h; rw [if_pos h] at he; cases he
  rename_i hst
  have hst : t.status = 1 := Decidable.not_not.1 hst
  split
  · exact hv
  rename_i hu
  have l := valid_lv hv (by omega)
  have hl : t.frames.length ≠ 0 := fun h => by
    have hi := inHand_nil (List.eq_nil_of_length_eq_zero h)
    have := l.zero (by rw [plain_of hi]; exact h)
    exact hu ⟨this.1, hi⟩
  obtain ⟨u, hr, hlv, hs, _, h⟩ := (adv_stop hv hst hu hl).end'
  have hvu := adv_valid hv hst hs hr hlv
  have hsu : u.status = 1 := by rw [hs.status]; exact hst
  rcases h with ⟨h, _⟩ | ⟨h, _⟩
  · rw [h]; exact hvu
  · rcases h with ⟨v, h⟩ | ⟨q, _, h⟩ | ⟨h, hi⟩
    · rw [h]; exact hvu
    · rw [h]; exact hvu
    · rw [h]; exact pop_valid hvu hsu hi
end Go.Proofs.YtcjjoabofecjmaaGreat

namespace Go.Proofs.YtcjjoabofecjmaaGreat
open Go.RowKit
def cutH (b : Blk) : Blk := { b with handlers := [] }
def intT (t : Tsk) (level : Int) (b : Blk) : Tsk := { t with unw := true, level := level, frames := t.frames.take b.depth.toNat, mask := b.mask }
def lvT (t : Tsk) (level : Int) (b : Blk) (k : Nat) : Tsk := { intT t level b with blocks := (t.blocks.map cutH).take k }
def popS (t : Tsk) : Tsk × Int :=
  if t.blocks.length = 0 ∨ (t.blocks.length = 1 ∧ (t.unw = false ∨ t.level ≠ 0)) then (zeroTsk, 23)
  else match lastB t with
    | none => (zeroTsk, 23)
    | some b => if 0 < b.handlers.length then (zeroTsk, 17) else ({ t with blocks := t.blocks.take (t.blocks.length - 1) }, 0)
theorem cut_sk (l : List Blk) : (l.map cutH).map skB = l.map skB := by rw [List.map_map]; rfl
theorem take_blks {p : Prg} {bs : List Blk} (h : blksB p bs = true) {k : Nat} (h1 : 1 ≤ k) (h2 : k ≤ bs.length) : blksB p (bs.take k) = true := by
  have hl := blks_len h
  unfold blksB at h ⊢
  rw [Bool.and_eq_true] at h ⊢
  have hk : (bs.take k).length = k := by rw [List.length_take]; omega
  refine ⟨inB_iff.2 (by rw [hk]; omega), allB_iff.2 fun i _ hi => ?_⟩
  have h3 := allB_iff.1 h.2 i (Nat.zero_le _) (by omega)
  unfold blkB at h3 ⊢
  rw [List.getElem?_take, if_pos (by omega), List.getElem?_take, if_pos (by omega)]
  exact h3
theorem cut_blks {p : Prg} {bs : List Blk} (h : blksB p bs = true) : blksB p (bs.map cutH) = true :=
  blks_same h (cut_sk bs) fun b hb => by
    obtain ⟨a, _, rfl⟩ := List.mem_map.1 hb
    exact ⟨Nat.zero_le _, fun x hx => by cases hx⟩
structure LevOk (p : Prg) (t : Tsk) (level : Int) : Prop where
  hv : tcheckS p t = 0
  st : t.status = 1
  unw : t.unw = false
  hand : inHand t = false
  lvl : 2 ≤ level ∧ level ≤ (t.blocks.length : Int)
theorem LevOk.parts {p : Prg} {t : Tsk} {level : Int} (h : LevOk p t level) (r : Int) : ∃ b, t.blocks[(level - 1).toNat]? = some b ∧ interruptS t level r = (intT t level b, 0) ∧ 1 ≤ b.depth ∧ b.depth ≤ (t.frames.length : Int) := by
  have l := valid_lv h.hv (by rw [h.st]; decide)
  have hlv := h.lvl
  obtain ⟨b, hb⟩ : ∃ b, t.blocks[(level - 1).toNat]? = some b := ⟨_, List.getElem?_eq_getElem (by omega)⟩
  have hkn : keepsN t = t.blocks.length := by unfold keepsN; rw [h.unw]; rfl
  have hkp := l.keep (level - 1).toNat (by omega) (by rw [hkn]; omega)
  rw [keepB_iff] at hkp
  obtain ⟨b', f', g', x', e1, e2, _⟩ := hkp
  rw [hb] at e1
  injection e1 with e1
  subst e1
  rw [plain_of h.hand] at e2
  obtain ⟨a, _, _, q, _⟩ := (blk_at l.blks hb).2.2.2 (by omega)
  refine ⟨b, hb, ?_, by omega, e2⟩
  unfold interruptS
  rw [if_neg (by rw [h.st, h.unw, h.hand]; simp; intro h0; rw [h0] at hlv; simp at hlv; omega), if_neg (by omega), if_neg (by omega), hb]
  rfl
theorem LevOk.lv {p : Prg} {t : Tsk} {level : Int} (h : LevOk p t level) {b : Blk} (hb : t.blocks[(level - 1).toNat]? = some b) {k : Nat} (h1 : level.toNat ≤ k) (h2 : k ≤ t.blocks.length) : Lv p (lvT t level b k) ∧ tcheckS p (lvT t level b k) = 0 := by
  obtain ⟨b', hb', hi, hd1, hd2⟩ := h.parts 1
  rw [hb] at hb'
  injection hb' with hb'
  subst hb'
  have hv := interrupt_valid h.hv h.st level 1 (.inl ⟨by decide, by decide⟩) (by rw [hi])
  rw [hi] at hv
  have hlv := h.lvl
  have hst : (intT t level b).status = 1 := h.st
  obtain ⟨hc, hn, hw, _⟩ := valid_parts hv (by rw [hst]; decide)
  have l := valid_lv hv (by rw [hst]; decide)
  have hlen : (lvT t level b k).blocks.length = k := by show (List.take _ _).length = _; rw [List.length_take, List.length_map]; omega
  have hget : ∀ {i : Nat}, i < k → (lvT t level b k).blocks[i]? = (t.blocks[i]?).map cutH := fun {i} hik => by
    show (List.take _ _)[i]? = _
    rw [List.getElem?_take, if_pos hik, List.getElem?_map]
  have hdep : ∀ {j : Int}, j.toNat < k → depthAt (lvT t level b k) j = depthAt (intT t level b) j := fun {j} hj => by
    unfold depthAt
    rw [hget hj]
    show _ = (match t.blocks[j.toNat]? with | some b => b.depth | none => 0)
    cases t.blocks[j.toNat]? <;> rfl
  have L : Lv p (lvT t level b k) := by
    refine ⟨take_blks (cut_blks l.blks) (by omega) (by rw [List.length_map]; exact h2), l.mask, l.plain, l.zero, fun h => ?_, fun h => ⟨(l.unw h).1, fun h3 => ?_⟩, l.fr, fun i h3 h4 => ?_⟩
    · have := l.lvl h
      refine ⟨this.1, this.2.1, ?_⟩
      rw [hlen]
      show level ≤ _
      omega
    · rw [hdep (by show (level - 1).toNat < k; omega)]
      exact (l.unw h).2 h3
    · have h4 : i < level.toNat := h4
      have h5 := l.keep i h3 h4
      rw [keepB_iff] at h5 ⊢
      obtain ⟨b1, f1, g1, x1, e1, e2, e3, e4⟩ := h5
      refine ⟨cutH b1, f1, g1, x1, ?_, e2, e3, e4⟩
      rw [hget (by omega)]
      rw [show t.blocks[i]? = some b1 from e1]; rfl
  exact ⟨L, L.valid (by show t.status ≠ 3; rw [h.st]; decide) hc (by rw [← hn]; rfl) (by rw [← hw]; rfl)⟩
theorem LevOk.stuck {p : Prg} {t : Tsk} {level : Int} (_ : LevOk p t level) {b : Blk} {k : Nat} (h1 : level.toNat < k) (h2 : k ≤ t.blocks.length) : resumeS (lvT t level b k) = (zeroTsk, 17) := by
  have hlen : (lvT t level b k).blocks.length = k := by show (List.take _ _).length = _; rw [List.length_take, List.length_map]; omega
  unfold resumeS
  rw [if_pos]
  refine .inr (.inr (.inl ?_))
  rw [hlen]
  show (k : Int) ≠ level
  omega
theorem LevOk.pop {p : Prg} {t : Tsk} {level : Int} (h : LevOk p t level) {b : Blk} {k : Nat} (h1 : level.toNat < k) (h2 : k ≤ t.blocks.length) : popS (lvT t level b k) = (lvT t level b (k - 1), 0) := by
  have hlv := h.lvl
  have hlen : (lvT t level b k).blocks.length = k := by show (List.take _ _).length = _; rw [List.length_take, List.length_map]; omega
  unfold popS
  rw [if_neg (by rw [hlen]; omega)]
  obtain ⟨c, hc⟩ : ∃ c, t.blocks[k - 1]? = some c := ⟨_, List.getElem?_eq_getElem (by omega)⟩
  have hl : lastB (lvT t level b k) = some (cutH c) := by
    unfold lastB
    rw [hlen]
    show (List.take _ _)[_]? = _
    rw [List.getElem?_take, if_pos (by omega), List.getElem?_map, hc]; rfl
  rw [hl]
  dsimp only
  rw [if_neg (by show ¬ 0 < ([] : List Hdl).length; decide), hlen]
  unfold lvT
  dsimp only
  rw [List.take_take, Nat.min_eq_left (by omega)]
theorem LevOk.end {p : Prg} {t : Tsk} {level : Int} (h : LevOk p t level) {b : Blk} (hb : t.blocks[(level - 1).toNat]? = some b) : ∃ v f x, resumeS (lvT t level b level.toNat) = (v, 0) ∧ v.unw = false ∧ v.mask = b.mask ∧ (v.frames.length : Int) = b.depth ∧ tcheckS p v = 0 ∧ currentS p v = (x, true) ∧ x.op = 36 ∧
    v.frames = (t.frames.take b.depth.toNat).set (b.depth.toNat - 1) { f with pc := b.exit } ∧ t.frames[b.depth.toNat - 1]? = some f := by
  have hlv := h.lvl
  obtain ⟨b', hb', _, hd1, hd2⟩ := h.parts 1
  rw [hb] at hb'
  injection hb' with hb'
  subst hb'
  obtain ⟨L, hv⟩ := h.lv hb (Nat.le_refl _) (by omega)
  have hlen : (lvT t level b level.toNat).blocks.length = level.toNat := by show (List.take _ _).length = _; rw [List.length_take, List.length_map]; omega
  have hfl : (lvT t level b level.toNat).frames.length = b.depth.toNat := by show (List.take _ _).length = _; rw [List.length_take]; omega
  have l0 := valid_lv h.hv (by rw [h.st]; decide)
  have hin : inHand (lvT t level b level.toNat) = false := hand_of fun f hf => no_hand l0 h.hand f (List.mem_of_mem_take hf)
  have hblk : (lvT t level b level.toNat).blocks[(lvT t level b level.toNat).blocks.length - 1]? = some (cutH b) := by
    rw [hlen]
    show (List.take _ _)[_]? = _
    rw [List.getElem?_take, if_pos (by omega), List.getElem?_map, show level.toNat - 1 = (level - 1).toNat by omega, hb]; rfl
  obtain ⟨f0, hf0⟩ : ∃ f, (lvT t level b level.toNat).frames[(lvT t level b level.toNat).frames.length - 1]? = some f := ⟨_, List.getElem?_eq_getElem (by omega)⟩
  have he : (resumeS (lvT t level b level.toNat)).2 = 0 := by
    unfold resumeS
    rw [if_neg, hf0, hblk]
    simp only [not_or]
    refine ⟨by show ¬ (true : Bool) = false; decide, by show ¬ level = 0; omega, ?_, by omega, by rw [hin]; decide⟩
    rw [hlen]
    show ¬ ((level.toNat : Nat) : Int) ≠ level
    omega
  obtain ⟨f, bb, g, x, R⟩ := resumed L he
  have hrv := resume_valid hv (by show t.status = 1; exact h.st) he
  have hbb : bb = cutH b := by have := R.last; rw [hblk] at this; injection this with this; exact this.symm
  subst hbb
  rw [R.eq] at hrv
  have htop : t.frames[b.depth.toNat - 1]? = some f := by
    have h9 := R.top
    unfold topF at h9
    rw [hfl] at h9
    have h9 : (t.frames.take b.depth.toNat)[b.depth.toNat - 1]? = some f := h9
    rw [List.getElem?_take, if_pos (by omega)] at h9
    exact h9
  refine ⟨_, f, x, R.eq, rfl, rfl, ?_, hrv, ?_, R.ins.2, ?_, htop⟩
  · show ((List.length (List.set _ _ _) : Nat) : Int) = _
    rw [List.length_set, hfl]; omega
  · have hnz : (List.set (lvT t level b level.toNat).frames ((lvT t level b level.toNat).frames.length - 1) { f with pc := (cutH b).exit }).length ≠ 0 := by rw [List.length_set, hfl]; omega
    unfold currentS
    rw [if_neg (by simp only [not_or]; exact ⟨by rw [hrv]; decide, hnz⟩)]
    have hnow : nowS p { lvT t level b level.toNat with unw := false, level := 0, frames := (lvT t level b level.toNat).frames.set ((lvT t level b level.toNat).frames.length - 1) { f with pc := (cutH b).exit } } = some x := by
      rw [now_at (f := { f with pc := (cutH b).exit }) (g := g) ?_ R.pcOk]
      · exact R.ins.1
      · unfold topF
        show (List.set _ _ _)[(List.set _ _ _).length - 1]? = _
        rw [List.length_set, List.getElem?_set_self (by omega)]
    rw [hnow]
  · show List.set _ _ _ = _
    rw [hfl]; rfl
end Go.Proofs.YtcjjoabofecjmaaGreat

namespace Go.Proofs.YtcjjoabofecjmaaGreat
open Go.RowKit Go.Sort
set_option maxRecDepth 4000 in
set_option maxHeartbeats 4000000 in
theorem pop_ok (t : Tsk) (VF VB : Value) (b : Blk) (w : World) (hT : RTsk w t (.agg (tskL t VF VB).toArray)) (h2 : 2 ≤ t.blocks.length) (hn : t.blocks.length ≤ 1000) (hb : t.blocks[t.blocks.length - 1]? = some b) (hh : b.handlers = []) :
    Calls Tryz.prog 35 #[.agg (tskL t VF VB).toArray] w fun e w' => ∃ g c, e = .returned (.tuple #[.agg (tskL { t with blocks := t.blocks.take (t.blocks.length - 1) } VF (.slice (some ⟨g, 0, none⟩) (t.blocks.length - 1) c)).toArray, Value.int .i64 0]) ∧
      RTsk w' { t with blocks := t.blocks.take (t.blocks.length - 1) } (.agg (tskL { t with blocks := t.blocks.take (t.blocks.length - 1) } VF (.slice (some ⟨g, 0, none⟩) (t.blocks.length - 1) c)).toArray) ∧ w.heap.size ≤ g ∧ Ext w w' := by
  have HI := Lib.hid hT.inr
  obtain ⟨Af, nf, cf, Ab, nb, cb, e0, _, _, _, _, _, _, _, _, _, _, hF, hB, hcf, hcb⟩ := hT
  have e1 : VF = .slice Af nf cf := by
    have := congrArg (fun v => match v with | .agg a => a.toList[7]? | _ => none) e0
    simpa [tskL] using this
  have e2 : VB = .slice Ab nb cb := by
    have := congrArg (fun v => match v with | .agg a => a.toList[8]? | _ => none) e0
    simpa [tskL] using this
  subst e1 e2
  clear e0
  obtain rfl : nb = t.blocks.length := hB.len
  obtain ⟨bb, ob, Ah, nh, ch, rfl, hlb, _, _, _, _, ⟨hH, _⟩, _, _, _, _, d4⟩ := hB.blk hb
  obtain rfl : nh = 0 := by have := hH.len; rw [hh] at this; simpa using this
  obtain ⟨cs, hcs, hone, hre⟩ := (hB.take (show t.blocks.length - 1 ≤ t.blocks.length by omega)).cells (by omega) RBlk.stays RBlk.one
  have HCS := Lib.hid hcs
  have HON := Lib.hid hone
  have HRE := Lib.hid hre
  have HF := Lib.hid hF
  have hle : t.blocks.length ≤ 9223372036854775807 := by omega
  have hz0 : ((t.blocks.length : Int) == 0) = false := beq_eq_false_iff_ne.2 (by omega)
  have hz1 : ((t.blocks.length : Int) == 1) = false := beq_eq_false_iff_ne.2 (by omega)
  have hsB : IntKind.i64.wrap ((t.blocks.length : Int) - 1) = ((t.blocks.length - 1 : Nat) : Int) := by rw [IntWalk.i64_in _ (by omega)]; omega
  have hs1B : ((t.blocks.length - 1 : Nat) : Int) < (t.blocks.length : Int) := by omega
  have hs2B : (0 : Int) ≤ ((t.blocks.length - 1 : Nat) : Int) := by omega
  have hs3B : ((t.blocks.length - 1 : Nat) : Int) ≤ (cb : Int) := by omega
  clear hF hB hb hh hH hcs hone hre
  unfold tskL
  go_enter Tryz.func35, Tryz.ntmps35
  go_upto_region 7 with (first | ((first | ((with_reducible show Code.wp _ (Code.region _ (List.toArray ({ dst := _, op := Op.load 32 _, type := _, pos := _, after := _, guard := none } :: _)) false) _ _ _); refine wp_region_lit ?_) | (with_reducible show wpList _ _ _ ({ dst := _, op := Op.load 32 _, type := _, pos := _, after := _, guard := none } :: _) _ _)); refine wpList_load_mid rfl 32 _ rfl _ _ rfl _ _ (by exact rg) Tryz.underlying32 rfl (by exact infoTsk) ?_; dsimp only [dZ, dS]) | (go_at_call 33; refine (cloneBlk (some ⟨bb, ob, none⟩) (t.blocks.length - 1) cb cs _ (fun h => by cases h) (HCS.out.mono xt) HON.out (by omega)).mono ?_; rintro e w1 ⟨v1, rfl, hown, hbb⟩; obtain ⟨g, c1, rfl, hg⟩ := own_form hown (by omega); have R1 := range_ext (b := w.heap.size) (o := 0) (by exact rg) hbb; have T1 := there_ext (b := w.heap.size + 1) (o := 0) (n := 14) (by exact tr) hbb; have S1 := there_ext (b := w.heap.size) (o := 0) (n := 14) (by exact tr) hbb; have HE1 : Hid (Ext w w1) := Ext.trans xt hbb; have HO1 := Lib.hid (World.ownsRow.mono (base' := w.heap.size + 1 + 1) hown (by simp)); have hg2 : w.heap.size + 1 + 1 ≤ g := (by simpa using hg); have f8 := (S1 8 (by omega)).2; have c8 : w1.cell? ⟨w.heap.size, 8, none⟩ = some (.slice (some ⟨bb, ob, none⟩) t.blocks.length cb) := R1 8 _ rfl; clear hown hbb))
  refine wp_hid2 ?_
  intro W2 HW2
  have R2 : W2.rangeAt w.heap.size 0 [Value.int .i64 t.fn, Value.int .i64 t.scope, Value.int .i64 t.prio, Value.int .i64 t.status, Value.int .i64 t.wkind, Value.int .i64 t.windex, .bool t.wagain, .slice Af nf cf, .slice (some ⟨g, 0, none⟩) (t.blocks.length - 1) c1, Value.int .i64 t.mask, .bool t.unw, Value.int .i64 t.level, Value.int .i64 t.reason, Value.int .i64 t.result] := by rw [HW2.out]; exact range_same (k := 8) (u := .slice (some ⟨g, 0, none⟩) (t.blocks.length - 1) c1) R1
  have T2 : W2.there (w.heap.size + 1) 0 14 := by rw [HW2.out]; exact there_set T1
  have HE2 : Hid (Ext w W2) := by rw [Hid, HW2.out]; exact HE1.out.setCell (Nat.le_refl _) _
  have HO2 : Hid (W2.ownsRow (w.heap.size + 1 + 1) 55 5 (.slice (some ⟨g, 0, none⟩) (t.blocks.length - 1) c1) (t.blocks.length - 1) cs) := by rw [Hid, HW2.out]; exact ownsRow_setCell_below HO1.out (show w.heap.size < _ by omega) _
  clear HW2 R1 T1 S1 HE1 HO1 f8 c8
  go_wp2_with (first | ((first | ((with_reducible show Code.wp _ (Code.region _ (List.toArray ({ dst := _, op := Op.load 32 _, type := _, pos := _, after := _, guard := none } :: _)) false) _ _ _); refine wp_region_lit ?_) | (with_reducible show wpList _ _ _ ({ dst := _, op := Op.load 32 _, type := _, pos := _, after := _, guard := none } :: _) _ _)); refine wpList_load_mid rfl 32 _ rfl _ _ rfl _ _ (by exact rg) Tryz.underlying32 rfl (by exact infoTsk) ?_; dsimp only [dZ, dS]) | ((with_reducible show wpList _ _ _ ({ dst := _, op := Op.store 32 _ _, type := _, pos := _, after := _, guard := none } :: _) _ _); refine wpList_store_mid rfl 32 _ _ rfl _ _ _ rfl rfl (by exact tr) infoTsk (all_oneCell_toArray (by simp [Value.oneCell'])) ?_; (try dsimp only [Act.put])))
  refine ret_range2 (b := w.heap.size + 1) Tryz.results35 rfl rfl rfl rfl (World.rangeAt_setCells_same _ _ 0 _ (by exact tr)) ?_
  have hX : Ext w (W2.setCells (w.heap.size + 1) 0 [Value.int .i64 t.fn, Value.int .i64 t.scope, Value.int .i64 t.prio, Value.int .i64 t.status, Value.int .i64 t.wkind, Value.int .i64 t.windex, .bool t.wagain, .slice Af nf cf, .slice (some ⟨g, 0, none⟩) (t.blocks.length - 1) c1, Value.int .i64 t.mask, .bool t.unw, Value.int .i64 t.level, Value.int .i64 t.reason, Value.int .i64 t.result]) := HE2.out.setCells (by omega) 0 _
  obtain ⟨A', c', e', h3, h4⟩ := row_reads (A := none) hX HRE.out (own_setCells HO2.out (by omega))
  injection e' with e1 _ e3
  subst e1 e3
  exact ⟨g, c1, rfl, rtsk_of (t := { t with blocks := t.blocks.take (t.blocks.length - 1) }) HI.out (HF.out.mono RFrm.stays hX) hcf h4 h3, by omega, hX⟩
end Go.Proofs.YtcjjoabofecjmaaGreat

namespace Go.Proofs.YtcjjoabofecjmaaGreat
open Go.RowKit
theorem failS_same {t : Tsk} {reason : Int} (h : t.status = 3 ∨ t.blocks.length = 0) : failS t reason = t := by rw [failS, if_pos h]
theorem failS_hand {t : Tsk} {reason : Int} (h : ¬ (t.status = 3 ∨ t.blocks.length = 0)) (hi : inHand t = true) (hr : ¬ t.reason = 0) : failS t reason = { t with frames := t.frames.take (t.frames.length - 1), mask := wr64 (t.mask - 1) } := by
  rw [failS, if_neg h, if_pos ⟨hi, hr⟩]
theorem failS_all {t : Tsk} {reason : Int} (h : ¬ (t.status = 3 ∨ t.blocks.length = 0)) (hi : ¬ (inHand t = true ∧ t.reason ≠ 0)) : failS t reason = { t with reason := reason, result := 0, unw := true, level := 0, frames := [], mask := 0 } := by
  rw [failS, if_neg h, if_neg hi]
set_option maxRecDepth 4000 in
set_option maxHeartbeats 4000000 in
theorem fail_any (t : Tsk) (reason : Int) (V : Value) (w : World) (hV : RTsk w t V) (hnf : t.frames.length ≤ 1000) (hr : InR reason) :
    Calls Tryz.prog 39 #[V, Value.int .i64 reason] w fun e w' => ∃ V', e = .returned V' ∧ RTsk w' (failS t reason) V' ∧ Ext w w' := by
  have HV := Lib.hid hV
  have HI := Lib.hid hV.inr
  have HRR := Lib.hid hr
  have HH := Lib.hid (fun W h => handles_any t V W (hV.mono h))
  obtain ⟨Af, nf, cf, Ab, nb, cb, rfl, _, _, _, _, _, _, _, _, _, _, hF, hB, hcf, hcb⟩ := hV
  have LB := Lib.hid hB.len
  have hle := hF.le
  have hle2 := hB.le
  obtain ⟨cs, hcs, hone, hrd⟩ := RSl.cells (by omega) RFrm.stays RFrm.one (hF.take (Nat.sub_le nf 1))
  have HN := Lib.hid (hF.take (Nat.sub_le nf 1)).nil_of_none
  have HCS := Lib.hid hcs
  have HON := Lib.hid hone
  have HRD := Lib.hid hrd
  have HB := Lib.hid hB
  have LF := Lib.hid hF.len
  have HNF : Hid (nf ≤ 1000) := by have := hF.len; rw [Hid]; omega
  have hsub : inHand t = true → IntKind.i64.wrap ((nf : Int) - 1) = ((nf - 1 : Nat) : Int) := fun hin => by
    have hpos : 0 < nf := by have := inHand_pos hin; have := LF.out; omega
    rw [IntWalk.i64_in _ (by omega)]; omega
  have hd1 : ((nf - 1 : Nat) : Int) ≤ (cf : Int) := by omega
  have hd2 : (0 : Int) ≤ ((nf - 1 : Nat) : Int) := by omega
  clear hF hB hcs hone hrd hr hnf
  go_enter Tryz.func39, Tryz.ntmps39
  go_wp2_with (first | ((first | ((with_reducible show Code.wp _ (Code.region _ (List.toArray ({ dst := _, op := Op.load 32 _, type := _, pos := _, after := _, guard := none } :: _)) false) _ _ _); refine wp_region_lit ?_) | (with_reducible show wpList _ _ _ ({ dst := _, op := Op.load 32 _, type := _, pos := _, after := _, guard := none } :: _) _ _)); refine wpList_load_mid rfl 32 _ rfl _ _ rfl _ _ (by exact rg) Tryz.underlying32 rfl (by exact infoTsk) ?_; dsimp only [dZ, dS]) | ((with_reducible show wpList _ _ _ ({ dst := _, op := Op.store 32 _ _, type := _, pos := _, after := _, guard := none } :: _) _ _); refine wpList_store_mid rfl 32 _ _ rfl _ _ _ rfl rfl (by exact tr) infoTsk (all_oneCell_toArray (by simp [Value.oneCell'])) ?_; (try dsimp only [Act.put])) | (go_at_call 65; refine (HH.out _ xt).mono ?_; rintro e w1 ⟨rfl, hb⟩; have R1 := range_ext (b := w.heap.size) (o := 0) (cs := tskL t (.slice Af nf cf) (.slice Ab nb cb)) (by unfold tskL; exact rg) hb; have T1 := there_ext (b := w.heap.size + 1) (o := 0) (n := 14) (by exact tr) hb; unfold tskL at R1; obtain ⟨hc, hf, hs, he⟩ := Ext.use (w := w) hb xt; clear hb; (try simp only [World.size_alloc] at hs); rcases hin : inHand t with _ | _) | (go_at_call 74; refine (cloneFrm Af (nf - 1) cf cs _ HN.out (HCS.out.mono xt) HON.out (by have := HNF.out; omega)).mono ?_; rintro e w2 ⟨v1, rfl, hown1, hb⟩; have R2 := range_ext R1 hb; have T2 := there_ext T1 hb; obtain ⟨hc2, hf2, hs2, he2⟩ := Ext.use (w := w) hb xt; have HO1 := Lib.hid hown1; obtain ⟨A1, c1, rfl, hc1, _⟩ := ownsRow_shape hown1; clear hb hown1; (try simp only [World.size_alloc] at hs2)))
  · rename_i h
    rw [failS_same (.inl h)]
    refine ret_range (b := w.heap.size + 1) Tryz.results39 rfl rfl rfl (World.rangeAt_setCells_same _ _ 0 _ (by exact tr)) ⟨_, rfl, ?_, xts⟩
    have h0 := HV.out
    rw [h] at h0
    exact h0.mono xts
  · rename_i _ h
    rw [failS_same (by have h0 := LB.out; simp only [beq_iff_eq] at h; omega)]
    refine ret_range (b := w.heap.size + 1) Tryz.results39 rfl rfl rfl (World.rangeAt_setCells_same _ _ 0 _ (by exact tr)) ⟨_, rfl, ?_, xts⟩
    exact HV.out.mono xts
  · rename_i h
    rw [failS_all (by have h0 := LB.out; simp only [beq_eq_false_iff_ne] at h; omega) (by rw [hin]; simp)]
    refine ret_range (b := w.heap.size + 1) Tryz.results39 rfl rfl rfl (World.rangeAt_setCells_same _ _ 0 _ (by exact tr)) ⟨_, rfl, ?_, xts⟩
    exact rtsk_of (t := { t with reason := reason, result := 0, unw := true, level := 0, frames := [], mask := 0 }) ⟨HI.out.1, HI.out.2.1, HI.out.2.2.1, HI.out.2.2.2.1, HI.out.2.2.2.2.1, HI.out.2.2.2.2.2.1, zero_in, zero_in, HRR.out, zero_in⟩ (RSl.nil _) (Nat.le_refl _) (HB.out.mono RBlk.stays xts) hcb
  · have h1 : (t.status == 3) = false ∧ ((nb : Int) == 0) = false := by assumption
    have h : (t.reason != 0) = true := by assumption
    rw [failS_hand (by have h0 := LB.out; simp only [beq_eq_false_iff_ne] at h1; omega) hin (by simpa using h)]
    refine ret_range (b := w.heap.size + 1) Tryz.results39 rfl rfl rfl (World.rangeAt_setCells_same _ _ 0 _ (by exact tr)) ⟨_, rfl, ?_, xts⟩
    have HRr : ∀ W, Ext w W → W.ownsRow (w.heap.size + 1 + 1) 62 5 (.slice A1 (nf - 1) c1) (nf - 1) cs → RSl 5 RFrm W A1 (nf - 1) (t.frames.take (nf - 1)) := fun W hE hO => by
      obtain ⟨A', c', e, _, hr⟩ := row_reads (A := none) hE HRD.out hO
      injection e with e1 e2 e3
      subst e1
      exact hr
    have HOm : w2.ownsRow (w.heap.size + 1 + 1) 62 5 (.slice A1 (nf - 1) c1) (nf - 1) cs := World.ownsRow.mono HO1.out (by omega)
    refine rtsk_of (t := { t with frames := t.frames.take (t.frames.length - 1), mask := wr64 (t.mask - 1) }) ⟨HI.out.1, HI.out.2.1, HI.out.2.2.1, HI.out.2.2.2.1, HI.out.2.2.2.2.1, HI.out.2.2.2.2.2.1, wr64_in _, HI.out.2.2.2.2.2.2.2.1, HI.out.2.2.2.2.2.2.2.2.1, HI.out.2.2.2.2.2.2.2.2.2⟩ ?_ hc1 (HB.out.mono RBlk.stays xts) hcb
    show RSl 5 RFrm _ A1 (nf - 1) (t.frames.take (t.frames.length - 1))
    rw [← LF.out]
    exact HRr _ xts (own_setCells (own_setCell (own_setCell HOm (show w.heap.size < _ by omega)) (show w.heap.size < _ by omega)) (by omega))
  · have h1 : (t.status == 3) = false ∧ ((nb : Int) == 0) = false := by assumption
    have h : (t.reason != 0) = false := by assumption
    rw [failS_all (by have h0 := LB.out; simp only [beq_eq_false_iff_ne] at h1; omega) (by rw [show t.reason = 0 by simpa using h]; simp)]
    refine ret_range (b := w.heap.size + 1) Tryz.results39 rfl rfl rfl (World.rangeAt_setCells_same _ _ 0 _ (by exact tr)) ⟨_, rfl, ?_, xts⟩
    exact rtsk_of (t := { t with reason := reason, result := 0, unw := true, level := 0, frames := [], mask := 0 }) ⟨HI.out.1, HI.out.2.1, HI.out.2.2.1, HI.out.2.2.2.1, HI.out.2.2.2.2.1, HI.out.2.2.2.2.2.1, zero_in, zero_in, HRR.out, zero_in⟩ (RSl.nil _) (Nat.le_refl _) (HB.out.mono RBlk.stays xts) hcb
end Go.Proofs.YtcjjoabofecjmaaGreat
