/- A part of the proof: What Check asks of a living task, as a proposition in parts; and that it holds of what the functions of chapter 28 return; What Handle, Interrupt, Resume, Fail and Finish of chapter 28 return for a valid task is valid, in plain logic; What Resume, Finish and Advance of chapter 28 return for a valid task is valid, in plain logic; Finish of package task, with one write; roles of the reference of layer 13 returns the table of the operations' fields, one byte each, for every number. -/
import Derived.Test.YtcjjoabofecjmaaGreatQ17
import Derived.Test.YtcjjoabofecjmaaGreatQ08
import Derived.Test.YtcjjoabofecjmaaGreatQ04
import Derived.Test.YtcjjoabofecjmaaGreatProg
import Derived.Deep.LoopGhost
import Derived.BigQuiet
set_option linter.unusedVariables false
set_option linter.unusedSimpArgs false
namespace Go.Proofs.YtcjjoabofecjmaaGreat
open Go.RowKit
structure FrsOk (p : Prg) (fn : Int) (fs : List Frm) : Prop where
  fr : ∀ (i : Nat) f, fs[i]? = some f → ∃ g, FrOk p f g
  cl : ∀ (i : Nat) f, fs[i]? = some f → f.cleanup = true → f.result = -1 ∧ i + 1 = fs.length
  fst : ∀ f, fs[0]? = some f → f.cleanup = false → f.fn = fn ∧ f.result = -1
  res : ∀ (i : Nat) f h, fs[i + 1]? = some f → fs[i]? = some h → f.cleanup = false → ∃ k, fnAt p h.fn = some k ∧ 0 ≤ f.result ∧ f.result ≤ k.regs - 1
theorem FrsOk.nil (p : Prg) (fn : Int) : FrsOk p fn [] := ⟨fun i f h => by simp at h, fun i f h => by simp at h, fun f h => by simp at h, fun i f _ h => by simp at h⟩
theorem frs_iff {p : Prg} {t : Tsk} : allB (frmB p t) t.frames.length 0 = true ↔ FrsOk p t.fn t.frames := by
  rw [allB_iff]
  constructor
  · intro h
    have h1 : ∀ (i : Nat) f, t.frames[i]? = some f → ∃ g, FrOk p f g ∧ (if f.cleanup = true then (f.result == -1) && (i + 1 == t.frames.length)
       else if i = 0 then (f.fn == t.fn) && (f.result == -1)
       else match t.frames[i - 1]? with
        | none => false
        | some h => match fnAt p h.fn with
          | none => false
          | some k => inB f.result 0 (k.regs - 1)) = true := fun i f hf => by
      have h2 := h i (Nat.zero_le _) (by have := (List.getElem?_eq_some_iff.1 hf).1; omega)
      unfold frmB at h2
      rw [hf] at h2
      dsimp only at h2
      cases hg : fnAt p f.fn with
      | none => rw [hg] at h2; cases h2
      | some g =>
        rw [hg] at h2
        dsimp only at h2
        rw [Bool.and_eq_true] at h2
        obtain ⟨h2, h3⟩ := h2
        simp only [Bool.and_eq_true, beq_iff_eq, inB_iff, List.all_eq_true] at h2
        exact ⟨g, ⟨hg, h2.1.1.1, h2.1.1.2, h2.1.2, h2.2⟩, h3⟩
    refine ⟨fun i f hf => ?_, fun i f hf hc => ?_, fun f hf hc => ?_, fun i f x hf hx hc => ?_⟩
    · obtain ⟨g, hg, _⟩ := h1 i f hf; exact ⟨g, hg⟩
    · obtain ⟨g, _, h3⟩ := h1 i f hf
      rw [if_pos hc] at h3
      simpa using h3
    · obtain ⟨g, _, h3⟩ := h1 0 f hf
      rw [if_neg (by rw [hc]; decide), if_pos rfl] at h3
      simpa using h3
    · obtain ⟨g, _, h3⟩ := h1 (i + 1) f hf
      rw [if_neg (by rw [hc]; decide), if_neg (by omega), Nat.add_sub_cancel, hx] at h3
      dsimp only at h3
      cases hk : fnAt p x.fn with
      | none => rw [hk] at h3; cases h3
      | some k => rw [hk] at h3; exact ⟨k, rfl, inB_iff.1 h3⟩
  · intro h i _ hi
    obtain ⟨f, hf⟩ : ∃ f, t.frames[i]? = some f := ⟨_, List.getElem?_eq_getElem (by omega)⟩
    obtain ⟨g, hg⟩ := h.fr i f hf
    unfold frmB
    rw [hf]
    dsimp only
    rw [hg.fn]
    dsimp only
    rw [Bool.and_eq_true]
    refine ⟨?_, ?_⟩
    · simp only [Bool.and_eq_true, beq_iff_eq, inB_iff, List.all_eq_true]
      exact ⟨⟨⟨hg.regs, hg.num⟩, hg.pc⟩, hg.cl⟩
    · cases hc : f.cleanup with
      | true =>
        rw [if_pos rfl]
        have := h.cl i f hf hc
        simpa using this
      | false =>
        rw [if_neg (by decide)]
        cases i with
        | zero =>
          rw [if_pos rfl]
          have := h.fst f hf hc
          simpa using this
        | succ i =>
          rw [if_neg (by omega), Nat.add_sub_cancel]
          obtain ⟨x, hx⟩ : ∃ x, t.frames[i]? = some x := ⟨_, List.getElem?_eq_getElem (by omega)⟩
          rw [hx]
          dsimp only
          obtain ⟨k, hk, hr⟩ := h.res i f x hf hx hc
          rw [hk]
          exact inB_iff.2 hr
theorem FrsOk.take {p : Prg} {fn : Int} {fs : List Frm} (h : FrsOk p fn fs) (n : Nat) : FrsOk p fn (fs.take n) := by
  have old : ∀ {i : Nat} {f : Frm}, (fs.take n)[i]? = some f → i < n ∧ fs[i]? = some f := fun {i f} hf => by
    rw [List.getElem?_take] at hf
    split at hf
    · exact ⟨by assumption, hf⟩
    · cases hf
  refine ⟨fun i f hf => h.fr i f (old hf).2, fun i f hf hc => ?_, fun f hf hc => h.fst f (old hf).2 hc, fun i f x hf hx hc => h.res i f x (old hf).2 (old hx).2 hc⟩
  obtain ⟨a, b⟩ := h.cl i f (old hf).2 hc
  refine ⟨a, ?_⟩
  have := (old hf).1
  rw [List.length_take]; omega
theorem FrsOk.put {p : Prg} {fn : Int} {fs : List Frm} (h : FrsOk p fn fs) {k : Nat} {f f' : Frm} {g : Fnc} (hf : fs[k]? = some f) (hs : skF f' = skF f) (hg : FrOk p f' g) : FrsOk p fn (fs.set k f') := by
  have hm := map_set_same (g := skF) hf hs
  have old : ∀ {i : Nat} {x : Frm}, (fs.set k f')[i]? = some x → ∃ y, fs[i]? = some y ∧ skF x = skF y := fun hx => sk_get hm hx
  have sk : ∀ {x y : Frm}, skF x = skF y → x.fn = y.fn ∧ x.result = y.result ∧ x.cleanup = y.cleanup := fun {x y} e => by
    unfold skF at e
    simp only [Prod.mk.injEq] at e
    exact ⟨e.1, e.2.1, e.2.2⟩
  refine ⟨fun i x hx => ?_, fun i x hx hc => ?_, fun x hx hc => ?_, fun i x y hx hy hc => ?_⟩
  · rw [List.getElem?_set] at hx
    split at hx
    · split at hx
      · injection hx with hx; subst hx; exact ⟨g, hg⟩
      · cases hx
    · exact h.fr i x hx
  · obtain ⟨y, hy, e⟩ := old hx
    obtain ⟨e1, e2, e3⟩ := sk e
    rw [List.length_set, e2]
    exact h.cl i y hy (by rw [← e3]; exact hc)
  · obtain ⟨y, hy, e⟩ := old hx
    obtain ⟨e1, e2, e3⟩ := sk e
    rw [e1, e2]
    exact h.fst y hy (by rw [← e3]; exact hc)
  · obtain ⟨x', hx', e⟩ := old hx
    obtain ⟨y', hy', e'⟩ := old hy
    obtain ⟨e1, e2, e3⟩ := sk e
    obtain ⟨a1, a2, a3⟩ := sk e'
    rw [e2, a1]
    exact h.res i x' y' hx' hy' (by rw [← e3]; exact hc)
theorem FrsOk.hand {p : Prg} {fn : Int} {fs : List Frm} (h : FrsOk p fn fs) (hn : ∀ f ∈ fs, f.cleanup = false) {f : Frm} {g : Fnc} (hg : FrOk p f g) (hc : f.cleanup = true) (hr : f.result = -1) : FrsOk p fn (fs ++ [f]) := by
  have cs : ∀ {i : Nat} {x : Frm}, (fs ++ [f])[i]? = some x → (i < fs.length ∧ fs[i]? = some x) ∨ (i = fs.length ∧ x = f) := fun {i x} hx => by
    rw [List.getElem?_append] at hx
    split at hx
    · exact .inl ⟨by assumption, hx⟩
    · rename_i h1
      cases hz : i - fs.length with
      | zero =>
        rw [hz] at hx
        simp only [List.getElem?_cons_zero, Option.some.injEq] at hx
        exact .inr ⟨by omega, hx.symm⟩
      | succ m => rw [hz] at hx; simp at hx
  refine ⟨fun i x hx => ?_, fun i x hx hcx => ?_, fun x hx hcx => ?_, fun i x y hx hy hcx => ?_⟩
  · rcases cs hx with ⟨_, h1⟩ | ⟨_, rfl⟩
    · exact h.fr i x h1
    · exact ⟨g, hg⟩
  · rcases cs hx with ⟨_, h1⟩ | ⟨h1, rfl⟩
    · have := hn x (List.mem_of_getElem? h1); rw [hcx] at this; cases this
    · exact ⟨hr, by rw [List.length_append]; simp; omega⟩
  · rcases cs hx with ⟨_, h1⟩ | ⟨_, rfl⟩
    · exact h.fst x h1 hcx
    · rw [hc] at hcx; cases hcx
  · rcases cs hx with ⟨h2, h1⟩ | ⟨_, rfl⟩
    · rcases cs hy with ⟨_, h3⟩ | ⟨h4, _⟩
      · exact h.res i x y h1 h3 hcx
      · omega
    · rw [hc] at hcx; cases hcx
structure Lv (p : Prg) (t : Tsk) : Prop where
  blks : blksB p t.blocks = true
  mask : leastI t ≤ t.mask ∧ t.mask ≤ mostI t
  plain : plainN t ≤ 8
  zero : plainN t = 0 → t.unw = true ∧ t.level = 0
  lvl : t.level ≠ 0 → t.unw = true ∧ 2 ≤ t.level ∧ t.level ≤ t.blocks.length
  unw : t.unw = true → (t.level = 0 → plainN t = 0) ∧ (0 < t.level → (plainN t : Int) = depthAt t (t.level - 1))
  fr : FrsOk p t.fn t.frames
  keep : ∀ i, 1 ≤ i → i < keepsN t → keepB p t i = true
theorem lv_iff {p : Prg} {t : Tsk} : livB p t = true ↔ Lv p t := by
  constructor
  · intro h
    unfold livB at h
    simp only [Bool.and_eq_true] at h
    obtain ⟨⟨⟨⟨⟨⟨⟨hb, hm⟩, hp⟩, h4⟩, h5⟩, h6⟩, hfr⟩, hk⟩ := h
    refine ⟨hb, inB_iff.1 hm, by simpa using hp, fun h0 => ?_, fun hl => ?_, fun hu => ⟨fun hl => ?_, fun hl => ?_⟩, frs_iff.1 hfr, fun i h1 h2 => ?_⟩
    · rw [h0] at h4
      simp at h4
      exact h4
    · cases hu : t.unw with
      | false => rw [hu] at h5; simp [hl] at h5
      | true =>
        rw [hu] at h5
        simp only [Bool.not_true, Bool.false_or, Bool.not_eq_true', Bool.and_eq_false_iff, bne_eq_false_iff_eq, Bool.not_eq_false'] at h5
        rcases h5 with h5 | h5
        · exact absurd h5 hl
        · rw [inB_iff] at h5; exact ⟨rfl, by omega, by omega⟩
    · rw [hu, hl] at h6
      simp at h6
      omega
    · rw [hu] at h6
      simp only [Bool.true_and, Bool.not_eq_true', Bool.or_eq_false_iff, Bool.and_eq_false_iff, decide_eq_false_iff_not, bne_eq_false_iff_eq] at h6
      rcases h6.2 with h7 | h7
      · exact absurd hl h7
      · exact h7
    · exact allB_iff.1 hk i h1 (by omega)
  · intro l
    unfold livB
    simp only [Bool.and_eq_true]
    refine ⟨⟨⟨⟨⟨⟨⟨l.blks, inB_iff.2 l.mask⟩, by simpa using l.plain⟩, ?_⟩, ?_⟩, ?_⟩, frs_iff.2 l.fr⟩, allB_iff.2 fun i h1 h2 => l.keep i h1 (by omega)⟩
    · simp only [Bool.not_eq_true', Bool.and_eq_false_iff, decide_eq_false_iff_not, Bool.or_eq_false_iff, Bool.not_eq_false', bne_eq_false_iff_eq]
      rcases Decidable.em (plainN t = 0) with h | h
      · exact .inr (l.zero h)
      · exact .inl h
    · simp only [Bool.not_eq_true', Bool.and_eq_false_iff, Bool.or_eq_false_iff, Bool.not_eq_false', bne_eq_false_iff_eq]
      rcases Decidable.em (t.level = 0) with h | h
      · exact .inl h
      · obtain ⟨a, b, c⟩ := l.lvl h
        exact .inr ⟨a, inB_iff.2 ⟨b, c⟩⟩
    · simp only [Bool.not_eq_true', Bool.and_eq_false_iff, Bool.or_eq_false_iff, decide_eq_false_iff_not, bne_eq_false_iff_eq, beq_eq_false_iff_ne]
      cases hu : t.unw with
      | false => exact .inl rfl
      | true =>
        obtain ⟨a, b⟩ := l.unw hu
        refine .inr ⟨?_, ?_⟩
        · rcases Decidable.em (t.level = 0) with h | h
          · exact .inr (by have := a h; omega)
          · exact .inl h
        · rcases Decidable.em (0 < t.level) with h | h
          · exact .inr (b h)
          · exact .inl h
theorem valid_lv {p : Prg} {t : Tsk} (h : tcheckS p t = 0) (hst : t.status ≠ 3) : Lv p t := lv_iff.1 (valid_parts h hst).2.2.2
theorem Lv.valid {p : Prg} {t : Tsk} (l : Lv p t) (hst : t.status ≠ 3) (hc : checkS p = 0) (hn : numsB p t = true) (hw : waitB p t = true) : tcheckS p t = 0 := valid_of hst hc hn hw (lv_iff.2 l)
theorem wait_ready {p : Prg} {t : Tsk} (h1 : t.status = 1) (h2 : t.wkind = 0) (h3 : t.windex = 0) (h4 : t.wagain = false) : waitB p t = true := by
  unfold waitB
  rw [if_pos (by omega), h2, h3, h4]; rfl
theorem nums_iff {p : Prg} {t : Tsk} : numsB p t = true ↔ ∃ f, fnAt p t.fn = some f ∧ f.cleanup = false ∧ t.prio = f.prio ∧ (0 ≤ t.scope ∧ t.scope ≤ 31) ∧ numB t.result = true ∧ ((0 ≤ t.reason ∧ t.reason ≤ 9) ∨ (100 ≤ t.reason ∧ t.reason ≤ 999)) ∧ 1 ≤ t.status ∧ t.status ≤ 3 := by
  unfold numsB
  cases hf : fnAt p t.fn with
  | none => simp
  | some f => simp [inB_iff, and_assoc]
theorem start_valid {p : Prg} {f : Int} {g : Fnc} {args : List Int} {scope : Int} (hc : checkS p = 0) (hg : fnAt p f = some g) (hcl : g.cleanup = false) (hal : (args.length : Int) = g.params) (hn : ∀ x ∈ args, numB x = true) (hs : 0 ≤ scope ∧ scope ≤ 31) : tcheckS p (firstTsk f g args scope) = 0 := by
  have hgo := fn_ok hc (fnAt_mem hg)
  have hp := hgo.par
  have hr := hgo.reg
  have hin : inHand (firstTsk f g args scope) = false := rfl
  have hpl : plainN (firstTsk f g args scope) = 1 := rfl
  have hfo : FrOk p ⟨f, 0, regsOf g.regs.toNat args, -1, false⟩ g := by
    refine ⟨hg, ?_, fun x hx => ?_, ⟨Int.le_refl _, by show (0 : Int) ≤ _; omega⟩, hcl.symm⟩
    · show ((regsOf _ _).length : Int) = _
      rw [regsOf_length (by omega)]; omega
    · rcases List.mem_append.1 hx with h | h
      · exact hn x h
      · rw [List.eq_of_mem_replicate h]; decide
  refine Lv.valid ⟨?_, ?_, by rw [hpl]; omega, fun h => by rw [hpl] at h; omega, fun h => absurd rfl h, fun h => (by cases h), ?_, fun i h1 h2 => ?_⟩ (by show (1 : Int) ≠ 3; decide) hc (nums_iff.2 ⟨g, hg, hcl, rfl, hs, (by decide : numB 0 = true), .inl (by decide : (0 : Int) ≤ 0 ∧ (0 : Int) ≤ 9), (by decide : (1 : Int) ≤ 1), (by decide : (1 : Int) ≤ 3)⟩) (wait_ready rfl rfl rfl rfl)
  · show blksB p [⟨-1, 0, 0, 0, []⟩] = true
    simp [blksB, inB, allB, blkB]
  · unfold leastI mostI
    rw [hin]
    exact ⟨Int.le_refl _, by show (0 : Int) ≤ 100; decide⟩
  · refine ⟨fun i x hx => ?_, fun i x hx hcx => ?_, fun x hx hcx => ?_, fun i x y hx hy hcx => ?_⟩
    · cases i with
      | zero => simp only [firstTsk, List.getElem?_cons_zero, Option.some.injEq] at hx; subst hx; exact ⟨g, hfo⟩
      | succ i => simp [firstTsk] at hx
    · cases i with
      | zero => simp only [firstTsk, List.getElem?_cons_zero, Option.some.injEq] at hx; subst hx; cases hcx
      | succ i => simp [firstTsk] at hx
    · simp only [firstTsk, List.getElem?_cons_zero, Option.some.injEq] at hx; subst hx; exact ⟨rfl, rfl⟩
    · simp [firstTsk] at hx
  · have : keepsN (firstTsk f g args scope) = 1 := rfl
    omega
end Go.Proofs.YtcjjoabofecjmaaGreat

namespace Go.Proofs.YtcjjoabofecjmaaGreat
open Go.RowKit
theorem no_hand {p : Prg} {t : Tsk} (l : Lv p t) (hi : inHand t = false) : ∀ f ∈ t.frames, f.cleanup = false := fun f hf => by
  obtain ⟨i, hk, rfl⟩ := List.getElem_of_mem hf
  cases hc : (t.frames[i]).cleanup with
  | false => rfl
  | true =>
    obtain ⟨_, h2⟩ := l.fr.cl i _ (List.getElem?_eq_getElem hk) hc
    have h3 : topF t = some t.frames[i] := by unfold topF; rw [show t.frames.length - 1 = i by omega]; exact List.getElem?_eq_getElem hk
    rw [inHand_top h3, hc] at hi
    cases hi
theorem hand_of {t : Tsk} (h : ∀ f ∈ t.frames, f.cleanup = false) : inHand t = false := by
  unfold inHand
  cases hl : t.frames.getLast? with
  | none => rfl
  | some f => exact h f (List.mem_of_getLast? hl)
theorem plain_of {t : Tsk} (h : inHand t = false) : plainN t = t.frames.length := by unfold plainN; rw [h]; rfl
theorem plain_hand {t : Tsk} (h : inHand t = true) : plainN t = t.frames.length - 1 := by unfold plainN; rw [h]; rfl
theorem handle_valid {p : Prg} {t : Tsk} (hv : tcheckS p t = 0) (hst : t.status = 1) (he : (handleS p t).2.2 = 0) : tcheckS p (handleS p t).1 = 0 := by
  obtain ⟨hc, hn, hw, _⟩ := valid_parts hv (by omega)
  have l := valid_lv hv (by omega)
  unfold handleS at he ⊢
  rw [if_neg (by rw [hv]; simp)] at he ⊢
  split
  · rename_i h; rw [if_pos h] at he; cases he
  rename_i hi
  rw [if_neg hi] at he
  have hi : inHand t = false := by
    cases h : inHand t with
    | false => rfl
    | true => exact absurd (.inr h) hi
  cases hb : lastB t with
  | none => rw [hb] at he; cases he
  | some b =>
    rw [hb] at he
    dsimp only at he ⊢
    cases hh : b.handlers[b.handlers.length - 1]? with
    | none => rw [hh] at he; cases he
    | some x =>
      rw [hh] at he
      dsimp only at he ⊢
      cases hg : fnAt p x.fn with
      | none => rw [hg] at he; cases he
      | some g =>
        dsimp only
        have hbl := blk_at l.blks (show t.blocks[t.blocks.length - 1]? = some b from hb)
        obtain ⟨g', hg', hcl, hal, har⟩ := hdl_ok (hbl.2.1 x (List.mem_of_getElem? hh))
        rw [hg] at hg'
        injection hg' with hg'
        subst hg'
        have hgo := fn_ok hc (fnAt_mem hg)
        have hp := hgo.par
        have hr := hgo.reg
        have hfo : FrOk p ⟨x.fn, 0, regsOf g.regs.toNat x.args, -1, true⟩ g := by
          refine ⟨hg, ?_, fun z hz => ?_, ⟨Int.le_refl _, by show (0 : Int) ≤ _; omega⟩, hcl.symm⟩
          · show ((regsOf _ _).length : Int) = _
            rw [regsOf_length (by omega)]; omega
          · rcases List.mem_append.1 hz with h | h
            · exact har z h
            · rw [List.eq_of_mem_replicate h]; decide
        have hin : inHand (handleT t b x g) = true := by
          show inHand _ = Frm.cleanup ⟨x.fn, 0, regsOf g.regs.toNat x.args, -1, true⟩
          exact inHand_snoc rfl
        have hpl : plainN (handleT t b x g) = plainN t := by
          rw [plain_hand hin, plain_of hi]
          show (t.frames ++ [_]).length - 1 = _
          simp
        have hB : (handleT t b x g).blocks.map skB = t.blocks.map skB := map_set_same (show t.blocks[t.blocks.length - 1]? = some b from hb) rfl
        have hbs : blksB p (handleT t b x g).blocks = true := blks_same l.blks hB fun b' hb' => by
          rcases List.mem_or_eq_of_mem_set hb' with h | rfl
          · obtain ⟨i, hk, rfl⟩ := List.getElem_of_mem h
            have := blk_at l.blks (List.getElem?_eq_getElem hk)
            exact ⟨this.1, this.2.1⟩
          · refine ⟨by show (List.take _ _).length ≤ 8; rw [List.length_take]; have := hbl.1; omega, fun y hy => hbl.2.1 y (List.mem_of_mem_take hy)⟩
        have hlen : (handleT t b x g).blocks.length = t.blocks.length := List.length_set ..
        have hm := l.mask
        unfold leastI mostI at hm
        rw [hi] at hm
        rw [if_neg (by decide), if_neg (by decide)] at hm
        refine Lv.valid ⟨hbs, ?_, by rw [hpl]; exact l.plain, fun h => l.zero (by rw [← hpl]; exact h), fun h => ?_, fun h => ?_, l.fr.hand (no_hand l hi) hfo rfl rfl, fun i h1 h2 => ?_⟩ (by show t.status ≠ 3; omega) hc (by rw [← hn]; rfl) (by rw [← hw]; rfl)
        · unfold leastI mostI
          rw [hin, if_pos rfl, if_pos rfl]
          show 1 ≤ t.mask + 1 ∧ t.mask + 1 ≤ 101
          omega
        · rw [hlen]; exact l.lvl h
        · rw [hpl, depthAt_sk hB]; exact l.unw h
        · have h2' : i < keepsN t := by unfold keepsN at h2 ⊢; rw [hlen] at h2; exact h2
          have hk := l.keep i h1 h2'
          rw [keepB_iff] at hk ⊢
          obtain ⟨b1, f1, g1, x1, e1, e2, e3, e4⟩ := hk
          obtain ⟨b2, e5, e6⟩ := sk_get hB.symm e1
          unfold skB at e6
          simp only [Prod.mk.injEq] at e6
          refine ⟨b2, f1, g1, x1, e5, by rw [hpl, ← e6.2.1]; exact e2, ?_, ?_⟩
          · rw [← e6.2.1]
            show (t.frames ++ [_])[_]? = _
            rw [List.getElem?_append, if_pos (List.getElem?_eq_some_iff.1 e3).1]
            exact e3
          · rw [← e6.2.2.1]; exact e4
theorem keep_take {p : Prg} {t u : Tsk} {i d : Nat} (h : keepB p t i = true) (hB : u.blocks = t.blocks) (hF : u.frames = t.frames.take d) (hp : plainN u = d) (hd : ∀ b, t.blocks[i]? = some b → 1 ≤ b.depth ∧ b.depth ≤ (d : Int)) : keepB p u i = true := by
  rw [keepB_iff] at h ⊢
  obtain ⟨b, f, g, x, e1, e2, e3, e4⟩ := h
  obtain ⟨d1, d2⟩ := hd b e1
  refine ⟨b, f, g, x, by rw [hB]; exact e1, by rw [hp]; exact d2, ?_, e4⟩
  rw [hF, List.getElem?_take, if_pos (by omega)]
  exact e3
theorem bottom_lv {p : Prg} {t u : Tsk} (hb : blksB p t.blocks = true) (hB : u.blocks = t.blocks) (hF : u.frames = []) (hm : u.mask = 0) (hu : u.unw = true) (hl : u.level = 0) : Lv p u := by
  have hin : inHand u = false := inHand_nil hF
  have hpl : plainN u = 0 := by rw [plain_of hin, hF]; rfl
  refine ⟨by rw [hB]; exact hb, ?_, by rw [hpl]; omega, fun _ => ⟨hu, hl⟩, fun h => absurd hl h, fun _ => ⟨fun _ => hpl, fun h => by omega⟩, by rw [hF]; exact FrsOk.nil .., fun i h1 h2 => ?_⟩
  · unfold leastI mostI
    rw [hin, hm]; decide
  · unfold keepsN at h2
    rw [if_pos hu, hl] at h2
    simp at h2
def okReason (r : Int) : Prop := (0 ≤ r ∧ r ≤ 9) ∨ (100 ≤ r ∧ r ≤ 999)
def readyT (t : Tsk) : Tsk := { t with status := 1, wkind := 0, windex := 0, wagain := false }
theorem ready_nums {p : Prg} {t : Tsk} (h : numsB p t = true) : numsB p (readyT t) = true := by
  rw [nums_iff] at h ⊢
  obtain ⟨f, h1, h2, h3, h4, h5, h6, _, _⟩ := h
  exact ⟨f, h1, h2, h3, h4, h5, h6, (by decide : (1 : Int) ≤ 1), (by decide : (1 : Int) ≤ 3)⟩
theorem ready_valid {p : Prg} {t : Tsk} (hv : tcheckS p t = 0) (hst : t.status ≠ 3) : tcheckS p (readyT t) = 0 := by
  obtain ⟨hc, hn, _, hl⟩ := valid_parts hv hst
  exact valid_of (by show (1 : Int) ≠ 3; decide) hc (ready_nums hn) (wait_ready rfl rfl rfl rfl) hl
theorem depth_le {p : Prg} {t : Tsk} (hb : blksB p t.blocks = true) {i j : Nat} {a b : Blk} (ha : t.blocks[i]? = some a) (hbj : t.blocks[j]? = some b) (hij : i ≤ j) : a.depth ≤ b.depth :=
  depth_mono hb ha (j - i) b (by rw [show i + (j - i) = j by omega]; exact hbj)
theorem interrupt_valid {p : Prg} {t : Tsk} (hv : tcheckS p t = 0) (hst : t.status = 1) (level reason : Int) (hr : okReason reason) (he : (interruptS t level reason).2 = 0) : tcheckS p (interruptS t level reason).1 = 0 := by
  obtain ⟨hc, hn, hw, _⟩ := valid_parts hv (by omega)
  have l := valid_lv hv (by omega)
  unfold interruptS at he ⊢
  split
  · rename_i h; rw [if_pos h] at he; cases he
  rename_i h0
  rw [if_neg h0] at he
  simp only [not_or] at h0
  obtain ⟨_, hbn, hu0, hi0⟩ := h0
  have hu : t.unw = false := by simpa using hu0
  have hi : inHand t = false := by simpa using hi0
  split
  · rename_i h; rw [if_pos h] at he; cases he
  rename_i h1
  rw [if_neg h1] at he
  split
  · rename_i h2
    refine Lv.valid (bottom_lv (t := t) l.blks rfl rfl rfl rfl rfl) (by show t.status ≠ 3; omega) hc ?_ (by rw [← hw]; rfl)
    rw [nums_iff] at hn ⊢
    obtain ⟨f, a1, a2, a3, a4, a5, a6, a7⟩ := hn
    exact ⟨f, a1, a2, a3, a4, (by decide : numB 0 = true), hr, a7⟩
  rename_i h2
  rw [if_neg h2] at he
  have hlv : 2 ≤ level ∧ level ≤ (t.blocks.length : Int) := by omega
  cases hb : t.blocks[(level - 1).toNat]? with
  | none => rw [hb] at he; cases he
  | some b =>
    dsimp only
    have hkn : keepsN t = t.blocks.length := by unfold keepsN; rw [hu]; rfl
    have hkp := l.keep (level - 1).toNat (by omega) (by rw [hkn]; omega)
    rw [keepB_iff] at hkp
    obtain ⟨b', f', g', x', e1, e2, e3, e4⟩ := hkp
    rw [hb] at e1
    injection e1 with e1
    subst e1
    have hbk := blk_at l.blks hb
    have hd1 : 1 ≤ b.depth ∧ b.depth ≤ 8 ∧ 0 ≤ b.mask ∧ b.mask ≤ 100 := by
      obtain ⟨a, ha, q⟩ := hbk.2.2.2 (by omega)
      omega
    rw [plain_of hi] at e2
    have hnh : ∀ f ∈ t.frames.take b.depth.toNat, f.cleanup = false := fun f hf => no_hand l hi f (List.mem_of_mem_take hf)
    have hin : inHand { t with unw := true, level := level, frames := t.frames.take b.depth.toNat, mask := b.mask } = false := hand_of hnh
    have hpl : plainN { t with unw := true, level := level, frames := t.frames.take b.depth.toNat, mask := b.mask } = b.depth.toNat := by
      rw [plain_of hin]
      show (List.take _ _).length = _
      rw [List.length_take]; omega
    refine Lv.valid ⟨l.blks, ?_, by rw [hpl]; omega, fun h => by rw [hpl] at h; omega, fun _ => ⟨rfl, hlv.1, hlv.2⟩, fun _ => ⟨fun h => by exfalso; have h : level = 0 := h; omega, fun _ => ?_⟩, l.fr.take _, fun i h3 h4 => ?_⟩ (by show t.status ≠ 3; omega) hc (by rw [← hn]; rfl) (by rw [← hw]; rfl)
    · unfold leastI mostI
      rw [hin, if_neg (by decide), if_neg (by decide)]
      exact ⟨hd1.2.2.1, hd1.2.2.2⟩
    · rw [hpl]
      unfold depthAt
      show _ = (match t.blocks[(level - 1).toNat]? with | some b => b.depth | none => 0)
      rw [hb]
      show ((b.depth.toNat : Nat) : Int) = b.depth
      omega
    · have h4 : i < level.toNat := by
        unfold keepsN at h4
        exact h4
      refine keep_take (d := b.depth.toNat) (l.keep i h3 (by rw [hkn]; omega)) rfl rfl hpl fun a ha => ?_
      have hak := blk_at l.blks ha
      obtain ⟨z, hz, q⟩ := hak.2.2.2 (by omega)
      have := depth_le l.blks ha hb (by omega)
      omega
theorem pop_valid {p : Prg} {t : Tsk} (hv : tcheckS p t = 0) (hst : t.status = 1) (hi : inHand t = true) : tcheckS p (popT t) = 0 := by
  obtain ⟨hc, hn, hw, _⟩ := valid_parts hv (by omega)
  have l := valid_lv hv (by omega)
  have hpos := inHand_pos hi
  have hnh : ∀ f ∈ t.frames.take (t.frames.length - 1), f.cleanup = false := fun f hf => by
    obtain ⟨i, hk, rfl⟩ := List.getElem_of_mem hf
    rw [List.length_take] at hk
    rw [List.getElem_take]
    cases hcl : (t.frames[i]'(by omega)).cleanup with
    | false => rfl
    | true =>
      obtain ⟨_, h2⟩ := l.fr.cl i _ (List.getElem?_eq_getElem (by omega)) hcl
      omega
  have hin : inHand (popT t) = false := hand_of hnh
  have hpl : plainN (popT t) = plainN t := by
    rw [plain_of hin, plain_hand hi]
    show (List.take _ _).length = _
    rw [List.length_take]; omega
  have hm := l.mask
  unfold leastI mostI at hm
  rw [hi, if_pos rfl, if_pos rfl] at hm
  have hwr : wr64 (t.mask - 1) = t.mask - 1 := by unfold wr64 wrap64; omega
  refine Lv.valid ⟨l.blks, ?_, by rw [hpl]; exact l.plain, fun h => l.zero (by rw [← hpl]; exact h), l.lvl, fun h => by rw [hpl]; exact l.unw h, l.fr.take _, fun i h1 h2 => ?_⟩ (by show t.status ≠ 3; omega) hc (by rw [← hn]; rfl) (by rw [← hw]; rfl)
  · unfold leastI mostI
    rw [hin, if_neg (by decide), if_neg (by decide)]
    show 0 ≤ wr64 _ ∧ wr64 _ ≤ 100
    rw [hwr]; omega
  · have hk := l.keep i h1 h2
    rw [keepB_iff] at hk ⊢
    obtain ⟨b1, f1, g1, x1, e1, e2, e3, e4⟩ := hk
    have hbk := blk_at l.blks e1
    obtain ⟨z, hz, q⟩ := hbk.2.2.2 (by omega)
    rw [plain_hand hi] at e2
    refine ⟨b1, f1, g1, x1, e1, by rw [hpl, plain_hand hi]; exact e2, ?_, e4⟩
    show (t.frames.take (t.frames.length - 1))[_]? = _
    rw [List.getElem?_take, if_pos (by omega)]
    exact e3
theorem fail_valid {p : Prg} {t : Tsk} (hv : tcheckS p t = 0) (hst : t.status = 1) (reason : Int) (hr : okReason reason) : tcheckS p (failS t reason) = 0 := by
  obtain ⟨hc, hn, hw, _⟩ := valid_parts hv (by omega)
  have l := valid_lv hv (by omega)
  unfold failS
  split
  · exact hv
  split
  · rename_i h
    obtain ⟨hi, _⟩ := h
    exact pop_valid hv hst hi
  · refine Lv.valid (bottom_lv (t := t) l.blks rfl rfl rfl rfl rfl) (by show t.status ≠ 3; omega) hc ?_ (by rw [← hw]; rfl)
    rw [nums_iff] at hn ⊢
    obtain ⟨f, a1, a2, a3, a4, a5, a6, a7⟩ := hn
    exact ⟨f, a1, a2, a3, a4, (by decide : numB 0 = true), hr, a7⟩
end Go.Proofs.YtcjjoabofecjmaaGreat

namespace Go.Proofs.YtcjjoabofecjmaaGreat
open Go.RowKit
theorem Lv.setTop {p : Prg} {t : Tsk} (l : Lv p t) {f f' : Frm} {g : Fnc} (hf : topF t = some f) (hs : skF f' = skF f) (hg : FrOk p f' g) : Lv p (setTop t f') := by
  have hF : (Go.Proofs.YtcjjoabofecjmaaGreat.setTop t f').frames.map skF = t.frames.map skF := map_set_same hf hs
  have hpl := plainN_sk (t' := Go.Proofs.YtcjjoabofecjmaaGreat.setTop t f') hF
  have hin := inHand_sk (t' := Go.Proofs.YtcjjoabofecjmaaGreat.setTop t f') hF
  refine ⟨l.blks, ?_, by rw [hpl]; exact l.plain, fun h => l.zero (by rw [← hpl]; exact h), l.lvl, fun h => by rw [hpl]; exact l.unw h, l.fr.put hf hs hg, fun i h1 h2 => keepB_mono (l.keep i h1 h2) rfl (fun b hb => ?_) fun b x hb hx => ?_⟩
  · have := l.mask
    unfold leastI mostI at this ⊢
    rw [hin]; exact this
  · rw [hpl]
    have h3 := l.keep i h1 h2
    rw [keepB_iff] at h3
    obtain ⟨b', _, _, _, e, e2, _⟩ := h3
    rw [hb] at e
    injection e with e
    subst e
    exact e2
  · obtain ⟨y, hy, e⟩ := sk_get hF.symm hx
    unfold skF at e
    simp only [Prod.mk.injEq] at e
    exact ⟨y, hy, e.1.symm⟩
theorem top_at {p : Prg} {t : Tsk} (l : Lv p t) (hp : t.frames.length ≠ 0) : ∃ f g, topF t = some f ∧ FrOk p f g := by
  obtain ⟨f, hf⟩ : ∃ f, topF t = some f := ⟨_, List.getElem?_eq_getElem (show t.frames.length - 1 < t.frames.length by omega)⟩
  obtain ⟨g, hg⟩ := l.fr.fr _ f hf
  exact ⟨f, g, hf, hg⟩
structure Resumed (p : Prg) (t : Tsk) (f : Frm) (b : Blk) (g : Fnc) (x : Ins) : Prop where
  hand : inHand t = false
  lvl : 2 ≤ t.level ∧ t.level = (t.blocks.length : Int)
  top : topF t = some f
  last : t.blocks[t.blocks.length - 1]? = some b
  dep : (t.frames.length : Int) = b.depth
  fr : FrOk p f g
  ex : 0 ≤ b.exit ∧ b.exit ≤ (g.code.length : Int) - 1
  ins : g.code[b.exit.toNat]? = some x ∧ x.op = 36
  eq : resumeS t = ({ t with unw := false, level := 0, frames := t.frames.set (t.frames.length - 1) { f with pc := b.exit } }, 0)
theorem resumed {p : Prg} {t : Tsk} (l : Lv p t) (he : (resumeS t).2 = 0) : ∃ f b g x, Resumed p t f b g x := by
  have hq : ¬ (t.unw = false ∨ t.level = 0 ∨ (t.blocks.length : Int) ≠ t.level ∨ t.frames.length = 0 ∨ inHand t = true) := fun h => by
    unfold resumeS at he
    rw [if_pos h] at he; cases he
  simp only [not_or] at hq
  obtain ⟨h1, h2, h3, h4, h5⟩ := hq
  have hu : t.unw = true := by simpa using h1
  have hi : inHand t = false := by simpa using h5
  have hL := l.lvl h2
  have hle : t.level = (t.blocks.length : Int) := by omega
  obtain ⟨f, g, hf, hg⟩ := top_at l h4
  obtain ⟨b, hb⟩ : ∃ b, t.blocks[t.blocks.length - 1]? = some b := ⟨_, List.getElem?_eq_getElem (by omega)⟩
  have hd := (l.unw hu).2 (by omega)
  rw [plain_of hi] at hd
  unfold depthAt at hd
  rw [show (t.level - 1).toNat = t.blocks.length - 1 by omega, hb] at hd
  dsimp only at hd
  have hk := l.keep (t.blocks.length - 1) (by omega) (by unfold keepsN; rw [if_pos hu]; omega)
  rw [keepB_iff] at hk
  obtain ⟨b', f', g', x, e1, e2, e3, e4, e5, e6, e7⟩ := hk
  rw [hb] at e1
  injection e1 with e1
  subst e1
  rw [show (b.depth - 1).toNat = t.frames.length - 1 by omega, show t.frames[t.frames.length - 1]? = some f from hf] at e3
  injection e3 with e3
  subst e3
  rw [hg.fn] at e4
  injection e4 with e4
  subst e4
  refine ⟨f, b, g, x, hi, ⟨hL.2.1, hle⟩, hf, hb, hd, hg, e5, ⟨e6, e7⟩, ?_⟩
  unfold resumeS
  rw [if_neg (by simp only [not_or]; exact ⟨h1, h2, h3, h4, h5⟩), show t.frames[t.frames.length - 1]? = some f from hf, hb]
theorem Resumed.pcOk {p : Prg} {t : Tsk} {f : Frm} {b : Blk} {g : Fnc} {x : Ins} (h : Resumed p t f b g x) : FrOk p { f with pc := b.exit } g := ⟨h.fr.fn, h.fr.regs, h.fr.num, ⟨h.ex.1, by show b.exit ≤ _; have := h.ex.2; omega⟩, h.fr.cl⟩
theorem resume_valid {p : Prg} {t : Tsk} (hv : tcheckS p t = 0) (hst : t.status = 1) (he : (resumeS t).2 = 0) : tcheckS p (resumeS t).1 = 0 := by
  obtain ⟨hc, hn, hw, _⟩ := valid_parts hv (by omega)
  have l := valid_lv hv (by omega)
  obtain ⟨f, b, g, x, R⟩ := resumed l he
  rw [R.eq]
  have l2 := l.setTop R.top (f' := { f with pc := b.exit }) rfl R.pcOk
  have hin : inHand (Go.Proofs.YtcjjoabofecjmaaGreat.setTop t { f with pc := b.exit }) = false := (inHand_sk (t' := Go.Proofs.YtcjjoabofecjmaaGreat.setTop t { f with pc := b.exit }) (map_set_same (g := skF) (y := { f with pc := b.exit }) R.top rfl)).trans R.hand
  have hpos : 1 ≤ t.frames.length := by
    have := (List.getElem?_eq_some_iff.1 (show t.frames[t.frames.length - 1]? = some f from R.top)).1; omega
  have hL := R.lvl
  have hpl : plainN (Go.Proofs.YtcjjoabofecjmaaGreat.setTop t { f with pc := b.exit }) = t.frames.length := by rw [plain_of hin]; exact List.length_set ..
  have hu : t.unw = true := (l.lvl (by omega)).1
  refine Lv.valid ⟨l2.blks, l2.mask, l2.plain, fun h => ?_, fun h => absurd rfl h, fun h => (by cases h), l2.fr, fun i h1 h2 => ?_⟩ (by show t.status ≠ 3; omega) hc (by rw [← hn]; rfl) (by rw [← hw]; rfl)
  · have h : plainN (Go.Proofs.YtcjjoabofecjmaaGreat.setTop t { f with pc := b.exit }) = 0 := h
    rw [hpl] at h; omega
  · have h2 : i < t.blocks.length := h2
    exact l2.keep i h1 (by unfold keepsN; rw [if_pos (show (Go.Proofs.YtcjjoabofecjmaaGreat.setTop t { f with pc := b.exit }).unw = true from hu)]; show i < t.level.toNat; omega)
def putE (regs : List Int) (e : Int × Int) : List Int := if 0 ≤ e.1 ∧ e.1 < (regs.length : Int) then regs.set e.1.toNat e.2 else regs
def finishS (t : Tsk) (ws : List (Int × Int)) : Tsk := match topF t with
  | none => t
  | some f => Go.Proofs.YtcjjoabofecjmaaGreat.setTop t { f with regs := ws.foldl putE f.regs, pc := wr64 (f.pc + 1) }
theorem finish_valid {p : Prg} {t : Tsk} {e : Int × Int} {x : Ins} (hv : tcheckS p t = 0) (hx : nowS p t = some x) (he : numB e.2 = true) : tcheckS p (finishS t [e]) = 0 := by
  have hl : t.frames.length ≠ 0 := fun h => by
    unfold nowS at hx
    rw [List.getElem?_eq_none (by omega)] at hx
    cases hx
  have hst : t.status ≠ 3 := fun h => by
    unfold tcheckS at hv
    split at hv
    · cases hv
    · (try rw [if_pos h] at hv)
      split at hv
      · rename_i h2; exact hl h2.1
      · cases hv
  obtain ⟨hc, hn, hw, _⟩ := valid_parts hv hst
  have l := valid_lv hv hst
  obtain ⟨f, g, hf, hg⟩ := top_at l hl
  have hnow := now_at hf hg
  rw [hx] at hnow
  have hlt := (List.getElem?_eq_some_iff.1 hnow.symm).1
  have hpc := hg.pc
  have hcl : g.code.length ≤ 200 := (fn_ok hc (fnAt_mem hg.fn)).len
  have hwr : wr64 (f.pc + 1) = f.pc + 1 := by unfold wr64 wrap64; omega
  unfold finishS
  rw [hf]
  dsimp only [List.foldl]
  refine (l.setTop hf (f' := { f with regs := putE f.regs e, pc := wr64 (f.pc + 1) }) rfl ⟨hg.fn, ?_, fun z hz => ?_, ?_, hg.cl⟩).valid hst hc (by rw [← hn]; rfl) (by rw [← hw]; rfl)
  · show ((putE f.regs e).length : Int) = _
    unfold putE
    split
    · rw [List.length_set]; exact hg.regs
    · exact hg.regs
  · have hz : z ∈ putE f.regs e := hz
    unfold putE at hz
    split at hz
    · rcases List.mem_or_eq_of_mem_set hz with h | rfl
      · exact hg.num z h
      · exact he
    · exact hg.num z hz
  · show 0 ≤ wr64 _ ∧ wr64 _ ≤ _
    rw [hwr]; omega
theorem advance_valid {p : Prg} {t : Tsk} (he : (advanceS p t).2.2 = 0) : tcheckS p (advanceS p t).1 = 0 := by
  unfold advanceS at he ⊢
  split
  · rename_i h; rw [if_pos h] at he; cases he
  rename_i hv
  rw [if_neg hv] at he
  have hv : tcheckS p t = 0 := Decidable.not_not.1 hv
  split
  · rename_i h; rw [if_pos h] at he; cases he
  rename_i hst
  have hst : t.status = 1 := Decidable.not_not.1 hst
  split
  · exact hv
  rename_i hu
  have l := valid_lv hv (by omega)
  have hl : t.frames.length ≠ 0 := fun h => by
    have hi := inHand_nil (List.eq_nil_of_length_eq_zero h)
    have := l.zero (by rw [plain_of hi]; exact h)
    exact hu ⟨this.1, hi⟩
  obtain ⟨u, hr, hlv, hs, _, h⟩ := (adv_stop hv hst hu hl).end'
  have hvu := adv_valid hv hst hs hr hlv
  have hsu : u.status = 1 := by rw [hs.status]; exact hst
  rcases h with ⟨h, _⟩ | ⟨h, _⟩
  · rw [h]; exact hvu
  · rcases h with ⟨v, h⟩ | ⟨q, _, h⟩ | ⟨h, hi⟩
    · rw [h]; exact hvu
    · rw [h]; exact hvu
    · rw [h]; exact pop_valid hvu hsu hi
end Go.Proofs.YtcjjoabofecjmaaGreat

namespace Go.Proofs.YtcjjoabofecjmaaGreat
open Go.RowKit Go.Sort
theorem infoEdge : (Tryz.prog.info? 73).map (·.size) = some 2 := by kernel_rfl
theorem infoTskS : (Tryz.prog.info? 32).map (·.size) = some 14 := by kernel_rfl
theorem set_self {α : Type} {l : List α} {i : Nat} {x : α} (h : l[i]? = some x) : l.set i x = l := by
  apply List.ext_getElem?
  intro j
  rw [List.getElem?_set]
  split
  · rename_i e
    subst e
    rw [if_pos (List.getElem?_eq_some_iff.1 h).1, h]
  · rfl
set_option maxRecDepth 4000 in
set_option maxHeartbeats 4000000 in
theorem finish_one (t : Tsk) (V : Value) (e1 e2 : Int) (b c : Nat) (w : World) (hV : RTsk w t V) (hl : t.frames.length ≠ 0) (hnf : t.frames.length ≤ 1000) (hnb : t.blocks.length ≤ 1000) (hnr : ∀ f : Frm, f ∈ t.frames → f.regs.length ≤ 1000) (hnh : ∀ b : Blk, b ∈ t.blocks → b.handlers.length ≤ 1000)
    (hE : w.rangeAt b 0 [Value.int .i64 e1, Value.int .i64 e2]) (h2 : InR e2) : Calls Tryz.prog 42 #[V, .slice (some ⟨b, 0, none⟩) 1 c] w fun e w' => ∃ V', e = .returned V' ∧ RTsk w' (finishS t [(e1, e2)]) V' ∧ Ext w w' := by
  have HV := Lib.hid hV
  have HI := Lib.hid hV.inr
  have HNR := Lib.hid hnr
  have HNH := Lib.hid hnh
  have HNF := Lib.hid hnf
  have HNB := Lib.hid hnb
  have HED := Lib.hid hE
  have HE2 := Lib.hid h2
  have hbl : b < w.heap.size := lt_of_cell (hE 0 _ rfl)
  have hnf0 : 0 < t.frames.length := by omega
  obtain ⟨Af, nf, cf, Ab, nb, cb, rfl, _, _, _, _, _, _, _, _, _, _, hF, hB, hcf, hcb⟩ := hV
  have h1 := hF.len
  subst h1
  have h1 := hB.len
  subst h1
  obtain ⟨f, hf⟩ : ∃ f, t.frames[t.frames.length - 1]? = some f := ⟨_, List.getElem?_eq_getElem (by omega)⟩
  have HFk := Lib.hid hf
  have HS : Hid (finishS t [(e1, e2)] = setTop t { f with regs := putE f.regs (e1, e2), pc := wr64 (f.pc + 1) }) := by
    unfold Hid finishS topF
    rw [hf]; rfl
  have hnf1 : ((t.frames.length : Int) == 0) = false := beq_eq_false_iff_ne.2 (by omega)
  have hle : t.frames.length ≤ 9223372036854775807 := by omega
  have HSS := Lib.hid (set_self hf)
  clear hF hB hnf hnb hnr hnh hf hE h2 hl
  go_enter Tryz.func42, Tryz.ntmps42
  go_upto_region 4 with (first | ((first | ((with_reducible show Code.wp _ (Code.region _ (List.toArray ({ dst := _, op := Op.load 32 _, type := _, pos := _, after := _, guard := none } :: _)) false) _ _ _); refine wp_region_lit ?_) | (with_reducible show wpList _ _ _ ({ dst := _, op := Op.load 32 _, type := _, pos := _, after := _, guard := none } :: _) _ _)); refine wpList_load_mid rfl 32 _ rfl _ _ rfl _ _ (by exact rg) Tryz.underlying32 rfl (by exact infoTsk) ?_; dsimp only [dZ, dS]) | ((with_reducible show wpList _ _ _ ({ dst := _, op := Op.store 32 _ _, type := _, pos := _, after := _, guard := none } :: _) _ _); refine wpList_store_mid rfl 32 _ _ rfl _ _ _ rfl rfl (by exact tr) infoTsk (all_oneCell_toArray (by simp [Value.oneCell'])) ?_; (try dsimp only [Act.put])) | (go_at_call 66; (with_reducible refine (copied_any t _ w _ HV.out xt HNF.out HNB.out HNR.out HNH.out).mono ?_); rintro e w2 ⟨VF, VB, rs, hs0, gs, rfl, hOF, hOB, hb⟩; have T2 := there_ext (b := w.heap.size) (o := 0) (n := 14) (by exact tr) hb; have U2 := there_ext (b := w.heap.size + 1) (o := 0) (n := 14) (by exact tr) hb; have HEX : Hid (Ext w w2) := Ext.trans xt hb; have HOF := Lib.hid (hOF.base (B' := w.heap.size + 1 + 1) (by simp)); have HOB := Lib.hid (fun L hL => (hOB L hL).base (B' := w.heap.size + 1 + 1) (by simp)); obtain ⟨gF, cF, rfl, hgF⟩ := own_form HOF.out.row hnf0; obtain ⟨AB, cB, rfl, hcB, _⟩ := ownsRow_shape (HOB.out [] (low_nil _)).row; have hz2 : w.heap.size + 1 + 1 ≤ w2.heap.size := (by have := hb.size; simpa using this); clear hOF hOB hb))
  refine wp_hid2 ?_
  intro W4 HW4
  have G4 : w2.grownBy W4 (some w.heap.size) := by rw [HW4.out]; exact setCells_grown _ _ _ _
  have HE4 : Hid (Ext w W4) := by rw [Hid, HW4.out]; exact HEX.out.setCells (Nat.le_refl _) _ _
  have hz4 : w2.heap.size ≤ W4.heap.size := G4.size
  have U4 : W4.there (w.heap.size + 1) 0 14 := by rw [HW4.out]; exact there_sets U2
  have R4 : W4.rangeAt w.heap.size 0 [Value.int .i64 t.fn, Value.int .i64 t.scope, Value.int .i64 t.prio, Value.int .i64 t.status, Value.int .i64 t.wkind, Value.int .i64 t.windex, .bool t.wagain, .slice (some ⟨gF, 0, none⟩) t.frames.length cF, .slice AB t.blocks.length cB, Value.int .i64 t.mask, .bool t.unw, Value.int .i64 t.level, Value.int .i64 t.reason, Value.int .i64 t.result] := by
    rw [HW4.out]; exact World.rangeAt_setCells_same _ _ 0 _ T2
  obtain ⟨v, hv⟩ : ∃ v, rs[t.frames.length - 1]? = some v := ⟨_, List.getElem?_eq_getElem (by rw [HOF.out.len]; omega)⟩
  have hvl := (HOF.out.reg _ f v HFk.out hv).lt
  have LL : Low w [.slice (some ⟨w.heap.size, 0, none⟩) 0 0, .slice (some ⟨w.heap.size + 1, 0, none⟩) 0 0, .slice (some ⟨gF, 0, none⟩) t.frames.length cF, v] := by
    intro r hr y hy
    simp only [List.mem_cons, List.not_mem_nil, or_false] at hr
    rcases hr with rfl | rfl | rfl | rfl
    · simp only [Value.ownBlock, Option.some.injEq] at hy; omega
    · simp only [Value.ownBlock, Option.some.injEq] at hy; omega
    · simp only [Value.ownBlock, Option.some.injEq] at hy; omega
    · have := (hvl y hy).1; omega
  have HOB2 := HOB.out _ LL
  have HOF4 := Lib.hid (HOF.out.far G4 (by omega))
  have HOB4 := Lib.hid (HOB2.wrote G4 (own_ne HOB2.row (b := w.heap.size) (by omega)) (HOB2.hnds_far (by omega)) List.mem_cons_self rfl)
  have HVV := Lib.hid hv
  clear HW4 HOB2 HOB HOF T2 U2 G4 hv LL hvl
  go_wp2_with (first | ((first | ((with_reducible show Code.wp _ (Code.region _ (List.toArray ({ dst := _, op := Op.load 32 _, type := _, pos := _, after := _, guard := none } :: _)) false) _ _ _); refine wp_region_lit ?_) | (with_reducible show wpList _ _ _ ({ dst := _, op := Op.load 32 _, type := _, pos := _, after := _, guard := none } :: _) _ _)); refine wpList_load_mid rfl 32 _ rfl _ _ rfl _ _ (by exact rg) Tryz.underlying32 rfl (by exact infoTsk) ?_; dsimp only [dZ, dS]) | (go_at_call 75; refine (innermost_any _ _ _ _ _ _ _ _ _ _ _ _ _ gF 0 t.frames.length cF _ hnf0 (by have := HNF.out; omega)).mono ?_; rintro e w5 ⟨rfl, hb5⟩; have R5 := Lib.hid (range_ext R4 hb5); have U5 := Lib.hid (there_ext U4 hb5); have HE5 := Lib.hid (HE4.out.trans hb5); have HOF5 := Lib.hid (HOF4.out.mono hb5); have HOB5 := Lib.hid (HOB4.out.mono hb5); clear hb5))
  clear R4 U4 HOF4 HOB4 HE4
  go_loopg [7, 19] 1 (fun gg _ s19 wr => ∃ (k : Nat) (rg : List Int), k ≤ 1 ∧ 1 - k ≤ gg ∧ s19 = .int .i64 k ∧ Hid ((k = 0 ∧ rg = f.regs) ∨ (k = 1 ∧ rg = putE f.regs (e1, e2))) ∧ Hid (Ext w wr) ∧ Hid (OFr (w.heap.size + 1 + 1) wr (t.frames.set (t.frames.length - 1) { f with regs := rg }) (.slice (some ⟨gF, 0, none⟩) t.frames.length cF) rs) ∧ Hid (OBl (w.heap.size + 1 + 1) wr t.blocks (.slice AB t.blocks.length cB) hs0 gs [.slice (some ⟨w.heap.size, 0, none⟩) 0 0, .slice (some ⟨w.heap.size + 1, 0, none⟩) 0 0, .slice (some ⟨gF, 0, none⟩) t.frames.length cF, v]) ∧ Hid (wr.rangeAt w.heap.size 0 [Value.int .i64 t.fn, Value.int .i64 t.scope, Value.int .i64 t.prio, Value.int .i64 t.status, Value.int .i64 t.wkind, Value.int .i64 t.windex, .bool t.wagain, .slice (some ⟨gF, 0, none⟩) t.frames.length cF, .slice AB t.blocks.length cB, Value.int .i64 t.mask, .bool t.unw, Value.int .i64 t.level, Value.int .i64 t.reason, Value.int .i64 t.result]) ∧ Hid (wr.there (w.heap.size + 1) 0 14))
  case atStart => exact ⟨0, f.regs, by omega, by omega, rfl, .inl ⟨rfl, rfl⟩, HE5, (by rw [Hid]; have h9 := HSS.out; rw [show ({ f with regs := f.regs } : Frm) = f from rfl, h9]; exact HOF5.out), HOB5, R5, U5⟩
  case round =>
    obtain ⟨k, rg, hk, hg, rfl, HRG, HW, HF6, HB6, HR6, HU6⟩ := hrel
    clear HOF5 HOB5 R5 U5 HE5
    rcases Nat.eq_zero_or_pos k with h0 | h0
    · subst h0
      obtain rfl : rg = f.regs := by
        rcases HRG.out with ⟨_, h⟩ | ⟨h, _⟩
        · exact h
        · omega
      have E6 := range_ext HED.out HW.out
      go_upto_region 8 with (first | ((first | ((with_reducible show Code.wp _ (Code.region _ (List.toArray ({ dst := _, op := Op.load 73 _, type := _, pos := _, after := _, guard := none } :: _)) false) _ _ _); refine wp_region_lit ?_) | (with_reducible show wpList _ _ _ ({ dst := _, op := Op.load 73 _, type := _, pos := _, after := _, guard := none } :: _) _ _)); refine wpList_load_mid rfl 73 _ rfl _ _ rfl _ _ (by exact rg) Tryz.underlying73 rfl (by exact infoEdge) ?_; dsimp only [dZ, dS]) | ((first | ((with_reducible show Code.wp _ (Code.region _ (List.toArray ({ dst := _, op := Op.store 73 _ _, type := _, pos := _, after := _, guard := none } :: _)) false) _ _ _); refine wp_region_lit ?_) | (with_reducible show wpList _ _ _ ({ dst := _, op := Op.store 73 _ _, type := _, pos := _, after := _, guard := none } :: _) _ _)); refine wpList_store_mid rfl 73 _ _ rfl _ _ _ rfl rfl (by exact tr) infoEdge (all_oneCell_toArray (by simp [Value.oneCell'])) ?_; (try dsimp only [Act.put])))
      refine wp_hid2 ?_
      intro W7 HW7
      have HX7 : Hid (Ext wr W7) := by rw [Hid, HW7.out]; exact xts
      have E7 : W7.rangeAt wr.heap.size 0 [Value.int .i64 e1, Value.int .i64 e2] := by rw [HW7.out]; exact World.rangeAt_setCells_same _ _ 0 _ (by show World.there _ _ 0 2; exact tr)
      have c0 : W7.cell? ⟨wr.heap.size, 0, none⟩ = some (Value.int .i64 e1) := E7 0 _ rfl
      have c1 : W7.cell? ⟨wr.heap.size, 1, none⟩ = some (Value.int .i64 e2) := E7 1 _ rfl
      have HF7 : Hid (OFr (w.heap.size + 1 + 1) W7 t.frames (.slice (some ⟨gF, 0, none⟩) t.frames.length cF) rs) := by
        have h9 := HF6.out.mono HX7.out
        rw [show ({ f with regs := f.regs } : Frm) = f from rfl, HSS.out] at h9
        exact h9
      have HB7 := Lib.hid (HB6.out.mono HX7.out)
      have R7 := range_ext HR6.out HX7.out
      have U7 := there_ext HU6.out HX7.out
      have HY7 : Hid (Ext w W7) := HW.out.trans HX7.out
      obtain ⟨A5, c5, e5, hc5, _⟩ := ownsRow_shape (HF7.out.reg _ f v HFk.out HVV.out)
      subst e5
      have fr : W7.cell? ⟨gF, (t.frames.length - 1) * 5 + 2, none⟩ = some (.slice A5 f.regs.length c5) := by
        have h9 := HF7.out.row
        rw [h9.cellAt _ (by omega), rowOf_get frmCells_len HFk.out HVV.out (by omega)]; rfl
      have zF : gF < W7.heap.size := lt_of_cell fr
      have zc : wr.heap.size < W7.heap.size := lt_of_cell c0
      have hrl : f.regs.length ≤ 9223372036854775807 := by have := HNR.out f (List.mem_of_getElem? HFk.out); omega
      clear HW7 HF6 HB6 HR6 HU6 HRG E6 HX7
      by_cases g0 : 0 ≤ e1
      · have d0 : decide (0 ≤ e1) = true := decide_eq_true g0
        by_cases g1 : e1 < (f.regs.length : Int)
        · have d1 : decide (e1 < (f.regs.length : Int)) = true := decide_eq_true g1
          obtain ⟨g5, c5', e5', hg5, hz5, ⟨u5, hu5⟩, _⟩ := HF7.out.set_reg (i := t.frames.length - 1) (k := e1.toNat) HFk.out HVV.out (by omega)
          injection e5' with e51 _ e53
          subst e51 e53
          have zG : g5 < W7.heap.size := lt_of_cell hu5
          go_upto_region 8 with fail
          (refine wp_region_quiet_below (by kernel_rfl) (by kernel_rfl) ?_; (repeat (go_big_quiet_step (fail))); refine wpQuiet_nil ?_; intro w1 hw1; obtain ⟨hc, hf, hs, he⟩ := Ext.use (w := W7) (ext_of_regrown hw1) xt; clear hw1; (try simp only [sA, sC, sD, sN] at hs))
          go_upto_region 9 with fail
          (refine wp_region_quiet_tail 9 (by kernel_rfl) (by kernel_rfl) ?_; (try simp only [List.take_succ_cons, List.take_zero, List.drop_succ_cons, List.drop_zero]); (repeat (go_big_quiet_step (fail))); refine wpQuiet_nil ?_; intro w1 hw1; obtain ⟨hc, hf, hs, he⟩ := Ext.use (w := W7) (ext_of_regrown hw1) xt; clear hw1; (try simp only [sA, sC, sD, sN] at hs))
          go_wp2
          go_roundg 0
          case measure => omega
          case rel =>
            have hpe : putE f.regs (e1, e2) = f.regs.set e1.toNat e2 := by unfold putE; rw [if_pos ⟨g0, g1⟩]
            have HF8 := HF7.out.mono he
            have HB8 := HB7.out.mono he
            obtain ⟨g6, c6, e6', _, _, _, hset⟩ := HF8.set_reg (i := t.frames.length - 1) (k := e1.toNat) HFk.out HVV.out (by omega)
            injection e6' with e61 _ e63
            injection e61 with e61
            injection e61 with e61 _ _
            subst e61 e63
            obtain ⟨hs1, hs2⟩ := hset e2 HE2.out
            have hrg := HF8.reg _ f _ HFk.out HVV.out
            refine ⟨1, putE f.regs (e1, e2), by omega, by omega, by go_num, .inr ⟨rfl, rfl⟩, (HY7.out.trans he).setCell (show w.heap.size ≤ g5 by omega) _, ?_, ?_, ?_, ?_⟩
            · rw [Hid, hpe]; exact hs1
            · exact HB8.wrote hs2 (apart_ne (apart_types HB8.row hrg (by decide)) rfl) (fun u hu => by obtain ⟨m, xs, hh⟩ := bl_rows HB8 hu; exact apart_ne (apart_types hh hrg (by decide)) rfl) (List.mem_cons_of_mem _ (List.mem_cons_of_mem _ (List.mem_cons_of_mem _ List.mem_cons_self))) rfl
            · exact range_other (range_ext R7 he) (show ¬ g5 = w.heap.size by omega)
            · exact there_set (there_ext U7 he)
        · have d1 : decide (e1 < (f.regs.length : Int)) = false := decide_eq_false g1
          go_upto_region 8 with fail
          (refine wp_region_quiet_below (by kernel_rfl) (by kernel_rfl) ?_; (repeat (go_big_quiet_step (fail))); refine wpQuiet_nil ?_; intro w1 hw1; obtain ⟨hc, hf, hs, he⟩ := Ext.use (w := W7) (ext_of_regrown hw1) xt; clear hw1; (try simp only [sA, sC, sD, sN] at hs))
          go_wp2
          go_roundg 0
          case measure => omega
          case rel =>
            have hpe : putE f.regs (e1, e2) = f.regs := by unfold putE; rw [if_neg (by omega)]
            refine ⟨1, putE f.regs (e1, e2), by omega, by omega, by go_num, .inr ⟨rfl, rfl⟩, HY7.out.trans he, ?_, HB7.out.mono he, range_ext R7 he, there_ext U7 he⟩
            have h9 := HF7.out.mono he
            rw [Hid, hpe, show ({ f with regs := f.regs } : Frm) = f from rfl, HSS.out]
            exact h9
      · have d0 : decide (0 ≤ e1) = false := decide_eq_false g0
        go_upto_region 8 with fail
        (refine wp_region_quiet_below (by kernel_rfl) (by kernel_rfl) ?_; (repeat (go_big_quiet_step (fail))); refine wpQuiet_nil ?_; intro w1 hw1; obtain ⟨hc, hf, hs, he⟩ := Ext.use (w := W7) (ext_of_regrown hw1) xt; clear hw1; (try simp only [sA, sC, sD, sN] at hs))
        go_wp2
        go_roundg 0
        case measure => omega
        case rel =>
          have hpe : putE f.regs (e1, e2) = f.regs := by unfold putE; rw [if_neg (by omega)]
          refine ⟨1, putE f.regs (e1, e2), by omega, by omega, by go_num, .inr ⟨rfl, rfl⟩, HY7.out.trans he, ?_, HB7.out.mono he, range_ext R7 he, there_ext U7 he⟩
          have h9 := HF7.out.mono he
          rw [Hid, hpe, show ({ f with regs := f.regs } : Frm) = f from rfl, HSS.out]
          exact h9
    · obtain rfl : k = 1 := by omega
      obtain rfl : rg = putE f.regs (e1, e2) := by
        rcases HRG.out with ⟨h, _⟩ | ⟨_, h⟩
        · omega
        · exact h
      obtain ⟨g', c', e', hgb, fzF, pcF, hset⟩ := HF6.out.set_pc (i := t.frames.length - 1) (List.getElem?_set_self (by omega))
      injection e' with e1' e2' e3'
      injection e1' with e1'
      injection e1' with e1' _ _
      subst e1' e3'
      clear e2'
      obtain ⟨hs1, hs2⟩ := hset (wr64 (f.pc + 1)) (wr64_in _)
      have HS1 := Lib.hid hs1
      have HS2 := Lib.hid hs2
      clear hset hs1 hs2
      replace pcF : wr.cell? ⟨gF, (t.frames.length - 1) * 5 + 1, none⟩ = some (Value.int .i64 f.pc) := pcF
      have zF : gF < wr.heap.size := lt_of_cell pcF
      clear HRG
      go_upto_region 12 with fail
      refine wp_hid2 ?_
      intro W9 HW9
      have G9 : wr.grownBy W9 (some gF) := by rw [HW9.out]; exact HS2.out
      have HF9 : Hid (OFr (w.heap.size + 1 + 1) W9 (t.frames.set (t.frames.length - 1) { f with regs := putE f.regs (e1, e2), pc := wr64 (f.pc + 1) }) (.slice (some ⟨gF, 0, none⟩) t.frames.length cF) rs) := by
        have h9 := HS1.out
        rw [List.set_set] at h9
        rw [Hid, HW9.out]; exact h9
      have HB9 := Lib.hid (HB6.out.wrote G9 (apart_ne (apart_types HB6.out.row HF6.out.row (by decide)) rfl) (fun u hu => by obtain ⟨m, xs, hh⟩ := bl_rows HB6.out hu; exact apart_ne (apart_types hh HF6.out.row (by decide)) rfl) (List.mem_cons_of_mem _ (List.mem_cons_of_mem _ List.mem_cons_self)) rfl)
      have R9 : W9.rangeAt w.heap.size 0 [Value.int .i64 t.fn, Value.int .i64 t.scope, Value.int .i64 t.prio, Value.int .i64 t.status, Value.int .i64 t.wkind, Value.int .i64 t.windex, .bool t.wagain, .slice (some ⟨gF, 0, none⟩) t.frames.length cF, .slice AB t.blocks.length cB, Value.int .i64 t.mask, .bool t.unw, Value.int .i64 t.level, Value.int .i64 t.reason, Value.int .i64 t.result] := by rw [HW9.out]; exact range_other HR6.out (show ¬ gF = w.heap.size by omega)
      have T9 : W9.there (w.heap.size + 1) 0 14 := by rw [HW9.out]; exact there_set HU6.out
      have HE9 : Hid (Ext w W9) := by rw [Hid, HW9.out]; exact HW.out.setCell (show w.heap.size ≤ gF by omega) _
      clear HW9 HF6 HB6 HR6 HU6 HS1 HS2 G9 pcF fzF HW
      go_wp2_with (first | ((first | ((with_reducible show Code.wp _ (Code.region _ (List.toArray ({ dst := _, op := Op.load 32 _, type := _, pos := _, after := _, guard := none } :: _)) false) _ _ _); refine wp_region_lit ?_) | (with_reducible show wpList _ _ _ ({ dst := _, op := Op.load 32 _, type := _, pos := _, after := _, guard := none } :: _) _ _)); refine wpList_load_mid rfl 32 _ rfl _ _ rfl _ _ (by exact rg) Tryz.underlying32 rfl (by exact infoTsk) ?_; dsimp only [dZ, dS]) | ((with_reducible show wpList _ _ _ ({ dst := _, op := Op.store 32 _ _, type := _, pos := _, after := _, guard := none } :: _) _ _); refine wpList_store_mid rfl 32 _ _ rfl _ _ _ rfl rfl (by exact tr) infoTsk (all_oneCell_toArray (by simp [Value.oneCell'])) ?_; (try dsimp only [Act.put])))
      refine ret_range (b := w.heap.size + 1) Tryz.results42 rfl rfl rfl (World.rangeAt_setCells_same _ _ 0 _ (by exact tr)) ?_
      rw [HS.out]
      have finF : ∀ vs, t.frames.length ≤ cF ∧ RSl 5 RFrm (W9.setCells (w.heap.size + 1) 0 vs) (some ⟨gF, 0, none⟩) t.frames.length (t.frames.set (t.frames.length - 1) { f with regs := putE f.regs (e1, e2), pc := wr64 (f.pc + 1) }) := fun vs =>
        OFr.reads' (HF9.out.far (setCells_grown (w.heap.size + 1) vs 0 _) (by omega)) (by rw [List.length_set]; exact HNF.out) (fun y hy => by
          rcases List.mem_or_eq_of_mem_set hy with h | rfl
          · exact HNR.out y h
          · show (putE f.regs (e1, e2)).length ≤ 1000
            unfold putE
            split
            · rw [List.length_set]; exact HNR.out f (List.mem_of_getElem? HFk.out)
            · exact HNR.out f (List.mem_of_getElem? HFk.out))
      have finB : ∀ vs, t.blocks.length ≤ cB ∧ RSl 5 RBlk (W9.setCells (w.heap.size + 1) 0 vs) AB t.blocks.length t.blocks := fun vs =>
        OBl.reads' (HB9.out.wrote (setCells_grown (w.heap.size + 1) vs 0 _) (own_ne HB9.out.row (by omega)) (HB9.out.hnds_far (by omega)) (List.mem_cons_of_mem _ List.mem_cons_self) rfl) HNB.out HNH.out
      exact ⟨_, rfl, rtsk_of (t := setTop t { f with regs := putE f.regs (e1, e2), pc := wr64 (f.pc + 1) }) HI.out (finF _).2 (finF []).1 (finB _).2 (finB []).1, HE9.out.setCells (by omega) 0 _⟩
end Go.Proofs.YtcjjoabofecjmaaGreat

namespace Go.Proofs.YtcjjoabofecjmaaGreat
open Go.RowKit
def roleI (o : Opd) : UInt8 :=
  if o.what = 0 then 46 else if o.what = 1 then 110 else if o.what = 2 then 109 else if o.what = 3 then 114 else if o.what = 4 then 119 else if o.what = 5 then 111 else if o.what = 6 then 116 else if o.what = 7 then 99
  else if o.what = 8 then 102 else if o.what = 9 then 100 else if o.what = 10 then 118 else if o.what = 11 then 97 else (48 + o.kind).toNat.toUInt8
def roleA (k : Int) : UInt8 := if k = 0 then 46 else if k = 1 then 112 else if k = 2 then 50 else 115
def rolesS (op : Int) : ByteArray := match shapeS op with | none => ⟨#[]⟩ | some s => ⟨#[roleI s.a, roleI s.b, roleI s.c, roleA s.args]⟩
theorem rl0 {op : Int} (h : op = 1) : rolesS op = ⟨#[119, 110, 46, 46]⟩ := by subst h; rfl
theorem rl1 {op : Int} (h : op = 2 ∨ op = 12) : rolesS op = ⟨#[119, 114, 46, 46]⟩ := by rcases h with rfl | rfl <;> rfl
theorem rl2 {op : Int} (h : op = 3 ∨ op = 4 ∨ op = 5 ∨ op = 6 ∨ op = 7 ∨ op = 8 ∨ op = 9 ∨ op = 10 ∨ op = 11) : rolesS op = ⟨#[119, 114, 114, 46]⟩ := by rcases h with rfl | rfl | rfl | rfl | rfl | rfl | rfl | rfl | rfl <;> rfl
theorem rl3 {op : Int} (h : op = 13) : rolesS op = ⟨#[116, 46, 46, 46]⟩ := by subst h; rfl
theorem rl4 {op : Int} (h : op = 14) : rolesS op = ⟨#[114, 116, 46, 46]⟩ := by subst h; rfl
theorem rl5 {op : Int} (h : op = 15 ∨ op = 34) : rolesS op = ⟨#[119, 102, 46, 112]⟩ := by rcases h with rfl | rfl <;> rfl
theorem rl6 {op : Int} (h : op = 16 ∨ op = 20 ∨ op = 21 ∨ op = 40 ∨ op = 41 ∨ op = 43) : rolesS op = ⟨#[114, 46, 46, 46]⟩ := by rcases h with rfl | rfl | rfl | rfl | rfl | rfl <;> rfl
theorem rl7 {op : Int} (h : op = 17) : rolesS op = ⟨#[46, 100, 46, 112]⟩ := by subst h; rfl
theorem rl8 {op : Int} (h : op = 18 ∨ op = 19 ∨ op = 37 ∨ op = 38 ∨ op = 39) : rolesS op = ⟨#[46, 46, 46, 46]⟩ := by rcases h with rfl | rfl | rfl | rfl | rfl <;> rfl
theorem rl9 {op : Int} (h : op = 30) : rolesS op = ⟨#[119, 118, 46, 46]⟩ := by subst h; rfl
theorem rl10 {op : Int} (h : op = 31) : rolesS op = ⟨#[118, 114, 46, 46]⟩ := by subst h; rfl
theorem rl11 {op : Int} (h : op = 32) : rolesS op = ⟨#[119, 97, 114, 46]⟩ := by subst h; rfl
theorem rl12 {op : Int} (h : op = 33) : rolesS op = ⟨#[119, 97, 46, 50]⟩ := by subst h; rfl
theorem rl13 {op : Int} (h : op = 35) : rolesS op = ⟨#[111, 111, 99, 46]⟩ := by subst h; rfl
theorem rl14 {op : Int} (h : op = 36) : rolesS op = ⟨#[119, 46, 46, 46]⟩ := by subst h; rfl
theorem rl15 {op : Int} (h : op = 42) : rolesS op = ⟨#[109, 114, 46, 46]⟩ := by subst h; rfl
theorem rl16 {op : Int} (h : op = 50 ∨ op = 52) : rolesS op = ⟨#[49, 46, 46, 46]⟩ := by rcases h with rfl | rfl <;> rfl
theorem rl17 {op : Int} (h : op = 51) : rolesS op = ⟨#[119, 49, 46, 46]⟩ := by subst h; rfl
theorem rl18 {op : Int} (h : op = 53 ∨ op = 54 ∨ op = 55 ∨ op = 56) : rolesS op = ⟨#[50, 46, 46, 46]⟩ := by rcases h with rfl | rfl | rfl | rfl <;> rfl
theorem rl19 {op : Int} (h : op = 57 ∨ op = 58 ∨ op = 59) : rolesS op = ⟨#[51, 46, 46, 46]⟩ := by rcases h with rfl | rfl | rfl <;> rfl
theorem rl20 {op : Int} (h : op = 60 ∨ op = 62) : rolesS op = ⟨#[52, 114, 46, 46]⟩ := by rcases h with rfl | rfl <;> rfl
theorem rl21 {op : Int} (h : op = 61) : rolesS op = ⟨#[119, 52, 114, 46]⟩ := by subst h; rfl
theorem rl22 {op : Int} (h : op = 63) : rolesS op = ⟨#[119, 53, 46, 46]⟩ := by subst h; rfl
theorem rl23 {op : Int} (h : op = 64) : rolesS op = ⟨#[54, 114, 46, 46]⟩ := by subst h; rfl
theorem rl24 {op : Int} (h : op = 65) : rolesS op = ⟨#[119, 54, 119, 46]⟩ := by subst h; rfl
theorem rl25 {op : Int} (h : op = 66) : rolesS op = ⟨#[54, 46, 46, 46]⟩ := by subst h; rfl
theorem rl26 {op : Int} (h : op = 67) : rolesS op = ⟨#[119, 119, 119, 115]⟩ := by subst h; rfl
theorem rl27 {op : Int} (h : op = 68) : rolesS op = ⟨#[55, 114, 46, 46]⟩ := by subst h; rfl
theorem rl28 {op : Int} (h : op = 69 ∨ op = 71) : rolesS op = ⟨#[55, 46, 46, 46]⟩ := by rcases h with rfl | rfl <;> rfl
theorem rl29 {op : Int} (h : op = 70) : rolesS op = ⟨#[119, 55, 46, 46]⟩ := by subst h; rfl
theorem rl30 {op : Int} (h : op = 72) : rolesS op = ⟨#[56, 114, 46, 46]⟩ := by subst h; rfl
theorem rl31 {op : Int} (h : op = 73) : rolesS op = ⟨#[57, 114, 46, 46]⟩ := by subst h; rfl
theorem rl32 {op : Int} (h : op = 74) : rolesS op = ⟨#[119, 57, 46, 46]⟩ := by subst h; rfl
theorem shapeS_none {op : Int} (h : op < 1 ∨ (21 < op ∧ op < 30) ∨ (43 < op ∧ op < 50) ∨ 74 < op) : shapeS op = none := by
  unfold shapeS groupsS
  repeat rw [if_neg (by omega)]
theorem rl_none {op : Int} (h : op < 1 ∨ (21 < op ∧ op < 30) ∨ (43 < op ∧ op < 50) ∨ 74 < op) : rolesS op = ⟨#[]⟩ := by unfold rolesS; rw [shapeS_none h]
set_option maxHeartbeats 8000000 in
set_option maxRecDepth 20000 in
theorem roles_any (op : Int) (w : World) :
    Calls Tryz.prog 76 #[Value.int .i64 op] w fun e w' => e = .returned (.string (rolesS op)) ∧ w = w' := by
  go_enter Tryz.func76, Tryz.ntmps76
  go_wp2
  all_goals
    go_ret
    refine ⟨congrArg (fun s => Ending.returned (.string s)) (Eq.symm ?_), rfl⟩
    simp only [beq_iff_eq, beq_eq_false_iff_ne, ne_eq] at *
    first | exact rl_none (by omega) | (exact rl0 (by omega)) | (exact rl1 (by omega)) | (exact rl2 (by omega)) | (exact rl3 (by omega)) | (exact rl4 (by omega)) | (exact rl5 (by omega)) | (exact rl6 (by omega)) | (exact rl7 (by omega)) | (exact rl8 (by omega)) | (exact rl9 (by omega)) | (exact rl10 (by omega)) | (exact rl11 (by omega)) | (exact rl12 (by omega)) | (exact rl13 (by omega)) | (exact rl14 (by omega)) | (exact rl15 (by omega)) | (exact rl16 (by omega)) | (exact rl17 (by omega)) | (exact rl18 (by omega)) | (exact rl19 (by omega)) | (exact rl20 (by omega)) | (exact rl21 (by omega)) | (exact rl22 (by omega)) | (exact rl23 (by omega)) | (exact rl24 (by omega)) | (exact rl25 (by omega)) | (exact rl26 (by omega)) | (exact rl27 (by omega)) | (exact rl28 (by omega)) | (exact rl29 (by omega)) | (exact rl30 (by omega)) | (exact rl31 (by omega)) | (exact rl32 (by omega))
end Go.Proofs.YtcjjoabofecjmaaGreat
