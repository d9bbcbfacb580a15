/- A part of the proof: A task that runs stays valid until it stops; where it stops, and why; Advance of package task where a clean-up handler runs (made out of XAdvB by program); Advance, whatever it is given; A new task of one frame and one block, laid into cells of its own, reads as it should; Start of package task where nothing is wrong. -/
import Derived.Test.YtcjjoabofecjmaaGreatQ12
import Derived.Test.YtcjjoabofecjmaaGreatQ15
import Derived.Test.YtcjjoabofecjmaaGreatQ07
import Derived.Test.YtcjjoabofecjmaaGreatQ04
import Derived.Test.YtcjjoabofecjmaaGreatQ11
set_option linter.unusedVariables false
set_option linter.unusedSimpArgs false
namespace Go.Proofs.YtcjjoabofecjmaaGreat
open Go.RowKit
theorem live_set {p : Prg} {t : Tsk} (l : Live p t) {f f' : Frm} (hf : topF t = some f) (hs : skF f' = skF f) {m : Int} (hm : leastI t ≤ m ∧ m ≤ mostI t) : Live p { setTop t f' with mask := m } :=
  l.same (map_set_same hf hs) rfl l.blks rfl rfl rfl hm
theorem live_set' {p : Prg} {t : Tsk} (l : Live p t) {f f' : Frm} (hf : topF t = some f) (hs : skF f' = skF f) : Live p (setTop t f') := live_set l hf hs l.mask
theorem live_write {p : Prg} {t : Tsk} (l : Live p t) {f : Frm} (hf : topF t = some f) {i v : Int} (hz : (writeS t f i v).2.kind = 0) : Live p (writeS t f i v).1 := by
  unfold writeS at hz ⊢
  split
  · exact live_set' l hf rfl
  · rename_i h; rw [if_neg h] at hz; cases hz
theorem live_call {p : Prg} {t : Tsk} (l : Live p t) (r : RunOk p t) {f : Frm} (hf : topF t = some f) (hcl : f.cleanup = false) {x : Ins} (hz : (callS p t f x).2.kind = 0) : Live p (callS p t f x).1 := by
  unfold callS at hz ⊢
  split
  · rename_i h; rw [if_pos h] at hz; cases hz
  rename_i h
  rw [if_neg h] at hz
  cases hk : fnAt p x.b with
  | none => rw [hk] at hz; cases hz
  | some k =>
    dsimp only
    have h0 := live_set' l hf (f' := { f with pc := f.pc + 1 }) rfl
    have hpos := r.pos
    refine h0.push (nw := ⟨x.b, 0, regsOf k.regs.toNat (argsOf f x.args), x.a, false⟩) ?_ ?_ rfl
    · rw [inHand_sk (t := t) (t' := setTop t { f with pc := f.pc + 1 }) (map_set_same hf rfl), inHand_top hf]; exact hcl
    · show 1 ≤ List.length (List.set ..)
      rw [List.length_set]; exact hpos
theorem live_give {p : Prg} {t : Tsk} (l : Live p t) (r : RunOk p t) {f : Frm} (hf : topF t = some f) {v : Int} (hz : (giveS t f v).2.kind = 0) : Live p (giveS t f v).1 := by
  have hpos := r.pos
  unfold giveS at hz ⊢
  by_cases hcl : f.cleanup = true
  · rw [if_pos hcl] at hz; cases hz
  rw [if_neg hcl] at hz ⊢
  by_cases h1 : t.frames.length = 1
  · rw [if_pos h1] at hz; cases hz
  rw [if_neg h1] at hz ⊢
  obtain ⟨b, hb⟩ : ∃ b, lastB t = some b := ⟨_, List.getElem?_eq_getElem (show t.blocks.length - 1 < t.blocks.length by have := r.bl; omega)⟩
  obtain ⟨y, hy⟩ : ∃ y, t.frames[t.frames.length - 2]? = some y := ⟨_, List.getElem?_eq_getElem (by omega)⟩
  rw [hb, hy] at hz ⊢
  dsimp only at hz ⊢
  split
  · rename_i h; rw [if_pos h] at hz; cases hz
  rename_i hd
  have hin : inHand t = false := by rw [inHand_top hf]; simpa using hcl
  have h0 := l.pop r hin (by omega) (fun b' hb' => by rw [hb] at hb'; injection hb' with hb'; subst hb'; exact hd)
  have hsk : ((t.frames.take (t.frames.length - 1)).set (t.frames.length - 2) { y with regs := y.regs.set f.result.toNat v }).map skF = (t.frames.take (t.frames.length - 1)).map skF :=
    map_set_same (x := y) (by rw [List.getElem?_take, if_pos (by omega)]; exact hy) rfl
  exact h0.same hsk rfl h0.blks rfl rfl rfl h0.mask
theorem live_defer {p : Prg} {t : Tsk} (l : Live p t) {f : Frm} {g k : Fnc} (hf : topF t = some f) (hg : FrOk p f g) {x : Ins} (hk : fnAt p x.b = some k) (hkc : k.cleanup = true) (hal : (x.args.length : Int) = k.params) (har : ∀ a ∈ x.args, 0 ≤ a ∧ a < g.regs) (hz : (deferS t f x).2.kind = 0) : Live p (deferS t f x).1 := by
  unfold deferS at hz ⊢
  cases hb : lastB t with
  | none => rw [hb] at hz; cases hz
  | some b =>
    rw [hb] at hz
    dsimp only at hz ⊢
    split
    · rename_i h; rw [if_pos h] at hz; cases hz
    rename_i h8
    have hB : (t.blocks.set (t.blocks.length - 1) { b with handlers := b.handlers ++ [⟨x.b, argsOf f x.args⟩] }).map skB = t.blocks.map skB := map_set_same hb rfl
    have hh : hdlB p ⟨x.b, argsOf f x.args⟩ = true := by
      unfold hdlB
      dsimp only
      rw [hk]
      simp only [Bool.and_eq_true, beq_iff_eq, List.all_eq_true]
      refine ⟨⟨hkc, by unfold argsOf; rw [List.length_map]; exact hal⟩, fun z hz => ?_⟩
      unfold argsOf at hz
      obtain ⟨a, ha, rfl⟩ := List.mem_map.1 hz
      exact regS_num hg (har a ha)
    refine l.same (t' := { t with frames := t.frames.set (t.frames.length - 1) { f with pc := f.pc + 1 }, blocks := t.blocks.set (t.blocks.length - 1) { b with handlers := b.handlers ++ [⟨x.b, argsOf f x.args⟩] } }) (map_set_same hf rfl) hB (blks_same l.blks hB fun c hc => ?_) rfl rfl rfl l.mask
    have hat : ∀ c ∈ t.blocks, c.handlers.length ≤ 8 ∧ ∀ z ∈ c.handlers, hdlB p z = true := fun c hc => by
      obtain ⟨i, hi, rfl⟩ := List.getElem_of_mem hc
      obtain ⟨h1, h2, _⟩ := blk_at l.blks (List.getElem?_eq_getElem hi)
      exact ⟨h1, h2⟩
    rcases List.mem_or_eq_of_mem_set hc with hc | rfl
    · exact hat c hc
    · obtain ⟨h1, h2⟩ := hat b (List.mem_of_getElem? hb)
      refine ⟨by show (b.handlers ++ [_]).length ≤ 8; rw [List.length_append, List.length_singleton]; omega, fun z hz => ?_⟩
      rcases List.mem_append.1 hz with hz | hz
      · exact h2 z hz
      · rw [List.mem_singleton.1 hz]; exact hh
def Halt (t : Tsk) (r : Tsk × Stp) : Prop := (∃ v, r = (t, ⟨2, 0, v⟩)) ∨ (∃ q, q ≠ 0 ∧ r = (t, ⟨3, q, 0⟩)) ∨ (r = (popT t, ⟨4, 0, 0⟩) ∧ inHand t = true)
theorem halt_fail (t : Tsk) {q : Int} (h : q ≠ 0) : Halt t (failT t q) := .inr (.inl ⟨q, h, rfl⟩)
theorem halt_write {t : Tsk} {f : Frm} {i v : Int} (hz : (writeS t f i v).2.kind ≠ 0) : Halt t (writeS t f i v) := by
  unfold writeS at hz ⊢
  split
  · rename_i h; rw [if_pos h] at hz; exact absurd rfl hz
  · exact halt_fail t (by decide)
theorem halt_give {t : Tsk} {f : Frm} (hf : topF t = some f) {v : Int} (hz : (giveS t f v).2.kind ≠ 0) : Halt t (giveS t f v) := by
  unfold giveS at hz ⊢
  by_cases hcl : f.cleanup = true
  · rw [if_pos hcl]; exact .inr (.inr ⟨rfl, by rw [inHand_top hf]; exact hcl⟩)
  rw [if_neg hcl] at hz ⊢
  by_cases h1 : t.frames.length = 1
  · rw [if_pos h1]; exact .inl ⟨v, rfl⟩
  rw [if_neg h1] at hz ⊢
  split
  · rename_i b h e1 e2
    rw [e1, e2] at hz
    dsimp only at hz
    split
    · exact halt_fail t (by decide)
    · rename_i hd; rw [if_neg hd] at hz; exact absurd rfl hz
  · exact halt_fail t (by decide)
def BlkExt (t t' : Tsk) : Prop := t'.blocks.length = t.blocks.length ∧ ∀ (i : Nat) b, t.blocks[i]? = some b → ∃ c, t'.blocks[i]? = some c ∧ skB c = skB b ∧ (∃ l, c.handlers = b.handlers ++ l) ∧ (i + 1 < t.blocks.length → c.handlers = b.handlers)
theorem BlkExt.of_eq {t t' : Tsk} (h : t'.blocks = t.blocks) : BlkExt t t' := ⟨by rw [h], fun i b hb => ⟨b, by rw [h]; exact hb, rfl, ⟨[], by simp⟩, fun _ => rfl⟩⟩
theorem BlkExt.trans {a b c : Tsk} (h : BlkExt a b) (k : BlkExt b c) : BlkExt a c := by
  refine ⟨k.1.trans h.1, fun i x hx => ?_⟩
  obtain ⟨y, hy, e1, ⟨l, e2⟩, e3⟩ := h.2 i x hx
  obtain ⟨z, hz, d1, ⟨m, d2⟩, d3⟩ := k.2 i y hy
  exact ⟨z, hz, d1.trans e1, ⟨l ++ m, by rw [d2, e2, List.append_assoc]⟩, fun hi => (d3 (by rw [h.1]; exact hi)).trans (e3 hi)⟩
theorem give_blocks (t : Tsk) (f : Frm) (v : Int) : (giveS t f v).1.blocks = t.blocks := by
  unfold giveS
  split
  · rfl
  split
  · rfl
  split
  · split <;> rfl
  · rfl
theorem write_blocks (t : Tsk) (f : Frm) (i v : Int) : (writeS t f i v).1.blocks = t.blocks := by
  unfold writeS; split <;> rfl
theorem call_blocks (p : Prg) (t : Tsk) (f : Frm) (x : Ins) : (callS p t f x).1.blocks = t.blocks := by
  unfold callS
  split
  · rfl
  split <;> rfl
theorem defer_blocks (t : Tsk) (f : Frm) (x : Ins) : BlkExt t (deferS t f x).1 := by
  unfold deferS
  cases hb : lastB t with
  | none => exact .of_eq rfl
  | some b =>
    dsimp only
    split
    · exact .of_eq rfl
    have hlt := (List.getElem?_eq_some_iff.1 (show t.blocks[t.blocks.length - 1]? = some b from hb)).1
    refine ⟨by show List.length (List.set ..) = _; rw [List.length_set], fun i c hc => ?_⟩
    show ∃ d, (t.blocks.set (t.blocks.length - 1) { b with handlers := b.handlers ++ [⟨x.b, argsOf f x.args⟩] })[i]? = some d ∧ _
    rw [List.getElem?_set]
    split
    · rename_i e
      subst e
      rw [show t.blocks[t.blocks.length - 1]? = some b from hb] at hc
      injection hc with hc
      subst hc
      (try rw [if_pos hlt])
      exact ⟨_, rfl, rfl, ⟨_, rfl⟩, fun h => by omega⟩
    · exact ⟨c, hc, rfl, ⟨[], by simp⟩, fun _ => rfl⟩
structure StepOk (p : Prg) (t : Tsk) (r : Tsk × Stp) : Prop where
  live : r.2.kind = 0 → Live p r.1
  halt : r.2.kind ≠ 0 → Halt t r
  blk : BlkExt t r.1
theorem step_fail {p : Prg} {t : Tsk} {q : Int} (h : q ≠ 0) : StepOk p t (failT t q) := ⟨fun h0 => absurd (show (3 : Int) = 0 from h0) (by decide), fun _ => halt_fail t h, .of_eq rfl⟩
theorem step_jump {p : Prg} {t : Tsk} (l : Live p t) {f : Frm} (hf : topF t = some f) {pc : Int} : StepOk p t (jumpS t f pc) := ⟨fun _ => live_set' l hf rfl, fun h => absurd rfl h, .of_eq rfl⟩
theorem step_write {p : Prg} {t : Tsk} (l : Live p t) {f : Frm} (hf : topF t = some f) {i v : Int} : StepOk p t (writeS t f i v) := ⟨live_write l hf, halt_write, .of_eq (write_blocks ..)⟩
theorem step_give {p : Prg} {t : Tsk} (l : Live p t) (r : RunOk p t) {f : Frm} (hf : topF t = some f) {v : Int} : StepOk p t (giveS t f v) := ⟨live_give l r hf, halt_give hf, .of_eq (give_blocks ..)⟩
theorem exec_step {p : Prg} {t : Tsk} (hc : checkS p = 0) (r : RunOk p t) (l : Live p t) {f : Frm} {g : Fnc} {x : Ins} (hf : topF t = some f) (hg : FrOk p f g) (hx : g.code[f.pc.toNat]? = some x) (hv : visS x.op = false) : StepOk p t (execS p t f x) := by
  have hfn := fn_ok hc (fnAt_mem hg.fn)
  have hi := ins_ok (hfn.ins x (List.mem_of_getElem? hx))
  have hop := local_op hi.shape hv
  have hno : forbS x.op = true → f.cleanup = false := fun hfb => by
    cases hcf : f.cleanup with
    | false => rfl
    | true =>
      have := hi.forb (by rw [← hg.cl]; exact hcf)
      rw [this] at hfb; cases hfb
  have hm := r.mask
  have hlm := l.mask
  refine exec_cases (motive := fun q => StepOk p t q) hop (fun e => ?_) (fun e => ?_) (fun e => ?_) (fun _ _ _ => step_fail (by decide)) (fun _ _ _ => ?_) (fun e => ?_) (fun e => ?_) (fun e => ?_) (fun e => ?_) (fun e => ?_) (fun e => ?_) (fun e => ?_) (fun e => ?_) (fun e => ?_)
  · exact step_write l hf
  · exact step_write l hf
  · exact step_write l hf
  · exact step_write l hf
  · exact step_jump l hf
  · exact step_jump l hf
  · obtain ⟨k, hk, hkc, _⟩ := need_args hi (.inl e)
    have hcl := hno (by rw [e]; decide)
    refine ⟨live_call l r hf hcl, fun hz => ?_, .of_eq (call_blocks ..)⟩
    unfold callS at hz ⊢
    rw [hk] at hz ⊢
    split
    · exact halt_fail t (by decide)
    · rename_i h; rw [if_neg h] at hz; exact absurd rfl hz
  · exact step_give l r hf
  · obtain ⟨k, hk, hkc, hkl, har⟩ := need_args hi (.inr e)
    refine ⟨live_defer l hf hg hk (by rw [hkc, e]; decide) hkl har, fun hz => ?_, defer_blocks ..⟩
    unfold deferS at hz ⊢
    split
    · exact halt_fail t (by decide)
    · rename_i b hb
      rw [hb] at hz
      dsimp only at hz
      split
      · exact halt_fail t (by decide)
      · rename_i h; rw [if_neg h] at hz; exact absurd rfl hz
  · have hcl := hno (by rw [e]; decide)
    have hin : inHand t = false := by rw [inHand_top hf]; exact hcl
    unfold maskS
    split
    · exact step_fail (by decide)
    · rename_i h
      refine ⟨fun _ => live_set (f' := { f with pc := f.pc + 1 }) l hf rfl ?_, fun h => absurd rfl h, .of_eq rfl⟩
      unfold leastI mostI
      rw [if_neg (by rw [hin]; decide), if_neg (by rw [hin]; decide)]
      omega
  · have hcl := hno (by rw [e]; decide)
    have hin : inHand t = false := by rw [inHand_top hf]; exact hcl
    unfold unmaskS
    split
    · exact step_fail (by decide)
    · split
      · exact step_fail (by decide)
      · rename_i h
        refine ⟨fun _ => live_set (f' := { f with pc := f.pc + 1 }) l hf rfl ?_, fun h => absurd rfl h, .of_eq rfl⟩
        unfold leastI mostI at *
        rw [if_neg (by rw [hin]; decide), if_neg (by rw [hin]; decide)] at *
        omega
  · split
    · exact step_fail (by decide)
    · exact step_jump l hf
  · split
    · exact step_fail (by decide)
    · rename_i h; exact step_fail (by omega)
structure StopOk (p : Prg) (t : Tsk) (r : Tsk × Stp) : Prop where
  end' : ∃ u, RunOk p u ∧ Live p u ∧ Same t u ∧ BlkExt t u ∧ ((r = (u, ⟨1, 0, 0⟩) ∧ ∃ x, nowS p u = some x ∧ visS x.op = true) ∨ (Halt u r ∧ ∀ x, nowS p u = some x → visS x.op = false))
theorem now_at {p : Prg} {t : Tsk} {f : Frm} {g : Fnc} (hf : topF t = some f) (hg : FrOk p f g) : nowS p t = g.code[f.pc.toNat]? := by
  unfold nowS
  unfold topF at hf
  rw [hf]
  dsimp only
  rw [hg.fn]
  dsimp only
  rw [if_neg (by have := hg.pc; omega)]
theorem runS_stop {p : Prg} (hc : checkS p = 0) : ∀ (k : Nat) (t : Tsk) (n : Nat), RunOk p t → Live p t → 2 * (200 - n) + t.frames.length < k → n ≤ 200 → StopOk p t (runS p k t n)
  | 0, t, n, _, _, hk, _ => by omega
  | k + 1, t, n, h, l, hk, hn => by
    obtain ⟨f, hf⟩ := h.top
    obtain ⟨g, hg⟩ := h.fr _ f hf
    have hnow := now_at hf hg
    have hpos := h.pos
    unfold runS
    rw [hf]
    dsimp only
    rw [hg.fn]
    dsimp only
    have hgo : ∀ (r : Tsk × Stp) (m n' : Nat), StepOk p t r → Fate p t r m → r.2.kind = 0 → 2 * (200 - n') + m < k → n' ≤ 200 → StopOk p t (runS p k r.1 n') := fun r m n' hs hF hz hk' hn' => by
      rcases hF.2 with ⟨_, h1, h2⟩ | ⟨h1, _⟩
      · obtain ⟨u, a, b, c, d, e⟩ := (runS_stop hc k r.1 n' h1 (hs.live hz) (by omega) hn').end'
        exact ⟨u, a, b, hF.1.trans c, hs.blk.trans d, e⟩
      · exact absurd hz h1
    have hst : ∀ r : Tsk × Stp, StepOk p t r → r.2.kind ≠ 0 → (∀ x, nowS p t = some x → visS x.op = false) → StopOk p t r := fun r hs hz hx => ⟨t, h, l, Same.refl _, .of_eq rfl, .inr ⟨hs.halt hz, hx⟩⟩
    cases hx : g.code[f.pc.toNat]? with
    | none =>
      dsimp only
      have hG := fate_give h hf (v := 0) (by decide)
      have hS := step_give l h hf (v := 0)
      split
      · rename_i hz; exact hgo _ _ n hS hG hz (by omega) hn
      · rename_i hz; exact hst _ hS hz (fun x hx' => by rw [hnow, hx] at hx'; cases hx')
    | some x =>
      dsimp only
      cases hv : visS x.op with
      | true => rw [if_pos rfl]; exact ⟨t, h, l, Same.refl _, .of_eq rfl, .inl ⟨rfl, x, by rw [hnow, hx], hv⟩⟩
      | false =>
        have hnv : ∀ y, nowS p t = some y → visS y.op = false := fun y hy => by rw [hnow, hx] at hy; injection hy with hy; subst hy; exact hv
        rw [if_neg (by decide)]
        split
        · exact hst _ (step_fail (by decide)) (by simp [failT]) hnv
        · rename_i hne
          have hG := exec_fate hc h hf hg hx hv
          have hS := exec_step hc h l hf hg hx hv
          split
          · rename_i hz; exact hgo _ _ (n + 1) hS hG hz (by omega) (by omega)
          · rename_i hz; exact hst _ hS hz hnv
theorem valid_parts {p : Prg} {t : Tsk} (h : tcheckS p t = 0) (hst : t.status ≠ 3) : checkS p = 0 ∧ numsB p t = true ∧ waitB p t = true ∧ livB p t = true := by
  unfold tcheckS at h
  split at h
  · cases h
  rename_i h1
  (try rw [if_neg hst] at h)
  split at h
  · rename_i h2
    refine ⟨?_, ?_, ?_, h2⟩
    · exact Decidable.not_not.1 (fun e => h1 (.inl e))
    · cases e : numsB p t with
      | true => rfl
      | false => exact absurd (.inr (.inl e)) h1
    · cases e : waitB p t with
      | true => rfl
      | false => exact absurd (.inr (.inr e)) h1
  · cases h
theorem nums_same {p : Prg} {t u : Tsk} (h : Same t u) : numsB p u = numsB p t := by unfold numsB; rw [h.fn, h.prio, h.scope, h.result, h.reason, h.status]
theorem wait_same {p : Prg} {t u : Tsk} (h : Same t u) : waitB p u = waitB p t := by unfold waitB; rw [h.status, h.wkind, h.windex, h.wagain]
theorem valid_of {p : Prg} {t : Tsk} (hst : t.status ≠ 3) (hc : checkS p = 0) (hn : numsB p t = true) (hw : waitB p t = true) (hl : livB p t = true) : tcheckS p t = 0 := by
  unfold tcheckS
  rw [if_neg (by rw [hc, hn, hw]; simp), if_neg hst, if_pos hl]
theorem tcheck_is (p : Prg) (t : Tsk) : tcheckS p t = 0 ∨ tcheckS p t = 1 := by
  unfold tcheckS
  split
  · exact .inr rfl
  split
  · split
    · exact .inl rfl
    · exact .inr rfl
  · split
    · exact .inl rfl
    · exact .inr rfl
theorem adv_stop {p : Prg} {t : Tsk} (h : tcheckS p t = 0) (hst : t.status = 1) (hu : ¬ (t.unw = true ∧ inHand t = false)) (hl : t.frames.length ≠ 0) : StopOk p t (runS p 500 t 0) := by
  obtain ⟨hc, _, _, h4⟩ := valid_parts h (by omega)
  have hr := run_ok h hst hl
  refine runS_stop hc 500 t 0 hr (live_of h4 fun hx => ?_) (by have := hr.len; omega) (by omega)
  cases hi : inHand t with
  | true => rfl
  | false => exact absurd ⟨hx, hi⟩ hu
theorem adv_valid {p : Prg} {t u : Tsk} (h : tcheckS p t = 0) (hst : t.status = 1) (hs : Same t u) (hr : RunOk p u) (hl : Live p u) : tcheckS p u = 0 := by
  obtain ⟨hc, hn, hw, _⟩ := valid_parts h (by omega)
  exact valid_of (by rw [hs.status]; omega) hc (by rw [nums_same hs]; exact hn) (by rw [wait_same hs]; exact hw) (liv_of hr hl)
end Go.Proofs.YtcjjoabofecjmaaGreat

namespace Go.Proofs.YtcjjoabofecjmaaGreat
open Go.RowKit Go.Sort
set_option maxRecDepth 8000 in
set_option maxHeartbeats 4000000 in
theorem Advance_hand (p : Prg) (t : Tsk) (VP VT : Value) (w : World) (hP : RPrg w p VP) (hT : RTsk w t VT) (hc : tcheckS p t = 0) (hst : t.status = 1) (hu : t.unw = true) (hi : inHand t = true) (hl : t.frames.length ≠ 0) : Calls Tryz.prog 24 #[VP, VT] w (AdvPost p t w) := by
  have HC := Lib.hid (fun W h => tCheck_any p t VP VT W (hP.mono h) (hT.mono h))
  rw [hc] at HC
  have HH := Lib.hid (fun W h => handles_any t VT W (hT.mono h))
  rw [hi] at HH
  have HCk := Lib.hid (tcheck_check hc)
  have HRO := Lib.hid (run_ok hc hst hl)
  have HNum := Lib.hid hT.nums
  have hwk := HRO.out.wk HCk.out
  have HWK := Lib.hid hwk
  have HCo := Lib.hid (fun W h => copied_any t VT w W hT h (by have := hwk.len; omega) (by have := hwk.bl; omega) (fun f hf => by have := hwk.regs f hf; omega) (fun b hb => by have := hwk.hdl b hb; omega))
  have HP := Lib.hid hP
  have HT := Lib.hid hT
  have HR : Hid (advanceS p t = ((runS p 500 t 0).1, (runS p 500 t 0).2, 0)) := by unfold Hid advanceS; rw [if_neg (by simpa using hc), if_neg (by simpa using hst), if_neg (by rw [hi]; rintro ⟨_, h⟩; cases h)]
  obtain ⟨Af, nf, cf, Ao, no, co, Av, nv, cv, rfl, hF, hO, hVr, hcf, hco, hcv⟩ := hP
  obtain ⟨Bf, mf, df, Bb, mb, db, rfl, _, _, _, _, _, _, _, _, _, _, hF2, hB2, hdf, hdb⟩ := hT
  clear hO hVr hcf hco hcv hB2 hF hF2
  have HSt := Lib.hid hst
  have HUn := Lib.hid hu
  rw [hu, hst] at HT HC HCo HH ⊢
  clear hc hst hu hi hl hwk
  unfold AdvPost
  go_enter Tryz.func24, Tryz.ntmps24
  go_wp2_with (first | ((first | ((with_reducible show Code.wp _ (Code.region _ (List.toArray ({ dst := _, op := Op.load 32 _, type := _, pos := _, after := _, guard := none } :: _)) false) _ _ _); refine wp_region_lit ?_) | (with_reducible show wpList _ _ _ ({ dst := _, op := Op.load 32 _, type := _, pos := _, after := _, guard := none } :: _) _ _)); refine wpList_load_mid rfl 32 _ rfl _ _ rfl _ _ (by exact rg) Tryz.underlying32 rfl (by exact infoTsk) ?_; dsimp only [dZ, dS]) | ((with_reducible show wpList _ _ _ ({ dst := _, op := Op.load 32 _, type := _, pos := _, after := _, guard := some _ } :: _) _ _); refine wpList_load_mid_g (by rfl) 32 _ rfl _ _ rfl _ _ (by exact rg) Tryz.underlying32 rfl (by exact infoTsk) ?_; dsimp only [dZ, dS]) | (go_at_call 17; refine (HC.out _ xt).mono ?_; rintro e w1 ⟨rfl, hb⟩; have T1 := there_ext (b := w.heap.size + 1 + 1) (o := 0) (n := 14) (by exact tr) hb; have U1 := there_ext (b := w.heap.size + 1 + 1 + 1) (o := 0) (n := 3) (by exact tr) hb; have R1 := range_ext (b := w.heap.size + 1) (o := 0) (by exact rg) hb; have Q1 := range_ext (b := w.heap.size) (o := 0) (cs := [.slice Af nf cf, .slice Ao no co, .slice Av nv cv]) (by exact rg) hb; have he0 := Lib.hid hb; obtain ⟨hc, hf, hs, he⟩ := Ext.use (w := w) hb xt; clear hb; (try simp only [World.size_alloc] at hs); have hz1 : w.heap.size + 1 + 1 + 1 < w1.heap.size := (by omega)) | (go_at_call 65; refine (HH.out _ xt).mono ?_; rintro e w2 ⟨rfl, hb⟩; have T1 := there_ext T1 hb; have U1 := there_ext U1 hb; have R1 := range_ext R1 hb; have Q1 := range_ext Q1 hb; have he0 := Lib.hid (Ext.trans he0.out hb); have he := Ext.trans he hb; have hz1 := Nat.lt_of_lt_of_le hz1 hb.size; clear hb))
  have HE1 := Lib.hid he
  have HC4 : Hid (Cold w2 (w.heap.size + 1 + 1)) := by
    refine Cold.ext ?_ he0.out
    refine Cold.ext (w := ((w.alloc _).alloc _).alloc _) ?_ xt
    simpa using Cold.alloc (w := (w.alloc _).alloc _) rfl
  have HC5 : Hid (Cold w2 (w.heap.size + 1 + 1 + 1)) := by
    refine Cold.ext ?_ he0.out
    simpa using Cold.alloc (w := ((w.alloc _).alloc _).alloc _) rfl
  clear hc hf hs he
  refine wp_region_th 5 (fun W' => Ext w2 W') (by kernel_rfl) (by kernel_rfl) (by kernel_rfl) (by kernel_rfl) (by decide) ?_ ?_
  · exact xt
  intro hT hHeld
  (refine th_take (i := 0) (oi := ?oi0_1) (v := ?v0_1) hT ?hi0_1 (by decide) (by kernel_rfl) (by kernel_rfl) ?hq0_1 (Or.inl ⟨?hw0_1, ?hy0_1⟩) (by assumption) ?rest0_1; (case hi0_1 => (simp only [List.getElem?_toArray, List.getElem?_cons_zero, List.getElem?_cons_succ]; rfl)); (case hw0_1 => rfl); (case hy0_1 => (intro w' hSw; refine Eq.trans (exec_load_mid 26 _ (by rfl) w.heap.size 0 (by rfl) _ _ Tryz.underlying26 (by rfl) ?hiL0_1 w' (range_ext Q1 hSw)) ?eqL0_1; (case eqL0_1 => with_reducible rfl); exact infoPrg)); (case hq0_1 => (exact fun _ _ _ h => h)); (try simp only [Act.put, aset, dZ, dS]))
  (refine th_take (i := 1) (oi := ?oi1_2) (v := ?v1_2) hT ?hi1_2 (by decide) (by kernel_rfl) (by kernel_rfl) ?hq1_2 (Or.inl ⟨?hw1_2, ?hy1_2⟩) (by assumption) ?rest1_2; (case hi1_2 => (simp only [List.getElem?_toArray, List.getElem?_cons_zero, List.getElem?_cons_succ]; rfl)); (case hw1_2 => rfl); (case hy1_2 => (intro w' hSw; refine Eq.trans (exec_load_mid 32 _ (by rfl) (w.heap.size + 1) 0 (by rfl) _ _ Tryz.underlying32 (by rfl) ?hiL1_2 w' (range_ext R1 hSw)) ?eqL1_2; (case eqL1_2 => with_reducible rfl); exact infoTsk)); (case hq1_2 => (exact fun _ _ _ h => h)); (try simp only [Act.put, aset, dZ, dS]))
  refine tst 2 (fun K hK => ?_)
  go_simp
  go_at_call 66
  refine (HCo.out _ (Ext.trans HE1.out hHeld)).mono ?_
  rintro e w5 ⟨VF, VB, rs, hs, gs, rfl, hOF, hOB, hb5⟩
  have hE5 : Ext w2 w5 := Ext.trans hHeld hb5
  dsimp only
  refine hK.out _ _ hE5 (fun hHeld => ?_)
  clear hK K
  (try simp only [Act.put, List.setIfInBounds_toArray, List.set_cons_zero, List.set_cons_succ])
  (refine tht 3 hT ?_; (try simp only [Act.put, aset, dZ, dS]))
  refine tst 4 (fun K hK => ?_)
  go_simp
  refine hK.out _ _ (hE5.alloc _) (fun hHeld => ?_)
  clear hK K
  (try simp only [Act.put, List.setIfInBounds_toArray, List.set_cons_zero, List.set_cons_succ])
  refine th_done (by kernel_rfl) ?_
  simp only [List.drop_succ_cons, List.drop_zero]
  refine wpList_name ?_
  intro W6 HW6
  have hz1 : w.heap.size + 1 + 1 + 1 < w2.heap.size := hz1
  have hs5 := hE5.size
  have hs6 : W6.heap.size = w5.heap.size + 1 := by rw [HW6.out]; simp
  have HE6 : Hid (Ext w2 W6) := by rw [Hid, HW6.out]; exact hE5.alloc _
  have HFirst := Lib.hid (run_first (B := w2.heap.size) (R := w5.heap.size) (X := [boxV (w5.heap.size + 1), boxV (w.heap.size + 1 + 1), boxV (w.heap.size + 1 + 1 + 1)]) (w0 := w) (W6 := W6) (t := t) (V0 := .slice Af nf cf) (V1 := .slice Ao no co) (V2 := .slice Av nv cv) (VF := VF) (VB := VB) HE1.out.size rfl hs5 (by rw [HW6.out]; unfold tskL; rw [HSt.out, HUn.out]; rfl) hOF hOB (fun r hr x hx => by
    simp only [List.mem_cons, List.not_mem_nil, or_false] at hr
    have := HE1.out.size
    rcases hr with rfl | rfl | rfl
    · have h2 : w5.heap.size + 1 = x := by injection hx
      omega
    · have h2 : w.heap.size + 1 + 1 = x := by injection hx
      omega
    · have h2 : w.heap.size + 1 + 1 + 1 = x := by injection hx
      omega))
  have HRun := Lib.hid (run_any (X := [boxV (w5.heap.size + 1), boxV (w.heap.size + 1 + 1), boxV (w.heap.size + 1 + 1 + 1)]) (by simp) hs6 hs5 HFirst.out HRO.out HCk.out HNum.out w (HE1.out.trans HE6.out) HE1.out.size HP.out)
  obtain ⟨hwkG, hsame⟩ := runS_wk HCk.out 500 t 0 HRO.out
  have HWG := Lib.hid hwkG
  have HNG := Lib.hid (HNum.out.same hsame)
  clear hwkG hsame HFirst hOF hOB HW6 hE5 hHeld HCo
  obtain ⟨G, hG⟩ : ∃ G, runS p 500 t 0 = G := ⟨_, rfl⟩
  rw [hG] at HRun HWG HNG HR
  clear hG
  unfold RunPost stopA at HRun
  go_wp2_with (first | (go_at_call 67; refine HRun.out.mono ?_; rintro e w7 ⟨rfl, ⟨n7, VF7, VB7, rs7, hs7, gs7, hst7⟩, hk7⟩; obtain ⟨A7, c7, e7, hcF7, _⟩ := ownsRow_shape hst7.fr.row; subst e7; obtain ⟨Ab7, cb7, eb7, _⟩ := ownsRow_shape hst7.bl.row; subst eb7; have HS7 := Lib.hid hst7; have HK7 := Lib.hid hk7; obtain ⟨N7, hN7⟩ : ∃ N7, G.1.frames.length = N7 := ⟨_, rfl⟩; have HN7 := Lib.hid hN7; have m7 := hst7.cellT (j := 7) (v := .slice A7 N7 c7) (by rw [← hN7]; rfl); have f7 := hst7.frozen 10; have zR7 := hst7.lt.2; have hN9 : N7 ≤ 9 := (by have := HWG.out.len; omega); rw [hN7] at hcF7; clear hst7 hk7 hN7) | (go_at_call 68; refine (clip_any A7 N7 c7 _ hcF7 (by omega)).mono ?_; rintro e w8 ⟨rfl, rfl⟩))
  refine wp_hid2 ?_
  intro W9 HW9
  have hN77 := HN7.out
  have hsz7 := HK7.out.below.size
  have hX4 : w.heap.size + 1 + 1 < w2.heap.size := by omega
  have R9 : W9.rangeAt w5.heap.size 3 (tskL G.1 (.slice A7 N7 N7) (.slice Ab7 G.1.blocks.length cb7)) := by
    rw [HW9.out]
    exact range_old (range_at (HS7.out.task) (by omega)) _
  have S9 : W9.rangeAt w7.heap.size 0 [Value.int .i64 G.2.kind, Value.int .i64 G.2.reason, Value.int .i64 G.2.value] := by
    rw [HW9.out]; exact range_new (by simp)
  have T9 : W9.there (w.heap.size + 1 + 1) 0 14 := by
    rw [HW9.out]; exact there_old (there_set (there_below (there_ext T1 HE6.out) hX4 HK7.out.below)) _
  have U9 : W9.there (w.heap.size + 1 + 1 + 1) 0 3 := by
    rw [HW9.out]; exact there_old (there_set (there_below (there_ext U1 HE6.out) hz1 HK7.out.below)) _
  have TS9 : TskSt [boxV (w5.heap.size + 1), boxV (w.heap.size + 1 + 1), boxV (w.heap.size + 1 + 1 + 1)] w2.heap.size w5.heap.size W9 G.1 (.slice A7 G.1.frames.length c7) (.slice Ab7 G.1.blocks.length cb7) rs7 hs7 gs7 := by
    rw [HW9.out]; exact (HS7.out.off_box 10 _).mono ((Ext.refl _).alloc _)
  have C49 : Cold W9 (w.heap.size + 1 + 1) := by
    rw [HW9.out]; exact Cold.ext ((((HC4.out.ext HE6.out).keep HK7.out).1).setCell _ _) ((Ext.refl _).alloc _)
  have C59 : Cold W9 (w.heap.size + 1 + 1 + 1) := by
    rw [HW9.out]; exact Cold.ext ((((HC5.out.ext HE6.out).keep HK7.out).1).setCell _ _) ((Ext.refl _).alloc _)
  have E9 : Hid (Ext w W9) := by
    have h1 : Ext w w7 := Below.trans (HE1.out.trans HE6.out) (Below.mono HK7.out.below HE1.out.size)
    have h2 := HE1.out.size
    rw [Hid, HW9.out]
    exact (h1.setCell (show w.heap.size ≤ w5.heap.size by omega) _).alloc _
  have hsw7 : w7.heap.size < W9.heap.size := by rw [HW9.out]; simp
  have hw2 := HE1.out.size
  have TSH := Lib.hid TS9
  have C4H := Lib.hid C49
  have C5H := Lib.hid C59
  unfold tskL at R9
  clear TS9 C49 C59 HW9 m7 f7 HS7 HK7 R1 Q1 T1 U1
  refine wp_region_th 6 (fun W' => W'.rangeAt w5.heap.size 3 [Value.int .i64 G.1.fn, Value.int .i64 G.1.scope, Value.int .i64 G.1.prio, Value.int .i64 G.1.status, Value.int .i64 G.1.wkind, Value.int .i64 G.1.windex, .bool G.1.wagain, .slice A7 N7 N7, .slice Ab7 G.1.blocks.length cb7, Value.int .i64 G.1.mask, .bool G.1.unw, Value.int .i64 G.1.level, Value.int .i64 G.1.reason, Value.int .i64 G.1.result] ∧ W'.rangeAt w7.heap.size 0 [Value.int .i64 G.2.kind, Value.int .i64 G.2.reason, Value.int .i64 G.2.value]) (by kernel_rfl) (by kernel_rfl) (by kernel_rfl) (by kernel_rfl) (by decide) ?_ ?_
  · exact ⟨range_drew R9, range_drew S9⟩
  intro hT hHeld
  (refine tht 0 hT ?_; (try simp only [Act.put, aset, dZ, dS]); refine tht 1 hT ?_; (try simp only [Act.put, aset, dZ, dS]); refine tht 2 hT ?_; (try simp only [Act.put, aset, dZ, dS]))
  (refine th_take (i := 3) (oi := ?oi3_3) (v := ?v3_3) hT ?hi3_3 (by decide) (by kernel_rfl) (by kernel_rfl) ?hq3_3 (Or.inl ⟨?hw3_3, ?hy3_3⟩) (by assumption) ?rest3_3; (case hi3_3 => (simp only [List.getElem?_toArray, List.getElem?_cons_zero, List.getElem?_cons_succ]; rfl)); (case hw3_3 => rfl); (case hy3_3 => (intro w' hSw; refine Eq.trans (exec_load_mid 32 _ (by rfl) w5.heap.size 3 (by rfl) _ _ Tryz.underlying32 (by rfl) ?hiL3_3 w' (hSw.1)) ?eqL3_3; (case eqL3_3 => with_reducible rfl); exact infoTsk)); (case hq3_3 => (exact fun _ _ _ h => h)); (try simp only [Act.put, aset, dZ, dS]))
  (refine th_take (i := 4) (oi := ?oi4_4) (v := ?v4_4) hT ?hi4_4 (by decide) (by kernel_rfl) (by kernel_rfl) ?hq4_4 (Or.inl ⟨?hw4_4, ?hy4_4⟩) (by assumption) ?rest4_4; (case hi4_4 => (simp only [List.getElem?_toArray, List.getElem?_cons_zero, List.getElem?_cons_succ]; rfl)); (case hw4_4 => rfl); (case hy4_4 => (intro w' hSw; refine Eq.trans (exec_load_mid 49 _ (by rfl) w7.heap.size 0 (by rfl) _ _ Tryz.underlying49 (by rfl) ?hiL4_4 w' (hSw.2)) ?eqL4_4; (case eqL4_4 => with_reducible rfl); exact infoStop)); (case hq4_4 => (exact fun _ _ _ h => h)); (try simp only [Act.put, aset, dZ, dS]))
  refine tst 5 (fun K hK => ?_)
  have T10 : W9.drew.there (w.heap.size + 1 + 1) 0 14 := there_drew T9
  have U10 : W9.drew.there (w.heap.size + 1 + 1 + 1) 0 3 := there_drew U9
  rw [if_pos (by rfl)]
  refine wp_store_mid _ _ _ rfl _ _ (List.toArray _) rfl rfl T10 infoTsk (all_oneCell_toArray (by simp [Value.oneCell'])) ?_
  refine hK.out _ _ ⟨range_out hHeld.1 (by omega), range_out hHeld.2 (by omega)⟩ (fun hHeld => ?_)
  clear hK K
  (try simp only [Act.put, List.setIfInBounds_toArray, List.set_cons_zero, List.set_cons_succ])
  refine th_done (by kernel_rfl) ?_
  simp only [List.drop_succ_cons, List.drop_zero]
  go_wp2_with ((with_reducible show wpList _ _ _ ({ dst := _, op := Op.store 49 _ _, type := _, pos := _, after := _, guard := none } :: _) _ _); refine wpList_store_mid rfl 49 _ _ rfl _ _ _ rfl rfl (by exact tr) infoStop (all_oneCell_toArray (by simp [Value.oneCell'])) ?_; (try dsimp only [Act.put]))
  have hd : Ext W9 W9.drew := (Ext.refl _).drew
  have hfin := Lib.hid (fun (cs cs2 : List Value) => (((TSH.out.mono hd).cold (b := w.heap.size + 1 + 1) (by simp) (C4H.out.ext hd) (setCells_grown _ cs 0 _)).cold (b := w.heap.size + 1 + 1 + 1) (by simp) (((C5H.out.ext hd).grown (setCells_grown _ cs 0 _) (by omega))) (setCells_grown _ cs2 0 _)).reads HNG.out HWG.out)
  refine ret_range3 (b := w.heap.size + 1 + 1) (b2 := w.heap.size + 1 + 1 + 1) Tryz.results24 rfl rfl rfl rfl ?hl ?hl2 (ranges_two (by omega) ?t1 ?t2).1 (ranges_two (by omega) ?t3 ?t4).2 ?fin
  case hl => rfl
  case hl2 => rfl
  case t1 => exact T10
  case t2 => exact U10
  case t3 => exact T10
  case t4 => exact U10
  case fin =>
    rw [HR.out]
    refine ⟨_, rfl, ?_, ?_⟩
    · obtain ⟨Af7, cf7, ef7, hrt⟩ := hfin.out [Value.int .i64 G.1.fn, Value.int .i64 G.1.scope, Value.int .i64 G.1.prio, Value.int .i64 G.1.status, Value.int .i64 G.1.wkind, Value.int .i64 G.1.windex, .bool G.1.wagain, .slice A7 N7 N7, .slice Ab7 G.1.blocks.length cb7, Value.int .i64 G.1.mask, .bool G.1.unw, Value.int .i64 G.1.level, Value.int .i64 G.1.reason, Value.int .i64 G.1.result] [Value.int .i64 G.2.kind, Value.int .i64 G.2.reason, Value.int .i64 G.2.value]
      injection ef7 with q1 q2 q3
      rw [← q1, HN7.out] at hrt
      exact hrt
    · have h9 := E9.out
      exact xts
theorem frames_some {p : Prg} {t : Tsk} (h : tcheckS p t = 0) (hst : t.status = 1) (hu : ¬ (t.unw = true ∧ inHand t = false)) : t.frames.length ≠ 0 := fun h0 => by
  have hi : inHand t = false := inHand_nil (List.eq_nil_of_length_eq_zero h0)
  have hu' : t.unw = false := by
    cases hx : t.unw with
    | false => rfl
    | true => exact absurd ⟨hx, hi⟩ hu
  unfold tcheckS at h
  split at h
  · cases h
  rw [if_neg (by omega)] at h
  split at h
  · rename_i h1
    unfold livB at h1
    simp only [Bool.and_eq_true] at h1
    obtain ⟨⟨⟨⟨⟨⟨⟨_, _⟩, _⟩, h4⟩, _⟩, _⟩, _⟩, _⟩ := h1
    have hp : plainN t = 0 := by unfold plainN; rw [hi]; simpa using h0
    rw [hp, hu'] at h4
    simp at h4
  · cases h
theorem Advance_any (p : Prg) (t : Tsk) (VP VT : Value) (w : World) (hP : RPrg w p VP) (hT : RTsk w t VT) : Calls Tryz.prog 24 #[VP, VT] w (AdvPost p t w) := by
  by_cases hc : tcheckS p t = 0
  · by_cases hst : t.status = 1
    · by_cases hu : t.unw = true ∧ inHand t = false
      · exact Advance_unwinding p t VP VT w hP hT hc hst hu.1 hu.2
      · have hl := frames_some hc hst hu
        cases hx : t.unw with
        | false => exact Advance_go p t VP VT w hP hT hc hst hx hl
        | true =>
          cases hy : inHand t with
          | false => exact absurd ⟨hx, hy⟩ hu
          | true => exact Advance_hand p t VP VT w hP hT hc hst hx hy hl
    · exact Advance_state p t VP VT w hP hT hc hst
  · exact Advance_bad p t VP VT w hP hT hc
end Go.Proofs.YtcjjoabofecjmaaGreat

namespace Go.Proofs.YtcjjoabofecjmaaGreat
open Go.RowKit
theorem own_ints {w : World} {B : Nat} {A : Option Addr} {n c : Nat} {xs : List Int} (h : w.ownsRow B 3 1 (.slice A n c) n (xs.map (Value.int .i64))) (hn : n ≤ 1000) (hi : ∀ x ∈ xs, InR x) : RSl 1 RInt w A n xs ∧ n ≤ c := by
  obtain ⟨A', c', e, hc, _, hcs⟩ := ownsRow_shape h
  injection e with e1 e2 e3
  subst e1 e3
  have hl : n = xs.length := by have := hcs.1; rw [List.length_map] at this; omega
  refine ⟨⟨hl, by omega, fun q x hq => ?_⟩, hc⟩
  obtain ⟨b2, o2, rfl, hcell2⟩ := hcs.2 (by have := (List.getElem?_eq_some_iff.1 hq).1; omega)
  refine ⟨b2, o2, [Value.int .i64 x], rfl, rfl, ⟨rfl, hi x (List.mem_of_getElem? hq)⟩, fun j u hj => ?_⟩
  cases j with
  | zero =>
    simp only [List.getElem?_cons_zero, Option.some.injEq] at hj
    subst hj
    have := hcell2 q (Value.int .i64 x) (by rw [List.getElem?_map, hq]; rfl)
    simpa using this
  | succ j => simp at hj
theorem range_sets_other {w : World} {b o b' o' : Nat} {cs vs : List Value} (h : w.rangeAt b o cs) (hb : ¬ b = b') : (w.setCells b' o' vs).rangeAt b o cs := fun j v hj => by
  rw [World.cell?_setCells_out b' vs o' w _ (fun h1 _ => absurd h1 hb)]
  exact h j v hj
theorem one_frame {W : World} {bF g5 N : Nat} {fn result : Int} {cl : Bool} {xs : List Int} (h : W.rangeAt bF 0 [Value.int .i64 fn, Value.int .i64 0, .slice (some ⟨g5, 0, none⟩) N N, Value.int .i64 result, .bool cl]) (hr : RSl 1 RInt W (some ⟨g5, 0, none⟩) N xs) (h1 : InR fn) (h2 : InR result) :
    RSl 5 RFrm W (some ⟨bF, 0, none⟩) 1 [⟨fn, 0, xs, result, cl⟩] := by
  refine ⟨rfl, by omega, fun k x hk => ?_⟩
  cases k with
  | succ k => simp at hk
  | zero =>
    simp only [List.getElem?_cons_zero, Option.some.injEq] at hk
    subst hk
    exact ⟨bF, 0, _, rfl, rfl, ⟨_, _, _, rfl, h1, zero_in, h2, hr, Nat.le_refl _⟩, fun j v hj => by rw [Nat.zero_mul, Nat.add_zero]; exact h j v hj⟩
theorem one_block {W : World} {bB : Nat} (h : W.rangeAt bB 0 [Value.int .i64 (-1), Value.int .i64 0, Value.int .i64 0, Value.int .i64 0, .slice none 0 0]) : RSl 5 RBlk W (some ⟨bB, 0, none⟩) 1 [⟨-1, 0, 0, 0, []⟩] := by
  refine ⟨rfl, by omega, fun k x hk => ?_⟩
  cases k with
  | succ k => simp at hk
  | zero =>
    simp only [List.getElem?_cons_zero, Option.some.injEq] at hk
    subst hk
    exact ⟨bB, 0, _, rfl, rfl, ⟨_, _, _, rfl, by constructor <;> decide, zero_in, zero_in, zero_in, RSl.nil _, Nat.le_refl _⟩, fun j v hj => by rw [Nat.zero_mul, Nat.add_zero]; exact h j v hj⟩
theorem regsOf_in {N : Nat} {xs : List Int} (h : ∀ x ∈ xs, InR x) : ∀ x ∈ regsOf N xs, InR x := fun x hx => by
  rcases List.mem_append.1 hx with h1 | h1
  · exact h x h1
  · rw [List.eq_of_mem_replicate h1]; exact zero_in
def startL (k : Nat) (g : Fnc) (scope : Int) (bF bB : Nat) : List Value := [Value.int .i64 k, Value.int .i64 scope, Value.int .i64 g.prio, Value.int .i64 1, Value.int .i64 0, Value.int .i64 0, .bool false, .slice (some ⟨bF, 0, none⟩) 1 1, .slice (some ⟨bB, 0, none⟩) 1 1, Value.int .i64 0, .bool false, Value.int .i64 0, Value.int .i64 0, Value.int .i64 0]
theorem start_fin {w X : World} {k bF bB g5 N B : Nat} {g : Fnc} {args : List Int} {scope : Int} (hX : Ext w X) (hB : w.heap.size + 2 ≤ B) (hN : g.regs = (N : Int)) (hN2 : N ≤ 1000) (h1 : w.heap.size + 1 < bF) (h2 : w.heap.size + 1 < bB)
    (hF : X.rangeAt bF 0 [Value.int .i64 k, Value.int .i64 0, .slice (some ⟨g5, 0, none⟩) N N, Value.int .i64 (-1), .bool false]) (hBl : X.rangeAt bB 0 [Value.int .i64 (-1), Value.int .i64 0, Value.int .i64 0, Value.int .i64 0, .slice none 0 0]) (ho : X.ownsRow B 3 1 (.slice (some ⟨g5, 0, none⟩) N N) N ((regsOf N args).map (Value.int .i64)))
    (ha : ∀ x ∈ args, InR x) (hk : InR (k : Int)) (hs : InR scope) (hp : InR g.prio) :
    RTsk (X.setCells (w.heap.size + 1) 0 (startL k g scope bF bB)) (firstTsk k g args scope) (.agg (startL k g scope bF bB).toArray) ∧ Ext w (X.setCells (w.heap.size + 1) 0 (startL k g scope bF bB)) := by
  refine ⟨?_, hX.setCells (by omega) 0 _⟩
  have e : g.regs.toNat = N := by omega
  refine rtsk_of (t := firstTsk k g args scope) ⟨hk, hs, hp, by constructor <;> (show _ ≤ (_ : Int)) <;> simp [firstTsk], zero_in, zero_in, zero_in, zero_in, zero_in, zero_in⟩ ?_ (Nat.le_refl 1) ?_ (Nat.le_refl 1)
  · show RSl 5 RFrm _ _ _ [⟨(k : Int), 0, regsOf g.regs.toNat args, -1, false⟩]
    rw [e]
    exact one_frame (range_sets_other hF (by omega)) (own_ints (own_setCells ho (by omega)) hN2 (regsOf_in ha)).1 hk (by constructor <;> decide)
  · exact one_block (range_sets_other hBl (by omega))
theorem start_fin2 {w Y : World} {k bF bB g5 N B : Nat} {g : Fnc} {args : List Int} {scope : Int} (hN : g.regs = (N : Int)) (hN2 : N ≤ 1000)
    (hF : Y.rangeAt bF 0 [Value.int .i64 k, Value.int .i64 0, .slice (some ⟨g5, 0, none⟩) N N, Value.int .i64 (-1), .bool false]) (hBl : Y.rangeAt bB 0 [Value.int .i64 (-1), Value.int .i64 0, Value.int .i64 0, Value.int .i64 0, .slice none 0 0]) (ho : Y.ownsRow B 3 1 (.slice (some ⟨g5, 0, none⟩) N N) N ((regsOf N args).map (Value.int .i64)))
    (ha : ∀ x ∈ args, InR x) (hk : InR (k : Int)) (hs : InR scope) (hp : InR g.prio) :
    RTsk Y (firstTsk k g args scope) (.agg (startL k g scope bF bB).toArray) := by
  have e : g.regs.toNat = N := by omega
  refine rtsk_of (t := firstTsk k g args scope) ⟨hk, hs, hp, by constructor <;> (show _ ≤ (_ : Int)) <;> simp [firstTsk], zero_in, zero_in, zero_in, zero_in, zero_in, zero_in⟩ ?_ (Nat.le_refl 1) ?_ (Nat.le_refl 1)
  · show RSl 5 RFrm _ _ _ [⟨(k : Int), 0, regsOf g.regs.toNat args, -1, false⟩]
    rw [e]
    exact one_frame hF (own_ints ho hN2 (regsOf_in ha)).1 hk (by constructor <;> decide)
  · exact one_block hBl
end Go.Proofs.YtcjjoabofecjmaaGreat

namespace Go.Proofs.YtcjjoabofecjmaaGreat
open Go.RowKit
theorem chain14 (X : World) (b : Nat) (v0 v1 v2 v3 v4 v5 v6 v7 v8 v9 v10 v11 v12 v13 : Value) : ((((((((((((((X.setCell ⟨b, 0, none⟩ v0).setCell ⟨b, 1, none⟩ v1).setCell ⟨b, 2, none⟩ v2).setCell ⟨b, 3, none⟩ v3).setCell ⟨b, 4, none⟩ v4).setCell ⟨b, 5, none⟩ v5).setCell ⟨b, 6, none⟩ v6).setCell ⟨b, 7, none⟩ v7).setCell ⟨b, 8, none⟩ v8).setCell ⟨b, 9, none⟩ v9).setCell ⟨b, 10, none⟩ v10).setCell ⟨b, 11, none⟩ v11).setCell ⟨b, 12, none⟩ v12).setCell ⟨b, 13, none⟩ v13) = X.setCells b 0 [v0, v1, v2, v3, v4, v5, v6, v7, v8, v9, v10, v11, v12, v13] := rfl
theorem check_params {p : Prg} (h : checkS p = 0) : ∀ g : Fnc, g ∈ p.funcs → g.params ≤ g.regs := fun g hg => by
  obtain ⟨i, hi, rfl⟩ := List.getElem_of_mem hg
  have h1 := check_fn h hi
  unfold checkFnS at h1
  rw [List.getElem?_eq_getElem hi] at h1
  dsimp only at h1
  split at h1
  · cases h1
  · split at h1
    · cases h1
    · split at h1
      · cases h1
      · rename_i h2
        simp only [not_or, Bool.not_eq_false, inB_iff] at h2
        omega
set_option maxRecDepth 4000 in
set_option maxHeartbeats 4000000 in
theorem Start_ok (p : Prg) (k : Nat) (g : Fnc) (args : List Int) (scope : Int) (VP : Value) (A : Option Addr) (n c : Nat) (w : World) (hP : RPrg w p VP) (hA : RSl 1 RInt w A n args) (hf : InR (k : Int)) (hs : InR scope)
    (hc : checkS p = 0) (hfn : fnAt p k = some g) (hcl : g.cleanup = false) (hpm : (n : Int) = g.params) (hq : args.all numB = true) (hs0 : ¬ scope < 0) (hs1 : ¬ (32 : Int) ≤ scope) :
    Calls Tryz.prog 21 #[VP, Value.int .i64 k, .slice A n c, Value.int .i64 scope] w fun e w' => ∃ V', e = .returned (.tuple #[V', Value.int .i64 0]) ∧ RTsk w' (firstTsk k g args scope) V' ∧ Ext w w' := by
  have HC := Lib.hid (fun W h => Check_any p VP W (hP.mono h))
  obtain ⟨Af, nf, cf, Ao, no, co, Av, nv, cv, rfl, hF, hO, hVr, hcf, hco, hcv⟩ := hP
  clear hO hVr hcf hco hcv
  have hle := hF.le
  have hnl := hA.le
  have HL := Lib.hid hF.len
  have HN := Lib.hid hA.len
  have HA := Lib.hid hA
  have HFI := Lib.hid hf
  have HSI := Lib.hid hs
  have HF := Lib.hid hF
  have HPO := Lib.hid (check_regs hc)
  have HC0 := Lib.hid hc
  rw [hc] at HC
  obtain ⟨h0, h1, h2⟩ := fnAt_some hfn
  obtain ⟨b, off, Ac, nc, cc, rfl, hlb, hsz, i1, i2, i3, ⟨hCd, hcc⟩, c0, c1, c2, c3, c4, c5⟩ := HF.out.fnc h2
  have hlt : (k : Int) < (nf : Int) := by have := HL.out; omega
  have hf0 : ¬ (k : Int) < 0 := by omega
  have hf1 : ¬ (nf : Int) ≤ (k : Int) := by omega
  have hrg := HPO.out g (List.mem_of_getElem? h2)
  have HG2 := Lib.hid i3
  have HO : Hid (∀ W, Ext w W → Calls Tryz.prog 58 #[.slice A n c, .func (.func 59) #[] #[]] W fun e w' => e = .returned (.bool (!true)) ∧ Ext W w') := fun W hW => by
    have := outs_any A n c args W (HA.out.mono RInt.stays hW)
    rw [hq] at this
    exact this
  have e0 : ((n : Int) != g.params) = false := by simpa using hpm
  have HPR : Hid ((n : Int) = g.params ∧ g.params ≤ g.regs) := ⟨hpm, check_params hc g (List.mem_of_getElem? h2)⟩
  rw [hcl] at c4
  clear hF hA hf hs hc hfn h1 h2 i1 i2 i3 hCd hcl hpm hq
  rw [Int.toNat_natCast] at c0 c1 c2 c3 c4 c5
  go_enter Tryz.func21, Tryz.ntmps21
  go_wp2_with (first | ((with_reducible show wpList _ _ _ ({ dst := _, op := Op.store 32 _ _, type := _, pos := _, after := _, guard := none } :: _) _ _); refine wpList_store_mid rfl 32 _ _ rfl _ _ _ rfl rfl (by exact tr) infoTsk (all_oneCell_toArray (by simp [Value.oneCell'])) ?_; (try dsimp only [Act.put])) | (go_at_call 45; refine (HC.out _ xt).mono ?_; rintro e w1 ⟨rfl, hb⟩; have Z1 := range_ext (b := w.heap.size + 1) (o := 0) (cs := [Value.int .i64 0, Value.int .i64 0, Value.int .i64 0, Value.int .i64 0, Value.int .i64 0, Value.int .i64 0, .bool false, .slice none 0 0, .slice none 0 0, Value.int .i64 0, .bool false, Value.int .i64 0, Value.int .i64 0, Value.int .i64 0]) (by exact rg) hb; have T1 := there_ext (b := w.heap.size + 1) (o := 0) (n := 14) (by exact tr) hb; obtain ⟨hc, hf, hs, he⟩ := Ext.use (w := w) hb xt; clear hb; (try simp only [World.size_alloc] at hs)) | (go_at_call 58; refine (HO.out _ xt).mono ?_; rintro e w2 ⟨rfl, hb⟩; have Z2 := range_ext Z1 hb; have T2 := there_ext T1 hb; obtain ⟨hc2, hf2, hs2, he2⟩ := Ext.use (w := w) hb xt; clear hb))
  refine wp_hid2 ?_
  intro W4 HW4
  have HE4 : Ext w W4 := by rw [HW4.out]; exact he2
  have T4 : W4.there (w.heap.size + 1) 0 14 := by rw [HW4.out]; exact T2
  have k0 : W4.cell? ⟨w.heap.size, 0, none⟩ = some (.slice (some ⟨b, off, none⟩) nf cf) := by rw [HW4.out, hc2, if_pos (by omega), hc]; simp [go_sem]
  have hs4 : w.heap.size + 1 < W4.heap.size := by rw [HW4.out]; omega
  have F4 : ∀ o, W4.frozen? ⟨w.heap.size + 1, o, none⟩ = false := fun o => by rw [HW4.out, hf2, if_pos (by omega), hf, if_pos (by simp)]; simp [go_sem]
  have Z4 : W4.rangeAt (w.heap.size + 1) 0 [Value.int .i64 0, Value.int .i64 0, Value.int .i64 0, Value.int .i64 0, Value.int .i64 0, Value.int .i64 0, .bool false, .slice none 0 0, .slice none 0 0, Value.int .i64 0, .bool false, Value.int .i64 0, Value.int .i64 0, Value.int .i64 0] := by rw [HW4.out]; exact Z2
  have z0 : W4.cell? ⟨w.heap.size + 1, 0, none⟩ = some (Value.int .i64 0) := Z4 0 _ rfl
  have z1 : W4.cell? ⟨w.heap.size + 1, 1, none⟩ = some (Value.int .i64 0) := Z4 1 _ rfl
  have z2 : W4.cell? ⟨w.heap.size + 1, 2, none⟩ = some (Value.int .i64 0) := Z4 2 _ rfl
  have z3 : W4.cell? ⟨w.heap.size + 1, 3, none⟩ = some (Value.int .i64 0) := Z4 3 _ rfl
  have z4 : W4.cell? ⟨w.heap.size + 1, 4, none⟩ = some (Value.int .i64 0) := Z4 4 _ rfl
  have z5 : W4.cell? ⟨w.heap.size + 1, 5, none⟩ = some (Value.int .i64 0) := Z4 5 _ rfl
  have z6 : W4.cell? ⟨w.heap.size + 1, 6, none⟩ = some (.bool false) := Z4 6 _ rfl
  have z7 : W4.cell? ⟨w.heap.size + 1, 7, none⟩ = some (.slice none 0 0) := Z4 7 _ rfl
  have z8 : W4.cell? ⟨w.heap.size + 1, 8, none⟩ = some (.slice none 0 0) := Z4 8 _ rfl
  have z9 : W4.cell? ⟨w.heap.size + 1, 9, none⟩ = some (Value.int .i64 0) := Z4 9 _ rfl
  have z10 : W4.cell? ⟨w.heap.size + 1, 10, none⟩ = some (.bool false) := Z4 10 _ rfl
  have z11 : W4.cell? ⟨w.heap.size + 1, 11, none⟩ = some (Value.int .i64 0) := Z4 11 _ rfl
  have z12 : W4.cell? ⟨w.heap.size + 1, 12, none⟩ = some (Value.int .i64 0) := Z4 12 _ rfl
  have z13 : W4.cell? ⟨w.heap.size + 1, 13, none⟩ = some (Value.int .i64 0) := Z4 13 _ rfl
  clear HW4 hc hc2 hf hf2 T1 T2
  obtain ⟨N, hN⟩ : ∃ N : Nat, g.regs = (N : Int) := ⟨g.regs.toNat, by omega⟩
  have d0 := HE4.cell c0
  have d1 := HE4.cell c1
  have d2 := HE4.cell c2
  rw [hN] at d2
  have d3 := HE4.cell c3
  have d4 := HE4.cell c4
  have d5 := HE4.cell c5
  have hlb4 : b < W4.heap.size := Nat.lt_of_lt_of_le hlb HE4.size
  clear c0 c1 c2 c3 c4 c5
  have hs6 : w.heap.size < W4.heap.size := by omega
  have hbn1 : ¬ b = w.heap.size + 1 := by omega
  have hbn2 : ¬ w.heap.size + 1 = b := by omega
  have HNN := Lib.hid hN
  have HLE : Hid (args.length ≤ N) := by have h1 := HN.out; have h2 := HPR.out; rw [Hid]; omega
  go_region_held3 (fun W' => W'.cell? ⟨w.heap.size, 0, none⟩ = some (.slice (some ⟨b, off, none⟩) nf cf) ∧ W'.cell? ⟨b, off + k * 6, none⟩ = some (.string g.name) ∧ W'.cell? ⟨b, off + k * 6 + 1, none⟩ = some (Value.int .i64 g.params) ∧ W'.cell? ⟨b, off + k * 6 + 2, none⟩ = some (Value.int .i64 (N : Int)) ∧ W'.cell? ⟨b, off + k * 6 + 3, none⟩ = some (Value.int .i64 g.prio) ∧ W'.cell? ⟨b, off + k * 6 + 4, none⟩ = some (.bool false) ∧ W'.cell? ⟨b, off + k * 6 + 5, none⟩ = some (.slice Ac nc cc))
    ((repeat' (with_reducible apply And.intro)) <;> (go_simp; done))
    ((go_at_call 60; refine (registers_any _ _ _ _ _ N args A n c _ (HA.out.mono RInt.stays xt) HLE.out (by omega)).mono ?_; rintro e w5 ⟨g5, rfl, hg5, hown5, hb5⟩; have HB5 := Lib.hid hb5; obtain ⟨hc5, hf5, hs5, he5⟩ := Ext.use (w := W4) hb5 xt; clear hb5; (try simp only [World.size_drew, World.size_alloc] at hs5); have hs7 : w.heap.size < w5.heap.size := (by omega); have hlb5 : b < w5.heap.size := (by omega); have hs8 : w.heap.size + 1 < w5.heap.size := (by omega)))
  all_goals
    have HAI : Hid (∀ x ∈ args, InR x) := fun x hx => by
      obtain ⟨i, hi, rfl⟩ := List.getElem_of_mem hx
      exact (HA.out.int (List.getElem?_eq_getElem hi)).choose_spec.choose_spec.2.2.1
    have he45 := HE4.trans he5
    have T5 := there_ext T4 he5
    generalize hWF : World.setCell _ _ _ = WF
    have HWF := Lib.hid hWF
    clear hWF
    go_wp2
  · obtain ⟨B5, hB5, hown5⟩ : ∃ B, w.heap.size + 2 ≤ B ∧ w5.ownsRow B 3 1 (.slice (some ⟨g5, 0, none⟩) N N) N ((regsOf N args).map (Value.int .i64)) := ⟨_, by simp; omega, hown5⟩
    have hW2 := HWF.out
    rw [chain14] at hW2
    have RW : WF.rangeAt (w.heap.size + 1) 0 (startL k g scope (w5.heap.size) (w5.heap.size + 1)) := by
      rw [← hW2]
      exact World.rangeAt_setCells_same _ _ 0 _ (by show World.there _ _ 0 14; exact tr)
    have EW : Ext w WF := by rw [← hW2]; exact he45.setCells (by omega) 0 _
    have OW : WF.ownsRow B5 3 1 (.slice (some ⟨g5, 0, none⟩) N N) N ((regsOf N args).map (Value.int .i64)) := by rw [← hW2]; exact own_setCells hown5 (by omega)
    have SW : WF.heap.size = w5.heap.size := by rw [← hW2]; exact setCells_size _ _ _ _
    refine ret_range2 (b := w.heap.size + 1) (cs := startL k g scope (w5.heap.size) (w5.heap.size + 1)) Tryz.results21 rfl rfl rfl rfl (range_old (range_old RW _) _) ⟨_, rfl, start_fin2 (B := B5) (N := N) (g5 := g5) (g := g) (args := args) (w := w) HNN.out (by omega) ?_ ?_ (ownsRow_ext OW ?_) HAI.out HFI.out HSI.out HG2.out, ?_⟩
    · exact range_old (range_new (t := 62) SW.symm) _
    · exact range_new (by simp [SW])
    · exact xt
    · exact xt
  · obtain ⟨B5, hB5, hown5⟩ : ∃ B, w.heap.size + 2 ≤ B ∧ w5.ownsRow B 3 1 (.slice (some ⟨g5, 0, none⟩) N N) N ((regsOf N args).map (Value.int .i64)) := ⟨_, by simp; omega, hown5⟩
    have hW2 := HWF.out
    rw [chain14] at hW2
    have RW : WF.rangeAt (w.heap.size + 1) 0 (startL k g scope (w5.heap.size + 1) (w5.heap.size)) := by
      rw [← hW2]
      exact World.rangeAt_setCells_same _ _ 0 _ (by show World.there _ _ 0 14; exact tr)
    have EW : Ext w WF := by rw [← hW2]; exact he45.setCells (by omega) 0 _
    have OW : WF.ownsRow B5 3 1 (.slice (some ⟨g5, 0, none⟩) N N) N ((regsOf N args).map (Value.int .i64)) := by rw [← hW2]; exact own_setCells hown5 (by omega)
    have SW : WF.heap.size = w5.heap.size := by rw [← hW2]; exact setCells_size _ _ _ _
    refine ret_range2 (b := w.heap.size + 1) (cs := startL k g scope (w5.heap.size + 1) (w5.heap.size)) Tryz.results21 rfl rfl rfl rfl (range_old (range_old RW _) _) ⟨_, rfl, start_fin2 (B := B5) (N := N) (g5 := g5) (g := g) (args := args) (w := w) HNN.out (by omega) ?_ ?_ (ownsRow_ext OW ?_) HAI.out HFI.out HSI.out HG2.out, ?_⟩
    · exact range_new (by simp [SW])
    · exact range_old (range_new (t := 55) SW.symm) _
    · exact xt
    · exact xt
  · obtain ⟨B5, hB5, hown5⟩ : ∃ B, w.heap.size + 2 ≤ B ∧ w5.ownsRow B 3 1 (.slice (some ⟨g5, 0, none⟩) N N) N ((regsOf N args).map (Value.int .i64)) := ⟨_, by simp; omega, hown5⟩
    have RB5 := range_ext (b := W4.heap.size) (o := 0) (cs := [Value.int .i64 (-1), Value.int .i64 0, Value.int .i64 0, Value.int .i64 0, .slice none 0 0]) (by exact rg) HB5.out
    have hW2 := HWF.out
    rw [chain14] at hW2
    have RW : WF.rangeAt (w.heap.size + 1) 0 (startL k g scope (w5.heap.size) (W4.heap.size)) := by
      rw [← hW2]
      exact World.rangeAt_setCells_same _ _ 0 _ (by show World.there _ _ 0 14; exact tr)
    have EW : Ext w WF := by rw [← hW2]; exact he45.setCells (by omega) 0 _
    have OW : WF.ownsRow B5 3 1 (.slice (some ⟨g5, 0, none⟩) N N) N ((regsOf N args).map (Value.int .i64)) := by rw [← hW2]; exact own_setCells hown5 (by omega)
    have SW : WF.heap.size = w5.heap.size := by rw [← hW2]; exact setCells_size _ _ _ _
    have BW : WF.rangeAt W4.heap.size 0 [Value.int .i64 (-1), Value.int .i64 0, Value.int .i64 0, Value.int .i64 0, .slice none 0 0] := by rw [← hW2]; exact range_sets_other RB5 (by omega)
    refine ret_range2 (b := w.heap.size + 1) (cs := startL k g scope (w5.heap.size) (W4.heap.size)) Tryz.results21 rfl rfl rfl rfl (range_old RW _) ⟨_, rfl, start_fin2 (B := B5) (N := N) (g5 := g5) (g := g) (args := args) (w := w) HNN.out (by omega) ?_ ?_ (ownsRow_ext OW ?_) HAI.out HFI.out HSI.out HG2.out, ?_⟩
    · exact range_new SW.symm
    · exact range_old BW _
    · exact xt
    · exact xt
end Go.Proofs.YtcjjoabofecjmaaGreat
