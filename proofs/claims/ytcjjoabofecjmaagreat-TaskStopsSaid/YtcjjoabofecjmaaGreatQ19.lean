/- A part of the proof: TaskStops answers true, for whatever program and task. -/
import Derived.Test.YtcjjoabofecjmaaGreatQ18
set_option linter.unusedVariables false
set_option linter.unusedSimpArgs false
namespace Go.Proofs.YtcjjoabofecjmaaGreat
open Go.RowKit Go.Sort
theorem cur_now {p : Prg} {t : Tsk} (h : (currentS p t).2 = true) : nowS p t = some (currentS p t).1 := by
  unfold currentS at *
  split
  · rename_i hh; rw [if_pos hh] at h; cases h
  · rename_i hh
    rw [if_neg hh] at h
    cases hn : nowS p t with
    | none => rw [hn] at h; cases h
    | some x => rfl
theorem cur_of {p : Prg} {t : Tsk} {x : Ins} (hc : tcheckS p t = 0) (hl : 1 ≤ t.frames.length) (hx : nowS p t = some x) : currentS p t = (x, true) := by
  unfold currentS
  rw [if_neg (by rw [hc]; simp; intro h; rw [h] at hl; simp at hl), hx]
theorem stops_any (p : Prg) (t : Tsk) (VP VT : Value) (w : World) (hP : RPrg w p VP) (hT : RTsk w t VT) : Calls Tryz.prog 6 #[VP, VT] w fun e w' => e = .returned (.bool true) ∧ Ext w w' := by
  cases hg : (greatP p || greatT t) with
  | true => exact stops_great p t VP VT w hP hT hg
  | false =>
    rcases tcheck_is p t with hc | hc
    · by_cases hst : t.status = 1
      · by_cases hu : t.unw = true ∧ inHand t = false
        · have hA : advanceS p t = (t, ⟨5, 0, 0⟩, 0) := by unfold advanceS; rw [if_neg (by rw [hc]; decide), if_neg (by rw [hst]; decide), if_pos hu]
          exact stops_again p t t VP VT w 5 _ _ hP hT hg hA hA rfl (.inr rfl)
        · have hl := frames_some hc hst hu
          have hA : advanceS p t = ((runS p 500 t 0).1, (runS p 500 t 0).2, 0) := by unfold advanceS; rw [if_neg (by rw [hc]; decide), if_neg (by rw [hst]; decide), if_neg hu]
          obtain ⟨u, hr, hv, hs, _, h | ⟨h, hx⟩⟩ := (adv_stop hc hst hu hl).end'
          · obtain ⟨h, x, hx, hvis⟩ := h
            rw [h] at hA
            have hcu := adv_valid hc hst hs hr hv
            have hsu : u.status = 1 := by rw [hs.status]; exact hst
            have hcur := cur_of hcu hr.pos hx
            have hA2 : advanceS p u = (u, ⟨1, 0, 0⟩, 0) := by
              unfold advanceS
              rw [if_neg (by rw [hcu]; decide), if_neg (by rw [hsu]; decide), if_neg (fun hh => by have := hv.hand hh.1; rw [hh.2] at this; cases this)]
              obtain ⟨f, hf⟩ := hr.top
              obtain ⟨g, hgg⟩ := hr.fr _ f hf
              have hnow := now_at hf hgg
              rw [hx] at hnow
              unfold runS
              rw [hf]
              dsimp only
              rw [hgg.fn]
              dsimp only
              rw [← hnow]
              dsimp only
              rw [hvis, if_pos rfl]
            exact stops_again p t u VP VT w 1 x true hP hT hg hA hA2 hcur (.inl ⟨rfl, rfl, hvis⟩)
          · have hnv : ∀ y : Tsk, y = u → (currentS p y).2 = true → visS (currentS p y).1.op = false := fun y hy hh => by subst hy; exact hx _ (cur_now hh)
            rcases h with ⟨v, h⟩ | ⟨q, hq, h⟩ | ⟨h, _⟩
            · rw [h] at hA
              exact stops_early p t u VP VT w 2 0 v (currentS p u).1 (currentS p u).2 hP hT hg hA rfl (.inl ⟨rfl, rfl, hnv u rfl⟩)
            · rw [h] at hA
              exact stops_early p t u VP VT w 3 q 0 (currentS p u).1 (currentS p u).2 hP hT hg hA rfl (.inr (.inl ⟨rfl, hq, rfl, hnv u rfl⟩))
            · rw [h] at hA
              exact stops_early p t (popT u) VP VT w 4 0 0 (currentS p (popT u)).1 (currentS p (popT u)).2 hP hT hg hA rfl (.inr (.inr ⟨rfl, rfl, rfl⟩))
      · have hA : advanceS p t = (zeroTsk, ⟨0, 0, 0⟩, 17) := by unfold advanceS; rw [if_neg (by rw [hc]; decide), if_pos hst]; rfl
        exact stops_err p t _ VP VT w 17 hP hT hg hA (.inr ⟨rfl, hc, hst⟩)
    · have hA : advanceS p t = (zeroTsk, ⟨0, 0, 0⟩, 1) := by unfold advanceS; rw [if_pos (by rw [hc]; decide)]; rfl
      exact stops_err p t _ VP VT w 1 hP hT hg hA (.inl ⟨rfl, hc⟩)
end Go.Proofs.YtcjjoabofecjmaaGreat
