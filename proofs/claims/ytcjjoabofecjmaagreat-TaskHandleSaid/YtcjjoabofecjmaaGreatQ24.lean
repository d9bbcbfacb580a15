/- A part of the proof: A task that runs stays valid; What Handle of chapter 28 returns, in plain logic; sizes of a valid task; Handle of package task; Handle of package task where no handler begins; Handle of the reference of layer 28 where no handler begins. -/
import Derived.Test.YtcjjoabofecjmaaGreatQ12
import Derived.Test.YtcjjoabofecjmaaGreatQ15
import Derived.Test.YtcjjoabofecjmaaGreatQ08
import Derived.Test.YtcjjoabofecjmaaGreatQ22
set_option linter.unusedVariables false
set_option linter.unusedSimpArgs false
namespace Go.Proofs.YtcjjoabofecjmaaGreat
open Go.RowKit
def skF (f : Frm) : Int × Int × Bool := (f.fn, f.result, f.cleanup)
def skB (b : Blk) : Int × Int × Int × Int := (b.scope, b.depth, b.exit, b.mask)
structure Live (p : Prg) (t : Tsk) : Prop where
  fst : ∀ f, t.frames[0]? = some f → f.cleanup = false → f.fn = t.fn ∧ f.result = -1
  cres : ∀ (i : Nat) f, t.frames[i]? = some f → f.cleanup = true → f.result = -1
  blks : blksB p t.blocks = true
  mask : leastI t ≤ t.mask ∧ t.mask ≤ mostI t
  zero : plainN t = 0 → t.unw = true ∧ t.level = 0
  lvl : t.level ≠ 0 → t.unw = true ∧ 2 ≤ t.level ∧ t.level ≤ t.blocks.length
  unw : t.unw = true → (t.level = 0 → plainN t = 0) ∧ (0 < t.level → (plainN t : Int) = depthAt t (t.level - 1))
  keep : ∀ i, 1 ≤ i → i < keepsN t → keepB p t i = true
  hand : t.unw = true → inHand t = true
theorem sk_get {α β : Type} {g : α → β} {l l' : List α} (h : l'.map g = l.map g) {i : Nat} {x' : α} (hx : l'[i]? = some x') : ∃ x, l[i]? = some x ∧ g x' = g x := by
  have h1 : (l'.map g)[i]? = (l.map g)[i]? := by rw [h]
  rw [List.getElem?_map, List.getElem?_map, hx] at h1
  cases hl : l[i]? with
  | none => rw [hl] at h1; cases h1
  | some x => rw [hl] at h1; injection h1 with h1; exact ⟨x, rfl, h1⟩
theorem sk_len {α β : Type} {g : α → β} {l l' : List α} (h : l'.map g = l.map g) : l'.length = l.length := by
  have := congrArg List.length h
  simpa using this
theorem map_set_same {α β : Type} {g : α → β} {l : List α} {k : Nat} {x y : α} (hx : l[k]? = some x) (hg : g y = g x) : (l.set k y).map g = l.map g := by
  apply List.ext_getElem?
  intro i
  rw [List.getElem?_map, List.getElem?_map, List.getElem?_set]
  split
  · rename_i e
    subst e
    rw [if_pos (List.getElem?_eq_some_iff.1 hx).1, hx]
    simp [hg]
  · rfl
theorem inHand_sk {t t' : Tsk} (h : t'.frames.map skF = t.frames.map skF) : inHand t' = inHand t := by
  have hh : ∀ u : Tsk, inHand u = (match (u.frames.map skF).getLast? with | some s => s.2.2 | none => false) := fun u => by
    unfold inHand
    rw [List.getLast?_map]
    cases u.frames.getLast? <;> rfl
  rw [hh, hh, h]
theorem plainN_sk {t t' : Tsk} (h : t'.frames.map skF = t.frames.map skF) : plainN t' = plainN t := by
  unfold plainN
  rw [inHand_sk h, sk_len h]
theorem keepB_iff {p : Prg} {t : Tsk} {i : Nat} : keepB p t i = true ↔ ∃ b f g x, t.blocks[i]? = some b ∧ b.depth ≤ (plainN t : Int) ∧ t.frames[(b.depth - 1).toNat]? = some f ∧ fnAt p f.fn = some g ∧ (0 ≤ b.exit ∧ b.exit ≤ (g.code.length : Int) - 1) ∧ g.code[b.exit.toNat]? = some x ∧ x.op = 36 := by
  constructor
  · intro h
    unfold keepB at h
    cases hb : t.blocks[i]? with
    | none => rw [hb] at h; cases h
    | some b =>
      rw [hb] at h
      simp only [Bool.and_eq_true, decide_eq_true_eq] at h
      obtain ⟨h1, h2⟩ := h
      cases hf : t.frames[(b.depth - 1).toNat]? with
      | none => rw [hf] at h2; cases h2
      | some f =>
        rw [hf] at h2
        dsimp only at h2
        cases hg : fnAt p f.fn with
        | none => rw [hg] at h2; cases h2
        | some g =>
          rw [hg] at h2
          simp only [Bool.and_eq_true, inB_iff] at h2
          obtain ⟨h3, h4⟩ := h2
          cases hx : g.code[b.exit.toNat]? with
          | none => rw [hx] at h4; cases h4
          | some x => rw [hx] at h4; exact ⟨b, f, g, x, rfl, h1, hf, hg, h3, hx, by simpa using h4⟩
  · rintro ⟨b, f, g, x, hb, h1, hf, hg, h3, hx, h4⟩
    unfold keepB
    rw [hb]
    dsimp only
    rw [hf]
    dsimp only
    rw [hg]
    dsimp only
    rw [hx]
    simp only [Bool.and_eq_true, decide_eq_true_eq, inB_iff]
    exact ⟨h1, h3, by simpa using h4⟩
theorem keepB_mono {p : Prg} {t t' : Tsk} {i : Nat} (h : keepB p t i = true) (hB : t'.blocks.map skB = t.blocks.map skB) (hd : ∀ b, t.blocks[i]? = some b → b.depth ≤ (plainN t' : Int))
    (hF : ∀ b f, t.blocks[i]? = some b → t.frames[(b.depth - 1).toNat]? = some f → ∃ f', t'.frames[(b.depth - 1).toNat]? = some f' ∧ f'.fn = f.fn) : keepB p t' i = true := by
  obtain ⟨b, f, g, x, hb, _, hf, hg, h3, hx, h4⟩ := keepB_iff.1 h
  obtain ⟨b', hb', he⟩ := sk_get hB.symm hb
  obtain ⟨f', hf', hfn⟩ := hF b f hb hf
  simp only [skB, Prod.mk.injEq] at he
  obtain ⟨e1, e2, e3, e4⟩ := he
  exact keepB_iff.2 ⟨b', f', g, x, hb', by rw [← e2]; exact hd b hb, by rw [← e2]; exact hf', by rw [hfn]; exact hg, by rw [← e3]; exact h3, by rw [← e3]; exact hx, h4⟩
theorem depthAt_sk {t t' : Tsk} (h : t'.blocks.map skB = t.blocks.map skB) (k : Int) : depthAt t' k = depthAt t k := by
  unfold depthAt
  cases hb : t'.blocks[k.toNat]? with
  | none =>
    cases hc : t.blocks[k.toNat]? with
    | none => rfl
    | some c => obtain ⟨b, e, _⟩ := sk_get h.symm hc; rw [hb] at e; cases e
  | some b =>
    obtain ⟨c, e, e2⟩ := sk_get h hb
    rw [e]
    simp only [skB, Prod.mk.injEq] at e2
    exact e2.2.1
theorem Live.same {p : Prg} {t t' : Tsk} (l : Live p t) (hF : t'.frames.map skF = t.frames.map skF) (hB : t'.blocks.map skB = t.blocks.map skB) (hb : blksB p t'.blocks = true) (hfn : t'.fn = t.fn) (hu : t'.unw = t.unw) (hl : t'.level = t.level) (hm : leastI t ≤ t'.mask ∧ t'.mask ≤ mostI t) : Live p t' := by
  have e1 := inHand_sk hF
  have e2 := plainN_sk hF
  have e3 : keepsN t' = keepsN t := by unfold keepsN; rw [hu, hl, sk_len hB]
  refine ⟨fun f hf hc => ?_, fun i f hf hc => ?_, hb, by unfold leastI mostI at *; rw [e1]; exact hm, by rw [e2, hu, hl]; exact l.zero, by rw [hu, hl, sk_len hB]; exact l.lvl, ?_, fun i h1 h2 => ?_, by rw [hu, e1]; exact l.hand⟩
  · obtain ⟨x, hx, e⟩ := sk_get hF hf
    simp only [skF, Prod.mk.injEq] at e
    rw [e.1, e.2.1, hfn]
    exact l.fst x hx (by rw [← e.2.2]; exact hc)
  · obtain ⟨x, hx, e⟩ := sk_get hF hf
    simp only [skF, Prod.mk.injEq] at e
    rw [e.2.1]
    exact l.cres i x hx (by rw [← e.2.2]; exact hc)
  · rw [hu, hl, e2, depthAt_sk hB]; exact l.unw
  · have hk := l.keep i h1 (by omega)
    refine keepB_mono hk hB (fun b hb => ?_) (fun b f hb hf => ?_)
    · obtain ⟨b', _, _, _, hb', hd, _⟩ := keepB_iff.1 hk
      rw [hb] at hb'; injection hb' with hb'; subst hb'
      rw [e2]; exact hd
    · obtain ⟨x, hx, e⟩ := sk_get hF.symm hf
      simp only [skF, Prod.mk.injEq] at e
      exact ⟨x, hx, e.1.symm⟩
theorem blk_at {p : Prg} {bs : List Blk} (h : blksB p bs = true) {i : Nat} {b : Blk} (hb : bs[i]? = some b) : b.handlers.length ≤ 8 ∧ (∀ x ∈ b.handlers, hdlB p x = true) ∧ (i = 0 → b.scope = -1 ∧ b.depth = 0 ∧ b.exit = 0 ∧ b.mask = 0) ∧
    (1 ≤ i → ∃ a, bs[i - 1]? = some a ∧ (0 ≤ b.scope ∧ b.scope ≤ 31) ∧ (1 ≤ b.depth ∧ b.depth ≤ 8) ∧ (0 ≤ b.mask ∧ b.mask ≤ 100) ∧ a.scope < b.scope ∧ a.depth ≤ b.depth) := by
  unfold blksB at h
  simp only [Bool.and_eq_true, inB_iff] at h
  have hi := (List.getElem?_eq_some_iff.1 hb).1
  have h2 := allB_iff.1 h.2 i (Nat.zero_le _) (by omega)
  unfold blkB at h2
  rw [hb] at h2
  simp only [Bool.and_eq_true, decide_eq_true_eq, List.all_eq_true] at h2
  obtain ⟨⟨h3, h4⟩, h5⟩ := h2
  refine ⟨h3, h4, fun h0 => ?_, fun h1 => ?_⟩
  · rw [if_pos h0] at h5
    simp only [Bool.and_eq_true, beq_iff_eq] at h5
    exact ⟨h5.1.1.1, h5.1.1.2, h5.1.2, h5.2⟩
  · rw [if_neg (by omega)] at h5
    cases ha : bs[i - 1]? with
    | none => rw [ha] at h5; cases h5
    | some a =>
      rw [ha] at h5
      simp only [Bool.and_eq_true, decide_eq_true_eq, inB_iff] at h5
      exact ⟨a, rfl, h5.1.1.1.1, h5.1.1.1.2, h5.1.1.2, h5.1.2, h5.2⟩
theorem blks_len {p : Prg} {bs : List Blk} (h : blksB p bs = true) : 1 ≤ bs.length ∧ bs.length ≤ 8 := by
  unfold blksB at h
  simp only [Bool.and_eq_true, inB_iff] at h
  omega
theorem blks_same {p : Prg} {bs bs' : List Blk} (h : blksB p bs = true) (hB : bs'.map skB = bs.map skB) (hh : ∀ b ∈ bs', b.handlers.length ≤ 8 ∧ ∀ x ∈ b.handlers, hdlB p x = true) : blksB p bs' = true := by
  have hl := sk_len hB
  have hlen := blks_len h
  unfold blksB
  simp only [Bool.and_eq_true, inB_iff]
  refine ⟨by omega, allB_iff.2 fun i _ hi => ?_⟩
  obtain ⟨b', hb'⟩ : ∃ b, bs'[i]? = some b := ⟨_, List.getElem?_eq_getElem (by omega)⟩
  obtain ⟨b, hb, e⟩ := sk_get hB hb'
  obtain ⟨_, _, h3, h4⟩ := blk_at h hb
  obtain ⟨g1, g2⟩ := hh b' (List.mem_of_getElem? hb')
  simp only [skB, Prod.mk.injEq] at e
  obtain ⟨e1, e2, e3, e4⟩ := e
  unfold blkB
  rw [hb']
  simp only [Bool.and_eq_true, decide_eq_true_eq, List.all_eq_true]
  refine ⟨⟨g1, g2⟩, ?_⟩
  by_cases h0 : i = 0
  · rw [if_pos h0, e1, e2, e3, e4]
    obtain ⟨d1, d2, d3, d4⟩ := h3 h0
    simp [d1, d2, d3, d4]
  · rw [if_neg h0]
    obtain ⟨a, ha, f1, f2, f3, f4, f5⟩ := h4 (by omega)
    obtain ⟨a', ha', e'⟩ := sk_get hB.symm ha
    simp only [skB, Prod.mk.injEq] at e'
    rw [ha', e1, e2, e4]
    simp only [Bool.and_eq_true, decide_eq_true_eq, inB_iff]
    rw [← e'.1, ← e'.2.1]
    exact ⟨⟨⟨⟨f1, f2⟩, f3⟩, f4⟩, f5⟩
theorem depth_mono {p : Prg} {bs : List Blk} (h : blksB p bs = true) {i : Nat} {a : Blk} (ha : bs[i]? = some a) : ∀ (k : Nat) (b : Blk), bs[i + k]? = some b → a.depth ≤ b.depth
  | 0, b, hb => by rw [Nat.add_zero, ha] at hb; injection hb with hb; subst hb; exact Int.le_refl _
  | k + 1, b, hb => by
    obtain ⟨_, _, _, h4⟩ := blk_at h hb
    obtain ⟨c, hc, _, _, _, _, h5⟩ := h4 (by omega)
    have := depth_mono h ha k c hc
    omega
theorem Live.off {p : Prg} {t : Tsk} (l : Live p t) (hi : inHand t = false) : t.unw = false ∧ t.level = 0 := by
  have hu : t.unw = false := by
    cases h : t.unw with
    | false => rfl
    | true => rw [l.hand h] at hi; cases hi
  refine ⟨hu, ?_⟩
  rcases Decidable.em (t.level = 0) with h | h
  · exact h
  · have := (l.lvl h).1; rw [hu] at this; cases this
theorem inHand_snoc {t : Tsk} {l : List Frm} {x : Frm} (h : t.frames = l ++ [x]) : inHand t = x.cleanup := by
  unfold inHand; rw [h, List.getLast?_concat]
theorem Live.push {p : Prg} {t : Tsk} (l : Live p t) (hi : inHand t = false) (hpos : 1 ≤ t.frames.length) {nw : Frm} (hc : nw.cleanup = false) : Live p { t with frames := t.frames ++ [nw] } := by
  obtain ⟨hu, hl⟩ := l.off hi
  have e1 : inHand { t with frames := t.frames ++ [nw] } = false := by rw [inHand_snoc rfl, hc]
  have e2 : plainN { t with frames := t.frames ++ [nw] } = t.frames.length + 1 := by unfold plainN; rw [e1]; simp
  have e3 : plainN t = t.frames.length := by unfold plainN; rw [hi]; rfl
  have hm := l.mask
  refine ⟨fun f hf hfc => ?_, fun i f hf hfc => ?_, l.blks, by unfold leastI mostI at *; rw [e1]; rw [hi] at hm; exact hm, fun h0 => by rw [e2] at h0; omega, l.lvl, fun h => by exact absurd (show t.unw = true from h) (by rw [hu]; decide), fun i h1 h2 => ?_, fun h => by exact absurd (show t.unw = true from h) (by rw [hu]; decide)⟩
  · rcases snoc_cases hf with ⟨_, hf⟩ | ⟨h0, rfl⟩
    · exact l.fst f hf hfc
    · omega
  · rcases snoc_cases hf with ⟨_, hf⟩ | ⟨h0, rfl⟩
    · exact l.cres i f hf hfc
    · rw [hc] at hfc; cases hfc
  · have hk := l.keep i h1 h2
    refine keepB_mono hk rfl (fun b hb => ?_) (fun b f hb hf => ?_)
    · obtain ⟨b', _, _, _, hb', hd, _⟩ := keepB_iff.1 hk
      rw [hb] at hb'; injection hb' with hb'; subst hb'
      rw [e2]; omega
    · have hlt := (List.getElem?_eq_some_iff.1 hf).1
      exact ⟨f, by show (t.frames ++ [nw])[_]? = _; rw [List.getElem?_append_left hlt]; exact hf, rfl⟩
theorem pop_index {d z : Int} {N : Nat} (h1 : 1 ≤ d) (h2 : d ≤ z) (h3 : z ≤ (N : Int)) (h4 : z ≠ (N : Int)) : (d - 1).toNat < N - 1 := by omega
theorem Live.pop {p : Prg} {t : Tsk} (l : Live p t) (hr : RunOk p t) (hi : inHand t = false) (h2 : 2 ≤ t.frames.length) (hb : ∀ b, lastB t = some b → b.depth ≠ t.frames.length) : Live p { t with frames := t.frames.take (t.frames.length - 1) } := by
  obtain ⟨hu, hl⟩ := l.off hi
  have hlen : (t.frames.take (t.frames.length - 1)).length = t.frames.length - 1 := by rw [List.length_take]; omega
  have hget : ∀ (i : Nat) (x : Frm), (t.frames.take (t.frames.length - 1))[i]? = some x → i < t.frames.length - 1 ∧ t.frames[i]? = some x := fun i x hx => by
    rw [List.getElem?_take] at hx
    split at hx
    · exact ⟨by assumption, hx⟩
    · cases hx
  have e1 : inHand { t with frames := t.frames.take (t.frames.length - 1) } = false := by
    obtain ⟨x, hx⟩ : ∃ x, (t.frames.take (t.frames.length - 1))[(t.frames.take (t.frames.length - 1)).length - 1]? = some x := ⟨_, List.getElem?_eq_getElem (by omega)⟩
    rw [inHand_last (t := { t with frames := t.frames.take (t.frames.length - 1) }) hx]
    obtain ⟨h3, h4⟩ := hget _ _ hx
    cases hc : x.cleanup with
    | false => rfl
    | true => have := hr.cl _ x h4 hc; omega
  have e2 : plainN { t with frames := t.frames.take (t.frames.length - 1) } = t.frames.length - 1 := by unfold plainN; rw [e1]; exact hlen
  have e3 : plainN t = t.frames.length := by unfold plainN; rw [hi]; rfl
  have hm := l.mask
  refine ⟨fun f hf hfc => l.fst f (hget _ _ hf).2 hfc, fun i f hf hfc => l.cres i f (hget _ _ hf).2 hfc, l.blks, by unfold leastI mostI at *; rw [e1]; rw [hi] at hm; exact hm, fun h0 => by rw [e2] at h0; omega, l.lvl, fun h => by exact absurd (show t.unw = true from h) (by rw [hu]; decide), fun i h1 h3 => ?_, fun h => by exact absurd (show t.unw = true from h) (by rw [hu]; decide)⟩
  have hkn : keepsN t = t.blocks.length := by unfold keepsN; rw [hu]; rfl
  have h3' : i < t.blocks.length := by rw [← hkn]; exact h3
  clear h3
  have hk := l.keep i h1 (by rw [hkn]; exact h3')
  obtain ⟨b, hbi⟩ : ∃ b, t.blocks[i]? = some b := ⟨_, List.getElem?_eq_getElem h3'⟩
  obtain ⟨z, hz⟩ : ∃ z, t.blocks[t.blocks.length - 1]? = some z := ⟨_, List.getElem?_eq_getElem (by omega)⟩
  have hne := hb z hz
  obtain ⟨z', _, _, _, hz', hdz, _⟩ := keepB_iff.1 (l.keep (t.blocks.length - 1) (by clear hm e2; omega) (by rw [hkn]; clear hm e2; omega))
  rw [hz] at hz'; injection hz' with hz'; subst hz'
  have hdm := depth_mono l.blks hbi (t.blocks.length - 1 - i) z (by rw [Nat.add_sub_cancel' (Nat.le_sub_one_of_lt h3')]; exact hz)
  obtain ⟨_, _, _, hb4⟩ := blk_at l.blks hbi
  obtain ⟨_, _, _, hbd, _⟩ := hb4 h1
  refine keepB_mono hk rfl (fun b' hb' => ?_) (fun b' f hb' hf => ?_)
  · rw [hbi] at hb'; injection hb' with hb'; subst hb'
    rw [e2]; omega
  · rw [hbi] at hb'; injection hb' with hb'; subst hb'
    refine ⟨f, ?_, rfl⟩
    show (t.frames.take (t.frames.length - 1))[_]? = _
    rw [List.getElem?_take, if_pos (pop_index hbd.1 hdm (by rw [e3] at hdz; exact hdz) hne)]
    exact hf
theorem frm_at {p : Prg} {t : Tsk} (h : allB (frmB p t) t.frames.length 0 = true) {i : Nat} {f : Frm} (hf : t.frames[i]? = some f) : (f.cleanup = true → f.result = -1) ∧ (f.cleanup = false → i = 0 → f.fn = t.fn ∧ f.result = -1) := by
  have h2 := allB_iff.1 h i (Nat.zero_le _) (by have := (List.getElem?_eq_some_iff.1 hf).1; omega)
  unfold frmB at h2
  rw [hf] at h2
  dsimp only at h2
  cases hfn : fnAt p f.fn with
  | none => rw [hfn] at h2; cases h2
  | some g =>
    rw [hfn] at h2
    simp only [Bool.and_eq_true] at h2
    obtain ⟨_, a5⟩ := h2
    refine ⟨fun hc => ?_, fun hc h0 => ?_⟩
    · rw [if_pos hc] at a5
      simp only [Bool.and_eq_true, beq_iff_eq] at a5
      exact a5.1
    · rw [if_neg (by rw [hc]; decide), if_pos h0] at a5
      simp only [Bool.and_eq_true, beq_iff_eq] at a5
      exact a5
theorem live_of {p : Prg} {t : Tsk} (h : livB p t = true) (hh : t.unw = true → inHand t = true) : Live p t := by
  unfold livB at h
  simp only [Bool.and_eq_true] at h
  obtain ⟨⟨⟨⟨⟨⟨⟨hb, hm⟩, hp⟩, h4⟩, h5⟩, h6⟩, hfr⟩, hk⟩ := h
  refine ⟨fun f hf hc => (frm_at hfr hf).2 hc rfl, fun i f hf hc => (frm_at hfr hf).1 hc, hb, inB_iff.1 hm, fun h0 => ?_, fun hl => ?_, fun hu => ⟨fun hl => ?_, fun hl => ?_⟩, fun i h1 h2 => ?_, hh⟩
  · rw [h0] at h4
    simp at h4
    exact h4
  · cases hu : t.unw with
    | false => rw [hu] at h5; simp [hl] at h5
    | true =>
      rw [hu] at h5
      simp only [Bool.not_true, Bool.false_or, Bool.not_eq_true', Bool.and_eq_false_iff, bne_eq_false_iff_eq, Bool.not_eq_false'] at h5
      rcases h5 with h5 | h5
      · exact absurd h5 hl
      · rw [inB_iff] at h5; exact ⟨rfl, by omega, by omega⟩
  · rw [hu, hl] at h6
    simp at h6
    omega
  · rw [hu] at h6
    simp only [Bool.true_and, Bool.not_eq_true', Bool.or_eq_false_iff, Bool.and_eq_false_iff, decide_eq_false_iff_not, bne_eq_false_iff_eq] at h6
    rcases h6.2 with h7 | h7
    · exact absurd hl h7
    · exact h7
  · exact allB_iff.1 hk i h1 (by omega)
theorem liv_of {p : Prg} {t : Tsk} (r : RunOk p t) (l : Live p t) : livB p t = true := by
  have hpos := r.pos
  obtain ⟨f0, hf0⟩ := r.top
  have hin := inHand_top hf0
  unfold livB
  simp only [Bool.and_eq_true]
  refine ⟨⟨⟨⟨⟨⟨⟨l.blks, inB_iff.2 l.mask⟩, ?_⟩, ?_⟩, ?_⟩, ?_⟩, allB_iff.2 fun i _ hi => ?_⟩, allB_iff.2 fun i h1 h2 => l.keep i h1 (by omega)⟩
  · rw [decide_eq_true_eq]
    unfold plainN
    split
    · have := r.len; omega
    · rename_i hn
      exact r.len8 f0 hf0 (by rw [← hin]; simpa using hn)
  · simp only [Bool.not_eq_true', Bool.and_eq_false_iff, decide_eq_false_iff_not, Bool.or_eq_false_iff, Bool.not_eq_false', bne_eq_false_iff_eq]
    rcases Decidable.em (plainN t = 0) with h | h
    · exact .inr (l.zero h)
    · exact .inl h
  · simp only [Bool.not_eq_true', Bool.and_eq_false_iff, Bool.or_eq_false_iff, Bool.not_eq_false', bne_eq_false_iff_eq]
    rcases Decidable.em (t.level = 0) with h | h
    · exact .inl h
    · obtain ⟨a, b, c⟩ := l.lvl h
      exact .inr ⟨a, inB_iff.2 ⟨b, c⟩⟩
  · simp only [Bool.not_eq_true', Bool.and_eq_false_iff, Bool.or_eq_false_iff, decide_eq_false_iff_not, bne_eq_false_iff_eq, beq_eq_false_iff_ne]
    cases hu : t.unw with
    | false => exact .inl rfl
    | true =>
      obtain ⟨a, b⟩ := l.unw hu
      refine .inr ⟨?_, ?_⟩
      · rcases Decidable.em (t.level = 0) with h | h
        · exact .inr (by have := a h; omega)
        · exact .inl h
      · rcases Decidable.em (0 < t.level) with h | h
        · exact .inr (b h)
        · exact .inl h
  · obtain ⟨f, hf⟩ : ∃ f, t.frames[i]? = some f := ⟨_, List.getElem?_eq_getElem (by omega)⟩
    obtain ⟨g, hg⟩ := r.fr i f hf
    unfold frmB
    rw [hf]
    dsimp only
    rw [hg.fn]
    simp only [Bool.and_eq_true, inB_iff, beq_iff_eq, List.all_eq_true]
    refine ⟨⟨⟨⟨hg.regs, hg.num⟩, hg.pc⟩, hg.cl⟩, ?_⟩
    cases hc : f.cleanup with
    | true =>
      rw [if_pos rfl]
      simp only [Bool.and_eq_true, beq_iff_eq]
      exact ⟨l.cres i f hf hc, r.cl i f hf hc⟩
    | false =>
      rw [if_neg (by decide)]
      rcases Decidable.em (i = 0) with h0 | h0
      · rw [if_pos h0]
        subst h0
        simp only [Bool.and_eq_true, beq_iff_eq]
        exact l.fst f hf hc
      · rw [if_neg h0]
        obtain ⟨h, hh⟩ : ∃ h, t.frames[i - 1]? = some h := ⟨_, List.getElem?_eq_getElem (by omega)⟩
        obtain ⟨k, hk⟩ := r.fr _ h hh
        rw [hh]
        dsimp only
        rw [hk.fn]
        dsimp only
        rw [inB_iff]
        have h3 := r.res (i - 1) f h (by rw [show i - 1 + 1 = i by omega]; exact hf) hh hc
        have h4 := hk.regs
        unfold InF at h3
        omega
end Go.Proofs.YtcjjoabofecjmaaGreat

namespace Go.Proofs.YtcjjoabofecjmaaGreat
open Go.RowKit
def noHdl : Hdl := ⟨0, []⟩
def handleT (t : Tsk) (b : Blk) (h : Hdl) (g : Fnc) : Tsk :=
  { t with frames := t.frames ++ [⟨h.fn, 0, regsOf g.regs.toNat h.args, -1, true⟩], blocks := t.blocks.set (t.blocks.length - 1) { b with handlers := b.handlers.take (b.handlers.length - 1) }, mask := t.mask + 1 }
def handleS (p : Prg) (t : Tsk) : Tsk × Hdl × Int :=
  if tcheckS p t ≠ 0 then (zeroTsk, noHdl, 1)
  else if t.status ≠ 1 ∨ inHand t = true then (zeroTsk, noHdl, 17)
  else match lastB t with
    | none => (zeroTsk, noHdl, 23)
    | some b => match b.handlers[b.handlers.length - 1]? with
      | none => (zeroTsk, noHdl, 23)
      | some h => match fnAt p h.fn with
        | none => (zeroTsk, noHdl, 23)
        | some g => (handleT t b h g, h, 0)
theorem live_ok {p : Prg} {t : Tsk} (h : tcheckS p t = 0) (hst : t.status ≠ 3) : livB p t = true := by
  unfold tcheckS at h
  rw [if_neg hst] at h
  split at h
  · cases h
  · split at h
    · assumption
    · cases h
theorem frm_fn {p : Prg} {t : Tsk} (h : allB (frmB p t) t.frames.length 0 = true) {i : Nat} {f : Frm} (hf : t.frames[i]? = some f) : ∃ g, FrOk p f g := by
  have h2 := allB_iff.1 h i (Nat.zero_le _) (by have := (List.getElem?_eq_some_iff.1 hf).1; omega)
  unfold frmB at h2
  rw [hf] at h2
  dsimp only at h2
  cases hfn : fnAt p f.fn with
  | none => rw [hfn] at h2; cases h2
  | some g =>
    rw [hfn] at h2
    simp only [Bool.and_eq_true, inB_iff, beq_iff_eq, List.all_eq_true] at h2
    obtain ⟨⟨⟨⟨a1, a2⟩, a3⟩, a4⟩, _⟩ := h2
    exact ⟨g, ⟨hfn, a1, a2, a3, a4⟩⟩
structure LivOk (p : Prg) (t : Tsk) : Prop where
  blks : blksB p t.blocks = true
  mask : leastI t ≤ t.mask ∧ t.mask ≤ mostI t
  plain : plainN t ≤ 8
  fr : allB (frmB p t) t.frames.length 0 = true
theorem liv_ok {p : Prg} {t : Tsk} (h : livB p t = true) : LivOk p t := by
  unfold livB at h
  simp only [Bool.and_eq_true] at h
  obtain ⟨⟨⟨⟨⟨⟨⟨hb, hm⟩, hp⟩, _⟩, _⟩, _⟩, hfr⟩, _⟩ := h
  exact ⟨hb, inB_iff.1 hm, by simpa using hp, hfr⟩
theorem LivOk.frames9 {p : Prg} {t : Tsk} (l : LivOk p t) : t.frames.length ≤ 9 := by
  have := l.plain
  unfold plainN at this
  split at this <;> omega
theorem LivOk.wk {p : Prg} {t : Tsk} (l : LivOk p t) (hc : checkS p = 0) : RunWk t := by
  have hbl := blks_len l.blks
  refine ⟨l.frames9, fun f hf => ?_, hbl.2, fun b hb => ?_, ?_⟩
  · obtain ⟨i, hi, rfl⟩ := List.getElem_of_mem hf
    obtain ⟨g, hg⟩ := frm_fn l.fr (List.getElem?_eq_getElem hi)
    have := (fn_ok hc (fnAt_mem hg.fn)).reg
    have := hg.regs
    omega
  · obtain ⟨i, hi, rfl⟩ := List.getElem_of_mem hb
    exact (blk_at l.blks (List.getElem?_eq_getElem hi)).1
  · have := l.mask
    unfold leastI mostI at this
    split at this <;> omega
theorem hdl_ok {p : Prg} {h : Hdl} (hh : hdlB p h = true) : ∃ g, fnAt p h.fn = some g ∧ g.cleanup = true ∧ (h.args.length : Int) = g.params ∧ ∀ x ∈ h.args, numB x = true := by
  unfold hdlB at hh
  cases hg : fnAt p h.fn with
  | none => rw [hg] at hh; cases hh
  | some g =>
    rw [hg] at hh
    simp only [Bool.and_eq_true, beq_iff_eq, List.all_eq_true] at hh
    exact ⟨g, rfl, hh.1.1, hh.1.2, hh.2⟩
theorem LivOk.hdl {p : Prg} {t : Tsk} (l : LivOk p t) {b : Blk} (hb : lastB t = some b) {h : Hdl} (hh : h ∈ b.handlers) : ∃ g, fnAt p h.fn = some g ∧ g.cleanup = true ∧ (h.args.length : Int) = g.params ∧ ∀ x ∈ h.args, numB x = true :=
  hdl_ok ((blk_at l.blks (show t.blocks[t.blocks.length - 1]? = some b from hb)).2.1 h hh)
end Go.Proofs.YtcjjoabofecjmaaGreat

namespace Go.Proofs.YtcjjoabofecjmaaGreat
open Go.RowKit Go.Sort
theorem OBl.cut {B k : Nat} {w : World} {bs : List Blk} {VB : Value} {hs : List Value} {gs : List (List Value)} {L : List Value} (h : OBl B w bs VB hs gs L) {b : Blk} {a : List Value} {g c m gB cB : Nat} (hb : bs[k]? = some b) (hv : hs[k]? = some (.slice (some ⟨g, 0, none⟩) b.handlers.length c)) (ha : gs[k]? = some a) (hm : m ≤ b.handlers.length)
    (hVB : VB = .slice (some ⟨gB, 0, none⟩) bs.length cB) (hL : VB ∈ L) :
    OBl B (w.setCell ⟨gB, k * 5 + 4, none⟩ (.slice (some ⟨g, 0, none⟩) m c)) (bs.set k { b with handlers := b.handlers.take m }) VB (hs.set k (.slice (some ⟨g, 0, none⟩) m c)) (gs.set k (a.take m)) L := by
  subst hVB
  have hkb : k < bs.length := (List.getElem?_eq_some_iff.1 hb).1
  obtain ⟨hal, hrow⟩ := h.hnd k b _ a hb hv ha
  obtain ⟨h4, h5⟩ := World.ownsRow.stored (g := gB) (n := bs.length) (cap := cB) h.row (k * 5 + 4) (.slice (some ⟨g, 0, none⟩) m c)
  refine ⟨by rw [List.length_set, List.length_set]; exact h.len, by rw [List.length_set, List.length_set]; exact h.alen, ?_, fun i b2 u a2 e1 e2 e3 => ?_, fun i b2 a2 q x u e1 e2 e3 e4 => ?_, fun i j u1 u2 hij e1 e2 => ?_, fun b2 hb2 => ?_⟩
  · rw [List.length_set, rowOf_same hb (List.getElem?_set_self (by rw [h.len]; exact hkb)) (by rfl), ← rowOf_put blkCells_len (j := 4) (u := .slice (some ⟨g, 0, none⟩) m c) (v' := .slice (some ⟨g, 0, none⟩) m c) hb hv (by omega) (by rfl)]
    exact h4
  · rcases set_cases e1 with ⟨rfl, rfl⟩ | ⟨hne, e1'⟩
    · rcases set_cases e2 with ⟨_, rfl⟩ | ⟨hne, _⟩
      · rcases set_cases e3 with ⟨_, rfl⟩ | ⟨hne, _⟩
        · have h9 := own_take (hrow.kept h5 (apart_ne (apart_types hrow h.row (by decide)) rfl)) hm
          refine ⟨by rw [List.length_take, List.length_take, hal], ?_⟩
          rw [List.length_take, Nat.min_eq_left hm, ← rowOf_take hdlCells_len hal]
          exact h9
        · exact absurd rfl hne
      · exact absurd rfl hne
    · rcases set_cases e2 with ⟨e, _⟩ | ⟨_, e2'⟩
      · exact absurd e hne
      · rcases set_cases e3 with ⟨e, _⟩ | ⟨_, e3'⟩
        · exact absurd e hne
        · obtain ⟨q1, q2⟩ := h.hnd i b2 u a2 e1' e2' e3'
          exact ⟨q1, q2.kept h5 (apart_ne (apart_types q2 h.row (by decide)) rfl)⟩
  · have old : ∀ (i : Nat) (b3 : Blk) (a3 : List Value), bs[i]? = some b3 → gs[i]? = some a3 → b3.handlers[q]? = some x → a3[q]? = some u →
        InR x.fn ∧ RArgs (w.setCell ⟨gB, k * 5 + 4, none⟩ (.slice (some ⟨g, 0, none⟩) m c)) x.args u ∧ (x.args = [] ∨ ∀ r ∈ L, Apart r u) := fun i b3 a3 e1 e2 e3 e4 => by
      obtain ⟨q1, q2, q3⟩ := h.arg i b3 a3 q x u e1 e2 e3 e4
      refine ⟨q1, ?_, q3⟩
      by_cases hx : x.args = []
      · rw [hx] at q2 ⊢
        obtain ⟨A, m, c, rfl, h3, h6⟩ := q2
        exact ⟨A, m, c, rfl, ⟨h3.1, h3.2.1, fun k x hk => by simp at hk⟩, h6⟩
      · rcases q3 with q3 | q3
        · exact absurd q3 hx
        · refine q2.kept h5 ?_
          rcases q3 _ hL with e | e
          · cases e
          · exact .inr fun e' => e e'.symm
    rcases set_cases e1 with ⟨rfl, rfl⟩ | ⟨hne, e1'⟩
    · rcases set_cases e2 with ⟨_, rfl⟩ | ⟨hne, _⟩
      · dsimp only at e3
        rw [List.getElem?_take] at e3 e4
        split at e3
        · rename_i hq
          rw [if_pos hq] at e4
          exact old i b a hb ha e3 e4
        · cases e3
      · exact absurd rfl hne
    · rcases set_cases e2 with ⟨e, _⟩ | ⟨_, e2'⟩
      · exact absurd e hne
      · exact old i b2 a2 e1' e2' e3 e4
  · rcases set_cases e1 with ⟨rfl, rfl⟩ | ⟨hne, e1'⟩ <;> rcases set_cases e2 with ⟨hjk, rfl⟩ | ⟨hne2, e2'⟩
    · exact absurd hjk.symm hij
    · have h9 := h.dis i j _ u2 hij hv e2'; exact h9
    · subst hjk; have h9 := h.dis i _ u1 _ hij e1' hv; exact h9
    · exact h.dis i j u1 u2 hij e1' e2'
  · rcases List.mem_or_eq_of_mem_set hb2 with hb2 | rfl
    · exact h.inr b2 hb2
    · exact h.inr b (List.mem_of_getElem? hb)
def AllArgs (P : Hdl → Value → Prop) (bs : List Blk) (gs : List (List Value)) : Prop := ∀ (i : Nat) (b : Blk) (a : List Value), bs[i]? = some b → gs[i]? = some a → ∀ (k : Nat) (h : Hdl) (v : Value), b.handlers[k]? = some h → a[k]? = some v → P h v
theorem AllArgs.cut {P : Hdl → Value → Prop} {bs : List Blk} {gs : List (List Value)} (h : AllArgs P bs gs) {k m : Nat} {b : Blk} {a : List Value} (hb : bs[k]? = some b) (ha : gs[k]? = some a) : AllArgs P (bs.set k { b with handlers := b.handlers.take m }) (gs.set k (a.take m)) := fun i b2 a2 e1 e2 q x v e3 e4 => by
  rcases set_cases e1 with ⟨rfl, rfl⟩ | ⟨hne, e1'⟩
  · rcases set_cases e2 with ⟨_, rfl⟩ | ⟨hne, _⟩
    · dsimp only at e3
      rw [List.getElem?_take] at e3 e4
      split at e3
      · rename_i hq
        rw [if_pos hq] at e4
        exact h i b a hb ha q x v e3 e4
      · cases e3
    · exact absurd rfl hne
  · rcases set_cases e2 with ⟨e, _⟩ | ⟨_, e2'⟩
    · exact absurd e hne
    · exact h i b2 a2 e1' e2' q x v e3 e4
theorem OBl.relist {B : Nat} {w : World} {bs : List Blk} {VB : Value} {hs : List Value} {gs : List (List Value)} {L L' : List Value} (h : OBl B w bs VB hs gs L) (hA : AllArgs (fun x v => x.args = [] ∨ ∀ r ∈ L', Apart r v) bs gs) : OBl B w bs VB hs gs L' :=
  ⟨h.len, h.alen, h.row, h.hnd, fun i b a k x v e1 e2 e3 e4 => ⟨(h.arg i b a k x v e1 e2 e3 e4).1, (h.arg i b a k x v e1 e2 e3 e4).2.1, hA i b a e1 e2 k x v e3 e4⟩, h.dis, h.inr⟩
theorem OBl.allArgs {B : Nat} {w : World} {bs : List Blk} {VB : Value} {hs : List Value} {gs : List (List Value)} {L : List Value} (h : OBl B w bs VB hs gs L) : AllArgs (fun x v => x.args = [] ∨ ∀ r ∈ L, Apart r v) bs gs := fun i b a e1 e2 k x v e3 e4 => (h.arg i b a k x v e1 e2 e3 e4).2.2
theorem ArgsOk.mono {P : Hdl → Value → Prop} {w W : World} {t : Tsk} {V : Value} (h : ArgsOk P w t V) (hT : RTsk w t V) (hE : Ext w W) : ArgsOk P W t V := fun cs A n c hV h8 i b hb x o hA Ah nh ch hc k hd hk y q hy v hv => by
  have h0 := h cs A n c hV h8
  obtain ⟨Af, nf, cf, Ab, nb, cb, rfl, _, _, _, _, _, _, _, _, _, _, _, hB, _, _⟩ := hT
  have e8 : A = Ab := by
    have := congrArg (fun v => match v with | .agg a => a.toList[8]? | _ => none) hV
    dsimp only at this
    rw [h8] at this
    simp only [List.getElem?_cons_succ, List.getElem?_cons_zero, Option.some.injEq, Value.slice.injEq] at this
    exact this.1.symm
  subst e8
  obtain ⟨b2, off, Aa, na, ca, hA2, hlt, _, _, _, _, ⟨hH, _⟩, _, _, _, _, c4⟩ := hB.blk hb
  rw [hA] at hA2
  injection hA2 with hA2
  injection hA2 with e1 e2 _
  subst e1 e2
  have c5 := hE.cell c4
  rw [Nat.add_assoc] at c4 c5
  rw [hc] at c5
  injection c5 with c5
  injection c5 with e1 e2 e3
  subst e1 e2 e3
  obtain ⟨b3, o3, Ag, ng, cg, hA3, hl3, _, _, _, d1⟩ := hH.hdl hk
  rw [hy] at hA3
  injection hA3 with hA3
  injection hA3 with e1 e2 _
  subst e1 e2
  have d2 := hE.cell d1
  rw [Nat.add_assoc] at d1 d2
  rw [hv] at d2
  injection d2 with d2
  subst d2
  exact h0 i b hb x o hA _ _ _ c4 k hd hk y q hy _ d1
end Go.Proofs.YtcjjoabofecjmaaGreat

namespace Go.Proofs.YtcjjoabofecjmaaGreat
open Go.RowKit Go.Sort
theorem infoHdl2 : (Tryz.prog.info? 58).map (·.size) = some 2 := by kernel_rfl
theorem ret_range4 {fn : Func} {R : Ending → World → Prop} {a : Act} {w : World} {b b2 s s2 k : Nat} {cs cs2 : List Value} {v : Value} (hfn : fn.results = #[ResultVar.cell s 32, ResultVar.cell s2 58, ResultVar.tmp k]) (hs : a.tmps[s]? = some (.pointer (some ⟨b, 0, none⟩))) (hs2 : a.tmps[s2]? = some (.pointer (some ⟨b2, 0, none⟩))) (hk : a.tmps[k]? = some v) (hd : a.defers = []) (hl : cs.length = 14) (hl2 : cs2.length = 2) (hR : w.rangeAt b 0 cs) (hR2 : w.rangeAt b2 0 cs2)
    (h : R (.returned (.tuple #[.agg cs.toArray, .agg cs2.toArray, v])) w) : bodyPost Tryz.prog fn R .ret a w :=
  bodyPost_ret (by simp [results, hfn, hs, hs2, hk, asAddr, run_loadVar_mid w b 0 32 cs _ hR Tryz.underlying32 rfl (by rw [infoTsk, hl]), run_loadVar_mid w b2 0 58 cs2 _ hR2 Tryz.underlying58 rfl (by rw [infoHdl2, hl2])]) hd h
def HandPost (r : Tsk × Hdl × Int) (w : World) (e : Ending) (w' : World) : Prop := ∃ V' A n c, e = .returned (.tuple #[V', .agg #[Value.int .i64 r.2.1.fn, .slice A n c], Value.int .i64 r.2.2]) ∧ RTsk w' r.1 V' ∧ (RSl 1 RInt w' A n r.2.1.args ∧ n ≤ c) ∧ InR r.2.1.fn ∧ Ext w w'
theorem handPost_no {w W : World} {n : Int} (h : Ext w W) : HandPost (zeroTsk, noHdl, n) w (.returned (.tuple #[zeroV, .agg #[Value.int .i64 0, .slice none 0 0], Value.int .i64 n])) W := ⟨_, none, 0, 0, rfl, zero_reads _, ⟨RSl.nil _, Nat.le_refl _⟩, zero_in, h⟩
set_option maxRecDepth 4000 in
set_option maxHeartbeats 4000000 in
theorem Handle_bad (p : Prg) (t : Tsk) (VP VT : Value) (w : World) (hP : RPrg w p VP) (hT : RTsk w t VT) (hc : tcheckS p t ≠ 0) : Calls Tryz.prog 28 #[VP, VT] w (HandPost (handleS p t) w) := by
  have HC := Lib.hid (fun W h => tCheck_any p t VP VT W (hP.mono h) (hT.mono h))
  obtain ⟨Af, nf, cf, Ao, no, co, Av, nv, cv, rfl, _⟩ := hP
  obtain ⟨Bf, mf, df, Bb, mb, db, rfl, _⟩ := hT
  have HR : Hid (handleS p t = (zeroTsk, noHdl, 1)) := by unfold Hid handleS; rw [if_pos hc]
  have hcb : (tcheckS p t != 0) = true := by simpa using hc
  clear hc
  go_enter Tryz.func28, Tryz.ntmps28
  go_wp2_with (first | ((first | ((with_reducible show Code.wp _ (Code.region _ (List.toArray ({ dst := _, op := Op.load 32 _, type := _, pos := _, after := _, guard := none } :: _)) false) _ _ _); refine wp_region_lit ?_) | (with_reducible show wpList _ _ _ ({ dst := _, op := Op.load 32 _, type := _, pos := _, after := _, guard := none } :: _) _ _)); refine wpList_load_mid rfl 32 _ rfl _ _ rfl _ _ (by exact rg) Tryz.underlying32 rfl (by exact infoTsk) ?_; dsimp only [dZ, dS]) | ((with_reducible show wpList _ _ _ ({ dst := _, op := Op.store 32 _ _, type := _, pos := _, after := _, guard := none } :: _) _ _); refine wpList_store_mid rfl 32 _ _ rfl _ _ _ rfl rfl (by exact tr) infoTsk (all_oneCell_toArray (by simp [Value.oneCell'])) ?_; (try dsimp only [Act.put])) | ((with_reducible show wpList _ _ _ ({ dst := _, op := Op.store 58 _ _, type := _, pos := _, after := _, guard := none } :: _) _ _); refine wpList_store_mid rfl 58 _ _ rfl _ _ _ rfl rfl (by exact tr) infoHdl2 (all_oneCell_toArray (by simp [Value.oneCell'])) ?_; (try dsimp only [Act.put])) | (go_at_call 17; refine (HC.out _ xt).mono ?_; rintro e w1 ⟨rfl, hb⟩; have T1 := there_ext (b := w.heap.size + 1 + 1) (o := 0) (n := 14) (by exact tr) hb; have U1 := there_ext (b := w.heap.size + 1 + 1 + 1) (o := 0) (n := 2) (by exact tr) hb; have he0 := Lib.hid hb; obtain ⟨hc, hf, hs, he⟩ := Ext.use (w := w) hb xt; clear hb; (try simp only [World.size_alloc] at hs); have hz1 : w.heap.size + 1 + 1 + 1 < w1.heap.size := (by omega)))
  refine ret_range4 (b := w.heap.size + 1 + 1) (b2 := w.heap.size + 1 + 1 + 1) Tryz.results28 rfl rfl rfl rfl ?hl ?hl2 (ranges_two (by omega) ?t1 ?t2).1 (ranges_two (by omega) ?t3 ?t4).2 ?fin
  case hl => rfl
  case hl2 => rfl
  case t1 => exact tr
  case t2 => exact tr
  case t3 => exact tr
  case t4 => exact tr
  rw [HR.out]
  exact handPost_no xts
set_option maxRecDepth 4000 in
set_option maxHeartbeats 4000000 in
theorem Handle_state (p : Prg) (t : Tsk) (VP VT : Value) (w : World) (hP : RPrg w p VP) (hT : RTsk w t VT) (hc : tcheckS p t = 0) (hst : t.status ≠ 1 ∨ inHand t = true) : Calls Tryz.prog 28 #[VP, VT] w (HandPost (handleS p t) w) := by
  have HC := Lib.hid (fun W h => tCheck_any p t VP VT W (hP.mono h) (hT.mono h))
  rw [hc] at HC
  have HH := Lib.hid (fun W h => handles_any t VT W (hT.mono h))
  obtain ⟨Af, nf, cf, Ao, no, co, Av, nv, cv, rfl, _⟩ := hP
  obtain ⟨Bf, mf, df, Bb, mb, db, rfl, _⟩ := hT
  have HR : Hid (handleS p t = (zeroTsk, noHdl, 17)) := by unfold Hid handleS; rw [if_neg (by simpa using hc), if_pos hst]
  clear hc
  by_cases h1 : t.status = 1
  · have hh : inHand t = true := hst.resolve_left (fun h => h h1)
    rw [hh] at HH
    rw [h1] at HC HH ⊢
    clear hst hh h1
    go_enter Tryz.func28, Tryz.ntmps28
    go_wp2_with (first | ((first | ((with_reducible show Code.wp _ (Code.region _ (List.toArray ({ dst := _, op := Op.load 32 _, type := _, pos := _, after := _, guard := none } :: _)) false) _ _ _); refine wp_region_lit ?_) | (with_reducible show wpList _ _ _ ({ dst := _, op := Op.load 32 _, type := _, pos := _, after := _, guard := none } :: _) _ _)); refine wpList_load_mid rfl 32 _ rfl _ _ rfl _ _ (by exact rg) Tryz.underlying32 rfl (by exact infoTsk) ?_; dsimp only [dZ, dS]) | ((with_reducible show wpList _ _ _ ({ dst := _, op := Op.load 32 _, type := _, pos := _, after := _, guard := some _ } :: _) _ _); refine wpList_load_mid_g (by rfl) 32 _ rfl _ _ rfl _ _ (by exact rg) Tryz.underlying32 rfl (by exact infoTsk) ?_; dsimp only [dZ, dS]) | ((with_reducible show wpList _ _ _ ({ dst := _, op := Op.store 32 _ _, type := _, pos := _, after := _, guard := none } :: _) _ _); refine wpList_store_mid rfl 32 _ _ rfl _ _ _ rfl rfl (by exact tr) infoTsk (all_oneCell_toArray (by simp [Value.oneCell'])) ?_; (try dsimp only [Act.put])) | ((with_reducible show wpList _ _ _ ({ dst := _, op := Op.store 58 _ _, type := _, pos := _, after := _, guard := none } :: _) _ _); refine wpList_store_mid rfl 58 _ _ rfl _ _ _ rfl rfl (by exact tr) infoHdl2 (all_oneCell_toArray (by simp [Value.oneCell'])) ?_; (try dsimp only [Act.put])) | (go_at_call 17; refine (HC.out _ xt).mono ?_; rintro e w1 ⟨rfl, hb⟩; have T1 := there_ext (b := w.heap.size + 1 + 1) (o := 0) (n := 14) (by exact tr) hb; have U1 := there_ext (b := w.heap.size + 1 + 1 + 1) (o := 0) (n := 2) (by exact tr) hb; have R1 := range_ext (b := w.heap.size + 1) (o := 0) (by exact rg) hb; have he0 := Lib.hid hb; obtain ⟨hc, hf, hs, he⟩ := Ext.use (w := w) hb xt; clear hb; (try simp only [World.size_alloc] at hs); have hz1 : w.heap.size + 1 + 1 + 1 < w1.heap.size := (by omega)) | (go_at_call 65; refine (HH.out _ xt).mono ?_; rintro e w2 ⟨rfl, hb⟩; have T2 := there_ext T1 hb; have U2 := there_ext U1 hb; have he0 := Lib.hid hb; obtain ⟨hc2, hf2, hs2, he2⟩ := Ext.use (w := w) hb xt; clear hb))
    refine ret_range4 (b := w.heap.size + 1 + 1) (b2 := w.heap.size + 1 + 1 + 1) Tryz.results28 rfl rfl rfl rfl ?hl ?hl2 (ranges_two (by omega) ?t1 ?t2).1 (ranges_two (by omega) ?t3 ?t4).2 ?fin
    case hl => rfl
    case hl2 => rfl
    case t1 => exact tr
    case t2 => exact tr
    case t3 => exact tr
    case t4 => exact tr
    rw [HR.out]
    exact handPost_no xts
  · have hcb : (t.status != 1) = true := by simpa using h1
    clear hst h1
    go_enter Tryz.func28, Tryz.ntmps28
    go_wp2_with (first | ((first | ((with_reducible show Code.wp _ (Code.region _ (List.toArray ({ dst := _, op := Op.load 32 _, type := _, pos := _, after := _, guard := none } :: _)) false) _ _ _); refine wp_region_lit ?_) | (with_reducible show wpList _ _ _ ({ dst := _, op := Op.load 32 _, type := _, pos := _, after := _, guard := none } :: _) _ _)); refine wpList_load_mid rfl 32 _ rfl _ _ rfl _ _ (by exact rg) Tryz.underlying32 rfl (by exact infoTsk) ?_; dsimp only [dZ, dS]) | ((with_reducible show wpList _ _ _ ({ dst := _, op := Op.store 32 _ _, type := _, pos := _, after := _, guard := none } :: _) _ _); refine wpList_store_mid rfl 32 _ _ rfl _ _ _ rfl rfl (by exact tr) infoTsk (all_oneCell_toArray (by simp [Value.oneCell'])) ?_; (try dsimp only [Act.put])) | ((with_reducible show wpList _ _ _ ({ dst := _, op := Op.store 58 _ _, type := _, pos := _, after := _, guard := none } :: _) _ _); refine wpList_store_mid rfl 58 _ _ rfl _ _ _ rfl rfl (by exact tr) infoHdl2 (all_oneCell_toArray (by simp [Value.oneCell'])) ?_; (try dsimp only [Act.put])) | (go_at_call 17; refine (HC.out _ xt).mono ?_; rintro e w1 ⟨rfl, hb⟩; have T1 := there_ext (b := w.heap.size + 1 + 1) (o := 0) (n := 14) (by exact tr) hb; have U1 := there_ext (b := w.heap.size + 1 + 1 + 1) (o := 0) (n := 2) (by exact tr) hb; have he0 := Lib.hid hb; obtain ⟨hc, hf, hs, he⟩ := Ext.use (w := w) hb xt; clear hb; (try simp only [World.size_alloc] at hs); have hz1 : w.heap.size + 1 + 1 + 1 < w1.heap.size := (by omega)))
    refine ret_range4 (b := w.heap.size + 1 + 1) (b2 := w.heap.size + 1 + 1 + 1) Tryz.results28 rfl rfl rfl rfl ?hlb ?hl2b (ranges_two (by omega) ?t1b ?t2b).1 (ranges_two (by omega) ?t3b ?t4b).2 ?finb
    case hlb => rfl
    case hl2b => rfl
    case t1b => exact tr
    case t2b => exact tr
    case t3b => exact tr
    case t4b => exact tr
    rw [HR.out]
    exact handPost_no xts
end Go.Proofs.YtcjjoabofecjmaaGreat

namespace Go.Proofs.YtcjjoabofecjmaaGreat
open Go.RowKit Go.Sort
theorem tcheck_one {p : Prg} {t : Tsk} (h : tcheckS p t ≠ 0) : tcheckS p t = 1 := by
  unfold tcheckS at h ⊢
  split
  · rfl
  · rename_i h1
    rw [if_neg h1] at h
    split
    · rename_i h2
      rw [if_pos h2] at h
      split
      · rename_i h3; rw [if_pos h3] at h; exact absurd rfl h
      · rfl
    · rename_i h2
      rw [if_neg h2] at h
      split
      · rename_i h3; rw [if_pos h3] at h; exact absurd rfl h
      · rfl
set_option maxRecDepth 4000 in
set_option maxHeartbeats 4000000 in
theorem rHandle_bad (p : Prg) (t : Tsk) (VP VT : Value) (w : World) (hP : RPrg w p VP) (hT : RTsk w t VT) (hc : tcheckS p t ≠ 0) : Calls Tryz.prog 29 #[VP, VT] w (HandPost (handleS p t) w) := by
  have HC := Lib.hid (fun W h => rtcheck_any p t VP VT W (hP.mono h) (hT.mono h))
  obtain ⟨Af, nf, cf, Ao, no, co, Av, nv, cv, rfl, _⟩ := hP
  obtain ⟨Bf, mf, df, Bb, mb, db, rfl, _⟩ := hT
  have HR : Hid (handleS p t = (zeroTsk, noHdl, 1)) := by unfold Hid handleS; rw [if_pos hc]
  rw [tcheck_one hc] at HC
  clear hc
  go_enter Tryz.func29, Tryz.ntmps29
  go_wp2_with (first | ((first | ((with_reducible show Code.wp _ (Code.region _ (List.toArray ({ dst := _, op := Op.load 32 _, type := _, pos := _, after := _, guard := none } :: _)) false) _ _ _); refine wp_region_lit ?_) | (with_reducible show wpList _ _ _ ({ dst := _, op := Op.load 32 _, type := _, pos := _, after := _, guard := none } :: _) _ _)); refine wpList_load_mid rfl 32 _ rfl _ _ rfl _ _ (by exact rg) Tryz.underlying32 rfl (by exact infoTsk) ?_; dsimp only [dZ, dS]) | ((with_reducible show wpList _ _ _ ({ dst := _, op := Op.store 32 _ _, type := _, pos := _, after := _, guard := none } :: _) _ _); refine wpList_store_mid rfl 32 _ _ rfl _ _ _ rfl rfl (by exact tr) infoTsk (all_oneCell_toArray (by simp [Value.oneCell'])) ?_; (try dsimp only [Act.put])) | ((with_reducible show wpList _ _ _ ({ dst := _, op := Op.store 58 _ _, type := _, pos := _, after := _, guard := none } :: _) _ _); refine wpList_store_mid rfl 58 _ _ rfl _ _ _ rfl rfl (by exact tr) infoHdl2 (all_oneCell_toArray (by simp [Value.oneCell'])) ?_; (try dsimp only [Act.put])) | (go_at_call 18; refine (HC.out _ xt).mono ?_; rintro e w1 ⟨rfl, hb⟩; have T1 := there_ext (b := w.heap.size + 1 + 1) (o := 0) (n := 14) (by exact tr) hb; have U1 := there_ext (b := w.heap.size + 1 + 1 + 1) (o := 0) (n := 2) (by exact tr) hb; have he0 := Lib.hid hb; obtain ⟨hc, hf, hs, he⟩ := Ext.use (w := w) hb xt; clear hb; (try simp only [World.size_alloc] at hs); have hz1 : w.heap.size + 1 + 1 + 1 < w1.heap.size := (by omega)))
  refine ret_range4 (b := w.heap.size + 1 + 1) (b2 := w.heap.size + 1 + 1 + 1) Tryz.results29 rfl rfl rfl rfl ?hl ?hl2 (ranges_two (by omega) ?t1 ?t2).1 (ranges_two (by omega) ?t3 ?t4).2 ?fin
  case hl => rfl
  case hl2 => rfl
  case t1 => exact tr
  case t2 => exact tr
  case t3 => exact tr
  case t4 => exact tr
  rw [HR.out]
  exact handPost_no xts
set_option maxRecDepth 4000 in
set_option maxHeartbeats 4000000 in
theorem rHandle_state (p : Prg) (t : Tsk) (VP VT : Value) (w : World) (hP : RPrg w p VP) (hT : RTsk w t VT) (hc : tcheckS p t = 0) (hst : t.status ≠ 1 ∨ inHand t = true) : Calls Tryz.prog 29 #[VP, VT] w (HandPost (handleS p t) w) := by
  have HC := Lib.hid (fun W h => rtcheck_any p t VP VT W (hP.mono h) (hT.mono h))
  rw [hc] at HC
  have HH := Lib.hid (fun W h => inHandler_any t VT W (hT.mono h))
  obtain ⟨Af, nf, cf, Ao, no, co, Av, nv, cv, rfl, _⟩ := hP
  obtain ⟨Bf, mf, df, Bb, mb, db, rfl, _⟩ := hT
  have HR : Hid (handleS p t = (zeroTsk, noHdl, 17)) := by unfold Hid handleS; rw [if_neg (by simpa using hc), if_pos hst]
  clear hc
  by_cases h1 : t.status = 1
  · have hh : inHand t = true := hst.resolve_left (fun h => h h1)
    rw [hh] at HH
    rw [h1] at HC HH ⊢
    clear hst hh h1
    go_enter Tryz.func29, Tryz.ntmps29
    go_wp2_with (first | ((first | ((with_reducible show Code.wp _ (Code.region _ (List.toArray ({ dst := _, op := Op.load 32 _, type := _, pos := _, after := _, guard := none } :: _)) false) _ _ _); refine wp_region_lit ?_) | (with_reducible show wpList _ _ _ ({ dst := _, op := Op.load 32 _, type := _, pos := _, after := _, guard := none } :: _) _ _)); refine wpList_load_mid rfl 32 _ rfl _ _ rfl _ _ (by exact rg) Tryz.underlying32 rfl (by exact infoTsk) ?_; dsimp only [dZ, dS]) | ((with_reducible show wpList _ _ _ ({ dst := _, op := Op.load 32 _, type := _, pos := _, after := _, guard := some _ } :: _) _ _); refine wpList_load_mid_g (by rfl) 32 _ rfl _ _ rfl _ _ (by exact rg) Tryz.underlying32 rfl (by exact infoTsk) ?_; dsimp only [dZ, dS]) | ((with_reducible show wpList _ _ _ ({ dst := _, op := Op.store 32 _ _, type := _, pos := _, after := _, guard := none } :: _) _ _); refine wpList_store_mid rfl 32 _ _ rfl _ _ _ rfl rfl (by exact tr) infoTsk (all_oneCell_toArray (by simp [Value.oneCell'])) ?_; (try dsimp only [Act.put])) | ((with_reducible show wpList _ _ _ ({ dst := _, op := Op.store 58 _ _, type := _, pos := _, after := _, guard := none } :: _) _ _); refine wpList_store_mid rfl 58 _ _ rfl _ _ _ rfl rfl (by exact tr) infoHdl2 (all_oneCell_toArray (by simp [Value.oneCell'])) ?_; (try dsimp only [Act.put])) | (go_at_call 18; refine (HC.out _ xt).mono ?_; rintro e w1 ⟨rfl, hb⟩; have T1 := there_ext (b := w.heap.size + 1 + 1) (o := 0) (n := 14) (by exact tr) hb; have U1 := there_ext (b := w.heap.size + 1 + 1 + 1) (o := 0) (n := 2) (by exact tr) hb; have R1 := range_ext (b := w.heap.size + 1) (o := 0) (by exact rg) hb; have he0 := Lib.hid hb; obtain ⟨hc, hf, hs, he⟩ := Ext.use (w := w) hb xt; clear hb; (try simp only [World.size_alloc] at hs); have hz1 : w.heap.size + 1 + 1 + 1 < w1.heap.size := (by omega)) | (go_at_call 54; refine (HH.out _ xt).mono ?_; rintro e w2 ⟨rfl, hb⟩; have T2 := there_ext T1 hb; have U2 := there_ext U1 hb; have he0 := Lib.hid hb; obtain ⟨hc2, hf2, hs2, he2⟩ := Ext.use (w := w) hb xt; clear hb))
    refine ret_range4 (b := w.heap.size + 1 + 1) (b2 := w.heap.size + 1 + 1 + 1) Tryz.results29 rfl rfl rfl rfl ?hl ?hl2 (ranges_two (by omega) ?t1 ?t2).1 (ranges_two (by omega) ?t3 ?t4).2 ?fin
    case hl => rfl
    case hl2 => rfl
    case t1 => exact tr
    case t2 => exact tr
    case t3 => exact tr
    case t4 => exact tr
    rw [HR.out]
    exact handPost_no xts
  · have hcb : (t.status != 1) = true := by simpa using h1
    clear hst h1
    go_enter Tryz.func29, Tryz.ntmps29
    go_wp2_with (first | ((first | ((with_reducible show Code.wp _ (Code.region _ (List.toArray ({ dst := _, op := Op.load 32 _, type := _, pos := _, after := _, guard := none } :: _)) false) _ _ _); refine wp_region_lit ?_) | (with_reducible show wpList _ _ _ ({ dst := _, op := Op.load 32 _, type := _, pos := _, after := _, guard := none } :: _) _ _)); refine wpList_load_mid rfl 32 _ rfl _ _ rfl _ _ (by exact rg) Tryz.underlying32 rfl (by exact infoTsk) ?_; dsimp only [dZ, dS]) | ((with_reducible show wpList _ _ _ ({ dst := _, op := Op.store 32 _ _, type := _, pos := _, after := _, guard := none } :: _) _ _); refine wpList_store_mid rfl 32 _ _ rfl _ _ _ rfl rfl (by exact tr) infoTsk (all_oneCell_toArray (by simp [Value.oneCell'])) ?_; (try dsimp only [Act.put])) | ((with_reducible show wpList _ _ _ ({ dst := _, op := Op.store 58 _ _, type := _, pos := _, after := _, guard := none } :: _) _ _); refine wpList_store_mid rfl 58 _ _ rfl _ _ _ rfl rfl (by exact tr) infoHdl2 (all_oneCell_toArray (by simp [Value.oneCell'])) ?_; (try dsimp only [Act.put])) | (go_at_call 18; refine (HC.out _ xt).mono ?_; rintro e w1 ⟨rfl, hb⟩; have T1 := there_ext (b := w.heap.size + 1 + 1) (o := 0) (n := 14) (by exact tr) hb; have U1 := there_ext (b := w.heap.size + 1 + 1 + 1) (o := 0) (n := 2) (by exact tr) hb; have he0 := Lib.hid hb; obtain ⟨hc, hf, hs, he⟩ := Ext.use (w := w) hb xt; clear hb; (try simp only [World.size_alloc] at hs); have hz1 : w.heap.size + 1 + 1 + 1 < w1.heap.size := (by omega)))
    refine ret_range4 (b := w.heap.size + 1 + 1) (b2 := w.heap.size + 1 + 1 + 1) Tryz.results29 rfl rfl rfl rfl ?hlb ?hl2b (ranges_two (by omega) ?t1b ?t2b).1 (ranges_two (by omega) ?t3b ?t4b).2 ?finb
    case hlb => rfl
    case hl2b => rfl
    case t1b => exact tr
    case t2b => exact tr
    case t3b => exact tr
    case t4b => exact tr
    rw [HR.out]
    exact handPost_no xts
end Go.Proofs.YtcjjoabofecjmaaGreat
