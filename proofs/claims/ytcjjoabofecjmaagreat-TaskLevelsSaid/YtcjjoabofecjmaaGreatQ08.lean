/- A part of the proof: Resume of package task; The memory of a runner; outside, within, validNumbers, validWait and validHandler of package task. -/
import Derived.Test.YtcjjoabofecjmaaGreatQ04
import Derived.Test.YtcjjoabofecjmaaGreatQ07
import Derived.Test.YtcjjoabofecjmaaGreatQ02
set_option linter.unusedVariables false
set_option linter.unusedSimpArgs false
namespace Go.Proofs.YtcjjoabofecjmaaGreat
open Go.RowKit
def badR (t : Tsk) : Prop := t.unw = false ∨ t.level = 0 ∨ (t.blocks.length : Int) ≠ t.level ∨ t.frames.length = 0 ∨ inHand t = true
theorem resumeS_err {t : Tsk} (h : badR t) : resumeS t = (zeroTsk, 17) := by unfold resumeS; exact if_pos h
theorem resumeS_ok {t : Tsk} (h : ¬ badR t) {f : Frm} {b : Blk} (hf : t.frames[t.frames.length - 1]? = some f) (hb : t.blocks[t.blocks.length - 1]? = some b) :
    resumeS t = ({ t with unw := false, level := 0, frames := t.frames.set (t.frames.length - 1) { f with pc := b.exit } }, 0) := by
  unfold resumeS; rw [if_neg (show ¬ (_ ∨ _ ∨ _ ∨ _ ∨ _) from h), hf, hb]
theorem OFr.reads' {B : Nat} {w : World} {fs : List Frm} {A : Option Addr} {n c : Nat} {rs : List Value} (h : OFr B w fs (.slice A n c) rs) (hn : fs.length ≤ 1000) (hr : ∀ f : Frm, f ∈ fs → f.regs.length ≤ 1000) : n ≤ c ∧ RSl 5 RFrm w A n fs := by
  obtain ⟨A', c', e, hc, hs⟩ := h.reads (by omega) (fun f hf => by have := hr f hf; omega)
  injection e with e1 e2 e3
  subst e1 e2 e3
  exact ⟨hc, hs⟩
theorem OBl.reads' {B : Nat} {w : World} {bs : List Blk} {A : Option Addr} {n c : Nat} {hs rs : List Value} {gs : List (List Value)} (h : OBl B w bs (.slice A n c) hs gs rs) (hn : bs.length ≤ 1000) (hr : ∀ b : Blk, b ∈ bs → b.handlers.length ≤ 1000) : n ≤ c ∧ RSl 5 RBlk w A n bs := by
  obtain ⟨A', c', e, hc, hs⟩ := h.reads (by omega) (fun f hf => by have := hr f hf; omega)
  injection e with e1 e2 e3
  subst e1 e2 e3
  exact ⟨hc, hs⟩
theorem OBl.hnds_far {B r : Nat} {w : World} {bs : List Blk} {VB : Value} {hs rs : List Value} {gs : List (List Value)} (h : OBl B w bs VB hs gs rs) (hr : r < B) : ∀ v ∈ hs, v.ownBlock = none ∨ v.ownBlock ≠ some r := fun v hv => by
  obtain ⟨i, hi, rfl⟩ := List.getElem_of_mem hv
  exact own_ne (h.hnd i _ _ _ (List.getElem?_eq_getElem (show i < bs.length by rw [← h.len]; exact hi)) (List.getElem?_eq_getElem hi) (List.getElem?_eq_getElem (show i < gs.length by rw [h.alen, ← h.len]; exact hi))).2 hr
theorem low_nil (w : World) : Low w [] := by unfold Low; simp
theorem own_lt {w : World} {B : Nat} {e : TypeId} {sz : Nat} {v : Value} {n : Nat} {xs : List Value} (h : w.ownsRow B e sz v n xs) {g : Nat} (hg : v.ownBlock = some g) : B ≤ g ∧ g < w.heap.size := h.lt g hg
theorem OFr.regs_ne {B B' : Nat} {w : World} {fs : List Frm} {VF u : Value} {rs : List Value} {e : TypeId} {sz n : Nat} {xs : List Value} (h : OFr B w fs VF rs) (hu : w.ownsRow B' e sz u n xs) (he : 3 ≠ e) : ∀ v ∈ rs, v.ownBlock = none ∨ v.ownBlock ≠ u.ownBlock := fun v hv => by
  obtain ⟨i, hi, rfl⟩ := List.getElem_of_mem hv
  exact apart_types (h.reg i _ _ (List.getElem?_eq_getElem (by rw [← h.len]; exact hi)) (List.getElem?_eq_getElem hi)) hu he
theorem OBl.hnds_ne {B B' : Nat} {w : World} {bs : List Blk} {VB u : Value} {hs rs : List Value} {gs : List (List Value)} {e : TypeId} {sz n : Nat} {xs : List Value} (h : OBl B w bs VB hs gs rs) (hu : w.ownsRow B' e sz u n xs) (he : 58 ≠ e) : ∀ v ∈ hs, v.ownBlock = none ∨ v.ownBlock ≠ u.ownBlock := fun v hv => by
  obtain ⟨i, hi, rfl⟩ := List.getElem_of_mem hv
  have hb := List.getElem?_eq_getElem (show i < bs.length by rw [← h.len]; exact hi)
  have hg := List.getElem?_eq_getElem (show i < gs.length by rw [h.alen, ← h.len]; exact hi)
  exact apart_types (h.hnd i _ _ _ hb (List.getElem?_eq_getElem hi) hg).2 hu he
set_option maxRecDepth 4000 in
set_option maxHeartbeats 4000000 in
theorem resume_ok (t : Tsk) (V : Value) (w : World) (hV : RTsk w t V) (hnf : t.frames.length ≤ 1000) (hnb : t.blocks.length ≤ 1000) (hnr : ∀ f : Frm, f ∈ t.frames → f.regs.length ≤ 1000) (hnh : ∀ b : Blk, b ∈ t.blocks → b.handlers.length ≤ 1000) (hQ : ¬ badR t) :
    Calls Tryz.prog 34 #[V] w fun e w' => ∃ V', e = .returned (.tuple #[V', Value.int .i64 (resumeS t).2]) ∧ RTsk w' (resumeS t).1 V' ∧ Ext w w' := by
  have HV := Lib.hid hV
  have HI := Lib.hid hV.inr
  have HH := Lib.hid (fun W h => handles_any t V W (hV.mono h))
  have HNR := Lib.hid hnr
  have HNH := Lib.hid hnh
  have HNF := Lib.hid hnf
  have HNB := Lib.hid hnb
  have HQ := Lib.hid hQ
  have hu : t.unw = true := by cases h : t.unw with | false => exact absurd (.inl h) hQ | true => rfl
  have hl0 : ¬ t.level = 0 := fun h => hQ (.inr (.inl h))
  have hin : inHand t = false := by cases h : inHand t with | true => exact absurd (.inr (.inr (.inr (.inr h)))) hQ | false => rfl
  have hl2 : (t.blocks.length : Int) = t.level := Classical.byContradiction fun h => hQ (.inr (.inr (.inl h)))
  have hnf0 : 0 < t.frames.length := by rcases Nat.eq_zero_or_pos t.frames.length with h | h; exact absurd (.inr (.inr (.inr (.inl h)))) hQ; exact h
  have hnb0 : 0 < t.blocks.length := by omega
  obtain ⟨Af, nf, cf, Ab, nb, cb, rfl, _, _, _, _, _, _, _, _, _, _, hF, hB, hcf, hcb⟩ := hV
  have h1 := hF.len
  subst h1
  have h1 := hB.len
  subst h1
  obtain ⟨f, hf⟩ : ∃ f, t.frames[t.frames.length - 1]? = some f := ⟨_, List.getElem?_eq_getElem (by omega)⟩
  obtain ⟨x, hx⟩ : ∃ x, t.blocks[t.blocks.length - 1]? = some x := ⟨_, List.getElem?_eq_getElem (by omega)⟩
  have HS := Lib.hid (resumeS_ok hQ hf hx)
  have HFk := Lib.hid hf
  have HXk := Lib.hid hx
  have HXI := Lib.hid (hB.blk_in x (List.mem_of_getElem? hx)).2.2.1
  rw [hin, hu] at HH
  rw [hu] at HV
  have hl1 : (t.level == 0) = false := beq_eq_false_iff_ne.2 hl0
  have hl2' : ((t.blocks.length : Int) != t.level) = false := by simp [hl2]
  have hnf1 : ((t.frames.length : Int) == 0) = false := beq_eq_false_iff_ne.2 (by omega)
  have hle : t.frames.length ≤ 9223372036854775807 := by omega
  have hle2 : t.blocks.length ≤ 9223372036854775807 := by omega
  have hsub : IntKind.i64.wrap ((t.blocks.length : Int) - 1) = ((t.blocks.length - 1 : Nat) : Int) := by rw [IntWalk.i64_in _ (by omega)]; omega
  have hlt : ((t.blocks.length - 1 : Nat) : Int) < (t.blocks.length : Int) := by omega
  have hge : (0 : Int) ≤ ((t.blocks.length - 1 : Nat) : Int) := by omega
  clear hF hB hnf hnb hnr hnh hQ hl2 hl0 hin hf hx
  go_enter Tryz.func34, Tryz.ntmps34
  go_wp2_with (first | ((first | ((with_reducible show Code.wp _ (Code.region _ (List.toArray ({ dst := _, op := Op.load 32 _, type := _, pos := _, after := _, guard := none } :: _)) false) _ _ _); refine wp_region_lit ?_) | (with_reducible show wpList _ _ _ ({ dst := _, op := Op.load 32 _, type := _, pos := _, after := _, guard := none } :: _) _ _)); refine wpList_load_mid rfl 32 _ rfl _ _ rfl _ _ (by exact rg) Tryz.underlying32 rfl (by exact infoTsk) ?_; dsimp only [dZ, dS]) | ((with_reducible show wpList _ _ _ ({ dst := _, op := Op.store 32 _ _, type := _, pos := _, after := _, guard := none } :: _) _ _); refine wpList_store_mid rfl 32 _ _ rfl _ _ _ rfl rfl (by exact tr) infoTsk (all_oneCell_toArray (by simp [Value.oneCell'])) ?_; (try dsimp only [Act.put])) | (go_at_call 65; refine (HH.out _ xt).mono ?_; rintro e w1 ⟨rfl, hb⟩; have R1 := range_ext (b := w.heap.size) (o := 0) (by exact rg) hb; have T1 := there_ext (b := w.heap.size + 1) (o := 0) (n := 14) (by exact tr) hb; have S1 := there_ext (b := w.heap.size) (o := 0) (n := 14) (by exact tr) hb; obtain ⟨hc, hf, hs, he⟩ := Ext.use (w := w) hb xt; clear hb; (try simp only [World.size_alloc] at hs)) | (go_at_call 66; with_reducible refine (copied_any t _ w _ HV.out xt HNF.out HNB.out HNR.out HNH.out).mono ?_; rintro e w2 ⟨VF, VB, rs, hs0, gs, rfl, hOF, hOB, hb⟩; have R2 := range_ext (b := w.heap.size) (o := 0) (by exact rg) hb; have T2 := there_ext (b := w.heap.size) (o := 0) (n := 14) (by exact tr) hb; have U2 := there_ext (b := w.heap.size + 1) (o := 0) (n := 14) (by exact tr) hb; have C2 := fun (vs : List Value) (hl : vs.length = 14) => setCells_cell T2 hl; have D2 := fun (vs : List Value) (a : Addr) => World.frozen?_setCells w.heap.size vs 0 w2 a; obtain ⟨hc2, hf2, hs2, he2⟩ := Ext.use (w := w) hb xt; have HOF := Lib.hid (hOF.base (B' := w.heap.size + 1 + 1) (by omega)); have HOB := Lib.hid (fun L hL => (hOB L hL).base (B' := w.heap.size + 1 + 1) (by omega)); obtain ⟨gF, cF, rfl, hgF⟩ := own_form HOF.out.row hnf0; obtain ⟨gB, cB, rfl, hgB⟩ := own_form (HOB.out [] (low_nil w)).row hnb0; clear hb hOF hOB))
  refine wp_hid2 ?_
  intro W4 HW4
  have hz1 : w.heap.size + 1 + 1 ≤ w2.heap.size := by omega
  have G4 : w2.grownBy W4 (some w.heap.size) := by rw [HW4.out]; refine World.grownBy.trans ?_ (grown_setCell _ _ _); refine World.grownBy.trans ?_ (grown_setCell _ _ _); exact setCells_grown _ _ _ _
  have HE4 : Hid (Ext w W4) := by rw [Hid, HW4.out]; exact ((he2.setCells (Nat.le_refl _) _ _).setCell (Nat.le_refl _) _).setCell (Nat.le_refl _) _
  have hz4 : w2.heap.size ≤ W4.heap.size := G4.size
  have U4 : W4.there (w.heap.size + 1) 0 14 := by rw [HW4.out]; exact there_set (there_set (there_sets U2))
  have R4 := range_same (k := 11) (u := Value.int .i64 0) (range_same (k := 10) (u := .bool false) (World.rangeAt_setCells_same w2 w.heap.size 0 [Value.int .i64 t.fn, Value.int .i64 t.scope, Value.int .i64 t.prio, Value.int .i64 t.status, Value.int .i64 t.wkind, Value.int .i64 t.windex, .bool t.wagain, .slice (some ⟨gF, 0, none⟩) t.frames.length cF, .slice (some ⟨gB, 0, none⟩) t.blocks.length cB, Value.int .i64 t.mask, .bool true, Value.int .i64 t.level, Value.int .i64 t.reason, Value.int .i64 t.result] T2))
  rw [← HW4.out] at R4
  dsimp only [List.set_cons_zero, List.set_cons_succ] at R4
  have HRL := HOF.out
  have LL : Low w (.slice (some ⟨w.heap.size, 0, none⟩) 0 0 :: .slice (some ⟨w.heap.size + 1, 0, none⟩) 0 0 :: .slice (some ⟨gF, 0, none⟩) t.frames.length cF :: []) := by
    intro r hr y hy
    simp only [List.mem_cons, List.not_mem_nil, or_false] at hr
    rcases hr with rfl | rfl | rfl <;> simp only [Value.ownBlock, Option.some.injEq] at hy <;> omega
  have HOB2 := HOB.out _ LL
  have HOF4 := HOF.out.far G4 (by omega)
  have HOB4 := HOB2.wrote G4 (own_ne HOB2.row (b := w.heap.size) (by omega)) (fun v hv => by
    obtain ⟨i, hi, rfl⟩ := List.getElem_of_mem hv
    exact own_ne (HOB2.hnd i _ _ _ (List.getElem?_eq_getElem (show i < t.blocks.length by rw [← HOB2.len]; exact hi)) (List.getElem?_eq_getElem hi) (List.getElem?_eq_getElem (show i < gs.length by rw [HOB2.alen, ← HOB2.len]; exact hi))).2 (b := w.heap.size) (by omega)) (List.mem_cons_self) rfl
  obtain ⟨v4, hv4⟩ : ∃ v, hs0[t.blocks.length - 1]? = some v := ⟨_, List.getElem?_eq_getElem (by rw [HOB4.len]; omega)⟩
  have x4 : W4.cell? ⟨gB, (t.blocks.length - 1) * 5 + 2, none⟩ = some (Value.int .i64 x.exit) := by
    rw [HOB4.row.cellAt _ (by omega), rowOf_get blkCells_len HXk.out hv4 (by omega)]; rfl
  have k4 : W4.cell? ⟨w.heap.size, 8, none⟩ = some (.slice (some ⟨gB, 0, none⟩) t.blocks.length cB) := R4 8 _ rfl
  obtain ⟨g', c', e', _, fzF, pcF, _⟩ := HOF4.set_pc (i := t.frames.length - 1) HFk.out
  injection e' with e1 e2 e3
  injection e1 with e1
  injection e1 with e1
  subst e1
  clear e2 e3
  have hne : ¬ gF = gB := by
    rcases apart_types HOF4.row HOB4.row (by decide) with e | e
    · simp [Value.ownBlock] at e
    · simpa [Value.ownBlock] using e
  have hne1 : ¬ gF = w.heap.size := by omega
  have hltF : gF < W4.heap.size := lt_of_cell pcF
  have hltB : gB < W4.heap.size := lt_of_cell x4
  have hlt0 : w.heap.size < W4.heap.size := by omega
  have q0 : W4.cell? ⟨w.heap.size, 0, none⟩ = some (Value.int .i64 t.fn) := R4 0 _ rfl
  have q1 : W4.cell? ⟨w.heap.size, 1, none⟩ = some (Value.int .i64 t.scope) := R4 1 _ rfl
  have q2 : W4.cell? ⟨w.heap.size, 2, none⟩ = some (Value.int .i64 t.prio) := R4 2 _ rfl
  have q3 : W4.cell? ⟨w.heap.size, 3, none⟩ = some (Value.int .i64 t.status) := R4 3 _ rfl
  have q4 : W4.cell? ⟨w.heap.size, 4, none⟩ = some (Value.int .i64 t.wkind) := R4 4 _ rfl
  have q5 : W4.cell? ⟨w.heap.size, 5, none⟩ = some (Value.int .i64 t.windex) := R4 5 _ rfl
  have q6 : W4.cell? ⟨w.heap.size, 6, none⟩ = some (.bool t.wagain) := R4 6 _ rfl
  have q7 : W4.cell? ⟨w.heap.size, 7, none⟩ = some (.slice (some ⟨gF, 0, none⟩) t.frames.length cF) := R4 7 _ rfl
  have q8 : W4.cell? ⟨w.heap.size, 8, none⟩ = some (.slice (some ⟨gB, 0, none⟩) t.blocks.length cB) := R4 8 _ rfl
  have q9 : W4.cell? ⟨w.heap.size, 9, none⟩ = some (Value.int .i64 t.mask) := R4 9 _ rfl
  have q10 : W4.cell? ⟨w.heap.size, 10, none⟩ = some (.bool false) := R4 10 _ rfl
  have q11 : W4.cell? ⟨w.heap.size, 11, none⟩ = some (Value.int .i64 0) := R4 11 _ rfl
  have q12 : W4.cell? ⟨w.heap.size, 12, none⟩ = some (Value.int .i64 t.reason) := R4 12 _ rfl
  have q13 : W4.cell? ⟨w.heap.size, 13, none⟩ = some (Value.int .i64 t.result) := R4 13 _ rfl
  have HOF4 := Lib.hid HOF4
  have HOB4 := Lib.hid HOB4
  clear HW4 C2 D2 hc2 hf2 R2 T2 U2 HOF HOB HOB2 HRL LL G4 hv4
  go_region_held3 (fun W' => W'.cell? ⟨w.heap.size, 0, none⟩ = some (Value.int .i64 t.fn) ∧ W'.cell? ⟨w.heap.size, 1, none⟩ = some (Value.int .i64 t.scope) ∧ W'.cell? ⟨w.heap.size, 2, none⟩ = some (Value.int .i64 t.prio) ∧ W'.cell? ⟨w.heap.size, 3, none⟩ = some (Value.int .i64 t.status) ∧ W'.cell? ⟨w.heap.size, 4, none⟩ = some (Value.int .i64 t.wkind) ∧ W'.cell? ⟨w.heap.size, 5, none⟩ = some (Value.int .i64 t.windex) ∧ W'.cell? ⟨w.heap.size, 6, none⟩ = some (.bool t.wagain) ∧ W'.cell? ⟨w.heap.size, 7, none⟩ = some (.slice (some ⟨gF, 0, none⟩) t.frames.length cF) ∧ W'.cell? ⟨w.heap.size, 8, none⟩ = some (.slice (some ⟨gB, 0, none⟩) t.blocks.length cB) ∧ W'.cell? ⟨w.heap.size, 9, none⟩ = some (Value.int .i64 t.mask) ∧ W'.cell? ⟨w.heap.size, 10, none⟩ = some (.bool false) ∧ W'.cell? ⟨w.heap.size, 11, none⟩ = some (Value.int .i64 0) ∧ W'.cell? ⟨w.heap.size, 12, none⟩ = some (Value.int .i64 t.reason) ∧ W'.cell? ⟨w.heap.size, 13, none⟩ = some (Value.int .i64 t.result) ∧ W'.cell? ⟨gB, (t.blocks.length - 1) * 5 + 2, none⟩ = some (Value.int .i64 x.exit))
    ((repeat' (with_reducible apply And.intro)) <;> (go_simp; done))
    ((go_at_call 75; refine (innermost_any _ _ _ _ _ _ _ _ _ _ _ _ _ gF 0 t.frames.length cF _ hnf0 (by have := HNF.out; omega)).mono ?_; rintro e w5 ⟨rfl, hb5⟩; have R5 := range_ext (b := w.heap.size) (o := 0) (by exact rg) hb5; obtain ⟨hc5, hf5, hs5, he5⟩ := Ext.use (w := W4) hb5 xt; clear hb5; (try simp only [World.size_drew] at hs5)))
  have HOF5 := HOF4.out.mono he5
  obtain ⟨g', c', e', _, _, _, hset⟩ := HOF5.set_pc (i := t.frames.length - 1) HFk.out
  injection e' with e1 e2 e3
  injection e1 with e1
  injection e1 with e1
  subst e1
  clear e2 e3
  obtain ⟨hset1, hset2⟩ := hset x.exit HXI.out
  have HOB5 := HOB4.out.mono he5
  have HOB6 := HOB5.wrote hset2 (.inr (fun e => hne (by simp only [Value.ownBlock, Option.some.injEq] at e; exact e.symm))) (HOB5.hnds_ne HOF5.row (by decide)) (List.mem_cons_of_mem _ (List.mem_cons_of_mem _ List.mem_cons_self)) rfl
  have U5 := there_ext U4 he5
  have finF : Hid (∀ vs, t.frames.length ≤ cF ∧ RSl 5 RFrm ((w5.setCell ⟨gF, (t.frames.length - 1) * 5 + 1, none⟩ (Value.int .i64 x.exit)).setCells (w.heap.size + 1) 0 vs) (some ⟨gF, 0, none⟩) t.frames.length (t.frames.set (t.frames.length - 1) { f with pc := x.exit })) := fun vs =>
    (OFr.reads' (hset1.far (setCells_grown (w.heap.size + 1) vs 0 _) (by omega)) (by rw [List.length_set]; exact HNF.out) (fun y hy => by
      rcases List.mem_or_eq_of_mem_set hy with h | rfl
      · exact HNR.out y h
      · exact HNR.out f (List.mem_of_getElem? HFk.out)))
  have finB : Hid (∀ vs, t.blocks.length ≤ cB ∧ RSl 5 RBlk ((w5.setCell ⟨gF, (t.frames.length - 1) * 5 + 1, none⟩ (Value.int .i64 x.exit)).setCells (w.heap.size + 1) 0 vs) (some ⟨gB, 0, none⟩) t.blocks.length t.blocks) := fun vs =>
    OBl.reads' (HOB6.wrote (setCells_grown (w.heap.size + 1) vs 0 _) (own_ne HOB6.row (by omega)) (HOB6.hnds_far (by omega)) (List.mem_cons_of_mem _ List.mem_cons_self) rfl) HNB.out HNH.out
  have HE6 : Hid (∀ vs, Ext w ((w5.setCell ⟨gF, (t.frames.length - 1) * 5 + 1, none⟩ (Value.int .i64 x.exit)).setCells (w.heap.size + 1) 0 vs)) := fun vs => ((HE4.out.trans he5).setCell (show w.heap.size ≤ gF by omega) _).setCells (by omega) 0 vs
  clear hset hset1 hset2 HOB5 HOB6 HOF5 HOF4 HOB4 hc5 hf5
  go_wp2_with (first | ((first | ((with_reducible show Code.wp _ (Code.region _ (List.toArray ({ dst := _, op := Op.load 32 _, type := _, pos := _, after := _, guard := none } :: _)) false) _ _ _); refine wp_region_lit ?_) | (with_reducible show wpList _ _ _ ({ dst := _, op := Op.load 32 _, type := _, pos := _, after := _, guard := none } :: _) _ _)); refine wpList_load_mid rfl 32 _ rfl _ _ rfl _ _ (by exact rg) Tryz.underlying32 rfl (by exact infoTsk) ?_; dsimp only [dZ, dS]) | ((with_reducible show wpList _ _ _ ({ dst := _, op := Op.store 32 _ _, type := _, pos := _, after := _, guard := none } :: _) _ _); refine wpList_store_mid rfl 32 _ _ rfl _ _ _ rfl rfl (by exact tr) infoTsk (all_oneCell_toArray (by simp [Value.oneCell'])) ?_; (try dsimp only [Act.put])))
  refine ret_range2 (b := w.heap.size + 1) Tryz.results34 rfl rfl rfl rfl (World.rangeAt_setCells_same _ _ 0 _ (by exact tr)) ?_
  rw [HS.out]
  exact ⟨_, rfl, rtsk_of (t := { t with unw := false, level := 0, frames := t.frames.set (t.frames.length - 1) { f with pc := x.exit } }) ⟨HI.out.1, HI.out.2.1, HI.out.2.2.1, HI.out.2.2.2.1, HI.out.2.2.2.2.1, HI.out.2.2.2.2.2.1, HI.out.2.2.2.2.2.2.1, zero_in, HI.out.2.2.2.2.2.2.2.2.1, HI.out.2.2.2.2.2.2.2.2.2⟩ (finF.out _).2 (finF.out []).1 (finB.out _).2 (finB.out []).1, HE6.out _⟩
set_option maxRecDepth 4000 in
set_option maxHeartbeats 4000000 in
theorem resume_any (t : Tsk) (V : Value) (w : World) (hV : RTsk w t V) (hnf : t.frames.length ≤ 1000) (hnb : t.blocks.length ≤ 1000) (hnr : ∀ f : Frm, f ∈ t.frames → f.regs.length ≤ 1000) (hnh : ∀ b : Blk, b ∈ t.blocks → b.handlers.length ≤ 1000) :
    Calls Tryz.prog 34 #[V] w fun e w' => ∃ V', e = .returned (.tuple #[V', Value.int .i64 (resumeS t).2]) ∧ RTsk w' (resumeS t).1 V' ∧ Ext w w' := by
  have HV := Lib.hid hV
  have HI := Lib.hid hV.inr
  have HH := Lib.hid (fun W h => handles_any t V W (hV.mono h))
  have HNR := Lib.hid hnr
  have HNH := Lib.hid hnh
  have HNF := Lib.hid hnf
  have HNB := Lib.hid hnb
  obtain ⟨Af, nf, cf, Ab, nb, cb, rfl, _, _, _, _, _, _, _, _, _, _, hF, hB, hcf, hcb⟩ := hV
  have LB := Lib.hid hB.len
  have LF := Lib.hid hF.len
  have hle := hF.le
  have hle2 := hB.le
  have HF := Lib.hid hF
  have HB := Lib.hid hB
  clear hF hB hnf hnb hnr hnh
  cases hu : t.unw with
  | false =>
    have HS : Hid (resumeS t = (zeroTsk, 17)) := resumeS_err (.inl hu)
    go_enter Tryz.func34, Tryz.ntmps34
    go_wp2_with (first | ((first | ((with_reducible show Code.wp _ (Code.region _ (List.toArray ({ dst := _, op := Op.load 32 _, type := _, pos := _, after := _, guard := none } :: _)) false) _ _ _); refine wp_region_lit ?_) | (with_reducible show wpList _ _ _ ({ dst := _, op := Op.load 32 _, type := _, pos := _, after := _, guard := none } :: _) _ _)); refine wpList_load_mid rfl 32 _ rfl _ _ rfl _ _ (by exact rg) Tryz.underlying32 rfl (by exact infoTsk) ?_; dsimp only [dZ, dS]) | ((with_reducible show wpList _ _ _ ({ dst := _, op := Op.store 32 _ _, type := _, pos := _, after := _, guard := none } :: _) _ _); refine wpList_store_mid rfl 32 _ _ rfl _ _ _ rfl rfl (by exact tr) infoTsk (all_oneCell_toArray (by simp [Value.oneCell'])) ?_; (try dsimp only [Act.put])))
    refine ret_range2 (b := w.heap.size + 1) Tryz.results34 rfl rfl rfl rfl (World.rangeAt_setCells_same _ _ 0 _ (by exact tr)) ?_
    rw [HS.out]
    exact ⟨_, rfl, zero_reads _, xts⟩
  | true =>
    rw [hu] at HH HV
    have HU := Lib.hid hu
    by_cases hl0 : t.level = 0
    · have HS : Hid (resumeS t = (zeroTsk, 17)) := resumeS_err (.inr (.inl hl0))
      go_enter Tryz.func34, Tryz.ntmps34
      go_wp2_with (first | ((first | ((with_reducible show Code.wp _ (Code.region _ (List.toArray ({ dst := _, op := Op.load 32 _, type := _, pos := _, after := _, guard := none } :: _)) false) _ _ _); refine wp_region_lit ?_) | (with_reducible show wpList _ _ _ ({ dst := _, op := Op.load 32 _, type := _, pos := _, after := _, guard := none } :: _) _ _)); refine wpList_load_mid rfl 32 _ rfl _ _ rfl _ _ (by exact rg) Tryz.underlying32 rfl (by exact infoTsk) ?_; dsimp only [dZ, dS]) | ((with_reducible show wpList _ _ _ ({ dst := _, op := Op.store 32 _ _, type := _, pos := _, after := _, guard := none } :: _) _ _); refine wpList_store_mid rfl 32 _ _ rfl _ _ _ rfl rfl (by exact tr) infoTsk (all_oneCell_toArray (by simp [Value.oneCell'])) ?_; (try dsimp only [Act.put])))
      refine ret_range2 (b := w.heap.size + 1) Tryz.results34 rfl rfl rfl rfl (World.rangeAt_setCells_same _ _ 0 _ (by exact tr)) ?_
      rw [HS.out]
      exact ⟨_, rfl, zero_reads _, xts⟩
    have hl1 : (t.level == 0) = false := beq_eq_false_iff_ne.2 hl0
    by_cases hl2 : (nb : Int) = t.level
    rotate_left
    · have HS : Hid (resumeS t = (zeroTsk, 17)) := resumeS_err (.inr (.inr (.inl (by rw [← LB.out]; exact hl2))))
      have hl2' : ((nb : Int) != t.level) = true := by simpa using hl2
      go_enter Tryz.func34, Tryz.ntmps34
      go_wp2_with (first | ((first | ((with_reducible show Code.wp _ (Code.region _ (List.toArray ({ dst := _, op := Op.load 32 _, type := _, pos := _, after := _, guard := none } :: _)) false) _ _ _); refine wp_region_lit ?_) | (with_reducible show wpList _ _ _ ({ dst := _, op := Op.load 32 _, type := _, pos := _, after := _, guard := none } :: _) _ _)); refine wpList_load_mid rfl 32 _ rfl _ _ rfl _ _ (by exact rg) Tryz.underlying32 rfl (by exact infoTsk) ?_; dsimp only [dZ, dS]) | ((with_reducible show wpList _ _ _ ({ dst := _, op := Op.store 32 _ _, type := _, pos := _, after := _, guard := none } :: _) _ _); refine wpList_store_mid rfl 32 _ _ rfl _ _ _ rfl rfl (by exact tr) infoTsk (all_oneCell_toArray (by simp [Value.oneCell'])) ?_; (try dsimp only [Act.put])))
      refine ret_range2 (b := w.heap.size + 1) Tryz.results34 rfl rfl rfl rfl (World.rangeAt_setCells_same _ _ 0 _ (by exact tr)) ?_
      rw [HS.out]
      exact ⟨_, rfl, zero_reads _, xts⟩
    rcases Nat.eq_zero_or_pos nf with h0 | h0
    · subst h0
      have HS : Hid (resumeS t = (zeroTsk, 17)) := resumeS_err (.inr (.inr (.inr (.inl LF.out.symm))))
      go_enter Tryz.func34, Tryz.ntmps34
      go_wp2_with (first | ((first | ((with_reducible show Code.wp _ (Code.region _ (List.toArray ({ dst := _, op := Op.load 32 _, type := _, pos := _, after := _, guard := none } :: _)) false) _ _ _); refine wp_region_lit ?_) | (with_reducible show wpList _ _ _ ({ dst := _, op := Op.load 32 _, type := _, pos := _, after := _, guard := none } :: _) _ _)); refine wpList_load_mid rfl 32 _ rfl _ _ rfl _ _ (by exact rg) Tryz.underlying32 rfl (by exact infoTsk) ?_; dsimp only [dZ, dS]) | ((with_reducible show wpList _ _ _ ({ dst := _, op := Op.store 32 _ _, type := _, pos := _, after := _, guard := none } :: _) _ _); refine wpList_store_mid rfl 32 _ _ rfl _ _ _ rfl rfl (by exact tr) infoTsk (all_oneCell_toArray (by simp [Value.oneCell'])) ?_; (try dsimp only [Act.put])))
      refine ret_range2 (b := w.heap.size + 1) Tryz.results34 rfl rfl rfl rfl (World.rangeAt_setCells_same _ _ 0 _ (by exact tr)) ?_
      rw [HS.out]
      exact ⟨_, rfl, zero_reads _, xts⟩
    have hnf0 : ¬ (nf : Int) = 0 := by omega
    have hnf1 : ((nf : Int) == 0) = false := beq_eq_false_iff_ne.2 hnf0
    cases hin : inHand t with
    | true =>
      have HS : Hid (resumeS t = (zeroTsk, 17)) := resumeS_err (.inr (.inr (.inr (.inr hin))))
      rw [hin] at HH
      clear hin
      go_enter Tryz.func34, Tryz.ntmps34
      go_wp2_with (first | ((first | ((with_reducible show Code.wp _ (Code.region _ (List.toArray ({ dst := _, op := Op.load 32 _, type := _, pos := _, after := _, guard := none } :: _)) false) _ _ _); refine wp_region_lit ?_) | (with_reducible show wpList _ _ _ ({ dst := _, op := Op.load 32 _, type := _, pos := _, after := _, guard := none } :: _) _ _)); refine wpList_load_mid rfl 32 _ rfl _ _ rfl _ _ (by exact rg) Tryz.underlying32 rfl (by exact infoTsk) ?_; dsimp only [dZ, dS]) | ((with_reducible show wpList _ _ _ ({ dst := _, op := Op.store 32 _ _, type := _, pos := _, after := _, guard := none } :: _) _ _); refine wpList_store_mid rfl 32 _ _ rfl _ _ _ rfl rfl (by exact tr) infoTsk (all_oneCell_toArray (by simp [Value.oneCell'])) ?_; (try dsimp only [Act.put])) | (go_at_call 65; refine (HH.out _ xt).mono ?_; rintro e w1 ⟨rfl, hb⟩; have R1 := range_ext (b := w.heap.size) (o := 0) (by exact rg) hb; have T1 := there_ext (b := w.heap.size + 1) (o := 0) (n := 14) (by exact tr) hb; have S1 := there_ext (b := w.heap.size) (o := 0) (n := 14) (by exact tr) hb; obtain ⟨hc, hf, hs, he⟩ := Ext.use (w := w) hb xt; clear hb; (try simp only [World.size_alloc] at hs)))
      refine ret_range2 (b := w.heap.size + 1) Tryz.results34 rfl rfl rfl rfl (World.rangeAt_setCells_same _ _ 0 _ (by exact tr)) ?_
      rw [HS.out]
      exact ⟨_, rfl, zero_reads _, xts⟩
    | false =>
      have HQ : Hid (¬ badR t) := by
        rintro (h | h | h | h | h)
        · rw [hu] at h; cases h
        · exact hl0 h
        · rw [← LB.out] at h; exact h hl2
        · have := LF.out; omega
        · rw [hin] at h; cases h
      rw [hin] at HH
      clear hin
      exact resume_ok t _ w HV.out HNF.out HNB.out HNR.out HNH.out HQ.out
end Go.Proofs.YtcjjoabofecjmaaGreat

namespace Go.Proofs.YtcjjoabofecjmaaGreat
open Go.RowKit
def boxV (R : Nat) : Value := .slice (some ⟨R, 0, none⟩) 1 1
structure RunSt (X : List Value) (B R : Nat) (P3 : List Value) (w : World) (t : Tsk) (n : Int) (VF VB : Value) (rs hs : List Value) (gs : List (List Value)) : Prop where
  three : P3.length = 3
  box : w.ownsRow B 98 18 (boxV R) 1 (P3 ++ (tskL t VF VB ++ [Value.int .i64 n]))
  fr : OFr B w t.frames VF rs
  bl : OBl B w t.blocks VB hs gs (boxV R :: VF :: VB :: (rs ++ (hs ++ X)))
  lt1 : ∀ r ∈ X, ∀ x, r.ownBlock = some x → x < w.heap.size
theorem RunSt.mono {X : List Value} {B R : Nat} {P3 : List Value} {w W : World} {t : Tsk} {n : Int} {VF VB : Value} {rs hs : List Value} {gs : List (List Value)} (h : RunSt X B R P3 w t n VF VB rs hs gs) (hE : Ext w W) : RunSt X B R P3 W t n VF VB rs hs gs :=
  ⟨h.three, ownsRow_ext h.box hE, h.fr.mono hE, h.bl.mono hE, fun r hr x hx => Nat.lt_of_lt_of_le (h.lt1 r hr x hx) hE.size⟩
theorem boxV_block (R : Nat) : (boxV R).ownBlock = some R := rfl
theorem RunSt.cellP {X : List Value} {B R : Nat} {P3 : List Value} {w : World} {t : Tsk} {n : Int} {VF VB : Value} {rs hs : List Value} {gs : List (List Value)} (h : RunSt X B R P3 w t n VF VB rs hs gs) {j : Nat} {v : Value} (hj : P3[j]? = some v) : w.cell? ⟨R, j, none⟩ = some v := by
  have hl := (List.getElem?_eq_some_iff.1 hj).1
  have h3 := h.three
  have := World.ownsRow.cellAt (g := R) (n := 1) (cap := 1) h.box j (by omega)
  rw [this, List.getElem?_append_left hl, hj]
theorem RunSt.cellT {X : List Value} {B R : Nat} {P3 : List Value} {w : World} {t : Tsk} {n : Int} {VF VB : Value} {rs hs : List Value} {gs : List (List Value)} (h : RunSt X B R P3 w t n VF VB rs hs gs) {j : Nat} {v : Value} (hj : (tskL t VF VB)[j]? = some v) : w.cell? ⟨R, 3 + j, none⟩ = some v := by
  have hl := (List.getElem?_eq_some_iff.1 hj).1
  have h3 := h.three
  have hT : (tskL t VF VB).length = 14 := rfl
  have := World.ownsRow.cellAt (g := R) (n := 1) (cap := 1) h.box (3 + j) (by omega)
  rw [this, List.getElem?_append_right (by omega), h3, Nat.add_sub_cancel_left, List.getElem?_append_left hl, hj]
theorem RunSt.task {X : List Value} {B R : Nat} {P3 : List Value} {w : World} {t : Tsk} {n : Int} {VF VB : Value} {rs hs : List Value} {gs : List (List Value)} (h : RunSt X B R P3 w t n VF VB rs hs gs) : w.rangeAt R 3 (tskL t VF VB) := fun _ _ hj => h.cellT hj
theorem RunSt.cellN {X : List Value} {B R : Nat} {P3 : List Value} {w : World} {t : Tsk} {n : Int} {VF VB : Value} {rs hs : List Value} {gs : List (List Value)} (h : RunSt X B R P3 w t n VF VB rs hs gs) : w.cell? ⟨R, 17, none⟩ = some (Value.int .i64 n) := by
  have h3 := h.three
  have hT : (tskL t VF VB).length = 14 := rfl
  have := World.ownsRow.cellAt (g := R) (n := 1) (cap := 1) h.box 17 (by omega)
  rw [this, List.getElem?_append_right (by omega), h3, List.getElem?_append_right (by omega), hT]; rfl
theorem RunSt.frozen {X : List Value} {B R : Nat} {P3 : List Value} {w : World} {t : Tsk} {n : Int} {VF VB : Value} {rs hs : List Value} {gs : List (List Value)} (h : RunSt X B R P3 w t n VF VB rs hs gs) (j : Nat) : w.frozen? ⟨R, j, none⟩ = false :=
  World.ownsRow.frozenAt (g := R) (n := 1) (cap := 1) h.box j
theorem RunSt.lt {X : List Value} {B R : Nat} {P3 : List Value} {w : World} {t : Tsk} {n : Int} {VF VB : Value} {rs hs : List Value} {gs : List (List Value)} (h : RunSt X B R P3 w t n VF VB rs hs gs) : B ≤ R ∧ R < w.heap.size := h.box.lt R rfl
theorem apart_ne {v u : Value} {g : Nat} (h : Apart v u) (hg : u.ownBlock = some g) : v.ownBlock = none ∨ v.ownBlock ≠ some g := by
  rcases h with h | h
  · exact .inl h
  · exact .inr (by rw [← hg]; exact h)
theorem RunSt.hs_row {X : List Value} {B R : Nat} {P3 : List Value} {w : World} {t : Tsk} {n : Int} {VF VB : Value} {rs hs : List Value} {gs : List (List Value)} (h : RunSt X B R P3 w t n VF VB rs hs gs) {v : Value} (hv : v ∈ hs) : ∃ m xs, w.ownsRow B 58 2 v m xs := by
  obtain ⟨i, hi, rfl⟩ := List.getElem_of_mem hv
  exact ⟨_, _, (h.bl.hnd i _ _ _ (List.getElem?_eq_getElem (show i < t.blocks.length by rw [← h.bl.len]; exact hi)) (List.getElem?_eq_getElem hi) (List.getElem?_eq_getElem (show i < gs.length by rw [h.bl.alen, ← h.bl.len]; exact hi))).2⟩
theorem RunSt.rs_row {X : List Value} {B R : Nat} {P3 : List Value} {w : World} {t : Tsk} {n : Int} {VF VB : Value} {rs hs : List Value} {gs : List (List Value)} (h : RunSt X B R P3 w t n VF VB rs hs gs) {v : Value} (hv : v ∈ rs) : ∃ m xs, w.ownsRow B 3 1 v m xs := by
  obtain ⟨i, hi, rfl⟩ := List.getElem_of_mem hv
  exact ⟨_, _, h.fr.reg i _ _ (List.getElem?_eq_getElem (show i < t.frames.length by rw [← h.fr.len]; exact hi)) (List.getElem?_eq_getElem hi)⟩
theorem RunSt.set_reg {X : List Value} {B R : Nat} {P3 : List Value} {w : World} {t : Tsk} {n : Int} {VF VB : Value} {rs hs : List Value} {gs : List (List Value)} (h : RunSt X B R P3 w t n VF VB rs hs gs) {i k : Nat} {f : Frm} {v : Value} (hf : t.frames[i]? = some f) (hv : rs[i]? = some v) (hk : k < f.regs.length) :
    ∃ g c, v = .slice (some ⟨g, 0, none⟩) f.regs.length c ∧ B ≤ g ∧ w.frozen? ⟨g, k, none⟩ = false ∧ (∃ u, w.cell? ⟨g, k, none⟩ = some u) ∧
      ∀ x : Int, InR x → RunSt X B R P3 (w.setCell ⟨g, k, none⟩ (Value.int .i64 x)) { t with frames := t.frames.set i { f with regs := f.regs.set k x } } n VF VB rs hs gs := by
  obtain ⟨g, c, rfl, hB, h1, h2, h3⟩ := h.fr.set_reg hf hv hk
  refine ⟨g, c, rfl, hB, h1, h2, fun x hx => ?_⟩
  obtain ⟨h4, h5⟩ := h3 x hx
  have hr := h.fr.reg i f _ hf hv
  exact ⟨h.three, h.box.kept h5 (apart_ne (apart_types h.box hr (by decide)) rfl), h4,
    h.bl.wrote h5 (apart_ne (apart_types h.bl.row hr (by decide)) rfl) (fun u hu => by obtain ⟨m, xs, hh⟩ := h.hs_row hu; exact apart_ne (apart_types hh hr (by decide)) rfl)
      (List.mem_cons_of_mem _ (List.mem_cons_of_mem _ (List.mem_cons_of_mem _ (List.mem_append_left _ (List.mem_of_getElem? hv))))) rfl, by rw [World.size_setCell]; exact h.lt1⟩
theorem RunSt.set_pc {X : List Value} {B R : Nat} {P3 : List Value} {w : World} {t : Tsk} {n : Int} {VF VB : Value} {rs hs : List Value} {gs : List (List Value)} (h : RunSt X B R P3 w t n VF VB rs hs gs) {i : Nat} {f : Frm} (hf : t.frames[i]? = some f) :
    ∃ g c, VF = .slice (some ⟨g, 0, none⟩) t.frames.length c ∧ B ≤ g ∧ w.frozen? ⟨g, i * 5 + 1, none⟩ = false ∧ w.cell? ⟨g, i * 5 + 1, none⟩ = some (Value.int .i64 f.pc) ∧
      ∀ x : Int, InR x → RunSt X B R P3 (w.setCell ⟨g, i * 5 + 1, none⟩ (Value.int .i64 x)) { t with frames := t.frames.set i { f with pc := x } } n VF VB rs hs gs := by
  obtain ⟨g, c, rfl, hB, h1, h2, h3⟩ := h.fr.set_pc hf
  refine ⟨g, c, rfl, hB, h1, h2, fun x hx => ?_⟩
  obtain ⟨h4, h5⟩ := h3 x hx
  have hr := h.fr.row
  exact ⟨h.three, h.box.kept h5 (apart_ne (apart_types h.box hr (by decide)) rfl), h4,
    h.bl.wrote h5 (apart_ne (apart_types h.bl.row hr (by decide)) rfl) (fun u hu => by obtain ⟨m, xs, hh⟩ := h.hs_row hu; exact apart_ne (apart_types hh hr (by decide)) rfl)
      (List.mem_cons_of_mem _ List.mem_cons_self) rfl, by rw [World.size_setCell]; exact h.lt1⟩
theorem RunSt.set_box {X : List Value} {B R : Nat} {P3 : List Value} {w : World} {t t' : Tsk} {n n' : Int} {VF VB : Value} {rs hs : List Value} {gs : List (List Value)} (h : RunSt X B R P3 w t n VF VB rs hs gs) (j : Nat) (v : Value)
    (hc : (P3 ++ (tskL t VF VB ++ [Value.int .i64 n])).set j v = P3 ++ (tskL t' VF VB ++ [Value.int .i64 n'])) (hf : t'.frames = t.frames) (hb : t'.blocks = t.blocks) :
    RunSt X B R P3 (w.setCell ⟨R, j, none⟩ v) t' n' VF VB rs hs gs := by
  obtain ⟨h4, h5⟩ := World.ownsRow.stored (g := R) (n := 1) (cap := 1) h.box j v
  rw [hc] at h4
  refine ⟨h.three, h4, ?_, ?_, by rw [World.size_setCell]; exact h.lt1⟩
  · rw [hf]
    exact h.fr.kept h5 (apart_ne (apart_types h.fr.row h.box (by decide)) rfl) (fun u hu => by obtain ⟨m, xs, hh⟩ := h.rs_row hu; exact apart_ne (apart_types hh h.box (by decide)) rfl)
  · rw [hb]
    exact h.bl.wrote h5 (apart_ne (apart_types h.bl.row h.box (by decide)) rfl) (fun u hu => by obtain ⟨m, xs, hh⟩ := h.hs_row hu; exact apart_ne (apart_types hh h.box (by decide)) rfl) List.mem_cons_self rfl
theorem set_right {α : Type} (P : List α) (l : List α) (j : Nat) (v : α) : (P ++ l).set (P.length + j) v = P ++ l.set j v := by
  rw [List.set_append_right _ _ (Nat.le_add_right _ _), Nat.add_sub_cancel_left]
theorem RunSt.set_mask {X : List Value} {B R : Nat} {P3 : List Value} {w : World} {t : Tsk} {n : Int} {VF VB : Value} {rs hs : List Value} {gs : List (List Value)} (h : RunSt X B R P3 w t n VF VB rs hs gs) (x : Int) :
    RunSt X B R P3 (w.setCell ⟨R, 12, none⟩ (Value.int .i64 x)) { t with mask := x } n VF VB rs hs gs :=
  h.set_box 12 _ (by rw [show 12 = P3.length + 9 by rw [h.three], set_right]; rfl) rfl rfl
theorem RunSt.set_n {X : List Value} {B R : Nat} {P3 : List Value} {w : World} {t : Tsk} {n : Int} {VF VB : Value} {rs hs : List Value} {gs : List (List Value)} (h : RunSt X B R P3 w t n VF VB rs hs gs) (x : Int) :
    RunSt X B R P3 (w.setCell ⟨R, 17, none⟩ (Value.int .i64 x)) t x VF VB rs hs gs :=
  h.set_box 17 _ (by rw [show 17 = P3.length + 14 by rw [h.three], set_right]; rfl) rfl rfl
def hotO : Obj → Bool
  | .cells _ e _ => e == 3 || e == 62 || e == 55 || e == 58 || e == 98
  | _ => false
def Hot (w : World) (g : Nat) : Prop := ∀ o, w.heap[g]? = some o → hotO o = true
theorem setCell_hot (w : World) (p : Addr) (v : Value) (g : Nat) : (w.setCell p v).heap[g]?.map hotO = w.heap[g]?.map hotO := by
  by_cases hg : g = p.block
  · subst hg
    simp only [World.setCell, Array.getElem?_modify, if_true]
    cases w.heap[p.block]? with
    | none => rfl
    | some o => cases o <;> rfl
  · rw [Below.heap_setCell _ _ _ _ hg]
theorem Hot.setCell {w : World} {g : Nat} (h : Hot w g) (p : Addr) (v : Value) : Hot (w.setCell p v) g := fun o ho => by
  have h1 := setCell_hot w p v g
  rw [ho] at h1
  cases hx : w.heap[g]? with
  | none => rw [hx] at h1; cases h1
  | some x => rw [hx] at h1; injection h1 with h1; rw [h1]; exact h x hx
structure Kept (B : Nat) (w w' : World) : Prop where
  below : Below B w w'
  cold : ∀ (i : Nat) (o : Obj), w.heap[i]? = some o → hotO o = false → w'.heap[i]? = some o
theorem Kept.refl (B : Nat) (w : World) : Kept B w w := ⟨Below.refl _ _, fun _ _ h _ => h⟩
theorem Kept.trans {B : Nat} {a b c : World} (h : Kept B a b) (k : Kept B b c) : Kept B a c := ⟨Below.trans h.below k.below, fun i o h1 h2 => k.cold i o (h.cold i o h1 h2) h2⟩
theorem Kept.mono {B : Nat} {w W : World} (h : Ext w W) (hB : B ≤ w.heap.size) : Kept B w W := ⟨Below.mono h hB, fun i o h1 _ => (h.block i (Array.getElem?_eq_some_iff.1 h1).1).trans h1⟩
theorem Kept.store {B : Nat} {w W : World} (h : Kept B w W) {p : Addr} (hp : B ≤ p.block) (v : Value) (hh : Hot (W.setCell p v) p.block) : Kept B w (W.setCell p v) := by
  refine ⟨Below.setCell h.below hp v, fun i o h1 h2 => ?_⟩
  have h3 := h.cold i o h1 h2
  by_cases hi : i = p.block
  · have h4 := setCell_hot W p v i
    rw [h3] at h4
    cases hx : (W.setCell p v).heap[i]? with
    | none => rw [hx] at h4; cases h4
    | some x =>
      rw [hx] at h4
      injection h4 with h4
      rw [h2] at h4
      rw [hi] at hx
      rw [hh x hx] at h4
      cases h4
  · rw [Below.heap_setCell _ _ _ _ hi]; exact h3
theorem hot_row {w : World} {B : Nat} {e : TypeId} {sz : Nat} {v : Value} {n : Nat} {xs : List Value} (h : w.ownsRow B e sz v n xs) {g : Nat} (hg : v.ownBlock = some g) (he : hotO (.cells #[] e (0, 0)) = true) : Hot w g := fun o ho => by
  obtain ⟨cur, hc⟩ := ownsRow_type h hg
  rw [hc] at ho
  injection ho with ho
  subst ho
  exact he
theorem RunSt.hotR {X : List Value} {B R : Nat} {P3 : List Value} {w : World} {t : Tsk} {n : Int} {VF VB : Value} {rs hs : List Value} {gs : List (List Value)} (h : RunSt X B R P3 w t n VF VB rs hs gs) : Hot w R := hot_row h.box rfl (by decide)
theorem RunSt.hotF {X : List Value} {B R : Nat} {P3 : List Value} {w : World} {t : Tsk} {n : Int} {VF VB : Value} {rs hs : List Value} {gs : List (List Value)} (h : RunSt X B R P3 w t n VF VB rs hs gs) {g : Nat} (hg : VF.ownBlock = some g) : Hot w g := hot_row h.fr.row hg (by decide)
theorem RunSt.hotB {X : List Value} {B R : Nat} {P3 : List Value} {w : World} {t : Tsk} {n : Int} {VF VB : Value} {rs hs : List Value} {gs : List (List Value)} (h : RunSt X B R P3 w t n VF VB rs hs gs) {g : Nat} (hg : VB.ownBlock = some g) : Hot w g := hot_row h.bl.row hg (by decide)
theorem RunSt.hotG {X : List Value} {B R : Nat} {P3 : List Value} {w : World} {t : Tsk} {n : Int} {VF VB v : Value} {rs hs : List Value} {gs : List (List Value)} (h : RunSt X B R P3 w t n VF VB rs hs gs) {i : Nat} (hv : rs[i]? = some v) {g : Nat} (hg : v.ownBlock = some g) : Hot w g := by
  obtain ⟨m, xs, hh⟩ := h.rs_row (List.mem_of_getElem? hv)
  exact hot_row hh hg (by decide)
theorem Kept.grown {B : Nat} {a w w' : World} {row : Option Nat} (h : Kept B a w) (hg : w.grownBy w' row) (hB : B ≤ w.heap.size) (hr : ∀ k, row = some k → B ≤ k ∧ Hot w k) : Kept B a w' := by
  refine ⟨Below.grown h.below hg hB fun k e => (hr k e).1, fun i o h1 h2 => ?_⟩
  have h3 := h.cold i o h1 h2
  have hi : i < w.heap.size := (Array.getElem?_eq_some_iff.1 h3).1
  rw [hg.block i hi (fun e => by have := (hr i e.symm).2 o h3; rw [h2] at this; cases this)]
  exact h3
def Cold (w : World) (g : Nat) : Prop := ∃ o, w.heap[g]? = some o ∧ hotO o = false
theorem Cold.keep {B : Nat} {w W : World} {g : Nat} (h : Cold w g) (k : Kept B w W) : Cold W g ∧ W.heap[g]? = w.heap[g]? := by
  obtain ⟨o, h1, h2⟩ := h
  have h3 := k.cold g o h1 h2
  exact ⟨⟨o, h3, h2⟩, h3.trans h1.symm⟩
theorem Cold.ext {w W : World} {g : Nat} (h : Cold w g) (k : Ext w W) : Cold W g := (h.keep (Kept.mono k (Nat.zero_le _))).1
theorem Cold.cell {B : Nat} {w W : World} {g : Nat} (h : Cold w g) (k : Kept B w W) (o : Nat) : W.cell? ⟨g, o, none⟩ = w.cell? ⟨g, o, none⟩ := World.cell?_of_block (h.keep k).2
theorem Cold.alloc {w : World} {o : Obj} (h : hotO o = false) : Cold (w.alloc o) w.heap.size := ⟨o, heap_alloc_new w o, h⟩
theorem Cold.setCell {w : World} {g : Nat} (h : Cold w g) (p : Addr) (v : Value) : Cold (w.setCell p v) g := by
  obtain ⟨o, h1, h2⟩ := h
  have h3 := setCell_hot w p v g
  rw [h1] at h3
  cases hx : (w.setCell p v).heap[g]? with
  | none => rw [hx] at h3; cases h3
  | some x => rw [hx] at h3; injection h3 with h3; exact ⟨x, hx, h3.trans h2⟩
end Go.Proofs.YtcjjoabofecjmaaGreat

namespace Go.Proofs.YtcjjoabofecjmaaGreat
open Go.RowKit
set_option maxHeartbeats 400000 in
theorem outside_any (n : Int) (w : World) :
    Calls Tryz.prog 59 #[Value.int .i64 n] w fun e w' => e = .returned (.bool (!numB n)) ∧ w = w' := by
  go_enter Tryz.func59, Tryz.ntmps59
  go_wp2
  all_goals (go_ret; exact ⟨ret_bool (by unfold numB inB; rw [Bool.eq_iff_iff]; simp at * <;> omega), rfl⟩)
set_option maxHeartbeats 400000 in
theorem twithin_any (n lo hi : Int) (w : World) :
    Calls Tryz.prog 80 #[Value.int .i64 n, Value.int .i64 lo, Value.int .i64 hi] w fun e w' => e = .returned (.bool (inB n lo hi)) ∧ w = w' := by
  go_enter Tryz.func80, Tryz.ntmps80
  go_wp2
  all_goals (go_ret; exact ⟨ret_bool (by unfold inB; simp [*] <;> omega), rfl⟩)
theorem twithin_is {n lo hi : Int} {q : Bool} (hq : inB n lo hi = q) (w : World) :
    Calls Tryz.prog 80 #[Value.int .i64 n, Value.int .i64 lo, Value.int .i64 hi] w fun e w' => e = .returned (.bool q) ∧ w = w' := by rw [← hq]; exact twithin_any n lo hi w
theorem sub_one {n : Nat} (h : n ≤ 9223372036854775807) : IntKind.i64.wrap ((n : Int) - 1) = (n : Int) - 1 := IntWalk.i64_in _ (by omega)
set_option maxHeartbeats 4000000 in
theorem validNumbers_any (p : Prg) (t : Tsk) (VP VT : Value) (w : World) (hP : RPrg w p VP) (hT : RTsk w t VT) :
    Calls Tryz.prog 46 #[VP, VT] w fun e w' => e = .returned (.bool (numsB p t)) ∧ Ext w w' := by
  obtain ⟨Af, nf, cf, Ao, no, co, Av, nv, cv, rfl, hF, hO, hVr, hcf, hco, hcv⟩ := hP
  obtain ⟨Bf, mf, df, Bb, mb, db, rfl, _, _, _, _, _, _, _, _, _, _, hF2, hB2, _⟩ := hT
  clear hF2 hB2 hO hVr hcf hco hcv
  have hle := hF.le
  have HS := sub_one hle
  have HL := hF.len
  cases hfn : fnAt p t.fn with
  | none =>
    have HQ : inB t.fn 0 ((nf : Int) - 1) = false := inB_false (by rcases fnAt_none hfn with h | h <;> omega)
    have HR : Hid (numsB p t = false) := by unfold Hid numsB; rw [hfn]
    clear hfn hF HL
    go_enter Tryz.func46, Tryz.ntmps46
    go_wp2
    (refine wp_region_quiet_below (by kernel_rfl) (by kernel_rfl) ?_; (repeat (go_big_quiet_step ((go_at_call 80; exact quiet_same (twithin_is HQ _))))); refine wpQuiet_nil ?_; intro w1 hw1; obtain ⟨hc, hf, hs, he⟩ := Ext.use (w := w) (ext_of_regrown hw1) xt; clear hw1; (try simp only [sA, sC, sD, sN] at hs))
    go_wp2
    go_ret
    exact ⟨ret_bool HR.out.symm, he⟩
  | some f =>
    obtain ⟨h0, h1, h2⟩ := fnAt_some hfn
    have HQ : inB t.fn 0 ((nf : Int) - 1) = true := inB_true (by omega)
    obtain ⟨b, off, Ac, nc, cc, rfl, hlb, hsz, i1, i2, i3, hC, c0, c1, c2, c3, c4, c5⟩ := hF.fnc h2
    have hlt : t.fn < (nf : Int) := by omega
    have HR : Hid (numsB p t = (!f.cleanup && (t.prio == f.prio) && inB t.scope 0 31 && numB t.result && (inB t.reason 0 9 || inB t.reason 100 999) && inB t.status 1 3)) := by unfold Hid numsB; rw [hfn]
    clear hfn hF HL h1 h2 hC
    cases hcl : f.cleanup with
    | true =>
      rw [hcl] at c4
      have HR : Hid (numsB p t = false) := by rw [Hid, HR.out, hcl]; rfl
      clear hcl
      go_enter Tryz.func46, Tryz.ntmps46
      go_wp2
      (refine wp_region_quiet_below (by kernel_rfl) (by kernel_rfl) ?_; (repeat (go_big_quiet_step ((go_at_call 80; exact quiet_same (twithin_is HQ _))))); refine wpQuiet_nil ?_; intro w1 hw1; obtain ⟨hc, hf, hs, he⟩ := Ext.use (w := w) (ext_of_regrown hw1) xt; clear hw1; (try simp only [sA, sC, sD, sN] at hs))
      go_wp2
      go_ret
      exact ⟨ret_bool HR.out.symm, he⟩
    | false =>
      rw [hcl] at c4
      by_cases hpr : t.prio = f.prio
      · have e0 : (t.prio != f.prio) = false := by simpa using hpr
        have HR : Hid (numsB p t = (inB t.scope 0 31 && numB t.result && (inB t.reason 0 9 || inB t.reason 100 999) && inB t.status 1 3)) := by rw [Hid, HR.out, hcl, hpr]; simp
        clear hcl hpr
        go_enter Tryz.func46, Tryz.ntmps46
        go_wp2
        (refine wp_region_quiet_below (by kernel_rfl) (by kernel_rfl) ?_; (repeat (go_big_quiet_step ((go_at_call 80; exact quiet_same (twithin_is HQ _))))); refine wpQuiet_nil ?_; intro w1 hw1; obtain ⟨hc, hf, hs, he⟩ := Ext.use (w := w) (ext_of_regrown hw1) xt; clear hw1; (try simp only [sA, sC, sD, sN] at hs))
        go_wp2_with (first | (go_at_call 80; refine (twithin_any _ _ _ _).mono ?_; rintro e w' ⟨rfl, rfl⟩) | (go_at_call 59; refine (outside_any _ _).mono ?_; rintro e w' ⟨rfl, rfl⟩))
        all_goals (go_ret; exact ⟨ret_bool (by have g := HR.out; clear HR; rw [g]; clear g; simp_all), he⟩)
      · have e0 : (t.prio != f.prio) = true := by simpa using hpr
        have HR : Hid (numsB p t = false) := by rw [Hid, HR.out, hcl]; simp [hpr]
        clear hcl hpr
        go_enter Tryz.func46, Tryz.ntmps46
        go_wp2
        (refine wp_region_quiet_below (by kernel_rfl) (by kernel_rfl) ?_; (repeat (go_big_quiet_step ((go_at_call 80; exact quiet_same (twithin_is HQ _))))); refine wpQuiet_nil ?_; intro w1 hw1; obtain ⟨hc, hf, hs, he⟩ := Ext.use (w := w) (ext_of_regrown hw1) xt; clear hw1; (try simp only [sA, sC, sD, sN] at hs))
        go_wp2
        go_ret
        exact ⟨ret_bool HR.out.symm, he⟩
set_option maxHeartbeats 4000000 in
theorem validHandler_any (p : Prg) (h : Hdl) (VP : Value) (A : Option Addr) (n c : Nat) (w : World) (hP : RPrg w p VP) (hA : RSl 1 RInt w A n h.args) :
    Calls Tryz.prog 118 #[VP, .agg #[Value.int .i64 h.fn, .slice A n c]] w fun e w' => e = .returned (.bool (hdlB p h)) ∧ Ext w w' := by
  obtain ⟨Af, nf, cf, Ao, no, co, Av, nv, cv, rfl, hF, hO, hVr, hcf, hco, hcv⟩ := hP
  clear hO hVr hcf hco hcv
  have hle := hF.le
  have HS := sub_one hle
  have HL := hF.len
  have HN := Lib.hid hA.len
  have hnl := hA.le
  cases hfn : fnAt p h.fn with
  | none =>
    have HQ : inB h.fn 0 ((nf : Int) - 1) = false := inB_false (by rcases fnAt_none hfn with h | h <;> omega)
    have HR : Hid (hdlB p h = false) := by unfold Hid hdlB; rw [hfn]
    clear hfn hF HL hA
    go_enter Tryz.func118, Tryz.ntmps118
    go_wp2
    (refine wp_region_quiet_below (by kernel_rfl) (by kernel_rfl) ?_; (repeat (go_big_quiet_step ((go_at_call 80; exact quiet_same (twithin_is HQ _))))); refine wpQuiet_nil ?_; intro w1 hw1; obtain ⟨hc, hf, hs, he⟩ := Ext.use (w := w) (ext_of_regrown hw1) xt; clear hw1; (try simp only [sA, sC, sD, sN] at hs))
    go_wp2
    go_ret
    exact ⟨ret_bool HR.out.symm, he⟩
  | some f =>
    obtain ⟨h0, h1, h2⟩ := fnAt_some hfn
    have HQ : inB h.fn 0 ((nf : Int) - 1) = true := inB_true (by omega)
    obtain ⟨b, off, Ac, nc, cc, rfl, hlb, hsz, i1, i2, i3, hC, c0, c1, c2, c3, c4, c5⟩ := hF.fnc h2
    have hlt : h.fn < (nf : Int) := by omega
    have HR : Hid (hdlB p h = (f.cleanup && ((n : Int) == f.params) && h.args.all numB)) := by unfold Hid hdlB; rw [hfn, HN.out]
    clear hfn hF HL h1 h2 hC
    cases hcl : f.cleanup with
    | false =>
      rw [hcl] at c4
      have HR : Hid (hdlB p h = false) := by rw [Hid, HR.out, hcl]; rfl
      clear hcl hA
      go_enter Tryz.func118, Tryz.ntmps118
      go_wp2
      (refine wp_region_quiet_below (by kernel_rfl) (by kernel_rfl) ?_; (repeat (go_big_quiet_step ((go_at_call 80; exact quiet_same (twithin_is HQ _))))); refine wpQuiet_nil ?_; intro w1 hw1; obtain ⟨hc, hf, hs, he⟩ := Ext.use (w := w) (ext_of_regrown hw1) xt; clear hw1; (try simp only [sA, sC, sD, sN] at hs))
      go_wp2
      go_ret
      exact ⟨ret_bool HR.out.symm, he⟩
    | true =>
      rw [hcl] at c4
      by_cases hpr : (n : Int) = f.params
      · have e0 : ((n : Int) == f.params) = true := by simpa using hpr
        have HC : ∀ W, Ext w W → Calls Tryz.prog 58 #[.slice A n c, .func (.func 59) #[] #[]] W fun e w' => e = .returned (.bool (h.args.any (fun x => !numB x))) ∧ Ext W w' := fun W hW =>
          containsFuncInt 59 #[] (enters_of Tryz.func59 (by kernel_rfl) rfl) (fun x => !numB x) A n c h.args W (hA.mono RInt.stays hW) (fun W' k x cs _ _ hR => by
            obtain ⟨rfl, _⟩ := hR
            exact (outside_any x W').mono fun e w' ⟨h1, h2⟩ => ⟨h1, h2 ▸ Ext.refl _⟩)
        have HR : Hid (hdlB p h = !h.args.any (fun x => !numB x)) := by
          rw [Hid, HR.out, hcl, e0, List.not_any_eq_all_not]; simp
        clear hcl hpr hA
        obtain ⟨q, hq⟩ : ∃ q, h.args.any (fun x => !numB x) = q := ⟨_, rfl⟩
        rw [hq] at HR HC
        clear hq
        go_enter Tryz.func118, Tryz.ntmps118
        go_wp2
        (refine wp_region_quiet_below (by kernel_rfl) (by kernel_rfl) ?_; (repeat (go_big_quiet_step (first | (go_at_call 80; exact quiet_same (twithin_is HQ _)) | (go_at_call 58; exact quiet_ext (HC _ xt))))); refine wpQuiet_nil ?_; intro w1 hw1; obtain ⟨hc, hf, hs, he⟩ := Ext.use (w := w) (ext_of_regrown hw1) xt; clear hw1; (try simp only [sA, sC, sD, sN] at hs))
        go_wp2
        go_ret
        exact ⟨ret_bool HR.out.symm, he⟩
      · have e0 : ((n : Int) == f.params) = false := by simpa using hpr
        have HR : Hid (hdlB p h = false) := by rw [Hid, HR.out, hcl, e0]; rfl
        clear hcl hpr hA
        go_enter Tryz.func118, Tryz.ntmps118
        go_wp2
        (refine wp_region_quiet_below (by kernel_rfl) (by kernel_rfl) ?_; (repeat (go_big_quiet_step ((go_at_call 80; exact quiet_same (twithin_is HQ _))))); refine wpQuiet_nil ?_; intro w1 hw1; obtain ⟨hc, hf, hs, he⟩ := Ext.use (w := w) (ext_of_regrown hw1) xt; clear hw1; (try simp only [sA, sC, sD, sN] at hs))
        go_wp2
        go_ret
        exact ⟨ret_bool HR.out.symm, he⟩
set_option maxHeartbeats 4000000 in
theorem validWait_any (p : Prg) (t : Tsk) (VP VT : Value) (w : World) (hP : RPrg w p VP) (hT : RTsk w t VT) :
    Calls Tryz.prog 47 #[VP, VT] w fun e w' => e = .returned (.bool (waitB p t)) ∧ Ext w w' := by
  obtain ⟨Af, nf, cf, Ao, no, co, Av, nv, cv, rfl, hF, hO, hVr, hcf, hco, hcv⟩ := hP
  obtain ⟨Bf, mf, df, Bb, mb, db, rfl, _, _, _, _, _, _, _, _, _, _, hF2, hB2, _⟩ := hT
  clear hF2 hB2 hF hVr hcf hco hcv
  have hle := hO.le
  have HS := sub_one hle
  have HL := hO.len
  by_cases hst : t.status = 2
  rotate_left
  · have e0 : (t.status != 2) = true := by simpa using hst
    have HR : Hid (waitB p t = ((t.wkind == 0) && (t.windex == 0) && !t.wagain)) := by unfold Hid waitB; rw [if_pos hst]
    clear hst hO HL
    go_enter Tryz.func47, Tryz.ntmps47
    go_wp2
    all_goals (go_ret; exact ⟨ret_bool (by rw [HR.out]; simp_all), xt⟩)
  have e0 : (t.status != 2) = false := by simpa using hst
  by_cases hin : inB t.windex 0 ((no : Int) - 1) = true
  · have hin' := inB_iff.1 hin
    obtain ⟨o, ho⟩ : ∃ o, p.objs[t.windex.toNat]? = some o := ⟨_, List.getElem?_eq_getElem (by omega)⟩
    obtain ⟨b, off, rfl, hlb, hsz, i1, i2, i3, c0, c1, c2, c3⟩ := hO.ob ho
    have hlt : t.windex < (no : Int) := by omega
    have hge : 0 ≤ t.windex := hin'.1
    have HR : Hid (waitB p t = if t.wagain = true ∧ t.wkind ≠ 5 then false else if t.wkind = 1 then true else if t.wkind = 5 then o.kind == 1 else if t.wkind = 4 then inB t.windex 0 31 else if t.wkind = 2 ∨ t.wkind = 3 then t.windex == 0 else false) := by
      unfold Hid waitB kindAt; rw [if_neg (by simpa using hst), ← HL, hin, ho]; simp
    clear hst hO HL ho
    go_enter Tryz.func47, Tryz.ntmps47
    go_wp2_with (first | (go_at_call 80; (with_reducible refine (twithin_is hin _).mono ?_); rintro e w' ⟨rfl, rfl⟩) | (go_at_call 80; refine (twithin_any _ _ _ _).mono ?_; rintro e w' ⟨rfl, rfl⟩))
    all_goals (go_ret; exact ⟨ret_bool (by have g := HR.out; clear HR HS; rw [g]; clear g; simp only [beq_iff_eq, beq_eq_false_iff_ne, ne_eq, bne_iff_ne, bne_eq_false_iff_eq, Bool.not_eq_true] at *; simp [*]), xt⟩)
  · have hin : inB t.windex 0 ((no : Int) - 1) = false := by simpa using hin
    have HR : Hid (waitB p t = if t.wagain = true ∧ t.wkind ≠ 5 then false else if t.wkind = 1 then false else if t.wkind = 5 then false else if t.wkind = 4 then inB t.windex 0 31 else if t.wkind = 2 ∨ t.wkind = 3 then t.windex == 0 else false) := by
      unfold Hid waitB kindAt; rw [if_neg (by simpa using hst), ← HL, hin]; simp
    clear hst hO HL
    go_enter Tryz.func47, Tryz.ntmps47
    go_wp2_with (first | (go_at_call 80; (with_reducible refine (twithin_is hin _).mono ?_); rintro e w' ⟨rfl, rfl⟩) | (go_at_call 80; refine (twithin_any _ _ _ _).mono ?_; rintro e w' ⟨rfl, rfl⟩))
    all_goals (go_ret; exact ⟨ret_bool (by have g := HR.out; clear HR HS; rw [g]; clear g; simp only [beq_iff_eq, beq_eq_false_iff_ne, ne_eq, bne_iff_ne, bne_eq_false_iff_eq, Bool.not_eq_true] at *; simp [*]), xt⟩)
end Go.Proofs.YtcjjoabofecjmaaGreat
