/- A part of the proof: A handler more in the last block of a runner's task; validBlocks of package task; validFrame of package task; validLiving and Check of package task. -/
import Derived.Test.YtcjjoabofecjmaaGreatQ11
import Derived.Test.YtcjjoabofecjmaaGreatQ09
import Derived.Test.YtcjjoabofecjmaaGreatQ02
import Derived.Test.YtcjjoabofecjmaaGreatQ04
set_option linter.unusedVariables false
set_option linter.unusedSimpArgs false
namespace Go.Proofs.YtcjjoabofecjmaaGreat
open Go.RowKit Go.Sort
theorem RArgs.of_row {W : World} {C : Nat} {v : Value} {xs : List Int} (h : W.ownsRow C 3 1 v xs.length (xs.map (Value.int .i64))) (hn : xs.length ≤ 1000) (hi : ∀ x ∈ xs, InR x) : RArgs W xs v := by
  obtain ⟨A2, c2, rfl, hc2, _, hcs2⟩ := ownsRow_shape h
  refine ⟨A2, _, c2, rfl, ⟨rfl, by omega, fun q x hq => ?_⟩, hc2⟩
  obtain ⟨b2, o2, rfl, hcell2⟩ := hcs2.2 (by have := (List.getElem?_eq_some_iff.1 hq).1; omega)
  refine ⟨b2, o2, [Value.int .i64 x], rfl, rfl, ⟨rfl, hi x (List.mem_of_getElem? hq)⟩, fun j u hj => ?_⟩
  cases j with
  | zero =>
    simp only [List.getElem?_cons_zero, Option.some.injEq] at hj
    subst hj
    have := hcell2 q (Value.int .i64 x) (by rw [List.getElem?_map, hq]; rfl)
    simpa using this
  | succ j => simp at hj
theorem snoc_cases {α : Type} {l : List α} {x y : α} {q : Nat} (h : (l ++ [x])[q]? = some y) : (q < l.length ∧ l[q]? = some y) ∨ (q = l.length ∧ y = x) := by
  rw [List.getElem?_append] at h
  split at h
  · exact .inl ⟨by assumption, h⟩
  · rename_i hn
    have hz : q - l.length = 0 := by
      rcases Nat.eq_zero_or_pos (q - l.length) with h0 | h0
      · exact h0
      · rw [List.getElem?_eq_none (by simp; omega)] at h; cases h
    rw [hz] at h
    simp only [List.getElem?_cons_zero, Option.some.injEq] at h
    exact .inr ⟨by omega, h.symm⟩
theorem set_cases {α : Type} {l : List α} {x y : α} {k i : Nat} (h : (l.set k x)[i]? = some y) : (i = k ∧ y = x) ∨ (i ≠ k ∧ l[i]? = some y) := by
  rw [List.getElem?_set] at h
  split at h
  · rename_i e
    split at h
    · injection h with h; exact .inl ⟨e.symm, h.symm⟩
    · cases h
  · rename_i e; exact .inr ⟨fun e' => e e'.symm, h⟩
theorem high_apart {u v : Value} {m : Nat} (hu : ∀ x, u.ownBlock = some x → x < m) (hv : ∀ x, v.ownBlock = some x → m ≤ x) : Apart u v := by
  unfold Apart
  cases hx : u.ownBlock with
  | none => exact .inl rfl
  | some x => exact .inr fun e => by have := hu x hx; have := hv x e.symm; omega
theorem high_apart' {u v : Value} {m : Nat} (hu : ∀ x, u.ownBlock = some x → x < m) (hv : ∀ x, v.ownBlock = some x → m ≤ x) : Apart v u := by
  unfold Apart
  cases hx : v.ownBlock with
  | none => exact .inl rfl
  | some x => exact .inr fun e => by have := hv x hx; have := hu x e.symm; omega
theorem RunSt.handler {X : List Value} {B R k : Nat} {P3 : List Value} {w W W1 : World} {t : Tsk} {n : Int} {VF VB : Value} {rs hs : List Value} {gs : List (List Value)} (h : RunSt X B R P3 w t n VF VB rs hs gs) {b : Blk} {v : Value} {a : List Value} (hb : t.blocks[k]? = some b) (hv : hs[k]? = some v) (ha : gs[k]? = some a)
    {y : Hdl} {av v' : Value} (hE : Ext w W) (hav : W.ownsRow w.heap.size 3 1 av y.args.length (y.args.map (Value.int .i64))) (hyn : y.args.length ≤ 1000) (hyi : InR y.fn ∧ ∀ x ∈ y.args, InR x)
    (hap : W1.ownsRow B 58 2 v' (b.handlers.length + 1) (rowOf hdlCells b.handlers a ++ hdlCells y av)) (hg : W.grownBy W1 v.ownBlock) (hat : v'.ownBlock = v.ownBlock ∨ v'.ownBlock = some W.heap.size)
    {gB cB : Nat} (hVB : VB = .slice (some ⟨gB, 0, none⟩) t.blocks.length cB) :
    RunSt X B R P3 (W1.setCell ⟨gB, k * 5 + 4, none⟩ v') { t with blocks := t.blocks.set k { b with handlers := b.handlers ++ [y] } } n VF VB rs (hs.set k v') (gs.set k (a ++ [av])) := by
  subst hVB
  have hkb : k < t.blocks.length := (List.getElem?_eq_some_iff.1 hb).1
  obtain ⟨hal, hrow⟩ := h.bl.hnd k b v a hb hv ha
  have hvm : v ∈ boxV R :: VF :: .slice (some ⟨gB, 0, none⟩) t.blocks.length cB :: (rs ++ (hs ++ X)) := List.mem_cons_of_mem _ (List.mem_cons_of_mem _ (List.mem_cons_of_mem _ (List.mem_append_right _ (List.mem_append_left _ (List.mem_of_getElem? hv)))))
  have hlow : ∀ r ∈ boxV R :: VF :: .slice (some ⟨gB, 0, none⟩) t.blocks.length cB :: (rs ++ (hs ++ X)), ∀ x, r.ownBlock = some x → x < w.heap.size := fun r hr x hx => h.L_low hr hx
  have hv'x : ∀ {u : Value}, (∀ x, u.ownBlock = some x → x < w.heap.size) → Apart v u → Apart v' u := fun {u} hu hvu => by
    rcases hat with e | e
    · unfold Apart at *; rw [e]; exact hvu
    · exact high_apart' hu fun x hx => by rw [e] at hx; injection hx with hx; subst hx; exact hE.size
  have hv'y : ∀ {u : Value}, (∀ x, u.ownBlock = some x → x < w.heap.size) → Apart u v → Apart u v' := fun {u} hu hvu => by
    rcases hat with e | e
    · unfold Apart at *; rw [e]; exact hvu
    · exact high_apart hu fun x hx => by rw [e] at hx; injection hx with hx; subst hx; exact hE.size
  have hb1 : OBl B w t.blocks _ hs gs (v' :: boxV R :: VF :: .slice (some ⟨gB, 0, none⟩) t.blocks.length cB :: (rs ++ (hs ++ X))) := h.bl.list2 fun r' hr' => by
    rcases List.mem_cons.1 hr' with rfl | hr'
    · rcases hat with e | e
      · exact .inl ⟨v, hvm, e⟩
      · exact .inr fun x hx => by rw [e] at hx; injection hx with hx; subst hx; exact hE.size
    · exact .inl ⟨r', hr', rfl⟩
  have hbW := hb1.mono hE
  have hbx1 := (ownsRow_ext h.box hE).kept hg (apart_types h.box hrow (by decide))
  have hfr1 := (h.fr.mono hE).kept hg (apart_types h.fr.row hrow (by decide)) (fun u hu => by obtain ⟨m, xs, hh⟩ := h.rs_row hu; exact apart_types hh hrow (by decide))
  have hbr1 := hbW.row.kept hg (apart_types h.bl.row hrow (by decide))
  obtain ⟨h4, h5⟩ := hbr1.stored (k * 5 + 4) v'
  have hVBm : (.slice (some ⟨gB, 0, none⟩) t.blocks.length cB : Value) ∈ boxV R :: VF :: .slice (some ⟨gB, 0, none⟩) t.blocks.length cB :: (rs ++ (hs ++ X)) := List.mem_cons_of_mem _ (List.mem_cons_of_mem _ List.mem_cons_self)
  have hkeep : ∀ {u : Value} {xs : List Int}, RArgs W xs u → (xs = [] ∨ (Apart v u ∧ Apart (.slice (some ⟨gB, 0, none⟩) t.blocks.length cB) u)) → RArgs (W1.setCell ⟨gB, k * 5 + 4, none⟩ v') xs u := fun {u xs} h1 h2 => by
    by_cases hx : xs = []
    · subst hx
      obtain ⟨A, m, c, rfl, h3, h6⟩ := h1
      exact ⟨A, m, c, rfl, ⟨h3.1, h3.2.1, fun k x hk => by simp at hk⟩, h6⟩
    · rcases h2 with h2 | ⟨h2, h3⟩
      · exact absurd h2 hx
      · refine (h1.kept hg ?_).kept h5 ?_
        · rcases h2 with e | e
          · cases hu : u.ownBlock with
            | none => exact .inl rfl
            | some x => rw [e]; exact .inr (fun e => by cases e)
          · exact .inr fun e' => e e'.symm
        · rcases h3 with e | e
          · cases e
          · exact .inr fun e' => e e'.symm
  refine ⟨h.three, hbx1.kept h5 (apart_ne (apart_types hbx1 hbr1 (by decide)) rfl), hfr1.kept h5 (apart_ne (apart_types hfr1.row hbr1 (by decide)) rfl) (fun u hu => by
      obtain ⟨i, hil, rfl⟩ := List.getElem_of_mem hu
      exact apart_ne (apart_types (hfr1.reg i _ _ (List.getElem?_eq_getElem (by rw [← hfr1.len]; exact hil)) (List.getElem?_eq_getElem hil)) hbr1 (by decide)) rfl), ?_, by rw [World.size_setCell]; exact fun r hr x hx => Nat.lt_of_lt_of_le (h.lt1 r hr x hx) (Nat.le_trans hE.size hg.size)⟩
  refine ⟨by rw [List.length_set, List.length_set]; exact h.bl.len, by rw [List.length_set, List.length_set]; exact h.bl.alen, ?_, fun i b2 u a2 e1 e2 e3 => ?_, fun i b2 a2 q x u e1 e2 e3 e4 => ?_, fun i j u1 u2 hij e1 e2 => ?_, fun b2 hb2 => ?_⟩
  · rw [List.length_set, rowOf_same hb (List.getElem?_set_self (by rw [h.bl.len]; exact hkb)) (by rfl), ← rowOf_put blkCells_len (j := 4) (u := v') (v' := v') hb hv (by omega) (by rfl)]
    exact h4
  · rcases set_cases e1 with ⟨rfl, rfl⟩ | ⟨hne, e1'⟩
    · rcases set_cases e2 with ⟨_, rfl⟩ | ⟨hne, _⟩
      · rcases set_cases e3 with ⟨_, rfl⟩ | ⟨hne, _⟩
        · refine ⟨by simp [hal], ?_⟩
          have h9 := hap.kept h5 (apart_ne (apart_types hap hbr1 (by decide)) rfl)
          have hsn : rowOf hdlCells (b.handlers ++ [y]) (a ++ [av]) = rowOf hdlCells b.handlers a ++ hdlCells y av := rowOf_snoc hal
          rw [List.length_append, List.length_singleton, hsn]
          exact h9
        · exact absurd rfl hne
      · exact absurd rfl hne
    · rcases set_cases e2 with ⟨e, _⟩ | ⟨_, e2'⟩
      · exact absurd e hne
      · rcases set_cases e3 with ⟨e, _⟩ | ⟨_, e3'⟩
        · exact absurd e hne
        · obtain ⟨q1, q2⟩ := hbW.hnd i b2 u a2 e1' e2' e3'
          have q3 := q2.kept hg (h.bl.dis i k u v hne e2' hv)
          exact ⟨q1, q3.kept h5 (apart_ne (apart_types q3 hbr1 (by decide)) rfl)⟩
  · have hL : ∀ {u : Value}, (∀ r ∈ (v' :: boxV R :: VF :: .slice (some ⟨gB, 0, none⟩) t.blocks.length cB :: (rs ++ (hs ++ X))), Apart r u) → ∀ r ∈ boxV R :: VF :: .slice (some ⟨gB, 0, none⟩) t.blocks.length cB :: (rs ++ (hs.set k v' ++ X)), Apart r u := fun {u} hh r hr => by
      rcases List.mem_cons.1 hr with rfl | hr
      · exact hh _ (List.mem_cons_of_mem _ List.mem_cons_self)
      rcases List.mem_cons.1 hr with rfl | hr
      · exact hh _ (List.mem_cons_of_mem _ (List.mem_cons_of_mem _ List.mem_cons_self))
      rcases List.mem_cons.1 hr with rfl | hr
      · exact hh _ (List.mem_cons_of_mem _ (List.mem_cons_of_mem _ (List.mem_cons_of_mem _ List.mem_cons_self)))
      rcases List.mem_append.1 hr with hr | hr
      · exact hh _ (List.mem_cons_of_mem _ (List.mem_cons_of_mem _ (List.mem_cons_of_mem _ (List.mem_cons_of_mem _ (List.mem_append_left _ hr)))))
      rcases List.mem_append.1 hr with hr | hr
      · rcases List.mem_or_eq_of_mem_set hr with hr | rfl
        · exact hh _ (List.mem_cons_of_mem _ (List.mem_cons_of_mem _ (List.mem_cons_of_mem _ (List.mem_cons_of_mem _ (List.mem_append_right _ (List.mem_append_left _ hr))))))
        · exact hh _ List.mem_cons_self
      · exact hh _ (List.mem_cons_of_mem _ (List.mem_cons_of_mem _ (List.mem_cons_of_mem _ (List.mem_cons_of_mem _ (List.mem_append_right _ (List.mem_append_right _ hr))))))
    have old : ∀ (i : Nat) (b3 : Blk) (a3 : List Value), t.blocks[i]? = some b3 → gs[i]? = some a3 → b3.handlers[q]? = some x → a3[q]? = some u →
        InR x.fn ∧ RArgs (W1.setCell ⟨gB, k * 5 + 4, none⟩ v') x.args u ∧ (x.args = [] ∨ ∀ r ∈ boxV R :: VF :: .slice (some ⟨gB, 0, none⟩) t.blocks.length cB :: (rs ++ (hs.set k v' ++ X)), Apart r u) := fun i b3 a3 e1 e2 e3 e4 => by
      obtain ⟨q1, q2, q3⟩ := hbW.arg i b3 a3 q x u e1 e2 e3 e4
      refine ⟨q1, hkeep q2 (q3.imp id fun hh => ⟨hh v (List.mem_cons_of_mem _ hvm), hh _ (List.mem_cons_of_mem _ hVBm)⟩), q3.imp id hL⟩
    rcases set_cases e1 with ⟨rfl, rfl⟩ | ⟨hne, e1'⟩
    · rcases set_cases e2 with ⟨_, rfl⟩ | ⟨hne, _⟩
      · rcases snoc_cases e4 with ⟨hq, e4'⟩ | ⟨hq, rfl⟩
        · rcases snoc_cases e3 with ⟨_, e3'⟩ | ⟨hq', _⟩
          · exact old i b a hb ha e3' e4'
          · omega
        · rcases snoc_cases e3 with ⟨hq', _⟩ | ⟨_, rfl⟩
          · omega
          · have hav2 : ∀ z, u.ownBlock = some z → w.heap.size ≤ z ∧ z < W.heap.size := fun z hz => hav.lt z hz
            have hRA := RArgs.of_row hav hyn hyi.2
            have hall : ∀ r ∈ (v' :: boxV R :: VF :: .slice (some ⟨gB, 0, none⟩) t.blocks.length cB :: (rs ++ (hs ++ X))), Apart r u := fun r hr => by
              rcases List.mem_cons.1 hr with rfl | hr
              · rcases hat with e | e
                · have := high_apart (u := v) (v := u) (hlow v hvm) fun z hz => (hav2 z hz).1
                  unfold Apart at *; rw [e]; exact this
                · unfold Apart; rw [e]; exact .inr fun e' => by have := (hav2 _ e'.symm).2; omega
              · exact high_apart (hlow r hr) fun z hz => (hav2 z hz).1
            exact ⟨hyi.1, hkeep hRA (.inr ⟨hall v (List.mem_cons_of_mem _ hvm), hall _ (List.mem_cons_of_mem _ hVBm)⟩), .inr (hL hall)⟩
      · exact absurd rfl hne
    · rcases set_cases e2 with ⟨e, _⟩ | ⟨_, e2'⟩
      · exact absurd e hne
      · exact old i b2 a2 e1' e2' e3 e4
  · have hm : ∀ (i : Nat) (u : Value), hs[i]? = some u → ∀ x, u.ownBlock = some x → x < w.heap.size := fun i u hu => hlow u (List.mem_cons_of_mem _ (List.mem_cons_of_mem _ (List.mem_cons_of_mem _ (List.mem_append_right _ (List.mem_append_left _ (List.mem_of_getElem? hu))))))
    rcases set_cases e1 with ⟨rfl, rfl⟩ | ⟨hne, e1'⟩ <;> rcases set_cases e2 with ⟨hjk, rfl⟩ | ⟨hne2, e2'⟩
    · exact absurd hjk.symm hij
    · exact hv'x (hm j u2 e2') (h.bl.dis _ j v u2 hij hv e2')
    · subst hjk; exact hv'y (hm i u1 e1') (h.bl.dis i _ u1 v hij e1' hv)
    · exact h.bl.dis i j u1 u2 hij e1' e2'
  · rcases List.mem_or_eq_of_mem_set hb2 with hb2 | rfl
    · exact h.bl.inr b2 hb2
    · exact h.bl.inr b (List.mem_of_getElem? hb)
end Go.Proofs.YtcjjoabofecjmaaGreat

namespace Go.Proofs.YtcjjoabofecjmaaGreat
open Go.RowKit
set_option maxHeartbeats 1000000 in
theorem validBlocks1_pred (p : Prg) (B : Nat) (Af Ao Av : Option Addr) (nf cf no co nv cv : Nat) (w : World) (xs : List Hdl) (hP : RPrg w p (.agg #[.slice Af nf cf, .slice Ao no co, .slice Av nv cv]))
    (h0 : w.cell? ⟨B, 0, none⟩ = some (.slice Af nf cf)) (h1 : w.cell? ⟨B, 1, none⟩ = some (.slice Ao no co)) (h2 : w.cell? ⟨B, 2, none⟩ = some (.slice Av nv cv)) :
    PredOn Tryz.prog 117 #[.pointer (some ⟨B, 0, none⟩)] (fun cs => .agg cs.toArray) RHdl w xs (fun h => !hdlB p h) := by
  intro W k x cs hW hx hR
  obtain ⟨A, n, c, rfl, hi, hA, _⟩ := hR
  have k0 := hW.cell h0
  have k1 := hW.cell h1
  have k2 := hW.cell h2
  have hlb : B < W.heap.size := lt_of_cell k0
  have HC : ∀ W', Ext W W' → Calls Tryz.prog 118 #[.agg #[.slice Af nf cf, .slice Ao no co, .slice Av nv cv], .agg #[Value.int .i64 x.fn, .slice A n c]] W' fun e w' => e = .returned (.bool (hdlB p x)) ∧ Ext W' w' := fun W' hW' =>
    validHandler_any p x _ A n c W' (hP.mono (hW.trans hW')) (hA.mono RInt.stays (hW.trans hW'))
  obtain ⟨q, hq⟩ : ∃ q, hdlB p x = q := ⟨_, rfl⟩
  show Calls _ _ _ _ fun e W' => e = .returned (.bool (!hdlB p x)) ∧ _
  rw [hq] at HC ⊢
  clear h0 h1 h2 hx hW hP hA hq hi
  simp only [List.push_toArray, List.append_toArray, List.cons_append, List.nil_append]
  clear w
  obtain ⟨w, hw⟩ : ∃ w, w = W := ⟨_, rfl⟩
  subst hw
  go_enter Tryz.func117, Tryz.ntmps117
  go_wp2_with (go_at_call 118; refine (HC _ (by repeat' (first | with_reducible assumption | with_reducible exact Ext.refl _ | with_reducible refine Ext.alloc ?_ _ | with_reducible refine Ext.drew ?_ | with_reducible refine Ext.drewN ?_ _ | with_reducible refine Ext.regrown ?_ _ _ | with_reducible refine Ext.setCell ?_ (by first | (simp; done) | (simp; omega)) _))).mono ?_; rintro e w1 ⟨rfl, hb⟩; obtain ⟨hc, hf, hs, he⟩ := Ext.use (w := w) hb (by repeat' (first | with_reducible assumption | with_reducible exact Ext.refl _ | with_reducible refine Ext.alloc ?_ _ | with_reducible refine Ext.drew ?_ | with_reducible refine Ext.drewN ?_ _ | with_reducible refine Ext.regrown ?_ _ _ | with_reducible refine Ext.setCell ?_ (by first | (simp; done) | (simp; omega)) _)); clear hb; (try simp only [World.size_alloc, World.size_setCell, World.size_drew, World.heap_drewN] at hs))
  go_ret
  exact ⟨rfl, (by repeat' (first | with_reducible assumption | with_reducible exact Ext.refl _ | with_reducible refine Ext.alloc ?_ _ | with_reducible refine Ext.drew ?_ | with_reducible refine Ext.drewN ?_ _ | with_reducible refine Ext.regrown ?_ _ _ | with_reducible refine Ext.setCell ?_ (by first | (simp; done) | (simp; omega)) _))⟩
theorem any_hdl (p : Prg) (l : List Hdl) : (l.any fun h => !hdlB p h) = !l.all (hdlB p) := by
  rw [List.not_all_eq_any_not]
set_option maxRecDepth 8000 in
set_option maxHeartbeats 8000000 in
theorem validBlocks_any (p : Prg) (t : Tsk) (VP VT : Value) (w : World) (hP : RPrg w p VP) (hT : RTsk w t VT) :
    Calls Tryz.prog 81 #[VP, VT] w fun e w' => e = .returned (.bool (blksB p t.blocks)) ∧ Ext w w' := by
  have HP := Lib.hid hP
  obtain ⟨Af, nf, cf, Ao, no, co, Av, nv, cv, rfl, _⟩ := hP
  obtain ⟨Bf, mf, df, Bb, mb, db, rfl, _, _, _, _, _, _, _, _, _, _, _, hB2, _⟩ := hT
  have hle := hB2.le
  have HL := Lib.hid hB2.len
  cases hin : inB (mb : Int) 1 8 with
  | false =>
    have HR : Hid (blksB p t.blocks = false) := by unfold Hid blksB; rw [← HL.out, hin]; rfl
    clear hB2 HP
    go_enter Tryz.func81, Tryz.ntmps81
    go_wp2_with (go_at_call 80; refine (twithin_is hin _).mono ?_; rintro e w' ⟨rfl, rfl⟩)
    go_ret
    exact ⟨ret_bool HR.out.symm, (by repeat' (first | with_reducible assumption | with_reducible exact Ext.refl _ | with_reducible refine Ext.alloc ?_ _ | with_reducible refine Ext.drew ?_ | with_reducible refine Ext.drewN ?_ _ | with_reducible refine Ext.regrown ?_ _ _ | with_reducible refine Ext.setCell ?_ (by first | (simp; done) | (simp; omega)) _))⟩
  | true =>
  have HR : Hid (blksB p t.blocks = allB (blkB p t.blocks) mb 0) := by unfold Hid blksB; rw [← HL.out, hin]; rfl
  go_enter Tryz.func81, Tryz.ntmps81
  go_wp2_with (go_at_call 80; refine (twithin_is hin _).mono ?_; rintro e w' ⟨rfl, rfl⟩)
  refine wp_hid ?_
  intro W0 HW0
  have HE : Hid (Ext w W0) := by rw [HW0.out]; exact Lib.hid (by repeat' (first | with_reducible assumption | with_reducible exact Ext.refl _ | with_reducible refine Ext.alloc ?_ _ | with_reducible refine Ext.drew ?_ | with_reducible refine Ext.drewN ?_ _ | with_reducible refine Ext.regrown ?_ _ _ | with_reducible refine Ext.setCell ?_ (by first | (simp; done) | (simp; omega)) _))
  have hl2 : w.heap.size + 1 < W0.heap.size := by rw [HW0.out]; simp
  have k0 : W0.cell? ⟨w.heap.size, 0, none⟩ = some (.slice Af nf cf) := by rw [HW0.out]; simp [go_sem, *]
  have k1 : W0.cell? ⟨w.heap.size, 1, none⟩ = some (.slice Ao no co) := by rw [HW0.out]; simp [go_sem, *]
  have k2 : W0.cell? ⟨w.heap.size, 2, none⟩ = some (.slice Av nv cv) := by rw [HW0.out]; simp [go_sem, *]
  have k8 : W0.cell? ⟨w.heap.size + 1, 8, none⟩ = some (.slice Bb mb db) := by rw [HW0.out]; simp [go_sem, *]
  clear HW0
  go_loopg [5, 6, 7, 16] mb (fun gg _ _ _ s16 wr => ∃ kk : Nat, kk ≤ mb ∧ mb - kk ≤ gg ∧ s16 = .int .i64 kk ∧ Hid (Ext W0 wr) ∧ Hid (allB (blkB p t.blocks) mb 0 = allB (blkB p t.blocks) (mb - kk) kk))
  case atStart => exact ⟨0, Nat.zero_le _, by omega, rfl, Ext.refl W0, rfl⟩
  case round =>
    obtain ⟨kk, hkk, hg, rfl, HW, HI⟩ := hrel
    have hW := HW.out
    have hWw := HE.out.trans hW
    by_cases hlt : kk < mb
    · have hltz : (kk : Int) < (mb : Int) := by omega
      obtain ⟨x, hx⟩ : ∃ x, t.blocks[kk]? = some x := ⟨_, List.getElem?_eq_getElem (by have := HL.out; omega)⟩
      have HD : Hid (allB (blkB p t.blocks) (mb - kk) kk = (blkB p t.blocks kk && allB (blkB p t.blocks) (mb - (kk + 1)) (kk + 1))) := by
        rw [Hid, show mb - kk = (mb - (kk + 1)) + 1 by omega]; rfl
      have HB2 := Lib.hid hB2
      obtain ⟨b, off, Aa, na, ca, rfl, hlb, j1, j2, j3, j4, ⟨hH, hna⟩, d0, d1, d2, d3, d4⟩ := (hB2.mono RBlk.stays hWw).blk hx
      have hnl := hH.le
      have HN := Lib.hid hH.len
      have hl2' : w.heap.size + 1 < wr.heap.size := Nat.lt_of_lt_of_le hl2 hW.size
      replace k0 := hW.cell k0
      replace k1 := hW.cell k1
      replace k2 := hW.cell k2
      replace k8 := hW.cell k8
      have HC : ∀ W, Ext wr W → Calls Tryz.prog 116 #[.slice Aa na ca, .func (.func 117) #[] #[.pointer (some ⟨w.heap.size, 0, none⟩)]] W fun e w' => e = .returned (.bool (!x.handlers.all (hdlB p))) ∧ Ext W w' := fun W hW' => by
        rw [← any_hdl]
        exact containsFuncHdl 117 #[.pointer (some ⟨w.heap.size, 0, none⟩)] (enters_of Tryz.func117 (by kernel_rfl) rfl) (fun h => !hdlB p h) Aa na ca x.handlers W (hH.mono RHdl.stays hW')
          (validBlocks1_pred p w.heap.size Af Ao Av nf cf no co nv cv W x.handlers (HP.out.mono (hWw.trans hW')) (hW'.cell k0) (hW'.cell k1) (hW'.cell k2))
      obtain ⟨q, hq⟩ : ∃ q, x.handlers.all (hdlB p) = q := ⟨_, rfl⟩
      rw [hq] at HC
      clear hH hB2 hW
      have HK : Hid (blkB p t.blocks kk = (decide (na ≤ 8) && q && (if kk = 0 then !(x.scope != -1) && !(x.depth != 0) && !(x.exit != 0) && !(x.mask != 0) else match t.blocks[kk - 1]? with | none => false | some y => inB x.scope 0 31 && inB x.depth 1 8 && inB x.mask 0 100 && !decide (x.scope ≤ y.scope) && !decide (x.depth < y.depth)))) := by
        unfold Hid blkB
        rw [hx]
        dsimp only
        rw [hq, HN.out]
        congr 1
        split
        · simp only [bne, Bool.not_not]
        · cases t.blocks[kk - 1]? with
          | none => rfl
          | some y => dsimp only; rw [← decide_not, ← decide_not]; simp only [Int.not_le, Int.not_lt]
      by_cases h8 : na ≤ 8
      rotate_left
      · have h8z : (8 : Int) < (na : Int) := by omega
        have HK : Hid (blkB p t.blocks kk = false) := by rw [Hid, HK.out, decide_eq_false h8]; rfl
        clear hx hq hWw HC
        go_wp2
        go_ret
        exact ⟨ret_bool (by rw [HR.out, HI.out, HD.out, HK.out]; rfl), HE.out.trans (HW.out.trans (by repeat' (first | with_reducible assumption | with_reducible exact Ext.refl _ | with_reducible refine Ext.alloc ?_ _ | with_reducible refine Ext.drew ?_ | with_reducible refine Ext.drewN ?_ _ | with_reducible refine Ext.regrown ?_ _ _ | with_reducible refine Ext.setCell ?_ (by first | (simp; done) | (simp; omega)) _)))⟩
      have h8z : ¬ (8 : Int) < (na : Int) := by omega
      have hb8 : decide (na ≤ 8) = true := by simpa using h8
      cases q with
      | false =>
        have HK : Hid (blkB p t.blocks kk = false) := by rw [Hid, HK.out, hb8]; rfl
        clear hx hq hWw h8 hb8
        go_wp2_with (go_at_call 116; refine (HC _ (by repeat' (first | with_reducible assumption | with_reducible exact Ext.refl _ | with_reducible refine Ext.alloc ?_ _ | with_reducible refine Ext.drew ?_ | with_reducible refine Ext.drewN ?_ _ | with_reducible refine Ext.regrown ?_ _ _ | with_reducible refine Ext.setCell ?_ (by first | (simp; done) | (simp; omega)) _))).mono ?_; rintro e w2 ⟨rfl, hb⟩; obtain ⟨hc2, hf2, hs2, he2⟩ := Ext.use (w := wr) hb (by repeat' (first | with_reducible assumption | with_reducible exact Ext.refl _ | with_reducible refine Ext.alloc ?_ _ | with_reducible refine Ext.drew ?_ | with_reducible refine Ext.drewN ?_ _ | with_reducible refine Ext.regrown ?_ _ _ | with_reducible refine Ext.setCell ?_ (by first | (simp; done) | (simp; omega)) _)); clear hb; (try simp only [World.size_alloc, World.size_setCell, World.size_drew, World.heap_drewN] at hs2))
        go_ret
        exact ⟨ret_bool (by rw [HR.out, HI.out, HD.out, HK.out]; rfl), HE.out.trans (HW.out.trans (by repeat' (first | with_reducible assumption | with_reducible exact Ext.refl _ | with_reducible refine Ext.alloc ?_ _ | with_reducible refine Ext.drew ?_ | with_reducible refine Ext.drewN ?_ _ | with_reducible refine Ext.regrown ?_ _ _ | with_reducible refine Ext.setCell ?_ (by first | (simp; done) | (simp; omega)) _)))⟩
      | true =>
      rcases Nat.eq_zero_or_pos kk with h0 | h0
      · have hzb : ((kk : Int) == 0) = true := by simp only [beq_iff_eq]; omega
        have HK : Hid (blkB p t.blocks kk = (!(x.scope != -1) && !(x.depth != 0) && !(x.exit != 0) && !(x.mask != 0))) := by rw [Hid, HK.out, if_pos h0, hb8]; rfl
        clear hx hq h0 h8 hb8
        go_wp2_with (go_at_call 116; refine (HC _ (by repeat' (first | with_reducible assumption | with_reducible exact Ext.refl _ | with_reducible refine Ext.alloc ?_ _ | with_reducible refine Ext.drew ?_ | with_reducible refine Ext.drewN ?_ _ | with_reducible refine Ext.regrown ?_ _ _ | with_reducible refine Ext.setCell ?_ (by first | (simp; done) | (simp; omega)) _))).mono ?_; rintro e w2 ⟨rfl, hb⟩; obtain ⟨hc2, hf2, hs2, he2⟩ := Ext.use (w := wr) hb (by repeat' (first | with_reducible assumption | with_reducible exact Ext.refl _ | with_reducible refine Ext.alloc ?_ _ | with_reducible refine Ext.drew ?_ | with_reducible refine Ext.drewN ?_ _ | with_reducible refine Ext.regrown ?_ _ _ | with_reducible refine Ext.setCell ?_ (by first | (simp; done) | (simp; omega)) _)); clear hb; (try simp only [World.size_alloc, World.size_setCell, World.size_drew, World.heap_drewN] at hs2))
        all_goals first
          | (go_ret; exact ⟨ret_bool (by rw [HR.out, HI.out, HD.out, HK.out]; (simp [*]; done)), HE.out.trans (HW.out.trans (by repeat' (first | with_reducible assumption | with_reducible exact Ext.refl _ | with_reducible refine Ext.alloc ?_ _ | with_reducible refine Ext.drew ?_ | with_reducible refine Ext.drewN ?_ _ | with_reducible refine Ext.regrown ?_ _ _ | with_reducible refine Ext.setCell ?_ (by first | (simp; done) | (simp; omega)) _)))⟩)
          | (go_roundg (mb - (kk + 1))
             case measure => omega
             case rel => exact ⟨kk + 1, by omega, by omega, by go_num, HW.out.trans (by repeat' (first | with_reducible assumption | with_reducible exact Ext.refl _ | with_reducible refine Ext.alloc ?_ _ | with_reducible refine Ext.drew ?_ | with_reducible refine Ext.drewN ?_ _ | with_reducible refine Ext.regrown ?_ _ _ | with_reducible refine Ext.setCell ?_ (by first | (simp; done) | (simp; omega)) _)), by rw [Hid, HI.out, HD.out, HK.out]; (simp [*]; done)⟩)
      · have hzb : ((kk : Int) == 0) = false := by simp only [beq_eq_false_iff_ne]; omega
        have hsub : IntKind.i64.wrap ((kk : Int) - 1) = ((kk - 1 : Nat) : Int) := by rw [IntWalk.i64_in _ (by omega)]; omega
        have hlt2 : ((kk - 1 : Nat) : Int) < (mb : Int) := by omega
        have hge2 : (0 : Int) ≤ ((kk - 1 : Nat) : Int) := by omega
        obtain ⟨y, hy⟩ : ∃ y, t.blocks[kk - 1]? = some y := ⟨_, List.getElem?_eq_getElem (by have := HL.out; omega)⟩
        obtain ⟨b', off', Ay, ny, cy, e1, _, _, _, _, _, _, f0, f1, f2, f3, f4⟩ := (HB2.out.mono RBlk.stays hWw).blk hy
        cases e1
        have HK : Hid (blkB p t.blocks kk = (inB x.scope 0 31 && inB x.depth 1 8 && inB x.mask 0 100 && !decide (x.scope ≤ y.scope) && !decide (x.depth < y.depth))) := by
          rw [Hid, HK.out, if_neg (by omega), hb8, hy]; rfl
        clear hx hq hy hWw h8 hb8
        go_wp2_with (first | (go_at_call 116; refine (HC _ (by repeat' (first | with_reducible assumption | with_reducible exact Ext.refl _ | with_reducible refine Ext.alloc ?_ _ | with_reducible refine Ext.drew ?_ | with_reducible refine Ext.drewN ?_ _ | with_reducible refine Ext.regrown ?_ _ _ | with_reducible refine Ext.setCell ?_ (by first | (simp; done) | (simp; omega)) _))).mono ?_; rintro e w2 ⟨rfl, hb⟩; obtain ⟨hc2, hf2, hs2, he2⟩ := Ext.use (w := wr) hb (by repeat' (first | with_reducible assumption | with_reducible exact Ext.refl _ | with_reducible refine Ext.alloc ?_ _ | with_reducible refine Ext.drew ?_ | with_reducible refine Ext.drewN ?_ _ | with_reducible refine Ext.regrown ?_ _ _ | with_reducible refine Ext.setCell ?_ (by first | (simp; done) | (simp; omega)) _)); clear hb; (try simp only [World.size_alloc, World.size_setCell, World.size_drew, World.heap_drewN] at hs2)) | (go_at_call 80; refine (twithin_any _ _ _ _).mono ?_; rintro e w' ⟨rfl, rfl⟩))
        all_goals first
          | (go_ret; exact ⟨ret_bool (by rw [HR.out, HI.out, HD.out, HK.out]; (first | (simp [*]; done) | (simp only [Bool.not_eq_true', Bool.not_eq_false'] at *; simp [*]; done) | (simp only [Bool.not_eq_true', Bool.not_eq_false'] at *; simp [*]; intros; omega))), HE.out.trans (HW.out.trans (by repeat' (first | with_reducible assumption | with_reducible exact Ext.refl _ | with_reducible refine Ext.alloc ?_ _ | with_reducible refine Ext.drew ?_ | with_reducible refine Ext.drewN ?_ _ | with_reducible refine Ext.regrown ?_ _ _ | with_reducible refine Ext.setCell ?_ (by first | (simp; done) | (simp; omega)) _)))⟩)
          | (go_roundg (mb - (kk + 1))
             case measure => omega
             case rel => exact ⟨kk + 1, by omega, by omega, by go_num, HW.out.trans (by repeat' (first | with_reducible assumption | with_reducible exact Ext.refl _ | with_reducible refine Ext.alloc ?_ _ | with_reducible refine Ext.drew ?_ | with_reducible refine Ext.drewN ?_ _ | with_reducible refine Ext.regrown ?_ _ _ | with_reducible refine Ext.setCell ?_ (by first | (simp; done) | (simp; omega)) _)), by rw [Hid, HI.out, HD.out, HK.out]; (first | (simp [*]; done) | (simp only [Bool.not_eq_true', Bool.not_eq_false'] at *; simp [*]; done) | (simp only [Bool.not_eq_true', Bool.not_eq_false'] at *; simp [*]; intros; omega))⟩)
    · have hltz : ¬ (kk : Int) < (mb : Int) := by omega
      clear hB2
      go_wp2
      go_ret
      exact ⟨ret_bool (by rw [HR.out, HI.out, show mb - kk = 0 by omega]; rfl), hWw⟩
end Go.Proofs.YtcjjoabofecjmaaGreat

namespace Go.Proofs.YtcjjoabofecjmaaGreat
open Go.RowKit
theorem anyOut (l : List Int) : (l.any fun x => !numB x) = !l.all numB := by rw [List.not_all_eq_any_not]
theorem outs_any (A : Option Addr) (n c : Nat) (l : List Int) (W : World) (hA : RSl 1 RInt W A n l) :
    Calls Tryz.prog 58 #[.slice A n c, .func (.func 59) #[] #[]] W fun e w' => e = .returned (.bool (!l.all numB)) ∧ Ext W w' := by
  rw [← anyOut]
  exact containsFuncInt 59 #[] (enters_of Tryz.func59 (by kernel_rfl) rfl) (fun x => !numB x) A n c l W hA (fun W' k x cs _ _ hR => by
    obtain ⟨rfl, _⟩ := hR
    exact (outside_any x W').mono fun e w' ⟨h1, h2⟩ => ⟨h1, h2 ▸ Ext.refl _⟩)
set_option maxRecDepth 4000 in
set_option maxHeartbeats 8000000 in
theorem validFrame_any (p : Prg) (t : Tsk) (i : Nat) (VP VT : Value) (w : World) (hP : RPrg w p VP) (hT : RTsk w t VT) (hi : i < t.frames.length) (hpo : ∀ g : Fnc, g ∈ p.funcs → 0 ≤ g.regs ∧ g.regs ≤ 32) (hpre : ∀ f, 0 < i → t.frames[i - 1]? = some f → ∃ g, fnAt p f.fn = some g) :
    Calls Tryz.prog 82 #[VP, VT, Value.int .i64 i] w fun e w' => e = .returned (.bool (frmB p t i)) ∧ Ext w w' := by
  obtain ⟨Af, nf, cf, Ao, no, co, Av, nv, cv, rfl, hF, hO, hVr, hcf, hco, hcv⟩ := hP
  obtain ⟨Bf, mf, df, Bb, mb, db, rfl, _, _, _, _, _, _, _, _, _, _, hF2, hB2, hdf, hdb⟩ := hT
  clear hO hVr hcf hco hcv hB2 hdb
  have hle := hF.le
  have hle2 := hF2.le
  have HS := sub_one hle
  have HS2 := sub_one hle2
  have HL := hF.len
  have HL2 := hF2.len
  have hiz : (i : Int) < (mf : Int) := by omega
  have hi64 : (i : Int) ≤ 9223372036854775807 := by omega
  obtain ⟨f, hf⟩ : ∃ f, t.frames[i]? = some f := ⟨_, List.getElem?_eq_getElem hi⟩
  obtain ⟨b, off, Ar, nr, cr, rfl, hlb, _, _, _, ⟨hR, hcr⟩, c0, c1, c2, c3, c4⟩ := hF2.frm hf
  have hnr := hR.le
  have HN := Lib.hid hR.len
  cases hfn : fnAt p f.fn with
  | none =>
    have HQ : inB f.fn 0 ((nf : Int) - 1) = false := inB_false (by rcases fnAt_none hfn with h | h <;> omega)
    have HR : Hid (frmB p t i = false) := by unfold Hid frmB; rw [hf]; dsimp only; rw [hfn]
    clear hfn hF HL hF2 HL2 hR hf hpre
    go_enter Tryz.func82, Tryz.ntmps82
    go_wp2_with (go_at_call 80; (with_reducible refine (twithin_is HQ _).mono ?_); rintro e w' ⟨rfl, rfl⟩)
    go_ret
    exact ⟨ret_bool HR.out.symm, (by repeat' (first | with_reducible assumption | with_reducible exact Ext.refl _ | with_reducible refine Ext.alloc ?_ _ | with_reducible refine Ext.drew ?_ | with_reducible refine Ext.drewN ?_ _ | with_reducible refine Ext.regrown ?_ _ _ | with_reducible refine Ext.setCell ?_ (by first | (simp; done) | (simp; omega)) _))⟩
  | some g =>
  obtain ⟨h0, h1, h2⟩ := fnAt_some hfn
  have HQ : inB f.fn 0 ((nf : Int) - 1) = true := inB_true (by omega)
  obtain ⟨b2, off2, Ac, nc, cc, rfl, hlb2, hsz, i1, i2, i3, ⟨hC, hcc⟩, g0, g1, g2, g3, g4, g5⟩ := hF.fnc h2
  have hlt : f.fn < (nf : Int) := by omega
  have hCl := hC.le
  have HC := Lib.hid hC.len
  have HO : ∀ W, Ext w W → Calls Tryz.prog 58 #[.slice Ar nr cr, .func (.func 59) #[] #[]] W fun e w' => e = .returned (.bool (!f.regs.all numB)) ∧ Ext W w' := fun W hW => outs_any Ar nr cr f.regs W (hR.mono RInt.stays hW)
  have HR : Hid (frmB p t i = (((nr : Int) == g.regs) && f.regs.all numB && inB f.pc 0 (nc : Int) && (f.cleanup == g.cleanup) &&
      (if f.cleanup = true then (f.result == -1) && (i + 1 == mf)
       else if i = 0 then (f.fn == t.fn) && (f.result == -1)
       else match t.frames[i - 1]? with
        | none => false
        | some h => match fnAt p h.fn with
          | none => false
          | some k => inB f.result 0 (k.regs - 1)))) := by
    unfold Hid frmB; rw [hf]; dsimp only; rw [hfn]; dsimp only; rw [HN.out, HC.out, HL2]; rfl
  obtain ⟨q, hq⟩ : ∃ q, f.regs.all numB = q := ⟨_, rfl⟩
  rw [hq] at HR HO
  clear hq
  by_cases hn : (nr : Int) = g.regs
  rotate_left
  · have e0 : ((nr : Int) != g.regs) = true := by simpa using hn
    have HR : Hid (frmB p t i = false) := by rw [Hid, HR.out, beq_eq_false_iff_ne.2 hn]; rfl
    clear hfn hF HL hF2 HL2 hR hf hpre hC h1 h2
    go_enter Tryz.func82, Tryz.ntmps82
    go_wp2_with (first | (go_at_call 80; (with_reducible refine (twithin_is HQ _).mono ?_); rintro e w' ⟨rfl, rfl⟩))
    go_ret
    exact ⟨ret_bool HR.out.symm, (by repeat' (first | with_reducible assumption | with_reducible exact Ext.refl _ | with_reducible refine Ext.alloc ?_ _ | with_reducible refine Ext.drew ?_ | with_reducible refine Ext.drewN ?_ _ | with_reducible refine Ext.regrown ?_ _ _ | with_reducible refine Ext.setCell ?_ (by first | (simp; done) | (simp; omega)) _))⟩
  have e0 : ((nr : Int) != g.regs) = false := by simpa using hn
  have e0' : ((nr : Int) == g.regs) = true := by simpa using hn
  cases q with
  | false =>
    have HR : Hid (frmB p t i = false) := by rw [Hid, HR.out, e0']; rfl
    clear hfn hF HL hF2 HL2 hR hf hpre hC h1 h2 hn e0'
    go_enter Tryz.func82, Tryz.ntmps82
    go_wp2_with (first | (go_at_call 80; (with_reducible refine (twithin_is HQ _).mono ?_); rintro e w' ⟨rfl, rfl⟩) | (go_at_call 58; refine (HO _ (by repeat' (first | with_reducible assumption | with_reducible exact Ext.refl _ | with_reducible refine Ext.alloc ?_ _ | with_reducible refine Ext.drew ?_ | with_reducible refine Ext.drewN ?_ _ | with_reducible refine Ext.regrown ?_ _ _ | with_reducible refine Ext.setCell ?_ (by first | (simp; done) | (simp; omega)) _))).mono ?_; rintro e w1 ⟨rfl, hb⟩; obtain ⟨hc, hf, hs, he⟩ := Ext.use (w := w) hb (by repeat' (first | with_reducible assumption | with_reducible exact Ext.refl _ | with_reducible refine Ext.alloc ?_ _ | with_reducible refine Ext.drew ?_ | with_reducible refine Ext.drewN ?_ _ | with_reducible refine Ext.regrown ?_ _ _ | with_reducible refine Ext.setCell ?_ (by first | (simp; done) | (simp; omega)) _)); clear hb; (try simp only [World.size_alloc, World.size_setCell, World.size_drew, World.heap_drewN] at hs)))
    go_ret
    exact ⟨ret_bool HR.out.symm, (by repeat' (first | with_reducible assumption | with_reducible exact Ext.refl _ | with_reducible refine Ext.alloc ?_ _ | with_reducible refine Ext.drew ?_ | with_reducible refine Ext.drewN ?_ _ | with_reducible refine Ext.regrown ?_ _ _ | with_reducible refine Ext.setCell ?_ (by first | (simp; done) | (simp; omega)) _))⟩
  | true =>
  cases hpc : inB f.pc 0 (nc : Int) with
  | false =>
    have HR : Hid (frmB p t i = false) := by rw [Hid, HR.out, hpc, e0']; rfl
    clear hfn hF HL hF2 HL2 hR hf hpre hC h1 h2 hn e0'
    go_enter Tryz.func82, Tryz.ntmps82
    go_wp2_with (first | (go_at_call 80; (with_reducible refine (twithin_is HQ _).mono ?_); rintro e w' ⟨rfl, rfl⟩) | (go_at_call 80; (with_reducible refine (twithin_is hpc _).mono ?_); rintro e w' ⟨rfl, rfl⟩) | (go_at_call 58; refine (HO _ (by repeat' (first | with_reducible assumption | with_reducible exact Ext.refl _ | with_reducible refine Ext.alloc ?_ _ | with_reducible refine Ext.drew ?_ | with_reducible refine Ext.drewN ?_ _ | with_reducible refine Ext.regrown ?_ _ _ | with_reducible refine Ext.setCell ?_ (by first | (simp; done) | (simp; omega)) _))).mono ?_; rintro e w1 ⟨rfl, hb⟩; obtain ⟨hc, hf, hs, he⟩ := Ext.use (w := w) hb (by repeat' (first | with_reducible assumption | with_reducible exact Ext.refl _ | with_reducible refine Ext.alloc ?_ _ | with_reducible refine Ext.drew ?_ | with_reducible refine Ext.drewN ?_ _ | with_reducible refine Ext.regrown ?_ _ _ | with_reducible refine Ext.setCell ?_ (by first | (simp; done) | (simp; omega)) _)); clear hb; (try simp only [World.size_alloc, World.size_setCell, World.size_drew, World.heap_drewN] at hs)))
    go_ret
    exact ⟨ret_bool HR.out.symm, (by repeat' (first | with_reducible assumption | with_reducible exact Ext.refl _ | with_reducible refine Ext.alloc ?_ _ | with_reducible refine Ext.drew ?_ | with_reducible refine Ext.drewN ?_ _ | with_reducible refine Ext.regrown ?_ _ _ | with_reducible refine Ext.setCell ?_ (by first | (simp; done) | (simp; omega)) _))⟩
  | true =>
  by_cases hcl : f.cleanup = g.cleanup
  rotate_left
  · have e1 : (f.cleanup == g.cleanup) = false := by simpa using hcl
    have HR : Hid (frmB p t i = false) := by rw [Hid, HR.out, hpc, e0', e1]; rfl
    clear hfn hF HL hF2 HL2 hR hf hpre hC h1 h2 hn e0'
    go_enter Tryz.func82, Tryz.ntmps82
    go_wp2_with (first | (go_at_call 80; (with_reducible refine (twithin_is HQ _).mono ?_); rintro e w' ⟨rfl, rfl⟩) | (go_at_call 80; (with_reducible refine (twithin_is hpc _).mono ?_); rintro e w' ⟨rfl, rfl⟩) | (go_at_call 58; refine (HO _ (by repeat' (first | with_reducible assumption | with_reducible exact Ext.refl _ | with_reducible refine Ext.alloc ?_ _ | with_reducible refine Ext.drew ?_ | with_reducible refine Ext.drewN ?_ _ | with_reducible refine Ext.regrown ?_ _ _ | with_reducible refine Ext.setCell ?_ (by first | (simp; done) | (simp; omega)) _))).mono ?_; rintro e w1 ⟨rfl, hb⟩; obtain ⟨hc, hf, hs, he⟩ := Ext.use (w := w) hb (by repeat' (first | with_reducible assumption | with_reducible exact Ext.refl _ | with_reducible refine Ext.alloc ?_ _ | with_reducible refine Ext.drew ?_ | with_reducible refine Ext.drewN ?_ _ | with_reducible refine Ext.regrown ?_ _ _ | with_reducible refine Ext.setCell ?_ (by first | (simp; done) | (simp; omega)) _)); clear hb; (try simp only [World.size_alloc, World.size_setCell, World.size_drew, World.heap_drewN] at hs)))
    go_ret
    exact ⟨ret_bool HR.out.symm, (by repeat' (first | with_reducible assumption | with_reducible exact Ext.refl _ | with_reducible refine Ext.alloc ?_ _ | with_reducible refine Ext.drew ?_ | with_reducible refine Ext.drewN ?_ _ | with_reducible refine Ext.regrown ?_ _ _ | with_reducible refine Ext.setCell ?_ (by first | (simp; done) | (simp; omega)) _))⟩
  have e1 : (g.cleanup == g.cleanup) = true := by simp
  rw [hcl] at c4
  cases hcu : g.cleanup with
  | true =>
    rw [hcu] at c4 g4
    have HR : Hid (frmB p t i = ((f.result == -1) && ((i : Int) == (mf : Int) - 1))) := by
      rw [Hid, HR.out, hpc, e0', hcl, e1, if_pos hcu]
      simp only [Bool.true_and]
      congr 1
      rw [Bool.eq_iff_iff, beq_iff_eq, beq_iff_eq]; omega
    clear hfn hF HL hF2 HL2 hR hf hpre hC h1 h2 hn e0' hcl e1 hcu
    go_enter Tryz.func82, Tryz.ntmps82
    go_wp2_with (first | (go_at_call 80; (with_reducible refine (twithin_is HQ _).mono ?_); rintro e w' ⟨rfl, rfl⟩) | (go_at_call 80; (with_reducible refine (twithin_is hpc _).mono ?_); rintro e w' ⟨rfl, rfl⟩) | (go_at_call 58; refine (HO _ (by repeat' (first | with_reducible assumption | with_reducible exact Ext.refl _ | with_reducible refine Ext.alloc ?_ _ | with_reducible refine Ext.drew ?_ | with_reducible refine Ext.drewN ?_ _ | with_reducible refine Ext.regrown ?_ _ _ | with_reducible refine Ext.setCell ?_ (by first | (simp; done) | (simp; omega)) _))).mono ?_; rintro e w1 ⟨rfl, hb⟩; obtain ⟨hc, hf, hs, he⟩ := Ext.use (w := w) hb (by repeat' (first | with_reducible assumption | with_reducible exact Ext.refl _ | with_reducible refine Ext.alloc ?_ _ | with_reducible refine Ext.drew ?_ | with_reducible refine Ext.drewN ?_ _ | with_reducible refine Ext.regrown ?_ _ _ | with_reducible refine Ext.setCell ?_ (by first | (simp; done) | (simp; omega)) _)); clear hb; (try simp only [World.size_alloc, World.size_setCell, World.size_drew, World.heap_drewN] at hs)))
    all_goals (go_ret; exact ⟨ret_bool (by rw [HR.out]; simp [*]), (by repeat' (first | with_reducible assumption | with_reducible exact Ext.refl _ | with_reducible refine Ext.alloc ?_ _ | with_reducible refine Ext.drew ?_ | with_reducible refine Ext.drewN ?_ _ | with_reducible refine Ext.regrown ?_ _ _ | with_reducible refine Ext.setCell ?_ (by first | (simp; done) | (simp; omega)) _))⟩)
  | false =>
  rw [hcu] at c4 g4
  rcases Nat.eq_zero_or_pos i with hi0 | hi0
  · have e2 : ((i : Int) == 0) = true := by simp only [beq_iff_eq]; omega
    have HR : Hid (frmB p t i = ((f.fn == t.fn) && (f.result == -1))) := by
      rw [Hid, HR.out, hpc, e0', hcl, e1, if_neg (by rw [hcu]; decide), if_pos hi0]; rfl
    clear hfn hF HL hF2 HL2 hR hf hpre hC h1 h2 hn e0' hcl e1 hcu hi0
    go_enter Tryz.func82, Tryz.ntmps82
    go_wp2_with (first | (go_at_call 80; (with_reducible refine (twithin_is HQ _).mono ?_); rintro e w' ⟨rfl, rfl⟩) | (go_at_call 80; (with_reducible refine (twithin_is hpc _).mono ?_); rintro e w' ⟨rfl, rfl⟩) | (go_at_call 58; refine (HO _ (by repeat' (first | with_reducible assumption | with_reducible exact Ext.refl _ | with_reducible refine Ext.alloc ?_ _ | with_reducible refine Ext.drew ?_ | with_reducible refine Ext.drewN ?_ _ | with_reducible refine Ext.regrown ?_ _ _ | with_reducible refine Ext.setCell ?_ (by first | (simp; done) | (simp; omega)) _))).mono ?_; rintro e w1 ⟨rfl, hb⟩; obtain ⟨hc, hf, hs, he⟩ := Ext.use (w := w) hb (by repeat' (first | with_reducible assumption | with_reducible exact Ext.refl _ | with_reducible refine Ext.alloc ?_ _ | with_reducible refine Ext.drew ?_ | with_reducible refine Ext.drewN ?_ _ | with_reducible refine Ext.regrown ?_ _ _ | with_reducible refine Ext.setCell ?_ (by first | (simp; done) | (simp; omega)) _)); clear hb; (try simp only [World.size_alloc, World.size_setCell, World.size_drew, World.heap_drewN] at hs)))
    all_goals (go_ret; exact ⟨ret_bool (by rw [HR.out]; simp [*]), (by repeat' (first | with_reducible assumption | with_reducible exact Ext.refl _ | with_reducible refine Ext.alloc ?_ _ | with_reducible refine Ext.drew ?_ | with_reducible refine Ext.drewN ?_ _ | with_reducible refine Ext.regrown ?_ _ _ | with_reducible refine Ext.setCell ?_ (by first | (simp; done) | (simp; omega)) _))⟩)
  · have e2 : ((i : Int) == 0) = false := by simp only [beq_eq_false_iff_ne]; omega
    have hsub : IntKind.i64.wrap ((i : Int) - 1) = ((i - 1 : Nat) : Int) := by rw [IntWalk.i64_in _ (by omega)]; omega
    have hlt2 : ((i - 1 : Nat) : Int) < (mf : Int) := by omega
    have hge2 : (0 : Int) ≤ ((i - 1 : Nat) : Int) := by omega
    obtain ⟨y, hy⟩ : ∃ y, t.frames[i - 1]? = some y := ⟨_, List.getElem?_eq_getElem (by omega)⟩
    obtain ⟨k, hk⟩ := hpre y hi0 hy
    obtain ⟨b', off', Ay, ny, cy, e1', _, _, _, _, _, f0, f1, f2, f3, f4⟩ := hF2.frm hy
    cases e1'
    obtain ⟨u0, u1, u2⟩ := fnAt_some hk
    obtain ⟨b'', off'', Ac', nc', cc', e2', _, _, _, j2, _, _, r0, r1, r2, r3, r4, r5⟩ := hF.fnc u2
    cases e2'
    have hltk : y.fn < (nf : Int) := by omega
    have HR : Hid (frmB p t i = inB f.result 0 (k.regs - 1)) := by
      rw [Hid, HR.out, hpc, e0', hcl, e1, if_neg (by rw [hcu]; decide), if_neg (by omega), hy]; dsimp only; rw [hk]; rfl
    obtain ⟨q2, hq2⟩ : ∃ q2, inB f.result 0 (k.regs - 1) = q2 := ⟨_, rfl⟩
    rw [hq2] at HR
    have hk0 := hpo k (List.mem_of_getElem? u2)
    have hsub2 : IntKind.i64.wrap (k.regs - 1) = k.regs - 1 := IntWalk.i64_in _ (by omega)
    clear hfn hF HL hF2 HL2 hR hf hpre hC h1 h2 hn e0' hcl e1 hcu hi0 hy hk u1 u2 hpo hk0
    go_enter Tryz.func82, Tryz.ntmps82
    go_wp2_with (first | (go_at_call 80; (with_reducible refine (twithin_is HQ _).mono ?_); rintro e w' ⟨rfl, rfl⟩) | (go_at_call 80; (with_reducible refine (twithin_is hpc _).mono ?_); rintro e w' ⟨rfl, rfl⟩) | (go_at_call 58; refine (HO _ (by repeat' (first | with_reducible assumption | with_reducible exact Ext.refl _ | with_reducible refine Ext.alloc ?_ _ | with_reducible refine Ext.drew ?_ | with_reducible refine Ext.drewN ?_ _ | with_reducible refine Ext.regrown ?_ _ _ | with_reducible refine Ext.setCell ?_ (by first | (simp; done) | (simp; omega)) _))).mono ?_; rintro e w1 ⟨rfl, hb⟩; obtain ⟨hc, hf, hs, he⟩ := Ext.use (w := w) hb (by repeat' (first | with_reducible assumption | with_reducible exact Ext.refl _ | with_reducible refine Ext.alloc ?_ _ | with_reducible refine Ext.drew ?_ | with_reducible refine Ext.drewN ?_ _ | with_reducible refine Ext.regrown ?_ _ _ | with_reducible refine Ext.setCell ?_ (by first | (simp; done) | (simp; omega)) _)); clear hb; (try simp only [World.size_alloc, World.size_setCell, World.size_drew, World.heap_drewN] at hs)))
    (refine wp_region_quiet_below (by kernel_rfl) (by kernel_rfl) ?_; (repeat (go_big_quiet_step ((go_at_call 80; exact quiet_same (twithin_is hq2 _))))); refine wpQuiet_nil ?_; intro w1 hw1; obtain ⟨hc, hf, hs, he⟩ := Ext.use (w := w) (ext_of_regrown hw1) (by repeat' (first | with_reducible assumption | with_reducible exact Ext.refl _ | with_reducible refine Ext.alloc ?_ _ | with_reducible refine Ext.drew ?_ | with_reducible refine Ext.drewN ?_ _ | with_reducible refine Ext.regrown ?_ _ _ | with_reducible refine Ext.setCell ?_ (by first | (simp; done) | (simp; omega)) _)); clear hw1; (try simp only [World.size_alloc, World.size_setCell, World.size_drew, World.heap_drewN] at hs))
    go_wp2
    go_ret
    exact ⟨ret_bool HR.out.symm, he⟩
end Go.Proofs.YtcjjoabofecjmaaGreat

namespace Go.Proofs.YtcjjoabofecjmaaGreat
open Go.RowKit
theorem frm_fnAt {p : Prg} {t : Tsk} {i : Nat} {f : Frm} (h : frmB p t i = true) (hf : t.frames[i]? = some f) : ∃ g, fnAt p f.fn = some g := by
  unfold frmB at h
  rw [hf] at h
  dsimp only at h
  cases hg : fnAt p f.fn with
  | none => rw [hg] at h; cases h
  | some g => exact ⟨g, rfl⟩
def liv0 (p : Prg) (t : Tsk) : Bool := blksB p t.blocks && inB t.mask (leastI t) (mostI t) && decide (plainN t ≤ 8) && !(decide (plainN t = 0) && (!t.unw || (t.level != 0)))
    && !((t.level != 0) && (!t.unw || !inB t.level 2 (t.blocks.length : Int)))
    && !(t.unw && (((t.level == 0) && decide (0 < plainN t)) || (decide (0 < t.level) && ((plainN t : Int) != depthAt t (t.level - 1)))))
theorem livB_eq (p : Prg) (t : Tsk) : livB p t = (liv0 p t && allB (frmB p t) t.frames.length 0 && allB (keepB p t) (keepsN t - 1) 1) := rfl
theorem liv0_ends {p : Prg} {t : Tsk} (h : liv0 p t = false) : livB p t = false := by rw [livB_eq, h]; rfl
theorem liv0_blks {p : Prg} {t : Tsk} (h : blksB p t.blocks = false) : liv0 p t = false := by unfold liv0; rw [h]; rfl
theorem liv0_iff {p : Prg} {t : Tsk} : liv0 p t = true ↔ blksB p t.blocks = true ∧ inB t.mask (leastI t) (mostI t) = true ∧ plainN t ≤ 8 ∧ ¬ (plainN t = 0 ∧ (t.unw = false ∨ t.level ≠ 0)) ∧ ¬ (t.level ≠ 0 ∧ (t.unw = false ∨ inB t.level 2 (t.blocks.length : Int) = false)) ∧
    ¬ (t.unw = true ∧ ((t.level = 0 ∧ 0 < plainN t) ∨ (0 < t.level ∧ (plainN t : Int) ≠ depthAt t (t.level - 1)))) := by
  unfold liv0
  simp only [Bool.and_eq_true, Bool.not_eq_true', Bool.and_eq_false_iff, Bool.or_eq_false_iff, decide_eq_true_eq, bne_iff_ne, beq_iff_eq, decide_eq_false_iff_not, Bool.not_eq_false', bne_eq_false_iff_eq, beq_eq_false_iff_ne, ne_eq]
  constructor
  · rintro ⟨⟨⟨⟨⟨h1, h2⟩, h3⟩, h4⟩, h5⟩, h6⟩
    refine ⟨h1, h2, h3, ?_, ?_, ?_⟩
    · rintro ⟨a, b⟩
      rcases h4 with h | ⟨h, h'⟩
      · exact h a
      · rcases b with b | b
        · rw [b] at h; cases h
        · exact b h'
    · rintro ⟨a, b⟩
      rcases h5 with h | ⟨h, h'⟩
      · exact a h
      · rcases b with b | b
        · rw [b] at h; cases h
        · rw [b] at h'; cases h'
    · rintro ⟨a, b⟩
      rcases h6 with h | ⟨h, h'⟩
      · rw [a] at h; cases h
      · rcases b with ⟨b, c⟩ | ⟨b, c⟩
        · rcases h with h | h
          · exact h b
          · exact h c
        · rcases h' with h | h
          · exact h b
          · exact c h
  · rintro ⟨h1, h2, h3, h4, h5, h6⟩
    refine ⟨⟨⟨⟨⟨h1, h2⟩, h3⟩, ?_⟩, ?_⟩, ?_⟩
    · by_cases a : plainN t = 0
      · refine .inr ⟨?_, ?_⟩
        · cases hu : t.unw with
          | true => rfl
          | false => exact absurd ⟨a, .inl hu⟩ h4
        · exact Classical.byContradiction fun h => h4 ⟨a, .inr h⟩
      · exact .inl a
    · by_cases a : t.level = 0
      · exact .inl a
      · refine .inr ⟨?_, ?_⟩
        · cases hu : t.unw with
          | true => rfl
          | false => exact absurd ⟨a, .inl hu⟩ h5
        · cases hu : inB t.level 2 (t.blocks.length : Int) with
          | true => rfl
          | false => exact absurd ⟨a, .inr hu⟩ h5
    · cases hu : t.unw with
      | false => exact .inl rfl
      | true =>
        refine .inr ⟨?_, ?_⟩
        · by_cases a : t.level = 0
          · exact .inr fun h => h6 ⟨hu, .inl ⟨a, h⟩⟩
          · exact .inl a
        · by_cases a : 0 < t.level
          · exact .inr (Classical.byContradiction fun h => h6 ⟨hu, .inr ⟨a, h⟩⟩)
          · exact .inl a
end Go.Proofs.YtcjjoabofecjmaaGreat
