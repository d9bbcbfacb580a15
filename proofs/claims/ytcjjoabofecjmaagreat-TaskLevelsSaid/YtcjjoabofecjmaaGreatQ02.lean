/- A part of the proof: Tasks that a call owns; innermost and handles of package task; inHandler and plain of the reference; Regions that draw their order of evaluation, whose operations read and whose callees only add to memory; slices.IndexFunc and slices.ContainsFunc at the five element types of this program. -/
import Derived.Test.YtcjjoabofecjmaaGreatQ01
import Derived.Test.YtcjjoabofecjmaaGreatProg
import Derived.Lib.Hide
import Derived.BigQuiet
import Derived.IntWalk
import Derived.OrdersIn
import Derived.TacticsIn
import Derived.Shelf.Abstract
import Derived.Deep.LoopGhost
set_option linter.unusedVariables false
set_option linter.unusedSimpArgs false
namespace Go.Proofs.YtcjjoabofecjmaaGreat
open Go.RowKit
def frmCells (f : Frm) (v : Value) : List Value := [Value.int .i64 f.fn, Value.int .i64 f.pc, v, Value.int .i64 f.result, .bool f.cleanup]
def blkCells (b : Blk) (v : Value) : List Value := [Value.int .i64 b.scope, Value.int .i64 b.depth, Value.int .i64 b.exit, Value.int .i64 b.mask, v]
def hdlCells (h : Hdl) (v : Value) : List Value := [Value.int .i64 h.fn, v]
def RArgs (w : World) (xs : List Int) (v : Value) : Prop := ∃ A n c, v = .slice A n c ∧ RSl 1 RInt w A n xs ∧ n ≤ c
def rowOf {α : Type} (f : α → Value → List Value) (xs : List α) (vs : List Value) : List Value := (List.zipWith f xs vs).flatten
theorem rowOf_length {α : Type} {f : α → Value → List Value} {k : Nat} (hf : ∀ x v, (f x v).length = k) : ∀ {xs : List α} {vs : List Value}, vs.length = xs.length → (rowOf f xs vs).length = xs.length * k
  | [], vs, _ => by simp [rowOf]
  | x :: xs, [], h => by simp at h
  | x :: xs, v :: vs, h => by
    have := rowOf_length hf (xs := xs) (vs := vs) (by simpa using h)
    simp only [rowOf, List.zipWith_cons_cons, List.flatten_cons, List.length_append, hf, List.length_cons, Nat.add_mul] at this ⊢
    omega
theorem rowOf_get {α : Type} {f : α → Value → List Value} {k : Nat} (hf : ∀ x v, (f x v).length = k) : ∀ {xs : List α} {vs : List Value} {i j : Nat} {x : α} {v : Value}, xs[i]? = some x → vs[i]? = some v → j < k →
    (rowOf f xs vs)[i * k + j]? = (f x v)[j]?
  | [], _, i, j, x, v, h, _, _ => by simp at h
  | _ :: _, [], i, j, x, v, _, h, _ => by simp at h
  | y :: xs, u :: vs, 0, j, x, v, h1, h2, hj => by
    simp only [List.getElem?_cons_zero, Option.some.injEq] at h1 h2
    subst h1 h2
    simp only [rowOf, List.zipWith_cons_cons, List.flatten_cons, Nat.zero_mul, Nat.zero_add]
    rw [List.getElem?_append_left (by rw [hf]; exact hj)]
  | y :: xs, u :: vs, i + 1, j, x, v, h1, h2, hj => by
    simp only [List.getElem?_cons_succ] at h1 h2
    have := rowOf_get hf (xs := xs) (vs := vs) (j := j) h1 h2 hj
    simp only [rowOf, List.zipWith_cons_cons, List.flatten_cons] at this ⊢
    rw [List.getElem?_append_right (by rw [hf, Nat.add_mul]; omega), hf, ← this]
    congr 1
    rw [Nat.add_mul]; omega
def Apart (v u : Value) : Prop := v.ownBlock = none ∨ v.ownBlock ≠ u.ownBlock
structure OFr (B : Nat) (w : World) (fs : List Frm) (VF : Value) (rs : List Value) : Prop where
  len : rs.length = fs.length
  row : w.ownsRow B 62 5 VF fs.length (rowOf frmCells fs rs)
  reg : ∀ (i : Nat) (f : Frm) (v : Value), fs[i]? = some f → rs[i]? = some v → w.ownsRow B 3 1 v f.regs.length (f.regs.map (Value.int .i64))
  dis : ∀ (i j : Nat) (v u : Value), i ≠ j → rs[i]? = some v → rs[j]? = some u → Apart v u
  inr : ∀ f : Frm, f ∈ fs → InR f.fn ∧ InR f.pc ∧ InR f.result ∧ ∀ x ∈ f.regs, InR x
structure OBl (B : Nat) (w : World) (bs : List Blk) (VB : Value) (hs : List Value) (gs : List (List Value)) (rs : List Value) : Prop where
  len : hs.length = bs.length
  alen : gs.length = bs.length
  row : w.ownsRow B 55 5 VB bs.length (rowOf blkCells bs hs)
  hnd : ∀ (i : Nat) (b : Blk) (v : Value) (a : List Value), bs[i]? = some b → hs[i]? = some v → gs[i]? = some a → a.length = b.handlers.length ∧ w.ownsRow B 58 2 v b.handlers.length (rowOf hdlCells b.handlers a)
  arg : ∀ (i : Nat) (b : Blk) (a : List Value) (k : Nat) (h : Hdl) (v : Value), bs[i]? = some b → gs[i]? = some a → b.handlers[k]? = some h → a[k]? = some v → InR h.fn ∧ RArgs w h.args v ∧ (h.args = [] ∨ ∀ r ∈ rs, Apart r v)
  dis : ∀ (i j : Nat) (v u : Value), i ≠ j → hs[i]? = some v → hs[j]? = some u → Apart v u
  inr : ∀ b : Blk, b ∈ bs → InR b.scope ∧ InR b.depth ∧ InR b.exit ∧ InR b.mask
theorem RArgs.mono {w W : World} {xs : List Int} {v : Value} (h : RArgs w xs v) (hw : Ext w W) : RArgs W xs v := by
  obtain ⟨A, n, c, h1, h2, h3⟩ := h
  exact ⟨A, n, c, h1, h2.mono RInt.stays hw, h3⟩
theorem ownsRow_ext {w W : World} {B : Nat} {e : TypeId} {sz : Nat} {v : Value} {n : Nat} {xs : List Value} (h : w.ownsRow B e sz v n xs) (hw : Ext w W) : W.ownsRow B e sz v n xs := by
  refine ⟨h.1, ?_⟩
  rcases h.2 with hn | ⟨g, cap, cur, rfl, hb, hg, rest⟩
  · exact .inl hn
  · exact .inr ⟨g, cap, cur, rfl, hb, (Below.block hw g (Array.getElem?_eq_some_iff.1 hg).1).trans hg, rest⟩
theorem OFr.mono {B : Nat} {w W : World} {fs : List Frm} {VF : Value} {rs : List Value} (h : OFr B w fs VF rs) (hw : Ext w W) : OFr B W fs VF rs :=
  ⟨h.len, ownsRow_ext h.row hw, fun i f v h1 h2 => ownsRow_ext (h.reg i f v h1 h2) hw, h.dis, h.inr⟩
theorem OBl.mono {B : Nat} {w W : World} {bs : List Blk} {VB : Value} {hs : List Value} {gs : List (List Value)} {rs : List Value} (h : OBl B w bs VB hs gs rs) (hw : Ext w W) : OBl B W bs VB hs gs rs :=
  ⟨h.len, h.alen, ownsRow_ext h.row hw, fun i b v a h1 h2 h3 => ⟨(h.hnd i b v a h1 h2 h3).1, ownsRow_ext (h.hnd i b v a h1 h2 h3).2 hw⟩,
    fun i b a k x v h1 h2 h3 h4 => ⟨(h.arg i b a k x v h1 h2 h3 h4).1, (h.arg i b a k x v h1 h2 h3 h4).2.1.mono hw, (h.arg i b a k x v h1 h2 h3 h4).2.2⟩, h.dis, h.inr⟩
theorem ownsRow_shape {w : World} {B : Nat} {e : TypeId} {sz : Nat} {v : Value} {n : Nat} {xs : List Value} (h : w.ownsRow B e sz v n xs) :
    ∃ A c, v = .slice A n c ∧ n ≤ c ∧ n ≤ maxLen ∧ CSl w A n sz xs := by
  rcases h.2 with ⟨rfl, rfl⟩ | ⟨g, cap, cur, rfl, hb, hg, hnc, hcm, hcs, htake⟩
  · exact ⟨none, 0, rfl, Nat.le_refl _, Nat.zero_le _, h.1, fun h0 => by omega⟩
  · refine ⟨_, _, rfl, hnc, Nat.le_trans hnc hcm, h.1, fun _ => ⟨g, 0, rfl, fun j u hj => ?_⟩⟩
    have := h.cells (g := g) rfl j u hj
    rw [addr_add] at this
    exact this
theorem rowOf_set {α : Type} {f : α → Value → List Value} {k : Nat} (hf : ∀ x v, (f x v).length = k) : ∀ {xs : List α} {vs : List Value} {i j : Nat} {x x' : α} {v u : Value}, xs[i]? = some x → vs[i]? = some v → j < k →
    f x' v = (f x v).set j u → (rowOf f xs vs).set (i * k + j) u = rowOf f (xs.set i x') vs
  | [], _, i, j, x, x', v, u, h, _, _, _ => by simp at h
  | _ :: _, [], i, j, x, x', v, u, _, h, _, _ => by simp at h
  | y :: xs, z :: vs, 0, j, x, x', v, u, h1, h2, hj, he => by
    simp only [List.getElem?_cons_zero, Option.some.injEq] at h1 h2
    subst h1 h2
    simp only [rowOf, List.zipWith_cons_cons, List.flatten_cons, Nat.zero_mul, Nat.zero_add, List.set_cons_zero]
    rw [he, List.set_append_left _ _ (by rw [hf]; exact hj)]
  | y :: xs, z :: vs, i + 1, j, x, x', v, u, h1, h2, hj, he => by
    simp only [List.getElem?_cons_succ] at h1 h2
    have := rowOf_set hf (xs := xs) (vs := vs) (j := j) h1 h2 hj he
    simp only [rowOf, List.zipWith_cons_cons, List.flatten_cons, List.set_cons_succ] at this ⊢
    rw [List.set_append_right _ _ (by rw [hf, Nat.add_mul]; omega), hf, ← this]
    congr 2
    rw [Nat.add_mul]; omega
theorem rowOf_put {α : Type} {f : α → Value → List Value} {k : Nat} (hf : ∀ x v, (f x v).length = k) : ∀ {xs : List α} {vs : List Value} {i j : Nat} {x : α} {v u v' : Value}, xs[i]? = some x → vs[i]? = some v → j < k →
    f x v' = (f x v).set j u → (rowOf f xs vs).set (i * k + j) u = rowOf f xs (vs.set i v')
  | [], _, i, j, x, v, u, v', h, _, _, _ => by simp at h
  | _ :: _, [], i, j, x, v, u, v', _, h, _, _ => by simp at h
  | y :: xs, z :: vs, 0, j, x, v, u, v', h1, h2, hj, he => by
    simp only [List.getElem?_cons_zero, Option.some.injEq] at h1 h2
    subst h1 h2
    simp only [rowOf, List.zipWith_cons_cons, List.flatten_cons, Nat.zero_mul, Nat.zero_add, List.set_cons_zero]
    rw [he, List.set_append_left _ _ (by rw [hf]; exact hj)]
  | y :: xs, z :: vs, i + 1, j, x, v, u, v', h1, h2, hj, he => by
    simp only [List.getElem?_cons_succ] at h1 h2
    have := rowOf_put hf (xs := xs) (vs := vs) (j := j) h1 h2 hj he
    simp only [rowOf, List.zipWith_cons_cons, List.flatten_cons, List.set_cons_succ] at this ⊢
    rw [List.set_append_right _ _ (by rw [hf, Nat.add_mul]; omega), hf, ← this]
    congr 2
    rw [Nat.add_mul]; omega
theorem ownsRow_type {w : World} {B : Nat} {e : TypeId} {sz : Nat} {v : Value} {n : Nat} {xs : List Value} (h : w.ownsRow B e sz v n xs) {g : Nat} (hg : v.ownBlock = some g) : ∃ cur, w.heap[g]? = some (.cells cur e (0, 0)) := by
  rcases h.2 with ⟨rfl, _⟩ | ⟨g', cap, cur, rfl, _, hh, _⟩
  · simp [Value.ownBlock] at hg
  · simp [Value.ownBlock] at hg; subst hg; exact ⟨cur, hh⟩
theorem apart_types {w : World} {B B' : Nat} {e e' : TypeId} {sz sz' : Nat} {v v' : Value} {n n' : Nat} {xs xs' : List Value} (h : w.ownsRow B e sz v n xs) (h' : w.ownsRow B' e' sz' v' n' xs') (he : e ≠ e') : Apart v v' := by
  unfold Apart
  cases hv : v.ownBlock with
  | none => exact .inl rfl
  | some g =>
    refine .inr fun hh => ?_
    obtain ⟨c1, h1⟩ := ownsRow_type h hv
    obtain ⟨c2, h2⟩ := ownsRow_type h' hh.symm
    rw [h1] at h2
    injection h2 with h2
    injection h2 with _ ht
    exact he ht
theorem Apart.symm {v u : Value} (h : Apart v u) (hv : v.ownBlock ≠ none) : Apart u v := by
  rcases h with h | h
  · exact absurd h hv
  · exact .inr (fun e => h e.symm)
theorem OFr.kept {B : Nat} {w W : World} {fs : List Frm} {VF : Value} {rs : List Value} (h : OFr B w fs VF rs) {row : Option Nat} (hg : w.grownBy W row) (h1 : VF.ownBlock = none ∨ VF.ownBlock ≠ row) (h2 : ∀ v ∈ rs, v.ownBlock = none ∨ v.ownBlock ≠ row) : OFr B W fs VF rs :=
  ⟨h.len, h.row.kept hg h1, fun i f v a b => (h.reg i f v a b).kept hg (h2 v (List.mem_of_getElem? b)), h.dis, h.inr⟩
theorem OBl.kept {B : Nat} {w W : World} {bs : List Blk} {VB : Value} {hs : List Value} {gs : List (List Value)} {rs : List Value} (h : OBl B w bs VB hs gs rs) {row : Option Nat} (hg : w.grownBy W row) (h1 : VB.ownBlock = none ∨ VB.ownBlock ≠ row)
    (h2 : ∀ v ∈ hs, v.ownBlock = none ∨ v.ownBlock ≠ row) (h3 : ∀ a ∈ gs, ∀ v ∈ a, ∀ xs, RArgs w xs v → RArgs W xs v) : OBl B W bs VB hs gs rs :=
  ⟨h.len, h.alen, h.row.kept hg h1, fun i b v a e1 e2 e3 => ⟨(h.hnd i b v a e1 e2 e3).1, (h.hnd i b v a e1 e2 e3).2.kept hg (h2 v (List.mem_of_getElem? e2))⟩,
    fun i b a k x v e1 e2 e3 e4 => ⟨(h.arg i b a k x v e1 e2 e3 e4).1, h3 a (List.mem_of_getElem? e2) v (List.mem_of_getElem? e4) _ (h.arg i b a k x v e1 e2 e3 e4).2.1, (h.arg i b a k x v e1 e2 e3 e4).2.2⟩, h.dis, h.inr⟩
theorem RArgs.kept {w W : World} {xs : List Int} {v : Value} {row : Option Nat} (h : RArgs w xs v) (hg : w.grownBy W row) (hne : v.ownBlock = none ∨ v.ownBlock ≠ row) : RArgs W xs v := by
  obtain ⟨A, n, c, rfl, ⟨h1, h2, h3⟩, hc⟩ := h
  refine ⟨A, n, c, rfl, ⟨h1, h2, fun k x hk => ?_⟩, hc⟩
  obtain ⟨b, off, cs, rfl, hl, hr, hcell⟩ := h3 k x hk
  exact ⟨b, off, cs, rfl, hl, hr, fun j u hj => hg.cell (hcell j u hj) (by simpa [Value.ownBlock] using hne)⟩
theorem frmCells_len (f : Frm) (v : Value) : (frmCells f v).length = 5 := rfl
theorem blkCells_len (b : Blk) (v : Value) : (blkCells b v).length = 5 := rfl
theorem hdlCells_len (h : Hdl) (v : Value) : (hdlCells h v).length = 2 := rfl
theorem OFr.reads {B : Nat} {w : World} {fs : List Frm} {VF : Value} {rs : List Value} (h : OFr B w fs VF rs) (hn : fs.length ≤ 140737488355328) (hr : ∀ f : Frm, f ∈ fs → f.regs.length ≤ 140737488355328) :
    ∃ A c, VF = .slice A fs.length c ∧ fs.length ≤ c ∧ RSl 5 RFrm w A fs.length fs := by
  obtain ⟨A, c, rfl, hc, _, hcs⟩ := ownsRow_shape h.row
  refine ⟨A, c, rfl, hc, rfl, hn, fun k f hk => ?_⟩
  have hlt : k < fs.length := (List.getElem?_eq_some_iff.1 hk).1
  obtain ⟨v, hv⟩ : ∃ v, rs[k]? = some v := ⟨_, List.getElem?_eq_getElem (by rw [h.len]; exact hlt)⟩
  obtain ⟨b, o, rfl, hcell⟩ := hcs.2 (by omega)
  have hi := h.inr f (List.mem_of_getElem? hk)
  obtain ⟨A2, c2, rfl, hc2, _, hcs2⟩ := ownsRow_shape (h.reg k f v hk hv)
  refine ⟨b, o, _, rfl, frmCells_len f _, ⟨A2, _, c2, rfl, hi.1, hi.2.1, hi.2.2.1, ⟨rfl, hr f (List.mem_of_getElem? hk), fun q x hq => ?_⟩, hc2⟩, fun j u hj => ?_⟩
  · obtain ⟨b2, o2, rfl, hcell2⟩ := hcs2.2 (by have := (List.getElem?_eq_some_iff.1 hq).1; omega)
    refine ⟨b2, o2, [Value.int .i64 x], rfl, rfl, ⟨rfl, hi.2.2.2 x (List.mem_of_getElem? hq)⟩, fun j u hj => ?_⟩
    cases j with
    | zero =>
      simp only [List.getElem?_cons_zero, Option.some.injEq] at hj
      subst hj
      have := hcell2 q (Value.int .i64 x) (by rw [List.getElem?_map, hq]; rfl)
      simpa using this
    | succ j => simp at hj
  · have hj5 : j < 5 := by have := (List.getElem?_eq_some_iff.1 hj).1; simpa [frmCells_len] using this
    have := hcell (k * 5 + j) u (by rw [rowOf_get frmCells_len hk hv hj5]; exact hj)
    rw [Nat.add_assoc]; exact this
theorem OBl.reads {B : Nat} {w : World} {bs : List Blk} {VB : Value} {hs : List Value} {gs : List (List Value)} {rs : List Value} (h : OBl B w bs VB hs gs rs) (hn : bs.length ≤ 140737488355328) (hr : ∀ b : Blk, b ∈ bs → b.handlers.length ≤ 140737488355328) :
    ∃ A c, VB = .slice A bs.length c ∧ bs.length ≤ c ∧ RSl 5 RBlk w A bs.length bs := by
  obtain ⟨A, c, rfl, hc, _, hcs⟩ := ownsRow_shape h.row
  refine ⟨A, c, rfl, hc, rfl, hn, fun k f hk => ?_⟩
  have hlt : k < bs.length := (List.getElem?_eq_some_iff.1 hk).1
  obtain ⟨v, hv⟩ : ∃ v, hs[k]? = some v := ⟨_, List.getElem?_eq_getElem (by rw [h.len]; exact hlt)⟩
  obtain ⟨a, ha⟩ : ∃ a, gs[k]? = some a := ⟨_, List.getElem?_eq_getElem (by rw [h.alen]; exact hlt)⟩
  obtain ⟨b, o, rfl, hcell⟩ := hcs.2 (by omega)
  have hi := h.inr f (List.mem_of_getElem? hk)
  obtain ⟨hal, hown⟩ := h.hnd k f v a hk hv ha
  obtain ⟨A2, c2, rfl, hc2, _, hcs2⟩ := ownsRow_shape hown
  refine ⟨b, o, _, rfl, blkCells_len f _, ⟨A2, _, c2, rfl, hi.1, hi.2.1, hi.2.2.1, hi.2.2.2, ⟨rfl, hr f (List.mem_of_getElem? hk), fun q x hq => ?_⟩, hc2⟩, fun j u hj => ?_⟩
  · have hql : q < f.handlers.length := (List.getElem?_eq_some_iff.1 hq).1
    obtain ⟨g, hg⟩ : ∃ g, a[q]? = some g := ⟨_, List.getElem?_eq_getElem (by omega)⟩
    obtain ⟨b2, o2, rfl, hcell2⟩ := hcs2.2 (by omega)
    obtain ⟨i1, ⟨A3, n3, c3, rfl, hr3, hc3⟩, _⟩ := h.arg k f a q x g hk ha hq hg
    refine ⟨b2, o2, _, rfl, hdlCells_len x (.slice A3 n3 c3), ⟨A3, n3, c3, rfl, i1, hr3, hc3⟩, fun j u hj => ?_⟩
    have hj2 : j < 2 := by have := (List.getElem?_eq_some_iff.1 hj).1; simpa [hdlCells_len] using this
    have := hcell2 (q * 2 + j) u (by rw [rowOf_get hdlCells_len hq hg hj2]; exact hj)
    rw [Nat.add_assoc]; exact this
  · have hj5 : j < 5 := by have := (List.getElem?_eq_some_iff.1 hj).1; simpa [blkCells_len] using this
    have := hcell (k * 5 + j) u (by rw [rowOf_get blkCells_len hk hv hj5]; exact hj)
    rw [Nat.add_assoc]; exact this
theorem rowOf_same {α : Type} {f : α → Value → List Value} : ∀ {xs : List α} {vs : List Value} {i : Nat} {x x' : α} {v : Value}, xs[i]? = some x → vs[i]? = some v → f x' v = f x v → rowOf f (xs.set i x') vs = rowOf f xs vs
  | [], _, i, x, x', v, h, _, _ => by simp at h
  | _ :: _, [], i, x, x', v, _, h, _ => by simp at h
  | y :: xs, z :: vs, 0, x, x', v, h1, h2, he => by
    simp only [List.getElem?_cons_zero, Option.some.injEq] at h1 h2
    subst h1 h2
    simp only [rowOf, List.set_cons_zero, List.zipWith_cons_cons, List.flatten_cons, he]
  | y :: xs, z :: vs, i + 1, x, x', v, h1, h2, he => by
    simp only [List.getElem?_cons_succ] at h1 h2
    have := rowOf_same (xs := xs) (vs := vs) h1 h2 he
    simp only [rowOf, List.set_cons_succ, List.zipWith_cons_cons, List.flatten_cons] at this ⊢
    rw [this]
theorem own_form {w : World} {B : Nat} {e : TypeId} {sz : Nat} {v : Value} {n : Nat} {xs : List Value} (h : w.ownsRow B e sz v n xs) (hn : 0 < n) : ∃ g c, v = .slice (some ⟨g, 0, none⟩) n c ∧ B ≤ g := by
  rcases h.2 with ⟨_, h0⟩ | ⟨g, cap, cur, rfl, hb, _⟩
  · omega
  · exact ⟨g, cap, rfl, hb⟩
theorem OFr.set_reg {B : Nat} {w : World} {fs : List Frm} {VF : Value} {rs : List Value} (h : OFr B w fs VF rs) {i k : Nat} {f : Frm} {v : Value} (hf : fs[i]? = some f) (hv : rs[i]? = some v) (hk : k < f.regs.length) :
    ∃ g c, v = .slice (some ⟨g, 0, none⟩) f.regs.length c ∧ B ≤ g ∧ w.frozen? ⟨g, k, none⟩ = false ∧ (∃ u, w.cell? ⟨g, k, none⟩ = some u) ∧
      ∀ x : Int, InR x → OFr B (w.setCell ⟨g, k, none⟩ (Value.int .i64 x)) (fs.set i { f with regs := f.regs.set k x }) VF rs ∧ w.grownBy (w.setCell ⟨g, k, none⟩ (Value.int .i64 x)) (some g) := by
  obtain ⟨g, c, rfl, hB⟩ := own_form (h.reg i f v hf hv) (by omega)
  have hr := h.reg i f _ hf hv
  refine ⟨g, c, rfl, hB, hr.frozenAt k, ⟨Value.int .i64 f.regs[k], ?_⟩, fun x hx => ?_⟩
  · rw [hr.cellAt k (by omega), List.getElem?_map, List.getElem?_eq_getElem hk]; rfl
  · obtain ⟨hs, hg⟩ := hr.stored k (Value.int .i64 x)
    have hil : i < fs.length := (List.getElem?_eq_some_iff.1 hf).1
    refine ⟨⟨by rw [List.length_set]; exact h.len, ?_, fun j f' v' e1 e2 => ?_, h.dis, fun f' hm => ?_⟩, hg⟩
    · rw [List.length_set, rowOf_same hf hv (by rfl)]
      exact h.row.kept hg (by rcases apart_types h.row hr (by decide) with e | e; exact .inl e; exact .inr e)
    · rw [List.getElem?_set] at e1
      split at e1
      · rename_i hij
        subst hij
        cases e1
        rw [hv] at e2
        cases e2
        simp only [List.length_set, List.map_set]
        exact hs
      · rename_i hij
        exact (h.reg j f' v' e1 e2).kept hg (by rcases h.dis j i v' _ (fun e => hij e.symm) e2 hv with e | e; exact .inl e; exact .inr e)
    · rcases List.mem_or_eq_of_mem_set hm with hm | rfl
      · exact h.inr f' hm
      · have := h.inr f (List.mem_of_getElem? hf)
        refine ⟨this.1, this.2.1, this.2.2.1, fun y hy => ?_⟩
        rcases List.mem_or_eq_of_mem_set hy with hy | rfl
        · exact this.2.2.2 y hy
        · exact hx
theorem OFr.set_pc {B : Nat} {w : World} {fs : List Frm} {VF : Value} {rs : List Value} (h : OFr B w fs VF rs) {i : Nat} {f : Frm} (hf : fs[i]? = some f) :
    ∃ g c, VF = .slice (some ⟨g, 0, none⟩) fs.length c ∧ B ≤ g ∧ w.frozen? ⟨g, i * 5 + 1, none⟩ = false ∧ w.cell? ⟨g, i * 5 + 1, none⟩ = some (Value.int .i64 f.pc) ∧
      ∀ x : Int, InR x → OFr B (w.setCell ⟨g, i * 5 + 1, none⟩ (Value.int .i64 x)) (fs.set i { f with pc := x }) VF rs ∧ w.grownBy (w.setCell ⟨g, i * 5 + 1, none⟩ (Value.int .i64 x)) (some g) := by
  have hil : i < fs.length := (List.getElem?_eq_some_iff.1 hf).1
  obtain ⟨v, hv⟩ : ∃ v, rs[i]? = some v := ⟨_, List.getElem?_eq_getElem (by rw [h.len]; exact hil)⟩
  obtain ⟨g, c, rfl, hB⟩ := own_form h.row (by omega)
  refine ⟨g, c, rfl, hB, h.row.frozenAt _, ?_, fun x hx => ?_⟩
  · rw [h.row.cellAt _ (by omega), rowOf_get frmCells_len hf hv (by omega)]; rfl
  · obtain ⟨hs, hg⟩ := h.row.stored (i * 5 + 1) (Value.int .i64 x)
    refine ⟨⟨by rw [List.length_set]; exact h.len, ?_, fun j f' v' e1 e2 => ?_, h.dis, fun f' hm => ?_⟩, hg⟩
    · rw [List.length_set, ← rowOf_set frmCells_len (j := 1) (u := Value.int .i64 x) hf hv (by omega) (by rfl)]
      exact hs
    · rw [List.getElem?_set] at e1
      split at e1
      · rename_i hij
        subst hij
        cases e1
        exact (h.reg i f v' hf e2).kept hg (by rcases apart_types (h.reg i f v' hf e2) h.row (by decide) with e | e; exact .inl e; exact .inr e)
      · exact (h.reg j f' v' e1 e2).kept hg (by rcases apart_types (h.reg j f' v' e1 e2) h.row (by decide) with e | e; exact .inl e; exact .inr e)
    · rcases List.mem_or_eq_of_mem_set hm with hm | rfl
      · exact h.inr f' hm
      · have := h.inr f (List.mem_of_getElem? hf)
        exact ⟨this.1, hx, this.2.2⟩
end Go.Proofs.YtcjjoabofecjmaaGreat

namespace Go.Proofs.YtcjjoabofecjmaaGreat
open Go.RowKit
def tskV (t : Tsk) (VF VB : Value) : Value := .agg #[Value.int .i64 t.fn, Value.int .i64 t.scope, Value.int .i64 t.prio, Value.int .i64 t.status, Value.int .i64 t.wkind, Value.int .i64 t.windex, .bool t.wagain, VF, VB, Value.int .i64 t.mask, .bool t.unw, Value.int .i64 t.level, Value.int .i64 t.reason, Value.int .i64 t.result]
def inHand (t : Tsk) : Bool := match t.frames.getLast? with | some f => f.cleanup | none => false
set_option maxHeartbeats 1000000 in
theorem innermost_any (a1 a2 a3 a4 a5 a6 a7 a9 a10 a11 a12 a13 a14 : Value) (b off n c : Nat) (w : World) (hn : 0 < n) (hle : n ≤ 140737488355328) :
    Calls Tryz.prog 75 #[.agg #[a1, a2, a3, a4, a5, a6, a7, .slice (some ⟨b, off, none⟩) n c, a9, a10, a11, a12, a13, a14]] w fun e w' => e = .returned (.pointer (some ⟨b, off + (n - 1) * 5, none⟩)) ∧ Ext w w' := by
  have hs : IntKind.i64.wrap ((n : Int) - 1) = ((n - 1 : Nat) : Int) := by rw [IntWalk.i64_in _ (by omega)]; omega
  have hlt : ((n - 1 : Nat) : Int) < (n : Int) := by omega
  have h0 : (0 : Int) ≤ ((n - 1 : Nat) : Int) := by omega
  go_enter Tryz.func75, Tryz.ntmps75
  go_wp2
  go_ret
  exact ⟨rfl, xt⟩
theorem inHand_nil {t : Tsk} (h : t.frames = []) : inHand t = false := by simp [inHand, h]
theorem inHand_last {t : Tsk} {f : Frm} (h : t.frames[t.frames.length - 1]? = some f) : inHand t = f.cleanup := by
  unfold inHand
  rw [List.getLast?_eq_getElem?, h]
set_option maxHeartbeats 1000000 in
theorem handles_any (t : Tsk) (V : Value) (w : World) (hV : RTsk w t V) :
    Calls Tryz.prog 65 #[V] w fun e w' => e = .returned (.bool (inHand t)) ∧ Ext w w' := by
  obtain ⟨Af, nf, cf, Ab, nb, cb, rfl, _, _, _, _, _, _, _, _, _, _, hF, _, _, _⟩ := hV
  have hle := hF.2.1
  have HL := Lib.hid hF.len
  rcases Nat.eq_zero_or_pos nf with h0 | h0
  · subst h0
    have HI : Hid (inHand t = false) := inHand_nil (List.eq_nil_of_length_eq_zero HL.out.symm)
    clear hF
    go_enter Tryz.func65, Tryz.ntmps65
    go_wp2
    go_ret
    exact ⟨ret_bool (by rw [HI.out]), xt⟩
  · obtain ⟨f, hf⟩ : ∃ f, t.frames[nf - 1]? = some f := ⟨_, List.getElem?_eq_getElem (by have := HL.out; omega)⟩
    obtain ⟨b, off, Aa, na, ca, rfl, hlb, _, _, _, _, _, _, _, _, c4⟩ := hF.frm hf
    have HI : Hid (inHand t = f.cleanup) := inHand_last (by rw [← HL.out]; exact hf)
    have hpos : (0 : Int) < (nf : Int) := by omega
    clear hF hf
    go_enter Tryz.func65, Tryz.ntmps65
    go_wp2_with (go_at_call 75; refine (innermost_any _ _ _ _ _ _ _ _ _ _ _ _ _ b off nf cf _ h0 hle).mono ?_; rintro e w1 ⟨rfl, hb⟩; obtain ⟨hc, hf, hs, he⟩ := Ext.use (w := w) hb xt; clear hb; (try simp only [sA, sC, sD, sN] at hs))
    all_goals (go_ret; exact ⟨ret_bool (by rw [HI.out]), xt⟩)
set_option maxHeartbeats 1000000 in
theorem inHandler_any (t : Tsk) (V : Value) (w : World) (hV : RTsk w t V) :
    Calls Tryz.prog 54 #[V] w fun e w' => e = .returned (.bool (inHand t)) ∧ Ext w w' := by
  obtain ⟨Af, nf, cf, Ab, nb, cb, rfl, _, _, _, _, _, _, _, _, _, _, hF, _, _, _⟩ := hV
  have hle := hF.2.1
  have HL := Lib.hid hF.len
  rcases Nat.eq_zero_or_pos nf with h0 | h0
  · subst h0
    have HI : Hid (inHand t = false) := inHand_nil (List.eq_nil_of_length_eq_zero HL.out.symm)
    clear hF
    go_enter Tryz.func54, Tryz.ntmps54
    go_wp2
    go_ret
    exact ⟨ret_bool (by rw [HI.out]), xt⟩
  · obtain ⟨f, hf⟩ : ∃ f, t.frames[nf - 1]? = some f := ⟨_, List.getElem?_eq_getElem (by have := HL.out; omega)⟩
    obtain ⟨b, off, Aa, na, ca, rfl, hlb, _, _, _, _, _, _, _, _, c4⟩ := hF.frm hf
    have HI : Hid (inHand t = f.cleanup) := inHand_last (by rw [← HL.out]; exact hf)
    have hsub : IntKind.i64.wrap ((nf : Int) - 1) = ((nf - 1 : Nat) : Int) := by rw [IntWalk.i64_in _ (by omega)]; omega
    have hlt : ((nf - 1 : Nat) : Int) < (nf : Int) := by omega
    have hge : (0 : Int) ≤ ((nf - 1 : Nat) : Int) := by omega
    have hpos : (0 : Int) < (nf : Int) := by omega
    clear hF hf
    go_enter Tryz.func54, Tryz.ntmps54
    go_wp2
    all_goals (go_ret; exact ⟨ret_bool (by rw [HI.out]), xt⟩)
def plainN (t : Tsk) : Nat := if inHand t then t.frames.length - 1 else t.frames.length
theorem inHand_pos {t : Tsk} (h : inHand t = true) : 0 < t.frames.length := by
  rcases Nat.eq_zero_or_pos t.frames.length with h0 | h0
  · rw [inHand_nil (List.eq_nil_of_length_eq_zero h0)] at h; cases h
  · exact h0
set_option maxHeartbeats 1000000 in
theorem plain_any (t : Tsk) (V : Value) (w : World) (hV : RTsk w t V) :
    Calls Tryz.prog 88 #[V] w fun e w' => e = .returned (.int .i64 (plainN t)) ∧ Ext w w' := by
  have hI := inHandler_any t V
  have hV' := hV
  obtain ⟨Af, nf, cf, Ab, nb, cb, rfl, _, _, _, _, _, _, _, _, _, _, hF, _, _, _⟩ := hV
  have hle := hF.2.1
  have HL := Lib.hid hF.len
  clear hF
  cases hin : inHand t with
  | true =>
    have hpos : 0 < nf := by have := inHand_pos hin; have := HL.out; omega
    have hsub : IntKind.i64.wrap ((nf : Int) - 1) = ((nf - 1 : Nat) : Int) := by rw [IntWalk.i64_in _ (by omega)]; omega
    have HP : Hid (plainN t = nf - 1) := by rw [Hid, plainN, if_pos hin, HL.out]
    rw [hin] at hI
    go_enter Tryz.func88, Tryz.ntmps88
    go_wp2_with (go_at_call 54; refine (hI _ (hV'.mono xt)).mono ?_; rintro e w1 ⟨rfl, hb⟩; obtain ⟨hc, hf, hs, he⟩ := Ext.use (w := w) hb xt; clear hb; (try simp only [sA, sC, sD, sN] at hs))
    go_ret
    exact ⟨ret_int (by rw [HP.out]), xt⟩
  | false =>
    have HP : Hid (plainN t = nf) := by rw [Hid, plainN, if_neg (by rw [hin]; decide), HL.out]
    rw [hin] at hI
    go_enter Tryz.func88, Tryz.ntmps88
    go_wp2_with (go_at_call 54; refine (hI _ (hV'.mono xt)).mono ?_; rintro e w1 ⟨rfl, hb⟩; obtain ⟨hc, hf, hs, he⟩ := Ext.use (w := w) hb xt; clear hb; (try simp only [sA, sC, sD, sN] at hs))
    go_ret
    exact ⟨ret_int (by rw [HP.out]), xt⟩
end Go.Proofs.YtcjjoabofecjmaaGreat

namespace Go.Proofs.YtcjjoabofecjmaaGreat
open Go.RowKit Go.Sort
theorem ext_of_regrown {w w' : World} (h : ∃ p : Regrown, w' = grow (redrawn w p.d) p.os) : Ext w w' := by
  obtain ⟨p, rfl⟩ := h
  exact below_regrown w p.d p.os
theorem cell?_regrown_if (w : World) (d : Nat) (os : Array Obj) (b o : Nat) :
    (grow (redrawn w d) os).cell? ⟨b, o, none⟩ = if b < w.heap.size then w.cell? ⟨b, o, none⟩ else newCell (grow (redrawn w d) os) b o := by
  split
  · exact cell?_grow (redrawn w d) os ⟨b, o, none⟩ ‹_›
  · rfl
theorem frozen?_regrown_if (w : World) (d : Nat) (os : Array Obj) (b o : Nat) :
    (grow (redrawn w d) os).frozen? ⟨b, o, none⟩ = if b < w.heap.size then w.frozen? ⟨b, o, none⟩ else newFrozen (grow (redrawn w d) os) b o := by
  split
  · exact frozen?_grow (redrawn w d) os ⟨b, o, none⟩ ‹_›
  · rfl
theorem size_redrawn (w : World) (d : Nat) : (redrawn w d).heap.size = w.heap.size := rfl
attribute [go_sem] cell?_regrown_if frozen?_regrown_if size_redrawn
theorem quiet_ext {P : Program} {f : FuncId} {args : Array Value} {w : World} {d : Nat} {os : Array Obj} {v : Value}
    (h : Calls P f args (grow (redrawn w d) os) fun e w' => e = .returned v ∧ Ext (grow (redrawn w d) os) w') : Calls P f args (grow (redrawn w d) os) fun e w'' => e = .returned v ∧ ∃ p : Regrown, w'' = grow (redrawn w p.d) p.os :=
  Calls.regrown_of h
theorem quiet_same {P : Program} {f : FuncId} {args : Array Value} {w : World} {d : Nat} {os : Array Obj} {v : Value}
    (h : Calls P f args (grow (redrawn w d) os) fun e w' => e = .returned v ∧ grow (redrawn w d) os = w') : Calls P f args (grow (redrawn w d) os) fun e w'' => e = .returned v ∧ ∃ p : Regrown, w'' = grow (redrawn w p.d) p.os :=
  h.mono fun _ _ ⟨he, hw⟩ => ⟨he, ⟨⟨d, os⟩, hw.symm⟩⟩
section
variable {P : Program} {ops : Array Oper} {C : World → Prop} {l n : Nat}
theorem about_wide (o : Oper) (w : World) (a : Act) : ∀ f, o.about P w a.eval = some f → (Fence.wide.inRound l).fn f := fun _ _ => trivial
theorem wpIn_round_of_quiet {o : Oper} {a : Act} {K : Act → Prop} {K' : Act → World → Prop} {Q' : Exit → Act → World → Prop} {w : World} (hnd : ∀ c, o.op ≠ .defer c) (hw : C w) (h : ∀ a w', C w' → K a → K' a w')
    (hh : o.quiet P a C K) : o.wpIn (Fence.wide.inRound l) n P a w K' Q' := by
  obtain ⟨v, h1, h2⟩ := hh
  have h3 := h1 w hw
  unfold Oper.quietAt at h3
  unfold Oper.wpIn
  refine ⟨about_wide o w a, ?_⟩
  rw [show (Fence.wide.inRound l).round = some l from rfl, Oper.semAt_some l _ _ hnd]
  generalize (execOp a.eval o).run P w = r at *
  cases r with
  | ok x w' =>
    cases x <;> simp only [Oper.quietUpon] at h3 <;> simp only [Oper.uponIn]
    case value u =>
      obtain ⟨e1, e2⟩ := h3
      rw [e1, e2]
      exact h _ _ hw h2
    case skip =>
      obtain ⟨e1, e2⟩ := h3
      rw [e1, ← e2]
      exact h _ _ hw h2
    case enter f args =>
      obtain ⟨e1, hc⟩ := h3
      rw [e1]
      refine ⟨fun hd => by simp [Fence.wide] at hd, ?_⟩
      have hc' : CallsIn Fence.wide (n - 1) P f args w _ := callsIn_wide.2 hc
      exact CallsIn.mono (F := Fence.wide.inRound l) hc' fun e w'' ⟨he, hw''⟩ => by subst he; exact h _ _ hw'' h2
  | halt x w' => simp only [Oper.quietUpon] at h3
theorem wpOpIn_round_of_qOp {i : Nat} {a : Act} {K : Act → Prop} {K' : Act → World → Prop} {Q' : Exit → Act → World → Prop} {w : World} (hnd : ∀ (j : Nat) (o : Oper), ops[j]? = some o → ∀ c, o.op ≠ .defer c) (hC : C w) (h : ∀ a w', C w' → K a → K' a w')
    (hh : qOp P ops C i K a) : wpOpIn (Fence.wide.inRound l) n P ops Q' i K' a w := by
  unfold qOp at hh
  unfold wpOpIn
  split
  · rename_i ho; simp only [ho] at hh; exact h _ _ hC hh
  · rename_i o ho
    simp only [ho] at hh
    split
    · rename_i hw; simp only [hw, if_true] at hh; exact wpIn_round_of_quiet (hnd i o ho) hC h hh
    · rename_i hw; simp only [hw] at hh; exact ⟨about_wide o w a, h _ _ hC hh⟩
theorem wpAnyIn_round_of_quiet {md : Region.Mode} {Q : Act → Prop} {Q' : Exit → Act → World → Prop} (hnd : ∀ (j : Nat) (o : Oper), ops[j]? = some o → ∀ c, o.op ≠ .defer c) (hQ : ∀ a w, C w → Q a → Q' .normal a w) : ∀ (fuel : Nat) (listed : Array Bool) (a : Act) (w : World), C w →
    wpAnyQ P md ops C Q fuel listed a → wpAnyIn (Fence.wide.inRound l) n P md ops Q' fuel listed a w
  | 0, _, _, _, hw, h => ⟨h.1, hQ _ _ hw h.2⟩
  | fuel + 1, _, _, _, hw, h => ⟨fun h0 => hQ _ _ hw (h.1 h0), fun i hi => wpOpIn_round_of_qOp hnd hw (fun a' w' hw' => wpAnyIn_round_of_quiet hnd hQ fuel _ a' w' hw') (h.2 i hi)⟩
def noDefer (ops : Array Oper) : Bool := ops.toList.all fun o => match o.op with | .defer _ => false | _ => true
theorem noDefer_spec (h : noDefer ops = true) (j : Nat) (o : Oper) (ho : ops[j]? = some o) (c : Call) : o.op ≠ .defer c := by
  intro hc
  have := List.all_eq_true.1 h o (Array.mem_toList_iff.2 (Array.mem_of_getElem? ho))
  simp [hc] at this
theorem wpIn_round_quiet {id : Nat} {Q : Exit → Act → World → Prop} {a : Act} {w : World} {ol : List Oper} (hm : P.follows .mixedOrders = true) (hB : Region.lexB .any ol.toArray = true) (hnd : noDefer ol.toArray = true)
    (h : wpQuiet P ol.toArray (fun w' => ∃ p : Regrown, w' = grow (redrawn w p.d) p.os) (fun a' => ∀ w', (∃ p : Regrown, w' = grow (redrawn w p.d) p.os) → Q .normal a' w') ol a) : (Code.region id ol.toArray true).wpIn (Fence.wide.inRound l) n P Q a w := by
  simp only [Region.lexB, Bool.and_eq_true] at hB
  refine wpIn_region_any hm (wpAnyIn_round_of_quiet (C := fun w' => ∃ p : Regrown, w' = grow (redrawn w p.d) p.os) (Q := fun a' => ∀ w', (∃ p : Regrown, w' = grow (redrawn w p.d) p.os) → Q .normal a' w') (noDefer_spec hnd) (fun _ w' hw' h => h w' hw') _ _ _ _
    ⟨⟨w.drawn + 1, #[]⟩, by rw [grow_empty]; rfl⟩ ?_)
  have := wpAnyQ_lex (C := fun w' => ∃ p : Regrown, w' = grow (redrawn w p.d) p.os) (md := .any) hB.1 ol.toArray.toList 0 (Array.replicate ol.toArray.size false) a (by simp) (by simpa using hB.2) (by simpa using h)
  simpa using this
end
end Go.Proofs.YtcjjoabofecjmaaGreat

namespace Go.Proofs.YtcjjoabofecjmaaGreat
open Go.RowKit
def PredOn {α : Type} (P : Program) (g : FuncId) (lb : Array Value) (arg : List Value → Value) (R : World → α → List Value → Prop) (w : World) (xs : List α) (p : α → Bool) : Prop :=
  ∀ (W : World) (k : Nat) (x : α) (cs : List Value), Ext w W → xs[k]? = some x → R w x cs → Calls P g (#[arg cs] ++ lb) W fun e W' => e = .returned (.bool (p x)) ∧ Ext W W'
def idxFrom {α : Type} (p : α → Bool) : List α → Nat → Int
  | [], _ => -1
  | x :: xs, k => if p x then (k : Int) else idxFrom p xs (k + 1)
theorem idxFrom_nonneg {α : Type} (p : α → Bool) : ∀ (xs : List α) (k : Nat), decide (0 ≤ idxFrom p xs k) = xs.any p
  | [], _ => by simp [idxFrom]
  | x :: xs, k => by
    unfold idxFrom
    by_cases h : p x
    · simp [h]
    · simp only [h, Bool.false_eq_true, if_false, List.any_cons, Bool.false_or]
      exact idxFrom_nonneg p xs (k + 1)
theorem drop_cons {α : Type} {xs : List α} {k : Nat} {x : α} (h : xs[k]? = some x) : xs.drop k = x :: xs.drop (k + 1) := by
  obtain ⟨hk, rfl⟩ := List.getElem?_eq_some_iff.1 h
  exact List.drop_eq_getElem_cons hk
set_option maxHeartbeats 1000000 in
theorem indexFuncOb (g : FuncId) (lb : Array Value) (eg : Enters Tryz.prog g) (p : Ob → Bool) (A : Option Addr) (n c : Nat) (xs : List Ob) (w : World)
    (hs : RSl 4 ROb w A n xs) (hp : PredOn Tryz.prog g lb (fun cs => .agg cs.toArray) ROb w xs p) :
    Calls Tryz.prog 150 #[.slice A n c, .func (.func g) #[] lb] w fun e w' => e = .returned (Value.int .i64 (idxFrom p xs 0)) ∧ Ext w w' := by
  have hle := hs.le
  have HL : Hid (n = xs.length) := hs.len
  unfold Enters at eg
  go_enter Tryz.func150, Tryz.ntmps150
  go_wp2
  go_loopg [5, 8] n (fun gg _ s8 wr => ∃ kk : Nat, kk ≤ n ∧ n - kk ≤ gg ∧ s8 = .int .i64 kk ∧ Hid (Ext w wr) ∧ Hid (idxFrom p xs 0 = idxFrom p (xs.drop kk) kk))
  case atStart => exact ⟨0, Nat.zero_le _, by omega, rfl, Ext.refl w, rfl⟩
  case round =>
    obtain ⟨kk, hkk, hg, rfl, HW, HI⟩ := hrel
    have hW := HW.out
    by_cases hlt : kk < n
    · have hltz : (kk : Int) < (n : Int) := by omega
      have hx : ∃ x, xs[kk]? = some x := ⟨_, List.getElem?_eq_getElem (by have := HL.out; omega)⟩
      obtain ⟨x, hx⟩ := hx
      obtain ⟨b, off, rfl, hlb, h1, h2, h3, h4, c0, c1, c2, c3⟩ := hs.ob hx
      have hcall := hp wr kk x [.string x.name, Value.int .i64 x.kind, Value.int .i64 x.size, Value.int .i64 x.other] hW hx ⟨rfl, h1, h2, h3, h4⟩
      replace c0 := hW.cell c0
      replace c1 := hW.cell c1
      replace c2 := hW.cell c2
      replace c3 := hW.cell c3
      clear hlb h1 h2 h3 h4
      have HD : Hid (xs.drop kk = x :: xs.drop (kk + 1)) := drop_cons hx
      clear hx hs hp hW
      cases hq : p x with
      | true =>
        rw [hq] at hcall
        have HQ : Hid (p x = true) := hq
        clear hq
        go_wp2_with (go_at_fn g; refine hcall.mono ?_; rintro e w' ⟨rfl, hb'⟩)
        go_ret
        exact ⟨ret_int (by rw [HI.out, HD.out, idxFrom, if_pos HQ.out]), HW.out.trans hb'⟩
      | false =>
        rw [hq] at hcall
        have HQ : Hid (p x = false) := hq
        clear hq
        go_wp2_with (go_at_fn g; refine hcall.mono ?_; rintro e w' ⟨rfl, hb'⟩)
        go_roundg (n - (kk + 1))
        case measure => omega
        case rel => exact ⟨kk + 1, by omega, by omega, by go_num, HW.out.trans hb', by rw [Hid, HI.out, HD.out, idxFrom, if_neg (by rw [HQ.out]; decide)]⟩
    · have hltz : ¬ (kk : Int) < (n : Int) := by omega
      clear hs hp hW
      go_wp2
      go_ret
      exact ⟨ret_int (by rw [HI.out, List.drop_eq_nil_of_le (by have := HL.out; omega)]; rfl), HW.out⟩
set_option maxHeartbeats 400000 in
theorem containsFuncOb (g : FuncId) (lb : Array Value) (eg : Enters Tryz.prog g) (p : Ob → Bool) (A : Option Addr) (n c : Nat) (xs : List Ob) (w : World)
    (hs : RSl 4 ROb w A n xs) (hp : PredOn Tryz.prog g lb (fun cs => .agg cs.toArray) ROb w xs p) :
    Calls Tryz.prog 108 #[.slice A n c, .func (.func g) #[] lb] w fun e w' => e = .returned (.bool (xs.any p)) ∧ Ext w w' := by
  rw [← idxFrom_nonneg p xs 0]
  go_enter Tryz.func108, Tryz.ntmps108
  go_wp2_with (go_at_call 150; refine (indexFuncOb g lb eg p A n c xs _ hs hp).mono ?_; rintro e w1 ⟨rfl, hb⟩; obtain ⟨hc, hf, hs, he⟩ := Ext.use (w := w) hb xt; clear hb; (try simp only [sA, sC, sD, sN] at hs))
  go_ret
  exact ⟨rfl, xt⟩
set_option maxHeartbeats 1000000 in
theorem indexFuncVr (g : FuncId) (lb : Array Value) (eg : Enters Tryz.prog g) (p : Vr → Bool) (A : Option Addr) (n c : Nat) (xs : List Vr) (w : World)
    (hs : RSl 3 RVr w A n xs) (hp : PredOn Tryz.prog g lb (fun cs => .agg cs.toArray) RVr w xs p) :
    Calls Tryz.prog 151 #[.slice A n c, .func (.func g) #[] lb] w fun e w' => e = .returned (Value.int .i64 (idxFrom p xs 0)) ∧ Ext w w' := by
  have hle := hs.le
  have HL : Hid (n = xs.length) := hs.len
  unfold Enters at eg
  go_enter Tryz.func151, Tryz.ntmps151
  go_wp2
  go_loopg [5, 8] n (fun gg _ s8 wr => ∃ kk : Nat, kk ≤ n ∧ n - kk ≤ gg ∧ s8 = .int .i64 kk ∧ Hid (Ext w wr) ∧ Hid (idxFrom p xs 0 = idxFrom p (xs.drop kk) kk))
  case atStart => exact ⟨0, Nat.zero_le _, by omega, rfl, Ext.refl w, rfl⟩
  case round =>
    obtain ⟨kk, hkk, hg, rfl, HW, HI⟩ := hrel
    have hW := HW.out
    by_cases hlt : kk < n
    · have hltz : (kk : Int) < (n : Int) := by omega
      have hx : ∃ x, xs[kk]? = some x := ⟨_, List.getElem?_eq_getElem (by have := HL.out; omega)⟩
      obtain ⟨x, hx⟩ := hx
      obtain ⟨b, off, rfl, hlb, h1, h2, c0, c1, c2⟩ := hs.vr hx
      have hcall := hp wr kk x [.string x.name, Value.int .i64 x.init, .bool x.atomic] hW hx ⟨rfl, h1, h2⟩
      replace c0 := hW.cell c0
      replace c1 := hW.cell c1
      replace c2 := hW.cell c2
      clear hlb h1 h2
      have HD : Hid (xs.drop kk = x :: xs.drop (kk + 1)) := drop_cons hx
      clear hx hs hp hW
      cases hq : p x with
      | true =>
        rw [hq] at hcall
        have HQ : Hid (p x = true) := hq
        clear hq
        go_wp2_with (go_at_fn g; refine hcall.mono ?_; rintro e w' ⟨rfl, hb'⟩)
        go_ret
        exact ⟨ret_int (by rw [HI.out, HD.out, idxFrom, if_pos HQ.out]), HW.out.trans hb'⟩
      | false =>
        rw [hq] at hcall
        have HQ : Hid (p x = false) := hq
        clear hq
        go_wp2_with (go_at_fn g; refine hcall.mono ?_; rintro e w' ⟨rfl, hb'⟩)
        go_roundg (n - (kk + 1))
        case measure => omega
        case rel => exact ⟨kk + 1, by omega, by omega, by go_num, HW.out.trans hb', by rw [Hid, HI.out, HD.out, idxFrom, if_neg (by rw [HQ.out]; decide)]⟩
    · have hltz : ¬ (kk : Int) < (n : Int) := by omega
      clear hs hp hW
      go_wp2
      go_ret
      exact ⟨ret_int (by rw [HI.out, List.drop_eq_nil_of_le (by have := HL.out; omega)]; rfl), HW.out⟩
set_option maxHeartbeats 400000 in
theorem containsFuncVr (g : FuncId) (lb : Array Value) (eg : Enters Tryz.prog g) (p : Vr → Bool) (A : Option Addr) (n c : Nat) (xs : List Vr) (w : World)
    (hs : RSl 3 RVr w A n xs) (hp : PredOn Tryz.prog g lb (fun cs => .agg cs.toArray) RVr w xs p) :
    Calls Tryz.prog 111 #[.slice A n c, .func (.func g) #[] lb] w fun e w' => e = .returned (.bool (xs.any p)) ∧ Ext w w' := by
  rw [← idxFrom_nonneg p xs 0]
  go_enter Tryz.func111, Tryz.ntmps111
  go_wp2_with (go_at_call 151; refine (indexFuncVr g lb eg p A n c xs _ hs hp).mono ?_; rintro e w1 ⟨rfl, hb⟩; obtain ⟨hc, hf, hs, he⟩ := Ext.use (w := w) hb xt; clear hb; (try simp only [sA, sC, sD, sN] at hs))
  go_ret
  exact ⟨rfl, xt⟩
set_option maxHeartbeats 1000000 in
theorem indexFuncFnc (g : FuncId) (lb : Array Value) (eg : Enters Tryz.prog g) (p : Fnc → Bool) (A : Option Addr) (n c : Nat) (xs : List Fnc) (w : World)
    (hs : RSl 6 RFnc w A n xs) (hp : PredOn Tryz.prog g lb (fun cs => .agg cs.toArray) RFnc w xs p) :
    Calls Tryz.prog 152 #[.slice A n c, .func (.func g) #[] lb] w fun e w' => e = .returned (Value.int .i64 (idxFrom p xs 0)) ∧ Ext w w' := by
  have hle := hs.le
  have HL : Hid (n = xs.length) := hs.len
  unfold Enters at eg
  go_enter Tryz.func152, Tryz.ntmps152
  go_wp2
  go_loopg [5, 8] n (fun gg _ s8 wr => ∃ kk : Nat, kk ≤ n ∧ n - kk ≤ gg ∧ s8 = .int .i64 kk ∧ Hid (Ext w wr) ∧ Hid (idxFrom p xs 0 = idxFrom p (xs.drop kk) kk))
  case atStart => exact ⟨0, Nat.zero_le _, by omega, rfl, Ext.refl w, rfl⟩
  case round =>
    obtain ⟨kk, hkk, hg, rfl, HW, HI⟩ := hrel
    have hW := HW.out
    by_cases hlt : kk < n
    · have hltz : (kk : Int) < (n : Int) := by omega
      have hx : ∃ x, xs[kk]? = some x := ⟨_, List.getElem?_eq_getElem (by have := HL.out; omega)⟩
      obtain ⟨x, hx⟩ := hx
      obtain ⟨b, off, Ac, nc, cc, rfl, hlb, h1, h2, h3, h4, h5, c0, c1, c2, c3, c4, c5⟩ := hs.fnc hx
      have hcall := hp wr kk x [.string x.name, Value.int .i64 x.params, Value.int .i64 x.regs, Value.int .i64 x.prio, .bool x.cleanup, .slice Ac nc cc] hW hx ⟨_, _, _, rfl, h1, h2, h3, h4, h5⟩
      replace c0 := hW.cell c0
      replace c1 := hW.cell c1
      replace c2 := hW.cell c2
      replace c3 := hW.cell c3
      replace c4 := hW.cell c4
      replace c5 := hW.cell c5
      clear hlb h1 h2 h3 h4 h5
      have HD : Hid (xs.drop kk = x :: xs.drop (kk + 1)) := drop_cons hx
      clear hx hs hp hW
      cases hq : p x with
      | true =>
        rw [hq] at hcall
        have HQ : Hid (p x = true) := hq
        clear hq
        go_wp2_with (go_at_fn g; refine hcall.mono ?_; rintro e w' ⟨rfl, hb'⟩)
        go_ret
        exact ⟨ret_int (by rw [HI.out, HD.out, idxFrom, if_pos HQ.out]), HW.out.trans hb'⟩
      | false =>
        rw [hq] at hcall
        have HQ : Hid (p x = false) := hq
        clear hq
        go_wp2_with (go_at_fn g; refine hcall.mono ?_; rintro e w' ⟨rfl, hb'⟩)
        go_roundg (n - (kk + 1))
        case measure => omega
        case rel => exact ⟨kk + 1, by omega, by omega, by go_num, HW.out.trans hb', by rw [Hid, HI.out, HD.out, idxFrom, if_neg (by rw [HQ.out]; decide)]⟩
    · have hltz : ¬ (kk : Int) < (n : Int) := by omega
      clear hs hp hW
      go_wp2
      go_ret
      exact ⟨ret_int (by rw [HI.out, List.drop_eq_nil_of_le (by have := HL.out; omega)]; rfl), HW.out⟩
set_option maxHeartbeats 400000 in
theorem containsFuncFnc (g : FuncId) (lb : Array Value) (eg : Enters Tryz.prog g) (p : Fnc → Bool) (A : Option Addr) (n c : Nat) (xs : List Fnc) (w : World)
    (hs : RSl 6 RFnc w A n xs) (hp : PredOn Tryz.prog g lb (fun cs => .agg cs.toArray) RFnc w xs p) :
    Calls Tryz.prog 113 #[.slice A n c, .func (.func g) #[] lb] w fun e w' => e = .returned (.bool (xs.any p)) ∧ Ext w w' := by
  rw [← idxFrom_nonneg p xs 0]
  go_enter Tryz.func113, Tryz.ntmps113
  go_wp2_with (go_at_call 152; refine (indexFuncFnc g lb eg p A n c xs _ hs hp).mono ?_; rintro e w1 ⟨rfl, hb⟩; obtain ⟨hc, hf, hs, he⟩ := Ext.use (w := w) hb xt; clear hb; (try simp only [sA, sC, sD, sN] at hs))
  go_ret
  exact ⟨rfl, xt⟩
set_option maxHeartbeats 1000000 in
theorem indexFuncHdl (g : FuncId) (lb : Array Value) (eg : Enters Tryz.prog g) (p : Hdl → Bool) (A : Option Addr) (n c : Nat) (xs : List Hdl) (w : World)
    (hs : RSl 2 RHdl w A n xs) (hp : PredOn Tryz.prog g lb (fun cs => .agg cs.toArray) RHdl w xs p) :
    Calls Tryz.prog 156 #[.slice A n c, .func (.func g) #[] lb] w fun e w' => e = .returned (Value.int .i64 (idxFrom p xs 0)) ∧ Ext w w' := by
  have hle := hs.le
  have HL : Hid (n = xs.length) := hs.len
  unfold Enters at eg
  go_enter Tryz.func156, Tryz.ntmps156
  go_wp2
  go_loopg [5, 8] n (fun gg _ s8 wr => ∃ kk : Nat, kk ≤ n ∧ n - kk ≤ gg ∧ s8 = .int .i64 kk ∧ Hid (Ext w wr) ∧ Hid (idxFrom p xs 0 = idxFrom p (xs.drop kk) kk))
  case atStart => exact ⟨0, Nat.zero_le _, by omega, rfl, Ext.refl w, rfl⟩
  case round =>
    obtain ⟨kk, hkk, hg, rfl, HW, HI⟩ := hrel
    have hW := HW.out
    by_cases hlt : kk < n
    · have hltz : (kk : Int) < (n : Int) := by omega
      have hx : ∃ x, xs[kk]? = some x := ⟨_, List.getElem?_eq_getElem (by have := HL.out; omega)⟩
      obtain ⟨x, hx⟩ := hx
      obtain ⟨b, off, Ac, nc, cc, rfl, hlb, h1, h2, c0, c1⟩ := hs.hdl hx
      have hcall := hp wr kk x [Value.int .i64 x.fn, .slice Ac nc cc] hW hx ⟨_, _, _, rfl, h1, h2⟩
      replace c0 := hW.cell c0
      replace c1 := hW.cell c1
      clear hlb h1 h2
      have HD : Hid (xs.drop kk = x :: xs.drop (kk + 1)) := drop_cons hx
      clear hx hs hp hW
      cases hq : p x with
      | true =>
        rw [hq] at hcall
        have HQ : Hid (p x = true) := hq
        clear hq
        go_wp2_with (go_at_fn g; refine hcall.mono ?_; rintro e w' ⟨rfl, hb'⟩)
        go_ret
        exact ⟨ret_int (by rw [HI.out, HD.out, idxFrom, if_pos HQ.out]), HW.out.trans hb'⟩
      | false =>
        rw [hq] at hcall
        have HQ : Hid (p x = false) := hq
        clear hq
        go_wp2_with (go_at_fn g; refine hcall.mono ?_; rintro e w' ⟨rfl, hb'⟩)
        go_roundg (n - (kk + 1))
        case measure => omega
        case rel => exact ⟨kk + 1, by omega, by omega, by go_num, HW.out.trans hb', by rw [Hid, HI.out, HD.out, idxFrom, if_neg (by rw [HQ.out]; decide)]⟩
    · have hltz : ¬ (kk : Int) < (n : Int) := by omega
      clear hs hp hW
      go_wp2
      go_ret
      exact ⟨ret_int (by rw [HI.out, List.drop_eq_nil_of_le (by have := HL.out; omega)]; rfl), HW.out⟩
set_option maxHeartbeats 400000 in
theorem containsFuncHdl (g : FuncId) (lb : Array Value) (eg : Enters Tryz.prog g) (p : Hdl → Bool) (A : Option Addr) (n c : Nat) (xs : List Hdl) (w : World)
    (hs : RSl 2 RHdl w A n xs) (hp : PredOn Tryz.prog g lb (fun cs => .agg cs.toArray) RHdl w xs p) :
    Calls Tryz.prog 116 #[.slice A n c, .func (.func g) #[] lb] w fun e w' => e = .returned (.bool (xs.any p)) ∧ Ext w w' := by
  rw [← idxFrom_nonneg p xs 0]
  go_enter Tryz.func116, Tryz.ntmps116
  go_wp2_with (go_at_call 156; refine (indexFuncHdl g lb eg p A n c xs _ hs hp).mono ?_; rintro e w1 ⟨rfl, hb⟩; obtain ⟨hc, hf, hs, he⟩ := Ext.use (w := w) hb xt; clear hb; (try simp only [sA, sC, sD, sN] at hs))
  go_ret
  exact ⟨rfl, xt⟩
set_option maxHeartbeats 1000000 in
theorem indexFuncInt (g : FuncId) (lb : Array Value) (eg : Enters Tryz.prog g) (p : Int → Bool) (A : Option Addr) (n c : Nat) (xs : List Int) (w : World)
    (hs : RSl 1 RInt w A n xs) (hp : PredOn Tryz.prog g lb (fun cs => cs.headD undef) RInt w xs p) :
    Calls Tryz.prog 89 #[.slice A n c, .func (.func g) #[] lb] w fun e w' => e = .returned (Value.int .i64 (idxFrom p xs 0)) ∧ Ext w w' := by
  have hle := hs.le
  have HL : Hid (n = xs.length) := hs.len
  unfold Enters at eg
  go_enter Tryz.func89, Tryz.ntmps89
  go_wp2
  go_loopg [5, 8] n (fun gg _ s8 wr => ∃ kk : Nat, kk ≤ n ∧ n - kk ≤ gg ∧ s8 = .int .i64 kk ∧ Hid (Ext w wr) ∧ Hid (idxFrom p xs 0 = idxFrom p (xs.drop kk) kk))
  case atStart => exact ⟨0, Nat.zero_le _, by omega, rfl, Ext.refl w, rfl⟩
  case round =>
    obtain ⟨kk, hkk, hg, rfl, HW, HI⟩ := hrel
    have hW := HW.out
    by_cases hlt : kk < n
    · have hltz : (kk : Int) < (n : Int) := by omega
      have hx : ∃ x, xs[kk]? = some x := ⟨_, List.getElem?_eq_getElem (by have := HL.out; omega)⟩
      obtain ⟨x, hx⟩ := hx
      obtain ⟨b, off, rfl, hlb, hin, h0⟩ := hs.int hx
      replace h0 := hW.cell h0
      have hcall := hp wr kk x [Value.int .i64 x] hW hx ⟨rfl, hin⟩
      simp only [List.headD_cons] at hcall
      clear hlb hin
      have HD : Hid (xs.drop kk = x :: xs.drop (kk + 1)) := drop_cons hx
      clear hx hs hp hW
      cases hq : p x with
      | true =>
        rw [hq] at hcall
        have HQ : Hid (p x = true) := hq
        clear hq
        go_wp2_with (go_at_fn g; refine hcall.mono ?_; rintro e w' ⟨rfl, hb'⟩)
        go_ret
        exact ⟨ret_int (by rw [HI.out, HD.out, idxFrom, if_pos HQ.out]), HW.out.trans hb'⟩
      | false =>
        rw [hq] at hcall
        have HQ : Hid (p x = false) := hq
        clear hq
        go_wp2_with (go_at_fn g; refine hcall.mono ?_; rintro e w' ⟨rfl, hb'⟩)
        go_roundg (n - (kk + 1))
        case measure => omega
        case rel => exact ⟨kk + 1, by omega, by omega, by go_num, HW.out.trans hb', by rw [Hid, HI.out, HD.out, idxFrom, if_neg (by rw [HQ.out]; decide)]⟩
    · have hltz : ¬ (kk : Int) < (n : Int) := by omega
      clear hs hp hW
      go_wp2
      go_ret
      exact ⟨ret_int (by rw [HI.out, List.drop_eq_nil_of_le (by have := HL.out; omega)]; rfl), HW.out⟩
set_option maxHeartbeats 400000 in
theorem containsFuncInt (g : FuncId) (lb : Array Value) (eg : Enters Tryz.prog g) (p : Int → Bool) (A : Option Addr) (n c : Nat) (xs : List Int) (w : World)
    (hs : RSl 1 RInt w A n xs) (hp : PredOn Tryz.prog g lb (fun cs => cs.headD undef) RInt w xs p) :
    Calls Tryz.prog 58 #[.slice A n c, .func (.func g) #[] lb] w fun e w' => e = .returned (.bool (xs.any p)) ∧ Ext w w' := by
  rw [← idxFrom_nonneg p xs 0]
  go_enter Tryz.func58, Tryz.ntmps58
  go_wp2_with (go_at_call 89; refine (indexFuncInt g lb eg p A n c xs _ hs hp).mono ?_; rintro e w1 ⟨rfl, hb⟩; obtain ⟨hc, hf, hs, he⟩ := Ext.use (w := w) hb xt; clear hb; (try simp only [sA, sC, sD, sN] at hs))
  go_ret
  exact ⟨rfl, xt⟩
end Go.Proofs.YtcjjoabofecjmaaGreat
