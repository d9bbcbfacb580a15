/- A part of the proof: One element more at the end of rows that a call owns (nurser. -/
import Derived.Test.YtcjjoabofecjmaaQ15
set_option linter.unusedVariables false
set_option linter.unusedSimpArgs false
set_option maxHeartbeats 16000000
namespace Go.Proofs.Ytcjjoabofecjmaa
open Go.RowKit
open Go.Value (int)
theorem rowOf_snoc {α : Type} {f : α → Value → List Value} : ∀ {xs : List α} {vs : List Value} {x : α} {v : Value},vs.length = xs.length → rowOf f (xs ++ [x]) (vs ++ [v]) = rowOf f xs vs ++ f x v
 | [],[],x,v,_ => by simp [rowOf]
 | [],_ :: _,x,v,h => by simp at h
 | _ :: _,[],x,v,h => by simp at h
 | y :: xs,u :: vs,x,v,h => by
  have := rowOf_snoc (f := f) (xs := xs) (vs := vs) (x := x) (v := v) (by simpa using h)
  simp only [rowOf,List.cons_append,List.zipWith_cons_cons,List.flatten_cons,List.append_assoc] at this ⊢
  rw [this]
theorem Cp.push {α : Type} {fc : α → Value → List Value} {e e2 : TypeId} {sz2 : Nat} {cn : Nat → Nat} {cc : Nat → List Value} (hee : e2 ≠ e)
  {B : Nat} {w W W1 : World} {fs : List α} {VF VF' : Value} {rs : List Value} {f : α} {v : Value} (h : Cp fc e e2 sz2 cn cc B w fs VF rs rs fs.length) (hE : Ext w W) (hB : B ≤ w.heap.size)
  (hv : W.ownsRow w.heap.size e2 sz2 v (cn fs.length) (cc fs.length)) (hap : W1.ownsRow B e 5 VF' (fs.length + 1) (rowOf fc fs rs ++ fc f v)) (hg : W.grownBy W1 VF.ownBlock) :
  Cp fc e e2 sz2 cn cc B W1 (fs ++ [f]) VF' (rs ++ [v]) (rs ++ [v]) (fs ++ [f]).length := by
 have h' := h.mono hE
 have hl : (fs ++ [f]).length = fs.length + 1 := by simp
 have hvB : ∀ x,v.ownBlock = some x → w.heap.size ≤ x := fun x hx => (hv.lt x hx).1
 have hlow : ∀ (i : Nat) (u : Value),i < fs.length → rs[i]? = some u → ∀ x,u.ownBlock = some x → x < w.heap.size := fun i u hi e x hx => ((h.reg i u hi e).lt x hx).2
 have hlast : ∀ (i : Nat) (u : Value),(rs ++ [v])[i]? = some u → (i < fs.length ∧ rs[i]? = some u) ∨ (i = fs.length ∧ u = v) := fun i u hu => by
  rw [List.getElem?_append] at hu
  split at hu
  ·exact .inl ⟨by rw [← h.len];assumption,hu⟩
  ·rename_i hn
   have hz : i - rs.length = 0 := by
    rcases Nat.eq_zero_or_pos (i - rs.length) with h0 | h0
    ·exact h0
    ·rw [List.getElem?_eq_none (by simp;omega)] at hu;cases hu
   rw [hz] at hu
   simp only [List.getElem?_cons_zero,Option.some.injEq] at hu
   exact .inr ⟨by rw [← h.len];omega,hu.symm⟩
 refine ⟨by simp [h.len], ?_,fun _ _ => rfl,fun i u hi hu => ?_,fun i j u1 u2 hi hj hij e1 e2 => ?_⟩
 ·rw [rowOf_snoc h.len,hl];exact hap
 ·rcases hlast i u hu with ⟨h1,h2⟩ | ⟨rfl,rfl⟩
  ·exact (h'.reg i u h1 h2).kept hg (by rcases apart_types (h'.reg i u h1 h2) h'.row hee with e | e;exact .inl e;exact .inr e)
  ·exact World.ownsRow.mono (hv.kept hg (by rcases apart_types hv h'.row hee with e | e;exact .inl e;exact .inr e)) hB
 ·rcases hlast i u1 e1 with ⟨a1,a2⟩ | ⟨rfl,rfl⟩ <;> rcases hlast j u2 e2 with ⟨b1,b2⟩ | ⟨rfl,rfl⟩
  ·exact h.dis i j u1 u2 a1 b1 hij a2 b2
  ·unfold Apart
   cases hx : u1.ownBlock with
   | none => exact .inl rfl
   | some x => exact .inr (fun e => by have := hvB x e.symm;have := hlow i u1 a1 a2 x hx;omega)
  ·unfold Apart
   cases hx : u1.ownBlock with
   | none => exact .inl rfl
   | some x => exact .inr (fun e => by have := hvB x hx;have := hlow j u2 b1 b2 x e.symm;omega)
  ·omega
end Go.Proofs.Ytcjjoabofecjmaa

