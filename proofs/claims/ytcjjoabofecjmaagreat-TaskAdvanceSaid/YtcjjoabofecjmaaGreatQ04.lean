/- A part of the proof: Tasks that a call owns; Regions that draw their order of eva. -/
import Derived.Test.YtcjjoabofecjmaaGreatQ03
import Derived.OrdersIn
import Derived.TacticsIn
set_option linter.unusedVariables false
set_option linter.unusedSimpArgs false
set_option maxHeartbeats 16000000
namespace Go.Proofs.YtcjjoabofecjmaaGreat
open Go.RowKit
open Go.Value (int)
def frmCells (f : Frm) (v : Value) : List Value := [int .i64 f.fn,int .i64 f.pc,v,int .i64 f.result,.bool f.cleanup]
def blkCells (b : Blk) (v : Value) : List Value := [int .i64 b.scope,int .i64 b.depth,int .i64 b.exit,int .i64 b.mask,v]
def hdlCells (h : Hdl) (v : Value) : List Value := [int .i64 h.fn,v]
def RArgs (w : World) (xs : List Int) (v : Value) : Prop := ∃ A n c,v = .slice A n c ∧ RSl 1 RInt w A n xs ∧ n ≤ c
def rowOf {α : Type} (f : α → Value → List Value) (xs : List α) (vs : List Value) : List Value := (List.zipWith f xs vs).flatten
theorem rowOf_length {α : Type} {f : α → Value → List Value} {k : Nat} (hf : ∀ x v,(f x v).length = k) : ∀ {xs : List α} {vs : List Value},vs.length = xs.length → (rowOf f xs vs).length = xs.length * k
 | [],vs,_ => by simp [rowOf]
 | x :: xs,[],h => by simp at h
 | x :: xs,v :: vs,h => by
  have := rowOf_length hf (xs := xs) (vs := vs) (by simpa using h)
  simp only [rowOf,List.zipWith_cons_cons,List.flatten_cons,List.length_append,hf,List.length_cons,Nat.add_mul] at this ⊢
  omega
theorem rowOf_get {α : Type} {f : α → Value → List Value} {k : Nat} (hf : ∀ x v,(f x v).length = k) : ∀ {xs : List α} {vs : List Value} {i j : Nat} {x : α} {v : Value},xs[i]? = some x → vs[i]? = some v → j < k →
  (rowOf f xs vs)[i * k + j]? = (f x v)[j]?
 | [],_,i,j,x,v,h,_,_ => by simp at h
 | _ :: _,[],i,j,x,v,_,h,_ => by simp at h
 | y :: xs,u :: vs,0,j,x,v,h1,h2,hj => by
  simp only [List.getElem?_cons_zero,Option.some.injEq] at h1 h2
  subst h1 h2
  simp only [rowOf,List.zipWith_cons_cons,List.flatten_cons,Nat.zero_mul,Nat.zero_add]
  rw [List.getElem?_append_left (by rw [hf];exact hj)]
 | y :: xs,u :: vs,i + 1,j,x,v,h1,h2,hj => by
  simp only [List.getElem?_cons_succ] at h1 h2
  have := rowOf_get hf (xs := xs) (vs := vs) (j := j) h1 h2 hj
  simp only [rowOf,List.zipWith_cons_cons,List.flatten_cons] at this ⊢
  rw [List.getElem?_append_right (by rw [hf,Nat.add_mul];omega),hf,← this]
  congr 1
  rw [Nat.add_mul];omega
def Apart (v u : Value) : Prop := v.ownBlock = none ∨ v.ownBlock ≠ u.ownBlock
structure OFr (B : Nat) (w : World) (fs : List Frm) (VF : Value) (rs : List Value) : Prop where
 len : rs.length = fs.length
 row : w.ownsRow B 62 5 VF fs.length (rowOf frmCells fs rs)
 reg : ∀ (i : Nat) (f : Frm) (v : Value),fs[i]? = some f → rs[i]? = some v → w.ownsRow B 3 1 v f.regs.length (f.regs.map (int .i64))
 dis : ∀ (i j : Nat) (v u : Value),i ≠ j → rs[i]? = some v → rs[j]? = some u → Apart v u
 inr : ∀ f : Frm,f ∈ fs → InR f.fn ∧ InR f.pc ∧ InR f.result ∧ ∀ x ∈ f.regs,InR x
structure OBl (B : Nat) (w : World) (bs : List Blk) (VB : Value) (hs : List Value) (gs : List (List Value)) (rs : List Value) : Prop where
 len : hs.length = bs.length
 alen : gs.length = bs.length
 row : w.ownsRow B 55 5 VB bs.length (rowOf blkCells bs hs)
 hnd : ∀ (i : Nat) (b : Blk) (v : Value) (a : List Value),bs[i]? = some b → hs[i]? = some v → gs[i]? = some a → a.length = b.handlers.length ∧ w.ownsRow B 58 2 v b.handlers.length (rowOf hdlCells b.handlers a)
 arg : ∀ (i : Nat) (b : Blk) (a : List Value) (k : Nat) (h : Hdl) (v : Value),bs[i]? = some b → gs[i]? = some a → b.handlers[k]? = some h → a[k]? = some v → InR h.fn ∧ RArgs w h.args v ∧ (h.args = [] ∨ ∀ r ∈ rs,Apart r v)
 dis : ∀ (i j : Nat) (v u : Value),i ≠ j → hs[i]? = some v → hs[j]? = some u → Apart v u
 inr : ∀ b : Blk,b ∈ bs → InR b.scope ∧ InR b.depth ∧ InR b.exit ∧ InR b.mask
theorem RArgs.mono {w W : World} {xs : List Int} {v : Value} (h : RArgs w xs v) (hw : Ext w W) : RArgs W xs v := by
 obtain ⟨A,n,c,h1,h2,h3⟩ := h
 exact ⟨A,n,c,h1,h2.mono RInt.stays hw,h3⟩
theorem ownsRow_ext {w W : World} {B : Nat} {e : TypeId} {sz : Nat} {v : Value} {n : Nat} {xs : List Value} (h : w.ownsRow B e sz v n xs) (hw : Ext w W) : W.ownsRow B e sz v n xs := by
 refine ⟨h.1, ?_⟩
 rcases h.2 with hn | ⟨g,cap,cur,rfl,hb,hg,rest⟩
 ·exact .inl hn
 ·exact .inr ⟨g,cap,cur,rfl,hb,(Below.block hw g (Array.getElem?_eq_some_iff.1 hg).1).trans hg,rest⟩
theorem OFr.mono {B : Nat} {w W : World} {fs : List Frm} {VF : Value} {rs : List Value} (h : OFr B w fs VF rs) (hw : Ext w W) : OFr B W fs VF rs :=
 ⟨h.len,ownsRow_ext h.row hw,fun i f v h1 h2 => ownsRow_ext (h.reg i f v h1 h2) hw,h.dis,h.inr⟩
theorem OBl.mono {B : Nat} {w W : World} {bs : List Blk} {VB : Value} {hs : List Value} {gs : List (List Value)} {rs : List Value} (h : OBl B w bs VB hs gs rs) (hw : Ext w W) : OBl B W bs VB hs gs rs :=
 ⟨h.len,h.alen,ownsRow_ext h.row hw,fun i b v a h1 h2 h3 => ⟨(h.hnd i b v a h1 h2 h3).1,ownsRow_ext (h.hnd i b v a h1 h2 h3).2 hw⟩,
  fun i b a k x v h1 h2 h3 h4 => ⟨(h.arg i b a k x v h1 h2 h3 h4).1,(h.arg i b a k x v h1 h2 h3 h4).2.1.mono hw,(h.arg i b a k x v h1 h2 h3 h4).2.2⟩,h.dis,h.inr⟩
theorem ownsRow_shape {w : World} {B : Nat} {e : TypeId} {sz : Nat} {v : Value} {n : Nat} {xs : List Value} (h : w.ownsRow B e sz v n xs) :
  ∃ A c,v = .slice A n c ∧ n ≤ c ∧ n ≤ maxLen ∧ CSl w A n sz xs := by
 rcases h.2 with ⟨rfl,rfl⟩ | ⟨g,cap,cur,rfl,hb,hg,hnc,hcm,hcs,htake⟩
 ·exact ⟨none,0,rfl,Nat.le_refl _,Nat.zero_le _,h.1,fun h0 => by omega⟩
 ·refine ⟨_,_,rfl,hnc,Nat.le_trans hnc hcm,h.1,fun _ => ⟨g,0,rfl,fun j u hj => ?_⟩⟩
  have := h.cells (g := g) rfl j u hj
  rw [addr_add] at this
  exact this
theorem rowOf_set {α : Type} {f : α → Value → List Value} {k : Nat} (hf : ∀ x v,(f x v).length = k) : ∀ {xs : List α} {vs : List Value} {i j : Nat} {x x' : α} {v u : Value},xs[i]? = some x → vs[i]? = some v → j < k →
  f x' v = (f x v).set j u → (rowOf f xs vs).set (i * k + j) u = rowOf f (xs.set i x') vs
 | [],_,i,j,x,x',v,u,h,_,_,_ => by simp at h
 | _ :: _,[],i,j,x,x',v,u,_,h,_,_ => by simp at h
 | y :: xs,z :: vs,0,j,x,x',v,u,h1,h2,hj,he => by
  simp only [List.getElem?_cons_zero,Option.some.injEq] at h1 h2
  subst h1 h2
  simp only [rowOf,List.zipWith_cons_cons,List.flatten_cons,Nat.zero_mul,Nat.zero_add,List.set_cons_zero]
  rw [he,List.set_append_left _ _ (by rw [hf];exact hj)]
 | y :: xs,z :: vs,i + 1,j,x,x',v,u,h1,h2,hj,he => by
  simp only [List.getElem?_cons_succ] at h1 h2
  have := rowOf_set hf (xs := xs) (vs := vs) (j := j) h1 h2 hj he
  simp only [rowOf,List.zipWith_cons_cons,List.flatten_cons,List.set_cons_succ] at this ⊢
  rw [List.set_append_right _ _ (by rw [hf,Nat.add_mul];omega),hf,← this]
  congr 2
  rw [Nat.add_mul];omega
theorem rowOf_put {α : Type} {f : α → Value → List Value} {k : Nat} (hf : ∀ x v,(f x v).length = k) : ∀ {xs : List α} {vs : List Value} {i j : Nat} {x : α} {v u v' : Value},xs[i]? = some x → vs[i]? = some v → j < k →
  f x v' = (f x v).set j u → (rowOf f xs vs).set (i * k + j) u = rowOf f xs (vs.set i v')
 | [],_,i,j,x,v,u,v',h,_,_,_ => by simp at h
 | _ :: _,[],i,j,x,v,u,v',_,h,_,_ => by simp at h
 | y :: xs,z :: vs,0,j,x,v,u,v',h1,h2,hj,he => by
  simp only [List.getElem?_cons_zero,Option.some.injEq] at h1 h2
  subst h1 h2
  simp only [rowOf,List.zipWith_cons_cons,List.flatten_cons,Nat.zero_mul,Nat.zero_add,List.set_cons_zero]
  rw [he,List.set_append_left _ _ (by rw [hf];exact hj)]
 | y :: xs,z :: vs,i + 1,j,x,v,u,v',h1,h2,hj,he => by
  simp only [List.getElem?_cons_succ] at h1 h2
  have := rowOf_put hf (xs := xs) (vs := vs) (j := j) h1 h2 hj he
  simp only [rowOf,List.zipWith_cons_cons,List.flatten_cons,List.set_cons_succ] at this ⊢
  rw [List.set_append_right _ _ (by rw [hf,Nat.add_mul];omega),hf,← this]
  congr 2
  rw [Nat.add_mul];omega
theorem ownsRow_type {w : World} {B : Nat} {e : TypeId} {sz : Nat} {v : Value} {n : Nat} {xs : List Value} (h : w.ownsRow B e sz v n xs) {g : Nat} (hg : v.ownBlock = some g) : ∃ cur,w.heap[g]? = some (.cells cur e (0,0)) := by
 rcases h.2 with ⟨rfl,_⟩ | ⟨g',cap,cur,rfl,_,hh,_⟩
 ·simp [Value.ownBlock] at hg
 ·simp [Value.ownBlock] at hg;subst hg;exact ⟨cur,hh⟩
theorem apart_types {w : World} {B B' : Nat} {e e' : TypeId} {sz sz' : Nat} {v v' : Value} {n n' : Nat} {xs xs' : List Value} (h : w.ownsRow B e sz v n xs) (h' : w.ownsRow B' e' sz' v' n' xs') (he : e ≠ e') : Apart v v' := by
 unfold Apart
 cases hv : v.ownBlock with
 | none => exact .inl rfl
 | some g =>
  refine .inr fun hh => ?_
  obtain ⟨c1,h1⟩ := ownsRow_type h hv
  obtain ⟨c2,h2⟩ := ownsRow_type h' hh.symm
  rw [h1] at h2
  injection h2 with h2
  injection h2 with _ ht
  exact he ht
theorem Apart.symm {v u : Value} (h : Apart v u) (hv : v.ownBlock ≠ none) : Apart u v := by
 rcases h with h | h
 ·exact absurd h hv
 ·exact .inr (fun e => h e.symm)
theorem OFr.kept {B : Nat} {w W : World} {fs : List Frm} {VF : Value} {rs : List Value} (h : OFr B w fs VF rs) {row : Option Nat} (hg : w.grownBy W row) (h1 : VF.ownBlock = none ∨ VF.ownBlock ≠ row) (h2 : ∀ v ∈ rs,v.ownBlock = none ∨ v.ownBlock ≠ row) : OFr B W fs VF rs :=
 ⟨h.len,h.row.kept hg h1,fun i f v a b => (h.reg i f v a b).kept hg (h2 v (List.mem_of_getElem? b)),h.dis,h.inr⟩
theorem OBl.kept {B : Nat} {w W : World} {bs : List Blk} {VB : Value} {hs : List Value} {gs : List (List Value)} {rs : List Value} (h : OBl B w bs VB hs gs rs) {row : Option Nat} (hg : w.grownBy W row) (h1 : VB.ownBlock = none ∨ VB.ownBlock ≠ row)
  (h2 : ∀ v ∈ hs,v.ownBlock = none ∨ v.ownBlock ≠ row) (h3 : ∀ a ∈ gs,∀ v ∈ a,∀ xs,RArgs w xs v → RArgs W xs v) : OBl B W bs VB hs gs rs :=
 ⟨h.len,h.alen,h.row.kept hg h1,fun i b v a e1 e2 e3 => ⟨(h.hnd i b v a e1 e2 e3).1,(h.hnd i b v a e1 e2 e3).2.kept hg (h2 v (List.mem_of_getElem? e2))⟩,
  fun i b a k x v e1 e2 e3 e4 => ⟨(h.arg i b a k x v e1 e2 e3 e4).1,h3 a (List.mem_of_getElem? e2) v (List.mem_of_getElem? e4) _ (h.arg i b a k x v e1 e2 e3 e4).2.1,(h.arg i b a k x v e1 e2 e3 e4).2.2⟩,h.dis,h.inr⟩
theorem RArgs.kept {w W : World} {xs : List Int} {v : Value} {row : Option Nat} (h : RArgs w xs v) (hg : w.grownBy W row) (hne : v.ownBlock = none ∨ v.ownBlock ≠ row) : RArgs W xs v := by
 obtain ⟨A,n,c,rfl,⟨h1,h2,h3⟩,hc⟩ := h
 refine ⟨A,n,c,rfl,⟨h1,h2,fun k x hk => ?_⟩,hc⟩
 obtain ⟨b,off,cs,rfl,hl,hr,hcell⟩ := h3 k x hk
 exact ⟨b,off,cs,rfl,hl,hr,fun j u hj => hg.cell (hcell j u hj) (by simpa [Value.ownBlock] using hne)⟩
theorem frmCells_len (f : Frm) (v : Value) : (frmCells f v).length = 5 := rfl
theorem blkCells_len (b : Blk) (v : Value) : (blkCells b v).length = 5 := rfl
theorem hdlCells_len (h : Hdl) (v : Value) : (hdlCells h v).length = 2 := rfl
theorem OFr.reads {B : Nat} {w : World} {fs : List Frm} {VF : Value} {rs : List Value} (h : OFr B w fs VF rs) (hn : fs.length ≤ 140737488355328) (hr : ∀ f : Frm,f ∈ fs → f.regs.length ≤ 140737488355328) :
  ∃ A c,VF = .slice A fs.length c ∧ fs.length ≤ c ∧ RSl 5 RFrm w A fs.length fs := by
 obtain ⟨A,c,rfl,hc,_,hcs⟩ := ownsRow_shape h.row
 refine ⟨A,c,rfl,hc,rfl,hn,fun k f hk => ?_⟩
 have hlt : k < fs.length := (List.getElem?_eq_some_iff.1 hk).1
 obtain ⟨v,hv⟩ : ∃ v,rs[k]? = some v := ⟨_,List.getElem?_eq_getElem (by rw [h.len];exact hlt)⟩
 obtain ⟨b,o,rfl,hcell⟩ := hcs.2 (by omega)
 have hi := h.inr f (List.mem_of_getElem? hk)
 obtain ⟨A2,c2,rfl,hc2,_,hcs2⟩ := ownsRow_shape (h.reg k f v hk hv)
 refine ⟨b,o,_,rfl,frmCells_len f _,⟨A2,_,c2,rfl,hi.1,hi.2.1,hi.2.2.1,⟨rfl,hr f (List.mem_of_getElem? hk),fun q x hq => ?_⟩,hc2⟩,fun j u hj => ?_⟩
 ·obtain ⟨b2,o2,rfl,hcell2⟩ := hcs2.2 (by have := (List.getElem?_eq_some_iff.1 hq).1;omega)
  refine ⟨b2,o2,[int .i64 x],rfl,rfl,⟨rfl,hi.2.2.2 x (List.mem_of_getElem? hq)⟩,fun j u hj => ?_⟩
  cases j with
  | zero =>
   simp only [List.getElem?_cons_zero,Option.some.injEq] at hj
   subst hj
   have := hcell2 q (int .i64 x) (by rw [List.getElem?_map,hq];rfl)
   simpa using this
  | succ j => simp at hj
 ·have hj5 : j < 5 := by have := (List.getElem?_eq_some_iff.1 hj).1;simpa [frmCells_len] using this
  have := hcell (k * 5 + j) u (by rw [rowOf_get frmCells_len hk hv hj5];exact hj)
  rw [Nat.add_assoc];exact this
theorem OBl.reads {B : Nat} {w : World} {bs : List Blk} {VB : Value} {hs : List Value} {gs : List (List Value)} {rs : List Value} (h : OBl B w bs VB hs gs rs) (hn : bs.length ≤ 140737488355328) (hr : ∀ b : Blk,b ∈ bs → b.handlers.length ≤ 140737488355328) :
  ∃ A c,VB = .slice A bs.length c ∧ bs.length ≤ c ∧ RSl 5 RBlk w A bs.length bs := by
 obtain ⟨A,c,rfl,hc,_,hcs⟩ := ownsRow_shape h.row
 refine ⟨A,c,rfl,hc,rfl,hn,fun k f hk => ?_⟩
 have hlt : k < bs.length := (List.getElem?_eq_some_iff.1 hk).1
 obtain ⟨v,hv⟩ : ∃ v,hs[k]? = some v := ⟨_,List.getElem?_eq_getElem (by rw [h.len];exact hlt)⟩
 obtain ⟨a,ha⟩ : ∃ a,gs[k]? = some a := ⟨_,List.getElem?_eq_getElem (by rw [h.alen];exact hlt)⟩
 obtain ⟨b,o,rfl,hcell⟩ := hcs.2 (by omega)
 have hi := h.inr f (List.mem_of_getElem? hk)
 obtain ⟨hal,hown⟩ := h.hnd k f v a hk hv ha
 obtain ⟨A2,c2,rfl,hc2,_,hcs2⟩ := ownsRow_shape hown
 refine ⟨b,o,_,rfl,blkCells_len f _,⟨A2,_,c2,rfl,hi.1,hi.2.1,hi.2.2.1,hi.2.2.2,⟨rfl,hr f (List.mem_of_getElem? hk),fun q x hq => ?_⟩,hc2⟩,fun j u hj => ?_⟩
 ·have hql : q < f.handlers.length := (List.getElem?_eq_some_iff.1 hq).1
  obtain ⟨g,hg⟩ : ∃ g,a[q]? = some g := ⟨_,List.getElem?_eq_getElem (by omega)⟩
  obtain ⟨b2,o2,rfl,hcell2⟩ := hcs2.2 (by omega)
  obtain ⟨i1,⟨A3,n3,c3,rfl,hr3,hc3⟩,_⟩ := h.arg k f a q x g hk ha hq hg
  refine ⟨b2,o2,_,rfl,hdlCells_len x (.slice A3 n3 c3),⟨A3,n3,c3,rfl,i1,hr3,hc3⟩,fun j u hj => ?_⟩
  have hj2 : j < 2 := by have := (List.getElem?_eq_some_iff.1 hj).1;simpa [hdlCells_len] using this
  have := hcell2 (q * 2 + j) u (by rw [rowOf_get hdlCells_len hq hg hj2];exact hj)
  rw [Nat.add_assoc];exact this
 ·have hj5 : j < 5 := by have := (List.getElem?_eq_some_iff.1 hj).1;simpa [blkCells_len] using this
  have := hcell (k * 5 + j) u (by rw [rowOf_get blkCells_len hk hv hj5];exact hj)
  rw [Nat.add_assoc];exact this
theorem rowOf_same {α : Type} {f : α → Value → List Value} : ∀ {xs : List α} {vs : List Value} {i : Nat} {x x' : α} {v : Value},xs[i]? = some x → vs[i]? = some v → f x' v = f x v → rowOf f (xs.set i x') vs = rowOf f xs vs
 | [],_,i,x,x',v,h,_,_ => by simp at h
 | _ :: _,[],i,x,x',v,_,h,_ => by simp at h
 | y :: xs,z :: vs,0,x,x',v,h1,h2,he => by
  simp only [List.getElem?_cons_zero,Option.some.injEq] at h1 h2
  subst h1 h2
  simp only [rowOf,List.set_cons_zero,List.zipWith_cons_cons,List.flatten_cons,he]
 | y :: xs,z :: vs,i + 1,x,x',v,h1,h2,he => by
  simp only [List.getElem?_cons_succ] at h1 h2
  have := rowOf_same (xs := xs) (vs := vs) h1 h2 he
  simp only [rowOf,List.set_cons_succ,List.zipWith_cons_cons,List.flatten_cons] at this ⊢
  rw [this]
theorem own_form {w : World} {B : Nat} {e : TypeId} {sz : Nat} {v : Value} {n : Nat} {xs : List Value} (h : w.ownsRow B e sz v n xs) (hn : 0 < n) : ∃ g c,v = .slice (some ⟨g,0,none⟩) n c ∧ B ≤ g := by
 rcases h.2 with ⟨_,h0⟩ | ⟨g,cap,cur,rfl,hb,_⟩
 ·omega
 ·exact ⟨g,cap,rfl,hb⟩
theorem OFr.set_reg {B : Nat} {w : World} {fs : List Frm} {VF : Value} {rs : List Value} (h : OFr B w fs VF rs) {i k : Nat} {f : Frm} {v : Value} (hf : fs[i]? = some f) (hv : rs[i]? = some v) (hk : k < f.regs.length) :
  ∃ g c,v = .slice (some ⟨g,0,none⟩) f.regs.length c ∧ B ≤ g ∧ w.frozen? ⟨g,k,none⟩ = false ∧ (∃ u,w.cell? ⟨g,k,none⟩ = some u) ∧
   ∀ x : Int,InR x → OFr B (w.setCell ⟨g,k,none⟩ (int .i64 x)) (fs.set i { f with regs := f.regs.set k x }) VF rs ∧ w.grownBy (w.setCell ⟨g,k,none⟩ (int .i64 x)) (some g) := by
 obtain ⟨g,c,rfl,hB⟩ := own_form (h.reg i f v hf hv) (by omega)
 have hr := h.reg i f _ hf hv
 refine ⟨g,c,rfl,hB,hr.frozenAt k,⟨int .i64 f.regs[k], ?_⟩,fun x hx => ?_⟩
 ·rw [hr.cellAt k (by omega),List.getElem?_map,List.getElem?_eq_getElem hk];rfl
 ·obtain ⟨hs,hg⟩ := hr.stored k (int .i64 x)
  have hil : i < fs.length := (List.getElem?_eq_some_iff.1 hf).1
  refine ⟨⟨by rw [List.length_set];exact h.len, ?_,fun j f' v' e1 e2 => ?_,h.dis,fun f' hm => ?_⟩,hg⟩
  ·rw [List.length_set,rowOf_same hf hv (by rfl)]
   exact h.row.kept hg (by rcases apart_types h.row hr (by decide) with e | e;exact .inl e;exact .inr e)
  ·rw [List.getElem?_set] at e1
   split at e1
   ·rename_i hij
    subst hij
    cases e1
    rw [hv] at e2
    cases e2
    simp only [List.length_set,List.map_set]
    exact hs
   ·rename_i hij
    exact (h.reg j f' v' e1 e2).kept hg (by rcases h.dis j i v' _ (fun e => hij e.symm) e2 hv with e | e;exact .inl e;exact .inr e)
  ·rcases List.mem_or_eq_of_mem_set hm with hm | rfl
   ·exact h.inr f' hm
   ·have := h.inr f (List.mem_of_getElem? hf)
    refine ⟨this.1,this.2.1,this.2.2.1,fun y hy => ?_⟩
    rcases List.mem_or_eq_of_mem_set hy with hy | rfl
    ·exact this.2.2.2 y hy
    ·exact hx
theorem OFr.set_pc {B : Nat} {w : World} {fs : List Frm} {VF : Value} {rs : List Value} (h : OFr B w fs VF rs) {i : Nat} {f : Frm} (hf : fs[i]? = some f) :
  ∃ g c,VF = .slice (some ⟨g,0,none⟩) fs.length c ∧ B ≤ g ∧ w.frozen? ⟨g,i * 5 + 1,none⟩ = false ∧ w.cell? ⟨g,i * 5 + 1,none⟩ = some (int .i64 f.pc) ∧
   ∀ x : Int,InR x → OFr B (w.setCell ⟨g,i * 5 + 1,none⟩ (int .i64 x)) (fs.set i { f with pc := x }) VF rs ∧ w.grownBy (w.setCell ⟨g,i * 5 + 1,none⟩ (int .i64 x)) (some g) := by
 have hil : i < fs.length := (List.getElem?_eq_some_iff.1 hf).1
 obtain ⟨v,hv⟩ : ∃ v,rs[i]? = some v := ⟨_,List.getElem?_eq_getElem (by rw [h.len];exact hil)⟩
 obtain ⟨g,c,rfl,hB⟩ := own_form h.row (by omega)
 refine ⟨g,c,rfl,hB,h.row.frozenAt _, ?_,fun x hx => ?_⟩
 ·rw [h.row.cellAt _ (by omega),rowOf_get frmCells_len hf hv (by omega)];rfl
 ·obtain ⟨hs,hg⟩ := h.row.stored (i * 5 + 1) (int .i64 x)
  refine ⟨⟨by rw [List.length_set];exact h.len, ?_,fun j f' v' e1 e2 => ?_,h.dis,fun f' hm => ?_⟩,hg⟩
  ·rw [List.length_set,← rowOf_set frmCells_len (j := 1) (u := int .i64 x) hf hv (by omega) (by rfl)]
   exact hs
  ·rw [List.getElem?_set] at e1
   split at e1
   ·rename_i hij
    subst hij
    cases e1
    exact (h.reg i f v' hf e2).kept hg (by rcases apart_types (h.reg i f v' hf e2) h.row (by decide) with e | e;exact .inl e;exact .inr e)
   ·exact (h.reg j f' v' e1 e2).kept hg (by rcases apart_types (h.reg j f' v' e1 e2) h.row (by decide) with e | e;exact .inl e;exact .inr e)
  ·rcases List.mem_or_eq_of_mem_set hm with hm | rfl
   ·exact h.inr f' hm
   ·have := h.inr f (List.mem_of_getElem? hf)
    exact ⟨this.1,hx,this.2.2⟩
end Go.Proofs.YtcjjoabofecjmaaGreat
namespace Go.Proofs.YtcjjoabofecjmaaGreat
open Go.RowKit Go.Sort
open Go.Value (int)
theorem ext_of_regrown {w w' : World} (h : ∃ p : Regrown,w' = grow (redrawn w p.d) p.os) : Ext w w' := by
 obtain ⟨p,rfl⟩ := h
 exact below_regrown w p.d p.os
theorem eu {w W W' : World} (h : ∃ p : Regrown,W' = grow (redrawn W p.d) p.os) (hw : Ext w W) :
  (∀ b o,W'.cell? ⟨b,o,none⟩ = if b < W.heap.size then W.cell? ⟨b,o,none⟩ else newCell W' b o) ∧
  (∀ b o,W'.frozen? ⟨b,o,none⟩ = if b < W.heap.size then W.frozen? ⟨b,o,none⟩ else newFrozen W' b o) ∧ W.heap.size ≤ W'.heap.size ∧ Ext w W' := Ext.use (w := w) (ext_of_regrown h) hw
theorem cell?_regrown_if (w : World) (d : Nat) (os : Array Obj) (b o : Nat) :
  (grow (redrawn w d) os).cell? ⟨b,o,none⟩ = if b < w.heap.size then w.cell? ⟨b,o,none⟩ else newCell (grow (redrawn w d) os) b o := by
 split
 ·exact cell?_grow (redrawn w d) os ⟨b,o,none⟩ ‹_›
 ·rfl
theorem frozen?_regrown_if (w : World) (d : Nat) (os : Array Obj) (b o : Nat) :
  (grow (redrawn w d) os).frozen? ⟨b,o,none⟩ = if b < w.heap.size then w.frozen? ⟨b,o,none⟩ else newFrozen (grow (redrawn w d) os) b o := by
 split
 ·exact frozen?_grow (redrawn w d) os ⟨b,o,none⟩ ‹_›
 ·rfl
theorem size_redrawn (w : World) (d : Nat) : (redrawn w d).heap.size = w.heap.size := rfl
attribute [go_sem] cell?_regrown_if frozen?_regrown_if size_redrawn
theorem quiet_ext {P : Program} {f : FuncId} {args : Array Value} {w : World} {d : Nat} {os : Array Obj} {v : Value}
  (h : Calls P f args (grow (redrawn w d) os) fun e w' => e = .returned v ∧ Ext (grow (redrawn w d) os) w') : Calls P f args (grow (redrawn w d) os) fun e w'' => e = .returned v ∧ ∃ p : Regrown,w'' = grow (redrawn w p.d) p.os :=
 Calls.regrown_of h
theorem quiet_same {P : Program} {f : FuncId} {args : Array Value} {w : World} {d : Nat} {os : Array Obj} {v : Value}
  (h : Calls P f args (grow (redrawn w d) os) fun e w' => e = .returned v ∧ grow (redrawn w d) os = w') : Calls P f args (grow (redrawn w d) os) fun e w'' => e = .returned v ∧ ∃ p : Regrown,w'' = grow (redrawn w p.d) p.os :=
 h.mono fun _ _ ⟨he,hw⟩ => ⟨he,⟨⟨d,os⟩,hw.symm⟩⟩
section
variable {P : Program} {ops : Array Oper} {C : World → Prop} {l n : Nat}
theorem about_wide (o : Oper) (w : World) (a : Act) : ∀ f,o.about P w a.eval = some f → (Fence.wide.inRound l).fn f := fun _ _ => trivial
theorem wpIn_round_of_quiet {o : Oper} {a : Act} {K : Act → Prop} {K' : Act → World → Prop} {Q' : Exit → Act → World → Prop} {w : World} (hnd : ∀ c,o.op ≠ .defer c) (hw : C w) (h : ∀ a w',C w' → K a → K' a w')
  (hh : o.quiet P a C K) : o.wpIn (Fence.wide.inRound l) n P a w K' Q' := by
 obtain ⟨v,h1,h2⟩ := hh
 have h3 := h1 w hw
 unfold Oper.quietAt at h3
 unfold Oper.wpIn
 refine ⟨about_wide o w a, ?_⟩
 rw [show (Fence.wide.inRound l).round = some l from rfl,Oper.semAt_some l _ _ hnd]
 generalize (execOp a.eval o).run P w = r at *
 cases r with
 | ok x w' =>
  cases x <;> simp only [Oper.quietUpon] at h3 <;> simp only [Oper.uponIn]
  case value u =>
   obtain ⟨e1,e2⟩ := h3
   rw [e1,e2]
   exact h _ _ hw h2
  case skip =>
   obtain ⟨e1,e2⟩ := h3
   rw [e1,← e2]
   exact h _ _ hw h2
  case enter f args =>
   obtain ⟨e1,hc⟩ := h3
   rw [e1]
   refine ⟨fun hd => by simp [Fence.wide] at hd, ?_⟩
   have hc' : CallsIn Fence.wide (n - 1) P f args w _ := callsIn_wide.2 hc
   exact CallsIn.mono (F := Fence.wide.inRound l) hc' fun e w'' ⟨he,hw''⟩ => by subst he;exact h _ _ hw'' h2
 | halt x w' => simp only [Oper.quietUpon] at h3
theorem wpOpIn_round_of_qOp {i : Nat} {a : Act} {K : Act → Prop} {K' : Act → World → Prop} {Q' : Exit → Act → World → Prop} {w : World} (hnd : ∀ (j : Nat) (o : Oper),ops[j]? = some o → ∀ c,o.op ≠ .defer c) (hC : C w) (h : ∀ a w',C w' → K a → K' a w')
  (hh : qOp P ops C i K a) : wpOpIn (Fence.wide.inRound l) n P ops Q' i K' a w := by
 unfold qOp at hh
 unfold wpOpIn
 split
 ·rename_i ho;simp only [ho] at hh;exact h _ _ hC hh
 ·rename_i o ho
  simp only [ho] at hh
  split
  ·rename_i hw;simp only [hw,if_true] at hh;exact wpIn_round_of_quiet (hnd i o ho) hC h hh
  ·rename_i hw;simp only [hw] at hh;exact ⟨about_wide o w a,h _ _ hC hh⟩
theorem wpAnyIn_round_of_quiet {md : Region.Mode} {Q : Act → Prop} {Q' : Exit → Act → World → Prop} (hnd : ∀ (j : Nat) (o : Oper),ops[j]? = some o → ∀ c,o.op ≠ .defer c) (hQ : ∀ a w,C w → Q a → Q' .normal a w) : ∀ (fuel : Nat) (listed : Array Bool) (a : Act) (w : World),C w →
  wpAnyQ P md ops C Q fuel listed a → wpAnyIn (Fence.wide.inRound l) n P md ops Q' fuel listed a w
 | 0,_,_,_,hw,h => ⟨h.1,hQ _ _ hw h.2⟩
 | fuel + 1,_,_,_,hw,h => ⟨fun h0 => hQ _ _ hw (h.1 h0),fun i hi => wpOpIn_round_of_qOp hnd hw (fun a' w' hw' => wpAnyIn_round_of_quiet hnd hQ fuel _ a' w' hw') (h.2 i hi)⟩
def noDefer (ops : Array Oper) : Bool := ops.toList.all fun o => match o.op with | .defer _ => false | _ => true
theorem noDefer_spec (h : noDefer ops = true) (j : Nat) (o : Oper) (ho : ops[j]? = some o) (c : Call) : o.op ≠ .defer c := by
 intro hc
 have := List.all_eq_true.1 h o (Array.mem_toList_iff.2 (Array.mem_of_getElem? ho))
 simp [hc] at this
theorem wpIn_round_quiet {id : Nat} {Q : Exit → Act → World → Prop} {a : Act} {w : World} {ol : List Oper} (hm : P.follows .mixedOrders = true) (hB : Region.lexB .any ol.toArray = true) (hnd : noDefer ol.toArray = true)
  (h : wpQuiet P ol.toArray (fun w' => ∃ p : Regrown,w' = grow (redrawn w p.d) p.os) (fun a' => ∀ w',(∃ p : Regrown,w' = grow (redrawn w p.d) p.os) → Q .normal a' w') ol a) : (Code.region id ol.toArray true).wpIn (Fence.wide.inRound l) n P Q a w := by
 simp only [Region.lexB,Bool.and_eq_true] at hB
 refine wpIn_region_any hm (wpAnyIn_round_of_quiet (C := fun w' => ∃ p : Regrown,w' = grow (redrawn w p.d) p.os) (Q := fun a' => ∀ w',(∃ p : Regrown,w' = grow (redrawn w p.d) p.os) → Q .normal a' w') (noDefer_spec hnd) (fun _ w' hw' h => h w' hw') _ _ _ _
  ⟨⟨w.drawn + 1,#[]⟩,by rw [grow_empty];rfl⟩ ?_)
 have := wpAnyQ_lex (C := fun w' => ∃ p : Regrown,w' = grow (redrawn w p.d) p.os) (md := .any) hB.1 ol.toArray.toList 0 (Array.replicate ol.toArray.size false) a (by simp) (by simpa using hB.2) (by simpa using h)
 simpa using this
end
end Go.Proofs.YtcjjoabofecjmaaGreat

