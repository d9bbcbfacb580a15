/- A part of the proof: A region that draws its order, whose first operations read, . -/
import Derived.Test.YtcjjoabofecjmaaQ09
set_option linter.unusedVariables false
set_option linter.unusedSimpArgs false
set_option maxHeartbeats 16000000
namespace Go.Proofs.Ytcjjoabofecjmaa
open Go.RowKit Go.Sort
open Go.Value (int)
section
variable {P : Program} {ops : Array Oper} {md : Region.Mode} {Q : Exit → Act → World → Prop} {S : World → Prop}
def anyTH (P : Program) (md : Region.Mode) (ops : Array Oper) (Q : Exit → Act → World → Prop) (S : World → Prop) (n : Nat) (L : Array Bool → Act → World → Prop) : Nat → Array Bool → Act → World → Prop
 | 0,listed,a,w => L listed a w
 | f + 1,listed,a,w => Region.ready md ops listed ≠ [] ∧ ∀ i ∈ Region.ready md ops listed,i < n ∧ wpOp P ops Q i (fun a' w' => S w' ∧ anyTH P md ops Q S n L f (listed.setIfInBounds i true) a' w') a w
theorem any_of_th {n g : Nat} {L : Array Bool → Act → World → Prop} (hL : ∀ listed a w,L listed a w → wpAny P md ops Q g listed a w) :
  ∀ (f : Nat) (listed : Array Bool) (a : Act) (w : World),anyTH P md ops Q S n L f listed a w → wpAny P md ops Q (f + g) listed a w
 | 0,listed,a,w,h => by rw [Nat.zero_add];exact hL _ _ _ h
 | f + 1,listed,a,w,h => by
  rw [show f + 1 + g = (f + g) + 1 by omega]
  exact ⟨fun h0 => absurd h0 h.1,fun i hi => wpOp_mono (fun a' w' h' => any_of_th hL f _ a' w' h'.2) (h.2 i hi).2⟩
theorem anyTH_first {n i : Nat} {oi : Oper} {v : Value} {L : Array Bool → Act → World → Prop} (hi : ops[i]? = some oi) (hsel : ∀ (j : Nat) (o : Oper) cs b,ops[j]? = some o → o.op ≠ .select cs b)
  (hQ : ∀ c a w,Q (.panic c) (a.put oi.dst v) w → Q (.panic c) a w)
  (hs : Region.sinkB md ops n = true) (hc : Region.chainB md ops n = true) (hn : n < ops.size) (hin : i < n) (hL : ∀ listed a w,L listed a w → ∀ j ∈ Region.ready md ops listed,n ≤ j) :
  ∀ (f : Nat) (listed : Array Bool) (a : Act) (w : World),HeadInv md ops n listed →
   (∀ j oj,ops[j]? = some oj → j ≠ i → listed.getD j true = false → (∀ e ∈ oj.after,Region.binds md e = true → e.on ≠ i) → oi.apart ops oj = true) →
   i ∈ Region.ready md ops listed → YieldsIf P ops S oi v a → S w →
   anyTH P md ops Q S n L f (listed.setIfInBounds i true) (a.put oi.dst v) w → anyTH P md ops Q S n L (f + 1) listed a w := by
 intro f
 induction f with
 | zero =>
  intro listed a w inv _ hr hy hS H
  have hun := (mem_ready.1 hr).1
  refine ⟨fun h => (by rw [h] at hr;cases hr),fun j hj => ?_⟩
  have hjn : j < n := by
   rcases Nat.lt_or_ge j n with h | h
   ·exact h
   ·exact absurd hj (tail_waits hs hc hn inv _ i rfl hin hun j h)
  refine ⟨hjn, ?_⟩
  by_cases hji : j = i
  ·subst hji;exact hy.wpOp hi hS ⟨hS,H⟩
  ·have := hL _ _ _ H j (ready_mono hj hji)
   omega
 | succ f ih =>
  intro listed a w inv hfree hr hy hS H
  have hun := (mem_ready.1 hr).1
  refine ⟨fun h => (by rw [h] at hr;cases hr),fun j hj => ?_⟩
  have hjn : j < n := by
   rcases Nat.lt_or_ge j n with h | h
   ·exact h
   ·exact absurd hj (tail_waits hs hc hn inv _ i rfl hin hun j h)
  refine ⟨hjn, ?_⟩
  by_cases hji : j = i
  ·subst hji;exact hy.wpOp hi hS ⟨hS,H⟩
  ·have h1 := (H.2 j (ready_mono hj hji)).2
   obtain ⟨hjun,oj,hoj,hall⟩ := mem_ready.1 hj
   have hnot : ∀ e ∈ oj.after,Region.binds md e = true → e.on ≠ i := fun e he hb heq => by
    have h1 := hall e he hb
    rw [heq,getD_both hun] at h1
    cases h1
   have h2 := wpOp_putIf hoj (hfree j oj hoj hji hjun hnot) (fun cs b => hsel i oi cs b hi) (fun cs b => hsel j oj cs b hoj) hQ hy h1
   have hfree' : ∀ k ok,ops[k]? = some ok → k ≠ i → (listed.setIfInBounds j true).getD k true = false →
     (∀ e ∈ ok.after,Region.binds md e = true → e.on ≠ i) → oi.apart ops ok = true := fun k ok hk hki hun hno => by
    refine hfree k ok hk hki ?_ hno
    by_cases hjk : j = k
    ·subst hjk;exact hjun
    ·rw [getD_set_ne true hjk] at hun;exact hun
   refine wpOp_mono (fun a' w' h3 => ⟨h3.2.1,ih (listed.setIfInBounds j true) a' w' (inv.set hj hjn) hfree' (ready_mono hr (Ne.symm hji)) h3.1 h3.2.1 ?_⟩) h2
   rw [Array.setIfInBounds_comm _ _ hji]
   exact h3.2.2
def TailL (P : Program) (md : Region.Mode) (ops : Array Oper) (Q : Exit → Act → World → Prop) (l : List Oper) (g n : Nat) (listed : Array Bool) (a : Act) (w : World) : Prop := Region.seqB md ops g n listed = true ∧ wpList P ops Q l a w
def THeld (P : Program) (ops : Array Oper) (Q : Exit → Act → World → Prop) (S : World → Prop) (l : List Oper) (g n f : Nat) (listed : Array Bool) (a : Act) (w : World) : Prop := HeadInv .any ops n listed → anyTH P .any ops Q S n (TailL P .any ops Q l g n) f listed a w
structure TOk (ops : Array Oper) (n : Nat) : Prop where
 sel : Region.noSelect ops = true
 sink : Region.sinkB .any ops n = true
 chain : Region.chainB .any ops n = true
 lt : n < ops.size
theorem th_take {n g f i : Nat} {oi : Oper} {v : Value} {l : List Oper} {listed : Array Bool} {a : Act} {w : World} (T : TOk ops n) (hi : ops[i]? = some oi) (hin : i < n) (hf : Region.free .any ops listed i = true) (hr : (Region.ready .any ops listed).contains i = true)
  (hQ : ∀ c a w,Q (.panic c) (a.put oi.dst v) w → Q (.panic c) a w) (hy : YieldsIf P ops S oi v a) (hS : S w)
  (h : THeld P ops Q S l g n f (listed.setIfInBounds i true) (a.put oi.dst v) w) : THeld P ops Q S l g n (f + 1) listed a w := fun inv =>
 anyTH_first hi (Region.noSelect_spec T.sel) hQ T.sink T.chain T.lt hin (fun _ _ _ hL => seqB_ready hL.1) f listed a w inv (Region.free_spec hi hf) (by simpa using hr) hy hS (h (inv.set (by simpa using hr) hin))
theorem th_step {n g f i : Nat} {oi : Oper} {l : List Oper} {listed : Array Bool} {a : Act} {w : World} (hi : ops[i]? = some oi) (hin : i < n) (hr : Region.ready .any ops listed = [i])
  (h : ∀ K' : Act → World → Prop,Shut (∀ a w,S w → (S w → THeld P ops Q S l g n f (listed.setIfInBounds i true) a w) → K' a w) → if Region.wanted oi (yielded ops a.tmps) = true then Oper.wp P oi a w K' Q else K' (a.put oi.dst undef) w) : THeld P ops Q S l g n (f + 1) listed a w := fun inv => by
 refine ⟨by rw [hr];simp,fun j hj => ?_⟩
 rw [hr] at hj
 have : j = i := by simpa using hj
 subst this
 refine ⟨hin, ?_⟩
 have h1 := h (fun a' w' => S w' ∧ anyTH P .any ops Q S n (TailL P .any ops Q l g n) f (listed.setIfInBounds j true) a' w') (fun a' w' hS hh => ⟨hS,hh hS (inv.set (by rw [hr];simp) hin)⟩)
 unfold wpOp
 simp only [hi]
 split
 ·rename_i hw;rw [if_pos hw] at h1;exact .inl h1
 ·rename_i hw;rw [if_neg hw] at h1;exact h1
theorem tht (i : Nat) {n g f : Nat} {oi : Oper} {v : Value} {l : List Oper} {listed : Array Bool} {a : Act} {w : World} (T : TOk ops n)
  (h : THeld P ops Q S l g n f (listed.setIfInBounds i true) (a.put oi.dst v) w)
  (hin : i < n := by decide) (hf : Region.free .any ops listed i = true := by kernel_rfl) (hr : (Region.ready .any ops listed).contains i = true := by kernel_rfl) (hS : S w := by assumption)
  (hi : ops[i]? = some oi := by (simp only [List.getElem?_toArray,List.getElem?_cons_zero,List.getElem?_cons_succ];rfl))
  (hw : Region.wanted oi (yielded ops a.tmps) = true := by exact rfl) (hy : ∀ w,S w → (execOp a.eval oi).run P w = .ok (.value v) w := by (intro w hSw;(try dsimp only at hSw);go_simp) <;> (with_reducible rfl))
  (hQ : ∀ c a w,Q (.panic c) (a.put oi.dst v) w → Q (.panic c) a w := by exact fun _ _ _ h => h) : THeld P ops Q S l g n (f + 1) listed a w :=
 th_take T hi hin hf hr hQ (.inl ⟨hw,hy⟩) hS h
theorem tst (i : Nat) {n g f : Nat} {oi : Oper} {l : List Oper} {listed : Array Bool} {a : Act} {w : World}
  (h : ∀ K' : Act → World → Prop,Shut (∀ a w,S w → (S w → THeld P ops Q S l g n f (listed.setIfInBounds i true) a w) → K' a w) → if Region.wanted oi (yielded ops a.tmps) = true then Oper.wp P oi a w K' Q else K' (a.put oi.dst undef) w)
  (hin : i < n := by decide) (hr : Region.ready .any ops listed = [i] := by kernel_rfl) (hi : ops[i]? = some oi := by (simp only [List.getElem?_toArray,List.getElem?_cons_zero,List.getElem?_cons_succ];rfl)) : THeld P ops Q S l g n (f + 1) listed a w := th_step hi hin hr h
theorem th_done {n g : Nat} {l : List Oper} {listed : Array Bool} {a : Act} {w : World} (hq : Region.seqB .any ops g n listed = true) (h : wpList P ops Q l a w) : THeld P ops Q S l g n 0 listed a w := fun _ => ⟨hq,h⟩
theorem wp_region_th {id : Nat} {a : Act} {w : World} {l : List Oper} (n : Nat) (S : World → Prop) (hm : P.follows .mixedOrders = true) (hsel : Region.noSelect l.toArray = true) (hs : Region.sinkB .any l.toArray n = true) (hc : Region.chainB .any l.toArray n = true) (hn : n < l.length)
  (hS : S w.drew) (h : TOk l.toArray n → S w.drew → THeld P l.toArray Q S (l.drop n) (l.length - n) n n (Array.replicate l.length false) a w.drew) : (Code.region id l.toArray true).wp P Q a w := by
 have T : TOk l.toArray n := ⟨hsel,hs,hc,by simpa using hn⟩
 have inv0 : HeadInv .any l.toArray n (Array.replicate l.length false) :=
  ⟨by simp,fun j oj _ hl => (by rw [getD_replicate_false] at hl;cases hl),fun t _ ht => getD_in (by simpa using ht) (getD_replicate_false _ _)⟩
 have H := h T hS inv0
 refine wp_region_any hm ?_
 have hdl : (l.drop n).length = l.length - n := by simp
 have := any_of_th (g := l.length - n) (fun listed a' w' hL => by
  have := wpAny_of_seq (md := .any) (Q' := Q) (l.drop n) n listed a' w' (fun j => by simp [List.getElem?_drop]) (by rw [hdl];exact hL.1) hL.2
  rwa [hdl] at this) _ _ _ _ H
 rw [show n + (l.length - n) = l.toArray.size by simp;omega] at this
 simpa using this
end
end Go.Proofs.Ytcjjoabofecjmaa
namespace Go.Proofs.Ytcjjoabofecjmaa
open Go.RowKit
open Go.Value (int)
def frmCells (f : Frm) (v : Value) : List Value := [int .i64 f.fn,int .i64 f.pc,v,int .i64 f.result,.bool f.cleanup]
def blkCells (b : Blk) (v : Value) : List Value := [int .i64 b.scope,int .i64 b.depth,int .i64 b.exit,int .i64 b.mask,v]
def hdlCells (h : Hdl) (v : Value) : List Value := [int .i64 h.fn,v]
def RArgs (w : World) (xs : List Int) (v : Value) : Prop := ∃ A n c,v = .slice A n c ∧ RSl 1 RInt w A n xs ∧ n ≤ c
def rowOf {α : Type} (f : α → Value → List Value) (xs : List α) (vs : List Value) : List Value := (List.zipWith f xs vs).flatten
theorem rowOf_length {α : Type} {f : α → Value → List Value} {k : Nat} (hf : ∀ x v,(f x v).length = k) : ∀ {xs : List α} {vs : List Value},vs.length = xs.length → (rowOf f xs vs).length = xs.length * k
 | [],vs,_ => by simp [rowOf]
 | x :: xs,[],h => by simp at h
 | x :: xs,v :: vs,h => by
  have := rowOf_length hf (xs := xs) (vs := vs) (by simpa using h)
  simp only [rowOf,List.zipWith_cons_cons,List.flatten_cons,List.length_append,hf,List.length_cons,Nat.add_mul] at this ⊢
  omega
theorem rowOf_get {α : Type} {f : α → Value → List Value} {k : Nat} (hf : ∀ x v,(f x v).length = k) : ∀ {xs : List α} {vs : List Value} {i j : Nat} {x : α} {v : Value},xs[i]? = some x → vs[i]? = some v → j < k →
  (rowOf f xs vs)[i * k + j]? = (f x v)[j]?
 | [],_,i,j,x,v,h,_,_ => by simp at h
 | _ :: _,[],i,j,x,v,_,h,_ => by simp at h
 | y :: xs,u :: vs,0,j,x,v,h1,h2,hj => by
  simp only [List.getElem?_cons_zero,Option.some.injEq] at h1 h2
  subst h1 h2
  simp only [rowOf,List.zipWith_cons_cons,List.flatten_cons,Nat.zero_mul,Nat.zero_add]
  rw [List.getElem?_append_left (by rw [hf];exact hj)]
 | y :: xs,u :: vs,i + 1,j,x,v,h1,h2,hj => by
  simp only [List.getElem?_cons_succ] at h1 h2
  have := rowOf_get hf (xs := xs) (vs := vs) (j := j) h1 h2 hj
  simp only [rowOf,List.zipWith_cons_cons,List.flatten_cons] at this ⊢
  rw [List.getElem?_append_right (by rw [hf,Nat.add_mul];omega),hf,← this]
  congr 1
  rw [Nat.add_mul];omega
def Apart (v u : Value) : Prop := v.ownBlock = none ∨ v.ownBlock ≠ u.ownBlock
structure OFr (B : Nat) (w : World) (fs : List Frm) (VF : Value) (rs : List Value) : Prop where
 len : rs.length = fs.length
 row : w.ownsRow B 57 5 VF fs.length (rowOf frmCells fs rs)
 reg : ∀ (i : Nat) (f : Frm) (v : Value),fs[i]? = some f → rs[i]? = some v → w.ownsRow B 3 1 v f.regs.length (f.regs.map (int .i64))
 dis : ∀ (i j : Nat) (v u : Value),i ≠ j → rs[i]? = some v → rs[j]? = some u → Apart v u
 inr : ∀ f : Frm,f ∈ fs → InR f.fn ∧ InR f.pc ∧ InR f.result ∧ ∀ x ∈ f.regs,InR x
structure OBl (B : Nat) (w : World) (bs : List Blk) (VB : Value) (hs : List Value) (gs : List (List Value)) (rs : List Value) : Prop where
 len : hs.length = bs.length
 alen : gs.length = bs.length
 row : w.ownsRow B 65 5 VB bs.length (rowOf blkCells bs hs)
 hnd : ∀ (i : Nat) (b : Blk) (v : Value) (a : List Value),bs[i]? = some b → hs[i]? = some v → gs[i]? = some a → a.length = b.handlers.length ∧ w.ownsRow B 83 2 v b.handlers.length (rowOf hdlCells b.handlers a)
 arg : ∀ (i : Nat) (b : Blk) (a : List Value) (k : Nat) (h : Hdl) (v : Value),bs[i]? = some b → gs[i]? = some a → b.handlers[k]? = some h → a[k]? = some v → InR h.fn ∧ RArgs w h.args v ∧ (h.args = [] ∨ ∀ r ∈ rs,Apart r v)
 dis : ∀ (i j : Nat) (v u : Value),i ≠ j → hs[i]? = some v → hs[j]? = some u → Apart v u
 inr : ∀ b : Blk,b ∈ bs → InR b.scope ∧ InR b.depth ∧ InR b.exit ∧ InR b.mask
theorem RArgs.mono {w W : World} {xs : List Int} {v : Value} (h : RArgs w xs v) (hw : Ext w W) : RArgs W xs v := by
 obtain ⟨A,n,c,h1,h2,h3⟩ := h
 exact ⟨A,n,c,h1,h2.mono RInt.stays hw,h3⟩
theorem ownsRow_ext {w W : World} {B : Nat} {e : TypeId} {sz : Nat} {v : Value} {n : Nat} {xs : List Value} (h : w.ownsRow B e sz v n xs) (hw : Ext w W) : W.ownsRow B e sz v n xs := by
 refine ⟨h.1, ?_⟩
 rcases h.2 with hn | ⟨g,cap,cur,rfl,hb,hg,rest⟩
 ·exact .inl hn
 ·exact .inr ⟨g,cap,cur,rfl,hb,(Below.block hw g (Array.getElem?_eq_some_iff.1 hg).1).trans hg,rest⟩
theorem OFr.mono {B : Nat} {w W : World} {fs : List Frm} {VF : Value} {rs : List Value} (h : OFr B w fs VF rs) (hw : Ext w W) : OFr B W fs VF rs :=
 ⟨h.len,ownsRow_ext h.row hw,fun i f v h1 h2 => ownsRow_ext (h.reg i f v h1 h2) hw,h.dis,h.inr⟩
theorem OBl.mono {B : Nat} {w W : World} {bs : List Blk} {VB : Value} {hs : List Value} {gs : List (List Value)} {rs : List Value} (h : OBl B w bs VB hs gs rs) (hw : Ext w W) : OBl B W bs VB hs gs rs :=
 ⟨h.len,h.alen,ownsRow_ext h.row hw,fun i b v a h1 h2 h3 => ⟨(h.hnd i b v a h1 h2 h3).1,ownsRow_ext (h.hnd i b v a h1 h2 h3).2 hw⟩,
  fun i b a k x v h1 h2 h3 h4 => ⟨(h.arg i b a k x v h1 h2 h3 h4).1,(h.arg i b a k x v h1 h2 h3 h4).2.1.mono hw,(h.arg i b a k x v h1 h2 h3 h4).2.2⟩,h.dis,h.inr⟩
theorem ownsRow_shape {w : World} {B : Nat} {e : TypeId} {sz : Nat} {v : Value} {n : Nat} {xs : List Value} (h : w.ownsRow B e sz v n xs) :
  ∃ A c,v = .slice A n c ∧ n ≤ c ∧ n ≤ maxLen ∧ CSl w A n sz xs := by
 rcases h.2 with ⟨rfl,rfl⟩ | ⟨g,cap,cur,rfl,hb,hg,hnc,hcm,hcs,htake⟩
 ·exact ⟨none,0,rfl,Nat.le_refl _,Nat.zero_le _,h.1,fun h0 => by omega⟩
 ·refine ⟨_,_,rfl,hnc,Nat.le_trans hnc hcm,h.1,fun _ => ⟨g,0,rfl,fun j u hj => ?_⟩⟩
  have := h.cells (g := g) rfl j u hj
  rw [addr_add] at this
  exact this
theorem rowOf_set {α : Type} {f : α → Value → List Value} {k : Nat} (hf : ∀ x v,(f x v).length = k) : ∀ {xs : List α} {vs : List Value} {i j : Nat} {x x' : α} {v u : Value},xs[i]? = some x → vs[i]? = some v → j < k →
  f x' v = (f x v).set j u → (rowOf f xs vs).set (i * k + j) u = rowOf f (xs.set i x') vs
 | [],_,i,j,x,x',v,u,h,_,_,_ => by simp at h
 | _ :: _,[],i,j,x,x',v,u,_,h,_,_ => by simp at h
 | y :: xs,z :: vs,0,j,x,x',v,u,h1,h2,hj,he => by
  simp only [List.getElem?_cons_zero,Option.some.injEq] at h1 h2
  subst h1 h2
  simp only [rowOf,List.zipWith_cons_cons,List.flatten_cons,Nat.zero_mul,Nat.zero_add,List.set_cons_zero]
  rw [he,List.set_append_left _ _ (by rw [hf];exact hj)]
 | y :: xs,z :: vs,i + 1,j,x,x',v,u,h1,h2,hj,he => by
  simp only [List.getElem?_cons_succ] at h1 h2
  have := rowOf_set hf (xs := xs) (vs := vs) (j := j) h1 h2 hj he
  simp only [rowOf,List.zipWith_cons_cons,List.flatten_cons,List.set_cons_succ] at this ⊢
  rw [List.set_append_right _ _ (by rw [hf,Nat.add_mul];omega),hf,← this]
  congr 2
  rw [Nat.add_mul];omega
theorem rowOf_put {α : Type} {f : α → Value → List Value} {k : Nat} (hf : ∀ x v,(f x v).length = k) : ∀ {xs : List α} {vs : List Value} {i j : Nat} {x : α} {v u v' : Value},xs[i]? = some x → vs[i]? = some v → j < k →
  f x v' = (f x v).set j u → (rowOf f xs vs).set (i * k + j) u = rowOf f xs (vs.set i v')
 | [],_,i,j,x,v,u,v',h,_,_,_ => by simp at h
 | _ :: _,[],i,j,x,v,u,v',_,h,_,_ => by simp at h
 | y :: xs,z :: vs,0,j,x,v,u,v',h1,h2,hj,he => by
  simp only [List.getElem?_cons_zero,Option.some.injEq] at h1 h2
  subst h1 h2
  simp only [rowOf,List.zipWith_cons_cons,List.flatten_cons,Nat.zero_mul,Nat.zero_add,List.set_cons_zero]
  rw [he,List.set_append_left _ _ (by rw [hf];exact hj)]
 | y :: xs,z :: vs,i + 1,j,x,v,u,v',h1,h2,hj,he => by
  simp only [List.getElem?_cons_succ] at h1 h2
  have := rowOf_put hf (xs := xs) (vs := vs) (j := j) h1 h2 hj he
  simp only [rowOf,List.zipWith_cons_cons,List.flatten_cons,List.set_cons_succ] at this ⊢
  rw [List.set_append_right _ _ (by rw [hf,Nat.add_mul];omega),hf,← this]
  congr 2
  rw [Nat.add_mul];omega
theorem ownsRow_type {w : World} {B : Nat} {e : TypeId} {sz : Nat} {v : Value} {n : Nat} {xs : List Value} (h : w.ownsRow B e sz v n xs) {g : Nat} (hg : v.ownBlock = some g) : ∃ cur,w.heap[g]? = some (.cells cur e (0,0)) := by
 rcases h.2 with ⟨rfl,_⟩ | ⟨g',cap,cur,rfl,_,hh,_⟩
 ·simp [Value.ownBlock] at hg
 ·simp [Value.ownBlock] at hg;subst hg;exact ⟨cur,hh⟩
theorem apart_types {w : World} {B B' : Nat} {e e' : TypeId} {sz sz' : Nat} {v v' : Value} {n n' : Nat} {xs xs' : List Value} (h : w.ownsRow B e sz v n xs) (h' : w.ownsRow B' e' sz' v' n' xs') (he : e ≠ e') : Apart v v' := by
 unfold Apart
 cases hv : v.ownBlock with
 | none => exact .inl rfl
 | some g =>
  refine .inr fun hh => ?_
  obtain ⟨c1,h1⟩ := ownsRow_type h hv
  obtain ⟨c2,h2⟩ := ownsRow_type h' hh.symm
  rw [h1] at h2
  injection h2 with h2
  injection h2 with _ ht
  exact he ht
theorem Apart.symm {v u : Value} (h : Apart v u) (hv : v.ownBlock ≠ none) : Apart u v := by
 rcases h with h | h
 ·exact absurd h hv
 ·exact .inr (fun e => h e.symm)
theorem OFr.kept {B : Nat} {w W : World} {fs : List Frm} {VF : Value} {rs : List Value} (h : OFr B w fs VF rs) {row : Option Nat} (hg : w.grownBy W row) (h1 : VF.ownBlock = none ∨ VF.ownBlock ≠ row) (h2 : ∀ v ∈ rs,v.ownBlock = none ∨ v.ownBlock ≠ row) : OFr B W fs VF rs :=
 ⟨h.len,h.row.kept hg h1,fun i f v a b => (h.reg i f v a b).kept hg (h2 v (List.mem_of_getElem? b)),h.dis,h.inr⟩
theorem OBl.kept {B : Nat} {w W : World} {bs : List Blk} {VB : Value} {hs : List Value} {gs : List (List Value)} {rs : List Value} (h : OBl B w bs VB hs gs rs) {row : Option Nat} (hg : w.grownBy W row) (h1 : VB.ownBlock = none ∨ VB.ownBlock ≠ row)
  (h2 : ∀ v ∈ hs,v.ownBlock = none ∨ v.ownBlock ≠ row) (h3 : ∀ a ∈ gs,∀ v ∈ a,∀ xs,RArgs w xs v → RArgs W xs v) : OBl B W bs VB hs gs rs :=
 ⟨h.len,h.alen,h.row.kept hg h1,fun i b v a e1 e2 e3 => ⟨(h.hnd i b v a e1 e2 e3).1,(h.hnd i b v a e1 e2 e3).2.kept hg (h2 v (List.mem_of_getElem? e2))⟩,
  fun i b a k x v e1 e2 e3 e4 => ⟨(h.arg i b a k x v e1 e2 e3 e4).1,h3 a (List.mem_of_getElem? e2) v (List.mem_of_getElem? e4) _ (h.arg i b a k x v e1 e2 e3 e4).2.1,(h.arg i b a k x v e1 e2 e3 e4).2.2⟩,h.dis,h.inr⟩
theorem RArgs.kept {w W : World} {xs : List Int} {v : Value} {row : Option Nat} (h : RArgs w xs v) (hg : w.grownBy W row) (hne : v.ownBlock = none ∨ v.ownBlock ≠ row) : RArgs W xs v := by
 obtain ⟨A,n,c,rfl,⟨h1,h2,h3⟩,hc⟩ := h
 refine ⟨A,n,c,rfl,⟨h1,h2,fun k x hk => ?_⟩,hc⟩
 obtain ⟨b,off,cs,rfl,hl,hr,hcell⟩ := h3 k x hk
 exact ⟨b,off,cs,rfl,hl,hr,fun j u hj => hg.cell (hcell j u hj) (by simpa [Value.ownBlock] using hne)⟩
theorem frmCells_len (f : Frm) (v : Value) : (frmCells f v).length = 5 := rfl
theorem blkCells_len (b : Blk) (v : Value) : (blkCells b v).length = 5 := rfl
theorem hdlCells_len (h : Hdl) (v : Value) : (hdlCells h v).length = 2 := rfl
theorem OFr.reads {B : Nat} {w : World} {fs : List Frm} {VF : Value} {rs : List Value} (h : OFr B w fs VF rs) (hn : fs.length ≤ 140737488355328) (hr : ∀ f : Frm,f ∈ fs → f.regs.length ≤ 140737488355328) :
  ∃ A c,VF = .slice A fs.length c ∧ fs.length ≤ c ∧ RSl 5 RFrm w A fs.length fs := by
 obtain ⟨A,c,rfl,hc,_,hcs⟩ := ownsRow_shape h.row
 refine ⟨A,c,rfl,hc,rfl,hn,fun k f hk => ?_⟩
 have hlt : k < fs.length := (List.getElem?_eq_some_iff.1 hk).1
 obtain ⟨v,hv⟩ : ∃ v,rs[k]? = some v := ⟨_,List.getElem?_eq_getElem (by rw [h.len];exact hlt)⟩
 obtain ⟨b,o,rfl,hcell⟩ := hcs.2 (by omega)
 have hi := h.inr f (List.mem_of_getElem? hk)
 obtain ⟨A2,c2,rfl,hc2,_,hcs2⟩ := ownsRow_shape (h.reg k f v hk hv)
 refine ⟨b,o,_,rfl,frmCells_len f _,⟨A2,_,c2,rfl,hi.1,hi.2.1,hi.2.2.1,⟨rfl,hr f (List.mem_of_getElem? hk),fun q x hq => ?_⟩,hc2⟩,fun j u hj => ?_⟩
 ·obtain ⟨b2,o2,rfl,hcell2⟩ := hcs2.2 (by have := (List.getElem?_eq_some_iff.1 hq).1;omega)
  refine ⟨b2,o2,[int .i64 x],rfl,rfl,⟨rfl,hi.2.2.2 x (List.mem_of_getElem? hq)⟩,fun j u hj => ?_⟩
  cases j with
  | zero =>
   simp only [List.getElem?_cons_zero,Option.some.injEq] at hj
   subst hj
   have := hcell2 q (int .i64 x) (by rw [List.getElem?_map,hq];rfl)
   simpa using this
  | succ j => simp at hj
 ·have hj5 : j < 5 := by have := (List.getElem?_eq_some_iff.1 hj).1;simpa [frmCells_len] using this
  have := hcell (k * 5 + j) u (by rw [rowOf_get frmCells_len hk hv hj5];exact hj)
  rw [Nat.add_assoc];exact this
theorem OBl.reads {B : Nat} {w : World} {bs : List Blk} {VB : Value} {hs : List Value} {gs : List (List Value)} {rs : List Value} (h : OBl B w bs VB hs gs rs) (hn : bs.length ≤ 140737488355328) (hr : ∀ b : Blk,b ∈ bs → b.handlers.length ≤ 140737488355328) :
  ∃ A c,VB = .slice A bs.length c ∧ bs.length ≤ c ∧ RSl 5 RBlk w A bs.length bs := by
 obtain ⟨A,c,rfl,hc,_,hcs⟩ := ownsRow_shape h.row
 refine ⟨A,c,rfl,hc,rfl,hn,fun k f hk => ?_⟩
 have hlt : k < bs.length := (List.getElem?_eq_some_iff.1 hk).1
 obtain ⟨v,hv⟩ : ∃ v,hs[k]? = some v := ⟨_,List.getElem?_eq_getElem (by rw [h.len];exact hlt)⟩
 obtain ⟨a,ha⟩ : ∃ a,gs[k]? = some a := ⟨_,List.getElem?_eq_getElem (by rw [h.alen];exact hlt)⟩
 obtain ⟨b,o,rfl,hcell⟩ := hcs.2 (by omega)
 have hi := h.inr f (List.mem_of_getElem? hk)
 obtain ⟨hal,hown⟩ := h.hnd k f v a hk hv ha
 obtain ⟨A2,c2,rfl,hc2,_,hcs2⟩ := ownsRow_shape hown
 refine ⟨b,o,_,rfl,blkCells_len f _,⟨A2,_,c2,rfl,hi.1,hi.2.1,hi.2.2.1,hi.2.2.2,⟨rfl,hr f (List.mem_of_getElem? hk),fun q x hq => ?_⟩,hc2⟩,fun j u hj => ?_⟩
 ·have hql : q < f.handlers.length := (List.getElem?_eq_some_iff.1 hq).1
  obtain ⟨g,hg⟩ : ∃ g,a[q]? = some g := ⟨_,List.getElem?_eq_getElem (by omega)⟩
  obtain ⟨b2,o2,rfl,hcell2⟩ := hcs2.2 (by omega)
  obtain ⟨i1,⟨A3,n3,c3,rfl,hr3,hc3⟩,_⟩ := h.arg k f a q x g hk ha hq hg
  refine ⟨b2,o2,_,rfl,hdlCells_len x (.slice A3 n3 c3),⟨A3,n3,c3,rfl,i1,hr3,hc3⟩,fun j u hj => ?_⟩
  have hj2 : j < 2 := by have := (List.getElem?_eq_some_iff.1 hj).1;simpa [hdlCells_len] using this
  have := hcell2 (q * 2 + j) u (by rw [rowOf_get hdlCells_len hq hg hj2];exact hj)
  rw [Nat.add_assoc];exact this
 ·have hj5 : j < 5 := by have := (List.getElem?_eq_some_iff.1 hj).1;simpa [blkCells_len] using this
  have := hcell (k * 5 + j) u (by rw [rowOf_get blkCells_len hk hv hj5];exact hj)
  rw [Nat.add_assoc];exact this
theorem rowOf_same {α : Type} {f : α → Value → List Value} : ∀ {xs : List α} {vs : List Value} {i : Nat} {x x' : α} {v : Value},xs[i]? = some x → vs[i]? = some v → f x' v = f x v → rowOf f (xs.set i x') vs = rowOf f xs vs
 | [],_,i,x,x',v,h,_,_ => by simp at h
 | _ :: _,[],i,x,x',v,_,h,_ => by simp at h
 | y :: xs,z :: vs,0,x,x',v,h1,h2,he => by
  simp only [List.getElem?_cons_zero,Option.some.injEq] at h1 h2
  subst h1 h2
  simp only [rowOf,List.set_cons_zero,List.zipWith_cons_cons,List.flatten_cons,he]
 | y :: xs,z :: vs,i + 1,x,x',v,h1,h2,he => by
  simp only [List.getElem?_cons_succ] at h1 h2
  have := rowOf_same (xs := xs) (vs := vs) h1 h2 he
  simp only [rowOf,List.set_cons_succ,List.zipWith_cons_cons,List.flatten_cons] at this ⊢
  rw [this]
theorem own_form {w : World} {B : Nat} {e : TypeId} {sz : Nat} {v : Value} {n : Nat} {xs : List Value} (h : w.ownsRow B e sz v n xs) (hn : 0 < n) : ∃ g c,v = .slice (some ⟨g,0,none⟩) n c ∧ B ≤ g := by
 rcases h.2 with ⟨_,h0⟩ | ⟨g,cap,cur,rfl,hb,_⟩
 ·omega
 ·exact ⟨g,cap,rfl,hb⟩
theorem OFr.set_reg {B : Nat} {w : World} {fs : List Frm} {VF : Value} {rs : List Value} (h : OFr B w fs VF rs) {i k : Nat} {f : Frm} {v : Value} (hf : fs[i]? = some f) (hv : rs[i]? = some v) (hk : k < f.regs.length) :
  ∃ g c,v = .slice (some ⟨g,0,none⟩) f.regs.length c ∧ B ≤ g ∧ w.frozen? ⟨g,k,none⟩ = false ∧ (∃ u,w.cell? ⟨g,k,none⟩ = some u) ∧
   ∀ x : Int,InR x → OFr B (w.setCell ⟨g,k,none⟩ (int .i64 x)) (fs.set i { f with regs := f.regs.set k x }) VF rs ∧ w.grownBy (w.setCell ⟨g,k,none⟩ (int .i64 x)) (some g) := by
 obtain ⟨g,c,rfl,hB⟩ := own_form (h.reg i f v hf hv) (by omega)
 have hr := h.reg i f _ hf hv
 refine ⟨g,c,rfl,hB,hr.frozenAt k,⟨int .i64 f.regs[k], ?_⟩,fun x hx => ?_⟩
 ·rw [hr.cellAt k (by omega),List.getElem?_map,List.getElem?_eq_getElem hk];rfl
 ·obtain ⟨hs,hg⟩ := hr.stored k (int .i64 x)
  have hil : i < fs.length := (List.getElem?_eq_some_iff.1 hf).1
  refine ⟨⟨by rw [List.length_set];exact h.len, ?_,fun j f' v' e1 e2 => ?_,h.dis,fun f' hm => ?_⟩,hg⟩
  ·rw [List.length_set,rowOf_same hf hv (by rfl)]
   exact h.row.kept hg (by rcases apart_types h.row hr (by decide) with e | e;exact .inl e;exact .inr e)
  ·rw [List.getElem?_set] at e1
   split at e1
   ·rename_i hij
    subst hij
    cases e1
    rw [hv] at e2
    cases e2
    simp only [List.length_set,List.map_set]
    exact hs
   ·rename_i hij
    exact (h.reg j f' v' e1 e2).kept hg (by rcases h.dis j i v' _ (fun e => hij e.symm) e2 hv with e | e;exact .inl e;exact .inr e)
  ·rcases List.mem_or_eq_of_mem_set hm with hm | rfl
   ·exact h.inr f' hm
   ·have := h.inr f (List.mem_of_getElem? hf)
    refine ⟨this.1,this.2.1,this.2.2.1,fun y hy => ?_⟩
    rcases List.mem_or_eq_of_mem_set hy with hy | rfl
    ·exact this.2.2.2 y hy
    ·exact hx
theorem OFr.set_pc {B : Nat} {w : World} {fs : List Frm} {VF : Value} {rs : List Value} (h : OFr B w fs VF rs) {i : Nat} {f : Frm} (hf : fs[i]? = some f) :
  ∃ g c,VF = .slice (some ⟨g,0,none⟩) fs.length c ∧ B ≤ g ∧ w.frozen? ⟨g,i * 5 + 1,none⟩ = false ∧ w.cell? ⟨g,i * 5 + 1,none⟩ = some (int .i64 f.pc) ∧
   ∀ x : Int,InR x → OFr B (w.setCell ⟨g,i * 5 + 1,none⟩ (int .i64 x)) (fs.set i { f with pc := x }) VF rs ∧ w.grownBy (w.setCell ⟨g,i * 5 + 1,none⟩ (int .i64 x)) (some g) := by
 have hil : i < fs.length := (List.getElem?_eq_some_iff.1 hf).1
 obtain ⟨v,hv⟩ : ∃ v,rs[i]? = some v := ⟨_,List.getElem?_eq_getElem (by rw [h.len];exact hil)⟩
 obtain ⟨g,c,rfl,hB⟩ := own_form h.row (by omega)
 refine ⟨g,c,rfl,hB,h.row.frozenAt _, ?_,fun x hx => ?_⟩
 ·rw [h.row.cellAt _ (by omega),rowOf_get frmCells_len hf hv (by omega)];rfl
 ·obtain ⟨hs,hg⟩ := h.row.stored (i * 5 + 1) (int .i64 x)
  refine ⟨⟨by rw [List.length_set];exact h.len, ?_,fun j f' v' e1 e2 => ?_,h.dis,fun f' hm => ?_⟩,hg⟩
  ·rw [List.length_set,← rowOf_set frmCells_len (j := 1) (u := int .i64 x) hf hv (by omega) (by rfl)]
   exact hs
  ·rw [List.getElem?_set] at e1
   split at e1
   ·rename_i hij
    subst hij
    cases e1
    exact (h.reg i f v' hf e2).kept hg (by rcases apart_types (h.reg i f v' hf e2) h.row (by decide) with e | e;exact .inl e;exact .inr e)
   ·exact (h.reg j f' v' e1 e2).kept hg (by rcases apart_types (h.reg j f' v' e1 e2) h.row (by decide) with e | e;exact .inl e;exact .inr e)
  ·rcases List.mem_or_eq_of_mem_set hm with hm | rfl
   ·exact h.inr f' hm
   ·have := h.inr f (List.mem_of_getElem? hf)
    exact ⟨this.1,hx,this.2.2⟩
end Go.Proofs.Ytcjjoabofecjmaa

