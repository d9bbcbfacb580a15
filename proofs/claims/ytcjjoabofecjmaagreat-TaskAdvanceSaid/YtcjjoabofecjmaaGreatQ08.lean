/- A part of the proof: Whole tasks loaded from and stored into the middle of a bloc. -/
import Derived.Test.YtcjjoabofecjmaaGreatQ07
import Derived.Deep.MidRow
import Derived.StillTail
set_option linter.unusedVariables false
set_option linter.unusedSimpArgs false
set_option maxHeartbeats 16000000
namespace Go.Proofs.YtcjjoabofecjmaaGreat
open Go.RowKit
open Go.Value (int)
theorem infoTsk : (Tryz.prog.info? 32).map (·.size) = some 14 := by kernel_rfl
theorem range_new {w : World} {b : Nat} {cs : List Value} {t : TypeId} (hb : b = w.heap.size) : (w.alloc (.cells cs.toArray t)).rangeAt b 0 cs := fun j v hj => by
 subst hb
 rw [cell?_alloc_if,if_neg (Nat.lt_irrefl _),if_pos rfl,Nat.zero_add]
 simpa using hj
theorem range_old {w : World} {b o : Nat} {cs : List Value} (h : w.rangeAt b o cs) (ob : Obj) : (w.alloc ob).rangeAt b o cs := World.rangeAt_alloc h ob
theorem range_ext {w W : World} {b o : Nat} {cs : List Value} (h : w.rangeAt b o cs) (he : Ext w W) : W.rangeAt b o cs := fun j v hj => he.cell (h j v hj)
theorem range_same {w : World} {b k : Nat} {cs : List Value} {u : Value} (h : w.rangeAt b 0 cs) : (w.setCell ⟨b,k,none⟩ u).rangeAt b 0 (cs.set k u) := fun j v hj => by
 rw [cell?_setCell_if,List.getElem?_set] at *
 rw [Nat.zero_add]
 split at hj
 ·rename_i e
  subst e
  split at hj
  ·rename_i hlt
   rw [if_pos ⟨rfl,rfl⟩]
   have := h k _ (List.getElem?_eq_getElem hlt)
   rw [Nat.zero_add] at this
   rw [this];simpa using hj
  ·cases hj
 ·rename_i e
  rw [if_neg (fun h => e h.2)]
  have := h j v hj
  rwa [Nat.zero_add] at this
theorem range_at {w : World} {b o k : Nat} {cs : List Value} {u : Value} (h : w.rangeAt b o cs) (hk : o ≤ k) : (w.setCell ⟨b,k,none⟩ u).rangeAt b o (cs.set (k - o) u) := fun j v hj => by
 rw [cell?_setCell_if,List.getElem?_set] at *
 split at hj
 ·rename_i e
  subst e
  split at hj
  ·rename_i hlt
   have e2 : o + (k - o) = k := by omega
   rw [if_pos ⟨rfl,e2.symm⟩]
   have := h (k - o) _ (List.getElem?_eq_getElem hlt)
   rw [this];simpa using hj
  ·cases hj
 ·rename_i e
  rw [if_neg (fun h => e (by omega))]
  exact h j v hj
theorem range_other {w : World} {b o : Nat} {cs : List Value} {p : Addr} {u : Value} (h : w.rangeAt b o cs) (hb : ¬ p.block = b) : (w.setCell p u).rangeAt b o cs := fun j v hj => by
 rw [World.cell?_setCell_other]
 ·exact h j v hj
 ·intro e;exact hb (by rw [e])
theorem range_drew {w : World} {b o : Nat} {cs : List Value} (h : w.rangeAt b o cs) : w.drew.rangeAt b o cs := (World.rangeAt_drew w b o cs).2 h
theorem there_new {w : World} {b n : Nat} {cs : Array Value} {t : TypeId} (hb : b = w.heap.size) (hn : n = cs.size) : (w.alloc (.cells cs t)).there b 0 n := fun j hj => by
 subst hb hn
 rw [cell?_alloc_if,if_neg (Nat.lt_irrefl _),if_pos rfl,Nat.zero_add,frozen?_alloc_if,if_neg (Nat.lt_irrefl _)]
 exact ⟨by rw [Array.getElem?_eq_getElem hj];rfl,rfl⟩
theorem there_old {w : World} {b o n : Nat} (h : w.there b o n) (ob : Obj) : (w.alloc ob).there b o n := World.there_alloc h ob
theorem there_ext {w W : World} {b o n : Nat} (h : w.there b o n) (he : Ext w W) : W.there b o n := fun j hj => by
 obtain ⟨h1,h2⟩ := h j hj
 cases hc : w.cell? ⟨b,o + j,none⟩ with
 | none => rw [hc] at h1;cases h1
 | some v => exact ⟨by rw [he.cell hc];rfl,by rw [Below.frozen he (lt_of_cell hc)];exact h2⟩
theorem there_set {w : World} {b o n : Nat} {p : Addr} {u : Value} (h : w.there b o n) : (w.setCell p u).there b o n := fun j hj => by
 obtain ⟨h1,h2⟩ := h j hj
 refine ⟨?_,by rw [World.frozen?_setCell];exact h2⟩
 cases hc : w.cell? ⟨b,o + j,none⟩ with
 | none => rw [hc] at h1;cases h1
 | some v =>
  by_cases e : p = ⟨b,o + j,none⟩
  ·rw [e,World.cell?_setCell_same w _ _ hc];rfl
  ·rw [World.cell?_setCell_other _ _ _ _ e,hc];rfl
theorem there_sets {w : World} {b o n b' o' : Nat} {vs : List Value} (h : w.there b o n) : (w.setCells b' o' vs).there b o n := World.there_setCells h b' o' vs
theorem there_drew {w : World} {b o n : Nat} (h : w.there b o n) : w.drew.there b o n := (World.there_drew w b o n).2 h
theorem setCells_grown (b : Nat) : ∀ (vs : List Value) (o : Nat) (w : World),w.grownBy (w.setCells b o vs) (some b)
 | [],o,w => World.grownBy.refl _ _
 | v :: vs,o,w => (grown_setCell w ⟨b,o,none⟩ v).trans (setCells_grown b vs (o + 1) _)
theorem Ext.setCells {w W : World} (h : Ext w W) {b : Nat} (hb : w.heap.size ≤ b) (o : Nat) (vs : List Value) : Ext w (W.setCells b o vs) := by
 induction vs generalizing W o with
 | nil => exact h
 | cons v vs ih => exact ih (h.setCell hb v) (o + 1)
theorem setCells_size (b : Nat) : ∀ (vs : List Value) (o : Nat) (w : World),(w.setCells b o vs).heap.size = w.heap.size
 | [],_,_ => rfl
 | v :: vs,o,w => (setCells_size b vs (o + 1) (w.setCell ⟨b,o,none⟩ v)).trans (World.size_setCell _ _ _)
theorem own_setCell {w : World} {B : Nat} {e : TypeId} {sz : Nat} {v : Value} {n : Nat} {xs : List Value} {p : Addr} {u : Value} (h : w.ownsRow B e sz v n xs) (hp : p.block < B) : (w.setCell p u).ownsRow B e sz v n xs :=
 h.kept (grown_setCell _ _ _) (own_ne h hp)
theorem own_setCells {w : World} {B : Nat} {e : TypeId} {sz : Nat} {v : Value} {n : Nat} {xs : List Value} {b o : Nat} {vs : List Value} (h : w.ownsRow B e sz v n xs) (hp : b < B) : (w.setCells b o vs).ownsRow B e sz v n xs :=
 h.kept (setCells_grown _ _ _ _) (own_ne h hp)
theorem xts {w W : World} (h : Ext w W := by repeat' (first | with_reducible assumption | with_reducible refine Ext.setCells ?_ (by first | omega | (simp;done) | (simp;omega)) _ _ | with_reducible exact Ext.refl _ | with_reducible refine Ext.alloc ?_ _ | with_reducible refine Ext.drew ?_ | with_reducible refine Ext.drewN ?_ _ | with_reducible refine Ext.regrown ?_ _ _ | with_reducible refine Ext.setCell ?_ (by first | (simp;done) | (simp;omega)) _)) : Ext w W := h
theorem tr {w : World} {b o n : Nat} (h : w.there b o n := by (repeat' (first | with_reducible assumption | ((with_reducible apply there_new) <;> (simp;done)) | with_reducible apply there_old | with_reducible apply there_drew | with_reducible apply there_set | with_reducible apply there_sets | assumption))) : w.there b o n := h
theorem rg {w : World} {b o : Nat} {cs : List Value} (h : w.rangeAt b o cs := by (repeat' (first | with_reducible assumption | ((with_reducible apply range_new);simp;done) | with_reducible apply range_old | with_reducible apply range_drew | ((with_reducible apply World.rangeAt_setCells_same) <;> (repeat' (first | with_reducible assumption | ((with_reducible apply there_new) <;> (simp;done)) | with_reducible apply there_old | with_reducible apply there_drew | with_reducible apply there_set | with_reducible apply there_sets | assumption))) | with_reducible apply range_same | ((with_reducible apply range_at) <;> first | omega | skip) | ((with_reducible apply range_other) <;> first | (simp;omega) | skip)))) : w.rangeAt b o cs := h
theorem ret_range {fn : Func} {R : Ending → World → Prop} {a : Act} {w : World} {b s : Nat} {cs : List Value} (hfn : fn.results = #[ResultVar.cell s 32]) (hs : a.tmps[s]? = some (.pointer (some ⟨b,0,none⟩))) (hd : a.defers = []) (hl : cs.length = 14) (hR : w.rangeAt b 0 cs)
  (h : R (.returned (.agg cs.toArray)) w) : bodyPost Tryz.prog fn R .ret a w :=
 bodyPost_ret (by simp [results,hfn,hs,asAddr,run_loadVar_mid w b 0 32 cs _ hR Tryz.underlying32 rfl (by rw [infoTsk,hl])]) hd h
theorem ret_range2 {fn : Func} {R : Ending → World → Prop} {a : Act} {w : World} {b s k : Nat} {cs : List Value} {v : Value} (hfn : fn.results = #[ResultVar.cell s 32,ResultVar.tmp k]) (hs : a.tmps[s]? = some (.pointer (some ⟨b,0,none⟩))) (hk : a.tmps[k]? = some v) (hd : a.defers = []) (hl : cs.length = 14) (hR : w.rangeAt b 0 cs)
  (h : R (.returned (.tuple #[.agg cs.toArray,v])) w) : bodyPost Tryz.prog fn R .ret a w :=
 bodyPost_ret (by simp [results,hfn,hs,hk,asAddr,run_loadVar_mid w b 0 32 cs _ hR Tryz.underlying32 rfl (by rw [infoTsk,hl])]) hd h
def tskL (t : Tsk) (VF VB : Value) : List Value := [int .i64 t.fn,int .i64 t.scope,int .i64 t.prio,int .i64 t.status,int .i64 t.wkind,int .i64 t.windex,.bool t.wagain,VF,VB,int .i64 t.mask,.bool t.unw,int .i64 t.level,int .i64 t.reason,int .i64 t.result]
theorem rtsk_of {W : World} {t : Tsk} {Af Ab : Option Addr} {nf cf nb cb : Nat} (hi : InR t.fn ∧ InR t.scope ∧ InR t.prio ∧ InR t.status ∧ InR t.wkind ∧ InR t.windex ∧ InR t.mask ∧ InR t.level ∧ InR t.reason ∧ InR t.result)
  (hF : RSl 5 RFrm W Af nf t.frames) (hc : nf ≤ cf) (hB : RSl 5 RBlk W Ab nb t.blocks) (hcb : nb ≤ cb) : RTsk W t (tskV t (.slice Af nf cf) (.slice Ab nb cb)) :=
 ⟨Af,nf,cf,Ab,nb,cb,rfl,hi.1,hi.2.1,hi.2.2.1,hi.2.2.2.1,hi.2.2.2.2.1,hi.2.2.2.2.2.1,hi.2.2.2.2.2.2.1,hi.2.2.2.2.2.2.2.1,hi.2.2.2.2.2.2.2.2.1,hi.2.2.2.2.2.2.2.2.2,hF,hB,hc,hcb⟩
theorem RTsk.inr {w : World} {t : Tsk} {V : Value} (h : RTsk w t V) : InR t.fn ∧ InR t.scope ∧ InR t.prio ∧ InR t.status ∧ InR t.wkind ∧ InR t.windex ∧ InR t.mask ∧ InR t.level ∧ InR t.reason ∧ InR t.result := by
 obtain ⟨_,_,_,_,_,_,_,h1,h2,h3,h4,h5,h6,h7,h8,h9,h10,_⟩ := h
 exact ⟨h1,h2,h3,h4,h5,h6,h7,h8,h9,h10⟩
theorem il {P : Program} {ops : Array Oper} {rest : List Oper} {a : Act} {w : World} {Q : Exit → Act → World → Prop} {dst : Option Nat} {x : Operand} {t : TypeId} {ps : String} {af : Array Edge} (ty : TypeId) (h : wpList P ops Q ({ dst := dst,op := Op.load ty x,type := t,pos := ps,after := af,guard := none } :: rest) a w) : wpList P ops Q ({ dst := dst,op := Op.load ty x,type := t,pos := ps,after := af,guard := none } :: rest) a w := h
theorem ig {P : Program} {ops : Array Oper} {rest : List Oper} {a : Act} {w : World} {Q : Exit → Act → World → Prop} {dst : Option Nat} {x : Operand} {t : TypeId} {ps : String} {af : Array Edge} {g : Nat × Bool} (ty : TypeId) (h : wpList P ops Q ({ dst := dst,op := Op.load ty x,type := t,pos := ps,after := af,guard := some g } :: rest) a w) : wpList P ops Q ({ dst := dst,op := Op.load ty x,type := t,pos := ps,after := af,guard := some g } :: rest) a w := h
theorem ik {P : Program} {ops : Array Oper} {rest : List Oper} {a : Act} {w : World} {Q : Exit → Act → World → Prop} {dst : Option Nat} {x y : Operand} {t : TypeId} {ps : String} {af : Array Edge} (ty : TypeId) (h : wpList P ops Q ({ dst := dst,op := Op.store ty x y,type := t,pos := ps,after := af,guard := none } :: rest) a w) : wpList P ops Q ({ dst := dst,op := Op.store ty x y,type := t,pos := ps,after := af,guard := none } :: rest) a w := h
theorem jl {P : Program} {n : Nat} {rest : List Oper} {a : Act} {w : World} {Q : Exit → Act → World → Prop} {dst : Option Nat} {x : Operand} {t : TypeId} {ps : String} {af : Array Edge} (ty : TypeId) (h : wpList P (List.toArray ({ dst := dst,op := Op.load ty x,type := t,pos := ps,after := af,guard := none } :: rest)) Q ({ dst := dst,op := Op.load ty x,type := t,pos := ps,after := af,guard := none } :: rest) a w) : Code.wp P (Code.region n (List.toArray ({ dst := dst,op := Op.load ty x,type := t,pos := ps,after := af,guard := none } :: rest)) false) Q a w := wp_region_lit h
theorem jk {P : Program} {n : Nat} {rest : List Oper} {a : Act} {w : World} {Q : Exit → Act → World → Prop} {dst : Option Nat} {x y : Operand} {t : TypeId} {ps : String} {af : Array Edge} (ty : TypeId) (h : wpList P (List.toArray ({ dst := dst,op := Op.store ty x y,type := t,pos := ps,after := af,guard := none } :: rest)) Q ({ dst := dst,op := Op.store ty x y,type := t,pos := ps,after := af,guard := none } :: rest) a w) : Code.wp P (Code.region n (List.toArray ({ dst := dst,op := Op.store ty x y,type := t,pos := ps,after := af,guard := none } :: rest)) false) Q a w := wp_region_lit h
theorem ldm {P : Program} {ops : Array Oper} {rest : List Oper} {op : Oper} {a : Act} {w : World} {Q : Exit → Act → World → Prop} {ty : TypeId} {d : TypeDesc} (hu : P.underlying ty = some d) {x : Operand} {b o : Nat} {cs : List Value} (hgd : op.guard = none) (ho : op.op = .load ty x) (hx : a.eval x = .pointer (some ⟨b,o,none⟩)) (hc : w.rangeAt b o cs)
  (hd : d.isRow = true) (hi : (P.info? ty).map (·.size) = some cs.length) (h : wpList P ops Q rest (a.put op.dst (.agg cs.toArray)) w) : wpList P ops Q (op :: rest) a w :=
 wpList_load_mid hgd ty x ho b o hx cs d hc hu hd hi h
theorem stm {P : Program} {ops : Array Oper} {rest : List Oper} {op : Oper} {a : Act} {w : World} {Q : Exit → Act → World → Prop} {ty : TypeId} {x y : Operand} {b o : Nat} {cells : Array Value} (hgd : op.guard = none) (ho : op.op = .store ty x y) (hx : a.eval x = .pointer (some ⟨b,o,none⟩)) (hy : a.eval y = .agg cells)
  (ht : w.there b o cells.size) (hi : (P.info? ty).map (·.size) = some cells.size) (h1 : cells.all (·.oneCell') = true) (h : wpList P ops Q rest (a.put op.dst undef) (w.setCells b o cells.toList)) : wpList P ops Q (op :: rest) a w :=
 wpList_store_mid hgd ty x y ho b o cells hx hy ht hi h1 h
end Go.Proofs.YtcjjoabofecjmaaGreat
namespace Go.Proofs.YtcjjoabofecjmaaGreat
open Go.RowKit Go.Sort
open Go.Value (int)
section
variable {P : Program} {ops : Array Oper} {md : Region.Mode} {C : World → Prop}
def anyLQ (P : Program) (md : Region.Mode) (ops : Array Oper) (C : World → Prop) (n : Nat) (L : Array Bool → Act → Prop) : Nat → Array Bool → Act → Prop
 | 0,listed,a => L listed a
 | f + 1,listed,a => Region.ready md ops listed ≠ [] ∧ ∀ i ∈ Region.ready md ops listed,i < n ∧ qOp P ops C i (anyLQ P md ops C n L f (listed.setIfInBounds i true)) a
theorem any_of_head {n g : Nat} {L : Array Bool → Act → Prop} {Q' : Exit → Act → World → Prop} (hL : ∀ listed a w,C w → L listed a → wpAny P md ops Q' g listed a w) :
  ∀ (f : Nat) (listed : Array Bool) (a : Act) (w : World),C w → anyLQ P md ops C n L f listed a → wpAny P md ops Q' (f + g) listed a w
 | 0,listed,a,w,hw,h => by rw [Nat.zero_add];exact hL _ _ _ hw h
 | f + 1,listed,a,w,hw,h => by
  rw [show f + 1 + g = (f + g) + 1 by omega]
  exact ⟨fun h0 => absurd h0 h.1,fun i hi => wpOp_of_qOp hw (fun a' w' hw' h' => any_of_head hL f _ a' w' hw' h') (h.2 i hi).2⟩
theorem anyLQ_first {n i : Nat} {oi : Oper} {v : Value} {L : Array Bool → Act → Prop} (hi : ops[i]? = some oi) (hsel : ∀ (j : Nat) (o : Oper) cs b,ops[j]? = some o → o.op ≠ .select cs b)
  (hs : Region.sinkB md ops n = true) (hc : Region.chainB md ops n = true) (hn : n < ops.size) (hin : i < n)
  (hdone : ∀ listed a,L listed a → ∀ j ∈ Region.ready md ops listed,n ≤ j) :
  ∀ (f : Nat) (listed : Array Bool) (a : Act),HeadInv md ops n listed →
   (∀ j oj,ops[j]? = some oj → j ≠ i → listed.getD j true = false → (∀ e ∈ oj.after,Region.binds md e = true → e.on ≠ i) → oi.apart ops oj = true) →
   i ∈ Region.ready md ops listed → YieldsIn P ops C oi v a →
   anyLQ P md ops C n L f (listed.setIfInBounds i true) (a.put oi.dst v) → anyLQ P md ops C n L (f + 1) listed a := by
 intro f
 induction f with
 | zero =>
  intro listed a inv _ hr hy H
  have hun := (mem_ready.1 hr).1
  refine ⟨fun h => (by rw [h] at hr;cases hr),fun j hj => ?_⟩
  have hjn : j < n := by
   rcases Nat.lt_or_ge j n with h | h
   ·exact h
   ·exact absurd hj (tail_waits hs hc hn inv _ i rfl hin hun j h)
  refine ⟨hjn, ?_⟩
  by_cases hji : j = i
  ·subst hji;exact hy.qOp hi H
  ·have := hdone _ _ H j (ready_mono hj hji)
   omega
 | succ f ih =>
  intro listed a inv hfree hr hy H
  have hun := (mem_ready.1 hr).1
  refine ⟨fun h => (by rw [h] at hr;cases hr),fun j hj => ?_⟩
  have hjn : j < n := by
   rcases Nat.lt_or_ge j n with h | h
   ·exact h
   ·exact absurd hj (tail_waits hs hc hn inv _ i rfl hin hun j h)
  refine ⟨hjn, ?_⟩
  by_cases hji : j = i
  ·subst hji;exact hy.qOp hi H
  ·have h1 := (H.2 j (ready_mono hj hji)).2
   obtain ⟨hjun,oj,hoj,hall⟩ := mem_ready.1 hj
   have hnot : ∀ e ∈ oj.after,Region.binds md e = true → e.on ≠ i := fun e he hb heq => by
    have h1 := hall e he hb
    rw [heq,getD_both hun] at h1
    cases h1
   have h2 := qOp_put hoj (hfree j oj hoj hji hjun hnot) (fun cs b => hsel i oi cs b hi) (fun cs b => hsel j oj cs b hoj) hy h1
   have hfree' : ∀ k ok,ops[k]? = some ok → k ≠ i → (listed.setIfInBounds j true).getD k true = false →
     (∀ e ∈ ok.after,Region.binds md e = true → e.on ≠ i) → oi.apart ops ok = true := fun k ok hk hki hun hno => by
    refine hfree k ok hk hki ?_ hno
    by_cases hjk : j = k
    ·subst hjk;exact hjun
    ·rw [getD_set_ne true hjk] at hun;exact hun
   refine qOp_mono (fun a' h3 => ih (listed.setIfInBounds j true) a' (inv.set hj hjn) hfree' (ready_mono hr (Ne.symm hji)) h3.1 ?_) h2
   rw [Array.setIfInBounds_comm _ _ hji]
   exact h3.2
theorem anyLQ_lex {n g : Nat} {Lq : Act → Prop} (hsel : Region.noSelect ops = true) (hs : Region.sinkB md ops n = true) (hc : Region.chainB md ops n = true) (hn : n < ops.size) :
  ∀ (l : List Oper) (k : Nat) (listed : Array Bool) (a : Act),(∀ j,j < l.length → l[j]? = ops[k + j]?) → k + l.length = n → HeadInv md ops n listed →
  Region.lexHead md ops g l.length k listed = true → wpQuiet P ops C Lq l a →
  anyLQ P md ops C n (fun listed' a' => Region.seqB md ops g n listed' = true ∧ Lq a') l.length listed a
 | [],k,listed,a,_,hk,_,hB,h => by
  have : k = n := by simpa using hk
  subst this
  exact ⟨by simpa [Region.lexHead] using hB,h⟩
 | o :: l,k,listed,a,hl,hk,inv,hB,h => by
  have h0 : ops[k]? = some o := by simpa using (hl 0 (by simp)).symm
  simp only [List.length_cons,Region.lexHead,Bool.and_eq_true] at hB
  obtain ⟨⟨hr,hf⟩,hB'⟩ := hB
  have hkn : k < n := by simp only [List.length_cons] at hk;omega
  have hr' : k ∈ Region.ready md ops listed := by simpa using hr
  have hst : qOp P ops C k (wpQuiet P ops C Lq l) a := by unfold qOp;simp only [h0];exact h
  obtain ⟨v,hy,hK⟩ := yieldsIn_of_qOp h0 hst
  exact anyLQ_first h0 (Region.noSelect_spec hsel) hs hc hn hkn (fun listed' a' hL => seqB_ready hL.1) l.length listed a inv (Region.free_spec h0 hf) hr' hy
   (anyLQ_lex hsel hs hc hn l (k + 1) _ _ (fun j hj => by have := hl (j + 1) (by simp;omega);simpa [Nat.add_assoc,Nat.add_comm 1 j] using this) (by simp only [List.length_cons] at hk;omega) (inv.set hr' hkn) hB' hK)
theorem wp_region_quiet_tail {id : Nat} {Q : Exit → Act → World → Prop} {a : Act} {w : World} {l : List Oper} (n : Nat) (hm : P.follows .mixedOrders = true) (hB : Region.lexTailB .any l.toArray n = true)
  (h : wpQuiet P l.toArray (fun w' => ∃ p : Regrown,w' = grow (redrawn w p.d) p.os) (fun a' => ∀ w',(∃ p : Regrown,w' = grow (redrawn w p.d) p.os) → wpList P l.toArray Q (l.drop n) a' w') (l.take n) a) : (Code.region id l.toArray true).wp P Q a w := by
 simp only [Region.lexTailB,Bool.and_eq_true,decide_eq_true_eq] at hB
 obtain ⟨⟨⟨⟨hsel,hn⟩,hs⟩,hc⟩,hlex⟩ := hB
 have hn' : n < l.length := by simpa using hn
 have htl : (l.take n).length = n := by simp;omega
 have hdl : (l.drop n).length = l.toArray.size - n := by simp
 have inv0 : HeadInv .any l.toArray n (Array.replicate l.toArray.size false) :=
  ⟨by simp,fun j oj _ hl => (by rw [getD_replicate_false] at hl;cases hl),fun t _ ht => getD_in (by simpa using ht) (getD_replicate_false _ _)⟩
 have H := anyLQ_lex (md := .any) (g := l.toArray.size - n) hsel hs hc hn (l.take n) 0 _ a (fun j hj => by
  have hj' : j < n := by rw [htl] at hj;exact hj
  simp [hj']) (by simpa using htl) inv0 (by rw [htl];exact hlex) h
 refine wp_region_any hm ?_
 have := any_of_head (Q' := Q) (g := l.toArray.size - n) (fun listed a' w' hw' hL => by
  have := wpAny_of_seq (md := .any) (Q' := Q) (l.drop n) n listed a' w' (fun j => by simp [List.getElem?_drop]) (by rw [hdl];exact hL.1) (hL.2 w' hw')
  rwa [hdl] at this) _ _ _ { w with drawn := w.drawn + 1 } ⟨⟨w.drawn + 1,#[]⟩,by rw [grow_empty];rfl⟩ H
 rw [htl,show n + (l.toArray.size - n) = l.toArray.size by omega] at this
 exact this
end
end Go.Proofs.YtcjjoabofecjmaaGreat
namespace Go.Proofs.YtcjjoabofecjmaaGreat
open Go.RowKit Go.Sort
open Go.Value (int)
section
variable {P : Program} {ops : Array Oper} {md : Region.Mode} {Q : Exit → Act → World → Prop} {S : World → Prop}
def anyTH (P : Program) (md : Region.Mode) (ops : Array Oper) (Q : Exit → Act → World → Prop) (S : World → Prop) (n : Nat) (L : Array Bool → Act → World → Prop) : Nat → Array Bool → Act → World → Prop
 | 0,listed,a,w => L listed a w
 | f + 1,listed,a,w => Region.ready md ops listed ≠ [] ∧ ∀ i ∈ Region.ready md ops listed,i < n ∧ wpOp P ops Q i (fun a' w' => S w' ∧ anyTH P md ops Q S n L f (listed.setIfInBounds i true) a' w') a w
theorem any_of_th {n g : Nat} {L : Array Bool → Act → World → Prop} (hL : ∀ listed a w,L listed a w → wpAny P md ops Q g listed a w) :
  ∀ (f : Nat) (listed : Array Bool) (a : Act) (w : World),anyTH P md ops Q S n L f listed a w → wpAny P md ops Q (f + g) listed a w
 | 0,listed,a,w,h => by rw [Nat.zero_add];exact hL _ _ _ h
 | f + 1,listed,a,w,h => by
  rw [show f + 1 + g = (f + g) + 1 by omega]
  exact ⟨fun h0 => absurd h0 h.1,fun i hi => wpOp_mono (fun a' w' h' => any_of_th hL f _ a' w' h'.2) (h.2 i hi).2⟩
theorem anyTH_first {n i : Nat} {oi : Oper} {v : Value} {L : Array Bool → Act → World → Prop} (hi : ops[i]? = some oi) (hsel : ∀ (j : Nat) (o : Oper) cs b,ops[j]? = some o → o.op ≠ .select cs b)
  (hQ : ∀ c a w,Q (.panic c) (a.put oi.dst v) w → Q (.panic c) a w)
  (hs : Region.sinkB md ops n = true) (hc : Region.chainB md ops n = true) (hn : n < ops.size) (hin : i < n) (hL : ∀ listed a w,L listed a w → ∀ j ∈ Region.ready md ops listed,n ≤ j) :
  ∀ (f : Nat) (listed : Array Bool) (a : Act) (w : World),HeadInv md ops n listed →
   (∀ j oj,ops[j]? = some oj → j ≠ i → listed.getD j true = false → (∀ e ∈ oj.after,Region.binds md e = true → e.on ≠ i) → oi.apart ops oj = true) →
   i ∈ Region.ready md ops listed → YieldsIf P ops S oi v a → S w →
   anyTH P md ops Q S n L f (listed.setIfInBounds i true) (a.put oi.dst v) w → anyTH P md ops Q S n L (f + 1) listed a w := by
 intro f
 induction f with
 | zero =>
  intro listed a w inv _ hr hy hS H
  have hun := (mem_ready.1 hr).1
  refine ⟨fun h => (by rw [h] at hr;cases hr),fun j hj => ?_⟩
  have hjn : j < n := by
   rcases Nat.lt_or_ge j n with h | h
   ·exact h
   ·exact absurd hj (tail_waits hs hc hn inv _ i rfl hin hun j h)
  refine ⟨hjn, ?_⟩
  by_cases hji : j = i
  ·subst hji;exact hy.wpOp hi hS ⟨hS,H⟩
  ·have := hL _ _ _ H j (ready_mono hj hji)
   omega
 | succ f ih =>
  intro listed a w inv hfree hr hy hS H
  have hun := (mem_ready.1 hr).1
  refine ⟨fun h => (by rw [h] at hr;cases hr),fun j hj => ?_⟩
  have hjn : j < n := by
   rcases Nat.lt_or_ge j n with h | h
   ·exact h
   ·exact absurd hj (tail_waits hs hc hn inv _ i rfl hin hun j h)
  refine ⟨hjn, ?_⟩
  by_cases hji : j = i
  ·subst hji;exact hy.wpOp hi hS ⟨hS,H⟩
  ·have h1 := (H.2 j (ready_mono hj hji)).2
   obtain ⟨hjun,oj,hoj,hall⟩ := mem_ready.1 hj
   have hnot : ∀ e ∈ oj.after,Region.binds md e = true → e.on ≠ i := fun e he hb heq => by
    have h1 := hall e he hb
    rw [heq,getD_both hun] at h1
    cases h1
   have h2 := wpOp_putIf hoj (hfree j oj hoj hji hjun hnot) (fun cs b => hsel i oi cs b hi) (fun cs b => hsel j oj cs b hoj) hQ hy h1
   have hfree' : ∀ k ok,ops[k]? = some ok → k ≠ i → (listed.setIfInBounds j true).getD k true = false →
     (∀ e ∈ ok.after,Region.binds md e = true → e.on ≠ i) → oi.apart ops ok = true := fun k ok hk hki hun hno => by
    refine hfree k ok hk hki ?_ hno
    by_cases hjk : j = k
    ·subst hjk;exact hjun
    ·rw [getD_set_ne true hjk] at hun;exact hun
   refine wpOp_mono (fun a' w' h3 => ⟨h3.2.1,ih (listed.setIfInBounds j true) a' w' (inv.set hj hjn) hfree' (ready_mono hr (Ne.symm hji)) h3.1 h3.2.1 ?_⟩) h2
   rw [Array.setIfInBounds_comm _ _ hji]
   exact h3.2.2
def TailL (P : Program) (md : Region.Mode) (ops : Array Oper) (Q : Exit → Act → World → Prop) (l : List Oper) (g n : Nat) (listed : Array Bool) (a : Act) (w : World) : Prop := Region.seqB md ops g n listed = true ∧ wpList P ops Q l a w
def THeld (P : Program) (ops : Array Oper) (Q : Exit → Act → World → Prop) (S : World → Prop) (l : List Oper) (g n f : Nat) (listed : Array Bool) (a : Act) (w : World) : Prop := HeadInv .any ops n listed → anyTH P .any ops Q S n (TailL P .any ops Q l g n) f listed a w
structure TOk (ops : Array Oper) (n : Nat) : Prop where
 sel : Region.noSelect ops = true
 sink : Region.sinkB .any ops n = true
 chain : Region.chainB .any ops n = true
 lt : n < ops.size
theorem th_take {n g f i : Nat} {oi : Oper} {v : Value} {l : List Oper} {listed : Array Bool} {a : Act} {w : World} (T : TOk ops n) (hi : ops[i]? = some oi) (hin : i < n) (hf : Region.free .any ops listed i = true) (hr : (Region.ready .any ops listed).contains i = true)
  (hQ : ∀ c a w,Q (.panic c) (a.put oi.dst v) w → Q (.panic c) a w) (hy : YieldsIf P ops S oi v a) (hS : S w)
  (h : THeld P ops Q S l g n f (listed.setIfInBounds i true) (a.put oi.dst v) w) : THeld P ops Q S l g n (f + 1) listed a w := fun inv =>
 anyTH_first hi (Region.noSelect_spec T.sel) hQ T.sink T.chain T.lt hin (fun _ _ _ hL => seqB_ready hL.1) f listed a w inv (Region.free_spec hi hf) (by simpa using hr) hy hS (h (inv.set (by simpa using hr) hin))
theorem th_step {n g f i : Nat} {oi : Oper} {l : List Oper} {listed : Array Bool} {a : Act} {w : World} (hi : ops[i]? = some oi) (hin : i < n) (hr : Region.ready .any ops listed = [i])
  (h : ∀ K' : Act → World → Prop,Shut (∀ a w,S w → (S w → THeld P ops Q S l g n f (listed.setIfInBounds i true) a w) → K' a w) → if Region.wanted oi (yielded ops a.tmps) = true then Oper.wp P oi a w K' Q else K' (a.put oi.dst undef) w) : THeld P ops Q S l g n (f + 1) listed a w := fun inv => by
 refine ⟨by rw [hr];simp,fun j hj => ?_⟩
 rw [hr] at hj
 have : j = i := by simpa using hj
 subst this
 refine ⟨hin, ?_⟩
 have h1 := h (fun a' w' => S w' ∧ anyTH P .any ops Q S n (TailL P .any ops Q l g n) f (listed.setIfInBounds j true) a' w') (fun a' w' hS hh => ⟨hS,hh hS (inv.set (by rw [hr];simp) hin)⟩)
 unfold wpOp
 simp only [hi]
 split
 ·rename_i hw;rw [if_pos hw] at h1;exact .inl h1
 ·rename_i hw;rw [if_neg hw] at h1;exact h1
theorem tht (i : Nat) {n g f : Nat} {oi : Oper} {v : Value} {l : List Oper} {listed : Array Bool} {a : Act} {w : World} (T : TOk ops n)
  (h : THeld P ops Q S l g n f (listed.setIfInBounds i true) (a.put oi.dst v) w)
  (hin : i < n := by decide) (hf : Region.free .any ops listed i = true := by kernel_rfl) (hr : (Region.ready .any ops listed).contains i = true := by kernel_rfl) (hS : S w := by assumption)
  (hi : ops[i]? = some oi := by (simp only [List.getElem?_toArray,List.getElem?_cons_zero,List.getElem?_cons_succ];rfl))
  (hw : Region.wanted oi (yielded ops a.tmps) = true := by exact rfl) (hy : ∀ w,S w → (execOp a.eval oi).run P w = .ok (.value v) w := by (intro w hSw;(try dsimp only at hSw);go_simp) <;> (with_reducible rfl))
  (hQ : ∀ c a w,Q (.panic c) (a.put oi.dst v) w → Q (.panic c) a w := by exact fun _ _ _ h => h) : THeld P ops Q S l g n (f + 1) listed a w :=
 th_take T hi hin hf hr hQ (.inl ⟨hw,hy⟩) hS h
theorem tst (i : Nat) {n g f : Nat} {oi : Oper} {l : List Oper} {listed : Array Bool} {a : Act} {w : World}
  (h : ∀ K' : Act → World → Prop,Shut (∀ a w,S w → (S w → THeld P ops Q S l g n f (listed.setIfInBounds i true) a w) → K' a w) → if Region.wanted oi (yielded ops a.tmps) = true then Oper.wp P oi a w K' Q else K' (a.put oi.dst undef) w)
  (hin : i < n := by decide) (hr : Region.ready .any ops listed = [i] := by kernel_rfl) (hi : ops[i]? = some oi := by (simp only [List.getElem?_toArray,List.getElem?_cons_zero,List.getElem?_cons_succ];rfl)) : THeld P ops Q S l g n (f + 1) listed a w := th_step hi hin hr h
theorem th_done {n g : Nat} {l : List Oper} {listed : Array Bool} {a : Act} {w : World} (hq : Region.seqB .any ops g n listed = true) (h : wpList P ops Q l a w) : THeld P ops Q S l g n 0 listed a w := fun _ => ⟨hq,h⟩
theorem wp_region_th {id : Nat} {a : Act} {w : World} {l : List Oper} (n : Nat) (S : World → Prop) (hm : P.follows .mixedOrders = true) (hsel : Region.noSelect l.toArray = true) (hs : Region.sinkB .any l.toArray n = true) (hc : Region.chainB .any l.toArray n = true) (hn : n < l.length)
  (hS : S w.drew) (h : TOk l.toArray n → S w.drew → THeld P l.toArray Q S (l.drop n) (l.length - n) n n (Array.replicate l.length false) a w.drew) : (Code.region id l.toArray true).wp P Q a w := by
 have T : TOk l.toArray n := ⟨hsel,hs,hc,by simpa using hn⟩
 have inv0 : HeadInv .any l.toArray n (Array.replicate l.length false) :=
  ⟨by simp,fun j oj _ hl => (by rw [getD_replicate_false] at hl;cases hl),fun t _ ht => getD_in (by simpa using ht) (getD_replicate_false _ _)⟩
 have H := h T hS inv0
 refine wp_region_any hm ?_
 have hdl : (l.drop n).length = l.length - n := by simp
 have := any_of_th (g := l.length - n) (fun listed a' w' hL => by
  have := wpAny_of_seq (md := .any) (Q' := Q) (l.drop n) n listed a' w' (fun j => by simp [List.getElem?_drop]) (by rw [hdl];exact hL.1) hL.2
  rwa [hdl] at this) _ _ _ _ H
 rw [show n + (l.length - n) = l.toArray.size by simp;omega] at this
 simpa using this
end
end Go.Proofs.YtcjjoabofecjmaaGreat
namespace Go.Proofs.YtcjjoabofecjmaaGreat
open Go.RowKit
open Go.Value (int)
theorem wpList_load_mid_g {P : Program} {ops : Array Oper} {rest : List Oper} {op : Oper} {a : Act} {w : World} {Q : Exit → Act → World → Prop} (hg : Region.wanted op (yielded ops a.tmps) = true) (ty : TypeId) (x : Operand) (ho : op.op = .load ty x)
  (b o : Nat) (hx : a.eval x = .pointer (some ⟨b,o,none⟩)) (cs : List Value) (d : TypeDesc) (hc : w.rangeAt b o cs)
  (hu : P.underlying ty = some d) (hd : d.isRow = true) (hi : (P.info? ty).map (·.size) = some cs.length)
  (h : wpList P ops Q rest (a.put op.dst (.agg cs.toArray)) w) : wpList P ops Q (op :: rest) a w :=
 wpList_step fun _ hK => by rw [if_pos hg];exact wp_load_mid ty x ho b o hx cs d hc hu hd hi (hK _ _ h)
theorem ldg {P : Program} {ops : Array Oper} {rest : List Oper} {op : Oper} {a : Act} {w : World} {Q : Exit → Act → World → Prop} {ty : TypeId} {d : TypeDesc} (hu : P.underlying ty = some d) {x : Operand} {b o : Nat} {cs : List Value} (hg : Region.wanted op (yielded ops a.tmps) = true) (ho : op.op = .load ty x) (hx : a.eval x = .pointer (some ⟨b,o,none⟩)) (hc : w.rangeAt b o cs)
  (hd : d.isRow = true) (hi : (P.info? ty).map (·.size) = some cs.length) (h : wpList P ops Q rest (a.put op.dst (.agg cs.toArray)) w) : wpList P ops Q (op :: rest) a w :=
 wpList_load_mid_g hg ty x ho b o hx cs d hc hu hd hi h
end Go.Proofs.YtcjjoabofecjmaaGreat
namespace Go.Proofs.YtcjjoabofecjmaaGreat
structure Opd where
 what : Int
 kind : Int
 deriving DecidableEq,Inhabited
structure Shp where
 a : Opd
 b : Opd
 c : Opd
 args : Int
 deriving DecidableEq,Inhabited
def oZ : Opd := ⟨0,0⟩
def oR : Opd := ⟨3,0⟩
def oW : Opd := ⟨4,0⟩
def oO (k : Int) : Opd := ⟨12,k⟩
def oQ (k : Int) : Opd := ⟨k,0⟩
def shpZ : Shp := ⟨oZ,oZ,oZ,0⟩
def groupsS (op : Int) : Option Shp :=
 if op = 3 ∨ op = 4 ∨ op = 5 ∨ op = 6 ∨ op = 7 ∨ op = 8 ∨ op = 9 ∨ op = 10 ∨ op = 11 then some ⟨oW,oR,oR,0⟩
 else if op = 2 ∨ op = 12 then some ⟨oW,oR,oZ,0⟩
 else if op = 16 ∨ op = 20 ∨ op = 21 ∨ op = 40 ∨ op = 41 ∨ op = 43 then some ⟨oR,oZ,oZ,0⟩
 else if op = 18 ∨ op = 19 ∨ op = 37 ∨ op = 38 ∨ op = 39 then some shpZ
 else if op = 50 ∨ op = 52 then some ⟨oO 1,oZ,oZ,0⟩
 else if op = 53 ∨ op = 54 ∨ op = 55 ∨ op = 56 then some ⟨oO 2,oZ,oZ,0⟩
 else if op = 57 ∨ op = 58 ∨ op = 59 then some ⟨oO 3,oZ,oZ,0⟩
 else if op = 60 ∨ op = 62 then some ⟨oO 4,oR,oZ,0⟩
 else if op = 69 ∨ op = 71 then some ⟨oO 7,oZ,oZ,0⟩
 else none
def shapeS (op : Int) : Option Shp :=
 if op = 1 then some ⟨oW,oQ 1,oZ,0⟩
 else if op = 13 then some ⟨oQ 6,oZ,oZ,0⟩
 else if op = 14 then some ⟨oR,oQ 6,oZ,0⟩
 else if op = 15 ∨ op = 34 then some ⟨oW,oQ 8,oZ,1⟩
 else if op = 17 then some ⟨oZ,oQ 9,oZ,1⟩
 else if op = 30 then some ⟨oW,oQ 10,oZ,0⟩
 else if op = 31 then some ⟨oQ 10,oR,oZ,0⟩
 else if op = 32 then some ⟨oW,oQ 11,oR,0⟩
 else if op = 33 then some ⟨oW,oQ 11,oZ,2⟩
 else if op = 35 then some ⟨oQ 5,oQ 5,oQ 7,0⟩
 else if op = 36 then some ⟨oW,oZ,oZ,0⟩
 else if op = 42 then some ⟨oQ 2,oR,oZ,0⟩
 else if op = 51 then some ⟨oW,oO 1,oZ,0⟩
 else if op = 61 then some ⟨oW,oO 4,oR,0⟩
 else if op = 63 then some ⟨oW,oO 5,oZ,0⟩
 else if op = 64 then some ⟨oO 6,oR,oZ,0⟩
 else if op = 65 then some ⟨oW,oO 6,oW,0⟩
 else if op = 66 then some ⟨oO 6,oZ,oZ,0⟩
 else if op = 67 then some ⟨oW,oW,oW,3⟩
 else if op = 68 then some ⟨oO 7,oR,oZ,0⟩
 else if op = 70 then some ⟨oW,oO 7,oZ,0⟩
 else if op = 72 then some ⟨oO 8,oR,oZ,0⟩
 else if op = 73 then some ⟨oO 9,oR,oZ,0⟩
 else if op = 74 then some ⟨oW,oO 9,oZ,0⟩
 else groupsS op
def gS (op : Int) : Shp := (groupsS op).getD shpZ
def sS (op : Int) : Shp := (shapeS op).getD shpZ
end Go.Proofs.YtcjjoabofecjmaaGreat
namespace Go.Proofs.YtcjjoabofecjmaaGreat
open Go.RowKit
open Go.Value (int)
def inB (n lo hi : Int) : Bool := decide (lo ≤ n ∧ n ≤ hi)
theorem within_any (n lo hi : Int) (w : World) :
  Calls Tryz.prog 107 #[.int .i64 n,.int .i64 lo,.int .i64 hi] w fun e w' => e = .returned (.bool (inB n lo hi)) ∧ w = w' := by
 go_enter Tryz.func107,Tryz.ntmps107
 go_wp2
 all_goals (go_ret;exact ⟨ret_bool (by unfold inB;simp [*] <;> omega),rfl⟩)
def sizesS (k : Int) : Int × Int := if k = 6 then (0,100) else if k = 4 ∨ k = 5 ∨ k = 7 ∨ k = 8 then (1,100) else (0,0)
theorem sizes_any (k : Int) (w : World) :
  Calls Tryz.prog 104 #[.int .i64 k] w fun e w' => e = .returned (.tuple #[.int .i64 (sizesS k).1,.int .i64 (sizesS k).2]) ∧ w = w' := by
 go_enter Tryz.func104,Tryz.ntmps104
 go_wp2
 all_goals (go_ret2;exact ⟨by simp_all [sizesS],rfl⟩)
def othersS (no : Int) (k : Int) : Int × Int := if k = 3 then (0,no - 1) else if k = 4 then (0,1) else if k = 8 then (1,1099511627776) else (0,0)
theorem others_any (V1 V3 : Value) (ao : Option Addr) (no co : Nat) (k : Int) (w : World) (hno : no ≤ 9223372036854775807) :
  Calls Tryz.prog 105 #[.agg #[V1,.slice ao no co,V3],.int .i64 k] w fun e w' => e = .returned (.tuple #[.int .i64 (othersS no k).1,.int .i64 (othersS no k).2]) ∧ Ext w w' := by
 go_enter Tryz.func105,Tryz.ntmps105
 go_wp2
 all_goals try (go_ret2;exact ⟨by simp_all [othersS],xt⟩)
 go_quiet (fail)
 go_wp2
 all_goals (go_ret2;exact ⟨by simp_all [othersS],xt⟩)
theorem of_any (k : Int) (w : World) :
  Calls Tryz.prog 102 #[.int .i64 k] w fun e w' => e = .returned (.agg #[.int .i64 12,.int .i64 k]) ∧ w.alloc (.cells #[.int .i64 12,.int .i64 k] 106) = w' := by
 go_enter Tryz.func102,Tryz.ntmps102
 go_wp2
 exact bodyPost_ret (v := .agg #[.int .i64 12,.int .i64 k]) (by simp [results,Tryz.results102,go_sem]) rfl ⟨rfl,rfl⟩
def insideS (n len : Int) : Int := if 0 ≤ n ∧ n < len then 0 else 2
theorem inside_any (n len : Int) (w : World) (h1 : -9223372036854775808 < len) (h2 : len ≤ 9223372036854775807) :
  Calls Tryz.prog 164 #[.int .i64 n,.int .i64 len] w fun e w' => e = .returned (.int .i64 (insideS n len)) ∧ w = w' := by
 go_enter Tryz.func164,Tryz.ntmps164
 go_wp2_with (go_at_call 107;refine (within_any _ _ _ _).mono ?_;rintro e w' ⟨rfl,rfl⟩)
 all_goals (go_ret;exact ⟨ret_int (by unfold insideS;unfold inB at *;simp at *;omega),rfl⟩)
end Go.Proofs.YtcjjoabofecjmaaGreat

