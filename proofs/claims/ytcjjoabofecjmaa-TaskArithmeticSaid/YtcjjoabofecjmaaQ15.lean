/- A part of the proof: Whole tasks loaded from and stored into the middle of a bloc. -/
import Derived.Test.YtcjjoabofecjmaaQ14
import Derived.Deep.MidRow
set_option linter.unusedVariables false
set_option linter.unusedSimpArgs false
set_option maxHeartbeats 16000000
namespace Go.Proofs.Ytcjjoabofecjmaa
open Go.RowKit
open Go.Value (int)
theorem infoTsk : (Try.prog.info? 44).map (·.size) = some 14 := by kernel_rfl
theorem range_new {w : World} {b : Nat} {cs : List Value} {t : TypeId} (hb : b = w.heap.size) : (w.alloc (.cells cs.toArray t)).rangeAt b 0 cs := fun j v hj => by
 subst hb
 rw [cell?_alloc_if,if_neg (Nat.lt_irrefl _),if_pos rfl,Nat.zero_add]
 simpa using hj
theorem range_old {w : World} {b o : Nat} {cs : List Value} (h : w.rangeAt b o cs) (ob : Obj) : (w.alloc ob).rangeAt b o cs := World.rangeAt_alloc h ob
theorem range_ext {w W : World} {b o : Nat} {cs : List Value} (h : w.rangeAt b o cs) (he : Ext w W) : W.rangeAt b o cs := fun j v hj => he.cell (h j v hj)
theorem range_same {w : World} {b k : Nat} {cs : List Value} {u : Value} (h : w.rangeAt b 0 cs) : (w.setCell ⟨b,k,none⟩ u).rangeAt b 0 (cs.set k u) := fun j v hj => by
 rw [cell?_setCell_if,List.getElem?_set] at *
 rw [Nat.zero_add]
 split at hj
 ·rename_i e
  subst e
  split at hj
  ·rename_i hlt
   rw [if_pos ⟨rfl,rfl⟩]
   have := h k _ (List.getElem?_eq_getElem hlt)
   rw [Nat.zero_add] at this
   rw [this];simpa using hj
  ·cases hj
 ·rename_i e
  rw [if_neg (fun h => e h.2)]
  have := h j v hj
  rwa [Nat.zero_add] at this
theorem range_at {w : World} {b o k : Nat} {cs : List Value} {u : Value} (h : w.rangeAt b o cs) (hk : o ≤ k) : (w.setCell ⟨b,k,none⟩ u).rangeAt b o (cs.set (k - o) u) := fun j v hj => by
 rw [cell?_setCell_if,List.getElem?_set] at *
 split at hj
 ·rename_i e
  subst e
  split at hj
  ·rename_i hlt
   have e2 : o + (k - o) = k := by omega
   rw [if_pos ⟨rfl,e2.symm⟩]
   have := h (k - o) _ (List.getElem?_eq_getElem hlt)
   rw [this];simpa using hj
  ·cases hj
 ·rename_i e
  rw [if_neg (fun h => e (by omega))]
  exact h j v hj
theorem range_other {w : World} {b o : Nat} {cs : List Value} {p : Addr} {u : Value} (h : w.rangeAt b o cs) (hb : ¬ p.block = b) : (w.setCell p u).rangeAt b o cs := fun j v hj => by
 rw [World.cell?_setCell_other]
 ·exact h j v hj
 ·intro e;exact hb (by rw [e])
theorem range_drew {w : World} {b o : Nat} {cs : List Value} (h : w.rangeAt b o cs) : w.drew.rangeAt b o cs := (World.rangeAt_drew w b o cs).2 h
theorem there_new {w : World} {b n : Nat} {cs : Array Value} {t : TypeId} (hb : b = w.heap.size) (hn : n = cs.size) : (w.alloc (.cells cs t)).there b 0 n := fun j hj => by
 subst hb hn
 rw [cell?_alloc_if,if_neg (Nat.lt_irrefl _),if_pos rfl,Nat.zero_add,frozen?_alloc_if,if_neg (Nat.lt_irrefl _)]
 exact ⟨by rw [Array.getElem?_eq_getElem hj];rfl,rfl⟩
theorem there_old {w : World} {b o n : Nat} (h : w.there b o n) (ob : Obj) : (w.alloc ob).there b o n := World.there_alloc h ob
theorem there_ext {w W : World} {b o n : Nat} (h : w.there b o n) (he : Ext w W) : W.there b o n := fun j hj => by
 obtain ⟨h1,h2⟩ := h j hj
 cases hc : w.cell? ⟨b,o + j,none⟩ with
 | none => rw [hc] at h1;cases h1
 | some v => exact ⟨by rw [he.cell hc];rfl,by rw [Below.frozen he (lt_of_cell hc)];exact h2⟩
theorem there_set {w : World} {b o n : Nat} {p : Addr} {u : Value} (h : w.there b o n) : (w.setCell p u).there b o n := fun j hj => by
 obtain ⟨h1,h2⟩ := h j hj
 refine ⟨?_,by rw [World.frozen?_setCell];exact h2⟩
 cases hc : w.cell? ⟨b,o + j,none⟩ with
 | none => rw [hc] at h1;cases h1
 | some v =>
  by_cases e : p = ⟨b,o + j,none⟩
  ·rw [e,World.cell?_setCell_same w _ _ hc];rfl
  ·rw [World.cell?_setCell_other _ _ _ _ e,hc];rfl
theorem there_sets {w : World} {b o n b' o' : Nat} {vs : List Value} (h : w.there b o n) : (w.setCells b' o' vs).there b o n := World.there_setCells h b' o' vs
theorem there_drew {w : World} {b o n : Nat} (h : w.there b o n) : w.drew.there b o n := (World.there_drew w b o n).2 h
theorem setCells_grown (b : Nat) : ∀ (vs : List Value) (o : Nat) (w : World),w.grownBy (w.setCells b o vs) (some b)
 | [],o,w => World.grownBy.refl _ _
 | v :: vs,o,w => (grown_setCell w ⟨b,o,none⟩ v).trans (setCells_grown b vs (o + 1) _)
theorem Ext.setCells {w W : World} (h : Ext w W) {b : Nat} (hb : w.heap.size ≤ b) (o : Nat) (vs : List Value) : Ext w (W.setCells b o vs) := by
 induction vs generalizing W o with
 | nil => exact h
 | cons v vs ih => exact ih (h.setCell hb v) (o + 1)
theorem setCells_size (b : Nat) : ∀ (vs : List Value) (o : Nat) (w : World),(w.setCells b o vs).heap.size = w.heap.size
 | [],_,_ => rfl
 | v :: vs,o,w => (setCells_size b vs (o + 1) (w.setCell ⟨b,o,none⟩ v)).trans (World.size_setCell _ _ _)
theorem own_setCell {w : World} {B : Nat} {e : TypeId} {sz : Nat} {v : Value} {n : Nat} {xs : List Value} {p : Addr} {u : Value} (h : w.ownsRow B e sz v n xs) (hp : p.block < B) : (w.setCell p u).ownsRow B e sz v n xs :=
 h.kept (grown_setCell _ _ _) (own_ne h hp)
theorem own_setCells {w : World} {B : Nat} {e : TypeId} {sz : Nat} {v : Value} {n : Nat} {xs : List Value} {b o : Nat} {vs : List Value} (h : w.ownsRow B e sz v n xs) (hp : b < B) : (w.setCells b o vs).ownsRow B e sz v n xs :=
 h.kept (setCells_grown _ _ _ _) (own_ne h hp)
theorem xts {w W : World} (h : Ext w W := by repeat' (first | with_reducible assumption | with_reducible refine Ext.setCells ?_ (by first | omega | (simp;done) | (simp;omega)) _ _ | with_reducible exact Ext.refl _ | with_reducible refine Ext.alloc ?_ _ | with_reducible refine Ext.drew ?_ | with_reducible refine Ext.drewN ?_ _ | with_reducible refine Ext.regrown ?_ _ _ | with_reducible refine Ext.setCell ?_ (by first | (simp;done) | (simp;omega)) _)) : Ext w W := h
theorem tr {w : World} {b o n : Nat} (h : w.there b o n := by (repeat' (first | with_reducible assumption | ((with_reducible apply there_new) <;> (simp;done)) | with_reducible apply there_old | with_reducible apply there_drew | with_reducible apply there_set | with_reducible apply there_sets | assumption))) : w.there b o n := h
theorem rg {w : World} {b o : Nat} {cs : List Value} (h : w.rangeAt b o cs := by (repeat' (first | with_reducible assumption | ((with_reducible apply range_new);simp;done) | with_reducible apply range_old | with_reducible apply range_drew | ((with_reducible apply World.rangeAt_setCells_same) <;> (repeat' (first | with_reducible assumption | ((with_reducible apply there_new) <;> (simp;done)) | with_reducible apply there_old | with_reducible apply there_drew | with_reducible apply there_set | with_reducible apply there_sets | assumption))) | with_reducible apply range_same | ((with_reducible apply range_at) <;> first | omega | skip) | ((with_reducible apply range_other) <;> first | (simp;omega) | skip)))) : w.rangeAt b o cs := h
theorem ret_range2 {fn : Func} {R : Ending → World → Prop} {a : Act} {w : World} {b s k : Nat} {cs : List Value} {v : Value} (hfn : fn.results = #[ResultVar.cell s 44,ResultVar.tmp k]) (hs : a.tmps[s]? = some (.pointer (some ⟨b,0,none⟩))) (hk : a.tmps[k]? = some v) (hd : a.defers = []) (hl : cs.length = 14) (hR : w.rangeAt b 0 cs)
  (h : R (.returned (.tuple #[.agg cs.toArray,v])) w) : bodyPost Try.prog fn R .ret a w :=
 bodyPost_ret (by simp [results,hfn,hs,hk,asAddr,run_loadVar_mid w b 0 44 cs _ hR Try.underlying44 rfl (by rw [infoTsk,hl])]) hd h
def tskL (t : Tsk) (VF VB : Value) : List Value := [int .i64 t.fn,int .i64 t.scope,int .i64 t.prio,int .i64 t.status,int .i64 t.wkind,int .i64 t.windex,.bool t.wagain,VF,VB,int .i64 t.mask,.bool t.unw,int .i64 t.level,int .i64 t.reason,int .i64 t.result]
theorem rtsk_of {W : World} {t : Tsk} {Af Ab : Option Addr} {nf cf nb cb : Nat} (hi : InR t.fn ∧ InR t.scope ∧ InR t.prio ∧ InR t.status ∧ InR t.wkind ∧ InR t.windex ∧ InR t.mask ∧ InR t.level ∧ InR t.reason ∧ InR t.result)
  (hF : RSl 5 RFrm W Af nf t.frames) (hc : nf ≤ cf) (hB : RSl 5 RBlk W Ab nb t.blocks) (hcb : nb ≤ cb) : RTsk W t (tskV t (.slice Af nf cf) (.slice Ab nb cb)) :=
 ⟨Af,nf,cf,Ab,nb,cb,rfl,hi.1,hi.2.1,hi.2.2.1,hi.2.2.2.1,hi.2.2.2.2.1,hi.2.2.2.2.2.1,hi.2.2.2.2.2.2.1,hi.2.2.2.2.2.2.2.1,hi.2.2.2.2.2.2.2.2.1,hi.2.2.2.2.2.2.2.2.2,hF,hB,hc,hcb⟩
theorem RTsk.inr {w : World} {t : Tsk} {V : Value} (h : RTsk w t V) : InR t.fn ∧ InR t.scope ∧ InR t.prio ∧ InR t.status ∧ InR t.wkind ∧ InR t.windex ∧ InR t.mask ∧ InR t.level ∧ InR t.reason ∧ InR t.result := by
 obtain ⟨_,_,_,_,_,_,_,h1,h2,h3,h4,h5,h6,h7,h8,h9,h10,_⟩ := h
 exact ⟨h1,h2,h3,h4,h5,h6,h7,h8,h9,h10⟩
theorem il {P : Program} {ops : Array Oper} {rest : List Oper} {a : Act} {w : World} {Q : Exit → Act → World → Prop} {dst : Option Nat} {x : Operand} {t : TypeId} {ps : String} {af : Array Edge} (ty : TypeId) (h : wpList P ops Q ({ dst := dst,op := Op.load ty x,type := t,pos := ps,after := af,guard := none } :: rest) a w) : wpList P ops Q ({ dst := dst,op := Op.load ty x,type := t,pos := ps,after := af,guard := none } :: rest) a w := h
theorem ig {P : Program} {ops : Array Oper} {rest : List Oper} {a : Act} {w : World} {Q : Exit → Act → World → Prop} {dst : Option Nat} {x : Operand} {t : TypeId} {ps : String} {af : Array Edge} {g : Nat × Bool} (ty : TypeId) (h : wpList P ops Q ({ dst := dst,op := Op.load ty x,type := t,pos := ps,after := af,guard := some g } :: rest) a w) : wpList P ops Q ({ dst := dst,op := Op.load ty x,type := t,pos := ps,after := af,guard := some g } :: rest) a w := h
theorem ik {P : Program} {ops : Array Oper} {rest : List Oper} {a : Act} {w : World} {Q : Exit → Act → World → Prop} {dst : Option Nat} {x y : Operand} {t : TypeId} {ps : String} {af : Array Edge} (ty : TypeId) (h : wpList P ops Q ({ dst := dst,op := Op.store ty x y,type := t,pos := ps,after := af,guard := none } :: rest) a w) : wpList P ops Q ({ dst := dst,op := Op.store ty x y,type := t,pos := ps,after := af,guard := none } :: rest) a w := h
theorem jl {P : Program} {n : Nat} {rest : List Oper} {a : Act} {w : World} {Q : Exit → Act → World → Prop} {dst : Option Nat} {x : Operand} {t : TypeId} {ps : String} {af : Array Edge} (ty : TypeId) (h : wpList P (List.toArray ({ dst := dst,op := Op.load ty x,type := t,pos := ps,after := af,guard := none } :: rest)) Q ({ dst := dst,op := Op.load ty x,type := t,pos := ps,after := af,guard := none } :: rest) a w) : Code.wp P (Code.region n (List.toArray ({ dst := dst,op := Op.load ty x,type := t,pos := ps,after := af,guard := none } :: rest)) false) Q a w := wp_region_lit h
theorem jk {P : Program} {n : Nat} {rest : List Oper} {a : Act} {w : World} {Q : Exit → Act → World → Prop} {dst : Option Nat} {x y : Operand} {t : TypeId} {ps : String} {af : Array Edge} (ty : TypeId) (h : wpList P (List.toArray ({ dst := dst,op := Op.store ty x y,type := t,pos := ps,after := af,guard := none } :: rest)) Q ({ dst := dst,op := Op.store ty x y,type := t,pos := ps,after := af,guard := none } :: rest) a w) : Code.wp P (Code.region n (List.toArray ({ dst := dst,op := Op.store ty x y,type := t,pos := ps,after := af,guard := none } :: rest)) false) Q a w := wp_region_lit h
theorem ldm {P : Program} {ops : Array Oper} {rest : List Oper} {op : Oper} {a : Act} {w : World} {Q : Exit → Act → World → Prop} {ty : TypeId} {d : TypeDesc} (hu : P.underlying ty = some d) {x : Operand} {b o : Nat} {cs : List Value} (hgd : op.guard = none) (ho : op.op = .load ty x) (hx : a.eval x = .pointer (some ⟨b,o,none⟩)) (hc : w.rangeAt b o cs)
  (hd : d.isRow = true) (hi : (P.info? ty).map (·.size) = some cs.length) (h : wpList P ops Q rest (a.put op.dst (.agg cs.toArray)) w) : wpList P ops Q (op :: rest) a w :=
 wpList_load_mid hgd ty x ho b o hx cs d hc hu hd hi h
theorem stm {P : Program} {ops : Array Oper} {rest : List Oper} {op : Oper} {a : Act} {w : World} {Q : Exit → Act → World → Prop} {ty : TypeId} {x y : Operand} {b o : Nat} {cells : Array Value} (hgd : op.guard = none) (ho : op.op = .store ty x y) (hx : a.eval x = .pointer (some ⟨b,o,none⟩)) (hy : a.eval y = .agg cells)
  (ht : w.there b o cells.size) (hi : (P.info? ty).map (·.size) = some cells.size) (h1 : cells.all (·.oneCell') = true) (h : wpList P ops Q rest (a.put op.dst undef) (w.setCells b o cells.toList)) : wpList P ops Q (op :: rest) a w :=
 wpList_store_mid hgd ty x y ho b o cells hx hy ht hi h1 h
end Go.Proofs.Ytcjjoabofecjmaa
namespace Go.Proofs.Ytcjjoabofecjmaa
open Go.RowKit Go.Sort
open Go.Value (int)
section
variable {P : Program} {ops : Array Oper} {md : Region.Mode} {C : World → Prop}
def PansIn (P : Program) (ops : Array Oper) (C : World → Prop) (o : Oper) (chain : List PanicEntry) (a : Act) : Prop :=
 a.defers = [] ∧ Region.wanted o (yielded ops a.tmps) = true ∧ ∀ w,C w → ∃ f args,(execOp a.eval o).run P w = .ok (.enter f args) w ∧ Calls P f args w fun e w' => e = .panicked chain ∧ C w'
theorem PansIn.of_same {o : Oper} {chain : List PanicEntry} {a a' : Act} (hy : PansIn P ops C o chain a) (hd : a'.defers = a.defers) (he : execOp a'.eval o = execOp a.eval o)
  (hw : Region.wanted o (yielded ops a'.tmps) = Region.wanted o (yielded ops a.tmps)) : PansIn P ops C o chain a' := by
 unfold PansIn at *
 rw [he,hw,hd]
 exact hy
def anyPQ (P : Program) (md : Region.Mode) (ops : Array Oper) (C : World → Prop) (n : Nat) (on : Oper) (chain : List PanicEntry) : Nat → Array Bool → Act → Prop
 | 0,listed,a => Region.ready md ops listed = [n] ∧ PansIn P ops C on chain a
 | f + 1,listed,a => Region.ready md ops listed ≠ [] ∧ ∀ i ∈ Region.ready md ops listed,(i = n ∧ PansIn P ops C on chain a) ∨ (i ≠ n ∧ qOp P ops C i (anyPQ P md ops C n on chain f (listed.setIfInBounds i true)) a)
theorem wpOp_of_pans {n : Nat} {on : Oper} {chain : List PanicEntry} {K : Act → World → Prop} {Q' : Exit → Act → World → Prop} {a : Act} {w : World} (hn : ops[n]? = some on) (hw : C w) (h : PansIn P ops C on chain a) (hQ : ∀ a w',a.defers = [] → C w' → Q' (.panic chain) a w') : wpOp P ops Q' n K a w := by
 obtain ⟨hd,h1,h2⟩ := h
 obtain ⟨f,args,hr,hc⟩ := h2 w hw
 unfold wpOp
 simp only [hn,h1,if_true]
 refine .inl ?_
 unfold Oper.wp
 rw [hr]
 simp only [Oper.upon]
 exact hc.mono fun e w' ⟨he,hw'⟩ => by subst he;exact hQ _ w' hd hw'
theorem any_of_pans {n g : Nat} {on : Oper} {chain : List PanicEntry} {Q' : Exit → Act → World → Prop} (hn : ops[n]? = some on) (hQ : ∀ a w',a.defers = [] → C w' → Q' (.panic chain) a w') :
  ∀ (f : Nat) (listed : Array Bool) (a : Act) (w : World),C w → anyPQ P md ops C n on chain f listed a → wpAny P md ops Q' (f + (g + 1)) listed a w
 | 0,listed,a,w,hw,h => by
  rw [Nat.zero_add]
  refine ⟨fun h0 => (by rw [h.1] at h0;cases h0),fun i hi => ?_⟩
  rw [h.1] at hi
  have : i = n := by simpa using hi
  subst this
  exact wpOp_of_pans hn hw h.2 hQ
 | f + 1,listed,a,w,hw,h => by
  rw [show f + 1 + (g + 1) = (f + (g + 1)) + 1 by omega]
  refine ⟨fun h0 => absurd h0 h.1,fun i hi => ?_⟩
  rcases h.2 i hi with ⟨rfl,h1⟩ | ⟨_,h1⟩
  ·exact wpOp_of_pans hn hw h1 hQ
  ·exact wpOp_of_qOp hw (fun a' w' hw' h' => any_of_pans hn hQ f _ a' w' hw' h') h1
theorem anyPQ_first {n i : Nat} {oi on : Oper} {v : Value} {chain : List PanicEntry} (hn : ops[n]? = some on) (hi : ops[i]? = some oi) (hin : i ≠ n) (hsel : ∀ (j : Nat) (o : Oper) cs b,ops[j]? = some o → o.op ≠ .select cs b) :
  ∀ (f : Nat) (listed : Array Bool) (a : Act),
   (∀ j oj,ops[j]? = some oj → j ≠ i → listed.getD j true = false → (∀ e ∈ oj.after,Region.binds md e = true → e.on ≠ i) → oi.apart ops oj = true) →
   i ∈ Region.ready md ops listed → YieldsIn P ops C oi v a →
   anyPQ P md ops C n on chain f (listed.setIfInBounds i true) (a.put oi.dst v) → anyPQ P md ops C n on chain (f + 1) listed a := by
 intro f
 have back : ∀ (listed : Array Bool) (a : Act),(∀ j oj,ops[j]? = some oj → j ≠ i → listed.getD j true = false → (∀ e ∈ oj.after,Region.binds md e = true → e.on ≠ i) → oi.apart ops oj = true) →
   i ∈ Region.ready md ops listed → n ∈ Region.ready md ops listed → PansIn P ops C on chain (a.put oi.dst v) → PansIn P ops C on chain a := fun listed a hfree hr hnr h => by
  have hun := (mem_ready.1 hr).1
  obtain ⟨hjun,oj,hoj,hall⟩ := mem_ready.1 hnr
  have : oj = on := Option.some.inj (hoj.symm.trans hn)
  subst this
  have hnot : ∀ e ∈ oj.after,Region.binds md e = true → e.on ≠ i := fun e he hb heq => by
   have h1 := hall e he hb
   rw [heq,getD_both hun] at h1
   cases h1
  obtain ⟨h1,h2,h3⟩ := Oper.apart_spec (hfree n oj hoj (fun e => hin e.symm) hjun hnot)
  exact h.of_same (by cases oi.dst <;> rfl) (execOp_put oj (fun cs b => hsel n oj cs b hoj) a oi.dst v h1).symm (wanted_put oj a oi.dst v h1).symm
 induction f with
 | zero =>
  intro listed a hfree hr hy H
  refine ⟨fun h => (by rw [h] at hr;cases hr),fun j hj => ?_⟩
  by_cases hji : j = i
  ·subst hji;exact .inr ⟨hin,hy.qOp hi H⟩
  ·have h1 := ready_mono hj hji
   rw [H.1] at h1
   have : j = n := by simpa using h1
   subst this
   exact .inl ⟨rfl,back listed a hfree hr hj H.2⟩
 | succ f ih =>
  intro listed a hfree hr hy H
  have hun := (mem_ready.1 hr).1
  refine ⟨fun h => (by rw [h] at hr;cases hr),fun j hj => ?_⟩
  by_cases hji : j = i
  ·subst hji;exact .inr ⟨hin,hy.qOp hi H⟩
  ·rcases H.2 j (ready_mono hj hji) with ⟨rfl,h1⟩ | ⟨hjn,h1⟩
   ·exact .inl ⟨rfl,back listed a hfree hr hj h1⟩
   ·refine .inr ⟨hjn, ?_⟩
    obtain ⟨hjun,oj,hoj,hall⟩ := mem_ready.1 hj
    have hnot : ∀ e ∈ oj.after,Region.binds md e = true → e.on ≠ i := fun e he hb heq => by
     have h1 := hall e he hb
     rw [heq,getD_both hun] at h1
     cases h1
    have h2 := qOp_put hoj (hfree j oj hoj hji hjun hnot) (fun cs b => hsel i oi cs b hi) (fun cs b => hsel j oj cs b hoj) hy h1
    have hfree' : ∀ k ok,ops[k]? = some ok → k ≠ i → (listed.setIfInBounds j true).getD k true = false →
      (∀ e ∈ ok.after,Region.binds md e = true → e.on ≠ i) → oi.apart ops ok = true := fun k ok hk hki hun hno => by
     refine hfree k ok hk hki ?_ hno
     by_cases hjk : j = k
     ·subst hjk;exact hjun
     ·rw [getD_set_ne true hjk] at hun;exact hun
    refine qOp_mono (fun a' h3 => ih (listed.setIfInBounds j true) a' hfree' (ready_mono hr (Ne.symm hji)) h3.1 ?_) h2
    rw [Array.setIfInBounds_comm _ _ hji]
    exact h3.2
def lexPan (md : Region.Mode) (ops : Array Oper) (n : Nat) : Nat → Nat → Array Bool → Bool
 | 0,_,listed => decide (Region.ready md ops listed = [n])
 | f + 1,k,listed => (Region.ready md ops listed).contains k && Region.free md ops listed k && lexPan md ops n f (k + 1) (listed.setIfInBounds k true)
theorem anyPQ_lex {n : Nat} {on : Oper} {chain : List PanicEntry} (hsel : Region.noSelect ops = true) (hn : ops[n]? = some on) :
  ∀ (l : List Oper) (k : Nat) (listed : Array Bool) (a : Act),(∀ j,j < l.length → l[j]? = ops[k + j]?) → k + l.length = n →
  lexPan md ops n l.length k listed = true → wpQuiet P ops C (PansIn P ops C on chain) l a →
  anyPQ P md ops C n on chain l.length listed a
 | [],k,listed,a,_,hk,hB,h => ⟨by simpa [lexPan] using hB,h⟩
 | o :: l,k,listed,a,hl,hk,hB,h => by
  have h0 : ops[k]? = some o := by simpa using (hl 0 (by simp)).symm
  simp only [List.length_cons,lexPan,Bool.and_eq_true] at hB
  obtain ⟨⟨hr,hf⟩,hB'⟩ := hB
  have hkn : k < n := by simp only [List.length_cons] at hk;omega
  have hst : qOp P ops C k (wpQuiet P ops C (PansIn P ops C on chain) l) a := by unfold qOp;simp only [h0];exact h
  obtain ⟨v,hy,hK⟩ := yieldsIn_of_qOp h0 hst
  exact anyPQ_first hn h0 (by omega) (Region.noSelect_spec hsel) l.length listed a (Region.free_spec h0 hf) (by simpa using hr) hy
   (anyPQ_lex hsel hn l (k + 1) _ _ (fun j hj => by have := hl (j + 1) (by simp;omega);simpa [Nat.add_assoc,Nat.add_comm 1 j] using this) (by simp only [List.length_cons] at hk;omega) hB' hK)
theorem wp_region_panics {id : Nat} {Q : Exit → Act → World → Prop} {a : Act} {w : World} {l : List Oper} (n : Nat) (on : Oper) (chain : List PanicEntry) (hm : P.follows .mixedOrders = true) (hsel : Region.noSelect l.toArray = true) (hn : l[n]? = some on) (hB : lexPan .any l.toArray n n 0 (Array.replicate l.toArray.size false) = true)
  (hQ : ∀ a w',a.defers = [] → (∃ p : Regrown,w' = grow (redrawn w p.d) p.os) → Q (.panic chain) a w')
  (h : wpQuiet P l.toArray (fun w' => ∃ p : Regrown,w' = grow (redrawn w p.d) p.os) (PansIn P l.toArray (fun w' => ∃ p : Regrown,w' = grow (redrawn w p.d) p.os) on chain) (l.take n) a) : (Code.region id l.toArray true).wp P Q a w := by
 have hn' : n < l.length := (List.getElem?_eq_some_iff.1 hn).1
 have htl : (l.take n).length = n := by simp;omega
 have hno : l.toArray[n]? = some on := by simpa using hn
 have H := anyPQ_lex (md := .any) hsel hno (l.take n) 0 _ a (fun j hj => by
  have hj' : j < n := by rw [htl] at hj;exact hj
  simp [hj']) (by simpa using htl) (by rw [htl];exact hB) h
 refine wp_region_any hm ?_
 have := any_of_pans (Q' := Q) (g := l.toArray.size - n - 1) hno hQ _ _ _ { w with drawn := w.drawn + 1 } ⟨⟨w.drawn + 1,#[]⟩,by rw [grow_empty];rfl⟩ H
 rw [htl,show n + (l.toArray.size - n - 1 + 1) = l.toArray.size by simp;omega] at this
 exact this
end
end Go.Proofs.Ytcjjoabofecjmaa
namespace Go.Proofs.Ytcjjoabofecjmaa
open Go.RowKit Go.Sort
open Go.Value (int)
theorem wpQuiet_load_mid {P : Program} {ops : Array Oper} {C : World → Prop} {Q : Act → Prop} {rest : List Oper} {op : Oper} {a : Act} (hg : op.guard = none) (ty : TypeId) (x : Operand) (ho : op.op = .load ty x)
  (b o : Nat) (hx : a.eval x = .pointer (some ⟨b,o,none⟩)) (cs : List Value) (d : TypeDesc) (hc : ∀ w,C w → w.rangeAt b o cs)
  (hu : P.underlying ty = some d) (hd : d.isRow = true) (hi : (P.info? ty).map (·.size) = some cs.length)
  (h : wpQuiet P ops C Q rest (a.put op.dst (.agg cs.toArray))) : wpQuiet P ops C Q (op :: rest) a :=
 wpQuiet_step fun K hK => by
  rw [if_pos (by simp [Region.wanted,hg])]
  refine ⟨.agg cs.toArray,fun w hw => ?_,hK _ h⟩
  unfold Oper.quietAt execOp
  simp only [ho,hx,Instr.loadAt,Instr.sureAddr,Sem.run_bind,Sem.run_pure,Result.andThen_ok,run_loadVar_mid w b o ty cs d (hc w hw) hu hd hi]
  exact ⟨rfl,rfl⟩
theorem range_regrown {W : World} {b o : Nat} {cs : List Value} (h : W.rangeAt b o cs) : ∀ w',(∃ p : Regrown,w' = grow (redrawn W p.d) p.os) → w'.rangeAt b o cs := by
 rintro w' ⟨p,rfl⟩
 exact range_ext h (below_regrown W p.d p.os)
end Go.Proofs.Ytcjjoabofecjmaa
namespace Go.Proofs.Ytcjjoabofecjmaa
open Go.RowKit
open Go.Value (int)
theorem wpList_load_mid_g {P : Program} {ops : Array Oper} {rest : List Oper} {op : Oper} {a : Act} {w : World} {Q : Exit → Act → World → Prop} (hg : Region.wanted op (yielded ops a.tmps) = true) (ty : TypeId) (x : Operand) (ho : op.op = .load ty x)
  (b o : Nat) (hx : a.eval x = .pointer (some ⟨b,o,none⟩)) (cs : List Value) (d : TypeDesc) (hc : w.rangeAt b o cs)
  (hu : P.underlying ty = some d) (hd : d.isRow = true) (hi : (P.info? ty).map (·.size) = some cs.length)
  (h : wpList P ops Q rest (a.put op.dst (.agg cs.toArray)) w) : wpList P ops Q (op :: rest) a w :=
 wpList_step fun _ hK => by rw [if_pos hg];exact wp_load_mid ty x ho b o hx cs d hc hu hd hi (hK _ _ h)
theorem ldg {P : Program} {ops : Array Oper} {rest : List Oper} {op : Oper} {a : Act} {w : World} {Q : Exit → Act → World → Prop} {ty : TypeId} {d : TypeDesc} (hu : P.underlying ty = some d) {x : Operand} {b o : Nat} {cs : List Value} (hg : Region.wanted op (yielded ops a.tmps) = true) (ho : op.op = .load ty x) (hx : a.eval x = .pointer (some ⟨b,o,none⟩)) (hc : w.rangeAt b o cs)
  (hd : d.isRow = true) (hi : (P.info? ty).map (·.size) = some cs.length) (h : wpList P ops Q rest (a.put op.dst (.agg cs.toArray)) w) : wpList P ops Q (op :: rest) a w :=
 wpList_load_mid_g hg ty x ho b o hx cs d hc hu hd hi h
end Go.Proofs.Ytcjjoabofecjmaa

