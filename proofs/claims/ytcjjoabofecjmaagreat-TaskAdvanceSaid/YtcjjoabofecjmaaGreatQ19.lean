/- A part of the proof: A region that draws its order, in which one call panics what. -/
import Derived.Test.YtcjjoabofecjmaaGreatQ08
set_option linter.unusedVariables false
set_option linter.unusedSimpArgs false
set_option maxHeartbeats 16000000
namespace Go.Proofs.YtcjjoabofecjmaaGreat
open Go.RowKit Go.Sort
open Go.Value (int)
section
variable {P : Program} {ops : Array Oper} {md : Region.Mode} {C : World → Prop}
def PansIn (P : Program) (ops : Array Oper) (C : World → Prop) (o : Oper) (chain : List PanicEntry) (a : Act) : Prop :=
 a.defers = [] ∧ Region.wanted o (yielded ops a.tmps) = true ∧ ∀ w,C w → ∃ f args,(execOp a.eval o).run P w = .ok (.enter f args) w ∧ Calls P f args w fun e w' => e = .panicked chain ∧ C w'
theorem PansIn.of_same {o : Oper} {chain : List PanicEntry} {a a' : Act} (hy : PansIn P ops C o chain a) (hd : a'.defers = a.defers) (he : execOp a'.eval o = execOp a.eval o)
  (hw : Region.wanted o (yielded ops a'.tmps) = Region.wanted o (yielded ops a.tmps)) : PansIn P ops C o chain a' := by
 unfold PansIn at *
 rw [he,hw,hd]
 exact hy
def anyPQ (P : Program) (md : Region.Mode) (ops : Array Oper) (C : World → Prop) (n : Nat) (on : Oper) (chain : List PanicEntry) : Nat → Array Bool → Act → Prop
 | 0,listed,a => Region.ready md ops listed = [n] ∧ PansIn P ops C on chain a
 | f + 1,listed,a => Region.ready md ops listed ≠ [] ∧ ∀ i ∈ Region.ready md ops listed,(i = n ∧ PansIn P ops C on chain a) ∨ (i ≠ n ∧ qOp P ops C i (anyPQ P md ops C n on chain f (listed.setIfInBounds i true)) a)
theorem wpOp_of_pans {n : Nat} {on : Oper} {chain : List PanicEntry} {K : Act → World → Prop} {Q' : Exit → Act → World → Prop} {a : Act} {w : World} (hn : ops[n]? = some on) (hw : C w) (h : PansIn P ops C on chain a) (hQ : ∀ a w',a.defers = [] → C w' → Q' (.panic chain) a w') : wpOp P ops Q' n K a w := by
 obtain ⟨hd,h1,h2⟩ := h
 obtain ⟨f,args,hr,hc⟩ := h2 w hw
 unfold wpOp
 simp only [hn,h1,if_true]
 refine .inl ?_
 unfold Oper.wp
 rw [hr]
 simp only [Oper.upon]
 exact hc.mono fun e w' ⟨he,hw'⟩ => by subst he;exact hQ _ w' hd hw'
theorem any_of_pans {n g : Nat} {on : Oper} {chain : List PanicEntry} {Q' : Exit → Act → World → Prop} (hn : ops[n]? = some on) (hQ : ∀ a w',a.defers = [] → C w' → Q' (.panic chain) a w') :
  ∀ (f : Nat) (listed : Array Bool) (a : Act) (w : World),C w → anyPQ P md ops C n on chain f listed a → wpAny P md ops Q' (f + (g + 1)) listed a w
 | 0,listed,a,w,hw,h => by
  rw [Nat.zero_add]
  refine ⟨fun h0 => (by rw [h.1] at h0;cases h0),fun i hi => ?_⟩
  rw [h.1] at hi
  have : i = n := by simpa using hi
  subst this
  exact wpOp_of_pans hn hw h.2 hQ
 | f + 1,listed,a,w,hw,h => by
  rw [show f + 1 + (g + 1) = (f + (g + 1)) + 1 by omega]
  refine ⟨fun h0 => absurd h0 h.1,fun i hi => ?_⟩
  rcases h.2 i hi with ⟨rfl,h1⟩ | ⟨_,h1⟩
  ·exact wpOp_of_pans hn hw h1 hQ
  ·exact wpOp_of_qOp hw (fun a' w' hw' h' => any_of_pans hn hQ f _ a' w' hw' h') h1
theorem anyPQ_first {n i : Nat} {oi on : Oper} {v : Value} {chain : List PanicEntry} (hn : ops[n]? = some on) (hi : ops[i]? = some oi) (hin : i ≠ n) (hsel : ∀ (j : Nat) (o : Oper) cs b,ops[j]? = some o → o.op ≠ .select cs b) :
  ∀ (f : Nat) (listed : Array Bool) (a : Act),
   (∀ j oj,ops[j]? = some oj → j ≠ i → listed.getD j true = false → (∀ e ∈ oj.after,Region.binds md e = true → e.on ≠ i) → oi.apart ops oj = true) →
   i ∈ Region.ready md ops listed → YieldsIn P ops C oi v a →
   anyPQ P md ops C n on chain f (listed.setIfInBounds i true) (a.put oi.dst v) → anyPQ P md ops C n on chain (f + 1) listed a := by
 intro f
 have back : ∀ (listed : Array Bool) (a : Act),(∀ j oj,ops[j]? = some oj → j ≠ i → listed.getD j true = false → (∀ e ∈ oj.after,Region.binds md e = true → e.on ≠ i) → oi.apart ops oj = true) →
   i ∈ Region.ready md ops listed → n ∈ Region.ready md ops listed → PansIn P ops C on chain (a.put oi.dst v) → PansIn P ops C on chain a := fun listed a hfree hr hnr h => by
  have hun := (mem_ready.1 hr).1
  obtain ⟨hjun,oj,hoj,hall⟩ := mem_ready.1 hnr
  have : oj = on := Option.some.inj (hoj.symm.trans hn)
  subst this
  have hnot : ∀ e ∈ oj.after,Region.binds md e = true → e.on ≠ i := fun e he hb heq => by
   have h1 := hall e he hb
   rw [heq,getD_both hun] at h1
   cases h1
  obtain ⟨h1,h2,h3⟩ := Oper.apart_spec (hfree n oj hoj (fun e => hin e.symm) hjun hnot)
  exact h.of_same (by cases oi.dst <;> rfl) (execOp_put oj (fun cs b => hsel n oj cs b hoj) a oi.dst v h1).symm (wanted_put oj a oi.dst v h1).symm
 induction f with
 | zero =>
  intro listed a hfree hr hy H
  refine ⟨fun h => (by rw [h] at hr;cases hr),fun j hj => ?_⟩
  by_cases hji : j = i
  ·subst hji;exact .inr ⟨hin,hy.qOp hi H⟩
  ·have h1 := ready_mono hj hji
   rw [H.1] at h1
   have : j = n := by simpa using h1
   subst this
   exact .inl ⟨rfl,back listed a hfree hr hj H.2⟩
 | succ f ih =>
  intro listed a hfree hr hy H
  have hun := (mem_ready.1 hr).1
  refine ⟨fun h => (by rw [h] at hr;cases hr),fun j hj => ?_⟩
  by_cases hji : j = i
  ·subst hji;exact .inr ⟨hin,hy.qOp hi H⟩
  ·rcases H.2 j (ready_mono hj hji) with ⟨rfl,h1⟩ | ⟨hjn,h1⟩
   ·exact .inl ⟨rfl,back listed a hfree hr hj h1⟩
   ·refine .inr ⟨hjn, ?_⟩
    obtain ⟨hjun,oj,hoj,hall⟩ := mem_ready.1 hj
    have hnot : ∀ e ∈ oj.after,Region.binds md e = true → e.on ≠ i := fun e he hb heq => by
     have h1 := hall e he hb
     rw [heq,getD_both hun] at h1
     cases h1
    have h2 := qOp_put hoj (hfree j oj hoj hji hjun hnot) (fun cs b => hsel i oi cs b hi) (fun cs b => hsel j oj cs b hoj) hy h1
    have hfree' : ∀ k ok,ops[k]? = some ok → k ≠ i → (listed.setIfInBounds j true).getD k true = false →
      (∀ e ∈ ok.after,Region.binds md e = true → e.on ≠ i) → oi.apart ops ok = true := fun k ok hk hki hun hno => by
     refine hfree k ok hk hki ?_ hno
     by_cases hjk : j = k
     ·subst hjk;exact hjun
     ·rw [getD_set_ne true hjk] at hun;exact hun
    refine qOp_mono (fun a' h3 => ih (listed.setIfInBounds j true) a' hfree' (ready_mono hr (Ne.symm hji)) h3.1 ?_) h2
    rw [Array.setIfInBounds_comm _ _ hji]
    exact h3.2
def lexPan (md : Region.Mode) (ops : Array Oper) (n : Nat) : Nat → Nat → Array Bool → Bool
 | 0,_,listed => decide (Region.ready md ops listed = [n])
 | f + 1,k,listed => (Region.ready md ops listed).contains k && Region.free md ops listed k && lexPan md ops n f (k + 1) (listed.setIfInBounds k true)
theorem anyPQ_lex {n : Nat} {on : Oper} {chain : List PanicEntry} (hsel : Region.noSelect ops = true) (hn : ops[n]? = some on) :
  ∀ (l : List Oper) (k : Nat) (listed : Array Bool) (a : Act),(∀ j,j < l.length → l[j]? = ops[k + j]?) → k + l.length = n →
  lexPan md ops n l.length k listed = true → wpQuiet P ops C (PansIn P ops C on chain) l a →
  anyPQ P md ops C n on chain l.length listed a
 | [],k,listed,a,_,hk,hB,h => ⟨by simpa [lexPan] using hB,h⟩
 | o :: l,k,listed,a,hl,hk,hB,h => by
  have h0 : ops[k]? = some o := by simpa using (hl 0 (by simp)).symm
  simp only [List.length_cons,lexPan,Bool.and_eq_true] at hB
  obtain ⟨⟨hr,hf⟩,hB'⟩ := hB
  have hkn : k < n := by simp only [List.length_cons] at hk;omega
  have hst : qOp P ops C k (wpQuiet P ops C (PansIn P ops C on chain) l) a := by unfold qOp;simp only [h0];exact h
  obtain ⟨v,hy,hK⟩ := yieldsIn_of_qOp h0 hst
  exact anyPQ_first hn h0 (by omega) (Region.noSelect_spec hsel) l.length listed a (Region.free_spec h0 hf) (by simpa using hr) hy
   (anyPQ_lex hsel hn l (k + 1) _ _ (fun j hj => by have := hl (j + 1) (by simp;omega);simpa [Nat.add_assoc,Nat.add_comm 1 j] using this) (by simp only [List.length_cons] at hk;omega) hB' hK)
theorem wp_region_panics {id : Nat} {Q : Exit → Act → World → Prop} {a : Act} {w : World} {l : List Oper} (n : Nat) (on : Oper) (chain : List PanicEntry) (hm : P.follows .mixedOrders = true) (hsel : Region.noSelect l.toArray = true) (hn : l[n]? = some on) (hB : lexPan .any l.toArray n n 0 (Array.replicate l.toArray.size false) = true)
  (hQ : ∀ a w',a.defers = [] → (∃ p : Regrown,w' = grow (redrawn w p.d) p.os) → Q (.panic chain) a w')
  (h : wpQuiet P l.toArray (fun w' => ∃ p : Regrown,w' = grow (redrawn w p.d) p.os) (PansIn P l.toArray (fun w' => ∃ p : Regrown,w' = grow (redrawn w p.d) p.os) on chain) (l.take n) a) : (Code.region id l.toArray true).wp P Q a w := by
 have hn' : n < l.length := (List.getElem?_eq_some_iff.1 hn).1
 have htl : (l.take n).length = n := by simp;omega
 have hno : l.toArray[n]? = some on := by simpa using hn
 have H := anyPQ_lex (md := .any) hsel hno (l.take n) 0 _ a (fun j hj => by
  have hj' : j < n := by rw [htl] at hj;exact hj
  simp [hj']) (by simpa using htl) (by rw [htl];exact hB) h
 refine wp_region_any hm ?_
 have := any_of_pans (Q' := Q) (g := l.toArray.size - n - 1) hno hQ _ _ _ { w with drawn := w.drawn + 1 } ⟨⟨w.drawn + 1,#[]⟩,by rw [grow_empty];rfl⟩ H
 rw [htl,show n + (l.toArray.size - n - 1 + 1) = l.toArray.size by simp;omega] at this
 exact this
end
end Go.Proofs.YtcjjoabofecjmaaGreat
namespace Go.Proofs.YtcjjoabofecjmaaGreat
open Go.RowKit Go.Sort
open Go.Value (int)
theorem wpQuiet_load_mid {P : Program} {ops : Array Oper} {C : World → Prop} {Q : Act → Prop} {rest : List Oper} {op : Oper} {a : Act} (hg : op.guard = none) (ty : TypeId) (x : Operand) (ho : op.op = .load ty x)
  (b o : Nat) (hx : a.eval x = .pointer (some ⟨b,o,none⟩)) (cs : List Value) (d : TypeDesc) (hc : ∀ w,C w → w.rangeAt b o cs)
  (hu : P.underlying ty = some d) (hd : d.isRow = true) (hi : (P.info? ty).map (·.size) = some cs.length)
  (h : wpQuiet P ops C Q rest (a.put op.dst (.agg cs.toArray))) : wpQuiet P ops C Q (op :: rest) a :=
 wpQuiet_step fun K hK => by
  rw [if_pos (by simp [Region.wanted,hg])]
  refine ⟨.agg cs.toArray,fun w hw => ?_,hK _ h⟩
  unfold Oper.quietAt execOp
  simp only [ho,hx,Instr.loadAt,Instr.sureAddr,Sem.run_bind,Sem.run_pure,Result.andThen_ok,run_loadVar_mid w b o ty cs d (hc w hw) hu hd hi]
  exact ⟨rfl,rfl⟩
theorem range_regrown {W : World} {b o : Nat} {cs : List Value} (h : W.rangeAt b o cs) : ∀ w',(∃ p : Regrown,w' = grow (redrawn W p.d) p.os) → w'.rangeAt b o cs := by
 rintro w' ⟨p,rfl⟩
 exact range_ext h (below_regrown W p.d p.os)
end Go.Proofs.YtcjjoabofecjmaaGreat

