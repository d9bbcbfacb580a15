/- A part of the proof: What Check asks of a living task, as a proposition in parts;. -/
import Derived.Test.YtcjjoabofecjmaaQ21
set_option linter.unusedVariables false
set_option linter.unusedSimpArgs false
set_option maxHeartbeats 16000000
namespace Go.Proofs.Ytcjjoabofecjmaa
open Go.RowKit
open Go.Value (int)
structure FrsOk (p : Prg) (fn : Int) (fs : List Frm) : Prop where
 fr : ∀ (i : Nat) f,fs[i]? = some f → ∃ g,FrOk p f g
 cl : ∀ (i : Nat) f,fs[i]? = some f → f.cleanup = true → f.result = -1 ∧ i + 1 = fs.length
 fst : ∀ f,fs[0]? = some f → f.cleanup = false → f.fn = fn ∧ f.result = -1
 res : ∀ (i : Nat) f h,fs[i + 1]? = some f → fs[i]? = some h → f.cleanup = false → ∃ k,fnAt p h.fn = some k ∧ 0 ≤ f.result ∧ f.result ≤ k.regs - 1
theorem FrsOk.nil (p : Prg) (fn : Int) : FrsOk p fn [] := ⟨fun i f h => by simp at h,fun i f h => by simp at h,fun f h => by simp at h,fun i f _ h => by simp at h⟩
theorem frs_iff {p : Prg} {t : Tsk} : allB (frmB p t) t.frames.length 0 = true ↔ FrsOk p t.fn t.frames := by
 rw [allB_iff]
 constructor
 ·intro h
  have h1 : ∀ (i : Nat) f,t.frames[i]? = some f → ∃ g,FrOk p f g ∧ (if f.cleanup = true then (f.result == -1) && (i + 1 == t.frames.length)
   else if i = 0 then (f.fn == t.fn) && (f.result == -1)
   else match t.frames[i - 1]? with
    | none => false
    | some h => match fnAt p h.fn with
     | none => false
     | some k => inB f.result 0 (k.regs - 1)) = true := fun i f hf => by
   have h2 := h i (Nat.zero_le _) (by have := (List.getElem?_eq_some_iff.1 hf).1;omega)
   unfold frmB at h2
   rw [hf] at h2
   dsimp only at h2
   cases hg : fnAt p f.fn with
   | none => rw [hg] at h2;cases h2
   | some g =>
    rw [hg] at h2
    dsimp only at h2
    rw [Bool.and_eq_true] at h2
    obtain ⟨h2,h3⟩ := h2
    simp only [Bool.and_eq_true,beq_iff_eq,inB_iff,List.all_eq_true] at h2
    exact ⟨g,⟨hg,h2.1.1.1,h2.1.1.2,h2.1.2,h2.2⟩,h3⟩
  refine ⟨fun i f hf => ?_,fun i f hf hc => ?_,fun f hf hc => ?_,fun i f x hf hx hc => ?_⟩
  ·obtain ⟨g,hg,_⟩ := h1 i f hf;exact ⟨g,hg⟩
  ·obtain ⟨g,_,h3⟩ := h1 i f hf
   rw [if_pos hc] at h3
   simpa using h3
  ·obtain ⟨g,_,h3⟩ := h1 0 f hf
   rw [if_neg (by rw [hc];decide),if_pos rfl] at h3
   simpa using h3
  ·obtain ⟨g,_,h3⟩ := h1 (i + 1) f hf
   rw [if_neg (by rw [hc];decide),if_neg (by omega),Nat.add_sub_cancel,hx] at h3
   dsimp only at h3
   cases hk : fnAt p x.fn with
   | none => rw [hk] at h3;cases h3
   | some k => rw [hk] at h3;exact ⟨k,rfl,inB_iff.1 h3⟩
 ·intro h i _ hi
  obtain ⟨f,hf⟩ : ∃ f,t.frames[i]? = some f := ⟨_,List.getElem?_eq_getElem (by omega)⟩
  obtain ⟨g,hg⟩ := h.fr i f hf
  unfold frmB
  rw [hf]
  dsimp only
  rw [hg.fn]
  dsimp only
  rw [Bool.and_eq_true]
  refine ⟨?_, ?_⟩
  ·simp only [Bool.and_eq_true,beq_iff_eq,inB_iff,List.all_eq_true]
   exact ⟨⟨⟨hg.regs,hg.num⟩,hg.pc⟩,hg.cl⟩
  ·cases hc : f.cleanup with
   | true =>
    rw [if_pos rfl]
    have := h.cl i f hf hc
    simpa using this
   | false =>
    rw [if_neg (by decide)]
    cases i with
    | zero =>
     rw [if_pos rfl]
     have := h.fst f hf hc
     simpa using this
    | succ i =>
     rw [if_neg (by omega),Nat.add_sub_cancel]
     obtain ⟨x,hx⟩ : ∃ x,t.frames[i]? = some x := ⟨_,List.getElem?_eq_getElem (by omega)⟩
     rw [hx]
     dsimp only
     obtain ⟨k,hk,hr⟩ := h.res i f x hf hx hc
     rw [hk]
     exact inB_iff.2 hr
theorem FrsOk.take {p : Prg} {fn : Int} {fs : List Frm} (h : FrsOk p fn fs) (n : Nat) : FrsOk p fn (fs.take n) := by
 have old : ∀ {i : Nat} {f : Frm},(fs.take n)[i]? = some f → i < n ∧ fs[i]? = some f := fun {i f} hf => by
  rw [List.getElem?_take] at hf
  split at hf
  ·exact ⟨by assumption,hf⟩
  ·cases hf
 refine ⟨fun i f hf => h.fr i f (old hf).2,fun i f hf hc => ?_,fun f hf hc => h.fst f (old hf).2 hc,fun i f x hf hx hc => h.res i f x (old hf).2 (old hx).2 hc⟩
 obtain ⟨a,b⟩ := h.cl i f (old hf).2 hc
 refine ⟨a, ?_⟩
 have := (old hf).1
 rw [List.length_take];omega
theorem FrsOk.put {p : Prg} {fn : Int} {fs : List Frm} (h : FrsOk p fn fs) {k : Nat} {f f' : Frm} {g : Fnc} (hf : fs[k]? = some f) (hs : skF f' = skF f) (hg : FrOk p f' g) : FrsOk p fn (fs.set k f') := by
 have hm := map_set_same (g := skF) hf hs
 have old : ∀ {i : Nat} {x : Frm},(fs.set k f')[i]? = some x → ∃ y,fs[i]? = some y ∧ skF x = skF y := fun hx => sk_get hm hx
 have sk : ∀ {x y : Frm},skF x = skF y → x.fn = y.fn ∧ x.result = y.result ∧ x.cleanup = y.cleanup := fun {x y} e => by
  unfold skF at e
  simp only [Prod.mk.injEq] at e
  exact ⟨e.1,e.2.1,e.2.2⟩
 refine ⟨fun i x hx => ?_,fun i x hx hc => ?_,fun x hx hc => ?_,fun i x y hx hy hc => ?_⟩
 ·rw [List.getElem?_set] at hx
  split at hx
  ·split at hx
   ·injection hx with hx;subst hx;exact ⟨g,hg⟩
   ·cases hx
  ·exact h.fr i x hx
 ·obtain ⟨y,hy,e⟩ := old hx
  obtain ⟨e1,e2,e3⟩ := sk e
  rw [List.length_set,e2]
  exact h.cl i y hy (by rw [← e3];exact hc)
 ·obtain ⟨y,hy,e⟩ := old hx
  obtain ⟨e1,e2,e3⟩ := sk e
  rw [e1,e2]
  exact h.fst y hy (by rw [← e3];exact hc)
 ·obtain ⟨x',hx',e⟩ := old hx
  obtain ⟨y',hy',e'⟩ := old hy
  obtain ⟨e1,e2,e3⟩ := sk e
  obtain ⟨a1,a2,a3⟩ := sk e'
  rw [e2,a1]
  exact h.res i x' y' hx' hy' (by rw [← e3];exact hc)
theorem FrsOk.hand {p : Prg} {fn : Int} {fs : List Frm} (h : FrsOk p fn fs) (hn : ∀ f ∈ fs,f.cleanup = false) {f : Frm} {g : Fnc} (hg : FrOk p f g) (hc : f.cleanup = true) (hr : f.result = -1) : FrsOk p fn (fs ++ [f]) := by
 have cs : ∀ {i : Nat} {x : Frm},(fs ++ [f])[i]? = some x → (i < fs.length ∧ fs[i]? = some x) ∨ (i = fs.length ∧ x = f) := fun {i x} hx => by
  rw [List.getElem?_append] at hx
  split at hx
  ·exact .inl ⟨by assumption,hx⟩
  ·rename_i h1
   cases hz : i - fs.length with
   | zero =>
    rw [hz] at hx
    simp only [List.getElem?_cons_zero,Option.some.injEq] at hx
    exact .inr ⟨by omega,hx.symm⟩
   | succ m => rw [hz] at hx;simp at hx
 refine ⟨fun i x hx => ?_,fun i x hx hcx => ?_,fun x hx hcx => ?_,fun i x y hx hy hcx => ?_⟩
 ·rcases cs hx with ⟨_,h1⟩ | ⟨_,rfl⟩
  ·exact h.fr i x h1
  ·exact ⟨g,hg⟩
 ·rcases cs hx with ⟨_,h1⟩ | ⟨h1,rfl⟩
  ·have := hn x (List.mem_of_getElem? h1);rw [hcx] at this;cases this
  ·exact ⟨hr,by rw [List.length_append];simp;omega⟩
 ·rcases cs hx with ⟨_,h1⟩ | ⟨_,rfl⟩
  ·exact h.fst x h1 hcx
  ·rw [hc] at hcx;cases hcx
 ·rcases cs hx with ⟨h2,h1⟩ | ⟨_,rfl⟩
  ·rcases cs hy with ⟨_,h3⟩ | ⟨h4,_⟩
   ·exact h.res i x y h1 h3 hcx
   ·omega
  ·rw [hc] at hcx;cases hcx
structure Lv (p : Prg) (t : Tsk) : Prop where
 blks : blksB p t.blocks = true
 mask : leastI t ≤ t.mask ∧ t.mask ≤ mostI t
 plain : plainN t ≤ 8
 zero : plainN t = 0 → t.unw = true ∧ t.level = 0
 lvl : t.level ≠ 0 → t.unw = true ∧ 2 ≤ t.level ∧ t.level ≤ t.blocks.length
 unw : t.unw = true → (t.level = 0 → plainN t = 0) ∧ (0 < t.level → (plainN t : Int) = depthAt t (t.level - 1))
 fr : FrsOk p t.fn t.frames
 keep : ∀ i,1 ≤ i → i < keepsN t → keepB p t i = true
theorem lv_iff {p : Prg} {t : Tsk} : livB p t = true ↔ Lv p t := by
 constructor
 ·intro h
  unfold livB at h
  simp only [Bool.and_eq_true] at h
  obtain ⟨⟨⟨⟨⟨⟨⟨hb,hm⟩,hp⟩,h4⟩,h5⟩,h6⟩,hfr⟩,hk⟩ := h
  refine ⟨hb,inB_iff.1 hm,by simpa using hp,fun h0 => ?_,fun hl => ?_,fun hu => ⟨fun hl => ?_,fun hl => ?_⟩,frs_iff.1 hfr,fun i h1 h2 => ?_⟩
  ·rw [h0] at h4
   simp at h4
   exact h4
  ·cases hu : t.unw with
   | false => rw [hu] at h5;simp [hl] at h5
   | true =>
    rw [hu] at h5
    simp only [Bool.not_true,Bool.false_or,Bool.not_eq_true',Bool.and_eq_false_iff,bne_eq_false_iff_eq,Bool.not_eq_false'] at h5
    rcases h5 with h5 | h5
    ·exact absurd h5 hl
    ·rw [inB_iff] at h5;exact ⟨rfl,by omega,by omega⟩
  ·rw [hu,hl] at h6
   simp at h6
   omega
  ·rw [hu] at h6
   simp only [Bool.true_and,Bool.not_eq_true',Bool.or_eq_false_iff,Bool.and_eq_false_iff,decide_eq_false_iff_not,bne_eq_false_iff_eq] at h6
   rcases h6.2 with h7 | h7
   ·exact absurd hl h7
   ·exact h7
  ·exact allB_iff.1 hk i h1 (by omega)
 ·intro l
  unfold livB
  simp only [Bool.and_eq_true]
  refine ⟨⟨⟨⟨⟨⟨⟨l.blks,inB_iff.2 l.mask⟩,by simpa using l.plain⟩, ?_⟩, ?_⟩, ?_⟩,frs_iff.2 l.fr⟩,allB_iff.2 fun i h1 h2 => l.keep i h1 (by omega)⟩
  ·simp only [Bool.not_eq_true',Bool.and_eq_false_iff,decide_eq_false_iff_not,Bool.or_eq_false_iff,Bool.not_eq_false',bne_eq_false_iff_eq]
   rcases Decidable.em (plainN t = 0) with h | h
   ·exact .inr (l.zero h)
   ·exact .inl h
  ·simp only [Bool.not_eq_true',Bool.and_eq_false_iff,Bool.or_eq_false_iff,Bool.not_eq_false',bne_eq_false_iff_eq]
   rcases Decidable.em (t.level = 0) with h | h
   ·exact .inl h
   ·obtain ⟨a,b,c⟩ := l.lvl h
    exact .inr ⟨a,inB_iff.2 ⟨b,c⟩⟩
  ·simp only [Bool.not_eq_true',Bool.and_eq_false_iff,Bool.or_eq_false_iff,decide_eq_false_iff_not,bne_eq_false_iff_eq,beq_eq_false_iff_ne]
   cases hu : t.unw with
   | false => exact .inl rfl
   | true =>
    obtain ⟨a,b⟩ := l.unw hu
    refine .inr ⟨?_, ?_⟩
    ·rcases Decidable.em (t.level = 0) with h | h
     ·exact .inr (by have := a h;omega)
     ·exact .inl h
    ·rcases Decidable.em (0 < t.level) with h | h
     ·exact .inr (b h)
     ·exact .inl h
theorem Lv.valid {p : Prg} {t : Tsk} (l : Lv p t) (hst : t.status ≠ 3) (hc : checkS p = 0) (hn : numsB p t = true) (hw : waitB p t = true) : tcheckS p t = 0 := valid_of hst hc hn hw (lv_iff.2 l)
theorem wait_ready {p : Prg} {t : Tsk} (h1 : t.status = 1) (h2 : t.wkind = 0) (h3 : t.windex = 0) (h4 : t.wagain = false) : waitB p t = true := by
 unfold waitB
 rw [if_pos (by omega),h2,h3,h4];rfl
theorem nums_iff {p : Prg} {t : Tsk} : numsB p t = true ↔ ∃ f,fnAt p t.fn = some f ∧ f.cleanup = false ∧ t.prio = f.prio ∧ (0 ≤ t.scope ∧ t.scope ≤ 31) ∧ numB t.result = true ∧ ((0 ≤ t.reason ∧ t.reason ≤ 9) ∨ (100 ≤ t.reason ∧ t.reason ≤ 999)) ∧ 1 ≤ t.status ∧ t.status ≤ 3 := by
 unfold numsB
 cases hf : fnAt p t.fn with
 | none => simp
 | some f => simp [inB_iff,and_assoc]
theorem start_valid {p : Prg} {f : Int} {g : Fnc} {args : List Int} {scope : Int} (hc : checkS p = 0) (hg : fnAt p f = some g) (hcl : g.cleanup = false) (hal : (args.length : Int) = g.params) (hn : ∀ x ∈ args,numB x = true) (hs : 0 ≤ scope ∧ scope ≤ 31) : tcheckS p (firstTsk f g args scope) = 0 := by
 have hgo := fn_ok hc (fnAt_mem hg)
 have hp := hgo.par
 have hr := hgo.reg
 have hin : inHand (firstTsk f g args scope) = false := rfl
 have hpl : plainN (firstTsk f g args scope) = 1 := rfl
 have hfo : FrOk p ⟨f,0,regsOf g.regs.toNat args,-1,false⟩ g := by
  refine ⟨hg, ?_,fun x hx => ?_,⟨Int.le_refl _,by show (0 : Int) ≤ _;omega⟩,hcl.symm⟩
  ·show ((regsOf _ _).length : Int) = _
   rw [regsOf_length (by omega)];omega
  ·rcases List.mem_append.1 hx with h | h
   ·exact hn x h
   ·rw [List.eq_of_mem_replicate h];decide
 refine Lv.valid ⟨?_, ?_,by rw [hpl];omega,fun h => by rw [hpl] at h;omega,fun h => absurd rfl h,fun h => (by cases h), ?_,fun i h1 h2 => ?_⟩ (by show (1 : Int) ≠ 3;decide) hc (nums_iff.2 ⟨g,hg,hcl,rfl,hs,(by decide : numB 0 = true),.inl (by decide : (0 : Int) ≤ 0 ∧ (0 : Int) ≤ 9),(by decide : (1 : Int) ≤ 1),(by decide : (1 : Int) ≤ 3)⟩) (wait_ready rfl rfl rfl rfl)
 ·show blksB p [⟨-1,0,0,0,[]⟩] = true
  simp [blksB,inB,allB,blkB]
 ·unfold leastI mostI
  rw [hin]
  exact ⟨Int.le_refl _,by show (0 : Int) ≤ 100;decide⟩
 ·refine ⟨fun i x hx => ?_,fun i x hx hcx => ?_,fun x hx hcx => ?_,fun i x y hx hy hcx => ?_⟩
  ·cases i with
   | zero => simp only [firstTsk,List.getElem?_cons_zero,Option.some.injEq] at hx;subst hx;exact ⟨g,hfo⟩
   | succ i => simp [firstTsk] at hx
  ·cases i with
   | zero => simp only [firstTsk,List.getElem?_cons_zero,Option.some.injEq] at hx;subst hx;cases hcx
   | succ i => simp [firstTsk] at hx
  ·simp only [firstTsk,List.getElem?_cons_zero,Option.some.injEq] at hx;subst hx;exact ⟨rfl,rfl⟩
  ·simp [firstTsk] at hx
 ·have : keepsN (firstTsk f g args scope) = 1 := rfl
  omega
end Go.Proofs.Ytcjjoabofecjmaa

