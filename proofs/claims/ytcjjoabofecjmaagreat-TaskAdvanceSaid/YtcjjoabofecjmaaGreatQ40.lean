/- A part of the proof: Handle of package task; Handle of package task where no hand. -/
import Derived.Test.YtcjjoabofecjmaaGreatQ39
import Derived.Test.YtcjjoabofecjmaaGreatQ09
set_option linter.unusedVariables false
set_option linter.unusedSimpArgs false
set_option maxHeartbeats 16000000
namespace Go.Proofs.YtcjjoabofecjmaaGreat
open Go.RowKit Go.Sort
open Go.Value (int)
theorem OBl.cut {B k : Nat} {w : World} {bs : List Blk} {VB : Value} {hs : List Value} {gs : List (List Value)} {L : List Value} (h : OBl B w bs VB hs gs L) {b : Blk} {a : List Value} {g c m gB cB : Nat} (hb : bs[k]? = some b) (hv : hs[k]? = some (.slice (some ⟨g,0,none⟩) b.handlers.length c)) (ha : gs[k]? = some a) (hm : m ≤ b.handlers.length)
  (hVB : VB = .slice (some ⟨gB,0,none⟩) bs.length cB) (hL : VB ∈ L) :
  OBl B (w.setCell ⟨gB,k * 5 + 4,none⟩ (.slice (some ⟨g,0,none⟩) m c)) (bs.set k { b with handlers := b.handlers.take m }) VB (hs.set k (.slice (some ⟨g,0,none⟩) m c)) (gs.set k (a.take m)) L := by
 subst hVB
 have hkb : k < bs.length := (List.getElem?_eq_some_iff.1 hb).1
 obtain ⟨hal,hrow⟩ := h.hnd k b _ a hb hv ha
 obtain ⟨h4,h5⟩ := World.ownsRow.stored (g := gB) (n := bs.length) (cap := cB) h.row (k * 5 + 4) (.slice (some ⟨g,0,none⟩) m c)
 refine ⟨by rw [List.length_set,List.length_set];exact h.len,by rw [List.length_set,List.length_set];exact h.alen, ?_,fun i b2 u a2 e1 e2 e3 => ?_,fun i b2 a2 q x u e1 e2 e3 e4 => ?_,fun i j u1 u2 hij e1 e2 => ?_,fun b2 hb2 => ?_⟩
 ·rw [List.length_set,rowOf_same hb (List.getElem?_set_self (by rw [h.len];exact hkb)) (by rfl),← rowOf_put blkCells_len (j := 4) (u := .slice (some ⟨g,0,none⟩) m c) (v' := .slice (some ⟨g,0,none⟩) m c) hb hv (by omega) (by rfl)]
  exact h4
 ·rcases set_cases e1 with ⟨rfl,rfl⟩ | ⟨hne,e1'⟩
  ·rcases set_cases e2 with ⟨_,rfl⟩ | ⟨hne,_⟩
   ·rcases set_cases e3 with ⟨_,rfl⟩ | ⟨hne,_⟩
    ·have h9 := own_take (hrow.kept h5 (apart_ne (apart_types hrow h.row (by decide)) rfl)) hm
     refine ⟨by rw [List.length_take,List.length_take,hal], ?_⟩
     rw [List.length_take,Nat.min_eq_left hm,← rowOf_take hdlCells_len hal]
     exact h9
    ·exact absurd rfl hne
   ·exact absurd rfl hne
  ·rcases set_cases e2 with ⟨e,_⟩ | ⟨_,e2'⟩
   ·exact absurd e hne
   ·rcases set_cases e3 with ⟨e,_⟩ | ⟨_,e3'⟩
    ·exact absurd e hne
    ·obtain ⟨q1,q2⟩ := h.hnd i b2 u a2 e1' e2' e3'
     exact ⟨q1,q2.kept h5 (apart_ne (apart_types q2 h.row (by decide)) rfl)⟩
 ·have old : ∀ (i : Nat) (b3 : Blk) (a3 : List Value),bs[i]? = some b3 → gs[i]? = some a3 → b3.handlers[q]? = some x → a3[q]? = some u →
    InR x.fn ∧ RArgs (w.setCell ⟨gB,k * 5 + 4,none⟩ (.slice (some ⟨g,0,none⟩) m c)) x.args u ∧ (x.args = [] ∨ ∀ r ∈ L,Apart r u) := fun i b3 a3 e1 e2 e3 e4 => by
   obtain ⟨q1,q2,q3⟩ := h.arg i b3 a3 q x u e1 e2 e3 e4
   refine ⟨q1, ?_,q3⟩
   by_cases hx : x.args = []
   ·rw [hx] at q2 ⊢
    obtain ⟨A,m,c,rfl,h3,h6⟩ := q2
    exact ⟨A,m,c,rfl,⟨h3.1,h3.2.1,fun k x hk => by simp at hk⟩,h6⟩
   ·rcases q3 with q3 | q3
    ·exact absurd q3 hx
    ·refine q2.kept h5 ?_
     rcases q3 _ hL with e | e
     ·cases e
     ·exact .inr fun e' => e e'.symm
  rcases set_cases e1 with ⟨rfl,rfl⟩ | ⟨hne,e1'⟩
  ·rcases set_cases e2 with ⟨_,rfl⟩ | ⟨hne,_⟩
   ·dsimp only at e3
    rw [List.getElem?_take] at e3 e4
    split at e3
    ·rename_i hq
     rw [if_pos hq] at e4
     exact old i b a hb ha e3 e4
    ·cases e3
   ·exact absurd rfl hne
  ·rcases set_cases e2 with ⟨e,_⟩ | ⟨_,e2'⟩
   ·exact absurd e hne
   ·exact old i b2 a2 e1' e2' e3 e4
 ·rcases set_cases e1 with ⟨rfl,rfl⟩ | ⟨hne,e1'⟩ <;> rcases set_cases e2 with ⟨hjk,rfl⟩ | ⟨hne2,e2'⟩
  ·exact absurd hjk.symm hij
  ·have h9 := h.dis i j _ u2 hij hv e2';exact h9
  ·subst hjk;have h9 := h.dis i _ u1 _ hij e1' hv;exact h9
  ·exact h.dis i j u1 u2 hij e1' e2'
 ·rcases List.mem_or_eq_of_mem_set hb2 with hb2 | rfl
  ·exact h.inr b2 hb2
  ·exact h.inr b (List.mem_of_getElem? hb)
def AllArgs (P : Hdl → Value → Prop) (bs : List Blk) (gs : List (List Value)) : Prop := ∀ (i : Nat) (b : Blk) (a : List Value),bs[i]? = some b → gs[i]? = some a → ∀ (k : Nat) (h : Hdl) (v : Value),b.handlers[k]? = some h → a[k]? = some v → P h v
theorem AllArgs.cut {P : Hdl → Value → Prop} {bs : List Blk} {gs : List (List Value)} (h : AllArgs P bs gs) {k m : Nat} {b : Blk} {a : List Value} (hb : bs[k]? = some b) (ha : gs[k]? = some a) : AllArgs P (bs.set k { b with handlers := b.handlers.take m }) (gs.set k (a.take m)) := fun i b2 a2 e1 e2 q x v e3 e4 => by
 rcases set_cases e1 with ⟨rfl,rfl⟩ | ⟨hne,e1'⟩
 ·rcases set_cases e2 with ⟨_,rfl⟩ | ⟨hne,_⟩
  ·dsimp only at e3
   rw [List.getElem?_take] at e3 e4
   split at e3
   ·rename_i hq
    rw [if_pos hq] at e4
    exact h i b a hb ha q x v e3 e4
   ·cases e3
  ·exact absurd rfl hne
 ·rcases set_cases e2 with ⟨e,_⟩ | ⟨_,e2'⟩
  ·exact absurd e hne
  ·exact h i b2 a2 e1' e2' q x v e3 e4
theorem OBl.relist {B : Nat} {w : World} {bs : List Blk} {VB : Value} {hs : List Value} {gs : List (List Value)} {L L' : List Value} (h : OBl B w bs VB hs gs L) (hA : AllArgs (fun x v => x.args = [] ∨ ∀ r ∈ L',Apart r v) bs gs) : OBl B w bs VB hs gs L' :=
 ⟨h.len,h.alen,h.row,h.hnd,fun i b a k x v e1 e2 e3 e4 => ⟨(h.arg i b a k x v e1 e2 e3 e4).1,(h.arg i b a k x v e1 e2 e3 e4).2.1,hA i b a e1 e2 k x v e3 e4⟩,h.dis,h.inr⟩
theorem ArgsOk.mono {P : Hdl → Value → Prop} {w W : World} {t : Tsk} {V : Value} (h : ArgsOk P w t V) (hT : RTsk w t V) (hE : Ext w W) : ArgsOk P W t V := fun cs A n c hV h8 i b hb x o hA Ah nh ch hc k hd hk y q hy v hv => by
 have h0 := h cs A n c hV h8
 obtain ⟨Af,nf,cf,Ab,nb,cb,rfl,_,_,_,_,_,_,_,_,_,_,_,hB,_,_⟩ := hT
 have e8 : A = Ab := by
  have := congrArg (fun v => match v with | .agg a => a.toList[8]? | _ => none) hV
  dsimp only at this
  rw [h8] at this
  simp only [List.getElem?_cons_succ,List.getElem?_cons_zero,Option.some.injEq,Value.slice.injEq] at this
  exact this.1.symm
 subst e8
 obtain ⟨b2,off,Aa,na,ca,hA2,hlt,_,_,_,_,⟨hH,_⟩,_,_,_,_,c4⟩ := hB.blk hb
 rw [hA] at hA2
 injection hA2 with hA2
 injection hA2 with e1 e2 _
 subst e1 e2
 have c5 := hE.cell c4
 rw [Nat.add_assoc] at c4 c5
 rw [hc] at c5
 injection c5 with c5
 injection c5 with e1 e2 e3
 subst e1 e2 e3
 obtain ⟨b3,o3,Ag,ng,cg,hA3,hl3,_,_,_,d1⟩ := hH.hdl hk
 rw [hy] at hA3
 injection hA3 with hA3
 injection hA3 with e1 e2 _
 subst e1 e2
 have d2 := hE.cell d1
 rw [Nat.add_assoc] at d1 d2
 rw [hv] at d2
 injection d2 with d2
 subst d2
 exact h0 i b hb x o hA _ _ _ c4 k hd hk y q hy _ d1
def HandPost (r : Tsk × Hdl × Int) (w : World) (e : Ending) (w' : World) : Prop := ∃ V' A n c,e = .returned (.tuple #[V',.agg #[int .i64 r.2.1.fn,.slice A n c],int .i64 r.2.2]) ∧ RTsk w' r.1 V' ∧ (RSl 1 RInt w' A n r.2.1.args ∧ n ≤ c) ∧ InR r.2.1.fn ∧ Ext w w'
abbrev HC := Int × Option Addr × Nat × Nat
def hcv (p : HC) : Value := .slice p.2.1 p.2.2.1 p.2.2.2
def hcs (ps : List HC) : List Value := (ps.map fun p => [int .i64 p.1,hcv p]).flatten
def RevTo (ps0 : List HC) (i : Nat) (ps : List HC) : Prop := ps.length = ps0.length ∧ ∀ m,m < ps0.length → ps[m]? = if m < i ∨ ps0.length - i ≤ m then ps0[ps0.length - 1 - m]? else ps0[m]?
theorem RevTo.done {ps0 ps : List HC} {i : Nat} (h : RevTo ps0 i ps) (hi : ps0.length ≤ 2 * i + 1) : ps = ps0.reverse := by
 apply List.ext_getElem?
 intro m
 rcases Nat.lt_or_ge m ps0.length with hm | hm
 ·rw [List.getElem?_reverse hm,h.2 m hm]
  split
  ·rfl
  ·congr 1;omega
 ·rw [List.getElem?_eq_none (by rw [h.1];exact hm),List.getElem?_eq_none (by rw [List.length_reverse];exact hm)]
theorem RevTo.step {ps0 ps : List HC} {i : Nat} {p q : HC} (h : RevTo ps0 i ps) (hi : 2 * i + 1 < ps0.length) (hp : ps[i]? = some p) (hq : ps[ps0.length - 1 - i]? = some q) : RevTo ps0 (i + 1) ((ps.set i q).set (ps0.length - 1 - i) p) := by
 refine ⟨by rw [List.length_set,List.length_set];exact h.1,fun m hm => ?_⟩
 have h1 := h.2 i (by omega)
 have h2 := h.2 (ps0.length - 1 - i) (by omega)
 rw [if_neg (by omega),hp] at h1
 rw [if_neg (by omega),hq] at h2
 have hl := h.1
 rw [List.getElem?_set,List.getElem?_set,List.length_set]
 split
 ·rename_i e
  subst e
  rw [if_pos (by omega),if_pos (by omega),show ps0.length - 1 - (ps0.length - 1 - i) = i by omega];exact h1
 ·split
  ·rename_i e
   subst e
   rw [if_pos (by omega),if_pos (by omega)];exact h2
  ·rw [h.2 m hm]
   by_cases hc : m < i ∨ ps0.length - i ≤ m
   ·rw [if_pos hc,if_pos (by omega)]
   ·rw [if_neg hc,if_neg (by omega)]
def HRd (w : World) (p : HC) (x : Hdl) : Prop := p.1 = x.fn ∧ InR x.fn ∧ RSl 1 RInt w p.2.1 p.2.2.1 x.args ∧ p.2.2.1 ≤ p.2.2.2
def HRds (w : World) (ps : List HC) (xs : List Hdl) : Prop := ps.length = xs.length ∧ ∀ (i : Nat) (p : HC) (x : Hdl),ps[i]? = some p → xs[i]? = some x → HRd w p x
theorem HRd.mono {w W : World} {p : HC} {x : Hdl} (h : HRd w p x) (hE : Ext w W) : HRd W p x := ⟨h.1,h.2.1,h.2.2.1.mono RInt.stays hE,h.2.2.2⟩
theorem HRds.reverse {w : World} {ps : List HC} {xs : List Hdl} (h : HRds w ps xs) : HRds w ps.reverse xs.reverse := by
 refine ⟨by rw [List.length_reverse,List.length_reverse,h.1],fun i p x hp hx => ?_⟩
 have hi : i < ps.length := by have := (List.getElem?_eq_some_iff.1 hp).1;rwa [List.length_reverse] at this
 rw [List.getElem?_reverse hi] at hp
 rw [List.getElem?_reverse (by rw [← h.1];exact hi)] at hx
 exact h.2 _ p x hp (by rw [h.1];exact hx)
theorem RSl.back {w W W' : World} {A : Option Addr} {n : Nat} {xs : List Int} (hE : Ext w W) (hE' : Ext w W') (h : RSl 1 RInt W A n xs) (hl : xs = [] ∨ ∀ b o s,A = some ⟨b,o,s⟩ → b < w.heap.size) : RSl 1 RInt W' A n xs := by
 refine ⟨h.1,h.2.1,fun k x hk => ?_⟩
 obtain ⟨b,off,cs,hA,h1,h2,h3⟩ := h.2.2 k x hk
 have hb : b < w.heap.size := by
  rcases hl with e | e
  ·subst e;simp at hk
  ·exact e _ _ _ hA
 refine ⟨b,off,cs,hA,h1,h2,fun j v hj => ?_⟩
 have := h3 j v hj
 rw [Below.cell hE (p := ⟨b,off + k * 1 + j,none⟩) hb] at this
 exact hE'.cell this
theorem ext_none {w W : World} (h : w.grownBy W none) : Ext w W := ⟨h.os,h.tape,h.output,h.size,fun i hi => h.block i hi (by simp)⟩
theorem OBl.grew {B B' : Nat} {w W : World} {bs : List Blk} {VB VF : Value} {hs : List Value} {gs : List (List Value)} {L : List Value} {sz n : Nat} {xs : List Value} (h : OBl B w bs VB hs gs L) (hg : w.grownBy W VF.ownBlock) (hF : w.ownsRow B' 62 sz VF n xs) (hm : VF ∈ L) : OBl B W bs VB hs gs L := by
 cases hv : VF.ownBlock with
 | none => rw [hv] at hg;exact h.mono (ext_none hg)
 | some r =>
  rw [hv] at hg
  exact h.wrote hg (apart_ne (apart_types h.row hF (by decide)) hv) (fun u hu => by obtain ⟨m,xs,hh⟩ := bl_rows h hu;exact apart_ne (apart_types hh hF (by decide)) hv) hm hv
def HandPostA (r : Tsk × Hdl × Int) (t : Tsk) (VT : Value) (w : World) (e : Ending) (w' : World) : Prop := ∃ VF VB rs hs gs A n c,e = .returned (.tuple #[tskV r.1 VF VB,.agg #[int .i64 r.2.1.fn,.slice A n c],int .i64 r.2.2]) ∧
 OFr w.heap.size w' r.1.frames VF rs ∧ (∀ L,Low w L → OBl w.heap.size w' r.1.blocks VB hs gs L) ∧ (∀ P,ArgsOk P w t VT → AllArgs P r.1.blocks gs ∧ P r.2.1 (.slice A n c)) ∧ RSl 1 RInt w' A n r.2.1.args ∧ n ≤ c ∧ InR r.2.1.fn ∧ Ext w w'
theorem hand_wk {p : Prg} {t : Tsk} (hc : tcheckS p t = 0) (hst : t.status = 1) (hi : inHand t = false) (hm : 0 ≤ t.mask ∧ t.mask ≤ 100) (hI : InR t.fn ∧ InR t.scope ∧ InR t.prio ∧ InR t.status ∧ InR t.wkind ∧ InR t.windex ∧ InR t.mask ∧ InR t.level ∧ InR t.reason ∧ InR t.result) (hwk : RunWk t) :
  ((handleS p t).1.frames.length ≤ 10 ∧ (∀ f ∈ (handleS p t).1.frames,f.regs.length ≤ 32) ∧ (handleS p t).1.blocks.length ≤ 8 ∧ ∀ b ∈ (handleS p t).1.blocks,b.handlers.length ≤ 8) ∧
   (InR (handleS p t).1.fn ∧ InR (handleS p t).1.scope ∧ InR (handleS p t).1.prio ∧ InR (handleS p t).1.status ∧ InR (handleS p t).1.wkind ∧ InR (handleS p t).1.windex ∧ InR (handleS p t).1.mask ∧ InR (handleS p t).1.level ∧ InR (handleS p t).1.reason ∧ InR (handleS p t).1.result) := by
 have z : ((zeroTsk.frames.length ≤ 10 ∧ (∀ f ∈ zeroTsk.frames,f.regs.length ≤ 32) ∧ zeroTsk.blocks.length ≤ 8 ∧ ∀ b ∈ zeroTsk.blocks,b.handlers.length ≤ 8) ∧
   (InR zeroTsk.fn ∧ InR zeroTsk.scope ∧ InR zeroTsk.prio ∧ InR zeroTsk.status ∧ InR zeroTsk.wkind ∧ InR zeroTsk.windex ∧ InR zeroTsk.mask ∧ InR zeroTsk.level ∧ InR zeroTsk.reason ∧ InR zeroTsk.result)) :=
  ⟨⟨by decide,(fun f h => by cases h),by decide,fun b h => by cases h⟩,zero_in,zero_in,zero_in,zero_in,zero_in,zero_in,zero_in,zero_in,zero_in,zero_in⟩
 have hlv := liv_ok (live_ok hc (by omega))
 unfold handleS
 rw [if_neg (by simpa using hc),if_neg (by rw [hi,hst];simp)]
 split
 ·exact z
 rename_i b hb
 split
 ·exact z
 rename_i h hh
 obtain ⟨g,hg,_,hga,_⟩ := hlv.hdl hb (List.mem_of_getElem? hh)
 have hgo := fn_ok (tcheck_check hc) (fnAt_mem hg)
 rw [hg]
 unfold handleT
 dsimp only
 have hp1 := hgo.par
 have hp2 := hgo.reg
 refine ⟨⟨by have := hwk.len;simp;omega,fun f hf => ?_,by rw [List.length_set];exact hwk.bl,fun x hx => ?_⟩,hI.1,hI.2.1,hI.2.2.1,hI.2.2.2.1,hI.2.2.2.2.1,hI.2.2.2.2.2.1,⟨by omega,by omega⟩,hI.2.2.2.2.2.2.2⟩
 ·rcases List.mem_append.1 hf with hf | hf
  ·exact hwk.regs f hf
  ·rw [List.mem_singleton.1 hf]
   show List.length (regsOf _ _) ≤ 32
   rw [regsOf_length (by omega)];omega
 ·rcases List.mem_or_eq_of_mem_set hx with hx | rfl
  ·exact hwk.hdl x hx
  ·have := hwk.hdl b (List.mem_of_getElem? hb)
   show List.length (List.take _ _) ≤ 8
   rw [List.length_take];omega
theorem HandPostA.post {p : Prg} {t : Tsk} {VT : Value} {w w' : World} {e : Ending} (hc : tcheckS p t = 0) (hst : t.status = 1) (hi : inHand t = false) (hI : InR t.fn ∧ InR t.scope ∧ InR t.prio ∧ InR t.status ∧ InR t.wkind ∧ InR t.windex ∧ InR t.mask ∧ InR t.level ∧ InR t.reason ∧ InR t.result) (h : HandPostA (handleS p t) t VT w e w') : HandPost (handleS p t) w e w' := by
 obtain ⟨VF,VB,rs,hs,gs,A,n,c,h1,h2,h3,_,h5,h6,h7,h8⟩ := h
 have hlv := liv_ok (live_ok hc (by omega))
 have hwk := hlv.wk (tcheck_check hc)
 obtain ⟨hn,hI2⟩ := hand_wk hc hst hi (by have := hlv.mask;unfold leastI at this;unfold mostI at this;rw [hi] at this;exact this) hI hwk
 obtain ⟨Af,cf,rfl,hcf,hF⟩ := h2.reads (by have := hn.1;omega) (fun f hf => by have := hn.2.1 f hf;omega)
 obtain ⟨Ab,cb,rfl,hcb,hB⟩ := (h3 [] (low_nil _)).reads (by have := hn.2.2.1;omega) (fun b hb => by have := hn.2.2.2 b hb;omega)
 exact ⟨_,A,n,c,h1,rtsk_of hI2 hF hcf hB hcb,⟨h5,h6⟩,h7,h8⟩
def Pw (w : World) (h : Hdl) (v : Value) : Prop := h.args = [] ∨ ∀ x,v.ownBlock = some x → x < w.heap.size
theorem args_low {w : World} {t : Tsk} {V : Value} (hT : RTsk w t V) : ArgsOk (Pw w) w t V := fun cs A n c hV h8 i b hb x o hA Ah nh ch hc k hd hk y q hy v hv => by
 obtain ⟨Af,nf,cf,Ab,nb,cb,rfl,_,_,_,_,_,_,_,_,_,_,_,hB,_,_⟩ := hT
 have e8 : A = Ab := by
  have := congrArg (fun v => match v with | .agg a => a.toList[8]? | _ => none) hV
  dsimp only at this
  rw [h8] at this
  simp only [List.getElem?_cons_succ,List.getElem?_cons_zero,Option.some.injEq,Value.slice.injEq] at this
  exact this.1.symm
 subst e8
 obtain ⟨b2,off,Aa,na,ca,hA2,hlt,_,_,_,_,⟨hH,_⟩,_,_,_,_,c4⟩ := hB.blk hb
 rw [hA] at hA2
 injection hA2 with hA2
 injection hA2 with e1 e2 _
 subst e1 e2
 rw [Nat.add_assoc,hc] at c4
 injection c4 with c4
 injection c4 with e1 e2 e3
 subst e1 e2 e3
 obtain ⟨b3,o3,Ag,ng,cg,hA3,hl3,_,⟨hG,_⟩,_,d1⟩ := hH.hdl hk
 rw [hy] at hA3
 injection hA3 with hA3
 injection hA3 with e1 e2 _
 subst e1 e2
 rw [Nat.add_assoc,hv] at d1
 injection d1 with d1
 subst d1
 by_cases h0 : hd.args = []
 ·exact .inl h0
 ·refine .inr fun z hz => ?_
  obtain ⟨a,ha⟩ : ∃ a,hd.args[0]? = some a := ⟨_,List.getElem?_eq_getElem (List.length_pos_iff.2 h0)⟩
  obtain ⟨b4,o4,rfl,hl4,_⟩ := hG.int ha
  have : b4 = z := by injection hz
  omega
theorem argsOk_own {P : Hdl → Value → Prop} {B : Nat} {w : World} {t : Tsk} {VF VB : Value} {hs : List Value} {gs : List (List Value)} {L : List Value} (h : OBl B w t.blocks VB hs gs L) (hP : AllArgs P t.blocks gs) : ArgsOk P w t (.agg (tskL t VF VB).toArray) := fun cs A n c hV h8 i b hb x o hA Ah nh ch hc k hd hk y q hy v hv => by
 have e8 : VB = .slice A n c := by
  have := congrArg (fun v => match v with | .agg a => a.toList[8]? | _ => none) hV
  dsimp only at this
  rw [h8] at this
  simpa [tskL] using this
 subst e8
 obtain ⟨u,hu⟩ : ∃ u,hs[i]? = some u := ⟨_,List.getElem?_eq_getElem (by rw [h.len];exact (List.getElem?_eq_some_iff.1 hb).1)⟩
 obtain ⟨a,ha⟩ : ∃ a,gs[i]? = some a := ⟨_,List.getElem?_eq_getElem (by rw [h.alen];exact (List.getElem?_eq_some_iff.1 hb).1)⟩
 obtain ⟨h1,h2⟩ := h.hnd i b u a hb hu ha
 obtain ⟨z,hz⟩ : ∃ z,a[k]? = some z := ⟨_,List.getElem?_eq_getElem (by rw [h1];exact (List.getElem?_eq_some_iff.1 hk).1)⟩
 obtain ⟨A1,c1,e1,_,_,hC⟩ := ownsRow_shape h.row
 injection e1 with e11 _ _
 subst e11
 obtain ⟨x',o',hA',hcell⟩ := hC.2 (by have := (List.getElem?_eq_some_iff.1 hb).1;omega)
 rw [hA] at hA'
 injection hA' with hA'
 injection hA' with e1 e2 _
 subst e1 e2
 have := hcell (i * 5 + 4) u (by rw [rowOf_get blkCells_len hb hu (by omega)];rfl)
 rw [hc] at this
 injection this with this
 subst this
 obtain ⟨A2,c2,e2,_,_,hC2⟩ := ownsRow_shape h2
 injection e2 with e21 _ _
 subst e21
 obtain ⟨y',q',hy',hcell2⟩ := hC2.2 (by have := (List.getElem?_eq_some_iff.1 hk).1;omega)
 rw [hy] at hy'
 injection hy' with hy'
 injection hy' with e1 e2 _
 subst e1 e2
 have := hcell2 (k * 2 + 1) z (by rw [rowOf_get hdlCells_len hk hz (by omega)];rfl)
 rw [hv] at this
 injection this with this
 subst this
 exact hP i b a hb ha k hd v hk hz
end Go.Proofs.YtcjjoabofecjmaaGreat

