/- A part of the proof: innermost and handles of package task; inHandler and plain o. -/
import Derived.Test.YtcjjoabofecjmaaQ06
import Derived.Test.YtcjjoabofecjmaaQ03
import Derived.IntWalk
import Derived.Deep.Onto
set_option linter.unusedVariables false
set_option linter.unusedSimpArgs false
set_option maxHeartbeats 16000000
namespace Go.Proofs.Ytcjjoabofecjmaa
open Go.RowKit
open Go.Value (int)
def tskV (t : Tsk) (VF VB : Value) : Value := .agg #[int .i64 t.fn,int .i64 t.scope,int .i64 t.prio,int .i64 t.status,int .i64 t.wkind,int .i64 t.windex,.bool t.wagain,VF,VB,int .i64 t.mask,.bool t.unw,int .i64 t.level,int .i64 t.reason,int .i64 t.result]
def inHand (t : Tsk) : Bool := match t.frames.getLast? with | some f => f.cleanup | none => false
theorem innermost_any (a1 a2 a3 a4 a5 a6 a7 a9 a10 a11 a12 a13 a14 : Value) (b off n c : Nat) (w : World) (hn : 0 < n) (hle : n ≤ 140737488355328) :
  Calls Try.prog 29 #[.agg #[a1,a2,a3,a4,a5,a6,a7,.slice (some ⟨b,off,none⟩) n c,a9,a10,a11,a12,a13,a14]] w fun e w' => e = .returned (.pointer (some ⟨b,off + (n - 1) * 5,none⟩)) ∧ Ext w w' := by
 have hs : IntKind.i64.wrap ((n : Int) - 1) = ((n - 1 : Nat) : Int) := by rw [IntWalk.i64_in _ (by omega)];omega
 have hlt : ((n - 1 : Nat) : Int) < (n : Int) := by omega
 have h0 : (0 : Int) ≤ ((n - 1 : Nat) : Int) := by omega
 go_enter Try.func29,Try.ntmps29
 go_wp2
 go_ret
 exact ⟨rfl,xt⟩
theorem inHand_nil {t : Tsk} (h : t.frames = []) : inHand t = false := by simp [inHand,h]
theorem inHand_last {t : Tsk} {f : Frm} (h : t.frames[t.frames.length - 1]? = some f) : inHand t = f.cleanup := by
 unfold inHand
 rw [List.getLast?_eq_getElem?,h]
theorem handles_any (t : Tsk) (V : Value) (w : World) (hV : RTsk w t V) :
  Calls Try.prog 17 #[V] w fun e w' => e = .returned (.bool (inHand t)) ∧ Ext w w' := by
 obtain ⟨Af,nf,cf,Ab,nb,cb,rfl,_,_,_,_,_,_,_,_,_,_,hF,_,_,_⟩ := hV
 have hle := hF.2.1
 have HL := Lib.hid hF.len
 rcases Nat.eq_zero_or_pos nf with h0 | h0
 ·subst h0
  have HI : Hid (inHand t = false) := inHand_nil (List.eq_nil_of_length_eq_zero HL.out.symm)
  clear hF
  go_enter Try.func17,Try.ntmps17
  go_wp2
  go_ret
  exact ⟨ret_bool (by rw [HI.out]),xt⟩
 ·obtain ⟨f,hf⟩ : ∃ f,t.frames[nf - 1]? = some f := ⟨_,List.getElem?_eq_getElem (by have := HL.out;omega)⟩
  obtain ⟨b,off,Aa,na,ca,rfl,hlb,_,_,_,_,_,_,_,_,c4⟩ := hF.frm hf
  have HI : Hid (inHand t = f.cleanup) := inHand_last (by rw [← HL.out];exact hf)
  have hpos : (0 : Int) < (nf : Int) := by omega
  clear hF hf
  go_enter Try.func17,Try.ntmps17
  go_wp2_with (go_at_call 29;refine (innermost_any _ _ _ _ _ _ _ _ _ _ _ _ _ b off nf cf _ h0 hle).mono ?_;rintro e w1 ⟨rfl,hb⟩;obtain ⟨hc,hf,hs,he⟩ := Ext.use (w := w) hb xt;clear hb;(try simp only [sA,sC,sD,sN] at hs))
  all_goals (go_ret;exact ⟨ret_bool (by rw [HI.out]),xt⟩)
def plainN (t : Tsk) : Nat := if inHand t then t.frames.length - 1 else t.frames.length
theorem inHand_pos {t : Tsk} (h : inHand t = true) : 0 < t.frames.length := by
 rcases Nat.eq_zero_or_pos t.frames.length with h0 | h0
 ·rw [inHand_nil (List.eq_nil_of_length_eq_zero h0)] at h;cases h
 ·exact h0
theorem exists_list {P : Nat → Value → Prop} : ∀ n,(∀ k,k < n → ∃ v,P k v) → ∃ vs : List Value,vs.length = n ∧ ∀ k v,vs[k]? = some v → P k v
 | 0,_ => ⟨[],rfl,fun k v h => by simp at h⟩
 | n + 1,h => by
  obtain ⟨vs,hl,hv⟩ := exists_list n (fun k hk => h k (by omega))
  obtain ⟨v,hp⟩ := h n (by omega)
  refine ⟨vs ++ [v],by simp [hl],fun k u hk => ?_⟩
  rw [List.getElem?_append] at hk
  split at hk
  ·exact hv k u hk
  ·have : k - vs.length = 0 := by
    rcases Nat.eq_zero_or_pos (k - vs.length) with h0 | h0
    ·exact h0
    ·rw [List.getElem?_eq_none (by simp;omega)] at hk;cases hk
   rw [this] at hk
   simp only [List.getElem?_cons_zero,Option.some.injEq] at hk
   subst hk
   have : k = n := by omega
   subst this
   exact hp
theorem row_cells {α : Type} {sz : Nat} {R : World → α → List Value → Prop} {f : α → Value → List Value} {P : World → α → Value → Prop} (hsz : 0 < sz) (hf : ∀ x v,(f x v).length = sz)
  (hR : ∀ (w : World) (x : α) (cs : List Value),R w x cs → ∃ v,cs = f x v ∧ P w x v) {w : World} {A : Option Addr} {n : Nat} {xs : List α} (h : RSl sz R w A n xs) :
  ∃ vs : List Value,vs.length = xs.length ∧ CSl w A n sz (rowOf f xs vs) ∧ ∀ (i : Nat) (x : α) (v : Value),xs[i]? = some x → vs[i]? = some v → P w x v := by
 obtain ⟨vs,hl,hv⟩ := exists_list (P := fun k v => ∀ x : α,xs[k]? = some x → P w x v ∧ ∀ b o,A = some ⟨b,o,none⟩ → ∀ j u,(f x v)[j]? = some u → w.cell? ⟨b,o + k * sz + j,none⟩ = some u) xs.length (fun k hk => by
  obtain ⟨b,off,cs,hA,_,hr,hcell⟩ := h.2.2 k _ (List.getElem?_eq_getElem hk)
  obtain ⟨v,rfl,hp⟩ := hR _ _ _ hr
  refine ⟨v,fun x hx => ?_⟩
  rw [List.getElem?_eq_getElem hk] at hx
  cases hx
  refine ⟨hp,fun b' o' hA' j u hj => ?_⟩
  rw [hA] at hA'
  cases hA'
  exact hcell j u hj)
 refine ⟨vs,hl,⟨by rw [rowOf_length hf hl,h.len],fun hn => ?_⟩,fun i x v hx hvi => (hv i v hvi x hx).1⟩
 have hlen := h.len
 obtain ⟨b,off,cs,hA,_⟩ := h.2.2 0 _ (List.getElem?_eq_getElem (show 0 < xs.length by omega))
 refine ⟨b,off,hA,fun j u hj => ?_⟩
 have hjl : j < xs.length * sz := by have := (List.getElem?_eq_some_iff.1 hj).1;rwa [rowOf_length hf hl] at this
 have hk : j / sz < xs.length := (Nat.div_lt_iff_lt_mul hsz).2 hjl
 obtain ⟨v,hvv⟩ : ∃ v,vs[j / sz]? = some v := ⟨_,List.getElem?_eq_getElem (by omega)⟩
 have hx := List.getElem?_eq_getElem hk
 have e : j = j / sz * sz + j % sz := by rw [Nat.mul_comm];exact (Nat.div_add_mod j sz).symm
 rw [e,rowOf_get hf hx hvv (Nat.mod_lt _ hsz)] at hj
 have := (hv _ v hvv _ hx).2 b off hA _ u hj
 rw [Nat.add_assoc,← e] at this
 exact this
theorem frames_cells {w : World} {A : Option Addr} {n : Nat} {fs : List Frm} (h : RSl 5 RFrm w A n fs) :
  ∃ rs : List Value,rs.length = fs.length ∧ CSl w A n 5 (rowOf frmCells fs rs) ∧ ∀ (i : Nat) (f : Frm) (v : Value),fs[i]? = some f → rs[i]? = some v → (∃ A c,v = .slice A f.regs.length c ∧ RSl 1 RInt w A f.regs.length f.regs ∧ f.regs.length ≤ c) ∧ InR f.fn ∧ InR f.pc ∧ InR f.result :=
 row_cells (P := fun w f v => (∃ A c,v = .slice A f.regs.length c ∧ RSl 1 RInt w A f.regs.length f.regs ∧ f.regs.length ≤ c) ∧ InR f.fn ∧ InR f.pc ∧ InR f.result) (by omega) frmCells_len
  (fun w f cs ⟨A,n,c,h1,h2,h3,h4,h5,h6⟩ => by have hn := h5.len;subst hn;exact ⟨_,h1,⟨A,c,rfl,h5,h6⟩,h2,h3,h4⟩) h
theorem blocks_cells {w : World} {A : Option Addr} {n : Nat} {bs : List Blk} (h : RSl 5 RBlk w A n bs) :
  ∃ hs : List Value,hs.length = bs.length ∧ CSl w A n 5 (rowOf blkCells bs hs) ∧ ∀ (i : Nat) (b : Blk) (v : Value),bs[i]? = some b → hs[i]? = some v → (∃ A c,v = .slice A b.handlers.length c ∧ RSl 2 RHdl w A b.handlers.length b.handlers ∧ b.handlers.length ≤ c) ∧ InR b.scope ∧ InR b.depth ∧ InR b.exit ∧ InR b.mask :=
 row_cells (P := fun w b v => (∃ A c,v = .slice A b.handlers.length c ∧ RSl 2 RHdl w A b.handlers.length b.handlers ∧ b.handlers.length ≤ c) ∧ InR b.scope ∧ InR b.depth ∧ InR b.exit ∧ InR b.mask) (by omega) blkCells_len
  (fun w f cs ⟨A,n,c,h1,h2,h3,h4,h5,h6,h7⟩ => by have hn := h6.len;subst hn;exact ⟨_,h1,⟨A,c,rfl,h6,h7⟩,h2,h3,h4,h5⟩) h
theorem handlers_cells {w : World} {A : Option Addr} {n : Nat} {xs : List Hdl} (h : RSl 2 RHdl w A n xs) :
  ∃ gs : List Value,gs.length = xs.length ∧ CSl w A n 2 (rowOf hdlCells xs gs) ∧ ∀ (i : Nat) (x : Hdl) (v : Value),xs[i]? = some x → gs[i]? = some v → InR x.fn ∧ RArgs w x.args v :=
 row_cells (P := fun w x v => InR x.fn ∧ RArgs w x.args v) (by omega) hdlCells_len (fun w x cs ⟨A,n,c,h1,h2,h3,h4⟩ => ⟨_,h1,h2,A,n,c,rfl,h3,h4⟩) h
structure Cp {α : Type} (fc : α → Value → List Value) (e e2 : TypeId) (sz2 : Nat) (cn : Nat → Nat) (cc : Nat → List Value) (B : Nat) (w : World) (fs : List α) (VF : Value) (rs0 rs : List Value) (k : Nat) : Prop where
 len : rs.length = fs.length
 row : w.ownsRow B e 5 VF fs.length (rowOf fc fs rs)
 old : ∀ i : Nat,k ≤ i → rs[i]? = rs0[i]?
 reg : ∀ (i : Nat) (v : Value),i < k → rs[i]? = some v → w.ownsRow B e2 sz2 v (cn i) (cc i)
 dis : ∀ (i j : Nat) (v u : Value),i < k → j < k → i ≠ j → rs[i]? = some v → rs[j]? = some u → Apart v u
theorem Cp.mono {α : Type} {fc : α → Value → List Value} {e e2 : TypeId} {sz2 : Nat} {cn : Nat → Nat} {cc : Nat → List Value} {B : Nat} {w W : World} {fs : List α} {VF : Value} {rs0 rs : List Value} {k : Nat} (h : Cp fc e e2 sz2 cn cc B w fs VF rs0 rs k) (hw : Ext w W) : Cp fc e e2 sz2 cn cc B W fs VF rs0 rs k :=
 ⟨h.len,ownsRow_ext h.row hw,h.old,fun i v hi h1 => ownsRow_ext (h.reg i v hi h1) hw,h.dis⟩
theorem Cp.step {α : Type} {fc : α → Value → List Value} {e e2 : TypeId} {sz2 : Nat} {cn : Nat → Nat} {cc : Nat → List Value} (hfl : ∀ x v,(fc x v).length = 5) (q : Nat) (hq : q < 5) (hput : ∀ x v v',fc x v' = (fc x v).set q v') (hget : ∀ x v,(fc x v)[q]? = some v) (hee : e2 ≠ e)
  {B : Nat} {w W : World} {fs : List α} {VF : Value} {rs0 rs : List Value} {k : Nat} {f : α} {v : Value} (h : Cp fc e e2 sz2 cn cc B w fs VF rs0 rs k) (hk : fs[k]? = some f) (hE : Ext w W) (hB : B ≤ w.heap.size)
  (hv : W.ownsRow w.heap.size e2 sz2 v (cn k) (cc k)) :
  ∃ g c,VF = .slice (some ⟨g,0,none⟩) fs.length c ∧ B ≤ g ∧ W.frozen? ⟨g,k * 5 + q,none⟩ = false ∧ (∃ u,W.cell? ⟨g,k * 5 + q,none⟩ = some u) ∧
   Cp fc e e2 sz2 cn cc B (W.setCell ⟨g,k * 5 + q,none⟩ v) fs VF rs0 (rs.set k v) (k + 1) ∧ W.grownBy (W.setCell ⟨g,k * 5 + q,none⟩ v) (some g) := by
 have hkl : k < fs.length := (List.getElem?_eq_some_iff.1 hk).1
 have h' := h.mono hE
 obtain ⟨u,hu⟩ : ∃ u,rs[k]? = some u := ⟨_,List.getElem?_eq_getElem (by rw [h.len];exact hkl)⟩
 obtain ⟨g,c,rfl,hg⟩ := own_form h'.row (by omega)
 obtain ⟨hs,hgr⟩ := h'.row.stored (k * 5 + q) v
 have hvB : ∀ x,v.ownBlock = some x → w.heap.size ≤ x := fun x hx => (hv.lt x hx).1
 refine ⟨g,c,rfl,hg,h'.row.frozenAt _,⟨u, ?_⟩,⟨by rw [List.length_set];exact h.len, ?_,fun i hi => ?_,fun i v' hi h2 => ?_,fun i j v' u' hi hj hij h1 h2 => ?_⟩,hgr⟩
 ·rw [h'.row.cellAt _ (by omega),rowOf_get hfl hk hu hq];exact hget _ _
 ·rw [← rowOf_put hfl (j := q) (u := v) (v' := v) hk hu hq (hput _ _ _)];exact hs
 ·rw [List.getElem?_set_ne (by omega)];exact h.old i (by omega)
 ·rw [List.getElem?_set] at h2
  split at h2
  ·rename_i e
   subst e
   split at h2
   ·cases h2
    exact World.ownsRow.mono (hv.kept hgr (by rcases apart_types hv h'.row hee with e | e;exact .inl e;exact .inr e)) hB
   ·cases h2
  ·exact (h'.reg i v' (by omega) h2).kept hgr (by rcases apart_types (h'.reg i v' (by omega) h2) h'.row hee with e | e;exact .inl e;exact .inr e)
 ·have old_ne : ∀ (i : Nat) (v' : Value),i < k → rs[i]? = some v' → ∀ x,v'.ownBlock = some x → x < w.heap.size := fun i v' hi e x hx => by
   exact ((h.reg i v' hi e).lt x hx).2
  rw [List.getElem?_set] at h1 h2
  split at h1 <;> split at h2
  ·omega
  ·rename_i e1 e2
   subst e1
   split at h1
   ·cases h1
    unfold Apart
    cases hx : v.ownBlock with
    | none => exact .inl rfl
    | some x => exact .inr (fun e => by have := hvB x hx;have := old_ne j u' (by omega) h2 x e.symm;omega)
   ·cases h1
  ·rename_i e1 e2
   subst e2
   split at h2
   ·cases h2
    unfold Apart
    cases hx : v'.ownBlock with
    | none => exact .inl rfl
    | some x => exact .inr (fun e => by have := hvB x e.symm;have := old_ne i v' (by omega) h1 x hx;omega)
   ·cases h2
  ·exact h.dis i j v' u' (by omega) (by omega) hij h1 h2
def frmN (fs : List Frm) (i : Nat) : Nat := match fs[i]? with | some f => f.regs.length | none => 0
def frmC (fs : List Frm) (i : Nat) : List Value := match fs[i]? with | some f => f.regs.map (int .i64) | none => []
def blkN (bs : List Blk) (i : Nat) : Nat := match bs[i]? with | some b => b.handlers.length | none => 0
def blkC (bs : List Blk) (gs : List (List Value)) (i : Nat) : List Value := match bs[i]?,gs[i]? with | some b,some g => rowOf hdlCells b.handlers g | _,_ => []
abbrev CpF (B : Nat) (w : World) (fs : List Frm) := Cp frmCells 57 3 1 (frmN fs) (frmC fs) B w fs
abbrev CpB (gs : List (List Value)) (B : Nat) (w : World) (bs : List Blk) := Cp blkCells 65 83 2 (blkN bs) (blkC bs gs) B w bs
theorem Cp.start {α : Type} {fc : α → Value → List Value} {e e2 : TypeId} {sz2 : Nat} {cn : Nat → Nat} {cc : Nat → List Value} {B : Nat} {w : World} {fs : List α} {VF : Value} {rs0 : List Value} (hl : rs0.length = fs.length) (hr : w.ownsRow B e 5 VF fs.length (rowOf fc fs rs0)) :
  Cp fc e e2 sz2 cn cc B w fs VF rs0 rs0 0 := ⟨hl,hr,fun _ _ => rfl,fun _ _ hi => absurd hi (by omega),fun _ _ _ _ hi => absurd hi (by omega)⟩
theorem CpF.done {B : Nat} {w : World} {fs : List Frm} {VF : Value} {rs0 rs : List Value} (h : CpF B w fs VF rs0 rs fs.length) (hi : ∀ f : Frm,f ∈ fs → InR f.fn ∧ InR f.pc ∧ InR f.result ∧ ∀ x ∈ f.regs,InR x) : OFr B w fs VF rs :=
 ⟨h.len,h.row,fun i f v h1 h2 => by
  have := h.reg i v (List.getElem?_eq_some_iff.1 h1).1 h2
  rw [frmN,frmC,h1] at this
  exact this,fun i j v u hij h1 h2 => h.dis i j v u (by rw [← h.len];exact (List.getElem?_eq_some_iff.1 h1).1) (by rw [← h.len];exact (List.getElem?_eq_some_iff.1 h2).1) hij h1 h2,hi⟩
theorem CpB.done {B : Nat} {w : World} {bs : List Blk} {VB : Value} {hs0 hs : List Value} {gs : List (List Value)} {rs : List Value} (h : CpB gs B w bs VB hs0 hs bs.length) (hgl : gs.length = bs.length)
  (hg : ∀ (i : Nat) (b : Blk) (a : List Value),bs[i]? = some b → gs[i]? = some a → a.length = b.handlers.length ∧ ∀ (k : Nat) (x : Hdl) (v : Value),b.handlers[k]? = some x → a[k]? = some v → InR x.fn ∧ RArgs w x.args v ∧ (x.args = [] ∨ ∀ r ∈ rs,Apart r v))
  (hi : ∀ b : Blk,b ∈ bs → InR b.scope ∧ InR b.depth ∧ InR b.exit ∧ InR b.mask) : OBl B w bs VB hs gs rs :=
 ⟨h.len,hgl,h.row,fun i b v a h1 h2 h3 => by
  have := h.reg i v (List.getElem?_eq_some_iff.1 h1).1 h2
  rw [blkN,blkC,h1,h3] at this
  exact ⟨(hg i b a h1 h3).1,this⟩,fun i b a k x v h1 h2 h3 h4 => (hg i b a h1 h2).2 k x v h3 h4,
  fun i j v u hij h1 h2 => h.dis i j v u (by rw [← h.len];exact (List.getElem?_eq_some_iff.1 h1).1) (by rw [← h.len];exact (List.getElem?_eq_some_iff.1 h2).1) hij h1 h2,hi⟩
theorem int_one (xs : List Int) : ∀ u ∈ xs.map (int .i64),u.oneCell' = true := by intro u hu;obtain ⟨x,_,rfl⟩ := List.mem_map.1 hu;rfl
theorem ints_csl {w : World} {A : Option Addr} {n : Nat} {xs : List Int} (h : RSl 1 RInt w A n xs) : CSl w A n 1 (xs.map (int .i64)) := by
 refine ⟨by simp [h.len],fun hn => ?_⟩
 have hl := h.len
 obtain ⟨b,off,rfl,_⟩ := h.int (List.getElem?_eq_getElem (show 0 < xs.length by omega))
 refine ⟨b,off,rfl,fun j u hj => ?_⟩
 rw [List.getElem?_map] at hj
 cases hx : xs[j]? with
 | none => rw [hx] at hj;cases hj
 | some x =>
  rw [hx] at hj;cases hj
  obtain ⟨b',off',hA,_,_,hc⟩ := h.int hx
  cases hA
  exact hc
theorem RSl.nil_of_none {α : Type} {sz : Nat} {R : World → α → List Value → Prop} {w : World} {A : Option Addr} {n : Nat} {xs : List α} (h : RSl sz R w A n xs) (hA : A = none) : n = 0 := by
 rcases Nat.eq_zero_or_pos n with h0 | h0
 ·exact h0
 ·have hl := h.len
  obtain ⟨b,off,cs,hA',_⟩ := h.2.2 0 _ (List.getElem?_eq_getElem (show 0 < xs.length by omega))
  rw [hA] at hA';cases hA'
theorem rowOf_one {α : Type} {f : α → Value → List Value} (hf : ∀ x v,v.oneCell' = true → ∀ u ∈ f x v,u.oneCell' = true) : ∀ {xs : List α} {vs : List Value},(∀ v ∈ vs,v.oneCell' = true) → ∀ u ∈ rowOf f xs vs,u.oneCell' = true
 | [],_,_,u,hu => by simp [rowOf] at hu
 | _ :: _,[],_,u,hu => by simp [rowOf] at hu
 | x :: xs,v :: vs,hv,u,hu => by
  simp only [rowOf,List.zipWith_cons_cons,List.flatten_cons,List.mem_append] at hu
  rcases hu with hu | hu
  ·exact hf x v (hv v (by simp)) u hu
  ·exact rowOf_one hf (fun v h => hv v (by simp [h])) u hu
theorem frmCells_one (x : Frm) (v : Value) (h : v.oneCell' = true) : ∀ u ∈ frmCells x v,u.oneCell' = true := by intro u hu;simp [frmCells] at hu;rcases hu with rfl | rfl | rfl | rfl | rfl <;> first | exact h | rfl
theorem blkCells_one (x : Blk) (v : Value) (h : v.oneCell' = true) : ∀ u ∈ blkCells x v,u.oneCell' = true := by intro u hu;simp [blkCells] at hu;rcases hu with rfl | rfl | rfl | rfl | rfl <;> first | exact h | rfl
theorem hdlCells_one (x : Hdl) (v : Value) (h : v.oneCell' = true) : ∀ u ∈ hdlCells x v,u.oneCell' = true := by intro u hu;simp [hdlCells] at hu;rcases hu with rfl | rfl <;> first | exact h | rfl
theorem exists_list' {β : Type} {P : Nat → β → Prop} : ∀ n,(∀ k,k < n → ∃ v,P k v) → ∃ vs : List β,vs.length = n ∧ ∀ k v,vs[k]? = some v → P k v
 | 0,_ => ⟨[],rfl,fun k v h => by simp at h⟩
 | n + 1,h => by
  obtain ⟨vs,hl,hv⟩ := exists_list' n (fun k hk => h k (by omega))
  obtain ⟨v,hp⟩ := h n (by omega)
  refine ⟨vs ++ [v],by simp [hl],fun k u hk => ?_⟩
  rw [List.getElem?_append] at hk
  split at hk
  ·exact hv k u hk
  ·have : k - vs.length = 0 := by
    rcases Nat.eq_zero_or_pos (k - vs.length) with h0 | h0
    ·exact h0
    ·rw [List.getElem?_eq_none (by simp;omega)] at hk;cases hk
   rw [this] at hk
   simp only [List.getElem?_cons_zero,Option.some.injEq] at hk
   subst hk
   have : k = n := by omega
   subst this
   exact hp
theorem flat_length {β : Type} {sz : Nat} : ∀ {css : List (List β)},(∀ c ∈ css,c.length = sz) → css.flatten.length = css.length * sz
 | [],_ => by simp
 | c :: css,h => by
  have := flat_length (css := css) (fun c hc => h c (by simp [hc]))
  rw [List.flatten_cons,List.length_append,h c (by simp),this,List.length_cons,Nat.add_mul];omega
theorem flat_get {β : Type} {sz : Nat} : ∀ {css : List (List β)} {i j : Nat} {c : List β},(∀ c ∈ css,c.length = sz) → css[i]? = some c → j < sz → css.flatten[i * sz + j]? = c[j]?
 | [],i,j,c,_,h,_ => by simp at h
 | c :: css,0,j,d,h,hi,hj => by
  simp only [List.getElem?_cons_zero,Option.some.injEq] at hi
  subst hi
  rw [List.flatten_cons,Nat.zero_mul,Nat.zero_add,List.getElem?_append_left (by rw [h c (by simp)];exact hj)]
 | c :: css,i + 1,j,d,h,hi,hj => by
  simp only [List.getElem?_cons_succ] at hi
  have := flat_get (css := css) (j := j) (fun c hc => h c (by simp [hc])) hi hj
  rw [List.flatten_cons,List.getElem?_append_right (by rw [h c (by simp),Nat.add_mul];omega),h c (by simp),← this]
  congr 1
  rw [Nat.add_mul];omega
theorem RSl.cells {α : Type} {sz : Nat} {R : World → α → List Value → Prop} (hsz : 0 < sz) (hR : Stays R) (hone : ∀ w x cs,R w x cs → ∀ u ∈ cs,u.oneCell' = true) {w : World} {A : Option Addr} {n : Nat} {xs : List α} (h : RSl sz R w A n xs) :
  ∃ cs : List Value,CSl w A n sz cs ∧ (∀ u ∈ cs,u.oneCell' = true) ∧ ∀ W A',Ext w W → CSl W A' n sz cs → RSl sz R W A' n xs := by
 obtain ⟨css,hl,hv⟩ := exists_list' (P := fun k (cs : List Value) => ∀ x : α,xs[k]? = some x → cs.length = sz ∧ R w x cs ∧ ∀ b o,A = some ⟨b,o,none⟩ → ∀ j u,cs[j]? = some u → w.cell? ⟨b,o + k * sz + j,none⟩ = some u) xs.length (fun k hk => by
  obtain ⟨b,off,cs,hA,hcl,hr,hcell⟩ := h.2.2 k _ (List.getElem?_eq_getElem hk)
  refine ⟨cs,fun x hx => ?_⟩
  rw [List.getElem?_eq_getElem hk] at hx
  cases hx
  refine ⟨hcl,hr,fun b' o' hA' j u hj => ?_⟩
  rw [hA] at hA'
  cases hA'
  exact hcell j u hj)
 have hlen := h.len
 have hall : ∀ c ∈ css,c.length = sz := fun c hc => by
  obtain ⟨i,hi,rfl⟩ := List.getElem_of_mem hc
  exact (hv i _ (List.getElem?_eq_getElem hi) _ (List.getElem?_eq_getElem (by omega))).1
 have hcs : css.flatten.length = n * sz := by rw [flat_length hall,hl,hlen]
 refine ⟨css.flatten,⟨hcs,fun hn => ?_⟩,fun u hu => ?_,fun W A' hW hC => ⟨h.1,h.2.1,fun k x hk => ?_⟩⟩
 ·obtain ⟨b,off,_,hA,_⟩ := h.2.2 0 _ (List.getElem?_eq_getElem (show 0 < xs.length by omega))
  refine ⟨b,off,hA,fun j u hj => ?_⟩
  have hjl : j < xs.length * sz := by have := (List.getElem?_eq_some_iff.1 hj).1;rwa [hcs,hlen] at this
  have hk : j / sz < xs.length := (Nat.div_lt_iff_lt_mul hsz).2 hjl
  obtain ⟨c,hc⟩ : ∃ c,css[j / sz]? = some c := ⟨_,List.getElem?_eq_getElem (by omega)⟩
  have e : j = j / sz * sz + j % sz := by rw [Nat.mul_comm];exact (Nat.div_add_mod j sz).symm
  rw [e,flat_get hall hc (Nat.mod_lt _ hsz)] at hj
  have := (hv _ c hc _ (List.getElem?_eq_getElem hk)).2.2 b off hA _ u hj
  rw [Nat.add_assoc,← e] at this
  exact this
 ·obtain ⟨c,hc,huc⟩ := List.mem_flatten.1 hu
  obtain ⟨i,hi,rfl⟩ := List.getElem_of_mem hc
  exact hone _ _ _ (hv i _ (List.getElem?_eq_getElem hi) _ (List.getElem?_eq_getElem (by omega))).2.1 u huc
 ·have hlt : k < xs.length := (List.getElem?_eq_some_iff.1 hk).1
  obtain ⟨b,o,hA,hc⟩ := hC.2 (by omega)
  obtain ⟨c,hcc⟩ : ∃ c,css[k]? = some c := ⟨_,List.getElem?_eq_getElem (by omega)⟩
  obtain ⟨h1,h2,_⟩ := hv k c hcc x hk
  refine ⟨b,o,c,hA,h1,hR _ _ _ _ hW h2,fun j v hj => ?_⟩
  have := hc (k * sz + j) v (by rw [flat_get hall hcc (by rw [← h1];exact (List.getElem?_eq_some_iff.1 hj).1)];exact hj)
  rw [Nat.add_assoc];exact this
abbrev wr64 (x : Int) : Int := wrap64 x
def zeroTsk : Tsk := ⟨0,0,0,0,0,0,false,[],[],0,false,0,0,0⟩
theorem zero_in : InR 0 := by constructor <;> decide
theorem RSl.nil {α : Type} {sz : Nat} {R : World → α → List Value → Prop} (w : World) : RSl sz R w none 0 ([] : List α) := ⟨rfl,by omega,fun k x h => by simp at h⟩
def zeroV : Value := .agg #[int .i64 0,int .i64 0,int .i64 0,int .i64 0,int .i64 0,int .i64 0,.bool false,.slice none 0 0,.slice none 0 0,int .i64 0,.bool false,int .i64 0,int .i64 0,int .i64 0]
theorem zero_reads (w : World) : RTsk w zeroTsk zeroV :=
 ⟨none,0,0,none,0,0,rfl,zero_in,zero_in,zero_in,zero_in,zero_in,zero_in,zero_in,zero_in,zero_in,zero_in,RSl.nil w,RSl.nil w,Nat.le_refl _,Nat.le_refl _⟩
end Go.Proofs.Ytcjjoabofecjmaa

