/- A part of the proof: Words on worlds that only grow, used by all walks of this se. -/
import Derived.WalkKit
import Derived.WalkSpells
import Derived.WalkLawsBesides
import Derived.Deep.Draws
import Derived.Deep.RegionHeld3
import Derived.Lib.QuietBelow
set_option linter.unusedVariables false
set_option linter.unusedSimpArgs false
set_option maxHeartbeats 16000000
namespace Go.Proofs.YtcjjoabofecjmaaGreat
open Go.RowKit
open Go.Value (int)
def Ext (w W : World) : Prop := Below w.heap.size w W
theorem Ext.refl (w : World) : Ext w w := Below.refl _ _
theorem Ext.alloc {w W : World} (h : Ext w W) (o : Obj) : Ext w (W.alloc o) := Below.alloc h h.size o
theorem Ext.drew {w W : World} (h : Ext w W) : Ext w W.drew := Below.drew h
theorem Ext.drewN {w W : World} (h : Ext w W) (n : Nat) : Ext w (W.drewN n) := ⟨h.os,h.tape,h.output,h.size,h.block⟩
theorem Ext.setCell {w W : World} (h : Ext w W) {p : Addr} (hp : w.heap.size ≤ p.block) (u : Value) : Ext w (W.setCell p u) := Below.setCell h hp u
theorem Ext.trans {a b c : World} (h : Ext a b) (k : Ext b c) : Ext a c := Below.trans h (Below.mono k h.size)
theorem Ext.size {w W : World} (h : Ext w W) : w.heap.size ≤ W.heap.size := Below.size h
theorem lt_of_cell {w : World} {p : Addr} {v : Value} (hc : w.cell? p = some v) : p.block < w.heap.size := by
 rcases Nat.lt_or_ge p.block w.heap.size with h1 | h1
 ·exact h1
 ·simp [World.cell?,Array.getElem?_eq_none h1] at hc
theorem Ext.cell {w W : World} (h : Ext w W) {p : Addr} {v : Value} (hc : w.cell? p = some v) : W.cell? p = some v := by
 rw [Below.cell h (lt_of_cell hc)];exact hc
theorem Ext.regrown {a w : World} (h : Ext a w) (d : Nat) (os : Array Obj) : Ext a (Go.Sort.grow (redrawn w d) os) := h.trans (below_regrown w d os)
theorem xt {w W : World} (h : Ext w W := by repeat' (first | with_reducible assumption | with_reducible exact Ext.refl _ | with_reducible refine Ext.alloc ?_ _ | with_reducible refine Ext.drew ?_ | with_reducible refine Ext.drewN ?_ _ | with_reducible refine Ext.regrown ?_ _ _ | with_reducible refine Ext.setCell ?_ (by first | (simp;done) | (simp;omega)) _)) : Ext w W := h
theorem sA (w : World) (o : Obj) : (w.alloc o).heap.size = w.heap.size + 1 := World.size_alloc w o
theorem sC (w : World) (p : Addr) (v : Value) : (w.setCell p v).heap.size = w.heap.size := World.size_setCell w p v
theorem sD (w : World) : w.drew.heap.size = w.heap.size := World.size_drew w
theorem sN (w : World) (n : Nat) : (w.drewN n).heap = w.heap := World.heap_drewN w n
theorem dZ {α : Type} (x y : α) (l : List α) : (x :: l).set 0 y = y :: l := rfl
theorem dS {α : Type} (x y : α) (l : List α) (n : Nat) : (x :: l).set (n + 1) y = x :: l.set n y := rfl
theorem aset {α : Type} (l : List α) (i : Nat) (y : α) : l.toArray.setIfInBounds i y = (l.set i y).toArray := List.setIfInBounds_toArray ..
def newCell (w : World) (b o : Nat) : Option Value := w.cell? ⟨b,o,none⟩
def newFrozen (w : World) (b o : Nat) : Bool := w.frozen? ⟨b,o,none⟩
theorem Ext.use {w W W' : World} (h : Ext W W') (hw : Ext w W) :
  (∀ b o,W'.cell? ⟨b,o,none⟩ = if b < W.heap.size then W.cell? ⟨b,o,none⟩ else newCell W' b o) ∧
  (∀ b o,W'.frozen? ⟨b,o,none⟩ = if b < W.heap.size then W.frozen? ⟨b,o,none⟩ else newFrozen W' b o) ∧ W.heap.size ≤ W'.heap.size ∧ Ext w W' := by
 refine ⟨fun b o => ?_,fun b o => ?_,h.size,hw.trans h⟩
 ·split
  ·exact Below.cell h (p := ⟨b,o,none⟩) ‹_›
  ·rfl
 ·split
  ·exact Below.frozen h (p := ⟨b,o,none⟩) ‹_›
  ·rfl
theorem cell?_alloc_if (w : World) (c : Array Value) (t : TypeId) (n i : Nat) :
  (w.alloc (.cells c t)).cell? ⟨n,i,none⟩ = if n < w.heap.size then w.cell? ⟨n,i,none⟩ else if n = w.heap.size then c[i]? else none := by
 split
 ·exact World.cell?_alloc_lt _ _ _ ‹_›
 ·split
  ·rename_i h;subst h;simp [World.cell?,World.alloc,-World.alloc_eq]
  ·have : (w.alloc (.cells c t)).heap[n]? = none := Array.getElem?_eq_none (by simp;omega)
   simp [World.cell?,this,-World.alloc_eq]
theorem cell?_allocMap_if (w : World) (es : Array MapEntry) (t : Nat) (n i : Nat) :
  (w.alloc (.map es t)).cell? ⟨n,i,none⟩ = if n < w.heap.size then w.cell? ⟨n,i,none⟩ else none := by
 split
 ·exact World.cell?_alloc_lt _ _ _ ‹_›
 ·rcases Nat.lt_or_ge w.heap.size n with h | h
  ·have : (w.alloc (.map es t)).heap[n]? = none := Array.getElem?_eq_none (by simp;omega)
   simp [World.cell?,this,-World.alloc_eq]
  ·have h : n = w.heap.size := by omega
   subst h;simp [World.cell?,World.alloc,-World.alloc_eq]
theorem cell?_setCell_if (w : World) (b1 o1 b2 o2 : Nat) (v : Value) :
  (w.setCell ⟨b1,o1,none⟩ v).cell? ⟨b2,o2,none⟩ = if b1 = b2 ∧ o1 = o2 then (w.cell? ⟨b2,o2,none⟩).map (fun _ => v) else w.cell? ⟨b2,o2,none⟩ := by
 split
 ·rename_i h
  obtain ⟨rfl,rfl⟩ := h
  cases hc : w.cell? ⟨b1,o1,none⟩ with
  | none =>
   simp only [World.cell?,World.setCell,Array.getElem?_modify,if_true] at hc ⊢
   cases hh : w.heap[b1]? with
   | none => simp
   | some o =>
    rw [hh] at hc
    cases o <;> simp_all
  | some u => simpa using World.cell?_setCell_same w ⟨b1,o1,none⟩ v hc
 ·rename_i h
  exact World.cell?_setCell_other _ _ _ _ (fun e => h (by injection e with e1 e2;exact ⟨e1,e2⟩))
theorem frozen?_alloc_if (w : World) (c : Array Value) (t : TypeId) (n i : Nat) :
  (w.alloc (.cells c t)).frozen? ⟨n,i,none⟩ = if n < w.heap.size then w.frozen? ⟨n,i,none⟩ else false := by
 split
 ·exact World.frozen?_alloc_past _ _ _ ‹_›
 ·rw [frozen?_alloc_cells]
  have : w.heap[n]? = none := Array.getElem?_eq_none (by omega)
  simp [World.frozen?,this]
attribute [go_sem] cell?_alloc_if cell?_allocMap_if cell?_setCell_if frozen?_alloc_if
theorem ret_int {a b : Int} (h : a = b) : Ending.returned (.int .i64 a) = .returned (.int .i64 b) := by rw [h]
theorem ret_bool {a b : Bool} (h : a = b) : Ending.returned (.bool a) = .returned (.bool b) := by rw [h]
def InR (x : Int) : Prop := -9223372036854775808 ≤ x ∧ x ≤ 9223372036854775807
def RSl {α : Type} (sz : Nat) (R : World → α → List Value → Prop) (w : World) (A : Option Addr) (n : Nat) (xs : List α) : Prop :=
 n = xs.length ∧ n ≤ 140737488355328 ∧ ∀ (k : Nat) (x : α),xs[k]? = some x → ∃ b off cs,A = some ⟨b,off,none⟩ ∧ cs.length = sz ∧ R w x cs ∧
  ∀ (j : Nat) (v : Value),cs[j]? = some v → w.cell? ⟨b,off + k * sz + j,none⟩ = some v
theorem RSl.len {α : Type} {sz : Nat} {R : World → α → List Value → Prop} {w : World} {A : Option Addr} {n : Nat} {xs : List α} (h : RSl sz R w A n xs) : n = xs.length := h.1
theorem RSl.le {α : Type} {sz : Nat} {R : World → α → List Value → Prop} {w : World} {A : Option Addr} {n : Nat} {xs : List α} (h : RSl sz R w A n xs) : n ≤ 9223372036854775807 := by have := h.2.1;omega
def Stays {α : Type} (R : World → α → List Value → Prop) : Prop := ∀ w W x cs,Ext w W → R w x cs → R W x cs
theorem RSl.mono {α : Type} {sz : Nat} {R : World → α → List Value → Prop} (hR : Stays R) {w W : World} {A : Option Addr} {n : Nat} {xs : List α} (h : RSl sz R w A n xs) (hw : Ext w W) : RSl sz R W A n xs := by
 obtain ⟨h1,h2,h3⟩ := h
 refine ⟨h1,h2,fun k x hk => ?_⟩
 obtain ⟨b,off,cs,hA,hl,hr,hc⟩ := h3 k x hk
 exact ⟨b,off,cs,hA,hl,hR _ _ _ _ hw hr,fun j v hj => hw.cell (hc j v hj)⟩
theorem RSl.take {α : Type} {sz : Nat} {R : World → α → List Value → Prop} {w : World} {A : Option Addr} {n : Nat} {xs : List α} (h : RSl sz R w A n xs) {m : Nat} (hm : m ≤ n) : RSl sz R w A m (xs.take m) := by
 obtain ⟨h1,h2,h3⟩ := h
 refine ⟨by rw [List.length_take];omega,by omega,fun k x hk => ?_⟩
 refine h3 k x ?_
 rw [List.getElem?_take] at hk
 split at hk
 ·exact hk
 ·cases hk
def RInt (_ : World) (x : Int) (cs : List Value) : Prop := cs = [int .i64 x] ∧ InR x
theorem RInt.stays : Stays RInt := fun _ _ _ _ _ h => h
structure Ins where
 op : Int
 a : Int
 b : Int
 c : Int
 args : List Int
 deriving DecidableEq,Inhabited
structure Fnc where
 name : ByteArray
 params : Int
 regs : Int
 prio : Int
 cleanup : Bool
 code : List Ins
structure Ob where
 name : ByteArray
 kind : Int
 size : Int
 other : Int
structure Vr where
 name : ByteArray
 init : Int
 atomic : Bool
structure Prg where
 funcs : List Fnc
 objs : List Ob
 vars : List Vr
structure Frm where
 fn : Int
 pc : Int
 regs : List Int
 result : Int
 cleanup : Bool
 deriving DecidableEq,Inhabited
structure Hdl where
 fn : Int
 args : List Int
 deriving DecidableEq,Inhabited
structure Blk where
 scope : Int
 depth : Int
 exit : Int
 mask : Int
 handlers : List Hdl
 deriving DecidableEq,Inhabited
structure Tsk where
 fn : Int
 scope : Int
 prio : Int
 status : Int
 wkind : Int
 windex : Int
 wagain : Bool
 frames : List Frm
 blocks : List Blk
 mask : Int
 unw : Bool
 level : Int
 reason : Int
 result : Int
 deriving DecidableEq,Inhabited
def RIns (w : World) (x : Ins) (cs : List Value) : Prop := ∃ A n c,cs = [int .i64 x.op,int .i64 x.a,int .i64 x.b,int .i64 x.c,.slice A n c] ∧ InR x.op ∧ InR x.a ∧ InR x.b ∧ InR x.c ∧ (RSl 1 RInt w A n x.args ∧ n ≤ c)
def RFnc (w : World) (x : Fnc) (cs : List Value) : Prop := ∃ A n c,cs = [.string x.name,int .i64 x.params,int .i64 x.regs,int .i64 x.prio,.bool x.cleanup,.slice A n c] ∧ x.name.size ≤ 140737488355328 ∧ InR x.params ∧ InR x.regs ∧ InR x.prio ∧ (RSl 5 RIns w A n x.code ∧ n ≤ c)
def ROb (_ : World) (x : Ob) (cs : List Value) : Prop := cs = [.string x.name,int .i64 x.kind,int .i64 x.size,int .i64 x.other] ∧ x.name.size ≤ 140737488355328 ∧ InR x.kind ∧ InR x.size ∧ InR x.other
def RVr (_ : World) (x : Vr) (cs : List Value) : Prop := cs = [.string x.name,int .i64 x.init,.bool x.atomic] ∧ x.name.size ≤ 140737488355328 ∧ InR x.init
def RPrg (w : World) (p : Prg) (V : Value) : Prop := ∃ Af nf cf Ao no co Av nv cv,V = .agg #[.slice Af nf cf,.slice Ao no co,.slice Av nv cv] ∧ RSl 6 RFnc w Af nf p.funcs ∧ RSl 4 ROb w Ao no p.objs ∧ (RSl 3 RVr w Av nv p.vars ∧ nf ≤ cf ∧ no ≤ co ∧ nv ≤ cv)
def RHdl (w : World) (x : Hdl) (cs : List Value) : Prop := ∃ A n c,cs = [int .i64 x.fn,.slice A n c] ∧ InR x.fn ∧ (RSl 1 RInt w A n x.args ∧ n ≤ c)
def RFrm (w : World) (x : Frm) (cs : List Value) : Prop := ∃ A n c,cs = [int .i64 x.fn,int .i64 x.pc,.slice A n c,int .i64 x.result,.bool x.cleanup] ∧ InR x.fn ∧ InR x.pc ∧ InR x.result ∧ (RSl 1 RInt w A n x.regs ∧ n ≤ c)
def RBlk (w : World) (x : Blk) (cs : List Value) : Prop := ∃ A n c,cs = [int .i64 x.scope,int .i64 x.depth,int .i64 x.exit,int .i64 x.mask,.slice A n c] ∧ InR x.scope ∧ InR x.depth ∧ InR x.exit ∧ InR x.mask ∧ (RSl 2 RHdl w A n x.handlers ∧ n ≤ c)
def RTsk (w : World) (t : Tsk) (V : Value) : Prop := ∃ Af nf cf Ab nb cb,V = .agg #[int .i64 t.fn,int .i64 t.scope,int .i64 t.prio,int .i64 t.status,int .i64 t.wkind,int .i64 t.windex,.bool t.wagain,.slice Af nf cf,.slice Ab nb cb,int .i64 t.mask,.bool t.unw,int .i64 t.level,int .i64 t.reason,int .i64 t.result] ∧
 InR t.fn ∧ InR t.scope ∧ InR t.prio ∧ InR t.status ∧ InR t.wkind ∧ InR t.windex ∧ InR t.mask ∧ InR t.level ∧ InR t.reason ∧ InR t.result ∧ RSl 5 RFrm w Af nf t.frames ∧ (RSl 5 RBlk w Ab nb t.blocks ∧ nf ≤ cf ∧ nb ≤ cb)
theorem RIns.stays : Stays RIns := fun _ _ _ _ hw ⟨A,n,c,h1,h2,h3,h4,h5,h6⟩ => ⟨A,n,c,h1,h2,h3,h4,h5,h6.1.mono RInt.stays hw,h6.2⟩
theorem RFnc.stays : Stays RFnc := fun _ _ _ _ hw ⟨A,n,c,h1,h2,h3,h4,h5,h6⟩ => ⟨A,n,c,h1,h2,h3,h4,h5,h6.1.mono RIns.stays hw,h6.2⟩
theorem ROb.stays : Stays ROb := fun _ _ _ _ _ h => h
theorem RVr.stays : Stays RVr := fun _ _ _ _ _ h => h
theorem RHdl.stays : Stays RHdl := fun _ _ _ _ hw ⟨A,n,c,h1,h2,h3⟩ => ⟨A,n,c,h1,h2,h3.1.mono RInt.stays hw,h3.2⟩
theorem RFrm.stays : Stays RFrm := fun _ _ _ _ hw ⟨A,n,c,h1,h2,h3,h4,h5⟩ => ⟨A,n,c,h1,h2,h3,h4,h5.1.mono RInt.stays hw,h5.2⟩
theorem RBlk.stays : Stays RBlk := fun _ _ _ _ hw ⟨A,n,c,h1,h2,h3,h4,h5,h6⟩ => ⟨A,n,c,h1,h2,h3,h4,h5,h6.1.mono RHdl.stays hw,h6.2⟩
theorem RPrg.mono {w W : World} {p : Prg} {V : Value} (h : RPrg w p V) (hw : Ext w W) : RPrg W p V := by
 obtain ⟨Af,nf,cf,Ao,no,co,Av,nv,cv,h1,h2,h3,h4⟩ := h
 exact ⟨Af,nf,cf,Ao,no,co,Av,nv,cv,h1,h2.mono RFnc.stays hw,h3.mono ROb.stays hw,h4.1.mono RVr.stays hw,h4.2⟩
theorem RTsk.mono {w W : World} {t : Tsk} {V : Value} (h : RTsk w t V) (hw : Ext w W) : RTsk W t V := by
 obtain ⟨Af,nf,cf,Ab,nb,cb,h1,a1,a2,a3,a4,a5,a6,a7,a8,a9,a10,h2,h3⟩ := h
 exact ⟨Af,nf,cf,Ab,nb,cb,h1,a1,a2,a3,a4,a5,a6,a7,a8,a9,a10,h2.mono RFrm.stays hw,h3.1.mono RBlk.stays hw,h3.2⟩
theorem RSl.int {w : World} {A : Option Addr} {n : Nat} {xs : List Int} (h : RSl 1 RInt w A n xs) {k : Nat} {x : Int} (hk : xs[k]? = some x) :
  ∃ b off,A = some ⟨b,off,none⟩ ∧ b < w.heap.size ∧ InR x ∧ w.cell? ⟨b,off + k,none⟩ = some (Value.int .i64 x) := by
 obtain ⟨b,off,cs,hA,_,⟨rfl,hi⟩,hc⟩ := h.2.2 k _ hk
 exact ⟨b,off,hA,lt_of_cell (hc 0 _ rfl),hi,by simpa using hc 0 _ rfl⟩
theorem RSl.ob {w : World} {A : Option Addr} {n : Nat} {xs : List Ob} (h : RSl 4 ROb w A n xs) {k : Nat} {x : Ob} (hk : xs[k]? = some x) :
  ∃ b off,A = some ⟨b,off,none⟩ ∧ b < w.heap.size ∧ x.name.size ≤ 140737488355328 ∧ InR x.kind ∧ InR x.size ∧ InR x.other ∧ w.cell? ⟨b,off + k * 4,none⟩ = some (.string x.name) ∧ w.cell? ⟨b,off + k * 4 + 1,none⟩ = some (Value.int .i64 x.kind) ∧
   w.cell? ⟨b,off + k * 4 + 2,none⟩ = some (Value.int .i64 x.size) ∧ w.cell? ⟨b,off + k * 4 + 3,none⟩ = some (Value.int .i64 x.other) := by
 obtain ⟨b,off,cs,hA,_,⟨rfl,h1,h2,h3,h4⟩,hc⟩ := h.2.2 k _ hk
 exact ⟨b,off,hA,lt_of_cell (hc 0 _ rfl),h1,h2,h3,h4,hc 0 _ rfl,hc 1 _ rfl,hc 2 _ rfl,hc 3 _ rfl⟩
theorem RSl.vr {w : World} {A : Option Addr} {n : Nat} {xs : List Vr} (h : RSl 3 RVr w A n xs) {k : Nat} {x : Vr} (hk : xs[k]? = some x) :
  ∃ b off,A = some ⟨b,off,none⟩ ∧ b < w.heap.size ∧ x.name.size ≤ 140737488355328 ∧ InR x.init ∧ w.cell? ⟨b,off + k * 3,none⟩ = some (.string x.name) ∧ w.cell? ⟨b,off + k * 3 + 1,none⟩ = some (Value.int .i64 x.init) ∧
   w.cell? ⟨b,off + k * 3 + 2,none⟩ = some (.bool x.atomic) := by
 obtain ⟨b,off,cs,hA,_,⟨rfl,h1,h2⟩,hc⟩ := h.2.2 k _ hk
 exact ⟨b,off,hA,lt_of_cell (hc 0 _ rfl),h1,h2,hc 0 _ rfl,hc 1 _ rfl,hc 2 _ rfl⟩
theorem RSl.ins {w : World} {A : Option Addr} {n : Nat} {xs : List Ins} (h : RSl 5 RIns w A n xs) {k : Nat} {x : Ins} (hk : xs[k]? = some x) :
  ∃ b off Aa na ca,A = some ⟨b,off,none⟩ ∧ b < w.heap.size ∧ InR x.op ∧ InR x.a ∧ InR x.b ∧ InR x.c ∧ (RSl 1 RInt w Aa na x.args ∧ na ≤ ca) ∧ w.cell? ⟨b,off + k * 5,none⟩ = some (Value.int .i64 x.op) ∧ w.cell? ⟨b,off + k * 5 + 1,none⟩ = some (Value.int .i64 x.a) ∧
   w.cell? ⟨b,off + k * 5 + 2,none⟩ = some (Value.int .i64 x.b) ∧ w.cell? ⟨b,off + k * 5 + 3,none⟩ = some (Value.int .i64 x.c) ∧ w.cell? ⟨b,off + k * 5 + 4,none⟩ = some (.slice Aa na ca) := by
 obtain ⟨b,off,cs,hA,_,⟨Aa,na,ca,rfl,h1,h2,h3,h4,h5⟩,hc⟩ := h.2.2 k _ hk
 exact ⟨b,off,Aa,na,ca,hA,lt_of_cell (hc 0 _ rfl),h1,h2,h3,h4,h5,hc 0 _ rfl,hc 1 _ rfl,hc 2 _ rfl,hc 3 _ rfl,hc 4 _ rfl⟩
theorem RSl.fnc {w : World} {A : Option Addr} {n : Nat} {xs : List Fnc} (h : RSl 6 RFnc w A n xs) {k : Nat} {x : Fnc} (hk : xs[k]? = some x) :
  ∃ b off Ac nc cc,A = some ⟨b,off,none⟩ ∧ b < w.heap.size ∧ x.name.size ≤ 140737488355328 ∧ InR x.params ∧ InR x.regs ∧ InR x.prio ∧ (RSl 5 RIns w Ac nc x.code ∧ nc ≤ cc) ∧ w.cell? ⟨b,off + k * 6,none⟩ = some (.string x.name) ∧ w.cell? ⟨b,off + k * 6 + 1,none⟩ = some (Value.int .i64 x.params) ∧
   w.cell? ⟨b,off + k * 6 + 2,none⟩ = some (Value.int .i64 x.regs) ∧ w.cell? ⟨b,off + k * 6 + 3,none⟩ = some (Value.int .i64 x.prio) ∧ w.cell? ⟨b,off + k * 6 + 4,none⟩ = some (.bool x.cleanup) ∧ w.cell? ⟨b,off + k * 6 + 5,none⟩ = some (.slice Ac nc cc) := by
 obtain ⟨b,off,cs,hA,_,⟨Aa,na,ca,rfl,h1,h2,h3,h4,h5⟩,hc⟩ := h.2.2 k _ hk
 exact ⟨b,off,Aa,na,ca,hA,lt_of_cell (hc 0 _ rfl),h1,h2,h3,h4,h5,hc 0 _ rfl,hc 1 _ rfl,hc 2 _ rfl,hc 3 _ rfl,hc 4 _ rfl,hc 5 _ rfl⟩
theorem RSl.hdl {w : World} {A : Option Addr} {n : Nat} {xs : List Hdl} (h : RSl 2 RHdl w A n xs) {k : Nat} {x : Hdl} (hk : xs[k]? = some x) :
  ∃ b off Aa na ca,A = some ⟨b,off,none⟩ ∧ b < w.heap.size ∧ InR x.fn ∧ (RSl 1 RInt w Aa na x.args ∧ na ≤ ca) ∧ w.cell? ⟨b,off + k * 2,none⟩ = some (Value.int .i64 x.fn) ∧ w.cell? ⟨b,off + k * 2 + 1,none⟩ = some (.slice Aa na ca) := by
 obtain ⟨b,off,cs,hA,_,⟨Aa,na,ca,rfl,h1,h2⟩,hc⟩ := h.2.2 k _ hk
 exact ⟨b,off,Aa,na,ca,hA,lt_of_cell (hc 0 _ rfl),h1,h2,hc 0 _ rfl,hc 1 _ rfl⟩
theorem RSl.frm {w : World} {A : Option Addr} {n : Nat} {xs : List Frm} (h : RSl 5 RFrm w A n xs) {k : Nat} {x : Frm} (hk : xs[k]? = some x) :
  ∃ b off Aa na ca,A = some ⟨b,off,none⟩ ∧ b < w.heap.size ∧ InR x.fn ∧ InR x.pc ∧ InR x.result ∧ (RSl 1 RInt w Aa na x.regs ∧ na ≤ ca) ∧ w.cell? ⟨b,off + k * 5,none⟩ = some (Value.int .i64 x.fn) ∧ w.cell? ⟨b,off + k * 5 + 1,none⟩ = some (Value.int .i64 x.pc) ∧
   w.cell? ⟨b,off + k * 5 + 2,none⟩ = some (.slice Aa na ca) ∧ w.cell? ⟨b,off + k * 5 + 3,none⟩ = some (Value.int .i64 x.result) ∧ w.cell? ⟨b,off + k * 5 + 4,none⟩ = some (.bool x.cleanup) := by
 obtain ⟨b,off,cs,hA,_,⟨Aa,na,ca,rfl,h1,h2,h3,h4⟩,hc⟩ := h.2.2 k _ hk
 exact ⟨b,off,Aa,na,ca,hA,lt_of_cell (hc 0 _ rfl),h1,h2,h3,h4,hc 0 _ rfl,hc 1 _ rfl,hc 2 _ rfl,hc 3 _ rfl,hc 4 _ rfl⟩
theorem RSl.blk {w : World} {A : Option Addr} {n : Nat} {xs : List Blk} (h : RSl 5 RBlk w A n xs) {k : Nat} {x : Blk} (hk : xs[k]? = some x) :
  ∃ b off Aa na ca,A = some ⟨b,off,none⟩ ∧ b < w.heap.size ∧ InR x.scope ∧ InR x.depth ∧ InR x.exit ∧ InR x.mask ∧ (RSl 2 RHdl w Aa na x.handlers ∧ na ≤ ca) ∧ w.cell? ⟨b,off + k * 5,none⟩ = some (Value.int .i64 x.scope) ∧ w.cell? ⟨b,off + k * 5 + 1,none⟩ = some (Value.int .i64 x.depth) ∧
   w.cell? ⟨b,off + k * 5 + 2,none⟩ = some (Value.int .i64 x.exit) ∧ w.cell? ⟨b,off + k * 5 + 3,none⟩ = some (Value.int .i64 x.mask) ∧ w.cell? ⟨b,off + k * 5 + 4,none⟩ = some (.slice Aa na ca) := by
 obtain ⟨b,off,cs,hA,_,⟨Aa,na,ca,rfl,h1,h2,h3,h4,h5⟩,hc⟩ := h.2.2 k _ hk
 exact ⟨b,off,Aa,na,ca,hA,lt_of_cell (hc 0 _ rfl),h1,h2,h3,h4,h5,hc 0 _ rfl,hc 1 _ rfl,hc 2 _ rfl,hc 3 _ rfl,hc 4 _ rfl⟩
end Go.Proofs.YtcjjoabofecjmaaGreat

