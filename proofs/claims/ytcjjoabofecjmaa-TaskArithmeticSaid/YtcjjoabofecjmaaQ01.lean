/- A part of the proof: Words on worlds that only grow, used by all walks of this se. -/
import Derived.Test.YtcjjoabofecjmaaProg
import Derived.WalkKit
import Derived.WalkSpells
import Derived.WalkLawsBesides
import Derived.Deep.Draws
import Derived.Deep.RegionHeld3
import Derived.Lib.QuietBelow
import Derived.Lib.Hide
import Derived.BigQuiet
import Derived.OrdersIn
import Derived.TacticsIn
import Derived.StillTail
set_option linter.unusedVariables false
set_option linter.unusedSimpArgs false
set_option maxHeartbeats 16000000
namespace Go.Proofs.Ytcjjoabofecjmaa
open Go.RowKit
open Go.Value (int)
def Ext (w W : World) : Prop := Below w.heap.size w W
theorem Ext.refl (w : World) : Ext w w := Below.refl _ _
theorem Ext.alloc {w W : World} (h : Ext w W) (o : Obj) : Ext w (W.alloc o) := Below.alloc h h.size o
theorem Ext.drew {w W : World} (h : Ext w W) : Ext w W.drew := Below.drew h
theorem Ext.drewN {w W : World} (h : Ext w W) (n : Nat) : Ext w (W.drewN n) := ⟨h.os,h.tape,h.output,h.size,h.block⟩
theorem Ext.setCell {w W : World} (h : Ext w W) {p : Addr} (hp : w.heap.size ≤ p.block) (u : Value) : Ext w (W.setCell p u) := Below.setCell h hp u
theorem Ext.trans {a b c : World} (h : Ext a b) (k : Ext b c) : Ext a c := Below.trans h (Below.mono k h.size)
theorem Ext.size {w W : World} (h : Ext w W) : w.heap.size ≤ W.heap.size := Below.size h
theorem lt_of_cell {w : World} {p : Addr} {v : Value} (hc : w.cell? p = some v) : p.block < w.heap.size := by
 rcases Nat.lt_or_ge p.block w.heap.size with h1 | h1
 ·exact h1
 ·simp [World.cell?,Array.getElem?_eq_none h1] at hc
theorem Ext.cell {w W : World} (h : Ext w W) {p : Addr} {v : Value} (hc : w.cell? p = some v) : W.cell? p = some v := by
 rw [Below.cell h (lt_of_cell hc)];exact hc
theorem Ext.regrown {a w : World} (h : Ext a w) (d : Nat) (os : Array Obj) : Ext a (Go.Sort.grow (redrawn w d) os) := h.trans (below_regrown w d os)
theorem xt {w W : World} (h : Ext w W := by repeat' (first | with_reducible assumption | with_reducible exact Ext.refl _ | with_reducible refine Ext.alloc ?_ _ | with_reducible refine Ext.drew ?_ | with_reducible refine Ext.drewN ?_ _ | with_reducible refine Ext.regrown ?_ _ _ | with_reducible refine Ext.setCell ?_ (by first | (simp;done) | (simp;omega)) _)) : Ext w W := h
theorem sA (w : World) (o : Obj) : (w.alloc o).heap.size = w.heap.size + 1 := World.size_alloc w o
theorem sC (w : World) (p : Addr) (v : Value) : (w.setCell p v).heap.size = w.heap.size := World.size_setCell w p v
theorem sD (w : World) : w.drew.heap.size = w.heap.size := World.size_drew w
theorem sN (w : World) (n : Nat) : (w.drewN n).heap = w.heap := World.heap_drewN w n
theorem dZ {α : Type} (x y : α) (l : List α) : (x :: l).set 0 y = y :: l := rfl
theorem dS {α : Type} (x y : α) (l : List α) (n : Nat) : (x :: l).set (n + 1) y = x :: l.set n y := rfl
theorem aset {α : Type} (l : List α) (i : Nat) (y : α) : l.toArray.setIfInBounds i y = (l.set i y).toArray := List.setIfInBounds_toArray ..
def newCell (w : World) (b o : Nat) : Option Value := w.cell? ⟨b,o,none⟩
def newFrozen (w : World) (b o : Nat) : Bool := w.frozen? ⟨b,o,none⟩
theorem Ext.use {w W W' : World} (h : Ext W W') (hw : Ext w W) :
  (∀ b o,W'.cell? ⟨b,o,none⟩ = if b < W.heap.size then W.cell? ⟨b,o,none⟩ else newCell W' b o) ∧
  (∀ b o,W'.frozen? ⟨b,o,none⟩ = if b < W.heap.size then W.frozen? ⟨b,o,none⟩ else newFrozen W' b o) ∧ W.heap.size ≤ W'.heap.size ∧ Ext w W' := by
 refine ⟨fun b o => ?_,fun b o => ?_,h.size,hw.trans h⟩
 ·split
  ·exact Below.cell h (p := ⟨b,o,none⟩) ‹_›
  ·rfl
 ·split
  ·exact Below.frozen h (p := ⟨b,o,none⟩) ‹_›
  ·rfl
theorem cell?_alloc_if (w : World) (c : Array Value) (t : TypeId) (n i : Nat) :
  (w.alloc (.cells c t)).cell? ⟨n,i,none⟩ = if n < w.heap.size then w.cell? ⟨n,i,none⟩ else if n = w.heap.size then c[i]? else none := by
 split
 ·exact World.cell?_alloc_lt _ _ _ ‹_›
 ·split
  ·rename_i h;subst h;simp [World.cell?,World.alloc,-World.alloc_eq]
  ·have : (w.alloc (.cells c t)).heap[n]? = none := Array.getElem?_eq_none (by simp;omega)
   simp [World.cell?,this,-World.alloc_eq]
theorem cell?_allocMap_if (w : World) (es : Array MapEntry) (t : Nat) (n i : Nat) :
  (w.alloc (.map es t)).cell? ⟨n,i,none⟩ = if n < w.heap.size then w.cell? ⟨n,i,none⟩ else none := by
 split
 ·exact World.cell?_alloc_lt _ _ _ ‹_›
 ·rcases Nat.lt_or_ge w.heap.size n with h | h
  ·have : (w.alloc (.map es t)).heap[n]? = none := Array.getElem?_eq_none (by simp;omega)
   simp [World.cell?,this,-World.alloc_eq]
  ·have h : n = w.heap.size := by omega
   subst h;simp [World.cell?,World.alloc,-World.alloc_eq]
theorem cell?_setCell_if (w : World) (b1 o1 b2 o2 : Nat) (v : Value) :
  (w.setCell ⟨b1,o1,none⟩ v).cell? ⟨b2,o2,none⟩ = if b1 = b2 ∧ o1 = o2 then (w.cell? ⟨b2,o2,none⟩).map (fun _ => v) else w.cell? ⟨b2,o2,none⟩ := by
 split
 ·rename_i h
  obtain ⟨rfl,rfl⟩ := h
  cases hc : w.cell? ⟨b1,o1,none⟩ with
  | none =>
   simp only [World.cell?,World.setCell,Array.getElem?_modify,if_true] at hc ⊢
   cases hh : w.heap[b1]? with
   | none => simp
   | some o =>
    rw [hh] at hc
    cases o <;> simp_all
  | some u => simpa using World.cell?_setCell_same w ⟨b1,o1,none⟩ v hc
 ·rename_i h
  exact World.cell?_setCell_other _ _ _ _ (fun e => h (by injection e with e1 e2;exact ⟨e1,e2⟩))
theorem frozen?_alloc_if (w : World) (c : Array Value) (t : TypeId) (n i : Nat) :
  (w.alloc (.cells c t)).frozen? ⟨n,i,none⟩ = if n < w.heap.size then w.frozen? ⟨n,i,none⟩ else false := by
 split
 ·exact World.frozen?_alloc_past _ _ _ ‹_›
 ·rw [frozen?_alloc_cells]
  have : w.heap[n]? = none := Array.getElem?_eq_none (by omega)
  simp [World.frozen?,this]
attribute [go_sem] cell?_alloc_if cell?_allocMap_if cell?_setCell_if frozen?_alloc_if
theorem ret_int {a b : Int} (h : a = b) : Ending.returned (.int .i64 a) = .returned (.int .i64 b) := by rw [h]
theorem ret_bool {a b : Bool} (h : a = b) : Ending.returned (.bool a) = .returned (.bool b) := by rw [h]
def InR (x : Int) : Prop := -9223372036854775808 ≤ x ∧ x ≤ 9223372036854775807
def RSl {α : Type} (sz : Nat) (R : World → α → List Value → Prop) (w : World) (A : Option Addr) (n : Nat) (xs : List α) : Prop :=
 n = xs.length ∧ n ≤ 140737488355328 ∧ ∀ (k : Nat) (x : α),xs[k]? = some x → ∃ b off cs,A = some ⟨b,off,none⟩ ∧ cs.length = sz ∧ R w x cs ∧
  ∀ (j : Nat) (v : Value),cs[j]? = some v → w.cell? ⟨b,off + k * sz + j,none⟩ = some v
theorem RSl.len {α : Type} {sz : Nat} {R : World → α → List Value → Prop} {w : World} {A : Option Addr} {n : Nat} {xs : List α} (h : RSl sz R w A n xs) : n = xs.length := h.1
theorem RSl.le {α : Type} {sz : Nat} {R : World → α → List Value → Prop} {w : World} {A : Option Addr} {n : Nat} {xs : List α} (h : RSl sz R w A n xs) : n ≤ 9223372036854775807 := by have := h.2.1;omega
def Stays {α : Type} (R : World → α → List Value → Prop) : Prop := ∀ w W x cs,Ext w W → R w x cs → R W x cs
theorem RSl.mono {α : Type} {sz : Nat} {R : World → α → List Value → Prop} (hR : Stays R) {w W : World} {A : Option Addr} {n : Nat} {xs : List α} (h : RSl sz R w A n xs) (hw : Ext w W) : RSl sz R W A n xs := by
 obtain ⟨h1,h2,h3⟩ := h
 refine ⟨h1,h2,fun k x hk => ?_⟩
 obtain ⟨b,off,cs,hA,hl,hr,hc⟩ := h3 k x hk
 exact ⟨b,off,cs,hA,hl,hR _ _ _ _ hw hr,fun j v hj => hw.cell (hc j v hj)⟩
theorem RSl.take {α : Type} {sz : Nat} {R : World → α → List Value → Prop} {w : World} {A : Option Addr} {n : Nat} {xs : List α} (h : RSl sz R w A n xs) {m : Nat} (hm : m ≤ n) : RSl sz R w A m (xs.take m) := by
 obtain ⟨h1,h2,h3⟩ := h
 refine ⟨by rw [List.length_take];omega,by omega,fun k x hk => ?_⟩
 refine h3 k x ?_
 rw [List.getElem?_take] at hk
 split at hk
 ·exact hk
 ·cases hk
def RInt (_ : World) (x : Int) (cs : List Value) : Prop := cs = [int .i64 x] ∧ InR x
theorem RInt.stays : Stays RInt := fun _ _ _ _ _ h => h
structure Ins where
 op : Int
 a : Int
 b : Int
 c : Int
 args : List Int
 deriving DecidableEq,Inhabited
structure Fnc where
 name : ByteArray
 params : Int
 regs : Int
 prio : Int
 cleanup : Bool
 code : List Ins
structure Ob where
 name : ByteArray
 kind : Int
 size : Int
 other : Int
structure Vr where
 name : ByteArray
 init : Int
 atomic : Bool
structure Prg where
 funcs : List Fnc
 objs : List Ob
 vars : List Vr
structure Frm where
 fn : Int
 pc : Int
 regs : List Int
 result : Int
 cleanup : Bool
 deriving DecidableEq,Inhabited
structure Hdl where
 fn : Int
 args : List Int
 deriving DecidableEq,Inhabited
structure Blk where
 scope : Int
 depth : Int
 exit : Int
 mask : Int
 handlers : List Hdl
 deriving DecidableEq,Inhabited
structure Tsk where
 fn : Int
 scope : Int
 prio : Int
 status : Int
 wkind : Int
 windex : Int
 wagain : Bool
 frames : List Frm
 blocks : List Blk
 mask : Int
 unw : Bool
 level : Int
 reason : Int
 result : Int
 deriving DecidableEq,Inhabited
def RIns (w : World) (x : Ins) (cs : List Value) : Prop := ∃ A n c,cs = [int .i64 x.op,int .i64 x.a,int .i64 x.b,int .i64 x.c,.slice A n c] ∧ InR x.op ∧ InR x.a ∧ InR x.b ∧ InR x.c ∧ (RSl 1 RInt w A n x.args ∧ n ≤ c)
def RFnc (w : World) (x : Fnc) (cs : List Value) : Prop := ∃ A n c,cs = [.string x.name,int .i64 x.params,int .i64 x.regs,int .i64 x.prio,.bool x.cleanup,.slice A n c] ∧ x.name.size ≤ 140737488355328 ∧ InR x.params ∧ InR x.regs ∧ InR x.prio ∧ (RSl 5 RIns w A n x.code ∧ n ≤ c)
def ROb (_ : World) (x : Ob) (cs : List Value) : Prop := cs = [.string x.name,int .i64 x.kind,int .i64 x.size,int .i64 x.other] ∧ x.name.size ≤ 140737488355328 ∧ InR x.kind ∧ InR x.size ∧ InR x.other
def RVr (_ : World) (x : Vr) (cs : List Value) : Prop := cs = [.string x.name,int .i64 x.init,.bool x.atomic] ∧ x.name.size ≤ 140737488355328 ∧ InR x.init
def RPrg (w : World) (p : Prg) (V : Value) : Prop := ∃ Af nf cf Ao no co Av nv cv,V = .agg #[.slice Af nf cf,.slice Ao no co,.slice Av nv cv] ∧ RSl 6 RFnc w Af nf p.funcs ∧ RSl 4 ROb w Ao no p.objs ∧ (RSl 3 RVr w Av nv p.vars ∧ nf ≤ cf ∧ no ≤ co ∧ nv ≤ cv)
def RHdl (w : World) (x : Hdl) (cs : List Value) : Prop := ∃ A n c,cs = [int .i64 x.fn,.slice A n c] ∧ InR x.fn ∧ (RSl 1 RInt w A n x.args ∧ n ≤ c)
def RFrm (w : World) (x : Frm) (cs : List Value) : Prop := ∃ A n c,cs = [int .i64 x.fn,int .i64 x.pc,.slice A n c,int .i64 x.result,.bool x.cleanup] ∧ InR x.fn ∧ InR x.pc ∧ InR x.result ∧ (RSl 1 RInt w A n x.regs ∧ n ≤ c)
def RBlk (w : World) (x : Blk) (cs : List Value) : Prop := ∃ A n c,cs = [int .i64 x.scope,int .i64 x.depth,int .i64 x.exit,int .i64 x.mask,.slice A n c] ∧ InR x.scope ∧ InR x.depth ∧ InR x.exit ∧ InR x.mask ∧ (RSl 2 RHdl w A n x.handlers ∧ n ≤ c)
def RTsk (w : World) (t : Tsk) (V : Value) : Prop := ∃ Af nf cf Ab nb cb,V = .agg #[int .i64 t.fn,int .i64 t.scope,int .i64 t.prio,int .i64 t.status,int .i64 t.wkind,int .i64 t.windex,.bool t.wagain,.slice Af nf cf,.slice Ab nb cb,int .i64 t.mask,.bool t.unw,int .i64 t.level,int .i64 t.reason,int .i64 t.result] ∧
 InR t.fn ∧ InR t.scope ∧ InR t.prio ∧ InR t.status ∧ InR t.wkind ∧ InR t.windex ∧ InR t.mask ∧ InR t.level ∧ InR t.reason ∧ InR t.result ∧ RSl 5 RFrm w Af nf t.frames ∧ (RSl 5 RBlk w Ab nb t.blocks ∧ nf ≤ cf ∧ nb ≤ cb)
theorem RIns.stays : Stays RIns := fun _ _ _ _ hw ⟨A,n,c,h1,h2,h3,h4,h5,h6⟩ => ⟨A,n,c,h1,h2,h3,h4,h5,h6.1.mono RInt.stays hw,h6.2⟩
theorem RFnc.stays : Stays RFnc := fun _ _ _ _ hw ⟨A,n,c,h1,h2,h3,h4,h5,h6⟩ => ⟨A,n,c,h1,h2,h3,h4,h5,h6.1.mono RIns.stays hw,h6.2⟩
theorem ROb.stays : Stays ROb := fun _ _ _ _ _ h => h
theorem RVr.stays : Stays RVr := fun _ _ _ _ _ h => h
theorem RHdl.stays : Stays RHdl := fun _ _ _ _ hw ⟨A,n,c,h1,h2,h3⟩ => ⟨A,n,c,h1,h2,h3.1.mono RInt.stays hw,h3.2⟩
theorem RFrm.stays : Stays RFrm := fun _ _ _ _ hw ⟨A,n,c,h1,h2,h3,h4,h5⟩ => ⟨A,n,c,h1,h2,h3,h4,h5.1.mono RInt.stays hw,h5.2⟩
theorem RBlk.stays : Stays RBlk := fun _ _ _ _ hw ⟨A,n,c,h1,h2,h3,h4,h5,h6⟩ => ⟨A,n,c,h1,h2,h3,h4,h5,h6.1.mono RHdl.stays hw,h6.2⟩
theorem RPrg.mono {w W : World} {p : Prg} {V : Value} (h : RPrg w p V) (hw : Ext w W) : RPrg W p V := by
 obtain ⟨Af,nf,cf,Ao,no,co,Av,nv,cv,h1,h2,h3,h4⟩ := h
 exact ⟨Af,nf,cf,Ao,no,co,Av,nv,cv,h1,h2.mono RFnc.stays hw,h3.mono ROb.stays hw,h4.1.mono RVr.stays hw,h4.2⟩
theorem RTsk.mono {w W : World} {t : Tsk} {V : Value} (h : RTsk w t V) (hw : Ext w W) : RTsk W t V := by
 obtain ⟨Af,nf,cf,Ab,nb,cb,h1,a1,a2,a3,a4,a5,a6,a7,a8,a9,a10,h2,h3⟩ := h
 exact ⟨Af,nf,cf,Ab,nb,cb,h1,a1,a2,a3,a4,a5,a6,a7,a8,a9,a10,h2.mono RFrm.stays hw,h3.1.mono RBlk.stays hw,h3.2⟩
theorem RSl.int {w : World} {A : Option Addr} {n : Nat} {xs : List Int} (h : RSl 1 RInt w A n xs) {k : Nat} {x : Int} (hk : xs[k]? = some x) :
  ∃ b off,A = some ⟨b,off,none⟩ ∧ b < w.heap.size ∧ InR x ∧ w.cell? ⟨b,off + k,none⟩ = some (Value.int .i64 x) := by
 obtain ⟨b,off,cs,hA,_,⟨rfl,hi⟩,hc⟩ := h.2.2 k _ hk
 exact ⟨b,off,hA,lt_of_cell (hc 0 _ rfl),hi,by simpa using hc 0 _ rfl⟩
theorem RSl.ob {w : World} {A : Option Addr} {n : Nat} {xs : List Ob} (h : RSl 4 ROb w A n xs) {k : Nat} {x : Ob} (hk : xs[k]? = some x) :
  ∃ b off,A = some ⟨b,off,none⟩ ∧ b < w.heap.size ∧ x.name.size ≤ 140737488355328 ∧ InR x.kind ∧ InR x.size ∧ InR x.other ∧ w.cell? ⟨b,off + k * 4,none⟩ = some (.string x.name) ∧ w.cell? ⟨b,off + k * 4 + 1,none⟩ = some (Value.int .i64 x.kind) ∧
   w.cell? ⟨b,off + k * 4 + 2,none⟩ = some (Value.int .i64 x.size) ∧ w.cell? ⟨b,off + k * 4 + 3,none⟩ = some (Value.int .i64 x.other) := by
 obtain ⟨b,off,cs,hA,_,⟨rfl,h1,h2,h3,h4⟩,hc⟩ := h.2.2 k _ hk
 exact ⟨b,off,hA,lt_of_cell (hc 0 _ rfl),h1,h2,h3,h4,hc 0 _ rfl,hc 1 _ rfl,hc 2 _ rfl,hc 3 _ rfl⟩
theorem RSl.vr {w : World} {A : Option Addr} {n : Nat} {xs : List Vr} (h : RSl 3 RVr w A n xs) {k : Nat} {x : Vr} (hk : xs[k]? = some x) :
  ∃ b off,A = some ⟨b,off,none⟩ ∧ b < w.heap.size ∧ x.name.size ≤ 140737488355328 ∧ InR x.init ∧ w.cell? ⟨b,off + k * 3,none⟩ = some (.string x.name) ∧ w.cell? ⟨b,off + k * 3 + 1,none⟩ = some (Value.int .i64 x.init) ∧
   w.cell? ⟨b,off + k * 3 + 2,none⟩ = some (.bool x.atomic) := by
 obtain ⟨b,off,cs,hA,_,⟨rfl,h1,h2⟩,hc⟩ := h.2.2 k _ hk
 exact ⟨b,off,hA,lt_of_cell (hc 0 _ rfl),h1,h2,hc 0 _ rfl,hc 1 _ rfl,hc 2 _ rfl⟩
theorem RSl.ins {w : World} {A : Option Addr} {n : Nat} {xs : List Ins} (h : RSl 5 RIns w A n xs) {k : Nat} {x : Ins} (hk : xs[k]? = some x) :
  ∃ b off Aa na ca,A = some ⟨b,off,none⟩ ∧ b < w.heap.size ∧ InR x.op ∧ InR x.a ∧ InR x.b ∧ InR x.c ∧ (RSl 1 RInt w Aa na x.args ∧ na ≤ ca) ∧ w.cell? ⟨b,off + k * 5,none⟩ = some (Value.int .i64 x.op) ∧ w.cell? ⟨b,off + k * 5 + 1,none⟩ = some (Value.int .i64 x.a) ∧
   w.cell? ⟨b,off + k * 5 + 2,none⟩ = some (Value.int .i64 x.b) ∧ w.cell? ⟨b,off + k * 5 + 3,none⟩ = some (Value.int .i64 x.c) ∧ w.cell? ⟨b,off + k * 5 + 4,none⟩ = some (.slice Aa na ca) := by
 obtain ⟨b,off,cs,hA,_,⟨Aa,na,ca,rfl,h1,h2,h3,h4,h5⟩,hc⟩ := h.2.2 k _ hk
 exact ⟨b,off,Aa,na,ca,hA,lt_of_cell (hc 0 _ rfl),h1,h2,h3,h4,h5,hc 0 _ rfl,hc 1 _ rfl,hc 2 _ rfl,hc 3 _ rfl,hc 4 _ rfl⟩
theorem RSl.fnc {w : World} {A : Option Addr} {n : Nat} {xs : List Fnc} (h : RSl 6 RFnc w A n xs) {k : Nat} {x : Fnc} (hk : xs[k]? = some x) :
  ∃ b off Ac nc cc,A = some ⟨b,off,none⟩ ∧ b < w.heap.size ∧ x.name.size ≤ 140737488355328 ∧ InR x.params ∧ InR x.regs ∧ InR x.prio ∧ (RSl 5 RIns w Ac nc x.code ∧ nc ≤ cc) ∧ w.cell? ⟨b,off + k * 6,none⟩ = some (.string x.name) ∧ w.cell? ⟨b,off + k * 6 + 1,none⟩ = some (Value.int .i64 x.params) ∧
   w.cell? ⟨b,off + k * 6 + 2,none⟩ = some (Value.int .i64 x.regs) ∧ w.cell? ⟨b,off + k * 6 + 3,none⟩ = some (Value.int .i64 x.prio) ∧ w.cell? ⟨b,off + k * 6 + 4,none⟩ = some (.bool x.cleanup) ∧ w.cell? ⟨b,off + k * 6 + 5,none⟩ = some (.slice Ac nc cc) := by
 obtain ⟨b,off,cs,hA,_,⟨Aa,na,ca,rfl,h1,h2,h3,h4,h5⟩,hc⟩ := h.2.2 k _ hk
 exact ⟨b,off,Aa,na,ca,hA,lt_of_cell (hc 0 _ rfl),h1,h2,h3,h4,h5,hc 0 _ rfl,hc 1 _ rfl,hc 2 _ rfl,hc 3 _ rfl,hc 4 _ rfl,hc 5 _ rfl⟩
theorem RSl.hdl {w : World} {A : Option Addr} {n : Nat} {xs : List Hdl} (h : RSl 2 RHdl w A n xs) {k : Nat} {x : Hdl} (hk : xs[k]? = some x) :
  ∃ b off Aa na ca,A = some ⟨b,off,none⟩ ∧ b < w.heap.size ∧ InR x.fn ∧ (RSl 1 RInt w Aa na x.args ∧ na ≤ ca) ∧ w.cell? ⟨b,off + k * 2,none⟩ = some (Value.int .i64 x.fn) ∧ w.cell? ⟨b,off + k * 2 + 1,none⟩ = some (.slice Aa na ca) := by
 obtain ⟨b,off,cs,hA,_,⟨Aa,na,ca,rfl,h1,h2⟩,hc⟩ := h.2.2 k _ hk
 exact ⟨b,off,Aa,na,ca,hA,lt_of_cell (hc 0 _ rfl),h1,h2,hc 0 _ rfl,hc 1 _ rfl⟩
theorem RSl.frm {w : World} {A : Option Addr} {n : Nat} {xs : List Frm} (h : RSl 5 RFrm w A n xs) {k : Nat} {x : Frm} (hk : xs[k]? = some x) :
  ∃ b off Aa na ca,A = some ⟨b,off,none⟩ ∧ b < w.heap.size ∧ InR x.fn ∧ InR x.pc ∧ InR x.result ∧ (RSl 1 RInt w Aa na x.regs ∧ na ≤ ca) ∧ w.cell? ⟨b,off + k * 5,none⟩ = some (Value.int .i64 x.fn) ∧ w.cell? ⟨b,off + k * 5 + 1,none⟩ = some (Value.int .i64 x.pc) ∧
   w.cell? ⟨b,off + k * 5 + 2,none⟩ = some (.slice Aa na ca) ∧ w.cell? ⟨b,off + k * 5 + 3,none⟩ = some (Value.int .i64 x.result) ∧ w.cell? ⟨b,off + k * 5 + 4,none⟩ = some (.bool x.cleanup) := by
 obtain ⟨b,off,cs,hA,_,⟨Aa,na,ca,rfl,h1,h2,h3,h4⟩,hc⟩ := h.2.2 k _ hk
 exact ⟨b,off,Aa,na,ca,hA,lt_of_cell (hc 0 _ rfl),h1,h2,h3,h4,hc 0 _ rfl,hc 1 _ rfl,hc 2 _ rfl,hc 3 _ rfl,hc 4 _ rfl⟩
theorem RSl.blk {w : World} {A : Option Addr} {n : Nat} {xs : List Blk} (h : RSl 5 RBlk w A n xs) {k : Nat} {x : Blk} (hk : xs[k]? = some x) :
  ∃ b off Aa na ca,A = some ⟨b,off,none⟩ ∧ b < w.heap.size ∧ InR x.scope ∧ InR x.depth ∧ InR x.exit ∧ InR x.mask ∧ (RSl 2 RHdl w Aa na x.handlers ∧ na ≤ ca) ∧ w.cell? ⟨b,off + k * 5,none⟩ = some (Value.int .i64 x.scope) ∧ w.cell? ⟨b,off + k * 5 + 1,none⟩ = some (Value.int .i64 x.depth) ∧
   w.cell? ⟨b,off + k * 5 + 2,none⟩ = some (Value.int .i64 x.exit) ∧ w.cell? ⟨b,off + k * 5 + 3,none⟩ = some (Value.int .i64 x.mask) ∧ w.cell? ⟨b,off + k * 5 + 4,none⟩ = some (.slice Aa na ca) := by
 obtain ⟨b,off,cs,hA,_,⟨Aa,na,ca,rfl,h1,h2,h3,h4,h5⟩,hc⟩ := h.2.2 k _ hk
 exact ⟨b,off,Aa,na,ca,hA,lt_of_cell (hc 0 _ rfl),h1,h2,h3,h4,h5,hc 0 _ rfl,hc 1 _ rfl,hc 2 _ rfl,hc 3 _ rfl,hc 4 _ rfl⟩
end Go.Proofs.Ytcjjoabofecjmaa
namespace Go.Proofs.Ytcjjoabofecjmaa
structure Opd where
 what : Int
 kind : Int
 deriving DecidableEq,Inhabited
structure Shp where
 a : Opd
 b : Opd
 c : Opd
 args : Int
 deriving DecidableEq,Inhabited
def oZ : Opd := ⟨0,0⟩
def oR : Opd := ⟨3,0⟩
def oW : Opd := ⟨4,0⟩
def oO (k : Int) : Opd := ⟨12,k⟩
def oQ (k : Int) : Opd := ⟨k,0⟩
def shpZ : Shp := ⟨oZ,oZ,oZ,0⟩
def groupsS (op : Int) : Option Shp :=
 if op = 3 ∨ op = 4 ∨ op = 5 ∨ op = 6 ∨ op = 7 ∨ op = 8 ∨ op = 9 ∨ op = 10 ∨ op = 11 then some ⟨oW,oR,oR,0⟩
 else if op = 2 ∨ op = 12 then some ⟨oW,oR,oZ,0⟩
 else if op = 16 ∨ op = 20 ∨ op = 21 ∨ op = 40 ∨ op = 41 ∨ op = 43 then some ⟨oR,oZ,oZ,0⟩
 else if op = 18 ∨ op = 19 ∨ op = 37 ∨ op = 38 ∨ op = 39 then some shpZ
 else if op = 50 ∨ op = 52 then some ⟨oO 1,oZ,oZ,0⟩
 else if op = 53 ∨ op = 54 ∨ op = 55 ∨ op = 56 then some ⟨oO 2,oZ,oZ,0⟩
 else if op = 57 ∨ op = 58 ∨ op = 59 then some ⟨oO 3,oZ,oZ,0⟩
 else if op = 60 ∨ op = 62 then some ⟨oO 4,oR,oZ,0⟩
 else if op = 69 ∨ op = 71 then some ⟨oO 7,oZ,oZ,0⟩
 else none
def shapeS (op : Int) : Option Shp :=
 if op = 1 then some ⟨oW,oQ 1,oZ,0⟩
 else if op = 13 then some ⟨oQ 6,oZ,oZ,0⟩
 else if op = 14 then some ⟨oR,oQ 6,oZ,0⟩
 else if op = 15 ∨ op = 34 then some ⟨oW,oQ 8,oZ,1⟩
 else if op = 17 then some ⟨oZ,oQ 9,oZ,1⟩
 else if op = 30 then some ⟨oW,oQ 10,oZ,0⟩
 else if op = 31 then some ⟨oQ 10,oR,oZ,0⟩
 else if op = 32 then some ⟨oW,oQ 11,oR,0⟩
 else if op = 33 then some ⟨oW,oQ 11,oZ,2⟩
 else if op = 35 then some ⟨oQ 5,oQ 5,oQ 7,0⟩
 else if op = 36 then some ⟨oW,oZ,oZ,0⟩
 else if op = 42 then some ⟨oQ 2,oR,oZ,0⟩
 else if op = 51 then some ⟨oW,oO 1,oZ,0⟩
 else if op = 61 then some ⟨oW,oO 4,oR,0⟩
 else if op = 63 then some ⟨oW,oO 5,oZ,0⟩
 else if op = 64 then some ⟨oO 6,oR,oZ,0⟩
 else if op = 65 then some ⟨oW,oO 6,oW,0⟩
 else if op = 66 then some ⟨oO 6,oZ,oZ,0⟩
 else if op = 67 then some ⟨oW,oW,oW,3⟩
 else if op = 68 then some ⟨oO 7,oR,oZ,0⟩
 else if op = 70 then some ⟨oW,oO 7,oZ,0⟩
 else if op = 72 then some ⟨oO 8,oR,oZ,0⟩
 else if op = 73 then some ⟨oO 9,oR,oZ,0⟩
 else if op = 74 then some ⟨oW,oO 9,oZ,0⟩
 else groupsS op
def gS (op : Int) : Shp := (groupsS op).getD shpZ
def sS (op : Int) : Shp := (shapeS op).getD shpZ
end Go.Proofs.Ytcjjoabofecjmaa
namespace Go.Proofs.Ytcjjoabofecjmaa
open Go.RowKit
open Go.Value (int)
def inB (n lo hi : Int) : Bool := decide (lo ≤ n ∧ n ≤ hi)
theorem within_any (n lo hi : Int) (w : World) :
  Calls Try.prog 41 #[.int .i64 n,.int .i64 lo,.int .i64 hi] w fun e w' => e = .returned (.bool (inB n lo hi)) ∧ w = w' := by
 go_enter Try.func41,Try.ntmps41
 go_wp2
 all_goals (go_ret;exact ⟨ret_bool (by unfold inB;simp [*] <;> omega),rfl⟩)
def sizesS (k : Int) : Int × Int := if k = 6 then (0,100) else if k = 4 ∨ k = 5 ∨ k = 7 ∨ k = 8 then (1,100) else (0,0)
theorem sizes_any (k : Int) (w : World) :
  Calls Try.prog 38 #[.int .i64 k] w fun e w' => e = .returned (.tuple #[.int .i64 (sizesS k).1,.int .i64 (sizesS k).2]) ∧ w = w' := by
 go_enter Try.func38,Try.ntmps38
 go_wp2
 all_goals (go_ret2;exact ⟨by simp_all [sizesS],rfl⟩)
def othersS (no : Int) (k : Int) : Int × Int := if k = 3 then (0,no - 1) else if k = 4 then (0,1) else if k = 8 then (1,1099511627776) else (0,0)
theorem others_any (V1 V3 : Value) (ao : Option Addr) (no co : Nat) (k : Int) (w : World) (hno : no ≤ 9223372036854775807) :
  Calls Try.prog 39 #[.agg #[V1,.slice ao no co,V3],.int .i64 k] w fun e w' => e = .returned (.tuple #[.int .i64 (othersS no k).1,.int .i64 (othersS no k).2]) ∧ Ext w w' := by
 go_enter Try.func39,Try.ntmps39
 go_wp2
 all_goals try (go_ret2;exact ⟨by simp_all [othersS],xt⟩)
 go_quiet (fail)
 go_wp2
 all_goals (go_ret2;exact ⟨by simp_all [othersS],xt⟩)
theorem of_any (k : Int) (w : World) :
  Calls Try.prog 92 #[.int .i64 k] w fun e w' => e = .returned (.agg #[.int .i64 12,.int .i64 k]) ∧ w.alloc (.cells #[.int .i64 12,.int .i64 k] 117) = w' := by
 go_enter Try.func92,Try.ntmps92
 go_wp2
 exact bodyPost_ret (v := .agg #[.int .i64 12,.int .i64 k]) (by simp [results,Try.results92,go_sem]) rfl ⟨rfl,rfl⟩
def insideS (n len : Int) : Int := if 0 ≤ n ∧ n < len then 0 else 2
theorem inside_any (n len : Int) (w : World) (h1 : -9223372036854775808 < len) (h2 : len ≤ 9223372036854775807) :
  Calls Try.prog 95 #[.int .i64 n,.int .i64 len] w fun e w' => e = .returned (.int .i64 (insideS n len)) ∧ w = w' := by
 go_enter Try.func95,Try.ntmps95
 go_wp2_with (go_at_call 41;refine (within_any _ _ _ _).mono ?_;rintro e w' ⟨rfl,rfl⟩)
 all_goals (go_ret;exact ⟨ret_int (by unfold insideS;unfold inB at *;simp at *;omega),rfl⟩)
end Go.Proofs.Ytcjjoabofecjmaa
namespace Go.Proofs.Ytcjjoabofecjmaa
open Go.RowKit Go.Sort
open Go.Value (int)
theorem ext_of_regrown {w w' : World} (h : ∃ p : Regrown,w' = grow (redrawn w p.d) p.os) : Ext w w' := by
 obtain ⟨p,rfl⟩ := h
 exact below_regrown w p.d p.os
theorem eu {w W W' : World} (h : ∃ p : Regrown,W' = grow (redrawn W p.d) p.os) (hw : Ext w W) :
  (∀ b o,W'.cell? ⟨b,o,none⟩ = if b < W.heap.size then W.cell? ⟨b,o,none⟩ else newCell W' b o) ∧
  (∀ b o,W'.frozen? ⟨b,o,none⟩ = if b < W.heap.size then W.frozen? ⟨b,o,none⟩ else newFrozen W' b o) ∧ W.heap.size ≤ W'.heap.size ∧ Ext w W' := Ext.use (w := w) (ext_of_regrown h) hw
theorem cell?_regrown_if (w : World) (d : Nat) (os : Array Obj) (b o : Nat) :
  (grow (redrawn w d) os).cell? ⟨b,o,none⟩ = if b < w.heap.size then w.cell? ⟨b,o,none⟩ else newCell (grow (redrawn w d) os) b o := by
 split
 ·exact cell?_grow (redrawn w d) os ⟨b,o,none⟩ ‹_›
 ·rfl
theorem frozen?_regrown_if (w : World) (d : Nat) (os : Array Obj) (b o : Nat) :
  (grow (redrawn w d) os).frozen? ⟨b,o,none⟩ = if b < w.heap.size then w.frozen? ⟨b,o,none⟩ else newFrozen (grow (redrawn w d) os) b o := by
 split
 ·exact frozen?_grow (redrawn w d) os ⟨b,o,none⟩ ‹_›
 ·rfl
theorem size_redrawn (w : World) (d : Nat) : (redrawn w d).heap.size = w.heap.size := rfl
attribute [go_sem] cell?_regrown_if frozen?_regrown_if size_redrawn
theorem quiet_ext {P : Program} {f : FuncId} {args : Array Value} {w : World} {d : Nat} {os : Array Obj} {v : Value}
  (h : Calls P f args (grow (redrawn w d) os) fun e w' => e = .returned v ∧ Ext (grow (redrawn w d) os) w') : Calls P f args (grow (redrawn w d) os) fun e w'' => e = .returned v ∧ ∃ p : Regrown,w'' = grow (redrawn w p.d) p.os :=
 Calls.regrown_of h
theorem quiet_same {P : Program} {f : FuncId} {args : Array Value} {w : World} {d : Nat} {os : Array Obj} {v : Value}
  (h : Calls P f args (grow (redrawn w d) os) fun e w' => e = .returned v ∧ grow (redrawn w d) os = w') : Calls P f args (grow (redrawn w d) os) fun e w'' => e = .returned v ∧ ∃ p : Regrown,w'' = grow (redrawn w p.d) p.os :=
 h.mono fun _ _ ⟨he,hw⟩ => ⟨he,⟨⟨d,os⟩,hw.symm⟩⟩
section
variable {P : Program} {ops : Array Oper} {C : World → Prop} {l n : Nat}
theorem about_wide (o : Oper) (w : World) (a : Act) : ∀ f,o.about P w a.eval = some f → (Fence.wide.inRound l).fn f := fun _ _ => trivial
theorem wpIn_round_of_quiet {o : Oper} {a : Act} {K : Act → Prop} {K' : Act → World → Prop} {Q' : Exit → Act → World → Prop} {w : World} (hnd : ∀ c,o.op ≠ .defer c) (hw : C w) (h : ∀ a w',C w' → K a → K' a w')
  (hh : o.quiet P a C K) : o.wpIn (Fence.wide.inRound l) n P a w K' Q' := by
 obtain ⟨v,h1,h2⟩ := hh
 have h3 := h1 w hw
 unfold Oper.quietAt at h3
 unfold Oper.wpIn
 refine ⟨about_wide o w a, ?_⟩
 rw [show (Fence.wide.inRound l).round = some l from rfl,Oper.semAt_some l _ _ hnd]
 generalize (execOp a.eval o).run P w = r at *
 cases r with
 | ok x w' =>
  cases x <;> simp only [Oper.quietUpon] at h3 <;> simp only [Oper.uponIn]
  case value u =>
   obtain ⟨e1,e2⟩ := h3
   rw [e1,e2]
   exact h _ _ hw h2
  case skip =>
   obtain ⟨e1,e2⟩ := h3
   rw [e1,← e2]
   exact h _ _ hw h2
  case enter f args =>
   obtain ⟨e1,hc⟩ := h3
   rw [e1]
   refine ⟨fun hd => by simp [Fence.wide] at hd, ?_⟩
   have hc' : CallsIn Fence.wide (n - 1) P f args w _ := callsIn_wide.2 hc
   exact CallsIn.mono (F := Fence.wide.inRound l) hc' fun e w'' ⟨he,hw''⟩ => by subst he;exact h _ _ hw'' h2
 | halt x w' => simp only [Oper.quietUpon] at h3
theorem wpOpIn_round_of_qOp {i : Nat} {a : Act} {K : Act → Prop} {K' : Act → World → Prop} {Q' : Exit → Act → World → Prop} {w : World} (hnd : ∀ (j : Nat) (o : Oper),ops[j]? = some o → ∀ c,o.op ≠ .defer c) (hC : C w) (h : ∀ a w',C w' → K a → K' a w')
  (hh : qOp P ops C i K a) : wpOpIn (Fence.wide.inRound l) n P ops Q' i K' a w := by
 unfold qOp at hh
 unfold wpOpIn
 split
 ·rename_i ho;simp only [ho] at hh;exact h _ _ hC hh
 ·rename_i o ho
  simp only [ho] at hh
  split
  ·rename_i hw;simp only [hw,if_true] at hh;exact wpIn_round_of_quiet (hnd i o ho) hC h hh
  ·rename_i hw;simp only [hw] at hh;exact ⟨about_wide o w a,h _ _ hC hh⟩
theorem wpAnyIn_round_of_quiet {md : Region.Mode} {Q : Act → Prop} {Q' : Exit → Act → World → Prop} (hnd : ∀ (j : Nat) (o : Oper),ops[j]? = some o → ∀ c,o.op ≠ .defer c) (hQ : ∀ a w,C w → Q a → Q' .normal a w) : ∀ (fuel : Nat) (listed : Array Bool) (a : Act) (w : World),C w →
  wpAnyQ P md ops C Q fuel listed a → wpAnyIn (Fence.wide.inRound l) n P md ops Q' fuel listed a w
 | 0,_,_,_,hw,h => ⟨h.1,hQ _ _ hw h.2⟩
 | fuel + 1,_,_,_,hw,h => ⟨fun h0 => hQ _ _ hw (h.1 h0),fun i hi => wpOpIn_round_of_qOp hnd hw (fun a' w' hw' => wpAnyIn_round_of_quiet hnd hQ fuel _ a' w' hw') (h.2 i hi)⟩
def noDefer (ops : Array Oper) : Bool := ops.toList.all fun o => match o.op with | .defer _ => false | _ => true
theorem noDefer_spec (h : noDefer ops = true) (j : Nat) (o : Oper) (ho : ops[j]? = some o) (c : Call) : o.op ≠ .defer c := by
 intro hc
 have := List.all_eq_true.1 h o (Array.mem_toList_iff.2 (Array.mem_of_getElem? ho))
 simp [hc] at this
theorem wpIn_round_quiet {id : Nat} {Q : Exit → Act → World → Prop} {a : Act} {w : World} {ol : List Oper} (hm : P.follows .mixedOrders = true) (hB : Region.lexB .any ol.toArray = true) (hnd : noDefer ol.toArray = true)
  (h : wpQuiet P ol.toArray (fun w' => ∃ p : Regrown,w' = grow (redrawn w p.d) p.os) (fun a' => ∀ w',(∃ p : Regrown,w' = grow (redrawn w p.d) p.os) → Q .normal a' w') ol a) : (Code.region id ol.toArray true).wpIn (Fence.wide.inRound l) n P Q a w := by
 simp only [Region.lexB,Bool.and_eq_true] at hB
 refine wpIn_region_any hm (wpAnyIn_round_of_quiet (C := fun w' => ∃ p : Regrown,w' = grow (redrawn w p.d) p.os) (Q := fun a' => ∀ w',(∃ p : Regrown,w' = grow (redrawn w p.d) p.os) → Q .normal a' w') (noDefer_spec hnd) (fun _ w' hw' h => h w' hw') _ _ _ _
  ⟨⟨w.drawn + 1,#[]⟩,by rw [grow_empty];rfl⟩ ?_)
 have := wpAnyQ_lex (C := fun w' => ∃ p : Regrown,w' = grow (redrawn w p.d) p.os) (md := .any) hB.1 ol.toArray.toList 0 (Array.replicate ol.toArray.size false) a (by simp) (by simpa using hB.2) (by simpa using h)
 simpa using this
end
end Go.Proofs.Ytcjjoabofecjmaa
namespace Go.Proofs.Ytcjjoabofecjmaa
open Go.RowKit Go.Sort
open Go.Value (int)
section
variable {P : Program} {ops : Array Oper} {md : Region.Mode} {C : World → Prop}
def anyLQ (P : Program) (md : Region.Mode) (ops : Array Oper) (C : World → Prop) (n : Nat) (L : Array Bool → Act → Prop) : Nat → Array Bool → Act → Prop
 | 0,listed,a => L listed a
 | f + 1,listed,a => Region.ready md ops listed ≠ [] ∧ ∀ i ∈ Region.ready md ops listed,i < n ∧ qOp P ops C i (anyLQ P md ops C n L f (listed.setIfInBounds i true)) a
theorem any_of_head {n g : Nat} {L : Array Bool → Act → Prop} {Q' : Exit → Act → World → Prop} (hL : ∀ listed a w,C w → L listed a → wpAny P md ops Q' g listed a w) :
  ∀ (f : Nat) (listed : Array Bool) (a : Act) (w : World),C w → anyLQ P md ops C n L f listed a → wpAny P md ops Q' (f + g) listed a w
 | 0,listed,a,w,hw,h => by rw [Nat.zero_add];exact hL _ _ _ hw h
 | f + 1,listed,a,w,hw,h => by
  rw [show f + 1 + g = (f + g) + 1 by omega]
  exact ⟨fun h0 => absurd h0 h.1,fun i hi => wpOp_of_qOp hw (fun a' w' hw' h' => any_of_head hL f _ a' w' hw' h') (h.2 i hi).2⟩
theorem anyLQ_first {n i : Nat} {oi : Oper} {v : Value} {L : Array Bool → Act → Prop} (hi : ops[i]? = some oi) (hsel : ∀ (j : Nat) (o : Oper) cs b,ops[j]? = some o → o.op ≠ .select cs b)
  (hs : Region.sinkB md ops n = true) (hc : Region.chainB md ops n = true) (hn : n < ops.size) (hin : i < n)
  (hdone : ∀ listed a,L listed a → ∀ j ∈ Region.ready md ops listed,n ≤ j) :
  ∀ (f : Nat) (listed : Array Bool) (a : Act),HeadInv md ops n listed →
   (∀ j oj,ops[j]? = some oj → j ≠ i → listed.getD j true = false → (∀ e ∈ oj.after,Region.binds md e = true → e.on ≠ i) → oi.apart ops oj = true) →
   i ∈ Region.ready md ops listed → YieldsIn P ops C oi v a →
   anyLQ P md ops C n L f (listed.setIfInBounds i true) (a.put oi.dst v) → anyLQ P md ops C n L (f + 1) listed a := by
 intro f
 induction f with
 | zero =>
  intro listed a inv _ hr hy H
  have hun := (mem_ready.1 hr).1
  refine ⟨fun h => (by rw [h] at hr;cases hr),fun j hj => ?_⟩
  have hjn : j < n := by
   rcases Nat.lt_or_ge j n with h | h
   ·exact h
   ·exact absurd hj (tail_waits hs hc hn inv _ i rfl hin hun j h)
  refine ⟨hjn, ?_⟩
  by_cases hji : j = i
  ·subst hji;exact hy.qOp hi H
  ·have := hdone _ _ H j (ready_mono hj hji)
   omega
 | succ f ih =>
  intro listed a inv hfree hr hy H
  have hun := (mem_ready.1 hr).1
  refine ⟨fun h => (by rw [h] at hr;cases hr),fun j hj => ?_⟩
  have hjn : j < n := by
   rcases Nat.lt_or_ge j n with h | h
   ·exact h
   ·exact absurd hj (tail_waits hs hc hn inv _ i rfl hin hun j h)
  refine ⟨hjn, ?_⟩
  by_cases hji : j = i
  ·subst hji;exact hy.qOp hi H
  ·have h1 := (H.2 j (ready_mono hj hji)).2
   obtain ⟨hjun,oj,hoj,hall⟩ := mem_ready.1 hj
   have hnot : ∀ e ∈ oj.after,Region.binds md e = true → e.on ≠ i := fun e he hb heq => by
    have h1 := hall e he hb
    rw [heq,getD_both hun] at h1
    cases h1
   have h2 := qOp_put hoj (hfree j oj hoj hji hjun hnot) (fun cs b => hsel i oi cs b hi) (fun cs b => hsel j oj cs b hoj) hy h1
   have hfree' : ∀ k ok,ops[k]? = some ok → k ≠ i → (listed.setIfInBounds j true).getD k true = false →
     (∀ e ∈ ok.after,Region.binds md e = true → e.on ≠ i) → oi.apart ops ok = true := fun k ok hk hki hun hno => by
    refine hfree k ok hk hki ?_ hno
    by_cases hjk : j = k
    ·subst hjk;exact hjun
    ·rw [getD_set_ne true hjk] at hun;exact hun
   refine qOp_mono (fun a' h3 => ih (listed.setIfInBounds j true) a' (inv.set hj hjn) hfree' (ready_mono hr (Ne.symm hji)) h3.1 ?_) h2
   rw [Array.setIfInBounds_comm _ _ hji]
   exact h3.2
theorem anyLQ_lex {n g : Nat} {Lq : Act → Prop} (hsel : Region.noSelect ops = true) (hs : Region.sinkB md ops n = true) (hc : Region.chainB md ops n = true) (hn : n < ops.size) :
  ∀ (l : List Oper) (k : Nat) (listed : Array Bool) (a : Act),(∀ j,j < l.length → l[j]? = ops[k + j]?) → k + l.length = n → HeadInv md ops n listed →
  Region.lexHead md ops g l.length k listed = true → wpQuiet P ops C Lq l a →
  anyLQ P md ops C n (fun listed' a' => Region.seqB md ops g n listed' = true ∧ Lq a') l.length listed a
 | [],k,listed,a,_,hk,_,hB,h => by
  have : k = n := by simpa using hk
  subst this
  exact ⟨by simpa [Region.lexHead] using hB,h⟩
 | o :: l,k,listed,a,hl,hk,inv,hB,h => by
  have h0 : ops[k]? = some o := by simpa using (hl 0 (by simp)).symm
  simp only [List.length_cons,Region.lexHead,Bool.and_eq_true] at hB
  obtain ⟨⟨hr,hf⟩,hB'⟩ := hB
  have hkn : k < n := by simp only [List.length_cons] at hk;omega
  have hr' : k ∈ Region.ready md ops listed := by simpa using hr
  have hst : qOp P ops C k (wpQuiet P ops C Lq l) a := by unfold qOp;simp only [h0];exact h
  obtain ⟨v,hy,hK⟩ := yieldsIn_of_qOp h0 hst
  exact anyLQ_first h0 (Region.noSelect_spec hsel) hs hc hn hkn (fun listed' a' hL => seqB_ready hL.1) l.length listed a inv (Region.free_spec h0 hf) hr' hy
   (anyLQ_lex hsel hs hc hn l (k + 1) _ _ (fun j hj => by have := hl (j + 1) (by simp;omega);simpa [Nat.add_assoc,Nat.add_comm 1 j] using this) (by simp only [List.length_cons] at hk;omega) (inv.set hr' hkn) hB' hK)
theorem wp_region_quiet_tail {id : Nat} {Q : Exit → Act → World → Prop} {a : Act} {w : World} {l : List Oper} (n : Nat) (hm : P.follows .mixedOrders = true) (hB : Region.lexTailB .any l.toArray n = true)
  (h : wpQuiet P l.toArray (fun w' => ∃ p : Regrown,w' = grow (redrawn w p.d) p.os) (fun a' => ∀ w',(∃ p : Regrown,w' = grow (redrawn w p.d) p.os) → wpList P l.toArray Q (l.drop n) a' w') (l.take n) a) : (Code.region id l.toArray true).wp P Q a w := by
 simp only [Region.lexTailB,Bool.and_eq_true,decide_eq_true_eq] at hB
 obtain ⟨⟨⟨⟨hsel,hn⟩,hs⟩,hc⟩,hlex⟩ := hB
 have hn' : n < l.length := by simpa using hn
 have htl : (l.take n).length = n := by simp;omega
 have hdl : (l.drop n).length = l.toArray.size - n := by simp
 have inv0 : HeadInv .any l.toArray n (Array.replicate l.toArray.size false) :=
  ⟨by simp,fun j oj _ hl => (by rw [getD_replicate_false] at hl;cases hl),fun t _ ht => getD_in (by simpa using ht) (getD_replicate_false _ _)⟩
 have H := anyLQ_lex (md := .any) (g := l.toArray.size - n) hsel hs hc hn (l.take n) 0 _ a (fun j hj => by
  have hj' : j < n := by rw [htl] at hj;exact hj
  simp [hj']) (by simpa using htl) inv0 (by rw [htl];exact hlex) h
 refine wp_region_any hm ?_
 have := any_of_head (Q' := Q) (g := l.toArray.size - n) (fun listed a' w' hw' hL => by
  have := wpAny_of_seq (md := .any) (Q' := Q) (l.drop n) n listed a' w' (fun j => by simp [List.getElem?_drop]) (by rw [hdl];exact hL.1) (hL.2 w' hw')
  rwa [hdl] at this) _ _ _ { w with drawn := w.drawn + 1 } ⟨⟨w.drawn + 1,#[]⟩,by rw [grow_empty];rfl⟩ H
 rw [htl,show n + (l.toArray.size - n) = l.toArray.size by omega] at this
 exact this
end
end Go.Proofs.Ytcjjoabofecjmaa

