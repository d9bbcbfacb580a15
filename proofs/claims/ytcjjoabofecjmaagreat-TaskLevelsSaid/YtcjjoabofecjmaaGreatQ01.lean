/- A part of the proof: Words on worlds that only grow, used by all walks of this seat; Programs of chapter 13 and tasks of chapter 28 as plain data, and how they lie in memory; What the law's form reads as data, is a task of this proof; A task's datum, opened; A program's datum, opened; slices.Clone at the five element types of this program. -/
import Derived.Test.YtcjjoabofecjmaaGreatProg
import Derived.WalkKit
import Derived.WalkSpells
import Derived.WalkLawsBesides
import Derived.Deep.Draws
import Derived.Deep.RegionHeld3
import Derived.Lib.QuietBelow
import Derived.ProofKit
import Derived.OpenShut
import Derived.ChangeOld
import Derived.Deep.Slices
import Derived.SizedLaws
import Derived.Maps.AppendAt
import Derived.Laws.OwnMore
import Derived.Deep.AppendLies
import Derived.OwnWalk
import Derived.Lib.LazyBuf
import Derived.Shelf.Abstract
import Derived.Deep.LoopGhost
import Derived.Lib.Hide
import Derived.BigQuiet
set_option linter.unusedVariables false
set_option linter.unusedSimpArgs false
namespace Go.Proofs.YtcjjoabofecjmaaGreat
open Go.RowKit
def Ext (w W : World) : Prop := Below w.heap.size w W
theorem Ext.refl (w : World) : Ext w w := Below.refl _ _
theorem Ext.alloc {w W : World} (h : Ext w W) (o : Obj) : Ext w (W.alloc o) := Below.alloc h h.size o
theorem Ext.drew {w W : World} (h : Ext w W) : Ext w W.drew := Below.drew h
theorem Ext.drewN {w W : World} (h : Ext w W) (n : Nat) : Ext w (W.drewN n) := ⟨h.os, h.tape, h.output, h.size, h.block⟩
theorem Ext.setCell {w W : World} (h : Ext w W) {p : Addr} (hp : w.heap.size ≤ p.block) (u : Value) : Ext w (W.setCell p u) := Below.setCell h hp u
theorem Ext.trans {a b c : World} (h : Ext a b) (k : Ext b c) : Ext a c := Below.trans h (Below.mono k h.size)
theorem Ext.size {w W : World} (h : Ext w W) : w.heap.size ≤ W.heap.size := Below.size h
theorem lt_of_cell {w : World} {p : Addr} {v : Value} (hc : w.cell? p = some v) : p.block < w.heap.size := by
  rcases Nat.lt_or_ge p.block w.heap.size with h1 | h1
  · exact h1
  · simp [World.cell?, Array.getElem?_eq_none h1] at hc
theorem Ext.cell {w W : World} (h : Ext w W) {p : Addr} {v : Value} (hc : w.cell? p = some v) : W.cell? p = some v := by
  rw [Below.cell h (lt_of_cell hc)]; exact hc
theorem Ext.regrown {a w : World} (h : Ext a w) (d : Nat) (os : Array Obj) : Ext a (Go.Sort.grow (redrawn w d) os) := h.trans (below_regrown w d os)
theorem xt {w W : World} (h : Ext w W := by repeat' (first | with_reducible assumption | with_reducible exact Ext.refl _ | with_reducible refine Ext.alloc ?_ _ | with_reducible refine Ext.drew ?_ | with_reducible refine Ext.drewN ?_ _ | with_reducible refine Ext.regrown ?_ _ _ | with_reducible refine Ext.setCell ?_ (by first | (simp; done) | (simp; omega)) _)) : Ext w W := h
theorem sA (w : World) (o : Obj) : (w.alloc o).heap.size = w.heap.size + 1 := World.size_alloc w o
theorem sC (w : World) (p : Addr) (v : Value) : (w.setCell p v).heap.size = w.heap.size := World.size_setCell w p v
theorem sD (w : World) : w.drew.heap.size = w.heap.size := World.size_drew w
theorem sN (w : World) (n : Nat) : (w.drewN n).heap = w.heap := World.heap_drewN w n
theorem dZ {α : Type} (x y : α) (l : List α) : (x :: l).set 0 y = y :: l := rfl
theorem dS {α : Type} (x y : α) (l : List α) (n : Nat) : (x :: l).set (n + 1) y = x :: l.set n y := rfl
theorem aset {α : Type} (l : List α) (i : Nat) (y : α) : l.toArray.setIfInBounds i y = (l.set i y).toArray := List.setIfInBounds_toArray ..
def newCell (w : World) (b o : Nat) : Option Value := w.cell? ⟨b, o, none⟩
def newFrozen (w : World) (b o : Nat) : Bool := w.frozen? ⟨b, o, none⟩
theorem Ext.use {w W W' : World} (h : Ext W W') (hw : Ext w W) :
    (∀ b o, W'.cell? ⟨b, o, none⟩ = if b < W.heap.size then W.cell? ⟨b, o, none⟩ else newCell W' b o) ∧
    (∀ b o, W'.frozen? ⟨b, o, none⟩ = if b < W.heap.size then W.frozen? ⟨b, o, none⟩ else newFrozen W' b o) ∧ W.heap.size ≤ W'.heap.size ∧ Ext w W' := by
  refine ⟨fun b o => ?_, fun b o => ?_, h.size, hw.trans h⟩
  · split
    · exact Below.cell h (p := ⟨b, o, none⟩) ‹_›
    · rfl
  · split
    · exact Below.frozen h (p := ⟨b, o, none⟩) ‹_›
    · rfl
theorem cell?_alloc_if (w : World) (c : Array Value) (t : TypeId) (n i : Nat) :
    (w.alloc (.cells c t)).cell? ⟨n, i, none⟩ = if n < w.heap.size then w.cell? ⟨n, i, none⟩ else if n = w.heap.size then c[i]? else none := by
  split
  · exact World.cell?_alloc_lt _ _ _ ‹_›
  · split
    · rename_i h; subst h; simp [World.cell?, World.alloc, -World.alloc_eq]
    · have : (w.alloc (.cells c t)).heap[n]? = none := Array.getElem?_eq_none (by simp; omega)
      simp [World.cell?, this, -World.alloc_eq]
theorem cell?_allocMap_if (w : World) (es : Array MapEntry) (t : Nat) (n i : Nat) :
    (w.alloc (.map es t)).cell? ⟨n, i, none⟩ = if n < w.heap.size then w.cell? ⟨n, i, none⟩ else none := by
  split
  · exact World.cell?_alloc_lt _ _ _ ‹_›
  · rcases Nat.lt_or_ge w.heap.size n with h | h
    · have : (w.alloc (.map es t)).heap[n]? = none := Array.getElem?_eq_none (by simp; omega)
      simp [World.cell?, this, -World.alloc_eq]
    · have h : n = w.heap.size := by omega
      subst h; simp [World.cell?, World.alloc, -World.alloc_eq]
theorem cell?_setCell_if (w : World) (b1 o1 b2 o2 : Nat) (v : Value) :
    (w.setCell ⟨b1, o1, none⟩ v).cell? ⟨b2, o2, none⟩ = if b1 = b2 ∧ o1 = o2 then (w.cell? ⟨b2, o2, none⟩).map (fun _ => v) else w.cell? ⟨b2, o2, none⟩ := by
  split
  · rename_i h
    obtain ⟨rfl, rfl⟩ := h
    cases hc : w.cell? ⟨b1, o1, none⟩ with
    | none =>
      simp only [World.cell?, World.setCell, Array.getElem?_modify, if_true] at hc ⊢
      cases hh : w.heap[b1]? with
      | none => simp
      | some o =>
        rw [hh] at hc
        cases o <;> simp_all
    | some u => simpa using World.cell?_setCell_same w ⟨b1, o1, none⟩ v hc
  · rename_i h
    exact World.cell?_setCell_other _ _ _ _ (fun e => h (by injection e with e1 e2; exact ⟨e1, e2⟩))
theorem frozen?_alloc_if (w : World) (c : Array Value) (t : TypeId) (n i : Nat) :
    (w.alloc (.cells c t)).frozen? ⟨n, i, none⟩ = if n < w.heap.size then w.frozen? ⟨n, i, none⟩ else false := by
  split
  · exact World.frozen?_alloc_past _ _ _ ‹_›
  · rw [frozen?_alloc_cells]
    have : w.heap[n]? = none := Array.getElem?_eq_none (by omega)
    simp [World.frozen?, this]
attribute [go_sem] cell?_alloc_if cell?_allocMap_if cell?_setCell_if frozen?_alloc_if
theorem wp_name {P : Program} {c : Code} {Q : Exit → Act → World → Prop} {a : Act} {w v : World} (hv : Ext v w)
    (h : ∀ W : World, (∀ b o, W.cell? ⟨b, o, none⟩ = w.cell? ⟨b, o, none⟩) → (∀ b o, W.frozen? ⟨b, o, none⟩ = w.frozen? ⟨b, o, none⟩) → w.heap.size = W.heap.size → Ext v W → c.wp P Q a W) : c.wp P Q a w :=
  h w (fun _ _ => rfl) (fun _ _ => rfl) rfl hv
theorem ret_int {a b : Int} (h : a = b) : Ending.returned (.int .i64 a) = .returned (.int .i64 b) := by rw [h]
theorem ret_bool {a b : Bool} (h : a = b) : Ending.returned (.bool a) = .returned (.bool b) := by rw [h]
end Go.Proofs.YtcjjoabofecjmaaGreat

namespace Go.Proofs.YtcjjoabofecjmaaGreat
open Go.RowKit
def InR (x : Int) : Prop := -9223372036854775808 ≤ x ∧ x ≤ 9223372036854775807
def RSl {α : Type} (sz : Nat) (R : World → α → List Value → Prop) (w : World) (A : Option Addr) (n : Nat) (xs : List α) : Prop :=
  n = xs.length ∧ n ≤ 140737488355328 ∧ ∀ (k : Nat) (x : α), xs[k]? = some x → ∃ b off cs, A = some ⟨b, off, none⟩ ∧ cs.length = sz ∧ R w x cs ∧
    ∀ (j : Nat) (v : Value), cs[j]? = some v → w.cell? ⟨b, off + k * sz + j, none⟩ = some v
theorem RSl.len {α : Type} {sz : Nat} {R : World → α → List Value → Prop} {w : World} {A : Option Addr} {n : Nat} {xs : List α} (h : RSl sz R w A n xs) : n = xs.length := h.1
theorem RSl.le {α : Type} {sz : Nat} {R : World → α → List Value → Prop} {w : World} {A : Option Addr} {n : Nat} {xs : List α} (h : RSl sz R w A n xs) : n ≤ 9223372036854775807 := by have := h.2.1; omega
def Stays {α : Type} (R : World → α → List Value → Prop) : Prop := ∀ w W x cs, Ext w W → R w x cs → R W x cs
theorem RSl.mono {α : Type} {sz : Nat} {R : World → α → List Value → Prop} (hR : Stays R) {w W : World} {A : Option Addr} {n : Nat} {xs : List α} (h : RSl sz R w A n xs) (hw : Ext w W) : RSl sz R W A n xs := by
  obtain ⟨h1, h2, h3⟩ := h
  refine ⟨h1, h2, fun k x hk => ?_⟩
  obtain ⟨b, off, cs, hA, hl, hr, hc⟩ := h3 k x hk
  exact ⟨b, off, cs, hA, hl, hR _ _ _ _ hw hr, fun j v hj => hw.cell (hc j v hj)⟩
theorem RSl.take {α : Type} {sz : Nat} {R : World → α → List Value → Prop} {w : World} {A : Option Addr} {n : Nat} {xs : List α} (h : RSl sz R w A n xs) {m : Nat} (hm : m ≤ n) : RSl sz R w A m (xs.take m) := by
  obtain ⟨h1, h2, h3⟩ := h
  refine ⟨by rw [List.length_take]; omega, by omega, fun k x hk => ?_⟩
  refine h3 k x ?_
  rw [List.getElem?_take] at hk
  split at hk
  · exact hk
  · cases hk
def RInt (_ : World) (x : Int) (cs : List Value) : Prop := cs = [Value.int .i64 x] ∧ InR x
theorem RInt.stays : Stays RInt := fun _ _ _ _ _ h => h
structure Ins where
  op : Int
  a : Int
  b : Int
  c : Int
  args : List Int
  deriving DecidableEq, Inhabited
structure Fnc where
  name : ByteArray
  params : Int
  regs : Int
  prio : Int
  cleanup : Bool
  code : List Ins
structure Ob where
  name : ByteArray
  kind : Int
  size : Int
  other : Int
structure Vr where
  name : ByteArray
  init : Int
  atomic : Bool
structure Prg where
  funcs : List Fnc
  objs : List Ob
  vars : List Vr
structure Frm where
  fn : Int
  pc : Int
  regs : List Int
  result : Int
  cleanup : Bool
  deriving DecidableEq, Inhabited
structure Hdl where
  fn : Int
  args : List Int
  deriving DecidableEq, Inhabited
structure Blk where
  scope : Int
  depth : Int
  exit : Int
  mask : Int
  handlers : List Hdl
  deriving DecidableEq, Inhabited
structure Tsk where
  fn : Int
  scope : Int
  prio : Int
  status : Int
  wkind : Int
  windex : Int
  wagain : Bool
  frames : List Frm
  blocks : List Blk
  mask : Int
  unw : Bool
  level : Int
  reason : Int
  result : Int
  deriving DecidableEq, Inhabited
def RIns (w : World) (x : Ins) (cs : List Value) : Prop := ∃ A n c, cs = [Value.int .i64 x.op, Value.int .i64 x.a, Value.int .i64 x.b, Value.int .i64 x.c, .slice A n c] ∧ InR x.op ∧ InR x.a ∧ InR x.b ∧ InR x.c ∧ (RSl 1 RInt w A n x.args ∧ n ≤ c)
def RFnc (w : World) (x : Fnc) (cs : List Value) : Prop := ∃ A n c, cs = [.string x.name, Value.int .i64 x.params, Value.int .i64 x.regs, Value.int .i64 x.prio, .bool x.cleanup, .slice A n c] ∧ x.name.size ≤ 140737488355328 ∧ InR x.params ∧ InR x.regs ∧ InR x.prio ∧ (RSl 5 RIns w A n x.code ∧ n ≤ c)
def ROb (_ : World) (x : Ob) (cs : List Value) : Prop := cs = [.string x.name, Value.int .i64 x.kind, Value.int .i64 x.size, Value.int .i64 x.other] ∧ x.name.size ≤ 140737488355328 ∧ InR x.kind ∧ InR x.size ∧ InR x.other
def RVr (_ : World) (x : Vr) (cs : List Value) : Prop := cs = [.string x.name, Value.int .i64 x.init, .bool x.atomic] ∧ x.name.size ≤ 140737488355328 ∧ InR x.init
def RPrg (w : World) (p : Prg) (V : Value) : Prop := ∃ Af nf cf Ao no co Av nv cv, V = .agg #[.slice Af nf cf, .slice Ao no co, .slice Av nv cv] ∧ RSl 6 RFnc w Af nf p.funcs ∧ RSl 4 ROb w Ao no p.objs ∧ (RSl 3 RVr w Av nv p.vars ∧ nf ≤ cf ∧ no ≤ co ∧ nv ≤ cv)
def RHdl (w : World) (x : Hdl) (cs : List Value) : Prop := ∃ A n c, cs = [Value.int .i64 x.fn, .slice A n c] ∧ InR x.fn ∧ (RSl 1 RInt w A n x.args ∧ n ≤ c)
def RFrm (w : World) (x : Frm) (cs : List Value) : Prop := ∃ A n c, cs = [Value.int .i64 x.fn, Value.int .i64 x.pc, .slice A n c, Value.int .i64 x.result, .bool x.cleanup] ∧ InR x.fn ∧ InR x.pc ∧ InR x.result ∧ (RSl 1 RInt w A n x.regs ∧ n ≤ c)
def RBlk (w : World) (x : Blk) (cs : List Value) : Prop := ∃ A n c, cs = [Value.int .i64 x.scope, Value.int .i64 x.depth, Value.int .i64 x.exit, Value.int .i64 x.mask, .slice A n c] ∧ InR x.scope ∧ InR x.depth ∧ InR x.exit ∧ InR x.mask ∧ (RSl 2 RHdl w A n x.handlers ∧ n ≤ c)
def RTsk (w : World) (t : Tsk) (V : Value) : Prop := ∃ Af nf cf Ab nb cb, V = .agg #[Value.int .i64 t.fn, Value.int .i64 t.scope, Value.int .i64 t.prio, Value.int .i64 t.status, Value.int .i64 t.wkind, Value.int .i64 t.windex, .bool t.wagain, .slice Af nf cf, .slice Ab nb cb, Value.int .i64 t.mask, .bool t.unw, Value.int .i64 t.level, Value.int .i64 t.reason, Value.int .i64 t.result] ∧
  InR t.fn ∧ InR t.scope ∧ InR t.prio ∧ InR t.status ∧ InR t.wkind ∧ InR t.windex ∧ InR t.mask ∧ InR t.level ∧ InR t.reason ∧ InR t.result ∧ RSl 5 RFrm w Af nf t.frames ∧ (RSl 5 RBlk w Ab nb t.blocks ∧ nf ≤ cf ∧ nb ≤ cb)
theorem RIns.stays : Stays RIns := fun _ _ _ _ hw ⟨A, n, c, h1, h2, h3, h4, h5, h6⟩ => ⟨A, n, c, h1, h2, h3, h4, h5, h6.1.mono RInt.stays hw, h6.2⟩
theorem RFnc.stays : Stays RFnc := fun _ _ _ _ hw ⟨A, n, c, h1, h2, h3, h4, h5, h6⟩ => ⟨A, n, c, h1, h2, h3, h4, h5, h6.1.mono RIns.stays hw, h6.2⟩
theorem ROb.stays : Stays ROb := fun _ _ _ _ _ h => h
theorem RVr.stays : Stays RVr := fun _ _ _ _ _ h => h
theorem RHdl.stays : Stays RHdl := fun _ _ _ _ hw ⟨A, n, c, h1, h2, h3⟩ => ⟨A, n, c, h1, h2, h3.1.mono RInt.stays hw, h3.2⟩
theorem RFrm.stays : Stays RFrm := fun _ _ _ _ hw ⟨A, n, c, h1, h2, h3, h4, h5⟩ => ⟨A, n, c, h1, h2, h3, h4, h5.1.mono RInt.stays hw, h5.2⟩
theorem RBlk.stays : Stays RBlk := fun _ _ _ _ hw ⟨A, n, c, h1, h2, h3, h4, h5, h6⟩ => ⟨A, n, c, h1, h2, h3, h4, h5, h6.1.mono RHdl.stays hw, h6.2⟩
theorem RPrg.mono {w W : World} {p : Prg} {V : Value} (h : RPrg w p V) (hw : Ext w W) : RPrg W p V := by
  obtain ⟨Af, nf, cf, Ao, no, co, Av, nv, cv, h1, h2, h3, h4⟩ := h
  exact ⟨Af, nf, cf, Ao, no, co, Av, nv, cv, h1, h2.mono RFnc.stays hw, h3.mono ROb.stays hw, h4.1.mono RVr.stays hw, h4.2⟩
theorem RTsk.mono {w W : World} {t : Tsk} {V : Value} (h : RTsk w t V) (hw : Ext w W) : RTsk W t V := by
  obtain ⟨Af, nf, cf, Ab, nb, cb, h1, a1, a2, a3, a4, a5, a6, a7, a8, a9, a10, h2, h3⟩ := h
  exact ⟨Af, nf, cf, Ab, nb, cb, h1, a1, a2, a3, a4, a5, a6, a7, a8, a9, a10, h2.mono RFrm.stays hw, h3.1.mono RBlk.stays hw, h3.2⟩
theorem RSl.int {w : World} {A : Option Addr} {n : Nat} {xs : List Int} (h : RSl 1 RInt w A n xs) {k : Nat} {x : Int} (hk : xs[k]? = some x) :
    ∃ b off, A = some ⟨b, off, none⟩ ∧ b < w.heap.size ∧ InR x ∧ w.cell? ⟨b, off + k, none⟩ = some (Value.int .i64 x) := by
  obtain ⟨b, off, cs, hA, _, ⟨rfl, hi⟩, hc⟩ := h.2.2 k _ hk
  exact ⟨b, off, hA, lt_of_cell (hc 0 _ rfl), hi, by simpa using hc 0 _ rfl⟩
theorem RSl.ob {w : World} {A : Option Addr} {n : Nat} {xs : List Ob} (h : RSl 4 ROb w A n xs) {k : Nat} {x : Ob} (hk : xs[k]? = some x) :
    ∃ b off, A = some ⟨b, off, none⟩ ∧ b < w.heap.size ∧ x.name.size ≤ 140737488355328 ∧ InR x.kind ∧ InR x.size ∧ InR x.other ∧ w.cell? ⟨b, off + k * 4, none⟩ = some (.string x.name) ∧ w.cell? ⟨b, off + k * 4 + 1, none⟩ = some (Value.int .i64 x.kind) ∧
      w.cell? ⟨b, off + k * 4 + 2, none⟩ = some (Value.int .i64 x.size) ∧ w.cell? ⟨b, off + k * 4 + 3, none⟩ = some (Value.int .i64 x.other) := by
  obtain ⟨b, off, cs, hA, _, ⟨rfl, h1, h2, h3, h4⟩, hc⟩ := h.2.2 k _ hk
  exact ⟨b, off, hA, lt_of_cell (hc 0 _ rfl), h1, h2, h3, h4, hc 0 _ rfl, hc 1 _ rfl, hc 2 _ rfl, hc 3 _ rfl⟩
theorem RSl.vr {w : World} {A : Option Addr} {n : Nat} {xs : List Vr} (h : RSl 3 RVr w A n xs) {k : Nat} {x : Vr} (hk : xs[k]? = some x) :
    ∃ b off, A = some ⟨b, off, none⟩ ∧ b < w.heap.size ∧ x.name.size ≤ 140737488355328 ∧ InR x.init ∧ w.cell? ⟨b, off + k * 3, none⟩ = some (.string x.name) ∧ w.cell? ⟨b, off + k * 3 + 1, none⟩ = some (Value.int .i64 x.init) ∧
      w.cell? ⟨b, off + k * 3 + 2, none⟩ = some (.bool x.atomic) := by
  obtain ⟨b, off, cs, hA, _, ⟨rfl, h1, h2⟩, hc⟩ := h.2.2 k _ hk
  exact ⟨b, off, hA, lt_of_cell (hc 0 _ rfl), h1, h2, hc 0 _ rfl, hc 1 _ rfl, hc 2 _ rfl⟩
theorem RSl.ins {w : World} {A : Option Addr} {n : Nat} {xs : List Ins} (h : RSl 5 RIns w A n xs) {k : Nat} {x : Ins} (hk : xs[k]? = some x) :
    ∃ b off Aa na ca, A = some ⟨b, off, none⟩ ∧ b < w.heap.size ∧ InR x.op ∧ InR x.a ∧ InR x.b ∧ InR x.c ∧ (RSl 1 RInt w Aa na x.args ∧ na ≤ ca) ∧ w.cell? ⟨b, off + k * 5, none⟩ = some (Value.int .i64 x.op) ∧ w.cell? ⟨b, off + k * 5 + 1, none⟩ = some (Value.int .i64 x.a) ∧
      w.cell? ⟨b, off + k * 5 + 2, none⟩ = some (Value.int .i64 x.b) ∧ w.cell? ⟨b, off + k * 5 + 3, none⟩ = some (Value.int .i64 x.c) ∧ w.cell? ⟨b, off + k * 5 + 4, none⟩ = some (.slice Aa na ca) := by
  obtain ⟨b, off, cs, hA, _, ⟨Aa, na, ca, rfl, h1, h2, h3, h4, h5⟩, hc⟩ := h.2.2 k _ hk
  exact ⟨b, off, Aa, na, ca, hA, lt_of_cell (hc 0 _ rfl), h1, h2, h3, h4, h5, hc 0 _ rfl, hc 1 _ rfl, hc 2 _ rfl, hc 3 _ rfl, hc 4 _ rfl⟩
theorem RSl.fnc {w : World} {A : Option Addr} {n : Nat} {xs : List Fnc} (h : RSl 6 RFnc w A n xs) {k : Nat} {x : Fnc} (hk : xs[k]? = some x) :
    ∃ b off Ac nc cc, A = some ⟨b, off, none⟩ ∧ b < w.heap.size ∧ x.name.size ≤ 140737488355328 ∧ InR x.params ∧ InR x.regs ∧ InR x.prio ∧ (RSl 5 RIns w Ac nc x.code ∧ nc ≤ cc) ∧ w.cell? ⟨b, off + k * 6, none⟩ = some (.string x.name) ∧ w.cell? ⟨b, off + k * 6 + 1, none⟩ = some (Value.int .i64 x.params) ∧
      w.cell? ⟨b, off + k * 6 + 2, none⟩ = some (Value.int .i64 x.regs) ∧ w.cell? ⟨b, off + k * 6 + 3, none⟩ = some (Value.int .i64 x.prio) ∧ w.cell? ⟨b, off + k * 6 + 4, none⟩ = some (.bool x.cleanup) ∧ w.cell? ⟨b, off + k * 6 + 5, none⟩ = some (.slice Ac nc cc) := by
  obtain ⟨b, off, cs, hA, _, ⟨Aa, na, ca, rfl, h1, h2, h3, h4, h5⟩, hc⟩ := h.2.2 k _ hk
  exact ⟨b, off, Aa, na, ca, hA, lt_of_cell (hc 0 _ rfl), h1, h2, h3, h4, h5, hc 0 _ rfl, hc 1 _ rfl, hc 2 _ rfl, hc 3 _ rfl, hc 4 _ rfl, hc 5 _ rfl⟩
theorem RSl.hdl {w : World} {A : Option Addr} {n : Nat} {xs : List Hdl} (h : RSl 2 RHdl w A n xs) {k : Nat} {x : Hdl} (hk : xs[k]? = some x) :
    ∃ b off Aa na ca, A = some ⟨b, off, none⟩ ∧ b < w.heap.size ∧ InR x.fn ∧ (RSl 1 RInt w Aa na x.args ∧ na ≤ ca) ∧ w.cell? ⟨b, off + k * 2, none⟩ = some (Value.int .i64 x.fn) ∧ w.cell? ⟨b, off + k * 2 + 1, none⟩ = some (.slice Aa na ca) := by
  obtain ⟨b, off, cs, hA, _, ⟨Aa, na, ca, rfl, h1, h2⟩, hc⟩ := h.2.2 k _ hk
  exact ⟨b, off, Aa, na, ca, hA, lt_of_cell (hc 0 _ rfl), h1, h2, hc 0 _ rfl, hc 1 _ rfl⟩
theorem RSl.frm {w : World} {A : Option Addr} {n : Nat} {xs : List Frm} (h : RSl 5 RFrm w A n xs) {k : Nat} {x : Frm} (hk : xs[k]? = some x) :
    ∃ b off Aa na ca, A = some ⟨b, off, none⟩ ∧ b < w.heap.size ∧ InR x.fn ∧ InR x.pc ∧ InR x.result ∧ (RSl 1 RInt w Aa na x.regs ∧ na ≤ ca) ∧ w.cell? ⟨b, off + k * 5, none⟩ = some (Value.int .i64 x.fn) ∧ w.cell? ⟨b, off + k * 5 + 1, none⟩ = some (Value.int .i64 x.pc) ∧
      w.cell? ⟨b, off + k * 5 + 2, none⟩ = some (.slice Aa na ca) ∧ w.cell? ⟨b, off + k * 5 + 3, none⟩ = some (Value.int .i64 x.result) ∧ w.cell? ⟨b, off + k * 5 + 4, none⟩ = some (.bool x.cleanup) := by
  obtain ⟨b, off, cs, hA, _, ⟨Aa, na, ca, rfl, h1, h2, h3, h4⟩, hc⟩ := h.2.2 k _ hk
  exact ⟨b, off, Aa, na, ca, hA, lt_of_cell (hc 0 _ rfl), h1, h2, h3, h4, hc 0 _ rfl, hc 1 _ rfl, hc 2 _ rfl, hc 3 _ rfl, hc 4 _ rfl⟩
theorem RSl.blk {w : World} {A : Option Addr} {n : Nat} {xs : List Blk} (h : RSl 5 RBlk w A n xs) {k : Nat} {x : Blk} (hk : xs[k]? = some x) :
    ∃ b off Aa na ca, A = some ⟨b, off, none⟩ ∧ b < w.heap.size ∧ InR x.scope ∧ InR x.depth ∧ InR x.exit ∧ InR x.mask ∧ (RSl 2 RHdl w Aa na x.handlers ∧ na ≤ ca) ∧ w.cell? ⟨b, off + k * 5, none⟩ = some (Value.int .i64 x.scope) ∧ w.cell? ⟨b, off + k * 5 + 1, none⟩ = some (Value.int .i64 x.depth) ∧
      w.cell? ⟨b, off + k * 5 + 2, none⟩ = some (Value.int .i64 x.exit) ∧ w.cell? ⟨b, off + k * 5 + 3, none⟩ = some (Value.int .i64 x.mask) ∧ w.cell? ⟨b, off + k * 5 + 4, none⟩ = some (.slice Aa na ca) := by
  obtain ⟨b, off, cs, hA, _, ⟨Aa, na, ca, rfl, h1, h2, h3, h4, h5⟩, hc⟩ := h.2.2 k _ hk
  exact ⟨b, off, Aa, na, ca, hA, lt_of_cell (hc 0 _ rfl), h1, h2, h3, h4, h5, hc 0 _ rfl, hc 1 _ rfl, hc 2 _ rfl, hc 3 _ rfl, hc 4 _ rfl⟩
end Go.Proofs.YtcjjoabofecjmaaGreat

namespace Go.Proofs.YtcjjoabofecjmaaGreat
open Go.RowKit Go.ChangeShapes Go.WideShapes Go.Deep
section
variable {H : Type} {enc : TypeId × Value → H} {W : World} {base : Nat} {spare : Nat → Bool} {held : Bool}
def Small (t : TypeId) (d : DataW H) : Prop := ∀ n ∈ d.weights Tryz.prog t, n ≤ reachBytes
theorem small_field {t : TypeId} {fs : Array Field} (ht : Tryz.prog.underlying t = some (.struct fs)) {xs : List (DataW H × List MemPlace)} (h : Small t (.agg (xs.map (·.1)))) {i : Nat} {f : Field} {y : DataW H × List MemPlace} (hf : fs[i]? = some f) (hy : xs[i]? = some y) : Small f.type y.1 := fun n hn => by
  refine h n ?_
  unfold DataW.weights
  rw [ht]
  exact DataW.weights_mem_each (j := i) (t := f.type) (d := y.1) (by simp [hf]) (by simp [hy]) n hn
theorem weightsAll_mem {e : TypeId} : ∀ {ds : List (DataW H)} {i : Nat} {d : DataW H}, ds[i]? = some d → ∀ n ∈ d.weights Tryz.prog e, n ∈ DataW.weightsAll Tryz.prog e ds
  | [], i, d, h, _, _ => by simp at h
  | d0 :: ds, 0, d, h, n, hn => by
    simp only [List.getElem?_cons_zero, Option.some.injEq] at h
    subst h
    unfold DataW.weightsAll
    exact List.mem_append_left _ hn
  | d0 :: ds, i + 1, d, h, n, hn => by
    unfold DataW.weightsAll
    exact List.mem_append_right _ (weightsAll_mem (by simpa using h) n hn)
theorem small_elem {t e : TypeId} (ht : Tryz.prog.underlying t = some (.slice e)) {elems rest : List (DataW H)} (h : Small t (.slice elems rest)) {i : Nat} {d : DataW H} (hd : elems[i]? = some d) : Small e d := fun n hn => by
  refine h n ?_
  unfold DataW.weights
  rw [ht]
  exact List.mem_cons_of_mem _ (List.mem_append_left _ (weightsAll_mem hd n hn))
theorem small_len {t e : TypeId} (ht : Tryz.prog.underlying t = some (.slice e)) (hb : 1 ≤ Tryz.prog.bytesOf e) {elems rest : List (DataW H)} (h : Small t (.slice elems rest)) : elems.length ≤ 140737488355328 := by
  have h1 := h ((elems.length + rest.length) * Tryz.prog.bytesOf e) (by unfold DataW.weights; rw [ht]; exact List.mem_cons_self)
  have h2 : elems.length + rest.length ≤ (elems.length + rest.length) * Tryz.prog.bytesOf e := Nat.le_mul_of_pos_right _ hb
  unfold reachBytes at h1
  omega
theorem rsl_of {α : Type} {sz : Nat} {R : World → α → List Value → Prop} {t e : TypeId} (ht : Tryz.prog.underlying t = some (.slice e)) (hsz : Tryz.prog.cellsOf e = sz) (hpos : 0 < sz) (hb : 1 ≤ Tryz.prog.bytesOf e)
    (one : ∀ (n : Nat) (cs : List Value) (y : DataW H × List MemPlace), DataW.trod enc Tryz.prog W base spare held n e cs = some y → Small e y.1 → cs.length = sz ∧ ∃ x, R W x cs) {fuel : Nat} {cs : List Value} {y : DataW H × List MemPlace} (h : DataW.trod enc Tryz.prog W base spare held fuel t cs = some y) (hs : Small t y.1) :
    ∃ A n c xs, cs = [.slice A n c] ∧ RSl sz R W A n xs ∧ n ≤ c := by
  rcases open_slice ht h with ⟨rfl, rfl⟩ | ⟨a, len, cap, m, n, D, Pl, rfl, hbase, hl, hm, hmm, rfl, hx⟩
  · exact ⟨none, 0, 0, [], rfl, ⟨rfl, by omega, fun k x hk => by simp at hk⟩, Nat.le_refl _⟩
  have hlm : len ≤ m := by rw [hmm]; split <;> omega
  have hel : ∀ i, i < len → ∃ cs', (cs'.length = sz ∧ ∃ x, R W x cs') ∧ ∀ j v, cs'[j]? = some v → W.cell? ((a.add (i * sz)).add j) = some v := fun i hi => by
    obtain ⟨cs', h1, h2⟩ := hx i (by omega)
    have h3 := one n cs' _ h2 (small_elem ht hs (i := i) (by rw [List.getElem?_map, List.getElem?_range hi]; rfl))
    rw [hsz] at h1
    exact ⟨cs', h3, fun j v hj => ((World.cells?_some h1).2.2 j (by have := (List.getElem?_eq_some_iff.1 hj).1; omega)).trans hj⟩
  have hlen : len ≤ 140737488355328 := by
    have := small_len ht hb hs
    simpa using this
  rcases Nat.eq_zero_or_pos len with h0 | h0
  · subst h0
    exact ⟨_, _, _, [], rfl, ⟨rfl, by omega, fun k x hk => by simp at hk⟩, hl⟩
  obtain ⟨b, off, spot⟩ := a
  have hspot : spot = none := by
    obtain ⟨cs', ⟨hl', _⟩, hc⟩ := hel 0 h0
    have := hc 0 _ (List.getElem?_eq_getElem (by omega))
    simpa [Addr.add] using World.cell?_spot this
  subst hspot
  have hel2 := hel
  classical
  refine ⟨_, _, _, (List.range len).map (fun i => if hi : i < len then Classical.choose (Classical.choose_spec (hel i hi)).1.2 else Classical.choose (Classical.choose_spec (hel 0 h0)).1.2), rfl, ⟨by simp, hlen, fun k x hk => ?_⟩, hl⟩
  have hkl : k < len := by have := (List.getElem?_eq_some_iff.1 hk).1; simpa using this
  rw [List.getElem?_map, List.getElem?_range hkl] at hk
  simp only [Option.map_some, Option.some.injEq, dif_pos hkl] at hk
  subst hk
  refine ⟨b, off, Classical.choose (hel k hkl), rfl, (Classical.choose_spec (hel k hkl)).1.1, Classical.choose_spec (Classical.choose_spec (hel k hkl)).1.2, fun j v hj => ?_⟩
  have := (Classical.choose_spec (hel k hkl)).2 j v hj
  rw [add_add] at this
  have e : (⟨b, off, none⟩ : Addr).add (k * sz + j) = ⟨b, off + k * sz + j, none⟩ := by unfold Addr.add; split <;> simp_all [Nat.add_assoc]
  rw [e] at this
  exact this
end
end Go.Proofs.YtcjjoabofecjmaaGreat

namespace Go.Proofs.YtcjjoabofecjmaaGreat
open Go.RowKit Go.ChangeShapes Go.WideShapes Go.Deep
theorem cellsI : Tryz.prog.cellsOf 3 = 1 := by kernel_rfl
theorem cellsBo : Tryz.prog.cellsOf 4 = 1 := by kernel_rfl
theorem cellsSl : Tryz.prog.cellsOf 35 = 1 := by kernel_rfl
theorem cellsSF : Tryz.prog.cellsOf 29 = 1 := by kernel_rfl
theorem cellsSB : Tryz.prog.cellsOf 30 = 1 := by kernel_rfl
theorem cellsSH : Tryz.prog.cellsOf 53 = 1 := by kernel_rfl
theorem cellsF : Tryz.prog.cellsOf 62 = 5 := by kernel_rfl
theorem cellsB : Tryz.prog.cellsOf 55 = 5 := by kernel_rfl
theorem cellsH : Tryz.prog.cellsOf 58 = 2 := by kernel_rfl
theorem cellsW : Tryz.prog.cellsOf 28 = 3 := by kernel_rfl
theorem cellsT : Tryz.prog.cellsOf 32 = 14 := by kernel_rfl
theorem bytesI : 1 ≤ Tryz.prog.bytesOf 3 := of_decide_eq_true (by kernel_rfl)
theorem bytesF : 1 ≤ Tryz.prog.bytesOf 62 := of_decide_eq_true (by kernel_rfl)
theorem bytesB : 1 ≤ Tryz.prog.bytesOf 55 := of_decide_eq_true (by kernel_rfl)
theorem bytesH : 1 ≤ Tryz.prog.bytesOf 58 := of_decide_eq_true (by kernel_rfl)
theorem inr_wf {n : Int} (h : (Lit.int .i64 n).wf = true) : InR n := by
  simp [Lit.wf, IntKind.min, IntKind.max, IntKind.signed, IntKind.bits] at h
  exact ⟨by omega, by omega⟩
theorem list2 {α : Type} {cs : List α} (h : cs.length = 2) : ∃ a b, cs = [a, b] := by
  match cs, h with
  | [a, b], _ => exact ⟨a, b, rfl⟩
theorem list5 {α : Type} {cs : List α} (h : cs.length = 5) : ∃ a b c d e, cs = [a, b, c, d, e] := by
  match cs, h with
  | [a, b, c, d, e], _ => exact ⟨a, b, c, d, e, rfl⟩
theorem list3 {α : Type} {cs : List α} (h : cs.length = 3) : ∃ a b c, cs = [a, b, c] := by
  match cs, h with
  | [a, b, c], _ => exact ⟨a, b, c, rfl⟩
theorem list14 {α : Type} {cs : List α} (h : cs.length = 14) : ∃ a b c d e f g i j k l m n o, cs = [a, b, c, d, e, f, g, i, j, k, l, m, n, o] := by
  match cs, h with
  | [a, b, c, d, e, f, g, i, j, k, l, m, n, o], _ => exact ⟨a, b, c, d, e, f, g, i, j, k, l, m, n, o, rfl⟩
section
variable {H : Type} {enc : TypeId × Value → H} {W : World} {base : Nat} {spare : Nat → Bool} {held : Bool}
theorem fld {t : TypeId} {fs : Array Field} {fuel : Nat} {cs : List Value} {y : DataW H × List MemPlace} (ht : Tryz.prog.underlying t = some (.struct fs)) (h : DataW.trod enc Tryz.prog W base spare held fuel t cs = some y) (hs : Small t y.1) :
    ∃ n, cs.length = Tryz.prog.cellsOf t ∧ ∀ (i : Nat) (T : TypeId) (o k : Nat) (f : Field), fs[i]? = some f → f.type = T → f.offset = o → Tryz.prog.cellsOf T = k → ∃ z, DataW.trod enc Tryz.prog W base spare held n T ((cs.drop o).take k) = some z ∧ Small T z.1 := by
  obtain ⟨xs, n, rfl, rfl, hl, hxl, hf⟩ := DataW.trod_struct ht h
  refine ⟨n, hl, fun i T o k f hi h1 h2 h3 => ?_⟩
  subst h1 h2 h3
  obtain ⟨z, hz⟩ : ∃ z, xs[i]? = some z := ⟨_, List.getElem?_eq_getElem (by rw [hxl]; exact (Array.getElem?_eq_some_iff.1 hi).1)⟩
  exact ⟨z, (hf i f hi).trans hz, small_field ht hs hi hz⟩
theorem one_i {n : Nat} {c : Value} {y : DataW H × List MemPlace} (h : DataW.trod enc Tryz.prog W base spare held n 3 [c] = some y) : ∃ a, c = Value.int .i64 a ∧ InR a := by
  obtain ⟨a, e, _, hw⟩ := DataW.trod_int Tryz.underlying3 h
  exact ⟨a, by simpa using e, inr_wf hw⟩
theorem one_b {n : Nat} {c : Value} {y : DataW H × List MemPlace} (h : DataW.trod enc Tryz.prog W base spare held n 4 [c] = some y) : ∃ a, c = .bool a := by
  obtain ⟨a, e, _⟩ := DataW.trod_bool Tryz.underlying4 h
  exact ⟨a, by simpa using e⟩
theorem one_int (n : Nat) (cs : List Value) (y : DataW H × List MemPlace) (h : DataW.trod enc Tryz.prog W base spare held n 3 cs = some y) (_ : Small 3 y.1) : cs.length = 1 ∧ ∃ x, RInt W x cs := by
  obtain ⟨a, rfl, _, hw⟩ := DataW.trod_int Tryz.underlying3 h
  exact ⟨rfl, a, rfl, inr_wf hw⟩
theorem sl_int {n : Nat} {c : Value} {y : DataW H × List MemPlace} (h : DataW.trod enc Tryz.prog W base spare held n 35 [c] = some y) (hs : Small 35 y.1) : ∃ A m k xs, c = .slice A m k ∧ RSl 1 RInt W A m xs ∧ m ≤ k := by
  obtain ⟨A, m, k, xs, e, h1, h2⟩ := rsl_of Tryz.underlying35 cellsI (by decide) bytesI one_int h hs
  exact ⟨A, m, k, xs, by simpa using e, h1, h2⟩
theorem one_hdl (n : Nat) (cs : List Value) (y : DataW H × List MemPlace) (h : DataW.trod enc Tryz.prog W base spare held n 58 cs = some y) (hs : Small 58 y.1) : cs.length = 2 ∧ ∃ x, RHdl W x cs := by
  obtain ⟨m, hl, hf⟩ := fld Tryz.underlying58 h hs
  rw [cellsH] at hl
  obtain ⟨c0, c1, rfl⟩ := list2 hl
  obtain ⟨z0, t0, _⟩ := hf 0 3 0 1 _ rfl rfl rfl cellsI
  obtain ⟨z1, t1, s1⟩ := hf 1 35 1 1 _ rfl rfl rfl cellsSl
  simp only [List.drop_zero, List.drop_succ_cons, List.take_succ_cons, List.take_zero] at t0 t1
  obtain ⟨a, rfl, ia⟩ := one_i t0
  obtain ⟨A, m, k, xs, rfl, h1, h2⟩ := sl_int t1 s1
  exact ⟨rfl, ⟨a, xs⟩, A, m, k, rfl, ia, h1, h2⟩
theorem one_frm (n : Nat) (cs : List Value) (y : DataW H × List MemPlace) (h : DataW.trod enc Tryz.prog W base spare held n 62 cs = some y) (hs : Small 62 y.1) : cs.length = 5 ∧ ∃ x, RFrm W x cs := by
  obtain ⟨m, hl, hf⟩ := fld Tryz.underlying62 h hs
  rw [cellsF] at hl
  obtain ⟨c0, c1, c2, c3, c4, rfl⟩ := list5 hl
  obtain ⟨z0, t0, _⟩ := hf 0 3 0 1 _ rfl rfl rfl cellsI
  obtain ⟨z1, t1, _⟩ := hf 1 3 1 1 _ rfl rfl rfl cellsI
  obtain ⟨z2, t2, s2⟩ := hf 2 35 2 1 _ rfl rfl rfl cellsSl
  obtain ⟨z3, t3, _⟩ := hf 3 3 3 1 _ rfl rfl rfl cellsI
  obtain ⟨z4, t4, _⟩ := hf 4 4 4 1 _ rfl rfl rfl cellsBo
  simp only [List.drop_zero, List.drop_succ_cons, List.take_succ_cons, List.take_zero] at t0 t1 t2 t3 t4
  obtain ⟨a, rfl, ia⟩ := one_i t0
  obtain ⟨b, rfl, ib⟩ := one_i t1
  obtain ⟨A, m, k, xs, rfl, h1, h2⟩ := sl_int t2 s2
  obtain ⟨d, rfl, id⟩ := one_i t3
  obtain ⟨e, rfl⟩ := one_b t4
  exact ⟨rfl, ⟨a, b, xs, d, e⟩, A, m, k, rfl, ia, ib, id, h1, h2⟩
theorem one_blk (n : Nat) (cs : List Value) (y : DataW H × List MemPlace) (h : DataW.trod enc Tryz.prog W base spare held n 55 cs = some y) (hs : Small 55 y.1) : cs.length = 5 ∧ ∃ x, RBlk W x cs := by
  obtain ⟨m, hl, hf⟩ := fld Tryz.underlying55 h hs
  rw [cellsB] at hl
  obtain ⟨c0, c1, c2, c3, c4, rfl⟩ := list5 hl
  obtain ⟨z0, t0, _⟩ := hf 0 3 0 1 _ rfl rfl rfl cellsI
  obtain ⟨z1, t1, _⟩ := hf 1 3 1 1 _ rfl rfl rfl cellsI
  obtain ⟨z2, t2, _⟩ := hf 2 3 2 1 _ rfl rfl rfl cellsI
  obtain ⟨z3, t3, _⟩ := hf 3 3 3 1 _ rfl rfl rfl cellsI
  obtain ⟨z4, t4, s4⟩ := hf 4 53 4 1 _ rfl rfl rfl cellsSH
  simp only [List.drop_zero, List.drop_succ_cons, List.take_succ_cons, List.take_zero] at t0 t1 t2 t3 t4
  obtain ⟨a, rfl, ia⟩ := one_i t0
  obtain ⟨b, rfl, ib⟩ := one_i t1
  obtain ⟨c, rfl, ic⟩ := one_i t2
  obtain ⟨d, rfl, id⟩ := one_i t3
  obtain ⟨A, m, k, xs, e, h1, h2⟩ := rsl_of Tryz.underlying53 cellsH (by decide) bytesH one_hdl t4 s4
  obtain rfl : c4 = .slice A m k := by simpa using e
  exact ⟨rfl, ⟨a, b, c, d, xs⟩, A, m, k, rfl, ia, ib, ic, id, h1, h2⟩
theorem one_tsk (n : Nat) (cs : List Value) (y : DataW H × List MemPlace) (h : DataW.trod enc Tryz.prog W base spare held n 32 cs = some y) (hs : Small 32 y.1) : ∃ t, RTsk W t (.agg cs.toArray) := by
  obtain ⟨m, hl, hf⟩ := fld Tryz.underlying32 h hs
  rw [cellsT] at hl
  obtain ⟨c0, c1, c2, c3, c4, c5, c6, c7, c8, c9, c10, c11, c12, c13, rfl⟩ := list14 hl
  obtain ⟨z0, t0, _⟩ := hf 0 3 0 1 _ rfl rfl rfl cellsI
  obtain ⟨z1, t1, _⟩ := hf 1 3 1 1 _ rfl rfl rfl cellsI
  obtain ⟨z2, t2, _⟩ := hf 2 3 2 1 _ rfl rfl rfl cellsI
  obtain ⟨z3, t3, _⟩ := hf 3 3 3 1 _ rfl rfl rfl cellsI
  obtain ⟨z4, t4, s4⟩ := hf 4 28 4 3 _ rfl rfl rfl cellsW
  obtain ⟨z5, t5, s5⟩ := hf 5 29 7 1 _ rfl rfl rfl cellsSF
  obtain ⟨z6, t6, s6⟩ := hf 6 30 8 1 _ rfl rfl rfl cellsSB
  obtain ⟨z7, t7, _⟩ := hf 7 3 9 1 _ rfl rfl rfl cellsI
  obtain ⟨z8, t8, _⟩ := hf 8 4 10 1 _ rfl rfl rfl cellsBo
  obtain ⟨z9, t9, _⟩ := hf 9 3 11 1 _ rfl rfl rfl cellsI
  obtain ⟨z10, t10, _⟩ := hf 10 3 12 1 _ rfl rfl rfl cellsI
  obtain ⟨z11, t11, _⟩ := hf 11 3 13 1 _ rfl rfl rfl cellsI
  simp only [List.drop_zero, List.drop_succ_cons, List.take_succ_cons, List.take_zero] at t0 t1 t2 t3 t4 t5 t6 t7 t8 t9 t10 t11
  obtain ⟨m2, _, hw⟩ := fld Tryz.underlying28 t4 s4
  obtain ⟨w0, u0, _⟩ := hw 0 3 0 1 _ rfl rfl rfl cellsI
  obtain ⟨w1, u1, _⟩ := hw 1 3 1 1 _ rfl rfl rfl cellsI
  obtain ⟨w2, u2, _⟩ := hw 2 4 2 1 _ rfl rfl rfl cellsBo
  simp only [List.drop_zero, List.drop_succ_cons, List.take_succ_cons, List.take_zero] at u0 u1 u2
  obtain ⟨a0, rfl, i0⟩ := one_i t0
  obtain ⟨a1, rfl, i1⟩ := one_i t1
  obtain ⟨a2, rfl, i2⟩ := one_i t2
  obtain ⟨a3, rfl, i3⟩ := one_i t3
  obtain ⟨a4, rfl, i4⟩ := one_i u0
  obtain ⟨a5, rfl, i5⟩ := one_i u1
  obtain ⟨a6, rfl⟩ := one_b u2
  obtain ⟨A7, m7, k7, x7, e7, h7, l7⟩ := rsl_of Tryz.underlying29 cellsF (by decide) bytesF one_frm t5 s5
  obtain rfl : c7 = .slice A7 m7 k7 := by simpa using e7
  obtain ⟨A8, m8, k8, x8, e8, h8, l8⟩ := rsl_of Tryz.underlying30 cellsB (by decide) bytesB one_blk t6 s6
  obtain rfl : c8 = .slice A8 m8 k8 := by simpa using e8
  obtain ⟨a9, rfl, i9⟩ := one_i t7
  obtain ⟨a10, rfl⟩ := one_b t8
  obtain ⟨a11, rfl, i11⟩ := one_i t9
  obtain ⟨a12, rfl, i12⟩ := one_i t10
  obtain ⟨a13, rfl, i13⟩ := one_i t11
  exact ⟨⟨a0, a1, a2, a3, a4, a5, a6, x7, x8, a9, a10, a11, a12, a13⟩, _, _, _, _, _, _, rfl, i0, i1, i2, i3, i4, i5, i9, i11, i12, i13, h7, h8, l7, l8⟩
set_option maxRecDepth 8000 in
theorem tsk_in {r : Reach} {base2 : Nat} {v : Value} {d : DataW H} {ps : List MemPlace} (hv : Value.okWide Tryz.prog W r base2 32 v) (h : DataW.Trod enc Tryz.prog W base spare held 32 v d ps) (hs : Small 32 d) : ∃ t, RTsk W t v := by
  obtain ⟨cs, rfl, hsz⟩ := okWide_struct Tryz.underlying32 hv
  obtain ⟨fuel, hf⟩ := h
  obtain ⟨t, ht⟩ := one_tsk fuel cs.toList (d, ps) hf hs
  have e : cs.toList.toArray = cs := Array.toArray_toList
  rw [e] at ht
  exact ⟨t, ht⟩
end
end Go.Proofs.YtcjjoabofecjmaaGreat

namespace Go.Proofs.YtcjjoabofecjmaaGreat
open Go.RowKit Go.ChangeShapes Go.WideShapes Go.Deep
theorem cellsSt : Tryz.prog.cellsOf 9 = 1 := by kernel_rfl
theorem cellsSI : Tryz.prog.cellsOf 74 = 1 := by kernel_rfl
theorem cellsSFn : Tryz.prog.cellsOf 22 = 1 := by kernel_rfl
theorem cellsSO : Tryz.prog.cellsOf 23 = 1 := by kernel_rfl
theorem cellsSV : Tryz.prog.cellsOf 24 = 1 := by kernel_rfl
theorem cellsIn : Tryz.prog.cellsOf 37 = 5 := by kernel_rfl
theorem cellsFn : Tryz.prog.cellsOf 76 = 6 := by kernel_rfl
theorem cellsOb : Tryz.prog.cellsOf 86 = 4 := by kernel_rfl
theorem cellsVr : Tryz.prog.cellsOf 88 = 3 := by kernel_rfl
theorem cellsP : Tryz.prog.cellsOf 26 = 3 := by kernel_rfl
theorem bytesIn : 1 ≤ Tryz.prog.bytesOf 37 := of_decide_eq_true (by kernel_rfl)
theorem bytesFn : 1 ≤ Tryz.prog.bytesOf 76 := of_decide_eq_true (by kernel_rfl)
theorem bytesOb : 1 ≤ Tryz.prog.bytesOf 86 := of_decide_eq_true (by kernel_rfl)
theorem bytesVr : 1 ≤ Tryz.prog.bytesOf 88 := of_decide_eq_true (by kernel_rfl)
theorem list4 {α : Type} {cs : List α} (h : cs.length = 4) : ∃ a b c d, cs = [a, b, c, d] := by
  match cs, h with
  | [a, b, c, d], _ => exact ⟨a, b, c, d, rfl⟩
theorem list6 {α : Type} {cs : List α} (h : cs.length = 6) : ∃ a b c d e f, cs = [a, b, c, d, e, f] := by
  match cs, h with
  | [a, b, c, d, e, f], _ => exact ⟨a, b, c, d, e, f, rfl⟩
section
variable {H : Type} {enc : TypeId × Value → H} {W : World} {base : Nat} {spare : Nat → Bool} {held : Bool}
theorem one_s {n : Nat} {c : Value} {y : DataW H × List MemPlace} (h : DataW.trod enc Tryz.prog W base spare held n 9 [c] = some y) (hs : Small 9 y.1) : ∃ a : ByteArray, c = .string a ∧ a.size ≤ 140737488355328 := by
  obtain ⟨a, e, rfl, _⟩ := DataW.trod_string Tryz.underlying9 h
  have h1 := hs a.data.toList.length (by unfold DataW.weights; exact List.mem_singleton_self _)
  refine ⟨a, List.head_eq_of_cons_eq e, ?_⟩
  have h2 : a.data.toList.length = a.size := by rw [Array.length_toList]; rfl
  rw [h2] at h1
  unfold reachBytes at h1
  omega
theorem one_ins (n : Nat) (cs : List Value) (y : DataW H × List MemPlace) (h : DataW.trod enc Tryz.prog W base spare held n 37 cs = some y) (hs : Small 37 y.1) : cs.length = 5 ∧ ∃ x, RIns W x cs := by
  obtain ⟨m, hl, hf⟩ := fld Tryz.underlying37 h hs
  rw [cellsIn] at hl
  obtain ⟨c0, c1, c2, c3, c4, rfl⟩ := list5 hl
  obtain ⟨z0, t0, s0⟩ := hf 0 3 0 1 _ rfl rfl rfl cellsI
  obtain ⟨z1, t1, s1⟩ := hf 1 3 1 1 _ rfl rfl rfl cellsI
  obtain ⟨z2, t2, s2⟩ := hf 2 3 2 1 _ rfl rfl rfl cellsI
  obtain ⟨z3, t3, s3⟩ := hf 3 3 3 1 _ rfl rfl rfl cellsI
  obtain ⟨z4, t4, s4⟩ := hf 4 35 4 1 _ rfl rfl rfl cellsSl
  simp only [List.drop_zero, List.drop_succ_cons, List.take_succ_cons, List.take_zero] at t0 t1 t2 t3 t4
  obtain ⟨a, rfl, ia⟩ := one_i t0
  obtain ⟨b, rfl, ib⟩ := one_i t1
  obtain ⟨c, rfl, ic⟩ := one_i t2
  obtain ⟨d, rfl, id⟩ := one_i t3
  obtain ⟨A, m, k, xs, rfl, h1, h2⟩ := sl_int t4 s4
  exact ⟨rfl, ⟨a, b, c, d, xs⟩, A, m, k, rfl, ia, ib, ic, id, h1, h2⟩
theorem one_fnc (n : Nat) (cs : List Value) (y : DataW H × List MemPlace) (h : DataW.trod enc Tryz.prog W base spare held n 76 cs = some y) (hs : Small 76 y.1) : cs.length = 6 ∧ ∃ x, RFnc W x cs := by
  obtain ⟨m, hl, hf⟩ := fld Tryz.underlying76 h hs
  rw [cellsFn] at hl
  obtain ⟨c0, c1, c2, c3, c4, c5, rfl⟩ := list6 hl
  obtain ⟨z0, t0, s0⟩ := hf 0 9 0 1 _ rfl rfl rfl cellsSt
  obtain ⟨z1, t1, s1⟩ := hf 1 3 1 1 _ rfl rfl rfl cellsI
  obtain ⟨z2, t2, s2⟩ := hf 2 3 2 1 _ rfl rfl rfl cellsI
  obtain ⟨z3, t3, s3⟩ := hf 3 3 3 1 _ rfl rfl rfl cellsI
  obtain ⟨z4, t4, s4⟩ := hf 4 4 4 1 _ rfl rfl rfl cellsBo
  obtain ⟨z5, t5, s5⟩ := hf 5 74 5 1 _ rfl rfl rfl cellsSI
  simp only [List.drop_zero, List.drop_succ_cons, List.take_succ_cons, List.take_zero] at t0 t1 t2 t3 t4 t5
  obtain ⟨a, rfl, ia⟩ := one_s t0 s0
  obtain ⟨b, rfl, ib⟩ := one_i t1
  obtain ⟨c, rfl, ic⟩ := one_i t2
  obtain ⟨d, rfl, id⟩ := one_i t3
  obtain ⟨e, rfl⟩ := one_b t4
  obtain ⟨A, m, k, xs, e5, h1, h2⟩ := rsl_of Tryz.underlying74 cellsIn (by decide) bytesIn one_ins t5 s5
  obtain rfl : c5 = .slice A m k := by simpa using e5
  exact ⟨rfl, ⟨a, b, c, d, e, xs⟩, A, m, k, rfl, ia, ib, ic, id, h1, h2⟩
theorem one_ob (n : Nat) (cs : List Value) (y : DataW H × List MemPlace) (h : DataW.trod enc Tryz.prog W base spare held n 86 cs = some y) (hs : Small 86 y.1) : cs.length = 4 ∧ ∃ x, ROb W x cs := by
  obtain ⟨m, hl, hf⟩ := fld Tryz.underlying86 h hs
  rw [cellsOb] at hl
  obtain ⟨c0, c1, c2, c3, rfl⟩ := list4 hl
  obtain ⟨z0, t0, s0⟩ := hf 0 9 0 1 _ rfl rfl rfl cellsSt
  obtain ⟨z1, t1, s1⟩ := hf 1 3 1 1 _ rfl rfl rfl cellsI
  obtain ⟨z2, t2, s2⟩ := hf 2 3 2 1 _ rfl rfl rfl cellsI
  obtain ⟨z3, t3, s3⟩ := hf 3 3 3 1 _ rfl rfl rfl cellsI
  simp only [List.drop_zero, List.drop_succ_cons, List.take_succ_cons, List.take_zero] at t0 t1 t2 t3
  obtain ⟨a, rfl, ia⟩ := one_s t0 s0
  obtain ⟨b, rfl, ib⟩ := one_i t1
  obtain ⟨c, rfl, ic⟩ := one_i t2
  obtain ⟨d, rfl, id⟩ := one_i t3
  exact ⟨rfl, ⟨a, b, c, d⟩, rfl, ia, ib, ic, id⟩
theorem one_vr (n : Nat) (cs : List Value) (y : DataW H × List MemPlace) (h : DataW.trod enc Tryz.prog W base spare held n 88 cs = some y) (hs : Small 88 y.1) : cs.length = 3 ∧ ∃ x, RVr W x cs := by
  obtain ⟨m, hl, hf⟩ := fld Tryz.underlying88 h hs
  rw [cellsVr] at hl
  obtain ⟨c0, c1, c2, rfl⟩ := list3 hl
  obtain ⟨z0, t0, s0⟩ := hf 0 9 0 1 _ rfl rfl rfl cellsSt
  obtain ⟨z1, t1, s1⟩ := hf 1 3 1 1 _ rfl rfl rfl cellsI
  obtain ⟨z2, t2, s2⟩ := hf 2 4 2 1 _ rfl rfl rfl cellsBo
  simp only [List.drop_zero, List.drop_succ_cons, List.take_succ_cons, List.take_zero] at t0 t1 t2
  obtain ⟨a, rfl, ia⟩ := one_s t0 s0
  obtain ⟨b, rfl, ib⟩ := one_i t1
  obtain ⟨c, rfl⟩ := one_b t2
  exact ⟨rfl, ⟨a, b, c⟩, rfl, ia, ib⟩
theorem one_prg (n : Nat) (cs : List Value) (y : DataW H × List MemPlace) (h : DataW.trod enc Tryz.prog W base spare held n 26 cs = some y) (hs : Small 26 y.1) : ∃ p, RPrg W p (.agg cs.toArray) := by
  obtain ⟨m, hl, hf⟩ := fld Tryz.underlying26 h hs
  rw [cellsP] at hl
  obtain ⟨c0, c1, c2, rfl⟩ := list3 hl
  obtain ⟨z0, t0, s0⟩ := hf 0 22 0 1 _ rfl rfl rfl cellsSFn
  obtain ⟨z1, t1, s1⟩ := hf 1 23 1 1 _ rfl rfl rfl cellsSO
  obtain ⟨z2, t2, s2⟩ := hf 2 24 2 1 _ rfl rfl rfl cellsSV
  simp only [List.drop_zero, List.drop_succ_cons, List.take_succ_cons, List.take_zero] at t0 t1 t2
  obtain ⟨A0, m0, k0, x0, e0, h0, l0⟩ := rsl_of Tryz.underlying22 cellsFn (by decide) bytesFn one_fnc t0 s0
  obtain rfl : c0 = .slice A0 m0 k0 := by simpa using e0
  obtain ⟨A1, m1, k1, x1, e1, h1, l1⟩ := rsl_of Tryz.underlying23 cellsOb (by decide) bytesOb one_ob t1 s1
  obtain rfl : c1 = .slice A1 m1 k1 := by simpa using e1
  obtain ⟨A2, m2, k2, x2, e2, h2, l2⟩ := rsl_of Tryz.underlying24 cellsVr (by decide) bytesVr one_vr t2 s2
  obtain rfl : c2 = .slice A2 m2 k2 := by simpa using e2
  exact ⟨⟨x0, x1, x2⟩, _, _, _, _, _, _, _, _, _, rfl, h0, h1, h2, l0, l1, l2⟩
set_option maxRecDepth 8000 in
theorem prg_in {r : Reach} {base2 : Nat} {v : Value} {d : DataW H} {ps : List MemPlace} (hv : Value.okWide Tryz.prog W r base2 26 v) (h : DataW.Trod enc Tryz.prog W base spare held 26 v d ps) (hs : Small 26 d) : ∃ p, RPrg W p v := by
  obtain ⟨cs, rfl, hsz⟩ := okWide_struct Tryz.underlying26 hv
  obtain ⟨fuel, hf⟩ := h
  obtain ⟨t, ht⟩ := one_prg fuel cs.toList (d, ps) hf hs
  have e : cs.toList.toArray = cs := Array.toArray_toList
  rw [e] at ht
  exact ⟨t, ht⟩
set_option maxRecDepth 8000 in
theorem ints_in {r : Reach} {base2 : Nat} {v : Value} {d : DataW H} {ps : List MemPlace} (hv : Value.okWide Tryz.prog W r base2 35 v) (h : DataW.Trod enc Tryz.prog W base spare held 35 v d ps) (hs : Small 35 d) : ∃ A n c xs, v = .slice A n c ∧ RSl 1 RInt W A n xs ∧ n ≤ c := by
  obtain ⟨A, n, c, rfl⟩ := okWide_slice Tryz.underlying35 hv
  obtain ⟨fuel, hf⟩ := h
  have hf : DataW.trod enc Tryz.prog W base spare held fuel 35 [.slice A n c] = some (d, ps) := hf
  obtain ⟨A', n', c', xs, e, h1, h2⟩ := sl_int hf hs
  exact ⟨A', n', c', xs, e, h1, h2⟩
end
end Go.Proofs.YtcjjoabofecjmaaGreat

namespace Go.Proofs.YtcjjoabofecjmaaGreat
open Go.RowKit
def CSl (w : World) (A : Option Addr) (n sz : Nat) (cs : List Value) : Prop :=
  cs.length = n * sz ∧ (0 < n → ∃ b o, A = some ⟨b, o, none⟩ ∧ ∀ j u, cs[j]? = some u → w.cell? ⟨b, o + j, none⟩ = some u)
theorem addr_add (b o j : Nat) : (⟨b, o, none⟩ : Addr).add j = ⟨b, o + j, none⟩ := by unfold Addr.add; split <;> simp_all
theorem CSl.mono {w W : World} {A : Option Addr} {n sz : Nat} {cs : List Value} (h : CSl w A n sz cs) (hw : Ext w W) : CSl W A n sz cs :=
  ⟨h.1, fun hn => by obtain ⟨b, o, hA, hc⟩ := h.2 hn; exact ⟨b, o, hA, fun j u hj => hw.cell (hc j u hj)⟩⟩
theorem CSl.news {w : World} {ad : Addr} {n sz : Nat} {cs : List Value} (h : CSl w (some ad) n sz cs) : ∀ j u, cs[j]? = some u → w.cell? (ad.add j) = some u := by
  intro j u hj
  have hn : 0 < n := by
    rcases Nat.eq_zero_or_pos n with h0 | h0
    · subst h0
      have : cs = [] := List.eq_nil_of_length_eq_zero (by simpa using h.1)
      subst this
      simp at hj
    · exact h0
  obtain ⟨b, o, hA, hc⟩ := h.2 hn
  cases hA
  rw [addr_add]
  exact hc j u hj
theorem infoInt : (Tryz.prog.info? 3).map (fun i => (i.zero, i.size, i.bytes)) = some (some (.int .i64 0), 1, 8) := by kernel_rfl
set_option maxHeartbeats 1000000 in
theorem cloneInt (A : Option Addr) (n c : Nat) (cs : List Value) (w : World) (hA : A = none → n = 0) (hs : CSl w A n 1 cs) (h1 : ∀ u ∈ cs, u.oneCell' = true) (hn : n ≤ 1000) :
    Calls Tryz.prog 90 #[.slice A n c] w fun e w' => ∃ v, e = .returned v ∧ w'.ownsRow w.heap.size 3 1 v n cs ∧ Ext w w' := by
  have HS := Lib.hid hs
  have H1 := Lib.hid h1
  clear hs h1
  rcases A with _ | ⟨b, o, f⟩
  · obtain rfl := hA rfl
    clear hA hn
    have he : ∀ w : World, (binOp .eql 35 (.slice none 0 c) (.slice none 0 0)).run Tryz.prog w = .ok (.bool true) w := fun w => Lib.run_eql_slice_nil w 35 3 none 0 c 0 0 Tryz.underlying35
    go_enter Tryz.func90, Tryz.ntmps90
    go_wp2
    go_ret
    have : cs = [] := List.eq_nil_of_length_eq_zero (by simpa using HS.out.1)
    subst this
    exact ⟨_, rfl, World.ownsRow_nil _ _ _ _, xt⟩
  · clear hA
    have he : ∀ w : World, (binOp .eql 35 (.slice (some ⟨b, o, f⟩) n c) (.slice none 0 0)).run Tryz.prog w = .ok (.bool false) w := fun w => Lib.run_eql_slice_nil w 35 3 (some ⟨b, o, f⟩) n c 0 0 Tryz.underlying35
    go_enter Tryz.func90, Tryz.ntmps90
    go_wp2_with (at_builtin; obtain ⟨i0, hi0, hz0, hz1, hz2⟩ := info_parts infoInt; refine wpList_append_own_at _ rfl (.tmp 5) (.tmp 6) _ rfl w.heap.size 3 i0 _ 1 8 Tryz.underlying35 hi0 hz0 hz1 hz2 rfl (by omega) _ 0 [] rfl (World.ownsRow_lit w #[] 0 (Nat.le_refl _) (by simp [maxLen]) (by simp)) ⟨b, o, f⟩ n c cs rfl HS.out.1 (CSl.news (HS.out.mono xt)) H1.out (by simp only [maxLen]; omega) (by omega) (by simp) ?_; clear hi0 hz0 hz1 hz2; intro v' w' hown hgr hnil hat; have HO := Lib.hid hown; have HG := Lib.hid hgr; clear hown hgr hnil hat)
    go_ret
    exact ⟨_, rfl, by simpa using HO.out, ((Below.refl _ w).alloc (Nat.le_refl _) _).grown HG.out (by simp) (fun k e => by cases e; exact Nat.le_refl _)⟩
theorem infoFrm : (Tryz.prog.info? 62).map (fun i => (i.zero, i.size, i.bytes)) = some (some (.agg #[.int .i64 0, .int .i64 0, .slice none 0 0, .int .i64 0, .bool false]), 5, 56) := by kernel_rfl
set_option maxHeartbeats 1000000 in
theorem cloneFrm (A : Option Addr) (n c : Nat) (cs : List Value) (w : World) (hA : A = none → n = 0) (hs : CSl w A n 5 cs) (h1 : ∀ u ∈ cs, u.oneCell' = true) (hn : n ≤ 1000) :
    Calls Tryz.prog 74 #[.slice A n c] w fun e w' => ∃ v, e = .returned v ∧ w'.ownsRow w.heap.size 62 5 v n cs ∧ Ext w w' := by
  have HS := Lib.hid hs
  have H1 := Lib.hid h1
  clear hs h1
  rcases A with _ | ⟨b, o, f⟩
  · obtain rfl := hA rfl
    clear hA hn
    have he : ∀ w : World, (binOp .eql 29 (.slice none 0 c) (.slice none 0 0)).run Tryz.prog w = .ok (.bool true) w := fun w => Lib.run_eql_slice_nil w 29 62 none 0 c 0 0 Tryz.underlying29
    go_enter Tryz.func74, Tryz.ntmps74
    go_wp2
    go_ret
    have : cs = [] := List.eq_nil_of_length_eq_zero (by simpa using HS.out.1)
    subst this
    exact ⟨_, rfl, World.ownsRow_nil _ _ _ _, xt⟩
  · clear hA
    have he : ∀ w : World, (binOp .eql 29 (.slice (some ⟨b, o, f⟩) n c) (.slice none 0 0)).run Tryz.prog w = .ok (.bool false) w := fun w => Lib.run_eql_slice_nil w 29 62 (some ⟨b, o, f⟩) n c 0 0 Tryz.underlying29
    go_enter Tryz.func74, Tryz.ntmps74
    go_wp2_with (at_builtin; obtain ⟨i0, hi0, hz0, hz1, hz2⟩ := info_parts infoFrm; refine wpList_append_own_at _ rfl (.tmp 5) (.tmp 6) _ rfl w.heap.size 62 i0 _ 5 56 Tryz.underlying29 hi0 hz0 hz1 hz2 rfl (by omega) _ 0 [] rfl (World.ownsRow_lit w #[] 0 (Nat.le_refl _) (by simp [maxLen]) (by simp)) ⟨b, o, f⟩ n c cs rfl HS.out.1 (CSl.news (HS.out.mono xt)) H1.out (by simp only [maxLen]; omega) (by omega) (by simp) ?_; clear hi0 hz0 hz1 hz2; intro v' w' hown hgr hnil hat; have HO := Lib.hid hown; have HG := Lib.hid hgr; clear hown hgr hnil hat)
    go_ret
    exact ⟨_, rfl, by simpa using HO.out, ((Below.refl _ w).alloc (Nat.le_refl _) _).grown HG.out (by simp) (fun k e => by cases e; exact Nat.le_refl _)⟩
theorem infoBlk : (Tryz.prog.info? 55).map (fun i => (i.zero, i.size, i.bytes)) = some (some (.agg #[.int .i64 0, .int .i64 0, .int .i64 0, .int .i64 0, .slice none 0 0]), 5, 56) := by kernel_rfl
set_option maxHeartbeats 1000000 in
theorem cloneBlk (A : Option Addr) (n c : Nat) (cs : List Value) (w : World) (hA : A = none → n = 0) (hs : CSl w A n 5 cs) (h1 : ∀ u ∈ cs, u.oneCell' = true) (hn : n ≤ 1000) :
    Calls Tryz.prog 33 #[.slice A n c] w fun e w' => ∃ v, e = .returned v ∧ w'.ownsRow w.heap.size 55 5 v n cs ∧ Ext w w' := by
  have HS := Lib.hid hs
  have H1 := Lib.hid h1
  clear hs h1
  rcases A with _ | ⟨b, o, f⟩
  · obtain rfl := hA rfl
    clear hA hn
    have he : ∀ w : World, (binOp .eql 30 (.slice none 0 c) (.slice none 0 0)).run Tryz.prog w = .ok (.bool true) w := fun w => Lib.run_eql_slice_nil w 30 55 none 0 c 0 0 Tryz.underlying30
    go_enter Tryz.func33, Tryz.ntmps33
    go_wp2
    go_ret
    have : cs = [] := List.eq_nil_of_length_eq_zero (by simpa using HS.out.1)
    subst this
    exact ⟨_, rfl, World.ownsRow_nil _ _ _ _, xt⟩
  · clear hA
    have he : ∀ w : World, (binOp .eql 30 (.slice (some ⟨b, o, f⟩) n c) (.slice none 0 0)).run Tryz.prog w = .ok (.bool false) w := fun w => Lib.run_eql_slice_nil w 30 55 (some ⟨b, o, f⟩) n c 0 0 Tryz.underlying30
    go_enter Tryz.func33, Tryz.ntmps33
    go_wp2_with (at_builtin; obtain ⟨i0, hi0, hz0, hz1, hz2⟩ := info_parts infoBlk; refine wpList_append_own_at _ rfl (.tmp 5) (.tmp 6) _ rfl w.heap.size 55 i0 _ 5 56 Tryz.underlying30 hi0 hz0 hz1 hz2 rfl (by omega) _ 0 [] rfl (World.ownsRow_lit w #[] 0 (Nat.le_refl _) (by simp [maxLen]) (by simp)) ⟨b, o, f⟩ n c cs rfl HS.out.1 (CSl.news (HS.out.mono xt)) H1.out (by simp only [maxLen]; omega) (by omega) (by simp) ?_; clear hi0 hz0 hz1 hz2; intro v' w' hown hgr hnil hat; have HO := Lib.hid hown; have HG := Lib.hid hgr; clear hown hgr hnil hat)
    go_ret
    exact ⟨_, rfl, by simpa using HO.out, ((Below.refl _ w).alloc (Nat.le_refl _) _).grown HG.out (by simp) (fun k e => by cases e; exact Nat.le_refl _)⟩
theorem infoHdl : (Tryz.prog.info? 58).map (fun i => (i.zero, i.size, i.bytes)) = some (some (.agg #[.int .i64 0, .slice none 0 0]), 2, 32) := by kernel_rfl
set_option maxHeartbeats 1000000 in
theorem cloneHdl (A : Option Addr) (n c : Nat) (cs : List Value) (w : World) (hA : A = none → n = 0) (hs : CSl w A n 2 cs) (h1 : ∀ u ∈ cs, u.oneCell' = true) (hn : n ≤ 1000) :
    Calls Tryz.prog 30 #[.slice A n c] w fun e w' => ∃ v, e = .returned v ∧ w'.ownsRow w.heap.size 58 2 v n cs ∧ Ext w w' := by
  have HS := Lib.hid hs
  have H1 := Lib.hid h1
  clear hs h1
  rcases A with _ | ⟨b, o, f⟩
  · obtain rfl := hA rfl
    clear hA hn
    have he : ∀ w : World, (binOp .eql 53 (.slice none 0 c) (.slice none 0 0)).run Tryz.prog w = .ok (.bool true) w := fun w => Lib.run_eql_slice_nil w 53 58 none 0 c 0 0 Tryz.underlying53
    go_enter Tryz.func30, Tryz.ntmps30
    go_wp2
    go_ret
    have : cs = [] := List.eq_nil_of_length_eq_zero (by simpa using HS.out.1)
    subst this
    exact ⟨_, rfl, World.ownsRow_nil _ _ _ _, xt⟩
  · clear hA
    have he : ∀ w : World, (binOp .eql 53 (.slice (some ⟨b, o, f⟩) n c) (.slice none 0 0)).run Tryz.prog w = .ok (.bool false) w := fun w => Lib.run_eql_slice_nil w 53 58 (some ⟨b, o, f⟩) n c 0 0 Tryz.underlying53
    go_enter Tryz.func30, Tryz.ntmps30
    go_wp2_with (at_builtin; obtain ⟨i0, hi0, hz0, hz1, hz2⟩ := info_parts infoHdl; refine wpList_append_own_at _ rfl (.tmp 5) (.tmp 6) _ rfl w.heap.size 58 i0 _ 2 32 Tryz.underlying53 hi0 hz0 hz1 hz2 rfl (by omega) _ 0 [] rfl (World.ownsRow_lit w #[] 0 (Nat.le_refl _) (by simp [maxLen]) (by simp)) ⟨b, o, f⟩ n c cs rfl HS.out.1 (CSl.news (HS.out.mono xt)) H1.out (by simp only [maxLen]; omega) (by omega) (by simp) ?_; clear hi0 hz0 hz1 hz2; intro v' w' hown hgr hnil hat; have HO := Lib.hid hown; have HG := Lib.hid hgr; clear hown hgr hnil hat)
    go_ret
    exact ⟨_, rfl, by simpa using HO.out, ((Below.refl _ w).alloc (Nat.le_refl _) _).grown HG.out (by simp) (fun k e => by cases e; exact Nat.le_refl _)⟩
theorem infoIns : (Tryz.prog.info? 37).map (fun i => (i.zero, i.size, i.bytes)) = some (some (.agg #[.int .i64 0, .int .i64 0, .int .i64 0, .int .i64 0, .slice none 0 0]), 5, 56) := by kernel_rfl
set_option maxHeartbeats 1000000 in
theorem cloneIns (A : Option Addr) (n c : Nat) (cs : List Value) (w : World) (hA : A = none → n = 0) (hs : CSl w A n 5 cs) (h1 : ∀ u ∈ cs, u.oneCell' = true) (hn : n ≤ 1000) :
    Calls Tryz.prog 43 #[.slice A n c] w fun e w' => ∃ v, e = .returned v ∧ w'.ownsRow w.heap.size 37 5 v n cs ∧ Ext w w' := by
  have HS := Lib.hid hs
  have H1 := Lib.hid h1
  clear hs h1
  rcases A with _ | ⟨b, o, f⟩
  · obtain rfl := hA rfl
    clear hA hn
    have he : ∀ w : World, (binOp .eql 74 (.slice none 0 c) (.slice none 0 0)).run Tryz.prog w = .ok (.bool true) w := fun w => Lib.run_eql_slice_nil w 74 37 none 0 c 0 0 Tryz.underlying74
    go_enter Tryz.func43, Tryz.ntmps43
    go_wp2
    go_ret
    have : cs = [] := List.eq_nil_of_length_eq_zero (by simpa using HS.out.1)
    subst this
    exact ⟨_, rfl, World.ownsRow_nil _ _ _ _, xt⟩
  · clear hA
    have he : ∀ w : World, (binOp .eql 74 (.slice (some ⟨b, o, f⟩) n c) (.slice none 0 0)).run Tryz.prog w = .ok (.bool false) w := fun w => Lib.run_eql_slice_nil w 74 37 (some ⟨b, o, f⟩) n c 0 0 Tryz.underlying74
    go_enter Tryz.func43, Tryz.ntmps43
    go_wp2_with (at_builtin; obtain ⟨i0, hi0, hz0, hz1, hz2⟩ := info_parts infoIns; refine wpList_append_own_at _ rfl (.tmp 5) (.tmp 6) _ rfl w.heap.size 37 i0 _ 5 56 Tryz.underlying74 hi0 hz0 hz1 hz2 rfl (by omega) _ 0 [] rfl (World.ownsRow_lit w #[] 0 (Nat.le_refl _) (by simp [maxLen]) (by simp)) ⟨b, o, f⟩ n c cs rfl HS.out.1 (CSl.news (HS.out.mono xt)) H1.out (by simp only [maxLen]; omega) (by omega) (by simp) ?_; clear hi0 hz0 hz1 hz2; intro v' w' hown hgr hnil hat; have HO := Lib.hid hown; have HG := Lib.hid hgr; clear hown hgr hnil hat)
    go_ret
    exact ⟨_, rfl, by simpa using HO.out, ((Below.refl _ w).alloc (Nat.le_refl _) _).grown HG.out (by simp) (fun k e => by cases e; exact Nat.le_refl _)⟩
end Go.Proofs.YtcjjoabofecjmaaGreat
