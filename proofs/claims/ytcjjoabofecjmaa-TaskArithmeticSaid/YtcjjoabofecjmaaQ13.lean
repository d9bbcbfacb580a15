/- A part of the proof: What Advance of chapter 28 does, in plain logic; The memory . -/
import Derived.Test.YtcjjoabofecjmaaQ12
set_option linter.unusedVariables false
set_option linter.unusedSimpArgs false
set_option maxHeartbeats 16000000
namespace Go.Proofs.Ytcjjoabofecjmaa
open Go.RowKit
open Go.Value (int)
structure Stp where
 kind : Int
 reason : Int
 value : Int
 deriving DecidableEq,Inhabited
def goOn : Stp := ⟨0,0,0⟩
def failT (t : Tsk) (r : Int) : Tsk × Stp := (t,⟨3,r,0⟩)
def topF (t : Tsk) : Option Frm := t.frames[t.frames.length - 1]?
def setTop (t : Tsk) (f : Frm) : Tsk := { t with frames := t.frames.set (t.frames.length - 1) f }
def regS (f : Frm) (i : Int) : Int := f.regs.getD i.toNat 0
def writeS (t : Tsk) (f : Frm) (i v : Int) : Tsk × Stp :=
 if numB v = true then (setTop t { f with regs := f.regs.set i.toNat v,pc := f.pc + 1 },goOn) else failT t 5
def jumpS (t : Tsk) (f : Frm) (pc : Int) : Tsk × Stp := (setTop t { f with pc := pc },goOn)
def lastB (t : Tsk) : Option Blk := t.blocks[t.blocks.length - 1]?
def giveS (t : Tsk) (f : Frm) (v : Int) : Tsk × Stp :=
 if f.cleanup = true then ({ t with frames := t.frames.take (t.frames.length - 1),mask := wr64 (t.mask - 1) },⟨4,0,0⟩)
 else if t.frames.length = 1 then (t,⟨2,0,v⟩)
 else match lastB t,t.frames[t.frames.length - 2]? with
  | some b,some h => if b.depth = (t.frames.length : Int) then failT t 8
   else ({ t with frames := (t.frames.take (t.frames.length - 1)).set (t.frames.length - 2) { h with regs := h.regs.set f.result.toNat v } },goOn)
  | _,_ => failT t 8
def argsOf (f : Frm) (l : List Int) : List Int := l.map (regS f)
def callS (p : Prg) (t : Tsk) (f : Frm) (x : Ins) : Tsk × Stp :=
 if 8 ≤ plainN t then failT t 7
 else match fnAt p x.b with
  | none => failT t 8
  | some g => ({ t with frames := t.frames.set (t.frames.length - 1) { f with pc := f.pc + 1 } ++ [⟨x.b,0,regsOf g.regs.toNat (argsOf f x.args),x.a,false⟩] },goOn)
def deferS (t : Tsk) (f : Frm) (x : Ins) : Tsk × Stp := match lastB t with
 | none => failT t 8
 | some b => if 8 ≤ b.handlers.length then failT t 7
  else ({ t with frames := t.frames.set (t.frames.length - 1) { f with pc := f.pc + 1 },blocks := t.blocks.set (t.blocks.length - 1) { b with handlers := b.handlers ++ [⟨x.b,argsOf f x.args⟩] } },goOn)
def maskS (t : Tsk) (f : Frm) : Tsk × Stp :=
 if 100 ≤ t.mask then failT t 7 else ({ setTop t { f with pc := f.pc + 1 } with mask := t.mask + 1 },goOn)
def unmaskS (t : Tsk) (f : Frm) : Tsk × Stp := match lastB t with
 | none => failT t 8
 | some b => if t.mask = 0 ∨ t.mask = b.mask then failT t 8 else ({ setTop t { f with pc := f.pc + 1 } with mask := t.mask - 1 },goOn)
def bitS (b : Bool) : Int := if b = true then 1 else 0
def binS (op a b : Int) : Int :=
 if op = 3 then a + b else if op = 4 then a - b else if op = 5 then a * b else if op = 6 then a.tdiv b else if op = 7 then a.tmod b
 else if op = 8 then bitS (a == b) else if op = 9 then bitS (decide (a < b)) else if op = 10 then bitS (a != 0 && b != 0) else bitS (a != 0 || b != 0)
def execS (p : Prg) (t : Tsk) (f : Frm) (x : Ins) : Tsk × Stp :=
 if x.op = 1 then writeS t f x.a x.b
 else if x.op = 2 then writeS t f x.a (regS f x.b)
 else if x.op = 12 then writeS t f x.a (bitS (regS f x.b == 0))
 else if 3 ≤ x.op ∧ x.op ≤ 11 then (if (x.op = 6 ∨ x.op = 7) ∧ regS f x.c = 0 then failT t 6 else writeS t f x.a (binS x.op (regS f x.b) (regS f x.c)))
 else if x.op = 13 then jumpS t f x.a
 else if x.op = 14 then jumpS t f (if regS f x.a = 0 then x.b else f.pc + 1)
 else if x.op = 15 then callS p t f x
 else if x.op = 16 then giveS t f (regS f x.a)
 else if x.op = 17 then deferS t f x
 else if x.op = 18 then maskS t f
 else if x.op = 19 then unmaskS t f
 else if x.op = 20 then (if regS f x.a = 0 then failT t 4 else jumpS t f (f.pc + 1))
 else if regS f x.a < 0 ∨ 899 < regS f x.a then failT t 8 else failT t (100 + regS f x.a)
def visS (op : Int) : Bool := (shapeS op).isSome && decide (30 ≤ op)
def runS (p : Prg) : Nat → Tsk → Nat → Tsk × Stp
 | 0,t,_ => (t,goOn)
 | k + 1,t,n => match topF t with
  | none => (t,goOn)
  | some f => match fnAt p f.fn with
   | none => (t,goOn)
   | some g => match g.code[f.pc.toNat]? with
    | none => if (giveS t f 0).2.kind = 0 then runS p k (giveS t f 0).1 n else giveS t f 0
    | some x => if visS x.op = true then (t,⟨1,0,0⟩)
     else if n = 200 then failT t 7
     else if (execS p t f x).2.kind = 0 then runS p k (execS p t f x).1 (n + 1) else execS p t f x
def advanceS (p : Prg) (t : Tsk) : Tsk × Stp × Int :=
 if tcheckS p t ≠ 0 then (zeroTsk,goOn,1)
 else if t.status ≠ 1 then (zeroTsk,goOn,17)
 else if t.unw = true ∧ inHand t = false then (t,⟨5,0,0⟩,0)
 else ((runS p 500 t 0).1,(runS p 500 t 0).2,0)
def boxV (R : Nat) : Value := .slice (some ⟨R,0,none⟩) 1 1
structure RunSt (X : List Value) (B R : Nat) (P3 : List Value) (w : World) (t : Tsk) (n : Int) (VF VB : Value) (rs hs : List Value) (gs : List (List Value)) : Prop where
 three : P3.length = 3
 box : w.ownsRow B 71 18 (boxV R) 1 (P3 ++ (tskL t VF VB ++ [int .i64 n]))
 fr : OFr B w t.frames VF rs
 bl : OBl B w t.blocks VB hs gs (boxV R :: VF :: VB :: (rs ++ (hs ++ X)))
 lt1 : ∀ r ∈ X,∀ x,r.ownBlock = some x → x < w.heap.size
theorem RunSt.mono {X : List Value} {B R : Nat} {P3 : List Value} {w W : World} {t : Tsk} {n : Int} {VF VB : Value} {rs hs : List Value} {gs : List (List Value)} (h : RunSt X B R P3 w t n VF VB rs hs gs) (hE : Ext w W) : RunSt X B R P3 W t n VF VB rs hs gs :=
 ⟨h.three,ownsRow_ext h.box hE,h.fr.mono hE,h.bl.mono hE,fun r hr x hx => Nat.lt_of_lt_of_le (h.lt1 r hr x hx) hE.size⟩
theorem RunSt.cellP {X : List Value} {B R : Nat} {P3 : List Value} {w : World} {t : Tsk} {n : Int} {VF VB : Value} {rs hs : List Value} {gs : List (List Value)} (h : RunSt X B R P3 w t n VF VB rs hs gs) {j : Nat} {v : Value} (hj : P3[j]? = some v) : w.cell? ⟨R,j,none⟩ = some v := by
 have hl := (List.getElem?_eq_some_iff.1 hj).1
 have h3 := h.three
 have := World.ownsRow.cellAt (g := R) (n := 1) (cap := 1) h.box j (by omega)
 rw [this,List.getElem?_append_left hl,hj]
theorem RunSt.cellT {X : List Value} {B R : Nat} {P3 : List Value} {w : World} {t : Tsk} {n : Int} {VF VB : Value} {rs hs : List Value} {gs : List (List Value)} (h : RunSt X B R P3 w t n VF VB rs hs gs) {j : Nat} {v : Value} (hj : (tskL t VF VB)[j]? = some v) : w.cell? ⟨R,3 + j,none⟩ = some v := by
 have hl := (List.getElem?_eq_some_iff.1 hj).1
 have h3 := h.three
 have hT : (tskL t VF VB).length = 14 := rfl
 have := World.ownsRow.cellAt (g := R) (n := 1) (cap := 1) h.box (3 + j) (by omega)
 rw [this,List.getElem?_append_right (by omega),h3,Nat.add_sub_cancel_left,List.getElem?_append_left hl,hj]
theorem RunSt.task {X : List Value} {B R : Nat} {P3 : List Value} {w : World} {t : Tsk} {n : Int} {VF VB : Value} {rs hs : List Value} {gs : List (List Value)} (h : RunSt X B R P3 w t n VF VB rs hs gs) : w.rangeAt R 3 (tskL t VF VB) := fun _ _ hj => h.cellT hj
theorem RunSt.cellN {X : List Value} {B R : Nat} {P3 : List Value} {w : World} {t : Tsk} {n : Int} {VF VB : Value} {rs hs : List Value} {gs : List (List Value)} (h : RunSt X B R P3 w t n VF VB rs hs gs) : w.cell? ⟨R,17,none⟩ = some (int .i64 n) := by
 have h3 := h.three
 have hT : (tskL t VF VB).length = 14 := rfl
 have := World.ownsRow.cellAt (g := R) (n := 1) (cap := 1) h.box 17 (by omega)
 rw [this,List.getElem?_append_right (by omega),h3,List.getElem?_append_right (by omega),hT];rfl
theorem RunSt.frozen {X : List Value} {B R : Nat} {P3 : List Value} {w : World} {t : Tsk} {n : Int} {VF VB : Value} {rs hs : List Value} {gs : List (List Value)} (h : RunSt X B R P3 w t n VF VB rs hs gs) (j : Nat) : w.frozen? ⟨R,j,none⟩ = false :=
 World.ownsRow.frozenAt (g := R) (n := 1) (cap := 1) h.box j
theorem RunSt.lt {X : List Value} {B R : Nat} {P3 : List Value} {w : World} {t : Tsk} {n : Int} {VF VB : Value} {rs hs : List Value} {gs : List (List Value)} (h : RunSt X B R P3 w t n VF VB rs hs gs) : B ≤ R ∧ R < w.heap.size := h.box.lt R rfl
theorem apart_ne {v u : Value} {g : Nat} (h : Apart v u) (hg : u.ownBlock = some g) : v.ownBlock = none ∨ v.ownBlock ≠ some g := by
 rcases h with h | h
 ·exact .inl h
 ·exact .inr (by rw [← hg];exact h)
theorem RunSt.hs_row {X : List Value} {B R : Nat} {P3 : List Value} {w : World} {t : Tsk} {n : Int} {VF VB : Value} {rs hs : List Value} {gs : List (List Value)} (h : RunSt X B R P3 w t n VF VB rs hs gs) {v : Value} (hv : v ∈ hs) : ∃ m xs,w.ownsRow B 83 2 v m xs := by
 obtain ⟨i,hi,rfl⟩ := List.getElem_of_mem hv
 exact ⟨_,_,(h.bl.hnd i _ _ _ (List.getElem?_eq_getElem (show i < t.blocks.length by rw [← h.bl.len];exact hi)) (List.getElem?_eq_getElem hi) (List.getElem?_eq_getElem (show i < gs.length by rw [h.bl.alen,← h.bl.len];exact hi))).2⟩
theorem RunSt.rs_row {X : List Value} {B R : Nat} {P3 : List Value} {w : World} {t : Tsk} {n : Int} {VF VB : Value} {rs hs : List Value} {gs : List (List Value)} (h : RunSt X B R P3 w t n VF VB rs hs gs) {v : Value} (hv : v ∈ rs) : ∃ m xs,w.ownsRow B 3 1 v m xs := by
 obtain ⟨i,hi,rfl⟩ := List.getElem_of_mem hv
 exact ⟨_,_,h.fr.reg i _ _ (List.getElem?_eq_getElem (show i < t.frames.length by rw [← h.fr.len];exact hi)) (List.getElem?_eq_getElem hi)⟩
theorem RunSt.set_reg {X : List Value} {B R : Nat} {P3 : List Value} {w : World} {t : Tsk} {n : Int} {VF VB : Value} {rs hs : List Value} {gs : List (List Value)} (h : RunSt X B R P3 w t n VF VB rs hs gs) {i k : Nat} {f : Frm} {v : Value} (hf : t.frames[i]? = some f) (hv : rs[i]? = some v) (hk : k < f.regs.length) :
  ∃ g c,v = .slice (some ⟨g,0,none⟩) f.regs.length c ∧ B ≤ g ∧ w.frozen? ⟨g,k,none⟩ = false ∧ (∃ u,w.cell? ⟨g,k,none⟩ = some u) ∧
   ∀ x : Int,InR x → RunSt X B R P3 (w.setCell ⟨g,k,none⟩ (int .i64 x)) { t with frames := t.frames.set i { f with regs := f.regs.set k x } } n VF VB rs hs gs := by
 obtain ⟨g,c,rfl,hB,h1,h2,h3⟩ := h.fr.set_reg hf hv hk
 refine ⟨g,c,rfl,hB,h1,h2,fun x hx => ?_⟩
 obtain ⟨h4,h5⟩ := h3 x hx
 have hr := h.fr.reg i f _ hf hv
 exact ⟨h.three,h.box.kept h5 (apart_ne (apart_types h.box hr (by decide)) rfl),h4,
  h.bl.wrote h5 (apart_ne (apart_types h.bl.row hr (by decide)) rfl) (fun u hu => by obtain ⟨m,xs,hh⟩ := h.hs_row hu;exact apart_ne (apart_types hh hr (by decide)) rfl)
   (List.mem_cons_of_mem _ (List.mem_cons_of_mem _ (List.mem_cons_of_mem _ (List.mem_append_left _ (List.mem_of_getElem? hv))))) rfl,by rw [World.size_setCell];exact h.lt1⟩
theorem RunSt.set_pc {X : List Value} {B R : Nat} {P3 : List Value} {w : World} {t : Tsk} {n : Int} {VF VB : Value} {rs hs : List Value} {gs : List (List Value)} (h : RunSt X B R P3 w t n VF VB rs hs gs) {i : Nat} {f : Frm} (hf : t.frames[i]? = some f) :
  ∃ g c,VF = .slice (some ⟨g,0,none⟩) t.frames.length c ∧ B ≤ g ∧ w.frozen? ⟨g,i * 5 + 1,none⟩ = false ∧ w.cell? ⟨g,i * 5 + 1,none⟩ = some (int .i64 f.pc) ∧
   ∀ x : Int,InR x → RunSt X B R P3 (w.setCell ⟨g,i * 5 + 1,none⟩ (int .i64 x)) { t with frames := t.frames.set i { f with pc := x } } n VF VB rs hs gs := by
 obtain ⟨g,c,rfl,hB,h1,h2,h3⟩ := h.fr.set_pc hf
 refine ⟨g,c,rfl,hB,h1,h2,fun x hx => ?_⟩
 obtain ⟨h4,h5⟩ := h3 x hx
 have hr := h.fr.row
 exact ⟨h.three,h.box.kept h5 (apart_ne (apart_types h.box hr (by decide)) rfl),h4,
  h.bl.wrote h5 (apart_ne (apart_types h.bl.row hr (by decide)) rfl) (fun u hu => by obtain ⟨m,xs,hh⟩ := h.hs_row hu;exact apart_ne (apart_types hh hr (by decide)) rfl)
   (List.mem_cons_of_mem _ List.mem_cons_self) rfl,by rw [World.size_setCell];exact h.lt1⟩
theorem RunSt.set_box {X : List Value} {B R : Nat} {P3 : List Value} {w : World} {t t' : Tsk} {n n' : Int} {VF VB : Value} {rs hs : List Value} {gs : List (List Value)} (h : RunSt X B R P3 w t n VF VB rs hs gs) (j : Nat) (v : Value)
  (hc : (P3 ++ (tskL t VF VB ++ [int .i64 n])).set j v = P3 ++ (tskL t' VF VB ++ [int .i64 n'])) (hf : t'.frames = t.frames) (hb : t'.blocks = t.blocks) :
  RunSt X B R P3 (w.setCell ⟨R,j,none⟩ v) t' n' VF VB rs hs gs := by
 obtain ⟨h4,h5⟩ := World.ownsRow.stored (g := R) (n := 1) (cap := 1) h.box j v
 rw [hc] at h4
 refine ⟨h.three,h4, ?_, ?_,by rw [World.size_setCell];exact h.lt1⟩
 ·rw [hf]
  exact h.fr.kept h5 (apart_ne (apart_types h.fr.row h.box (by decide)) rfl) (fun u hu => by obtain ⟨m,xs,hh⟩ := h.rs_row hu;exact apart_ne (apart_types hh h.box (by decide)) rfl)
 ·rw [hb]
  exact h.bl.wrote h5 (apart_ne (apart_types h.bl.row h.box (by decide)) rfl) (fun u hu => by obtain ⟨m,xs,hh⟩ := h.hs_row hu;exact apart_ne (apart_types hh h.box (by decide)) rfl) List.mem_cons_self rfl
theorem set_right {α : Type} (P : List α) (l : List α) (j : Nat) (v : α) : (P ++ l).set (P.length + j) v = P ++ l.set j v := by
 rw [List.set_append_right _ _ (Nat.le_add_right _ _),Nat.add_sub_cancel_left]
theorem RunSt.set_mask {X : List Value} {B R : Nat} {P3 : List Value} {w : World} {t : Tsk} {n : Int} {VF VB : Value} {rs hs : List Value} {gs : List (List Value)} (h : RunSt X B R P3 w t n VF VB rs hs gs) (x : Int) :
  RunSt X B R P3 (w.setCell ⟨R,12,none⟩ (int .i64 x)) { t with mask := x } n VF VB rs hs gs :=
 h.set_box 12 _ (by rw [show 12 = P3.length + 9 by rw [h.three],set_right];rfl) rfl rfl
theorem RunSt.set_n {X : List Value} {B R : Nat} {P3 : List Value} {w : World} {t : Tsk} {n : Int} {VF VB : Value} {rs hs : List Value} {gs : List (List Value)} (h : RunSt X B R P3 w t n VF VB rs hs gs) (x : Int) :
  RunSt X B R P3 (w.setCell ⟨R,17,none⟩ (int .i64 x)) t x VF VB rs hs gs :=
 h.set_box 17 _ (by rw [show 17 = P3.length + 14 by rw [h.three],set_right];rfl) rfl rfl
def hotO : Obj → Bool
 | .cells _ e _ => e == 3 || e == 57 || e == 65 || e == 83 || e == 71
 | _ => false
def Hot (w : World) (g : Nat) : Prop := ∀ o,w.heap[g]? = some o → hotO o = true
theorem setCell_hot (w : World) (p : Addr) (v : Value) (g : Nat) : (w.setCell p v).heap[g]?.map hotO = w.heap[g]?.map hotO := by
 by_cases hg : g = p.block
 ·subst hg
  simp only [World.setCell,Array.getElem?_modify,if_true]
  cases w.heap[p.block]? with
  | none => rfl
  | some o => cases o <;> rfl
 ·rw [Below.heap_setCell _ _ _ _ hg]
theorem Hot.setCell {w : World} {g : Nat} (h : Hot w g) (p : Addr) (v : Value) : Hot (w.setCell p v) g := fun o ho => by
 have h1 := setCell_hot w p v g
 rw [ho] at h1
 cases hx : w.heap[g]? with
 | none => rw [hx] at h1;cases h1
 | some x => rw [hx] at h1;injection h1 with h1;rw [h1];exact h x hx
structure Kept (B : Nat) (w w' : World) : Prop where
 below : Below B w w'
 cold : ∀ (i : Nat) (o : Obj),w.heap[i]? = some o → hotO o = false → w'.heap[i]? = some o
theorem Kept.refl (B : Nat) (w : World) : Kept B w w := ⟨Below.refl _ _,fun _ _ h _ => h⟩
theorem Kept.trans {B : Nat} {a b c : World} (h : Kept B a b) (k : Kept B b c) : Kept B a c := ⟨Below.trans h.below k.below,fun i o h1 h2 => k.cold i o (h.cold i o h1 h2) h2⟩
theorem Kept.mono {B : Nat} {w W : World} (h : Ext w W) (hB : B ≤ w.heap.size) : Kept B w W := ⟨Below.mono h hB,fun i o h1 _ => (h.block i (Array.getElem?_eq_some_iff.1 h1).1).trans h1⟩
theorem Kept.store {B : Nat} {w W : World} (h : Kept B w W) {p : Addr} (hp : B ≤ p.block) (v : Value) (hh : Hot (W.setCell p v) p.block) : Kept B w (W.setCell p v) := by
 refine ⟨Below.setCell h.below hp v,fun i o h1 h2 => ?_⟩
 have h3 := h.cold i o h1 h2
 by_cases hi : i = p.block
 ·have h4 := setCell_hot W p v i
  rw [h3] at h4
  cases hx : (W.setCell p v).heap[i]? with
  | none => rw [hx] at h4;cases h4
  | some x =>
   rw [hx] at h4
   injection h4 with h4
   rw [h2] at h4
   rw [hi] at hx
   rw [hh x hx] at h4
   cases h4
 ·rw [Below.heap_setCell _ _ _ _ hi];exact h3
theorem hot_row {w : World} {B : Nat} {e : TypeId} {sz : Nat} {v : Value} {n : Nat} {xs : List Value} (h : w.ownsRow B e sz v n xs) {g : Nat} (hg : v.ownBlock = some g) (he : hotO (.cells #[] e (0,0)) = true) : Hot w g := fun o ho => by
 obtain ⟨cur,hc⟩ := ownsRow_type h hg
 rw [hc] at ho
 injection ho with ho
 subst ho
 exact he
theorem RunSt.hotR {X : List Value} {B R : Nat} {P3 : List Value} {w : World} {t : Tsk} {n : Int} {VF VB : Value} {rs hs : List Value} {gs : List (List Value)} (h : RunSt X B R P3 w t n VF VB rs hs gs) : Hot w R := hot_row h.box rfl (by decide)
theorem RunSt.hotF {X : List Value} {B R : Nat} {P3 : List Value} {w : World} {t : Tsk} {n : Int} {VF VB : Value} {rs hs : List Value} {gs : List (List Value)} (h : RunSt X B R P3 w t n VF VB rs hs gs) {g : Nat} (hg : VF.ownBlock = some g) : Hot w g := hot_row h.fr.row hg (by decide)
theorem RunSt.hotB {X : List Value} {B R : Nat} {P3 : List Value} {w : World} {t : Tsk} {n : Int} {VF VB : Value} {rs hs : List Value} {gs : List (List Value)} (h : RunSt X B R P3 w t n VF VB rs hs gs) {g : Nat} (hg : VB.ownBlock = some g) : Hot w g := hot_row h.bl.row hg (by decide)
theorem RunSt.hotG {X : List Value} {B R : Nat} {P3 : List Value} {w : World} {t : Tsk} {n : Int} {VF VB v : Value} {rs hs : List Value} {gs : List (List Value)} (h : RunSt X B R P3 w t n VF VB rs hs gs) {i : Nat} (hv : rs[i]? = some v) {g : Nat} (hg : v.ownBlock = some g) : Hot w g := by
 obtain ⟨m,xs,hh⟩ := h.rs_row (List.mem_of_getElem? hv)
 exact hot_row hh hg (by decide)
theorem Kept.grown {B : Nat} {a w w' : World} {row : Option Nat} (h : Kept B a w) (hg : w.grownBy w' row) (hB : B ≤ w.heap.size) (hr : ∀ k,row = some k → B ≤ k ∧ Hot w k) : Kept B a w' := by
 refine ⟨Below.grown h.below hg hB fun k e => (hr k e).1,fun i o h1 h2 => ?_⟩
 have h3 := h.cold i o h1 h2
 have hi : i < w.heap.size := (Array.getElem?_eq_some_iff.1 h3).1
 rw [hg.block i hi (fun e => by have := (hr i e.symm).2 o h3;rw [h2] at this;cases this)]
 exact h3
def Cold (w : World) (g : Nat) : Prop := ∃ o,w.heap[g]? = some o ∧ hotO o = false
theorem Cold.keep {B : Nat} {w W : World} {g : Nat} (h : Cold w g) (k : Kept B w W) : Cold W g ∧ W.heap[g]? = w.heap[g]? := by
 obtain ⟨o,h1,h2⟩ := h
 have h3 := k.cold g o h1 h2
 exact ⟨⟨o,h3,h2⟩,h3.trans h1.symm⟩
theorem Cold.ext {w W : World} {g : Nat} (h : Cold w g) (k : Ext w W) : Cold W g := (h.keep (Kept.mono k (Nat.zero_le _))).1
theorem Cold.cell {B : Nat} {w W : World} {g : Nat} (h : Cold w g) (k : Kept B w W) (o : Nat) : W.cell? ⟨g,o,none⟩ = w.cell? ⟨g,o,none⟩ := World.cell?_of_block (h.keep k).2
theorem Cold.alloc {w : World} {o : Obj} (h : hotO o = false) : Cold (w.alloc o) w.heap.size := ⟨o,heap_alloc_new w o,h⟩
theorem Cold.setCell {w : World} {g : Nat} (h : Cold w g) (p : Addr) (v : Value) : Cold (w.setCell p v) g := by
 obtain ⟨o,h1,h2⟩ := h
 have h3 := setCell_hot w p v g
 rw [h1] at h3
 cases hx : (w.setCell p v).heap[g]? with
 | none => rw [hx] at h3;cases h3
 | some x => rw [hx] at h3;injection h3 with h3;exact ⟨x,hx,h3.trans h2⟩
theorem RunSt.top {X : List Value} {B R : Nat} {P3 : List Value} {w : World} {t : Tsk} {n : Int} {VF VB : Value} {rs hs : List Value} {gs : List (List Value)} (h : RunSt X B R P3 w t n VF VB rs hs gs) {f : Frm} (hf : topF t = some f) :
  ∃ gF cF v,VF = .slice (some ⟨gF,0,none⟩) t.frames.length cF ∧ rs[t.frames.length - 1]? = some v ∧ 0 < t.frames.length ∧ gF < w.heap.size ∧ (∃ A c,v = .slice A f.regs.length c ∧ f.regs.length ≤ c) ∧
   w.cell? ⟨gF,(t.frames.length - 1) * 5,none⟩ = some (int .i64 f.fn) ∧ w.cell? ⟨gF,(t.frames.length - 1) * 5 + 1,none⟩ = some (int .i64 f.pc) ∧ w.cell? ⟨gF,(t.frames.length - 1) * 5 + 2,none⟩ = some v ∧
   w.cell? ⟨gF,(t.frames.length - 1) * 5 + 3,none⟩ = some (int .i64 f.result) ∧ w.cell? ⟨gF,(t.frames.length - 1) * 5 + 4,none⟩ = some (.bool f.cleanup) := by
 unfold topF at hf
 have hl := (List.getElem?_eq_some_iff.1 hf).1
 obtain ⟨v,hv⟩ : ∃ v,rs[t.frames.length - 1]? = some v := ⟨_,List.getElem?_eq_getElem (by rw [h.fr.len];exact hl)⟩
 obtain ⟨gF,cF,rfl,_⟩ := own_form h.fr.row (by omega)
 have hcell := fun (j : Nat) (hj : j < 5) => (h.fr.row.cellAt ((t.frames.length - 1) * 5 + j) (by omega)).trans (rowOf_get frmCells_len hf hv hj)
 obtain ⟨A,c,e,hc,_⟩ := ownsRow_shape (h.fr.reg _ f v hf hv)
 exact ⟨gF,cF,v,rfl,hv,by omega,lt_of_cell (hcell 0 (by omega)),⟨A,c,e,hc⟩,hcell 0 (by omega),hcell 1 (by omega),hcell 2 (by omega),hcell 3 (by omega),hcell 4 (by omega)⟩
theorem RunSt.reg_cell {X : List Value} {B R : Nat} {P3 : List Value} {w : World} {t : Tsk} {n : Int} {VF VB v : Value} {rs hs : List Value} {gs : List (List Value)} (h : RunSt X B R P3 w t n VF VB rs hs gs) {f : Frm} {i k : Nat} {x : Int} (hf : t.frames[i]? = some f) (hv : rs[i]? = some v) (hk : f.regs[k]? = some x) :
  ∃ g c,v = .slice (some ⟨g,0,none⟩) f.regs.length c ∧ g < w.heap.size ∧ w.cell? ⟨g,k,none⟩ = some (int .i64 x) := by
 have hl := (List.getElem?_eq_some_iff.1 hk).1
 have hr := h.fr.reg i f v hf hv
 obtain ⟨g,c,rfl,_⟩ := own_form hr (by omega)
 have hc := hr.cellAt k (by omega)
 rw [List.getElem?_map,hk] at hc
 exact ⟨g,c,rfl,lt_of_cell hc,hc⟩
set_option maxRecDepth 4000 in
theorem reg_any {X : List Value} {B R : Nat} {P3 : List Value} {w : World} {t : Tsk} {n : Int} {VF VB : Value} {rs hs : List Value} {gs : List (List Value)} (h : RunSt X B R P3 w t n VF VB rs hs gs) {f : Frm} (hf : topF t = some f) (k : Nat) (x : Int) (hk : f.regs[k]? = some x) (hl : t.frames.length ≤ 1000) (hr : f.regs.length ≤ 1000) :
  Calls Try.prog 56 #[.pointer (some ⟨R,0,none⟩),int .i64 k] w fun e w' => e = .returned (int .i64 x) ∧ Ext w w' := by
 have hlR := h.lt.2
 have R1 := h.task
 obtain ⟨gF,cF,v,rfl,hv,hpos,hgF,_,c0,c1,c2,c3,c4⟩ := h.top hf
 obtain ⟨gr,cr,rfl,hgr,x0⟩ := h.reg_cell hf hv hk
 have hkl := (List.getElem?_eq_some_iff.1 hk).1
 have hkz : (k : Int) < (f.regs.length : Int) := by omega
 unfold tskL at R1
 clear h hf hv hk
 obtain ⟨N,hN⟩ : ∃ N,t.frames.length = N := ⟨_,rfl⟩
 obtain ⟨M,hM⟩ : ∃ M,f.regs.length = M := ⟨_,rfl⟩
 rw [hN] at R1 c0 c1 c2 c3 c4 hpos hl
 rw [hM] at c2 hkz hr
 clear hN hM hkl
 go_enter Try.func56,Try.ntmps56
 go_wp2_with (first | ((first | (with_reducible refine jl 44 ?_) | (with_reducible refine il 44 ?_));refine ldm Try.underlying44 rfl rfl rfl (by exact rg) rfl (by exact infoTsk) ?_;dsimp only [dZ,dS]) | (go_at_call 29;refine (innermost_any _ _ _ _ _ _ _ _ _ _ _ _ _ gF 0 N cF _ hpos (by omega)).mono ?_;rintro e w1 ⟨rfl,hb⟩;obtain ⟨hc,hf,hs,he⟩ := Ext.use (w := w) hb xt;clear hb;(try simp only [sA,sC,sD,sN] at hs)))
 go_ret
 exact ⟨rfl,xt⟩
def failV (r : Int) : List PanicEntry := [{ v := .iface 84 (int .i64 r),recovered := false }]
set_option maxRecDepth 4000 in
theorem set_bad (R : Nat) (i x : Int) (w : World) (hx : numB x = false) :
  Calls Try.prog 54 #[.pointer (some ⟨R,0,none⟩),int .i64 i,int .i64 x] w fun e w' => e = .panicked (failV 5) ∧ Ext w w' := by
 have HO := Lib.hid (fun W => (show Calls Try.prog 14 #[int .i64 x] W fun e w' => e = .returned (.bool true) ∧ W = w' by have := outside_any x W;rw [hx] at this;exact this))
 clear hx
 go_enter Try.func54,Try.ntmps54
 go_wp2_with (go_at_call 14;refine (HO.out _).mono ?_;rintro e w' ⟨rfl,rfl⟩)
 exact ⟨rfl,rfl,xt⟩
theorem top_rows {X : List Value} {B R : Nat} {P3 : List Value} {w : World} {t : Tsk} {n : Int} {VF VB v : Value} {rs hs : List Value} {gs : List (List Value)} (h : RunSt X B R P3 w t n VF VB rs hs gs) {f : Frm} {i : Nat} (hf : t.frames[i]? = some f) (hv : rs[i]? = some v) {g g2 c c2 m m2 : Nat} (h1 : v = .slice (some ⟨g,0,none⟩) m c) (h2 : VF = .slice (some ⟨g2,0,none⟩) m2 c2) : ¬ g = g2 := fun e => by
 have := apart_types (h.fr.reg i f v hf hv) h.fr.row (by decide)
 subst h1 h2 e
 rcases this with h | h
 ·cases h
 ·exact h rfl
set_option maxRecDepth 4000 in
theorem set_ok {X : List Value} {B R : Nat} {P3 : List Value} {w : World} {t : Tsk} {n : Int} {VF VB : Value} {rs hs : List Value} {gs : List (List Value)} (h : RunSt X B R P3 w t n VF VB rs hs gs) {f : Frm} (hf : topF t = some f) (k : Nat) (x : Int) (hk : k < f.regs.length) (hl : t.frames.length ≤ 1000) (hr : f.regs.length ≤ 1000) (hx : numB x = true) (hpc : 0 ≤ f.pc ∧ f.pc ≤ 1000) :
  Calls Try.prog 54 #[.pointer (some ⟨R,0,none⟩),int .i64 k,int .i64 x] w fun e w' => e = .returned (.tuple #[]) ∧ RunSt X B R P3 w' (setTop t { f with regs := f.regs.set k x,pc := f.pc + 1 }) n VF VB rs hs gs ∧ Kept B w w' := by
 have HO := Lib.hid (fun W => (show Calls Try.prog 14 #[int .i64 x] W fun e w' => e = .returned (.bool false) ∧ W = w' by have := outside_any x W;rw [hx] at this;exact this))
 have hlR := h.lt.2
 have HBW : Hid (B ≤ w.heap.size) := by have := h.lt;rw [Hid];omega
 have R1 := h.task
 have HX : Hid (InR x) := by have := inB_iff.1 hx;exact ⟨by omega,by omega⟩
 have HP : Hid (InR (f.pc + 1)) := ⟨by omega,by omega⟩
 have hwr : IntKind.i64.wrap (f.pc + 1) = f.pc + 1 := IntWalk.i64_in _ (by omega)
 obtain ⟨gF,cF,v,rfl,hv,hpos,hgF,_,c0,c1,c2,c3,c4⟩ := h.top hf
 obtain ⟨y,hy⟩ : ∃ y,f.regs[k]? = some y := ⟨_,List.getElem?_eq_getElem hk⟩
 obtain ⟨gr,cr,rfl,hgr,x0⟩ := h.reg_cell hf hv hy
 have hne := top_rows h hf hv rfl rfl
 have hne2 : ¬ gF = gr := fun e => hne e.symm
 have hkz : (k : Int) < (f.regs.length : Int) := by omega
 obtain ⟨g1,c1',e1,hB1,z1,_,_⟩ := h.set_reg hf hv hk
 cases e1
 obtain ⟨g2,c2',e2,hB2,z2,_,_⟩ := h.set_pc hf
 cases e2
 have H := Lib.hid h
 have HF := Lib.hid hf
 have HV := Lib.hid hv
 unfold tskL at R1
 clear h hf hv hy hx hpc
 obtain ⟨N,hN⟩ : ∃ N,t.frames.length = N := ⟨_,rfl⟩
 obtain ⟨M,hM⟩ : ∃ M,f.regs.length = M := ⟨_,rfl⟩
 have HN := Lib.hid hN
 have HM := Lib.hid hM
 rw [hN] at R1 c0 c1 c2 c3 c4 hpos hl z2
 rw [hM] at c2 hkz hr hk
 clear hN hM
 go_enter Try.func54,Try.ntmps54
 go_wp2_with (first | ((first | (with_reducible refine jl 44 ?_) | (with_reducible refine il 44 ?_));refine ldm Try.underlying44 rfl rfl rfl (by exact rg) rfl (by exact infoTsk) ?_;dsimp only [dZ,dS]) | (go_at_call 14;refine (HO.out _).mono ?_;rintro e w' ⟨rfl,rfl⟩) | (go_at_call 29;refine (innermost_any _ _ _ _ _ _ _ _ _ _ _ _ _ gF 0 N cF _ hpos (by omega)).mono ?_;rintro e w1 ⟨rfl,hb⟩;obtain ⟨hc,hf,hs,he⟩ := Ext.use (w := w) hb xt;clear hb;(try simp only [sA,sC,sD,sN] at hs)))
 go_end0
 have h1 := H.out.mono (show Ext w w1 from he)
 obtain ⟨g3,c3',e3,_,_,_,h2⟩ := h1.set_reg HF.out HV.out (by rw [HM.out];exact hk)
 cases e3
 have h3 := h2 x HX.out
 obtain ⟨g4,c4',e4,_,_,_,h4⟩ := h3.set_pc (i := t.frames.length - 1) (f := { f with regs := f.regs.set k x }) (by
  show (t.frames.set (t.frames.length - 1) _)[t.frames.length - 1]? = _
  rw [List.getElem?_set_self (by have := HN.out;omega)])
 injection e4 with q1 q2 q3
 injection q1 with q1
 injection q1 with q1
 subst q1
 have h5 := h4 (f.pc + 1) HP.out
 have ht : ({ ({ t with frames := t.frames.set (t.frames.length - 1) { f with regs := f.regs.set k x } } : Tsk) with frames := (t.frames.set (t.frames.length - 1) { f with regs := f.regs.set k x }).set (t.frames.length - 1) { f with regs := f.regs.set k x,pc := f.pc + 1 } } : Tsk) = setTop t { f with regs := f.regs.set k x,pc := f.pc + 1 } := by
  unfold setTop;rw [List.set_set]
 rw [← ht,← HN.out]
 exact ⟨rfl,h5,Kept.store (Kept.store (Kept.mono he HBW.out) hB1 _ (h3.hotG HV.out rfl)) hB2 _ (h5.hotF rfl)⟩
def stopV (s : Stp) : List PanicEntry := [{ v := .iface 86 (.agg #[int .i64 s.kind,int .i64 s.reason,int .i64 s.value]),recovered := false }]
def endOf (s : Stp) : Ending := if s.kind = 0 then .returned (.tuple #[]) else if s.kind = 3 then .panicked (failV s.reason) else .panicked (stopV s)
def OpPost (X : List Value) (B R : Nat) (P3 : List Value) (w : World) (r : Tsk × Stp) (n : Int) (e : Ending) (w' : World) : Prop :=
 e = endOf r.2 ∧ (∃ VF VB rs hs gs,RunSt X B R P3 w' r.1 n VF VB rs hs gs) ∧ Kept B w w'
theorem set_any {X : List Value} {B R : Nat} {P3 : List Value} {w : World} {t : Tsk} {n : Int} {VF VB : Value} {rs hs : List Value} {gs : List (List Value)} (h : RunSt X B R P3 w t n VF VB rs hs gs) {f : Frm} (hf : topF t = some f) (k : Int) (x : Int) (hk0 : 0 ≤ k) (hk : k < (f.regs.length : Int)) (hl : t.frames.length ≤ 1000) (hr : f.regs.length ≤ 1000) (hpc : 0 ≤ f.pc ∧ f.pc ≤ 1000) :
  Calls Try.prog 54 #[.pointer (some ⟨R,0,none⟩),int .i64 k,int .i64 x] w (OpPost X B R P3 w (writeS t f k x) n) := by
 have hBW : B ≤ w.heap.size := by have := h.lt;omega
 unfold writeS
 cases hx : numB x with
 | true =>
  obtain ⟨m,rfl⟩ : ∃ m : Nat,k = (m : Int) := ⟨k.toNat,by omega⟩
  rw [if_pos rfl,Int.toNat_natCast]
  exact (set_ok h hf m x (by omega) hl hr hx hpc).mono fun e w' ⟨h1,h2,h3⟩ => ⟨h1,⟨_,_,_,_,_,h2⟩,h3⟩
 | false =>
  rw [if_neg (by decide)]
  exact (set_bad R k x w hx).mono fun e w' ⟨h1,h2⟩ => ⟨h1,⟨_,_,_,_,_,h.mono h2⟩,Kept.mono h2 hBW⟩
theorem bit_any (b : Bool) (w : World) :
  Calls Try.prog 65 #[.bool b] w fun e w' => e = .returned (int .i64 (bitS b)) ∧ w = w' := by
 cases b with
 | true => go_enter Try.func65,Try.ntmps65;go_wp2;go_ret;exact ⟨rfl,rfl⟩
 | false => go_enter Try.func65,Try.ntmps65;go_wp2;go_ret;exact ⟨rfl,rfl⟩
structure TopOk (t : Tsk) (f : Frm) : Prop where
 top : topF t = some f
 len : t.frames.length ≤ 1000
 regs : f.regs.length ≤ 1000
 pc : 0 ≤ f.pc ∧ f.pc ≤ 1000
def InF (f : Frm) (k : Int) : Prop := 0 ≤ k ∧ k < (f.regs.length : Int)
theorem regS_get {f : Frm} {k : Int} (h : InF f k) : f.regs[k.toNat]? = some (regS f k) := by
 have hk : k.toNat < f.regs.length := by have := h.1;have := h.2;omega
 unfold regS
 rw [List.getElem?_eq_getElem hk,List.getD_eq_getElem?_getD,List.getElem?_eq_getElem hk];rfl
theorem reg_is {X : List Value} {B R : Nat} {P3 : List Value} {w : World} {t : Tsk} {n : Int} {VF VB : Value} {rs hs : List Value} {gs : List (List Value)} (h : RunSt X B R P3 w t n VF VB rs hs gs) {f : Frm} (ht : TopOk t f) {k : Int} (hk : InF f k) :
  Calls Try.prog 56 #[.pointer (some ⟨R,0,none⟩),int .i64 k] w fun e w' => e = .returned (int .i64 (regS f k)) ∧ Ext w w' := by
 have := reg_any h ht.top k.toNat (regS f k) (regS_get hk) ht.len ht.regs
 rwa [Int.toNat_of_nonneg hk.1] at this
theorem set_is {X : List Value} {B R : Nat} {P3 : List Value} {w W : World} {t : Tsk} {n : Int} {VF VB : Value} {rs hs : List Value} {gs : List (List Value)} (h : RunSt X B R P3 w t n VF VB rs hs gs) {f : Frm} (ht : TopOk t f) {k : Int} (x : Int) (hk : InF f k) (hE : Ext w W) :
  Calls Try.prog 54 #[.pointer (some ⟨R,0,none⟩),int .i64 k,int .i64 x] W (OpPost X B R P3 w (writeS t f k x) n) :=
 (set_any (h.mono hE) ht.top k x hk.1 hk.2 ht.len ht.regs ht.pc).mono fun e w' ⟨h1,h2,h3⟩ => ⟨h1,h2,Kept.trans (Kept.mono hE (by have := h.lt;omega)) h3⟩
theorem OpPost.ends {X : List Value} {B R : Nat} {P3 : List Value} {w w' : World} {r : Tsk × Stp} {n : Int} {e : Ending} (h : OpPost X B R P3 w r n e w') : e = .returned (.tuple #[]) ∨ ∃ ch,e = .panicked ch := by
 rw [h.1]
 unfold endOf
 split
 ·exact .inl rfl
 ·split
  ·exact .inr ⟨_,rfl⟩
  ·exact .inr ⟨_,rfl⟩
theorem OpPost.base {X : List Value} {B R : Nat} {P3 : List Value} {w W w' : World} {r : Tsk × Stp} {n : Int} {e : Ending} (h : OpPost X B R P3 w r n e w') (hE : Kept B W w) : OpPost X B R P3 W r n e w' := ⟨h.1,h.2.1,Kept.trans hE h.2.2⟩
set_option maxRecDepth 4000 in
theorem op_const {X : List Value} {B R : Nat} {P3 : List Value} {w : World} {t : Tsk} {n : Int} {VF VB : Value} {rs hs : List Value} {gs : List (List Value)} (h : RunSt X B R P3 w t n VF VB rs hs gs) {f : Frm} (ht : TopOk t f) (x : Ins) (VX : Value) (ha : InF f x.a) :
  Calls Try.prog 53 #[.pointer (some ⟨R,0,none⟩),.agg #[int .i64 x.op,int .i64 x.a,int .i64 x.b,int .i64 x.c,VX]] w (OpPost X B R P3 w (writeS t f x.a x.b) n) := by
 have HS := Lib.hid (fun W hE => set_is h ht x.b ha (W := W) hE)
 clear h
 go_enter Try.func53,Try.ntmps53
 go_wp2_with (go_at_call 54;refine (HS.out _ xt).mono ?_;rintro e w5 HP;rcases HP.ends with rfl | ⟨ch,rfl⟩)
 ·go_end0
  exact HP
 ·exact ⟨rfl,HP⟩
set_option maxRecDepth 4000 in
theorem op_move {X : List Value} {B R : Nat} {P3 : List Value} {w : World} {t : Tsk} {n : Int} {VF VB : Value} {rs hs : List Value} {gs : List (List Value)} (h : RunSt X B R P3 w t n VF VB rs hs gs) {f : Frm} (ht : TopOk t f) (x : Ins) (VX : Value) (ha : InF f x.a) (hb : InF f x.b) :
  Calls Try.prog 55 #[.pointer (some ⟨R,0,none⟩),.agg #[int .i64 x.op,int .i64 x.a,int .i64 x.b,int .i64 x.c,VX]] w (OpPost X B R P3 w (writeS t f x.a (regS f x.b)) n) := by
 have HS := Lib.hid (fun W hE => set_is h ht (regS f x.b) ha (W := W) hE)
 have HG := Lib.hid (fun W (hE : Ext w W) => reg_is (h.mono hE) ht hb)
 have hR := h.lt.2
 clear h
 obtain ⟨y,hy⟩ : ∃ y,regS f x.b = y := ⟨_,rfl⟩
 rw [hy] at HS HG ⊢
 clear hy
 go_enter Try.func55,Try.ntmps55
 go_wp2
 (refine wp_region_quiet_tail 7 (by kernel_rfl) (by kernel_rfl) ?_;(try simp only [List.take_succ_cons,List.take_zero,List.drop_succ_cons,List.drop_zero]);(repeat (go_big_quiet_step ((go_at_call 56;exact quiet_ext (HG.out _ xt)))));refine wpQuiet_nil fun w1 h1 => ?_;obtain ⟨hc,hf,hs,he⟩ := eu (w := w) h1 xt;clear h1;(try simp only [sA,sC,sD,sN] at hs))
 go_wp2_with (go_at_call 54;refine (HS.out _ xt).mono ?_;rintro e w5 HP;rcases HP.ends with rfl | ⟨ch,rfl⟩)
 ·go_end0
  exact HP
 ·exact ⟨rfl,HP⟩
set_option maxRecDepth 4000 in
theorem op_not {X : List Value} {B R : Nat} {P3 : List Value} {w : World} {t : Tsk} {n : Int} {VF VB : Value} {rs hs : List Value} {gs : List (List Value)} (h : RunSt X B R P3 w t n VF VB rs hs gs) {f : Frm} (ht : TopOk t f) (x : Ins) (VX : Value) (ha : InF f x.a) (hb : InF f x.b) :
  Calls Try.prog 69 #[.pointer (some ⟨R,0,none⟩),.agg #[int .i64 x.op,int .i64 x.a,int .i64 x.b,int .i64 x.c,VX]] w (OpPost X B R P3 w (writeS t f x.a (bitS (regS f x.b == 0))) n) := by
 have HS := Lib.hid (fun W hE => set_is h ht (bitS (regS f x.b == 0)) ha (W := W) hE)
 have HG := Lib.hid (fun W (hE : Ext w W) => reg_is (h.mono hE) ht hb)
 have hR := h.lt.2
 clear h
 obtain ⟨y,hy⟩ : ∃ y,regS f x.b = y := ⟨_,rfl⟩
 rw [hy] at HS HG ⊢
 clear hy
 obtain ⟨z,hz⟩ : ∃ z,bitS (y == 0) = z := ⟨_,rfl⟩
 have HB := Lib.hid (fun W => bit_any (y == 0) W)
 rw [hz] at HS HB ⊢
 clear hz
 go_enter Try.func69,Try.ntmps69
 go_wp2
 (refine wp_region_quiet_tail 9 (by kernel_rfl) (by kernel_rfl) ?_;(try simp only [List.take_succ_cons,List.take_zero,List.drop_succ_cons,List.drop_zero]);(repeat (go_big_quiet_step (first | (go_at_call 56;exact quiet_ext (HG.out _ xt)) | (go_at_call 65;exact quiet_same (HB.out _)))));refine wpQuiet_nil fun w1 h1 => ?_;obtain ⟨hc,hf,hs,he⟩ := eu (w := w) h1 xt;clear h1;(try simp only [sA,sC,sD,sN] at hs))
 go_wp2_with (go_at_call 54;refine (HS.out _ xt).mono ?_;rintro e w5 HP;rcases HP.ends with rfl | ⟨ch,rfl⟩)
 ·go_end0
  exact HP
 ·exact ⟨rfl,HP⟩
end Go.Proofs.Ytcjjoabofecjmaa
namespace Go.Proofs.Ytcjjoabofecjmaa
open Go.RowKit Go.Sort
open Go.Value (int)
set_option maxRecDepth 4000 in
theorem binary_ok {X : List Value} {B R : Nat} {P3 : List Value} {w : World} {t : Tsk} {n : Int} {VF VB : Value} {rs hs : List Value} {gs : List (List Value)} (h : RunSt X B R P3 w t n VF VB rs hs gs) {f : Frm} (ht : TopOk t f) (x : Ins) (VX : Value) (ha : InF f x.a) (hb : InF f x.b) (hc : InF f x.c)
  (C : Nat) (g : FuncId) (lb : Array Value) (eg : Enters Try.prog g) (hC : w.cell? ⟨C,0,none⟩ = some (.func (.func g) #[] lb)) (v : Int)
  (hv : ∀ W,Ext w W → Calls Try.prog g (#[int .i64 (regS f x.b),int .i64 (regS f x.c)] ++ lb) W fun e w' => e = .returned (int .i64 v) ∧ Ext W w') :
  Calls Try.prog 89 #[.pointer (some ⟨R,0,none⟩),.agg #[int .i64 x.op,int .i64 x.a,int .i64 x.b,int .i64 x.c,VX],.pointer (some ⟨C,0,none⟩)] w (OpPost X B R P3 w (writeS t f x.a v) n) := by
 have HS := Lib.hid (fun W hE => set_is h ht v ha (W := W) hE)
 have HG1 := Lib.hid (fun W (hE : Ext w W) => reg_is (h.mono hE) ht hb)
 have HG2 := Lib.hid (fun W (hE : Ext w W) => reg_is (h.mono hE) ht hc)
 have HV := Lib.hid hv
 have hR := h.lt.2
 have hCl : C < w.heap.size := lt_of_cell hC
 unfold Enters at eg
 clear h hv
 obtain ⟨y,hy⟩ : ∃ y,regS f x.b = y := ⟨_,rfl⟩
 obtain ⟨z,hz⟩ : ∃ z,regS f x.c = z := ⟨_,rfl⟩
 rw [hy] at HG1 HV
 rw [hz] at HG2 HV
 clear hy hz
 go_enter Try.func89,Try.ntmps89
 go_wp2
 (refine wp_region_quiet_tail 13 (by kernel_rfl) (by kernel_rfl) ?_;(try simp only [List.take_succ_cons,List.take_zero,List.drop_succ_cons,List.drop_zero]);(repeat (go_big_quiet_step (first | (go_at_call 56;with_reducible exact quiet_ext (HG1.out _ xt)) | (go_at_call 56;with_reducible exact quiet_ext (HG2.out _ xt)) | (go_at_fn g;exact quiet_ext (HV.out _ xt)))));refine wpQuiet_nil fun w1 h1 => ?_;obtain ⟨hc,hf,hs,he⟩ := eu (w := w) h1 xt;clear h1;(try simp only [sA,sC,sD,sN] at hs))
 go_wp2_with (first | (go_at_call 54;refine (HS.out _ xt).mono ?_;rintro e w5 HP;rcases HP.ends with rfl | ⟨ch,rfl⟩))
 ·go_end0
  exact HP
 ·exact ⟨rfl,HP⟩
set_option maxRecDepth 4000 in
theorem binary_bad {X : List Value} {B R : Nat} {P3 : List Value} {w : World} {t : Tsk} {n : Int} {VF VB : Value} {rs hs : List Value} {gs : List (List Value)} (h : RunSt X B R P3 w t n VF VB rs hs gs) {f : Frm} (ht : TopOk t f) (x : Ins) (VX : Value) (hb : InF f x.b) (hc : InF f x.c)
  (C : Nat) (g : FuncId) (lb : Array Value) (eg : Enters Try.prog g) (hC : w.cell? ⟨C,0,none⟩ = some (.func (.func g) #[] lb))
  (hv : ∀ W,Ext w W → Calls Try.prog g (#[int .i64 (regS f x.b),int .i64 (regS f x.c)] ++ lb) W fun e w' => e = .panicked (failV 6) ∧ Ext W w') :
  Calls Try.prog 89 #[.pointer (some ⟨R,0,none⟩),.agg #[int .i64 x.op,int .i64 x.a,int .i64 x.b,int .i64 x.c,VX],.pointer (some ⟨C,0,none⟩)] w (OpPost X B R P3 w (failT t 6) n) := by
 have HH := Lib.hid h
 have HG1 := Lib.hid (fun W (hE : Ext w W) => reg_is (h.mono hE) ht hb)
 have HG2 := Lib.hid (fun W (hE : Ext w W) => reg_is (h.mono hE) ht hc)
 have HV := Lib.hid hv
 have hR := h.lt.2
 have hBR := h.lt.1
 have hCl : C < w.heap.size := lt_of_cell hC
 unfold Enters at eg
 clear h hv
 obtain ⟨y,hy⟩ : ∃ y,regS f x.b = y := ⟨_,rfl⟩
 obtain ⟨z,hz⟩ : ∃ z,regS f x.c = z := ⟨_,rfl⟩
 rw [hy] at HG1 HV
 rw [hz] at HG2 HV
 clear hy hz
 go_enter Try.func89,Try.ntmps89
 go_wp2
 refine wp_hid2 ?_
 intro W4 HW4
 have HE4 : Ext w W4 := by rw [HW4.out];exact xt
 have k1 : W4.cell? ⟨w.heap.size,1,none⟩ = some (int .i64 x.a) := by rw [HW4.out];simp [go_sem]
 have k2 : W4.cell? ⟨w.heap.size,2,none⟩ = some (int .i64 x.b) := by rw [HW4.out];simp [go_sem]
 have k3 : W4.cell? ⟨w.heap.size,3,none⟩ = some (int .i64 x.c) := by rw [HW4.out];simp [go_sem]
 have k4 := HE4.cell hC
 have hs4 : w.heap.size < W4.heap.size := lt_of_cell k1
 have hC4 : C < W4.heap.size := lt_of_cell k4
 clear HW4 hC
 refine wp_region_panics 12 _ (failV 6) (by kernel_rfl) (by kernel_rfl) rfl (by kernel_rfl) ?_ ?_
 ·rintro a w' hd ⟨p,rfl⟩
  have hE : Ext w (grow (redrawn W4 p.d) p.os) := HE4.regrown p.d p.os
  exact ⟨hd,rfl,⟨_,_,_,_,_,HH.out.mono hE⟩,Kept.mono hE (by omega)⟩
 ·simp only [List.take_succ_cons,List.take_zero]
  repeat (go_big_quiet_step (first | (go_at_call 56;with_reducible exact quiet_ext (HG1.out _ xt)) | (go_at_call 56;with_reducible exact quiet_ext (HG2.out _ xt))))
  refine wpQuiet_nil ⟨rfl,by rfl, ?_⟩
  rintro w' ⟨p,rfl⟩
  have hE : Ext w (grow (redrawn W4 p.d) p.os) := HE4.regrown p.d p.os
  refine ⟨g,#[int .i64 y,int .i64 z] ++ lb, ?_,(HV.out _ hE).mono fun e w'' hh => ⟨hh.1,regrown_of_below (Ext.trans (below_regrown W4 p.d p.os) hh.2)⟩⟩
  simp [go_sem,execOp,eg]
end Go.Proofs.Ytcjjoabofecjmaa

