/- A part of the proof: registers of package task; What Start and Current of chapter 28 return, in plain logic; What Advance of chapter 28 does, in plain logic; Resume of package task. -/
import Derived.Test.YtcjjoabofecjmaaGreatQ01
import Derived.Test.YtcjjoabofecjmaaGreatQ07
import Derived.Test.YtcjjoabofecjmaaGreatQ04
import Derived.Laws.CopyOwn
import Derived.Deep.OwnRows
set_option linter.unusedVariables false
set_option linter.unusedSimpArgs false
namespace Go.Proofs.YtcjjoabofecjmaaGreat
open Go.RowKit
def regsOf (n : Nat) (xs : List Int) : List Int := xs ++ List.replicate (n - xs.length) 0
theorem regsOf_length {n : Nat} {xs : List Int} (h : xs.length ≤ n) : (regsOf n xs).length = n := by simp [regsOf]; omega
theorem madeCells_one (z : Value) (n : Nat) : madeCells #[z] n = (List.replicate n z).toArray := by
  apply Array.ext
  · simp [size_madeCells]
  · intro i h1 h2
    simp [madeCells, Nat.mod_one]
set_option maxHeartbeats 2000000 in
theorem registers_any (nm cl cd : Value) (pa pr : Int) (n : Nat) (xs : List Int) (A : Option Addr) (m c : Nat) (w : World) (hx : RSl 1 RInt w A m xs) (hle : xs.length ≤ n) (hn : n ≤ 1000) :
    Calls Tryz.prog 60 #[.agg #[nm, Value.int .i64 pa, Value.int .i64 n, Value.int .i64 pr, cl, cd], .slice A m c] w fun e w' => ∃ g, e = .returned (.slice (some ⟨g, 0, none⟩) n n) ∧ w.heap.size < g ∧ w'.ownsRow (w.heap.size + 1) 3 1 (.slice (some ⟨g, 0, none⟩) n n) n ((regsOf n xs).map (Value.int .i64)) ∧ Ext w w' := by
  have hm := hx.len
  have HX := Lib.hid hx
  have hmk := fun W => run_make_row' (P := Tryz.prog) 35 3 (.int .i64 0) 8 Tryz.underlying35 infoInt rfl .i64 .i64 n (by omega) (by omega) W
  obtain ⟨cs, hcs⟩ : ∃ cs, cs = xs.map (Value.int .i64) := ⟨_, rfl⟩
  have HCS := Lib.hid hcs
  have hcl : cs.length = m := by rw [hcs, List.length_map, hm]
  have hmn : m ≤ n := by omega
  have h1 : Hid (∀ v ∈ cs, v.oneCell' = true) := fun v hv => by
    rw [hcs] at hv
    obtain ⟨x, _, rfl⟩ := List.mem_map.1 hv
    rfl
  have hpos : Hid (∀ W, Ext w W → 0 < cs.length → ∃ ad, A = some ad ∧ ∀ j v, cs[j]? = some v → W.cell? (ad.add j) = some v) := fun W hW h0 => by
    obtain ⟨x, hx0⟩ : ∃ x, xs[0]? = some x := ⟨_, List.getElem?_eq_getElem (by omega)⟩
    obtain ⟨b, off, rfl, _, _, _⟩ := HX.out.int hx0
    refine ⟨_, rfl, fun j v hj => ?_⟩
    rw [HCS.out, List.getElem?_map] at hj
    cases hxj : xs[j]? with
    | none => rw [hxj] at hj; cases hj
    | some y =>
      rw [hxj] at hj
      simp only [Option.map_some, Option.some.injEq] at hj
      subst hj
      obtain ⟨b', off', e', _, _, hc⟩ := HX.out.int hxj
      cases e'
      exact hW.cell (by rw [addr_add]; exact hc)
  clear hx hcs hm
  go_enter Tryz.func60, Tryz.ntmps60
  go_wp2_with (with_reducible refine wpList_copy_splice rfl (.tmp 9) (.tmp 10) _ _ rfl 3 Tryz.underlying35 (by kernel_rfl) _ _ n n m c rfl rfl (w.heap.size + 1) 0 (List.replicate n (.int .i64 0)) 3 (by rw [madeCells_one]; simpa using heap_alloc_new (w.alloc (.cells #[nm, Value.int .i64 pa, Value.int .i64 n, Value.int .i64 pr, cl, cd] 76)) (.cells (List.replicate n (Value.int .i64 0)).toArray 3)) cs (by rw [hcl]; exact (Nat.min_eq_left hmn).symm) (fun h => ⟨rfl, hpos.out _ (by exact (by repeat' (first | with_reducible assumption | with_reducible exact Ext.refl _ | with_reducible refine Ext.alloc ?_ _ | with_reducible refine Ext.drew ?_ | with_reducible refine Ext.drewN ?_ _ | with_reducible refine Ext.regrown ?_ _ _ | with_reducible refine Ext.setCell ?_ (by first | (simp; done) | (simp; omega)) _))) h⟩) (by rw [hcl, List.length_replicate]; omega) h1.out (w.heap.size + 1) _ (Below.refl _ _) (Nat.le_refl _) ?_; intro w2 HG2 hB2)
  have hsp : splice (List.replicate n (Value.int .i64 0)) 0 cs = (regsOf n xs).map (Value.int .i64) := by
    unfold splice regsOf
    rw [List.take_zero, List.nil_append, Nat.zero_add, List.drop_replicate, hcl, HCS.out, List.map_append, List.map_replicate, ← HX.out.len]
  have hln : ((regsOf n xs).map (Value.int .i64)).length = n := by rw [List.length_map, regsOf_length hle]
  have hE : Ext w w2 := by
    have h1 : Ext w ((w.alloc (.cells #[nm, Value.int .i64 pa, Value.int .i64 n, Value.int .i64 pr, cl, cd] 76)).alloc (.cells (madeCells #[.int .i64 0] n) 3)) := (by repeat' (first | with_reducible assumption | with_reducible exact Ext.refl _ | with_reducible refine Ext.alloc ?_ _ | with_reducible refine Ext.drew ?_ | with_reducible refine Ext.drewN ?_ _ | with_reducible refine Ext.regrown ?_ _ _ | with_reducible refine Ext.setCell ?_ (by first | (simp; done) | (simp; omega)) _))
    exact Below.trans h1 (Below.mono hB2 (by omega))
  refine bodyPost_ret (results_tmp rfl _ _ _) rfl ⟨w.heap.size + 1, rfl, Nat.lt_succ_self _, ⟨by rw [hln, Nat.mul_one], .inr ⟨_, n, _, rfl, Nat.le_refl _, HG2.out, Nat.le_refl _, by simp only [maxLen]; omega, by rw [hsp]; simp only [List.size_toArray, hln]; omega, ?_⟩⟩, hE⟩
  rw [hsp, Nat.mul_one]
  exact List.take_of_length_le (by rw [hln]; exact Nat.le_refl _)
end Go.Proofs.YtcjjoabofecjmaaGreat

namespace Go.Proofs.YtcjjoabofecjmaaGreat
open Go.RowKit
def firstTsk (f : Int) (g : Fnc) (args : List Int) (scope : Int) : Tsk :=
  { zeroTsk with fn := f, scope := scope, prio := g.prio, status := 1, frames := [⟨f, 0, regsOf g.regs.toNat args, -1, false⟩], blocks := [⟨-1, 0, 0, 0, []⟩] }
def startS (p : Prg) (f : Int) (args : List Int) (scope : Int) : Tsk × Int :=
  if checkS p ≠ 0 then (zeroTsk, 1)
  else match fnAt p f with
    | none => (zeroTsk, 2)
    | some g => if g.cleanup = true then (zeroTsk, 16)
      else if (args.length : Int) ≠ g.params then (zeroTsk, 10)
      else if args.all numB = false ∨ scope < 0 ∨ 32 ≤ scope then (zeroTsk, 2)
      else (firstTsk f g args scope, 0)
def zeroIns : Ins := ⟨0, 0, 0, 0, []⟩
def nowS (p : Prg) (t : Tsk) : Option Ins := match t.frames[t.frames.length - 1]? with
  | none => none
  | some f => match fnAt p f.fn with
    | none => none
    | some g => if f.pc < 0 then none else g.code[f.pc.toNat]?
def currentS (p : Prg) (t : Tsk) : Ins × Bool :=
  if tcheckS p t ≠ 0 ∨ t.frames.length = 0 then (zeroIns, false) else match nowS p t with | none => (zeroIns, false) | some x => (x, true)
end Go.Proofs.YtcjjoabofecjmaaGreat

namespace Go.Proofs.YtcjjoabofecjmaaGreat
open Go.RowKit
structure Stp where
  kind : Int
  reason : Int
  value : Int
  deriving DecidableEq, Inhabited
def goOn : Stp := ⟨0, 0, 0⟩
def failT (t : Tsk) (r : Int) : Tsk × Stp := (t, ⟨3, r, 0⟩)
def topF (t : Tsk) : Option Frm := t.frames[t.frames.length - 1]?
def setTop (t : Tsk) (f : Frm) : Tsk := { t with frames := t.frames.set (t.frames.length - 1) f }
def regS (f : Frm) (i : Int) : Int := f.regs.getD i.toNat 0
def writeS (t : Tsk) (f : Frm) (i v : Int) : Tsk × Stp :=
  if numB v = true then (setTop t { f with regs := f.regs.set i.toNat v, pc := f.pc + 1 }, goOn) else failT t 5
def jumpS (t : Tsk) (f : Frm) (pc : Int) : Tsk × Stp := (setTop t { f with pc := pc }, goOn)
def lastB (t : Tsk) : Option Blk := t.blocks[t.blocks.length - 1]?
def giveS (t : Tsk) (f : Frm) (v : Int) : Tsk × Stp :=
  if f.cleanup = true then ({ t with frames := t.frames.take (t.frames.length - 1), mask := wr64 (t.mask - 1) }, ⟨4, 0, 0⟩)
  else if t.frames.length = 1 then (t, ⟨2, 0, v⟩)
  else match lastB t, t.frames[t.frames.length - 2]? with
    | some b, some h => if b.depth = (t.frames.length : Int) then failT t 8
      else ({ t with frames := (t.frames.take (t.frames.length - 1)).set (t.frames.length - 2) { h with regs := h.regs.set f.result.toNat v } }, goOn)
    | _, _ => failT t 8
def argsOf (f : Frm) (l : List Int) : List Int := l.map (regS f)
def callS (p : Prg) (t : Tsk) (f : Frm) (x : Ins) : Tsk × Stp :=
  if 8 ≤ plainN t then failT t 7
  else match fnAt p x.b with
    | none => failT t 8
    | some g => ({ t with frames := t.frames.set (t.frames.length - 1) { f with pc := f.pc + 1 } ++ [⟨x.b, 0, regsOf g.regs.toNat (argsOf f x.args), x.a, false⟩] }, goOn)
def deferS (t : Tsk) (f : Frm) (x : Ins) : Tsk × Stp := match lastB t with
  | none => failT t 8
  | some b => if 8 ≤ b.handlers.length then failT t 7
    else ({ t with frames := t.frames.set (t.frames.length - 1) { f with pc := f.pc + 1 }, blocks := t.blocks.set (t.blocks.length - 1) { b with handlers := b.handlers ++ [⟨x.b, argsOf f x.args⟩] } }, goOn)
def maskS (t : Tsk) (f : Frm) : Tsk × Stp :=
  if 100 ≤ t.mask then failT t 7 else ({ setTop t { f with pc := f.pc + 1 } with mask := t.mask + 1 }, goOn)
def unmaskS (t : Tsk) (f : Frm) : Tsk × Stp := match lastB t with
  | none => failT t 8
  | some b => if t.mask = 0 ∨ t.mask = b.mask then failT t 8 else ({ setTop t { f with pc := f.pc + 1 } with mask := t.mask - 1 }, goOn)
def bitS (b : Bool) : Int := if b = true then 1 else 0
def binS (op a b : Int) : Int :=
  if op = 3 then a + b else if op = 4 then a - b else if op = 5 then a * b else if op = 6 then a.tdiv b else if op = 7 then a.tmod b
  else if op = 8 then bitS (a == b) else if op = 9 then bitS (decide (a < b)) else if op = 10 then bitS (a != 0 && b != 0) else bitS (a != 0 || b != 0)
def execS (p : Prg) (t : Tsk) (f : Frm) (x : Ins) : Tsk × Stp :=
  if x.op = 1 then writeS t f x.a x.b
  else if x.op = 2 then writeS t f x.a (regS f x.b)
  else if x.op = 12 then writeS t f x.a (bitS (regS f x.b == 0))
  else if 3 ≤ x.op ∧ x.op ≤ 11 then (if (x.op = 6 ∨ x.op = 7) ∧ regS f x.c = 0 then failT t 6 else writeS t f x.a (binS x.op (regS f x.b) (regS f x.c)))
  else if x.op = 13 then jumpS t f x.a
  else if x.op = 14 then jumpS t f (if regS f x.a = 0 then x.b else f.pc + 1)
  else if x.op = 15 then callS p t f x
  else if x.op = 16 then giveS t f (regS f x.a)
  else if x.op = 17 then deferS t f x
  else if x.op = 18 then maskS t f
  else if x.op = 19 then unmaskS t f
  else if x.op = 20 then (if regS f x.a = 0 then failT t 4 else jumpS t f (f.pc + 1))
  else if regS f x.a < 0 ∨ 899 < regS f x.a then failT t 8 else failT t (100 + regS f x.a)
def visS (op : Int) : Bool := (shapeS op).isSome && decide (30 ≤ op)
def runS (p : Prg) : Nat → Tsk → Nat → Tsk × Stp
  | 0, t, _ => (t, goOn)
  | k + 1, t, n => match topF t with
    | none => (t, goOn)
    | some f => match fnAt p f.fn with
      | none => (t, goOn)
      | some g => match g.code[f.pc.toNat]? with
        | none => if (giveS t f 0).2.kind = 0 then runS p k (giveS t f 0).1 n else giveS t f 0
        | some x => if visS x.op = true then (t, ⟨1, 0, 0⟩)
          else if n = 200 then failT t 7
          else if (execS p t f x).2.kind = 0 then runS p k (execS p t f x).1 (n + 1) else execS p t f x
def advanceS (p : Prg) (t : Tsk) : Tsk × Stp × Int :=
  if tcheckS p t ≠ 0 then (zeroTsk, goOn, 1)
  else if t.status ≠ 1 then (zeroTsk, goOn, 17)
  else if t.unw = true ∧ inHand t = false then (t, ⟨5, 0, 0⟩, 0)
  else ((runS p 500 t 0).1, (runS p 500 t 0).2, 0)
end Go.Proofs.YtcjjoabofecjmaaGreat

namespace Go.Proofs.YtcjjoabofecjmaaGreat
open Go.RowKit
def badR (t : Tsk) : Prop := t.unw = false ∨ t.level = 0 ∨ (t.blocks.length : Int) ≠ t.level ∨ t.frames.length = 0 ∨ inHand t = true
theorem resumeS_err {t : Tsk} (h : badR t) : resumeS t = (zeroTsk, 17) := by unfold resumeS; exact if_pos h
theorem resumeS_ok {t : Tsk} (h : ¬ badR t) {f : Frm} {b : Blk} (hf : t.frames[t.frames.length - 1]? = some f) (hb : t.blocks[t.blocks.length - 1]? = some b) :
    resumeS t = ({ t with unw := false, level := 0, frames := t.frames.set (t.frames.length - 1) { f with pc := b.exit } }, 0) := by
  unfold resumeS; rw [if_neg (show ¬ (_ ∨ _ ∨ _ ∨ _ ∨ _) from h), hf, hb]
theorem OFr.reads' {B : Nat} {w : World} {fs : List Frm} {A : Option Addr} {n c : Nat} {rs : List Value} (h : OFr B w fs (.slice A n c) rs) (hn : fs.length ≤ 1000) (hr : ∀ f : Frm, f ∈ fs → f.regs.length ≤ 1000) : n ≤ c ∧ RSl 5 RFrm w A n fs := by
  obtain ⟨A', c', e, hc, hs⟩ := h.reads (by omega) (fun f hf => by have := hr f hf; omega)
  injection e with e1 e2 e3
  subst e1 e2 e3
  exact ⟨hc, hs⟩
theorem OBl.reads' {B : Nat} {w : World} {bs : List Blk} {A : Option Addr} {n c : Nat} {hs rs : List Value} {gs : List (List Value)} (h : OBl B w bs (.slice A n c) hs gs rs) (hn : bs.length ≤ 1000) (hr : ∀ b : Blk, b ∈ bs → b.handlers.length ≤ 1000) : n ≤ c ∧ RSl 5 RBlk w A n bs := by
  obtain ⟨A', c', e, hc, hs⟩ := h.reads (by omega) (fun f hf => by have := hr f hf; omega)
  injection e with e1 e2 e3
  subst e1 e2 e3
  exact ⟨hc, hs⟩
theorem OBl.hnds_far {B r : Nat} {w : World} {bs : List Blk} {VB : Value} {hs rs : List Value} {gs : List (List Value)} (h : OBl B w bs VB hs gs rs) (hr : r < B) : ∀ v ∈ hs, v.ownBlock = none ∨ v.ownBlock ≠ some r := fun v hv => by
  obtain ⟨i, hi, rfl⟩ := List.getElem_of_mem hv
  exact own_ne (h.hnd i _ _ _ (List.getElem?_eq_getElem (show i < bs.length by rw [← h.len]; exact hi)) (List.getElem?_eq_getElem hi) (List.getElem?_eq_getElem (show i < gs.length by rw [h.alen, ← h.len]; exact hi))).2 hr
theorem low_nil (w : World) : Low w [] := by unfold Low; simp
theorem own_lt {w : World} {B : Nat} {e : TypeId} {sz : Nat} {v : Value} {n : Nat} {xs : List Value} (h : w.ownsRow B e sz v n xs) {g : Nat} (hg : v.ownBlock = some g) : B ≤ g ∧ g < w.heap.size := h.lt g hg
theorem OFr.regs_ne {B B' : Nat} {w : World} {fs : List Frm} {VF u : Value} {rs : List Value} {e : TypeId} {sz n : Nat} {xs : List Value} (h : OFr B w fs VF rs) (hu : w.ownsRow B' e sz u n xs) (he : 3 ≠ e) : ∀ v ∈ rs, v.ownBlock = none ∨ v.ownBlock ≠ u.ownBlock := fun v hv => by
  obtain ⟨i, hi, rfl⟩ := List.getElem_of_mem hv
  exact apart_types (h.reg i _ _ (List.getElem?_eq_getElem (by rw [← h.len]; exact hi)) (List.getElem?_eq_getElem hi)) hu he
theorem OBl.hnds_ne {B B' : Nat} {w : World} {bs : List Blk} {VB u : Value} {hs rs : List Value} {gs : List (List Value)} {e : TypeId} {sz n : Nat} {xs : List Value} (h : OBl B w bs VB hs gs rs) (hu : w.ownsRow B' e sz u n xs) (he : 58 ≠ e) : ∀ v ∈ hs, v.ownBlock = none ∨ v.ownBlock ≠ u.ownBlock := fun v hv => by
  obtain ⟨i, hi, rfl⟩ := List.getElem_of_mem hv
  have hb := List.getElem?_eq_getElem (show i < bs.length by rw [← h.len]; exact hi)
  have hg := List.getElem?_eq_getElem (show i < gs.length by rw [h.alen, ← h.len]; exact hi)
  exact apart_types (h.hnd i _ _ _ hb (List.getElem?_eq_getElem hi) hg).2 hu he
set_option maxRecDepth 4000 in
set_option maxHeartbeats 4000000 in
theorem resume_ok (t : Tsk) (V : Value) (w : World) (hV : RTsk w t V) (hnf : t.frames.length ≤ 1000) (hnb : t.blocks.length ≤ 1000) (hnr : ∀ f : Frm, f ∈ t.frames → f.regs.length ≤ 1000) (hnh : ∀ b : Blk, b ∈ t.blocks → b.handlers.length ≤ 1000) (hQ : ¬ badR t) :
    Calls Tryz.prog 34 #[V] w fun e w' => ∃ V', e = .returned (.tuple #[V', Value.int .i64 (resumeS t).2]) ∧ RTsk w' (resumeS t).1 V' ∧ Ext w w' := by
  have HV := Lib.hid hV
  have HI := Lib.hid hV.inr
  have HH := Lib.hid (fun W h => handles_any t V W (hV.mono h))
  have HNR := Lib.hid hnr
  have HNH := Lib.hid hnh
  have HNF := Lib.hid hnf
  have HNB := Lib.hid hnb
  have HQ := Lib.hid hQ
  have hu : t.unw = true := by cases h : t.unw with | false => exact absurd (.inl h) hQ | true => rfl
  have hl0 : ¬ t.level = 0 := fun h => hQ (.inr (.inl h))
  have hin : inHand t = false := by cases h : inHand t with | true => exact absurd (.inr (.inr (.inr (.inr h)))) hQ | false => rfl
  have hl2 : (t.blocks.length : Int) = t.level := Classical.byContradiction fun h => hQ (.inr (.inr (.inl h)))
  have hnf0 : 0 < t.frames.length := by rcases Nat.eq_zero_or_pos t.frames.length with h | h; exact absurd (.inr (.inr (.inr (.inl h)))) hQ; exact h
  have hnb0 : 0 < t.blocks.length := by omega
  obtain ⟨Af, nf, cf, Ab, nb, cb, rfl, _, _, _, _, _, _, _, _, _, _, hF, hB, hcf, hcb⟩ := hV
  have h1 := hF.len
  subst h1
  have h1 := hB.len
  subst h1
  obtain ⟨f, hf⟩ : ∃ f, t.frames[t.frames.length - 1]? = some f := ⟨_, List.getElem?_eq_getElem (by omega)⟩
  obtain ⟨x, hx⟩ : ∃ x, t.blocks[t.blocks.length - 1]? = some x := ⟨_, List.getElem?_eq_getElem (by omega)⟩
  have HS := Lib.hid (resumeS_ok hQ hf hx)
  have HFk := Lib.hid hf
  have HXk := Lib.hid hx
  have HXI := Lib.hid (hB.blk_in x (List.mem_of_getElem? hx)).2.2.1
  rw [hin, hu] at HH
  rw [hu] at HV
  have hl1 : (t.level == 0) = false := beq_eq_false_iff_ne.2 hl0
  have hl2' : ((t.blocks.length : Int) != t.level) = false := by simp [hl2]
  have hnf1 : ((t.frames.length : Int) == 0) = false := beq_eq_false_iff_ne.2 (by omega)
  have hle : t.frames.length ≤ 9223372036854775807 := by omega
  have hle2 : t.blocks.length ≤ 9223372036854775807 := by omega
  have hsub : IntKind.i64.wrap ((t.blocks.length : Int) - 1) = ((t.blocks.length - 1 : Nat) : Int) := by rw [IntWalk.i64_in _ (by omega)]; omega
  have hlt : ((t.blocks.length - 1 : Nat) : Int) < (t.blocks.length : Int) := by omega
  have hge : (0 : Int) ≤ ((t.blocks.length - 1 : Nat) : Int) := by omega
  clear hF hB hnf hnb hnr hnh hQ hl2 hl0 hin hf hx
  go_enter Tryz.func34, Tryz.ntmps34
  go_wp2_with (first | (first | ((with_reducible show Code.wp _ (Code.region _ (List.toArray ({ dst := _, op := Op.load 32 _, type := _, pos := _, after := _, guard := none } :: _)) false) _ _ _); refine wp_region_lit ?_; refine wpList_load_mid rfl 32 _ rfl _ _ rfl _ _ (by (repeat' (first | with_reducible assumption | ((with_reducible apply range_new); simp; done) | with_reducible apply range_old | with_reducible apply range_drew | ((with_reducible apply World.rangeAt_setCells_same) <;> (repeat' (first | with_reducible assumption | ((with_reducible apply there_new) <;> (simp; done)) | with_reducible apply there_old | with_reducible apply there_drew | with_reducible apply there_set | with_reducible apply there_sets | assumption))) | with_reducible apply range_same | ((with_reducible apply range_at) <;> first | omega | skip) | ((with_reducible apply range_other) <;> first | (simp; omega) | skip)))) Tryz.underlying32 rfl (by exact infoTsk) ?_; dsimp only [List.set_cons_zero, List.set_cons_succ]) | ((with_reducible show wpList _ _ _ ({ dst := _, op := Op.load 32 _, type := _, pos := _, after := _, guard := none } :: _) _ _); refine wpList_load_mid rfl 32 _ rfl _ _ rfl _ _ (by (repeat' (first | with_reducible assumption | ((with_reducible apply range_new); simp; done) | with_reducible apply range_old | with_reducible apply range_drew | ((with_reducible apply World.rangeAt_setCells_same) <;> (repeat' (first | with_reducible assumption | ((with_reducible apply there_new) <;> (simp; done)) | with_reducible apply there_old | with_reducible apply there_drew | with_reducible apply there_set | with_reducible apply there_sets | assumption))) | with_reducible apply range_same | ((with_reducible apply range_at) <;> first | omega | skip) | ((with_reducible apply range_other) <;> first | (simp; omega) | skip)))) Tryz.underlying32 rfl (by exact infoTsk) ?_; dsimp only [List.set_cons_zero, List.set_cons_succ])) | ((with_reducible show wpList _ _ _ ({ dst := _, op := Op.store 32 _ _, type := _, pos := _, after := _, guard := none } :: _) _ _); refine wpList_store_mid rfl 32 _ _ rfl _ _ _ rfl rfl (by (repeat' (first | with_reducible assumption | ((with_reducible apply there_new) <;> (simp; done)) | with_reducible apply there_old | with_reducible apply there_drew | with_reducible apply there_set | with_reducible apply there_sets | assumption))) infoTsk (all_oneCell_toArray (by simp [Value.oneCell'])) ?_; (try dsimp only [Act.put])) | (go_at_call 65; refine (HH.out _ (by repeat' (first | with_reducible assumption | with_reducible exact Ext.refl _ | with_reducible refine Ext.alloc ?_ _ | with_reducible refine Ext.drew ?_ | with_reducible refine Ext.drewN ?_ _ | with_reducible refine Ext.regrown ?_ _ _ | with_reducible refine Ext.setCell ?_ (by first | (simp; done) | (simp; omega)) _))).mono ?_; rintro e w1 ⟨rfl, hb⟩; have R1 := range_ext (b := w.heap.size) (o := 0) (by (repeat' (first | with_reducible assumption | ((with_reducible apply range_new); simp; done) | with_reducible apply range_old | with_reducible apply range_drew | ((with_reducible apply World.rangeAt_setCells_same) <;> (repeat' (first | with_reducible assumption | ((with_reducible apply there_new) <;> (simp; done)) | with_reducible apply there_old | with_reducible apply there_drew | with_reducible apply there_set | with_reducible apply there_sets | assumption))) | with_reducible apply range_same | ((with_reducible apply range_at) <;> first | omega | skip) | ((with_reducible apply range_other) <;> first | (simp; omega) | skip)))) hb; have T1 := there_ext (b := w.heap.size + 1) (o := 0) (n := 14) (by (repeat' (first | with_reducible assumption | ((with_reducible apply there_new) <;> (simp; done)) | with_reducible apply there_old | with_reducible apply there_drew | with_reducible apply there_set | with_reducible apply there_sets | assumption))) hb; have S1 := there_ext (b := w.heap.size) (o := 0) (n := 14) (by (repeat' (first | with_reducible assumption | ((with_reducible apply there_new) <;> (simp; done)) | with_reducible apply there_old | with_reducible apply there_drew | with_reducible apply there_set | with_reducible apply there_sets | assumption))) hb; obtain ⟨hc, hf, hs, he⟩ := Ext.use (w := w) hb (by repeat' (first | with_reducible assumption | with_reducible exact Ext.refl _ | with_reducible refine Ext.alloc ?_ _ | with_reducible refine Ext.drew ?_ | with_reducible refine Ext.drewN ?_ _ | with_reducible refine Ext.regrown ?_ _ _ | with_reducible refine Ext.setCell ?_ (by first | (simp; done) | (simp; omega)) _)); clear hb; (try simp only [World.size_alloc] at hs)) | (go_at_call 66; with_reducible refine (copied_any t _ w _ HV.out (by repeat' (first | with_reducible assumption | with_reducible exact Ext.refl _ | with_reducible refine Ext.alloc ?_ _ | with_reducible refine Ext.drew ?_ | with_reducible refine Ext.drewN ?_ _ | with_reducible refine Ext.regrown ?_ _ _ | with_reducible refine Ext.setCell ?_ (by first | (simp; done) | (simp; omega)) _)) HNF.out HNB.out HNR.out HNH.out).mono ?_; rintro e w2 ⟨VF, VB, rs, hs0, gs, rfl, hOF, hOB, hb⟩; have R2 := range_ext (b := w.heap.size) (o := 0) (by (repeat' (first | with_reducible assumption | ((with_reducible apply range_new); simp; done) | with_reducible apply range_old | with_reducible apply range_drew | ((with_reducible apply World.rangeAt_setCells_same) <;> (repeat' (first | with_reducible assumption | ((with_reducible apply there_new) <;> (simp; done)) | with_reducible apply there_old | with_reducible apply there_drew | with_reducible apply there_set | with_reducible apply there_sets | assumption))) | with_reducible apply range_same | ((with_reducible apply range_at) <;> first | omega | skip) | ((with_reducible apply range_other) <;> first | (simp; omega) | skip)))) hb; have T2 := there_ext (b := w.heap.size) (o := 0) (n := 14) (by (repeat' (first | with_reducible assumption | ((with_reducible apply there_new) <;> (simp; done)) | with_reducible apply there_old | with_reducible apply there_drew | with_reducible apply there_set | with_reducible apply there_sets | assumption))) hb; have U2 := there_ext (b := w.heap.size + 1) (o := 0) (n := 14) (by (repeat' (first | with_reducible assumption | ((with_reducible apply there_new) <;> (simp; done)) | with_reducible apply there_old | with_reducible apply there_drew | with_reducible apply there_set | with_reducible apply there_sets | assumption))) hb; have C2 := fun (vs : List Value) (hl : vs.length = 14) => setCells_cell T2 hl; have D2 := fun (vs : List Value) (a : Addr) => World.frozen?_setCells w.heap.size vs 0 w2 a; obtain ⟨hc2, hf2, hs2, he2⟩ := Ext.use (w := w) hb (by repeat' (first | with_reducible assumption | with_reducible exact Ext.refl _ | with_reducible refine Ext.alloc ?_ _ | with_reducible refine Ext.drew ?_ | with_reducible refine Ext.drewN ?_ _ | with_reducible refine Ext.regrown ?_ _ _ | with_reducible refine Ext.setCell ?_ (by first | (simp; done) | (simp; omega)) _)); have HOF := Lib.hid (hOF.base (B' := w.heap.size + 1 + 1) (by omega)); have HOB := Lib.hid (fun L hL => (hOB L hL).base (B' := w.heap.size + 1 + 1) (by omega)); obtain ⟨gF, cF, rfl, hgF⟩ := own_form HOF.out.row hnf0; obtain ⟨gB, cB, rfl, hgB⟩ := own_form (HOB.out [] (low_nil w)).row hnb0; clear hb hOF hOB))
  refine wp_hid2 ?_
  intro W4 HW4
  have hz1 : w.heap.size + 1 + 1 ≤ w2.heap.size := by omega
  have G4 : w2.grownBy W4 (some w.heap.size) := by rw [HW4.out]; refine World.grownBy.trans ?_ (grown_setCell _ _ _); refine World.grownBy.trans ?_ (grown_setCell _ _ _); exact setCells_grown _ _ _ _
  have HE4 : Hid (Ext w W4) := by rw [Hid, HW4.out]; exact ((he2.setCells (Nat.le_refl _) _ _).setCell (Nat.le_refl _) _).setCell (Nat.le_refl _) _
  have hz4 : w2.heap.size ≤ W4.heap.size := G4.size
  have U4 : W4.there (w.heap.size + 1) 0 14 := by rw [HW4.out]; exact there_set (there_set (there_sets U2))
  have R4 := range_same (k := 11) (u := Value.int .i64 0) (range_same (k := 10) (u := .bool false) (World.rangeAt_setCells_same w2 w.heap.size 0 [Value.int .i64 t.fn, Value.int .i64 t.scope, Value.int .i64 t.prio, Value.int .i64 t.status, Value.int .i64 t.wkind, Value.int .i64 t.windex, .bool t.wagain, .slice (some ⟨gF, 0, none⟩) t.frames.length cF, .slice (some ⟨gB, 0, none⟩) t.blocks.length cB, Value.int .i64 t.mask, .bool true, Value.int .i64 t.level, Value.int .i64 t.reason, Value.int .i64 t.result] T2))
  rw [← HW4.out] at R4
  dsimp only [List.set_cons_zero, List.set_cons_succ] at R4
  have HRL := HOF.out
  have LL : Low w (.slice (some ⟨w.heap.size, 0, none⟩) 0 0 :: .slice (some ⟨w.heap.size + 1, 0, none⟩) 0 0 :: .slice (some ⟨gF, 0, none⟩) t.frames.length cF :: []) := by
    intro r hr y hy
    simp only [List.mem_cons, List.not_mem_nil, or_false] at hr
    rcases hr with rfl | rfl | rfl <;> simp only [Value.ownBlock, Option.some.injEq] at hy <;> omega
  have HOB2 := HOB.out _ LL
  have HOF4 := HOF.out.far G4 (by omega)
  have HOB4 := HOB2.wrote G4 (own_ne HOB2.row (b := w.heap.size) (by omega)) (fun v hv => by
    obtain ⟨i, hi, rfl⟩ := List.getElem_of_mem hv
    exact own_ne (HOB2.hnd i _ _ _ (List.getElem?_eq_getElem (show i < t.blocks.length by rw [← HOB2.len]; exact hi)) (List.getElem?_eq_getElem hi) (List.getElem?_eq_getElem (show i < gs.length by rw [HOB2.alen, ← HOB2.len]; exact hi))).2 (b := w.heap.size) (by omega)) (List.mem_cons_self) rfl
  obtain ⟨v4, hv4⟩ : ∃ v, hs0[t.blocks.length - 1]? = some v := ⟨_, List.getElem?_eq_getElem (by rw [HOB4.len]; omega)⟩
  have x4 : W4.cell? ⟨gB, (t.blocks.length - 1) * 5 + 2, none⟩ = some (Value.int .i64 x.exit) := by
    rw [HOB4.row.cellAt _ (by omega), rowOf_get blkCells_len HXk.out hv4 (by omega)]; rfl
  have k4 : W4.cell? ⟨w.heap.size, 8, none⟩ = some (.slice (some ⟨gB, 0, none⟩) t.blocks.length cB) := R4 8 _ rfl
  obtain ⟨g', c', e', _, fzF, pcF, _⟩ := HOF4.set_pc (i := t.frames.length - 1) HFk.out
  injection e' with e1 e2 e3
  injection e1 with e1
  injection e1 with e1
  subst e1
  clear e2 e3
  have hne : ¬ gF = gB := by
    rcases apart_types HOF4.row HOB4.row (by decide) with e | e
    · simp [Value.ownBlock] at e
    · simpa [Value.ownBlock] using e
  have hne1 : ¬ gF = w.heap.size := by omega
  have hltF : gF < W4.heap.size := lt_of_cell pcF
  have hltB : gB < W4.heap.size := lt_of_cell x4
  have hlt0 : w.heap.size < W4.heap.size := by omega
  have q0 : W4.cell? ⟨w.heap.size, 0, none⟩ = some (Value.int .i64 t.fn) := R4 0 _ rfl
  have q1 : W4.cell? ⟨w.heap.size, 1, none⟩ = some (Value.int .i64 t.scope) := R4 1 _ rfl
  have q2 : W4.cell? ⟨w.heap.size, 2, none⟩ = some (Value.int .i64 t.prio) := R4 2 _ rfl
  have q3 : W4.cell? ⟨w.heap.size, 3, none⟩ = some (Value.int .i64 t.status) := R4 3 _ rfl
  have q4 : W4.cell? ⟨w.heap.size, 4, none⟩ = some (Value.int .i64 t.wkind) := R4 4 _ rfl
  have q5 : W4.cell? ⟨w.heap.size, 5, none⟩ = some (Value.int .i64 t.windex) := R4 5 _ rfl
  have q6 : W4.cell? ⟨w.heap.size, 6, none⟩ = some (.bool t.wagain) := R4 6 _ rfl
  have q7 : W4.cell? ⟨w.heap.size, 7, none⟩ = some (.slice (some ⟨gF, 0, none⟩) t.frames.length cF) := R4 7 _ rfl
  have q8 : W4.cell? ⟨w.heap.size, 8, none⟩ = some (.slice (some ⟨gB, 0, none⟩) t.blocks.length cB) := R4 8 _ rfl
  have q9 : W4.cell? ⟨w.heap.size, 9, none⟩ = some (Value.int .i64 t.mask) := R4 9 _ rfl
  have q10 : W4.cell? ⟨w.heap.size, 10, none⟩ = some (.bool false) := R4 10 _ rfl
  have q11 : W4.cell? ⟨w.heap.size, 11, none⟩ = some (Value.int .i64 0) := R4 11 _ rfl
  have q12 : W4.cell? ⟨w.heap.size, 12, none⟩ = some (Value.int .i64 t.reason) := R4 12 _ rfl
  have q13 : W4.cell? ⟨w.heap.size, 13, none⟩ = some (Value.int .i64 t.result) := R4 13 _ rfl
  have HOF4 := Lib.hid HOF4
  have HOB4 := Lib.hid HOB4
  clear HW4 C2 D2 hc2 hf2 R2 T2 U2 HOF HOB HOB2 HRL LL G4 hv4
  go_region_held3 (fun W' => W'.cell? ⟨w.heap.size, 0, none⟩ = some (Value.int .i64 t.fn) ∧ W'.cell? ⟨w.heap.size, 1, none⟩ = some (Value.int .i64 t.scope) ∧ W'.cell? ⟨w.heap.size, 2, none⟩ = some (Value.int .i64 t.prio) ∧ W'.cell? ⟨w.heap.size, 3, none⟩ = some (Value.int .i64 t.status) ∧ W'.cell? ⟨w.heap.size, 4, none⟩ = some (Value.int .i64 t.wkind) ∧ W'.cell? ⟨w.heap.size, 5, none⟩ = some (Value.int .i64 t.windex) ∧ W'.cell? ⟨w.heap.size, 6, none⟩ = some (.bool t.wagain) ∧ W'.cell? ⟨w.heap.size, 7, none⟩ = some (.slice (some ⟨gF, 0, none⟩) t.frames.length cF) ∧ W'.cell? ⟨w.heap.size, 8, none⟩ = some (.slice (some ⟨gB, 0, none⟩) t.blocks.length cB) ∧ W'.cell? ⟨w.heap.size, 9, none⟩ = some (Value.int .i64 t.mask) ∧ W'.cell? ⟨w.heap.size, 10, none⟩ = some (.bool false) ∧ W'.cell? ⟨w.heap.size, 11, none⟩ = some (Value.int .i64 0) ∧ W'.cell? ⟨w.heap.size, 12, none⟩ = some (Value.int .i64 t.reason) ∧ W'.cell? ⟨w.heap.size, 13, none⟩ = some (Value.int .i64 t.result) ∧ W'.cell? ⟨gB, (t.blocks.length - 1) * 5 + 2, none⟩ = some (Value.int .i64 x.exit))
    ((repeat' (with_reducible apply And.intro)) <;> (go_simp; done))
    ((go_at_call 75; refine (innermost_any _ _ _ _ _ _ _ _ _ _ _ _ _ gF 0 t.frames.length cF _ hnf0 (by have := HNF.out; omega)).mono ?_; rintro e w5 ⟨rfl, hb5⟩; have R5 := range_ext (b := w.heap.size) (o := 0) (by (repeat' (first | with_reducible assumption | ((with_reducible apply range_new); simp; done) | with_reducible apply range_old | with_reducible apply range_drew | ((with_reducible apply World.rangeAt_setCells_same) <;> (repeat' (first | with_reducible assumption | ((with_reducible apply there_new) <;> (simp; done)) | with_reducible apply there_old | with_reducible apply there_drew | with_reducible apply there_set | with_reducible apply there_sets | assumption))) | with_reducible apply range_same | ((with_reducible apply range_at) <;> first | omega | skip) | ((with_reducible apply range_other) <;> first | (simp; omega) | skip)))) hb5; obtain ⟨hc5, hf5, hs5, he5⟩ := Ext.use (w := W4) hb5 (by repeat' (first | with_reducible assumption | with_reducible exact Ext.refl _ | with_reducible refine Ext.alloc ?_ _ | with_reducible refine Ext.drew ?_ | with_reducible refine Ext.drewN ?_ _ | with_reducible refine Ext.regrown ?_ _ _ | with_reducible refine Ext.setCell ?_ (by first | (simp; done) | (simp; omega)) _)); clear hb5; (try simp only [World.size_drew] at hs5)))
  have HOF5 := HOF4.out.mono he5
  obtain ⟨g', c', e', _, _, _, hset⟩ := HOF5.set_pc (i := t.frames.length - 1) HFk.out
  injection e' with e1 e2 e3
  injection e1 with e1
  injection e1 with e1
  subst e1
  clear e2 e3
  obtain ⟨hset1, hset2⟩ := hset x.exit HXI.out
  have HOB5 := HOB4.out.mono he5
  have HOB6 := HOB5.wrote hset2 (.inr (fun e => hne (by simp only [Value.ownBlock, Option.some.injEq] at e; exact e.symm))) (HOB5.hnds_ne HOF5.row (by decide)) (List.mem_cons_of_mem _ (List.mem_cons_of_mem _ List.mem_cons_self)) rfl
  have U5 := there_ext U4 he5
  have finF : Hid (∀ vs, t.frames.length ≤ cF ∧ RSl 5 RFrm ((w5.setCell ⟨gF, (t.frames.length - 1) * 5 + 1, none⟩ (Value.int .i64 x.exit)).setCells (w.heap.size + 1) 0 vs) (some ⟨gF, 0, none⟩) t.frames.length (t.frames.set (t.frames.length - 1) { f with pc := x.exit })) := fun vs =>
    (OFr.reads' (hset1.far (setCells_grown (w.heap.size + 1) vs 0 _) (by omega)) (by rw [List.length_set]; exact HNF.out) (fun y hy => by
      rcases List.mem_or_eq_of_mem_set hy with h | rfl
      · exact HNR.out y h
      · exact HNR.out f (List.mem_of_getElem? HFk.out)))
  have finB : Hid (∀ vs, t.blocks.length ≤ cB ∧ RSl 5 RBlk ((w5.setCell ⟨gF, (t.frames.length - 1) * 5 + 1, none⟩ (Value.int .i64 x.exit)).setCells (w.heap.size + 1) 0 vs) (some ⟨gB, 0, none⟩) t.blocks.length t.blocks) := fun vs =>
    OBl.reads' (HOB6.wrote (setCells_grown (w.heap.size + 1) vs 0 _) (own_ne HOB6.row (by omega)) (HOB6.hnds_far (by omega)) (List.mem_cons_of_mem _ List.mem_cons_self) rfl) HNB.out HNH.out
  have HE6 : Hid (∀ vs, Ext w ((w5.setCell ⟨gF, (t.frames.length - 1) * 5 + 1, none⟩ (Value.int .i64 x.exit)).setCells (w.heap.size + 1) 0 vs)) := fun vs => ((HE4.out.trans he5).setCell (show w.heap.size ≤ gF by omega) _).setCells (by omega) 0 vs
  clear hset hset1 hset2 HOB5 HOB6 HOF5 HOF4 HOB4 hc5 hf5
  go_wp2_with (first | (first | ((with_reducible show Code.wp _ (Code.region _ (List.toArray ({ dst := _, op := Op.load 32 _, type := _, pos := _, after := _, guard := none } :: _)) false) _ _ _); refine wp_region_lit ?_; refine wpList_load_mid rfl 32 _ rfl _ _ rfl _ _ (by (repeat' (first | with_reducible assumption | ((with_reducible apply range_new); simp; done) | with_reducible apply range_old | with_reducible apply range_drew | ((with_reducible apply World.rangeAt_setCells_same) <;> (repeat' (first | with_reducible assumption | ((with_reducible apply there_new) <;> (simp; done)) | with_reducible apply there_old | with_reducible apply there_drew | with_reducible apply there_set | with_reducible apply there_sets | assumption))) | with_reducible apply range_same | ((with_reducible apply range_at) <;> first | omega | skip) | ((with_reducible apply range_other) <;> first | (simp; omega) | skip)))) Tryz.underlying32 rfl (by exact infoTsk) ?_; dsimp only [List.set_cons_zero, List.set_cons_succ]) | ((with_reducible show wpList _ _ _ ({ dst := _, op := Op.load 32 _, type := _, pos := _, after := _, guard := none } :: _) _ _); refine wpList_load_mid rfl 32 _ rfl _ _ rfl _ _ (by (repeat' (first | with_reducible assumption | ((with_reducible apply range_new); simp; done) | with_reducible apply range_old | with_reducible apply range_drew | ((with_reducible apply World.rangeAt_setCells_same) <;> (repeat' (first | with_reducible assumption | ((with_reducible apply there_new) <;> (simp; done)) | with_reducible apply there_old | with_reducible apply there_drew | with_reducible apply there_set | with_reducible apply there_sets | assumption))) | with_reducible apply range_same | ((with_reducible apply range_at) <;> first | omega | skip) | ((with_reducible apply range_other) <;> first | (simp; omega) | skip)))) Tryz.underlying32 rfl (by exact infoTsk) ?_; dsimp only [List.set_cons_zero, List.set_cons_succ])) | ((with_reducible show wpList _ _ _ ({ dst := _, op := Op.store 32 _ _, type := _, pos := _, after := _, guard := none } :: _) _ _); refine wpList_store_mid rfl 32 _ _ rfl _ _ _ rfl rfl (by (repeat' (first | with_reducible assumption | ((with_reducible apply there_new) <;> (simp; done)) | with_reducible apply there_old | with_reducible apply there_drew | with_reducible apply there_set | with_reducible apply there_sets | assumption))) infoTsk (all_oneCell_toArray (by simp [Value.oneCell'])) ?_; (try dsimp only [Act.put])))
  refine ret_range2 (b := w.heap.size + 1) Tryz.results34 rfl rfl rfl rfl (World.rangeAt_setCells_same _ _ 0 _ (by (repeat' (first | with_reducible assumption | ((with_reducible apply there_new) <;> (simp; done)) | with_reducible apply there_old | with_reducible apply there_drew | with_reducible apply there_set | with_reducible apply there_sets | assumption)))) ?_
  rw [HS.out]
  exact ⟨_, rfl, rtsk_of (t := { t with unw := false, level := 0, frames := t.frames.set (t.frames.length - 1) { f with pc := x.exit } }) ⟨HI.out.1, HI.out.2.1, HI.out.2.2.1, HI.out.2.2.2.1, HI.out.2.2.2.2.1, HI.out.2.2.2.2.2.1, HI.out.2.2.2.2.2.2.1, zero_in, HI.out.2.2.2.2.2.2.2.2.1, HI.out.2.2.2.2.2.2.2.2.2⟩ (finF.out _).2 (finF.out []).1 (finB.out _).2 (finB.out []).1, HE6.out _⟩
set_option maxRecDepth 4000 in
set_option maxHeartbeats 4000000 in
theorem resume_any (t : Tsk) (V : Value) (w : World) (hV : RTsk w t V) (hnf : t.frames.length ≤ 1000) (hnb : t.blocks.length ≤ 1000) (hnr : ∀ f : Frm, f ∈ t.frames → f.regs.length ≤ 1000) (hnh : ∀ b : Blk, b ∈ t.blocks → b.handlers.length ≤ 1000) :
    Calls Tryz.prog 34 #[V] w fun e w' => ∃ V', e = .returned (.tuple #[V', Value.int .i64 (resumeS t).2]) ∧ RTsk w' (resumeS t).1 V' ∧ Ext w w' := by
  have HV := Lib.hid hV
  have HI := Lib.hid hV.inr
  have HH := Lib.hid (fun W h => handles_any t V W (hV.mono h))
  have HNR := Lib.hid hnr
  have HNH := Lib.hid hnh
  have HNF := Lib.hid hnf
  have HNB := Lib.hid hnb
  obtain ⟨Af, nf, cf, Ab, nb, cb, rfl, _, _, _, _, _, _, _, _, _, _, hF, hB, hcf, hcb⟩ := hV
  have LB := Lib.hid hB.len
  have LF := Lib.hid hF.len
  have hle := hF.le
  have hle2 := hB.le
  have HF := Lib.hid hF
  have HB := Lib.hid hB
  clear hF hB hnf hnb hnr hnh
  cases hu : t.unw with
  | false =>
    have HS : Hid (resumeS t = (zeroTsk, 17)) := resumeS_err (.inl hu)
    go_enter Tryz.func34, Tryz.ntmps34
    go_wp2_with (first | (first | ((with_reducible show Code.wp _ (Code.region _ (List.toArray ({ dst := _, op := Op.load 32 _, type := _, pos := _, after := _, guard := none } :: _)) false) _ _ _); refine wp_region_lit ?_; refine wpList_load_mid rfl 32 _ rfl _ _ rfl _ _ (by (repeat' (first | with_reducible assumption | ((with_reducible apply range_new); simp; done) | with_reducible apply range_old | with_reducible apply range_drew | ((with_reducible apply World.rangeAt_setCells_same) <;> (repeat' (first | with_reducible assumption | ((with_reducible apply there_new) <;> (simp; done)) | with_reducible apply there_old | with_reducible apply there_drew | with_reducible apply there_set | with_reducible apply there_sets | assumption))) | with_reducible apply range_same | ((with_reducible apply range_at) <;> first | omega | skip) | ((with_reducible apply range_other) <;> first | (simp; omega) | skip)))) Tryz.underlying32 rfl (by exact infoTsk) ?_; dsimp only [List.set_cons_zero, List.set_cons_succ]) | ((with_reducible show wpList _ _ _ ({ dst := _, op := Op.load 32 _, type := _, pos := _, after := _, guard := none } :: _) _ _); refine wpList_load_mid rfl 32 _ rfl _ _ rfl _ _ (by (repeat' (first | with_reducible assumption | ((with_reducible apply range_new); simp; done) | with_reducible apply range_old | with_reducible apply range_drew | ((with_reducible apply World.rangeAt_setCells_same) <;> (repeat' (first | with_reducible assumption | ((with_reducible apply there_new) <;> (simp; done)) | with_reducible apply there_old | with_reducible apply there_drew | with_reducible apply there_set | with_reducible apply there_sets | assumption))) | with_reducible apply range_same | ((with_reducible apply range_at) <;> first | omega | skip) | ((with_reducible apply range_other) <;> first | (simp; omega) | skip)))) Tryz.underlying32 rfl (by exact infoTsk) ?_; dsimp only [List.set_cons_zero, List.set_cons_succ])) | ((with_reducible show wpList _ _ _ ({ dst := _, op := Op.store 32 _ _, type := _, pos := _, after := _, guard := none } :: _) _ _); refine wpList_store_mid rfl 32 _ _ rfl _ _ _ rfl rfl (by (repeat' (first | with_reducible assumption | ((with_reducible apply there_new) <;> (simp; done)) | with_reducible apply there_old | with_reducible apply there_drew | with_reducible apply there_set | with_reducible apply there_sets | assumption))) infoTsk (all_oneCell_toArray (by simp [Value.oneCell'])) ?_; (try dsimp only [Act.put])))
    refine ret_range2 (b := w.heap.size + 1) Tryz.results34 rfl rfl rfl rfl (World.rangeAt_setCells_same _ _ 0 _ (by (repeat' (first | with_reducible assumption | ((with_reducible apply there_new) <;> (simp; done)) | with_reducible apply there_old | with_reducible apply there_drew | with_reducible apply there_set | with_reducible apply there_sets | assumption)))) ?_
    rw [HS.out]
    exact ⟨_, rfl, zero_reads _, (by repeat' (first | with_reducible assumption | with_reducible refine Ext.setCells ?_ (by first | omega | (simp; done) | (simp; omega)) _ _ | with_reducible exact Ext.refl _ | with_reducible refine Ext.alloc ?_ _ | with_reducible refine Ext.drew ?_ | with_reducible refine Ext.drewN ?_ _ | with_reducible refine Ext.regrown ?_ _ _ | with_reducible refine Ext.setCell ?_ (by first | (simp; done) | (simp; omega)) _))⟩
  | true =>
    rw [hu] at HH HV
    have HU := Lib.hid hu
    by_cases hl0 : t.level = 0
    · have HS : Hid (resumeS t = (zeroTsk, 17)) := resumeS_err (.inr (.inl hl0))
      go_enter Tryz.func34, Tryz.ntmps34
      go_wp2_with (first | (first | ((with_reducible show Code.wp _ (Code.region _ (List.toArray ({ dst := _, op := Op.load 32 _, type := _, pos := _, after := _, guard := none } :: _)) false) _ _ _); refine wp_region_lit ?_; refine wpList_load_mid rfl 32 _ rfl _ _ rfl _ _ (by (repeat' (first | with_reducible assumption | ((with_reducible apply range_new); simp; done) | with_reducible apply range_old | with_reducible apply range_drew | ((with_reducible apply World.rangeAt_setCells_same) <;> (repeat' (first | with_reducible assumption | ((with_reducible apply there_new) <;> (simp; done)) | with_reducible apply there_old | with_reducible apply there_drew | with_reducible apply there_set | with_reducible apply there_sets | assumption))) | with_reducible apply range_same | ((with_reducible apply range_at) <;> first | omega | skip) | ((with_reducible apply range_other) <;> first | (simp; omega) | skip)))) Tryz.underlying32 rfl (by exact infoTsk) ?_; dsimp only [List.set_cons_zero, List.set_cons_succ]) | ((with_reducible show wpList _ _ _ ({ dst := _, op := Op.load 32 _, type := _, pos := _, after := _, guard := none } :: _) _ _); refine wpList_load_mid rfl 32 _ rfl _ _ rfl _ _ (by (repeat' (first | with_reducible assumption | ((with_reducible apply range_new); simp; done) | with_reducible apply range_old | with_reducible apply range_drew | ((with_reducible apply World.rangeAt_setCells_same) <;> (repeat' (first | with_reducible assumption | ((with_reducible apply there_new) <;> (simp; done)) | with_reducible apply there_old | with_reducible apply there_drew | with_reducible apply there_set | with_reducible apply there_sets | assumption))) | with_reducible apply range_same | ((with_reducible apply range_at) <;> first | omega | skip) | ((with_reducible apply range_other) <;> first | (simp; omega) | skip)))) Tryz.underlying32 rfl (by exact infoTsk) ?_; dsimp only [List.set_cons_zero, List.set_cons_succ])) | ((with_reducible show wpList _ _ _ ({ dst := _, op := Op.store 32 _ _, type := _, pos := _, after := _, guard := none } :: _) _ _); refine wpList_store_mid rfl 32 _ _ rfl _ _ _ rfl rfl (by (repeat' (first | with_reducible assumption | ((with_reducible apply there_new) <;> (simp; done)) | with_reducible apply there_old | with_reducible apply there_drew | with_reducible apply there_set | with_reducible apply there_sets | assumption))) infoTsk (all_oneCell_toArray (by simp [Value.oneCell'])) ?_; (try dsimp only [Act.put])))
      refine ret_range2 (b := w.heap.size + 1) Tryz.results34 rfl rfl rfl rfl (World.rangeAt_setCells_same _ _ 0 _ (by (repeat' (first | with_reducible assumption | ((with_reducible apply there_new) <;> (simp; done)) | with_reducible apply there_old | with_reducible apply there_drew | with_reducible apply there_set | with_reducible apply there_sets | assumption)))) ?_
      rw [HS.out]
      exact ⟨_, rfl, zero_reads _, (by repeat' (first | with_reducible assumption | with_reducible refine Ext.setCells ?_ (by first | omega | (simp; done) | (simp; omega)) _ _ | with_reducible exact Ext.refl _ | with_reducible refine Ext.alloc ?_ _ | with_reducible refine Ext.drew ?_ | with_reducible refine Ext.drewN ?_ _ | with_reducible refine Ext.regrown ?_ _ _ | with_reducible refine Ext.setCell ?_ (by first | (simp; done) | (simp; omega)) _))⟩
    have hl1 : (t.level == 0) = false := beq_eq_false_iff_ne.2 hl0
    by_cases hl2 : (nb : Int) = t.level
    rotate_left
    · have HS : Hid (resumeS t = (zeroTsk, 17)) := resumeS_err (.inr (.inr (.inl (by rw [← LB.out]; exact hl2))))
      have hl2' : ((nb : Int) != t.level) = true := by simpa using hl2
      go_enter Tryz.func34, Tryz.ntmps34
      go_wp2_with (first | (first | ((with_reducible show Code.wp _ (Code.region _ (List.toArray ({ dst := _, op := Op.load 32 _, type := _, pos := _, after := _, guard := none } :: _)) false) _ _ _); refine wp_region_lit ?_; refine wpList_load_mid rfl 32 _ rfl _ _ rfl _ _ (by (repeat' (first | with_reducible assumption | ((with_reducible apply range_new); simp; done) | with_reducible apply range_old | with_reducible apply range_drew | ((with_reducible apply World.rangeAt_setCells_same) <;> (repeat' (first | with_reducible assumption | ((with_reducible apply there_new) <;> (simp; done)) | with_reducible apply there_old | with_reducible apply there_drew | with_reducible apply there_set | with_reducible apply there_sets | assumption))) | with_reducible apply range_same | ((with_reducible apply range_at) <;> first | omega | skip) | ((with_reducible apply range_other) <;> first | (simp; omega) | skip)))) Tryz.underlying32 rfl (by exact infoTsk) ?_; dsimp only [List.set_cons_zero, List.set_cons_succ]) | ((with_reducible show wpList _ _ _ ({ dst := _, op := Op.load 32 _, type := _, pos := _, after := _, guard := none } :: _) _ _); refine wpList_load_mid rfl 32 _ rfl _ _ rfl _ _ (by (repeat' (first | with_reducible assumption | ((with_reducible apply range_new); simp; done) | with_reducible apply range_old | with_reducible apply range_drew | ((with_reducible apply World.rangeAt_setCells_same) <;> (repeat' (first | with_reducible assumption | ((with_reducible apply there_new) <;> (simp; done)) | with_reducible apply there_old | with_reducible apply there_drew | with_reducible apply there_set | with_reducible apply there_sets | assumption))) | with_reducible apply range_same | ((with_reducible apply range_at) <;> first | omega | skip) | ((with_reducible apply range_other) <;> first | (simp; omega) | skip)))) Tryz.underlying32 rfl (by exact infoTsk) ?_; dsimp only [List.set_cons_zero, List.set_cons_succ])) | ((with_reducible show wpList _ _ _ ({ dst := _, op := Op.store 32 _ _, type := _, pos := _, after := _, guard := none } :: _) _ _); refine wpList_store_mid rfl 32 _ _ rfl _ _ _ rfl rfl (by (repeat' (first | with_reducible assumption | ((with_reducible apply there_new) <;> (simp; done)) | with_reducible apply there_old | with_reducible apply there_drew | with_reducible apply there_set | with_reducible apply there_sets | assumption))) infoTsk (all_oneCell_toArray (by simp [Value.oneCell'])) ?_; (try dsimp only [Act.put])))
      refine ret_range2 (b := w.heap.size + 1) Tryz.results34 rfl rfl rfl rfl (World.rangeAt_setCells_same _ _ 0 _ (by (repeat' (first | with_reducible assumption | ((with_reducible apply there_new) <;> (simp; done)) | with_reducible apply there_old | with_reducible apply there_drew | with_reducible apply there_set | with_reducible apply there_sets | assumption)))) ?_
      rw [HS.out]
      exact ⟨_, rfl, zero_reads _, (by repeat' (first | with_reducible assumption | with_reducible refine Ext.setCells ?_ (by first | omega | (simp; done) | (simp; omega)) _ _ | with_reducible exact Ext.refl _ | with_reducible refine Ext.alloc ?_ _ | with_reducible refine Ext.drew ?_ | with_reducible refine Ext.drewN ?_ _ | with_reducible refine Ext.regrown ?_ _ _ | with_reducible refine Ext.setCell ?_ (by first | (simp; done) | (simp; omega)) _))⟩
    rcases Nat.eq_zero_or_pos nf with h0 | h0
    · subst h0
      have HS : Hid (resumeS t = (zeroTsk, 17)) := resumeS_err (.inr (.inr (.inr (.inl LF.out.symm))))
      go_enter Tryz.func34, Tryz.ntmps34
      go_wp2_with (first | (first | ((with_reducible show Code.wp _ (Code.region _ (List.toArray ({ dst := _, op := Op.load 32 _, type := _, pos := _, after := _, guard := none } :: _)) false) _ _ _); refine wp_region_lit ?_; refine wpList_load_mid rfl 32 _ rfl _ _ rfl _ _ (by (repeat' (first | with_reducible assumption | ((with_reducible apply range_new); simp; done) | with_reducible apply range_old | with_reducible apply range_drew | ((with_reducible apply World.rangeAt_setCells_same) <;> (repeat' (first | with_reducible assumption | ((with_reducible apply there_new) <;> (simp; done)) | with_reducible apply there_old | with_reducible apply there_drew | with_reducible apply there_set | with_reducible apply there_sets | assumption))) | with_reducible apply range_same | ((with_reducible apply range_at) <;> first | omega | skip) | ((with_reducible apply range_other) <;> first | (simp; omega) | skip)))) Tryz.underlying32 rfl (by exact infoTsk) ?_; dsimp only [List.set_cons_zero, List.set_cons_succ]) | ((with_reducible show wpList _ _ _ ({ dst := _, op := Op.load 32 _, type := _, pos := _, after := _, guard := none } :: _) _ _); refine wpList_load_mid rfl 32 _ rfl _ _ rfl _ _ (by (repeat' (first | with_reducible assumption | ((with_reducible apply range_new); simp; done) | with_reducible apply range_old | with_reducible apply range_drew | ((with_reducible apply World.rangeAt_setCells_same) <;> (repeat' (first | with_reducible assumption | ((with_reducible apply there_new) <;> (simp; done)) | with_reducible apply there_old | with_reducible apply there_drew | with_reducible apply there_set | with_reducible apply there_sets | assumption))) | with_reducible apply range_same | ((with_reducible apply range_at) <;> first | omega | skip) | ((with_reducible apply range_other) <;> first | (simp; omega) | skip)))) Tryz.underlying32 rfl (by exact infoTsk) ?_; dsimp only [List.set_cons_zero, List.set_cons_succ])) | ((with_reducible show wpList _ _ _ ({ dst := _, op := Op.store 32 _ _, type := _, pos := _, after := _, guard := none } :: _) _ _); refine wpList_store_mid rfl 32 _ _ rfl _ _ _ rfl rfl (by (repeat' (first | with_reducible assumption | ((with_reducible apply there_new) <;> (simp; done)) | with_reducible apply there_old | with_reducible apply there_drew | with_reducible apply there_set | with_reducible apply there_sets | assumption))) infoTsk (all_oneCell_toArray (by simp [Value.oneCell'])) ?_; (try dsimp only [Act.put])))
      refine ret_range2 (b := w.heap.size + 1) Tryz.results34 rfl rfl rfl rfl (World.rangeAt_setCells_same _ _ 0 _ (by (repeat' (first | with_reducible assumption | ((with_reducible apply there_new) <;> (simp; done)) | with_reducible apply there_old | with_reducible apply there_drew | with_reducible apply there_set | with_reducible apply there_sets | assumption)))) ?_
      rw [HS.out]
      exact ⟨_, rfl, zero_reads _, (by repeat' (first | with_reducible assumption | with_reducible refine Ext.setCells ?_ (by first | omega | (simp; done) | (simp; omega)) _ _ | with_reducible exact Ext.refl _ | with_reducible refine Ext.alloc ?_ _ | with_reducible refine Ext.drew ?_ | with_reducible refine Ext.drewN ?_ _ | with_reducible refine Ext.regrown ?_ _ _ | with_reducible refine Ext.setCell ?_ (by first | (simp; done) | (simp; omega)) _))⟩
    have hnf0 : ¬ (nf : Int) = 0 := by omega
    have hnf1 : ((nf : Int) == 0) = false := beq_eq_false_iff_ne.2 hnf0
    cases hin : inHand t with
    | true =>
      have HS : Hid (resumeS t = (zeroTsk, 17)) := resumeS_err (.inr (.inr (.inr (.inr hin))))
      rw [hin] at HH
      clear hin
      go_enter Tryz.func34, Tryz.ntmps34
      go_wp2_with (first | (first | ((with_reducible show Code.wp _ (Code.region _ (List.toArray ({ dst := _, op := Op.load 32 _, type := _, pos := _, after := _, guard := none } :: _)) false) _ _ _); refine wp_region_lit ?_; refine wpList_load_mid rfl 32 _ rfl _ _ rfl _ _ (by (repeat' (first | with_reducible assumption | ((with_reducible apply range_new); simp; done) | with_reducible apply range_old | with_reducible apply range_drew | ((with_reducible apply World.rangeAt_setCells_same) <;> (repeat' (first | with_reducible assumption | ((with_reducible apply there_new) <;> (simp; done)) | with_reducible apply there_old | with_reducible apply there_drew | with_reducible apply there_set | with_reducible apply there_sets | assumption))) | with_reducible apply range_same | ((with_reducible apply range_at) <;> first | omega | skip) | ((with_reducible apply range_other) <;> first | (simp; omega) | skip)))) Tryz.underlying32 rfl (by exact infoTsk) ?_; dsimp only [List.set_cons_zero, List.set_cons_succ]) | ((with_reducible show wpList _ _ _ ({ dst := _, op := Op.load 32 _, type := _, pos := _, after := _, guard := none } :: _) _ _); refine wpList_load_mid rfl 32 _ rfl _ _ rfl _ _ (by (repeat' (first | with_reducible assumption | ((with_reducible apply range_new); simp; done) | with_reducible apply range_old | with_reducible apply range_drew | ((with_reducible apply World.rangeAt_setCells_same) <;> (repeat' (first | with_reducible assumption | ((with_reducible apply there_new) <;> (simp; done)) | with_reducible apply there_old | with_reducible apply there_drew | with_reducible apply there_set | with_reducible apply there_sets | assumption))) | with_reducible apply range_same | ((with_reducible apply range_at) <;> first | omega | skip) | ((with_reducible apply range_other) <;> first | (simp; omega) | skip)))) Tryz.underlying32 rfl (by exact infoTsk) ?_; dsimp only [List.set_cons_zero, List.set_cons_succ])) | ((with_reducible show wpList _ _ _ ({ dst := _, op := Op.store 32 _ _, type := _, pos := _, after := _, guard := none } :: _) _ _); refine wpList_store_mid rfl 32 _ _ rfl _ _ _ rfl rfl (by (repeat' (first | with_reducible assumption | ((with_reducible apply there_new) <;> (simp; done)) | with_reducible apply there_old | with_reducible apply there_drew | with_reducible apply there_set | with_reducible apply there_sets | assumption))) infoTsk (all_oneCell_toArray (by simp [Value.oneCell'])) ?_; (try dsimp only [Act.put])) | (go_at_call 65; refine (HH.out _ (by repeat' (first | with_reducible assumption | with_reducible exact Ext.refl _ | with_reducible refine Ext.alloc ?_ _ | with_reducible refine Ext.drew ?_ | with_reducible refine Ext.drewN ?_ _ | with_reducible refine Ext.regrown ?_ _ _ | with_reducible refine Ext.setCell ?_ (by first | (simp; done) | (simp; omega)) _))).mono ?_; rintro e w1 ⟨rfl, hb⟩; have R1 := range_ext (b := w.heap.size) (o := 0) (by (repeat' (first | with_reducible assumption | ((with_reducible apply range_new); simp; done) | with_reducible apply range_old | with_reducible apply range_drew | ((with_reducible apply World.rangeAt_setCells_same) <;> (repeat' (first | with_reducible assumption | ((with_reducible apply there_new) <;> (simp; done)) | with_reducible apply there_old | with_reducible apply there_drew | with_reducible apply there_set | with_reducible apply there_sets | assumption))) | with_reducible apply range_same | ((with_reducible apply range_at) <;> first | omega | skip) | ((with_reducible apply range_other) <;> first | (simp; omega) | skip)))) hb; have T1 := there_ext (b := w.heap.size + 1) (o := 0) (n := 14) (by (repeat' (first | with_reducible assumption | ((with_reducible apply there_new) <;> (simp; done)) | with_reducible apply there_old | with_reducible apply there_drew | with_reducible apply there_set | with_reducible apply there_sets | assumption))) hb; have S1 := there_ext (b := w.heap.size) (o := 0) (n := 14) (by (repeat' (first | with_reducible assumption | ((with_reducible apply there_new) <;> (simp; done)) | with_reducible apply there_old | with_reducible apply there_drew | with_reducible apply there_set | with_reducible apply there_sets | assumption))) hb; obtain ⟨hc, hf, hs, he⟩ := Ext.use (w := w) hb (by repeat' (first | with_reducible assumption | with_reducible exact Ext.refl _ | with_reducible refine Ext.alloc ?_ _ | with_reducible refine Ext.drew ?_ | with_reducible refine Ext.drewN ?_ _ | with_reducible refine Ext.regrown ?_ _ _ | with_reducible refine Ext.setCell ?_ (by first | (simp; done) | (simp; omega)) _)); clear hb; (try simp only [World.size_alloc] at hs)))
      refine ret_range2 (b := w.heap.size + 1) Tryz.results34 rfl rfl rfl rfl (World.rangeAt_setCells_same _ _ 0 _ (by (repeat' (first | with_reducible assumption | ((with_reducible apply there_new) <;> (simp; done)) | with_reducible apply there_old | with_reducible apply there_drew | with_reducible apply there_set | with_reducible apply there_sets | assumption)))) ?_
      rw [HS.out]
      exact ⟨_, rfl, zero_reads _, (by repeat' (first | with_reducible assumption | with_reducible refine Ext.setCells ?_ (by first | omega | (simp; done) | (simp; omega)) _ _ | with_reducible exact Ext.refl _ | with_reducible refine Ext.alloc ?_ _ | with_reducible refine Ext.drew ?_ | with_reducible refine Ext.drewN ?_ _ | with_reducible refine Ext.regrown ?_ _ _ | with_reducible refine Ext.setCell ?_ (by first | (simp; done) | (simp; omega)) _))⟩
    | false =>
      have HQ : Hid (¬ badR t) := by
        rintro (h | h | h | h | h)
        · rw [hu] at h; cases h
        · exact hl0 h
        · rw [← LB.out] at h; exact h hl2
        · have := LF.out; omega
        · rw [hin] at h; cases h
      rw [hin] at HH
      clear hin
      exact resume_ok t _ w HV.out HNF.out HNB.out HNR.out HNH.out HQ.out
end Go.Proofs.YtcjjoabofecjmaaGreat
