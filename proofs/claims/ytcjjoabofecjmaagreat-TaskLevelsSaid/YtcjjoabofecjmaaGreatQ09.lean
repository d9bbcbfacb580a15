/- A part of the proof: reg and set of a runner; The operations of a runner that write a register, or jump; A region that draws its order, in which one call panics whatever went before it; The operations of a runner on two registers; The functions that the operators are made of; product of package task; binary and divided of package task; A whole task loaded in a region that draws its order; The operations of a runner that move the counter; The operations of a runner that test a register. -/
import Derived.Test.YtcjjoabofecjmaaGreatQ08
import Derived.Test.YtcjjoabofecjmaaGreatQ04
import Derived.Test.YtcjjoabofecjmaaGreatQ02
set_option linter.unusedVariables false
set_option linter.unusedSimpArgs false
namespace Go.Proofs.YtcjjoabofecjmaaGreat
open Go.RowKit
theorem RunSt.top {X : List Value} {B R : Nat} {P3 : List Value} {w : World} {t : Tsk} {n : Int} {VF VB : Value} {rs hs : List Value} {gs : List (List Value)} (h : RunSt X B R P3 w t n VF VB rs hs gs) {f : Frm} (hf : topF t = some f) :
    ∃ gF cF v, VF = .slice (some ⟨gF, 0, none⟩) t.frames.length cF ∧ rs[t.frames.length - 1]? = some v ∧ 0 < t.frames.length ∧ gF < w.heap.size ∧ (∃ A c, v = .slice A f.regs.length c ∧ f.regs.length ≤ c) ∧
      w.cell? ⟨gF, (t.frames.length - 1) * 5, none⟩ = some (Value.int .i64 f.fn) ∧ w.cell? ⟨gF, (t.frames.length - 1) * 5 + 1, none⟩ = some (Value.int .i64 f.pc) ∧ w.cell? ⟨gF, (t.frames.length - 1) * 5 + 2, none⟩ = some v ∧
      w.cell? ⟨gF, (t.frames.length - 1) * 5 + 3, none⟩ = some (Value.int .i64 f.result) ∧ w.cell? ⟨gF, (t.frames.length - 1) * 5 + 4, none⟩ = some (.bool f.cleanup) := by
  unfold topF at hf
  have hl := (List.getElem?_eq_some_iff.1 hf).1
  obtain ⟨v, hv⟩ : ∃ v, rs[t.frames.length - 1]? = some v := ⟨_, List.getElem?_eq_getElem (by rw [h.fr.len]; exact hl)⟩
  obtain ⟨gF, cF, rfl, _⟩ := own_form h.fr.row (by omega)
  have hcell := fun (j : Nat) (hj : j < 5) => (h.fr.row.cellAt ((t.frames.length - 1) * 5 + j) (by omega)).trans (rowOf_get frmCells_len hf hv hj)
  obtain ⟨A, c, e, hc, _⟩ := ownsRow_shape (h.fr.reg _ f v hf hv)
  exact ⟨gF, cF, v, rfl, hv, by omega, lt_of_cell (hcell 0 (by omega)), ⟨A, c, e, hc⟩, hcell 0 (by omega), hcell 1 (by omega), hcell 2 (by omega), hcell 3 (by omega), hcell 4 (by omega)⟩
theorem RunSt.reg_cell {X : List Value} {B R : Nat} {P3 : List Value} {w : World} {t : Tsk} {n : Int} {VF VB v : Value} {rs hs : List Value} {gs : List (List Value)} (h : RunSt X B R P3 w t n VF VB rs hs gs) {f : Frm} {i k : Nat} {x : Int} (hf : t.frames[i]? = some f) (hv : rs[i]? = some v) (hk : f.regs[k]? = some x) :
    ∃ g c, v = .slice (some ⟨g, 0, none⟩) f.regs.length c ∧ g < w.heap.size ∧ w.cell? ⟨g, k, none⟩ = some (Value.int .i64 x) := by
  have hl := (List.getElem?_eq_some_iff.1 hk).1
  have hr := h.fr.reg i f v hf hv
  obtain ⟨g, c, rfl, _⟩ := own_form hr (by omega)
  have hc := hr.cellAt k (by omega)
  rw [List.getElem?_map, hk] at hc
  exact ⟨g, c, rfl, lt_of_cell hc, hc⟩
set_option maxRecDepth 4000 in
set_option maxHeartbeats 4000000 in
theorem reg_any {X : List Value} {B R : Nat} {P3 : List Value} {w : World} {t : Tsk} {n : Int} {VF VB : Value} {rs hs : List Value} {gs : List (List Value)} (h : RunSt X B R P3 w t n VF VB rs hs gs) {f : Frm} (hf : topF t = some f) (k : Nat) (x : Int) (hk : f.regs[k]? = some x) (hl : t.frames.length ≤ 1000) (hr : f.regs.length ≤ 1000) :
    Calls Tryz.prog 125 #[.pointer (some ⟨R, 0, none⟩), Value.int .i64 k] w fun e w' => e = .returned (Value.int .i64 x) ∧ Ext w w' := by
  have hlR := h.lt.2
  have R1 := h.task
  obtain ⟨gF, cF, v, rfl, hv, hpos, hgF, _, c0, c1, c2, c3, c4⟩ := h.top hf
  obtain ⟨gr, cr, rfl, hgr, x0⟩ := h.reg_cell hf hv hk
  have hkl := (List.getElem?_eq_some_iff.1 hk).1
  have hkz : (k : Int) < (f.regs.length : Int) := by omega
  unfold tskL at R1
  clear h hf hv hk
  obtain ⟨N, hN⟩ : ∃ N, t.frames.length = N := ⟨_, rfl⟩
  obtain ⟨M, hM⟩ : ∃ M, f.regs.length = M := ⟨_, rfl⟩
  rw [hN] at R1 c0 c1 c2 c3 c4 hpos hl
  rw [hM] at c2 hkz hr
  clear hN hM hkl
  go_enter Tryz.func125, Tryz.ntmps125
  go_wp2_with (first | ((first | ((with_reducible show Code.wp _ (Code.region _ (List.toArray ({ dst := _, op := Op.load 32 _, type := _, pos := _, after := _, guard := none } :: _)) false) _ _ _); refine wp_region_lit ?_) | (with_reducible show wpList _ _ _ ({ dst := _, op := Op.load 32 _, type := _, pos := _, after := _, guard := none } :: _) _ _)); refine wpList_load_mid rfl 32 _ rfl _ _ rfl _ _ (by exact rg) Tryz.underlying32 rfl (by exact infoTsk) ?_; dsimp only [dZ, dS]) | (go_at_call 75; refine (innermost_any _ _ _ _ _ _ _ _ _ _ _ _ _ gF 0 N cF _ hpos (by omega)).mono ?_; rintro e w1 ⟨rfl, hb⟩; obtain ⟨hc, hf, hs, he⟩ := Ext.use (w := w) hb xt; clear hb; (try simp only [sA, sC, sD, sN] at hs)))
  go_ret
  exact ⟨rfl, xt⟩
def failV (r : Int) : List PanicEntry := [{ v := .iface 121 (Value.int .i64 r), recovered := false }]
set_option maxRecDepth 4000 in
set_option maxHeartbeats 4000000 in
theorem set_bad (R : Nat) (i x : Int) (w : World) (hx : numB x = false) :
    Calls Tryz.prog 123 #[.pointer (some ⟨R, 0, none⟩), Value.int .i64 i, Value.int .i64 x] w fun e w' => e = .panicked (failV 5) ∧ Ext w w' := by
  have HO := Lib.hid (fun W => (show Calls Tryz.prog 59 #[Value.int .i64 x] W fun e w' => e = .returned (.bool true) ∧ W = w' by have := outside_any x W; rw [hx] at this; exact this))
  clear hx
  go_enter Tryz.func123, Tryz.ntmps123
  go_wp2_with (go_at_call 59; refine (HO.out _).mono ?_; rintro e w' ⟨rfl, rfl⟩)
  exact ⟨rfl, rfl, xt⟩
theorem top_rows {X : List Value} {B R : Nat} {P3 : List Value} {w : World} {t : Tsk} {n : Int} {VF VB v : Value} {rs hs : List Value} {gs : List (List Value)} (h : RunSt X B R P3 w t n VF VB rs hs gs) {f : Frm} {i : Nat} (hf : t.frames[i]? = some f) (hv : rs[i]? = some v) {g g2 c c2 m m2 : Nat} (h1 : v = .slice (some ⟨g, 0, none⟩) m c) (h2 : VF = .slice (some ⟨g2, 0, none⟩) m2 c2) : ¬ g = g2 := fun e => by
  have := apart_types (h.fr.reg i f v hf hv) h.fr.row (by decide)
  subst h1 h2 e
  rcases this with h | h
  · cases h
  · exact h rfl
set_option maxRecDepth 4000 in
set_option maxHeartbeats 4000000 in
theorem set_ok {X : List Value} {B R : Nat} {P3 : List Value} {w : World} {t : Tsk} {n : Int} {VF VB : Value} {rs hs : List Value} {gs : List (List Value)} (h : RunSt X B R P3 w t n VF VB rs hs gs) {f : Frm} (hf : topF t = some f) (k : Nat) (x : Int) (hk : k < f.regs.length) (hl : t.frames.length ≤ 1000) (hr : f.regs.length ≤ 1000) (hx : numB x = true) (hpc : 0 ≤ f.pc ∧ f.pc ≤ 1000) :
    Calls Tryz.prog 123 #[.pointer (some ⟨R, 0, none⟩), Value.int .i64 k, Value.int .i64 x] w fun e w' => e = .returned (.tuple #[]) ∧ RunSt X B R P3 w' (setTop t { f with regs := f.regs.set k x, pc := f.pc + 1 }) n VF VB rs hs gs ∧ Kept B w w' := by
  have HO := Lib.hid (fun W => (show Calls Tryz.prog 59 #[Value.int .i64 x] W fun e w' => e = .returned (.bool false) ∧ W = w' by have := outside_any x W; rw [hx] at this; exact this))
  have hlR := h.lt.2
  have HBW : Hid (B ≤ w.heap.size) := by have := h.lt; rw [Hid]; omega
  have R1 := h.task
  have HX : Hid (InR x) := by have := inB_iff.1 hx; exact ⟨by omega, by omega⟩
  have HP : Hid (InR (f.pc + 1)) := ⟨by omega, by omega⟩
  have hwr : IntKind.i64.wrap (f.pc + 1) = f.pc + 1 := IntWalk.i64_in _ (by omega)
  obtain ⟨gF, cF, v, rfl, hv, hpos, hgF, _, c0, c1, c2, c3, c4⟩ := h.top hf
  obtain ⟨y, hy⟩ : ∃ y, f.regs[k]? = some y := ⟨_, List.getElem?_eq_getElem hk⟩
  obtain ⟨gr, cr, rfl, hgr, x0⟩ := h.reg_cell hf hv hy
  have hne := top_rows h hf hv rfl rfl
  have hne2 : ¬ gF = gr := fun e => hne e.symm
  have hkz : (k : Int) < (f.regs.length : Int) := by omega
  obtain ⟨g1, c1', e1, hB1, z1, _, _⟩ := h.set_reg hf hv hk
  cases e1
  obtain ⟨g2, c2', e2, hB2, z2, _, _⟩ := h.set_pc hf
  cases e2
  have H := Lib.hid h
  have HF := Lib.hid hf
  have HV := Lib.hid hv
  unfold tskL at R1
  clear h hf hv hy hx hpc
  obtain ⟨N, hN⟩ : ∃ N, t.frames.length = N := ⟨_, rfl⟩
  obtain ⟨M, hM⟩ : ∃ M, f.regs.length = M := ⟨_, rfl⟩
  have HN := Lib.hid hN
  have HM := Lib.hid hM
  rw [hN] at R1 c0 c1 c2 c3 c4 hpos hl z2
  rw [hM] at c2 hkz hr hk
  clear hN hM
  go_enter Tryz.func123, Tryz.ntmps123
  go_wp2_with (first | ((first | ((with_reducible show Code.wp _ (Code.region _ (List.toArray ({ dst := _, op := Op.load 32 _, type := _, pos := _, after := _, guard := none } :: _)) false) _ _ _); refine wp_region_lit ?_) | (with_reducible show wpList _ _ _ ({ dst := _, op := Op.load 32 _, type := _, pos := _, after := _, guard := none } :: _) _ _)); refine wpList_load_mid rfl 32 _ rfl _ _ rfl _ _ (by exact rg) Tryz.underlying32 rfl (by exact infoTsk) ?_; dsimp only [dZ, dS]) | (go_at_call 59; refine (HO.out _).mono ?_; rintro e w' ⟨rfl, rfl⟩) | (go_at_call 75; refine (innermost_any _ _ _ _ _ _ _ _ _ _ _ _ _ gF 0 N cF _ hpos (by omega)).mono ?_; rintro e w1 ⟨rfl, hb⟩; obtain ⟨hc, hf, hs, he⟩ := Ext.use (w := w) hb xt; clear hb; (try simp only [sA, sC, sD, sN] at hs)))
  go_end0
  have h1 := H.out.mono (show Ext w w1 from he)
  obtain ⟨g3, c3', e3, _, _, _, h2⟩ := h1.set_reg HF.out HV.out (by rw [HM.out]; exact hk)
  cases e3
  have h3 := h2 x HX.out
  obtain ⟨g4, c4', e4, _, _, _, h4⟩ := h3.set_pc (i := t.frames.length - 1) (f := { f with regs := f.regs.set k x }) (by
    show (t.frames.set (t.frames.length - 1) _)[t.frames.length - 1]? = _
    rw [List.getElem?_set_self (by have := HN.out; omega)])
  injection e4 with q1 q2 q3
  injection q1 with q1
  injection q1 with q1
  subst q1
  have h5 := h4 (f.pc + 1) HP.out
  have ht : ({ ({ t with frames := t.frames.set (t.frames.length - 1) { f with regs := f.regs.set k x } } : Tsk) with frames := (t.frames.set (t.frames.length - 1) { f with regs := f.regs.set k x }).set (t.frames.length - 1) { f with regs := f.regs.set k x, pc := f.pc + 1 } } : Tsk) = setTop t { f with regs := f.regs.set k x, pc := f.pc + 1 } := by
    unfold setTop; rw [List.set_set]
  rw [← ht, ← HN.out]
  exact ⟨rfl, h5, Kept.store (Kept.store (Kept.mono he HBW.out) hB1 _ (h3.hotG HV.out rfl)) hB2 _ (h5.hotF rfl)⟩
def stopV (s : Stp) : List PanicEntry := [{ v := .iface 123 (.agg #[Value.int .i64 s.kind, Value.int .i64 s.reason, Value.int .i64 s.value]), recovered := false }]
def endOf (s : Stp) : Ending := if s.kind = 0 then .returned (.tuple #[]) else if s.kind = 3 then .panicked (failV s.reason) else .panicked (stopV s)
def OpPost (X : List Value) (B R : Nat) (P3 : List Value) (w : World) (r : Tsk × Stp) (n : Int) (e : Ending) (w' : World) : Prop :=
  e = endOf r.2 ∧ (∃ VF VB rs hs gs, RunSt X B R P3 w' r.1 n VF VB rs hs gs) ∧ Kept B w w'
theorem set_any {X : List Value} {B R : Nat} {P3 : List Value} {w : World} {t : Tsk} {n : Int} {VF VB : Value} {rs hs : List Value} {gs : List (List Value)} (h : RunSt X B R P3 w t n VF VB rs hs gs) {f : Frm} (hf : topF t = some f) (k : Int) (x : Int) (hk0 : 0 ≤ k) (hk : k < (f.regs.length : Int)) (hl : t.frames.length ≤ 1000) (hr : f.regs.length ≤ 1000) (hpc : 0 ≤ f.pc ∧ f.pc ≤ 1000) :
    Calls Tryz.prog 123 #[.pointer (some ⟨R, 0, none⟩), Value.int .i64 k, Value.int .i64 x] w (OpPost X B R P3 w (writeS t f k x) n) := by
  have hBW : B ≤ w.heap.size := by have := h.lt; omega
  unfold writeS
  cases hx : numB x with
  | true =>
    obtain ⟨m, rfl⟩ : ∃ m : Nat, k = (m : Int) := ⟨k.toNat, by omega⟩
    rw [if_pos rfl, Int.toNat_natCast]
    exact (set_ok h hf m x (by omega) hl hr hx hpc).mono fun e w' ⟨h1, h2, h3⟩ => ⟨h1, ⟨_, _, _, _, _, h2⟩, h3⟩
  | false =>
    rw [if_neg (by decide)]
    exact (set_bad R k x w hx).mono fun e w' ⟨h1, h2⟩ => ⟨h1, ⟨_, _, _, _, _, h.mono h2⟩, Kept.mono h2 hBW⟩
end Go.Proofs.YtcjjoabofecjmaaGreat

namespace Go.Proofs.YtcjjoabofecjmaaGreat
open Go.RowKit
set_option maxHeartbeats 400000 in
theorem bit_any (b : Bool) (w : World) :
    Calls Tryz.prog 134 #[.bool b] w fun e w' => e = .returned (Value.int .i64 (bitS b)) ∧ w = w' := by
  cases b with
  | true => go_enter Tryz.func134, Tryz.ntmps134; go_wp2; go_ret; exact ⟨rfl, rfl⟩
  | false => go_enter Tryz.func134, Tryz.ntmps134; go_wp2; go_ret; exact ⟨rfl, rfl⟩
structure TopOk (t : Tsk) (f : Frm) : Prop where
  top : topF t = some f
  len : t.frames.length ≤ 1000
  regs : f.regs.length ≤ 1000
  pc : 0 ≤ f.pc ∧ f.pc ≤ 1000
def InF (f : Frm) (k : Int) : Prop := 0 ≤ k ∧ k < (f.regs.length : Int)
theorem regS_get {f : Frm} {k : Int} (h : InF f k) : f.regs[k.toNat]? = some (regS f k) := by
  have hk : k.toNat < f.regs.length := by have := h.1; have := h.2; omega
  unfold regS
  rw [List.getElem?_eq_getElem hk, List.getD_eq_getElem?_getD, List.getElem?_eq_getElem hk]; rfl
theorem reg_is {X : List Value} {B R : Nat} {P3 : List Value} {w : World} {t : Tsk} {n : Int} {VF VB : Value} {rs hs : List Value} {gs : List (List Value)} (h : RunSt X B R P3 w t n VF VB rs hs gs) {f : Frm} (ht : TopOk t f) {k : Int} (hk : InF f k) :
    Calls Tryz.prog 125 #[.pointer (some ⟨R, 0, none⟩), Value.int .i64 k] w fun e w' => e = .returned (Value.int .i64 (regS f k)) ∧ Ext w w' := by
  have := reg_any h ht.top k.toNat (regS f k) (regS_get hk) ht.len ht.regs
  rwa [Int.toNat_of_nonneg hk.1] at this
theorem set_is {X : List Value} {B R : Nat} {P3 : List Value} {w W : World} {t : Tsk} {n : Int} {VF VB : Value} {rs hs : List Value} {gs : List (List Value)} (h : RunSt X B R P3 w t n VF VB rs hs gs) {f : Frm} (ht : TopOk t f) {k : Int} (x : Int) (hk : InF f k) (hE : Ext w W) :
    Calls Tryz.prog 123 #[.pointer (some ⟨R, 0, none⟩), Value.int .i64 k, Value.int .i64 x] W (OpPost X B R P3 w (writeS t f k x) n) :=
  (set_any (h.mono hE) ht.top k x hk.1 hk.2 ht.len ht.regs ht.pc).mono fun e w' ⟨h1, h2, h3⟩ => ⟨h1, h2, Kept.trans (Kept.mono hE (by have := h.lt; omega)) h3⟩
theorem OpPost.ends {X : List Value} {B R : Nat} {P3 : List Value} {w w' : World} {r : Tsk × Stp} {n : Int} {e : Ending} (h : OpPost X B R P3 w r n e w') : e = .returned (.tuple #[]) ∨ ∃ ch, e = .panicked ch := by
  rw [h.1]
  unfold endOf
  split
  · exact .inl rfl
  · split
    · exact .inr ⟨_, rfl⟩
    · exact .inr ⟨_, rfl⟩
theorem OpPost.base {X : List Value} {B R : Nat} {P3 : List Value} {w W w' : World} {r : Tsk × Stp} {n : Int} {e : Ending} (h : OpPost X B R P3 w r n e w') (hE : Kept B W w) : OpPost X B R P3 W r n e w' := ⟨h.1, h.2.1, Kept.trans hE h.2.2⟩
set_option maxRecDepth 4000 in
set_option maxHeartbeats 4000000 in
theorem op_const {X : List Value} {B R : Nat} {P3 : List Value} {w : World} {t : Tsk} {n : Int} {VF VB : Value} {rs hs : List Value} {gs : List (List Value)} (h : RunSt X B R P3 w t n VF VB rs hs gs) {f : Frm} (ht : TopOk t f) (x : Ins) (VX : Value) (ha : InF f x.a) :
    Calls Tryz.prog 122 #[.pointer (some ⟨R, 0, none⟩), .agg #[Value.int .i64 x.op, Value.int .i64 x.a, Value.int .i64 x.b, Value.int .i64 x.c, VX]] w (OpPost X B R P3 w (writeS t f x.a x.b) n) := by
  have HS := Lib.hid (fun W hE => set_is h ht x.b ha (W := W) hE)
  clear h
  go_enter Tryz.func122, Tryz.ntmps122
  go_wp2_with (go_at_call 123; refine (HS.out _ xt).mono ?_; rintro e w5 HP; rcases HP.ends with rfl | ⟨ch, rfl⟩)
  · go_end0
    exact HP
  · exact ⟨rfl, HP⟩
set_option maxRecDepth 4000 in
set_option maxHeartbeats 4000000 in
theorem op_move {X : List Value} {B R : Nat} {P3 : List Value} {w : World} {t : Tsk} {n : Int} {VF VB : Value} {rs hs : List Value} {gs : List (List Value)} (h : RunSt X B R P3 w t n VF VB rs hs gs) {f : Frm} (ht : TopOk t f) (x : Ins) (VX : Value) (ha : InF f x.a) (hb : InF f x.b) :
    Calls Tryz.prog 124 #[.pointer (some ⟨R, 0, none⟩), .agg #[Value.int .i64 x.op, Value.int .i64 x.a, Value.int .i64 x.b, Value.int .i64 x.c, VX]] w (OpPost X B R P3 w (writeS t f x.a (regS f x.b)) n) := by
  have HS := Lib.hid (fun W hE => set_is h ht (regS f x.b) ha (W := W) hE)
  have HG := Lib.hid (fun W (hE : Ext w W) => reg_is (h.mono hE) ht hb)
  have hR := h.lt.2
  clear h
  obtain ⟨y, hy⟩ : ∃ y, regS f x.b = y := ⟨_, rfl⟩
  rw [hy] at HS HG ⊢
  clear hy
  go_enter Tryz.func124, Tryz.ntmps124
  go_wp2
  (refine wp_region_quiet_tail 7 (by kernel_rfl) (by kernel_rfl) ?_; (try simp only [List.take_succ_cons, List.take_zero, List.drop_succ_cons, List.drop_zero]); (repeat (go_big_quiet_step ((go_at_call 125; exact quiet_ext (HG.out _ xt))))); refine wpQuiet_nil ?_; intro w1 hw1; obtain ⟨hc, hf, hs, he⟩ := Ext.use (w := w) (ext_of_regrown hw1) xt; clear hw1; (try simp only [sA, sC, sD, sN] at hs))
  go_wp2_with (go_at_call 123; refine (HS.out _ xt).mono ?_; rintro e w5 HP; rcases HP.ends with rfl | ⟨ch, rfl⟩)
  · go_end0
    exact HP
  · exact ⟨rfl, HP⟩
set_option maxRecDepth 4000 in
set_option maxHeartbeats 4000000 in
theorem op_not {X : List Value} {B R : Nat} {P3 : List Value} {w : World} {t : Tsk} {n : Int} {VF VB : Value} {rs hs : List Value} {gs : List (List Value)} (h : RunSt X B R P3 w t n VF VB rs hs gs) {f : Frm} (ht : TopOk t f) (x : Ins) (VX : Value) (ha : InF f x.a) (hb : InF f x.b) :
    Calls Tryz.prog 138 #[.pointer (some ⟨R, 0, none⟩), .agg #[Value.int .i64 x.op, Value.int .i64 x.a, Value.int .i64 x.b, Value.int .i64 x.c, VX]] w (OpPost X B R P3 w (writeS t f x.a (bitS (regS f x.b == 0))) n) := by
  have HS := Lib.hid (fun W hE => set_is h ht (bitS (regS f x.b == 0)) ha (W := W) hE)
  have HG := Lib.hid (fun W (hE : Ext w W) => reg_is (h.mono hE) ht hb)
  have hR := h.lt.2
  clear h
  obtain ⟨y, hy⟩ : ∃ y, regS f x.b = y := ⟨_, rfl⟩
  rw [hy] at HS HG ⊢
  clear hy
  obtain ⟨z, hz⟩ : ∃ z, bitS (y == 0) = z := ⟨_, rfl⟩
  have HB := Lib.hid (fun W => bit_any (y == 0) W)
  rw [hz] at HS HB ⊢
  clear hz
  go_enter Tryz.func138, Tryz.ntmps138
  go_wp2
  (refine wp_region_quiet_tail 9 (by kernel_rfl) (by kernel_rfl) ?_; (try simp only [List.take_succ_cons, List.take_zero, List.drop_succ_cons, List.drop_zero]); (repeat (go_big_quiet_step (first | (go_at_call 125; exact quiet_ext (HG.out _ xt)) | (go_at_call 134; exact quiet_same (HB.out _))))); refine wpQuiet_nil ?_; intro w1 hw1; obtain ⟨hc, hf, hs, he⟩ := Ext.use (w := w) (ext_of_regrown hw1) xt; clear hw1; (try simp only [sA, sC, sD, sN] at hs))
  go_wp2_with (go_at_call 123; refine (HS.out _ xt).mono ?_; rintro e w5 HP; rcases HP.ends with rfl | ⟨ch, rfl⟩)
  · go_end0
    exact HP
  · exact ⟨rfl, HP⟩
end Go.Proofs.YtcjjoabofecjmaaGreat

namespace Go.Proofs.YtcjjoabofecjmaaGreat
open Go.RowKit Go.Sort
section
variable {P : Program} {ops : Array Oper} {md : Region.Mode} {C : World → Prop}
def PansIn (P : Program) (ops : Array Oper) (C : World → Prop) (o : Oper) (chain : List PanicEntry) (a : Act) : Prop :=
  a.defers = [] ∧ Region.wanted o (yielded ops a.tmps) = true ∧ ∀ w, C w → ∃ f args, (execOp a.eval o).run P w = .ok (.enter f args) w ∧ Calls P f args w fun e w' => e = .panicked chain ∧ C w'
theorem PansIn.of_same {o : Oper} {chain : List PanicEntry} {a a' : Act} (hy : PansIn P ops C o chain a) (hd : a'.defers = a.defers) (he : execOp a'.eval o = execOp a.eval o)
    (hw : Region.wanted o (yielded ops a'.tmps) = Region.wanted o (yielded ops a.tmps)) : PansIn P ops C o chain a' := by
  unfold PansIn at *
  rw [he, hw, hd]
  exact hy
def anyPQ (P : Program) (md : Region.Mode) (ops : Array Oper) (C : World → Prop) (n : Nat) (on : Oper) (chain : List PanicEntry) : Nat → Array Bool → Act → Prop
  | 0, listed, a => Region.ready md ops listed = [n] ∧ PansIn P ops C on chain a
  | f + 1, listed, a => Region.ready md ops listed ≠ [] ∧ ∀ i ∈ Region.ready md ops listed, (i = n ∧ PansIn P ops C on chain a) ∨ (i ≠ n ∧ qOp P ops C i (anyPQ P md ops C n on chain f (listed.setIfInBounds i true)) a)
theorem wpOp_of_pans {n : Nat} {on : Oper} {chain : List PanicEntry} {K : Act → World → Prop} {Q' : Exit → Act → World → Prop} {a : Act} {w : World} (hn : ops[n]? = some on) (hw : C w) (h : PansIn P ops C on chain a) (hQ : ∀ a w', a.defers = [] → C w' → Q' (.panic chain) a w') : wpOp P ops Q' n K a w := by
  obtain ⟨hd, h1, h2⟩ := h
  obtain ⟨f, args, hr, hc⟩ := h2 w hw
  unfold wpOp
  simp only [hn, h1, if_true]
  refine .inl ?_
  unfold Oper.wp
  rw [hr]
  simp only [Oper.upon]
  exact hc.mono fun e w' ⟨he, hw'⟩ => by subst he; exact hQ _ w' hd hw'
theorem any_of_pans {n g : Nat} {on : Oper} {chain : List PanicEntry} {Q' : Exit → Act → World → Prop} (hn : ops[n]? = some on) (hQ : ∀ a w', a.defers = [] → C w' → Q' (.panic chain) a w') :
    ∀ (f : Nat) (listed : Array Bool) (a : Act) (w : World), C w → anyPQ P md ops C n on chain f listed a → wpAny P md ops Q' (f + (g + 1)) listed a w
  | 0, listed, a, w, hw, h => by
    rw [Nat.zero_add]
    refine ⟨fun h0 => (by rw [h.1] at h0; cases h0), fun i hi => ?_⟩
    rw [h.1] at hi
    have : i = n := by simpa using hi
    subst this
    exact wpOp_of_pans hn hw h.2 hQ
  | f + 1, listed, a, w, hw, h => by
    rw [show f + 1 + (g + 1) = (f + (g + 1)) + 1 by omega]
    refine ⟨fun h0 => absurd h0 h.1, fun i hi => ?_⟩
    rcases h.2 i hi with ⟨rfl, h1⟩ | ⟨_, h1⟩
    · exact wpOp_of_pans hn hw h1 hQ
    · exact wpOp_of_qOp hw (fun a' w' hw' h' => any_of_pans hn hQ f _ a' w' hw' h') h1
theorem anyPQ_first {n i : Nat} {oi on : Oper} {v : Value} {chain : List PanicEntry} (hn : ops[n]? = some on) (hi : ops[i]? = some oi) (hin : i ≠ n) (hsel : ∀ (j : Nat) (o : Oper) cs b, ops[j]? = some o → o.op ≠ .select cs b) :
    ∀ (f : Nat) (listed : Array Bool) (a : Act),
      (∀ j oj, ops[j]? = some oj → j ≠ i → listed.getD j true = false → (∀ e ∈ oj.after, Region.binds md e = true → e.on ≠ i) → oi.apart ops oj = true) →
      i ∈ Region.ready md ops listed → YieldsIn P ops C oi v a →
      anyPQ P md ops C n on chain f (listed.setIfInBounds i true) (a.put oi.dst v) → anyPQ P md ops C n on chain (f + 1) listed a := by
  intro f
  have back : ∀ (listed : Array Bool) (a : Act), (∀ j oj, ops[j]? = some oj → j ≠ i → listed.getD j true = false → (∀ e ∈ oj.after, Region.binds md e = true → e.on ≠ i) → oi.apart ops oj = true) →
      i ∈ Region.ready md ops listed → n ∈ Region.ready md ops listed → PansIn P ops C on chain (a.put oi.dst v) → PansIn P ops C on chain a := fun listed a hfree hr hnr h => by
    have hun := (mem_ready.1 hr).1
    obtain ⟨hjun, oj, hoj, hall⟩ := mem_ready.1 hnr
    have : oj = on := Option.some.inj (hoj.symm.trans hn)
    subst this
    have hnot : ∀ e ∈ oj.after, Region.binds md e = true → e.on ≠ i := fun e he hb heq => by
      have h1 := hall e he hb
      rw [heq, getD_both hun] at h1
      cases h1
    obtain ⟨h1, h2, h3⟩ := Oper.apart_spec (hfree n oj hoj (fun e => hin e.symm) hjun hnot)
    exact h.of_same (by cases oi.dst <;> rfl) (execOp_put oj (fun cs b => hsel n oj cs b hoj) a oi.dst v h1).symm (wanted_put oj a oi.dst v h1).symm
  induction f with
  | zero =>
    intro listed a hfree hr hy H
    refine ⟨fun h => (by rw [h] at hr; cases hr), fun j hj => ?_⟩
    by_cases hji : j = i
    · subst hji; exact .inr ⟨hin, hy.qOp hi H⟩
    · have h1 := ready_mono hj hji
      rw [H.1] at h1
      have : j = n := by simpa using h1
      subst this
      exact .inl ⟨rfl, back listed a hfree hr hj H.2⟩
  | succ f ih =>
    intro listed a hfree hr hy H
    have hun := (mem_ready.1 hr).1
    refine ⟨fun h => (by rw [h] at hr; cases hr), fun j hj => ?_⟩
    by_cases hji : j = i
    · subst hji; exact .inr ⟨hin, hy.qOp hi H⟩
    · rcases H.2 j (ready_mono hj hji) with ⟨rfl, h1⟩ | ⟨hjn, h1⟩
      · exact .inl ⟨rfl, back listed a hfree hr hj h1⟩
      · refine .inr ⟨hjn, ?_⟩
        obtain ⟨hjun, oj, hoj, hall⟩ := mem_ready.1 hj
        have hnot : ∀ e ∈ oj.after, Region.binds md e = true → e.on ≠ i := fun e he hb heq => by
          have h1 := hall e he hb
          rw [heq, getD_both hun] at h1
          cases h1
        have h2 := qOp_put hoj (hfree j oj hoj hji hjun hnot) (fun cs b => hsel i oi cs b hi) (fun cs b => hsel j oj cs b hoj) hy h1
        have hfree' : ∀ k ok, ops[k]? = some ok → k ≠ i → (listed.setIfInBounds j true).getD k true = false →
            (∀ e ∈ ok.after, Region.binds md e = true → e.on ≠ i) → oi.apart ops ok = true := fun k ok hk hki hun hno => by
          refine hfree k ok hk hki ?_ hno
          by_cases hjk : j = k
          · subst hjk; exact hjun
          · rw [getD_set_ne true hjk] at hun; exact hun
        refine qOp_mono (fun a' h3 => ih (listed.setIfInBounds j true) a' hfree' (ready_mono hr (Ne.symm hji)) h3.1 ?_) h2
        rw [Array.setIfInBounds_comm _ _ hji]
        exact h3.2
def lexPan (md : Region.Mode) (ops : Array Oper) (n : Nat) : Nat → Nat → Array Bool → Bool
  | 0, _, listed => decide (Region.ready md ops listed = [n])
  | f + 1, k, listed => (Region.ready md ops listed).contains k && Region.free md ops listed k && lexPan md ops n f (k + 1) (listed.setIfInBounds k true)
theorem anyPQ_lex {n : Nat} {on : Oper} {chain : List PanicEntry} (hsel : Region.noSelect ops = true) (hn : ops[n]? = some on) :
    ∀ (l : List Oper) (k : Nat) (listed : Array Bool) (a : Act), (∀ j, j < l.length → l[j]? = ops[k + j]?) → k + l.length = n →
    lexPan md ops n l.length k listed = true → wpQuiet P ops C (PansIn P ops C on chain) l a →
    anyPQ P md ops C n on chain l.length listed a
  | [], k, listed, a, _, hk, hB, h => ⟨by simpa [lexPan] using hB, h⟩
  | o :: l, k, listed, a, hl, hk, hB, h => by
    have h0 : ops[k]? = some o := by simpa using (hl 0 (by simp)).symm
    simp only [List.length_cons, lexPan, Bool.and_eq_true] at hB
    obtain ⟨⟨hr, hf⟩, hB'⟩ := hB
    have hkn : k < n := by simp only [List.length_cons] at hk; omega
    have hst : qOp P ops C k (wpQuiet P ops C (PansIn P ops C on chain) l) a := by unfold qOp; simp only [h0]; exact h
    obtain ⟨v, hy, hK⟩ := yieldsIn_of_qOp h0 hst
    exact anyPQ_first hn h0 (by omega) (Region.noSelect_spec hsel) l.length listed a (Region.free_spec h0 hf) (by simpa using hr) hy
      (anyPQ_lex hsel hn l (k + 1) _ _ (fun j hj => by have := hl (j + 1) (by simp; omega); simpa [Nat.add_assoc, Nat.add_comm 1 j] using this) (by simp only [List.length_cons] at hk; omega) hB' hK)
theorem wp_region_panics {id : Nat} {Q : Exit → Act → World → Prop} {a : Act} {w : World} {l : List Oper} (n : Nat) (on : Oper) (chain : List PanicEntry) (hm : P.follows .mixedOrders = true) (hsel : Region.noSelect l.toArray = true) (hn : l[n]? = some on) (hB : lexPan .any l.toArray n n 0 (Array.replicate l.toArray.size false) = true)
    (hQ : ∀ a w', a.defers = [] → (∃ p : Regrown, w' = grow (redrawn w p.d) p.os) → Q (.panic chain) a w')
    (h : wpQuiet P l.toArray (fun w' => ∃ p : Regrown, w' = grow (redrawn w p.d) p.os) (PansIn P l.toArray (fun w' => ∃ p : Regrown, w' = grow (redrawn w p.d) p.os) on chain) (l.take n) a) : (Code.region id l.toArray true).wp P Q a w := by
  have hn' : n < l.length := (List.getElem?_eq_some_iff.1 hn).1
  have htl : (l.take n).length = n := by simp; omega
  have hno : l.toArray[n]? = some on := by simpa using hn
  have H := anyPQ_lex (md := .any) hsel hno (l.take n) 0 _ a (fun j hj => by
    have hj' : j < n := by rw [htl] at hj; exact hj
    simp [hj']) (by simpa using htl) (by rw [htl]; exact hB) h
  refine wp_region_any hm ?_
  have := any_of_pans (Q' := Q) (g := l.toArray.size - n - 1) hno hQ _ _ _ { w with drawn := w.drawn + 1 } ⟨⟨w.drawn + 1, #[]⟩, by rw [grow_empty]; rfl⟩ H
  rw [htl, show n + (l.toArray.size - n - 1 + 1) = l.toArray.size by simp; omega] at this
  exact this
end
end Go.Proofs.YtcjjoabofecjmaaGreat

namespace Go.Proofs.YtcjjoabofecjmaaGreat
open Go.RowKit Go.Sort
set_option maxRecDepth 4000 in
set_option maxHeartbeats 4000000 in
theorem binary_ok {X : List Value} {B R : Nat} {P3 : List Value} {w : World} {t : Tsk} {n : Int} {VF VB : Value} {rs hs : List Value} {gs : List (List Value)} (h : RunSt X B R P3 w t n VF VB rs hs gs) {f : Frm} (ht : TopOk t f) (x : Ins) (VX : Value) (ha : InF f x.a) (hb : InF f x.b) (hc : InF f x.c)
    (C : Nat) (g : FuncId) (lb : Array Value) (eg : Enters Tryz.prog g) (hC : w.cell? ⟨C, 0, none⟩ = some (.func (.func g) #[] lb)) (v : Int)
    (hv : ∀ W, Ext w W → Calls Tryz.prog g (#[Value.int .i64 (regS f x.b), Value.int .i64 (regS f x.c)] ++ lb) W fun e w' => e = .returned (Value.int .i64 v) ∧ Ext W w') :
    Calls Tryz.prog 160 #[.pointer (some ⟨R, 0, none⟩), .agg #[Value.int .i64 x.op, Value.int .i64 x.a, Value.int .i64 x.b, Value.int .i64 x.c, VX], .pointer (some ⟨C, 0, none⟩)] w (OpPost X B R P3 w (writeS t f x.a v) n) := by
  have HS := Lib.hid (fun W hE => set_is h ht v ha (W := W) hE)
  have HG1 := Lib.hid (fun W (hE : Ext w W) => reg_is (h.mono hE) ht hb)
  have HG2 := Lib.hid (fun W (hE : Ext w W) => reg_is (h.mono hE) ht hc)
  have HV := Lib.hid hv
  have hR := h.lt.2
  have hCl : C < w.heap.size := lt_of_cell hC
  unfold Enters at eg
  clear h hv
  obtain ⟨y, hy⟩ : ∃ y, regS f x.b = y := ⟨_, rfl⟩
  obtain ⟨z, hz⟩ : ∃ z, regS f x.c = z := ⟨_, rfl⟩
  rw [hy] at HG1 HV
  rw [hz] at HG2 HV
  clear hy hz
  go_enter Tryz.func160, Tryz.ntmps160
  go_wp2
  (refine wp_region_quiet_tail 13 (by kernel_rfl) (by kernel_rfl) ?_; (try simp only [List.take_succ_cons, List.take_zero, List.drop_succ_cons, List.drop_zero]); (repeat (go_big_quiet_step (first | (go_at_call 125; with_reducible exact quiet_ext (HG1.out _ xt)) | (go_at_call 125; with_reducible exact quiet_ext (HG2.out _ xt)) | (go_at_fn g; exact quiet_ext (HV.out _ xt))))); refine wpQuiet_nil ?_; intro w1 hw1; obtain ⟨hc, hf, hs, he⟩ := Ext.use (w := w) (ext_of_regrown hw1) xt; clear hw1; (try simp only [sA, sC, sD, sN] at hs))
  go_wp2_with (first | (go_at_call 123; refine (HS.out _ xt).mono ?_; rintro e w5 HP; rcases HP.ends with rfl | ⟨ch, rfl⟩))
  · go_end0
    exact HP
  · exact ⟨rfl, HP⟩
set_option maxRecDepth 4000 in
set_option maxHeartbeats 4000000 in
theorem binary_bad {X : List Value} {B R : Nat} {P3 : List Value} {w : World} {t : Tsk} {n : Int} {VF VB : Value} {rs hs : List Value} {gs : List (List Value)} (h : RunSt X B R P3 w t n VF VB rs hs gs) {f : Frm} (ht : TopOk t f) (x : Ins) (VX : Value) (hb : InF f x.b) (hc : InF f x.c)
    (C : Nat) (g : FuncId) (lb : Array Value) (eg : Enters Tryz.prog g) (hC : w.cell? ⟨C, 0, none⟩ = some (.func (.func g) #[] lb))
    (hv : ∀ W, Ext w W → Calls Tryz.prog g (#[Value.int .i64 (regS f x.b), Value.int .i64 (regS f x.c)] ++ lb) W fun e w' => e = .panicked (failV 6) ∧ Ext W w') :
    Calls Tryz.prog 160 #[.pointer (some ⟨R, 0, none⟩), .agg #[Value.int .i64 x.op, Value.int .i64 x.a, Value.int .i64 x.b, Value.int .i64 x.c, VX], .pointer (some ⟨C, 0, none⟩)] w (OpPost X B R P3 w (failT t 6) n) := by
  have HH := Lib.hid h
  have HG1 := Lib.hid (fun W (hE : Ext w W) => reg_is (h.mono hE) ht hb)
  have HG2 := Lib.hid (fun W (hE : Ext w W) => reg_is (h.mono hE) ht hc)
  have HV := Lib.hid hv
  have hR := h.lt.2
  have hBR := h.lt.1
  have hCl : C < w.heap.size := lt_of_cell hC
  unfold Enters at eg
  clear h hv
  obtain ⟨y, hy⟩ : ∃ y, regS f x.b = y := ⟨_, rfl⟩
  obtain ⟨z, hz⟩ : ∃ z, regS f x.c = z := ⟨_, rfl⟩
  rw [hy] at HG1 HV
  rw [hz] at HG2 HV
  clear hy hz
  go_enter Tryz.func160, Tryz.ntmps160
  go_wp2
  refine wp_hid2 ?_
  intro W4 HW4
  have HE4 : Ext w W4 := by rw [HW4.out]; exact xt
  have k1 : W4.cell? ⟨w.heap.size, 1, none⟩ = some (Value.int .i64 x.a) := by rw [HW4.out]; simp [go_sem]
  have k2 : W4.cell? ⟨w.heap.size, 2, none⟩ = some (Value.int .i64 x.b) := by rw [HW4.out]; simp [go_sem]
  have k3 : W4.cell? ⟨w.heap.size, 3, none⟩ = some (Value.int .i64 x.c) := by rw [HW4.out]; simp [go_sem]
  have k4 := HE4.cell hC
  have hs4 : w.heap.size < W4.heap.size := lt_of_cell k1
  have hC4 : C < W4.heap.size := lt_of_cell k4
  clear HW4 hC
  refine wp_region_panics 12 _ (failV 6) (by kernel_rfl) (by kernel_rfl) rfl (by kernel_rfl) ?_ ?_
  · rintro a w' hd ⟨p, rfl⟩
    have hE : Ext w (grow (redrawn W4 p.d) p.os) := HE4.regrown p.d p.os
    exact ⟨hd, rfl, ⟨_, _, _, _, _, HH.out.mono hE⟩, Kept.mono hE (by omega)⟩
  · simp only [List.take_succ_cons, List.take_zero]
    repeat (go_big_quiet_step (first | (go_at_call 125; with_reducible exact quiet_ext (HG1.out _ xt)) | (go_at_call 125; with_reducible exact quiet_ext (HG2.out _ xt))))
    refine wpQuiet_nil ⟨rfl, by rfl, ?_⟩
    rintro w' ⟨p, rfl⟩
    have hE : Ext w (grow (redrawn W4 p.d) p.os) := HE4.regrown p.d p.os
    refine ⟨g, #[Value.int .i64 y, Value.int .i64 z] ++ lb, ?_, (HV.out _ hE).mono fun e w'' hh => ⟨hh.1, regrown_of_below (Ext.trans (below_regrown W4 p.d p.os) hh.2)⟩⟩
    simp [go_sem, execOp, eg]
end Go.Proofs.YtcjjoabofecjmaaGreat

namespace Go.Proofs.YtcjjoabofecjmaaGreat
open Go.RowKit
theorem num_le {a : Int} (h : numB a = true) : -1099511627776 ≤ a ∧ a ≤ 1099511627776 := inB_iff.1 h
theorem f_add (a b : Int) (ha : numB a = true) (hb : numB b = true) (w : World) :
    Calls Tryz.prog 127 (#[Value.int .i64 a, Value.int .i64 b] ++ #[]) w fun e w' => e = .returned (Value.int .i64 (a + b)) ∧ Ext w w' := by
  have hw : IntKind.i64.wrap (a + b) = a + b := IntWalk.i64_in _ (by have := num_le ha; have := num_le hb; omega)
  clear ha hb
  show Calls _ _ #[Value.int .i64 a, Value.int .i64 b] _ _
  go_enter Tryz.func127, Tryz.ntmps127
  go_wp2
  go_ret
  exact ⟨rfl, xt⟩
theorem f_sub (a b : Int) (ha : numB a = true) (hb : numB b = true) (w : World) :
    Calls Tryz.prog 128 (#[Value.int .i64 a, Value.int .i64 b] ++ #[]) w fun e w' => e = .returned (Value.int .i64 (a - b)) ∧ Ext w w' := by
  have hw : IntKind.i64.wrap (a - b) = a - b := IntWalk.i64_in _ (by have := num_le ha; have := num_le hb; omega)
  clear ha hb
  show Calls _ _ #[Value.int .i64 a, Value.int .i64 b] _ _
  go_enter Tryz.func128, Tryz.ntmps128
  go_wp2
  go_ret
  exact ⟨rfl, xt⟩
theorem tdiv_num {a b : Int} (ha : numB a = true) : -1099511627776 ≤ a.tdiv b ∧ a.tdiv b ≤ 1099511627776 := by
  have h := num_le ha
  have h1 : (a.tdiv b).natAbs ≤ a.natAbs := by rw [Int.natAbs_tdiv]; exact Nat.div_le_self _ _
  omega
theorem tmod_num {a b : Int} (ha : numB a = true) : -1099511627776 ≤ a.tmod b ∧ a.tmod b ≤ 1099511627776 := by
  have h := num_le ha
  have h1 : (a.tmod b).natAbs ≤ a.natAbs := by rw [Int.natAbs_tmod]; exact Nat.mod_le _ _
  omega
theorem f_div (a b : Int) (ha : numB a = true) (hb0 : ¬ b = 0) (w : World) :
    Calls Tryz.prog 131 (#[Value.int .i64 a, Value.int .i64 b] ++ #[]) w fun e w' => e = .returned (Value.int .i64 (a.tdiv b)) ∧ Ext w w' := by
  have hw : IntKind.i64.wrap (a.tdiv b) = a.tdiv b := IntWalk.i64_in _ (by have := tdiv_num (b := b) ha; omega)
  clear ha
  show Calls _ _ #[Value.int .i64 a, Value.int .i64 b] _ _
  go_enter Tryz.func131, Tryz.ntmps131
  go_wp2
  go_ret
  exact ⟨rfl, xt⟩
theorem f_mod (a b : Int) (ha : numB a = true) (hb0 : ¬ b = 0) (w : World) :
    Calls Tryz.prog 132 (#[Value.int .i64 a, Value.int .i64 b] ++ #[]) w fun e w' => e = .returned (Value.int .i64 (a.tmod b)) ∧ Ext w w' := by
  have hw : IntKind.i64.wrap (a.tmod b) = a.tmod b := IntWalk.i64_in _ (by have := tmod_num (b := b) ha; omega)
  clear ha
  show Calls _ _ #[Value.int .i64 a, Value.int .i64 b] _ _
  go_enter Tryz.func132, Tryz.ntmps132
  go_wp2
  go_ret
  exact ⟨rfl, xt⟩
def prodS (a b : Int) : Int := if numB (a * b) = true then a * b else 1099511627777
theorem write_prod (t : Tsk) (f : Frm) (i a b : Int) : writeS t f i (prodS a b) = writeS t f i (a * b) := by
  unfold prodS
  by_cases h : numB (a * b) = true
  · rw [if_pos h]
  · rw [if_neg h]
    unfold writeS
    rw [if_neg h, if_neg (by decide)]
theorem f_eq (a b : Int) (w : World) :
    Calls Tryz.prog 133 (#[Value.int .i64 a, Value.int .i64 b] ++ #[]) w fun e w' => e = .returned (Value.int .i64 (bitS (a == b))) ∧ Ext w w' := by
  show Calls _ _ #[Value.int .i64 a, Value.int .i64 b] _ _
  obtain ⟨q, hq⟩ : ∃ q, (a == b) = q := ⟨_, rfl⟩
  have HB := Lib.hid (fun W => bit_any q W)
  rw [hq]
  cases q <;> (go_enter Tryz.func133, Tryz.ntmps133; go_wp2_with (go_at_call 134; refine (HB.out _).mono ?_; rintro e w' ⟨rfl, rfl⟩); go_ret; exact ⟨rfl, xt⟩)
theorem f_lss (a b : Int) (w : World) :
    Calls Tryz.prog 135 (#[Value.int .i64 a, Value.int .i64 b] ++ #[]) w fun e w' => e = .returned (Value.int .i64 (bitS (decide (a < b)))) ∧ Ext w w' := by
  show Calls _ _ #[Value.int .i64 a, Value.int .i64 b] _ _
  by_cases h : a < b
  · have HB := Lib.hid (fun W => bit_any true W)
    rw [decide_eq_true h]
    go_enter Tryz.func135, Tryz.ntmps135; go_wp2_with (go_at_call 134; refine (HB.out _).mono ?_; rintro e w' ⟨rfl, rfl⟩); go_ret; exact ⟨rfl, xt⟩
  · have HB := Lib.hid (fun W => bit_any false W)
    rw [decide_eq_false h]
    go_enter Tryz.func135, Tryz.ntmps135; go_wp2_with (go_at_call 134; refine (HB.out _).mono ?_; rintro e w' ⟨rfl, rfl⟩); go_ret; exact ⟨rfl, xt⟩
theorem f_and (a b : Int) (w : World) :
    Calls Tryz.prog 136 (#[Value.int .i64 a, Value.int .i64 b] ++ #[]) w fun e w' => e = .returned (Value.int .i64 (bitS (a != 0 && b != 0))) ∧ Ext w w' := by
  show Calls _ _ #[Value.int .i64 a, Value.int .i64 b] _ _
  have HB := Lib.hid (fun b W => bit_any b W)
  go_enter Tryz.func136, Tryz.ntmps136
  go_wp2_with (go_at_call 134; refine (HB.out _ _).mono ?_; rintro e w' ⟨rfl, rfl⟩)
  all_goals (go_ret; exact ⟨congrArg (fun z => Ending.returned (Value.int .i64 (bitS z))) (by simp [*]), xt⟩)
theorem f_or (a b : Int) (w : World) :
    Calls Tryz.prog 137 (#[Value.int .i64 a, Value.int .i64 b] ++ #[]) w fun e w' => e = .returned (Value.int .i64 (bitS (a != 0 || b != 0))) ∧ Ext w w' := by
  show Calls _ _ #[Value.int .i64 a, Value.int .i64 b] _ _
  have HB := Lib.hid (fun b W => bit_any b W)
  go_enter Tryz.func137, Tryz.ntmps137
  go_wp2_with (go_at_call 134; refine (HB.out _ _).mono ?_; rintro e w' ⟨rfl, rfl⟩)
  all_goals (go_ret; exact ⟨congrArg (fun z => Ending.returned (Value.int .i64 (bitS z))) (by simp [*]), xt⟩)
end Go.Proofs.YtcjjoabofecjmaaGreat

namespace Go.Proofs.YtcjjoabofecjmaaGreat
open Go.RowKit
theorem natAbs_max (a : Int) : (if a < -a then -a else a) = (a.natAbs : Int) := by split <;> omega
theorem num_abs {x : Int} : numB x = true ↔ x.natAbs ≤ 1099511627776 := by
  unfold numB; rw [inB_iff]; omega
set_option maxHeartbeats 1000000 in
theorem f_mul (a b : Int) (ha : numB a = true) (hb : numB b = true) (w : World) :
    Calls Tryz.prog 129 (#[Value.int .i64 a, Value.int .i64 b] ++ #[]) w fun e w' => e = .returned (Value.int .i64 (prodS a b)) ∧ Ext w w' := by
  show Calls _ _ #[Value.int .i64 a, Value.int .i64 b] _ _
  have hna := num_le ha
  have hnb := num_le hb
  by_cases h0 : a = 0
  · subst h0
    have HR : Hid (prodS 0 b = 0) := by unfold Hid prodS; rw [Int.zero_mul, if_pos (by decide)]
    clear ha hb hna hnb
    go_enter Tryz.func129, Tryz.ntmps129
    go_wp2
    go_ret
    exact ⟨ret_int HR.out.symm, xt⟩
  have h1 : IntKind.i64.wrap (-a) = -a := IntWalk.i64_in _ (by omega)
  have h2 : IntKind.i64.wrap (-b) = -b := IntWalk.i64_in _ (by omega)
  have h3 := natAbs_max a
  have h4 := natAbs_max b
  obtain ⟨A, hA⟩ : ∃ A, a.natAbs = A := ⟨_, rfl⟩
  obtain ⟨M, hM⟩ : ∃ M, b.natAbs = M := ⟨_, rfl⟩
  rw [hA] at h3
  rw [hM] at h4
  have hA0 : 0 < A := by omega
  have hAz : ¬ (A : Int) = 0 := by omega
  obtain ⟨Q, hQ⟩ : ∃ Q, 1099511627776 / A = Q := ⟨_, rfl⟩
  have hq1 : (1099511627776 : Int).tdiv (A : Int) = (Q : Int) := by
    rw [← hQ]; rfl
  have hQle : Q ≤ 1099511627776 := by rw [← hQ]; exact Nat.div_le_self _ _
  have hq2 : IntKind.i64.wrap (Q : Int) = (Q : Int) := IntWalk.i64_in _ (by omega)
  have hab : (a * b).natAbs = A * M := by rw [Int.natAbs_mul, hA, hM]
  by_cases hlt : Q < M
  · have hz : (Q : Int) < (M : Int) := by omega
    have HR : Hid (prodS a b = 1099511627777) := by
      unfold Hid prodS
      rw [if_neg]
      rw [num_abs, hab]
      have : 1099511627776 < A * M := by
        have h5 := Nat.lt_mul_div_succ 1099511627776 hA0
        rw [hQ] at h5
        exact Nat.lt_of_lt_of_le h5 (Nat.mul_le_mul_left A hlt)
      omega
    clear ha hb hna hnb hA hM hab hlt hQ
    go_enter Tryz.func129, Tryz.ntmps129
    go_wp2
    go_ret
    exact ⟨ret_int HR.out.symm, xt⟩
  · have hz : ¬ (Q : Int) < (M : Int) := by omega
    have hle : A * M ≤ 1099511627776 := by
      have h5 := Nat.mul_le_mul_left A (show M ≤ Q by omega)
      rw [← hQ] at h5
      exact Nat.le_trans h5 (Nat.mul_div_le _ _)
    have HR : Hid (prodS a b = a * b) := by unfold Hid prodS; rw [if_pos (num_abs.2 (by omega))]
    have hw : IntKind.i64.wrap (a * b) = a * b := IntWalk.i64_in _ (by omega)
    clear ha hb hna hnb hA hM hab hlt hQ hle
    go_enter Tryz.func129, Tryz.ntmps129
    go_wp2
    go_ret
    exact ⟨ret_int HR.out.symm, xt⟩
end Go.Proofs.YtcjjoabofecjmaaGreat

namespace Go.Proofs.YtcjjoabofecjmaaGreat
open Go.RowKit
theorem binary_mk (F : Value) (h1 : F.oneCell' = true) (w : World) :
    Calls Tryz.prog 126 #[F] w fun e w' => ∃ C, e = .returned (.func (.func 160) #[] #[.pointer (some ⟨C, 0, none⟩)]) ∧ w'.cell? ⟨C, 0, none⟩ = some F ∧ w.heap.size ≤ C ∧ Cold w' C ∧ Ext w w' := by
  have hmf : ∀ (fn : Fn) (first cap : Array Value) (w : World), (Instr.makeFunc fn first cap).run Tryz.prog w = .ok (.func fn first cap) w := fun _ _ _ _ => rfl
  go_enter Tryz.func126, Tryz.ntmps126
  go_wp2
  go_ret
  exact ⟨w.heap.size, rfl, by simp [go_sem], Nat.le_refl _, by repeat' (first | exact Cold.alloc rfl | refine Cold.setCell ?_ _ _ | rfl), xt⟩
theorem divided_ok (a b v : Int) (C : Nat) (g : FuncId) (w : World) (eg : Enters Tryz.prog g) (hC : w.cell? ⟨C, 0, none⟩ = some (.func (.func g) #[] #[])) (hb : ¬ b = 0)
    (hv : ∀ W, Ext w W → Calls Tryz.prog g (#[Value.int .i64 a, Value.int .i64 b] ++ #[]) W fun e w' => e = .returned (Value.int .i64 v) ∧ Ext W w') :
    Calls Tryz.prog 161 (#[Value.int .i64 a, Value.int .i64 b] ++ #[.pointer (some ⟨C, 0, none⟩)]) w fun e w' => e = .returned (Value.int .i64 v) ∧ Ext w w' := by
  show Calls _ _ #[Value.int .i64 a, Value.int .i64 b, .pointer (some ⟨C, 0, none⟩)] _ _
  have HV := Lib.hid hv
  have hb1 : (b == 0) = false := beq_eq_false_iff_ne.2 hb
  unfold Enters at eg
  clear hv hb
  go_enter Tryz.func161, Tryz.ntmps161
  go_wp2_with (go_at_fn g; refine (HV.out _ xt).mono ?_; rintro e w4 ⟨rfl, hb4⟩)
  go_ret
  exact ⟨rfl, hb4⟩
theorem divided_bad (a : Int) (C : Nat) (w : World) :
    Calls Tryz.prog 161 (#[Value.int .i64 a, Value.int .i64 0] ++ #[.pointer (some ⟨C, 0, none⟩)]) w fun e w' => e = .panicked (failV 6) ∧ Ext w w' := by
  show Calls _ _ #[Value.int .i64 a, Value.int .i64 0, .pointer (some ⟨C, 0, none⟩)] _ _
  go_enter Tryz.func161, Tryz.ntmps161
  go_wp2
  exact ⟨rfl, rfl, xt⟩
theorem divided_mk (g : FuncId) (w : World) :
    Calls Tryz.prog 130 #[.func (.func g) #[] #[]] w fun e w' => ∃ C D, e = .returned (.func (.func 160) #[] #[.pointer (some ⟨C, 0, none⟩)]) ∧ w'.cell? ⟨C, 0, none⟩ = some (.func (.func 161) #[] #[.pointer (some ⟨D, 0, none⟩)]) ∧ w'.cell? ⟨D, 0, none⟩ = some (.func (.func g) #[] #[]) ∧ w.heap.size ≤ C ∧ w.heap.size ≤ D ∧ Cold w' C ∧ Cold w' D ∧ Ext w w' := by
  have hmf : ∀ (fn : Fn) (first cap : Array Value) (w : World), (Instr.makeFunc fn first cap).run Tryz.prog w = .ok (.func fn first cap) w := fun _ _ _ _ => rfl
  go_enter Tryz.func130, Tryz.ntmps130
  go_wp2_with (go_at_call 126; refine (binary_mk _ rfl _).mono ?_; rintro e w1 ⟨C, rfl, hc, hC, hcd, hb⟩; have hcd2 : Cold w1 w.heap.size := Cold.ext (by repeat' (first | exact Cold.alloc rfl | refine Cold.setCell ?_ _ _)) hb; have hk := hb.cell (p := ⟨w.heap.size, 0, none⟩) (v := .func (.func g) #[] #[]) (by simp [go_sem]); simp only [World.size_alloc] at hC; have he : Ext w w1 := Ext.trans xt hb)
  go_ret
  exact ⟨C, w.heap.size, rfl, hc, hk, by omega, Nat.le_refl _, hcd, hcd2, he⟩
end Go.Proofs.YtcjjoabofecjmaaGreat

namespace Go.Proofs.YtcjjoabofecjmaaGreat
open Go.RowKit Go.Sort
theorem wpQuiet_load_mid {P : Program} {ops : Array Oper} {C : World → Prop} {Q : Act → Prop} {rest : List Oper} {op : Oper} {a : Act} (hg : op.guard = none) (ty : TypeId) (x : Operand) (ho : op.op = .load ty x)
    (b o : Nat) (hx : a.eval x = .pointer (some ⟨b, o, none⟩)) (cs : List Value) (d : TypeDesc) (hc : ∀ w, C w → w.rangeAt b o cs)
    (hu : P.underlying ty = some d) (hd : d.isRow = true) (hi : (P.info? ty).map (·.size) = some cs.length)
    (h : wpQuiet P ops C Q rest (a.put op.dst (.agg cs.toArray))) : wpQuiet P ops C Q (op :: rest) a :=
  wpQuiet_step fun K hK => by
    rw [if_pos (by simp [Region.wanted, hg])]
    refine ⟨.agg cs.toArray, fun w hw => ?_, hK _ h⟩
    unfold Oper.quietAt execOp
    simp only [ho, hx, Instr.loadAt, Instr.sureAddr, Sem.run_bind, Sem.run_pure, Result.andThen_ok, run_loadVar_mid w b o ty cs d (hc w hw) hu hd hi]
    exact ⟨rfl, rfl⟩
theorem range_regrown {W : World} {b o : Nat} {cs : List Value} (h : W.rangeAt b o cs) : ∀ w', (∃ p : Regrown, w' = grow (redrawn W p.d) p.os) → w'.rangeAt b o cs := by
  rintro w' ⟨p, rfl⟩
  exact range_ext h (below_regrown W p.d p.os)
end Go.Proofs.YtcjjoabofecjmaaGreat

namespace Go.Proofs.YtcjjoabofecjmaaGreat
open Go.RowKit Go.Sort
theorem RunSt.jump {X : List Value} {B R : Nat} {P3 : List Value} {w : World} {t : Tsk} {n : Int} {VF VB : Value} {rs hs : List Value} {gs : List (List Value)} (h : RunSt X B R P3 w t n VF VB rs hs gs) {f : Frm} (ht : topF t = some f) {g c m : Nat} (hV : VF = .slice (some ⟨g, 0, none⟩) m c) {x : Int} (hx : InR x) :
    RunSt X B R P3 (w.setCell ⟨g, (t.frames.length - 1) * 5 + 1, none⟩ (Value.int .i64 x)) (setTop t { f with pc := x }) n VF VB rs hs gs ∧ B ≤ g := by
  obtain ⟨g', c', e, hB, _, _, h4⟩ := h.set_pc ht
  rw [hV] at e
  injection e with q1 q2 q3
  injection q1 with q1
  injection q1 with q1
  subst q1
  exact ⟨h4 x hx, hB⟩
set_option maxRecDepth 4000 in
set_option maxHeartbeats 4000000 in
theorem op_jump {X : List Value} {B R : Nat} {P3 : List Value} {w : World} {t : Tsk} {n : Int} {VF VB : Value} {rs hs : List Value} {gs : List (List Value)} (h : RunSt X B R P3 w t n VF VB rs hs gs) {f : Frm} (ht : TopOk t f) (x : Ins) (VX : Value) (ha : InR x.a) :
    Calls Tryz.prog 139 #[.pointer (some ⟨R, 0, none⟩), .agg #[Value.int .i64 x.op, Value.int .i64 x.a, Value.int .i64 x.b, Value.int .i64 x.c, VX]] w (OpPost X B R P3 w (jumpS t f x.a) n) := by
  have hlR := h.lt.2
  have hBW : B ≤ w.heap.size := by have := h.lt; omega
  have R1 := h.task
  obtain ⟨gF, cF, v, rfl, hv, hpos, hgF, _, c0, c1, c2, c3, c4⟩ := h.top ht.top
  obtain ⟨g2, c2', e2, hB2, z2, _, _⟩ := h.set_pc ht.top
  cases e2
  have H := Lib.hid h
  have HT := Lib.hid ht.top
  have HA := Lib.hid ha
  have hl := ht.len
  unfold tskL at R1
  clear h ht hv
  obtain ⟨N, hN⟩ : ∃ N, t.frames.length = N := ⟨_, rfl⟩
  have HN := Lib.hid hN
  rw [hN] at R1 c0 c1 c2 c3 c4 hpos hl z2
  clear hN
  go_enter Tryz.func139, Tryz.ntmps139
  go_wp2
  (refine wp_region_quiet_tail 9 (by kernel_rfl) (by kernel_rfl) ?_; (try simp only [List.take_succ_cons, List.take_zero, List.drop_succ_cons, List.drop_zero]); (repeat (first | ((with_reducible show wpQuiet _ _ _ _ ({ dst := _, op := Op.load 32 _, type := _, pos := _, after := _, guard := none } :: _) _); refine wpQuiet_load_mid rfl 32 _ rfl _ _ rfl _ _ (range_regrown (by exact rg)) Tryz.underlying32 rfl (by exact infoTsk) ?_; (try simp only [Act.put, aset, dZ, dS])) | go_big_quiet_step ((go_at_call 75; exact quiet_ext ((innermost_any _ _ _ _ _ _ _ _ _ _ _ _ _ gF 0 N cF _ hpos (by omega))))))); refine wpQuiet_nil ?_; intro w1 hw1; obtain ⟨hc, hf, hs, he⟩ := Ext.use (w := w) (ext_of_regrown hw1) xt; clear hw1; (try simp only [sA, sC, sD, sN] at hs))
  go_wp2
  go_end0
  have h1 := H.out.mono (show Ext w w1 from he)
  obtain ⟨h2, hB⟩ := h1.jump HT.out rfl HA.out
  rw [← HN.out]
  exact ⟨rfl, ⟨_, _, _, _, _, h2⟩, Kept.store (Kept.mono he hBW) hB _ (h2.hotF rfl)⟩
end Go.Proofs.YtcjjoabofecjmaaGreat

namespace Go.Proofs.YtcjjoabofecjmaaGreat
open Go.RowKit Go.Sort
set_option maxRecDepth 4000 in
set_option maxHeartbeats 4000000 in
theorem op_assert {X : List Value} {B R : Nat} {P3 : List Value} {w : World} {t : Tsk} {n : Int} {VF VB : Value} {rs hs : List Value} {gs : List (List Value)} (h : RunSt X B R P3 w t n VF VB rs hs gs) {f : Frm} (ht : TopOk t f) (x : Ins) (VX : Value) (ha : InF f x.a) :
    Calls Tryz.prog 146 #[.pointer (some ⟨R, 0, none⟩), .agg #[Value.int .i64 x.op, Value.int .i64 x.a, Value.int .i64 x.b, Value.int .i64 x.c, VX]] w (OpPost X B R P3 w (if regS f x.a = 0 then failT t 4 else jumpS t f (f.pc + 1)) n) := by
  have HG := Lib.hid (fun W (hE : Ext w W) => reg_is (h.mono hE) ht ha)
  have hlR := h.lt.2
  have hBW : B ≤ w.heap.size := by have := h.lt; omega
  have R1 := h.task
  obtain ⟨gF, cF, v, rfl, hv, hpos, hgF, _, c0, c1, c2, c3, c4⟩ := h.top ht.top
  obtain ⟨g2, c2', e2, hB2, z2, _, _⟩ := h.set_pc ht.top
  cases e2
  have H := Lib.hid h
  have HT := Lib.hid ht.top
  have hl := ht.len
  have hpc1 := ht.pc.1
  have hpc2 := ht.pc.2
  have hwr : IntKind.i64.wrap (f.pc + 1) = f.pc + 1 := IntWalk.i64_in _ (by omega)
  have HP : Hid (InR (f.pc + 1)) := ⟨by omega, by omega⟩
  clear h ht hv
  obtain ⟨y, hy⟩ : ∃ y, regS f x.a = y := ⟨_, rfl⟩
  rw [hy] at HG ⊢
  clear hy
  unfold tskL at R1
  obtain ⟨N, hN⟩ : ∃ N, t.frames.length = N := ⟨_, rfl⟩
  have HN := Lib.hid hN
  rw [hN] at R1 c0 c1 c2 c3 c4 hpos hl z2
  clear hN
  by_cases hy : y = 0
  · have hy1 : (y == 0) = true := by simpa using hy
    rw [if_pos hy]
    clear hy
    go_enter Tryz.func146, Tryz.ntmps146
    go_wp2_with (first | ((first | ((with_reducible show Code.wp _ (Code.region _ (List.toArray ({ dst := _, op := Op.load 32 _, type := _, pos := _, after := _, guard := none } :: _)) false) _ _ _); refine wp_region_lit ?_) | (with_reducible show wpList _ _ _ ({ dst := _, op := Op.load 32 _, type := _, pos := _, after := _, guard := none } :: _) _ _)); refine wpList_load_mid rfl 32 _ rfl _ _ rfl _ _ (by exact rg) Tryz.underlying32 rfl (by exact infoTsk) ?_; dsimp only [dZ, dS]) | (go_at_call 125; refine (HG.out _ xt).mono ?_; rintro e w1 ⟨rfl, hb⟩; have R2 := range_ext (b := R) (o := 3) (by exact rg) hb; obtain ⟨hc, hf, hs, he⟩ := Ext.use (w := w) hb xt; clear hb; (try simp only [World.size_alloc] at hs)))
    exact ⟨rfl, rfl, ⟨_, _, _, _, _, H.out.mono he⟩, Kept.mono he hBW⟩
  · have hy1 : (y == 0) = false := by simpa using hy
    rw [if_neg hy]
    clear hy
    go_enter Tryz.func146, Tryz.ntmps146
    go_wp2_with (first | ((first | ((with_reducible show Code.wp _ (Code.region _ (List.toArray ({ dst := _, op := Op.load 32 _, type := _, pos := _, after := _, guard := none } :: _)) false) _ _ _); refine wp_region_lit ?_) | (with_reducible show wpList _ _ _ ({ dst := _, op := Op.load 32 _, type := _, pos := _, after := _, guard := none } :: _) _ _)); refine wpList_load_mid rfl 32 _ rfl _ _ rfl _ _ (by exact rg) Tryz.underlying32 rfl (by exact infoTsk) ?_; dsimp only [dZ, dS]) | (go_at_call 125; refine (HG.out _ xt).mono ?_; rintro e w1 ⟨rfl, hb⟩; have R2 := range_ext (b := R) (o := 3) (by exact rg) hb; obtain ⟨hc, hf, hs, he⟩ := Ext.use (w := w) hb xt; clear hb; (try simp only [World.size_alloc] at hs)) | (go_at_call 75; refine (innermost_any _ _ _ _ _ _ _ _ _ _ _ _ _ gF 0 N cF _ hpos (by omega)).mono ?_; rintro e w2 ⟨rfl, hb2⟩; obtain ⟨hc2, hf2, hs2, he2⟩ := Ext.use (w := w) hb2 xt; clear hb2))
    go_end0
    have h1 := H.out.mono (show Ext w w2 from he2)
    obtain ⟨h2, hB⟩ := h1.jump HT.out rfl HP.out
    rw [← HN.out]
    exact ⟨rfl, ⟨_, _, _, _, _, h2⟩, Kept.store (Kept.mono he2 hBW) hB _ (h2.hotF rfl)⟩
set_option maxRecDepth 4000 in
set_option maxHeartbeats 4000000 in
theorem op_fail {X : List Value} {B R : Nat} {P3 : List Value} {w : World} {t : Tsk} {n : Int} {VF VB : Value} {rs hs : List Value} {gs : List (List Value)} (h : RunSt X B R P3 w t n VF VB rs hs gs) {f : Frm} (ht : TopOk t f) (x : Ins) (VX : Value) (ha : InF f x.a) :
    Calls Tryz.prog 147 #[.pointer (some ⟨R, 0, none⟩), .agg #[Value.int .i64 x.op, Value.int .i64 x.a, Value.int .i64 x.b, Value.int .i64 x.c, VX]] w (OpPost X B R P3 w (if regS f x.a < 0 ∨ 899 < regS f x.a then failT t 8 else failT t (100 + regS f x.a)) n) := by
  have HG := Lib.hid (fun W (hE : Ext w W) => reg_is (h.mono hE) ht ha)
  have H := Lib.hid h
  have hBW : B ≤ w.heap.size := by have := h.lt; omega
  clear h ht
  obtain ⟨y, hy⟩ : ∃ y, regS f x.a = y := ⟨_, rfl⟩
  rw [hy] at HG ⊢
  clear hy
  by_cases hb : y < 0 ∨ 899 < y
  · rw [if_pos hb]
    by_cases h0 : y < 0
    · clear hb
      go_enter Tryz.func147, Tryz.ntmps147
      go_wp2_with (go_at_call 125; refine (HG.out _ xt).mono ?_; rintro e w1 ⟨rfl, hb⟩; obtain ⟨hc, hf, hs, he⟩ := Ext.use (w := w) hb xt; clear hb; (try simp only [sA, sC, sD, sN] at hs))
      exact ⟨rfl, rfl, ⟨_, _, _, _, _, H.out.mono he⟩, Kept.mono he hBW⟩
    · have h1 : 899 < y := by omega
      clear hb
      go_enter Tryz.func147, Tryz.ntmps147
      go_wp2_with (go_at_call 125; refine (HG.out _ xt).mono ?_; rintro e w1 ⟨rfl, hb⟩; obtain ⟨hc, hf, hs, he⟩ := Ext.use (w := w) hb xt; clear hb; (try simp only [sA, sC, sD, sN] at hs))
      exact ⟨rfl, rfl, ⟨_, _, _, _, _, H.out.mono he⟩, Kept.mono he hBW⟩
  · rw [if_neg hb]
    have h0 : ¬ y < 0 := fun h => hb (.inl h)
    have h1 : ¬ 899 < y := fun h => hb (.inr h)
    have hw : IntKind.i64.wrap (100 + y) = 100 + y := IntWalk.i64_in _ (by omega)
    clear hb
    go_enter Tryz.func147, Tryz.ntmps147
    go_wp2_with (go_at_call 125; refine (HG.out _ xt).mono ?_; rintro e w1 ⟨rfl, hb⟩; obtain ⟨hc, hf, hs, he⟩ := Ext.use (w := w) hb xt; clear hb; (try simp only [sA, sC, sD, sN] at hs))
    exact ⟨rfl, rfl, ⟨_, _, _, _, _, H.out.mono he⟩, Kept.mono he hBW⟩
end Go.Proofs.YtcjjoabofecjmaaGreat
