/- A part of the proof: checker.operand of package program; isName of package program and IsName of the reference; Searches for a number in a slice of numbers; forbidden; the checks of operands of package program; slices.Chunk at a slice of numbers whose length is three times m; checker.register, the predicate of checker.args, and slices.Chunk itself; checker.cases of package program; checker.args of package program. -/
import Derived.Test.YtcjjoabofecjmaaGreatQ02
import Derived.Test.YtcjjoabofecjmaaGreatQ04
import Derived.Test.YtcjjoabofecjmaaGreatProg
import Derived.Test.YtcjjoabofecjmaaGreatQ01
import Derived.BigQuiet
import Derived.Lib.ConvBytes
import Derived.RangeFuncNested
import Derived.RangeFuncBound
import Derived.RangeFuncCalls
import Derived.RangeFuncLeaves
import Derived.Shelf.Abstract
import Derived.Shelf.RegionOpen
import Derived.WalkKit
import Derived.OwnWalkIn
import Derived.TacticsInMore
import Derived.LoopNIn
import Derived.LoopIn
import Derived.Sort.LoopGhostIn
import Derived.Sort.QuietIn
import Derived.Lib.Hide
import Derived.Stop.RegionWithIn
import Derived.RangeFuncFrom
set_option linter.unusedVariables false
set_option linter.unusedSimpArgs false
namespace Go.Proofs.YtcjjoabofecjmaaGreat
open Go.RowKit
def RCk (w : World) (p : Prg) (f : Fnc) (V : Value) : Prop := ∃ Af nf cf Ao no co Av nv cv Ac nc cc, V = .agg #[.slice Af nf cf, .slice Ao no co, .slice Av nv cv, .string f.name, Value.int .i64 f.params, Value.int .i64 f.regs, Value.int .i64 f.prio, .bool f.cleanup, .slice Ac nc cc] ∧
  RSl 6 RFnc w Af nf p.funcs ∧ RSl 4 ROb w Ao no p.objs ∧ RSl 3 RVr w Av nv p.vars ∧ RSl 5 RIns w Ac nc f.code
theorem RCk.mono {w W : World} {p : Prg} {f : Fnc} {V : Value} (h : RCk w p f V) (hw : Ext w W) : RCk W p f V := by
  obtain ⟨Af, nf, cf, Ao, no, co, Av, nv, cv, Ac, nc, cc, h1, h2, h3, h4, h5⟩ := h
  exact ⟨Af, nf, cf, Ao, no, co, Av, nv, cv, Ac, nc, cc, h1, h2.mono RFnc.stays hw, h3.mono ROb.stays hw, h4.mono RVr.stays hw, h5.mono RIns.stays hw⟩
def operandS (p : Prg) (f : Fnc) (o : Opd) (n : Int) : Int :=
  if o.what = 0 then (if n = 0 then 0 else 1)
  else if o.what = 1 then (if inB n (-1099511627776) 1099511627776 then 0 else 2)
  else if o.what = 2 then insideS n 100
  else if o.what = 3 ∨ o.what = 4 then insideS n f.regs
  else if o.what = 5 then (if -1 ≤ n ∧ n < f.regs then 0 else 2)
  else if o.what = 6 then insideS n f.code.length
  else if o.what = 7 then (if 0 ≤ n then match f.code[n.toNat]? with | some x => if x.op = 36 then 0 else 8 | none => 2 else 2)
  else if o.what = 8 ∨ o.what = 9 then (if 0 ≤ n then match p.funcs[n.toNat]? with | some g => if g.cleanup = decide (o.what = 9) then 0 else 16 | none => 2 else 2)
  else if o.what = 10 ∨ o.what = 11 then (if 0 ≤ n then match p.vars[n.toNat]? with | some v => if o.what = 11 ∧ v.atomic = false then 16 else 0 | none => 2 else 2)
  else (if 0 ≤ n then match p.objs[n.toNat]? with | some x => if x.kind = o.kind then 0 else 8 | none => 2 else 2)
theorem insideS_in {n len : Int} (h : 0 ≤ n ∧ n < len) : insideS n len = 0 := if_pos h
theorem insideS_out {n len : Int} (h : ¬ (0 ≤ n ∧ n < len)) : insideS n len = 2 := if_neg h
set_option maxHeartbeats 1000000 in
theorem operand_low (p : Prg) (f : Fnc) (o : Opd) (n : Int) (V : Value) (w : World) (hV : RCk w p f V) (ho : o.what = 0 ∨ o.what = 1 ∨ o.what = 2) :
    Calls Tryz.prog 154 #[V, .agg #[.int .i64 o.what, .int .i64 o.kind], .int .i64 n] w fun e w' => e = .returned (.int .i64 (operandS p f o n)) ∧ Ext w w' := by
  obtain ⟨Af, nf, cf, Ao, no, co, Av, nv, cv, Ac, nc, cc, rfl, _, _, _, _⟩ := hV
  obtain ⟨wh, kd⟩ := o
  dsimp only at ho ⊢
  rcases ho with rfl | rfl | rfl
  all_goals
    go_enter Tryz.func154, Tryz.ntmps154
    go_wp2_with (first | (go_at_call 107; refine (within_any _ _ _ _).mono ?_; rintro e w' ⟨rfl, rfl⟩) | (go_at_call 164; refine (inside_any _ _ _ (by omega) (by omega)).mono ?_; rintro e w' ⟨rfl, rfl⟩))
    all_goals (go_ret; exact ⟨ret_int (by simp_all [operandS]), xt⟩)
set_option maxHeartbeats 1000000 in
theorem operand_regs (p : Prg) (f : Fnc) (o : Opd) (n : Int) (V : Value) (w : World) (hV : RCk w p f V) (hr : 0 ≤ f.regs ∧ f.regs ≤ 32) (ho : o.what = 3 ∨ o.what = 4 ∨ o.what = 6) :
    Calls Tryz.prog 154 #[V, .agg #[.int .i64 o.what, .int .i64 o.kind], .int .i64 n] w fun e w' => e = .returned (.int .i64 (operandS p f o n)) ∧ Ext w w' := by
  obtain ⟨Af, nf, cf, Ao, no, co, Av, nv, cv, Ac, nc, cc, rfl, _, _, _, hC⟩ := hV
  have hCl := hC.le
  have HL := Lib.hid hC.len
  obtain ⟨wh, kd⟩ := o
  dsimp only at ho ⊢
  rcases ho with rfl | rfl | rfl
  all_goals
    go_enter Tryz.func154, Tryz.ntmps154
    go_wp2_with (first | (go_at_call 164; refine (inside_any _ _ _ (by omega) (by omega)).mono ?_; rintro e w' ⟨rfl, rfl⟩))
    all_goals (go_ret; exact ⟨ret_int (by have := HL.out; simp_all [operandS]), xt⟩)
theorem inside_opt (n reg : Int) (hn : InR n) (hr : 0 ≤ reg ∧ reg ≤ 32) : insideS (wrap64 (n + 1)) (reg + 1) = if -1 ≤ n ∧ n < reg then 0 else 2 := by
  unfold InR at hn
  unfold insideS wrap64
  split <;> split <;> first | rfl | omega
set_option maxHeartbeats 1000000 in
theorem operand_opt (p : Prg) (f : Fnc) (o : Opd) (n : Int) (V : Value) (w : World) (hV : RCk w p f V) (hn : InR n) (hr : 0 ≤ f.regs ∧ f.regs ≤ 32) (ho : o.what = 5) :
    Calls Tryz.prog 154 #[V, .agg #[.int .i64 o.what, .int .i64 o.kind], .int .i64 n] w fun e w' => e = .returned (.int .i64 (operandS p f o n)) ∧ Ext w w' := by
  obtain ⟨Af, nf, cf, Ao, no, co, Av, nv, cv, Ac, nc, cc, rfl, _, _, _, _⟩ := hV
  obtain ⟨wh, kd⟩ := o
  dsimp only at ho ⊢
  subst ho
  have HI := Lib.hid (inside_opt n f.regs hn hr)
  clear hn
  go_enter Tryz.func154, Tryz.ntmps154
  go_wp2_with (first | (go_at_call 164; refine (inside_any _ _ _ (by omega) (by omega)).mono ?_; rintro e w' ⟨rfl, rfl⟩))
  go_ret
  exact ⟨ret_int (by rw [HI.out]; simp [operandS]), xt⟩
set_option maxHeartbeats 1000000 in
theorem operand_close (p : Prg) (f : Fnc) (o : Opd) (n : Int) (V : Value) (w : World) (hV : RCk w p f V) (ho : o.what = 7) :
    Calls Tryz.prog 154 #[V, .agg #[.int .i64 o.what, .int .i64 o.kind], .int .i64 n] w fun e w' => e = .returned (.int .i64 (operandS p f o n)) ∧ Ext w w' := by
  obtain ⟨Af, nf, cf, Ao, no, co, Av, nv, cv, Ac, nc, cc, rfl, _, _, _, hC⟩ := hV
  have hCl := hC.le
  have HL := Lib.hid hC.len
  obtain ⟨wh, kd⟩ := o
  dsimp only at ho ⊢
  subst ho
  by_cases h : 0 ≤ n ∧ n < (nc : Int)
  · have hin : insideS n (nc : Int) = 0 := insideS_in h
    obtain ⟨x, hx⟩ : ∃ x, f.code[n.toNat]? = some x := ⟨_, List.getElem?_eq_getElem (by have := HL.out; omega)⟩
    obtain ⟨b, off, Aa, na, ca, rfl, hlb, i1, i2, i3, i4, hA, c0, c1, c2, c3, c4⟩ := hC.ins hx
    have HX := Lib.hid hx
    clear hx c1 c2 c3 c4 hA i1 i2 i3 i4 hC
    obtain ⟨h1, h2⟩ := h
    go_enter Tryz.func154, Tryz.ntmps154
    go_wp2_with (first | (go_at_call 164; refine (inside_any _ _ _ (by omega) (by omega)).mono ?_; rintro e w' ⟨rfl, rfl⟩))
    all_goals (go_ret; exact ⟨ret_int (by have := HX.out; simp_all [operandS]), xt⟩)
  · have hin : insideS n (nc : Int) = 2 := insideS_out h
    have HS : Hid (operandS p f ⟨7, kd⟩ n = 2) := by
      unfold Hid operandS
      have := HL.out
      by_cases h0 : 0 ≤ n
      · rw [List.getElem?_eq_none (by omega)]; simp
      · simp [h0]
    clear hC h
    go_enter Tryz.func154, Tryz.ntmps154
    go_wp2_with (first | (go_at_call 164; refine (inside_any _ _ _ (by omega) (by omega)).mono ?_; rintro e w' ⟨rfl, rfl⟩))
    all_goals (go_ret; exact ⟨ret_int (by rw [HS.out]), xt⟩)
set_option maxHeartbeats 1000000 in
theorem operand_funcs (p : Prg) (f : Fnc) (o : Opd) (n : Int) (V : Value) (w : World) (hV : RCk w p f V) (ho : o.what = 8 ∨ o.what = 9) :
    Calls Tryz.prog 154 #[V, .agg #[.int .i64 o.what, .int .i64 o.kind], .int .i64 n] w fun e w' => e = .returned (.int .i64 (operandS p f o n)) ∧ Ext w w' := by
  obtain ⟨Af, nf, cf, Ao, no, co, Av, nv, cv, Ac, nc, cc, rfl, hF, _, _, _⟩ := hV
  have hFl := hF.le
  have HL := Lib.hid hF.len
  obtain ⟨wh, kd⟩ := o
  dsimp only at ho ⊢
  by_cases h : 0 ≤ n ∧ n < (nf : Int)
  · have hin : insideS n (nf : Int) = 0 := insideS_in h
    obtain ⟨x, hx⟩ : ∃ x, p.funcs[n.toNat]? = some x := ⟨_, List.getElem?_eq_getElem (by have := HL.out; omega)⟩
    obtain ⟨b, off, Aa, na, ca, rfl, hlb, i1, i2, i3, i4, hA, c0, c1, c2, c3, c4, c5⟩ := hF.fnc hx
    have HX := Lib.hid hx
    clear hx c0 c1 c2 c3 c5 hA i1 i2 i3 i4 hF
    obtain ⟨h1, h2⟩ := h
    rcases ho with rfl | rfl
    all_goals
      go_enter Tryz.func154, Tryz.ntmps154
      go_wp2_with (first | (go_at_call 164; refine (inside_any _ _ _ (by omega) (by omega)).mono ?_; rintro e w' ⟨rfl, rfl⟩))
      go_quiet (fail)
      go_wp2
      all_goals (go_ret; exact ⟨ret_int (by have := HX.out; simp_all [operandS]), xt⟩)
  · have hin : insideS n (nf : Int) = 2 := insideS_out h
    have HS : Hid (operandS p f ⟨wh, kd⟩ n = 2) := by
      unfold Hid operandS
      have := HL.out
      by_cases h0 : 0 ≤ n
      · rw [show p.funcs[n.toNat]? = none from List.getElem?_eq_none (by omega)]; rcases ho with rfl | rfl <;> simp
      · rcases ho with rfl | rfl <;> simp [h0]
    clear hF h
    rcases ho with rfl | rfl
    all_goals
      go_enter Tryz.func154, Tryz.ntmps154
      go_wp2_with (first | (go_at_call 164; refine (inside_any _ _ _ (by omega) (by omega)).mono ?_; rintro e w' ⟨rfl, rfl⟩))
      go_quiet (fail)
      go_wp2
      all_goals (go_ret; exact ⟨ret_int (by rw [HS.out]), xt⟩)
set_option maxHeartbeats 1000000 in
theorem operand_vars (p : Prg) (f : Fnc) (o : Opd) (n : Int) (V : Value) (w : World) (hV : RCk w p f V) (ho : o.what = 10 ∨ o.what = 11) :
    Calls Tryz.prog 154 #[V, .agg #[.int .i64 o.what, .int .i64 o.kind], .int .i64 n] w fun e w' => e = .returned (.int .i64 (operandS p f o n)) ∧ Ext w w' := by
  obtain ⟨Af, nf, cf, Ao, no, co, Av, nv, cv, Ac, nc, cc, rfl, _, _, hF, _⟩ := hV
  have hFl := hF.le
  have HL := Lib.hid hF.len
  obtain ⟨wh, kd⟩ := o
  dsimp only at ho ⊢
  by_cases h : 0 ≤ n ∧ n < (nv : Int)
  · have hin : insideS n (nv : Int) = 0 := insideS_in h
    obtain ⟨x, hx⟩ : ∃ x, p.vars[n.toNat]? = some x := ⟨_, List.getElem?_eq_getElem (by have := HL.out; omega)⟩
    obtain ⟨b, off, rfl, hlb, i1, i2, c0, c1, c2⟩ := hF.vr hx
    have HX := Lib.hid hx
    clear hx c0 c1 i1 i2 hF
    obtain ⟨h1, h2⟩ := h
    rcases ho with rfl | rfl
    all_goals
      go_enter Tryz.func154, Tryz.ntmps154
      go_wp2_with (first | (go_at_call 164; refine (inside_any _ _ _ (by omega) (by omega)).mono ?_; rintro e w' ⟨rfl, rfl⟩))
      all_goals (go_ret; exact ⟨ret_int (by have := HX.out; simp_all [operandS]), xt⟩)
  · have hin : insideS n (nv : Int) = 2 := insideS_out h
    have HS : Hid (operandS p f ⟨wh, kd⟩ n = 2) := by
      unfold Hid operandS
      have := HL.out
      by_cases h0 : 0 ≤ n
      · rw [show p.vars[n.toNat]? = none from List.getElem?_eq_none (by omega)]; rcases ho with rfl | rfl <;> simp
      · rcases ho with rfl | rfl <;> simp [h0]
    clear hF h
    rcases ho with rfl | rfl
    all_goals
      go_enter Tryz.func154, Tryz.ntmps154
      go_wp2_with (first | (go_at_call 164; refine (inside_any _ _ _ (by omega) (by omega)).mono ?_; rintro e w' ⟨rfl, rfl⟩))
      all_goals (go_ret; exact ⟨ret_int (by rw [HS.out]), xt⟩)
set_option maxHeartbeats 1000000 in
theorem operand_objs (p : Prg) (f : Fnc) (o : Opd) (n : Int) (V : Value) (w : World) (hV : RCk w p f V) (ho : o.what = 12) :
    Calls Tryz.prog 154 #[V, .agg #[.int .i64 o.what, .int .i64 o.kind], .int .i64 n] w fun e w' => e = .returned (.int .i64 (operandS p f o n)) ∧ Ext w w' := by
  obtain ⟨Af, nf, cf, Ao, no, co, Av, nv, cv, Ac, nc, cc, rfl, _, hF, _, _⟩ := hV
  have hFl := hF.le
  have HL := Lib.hid hF.len
  obtain ⟨wh, kd⟩ := o
  dsimp only at ho ⊢
  subst ho
  by_cases h : 0 ≤ n ∧ n < (no : Int)
  · have hin : insideS n (no : Int) = 0 := insideS_in h
    obtain ⟨x, hx⟩ : ∃ x, p.objs[n.toNat]? = some x := ⟨_, List.getElem?_eq_getElem (by have := HL.out; omega)⟩
    obtain ⟨b, off, rfl, hlb, i1, i2, i3, i4, c0, c1, c2, c3⟩ := hF.ob hx
    have HX := Lib.hid hx
    clear hx c0 c2 c3 i1 i2 i3 i4 hF
    obtain ⟨h1, h2⟩ := h
    go_enter Tryz.func154, Tryz.ntmps154
    go_wp2_with (first | (go_at_call 164; refine (inside_any _ _ _ (by omega) (by omega)).mono ?_; rintro e w' ⟨rfl, rfl⟩))
    go_quiet (fail)
    go_wp2
    all_goals (go_ret; exact ⟨ret_int (by have := HX.out; simp_all [operandS]), xt⟩)
  · have hin : insideS n (no : Int) = 2 := insideS_out h
    have HS : Hid (operandS p f ⟨12, kd⟩ n = 2) := by
      unfold Hid operandS
      have := HL.out
      by_cases h0 : 0 ≤ n
      · rw [show p.objs[n.toNat]? = none from List.getElem?_eq_none (by omega)]; simp
      · simp [h0]
    clear hF h
    go_enter Tryz.func154, Tryz.ntmps154
    go_wp2_with (first | (go_at_call 164; refine (inside_any _ _ _ (by omega) (by omega)).mono ?_; rintro e w' ⟨rfl, rfl⟩))
    go_quiet (fail)
    go_wp2
    all_goals (go_ret; exact ⟨ret_int (by rw [HS.out]), xt⟩)
theorem operand_any (p : Prg) (f : Fnc) (o : Opd) (n : Int) (V : Value) (w : World) (hV : RCk w p f V) (hn : InR n) (hr : 0 ≤ f.regs ∧ f.regs ≤ 32) (ho : 0 ≤ o.what ∧ o.what ≤ 12) :
    Calls Tryz.prog 154 #[V, .agg #[.int .i64 o.what, .int .i64 o.kind], .int .i64 n] w fun e w' => e = .returned (.int .i64 (operandS p f o n)) ∧ Ext w w' := by
  have h : (o.what = 0 ∨ o.what = 1 ∨ o.what = 2) ∨ (o.what = 3 ∨ o.what = 4 ∨ o.what = 6) ∨ o.what = 5 ∨ o.what = 7 ∨ (o.what = 8 ∨ o.what = 9) ∨ (o.what = 10 ∨ o.what = 11) ∨ o.what = 12 := by omega
  rcases h with h | h | h | h | h | h | h
  · exact operand_low p f o n V w hV h
  · exact operand_regs p f o n V w hV hr h
  · exact operand_opt p f o n V w hV hn hr h
  · exact operand_close p f o n V w hV h
  · exact operand_funcs p f o n V w hV h
  · exact operand_vars p f o n V w hV h
  · exact operand_objs p f o n V w hV h
end Go.Proofs.YtcjjoabofecjmaaGreat

namespace Go.Proofs.YtcjjoabofecjmaaGreat
open Go.RowKit
def nmOk (i : Nat) (c : Int) : Prop := (97 ≤ c ∧ c ≤ 122) ∨ (i ≠ 0 ∧ ((48 ≤ c ∧ c ≤ 57) ∨ c = 95))
instance (i : Nat) (c : Int) : Decidable (nmOk i c) := by unfold nmOk; infer_instance
def nmAt (s : ByteArray) (i : Nat) : Prop := nmOk i (s.data.toList.getD i 0).toNat
instance (s : ByteArray) (i : Nat) : Decidable (nmAt s i) := by unfold nmAt; infer_instance
def nmB (s : ByteArray) : Bool := decide (1 ≤ (s.size : Int)) && decide ((s.size : Int) ≤ 30) && (List.range s.size).all fun i => decide (nmAt s i)
theorem nmB_false {s : ByteArray} {k : Nat} (hk : k < s.size) (h : ¬ nmAt s k) : nmB s = false := by
  unfold nmB
  rw [show ((List.range s.size).all fun i => decide (nmAt s i)) = false from List.all_eq_false.2 ⟨k, List.mem_range.2 hk, by simp [h]⟩]
  simp
theorem nmB_end {s : ByteArray} (h : ∀ j, j < s.size → nmAt s j) : nmB s = (decide (1 ≤ (s.size : Int)) && decide ((s.size : Int) ≤ 30)) := by
  unfold nmB
  rw [List.all_eq_true.2 fun j hj => by simpa using h j (List.mem_range.1 hj)]
  simp
theorem nmB_size {s : ByteArray} (h : ¬ (1 ≤ (s.size : Int) ∧ (s.size : Int) ≤ 30)) : nmB s = false := by
  unfold nmB
  rw [Bool.and_eq_false_iff]
  left
  simp; omega
theorem run_convert_program {w : World} {s : ByteArray} : (convert 9 159 (.string s)).run Tryz.prog w = .ok (.slice (some ⟨w.heap.size, 0, none⟩) s.size (grownCap w s.size 0 5)) (Lib.bytesWorld w 5 s) :=
  Lib.run_convert_string_bytes w _ _ _ s Tryz.underlying9 Tryz.underlying159 Tryz.underlying5
theorem Ext.bytesWorld (w : World) (e : TypeId) (s : ByteArray) : Ext w (Lib.bytesWorld w e s) :=
  ⟨rfl, rfl, rfl, by rw [Lib.bytesWorld_size]; omega, fun k hk => Lib.bytesWorld_at_old w e s k hk⟩
set_option maxHeartbeats 1000000 in
theorem isName_any (s : ByteArray) (w : World) (hs : s.size ≤ 140737488355328) :
    Calls Tryz.prog 106 #[.string s] w fun e w' => e = .returned (.bool (nmB s)) ∧ Ext w w' := by
  have hconv := fun w => run_convert_program (w := w) (s := s)
  have hcell := fun k (h : k < s.size) => Lib.bytesWorld_cell w 5 s k h
  have HX : Hid (Ext w (Lib.bytesWorld w 5 s)) := Ext.bytesWorld w _ s
  generalize grownCap w s.size 0 5 = cp at hconv
  go_enter Tryz.func106, Tryz.ntmps106
  go_wp2
  generalize Lib.bytesWorld w 5 s = wb at hcell HX ⊢
  go_loop [9] (fun i => ∃ k : Nat, k ≤ s.size ∧ i = .int .i64 k ∧ Hid (∀ j, j < k → nmAt s j)) (fun i => s.size - (intOf i).toNat)
  case atStart => exact ⟨0, Nat.zero_le _, rfl, fun j hj => absurd hj (Nat.not_lt_zero _)⟩
  case round =>
    obtain ⟨k, hk, rfl, HP⟩ := hrel
    by_cases hlt : k < s.size
    · have hltz : (k : Int) < (s.size : Int) := by omega
      have hck := hcell k hlt
      have HT : Hid (nmAt s k = nmOk k (s.data.toList.getD k 0).toNat) := rfl
      generalize (s.data.toList.getD k 0).toNat = c at hck HT
      clear hcell hconv
      have hkb : (((k : Int) == 0) = true ∧ Hid (k = 0)) ∨ (((k : Int) == 0) = false ∧ Hid (k ≠ 0)) := by
        by_cases h : k = 0
        · exact .inl ⟨by simp [h], h⟩
        · exact .inr ⟨by simp [h], h⟩
      rcases hkb with ⟨hkb, HK⟩ | ⟨hkb, HK⟩
      all_goals
        go_wp2
        all_goals try (go_ret; exact ⟨ret_bool (by rw [nmB_false hlt (by rw [HT.out]; have := HK.out; unfold nmOk; (try simp at *); omega)]), HX.out⟩)
        all_goals go_round
        all_goals first | (simp [intOf]; omega) | skip
        all_goals
          refine ⟨k + 1, by omega, by go_num, fun j hj => ?_⟩
          rcases Nat.lt_succ_iff_lt_or_eq.1 hj with h | rfl
          · exact HP.out j h
          · rw [HT.out]; have := HK.out; unfold nmOk; (try simp at *); omega
    · have hke : k = s.size := by omega
      subst hke
      clear hcell hconv
      go_wp2
      all_goals (go_ret; exact ⟨ret_bool (by rw [nmB_end HP.out]; simp [*] <;> omega), HX.out⟩)
theorem loop_len (s : ByteArray) : ∀ (n i : Nat) (r : List UInt8), s.size - i = n → (ByteArray.toList.loop s i r).length = r.length + n := by
  intro n
  induction n with
  | zero => intro i r h; unfold ByteArray.toList.loop; rw [if_neg (by omega)]; simp
  | succ n ih => intro i r h; unfold ByteArray.toList.loop; rw [if_pos (by omega), ih _ _ (by omega)]; simp; omega
theorem toList_nil_iff (s : ByteArray) : s.toList = [] ↔ s.size = 0 := by
  have := loop_len s s.size 0 [] rfl
  unfold ByteArray.toList
  rw [← List.length_eq_zero_iff, this]; simp
set_option maxHeartbeats 1000000 in
theorem refIsName_any (s : ByteArray) (w : World) (hs : s.size ≤ 140737488355328) :
    Calls Tryz.prog 119 #[.string s] w fun e w' => e = .returned (.bool (nmB s)) ∧ w = w' := by
  have hemp := toList_nil_iff s
  by_cases h0 : s.size = 0
  · have h1 : s.toList = [] := hemp.2 h0
    have HZ : Hid (s.size = 0) := h0
    have hf : nmB s = false := nmB_size (by omega)
    clear h0 hemp
    go_enter Tryz.func119, Tryz.ntmps119
    go_wp2
    go_ret
    exact ⟨ret_bool (by rw [hf]), rfl⟩
  have h1 : s.toList.isEmpty = false := by simp [List.isEmpty_eq_false_iff, hemp, h0]
  clear hemp
  by_cases h30 : (30 : Int) < s.size
  · have hf : nmB s = false := nmB_size (by omega)
    clear h0
    go_enter Tryz.func119, Tryz.ntmps119
    go_wp2
    go_ret
    exact ⟨ret_bool (by rw [hf]), rfl⟩
  have HF : Hid (∀ k, k < s.size → ¬ nmAt s k → nmB s = false) := fun k h1 h2 => nmB_false h1 h2
  have HE : Hid ((∀ j, j < s.size → nmAt s j) → nmB s = true) := fun h => by rw [nmB_end h]; simp; omega
  have h0' : 1 ≤ s.size := by omega
  clear h0
  go_enter Tryz.func119, Tryz.ntmps119
  go_wp2
  go_loop [3] (fun i => ∃ k : Nat, k ≤ s.size ∧ i = .int .i64 k ∧ Hid (∀ j, j < k → nmAt s j)) (fun i => s.size - (intOf i).toNat)
  case atStart => exact ⟨0, Nat.zero_le _, rfl, fun j hj => absurd hj (Nat.not_lt_zero _)⟩
  case round =>
    obtain ⟨k, hk, rfl, HP⟩ := hrel
    by_cases hlt : k < s.size
    · have hltz : (k : Int) < (s.size : Int) := by omega
      have HT : Hid (nmAt s k = nmOk k (s[k]'hlt).toNat) := by
        unfold Hid nmAt
        congr 2
        simp [List.getD, hlt]; rfl
      have hkb : (((k : Int) == 0) = true ∧ Hid (k = 0)) ∨ (((k : Int) == 0) = false ∧ Hid (k ≠ 0)) := by
        by_cases h : k = 0
        · exact .inl ⟨by simp [h], h⟩
        · exact .inr ⟨by simp [h], h⟩
      rcases hkb with ⟨hkb, HK⟩ | ⟨hkb, HK⟩
      all_goals
        go_wp2
        all_goals try (go_ret; exact ⟨ret_bool (by rw [HF.out k hlt (by rw [HT.out]; have := HK.out; unfold nmOk; (try simp at *); omega)]), rfl⟩)
        all_goals go_round
        all_goals first | (simp [intOf]; omega) | skip
        all_goals
          refine ⟨k + 1, by omega, by go_num, fun j hj => ?_⟩
          rcases Nat.lt_succ_iff_lt_or_eq.1 hj with h | rfl
          · exact HP.out j h
          · rw [HT.out]; have := HK.out; unfold nmOk; (try simp at *); omega
    · have hke : k = s.size := by omega
      subst hke
      go_wp2
      go_ret
      exact ⟨ret_bool (by rw [HE.out HP.out]), rfl⟩
end Go.Proofs.YtcjjoabofecjmaaGreat

namespace Go.Proofs.YtcjjoabofecjmaaGreat
open Go.RowKit
set_option maxHeartbeats 1000000 in
theorem indexInts (x : Int) (A : Option Addr) (n c : Nat) (xs : List Int) (w : World) (hs : RSl 1 RInt w A n xs) :
    Calls Tryz.prog 170 #[.slice A n c, .int .i64 x] w fun e w' => e = .returned (.int .i64 (idxFrom (fun y => x == y) xs 0)) ∧ w = w' := by
  have hle := hs.le
  have HL : Hid (n = xs.length) := hs.len
  go_enter Tryz.func170, Tryz.ntmps170
  go_wp2
  go_loopg [5, 8] n (fun gg _ s8 wr => ∃ kk : Nat, kk ≤ n ∧ n - kk ≤ gg ∧ s8 = .int .i64 kk ∧ Hid (w = wr) ∧ Hid (idxFrom (fun y => x == y) xs 0 = idxFrom (fun y => x == y) (xs.drop kk) kk))
  case atStart => exact ⟨0, Nat.zero_le _, by omega, rfl, rfl, rfl⟩
  case round =>
    obtain ⟨kk, hkk, hg, rfl, HW, HI⟩ := hrel
    by_cases hlt : kk < n
    · have hltz : (kk : Int) < (n : Int) := by omega
      have hx : ∃ y, xs[kk]? = some y := ⟨_, List.getElem?_eq_getElem (by have := HL.out; omega)⟩
      obtain ⟨y, hx⟩ := hx
      obtain ⟨b, off, rfl, hlb, hin, h0⟩ := hs.int hx
      rw [HW.out] at h0
      have HD : Hid (xs.drop kk = y :: xs.drop (kk + 1)) := drop_cons hx
      clear hlb hin hx hs
      cases hq : (x == y) with
      | true =>
        have HQ : Hid ((x == y) = true) := hq
        go_wp2
        go_ret
        exact ⟨ret_int (by rw [HI.out, HD.out, idxFrom, if_pos HQ.out]), HW.out⟩
      | false =>
        have HQ : Hid ((x == y) = false) := hq
        go_wp2
        go_roundg (n - (kk + 1))
        case measure => omega
        case rel => exact ⟨kk + 1, by omega, by omega, by go_num, HW.out, by rw [Hid, HI.out, HD.out, idxFrom, if_neg (by rw [HQ.out]; decide)]⟩
    · have hltz : ¬ (kk : Int) < (n : Int) := by omega
      clear hs
      go_wp2
      go_ret
      exact ⟨ret_int (by rw [HI.out, List.drop_eq_nil_of_le (by have := HL.out; omega)]; rfl), HW.out⟩
theorem containsInts (x : Int) (A : Option Addr) (n c : Nat) (xs : List Int) (w : World) (hs : RSl 1 RInt w A n xs) :
    Calls Tryz.prog 163 #[.slice A n c, .int .i64 x] w fun e w' => e = .returned (.bool (xs.any fun y => x == y)) ∧ w = w' := by
  rw [← idxFrom_nonneg (fun y => x == y) xs 0]
  go_enter Tryz.func163, Tryz.ntmps163
  go_wp2_with (go_at_call 170; refine (indexInts x A n c xs _ hs).mono ?_; rintro e w' ⟨rfl, rfl⟩)
  go_ret
  exact ⟨rfl, rfl⟩
theorem RSl.newInts (w : World) (xs : List Int) (t : TypeId) (hn : xs.length ≤ 1000000) (hi : ∀ x ∈ xs, InR x) : RSl 1 RInt (w.alloc (.cells (xs.map (Value.int .i64)).toArray t)) (some ⟨w.heap.size, 0, none⟩) xs.length xs := by
  refine ⟨rfl, by omega, fun k x hk => ⟨_, _, [.int .i64 x], rfl, rfl, ⟨rfl, hi x (List.mem_of_getElem? hk)⟩, fun j v hj => ?_⟩⟩
  cases j with
  | zero =>
    simp only [List.getElem?_cons_zero, Option.some.injEq] at hj
    subst hj
    simp [World.cell?, World.alloc, hk, -World.alloc_eq]
  | succ j => simp at hj
def forbS (op : Int) : Bool := [15, 17, 18, 19, 34, 35, 36, 37, 42, 43].any fun y => op == y
set_option maxHeartbeats 400000 in
theorem forbidden_any (op : Int) (w : World) :
    Calls Tryz.prog 153 #[.int .i64 op] w fun e w' => e = .returned (.bool (forbS op)) ∧ Ext w w' := by
  have hs := RSl.newInts w [15, 17, 18, 19, 34, 35, 36, 37, 42, 43] 3 (by simp) (by intro x hx; simp at hx; unfold InR; omega)
  have HS := Lib.hid hs
  clear hs
  go_enter Tryz.func153, Tryz.ntmps153
  go_wp2_with fail
  refine (containsInts op _ _ _ _ _ HS.out).mono ?_
  rintro e w' ⟨rfl, rfl⟩
  go_wp2
  go_ret
  exact ⟨ret_bool (by simp [forbS]), xt⟩
end Go.Proofs.YtcjjoabofecjmaaGreat

namespace Go.Proofs.YtcjjoabofecjmaaGreat
open Go.RowKit Go.Shelf
attribute [local go_sem] Oper.semAt_some
def chunkV (b off : Nat) {m : Nat} (k : Fin m) : Array Value := #[.slice (some ⟨b, off + k.1 * 3, none⟩) 3 3]
def ChunkKeeps (B2 B3 : Nat) (W W' : World) : Prop := W'.heap[B2]? = W.heap[B2]? ∧ W'.heap[B3]? = W.heap[B3]?
set_option maxHeartbeats 1000000 in
theorem chunk1_in (m B2 B3 b off cap : Nat) (l : Nat) (J Jx : List (Fin m) → World → Prop) (hm : m * 3 ≤ 140737488355328) (hcap : m * 3 ≤ cap)
    (hY : ∀ pre x W, J pre W → pre.length < m → YieldAt Fence.wide 4 Tryz.prog l (chunkV b off x) W fun e W' =>
      (e = .returned (.bool true) ∧ J (pre ++ [x]) W' ∧ ChunkKeeps B2 B3 W W') ∨ (e = .returned (.bool false) ∧ Jx (pre ++ [x]) W'))
    (W : World) (h2 : W.cell? ⟨B2, 0, none⟩ = some (.slice (some ⟨b, off, none⟩) (m * 3) cap)) (h3 : W.cell? ⟨B3, 0, none⟩ = some (.int .i64 3)) (h0 : J [] W) (hJd : ∀ pre W n, J pre W → J pre (W.drewN n)) :
    CallsIn Fence.wide 5 Tryz.prog 172 #[.func (.yield l) #[] #[], .pointer (some ⟨B2, 0, none⟩), .pointer (some ⟨B3, 0, none⟩)] W fun e W' => (∃ v, e = .returned v) ∧
      ((∃ ys, ys = List.finRange m ∧ J ys W') ∨ (∃ pre, pre <+: List.finRange m ∧ Jx pre W')) := by
  have hro : Fence.wide.round = none := rfl
  have h6 : Fence.wide.fn 172 := trivial
  refine callsIn_of_wp Tryz.func172 rfl h6 ?_ hro
  simp only [Tryz.ntmps172, List.size_toArray, List.length_cons, List.length_nil, Nat.reduceAdd, Nat.reduceSub, Array.replicate_succ, Array.replicate_zero, List.push_toArray, List.append_toArray, List.nil_append, List.cons_append]
  gi_wp2
  gi_loopw [4] (fun i wr => ∃ k : Nat, k ≤ m ∧ i = .int .i64 (↑(k * 3) : Int) ∧ wr.cell? ⟨B2, 0, none⟩ = some (.slice (some ⟨b, off, none⟩) (m * 3) cap) ∧ wr.cell? ⟨B3, 0, none⟩ = some (.int .i64 3) ∧ J ((List.finRange m).take k) wr)
    (fun i _ => m * 3 - (intOf i).toNat)
  case atStart => exact ⟨0, Nat.zero_le _, rfl, h2, h3, by simpa using h0⟩
  case round =>
    obtain ⟨k, hk, rfl, hc2, hc3, hJs⟩ := hrel
    clear h0 h2 h3
    by_cases hlt : k < m
    · have hltz : ((k * 3 : Nat) : Int) < ((m * 3 : Nat) : Int) := by omega
      have hsl : (k : Int) * 3 ≤ (m : Int) * 3 := by omega
      gi_wp2
      refine wpIn_wide.2 ?_
      go_quiet (fail)
      obtain ⟨fn, tmps, assign, body, hy, hR⟩ := hY ((List.finRange m).take k) ⟨k, hlt⟩ (wr.drewN nq) (hJd _ _ _ hJs) (by rw [List.length_take, List.length_finRange]; omega)
      unfold chunkV at hy
      dsimp only at hy
      clear hY
      have HT : Hid ((List.finRange m).take k ++ [⟨k, hlt⟩] = (List.finRange m).take (k + 1)) := by
        unfold Hid
        rw [List.take_succ_eq_append_getElem (by rw [List.length_finRange]; exact hlt), List.getElem_finRange]; rfl
      gi_wp2
      refine hR.mono ?_
      rintro e W3 (⟨rfl, hJ3, hK2, hK3⟩ | ⟨rfl, hJx3⟩)
      · have hc2' : W3.cell? ⟨B2, 0, none⟩ = some (.slice (some ⟨b, off, none⟩) (m * 3) cap) := (World.cell?_of_block (w := wr.drewN nq) hK2).trans hc2
        have hc3' : W3.cell? ⟨B3, 0, none⟩ = some (.int .i64 3) := (World.cell?_of_block (w := wr.drewN nq) hK3).trans hc3
        rw [HT.out] at hJ3
        have HJ := Lib.hid hJ3
        clear hJ3 hK2 hK3 hJs hy hc2 hc3 hJd
        gi_wp2
        exact ⟨⟨k + 1, by omega, by congr 1; omega, hc2', hc3', HJ.out⟩, by simp [intOf]; omega⟩
      · rw [HT.out] at hJx3
        have HJ := Lib.hid hJx3
        clear hJx3 hJs hy hc2 hc3 hJd
        gi_wp2
        refine bodyPost_ret (results_none rfl _ _ _) rfl ?_
        exact ⟨⟨_, rfl⟩, .inr ⟨_, List.take_prefix _ _, HJ.out⟩⟩
    · have hke : k = m := by omega
      subst hke
      gi_wp2
      go_end0
      exact ⟨⟨_, rfl⟩, .inl ⟨_, rfl, by simpa [List.take_of_length_le] using hJs⟩⟩
end Go.Proofs.YtcjjoabofecjmaaGreat

namespace Go.Proofs.YtcjjoabofecjmaaGreat
open Go.RowKit
def regB (f : Fnc) (n : Int) : Bool := inB n 0 (f.regs - 1)
set_option maxHeartbeats 400000 in
theorem register_any (p : Prg) (f : Fnc) (n : Int) (V : Value) (w : World) (hV : RCk w p f V) (hr : 0 ≤ f.regs ∧ f.regs ≤ 32) :
    Calls Tryz.prog 167 #[V, .int .i64 n] w fun e w' => e = .returned (.bool (regB f n)) ∧ Ext w w' := by
  obtain ⟨Af, nf, cf, Ao, no, co, Av, nv, cv, Ac, nc, cc, rfl, _, _, _, _⟩ := hV
  go_enter Tryz.func167, Tryz.ntmps167
  go_wp2_with (go_at_call 107; refine (within_any _ _ _ _).mono ?_; rintro e w' ⟨rfl, rfl⟩)
  go_ret
  exact ⟨rfl, xt⟩
theorem args1_pred (p : Prg) (f : Fnc) (B : Nat) (w : World) (xs : List Int) (hr : 0 ≤ f.regs ∧ f.regs ≤ 32)
    (hB : ∀ W, Ext w W → ∃ Af nf cf Ao no co Av nv cv Ac nc cc, RCk W p f (.agg #[.slice Af nf cf, .slice Ao no co, .slice Av nv cv, .string f.name, Value.int .i64 f.params, Value.int .i64 f.regs, Value.int .i64 f.prio, .bool f.cleanup, .slice Ac nc cc]) ∧
      W.cell? ⟨B, 0, none⟩ = some (.slice Af nf cf) ∧ W.cell? ⟨B, 1, none⟩ = some (.slice Ao no co) ∧ W.cell? ⟨B, 2, none⟩ = some (.slice Av nv cv) ∧ W.cell? ⟨B, 3, none⟩ = some (.string f.name) ∧ W.cell? ⟨B, 4, none⟩ = some (Value.int .i64 f.params) ∧
      W.cell? ⟨B, 5, none⟩ = some (Value.int .i64 f.regs) ∧ W.cell? ⟨B, 6, none⟩ = some (Value.int .i64 f.prio) ∧ W.cell? ⟨B, 7, none⟩ = some (.bool f.cleanup) ∧ W.cell? ⟨B, 8, none⟩ = some (.slice Ac nc cc)) :
    PredOn Tryz.prog 166 #[.pointer (some ⟨B, 0, none⟩)] (fun cs => cs.headD undef) RInt w xs (fun n => !regB f n) := by
  intro W k x cs hW hx hR
  obtain ⟨rfl, hin⟩ := hR
  obtain ⟨Af, nf, cf, Ao, no, co, Av, nv, cv, Ac, nc, cc, hV, c0, c1, c2, c3, c4, c5, c6, c7, c8⟩ := hB W hW
  clear hB hx hW
  simp only [List.headD_cons, List.push_toArray, List.append_toArray, List.cons_append, List.nil_append]
  clear w
  obtain ⟨w, hw⟩ : ∃ w, w = W := ⟨_, rfl⟩
  subst hw
  go_enter Tryz.func166, Tryz.ntmps166
  go_wp2_with (go_at_call 167; refine (register_any p f _ _ _ (hV.mono xt) hr).mono ?_; rintro e w1 ⟨rfl, hb⟩; obtain ⟨hc, hf, hs, he⟩ := Ext.use (w := w) hb xt; clear hb; (try simp only [sA, sC, sD, sN] at hs))
  go_ret
  exact ⟨rfl, xt⟩
set_option maxHeartbeats 400000 in
theorem chunk_any (A : Option Addr) (n c : Nat) (w : World) :
    Calls Tryz.prog 171 #[.slice A n c, .int .i64 3] w fun e w' => e = .returned (.func (.func 172) #[] #[.pointer (some ⟨w.heap.size, 0, none⟩), .pointer (some ⟨w.heap.size + 1, 0, none⟩)]) ∧
      (w.alloc (.cells #[.slice A n c] 35)).alloc (.cells #[.int .i64 3] 3) = w' := by
  have hmf : ∀ (fn : Go.Fn) (first cap : Array Value) (w : World), (Instr.makeFunc fn first cap).run Tryz.prog w = .ok (.func fn first cap) w := fun _ _ _ _ => rfl
  go_enter Tryz.func171, Tryz.ntmps171
  go_wp2
  go_ret
  exact ⟨rfl, rfl⟩
end Go.Proofs.YtcjjoabofecjmaaGreat

namespace Go.Proofs.YtcjjoabofecjmaaGreat
open Go.RowKit Go.Shelf
attribute [local go_sem] Oper.semAt_some
def caseS (p : Prg) (f : Fnc) (kind ch reg : Int) : Int :=
  if kind = 3 then (if ch ≠ 0 ∨ reg ≠ 0 then 1 else 0)
  else if kind = 1 ∨ kind = 2 then
    (if operandS p f (oO 6) ch ≠ 0 then operandS p f (oO 6) ch else if kind = 1 ∧ regB f reg = false then 2 else if kind = 2 ∧ reg ≠ 0 then 1 else 0)
  else 8
def caseAt (p : Prg) (f : Fnc) (l : List Int) (k : Nat) : Int := caseS p f (l.getD (k * 3) 0) (l.getD (k * 3 + 1) 0) (l.getD (k * 3 + 2) 0)
def dflt (l : List Int) (k : Nat) : Nat := if l.getD (k * 3) 0 = 3 then 1 else 0
def casesFrom (p : Prg) (f : Fnc) (l : List Int) : List Nat → Nat → Int
  | [], d => if 1 < d then 16 else 0
  | k :: ks, d => if caseAt p f l k ≠ 0 then caseAt p f l k else casesFrom p f l ks (d + dflt l k)
def casesS (p : Prg) (f : Fnc) (l : List Int) : Int :=
  if l.length = 0 ∨ l.length % 3 ≠ 0 ∨ 18 < l.length then 10 else casesFrom p f l (List.range (l.length / 3)) 0
structure CasesIn {m : Nat} (w w0 : World) (p : Prg) (f : Fnc) (l : List Int) (B : Nat) (pre : List (Fin m)) (W : World) : Prop where
  below : Below w.heap.size w W
  size : B + 5 ≤ W.heap.size
  oks : ∀ k ∈ pre, caseAt p f l k.1 = 0
  cnt : W.cell? ⟨B + 2, 0, none⟩ = some (.int .i64 ((pre.map fun k => (dflt l k.1 : Int)).sum))
  cntf : W.frozen? ⟨B + 2, 0, none⟩ = false
  res : ∃ r, W.cell? ⟨B + 1, 0, none⟩ = some (.int .i64 r)
  resf : W.frozen? ⟨B + 1, 0, none⟩ = false
  ck : ∀ j v, w0.cell? ⟨B, j, none⟩ = some v → W.cell? ⟨B, j, none⟩ = some v
theorem of_ext (k : Int) (w : World) : Calls Tryz.prog 102 #[.int .i64 k] w fun e w' => e = .returned (.agg #[.int .i64 12, .int .i64 k]) ∧ Ext w w' :=
  (of_any k w).mono fun _ _ ⟨he, hw⟩ => ⟨he, hw ▸ (Ext.refl w).alloc _⟩
theorem dflt_le (l : List Int) {m : Nat} : ∀ (pre : List (Fin m)), 0 ≤ (pre.map fun k => (dflt l k.1 : Int)).sum ∧ (pre.map fun k => (dflt l k.1 : Int)).sum ≤ pre.length
  | [] => by simp
  | k :: ks => by
    have := dflt_le l ks
    have h2 : dflt l k.1 ≤ 1 := by unfold dflt; split <;> omega
    simp only [List.map_cons, List.sum_cons, List.length_cons]
    omega
theorem foldl_one (t : Array Value) (p : Tmp) (v : Value) : ((#[p] : Array Tmp).zip #[v]).foldl (fun t (p, v) => t.setIfInBounds p v) t = t.setIfInBounds p v := by simp
theorem wpIn_hid {F : Fence} {n : Nat} {P : Program} {c : Code} {Q : Exit → Act → World → Prop} {a : Act} {w : World} (h : ∀ W, Hid (W = w) → c.wpIn F n P Q a W) : c.wpIn F n P Q a w := h w rfl
theorem casesIn_own {m : Nat} (w w0 : World) (p : Prg) (f : Fnc) (l : List Int) (B : Nat) (hw0 : w.heap.size ≤ w0.heap.size) : OwnFrom (β := List (Fin m)) w0.heap.size (CasesIn w w0 p f l B) := by
  intro pre W W' row h hg hr
  have hr' : ∀ r, row = some r → ∃ o : Obj, W.heap[r]? = some o ∧ o.isCells = false := fun r e => (hr r e).2
  obtain ⟨r, hres⟩ := h.res
  exact ⟨h.below.grown hg (Nat.le_trans h.below.size (Nat.le_refl _) |> fun _ => h.below.size) (fun k e => Nat.le_trans hw0 (hr k e).1), Nat.le_trans h.size hg.size, h.oks, cell_kept h.cnt hg hr', (frozen_kept h.cnt hg hr').trans h.cntf, ⟨r, cell_kept hres hg hr'⟩,
    (frozen_kept hres hg hr').trans h.resf, fun j v hj => cell_kept (h.ck j v hj) hg hr'⟩
def CasesOut {m : Nat} (w : World) (p : Prg) (f : Fnc) (l : List Int) (B : Nat) (c : Code) (pre : List (Fin m)) (W : World) : Prop :=
  c = .ret ∧ Below w.heap.size w W ∧ ∃ pre' x, pre = pre' ++ [x] ∧ (∀ k ∈ pre', caseAt p f l k.1 = 0) ∧ caseAt p f l x.1 ≠ 0 ∧ W.cell? ⟨B + 1, 0, none⟩ = some (.int .i64 (caseAt p f l x.1))
theorem casesOut_own {m : Nat} (w w0 : World) (p : Prg) (f : Fnc) (l : List Int) (B : Nat) (hw0 : w.heap.size ≤ w0.heap.size) (c : Code) : OwnFrom (β := List (Fin m)) w0.heap.size (CasesOut w p f l B c) := by
  rintro pre W W' row ⟨hc, hb, pre', x, h1, h2, h3, h4⟩ hg hr
  exact ⟨hc, hb.grown hg hb.size (fun k e => Nat.le_trans hw0 (hr k e).1), pre', x, h1, h2, h3, cell_kept h4 hg (fun r e => (hr r e).2)⟩
theorem keepsOthers_of_ext {W W' : World} (h : Ext W W') : KeepsOthers W W' :=
  ⟨h.size, fun k o hk _ => (Below.block h k (Array.getElem?_eq_some_iff.1 hk).1).trans hk⟩
theorem out_step {m : Nat} {u w0 : World} {p : Prg} {f : Fnc} {l : List Int} {pre : List (Fin m)} {W W1 : World} (h : CasesIn u w0 p f l u.heap.size pre W) (hE : Ext W W1) (x : Fin m) {v : Int} (hv : caseAt p f l x.1 = v) (hne : v ≠ 0) :
    KeepsOthers W (W1.setCell ⟨u.heap.size + 1, 0, none⟩ (.int .i64 v)) ∧ CasesOut u p f l u.heap.size .ret (pre ++ [x]) (W1.setCell ⟨u.heap.size + 1, 0, none⟩ (.int .i64 v)) := by
  obtain ⟨r, hres⟩ := h.res
  refine ⟨(keepsOthers_of_ext hE).trans (KeepsOthers.setCell _ _ _), rfl, (h.below.trans (Below.mono hE h.below.size)).setCell (by simp) _, pre, x, rfl, h.oks, by rw [hv]; exact hne, ?_⟩
  rw [hv]
  exact World.cell?_setCell_same W1 ⟨u.heap.size + 1, 0, none⟩ _ (hE.cell hres)
theorem out_step2 {m : Nat} {u w0 : World} {p : Prg} {f : Fnc} {l : List Int} {pre : List (Fin m)} {W W1 : World} (h : CasesIn u w0 p f l u.heap.size pre W) (hE : Ext W W1) (x : Fin m) {v : Int} {c : Value} (hv : caseAt p f l x.1 = v) (hne : v ≠ 0) :
    KeepsOthers W ((W1.setCell ⟨u.heap.size + 1 + 1, 0, none⟩ c).setCell ⟨u.heap.size + 1, 0, none⟩ (.int .i64 v)) ∧ CasesOut u p f l u.heap.size .ret (pre ++ [x]) ((W1.setCell ⟨u.heap.size + 1 + 1, 0, none⟩ c).setCell ⟨u.heap.size + 1, 0, none⟩ (.int .i64 v)) := by
  obtain ⟨r, hres⟩ := h.res
  refine ⟨((keepsOthers_of_ext hE).trans (KeepsOthers.setCell _ _ _)).trans (KeepsOthers.setCell _ _ _), rfl, ((h.below.trans (Below.mono hE h.below.size)).setCell (by simp; omega) _).setCell (by simp) _, pre, x, rfl, h.oks, by rw [hv]; exact hne, ?_⟩
  rw [hv]
  exact World.cell?_setCell_same _ ⟨u.heap.size + 1, 0, none⟩ _ ((World.cell?_setCell_other _ _ _ _ (by simp)).trans (hE.cell hres))
theorem ok_step {m : Nat} {u w0 : World} {p : Prg} {f : Fnc} {l : List Int} {pre : List (Fin m)} {W W1 : World} (h : CasesIn u w0 p f l u.heap.size pre W) (hE : Ext W W1) (x : Fin m) (hv : caseAt p f l x.1 = 0) (hd : dflt l x.1 = 0) :
    KeepsOthers W W1 ∧ ChunkKeeps (u.heap.size + 3) (u.heap.size + 4) W W1 ∧ CasesIn u w0 p f l u.heap.size (pre ++ [x]) W1 := by
  have hz := h.size
  obtain ⟨r, hres⟩ := h.res
  refine ⟨keepsOthers_of_ext hE, ⟨Below.block hE _ (by omega), Below.block hE _ (by omega)⟩, h.below.trans (Below.mono hE h.below.size), Nat.le_trans hz hE.size, ?_, ?_, ?_, ⟨r, hE.cell hres⟩, ?_, fun j v hj => hE.cell (h.ck j v hj)⟩
  · intro k hk
    rcases List.mem_append.1 hk with hk | hk
    · exact h.oks k hk
    · rw [List.mem_singleton] at hk; rw [hk]; exact hv
  · rw [List.map_append, List.sum_append]; simpa [hd] using hE.cell h.cnt
  · exact (Below.frozen hE (p := ⟨u.heap.size + 2, 0, none⟩) (by simp; omega)).trans h.cntf
  · exact (Below.frozen hE (p := ⟨u.heap.size + 1, 0, none⟩) (by simp; omega)).trans h.resf
theorem df_step {m : Nat} {u w0 : World} {p : Prg} {f : Fnc} {l : List Int} {pre : List (Fin m)} {W W1 : World} {cnt : Int} (h : CasesIn u w0 p f l u.heap.size pre W) (hE : Ext W W1) (x : Fin m) (hv : caseAt p f l x.1 = 0) (hd : dflt l x.1 = 1)
    (hc : (pre.map fun k => (dflt l k.1 : Int)).sum = cnt) :
    KeepsOthers W (W1.setCell ⟨u.heap.size + 2, 0, none⟩ (.int .i64 (cnt + 1))) ∧ ChunkKeeps (u.heap.size + 3) (u.heap.size + 4) W (W1.setCell ⟨u.heap.size + 2, 0, none⟩ (.int .i64 (cnt + 1))) ∧ CasesIn u w0 p f l u.heap.size (pre ++ [x]) (W1.setCell ⟨u.heap.size + 2, 0, none⟩ (.int .i64 (cnt + 1))) := by
  have hz := h.size
  obtain ⟨r, hres⟩ := h.res
  have hb : ∀ k, k ≠ u.heap.size + 2 → k < W.heap.size → (W1.setCell ⟨u.heap.size + 2, 0, none⟩ (.int .i64 (cnt + 1))).heap[k]? = W.heap[k]? := fun k hk hl => (Below.heap_setCell _ _ _ _ hk).trans (Below.block hE _ hl)
  refine ⟨(keepsOthers_of_ext hE).trans (KeepsOthers.setCell _ _ _), ⟨hb _ (by omega) (by omega), hb _ (by omega) (by omega)⟩, (h.below.trans (Below.mono hE h.below.size)).setCell (by simp) _, by simpa using Nat.le_trans hz hE.size, ?_, ?_, ?_, ⟨r, (World.cell?_setCell_other _ _ _ _ (by simp)).trans (hE.cell hres)⟩, ?_, fun j v hj => ?_⟩
  · intro k hk
    rcases List.mem_append.1 hk with hk | hk
    · exact h.oks k hk
    · rw [List.mem_singleton] at hk; rw [hk]; exact hv
  · rw [List.map_append, List.sum_append, hc]
    simp only [List.map_cons, List.map_nil, List.sum_cons, List.sum_nil, hd]
    exact World.cell?_setCell_same W1 ⟨u.heap.size + 2, 0, none⟩ _ (hE.cell h.cnt)
  · rw [World.frozen?_setCell]
    exact (Below.frozen hE (p := ⟨u.heap.size + 2, 0, none⟩) (by simp; omega)).trans h.cntf
  · rw [World.frozen?_setCell]
    exact (Below.frozen hE (p := ⟨u.heap.size + 1, 0, none⟩) (by simp; omega)).trans h.resf
  · exact (World.cell?_setCell_other _ _ _ _ (by simp)).trans (hE.cell (h.ck j v hj))
theorem casesFrom_ok (p : Prg) (f : Fnc) (l : List Int) : ∀ (ks : List Nat) (d : Nat), (∀ k ∈ ks, caseAt p f l k = 0) → casesFrom p f l ks d = if 1 < d + (ks.map fun k => dflt l k).sum then 16 else 0
  | [], d, _ => by simp [casesFrom]
  | k :: ks, d, h => by
    rw [casesFrom, if_neg (by simp [h k (by simp)]), casesFrom_ok p f l ks _ (fun j hj => h j (by simp [hj]))]
    simp [Nat.add_assoc]
theorem casesFrom_bad (p : Prg) (f : Fnc) (l : List Int) (x : Nat) (tl : List Nat) (hx : caseAt p f l x ≠ 0) : ∀ (ks : List Nat) (d : Nat), (∀ k ∈ ks, caseAt p f l k = 0) → casesFrom p f l (ks ++ x :: tl) d = caseAt p f l x
  | [], d, _ => by simp [casesFrom, hx]
  | k :: ks, d, h => by
    rw [List.cons_append, casesFrom, if_neg (by simp [h k (by simp)])]
    exact casesFrom_bad p f l x tl hx ks _ (fun j hj => h j (by simp [hj]))
theorem range_fin (m : Nat) : List.range m = (List.finRange m).map (·.1) := by
  apply List.ext_getElem <;> simp
theorem casesFrom_fin_ok (p : Prg) (f : Fnc) (l : List Int) (m : Nat) (h : ∀ k ∈ List.finRange m, caseAt p f l k.1 = 0) {cnt : Int} (hc : ((List.finRange m).map fun k => (dflt l k.1 : Int)).sum = cnt) :
    casesFrom p f l (List.range m) 0 = if 1 < cnt then 16 else 0 := by
  rw [range_fin, casesFrom_ok p f l _ 0 (by intro k hk; obtain ⟨j, hj, rfl⟩ := List.mem_map.1 hk; exact h j hj)]
  have e : ∀ ks : List (Fin m), ((((ks.map (·.1)).map fun k => dflt l k).sum : Nat) : Int) = (ks.map fun k => (dflt l k.1 : Int)).sum := by
    intro ks
    induction ks with
    | nil => rfl
    | cons k ks ih => simp only [List.map_cons, List.sum_cons] at ih ⊢; omega
  have := e (List.finRange m)
  rw [hc] at this
  by_cases h1 : (1 : Int) < cnt
  · rw [if_pos h1, if_pos (by omega)]
  · rw [if_neg h1, if_neg (by omega)]
theorem casesFrom_fin_bad (p : Prg) (f : Fnc) (l : List Int) (m : Nat) {pre : List (Fin m)} {x : Fin m} (hp : pre ++ [x] <+: List.finRange m) (h : ∀ k ∈ pre, caseAt p f l k.1 = 0) (hx : caseAt p f l x.1 ≠ 0) :
    casesFrom p f l (List.range m) 0 = caseAt p f l x.1 := by
  obtain ⟨tl, ht⟩ := hp
  rw [range_fin, ← ht, List.append_assoc, List.singleton_append, List.map_append, List.map_cons]
  exact casesFrom_bad p f l x.1 _ hx _ 0 (by intro k hk; obtain ⟨j, hj, rfl⟩ := List.mem_map.1 hk; exact h j hj)
set_option maxHeartbeats 4000000 in
theorem cases_loop (p : Prg) (f : Fnc) (l : List Int) (V : Value) (A : Option Addr) (m c : Nat) (u : World) (hV : RCk u p f V) (hr : 0 ≤ f.regs ∧ f.regs ≤ 32) (hl : RSl 1 RInt u A (m * 3) l) (hcap : m * 3 ≤ c) (hm : 0 < m) (hm6 : m ≤ 6) :
    Calls Tryz.prog 165 #[V, .slice A ↑(m * 3) c] u fun e w' => e = .returned (.int .i64 (casesFrom p f l (List.range m) 0)) ∧ Ext u w' := by
  have hV' := hV
  obtain ⟨Af, nf, cf, Ao, no, co, Av, nv, cv, Ac, nc, cc, rfl, _, _, _, _⟩ := hV
  have HL := Lib.hid hl.len
  have hl0 : ∃ x, l[0]? = some x := ⟨_, List.getElem?_eq_getElem (by have := HL.out; omega)⟩
  obtain ⟨x0, hx0⟩ := hl0
  obtain ⟨b, off, rfl, hlb, _, _⟩ := hl.int hx0
  clear hx0
  have t1 : (((m : Int) * 3) == 0) = false := by simp; omega
  have t3 : decide ((18 : Int) < (m : Int) * 3) = false := by simp; omega
  refine (callsIn_wide (n := 6)).1 ?_
  refine callsIn_of_wp_marks Tryz.func165 rfl trivial ?_ rfl
  simp only [Tryz.ntmps165, List.size_toArray, List.length_cons, List.length_nil, Nat.reduceAdd, Nat.reduceSub, Array.replicate_succ, Array.replicate_zero, List.push_toArray, List.append_toArray, List.nil_append, List.cons_append]
  gi_wp2_with (refine ⟨trivial, ?_⟩; gi_at_call 171; refine (callsIn_wide.2 (chunk_any _ _ _ _)).mono ?_; rintro e w' ⟨rfl, rfl⟩)
  refine wpIn_hid ?_
  intro w0 HW0
  have HE : Hid (Ext u w0) := by rw [HW0.out]; exact Lib.hid xt
  have hsz : w0.heap.size = u.heap.size + 5 := by rw [HW0.out]; simp
  have hb3 : w0.cell? ⟨u.heap.size + 3, 0, none⟩ = some (.slice (some ⟨b, off, none⟩) (m * 3) c) := by rw [HW0.out]; simp [go_sem]
  have hb4 : w0.cell? ⟨u.heap.size + 4, 0, none⟩ = some (.int .i64 3) := by rw [HW0.out]; simp [go_sem]
  have HI : Hid (CasesIn (m := m) u w0 p f l u.heap.size [] w0) := by
    refine ⟨HE.out, by omega, (fun _ h => by cases h), ?_, ?_, ⟨0, ?_⟩, ?_, fun _ _ h => h⟩
    · rw [HW0.out]; simp [go_sem]
    · rw [HW0.out]; simp [go_sem]
    · rw [HW0.out]; simp [go_sem]
    · rw [HW0.out]; simp [go_sem]
  have hck0 : w0.cell? ⟨u.heap.size, 0, none⟩ = some (.slice Af nf cf) := by rw [HW0.out]; simp [go_sem]
  have hck1 : w0.cell? ⟨u.heap.size, 1, none⟩ = some (.slice Ao no co) := by rw [HW0.out]; simp [go_sem]
  have hck2 : w0.cell? ⟨u.heap.size, 2, none⟩ = some (.slice Av nv cv) := by rw [HW0.out]; simp [go_sem]
  have hck3 : w0.cell? ⟨u.heap.size, 3, none⟩ = some (.string f.name) := by rw [HW0.out]; simp [go_sem]
  have hck4 : w0.cell? ⟨u.heap.size, 4, none⟩ = some (Value.int .i64 f.params) := by rw [HW0.out]; simp [go_sem]
  have hck5 : w0.cell? ⟨u.heap.size, 5, none⟩ = some (Value.int .i64 f.regs) := by rw [HW0.out]; simp [go_sem]
  have hck6 : w0.cell? ⟨u.heap.size, 6, none⟩ = some (Value.int .i64 f.prio) := by rw [HW0.out]; simp [go_sem]
  have hck7 : w0.cell? ⟨u.heap.size, 7, none⟩ = some (.bool f.cleanup) := by rw [HW0.out]; simp [go_sem]
  have hck8 : w0.cell? ⟨u.heap.size, 8, none⟩ = some (.slice Ac nc cc) := by rw [HW0.out]; simp [go_sem]
  clear HW0 t1 t3
  refine wpIn_rangeFunc_ownF (α := Fin m) rfl (by omega) (gf := 172) (lb := #[.pointer (some ⟨u.heap.size + 3, 0, none⟩), .pointer (some ⟨u.heap.size + 4, 0, none⟩)]) rfl trivial (enters_of Tryz.func172 (by kernel_rfl) rfl)
    (encs := chunkV b off) (Kp := ChunkKeeps (u.heap.size + 3) (u.heap.size + 4)) (S := fun xs => xs = List.finRange m) (Sp := fun pre => pre <+: List.finRange m) (N := m) (w0 := w0) ?hseq ?hKt ?hKb (Below.refl _ _) (fun _ => rfl)
    (CasesIn u w0 p f l u.heap.size) (CasesOut u p f l u.heap.size) (casesIn_own u w0 p f l _ (by omega)) (casesOut_own u w0 p f l _ (by omega)) HI.out ?a1 ?assign ?body ?done ?stop
  case assign =>
    intro l x W K hK
    rw [show chunkV b off x = #[.slice (some ⟨b, off + x.1 * 3, none⟩) 3 3] from rfl, foldl_one]
    simp only [List.setIfInBounds_toArray, List.set_cons_succ, List.set_cons_zero]
    gi_wp2
    exact hK
  case hKt => exact fun h k => ⟨k.1.trans h.1, k.2.trans h.2⟩
  case hKb =>
    intro W k o o' hk _ _ _
    exact ⟨World.putObj_heap_other (by omega), World.putObj_heap_other (by omega)⟩
  case hseq =>
    intro lp J Jx W hB hJ hJx hY h0
    have h := chunk1_in m (u.heap.size + 3) (u.heap.size + 4) b off c lp J Jx (by omega) hcap hY W ((Below.cell hB (by simp; omega)).trans hb3) ((Below.cell hB (by simp; omega)).trans hb4) h0
      (fun pre W n h => hJ pre W _ none h ⟨rfl, rfl, rfl, Nat.le_refl _, fun _ _ _ => rfl⟩ (fun r e => by cases e))
    simpa using h
  case body =>
    intro lp pre x w h hlen
    have hx3 : x.1 * 3 + 2 < l.length := by have := x.2; have := HL.out; omega
    have HC : Hid (caseAt p f l x.1 = caseS p f (l.getD (x.1 * 3) 0) (l.getD (x.1 * 3 + 1) 0) (l.getD (x.1 * 3 + 2) 0)) := rfl
    have HD : Hid (dflt l x.1 = if l.getD (x.1 * 3) 0 = 3 then 1 else 0) := rfl
    have e0 : l[x.1 * 3]? = some (l.getD (x.1 * 3) 0) := by simp [List.getD, List.getElem?_eq_getElem (show x.1 * 3 < l.length by omega)]
    have e1 : l[x.1 * 3 + 1]? = some (l.getD (x.1 * 3 + 1) 0) := by simp [List.getD, List.getElem?_eq_getElem (show x.1 * 3 + 1 < l.length by omega)]
    have e2 : l[x.1 * 3 + 2]? = some (l.getD (x.1 * 3 + 2) 0) := by simp [List.getD, List.getElem?_eq_getElem hx3]
    obtain ⟨b0, o0, hA0, _, hn0, hc0⟩ := hl.int e0
    obtain ⟨b1, o1, hA1, _, hn1, hc1⟩ := hl.int e1
    obtain ⟨b2, o2, hA2, _, hn2, hc2⟩ := hl.int e2
    simp only [Option.some.injEq, Addr.mk.injEq, and_true] at hA0 hA1 hA2
    obtain ⟨rfl, rfl⟩ := hA0
    obtain ⟨rfl, rfl⟩ := hA1
    obtain ⟨rfl, rfl⟩ := hA2
    replace hc0 : w.cell? ⟨b, off + x.1 * 3, none⟩ = _ := (Below.cell h.below (p := ⟨b, off + x.1 * 3, none⟩) hlb).trans hc0
    replace hc1 : w.cell? ⟨b, off + x.1 * 3 + 1, none⟩ = _ := (Below.cell h.below (p := ⟨b, off + (x.1 * 3 + 1), none⟩) hlb).trans hc1
    replace hc2 : w.cell? ⟨b, off + x.1 * 3 + 2, none⟩ = _ := (Below.cell h.below (p := ⟨b, off + (x.1 * 3 + 2), none⟩) hlb).trans hc2
    generalize l.getD (x.1 * 3) 0 = y0 at HC HD hc0 hn0 e0
    generalize l.getD (x.1 * 3 + 1) 0 = y1 at HC hc1 hn1 e1
    generalize l.getD (x.1 * 3 + 2) 0 = y2 at HC hc2 hn2 e2
    clear e0 e1 e2 hx3
    replace hck0 := h.ck 0 _ hck0
    replace hck1 := h.ck 1 _ hck1
    replace hck2 := h.ck 2 _ hck2
    replace hck3 := h.ck 3 _ hck3
    replace hck4 := h.ck 4 _ hck4
    replace hck5 := h.ck 5 _ hck5
    replace hck6 := h.ck 6 _ hck6
    replace hck7 := h.ck 7 _ hck7
    replace hck8 := h.ck 8 _ hck8
    obtain ⟨r, hres⟩ := h.res
    have hcnt := h.cnt
    have hcntf := h.cntf
    have hresf := h.resf
    have HH := Lib.hid h
    have hWs := h.size
    have hVw := hV'.mono (show Ext u w from h.below)
    have hcb : 0 ≤ (pre.map fun k => (dflt l k.1 : Int)).sum ∧ (pre.map fun k => (dflt l k.1 : Int)).sum ≤ 6 := by have := dflt_le l pre; omega
    generalize hcq : (pre.map fun k => (dflt l k.1 : Int)).sum = cnt at hcnt hcb
    have HQ := Lib.hid hcq
    clear hcq
    clear h hb3 hb4 HI
    gi_wp2
    (refine wpIn_round_quiet (by kernel_rfl) (by kernel_rfl) (by kernel_rfl) ?_; (repeat (go_big_quiet_step (fail))); refine wpQuiet_nil ?_; intro w1 hw1; obtain ⟨hc, hf, hs, he⟩ := Ext.use (w := w) (ext_of_regrown hw1) xt; clear hw1; (try simp only [sA, sC, sD, sN] at hs))
    gi_wp2
    all_goals try ((refine wpIn_round_quiet (by kernel_rfl) (by kernel_rfl) (by kernel_rfl) ?_; (repeat (go_big_quiet_step (first | (go_at_call 102; exact quiet_ext (of_ext _ _)) | (go_at_call 154; exact quiet_ext (operand_any p f (oO 6) _ _ _ (hVw.mono xt) hn1 hr (by decide)))))); refine wpQuiet_nil ?_; intro w1 hw1; obtain ⟨hc, hf, hs, he⟩ := Ext.use (w := w) (ext_of_regrown hw1) xt; clear hw1; (try simp only [sA, sC, sD, sN] at hs)); gi_wp2_with (refine ⟨trivial, ?_⟩; gi_at_call 167; refine (CallsIn.inRound lp (callsIn_wide.2 (register_any p f _ _ _ (hVw.mono xt) hr))).mono ?_; rintro e w2 ⟨rfl, hb⟩; obtain ⟨hc2, hf2, hs2, he2⟩ := Ext.use (w := w) hb xt; clear hb))
    all_goals try (refine ⟨trivial, ?_⟩; gi_wp2)
    all_goals first
      | exact out_step HH.out (by assumption) x (by rw [HC.out]; unfold caseS; simp_all) (by simp_all)
      | exact out_step2 HH.out (by assumption) x (by rw [HC.out]; unfold caseS; simp_all) (by simp_all)
      | exact ok_step HH.out (by assumption) x (by rw [HC.out]; unfold caseS; simp_all) (by rw [HD.out]; simp_all)
      | exact df_step HH.out (by assumption) x (by rw [HC.out]; unfold caseS; simp_all) (by rw [HD.out]; simp_all) (by rw [HQ.out])
  case done =>
    intro D xs W hD hxs h hK
    subst hxs
    have hcnt := h.cnt
    have hcntf := h.cntf
    have hresf := h.resf
    obtain ⟨r, hres⟩ := h.res
    have hWs := h.size
    have HH := Lib.hid h
    have hcb : 0 ≤ ((List.finRange m).map fun k => (dflt l k.1 : Int)).sum ∧ ((List.finRange m).map fun k => (dflt l k.1 : Int)).sum ≤ 6 := by have := dflt_le l (List.finRange m); simp at this ⊢; omega
    generalize hcq : ((List.finRange m).map fun k => (dflt l k.1 : Int)).sum = cnt at hcnt hcb
    have HQ := Lib.hid hcq
    clear hcq h
    have HR := Lib.hid (casesFrom_fin_ok p f l m HH.out.oks HQ.out)
    gi_wp2
    all_goals (refine ⟨by simp, .inl ⟨_, _, rfl, run_takeDeferred ((KeepsOthers.setCell W ⟨u.heap.size + 1, 0, none⟩ _).same D _ hK rfl), ?_⟩⟩)
    all_goals rw [HR.out]
    all_goals first | rw [if_pos (by assumption)] | rw [if_neg (by omega)]
    all_goals (refine ⟨_, ?_, rfl, ((HH.out.below.setCell (by simp) _).grown (grownBy_putObj' _ D (.deferred none)) (by simp; omega) (fun k e => by cases e; omega))⟩)
    all_goals (have hc5 := fun v => cell_kept (World.cell?_setCell_same W ⟨u.heap.size + 1, 0, none⟩ v hres) (grownBy_putObj' _ D (.deferred none)) (fun r e => by cases e; exact ⟨_, ((KeepsOthers.setCell W ⟨u.heap.size + 1, 0, none⟩ v).same D _ hK rfl), rfl⟩))
    all_goals (simp [results, Tryz.results165, go_sem, hc5])
  case stop =>
    intro D c pre W hD hpf ⟨hc, hb, pre', x, hp, hok, hx, hcell⟩ hK
    subst hc hp
    gi_wp2
    refine ⟨by simp, .inl ⟨_, _, rfl, run_takeDeferred hK, ?_⟩⟩
    refine ⟨_, ?_, by rw [casesFrom_fin_bad p f l m hpf hok hx], hb.grown (grownBy_putObj' _ D (.deferred none)) hb.size (fun k e => by cases e; omega)⟩
    have hc5 := cell_kept hcell (grownBy_putObj' _ D (.deferred none)) (fun r e => by cases e; exact ⟨_, hK, rfl⟩)
    simp [results, Tryz.results165, go_sem, hc5]
set_option maxHeartbeats 4000000 in
theorem cases_any (p : Prg) (f : Fnc) (l : List Int) (V : Value) (A : Option Addr) (n c : Nat) (u : World) (hV : RCk u p f V) (hr : 0 ≤ f.regs ∧ f.regs ≤ 32) (hl : RSl 1 RInt u A n l) (hcap : n ≤ c) :
    Calls Tryz.prog 165 #[V, .slice A n c] u fun e w' => e = .returned (.int .i64 (casesS p f l)) ∧ Ext u w' := by
  have hlen := hl.len
  by_cases hb : n = 0 ∨ n % 3 ≠ 0 ∨ 18 < n
  · rw [casesS, if_pos (by omega)]
    clear hlen
    obtain ⟨Af, nf, cf, Ao, no, co, Av, nv, cv, Ac, nc, cc, rfl, _, _, _, _⟩ := hV
    go_enter Tryz.func165, Tryz.ntmps165
    go_wp2
    all_goals first
      | exact absurd hb (by simp_all; omega)
      | (refine bodyPost_ret (v := .int .i64 10) (by simp [results, Tryz.results165, go_sem]) rfl ⟨rfl, xt⟩)
      | skip
  · obtain ⟨m, rfl⟩ : ∃ m, n = m * 3 := ⟨n / 3, by omega⟩
    rw [casesS, if_neg (by omega), show l.length / 3 = m by omega]
    exact cases_loop p f l V A m c u hV hr hl hcap (by omega) (by omega)
end Go.Proofs.YtcjjoabofecjmaaGreat

namespace Go.Proofs.YtcjjoabofecjmaaGreat
open Go.RowKit
def wantS (p : Prg) (what b : Int) : Int := if what = 1 then (match p.funcs[b.toNat]? with | some g => g.params | none => 0) else 2
def argsS (p : Prg) (f : Fnc) (what : Int) (x : Ins) : Int :=
  if what = 0 then (if 0 < x.args.length then 1 else 0)
  else if what = 3 then casesS p f x.args
  else if (x.args.length : Int) ≠ wantS p what x.b then 10
  else if x.args.any (fun n => !regB f n) then 2 else 0
set_option maxHeartbeats 1000000 in
theorem args_plain (p : Prg) (f : Fnc) (x : Ins) (V : Value) (what : Int) (A : Option Addr) (n c : Nat) (w : World) (hV : RCk w p f V) (hr : 0 ≤ f.regs ∧ f.regs ≤ 32) (hx : RSl 1 RInt w A n x.args) (hc : n ≤ c) (hw : what = 0 ∨ what = 3) :
    Calls Tryz.prog 155 #[V, Value.int .i64 what, .agg #[Value.int .i64 x.op, Value.int .i64 x.a, Value.int .i64 x.b, Value.int .i64 x.c, .slice A n c]] w fun e w' => e = .returned (Value.int .i64 (argsS p f what x)) ∧ Ext w w' := by
  have hV' := hV
  obtain ⟨Af, nf, cf, Ao, no, co, Av, nv, cv, Ac, nc, cc, rfl, h1, h2, h3, h4⟩ := hV
  have HL := Lib.hid hx.len
  clear h1 h2 h3 h4
  rcases hw with rfl | rfl
  · go_enter Tryz.func155, Tryz.ntmps155
    go_wp2
    all_goals (go_ret; exact ⟨ret_int (by have := HL.out; simp_all [argsS]), xt⟩)
  · go_enter Tryz.func155, Tryz.ntmps155
    go_wp2_with (go_at_call 165; refine (cases_any p f x.args _ _ _ _ _ (hV'.mono xt) hr (hx.mono RInt.stays xt) hc).mono ?_; rintro e w1 ⟨rfl, hb⟩; obtain ⟨hc, hf, hs, he⟩ := Ext.use (w := w) hb xt; clear hb; (try simp only [sA, sC, sD, sN] at hs))
    go_ret
    exact ⟨ret_int (by simp [argsS]), xt⟩
set_option maxHeartbeats 1000000 in
theorem args_count (p : Prg) (f : Fnc) (x : Ins) (V : Value) (what : Int) (A : Option Addr) (n c : Nat) (w : World) (hV : RCk w p f V) (hr : 0 ≤ f.regs ∧ f.regs ≤ 32) (hx : RSl 1 RInt w A n x.args) (hc : n ≤ c)
    (hw : what = 1 ∨ what = 2) (hb : what = 1 → 0 ≤ x.b ∧ x.b < (p.funcs.length : Int)) :
    Calls Tryz.prog 155 #[V, Value.int .i64 what, .agg #[Value.int .i64 x.op, Value.int .i64 x.a, Value.int .i64 x.b, Value.int .i64 x.c, .slice A n c]] w fun e w' => e = .returned (Value.int .i64 (argsS p f what x)) ∧ Ext w w' := by
  have hV' := hV
  obtain ⟨Af, nf, cf, Ao, no, co, Av, nv, cv, Ac, nc, cc, rfl, h1, h2, h3, h4⟩ := hV
  have HL := Lib.hid hx.len
  have hle := hx.le
  have HF := Lib.hid h1.len
  have hFl := h1.le
  clear h2 h3 h4
  obtain ⟨want, HW⟩ : ∃ want, Hid (wantS p what x.b = want) := ⟨_, rfl⟩
  rcases hw with rfl | rfl
  · obtain ⟨hb1, hb2⟩ := hb rfl
    obtain ⟨g, hg⟩ : ∃ g, p.funcs[x.b.toNat]? = some g := ⟨_, List.getElem?_eq_getElem (by omega)⟩
    obtain ⟨b, off, Aa, na, ca, rfl, hlb, i1, i2, i3, i4, hA, c0, c1, c2, c3, c4, c5⟩ := h1.fnc hg
    have hbn : x.b < (nf : Int) := by have := HF.out; omega
    have HG : Hid (wantS p 1 x.b = g.params) := by unfold Hid wantS; rw [if_pos rfl, hg]
    clear h1 hg hb c0 c2 c3 c4 c5 i1 i3 i4 hA hb2
    go_enter Tryz.func155, Tryz.ntmps155
    go_wp2_with (go_at_call 58; refine (containsFuncInt 166 #[.pointer (some ⟨w.heap.size, 0, none⟩)] (enters_of Tryz.func166 (by kernel_rfl) rfl) (fun n => !regB f n) A n c x.args _ (hx.mono RInt.stays xt) (args1_pred p f w.heap.size _ x.args hr (fun W hW => ⟨_, _, _, _, _, _, _, _, _, _, _, _, hV'.mono (Ext.trans xt hW), hW.cell (by simp [go_sem]), hW.cell (by simp [go_sem]), hW.cell (by simp [go_sem]), hW.cell (by simp [go_sem]), hW.cell (by simp [go_sem]), hW.cell (by simp [go_sem]), hW.cell (by simp [go_sem]), hW.cell (by simp [go_sem]), hW.cell (by simp [go_sem])⟩))).mono ?_; rintro e w1 ⟨rfl, hb⟩; obtain ⟨hc, hf, hs, he⟩ := Ext.use (w := w) hb xt; clear hb; (try simp only [sA, sC, sD, sN] at hs))
    all_goals (go_ret; exact ⟨ret_int (by have h1 := HL.out; have h2 := HG.out; simp_all [argsS]), xt⟩)
  · have HG : Hid (wantS p 2 x.b = 2) := by unfold Hid wantS; rw [if_neg (by decide)]
    clear h1 hb
    go_enter Tryz.func155, Tryz.ntmps155
    go_wp2_with (go_at_call 58; refine (containsFuncInt 166 #[.pointer (some ⟨w.heap.size, 0, none⟩)] (enters_of Tryz.func166 (by kernel_rfl) rfl) (fun n => !regB f n) A n c x.args _ (hx.mono RInt.stays xt) (args1_pred p f w.heap.size _ x.args hr (fun W hW => ⟨_, _, _, _, _, _, _, _, _, _, _, _, hV'.mono (Ext.trans xt hW), hW.cell (by simp [go_sem]), hW.cell (by simp [go_sem]), hW.cell (by simp [go_sem]), hW.cell (by simp [go_sem]), hW.cell (by simp [go_sem]), hW.cell (by simp [go_sem]), hW.cell (by simp [go_sem]), hW.cell (by simp [go_sem]), hW.cell (by simp [go_sem])⟩))).mono ?_; rintro e w1 ⟨rfl, hb⟩; obtain ⟨hc, hf, hs, he⟩ := Ext.use (w := w) hb xt; clear hb; (try simp only [sA, sC, sD, sN] at hs))
    all_goals (go_ret; exact ⟨ret_int (by have h1 := HL.out; have h2 := HG.out; simp_all [argsS]), xt⟩)
theorem args_any (p : Prg) (f : Fnc) (x : Ins) (V : Value) (what : Int) (A : Option Addr) (n c : Nat) (w : World) (hV : RCk w p f V) (hr : 0 ≤ f.regs ∧ f.regs ≤ 32) (hx : RSl 1 RInt w A n x.args) (hc : n ≤ c)
    (hw : what = 0 ∨ what = 3 ∨ what = 1 ∨ what = 2) (hb : what = 1 → 0 ≤ x.b ∧ x.b < (p.funcs.length : Int)) :
    Calls Tryz.prog 155 #[V, Value.int .i64 what, .agg #[Value.int .i64 x.op, Value.int .i64 x.a, Value.int .i64 x.b, Value.int .i64 x.c, .slice A n c]] w fun e w' => e = .returned (Value.int .i64 (argsS p f what x)) ∧ Ext w w' := by
  rcases hw with hw | hw | hw
  · exact args_plain p f x V what A n c w hV hr hx hc (.inl hw)
  · exact args_plain p f x V what A n c w hV hr hx hc (.inr hw)
  · exact args_count p f x V what A n c w hV hr hx hc hw hb
end Go.Proofs.YtcjjoabofecjmaaGreat
