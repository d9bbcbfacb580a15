/- A part of the proof: The maps of TaskArithmetic, as they lie in memory. -/
import Derived.Test.YtcjjoabofecjmaaQ23
import Derived.Maps.RangeWalk
set_option linter.unusedVariables false
set_option linter.unusedSimpArgs false
set_option maxHeartbeats 16000000
namespace Go.Proofs.Ytcjjoabofecjmaa
open Go.RowKit Go.Sort Go.Maps
open Go.Value (int)
theorem law_bool : Keyed Try.prog 4 := bool_keyed Try.underlying4
theorem key_bool (b : Bool) : keyOf Try.prog 4 (.bool b) = some (.bool b) := keyOf_bool_mk Try.underlying4 b
def truthD : DataW Value := (DataW.map []).put (.bool true) (.held (int .i64 1))
theorem truth_t : truthD.atKey (.bool true) (.held (int .i64 0)) = .held (int .i64 (bitS true)) := by kernel_rfl
theorem truth_f : truthD.atKey (.bool false) (.held (int .i64 0)) = .held (int .i64 (bitS false)) := by kernel_rfl
theorem truth_look {w : World} {b n : Nat} (h : w.ownsMap Try.prog 4 selfR b n truthD) (k : Bool) : (Instr.lookup 26 (.map (some b)) (.bool k) false).run Try.prog w = .ok (int .i64 (bitS k)) w := by
 obtain ⟨v,ps,h1,h2⟩ := h.lookup law_bool Try.underlying26 (z := int .i64 0) (by kernel_rfl) rfl (key_bool k)
 have hD : truthD.atKey (.bool k) (.held (int .i64 0)) = .held (int .i64 (bitS k)) := by
  cases k
  ·exact truth_f
  ·exact truth_t
 rw [hD] at h2
 simp only [selfR,Option.some.injEq,Prod.mk.injEq,DataW.held.injEq] at h2
 rw [h1,h2.1]
def wantD (p1 p2 p3 p4 : Bool) : DataW Value := ((((DataW.map []).put (.int .i64 8) (.held (.bool p1))).put (.int .i64 9) (.held (.bool p2))).put (.int .i64 10) (.held (.bool p3))).put (.int .i64 11) (.held (.bool p4))
theorem want8 (p1 p2 p3 p4 : Bool) : (wantD p1 p2 p3 p4).atKey (.int .i64 8) (.held (int .i64 0)) = .held (.bool p1) := by kernel_rfl
theorem want9 (p1 p2 p3 p4 : Bool) : (wantD p1 p2 p3 p4).atKey (.int .i64 9) (.held (int .i64 0)) = .held (.bool p2) := by kernel_rfl
theorem want10 (p1 p2 p3 p4 : Bool) : (wantD p1 p2 p3 p4).atKey (.int .i64 10) (.held (int .i64 0)) = .held (.bool p3) := by kernel_rfl
theorem want11 (p1 p2 p3 p4 : Bool) : (wantD p1 p2 p3 p4).atKey (.int .i64 11) (.held (int .i64 0)) = .held (.bool p4) := by kernel_rfl
theorem want_size (p1 p2 p3 p4 : Bool) : Maps.size (wantD p1 p2 p3 p4) = 4 := by kernel_rfl
theorem want_has (p1 p2 p3 p4 : Bool) (x : Int) (h : Maps.has (wantD p1 p2 p3 p4) (.int .i64 x) = true) : x = 8 ∨ x = 9 ∨ x = 10 ∨ x = 11 := by
 have h1 : Maps.has (wantD p1 p2 p3 p4) (.int .i64 x) = ((Lit.int .i64 8).sameKey (.int .i64 x) || ((Lit.int .i64 9).sameKey (.int .i64 x) || ((Lit.int .i64 10).sameKey (.int .i64 x) || ((Lit.int .i64 11).sameKey (.int .i64 x) || false)))) := by kernel_rfl
 rw [h1] at h
 simp only [Lit.sameKey,Bool.or_eq_true,beq_iff_eq,Bool.or_false] at h
 simp at h
 omega
end Go.Proofs.Ytcjjoabofecjmaa

