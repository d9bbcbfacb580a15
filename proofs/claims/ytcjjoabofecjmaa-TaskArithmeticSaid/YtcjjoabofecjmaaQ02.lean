/- A part of the proof: A task's datum, opened. -/
import Derived.Test.YtcjjoabofecjmaaQ01
import Derived.ProofKit
import Derived.OpenShut
import Derived.ChangeOld
import Derived.Deep.Slices
import Derived.SizedLaws
set_option linter.unusedVariables false
set_option linter.unusedSimpArgs false
set_option maxHeartbeats 16000000
namespace Go.Proofs.Ytcjjoabofecjmaa
open Go.RowKit Go.ChangeShapes Go.WideShapes Go.Deep
open Go.Value (int)
theorem inr_wf {n : Int} (h : (Lit.int .i64 n).wf = true) : InR n := by
 simp [Lit.wf,IntKind.min,IntKind.max,IntKind.signed,IntKind.bits] at h
 exact ⟨by omega,by omega⟩
theorem list2 {α : Type} {cs : List α} (h : cs.length = 2) : ∃ a b,cs = [a,b] := by
 match cs,h with
 | [a,b],_ => exact ⟨a,b,rfl⟩
section
variable {H : Type} {enc : TypeId × Value → H} {W : World} {base : Nat} {spare : Nat → Bool} {held : Bool}
end
end Go.Proofs.Ytcjjoabofecjmaa

