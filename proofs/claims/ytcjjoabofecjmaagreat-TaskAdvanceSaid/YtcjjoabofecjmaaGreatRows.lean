/-
  No cell of these rows narrows 'for every input' (looked for: loops, veiled, ifaces, maps, wideKeys, modest, calm, conditions, laid).
  DERIVED. THE GIVEN ROWS OF THIS SEAT. 10 by the template 'for every input the law returns true; each argument reads behind the call as it read before'; 0 by the template 'total and deterministic' (their statements: YtcjjoabofecjmaaGreatTotals.lean).
  GIVEN WITH THE SEED: the statements are not yours to turn. If you find one false, say at which input.
  Laid BY PROGRAM, IN A SANDBOX (cutbox-rows.mjs): the forced cells as the released guide's own fill.sh prints them over the translation b23c7aee27869521… (all of the seat's roots in one cut). By AI agents, Wed Nov 11 2026. No macro, syntax, notation, axiom, sorry.
-/
import Derived.Test.YtcjjoabofecjmaaGreatChecked
import GoSem.Claim
import GoSem.ClaimJoined
import GoSem.ClaimMapViews
import Derived.JoinedTies
import Derived.KernelRfl
namespace Go.Proofs.YtcjjoabofecjmaaGreat
/- THE CELL 'sum', in the pinned program and in every row, IS THE sha256 OF THE DUMP (.gsa) THAT YtcjjoabofecjmaaGreatProg.lean LOADS. Nothing in Lean hashes anything: it is a label: what it is worth is what the hold of that sum in a sandbox is worth. -/
noncomputable def Tryz.pinned : Pinned := { name := "ytcjjoabofecjmaagreat", sum := "b23c7aee27869521a422e2a4cffe36ae9132abe98dbe4f87e83316bb84874db6", checked := Tryz.checked }
namespace Rows
def none {H : Type} : Left H := { results := [], args := [] }

/-- 'nurserylaw28.TaskCheck': WHATEVER THE INPUT: true; the input reads as it did. -/
def taskCheckSpec : ChangeSpec := { name := "taskCheck", fn := fun _ => fun
  | [d1, d2] => { results := [.lit (.bool true)], args := [d1, d2] }
  | _ => none }
def taskCheckRow : OpenClaim := { program := "ytcjjoabofecjmaagreat", sum := "b23c7aee27869521a422e2a4cffe36ae9132abe98dbe4f87e83316bb84874db6", func := "nursery/nurserylaw28.TaskCheck", spec := "taskCheck", unfollowed := true, recurses := true, apart := false }
def TaskCheckSaid : Prop := taskCheckRow.holds Tryz.pinned (OpenSpec.ofChange taskCheckSpec)

/-- ITS FALSE NEIGHBOUR: 'it returns false'. Refute it at one input. -/
def taskCheckWrong : ChangeSpec := { name := "taskCheck", fn := fun _ => fun
  | [d1, d2] => { results := [.lit (.bool false)], args := [d1, d2] }
  | _ => none }
def TaskCheckWrongFalsely : Prop := taskCheckRow.holds Tryz.pinned (OpenSpec.ofChange taskCheckWrong)

/-- 'nurserylaw28.TaskStart': WHATEVER THE INPUT: true; the input reads as it did. -/
def taskStartSpec : ChangeSpec := { name := "taskStart", fn := fun _ => fun
  | [d1, d2, d3, d4] => { results := [.lit (.bool true)], args := [d1, d2, d3, d4] }
  | _ => none }
def taskStartRow : OpenClaim := { program := "ytcjjoabofecjmaagreat", sum := "b23c7aee27869521a422e2a4cffe36ae9132abe98dbe4f87e83316bb84874db6", func := "nursery/nurserylaw28.TaskStart", spec := "taskStart", unfollowed := true, recurses := true, apart := false }
def TaskStartSaid : Prop := taskStartRow.holds Tryz.pinned (OpenSpec.ofChange taskStartSpec)

/-- ITS FALSE NEIGHBOUR: 'it returns false'. Refute it at one input. -/
def taskStartWrong : ChangeSpec := { name := "taskStart", fn := fun _ => fun
  | [d1, d2, d3, d4] => { results := [.lit (.bool false)], args := [d1, d2, d3, d4] }
  | _ => none }
def TaskStartWrongFalsely : Prop := taskStartRow.holds Tryz.pinned (OpenSpec.ofChange taskStartWrong)

/-- 'nurserylaw28.TaskAdvance': WHATEVER THE INPUT: true; the input reads as it did. -/
def taskAdvanceSpec : ChangeSpec := { name := "taskAdvance", fn := fun _ => fun
  | [d1, d2] => { results := [.lit (.bool true)], args := [d1, d2] }
  | _ => none }
def taskAdvanceRow : OpenClaim := { program := "ytcjjoabofecjmaagreat", sum := "b23c7aee27869521a422e2a4cffe36ae9132abe98dbe4f87e83316bb84874db6", func := "nursery/nurserylaw28.TaskAdvance", spec := "taskAdvance", unfollowed := true, recurses := true, apart := false }
def TaskAdvanceSaid : Prop := taskAdvanceRow.holds Tryz.pinned (OpenSpec.ofChange taskAdvanceSpec)

/-- ITS FALSE NEIGHBOUR: 'it returns false'. Refute it at one input. -/
def taskAdvanceWrong : ChangeSpec := { name := "taskAdvance", fn := fun _ => fun
  | [d1, d2] => { results := [.lit (.bool false)], args := [d1, d2] }
  | _ => none }
def TaskAdvanceWrongFalsely : Prop := taskAdvanceRow.holds Tryz.pinned (OpenSpec.ofChange taskAdvanceWrong)

/-- 'nurserylaw28.TaskStops': WHATEVER THE INPUT: true; the input reads as it did. -/
def taskStopsSpec : ChangeSpec := { name := "taskStops", fn := fun _ => fun
  | [d1, d2] => { results := [.lit (.bool true)], args := [d1, d2] }
  | _ => none }
def taskStopsRow : OpenClaim := { program := "ytcjjoabofecjmaagreat", sum := "b23c7aee27869521a422e2a4cffe36ae9132abe98dbe4f87e83316bb84874db6", func := "nursery/nurserylaw28.TaskStops", spec := "taskStops", unfollowed := true, recurses := true, apart := false }
def TaskStopsSaid : Prop := taskStopsRow.holds Tryz.pinned (OpenSpec.ofChange taskStopsSpec)

/-- ITS FALSE NEIGHBOUR: 'it returns false'. Refute it at one input. -/
def taskStopsWrong : ChangeSpec := { name := "taskStops", fn := fun _ => fun
  | [d1, d2] => { results := [.lit (.bool false)], args := [d1, d2] }
  | _ => none }
def TaskStopsWrongFalsely : Prop := taskStopsRow.holds Tryz.pinned (OpenSpec.ofChange taskStopsWrong)

/-- 'nurserylaw28.TaskFrames': WHATEVER THE INPUT: true; the input reads as it did. -/
def taskFramesSpec : ChangeSpec := { name := "taskFrames", fn := fun _ => fun
  | [d1, d2] => { results := [.lit (.bool true)], args := [d1, d2] }
  | _ => none }
def taskFramesRow : OpenClaim := { program := "ytcjjoabofecjmaagreat", sum := "b23c7aee27869521a422e2a4cffe36ae9132abe98dbe4f87e83316bb84874db6", func := "nursery/nurserylaw28.TaskFrames", spec := "taskFrames", unfollowed := true, recurses := true, apart := false }
def TaskFramesSaid : Prop := taskFramesRow.holds Tryz.pinned (OpenSpec.ofChange taskFramesSpec)

/-- ITS FALSE NEIGHBOUR: 'it returns false'. Refute it at one input. -/
def taskFramesWrong : ChangeSpec := { name := "taskFrames", fn := fun _ => fun
  | [d1, d2] => { results := [.lit (.bool false)], args := [d1, d2] }
  | _ => none }
def TaskFramesWrongFalsely : Prop := taskFramesRow.holds Tryz.pinned (OpenSpec.ofChange taskFramesWrong)

/-- 'nurserylaw28.TaskHandle': WHATEVER THE INPUT: true; the input reads as it did. -/
def taskHandleSpec : ChangeSpec := { name := "taskHandle", fn := fun _ => fun
  | [d1, d2] => { results := [.lit (.bool true)], args := [d1, d2] }
  | _ => none }
def taskHandleRow : OpenClaim := { program := "ytcjjoabofecjmaagreat", sum := "b23c7aee27869521a422e2a4cffe36ae9132abe98dbe4f87e83316bb84874db6", func := "nursery/nurserylaw28.TaskHandle", spec := "taskHandle", unfollowed := true, recurses := true, apart := false }
def TaskHandleSaid : Prop := taskHandleRow.holds Tryz.pinned (OpenSpec.ofChange taskHandleSpec)

/-- ITS FALSE NEIGHBOUR: 'it returns false'. Refute it at one input. -/
def taskHandleWrong : ChangeSpec := { name := "taskHandle", fn := fun _ => fun
  | [d1, d2] => { results := [.lit (.bool false)], args := [d1, d2] }
  | _ => none }
def TaskHandleWrongFalsely : Prop := taskHandleRow.holds Tryz.pinned (OpenSpec.ofChange taskHandleWrong)

/-- 'nurserylaw28.TaskHandlers': WHATEVER THE INPUT: true; the input reads as it did. -/
def taskHandlersSpec : ChangeSpec := { name := "taskHandlers", fn := fun _ => fun
  | [d1, d2] => { results := [.lit (.bool true)], args := [d1, d2] }
  | _ => none }
def taskHandlersRow : OpenClaim := { program := "ytcjjoabofecjmaagreat", sum := "b23c7aee27869521a422e2a4cffe36ae9132abe98dbe4f87e83316bb84874db6", func := "nursery/nurserylaw28.TaskHandlers", spec := "taskHandlers", unfollowed := true, recurses := true, apart := false }
def TaskHandlersSaid : Prop := taskHandlersRow.holds Tryz.pinned (OpenSpec.ofChange taskHandlersSpec)

/-- ITS FALSE NEIGHBOUR: 'it returns false'. Refute it at one input. -/
def taskHandlersWrong : ChangeSpec := { name := "taskHandlers", fn := fun _ => fun
  | [d1, d2] => { results := [.lit (.bool false)], args := [d1, d2] }
  | _ => none }
def TaskHandlersWrongFalsely : Prop := taskHandlersRow.holds Tryz.pinned (OpenSpec.ofChange taskHandlersWrong)

/-- 'nurserylaw28.TaskLevels': WHATEVER THE INPUT: true; the input reads as it did. -/
def taskLevelsSpec : ChangeSpec := { name := "taskLevels", fn := fun _ => fun
  | [d1, d2, d3] => { results := [.lit (.bool true)], args := [d1, d2, d3] }
  | _ => none }
def taskLevelsRow : OpenClaim := { program := "ytcjjoabofecjmaagreat", sum := "b23c7aee27869521a422e2a4cffe36ae9132abe98dbe4f87e83316bb84874db6", func := "nursery/nurserylaw28.TaskLevels", spec := "taskLevels", unfollowed := true, recurses := true, apart := false }
def TaskLevelsSaid : Prop := taskLevelsRow.holds Tryz.pinned (OpenSpec.ofChange taskLevelsSpec)

/-- ITS FALSE NEIGHBOUR: 'it returns false'. Refute it at one input. -/
def taskLevelsWrong : ChangeSpec := { name := "taskLevels", fn := fun _ => fun
  | [d1, d2, d3] => { results := [.lit (.bool false)], args := [d1, d2, d3] }
  | _ => none }
def TaskLevelsWrongFalsely : Prop := taskLevelsRow.holds Tryz.pinned (OpenSpec.ofChange taskLevelsWrong)

/-- 'nurserylaw28.TaskUnwind': WHATEVER THE INPUT: true; the input reads as it did. -/
def taskUnwindSpec : ChangeSpec := { name := "taskUnwind", fn := fun _ => fun
  | [d1, d2, d3] => { results := [.lit (.bool true)], args := [d1, d2, d3] }
  | _ => none }
def taskUnwindRow : OpenClaim := { program := "ytcjjoabofecjmaagreat", sum := "b23c7aee27869521a422e2a4cffe36ae9132abe98dbe4f87e83316bb84874db6", func := "nursery/nurserylaw28.TaskUnwind", spec := "taskUnwind", unfollowed := true, recurses := true, apart := false }
def TaskUnwindSaid : Prop := taskUnwindRow.holds Tryz.pinned (OpenSpec.ofChange taskUnwindSpec)

/-- ITS FALSE NEIGHBOUR: 'it returns false'. Refute it at one input. -/
def taskUnwindWrong : ChangeSpec := { name := "taskUnwind", fn := fun _ => fun
  | [d1, d2, d3] => { results := [.lit (.bool false)], args := [d1, d2, d3] }
  | _ => none }
def TaskUnwindWrongFalsely : Prop := taskUnwindRow.holds Tryz.pinned (OpenSpec.ofChange taskUnwindWrong)

/-- 'nurserylaw28.TaskValid': WHATEVER THE INPUT: true; the input reads as it did. -/
def taskValidSpec : ChangeSpec := { name := "taskValid", fn := fun _ => fun
  | [d1, d2, d3, d4, d5] => { results := [.lit (.bool true)], args := [d1, d2, d3, d4, d5] }
  | _ => none }
def taskValidRow : OpenClaim := { program := "ytcjjoabofecjmaagreat", sum := "b23c7aee27869521a422e2a4cffe36ae9132abe98dbe4f87e83316bb84874db6", func := "nursery/nurserylaw28.TaskValid", spec := "taskValid", unfollowed := true, recurses := true, apart := false }
def TaskValidSaid : Prop := taskValidRow.holds Tryz.pinned (OpenSpec.ofChange taskValidSpec)

/-- ITS FALSE NEIGHBOUR: 'it returns false'. Refute it at one input. -/
def taskValidWrong : ChangeSpec := { name := "taskValid", fn := fun _ => fun
  | [d1, d2, d3, d4, d5] => { results := [.lit (.bool false)], args := [d1, d2, d3, d4, d5] }
  | _ => none }
def TaskValidWrongFalsely : Prop := taskValidRow.holds Tryz.pinned (OpenSpec.ofChange taskValidWrong)

/- THE SECOND FORM. 'bulk': how many values and letters a reading holds, each counted each time it is reached (what is shared counts as often as it is met; a slice's spare places count too). A statement '..UptoSaid' is the law's where the arguments, and the package variables that the reading takes, are together of bulk at most 1048576: NARROWER than '..Said'. Prove '..Said' where nothing that the law and all that it calls make is longer than what came in: it says more and counts as full. Else prove '..UptoSaid'. A law counts once. -/
mutual
def uptoBulk {H : Type} : DataW H → Nat
  | .lit (.string bytes) => bytes.length + 1
  | .lit _ => 1
  | .nil => 1
  | .ptr d => uptoBulk d + 1
  | .slice elems spare => uptoBulkAll elems + uptoBulkAll spare + 1
  | .agg parts => uptoBulkAll parts + 1
  | .iface _ d => uptoBulk d + 1
  | .map entries => uptoBulkEntries entries + 1
  | .held _ => 1
def uptoBulkAll {H : Type} : List (DataW H) → Nat
  | [] => 0
  | d :: r => uptoBulk d + uptoBulkAll r
def uptoBulkEntries {H : Type} : List (Lit × DataW H) → Nat
  | [] => 0
  | x :: r => uptoBulkEntry x + uptoBulkEntries r
def uptoBulkEntry {H : Type} : Lit × DataW H → Nat
  | (.string bytes, d) => bytes.length + uptoBulk d + 1
  | (_, d) => uptoBulk d + 1
 end
def uptoSmall : (H : Type) → List (DataW H) → Bool := fun _ ds => decide (uptoBulkAll ds ≤ 1048576)
def OpenSpec.upto (s : _root_.Go.ChangeSpec) : _root_.Go.OpenSpec := { _root_.Go.OpenSpec.ofChange s with cond := some uptoSmall }

/-- 'nurserylaw28.TaskCheck', WHERE WHAT IT READS IS OF BULK AT MOST 1048576: true; the input reads as it did. -/
def taskCheckUptoRow : OpenClaim := { program := "ytcjjoabofecjmaagreat", sum := "b23c7aee27869521a422e2a4cffe36ae9132abe98dbe4f87e83316bb84874db6", func := "nursery/nurserylaw28.TaskCheck", spec := "taskCheck", unfollowed := true, recurses := true, apart := false, narrowed := true }
def TaskCheckUptoSaid : Prop := taskCheckUptoRow.holds Tryz.pinned (OpenSpec.upto taskCheckSpec)

/-- 'nurserylaw28.TaskStart', WHERE WHAT IT READS IS OF BULK AT MOST 1048576: true; the input reads as it did. -/
def taskStartUptoRow : OpenClaim := { program := "ytcjjoabofecjmaagreat", sum := "b23c7aee27869521a422e2a4cffe36ae9132abe98dbe4f87e83316bb84874db6", func := "nursery/nurserylaw28.TaskStart", spec := "taskStart", unfollowed := true, recurses := true, apart := false, narrowed := true }
def TaskStartUptoSaid : Prop := taskStartUptoRow.holds Tryz.pinned (OpenSpec.upto taskStartSpec)

/-- 'nurserylaw28.TaskAdvance', WHERE WHAT IT READS IS OF BULK AT MOST 1048576: true; the input reads as it did. -/
def taskAdvanceUptoRow : OpenClaim := { program := "ytcjjoabofecjmaagreat", sum := "b23c7aee27869521a422e2a4cffe36ae9132abe98dbe4f87e83316bb84874db6", func := "nursery/nurserylaw28.TaskAdvance", spec := "taskAdvance", unfollowed := true, recurses := true, apart := false, narrowed := true }
def TaskAdvanceUptoSaid : Prop := taskAdvanceUptoRow.holds Tryz.pinned (OpenSpec.upto taskAdvanceSpec)

/-- 'nurserylaw28.TaskStops', WHERE WHAT IT READS IS OF BULK AT MOST 1048576: true; the input reads as it did. -/
def taskStopsUptoRow : OpenClaim := { program := "ytcjjoabofecjmaagreat", sum := "b23c7aee27869521a422e2a4cffe36ae9132abe98dbe4f87e83316bb84874db6", func := "nursery/nurserylaw28.TaskStops", spec := "taskStops", unfollowed := true, recurses := true, apart := false, narrowed := true }
def TaskStopsUptoSaid : Prop := taskStopsUptoRow.holds Tryz.pinned (OpenSpec.upto taskStopsSpec)

/-- 'nurserylaw28.TaskFrames', WHERE WHAT IT READS IS OF BULK AT MOST 1048576: true; the input reads as it did. -/
def taskFramesUptoRow : OpenClaim := { program := "ytcjjoabofecjmaagreat", sum := "b23c7aee27869521a422e2a4cffe36ae9132abe98dbe4f87e83316bb84874db6", func := "nursery/nurserylaw28.TaskFrames", spec := "taskFrames", unfollowed := true, recurses := true, apart := false, narrowed := true }
def TaskFramesUptoSaid : Prop := taskFramesUptoRow.holds Tryz.pinned (OpenSpec.upto taskFramesSpec)

/-- 'nurserylaw28.TaskHandle', WHERE WHAT IT READS IS OF BULK AT MOST 1048576: true; the input reads as it did. -/
def taskHandleUptoRow : OpenClaim := { program := "ytcjjoabofecjmaagreat", sum := "b23c7aee27869521a422e2a4cffe36ae9132abe98dbe4f87e83316bb84874db6", func := "nursery/nurserylaw28.TaskHandle", spec := "taskHandle", unfollowed := true, recurses := true, apart := false, narrowed := true }
def TaskHandleUptoSaid : Prop := taskHandleUptoRow.holds Tryz.pinned (OpenSpec.upto taskHandleSpec)

/-- 'nurserylaw28.TaskHandlers', WHERE WHAT IT READS IS OF BULK AT MOST 1048576: true; the input reads as it did. -/
def taskHandlersUptoRow : OpenClaim := { program := "ytcjjoabofecjmaagreat", sum := "b23c7aee27869521a422e2a4cffe36ae9132abe98dbe4f87e83316bb84874db6", func := "nursery/nurserylaw28.TaskHandlers", spec := "taskHandlers", unfollowed := true, recurses := true, apart := false, narrowed := true }
def TaskHandlersUptoSaid : Prop := taskHandlersUptoRow.holds Tryz.pinned (OpenSpec.upto taskHandlersSpec)

/-- 'nurserylaw28.TaskLevels', WHERE WHAT IT READS IS OF BULK AT MOST 1048576: true; the input reads as it did. -/
def taskLevelsUptoRow : OpenClaim := { program := "ytcjjoabofecjmaagreat", sum := "b23c7aee27869521a422e2a4cffe36ae9132abe98dbe4f87e83316bb84874db6", func := "nursery/nurserylaw28.TaskLevels", spec := "taskLevels", unfollowed := true, recurses := true, apart := false, narrowed := true }
def TaskLevelsUptoSaid : Prop := taskLevelsUptoRow.holds Tryz.pinned (OpenSpec.upto taskLevelsSpec)

/-- 'nurserylaw28.TaskUnwind', WHERE WHAT IT READS IS OF BULK AT MOST 1048576: true; the input reads as it did. -/
def taskUnwindUptoRow : OpenClaim := { program := "ytcjjoabofecjmaagreat", sum := "b23c7aee27869521a422e2a4cffe36ae9132abe98dbe4f87e83316bb84874db6", func := "nursery/nurserylaw28.TaskUnwind", spec := "taskUnwind", unfollowed := true, recurses := true, apart := false, narrowed := true }
def TaskUnwindUptoSaid : Prop := taskUnwindUptoRow.holds Tryz.pinned (OpenSpec.upto taskUnwindSpec)

/-- 'nurserylaw28.TaskValid', WHERE WHAT IT READS IS OF BULK AT MOST 1048576: true; the input reads as it did. -/
def taskValidUptoRow : OpenClaim := { program := "ytcjjoabofecjmaagreat", sum := "b23c7aee27869521a422e2a4cffe36ae9132abe98dbe4f87e83316bb84874db6", func := "nursery/nurserylaw28.TaskValid", spec := "taskValid", unfollowed := true, recurses := true, apart := false, narrowed := true }
def TaskValidUptoSaid : Prop := taskValidUptoRow.holds Tryz.pinned (OpenSpec.upto taskValidSpec)

end Rows
end Go.Proofs.YtcjjoabofecjmaaGreat
