/- A part of the proof: groups of package program returns the table of the operation. -/
import Derived.Test.YtcjjoabofecjmaaQ01
set_option linter.unusedVariables false
set_option linter.unusedSimpArgs false
set_option maxHeartbeats 16000000
namespace Go.Proofs.Ytcjjoabofecjmaa
open Go.RowKit
open Go.Value (int)
theorem groups_any (op : Int) (w : World) :
  Calls Try.prog 93 #[.int .i64 op] w fun e w' => e = .returned (.tuple #[.agg #[.int .i64 (gS op).a.what,.int .i64 (gS op).a.kind,.int .i64 (gS op).b.what,.int .i64 (gS op).b.kind,.int .i64 (gS op).c.what,.int .i64 (gS op).c.kind,.int .i64 (gS op).args],.bool (groupsS op).isSome]) ∧ Ext w w' := by
 go_enter Try.func93,Try.ntmps93
 go_wp2_with (go_at_call 92;refine (of_any _ _).mono ?_;rintro e w' ⟨rfl,rfl⟩)
 all_goals try (go_region_held3 (fun W' => W'.cell? ⟨w.heap.size + 1,0,none⟩ = some (.int .i64 3) ∧ W'.cell? ⟨w.heap.size + 1,1,none⟩ = some (.int .i64 0) ∧ W'.cell? ⟨w.heap.size + 1 + 1,0,none⟩ = some (.int .i64 4) ∧ W'.cell? ⟨w.heap.size + 1 + 1,1,none⟩ = some (.int .i64 0)) (first | (refine ⟨?_, ?_, ?_, ?_⟩ <;> simp [go_sem, *] <;> done) | (simp_all [go_sem] <;> done)) (first | (go_at_call 92;refine (of_any _ _).mono ?_;rintro e w' ⟨rfl,rfl⟩));go_wp2)
 all_goals
  refine bodyPost_ret (v := .tuple #[.agg #[.int .i64 (gS op).a.what,.int .i64 (gS op).a.kind,.int .i64 (gS op).b.what,.int .i64 (gS op).b.kind,.int .i64 (gS op).c.what,.int .i64 (gS op).c.kind,.int .i64 (gS op).args],.bool (groupsS op).isSome]) ?_ rfl ⟨rfl,xt⟩
  simp only [beq_iff_eq,beq_eq_false_iff_ne,ne_eq] at *
  (try subst op)
  simp [results,Try.results93,go_sem,gS,groupsS,shpZ,oZ,oR,oW,oO, *]
theorem shapeOf_any (op : Int) (w : World) :
  Calls Try.prog 79 #[.int .i64 op] w fun e w' => e = .returned (.tuple #[.agg #[.int .i64 (sS op).a.what,.int .i64 (sS op).a.kind,.int .i64 (sS op).b.what,.int .i64 (sS op).b.kind,.int .i64 (sS op).c.what,.int .i64 (sS op).c.kind,.int .i64 (sS op).args],.bool (shapeS op).isSome]) ∧ Ext w w' := by
 go_enter Try.func79,Try.ntmps79
 go_wp2_with (first | (go_at_call 92;refine (of_any _ _).mono ?_;rintro e w' ⟨rfl,rfl⟩) | (go_at_call 93;refine (groups_any _ _).mono ?_;rintro e w1 ⟨rfl,hb⟩;obtain ⟨hc,hf,hs,he⟩ := Ext.use (w := w) hb xt;clear hb;(try simp only [sA,sC,sD,sN] at hs)))
 all_goals try (go_region_held3 (fun W' => W'.cell? ⟨w.heap.size + 1,0,none⟩ = some (.int .i64 3) ∧ W'.cell? ⟨w.heap.size + 1,1,none⟩ = some (.int .i64 0) ∧ W'.cell? ⟨w.heap.size + 1 + 1,0,none⟩ = some (.int .i64 4) ∧ W'.cell? ⟨w.heap.size + 1 + 1,1,none⟩ = some (.int .i64 0)) (first | (refine ⟨?_, ?_, ?_, ?_⟩ <;> simp [go_sem, *] <;> done) | (simp_all [go_sem] <;> done)) (first | (go_at_call 92;refine (of_any _ _).mono ?_;rintro e w' ⟨rfl,rfl⟩));go_wp2)
 all_goals
  refine bodyPost_ret (v := .tuple #[.agg #[.int .i64 (sS op).a.what,.int .i64 (sS op).a.kind,.int .i64 (sS op).b.what,.int .i64 (sS op).b.kind,.int .i64 (sS op).c.what,.int .i64 (sS op).c.kind,.int .i64 (sS op).args],.bool (shapeS op).isSome]) ?_ rfl ⟨rfl,xt⟩
  simp only [beq_iff_eq,beq_eq_false_iff_ne,ne_eq] at *
  (try subst op)
  first | (simp [results,Try.results79,go_sem,sS,shapeS,shpZ,oZ,oR,oW,oO,oQ, *];done) | simp [results,Try.results79,go_sem,sS,gS,shapeS, *]
end Go.Proofs.Ytcjjoabofecjmaa

