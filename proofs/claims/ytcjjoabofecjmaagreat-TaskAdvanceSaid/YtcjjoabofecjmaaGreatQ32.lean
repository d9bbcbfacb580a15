/- A part of the proof: roles of the reference of layer 13 returns the table of the . -/
import Derived.Test.YtcjjoabofecjmaaGreatQ08
set_option linter.unusedVariables false
set_option linter.unusedSimpArgs false
set_option maxHeartbeats 16000000
namespace Go.Proofs.YtcjjoabofecjmaaGreat
open Go.RowKit
open Go.Value (int)
def roleI (o : Opd) : UInt8 :=
 if o.what = 0 then 46 else if o.what = 1 then 110 else if o.what = 2 then 109 else if o.what = 3 then 114 else if o.what = 4 then 119 else if o.what = 5 then 111 else if o.what = 6 then 116 else if o.what = 7 then 99
 else if o.what = 8 then 102 else if o.what = 9 then 100 else if o.what = 10 then 118 else if o.what = 11 then 97 else (48 + o.kind).toNat.toUInt8
def roleA (k : Int) : UInt8 := if k = 0 then 46 else if k = 1 then 112 else if k = 2 then 50 else 115
def rolesS (op : Int) : ByteArray := match shapeS op with | none => ⟨#[]⟩ | some s => ⟨#[roleI s.a,roleI s.b,roleI s.c,roleA s.args]⟩
theorem rl0 {op : Int} (h : op = 1) : rolesS op = ⟨#[119,110,46,46]⟩ := by subst h;rfl
theorem rl1 {op : Int} (h : op = 2 ∨ op = 12) : rolesS op = ⟨#[119,114,46,46]⟩ := by rcases h with rfl | rfl <;> rfl
theorem rl2 {op : Int} (h : op = 3 ∨ op = 4 ∨ op = 5 ∨ op = 6 ∨ op = 7 ∨ op = 8 ∨ op = 9 ∨ op = 10 ∨ op = 11) : rolesS op = ⟨#[119,114,114,46]⟩ := by rcases h with rfl | rfl | rfl | rfl | rfl | rfl | rfl | rfl | rfl <;> rfl
theorem rl3 {op : Int} (h : op = 13) : rolesS op = ⟨#[116,46,46,46]⟩ := by subst h;rfl
theorem rl4 {op : Int} (h : op = 14) : rolesS op = ⟨#[114,116,46,46]⟩ := by subst h;rfl
theorem rl5 {op : Int} (h : op = 15 ∨ op = 34) : rolesS op = ⟨#[119,102,46,112]⟩ := by rcases h with rfl | rfl <;> rfl
theorem rl6 {op : Int} (h : op = 16 ∨ op = 20 ∨ op = 21 ∨ op = 40 ∨ op = 41 ∨ op = 43) : rolesS op = ⟨#[114,46,46,46]⟩ := by rcases h with rfl | rfl | rfl | rfl | rfl | rfl <;> rfl
theorem rl7 {op : Int} (h : op = 17) : rolesS op = ⟨#[46,100,46,112]⟩ := by subst h;rfl
theorem rl8 {op : Int} (h : op = 18 ∨ op = 19 ∨ op = 37 ∨ op = 38 ∨ op = 39) : rolesS op = ⟨#[46,46,46,46]⟩ := by rcases h with rfl | rfl | rfl | rfl | rfl <;> rfl
theorem rl9 {op : Int} (h : op = 30) : rolesS op = ⟨#[119,118,46,46]⟩ := by subst h;rfl
theorem rl10 {op : Int} (h : op = 31) : rolesS op = ⟨#[118,114,46,46]⟩ := by subst h;rfl
theorem rl11 {op : Int} (h : op = 32) : rolesS op = ⟨#[119,97,114,46]⟩ := by subst h;rfl
theorem rl12 {op : Int} (h : op = 33) : rolesS op = ⟨#[119,97,46,50]⟩ := by subst h;rfl
theorem rl13 {op : Int} (h : op = 35) : rolesS op = ⟨#[111,111,99,46]⟩ := by subst h;rfl
theorem rl14 {op : Int} (h : op = 36) : rolesS op = ⟨#[119,46,46,46]⟩ := by subst h;rfl
theorem rl15 {op : Int} (h : op = 42) : rolesS op = ⟨#[109,114,46,46]⟩ := by subst h;rfl
theorem rl16 {op : Int} (h : op = 50 ∨ op = 52) : rolesS op = ⟨#[49,46,46,46]⟩ := by rcases h with rfl | rfl <;> rfl
theorem rl17 {op : Int} (h : op = 51) : rolesS op = ⟨#[119,49,46,46]⟩ := by subst h;rfl
theorem rl18 {op : Int} (h : op = 53 ∨ op = 54 ∨ op = 55 ∨ op = 56) : rolesS op = ⟨#[50,46,46,46]⟩ := by rcases h with rfl | rfl | rfl | rfl <;> rfl
theorem rl19 {op : Int} (h : op = 57 ∨ op = 58 ∨ op = 59) : rolesS op = ⟨#[51,46,46,46]⟩ := by rcases h with rfl | rfl | rfl <;> rfl
theorem rl20 {op : Int} (h : op = 60 ∨ op = 62) : rolesS op = ⟨#[52,114,46,46]⟩ := by rcases h with rfl | rfl <;> rfl
theorem rl21 {op : Int} (h : op = 61) : rolesS op = ⟨#[119,52,114,46]⟩ := by subst h;rfl
theorem rl22 {op : Int} (h : op = 63) : rolesS op = ⟨#[119,53,46,46]⟩ := by subst h;rfl
theorem rl23 {op : Int} (h : op = 64) : rolesS op = ⟨#[54,114,46,46]⟩ := by subst h;rfl
theorem rl24 {op : Int} (h : op = 65) : rolesS op = ⟨#[119,54,119,46]⟩ := by subst h;rfl
theorem rl25 {op : Int} (h : op = 66) : rolesS op = ⟨#[54,46,46,46]⟩ := by subst h;rfl
theorem rl26 {op : Int} (h : op = 67) : rolesS op = ⟨#[119,119,119,115]⟩ := by subst h;rfl
theorem rl27 {op : Int} (h : op = 68) : rolesS op = ⟨#[55,114,46,46]⟩ := by subst h;rfl
theorem rl28 {op : Int} (h : op = 69 ∨ op = 71) : rolesS op = ⟨#[55,46,46,46]⟩ := by rcases h with rfl | rfl <;> rfl
theorem rl29 {op : Int} (h : op = 70) : rolesS op = ⟨#[119,55,46,46]⟩ := by subst h;rfl
theorem rl30 {op : Int} (h : op = 72) : rolesS op = ⟨#[56,114,46,46]⟩ := by subst h;rfl
theorem rl31 {op : Int} (h : op = 73) : rolesS op = ⟨#[57,114,46,46]⟩ := by subst h;rfl
theorem rl32 {op : Int} (h : op = 74) : rolesS op = ⟨#[119,57,46,46]⟩ := by subst h;rfl
theorem shapeS_none {op : Int} (h : op < 1 ∨ (21 < op ∧ op < 30) ∨ (43 < op ∧ op < 50) ∨ 74 < op) : shapeS op = none := by
 unfold shapeS groupsS
 repeat rw [if_neg (by omega)]
theorem rl_none {op : Int} (h : op < 1 ∨ (21 < op ∧ op < 30) ∨ (43 < op ∧ op < 50) ∨ 74 < op) : rolesS op = ⟨#[]⟩ := by unfold rolesS;rw [shapeS_none h]
set_option maxRecDepth 20000 in
theorem roles_any (op : Int) (w : World) :
  Calls Tryz.prog 76 #[int .i64 op] w fun e w' => e = .returned (.string (rolesS op)) ∧ w = w' := by
 go_enter Tryz.func76,Tryz.ntmps76
 go_wp2
 all_goals
  go_ret
  refine ⟨congrArg (fun s => Ending.returned (.string s)) (Eq.symm ?_),rfl⟩
  simp only [beq_iff_eq,beq_eq_false_iff_ne,ne_eq] at *
  first | exact rl_none (by omega) | (exact rl0 (by omega)) | (exact rl1 (by omega)) | (exact rl2 (by omega)) | (exact rl3 (by omega)) | (exact rl4 (by omega)) | (exact rl5 (by omega)) | (exact rl6 (by omega)) | (exact rl7 (by omega)) | (exact rl8 (by omega)) | (exact rl9 (by omega)) | (exact rl10 (by omega)) | (exact rl11 (by omega)) | (exact rl12 (by omega)) | (exact rl13 (by omega)) | (exact rl14 (by omega)) | (exact rl15 (by omega)) | (exact rl16 (by omega)) | (exact rl17 (by omega)) | (exact rl18 (by omega)) | (exact rl19 (by omega)) | (exact rl20 (by omega)) | (exact rl21 (by omega)) | (exact rl22 (by omega)) | (exact rl23 (by omega)) | (exact rl24 (by omega)) | (exact rl25 (by omega)) | (exact rl26 (by omega)) | (exact rl27 (by omega)) | (exact rl28 (by omega)) | (exact rl29 (by omega)) | (exact rl30 (by omega)) | (exact rl31 (by omega)) | (exact rl32 (by omega))
end Go.Proofs.YtcjjoabofecjmaaGreat

