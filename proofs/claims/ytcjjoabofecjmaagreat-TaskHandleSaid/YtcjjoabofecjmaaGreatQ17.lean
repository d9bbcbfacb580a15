/- A part of the proof: awake of nurserylaw28 answers true; registers of the reference of layer 28; The reference of layer 13; roles of the reference of layer 13 returns the table of the operations' fields, one byte each, for every number; The reference of layer 13; The reference of layer 13; The reference of layer 13. -/
import Derived.Test.YtcjjoabofecjmaaGreatQ16
import Derived.Test.YtcjjoabofecjmaaGreatQ01
import Derived.Test.YtcjjoabofecjmaaGreatQ07
import Derived.Test.YtcjjoabofecjmaaGreatQ03
import Derived.Test.YtcjjoabofecjmaaGreatProg
import Derived.Test.YtcjjoabofecjmaaGreatQ04
import Derived.Deep.LoopGhost
import Derived.BigQuiet
set_option linter.unusedVariables false
set_option linter.unusedSimpArgs false
namespace Go.Proofs.YtcjjoabofecjmaaGreat
open Go.RowKit Go.Sort
set_option maxRecDepth 8000 in
set_option maxHeartbeats 8000000 in
theorem awake_any (w : World) : Calls Tryz.prog 14 #[] w fun e w' => e = .returned (.bool true) ∧ Ext w w' := by
  go_enter Tryz.func14, Tryz.ntmps14
  go_upto_region 3 with fail
  refine wp_hid2 ?_
  intro W2 HW2
  have HE2 : Hid (Ext w W2) := by rw [Hid, HW2.out]; exact xt
  have C2 : W2.rangeAt w.heap.size 0 (codeCells codeA) := by rw [HW2.out]; exact range_old (range_old (range_new rfl) _) _
  have F2 : W2.rangeAt (w.heap.size + 1) 0 [.string mainN, Value.int .i64 0, Value.int .i64 2, Value.int .i64 0, .bool false, .slice (some ⟨w.heap.size, 0, none⟩) 4 4] := by rw [HW2.out]; exact range_old (range_new (by simp)) _
  have P2 : W2.rangeAt (w.heap.size + 1 + 1) 0 [.slice (some ⟨w.heap.size + 1, 0, none⟩) 1 1, .slice none 0 0, .slice none 0 0] := by rw [HW2.out]; exact range_new (by simp)
  have HCs := Lib.hid C2
  have HPA := Lib.hid (rprg_one (xs := codeA) (regs := 2) (c := 4) C2 F2 (by decide) (by decide) ⟨by decide, by decide⟩ codeA_in (by decide))
  have HPR := Lib.hid P2
  have p0 : W2.cell? ⟨w.heap.size + 1 + 1, 0, none⟩ = some (.slice (some ⟨w.heap.size + 1, 0, none⟩) 1 1) := P2 0 _ rfl
  have p1 : W2.cell? ⟨w.heap.size + 1 + 1, 1, none⟩ = some (.slice none 0 0) := P2 1 _ rfl
  have p2 : W2.cell? ⟨w.heap.size + 1 + 1, 2, none⟩ = some (.slice none 0 0) := P2 2 _ rfl
  have HS := Lib.hid (Start_any prgA 0 [] 0 _ none 0 0 W2 HPA.out (RSl.nil _) ⟨by decide, by decide⟩ ⟨by decide, by decide⟩)
  rw [awk_start] at HS
  clear C2 F2 P2 HW2
  go_upto_region 4 with (first | ((with_reducible show wpList _ _ _ ({ dst := _, op := Op.store 32 _ _, type := _, pos := _, after := _, guard := none } :: _) _ _); refine wpList_store_mid rfl 32 _ _ rfl _ _ _ rfl rfl (by exact tr) infoTsk (all_oneCell_toArray (by simp [Value.oneCell'])) ?_; (try dsimp only [Act.put])) | (go_at_call 21; refine HS.out.mono ?_; rintro e w3 ⟨V3, rfl, hT3, hb3⟩; have HT3 := Lib.hid hT3; have HB3 := Lib.hid hb3; obtain ⟨gF3, oF3, cF3, Ab3, cb3, Ar3, cr3, rfl, _⟩ := tsk_parts hT3; unfold tskCells at HT3 ⊢; clear hT3 hb3))
  refine wp_hid2 ?_
  intro W3 HW3
  have HE3 : Hid (Ext W2 W3) := by have h := HB3.out; have h2 := h.size; rw [Hid, HW3.out]; exact xts
  have T3 : W3.rangeAt w3.heap.size 0 [Value.int .i64 0, Value.int .i64 0, Value.int .i64 0, Value.int .i64 1, Value.int .i64 0, Value.int .i64 0, .bool false, .slice (some ⟨gF3, oF3, none⟩) 1 cF3, .slice Ab3 1 cb3, Value.int .i64 0, .bool false, Value.int .i64 0, Value.int .i64 0, Value.int .i64 0] := by
    rw [HW3.out]; exact World.rangeAt_setCells_same _ _ 0 _ (by show World.there _ _ 0 14; exact there_new rfl rfl)
  have HT33 := Lib.hid (show RTsk W3 (tskAt 0 0 0) _ from HT3.out.mono (by rw [HW3.out]; exact xts))
  have HR3 := Lib.hid T3
  have p30 := HE3.out.cell p0
  have p31 := HE3.out.cell p1
  have p32 := HE3.out.cell p2
  have HA := Lib.hid (Advance_any prgA (tskAt 0 0 0) _ _ W3 (HPA.out.mono HE3.out) HT33.out)
  unfold AdvPost stopA at HA
  rw [awk_go] at HA
  dsimp only at HA
  clear HW3 p0 p1 p2 HT3 HS HB3
  go_upto_region 5 with (first | ((first | ((with_reducible show Code.wp _ (Code.region _ (List.toArray ({ dst := _, op := Op.load 32 _, type := _, pos := _, after := _, guard := none } :: _)) false) _ _ _); refine wp_region_lit ?_) | (with_reducible show wpList _ _ _ ({ dst := _, op := Op.load 32 _, type := _, pos := _, after := _, guard := none } :: _) _ _)); refine wpList_load_mid rfl 32 _ rfl _ _ rfl _ _ (by exact rg) Tryz.underlying32 rfl (by exact infoTsk) ?_; dsimp only [dZ, dS]) | ((with_reducible show wpList _ _ _ ({ dst := _, op := Op.store 32 _ _, type := _, pos := _, after := _, guard := none } :: _) _ _); refine wpList_store_mid rfl 32 _ _ rfl _ _ _ rfl rfl (by exact tr) infoTsk (all_oneCell_toArray (by simp [Value.oneCell'])) ?_; (try dsimp only [Act.put])) | ((with_reducible show wpList _ _ _ ({ dst := _, op := Op.store 49 _ _, type := _, pos := _, after := _, guard := none } :: _) _ _); refine wpList_store_mid rfl 49 _ _ rfl _ _ _ rfl rfl (by exact tr) infoStop (all_oneCell_toArray (by simp [Value.oneCell'])) ?_; (try dsimp only [Act.put])) | (go_at_call 24; refine HA.out.mono ?_; rintro e w4 ⟨V4, rfl, hT4, hb4⟩; have HT4 := Lib.hid hT4; have HB4 := Lib.hid hb4; obtain ⟨gF4, oF4, cF4, Ab4, cb4, Ar4, cr4, rfl, hc41, hc42, hR4⟩ := tsk_parts hT4; have HC41 := Lib.hid hc41; have HC42 := Lib.hid hc42; have HR4 := Lib.hid hR4; unfold tskCells at HT4 ⊢; clear hT4 hb4 hc41 hc42 hR4))
  refine wp_hid2 ?_
  intro W4 HW4
  have HE4 : Hid (Ext W3 W4) := by have h := HB4.out; have h2 := h.size; rw [Hid, HW4.out]; exact xts
  have E44 : Ext w4 W4 := by rw [HW4.out]; exact xts
  have TU : W4.rangeAt w4.heap.size 0 [Value.int .i64 0, Value.int .i64 0, Value.int .i64 0, Value.int .i64 1, Value.int .i64 0, Value.int .i64 0, .bool false, .slice (some ⟨gF4, oF4, none⟩) 1 cF4, .slice Ab4 1 cb4, Value.int .i64 0, .bool false, Value.int .i64 0, Value.int .i64 0, Value.int .i64 0] := by
    rw [HW4.out]; exact (ranges_two (by omega) (by show World.there _ _ 0 14; exact there_old (there_new rfl rfl) _) (by show World.there _ _ 0 3; exact there_new (by simp) rfl)).1
  have TS : W4.rangeAt (w4.heap.size + 1) 0 [Value.int .i64 1, Value.int .i64 0, Value.int .i64 0] := by
    rw [HW4.out]; exact (ranges_two (by omega) (by show World.there _ _ 0 14; exact there_old (there_new rfl rfl) _) (by show World.there _ _ 0 3; exact there_new (by simp) rfl)).2
  have HT44 := Lib.hid (show RTsk W4 (tskAt 3 42 7) _ from HT4.out.mono E44)
  have HRU := Lib.hid TU
  have HRS := Lib.hid TS
  have HC41 := Lib.hid (E44.cell HC41.out)
  have HC42 := Lib.hid (E44.cell HC42.out)
  have HR4 := Lib.hid (HR4.out.mono RInt.stays E44)
  have p40 := HE4.out.cell p30
  have p41 := HE4.out.cell p31
  have p42 := HE4.out.cell p32
  have HCu := Lib.hid (Current_any prgA (tskAt 3 42 7) _ _ W4 (HPA.out.mono (HE3.out.trans HE4.out)) HT44.out)
  unfold insV at HCu
  rw [awk_now] at HCu
  dsimp only at HCu
  clear HW4 p30 p31 p32 HT4 HA HB4 E44 TS T3
  go_upto_region 6 with (first | ((first | ((with_reducible show Code.wp _ (Code.region _ (List.toArray ({ dst := _, op := Op.load 32 _, type := _, pos := _, after := _, guard := none } :: _)) false) _ _ _); refine wp_region_lit ?_) | (with_reducible show wpList _ _ _ ({ dst := _, op := Op.load 32 _, type := _, pos := _, after := _, guard := none } :: _) _ _)); refine wpList_load_mid rfl 32 _ rfl _ _ rfl _ _ (by exact rg) Tryz.underlying32 rfl (by exact infoTsk) ?_; dsimp only [dZ, dS]) | ((with_reducible show wpList _ _ _ ({ dst := _, op := Op.store 37 _ _, type := _, pos := _, after := _, guard := none } :: _) _ _); refine wpList_store_mid rfl 37 _ _ rfl _ _ _ rfl rfl (by exact tr) infoInsN (all_oneCell_toArray (by simp [Value.oneCell'])) ?_; (try dsimp only [Act.put])) | (go_at_call 15; refine HCu.out.mono ?_; rintro e w5 ⟨A5, n5, c5, rfl, _, hb5⟩; have HB5 := Lib.hid hb5; clear hb5))
  refine wp_hid2 ?_
  intro W5 HW5
  have HE5 : Hid (Ext W4 W5) := by have h := HB5.out; have h2 := h.size; rw [Hid, HW5.out]; exact xts
  have TI : W5.rangeAt w5.heap.size 0 [Value.int .i64 41, Value.int .i64 0, Value.int .i64 0, Value.int .i64 0, .slice A5 n5 c5] := by
    rw [HW5.out]; exact World.rangeAt_setCells_same _ _ 0 _ (by show World.there _ _ 0 5; exact there_new rfl rfl)
  have HRI := Lib.hid TI
  have HCl := Lib.hid (cloneIns (some ⟨w.heap.size, 0, none⟩) 4 4 (codeCells codeA) W5 (fun h => by cases h) ⟨rfl, fun _ => ⟨_, _, rfl, fun j u hj => by have := ((HE3.out.trans HE4.out).trans HE5.out).cell (HCs.out j u hj); exact this⟩⟩ codeA_one (by decide))
  clear HW5 TI TU p40 p41 p42 HCu HB5
  go_upto_region 7 with (go_at_call 43; refine HCl.out.mono ?_; rintro e w6 ⟨v6, rfl, hown6, hb6⟩; obtain ⟨g6, c6, rfl, hg6⟩ := own_form hown6 (by decide); have HO6 := Lib.hid hown6; have HB6 := Lib.hid hb6; have m1 : w6.cell? ⟨g6, 7, none⟩ = some (Value.int .i64 7) := hown6.cellAt 7 (by decide); have m2 : w6.cell? ⟨g6, 10, none⟩ = some (Value.int .i64 5) := hown6.cellAt 10 (by decide); have z1 := hown6.frozenAt 7; have z2 := hown6.frozenAt 10; clear hown6 hb6)
  go_upto_region 9 with fail
  refine wp_hid2 ?_
  intro W8 HW8
  have hg6W : W5.heap.size ≤ g6 := (HO6.out.lt g6 rfl).1
  have hg6l : g6 < w6.heap.size := (HO6.out.lt g6 rfl).2
  have HE8 : Hid (Ext W5 W8) := by have h := HB6.out; have h2 := h.size; rw [Hid, HW8.out]; exact xt
  obtain ⟨b1, b2⟩ := HO6.out.stored 7 (Value.int .i64 0)
  obtain ⟨b3, b4⟩ := b1.stored 10 (Value.int .i64 6)
  rw [codeB_of] at b3
  have C8 : W8.rangeAt g6 0 (codeCells codeB) := fun j v hj => by
    have h1 := b3.cellAt j (by have := (List.getElem?_eq_some_iff.1 hj).1; exact this)
    rw [HW8.out, Nat.zero_add, World.cell?_alloc_lt, World.cell?_alloc_lt, h1, hj]
    · simpa using hg6l
    · simp; omega
  have hc6 : 4 ≤ c6 := by
    obtain ⟨A9, c9, e9, h9, _⟩ := ownsRow_shape HO6.out
    injection e9 with q1 q2 q3
    omega
  have F8 : W8.rangeAt w6.heap.size 0 [.string mainN, Value.int .i64 0, Value.int .i64 2, Value.int .i64 0, .bool false, .slice (some ⟨g6, 0, none⟩) 4 c6] := by rw [HW8.out]; exact range_old (range_new (by simp)) _
  have Q8 : W8.rangeAt (w6.heap.size + 1) 0 [.slice (some ⟨w6.heap.size, 0, none⟩) 1 1, .slice none 0 0, .slice none 0 0] := by rw [HW8.out]; exact range_new (by simp)
  have q0 : W8.cell? ⟨w6.heap.size + 1, 0, none⟩ = some (.slice (some ⟨w6.heap.size, 0, none⟩) 1 1) := Q8 0 _ rfl
  have q1 : W8.cell? ⟨w6.heap.size + 1, 1, none⟩ = some (.slice none 0 0) := Q8 1 _ rfl
  have q2 : W8.cell? ⟨w6.heap.size + 1, 2, none⟩ = some (.slice none 0 0) := Q8 2 _ rfl
  have HPB := Lib.hid (rprg_one (xs := codeB) (regs := 2) (c := c6) C8 F8 hc6 (by decide) ⟨by decide, by decide⟩ codeB_in (by decide))
  have HE38 : Hid (Ext W3 W8) := (HE4.out.trans HE5.out).trans HE8.out
  have T8 := range_ext HR3.out HE38.out
  have HA2 := Lib.hid (Advance_any prgB (tskAt 0 0 0) _ _ W8 HPB.out (HT33.out.mono HE38.out))
  unfold AdvPost stopA at HA2
  rw [awk_div] at HA2
  dsimp only at HA2
  clear HW8 b1 b2 b3 b4 C8 F8 Q8 m1 m2 z1 z2 hg6W hg6l hc6 HCl HO6 HB6
  go_upto_region 10 with (first | ((first | ((with_reducible show Code.wp _ (Code.region _ (List.toArray ({ dst := _, op := Op.load 32 _, type := _, pos := _, after := _, guard := none } :: _)) false) _ _ _); refine wp_region_lit ?_) | (with_reducible show wpList _ _ _ ({ dst := _, op := Op.load 32 _, type := _, pos := _, after := _, guard := none } :: _) _ _)); refine wpList_load_mid rfl 32 _ rfl _ _ rfl _ _ (by exact rg) Tryz.underlying32 rfl (by exact infoTsk) ?_; dsimp only [dZ, dS]) | ((with_reducible show wpList _ _ _ ({ dst := _, op := Op.store 32 _ _, type := _, pos := _, after := _, guard := none } :: _) _ _); refine wpList_store_mid rfl 32 _ _ rfl _ _ _ rfl rfl (by exact tr) infoTsk (all_oneCell_toArray (by simp [Value.oneCell'])) ?_; (try dsimp only [Act.put])) | ((with_reducible show wpList _ _ _ ({ dst := _, op := Op.store 49 _ _, type := _, pos := _, after := _, guard := none } :: _) _ _); refine wpList_store_mid rfl 49 _ _ rfl _ _ _ rfl rfl (by exact tr) infoStop (all_oneCell_toArray (by simp [Value.oneCell'])) ?_; (try dsimp only [Act.put])) | (go_at_call 24; refine HA2.out.mono ?_; rintro e w9 ⟨V9, rfl, hT9, hb9⟩; have HB9 := Lib.hid hb9; obtain ⟨gF9, oF9, cF9, Ab9, cb9, Ar9, cr9, rfl, hc91, _, _⟩ := tsk_parts hT9; have HC91 := Lib.hid hc91; unfold tskCells; clear hT9 hb9 hc91))
  refine wp_hid2 ?_
  intro W9 HW9
  have HE9 : Hid (Ext W8 W9) := by have h := HB9.out; have h2 := h.size; rw [Hid, HW9.out]; exact xts
  have E99 : Ext w9 W9 := by rw [HW9.out]; exact xts
  have TV : W9.rangeAt w9.heap.size 0 [Value.int .i64 0, Value.int .i64 0, Value.int .i64 0, Value.int .i64 1, Value.int .i64 0, Value.int .i64 0, .bool false, .slice (some ⟨gF9, oF9, none⟩) 1 cF9, .slice Ab9 1 cb9, Value.int .i64 0, .bool false, Value.int .i64 0, Value.int .i64 0, Value.int .i64 0] := by
    rw [HW9.out]; exact (ranges_two (by omega) (by show World.there _ _ 0 14; exact there_old (there_new rfl rfl) _) (by show World.there _ _ 0 3; exact there_new (by simp) rfl)).1
  have TS9 : W9.rangeAt (w9.heap.size + 1) 0 [Value.int .i64 3, Value.int .i64 6, Value.int .i64 0] := by
    rw [HW9.out]; exact (ranges_two (by omega) (by show World.there _ _ 0 14; exact there_old (there_new rfl rfl) _) (by show World.there _ _ 0 3; exact there_new (by simp) rfl)).2
  have HE49 : Hid (Ext W4 W9) := (HE5.out.trans HE8.out).trans HE9.out
  have HE59 : Hid (Ext W5 W9) := HE8.out.trans HE9.out
  have u7 : W9.cell? ⟨w4.heap.size, 7, none⟩ = some (.slice (some ⟨gF4, oF4, none⟩) 1 cF4) := HE49.out.cell (HRU.out 7 _ rfl)
  have v7 : W9.cell? ⟨w9.heap.size, 7, none⟩ = some (.slice (some ⟨gF9, oF9, none⟩) 1 cF9) := TV 7 _ rfl
  have i0 : W9.cell? ⟨w5.heap.size, 0, none⟩ = some (Value.int .i64 41) := HE59.out.cell (HRI.out 0 _ rfl)
  have s0 : W9.cell? ⟨w4.heap.size + 1, 0, none⟩ = some (Value.int .i64 1) := HE49.out.cell (HRS.out 0 _ rfl)
  have s1 : W9.cell? ⟨w4.heap.size + 1, 1, none⟩ = some (Value.int .i64 0) := HE49.out.cell (HRS.out 1 _ rfl)
  have s2 : W9.cell? ⟨w4.heap.size + 1, 2, none⟩ = some (Value.int .i64 0) := HE49.out.cell (HRS.out 2 _ rfl)
  have r0 : W9.cell? ⟨w9.heap.size + 1, 0, none⟩ = some (Value.int .i64 3) := TS9 0 _ rfl
  have r1 : W9.cell? ⟨w9.heap.size + 1, 1, none⟩ = some (Value.int .i64 6) := TS9 1 _ rfl
  have r2 : W9.cell? ⟨w9.heap.size + 1, 2, none⟩ = some (Value.int .i64 0) := TS9 2 _ rfl
  have f1 : W9.cell? ⟨gF4, oF4 + 1, none⟩ = some (Value.int .i64 3) := HE49.out.cell HC41.out
  have f2 : W9.cell? ⟨gF4, oF4 + 2, none⟩ = some (.slice Ar4 2 cr4) := HE49.out.cell HC42.out
  have f3 : W9.cell? ⟨gF9, oF9 + 1, none⟩ = some (Value.int .i64 2) := E99.cell HC91.out
  have HSI := Lib.hid (SameInts_any Ar4 (some ⟨W9.heap.size, 0, none⟩) 2 2 cr4 2 [42, 7] [42, 7] (W9.alloc (.cells #[Value.int .i64 42, Value.int .i64 7] 3)) (HR4.out.mono RInt.stays (HE49.out.trans ((Ext.refl W9).alloc _))) (RSl.newInts W9 [42, 7] 3 (by decide) (by intro x hx; simp at hx; rcases hx with rfl | rfl <;> exact ⟨by decide, by decide⟩)))
  have heq1 : ∀ w : World, (binOp BinOp.eql 49 (.agg #[Value.int .i64 1, Value.int .i64 0, Value.int .i64 0]) (.agg #[Value.int .i64 1, Value.int .i64 0, Value.int .i64 0])).run Tryz.prog w = .ok (.bool true) w := fun _ => by kernel_rfl
  have heq2 : ∀ w : World, (binOp BinOp.eql 49 (.agg #[Value.int .i64 3, Value.int .i64 6, Value.int .i64 0]) (.agg #[Value.int .i64 3, Value.int .i64 6, Value.int .i64 0])).run Tryz.prog w = .ok (.bool true) w := fun _ => by kernel_rfl
  have HE09 : Hid (Ext w W9) := (HE2.out.trans HE3.out).trans (HE4.out.trans HE49.out)
  have zf4 : gF4 < W9.heap.size := lt_of_cell f1
  have zf9 : gF9 < W9.heap.size := lt_of_cell f3
  have zu : w4.heap.size < W9.heap.size := lt_of_cell u7
  have zs : w4.heap.size + 1 < W9.heap.size := lt_of_cell s0
  have zv : w9.heap.size < W9.heap.size := lt_of_cell v7
  have zr : w9.heap.size + 1 < W9.heap.size := lt_of_cell r0
  clear HW9 TV TS9 T8 q0 q1 q2 HA2 HB9 E99
  go_wp2_with (go_at_call 19; refine HSI.out.mono ?_; rintro e w10 ⟨rfl, hb10⟩; obtain ⟨hc10, hf10, hs10, he10⟩ := Ext.use (w := W9) hb10 xt; clear hb10)
  go_ret
  exact ⟨rfl, HE09.out.trans he10⟩
end Go.Proofs.YtcjjoabofecjmaaGreat

namespace Go.Proofs.YtcjjoabofecjmaaGreat
open Go.RowKit Go.Sort
def regsTo (n : Nat) (l : List Int) (k : Nat) : List Int := l.take k ++ List.replicate (n - k) 0
theorem regsTo_length {n : Nat} {l : List Int} {k : Nat} (hk : k ≤ l.length) (hn : l.length ≤ n) : (regsTo n l k).length = n := by simp [regsTo]; omega
theorem regsTo_all (n : Nat) (l : List Int) : regsTo n l l.length = regsOf n l := by simp [regsTo, regsOf]
theorem regsTo_set {n : Nat} {l : List Int} {k : Nat} {a : Int} (h : l[k]? = some a) (hn : l.length ≤ n) : (regsTo n l k).set k a = regsTo n l (k + 1) := by
  have hk := (List.getElem?_eq_some_iff.1 h).1
  unfold regsTo
  have hl : (l.take k).length = k := by simp; omega
  rw [List.set_append_right _ _ (by omega), hl, Nat.sub_self, show n - k = (n - (k + 1)) + 1 by omega, List.replicate_succ, List.set_cons_zero, List.take_add_one, List.append_assoc, h]
  rfl
set_option maxRecDepth 4000 in
set_option maxHeartbeats 4000000 in
theorem rregs_any (n : Nat) (xs : List Int) (A : Option Addr) (m c : Nat) (w : World) (hx : RSl 1 RInt w A m xs) (hle : xs.length ≤ n) (hn : n ≤ 1000) :
    Calls Tryz.prog 62 #[Value.int .i64 n, .slice A m c] w fun e w' => ∃ g, e = .returned (.slice (some ⟨g, 0, none⟩) n n) ∧ w.heap.size ≤ g ∧ w'.ownsRow w.heap.size 3 1 (.slice (some ⟨g, 0, none⟩) n n) n ((regsOf n xs).map (Value.int .i64)) ∧ Ext w w' := by
  have HML := Lib.hid hx.len
  have hmn : m ≤ n := by have := hx.len; omega
  have HX := Lib.hid hx
  have HLE := Lib.hid hle
  have hmk := fun W => run_make_row' (P := Tryz.prog) 35 3 (.int .i64 0) 8 Tryz.underlying35 infoInt rfl .i64 .i64 n (by omega) (by omega) W
  clear hx hle
  go_enter Tryz.func62, Tryz.ntmps62
  go_wp2
  refine wp_hid2 ?_
  intro W0 HW0
  have HE : Hid (Ext w W0) := by rw [HW0.out]; exact Lib.hid xt
  have HO : Hid (W0.ownsRow w.heap.size 3 1 (.slice (some ⟨w.heap.size, 0, none⟩) n n) n ((regsTo n xs 0).map (Value.int .i64))) := by
    rw [Hid, HW0.out, madeCells_one]
    have h1 := World.ownsRow_lit (base := w.heap.size) (e := 3) (size := 1) w (List.replicate n (Value.int .i64 0)).toArray n (by simp) (by simp only [maxLen]; omega) (by simp)
    simpa [regsTo] using h1
  clear HW0 hmk
  go_loopg [6] m (fun gg s6 wr => ∃ kk : Nat, kk ≤ m ∧ m - kk ≤ gg ∧ s6 = .int .i64 kk ∧ Hid (Ext w wr) ∧ Hid (wr.ownsRow w.heap.size 3 1 (.slice (some ⟨w.heap.size, 0, none⟩) n n) n ((regsTo n xs kk).map (Value.int .i64))))
  case atStart => exact ⟨0, Nat.zero_le _, by omega, rfl, HE.out, HO⟩
  case round =>
    obtain ⟨kk, hkk, hg, rfl, HW, HR⟩ := hrel
    by_cases hlt : kk < m
    · have hltz : (kk : Int) < (m : Int) := by omega
      have hltn : (kk : Int) < (n : Int) := by omega
      obtain ⟨a, hak⟩ : ∃ a, xs[kk]? = some a := ⟨_, List.getElem?_eq_getElem (by have := HML.out; omega)⟩
      obtain ⟨b, off, rfl, hlb, _, d0⟩ := HX.out.int hak
      have e0 := HW.out.cell d0
      have hlb2 := Nat.lt_of_lt_of_le hlb HW.out.size
      have HS := Lib.hid (regsTo_set hak HLE.out)
      clear hak d0 hlb
      have HWE := HW.out
      obtain ⟨u, hu⟩ : ∃ u, ((regsTo n xs kk).map (Value.int .i64))[kk]? = some u := ⟨_, List.getElem?_eq_getElem (by rw [List.length_map, regsTo_length (by have := HML.out; omega) HLE.out]; omega)⟩
      have r1 := World.ownsRow.frozenAt (g := w.heap.size) HR.out kk
      have r2 := World.ownsRow.cellAt (g := w.heap.size) HR.out kk (by omega)
      rw [hu] at r2
      go_wp2
      go_roundg (m - (kk + 1))
      case measure => omega
      case rel =>
        refine ⟨kk + 1, by omega, by omega, by go_num, HWE.setCell (Nat.le_refl _) _, ?_⟩
        have h9 := (World.ownsRow.stored (g := w.heap.size) HR.out kk (Value.int .i64 a)).1
        rw [← List.map_set, HS.out] at h9
        exact h9
    · have hltz : ¬ (kk : Int) < (m : Int) := by omega
      have hkm : kk = m := by omega
      go_wp2
      go_ret
      exact ⟨_, rfl, Nat.le_refl _, by have h1 := HR.out; rw [hkm, HML.out, regsTo_all] at h1; exact h1, HW.out⟩
end Go.Proofs.YtcjjoabofecjmaaGreat

namespace Go.Proofs.YtcjjoabofecjmaaGreat
open Go.RowKit
theorem between_any (n lo hi : Int) (w : World) :
    Calls Tryz.prog 120 #[Value.int .i64 n, Value.int .i64 lo, Value.int .i64 hi] w fun e w' => e = .returned (.bool (inB n lo hi)) ∧ w = w' := by
  go_enter Tryz.func120, Tryz.ntmps120
  go_wp2
  all_goals (go_ret; exact ⟨ret_bool (by unfold inB; simp [*] <;> omega), rfl⟩)
set_option maxRecDepth 8000 in
theorem rforbidden_any (op : Int) (w : World) :
    Calls Tryz.prog 157 #[Value.int .i64 op] w fun e w' => e = .returned (.bool (forbS op)) ∧ w = w' := by
  go_enter Tryz.func157, Tryz.ntmps157
  go_wp2
  all_goals (go_ret; exact ⟨ret_bool (by unfold forbS; simp_all), rfl⟩)
def RFn (w : World) (f : Fnc) (V : Value) : Prop := ∃ Ac nc cc, V = .agg #[.string f.name, Value.int .i64 f.params, Value.int .i64 f.regs, Value.int .i64 f.prio, .bool f.cleanup, .slice Ac nc cc] ∧ RSl 5 RIns w Ac nc f.code ∧ nc ≤ cc
theorem RFn.mono {w W : World} {f : Fnc} {V : Value} (h : RFn w f V) (hE : Ext w W) : RFn W f V := by
  obtain ⟨Ac, nc, cc, h1, h2, h3⟩ := h
  exact ⟨Ac, nc, cc, h1, h2.mono RIns.stays hE, h3⟩
def objIxS (p : Prg) (n k : Int) : Int := if 0 ≤ n then match p.objs[n.toNat]? with | some x => if x.kind = k then 0 else 8 | none => 2 else 2
set_option maxRecDepth 8000 in
set_option maxHeartbeats 2000000 in
theorem objIx_any (p : Prg) (n k : Int) (V : Value) (w : World) (hV : RPrg w p V) :
    Calls Tryz.prog 168 #[V, Value.int .i64 n, Value.int .i64 k] w fun e w' => e = .returned (Value.int .i64 (objIxS p n k)) ∧ Ext w w' := by
  obtain ⟨Af, nf, cf, Ao, no, co, Av, nv, cv, rfl, _, hO, _⟩ := hV
  have hle := hO.le
  have hsub : IntKind.i64.wrap ((no : Int) - 1) = (no : Int) - 1 := IntWalk.i64_in _ (by omega)
  have hl := hO.len
  by_cases hin : 0 ≤ n ∧ n < (no : Int)
  · obtain ⟨i, rfl⟩ : ∃ i : Nat, n = (i : Int) := ⟨n.toNat, by omega⟩
    obtain ⟨x, hx⟩ : ∃ x, p.objs[i]? = some x := ⟨_, List.getElem?_eq_getElem (by omega)⟩
    obtain ⟨b, off, rfl, hb, _, _, _, _, _, c1, _, _⟩ := hO.ob hx
    have HS : Hid (objIxS p (i : Int) k = if x.kind = k then 0 else 8) := by unfold Hid objIxS; rw [if_pos hin.1, Int.toNat_natCast, hx]
    have hB : inB (i : Int) 0 ((no : Int) - 1) = true := inB_true (by omega)
    have h1 := hin.2
    clear hO hx hl hin
    go_enter Tryz.func168, Tryz.ntmps168
    go_wp2_with (go_at_call 120; refine (between_any _ _ _ _).mono ?_; rintro e w' ⟨rfl, rfl⟩)
    all_goals (go_ret; exact ⟨ret_int (by rw [HS.out]; simp_all), xt⟩)
  · have HS : Hid (objIxS p n k = 2) := by
      unfold Hid objIxS
      split
      · rw [List.getElem?_eq_none (by omega)]
      · rfl
    have hB : inB n 0 ((no : Int) - 1) = false := inB_false (by omega)
    clear hO hl hin
    go_enter Tryz.func168, Tryz.ntmps168
    go_wp2_with (go_at_call 120; refine (between_any _ _ _ _).mono ?_; rintro e w' ⟨rfl, rfl⟩)
    go_ret
    exact ⟨ret_int HS.out.symm, xt⟩
end Go.Proofs.YtcjjoabofecjmaaGreat

namespace Go.Proofs.YtcjjoabofecjmaaGreat
open Go.RowKit
def roleI (o : Opd) : UInt8 :=
  if o.what = 0 then 46 else if o.what = 1 then 110 else if o.what = 2 then 109 else if o.what = 3 then 114 else if o.what = 4 then 119 else if o.what = 5 then 111 else if o.what = 6 then 116 else if o.what = 7 then 99
  else if o.what = 8 then 102 else if o.what = 9 then 100 else if o.what = 10 then 118 else if o.what = 11 then 97 else (48 + o.kind).toNat.toUInt8
def roleA (k : Int) : UInt8 := if k = 0 then 46 else if k = 1 then 112 else if k = 2 then 50 else 115
def rolesS (op : Int) : ByteArray := match shapeS op with | none => ⟨#[]⟩ | some s => ⟨#[roleI s.a, roleI s.b, roleI s.c, roleA s.args]⟩
theorem rl0 {op : Int} (h : op = 1) : rolesS op = ⟨#[119, 110, 46, 46]⟩ := by subst h; rfl
theorem rl1 {op : Int} (h : op = 2 ∨ op = 12) : rolesS op = ⟨#[119, 114, 46, 46]⟩ := by rcases h with rfl | rfl <;> rfl
theorem rl2 {op : Int} (h : op = 3 ∨ op = 4 ∨ op = 5 ∨ op = 6 ∨ op = 7 ∨ op = 8 ∨ op = 9 ∨ op = 10 ∨ op = 11) : rolesS op = ⟨#[119, 114, 114, 46]⟩ := by rcases h with rfl | rfl | rfl | rfl | rfl | rfl | rfl | rfl | rfl <;> rfl
theorem rl3 {op : Int} (h : op = 13) : rolesS op = ⟨#[116, 46, 46, 46]⟩ := by subst h; rfl
theorem rl4 {op : Int} (h : op = 14) : rolesS op = ⟨#[114, 116, 46, 46]⟩ := by subst h; rfl
theorem rl5 {op : Int} (h : op = 15 ∨ op = 34) : rolesS op = ⟨#[119, 102, 46, 112]⟩ := by rcases h with rfl | rfl <;> rfl
theorem rl6 {op : Int} (h : op = 16 ∨ op = 20 ∨ op = 21 ∨ op = 40 ∨ op = 41 ∨ op = 43) : rolesS op = ⟨#[114, 46, 46, 46]⟩ := by rcases h with rfl | rfl | rfl | rfl | rfl | rfl <;> rfl
theorem rl7 {op : Int} (h : op = 17) : rolesS op = ⟨#[46, 100, 46, 112]⟩ := by subst h; rfl
theorem rl8 {op : Int} (h : op = 18 ∨ op = 19 ∨ op = 37 ∨ op = 38 ∨ op = 39) : rolesS op = ⟨#[46, 46, 46, 46]⟩ := by rcases h with rfl | rfl | rfl | rfl | rfl <;> rfl
theorem rl9 {op : Int} (h : op = 30) : rolesS op = ⟨#[119, 118, 46, 46]⟩ := by subst h; rfl
theorem rl10 {op : Int} (h : op = 31) : rolesS op = ⟨#[118, 114, 46, 46]⟩ := by subst h; rfl
theorem rl11 {op : Int} (h : op = 32) : rolesS op = ⟨#[119, 97, 114, 46]⟩ := by subst h; rfl
theorem rl12 {op : Int} (h : op = 33) : rolesS op = ⟨#[119, 97, 46, 50]⟩ := by subst h; rfl
theorem rl13 {op : Int} (h : op = 35) : rolesS op = ⟨#[111, 111, 99, 46]⟩ := by subst h; rfl
theorem rl14 {op : Int} (h : op = 36) : rolesS op = ⟨#[119, 46, 46, 46]⟩ := by subst h; rfl
theorem rl15 {op : Int} (h : op = 42) : rolesS op = ⟨#[109, 114, 46, 46]⟩ := by subst h; rfl
theorem rl16 {op : Int} (h : op = 50 ∨ op = 52) : rolesS op = ⟨#[49, 46, 46, 46]⟩ := by rcases h with rfl | rfl <;> rfl
theorem rl17 {op : Int} (h : op = 51) : rolesS op = ⟨#[119, 49, 46, 46]⟩ := by subst h; rfl
theorem rl18 {op : Int} (h : op = 53 ∨ op = 54 ∨ op = 55 ∨ op = 56) : rolesS op = ⟨#[50, 46, 46, 46]⟩ := by rcases h with rfl | rfl | rfl | rfl <;> rfl
theorem rl19 {op : Int} (h : op = 57 ∨ op = 58 ∨ op = 59) : rolesS op = ⟨#[51, 46, 46, 46]⟩ := by rcases h with rfl | rfl | rfl <;> rfl
theorem rl20 {op : Int} (h : op = 60 ∨ op = 62) : rolesS op = ⟨#[52, 114, 46, 46]⟩ := by rcases h with rfl | rfl <;> rfl
theorem rl21 {op : Int} (h : op = 61) : rolesS op = ⟨#[119, 52, 114, 46]⟩ := by subst h; rfl
theorem rl22 {op : Int} (h : op = 63) : rolesS op = ⟨#[119, 53, 46, 46]⟩ := by subst h; rfl
theorem rl23 {op : Int} (h : op = 64) : rolesS op = ⟨#[54, 114, 46, 46]⟩ := by subst h; rfl
theorem rl24 {op : Int} (h : op = 65) : rolesS op = ⟨#[119, 54, 119, 46]⟩ := by subst h; rfl
theorem rl25 {op : Int} (h : op = 66) : rolesS op = ⟨#[54, 46, 46, 46]⟩ := by subst h; rfl
theorem rl26 {op : Int} (h : op = 67) : rolesS op = ⟨#[119, 119, 119, 115]⟩ := by subst h; rfl
theorem rl27 {op : Int} (h : op = 68) : rolesS op = ⟨#[55, 114, 46, 46]⟩ := by subst h; rfl
theorem rl28 {op : Int} (h : op = 69 ∨ op = 71) : rolesS op = ⟨#[55, 46, 46, 46]⟩ := by rcases h with rfl | rfl <;> rfl
theorem rl29 {op : Int} (h : op = 70) : rolesS op = ⟨#[119, 55, 46, 46]⟩ := by subst h; rfl
theorem rl30 {op : Int} (h : op = 72) : rolesS op = ⟨#[56, 114, 46, 46]⟩ := by subst h; rfl
theorem rl31 {op : Int} (h : op = 73) : rolesS op = ⟨#[57, 114, 46, 46]⟩ := by subst h; rfl
theorem rl32 {op : Int} (h : op = 74) : rolesS op = ⟨#[119, 57, 46, 46]⟩ := by subst h; rfl
theorem shapeS_none {op : Int} (h : op < 1 ∨ (21 < op ∧ op < 30) ∨ (43 < op ∧ op < 50) ∨ 74 < op) : shapeS op = none := by
  unfold shapeS groupsS
  repeat rw [if_neg (by omega)]
theorem rl_none {op : Int} (h : op < 1 ∨ (21 < op ∧ op < 30) ∨ (43 < op ∧ op < 50) ∨ 74 < op) : rolesS op = ⟨#[]⟩ := by unfold rolesS; rw [shapeS_none h]
set_option maxHeartbeats 8000000 in
set_option maxRecDepth 20000 in
theorem roles_any (op : Int) (w : World) :
    Calls Tryz.prog 76 #[Value.int .i64 op] w fun e w' => e = .returned (.string (rolesS op)) ∧ w = w' := by
  go_enter Tryz.func76, Tryz.ntmps76
  go_wp2
  all_goals
    go_ret
    refine ⟨congrArg (fun s => Ending.returned (.string s)) (Eq.symm ?_), rfl⟩
    simp only [beq_iff_eq, beq_eq_false_iff_ne, ne_eq] at *
    first | exact rl_none (by omega) | (exact rl0 (by omega)) | (exact rl1 (by omega)) | (exact rl2 (by omega)) | (exact rl3 (by omega)) | (exact rl4 (by omega)) | (exact rl5 (by omega)) | (exact rl6 (by omega)) | (exact rl7 (by omega)) | (exact rl8 (by omega)) | (exact rl9 (by omega)) | (exact rl10 (by omega)) | (exact rl11 (by omega)) | (exact rl12 (by omega)) | (exact rl13 (by omega)) | (exact rl14 (by omega)) | (exact rl15 (by omega)) | (exact rl16 (by omega)) | (exact rl17 (by omega)) | (exact rl18 (by omega)) | (exact rl19 (by omega)) | (exact rl20 (by omega)) | (exact rl21 (by omega)) | (exact rl22 (by omega)) | (exact rl23 (by omega)) | (exact rl24 (by omega)) | (exact rl25 (by omega)) | (exact rl26 (by omega)) | (exact rl27 (by omega)) | (exact rl28 (by omega)) | (exact rl29 (by omega)) | (exact rl30 (by omega)) | (exact rl31 (by omega)) | (exact rl32 (by omega))
end Go.Proofs.YtcjjoabofecjmaaGreat

namespace Go.Proofs.YtcjjoabofecjmaaGreat
open Go.RowKit
theorem wr_sub {x : Int} (h : 0 ≤ x ∧ x ≤ 9223372036854775807) : IntKind.i64.wrap (x - 1) = x - 1 := IntWalk.i64_in _ (by omega)
set_option maxRecDepth 8000 in
set_option maxHeartbeats 2000000 in
theorem rop_dot (p : Prg) (f : Fnc) (n : Int) (V U : Value) (w : World) (hV : RPrg w p V) (hU : RFn w f U) :
    Calls Tryz.prog 158 #[V, U, .int .u8 46, Value.int .i64 n] w fun e w' => e = .returned (Value.int .i64 (if n = 0 then 0 else 1)) ∧ Ext w w' := by
  obtain ⟨Af, nf, cf, Ao, no, co, Av, nv, cv, rfl, _⟩ := hV
  obtain ⟨Ac, nc, cc, rfl, _⟩ := hU
  go_enter Tryz.func158, Tryz.ntmps158
  go_wp2
  all_goals (go_ret; exact ⟨ret_int (by simp_all), xt⟩)
set_option maxRecDepth 8000 in
set_option maxHeartbeats 4000000 in
theorem rop_w (p : Prg) (f : Fnc) (n : Int) (V U : Value) (w : World) (hV : RPrg w p V) (hU : RFn w f U) (hr : 0 ≤ f.regs ∧ f.regs ≤ 32) :
    Calls Tryz.prog 158 #[V, U, .int .u8 119, Value.int .i64 n] w fun e w' => e = .returned (Value.int .i64 (if inB n (0) (f.regs - 1) = true then 0 else 2)) ∧ Ext w w' := by
  obtain ⟨Af, nf, cf, Ao, no, co, Av, nv, cv, rfl, _⟩ := hV
  obtain ⟨Ac, nc, cc, rfl, hC, _⟩ := hU
  have hwr := wr_sub (x := f.regs) (by omega)
  have hwc := wr_sub (x := (nc : Int)) (by have := hC.le; omega)
  have hcl := hC.le
  (try rw [← hC.len])
  clear hC hr
  have HB := Lib.hid (fun W => between_any n (0) (f.regs - 1) W)
  cases hq : inB n (0) (f.regs - 1) with
  | true =>
    rw [hq] at HB
    clear hq
    go_enter Tryz.func158, Tryz.ntmps158
    go_wp2_with (go_at_call 120; refine (HB.out _).mono ?_; rintro e w' ⟨rfl, rfl⟩)
    go_ret
    exact ⟨rfl, xt⟩
  | false =>
    rw [hq] at HB
    clear hq
    go_enter Tryz.func158, Tryz.ntmps158
    go_wp2_with (go_at_call 120; refine (HB.out _).mono ?_; rintro e w' ⟨rfl, rfl⟩)
    go_ret
    exact ⟨rfl, xt⟩
set_option maxRecDepth 8000 in
set_option maxHeartbeats 4000000 in
theorem rop_r (p : Prg) (f : Fnc) (n : Int) (V U : Value) (w : World) (hV : RPrg w p V) (hU : RFn w f U) (hr : 0 ≤ f.regs ∧ f.regs ≤ 32) :
    Calls Tryz.prog 158 #[V, U, .int .u8 114, Value.int .i64 n] w fun e w' => e = .returned (Value.int .i64 (if inB n (0) (f.regs - 1) = true then 0 else 2)) ∧ Ext w w' := by
  obtain ⟨Af, nf, cf, Ao, no, co, Av, nv, cv, rfl, _⟩ := hV
  obtain ⟨Ac, nc, cc, rfl, hC, _⟩ := hU
  have hwr := wr_sub (x := f.regs) (by omega)
  have hwc := wr_sub (x := (nc : Int)) (by have := hC.le; omega)
  have hcl := hC.le
  (try rw [← hC.len])
  clear hC hr
  have HB := Lib.hid (fun W => between_any n (0) (f.regs - 1) W)
  cases hq : inB n (0) (f.regs - 1) with
  | true =>
    rw [hq] at HB
    clear hq
    go_enter Tryz.func158, Tryz.ntmps158
    go_wp2_with (go_at_call 120; refine (HB.out _).mono ?_; rintro e w' ⟨rfl, rfl⟩)
    go_ret
    exact ⟨rfl, xt⟩
  | false =>
    rw [hq] at HB
    clear hq
    go_enter Tryz.func158, Tryz.ntmps158
    go_wp2_with (go_at_call 120; refine (HB.out _).mono ?_; rintro e w' ⟨rfl, rfl⟩)
    go_ret
    exact ⟨rfl, xt⟩
set_option maxRecDepth 8000 in
set_option maxHeartbeats 4000000 in
theorem rop_o (p : Prg) (f : Fnc) (n : Int) (V U : Value) (w : World) (hV : RPrg w p V) (hU : RFn w f U) (hr : 0 ≤ f.regs ∧ f.regs ≤ 32) :
    Calls Tryz.prog 158 #[V, U, .int .u8 111, Value.int .i64 n] w fun e w' => e = .returned (Value.int .i64 (if inB n (-1) (f.regs - 1) = true then 0 else 2)) ∧ Ext w w' := by
  obtain ⟨Af, nf, cf, Ao, no, co, Av, nv, cv, rfl, _⟩ := hV
  obtain ⟨Ac, nc, cc, rfl, hC, _⟩ := hU
  have hwr := wr_sub (x := f.regs) (by omega)
  have hwc := wr_sub (x := (nc : Int)) (by have := hC.le; omega)
  have hcl := hC.le
  (try rw [← hC.len])
  clear hC hr
  have HB := Lib.hid (fun W => between_any n (-1) (f.regs - 1) W)
  cases hq : inB n (-1) (f.regs - 1) with
  | true =>
    rw [hq] at HB
    clear hq
    go_enter Tryz.func158, Tryz.ntmps158
    go_wp2_with (go_at_call 120; refine (HB.out _).mono ?_; rintro e w' ⟨rfl, rfl⟩)
    go_quiet (fail)
    go_wp2_with (go_at_call 120; refine (HB.out _).mono ?_; rintro e w' ⟨rfl, rfl⟩)
    go_ret
    exact ⟨rfl, xt⟩
  | false =>
    rw [hq] at HB
    clear hq
    go_enter Tryz.func158, Tryz.ntmps158
    go_wp2_with (go_at_call 120; refine (HB.out _).mono ?_; rintro e w' ⟨rfl, rfl⟩)
    go_quiet (fail)
    go_wp2_with (go_at_call 120; refine (HB.out _).mono ?_; rintro e w' ⟨rfl, rfl⟩)
    go_ret
    exact ⟨rfl, xt⟩
set_option maxRecDepth 8000 in
set_option maxHeartbeats 4000000 in
theorem rop_n (p : Prg) (f : Fnc) (n : Int) (V U : Value) (w : World) (hV : RPrg w p V) (hU : RFn w f U) (hr : 0 ≤ f.regs ∧ f.regs ≤ 32) :
    Calls Tryz.prog 158 #[V, U, .int .u8 110, Value.int .i64 n] w fun e w' => e = .returned (Value.int .i64 (if inB n (-1099511627776) (1099511627776) = true then 0 else 2)) ∧ Ext w w' := by
  obtain ⟨Af, nf, cf, Ao, no, co, Av, nv, cv, rfl, _⟩ := hV
  obtain ⟨Ac, nc, cc, rfl, hC, _⟩ := hU
  have hwr := wr_sub (x := f.regs) (by omega)
  have hwc := wr_sub (x := (nc : Int)) (by have := hC.le; omega)
  have hcl := hC.le
  (try rw [← hC.len])
  clear hC hr
  have HB := Lib.hid (fun W => between_any n (-1099511627776) (1099511627776) W)
  cases hq : inB n (-1099511627776) (1099511627776) with
  | true =>
    rw [hq] at HB
    clear hq
    go_enter Tryz.func158, Tryz.ntmps158
    go_wp2_with (go_at_call 120; refine (HB.out _).mono ?_; rintro e w' ⟨rfl, rfl⟩)
    go_ret
    exact ⟨rfl, xt⟩
  | false =>
    rw [hq] at HB
    clear hq
    go_enter Tryz.func158, Tryz.ntmps158
    go_wp2_with (go_at_call 120; refine (HB.out _).mono ?_; rintro e w' ⟨rfl, rfl⟩)
    go_ret
    exact ⟨rfl, xt⟩
set_option maxRecDepth 8000 in
set_option maxHeartbeats 4000000 in
theorem rop_t (p : Prg) (f : Fnc) (n : Int) (V U : Value) (w : World) (hV : RPrg w p V) (hU : RFn w f U) (hr : 0 ≤ f.regs ∧ f.regs ≤ 32) :
    Calls Tryz.prog 158 #[V, U, .int .u8 116, Value.int .i64 n] w fun e w' => e = .returned (Value.int .i64 (if inB n (0) (((f.code.length : Int) - 1)) = true then 0 else 2)) ∧ Ext w w' := by
  obtain ⟨Af, nf, cf, Ao, no, co, Av, nv, cv, rfl, _⟩ := hV
  obtain ⟨Ac, nc, cc, rfl, hC, _⟩ := hU
  have hwr := wr_sub (x := f.regs) (by omega)
  have hwc := wr_sub (x := (nc : Int)) (by have := hC.le; omega)
  have hcl := hC.le
  (try rw [← hC.len])
  clear hC hr
  have HB := Lib.hid (fun W => between_any n (0) (((nc : Int) - 1)) W)
  cases hq : inB n (0) (((nc : Int) - 1)) with
  | true =>
    rw [hq] at HB
    clear hq
    go_enter Tryz.func158, Tryz.ntmps158
    go_wp2_with (go_at_call 120; refine (HB.out _).mono ?_; rintro e w' ⟨rfl, rfl⟩)
    go_ret
    exact ⟨rfl, xt⟩
  | false =>
    rw [hq] at HB
    clear hq
    go_enter Tryz.func158, Tryz.ntmps158
    go_wp2_with (go_at_call 120; refine (HB.out _).mono ?_; rintro e w' ⟨rfl, rfl⟩)
    go_ret
    exact ⟨rfl, xt⟩
set_option maxRecDepth 8000 in
set_option maxHeartbeats 4000000 in
theorem rop_m (p : Prg) (f : Fnc) (n : Int) (V U : Value) (w : World) (hV : RPrg w p V) (hU : RFn w f U) (hr : 0 ≤ f.regs ∧ f.regs ≤ 32) :
    Calls Tryz.prog 158 #[V, U, .int .u8 109, Value.int .i64 n] w fun e w' => e = .returned (Value.int .i64 (if inB n (0) (99) = true then 0 else 2)) ∧ Ext w w' := by
  obtain ⟨Af, nf, cf, Ao, no, co, Av, nv, cv, rfl, _⟩ := hV
  obtain ⟨Ac, nc, cc, rfl, hC, _⟩ := hU
  have hwr := wr_sub (x := f.regs) (by omega)
  have hwc := wr_sub (x := (nc : Int)) (by have := hC.le; omega)
  have hcl := hC.le
  (try rw [← hC.len])
  clear hC hr
  have HB := Lib.hid (fun W => between_any n (0) (99) W)
  cases hq : inB n (0) (99) with
  | true =>
    rw [hq] at HB
    clear hq
    go_enter Tryz.func158, Tryz.ntmps158
    go_wp2_with (go_at_call 120; refine (HB.out _).mono ?_; rintro e w' ⟨rfl, rfl⟩)
    go_ret
    exact ⟨rfl, xt⟩
  | false =>
    rw [hq] at HB
    clear hq
    go_enter Tryz.func158, Tryz.ntmps158
    go_wp2_with (go_at_call 120; refine (HB.out _).mono ?_; rintro e w' ⟨rfl, rfl⟩)
    go_ret
    exact ⟨rfl, xt⟩
end Go.Proofs.YtcjjoabofecjmaaGreat

namespace Go.Proofs.YtcjjoabofecjmaaGreat
open Go.RowKit
set_option maxRecDepth 8000 in
set_option maxHeartbeats 4000000 in
theorem rop_c_out (p : Prg) (f : Fnc) (n : Int) (V U : Value) (w : World) (hV : RPrg w p V) (hU : RFn w f U) (h : ¬ (0 ≤ n ∧ n < (f.code.length : Int))) :
    Calls Tryz.prog 158 #[V, U, .int .u8 99, Value.int .i64 n] w fun e w' => e = .returned (Value.int .i64 2) ∧ Ext w w' := by
  obtain ⟨Af, nf, cf, Ao, no, co, Av, nv, cv, rfl, hF, hO, hVr, _⟩ := hV
  obtain ⟨Ac, nc, cc, rfl, hC, _⟩ := hU
  have hle := hC.le
  have hwc := wr_sub (x := (nc : Int)) (by omega)
  rw [← hC.len] at h
  have HB := Lib.hid (fun W => between_any n 0 ((nc : Int) - 1) W)
  rw [inB_false (by omega)] at HB
  clear hF hO hVr hC h
  go_enter Tryz.func158, Tryz.ntmps158
  go_wp2_with (go_at_call 120; refine (HB.out _).mono ?_; rintro e w' ⟨rfl, rfl⟩)
  go_ret
  exact ⟨rfl, xt⟩
set_option maxRecDepth 8000 in
set_option maxHeartbeats 4000000 in
theorem rop_c_in (p : Prg) (f : Fnc) (i : Nat) (x : Ins) (V U : Value) (w : World) (hV : RPrg w p V) (hU : RFn w f U) (hx : f.code[i]? = some x) :
    Calls Tryz.prog 158 #[V, U, .int .u8 99, Value.int .i64 i] w fun e w' => e = .returned (Value.int .i64 (if x.op = 36 then 0 else 8)) ∧ Ext w w' := by
  obtain ⟨Af, nf, cf, Ao, no, co, Av, nv, cv, rfl, hF, hO, hVr, _⟩ := hV
  obtain ⟨Ac, nc, cc, rfl, hC, _⟩ := hU
  have hle := hC.le
  have hwc := wr_sub (x := (nc : Int)) (by omega)
  have hil : i < nc := by have := (List.getElem?_eq_some_iff.1 hx).1; have := hC.len; omega
  have h0 : (0 : Int) ≤ (i : Int) := by omega
  have h1 : (i : Int) < (nc : Int) := by omega
  obtain ⟨b, off, Aa, na, ca, rfl, hb, _, _, _, _, _, c0, _, _, _, _⟩ := hC.ins hx
  have HB := Lib.hid (fun W => between_any (i : Int) 0 ((nc : Int) - 1) W)
  rw [inB_true (by omega)] at HB
  obtain ⟨q, hq⟩ : ∃ q, x.op = q := ⟨_, rfl⟩
  rw [hq] at c0 ⊢
  clear hF hO hVr hC hx hil hq
  by_cases h36 : q = 36
  rotate_left
  · have e36 : (q != 36) = true := by simpa using h36
    rw [if_neg h36]
    clear h36
    go_enter Tryz.func158, Tryz.ntmps158
    go_wp2_with (go_at_call 120; refine (HB.out _).mono ?_; rintro e w' ⟨rfl, rfl⟩)
    go_ret
    exact ⟨rfl, xt⟩
  subst h36
  all_goals
    go_enter Tryz.func158, Tryz.ntmps158
    go_wp2_with (go_at_call 120; refine (HB.out _).mono ?_; rintro e w' ⟨rfl, rfl⟩)
    (try go_quiet (fail))
    (try go_wp2_with (go_at_call 120; refine (HB.out _).mono ?_; rintro e w' ⟨rfl, rfl⟩))
    go_ret
    exact ⟨rfl, xt⟩
set_option maxRecDepth 8000 in
set_option maxHeartbeats 4000000 in
theorem rop_f_out (p : Prg) (f : Fnc) (n : Int) (V U : Value) (w : World) (hV : RPrg w p V) (hU : RFn w f U) (h : ¬ (0 ≤ n ∧ n < (p.funcs.length : Int))) :
    Calls Tryz.prog 158 #[V, U, .int .u8 102, Value.int .i64 n] w fun e w' => e = .returned (Value.int .i64 2) ∧ Ext w w' := by
  obtain ⟨Af, nf, cf, Ao, no, co, Av, nv, cv, rfl, hF, hO, hVr, _⟩ := hV
  obtain ⟨Ac, nc, cc, rfl, hC, _⟩ := hU
  have hle := hF.le
  have hwc := wr_sub (x := (nf : Int)) (by omega)
  rw [← hF.len] at h
  have HB := Lib.hid (fun W => between_any n 0 ((nf : Int) - 1) W)
  rw [inB_false (by omega)] at HB
  clear hF hO hVr hC h
  go_enter Tryz.func158, Tryz.ntmps158
  go_wp2_with (go_at_call 120; refine (HB.out _).mono ?_; rintro e w' ⟨rfl, rfl⟩)
  go_ret
  exact ⟨rfl, xt⟩
set_option maxRecDepth 8000 in
set_option maxHeartbeats 4000000 in
theorem rop_f_in (p : Prg) (f : Fnc) (i : Nat) (x : Fnc) (V U : Value) (w : World) (hV : RPrg w p V) (hU : RFn w f U) (hx : p.funcs[i]? = some x) :
    Calls Tryz.prog 158 #[V, U, .int .u8 102, Value.int .i64 i] w fun e w' => e = .returned (Value.int .i64 (if x.cleanup = true then 16 else 0)) ∧ Ext w w' := by
  obtain ⟨Af, nf, cf, Ao, no, co, Av, nv, cv, rfl, hF, hO, hVr, _⟩ := hV
  obtain ⟨Ac, nc, cc, rfl, hC, _⟩ := hU
  have hle := hF.le
  have hwc := wr_sub (x := (nf : Int)) (by omega)
  have hil : i < nf := by have := (List.getElem?_eq_some_iff.1 hx).1; have := hF.len; omega
  have h0 : (0 : Int) ≤ (i : Int) := by omega
  have h1 : (i : Int) < (nf : Int) := by omega
  obtain ⟨b, off, Ac2, nc2, cc2, rfl, hb, _, _, _, _, _, _, _, _, _, c4, _⟩ := hF.fnc hx
  have HB := Lib.hid (fun W => between_any (i : Int) 0 ((nf : Int) - 1) W)
  rw [inB_true (by omega)] at HB
  obtain ⟨q, hq⟩ : ∃ q, x.cleanup = q := ⟨_, rfl⟩
  rw [hq] at c4 ⊢
  clear hF hO hVr hC hx hil hq
  cases q
  all_goals
    go_enter Tryz.func158, Tryz.ntmps158
    go_wp2_with (go_at_call 120; refine (HB.out _).mono ?_; rintro e w' ⟨rfl, rfl⟩)
    (try go_quiet (fail))
    (try go_wp2_with (go_at_call 120; refine (HB.out _).mono ?_; rintro e w' ⟨rfl, rfl⟩))
    go_ret
    exact ⟨rfl, xt⟩
set_option maxRecDepth 8000 in
set_option maxHeartbeats 4000000 in
theorem rop_d_out (p : Prg) (f : Fnc) (n : Int) (V U : Value) (w : World) (hV : RPrg w p V) (hU : RFn w f U) (h : ¬ (0 ≤ n ∧ n < (p.funcs.length : Int))) :
    Calls Tryz.prog 158 #[V, U, .int .u8 100, Value.int .i64 n] w fun e w' => e = .returned (Value.int .i64 2) ∧ Ext w w' := by
  obtain ⟨Af, nf, cf, Ao, no, co, Av, nv, cv, rfl, hF, hO, hVr, _⟩ := hV
  obtain ⟨Ac, nc, cc, rfl, hC, _⟩ := hU
  have hle := hF.le
  have hwc := wr_sub (x := (nf : Int)) (by omega)
  rw [← hF.len] at h
  have HB := Lib.hid (fun W => between_any n 0 ((nf : Int) - 1) W)
  rw [inB_false (by omega)] at HB
  clear hF hO hVr hC h
  go_enter Tryz.func158, Tryz.ntmps158
  go_wp2_with (go_at_call 120; refine (HB.out _).mono ?_; rintro e w' ⟨rfl, rfl⟩)
  go_ret
  exact ⟨rfl, xt⟩
set_option maxRecDepth 8000 in
set_option maxHeartbeats 4000000 in
theorem rop_d_in (p : Prg) (f : Fnc) (i : Nat) (x : Fnc) (V U : Value) (w : World) (hV : RPrg w p V) (hU : RFn w f U) (hx : p.funcs[i]? = some x) :
    Calls Tryz.prog 158 #[V, U, .int .u8 100, Value.int .i64 i] w fun e w' => e = .returned (Value.int .i64 (if x.cleanup = true then 0 else 16)) ∧ Ext w w' := by
  obtain ⟨Af, nf, cf, Ao, no, co, Av, nv, cv, rfl, hF, hO, hVr, _⟩ := hV
  obtain ⟨Ac, nc, cc, rfl, hC, _⟩ := hU
  have hle := hF.le
  have hwc := wr_sub (x := (nf : Int)) (by omega)
  have hil : i < nf := by have := (List.getElem?_eq_some_iff.1 hx).1; have := hF.len; omega
  have h0 : (0 : Int) ≤ (i : Int) := by omega
  have h1 : (i : Int) < (nf : Int) := by omega
  obtain ⟨b, off, Ac2, nc2, cc2, rfl, hb, _, _, _, _, _, _, _, _, _, c4, _⟩ := hF.fnc hx
  have HB := Lib.hid (fun W => between_any (i : Int) 0 ((nf : Int) - 1) W)
  rw [inB_true (by omega)] at HB
  obtain ⟨q, hq⟩ : ∃ q, x.cleanup = q := ⟨_, rfl⟩
  rw [hq] at c4 ⊢
  clear hF hO hVr hC hx hil hq
  cases q
  all_goals
    go_enter Tryz.func158, Tryz.ntmps158
    go_wp2_with (go_at_call 120; refine (HB.out _).mono ?_; rintro e w' ⟨rfl, rfl⟩)
    (try go_quiet (fail))
    (try go_wp2_with (go_at_call 120; refine (HB.out _).mono ?_; rintro e w' ⟨rfl, rfl⟩))
    go_ret
    exact ⟨rfl, xt⟩
set_option maxRecDepth 8000 in
set_option maxHeartbeats 4000000 in
theorem rop_v_out (p : Prg) (f : Fnc) (n : Int) (V U : Value) (w : World) (hV : RPrg w p V) (hU : RFn w f U) (h : ¬ (0 ≤ n ∧ n < (p.vars.length : Int))) :
    Calls Tryz.prog 158 #[V, U, .int .u8 118, Value.int .i64 n] w fun e w' => e = .returned (Value.int .i64 2) ∧ Ext w w' := by
  obtain ⟨Af, nf, cf, Ao, no, co, Av, nv, cv, rfl, hF, hO, hVr, _⟩ := hV
  obtain ⟨Ac, nc, cc, rfl, hC, _⟩ := hU
  have hle := hVr.le
  have hwc := wr_sub (x := (nv : Int)) (by omega)
  rw [← hVr.len] at h
  have HB := Lib.hid (fun W => between_any n 0 ((nv : Int) - 1) W)
  rw [inB_false (by omega)] at HB
  clear hF hO hVr hC h
  go_enter Tryz.func158, Tryz.ntmps158
  go_wp2_with (go_at_call 120; refine (HB.out _).mono ?_; rintro e w' ⟨rfl, rfl⟩)
  go_ret
  exact ⟨rfl, xt⟩
set_option maxRecDepth 8000 in
set_option maxHeartbeats 4000000 in
theorem rop_v_in (p : Prg) (f : Fnc) (i : Nat) (x : Vr) (V U : Value) (w : World) (hV : RPrg w p V) (hU : RFn w f U) (hx : p.vars[i]? = some x) :
    Calls Tryz.prog 158 #[V, U, .int .u8 118, Value.int .i64 i] w fun e w' => e = .returned (Value.int .i64 (0)) ∧ Ext w w' := by
  obtain ⟨Af, nf, cf, Ao, no, co, Av, nv, cv, rfl, hF, hO, hVr, _⟩ := hV
  obtain ⟨Ac, nc, cc, rfl, hC, _⟩ := hU
  have hle := hVr.le
  have hwc := wr_sub (x := (nv : Int)) (by omega)
  have hil : i < nv := by have := (List.getElem?_eq_some_iff.1 hx).1; have := hVr.len; omega
  have h0 : (0 : Int) ≤ (i : Int) := by omega
  have h1 : (i : Int) < (nv : Int) := by omega
  obtain ⟨b, off, rfl, hb, _, _, _, _, c2⟩ := hVr.vr hx
  have HB := Lib.hid (fun W => between_any (i : Int) 0 ((nv : Int) - 1) W)
  rw [inB_true (by omega)] at HB
  obtain ⟨q, hq⟩ : ∃ q, x.atomic = q := ⟨_, rfl⟩
  rw [hq] at c2
  clear hF hO hVr hC hx hil hq
  skip
  all_goals
    go_enter Tryz.func158, Tryz.ntmps158
    go_wp2_with (go_at_call 120; refine (HB.out _).mono ?_; rintro e w' ⟨rfl, rfl⟩)
    (try go_quiet (fail))
    (try go_wp2_with (go_at_call 120; refine (HB.out _).mono ?_; rintro e w' ⟨rfl, rfl⟩))
    go_ret
    exact ⟨rfl, xt⟩
set_option maxRecDepth 8000 in
set_option maxHeartbeats 4000000 in
theorem rop_a_out (p : Prg) (f : Fnc) (n : Int) (V U : Value) (w : World) (hV : RPrg w p V) (hU : RFn w f U) (h : ¬ (0 ≤ n ∧ n < (p.vars.length : Int))) :
    Calls Tryz.prog 158 #[V, U, .int .u8 97, Value.int .i64 n] w fun e w' => e = .returned (Value.int .i64 2) ∧ Ext w w' := by
  obtain ⟨Af, nf, cf, Ao, no, co, Av, nv, cv, rfl, hF, hO, hVr, _⟩ := hV
  obtain ⟨Ac, nc, cc, rfl, hC, _⟩ := hU
  have hle := hVr.le
  have hwc := wr_sub (x := (nv : Int)) (by omega)
  rw [← hVr.len] at h
  have HB := Lib.hid (fun W => between_any n 0 ((nv : Int) - 1) W)
  rw [inB_false (by omega)] at HB
  clear hF hO hVr hC h
  go_enter Tryz.func158, Tryz.ntmps158
  go_wp2_with (go_at_call 120; refine (HB.out _).mono ?_; rintro e w' ⟨rfl, rfl⟩)
  go_ret
  exact ⟨rfl, xt⟩
set_option maxRecDepth 8000 in
set_option maxHeartbeats 4000000 in
theorem rop_a_in (p : Prg) (f : Fnc) (i : Nat) (x : Vr) (V U : Value) (w : World) (hV : RPrg w p V) (hU : RFn w f U) (hx : p.vars[i]? = some x) :
    Calls Tryz.prog 158 #[V, U, .int .u8 97, Value.int .i64 i] w fun e w' => e = .returned (Value.int .i64 (if x.atomic = true then 0 else 16)) ∧ Ext w w' := by
  obtain ⟨Af, nf, cf, Ao, no, co, Av, nv, cv, rfl, hF, hO, hVr, _⟩ := hV
  obtain ⟨Ac, nc, cc, rfl, hC, _⟩ := hU
  have hle := hVr.le
  have hwc := wr_sub (x := (nv : Int)) (by omega)
  have hil : i < nv := by have := (List.getElem?_eq_some_iff.1 hx).1; have := hVr.len; omega
  have h0 : (0 : Int) ≤ (i : Int) := by omega
  have h1 : (i : Int) < (nv : Int) := by omega
  obtain ⟨b, off, rfl, hb, _, _, _, _, c2⟩ := hVr.vr hx
  have HB := Lib.hid (fun W => between_any (i : Int) 0 ((nv : Int) - 1) W)
  rw [inB_true (by omega)] at HB
  obtain ⟨q, hq⟩ : ∃ q, x.atomic = q := ⟨_, rfl⟩
  rw [hq] at c2 ⊢
  clear hF hO hVr hC hx hil hq
  cases q
  all_goals
    go_enter Tryz.func158, Tryz.ntmps158
    go_wp2_with (go_at_call 120; refine (HB.out _).mono ?_; rintro e w' ⟨rfl, rfl⟩)
    (try go_quiet (fail))
    (try go_wp2_with (go_at_call 120; refine (HB.out _).mono ?_; rintro e w' ⟨rfl, rfl⟩))
    go_ret
    exact ⟨rfl, xt⟩
set_option maxRecDepth 8000 in
set_option maxHeartbeats 4000000 in
theorem rop_obj (p : Prg) (f : Fnc) (n k : Int) (V U : Value) (w : World) (hV : RPrg w p V) (hU : RFn w f U) (hk : 1 ≤ k ∧ k ≤ 9) :
    Calls Tryz.prog 158 #[V, U, .int .u8 (48 + k), Value.int .i64 n] w fun e w' => e = .returned (Value.int .i64 (objIxS p n k)) ∧ Ext w w' := by
  have HO := Lib.hid (fun W (h : Ext w W) => objIx_any p n k V W (hV.mono h))
  obtain ⟨Af, nf, cf, Ao, no, co, Av, nv, cv, rfl, _⟩ := hV
  obtain ⟨Ac, nc, cc, rfl, _⟩ := hU
  have : k = 1 ∨ k = 2 ∨ k = 3 ∨ k = 4 ∨ k = 5 ∨ k = 6 ∨ k = 7 ∨ k = 8 ∨ k = 9 := by omega
  clear hk
  rcases this with rfl | rfl | rfl | rfl | rfl | rfl | rfl | rfl | rfl
  all_goals
    go_enter Tryz.func158, Tryz.ntmps158
    go_wp2_with (go_at_call 168; refine (HO.out _ xt).mono ?_; rintro e w1 ⟨rfl, hb⟩; obtain ⟨hc, hf, hs, he⟩ := Ext.use (w := w) hb xt; clear hb; (try simp only [sA, sC, sD, sN] at hs))
    go_ret
    exact ⟨rfl, xt⟩
end Go.Proofs.YtcjjoabofecjmaaGreat

namespace Go.Proofs.YtcjjoabofecjmaaGreat
open Go.RowKit
def okO (o : Opd) : Bool := decide (0 ≤ o.what ∧ o.what ≤ 12) && (o.what != 12 || decide (1 ≤ o.kind ∧ o.kind ≤ 9))
def okShp2 (s : Shp) : Bool := okO s.a && okO s.b && okO s.c && (s.args == 0 || s.args == 1 || s.args == 2 || s.args == 3)
theorem okShp2_ite {c : Prop} [Decidable c] {a b : Option Shp} (h1 : okShp2 (a.getD shpZ) = true) (h2 : okShp2 (b.getD shpZ) = true) : okShp2 ((if c then a else b).getD shpZ) = true := by split <;> assumption
theorem okShp2_s (op : Int) : okShp2 (sS op) = true := by
  unfold sS shapeS groupsS
  repeat' (refine okShp2_ite ?_ ?_)
  all_goals rfl
theorem objIx_opd (p : Prg) (f : Fnc) (n k : Int) : objIxS p n k = operandS p f ⟨12, k⟩ n := by
  unfold objIxS operandS
  rfl
theorem rop_any (p : Prg) (f : Fnc) (o : Opd) (n : Int) (V U : Value) (w : World) (hV : RPrg w p V) (hU : RFn w f U) (hr : 0 ≤ f.regs ∧ f.regs ≤ 32) (ho : okO o = true) :
    Calls Tryz.prog 158 #[V, U, .int .u8 ((roleI o).toNat : Int), Value.int .i64 n] w fun e w' => e = .returned (Value.int .i64 (operandS p f o n)) ∧ Ext w w' := by
  obtain ⟨wh, k⟩ := o
  simp only [okO, Bool.and_eq_true, Bool.or_eq_true, decide_eq_true_eq, bne_iff_ne] at ho
  obtain ⟨h1, h2⟩ := ho
  have hw : wh = 0 ∨ wh = 1 ∨ wh = 2 ∨ wh = 3 ∨ wh = 4 ∨ wh = 5 ∨ wh = 6 ∨ wh = 7 ∨ wh = 8 ∨ wh = 9 ∨ wh = 10 ∨ wh = 11 ∨ wh = 12 := by omega
  have hin : ∀ (L : Int), insideS n L = if inB n 0 (L - 1) = true then 0 else 2 := fun L => by
    unfold insideS
    by_cases h : 0 ≤ n ∧ n < L
    · rw [if_pos h, inB_true (by omega), if_pos rfl]
    · rw [if_neg h, inB_false (by omega), if_neg (by decide)]
  rcases hw with rfl | rfl | rfl | rfl | rfl | rfl | rfl | rfl | rfl | rfl | rfl | rfl | rfl
  · exact rop_dot p f n V U w hV hU
  · exact rop_n p f n V U w hV hU hr
  · have := rop_m p f n V U w hV hU hr
    have e9 := hin 100
    rw [show (100 : Int) - 1 = 99 by decide] at e9
    rw [← e9] at this
    exact this
  · have := rop_r p f n V U w hV hU hr
    rw [← hin] at this
    exact this
  · have := rop_w p f n V U w hV hU hr
    rw [← hin] at this
    exact this
  · refine (rop_o p f n V U w hV hU hr).mono fun e w' h => ⟨h.1.trans (ret_int ?_), h.2⟩
    show _ = if -1 ≤ n ∧ n < f.regs then 0 else 2
    by_cases h : -1 ≤ n ∧ n < f.regs
    · rw [if_pos h, inB_true (by omega), if_pos rfl]
    · rw [if_neg h, inB_false (by omega), if_neg (by decide)]
  · have := rop_t p f n V U w hV hU hr
    rw [← hin] at this
    exact this
  · by_cases h : 0 ≤ n ∧ n < (f.code.length : Int)
    · obtain ⟨i, rfl⟩ : ∃ i : Nat, n = (i : Int) := ⟨n.toNat, by omega⟩
      obtain ⟨x, hx⟩ : ∃ x, f.code[i]? = some x := ⟨_, List.getElem?_eq_getElem (by omega)⟩
      refine (rop_c_in p f i x V U w hV hU hx).mono fun e w' h3 => ⟨h3.1.trans (ret_int ?_), h3.2⟩
      simp [operandS, hx]
    · refine (rop_c_out p f n V U w hV hU h).mono fun e w' h3 => ⟨h3.1.trans (ret_int ?_), h3.2⟩
      by_cases h0 : 0 ≤ n
      · simp [operandS, h0, List.getElem?_eq_none (show f.code.length ≤ n.toNat by omega)]
      · simp [operandS, h0]
  · by_cases h : 0 ≤ n ∧ n < (p.funcs.length : Int)
    · obtain ⟨i, rfl⟩ : ∃ i : Nat, n = (i : Int) := ⟨n.toNat, by omega⟩
      obtain ⟨x, hx⟩ : ∃ x, p.funcs[i]? = some x := ⟨_, List.getElem?_eq_getElem (by omega)⟩
      refine (rop_f_in p f i x V U w hV hU hx).mono fun e w' h3 => ⟨h3.1.trans (ret_int ?_), h3.2⟩
      cases hxx : x.cleanup <;> simp [operandS, hx, hxx]
    · refine (rop_f_out p f n V U w hV hU h).mono fun e w' h3 => ⟨h3.1.trans (ret_int ?_), h3.2⟩
      by_cases h0 : 0 ≤ n
      · simp [operandS, h0, List.getElem?_eq_none (show p.funcs.length ≤ n.toNat by omega)]
      · simp [operandS, h0]
  · by_cases h : 0 ≤ n ∧ n < (p.funcs.length : Int)
    · obtain ⟨i, rfl⟩ : ∃ i : Nat, n = (i : Int) := ⟨n.toNat, by omega⟩
      obtain ⟨x, hx⟩ : ∃ x, p.funcs[i]? = some x := ⟨_, List.getElem?_eq_getElem (by omega)⟩
      refine (rop_d_in p f i x V U w hV hU hx).mono fun e w' h3 => ⟨h3.1.trans (ret_int ?_), h3.2⟩
      cases hxx : x.cleanup <;> simp [operandS, hx, hxx]
    · refine (rop_d_out p f n V U w hV hU h).mono fun e w' h3 => ⟨h3.1.trans (ret_int ?_), h3.2⟩
      by_cases h0 : 0 ≤ n
      · simp [operandS, h0, List.getElem?_eq_none (show p.funcs.length ≤ n.toNat by omega)]
      · simp [operandS, h0]
  · by_cases h : 0 ≤ n ∧ n < (p.vars.length : Int)
    · obtain ⟨i, rfl⟩ : ∃ i : Nat, n = (i : Int) := ⟨n.toNat, by omega⟩
      obtain ⟨x, hx⟩ : ∃ x, p.vars[i]? = some x := ⟨_, List.getElem?_eq_getElem (by omega)⟩
      refine (rop_v_in p f i x V U w hV hU hx).mono fun e w' h3 => ⟨h3.1.trans (ret_int ?_), h3.2⟩
      cases hxx : x.atomic <;> simp [operandS, hx, hxx]
    · refine (rop_v_out p f n V U w hV hU h).mono fun e w' h3 => ⟨h3.1.trans (ret_int ?_), h3.2⟩
      by_cases h0 : 0 ≤ n
      · simp [operandS, h0, List.getElem?_eq_none (show p.vars.length ≤ n.toNat by omega)]
      · simp [operandS, h0]
  · by_cases h : 0 ≤ n ∧ n < (p.vars.length : Int)
    · obtain ⟨i, rfl⟩ : ∃ i : Nat, n = (i : Int) := ⟨n.toNat, by omega⟩
      obtain ⟨x, hx⟩ : ∃ x, p.vars[i]? = some x := ⟨_, List.getElem?_eq_getElem (by omega)⟩
      refine (rop_a_in p f i x V U w hV hU hx).mono fun e w' h3 => ⟨h3.1.trans (ret_int ?_), h3.2⟩
      cases hxx : x.atomic <;> simp [operandS, hx, hxx]
    · refine (rop_a_out p f n V U w hV hU h).mono fun e w' h3 => ⟨h3.1.trans (ret_int ?_), h3.2⟩
      by_cases h0 : 0 ≤ n
      · simp [operandS, h0, List.getElem?_eq_none (show p.vars.length ≤ n.toNat by omega)]
      · simp [operandS, h0]
  · have hk : 1 ≤ k ∧ k ≤ 9 := h2.resolve_left (by decide)
    have := rop_obj p f n k V U w hV hU hk
    rw [objIx_opd p f n k] at this
    have e : ((roleI ⟨12, k⟩).toNat : Int) = 48 + k := by
      have : k = 1 ∨ k = 2 ∨ k = 3 ∨ k = 4 ∨ k = 5 ∨ k = 6 ∨ k = 7 ∨ k = 8 ∨ k = 9 := by omega
      rcases this with rfl | rfl | rfl | rfl | rfl | rfl | rfl | rfl | rfl <;> rfl
    rw [e]
    exact this
set_option maxRecDepth 8000 in
set_option maxHeartbeats 4000000 in
theorem rcase_any (p : Prg) (f : Fnc) (kind ch reg : Int) (V U : Value) (w : World) (hV : RPrg w p V) (hU : RFn w f U) (hr : 0 ≤ f.regs ∧ f.regs ≤ 32) :
    Calls Tryz.prog 169 #[V, U, Value.int .i64 kind, Value.int .i64 ch, Value.int .i64 reg] w fun e w' => e = .returned (Value.int .i64 (caseS p f kind ch reg)) ∧ Ext w w' := by
  have HO := Lib.hid (fun W (h : Ext w W) => objIx_any p ch 6 V W (hV.mono h))
  obtain ⟨e, he⟩ : ∃ e, objIxS p ch 6 = e := ⟨_, rfl⟩
  have HOP : Hid (operandS p f (oO 6) ch = e) := by rw [Hid, ← he]; exact (objIx_opd p f ch 6).symm
  rw [he] at HO
  clear he
  obtain ⟨Af, nf, cf, Ao, no, co, Av, nv, cv, rfl, _⟩ := hV
  obtain ⟨Ac, nc, cc, rfl, _⟩ := hU
  have hwr := wr_sub (x := f.regs) (by omega)
  have HRg : Hid (regB f reg = inB reg 0 (f.regs - 1)) := rfl
  clear hr
  have HS : Hid (caseS p f kind ch reg = if kind = 3 then (if ch ≠ 0 ∨ reg ≠ 0 then 1 else 0) else if kind = 1 ∨ kind = 2 then (if e ≠ 0 then e else if kind = 1 ∧ inB reg 0 (f.regs - 1) = false then 2 else if kind = 2 ∧ reg ≠ 0 then 1 else 0) else 8) := by
    unfold Hid caseS; rw [HOP.out, HRg.out]
  by_cases h3 : kind = 3
  · subst h3
    clear HO
    go_enter Tryz.func169, Tryz.ntmps169
    go_wp2_with (go_at_call 120; refine (between_any _ _ _ _).mono ?_; rintro e w' ⟨rfl, rfl⟩)
    all_goals (go_ret; exact ⟨ret_int (by rw [HS.out]; simp_all), xt⟩)
  by_cases h1 : kind = 1
  · subst h1
    obtain ⟨q, hq⟩ : ∃ q, inB reg 0 (f.regs - 1) = q := ⟨_, rfl⟩
    have HB := Lib.hid (fun W => between_any reg 0 (f.regs - 1) W)
    rw [hq] at HB HS
    clear hq h3
    cases q
    all_goals
      go_enter Tryz.func169, Tryz.ntmps169
      go_wp2_with (first | (go_at_call 168; refine (HO.out _ xt).mono ?_; rintro e w1 ⟨rfl, hb⟩; obtain ⟨hc, hf, hs, he⟩ := Ext.use (w := w) hb xt; clear hb; (try simp only [sA, sC, sD, sN] at hs)) | (go_at_call 120; (with_reducible refine (HB.out _).mono ?_); rintro e w' ⟨rfl, rfl⟩) | (go_at_call 120; refine (between_any _ _ _ _).mono ?_; rintro e w' ⟨rfl, rfl⟩))
      all_goals (go_ret; exact ⟨ret_int (by rw [HS.out]; simp_all), xt⟩)
  by_cases h2 : kind = 2
  · subst h2
    clear h3 h1
    go_enter Tryz.func169, Tryz.ntmps169
    go_wp2_with (first | (go_at_call 168; refine (HO.out _ xt).mono ?_; rintro e w1 ⟨rfl, hb⟩; obtain ⟨hc, hf, hs, he⟩ := Ext.use (w := w) hb xt; clear hb; (try simp only [sA, sC, sD, sN] at hs)) | (go_at_call 120; refine (between_any _ _ _ _).mono ?_; rintro e w' ⟨rfl, rfl⟩))
    all_goals (go_ret; exact ⟨ret_int (by rw [HS.out]; simp_all), xt⟩)
  · have HB := Lib.hid (fun W => between_any kind 1 3 W)
    rw [inB_false (by omega)] at HB
    go_enter Tryz.func169, Tryz.ntmps169
    go_wp2_with (go_at_call 120; refine (HB.out _).mono ?_; rintro e w' ⟨rfl, rfl⟩)
    go_ret
    exact ⟨ret_int (by rw [HS.out, if_neg h3, if_neg (by omega)]), xt⟩
end Go.Proofs.YtcjjoabofecjmaaGreat
