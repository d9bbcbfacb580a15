/- A part of the proof: awake of nurserylaw28 answers true; A task that runs stays valid; A task that runs stays valid until it stops; where it stops, and why; What Handle of chapter 28 returns, in plain logic; sizes of a valid task. -/
import Derived.Test.YtcjjoabofecjmaaGreatQ16
import Derived.Test.YtcjjoabofecjmaaGreatQ01
import Derived.Test.YtcjjoabofecjmaaGreatQ12
import Derived.Test.YtcjjoabofecjmaaGreatQ15
set_option linter.unusedVariables false
set_option linter.unusedSimpArgs false
namespace Go.Proofs.YtcjjoabofecjmaaGreat
open Go.RowKit Go.Sort
set_option maxRecDepth 8000 in
set_option maxHeartbeats 8000000 in
theorem awake_any (w : World) : Calls Tryz.prog 14 #[] w fun e w' => e = .returned (.bool true) ∧ Ext w w' := by
  go_enter Tryz.func14, Tryz.ntmps14
  go_upto_region 3 with fail
  refine wp_hid2 ?_
  intro W2 HW2
  have HE2 : Hid (Ext w W2) := by rw [Hid, HW2.out]; exact xt
  have C2 : W2.rangeAt w.heap.size 0 (codeCells codeA) := by rw [HW2.out]; exact range_old (range_old (range_new rfl) _) _
  have F2 : W2.rangeAt (w.heap.size + 1) 0 [.string mainN, Value.int .i64 0, Value.int .i64 2, Value.int .i64 0, .bool false, .slice (some ⟨w.heap.size, 0, none⟩) 4 4] := by rw [HW2.out]; exact range_old (range_new (by simp)) _
  have P2 : W2.rangeAt (w.heap.size + 1 + 1) 0 [.slice (some ⟨w.heap.size + 1, 0, none⟩) 1 1, .slice none 0 0, .slice none 0 0] := by rw [HW2.out]; exact range_new (by simp)
  have HCs := Lib.hid C2
  have HPA := Lib.hid (rprg_one (xs := codeA) (regs := 2) (c := 4) C2 F2 (by decide) (by decide) ⟨by decide, by decide⟩ codeA_in (by decide))
  have HPR := Lib.hid P2
  have p0 : W2.cell? ⟨w.heap.size + 1 + 1, 0, none⟩ = some (.slice (some ⟨w.heap.size + 1, 0, none⟩) 1 1) := P2 0 _ rfl
  have p1 : W2.cell? ⟨w.heap.size + 1 + 1, 1, none⟩ = some (.slice none 0 0) := P2 1 _ rfl
  have p2 : W2.cell? ⟨w.heap.size + 1 + 1, 2, none⟩ = some (.slice none 0 0) := P2 2 _ rfl
  have HS := Lib.hid (Start_any prgA 0 [] 0 _ none 0 0 W2 HPA.out (RSl.nil _) ⟨by decide, by decide⟩ ⟨by decide, by decide⟩)
  rw [awk_start] at HS
  clear C2 F2 P2 HW2
  go_upto_region 4 with (first | ((with_reducible show wpList _ _ _ ({ dst := _, op := Op.store 32 _ _, type := _, pos := _, after := _, guard := none } :: _) _ _); refine wpList_store_mid rfl 32 _ _ rfl _ _ _ rfl rfl (by exact tr) infoTsk (all_oneCell_toArray (by simp [Value.oneCell'])) ?_; (try dsimp only [Act.put])) | (go_at_call 21; refine HS.out.mono ?_; rintro e w3 ⟨V3, rfl, hT3, hb3⟩; have HT3 := Lib.hid hT3; have HB3 := Lib.hid hb3; obtain ⟨gF3, oF3, cF3, Ab3, cb3, Ar3, cr3, rfl, _⟩ := tsk_parts hT3; unfold tskCells at HT3 ⊢; clear hT3 hb3))
  refine wp_hid2 ?_
  intro W3 HW3
  have HE3 : Hid (Ext W2 W3) := by have h := HB3.out; have h2 := h.size; rw [Hid, HW3.out]; exact xts
  have T3 : W3.rangeAt w3.heap.size 0 [Value.int .i64 0, Value.int .i64 0, Value.int .i64 0, Value.int .i64 1, Value.int .i64 0, Value.int .i64 0, .bool false, .slice (some ⟨gF3, oF3, none⟩) 1 cF3, .slice Ab3 1 cb3, Value.int .i64 0, .bool false, Value.int .i64 0, Value.int .i64 0, Value.int .i64 0] := by
    rw [HW3.out]; exact World.rangeAt_setCells_same _ _ 0 _ (by show World.there _ _ 0 14; exact there_new rfl rfl)
  have HT33 := Lib.hid (show RTsk W3 (tskAt 0 0 0) _ from HT3.out.mono (by rw [HW3.out]; exact xts))
  have HR3 := Lib.hid T3
  have p30 := HE3.out.cell p0
  have p31 := HE3.out.cell p1
  have p32 := HE3.out.cell p2
  have HA := Lib.hid (Advance_any prgA (tskAt 0 0 0) _ _ W3 (HPA.out.mono HE3.out) HT33.out)
  unfold AdvPost stopA at HA
  rw [awk_go] at HA
  dsimp only at HA
  clear HW3 p0 p1 p2 HT3 HS HB3
  go_upto_region 5 with (first | ((first | ((with_reducible show Code.wp _ (Code.region _ (List.toArray ({ dst := _, op := Op.load 32 _, type := _, pos := _, after := _, guard := none } :: _)) false) _ _ _); refine wp_region_lit ?_) | (with_reducible show wpList _ _ _ ({ dst := _, op := Op.load 32 _, type := _, pos := _, after := _, guard := none } :: _) _ _)); refine wpList_load_mid rfl 32 _ rfl _ _ rfl _ _ (by exact rg) Tryz.underlying32 rfl (by exact infoTsk) ?_; dsimp only [dZ, dS]) | ((with_reducible show wpList _ _ _ ({ dst := _, op := Op.store 32 _ _, type := _, pos := _, after := _, guard := none } :: _) _ _); refine wpList_store_mid rfl 32 _ _ rfl _ _ _ rfl rfl (by exact tr) infoTsk (all_oneCell_toArray (by simp [Value.oneCell'])) ?_; (try dsimp only [Act.put])) | ((with_reducible show wpList _ _ _ ({ dst := _, op := Op.store 49 _ _, type := _, pos := _, after := _, guard := none } :: _) _ _); refine wpList_store_mid rfl 49 _ _ rfl _ _ _ rfl rfl (by exact tr) infoStop (all_oneCell_toArray (by simp [Value.oneCell'])) ?_; (try dsimp only [Act.put])) | (go_at_call 24; refine HA.out.mono ?_; rintro e w4 ⟨V4, rfl, hT4, hb4⟩; have HT4 := Lib.hid hT4; have HB4 := Lib.hid hb4; obtain ⟨gF4, oF4, cF4, Ab4, cb4, Ar4, cr4, rfl, hc41, hc42, hR4⟩ := tsk_parts hT4; have HC41 := Lib.hid hc41; have HC42 := Lib.hid hc42; have HR4 := Lib.hid hR4; unfold tskCells at HT4 ⊢; clear hT4 hb4 hc41 hc42 hR4))
  refine wp_hid2 ?_
  intro W4 HW4
  have HE4 : Hid (Ext W3 W4) := by have h := HB4.out; have h2 := h.size; rw [Hid, HW4.out]; exact xts
  have E44 : Ext w4 W4 := by rw [HW4.out]; exact xts
  have TU : W4.rangeAt w4.heap.size 0 [Value.int .i64 0, Value.int .i64 0, Value.int .i64 0, Value.int .i64 1, Value.int .i64 0, Value.int .i64 0, .bool false, .slice (some ⟨gF4, oF4, none⟩) 1 cF4, .slice Ab4 1 cb4, Value.int .i64 0, .bool false, Value.int .i64 0, Value.int .i64 0, Value.int .i64 0] := by
    rw [HW4.out]; exact (ranges_two (by omega) (by show World.there _ _ 0 14; exact there_old (there_new rfl rfl) _) (by show World.there _ _ 0 3; exact there_new (by simp) rfl)).1
  have TS : W4.rangeAt (w4.heap.size + 1) 0 [Value.int .i64 1, Value.int .i64 0, Value.int .i64 0] := by
    rw [HW4.out]; exact (ranges_two (by omega) (by show World.there _ _ 0 14; exact there_old (there_new rfl rfl) _) (by show World.there _ _ 0 3; exact there_new (by simp) rfl)).2
  have HT44 := Lib.hid (show RTsk W4 (tskAt 3 42 7) _ from HT4.out.mono E44)
  have HRU := Lib.hid TU
  have HRS := Lib.hid TS
  have HC41 := Lib.hid (E44.cell HC41.out)
  have HC42 := Lib.hid (E44.cell HC42.out)
  have HR4 := Lib.hid (HR4.out.mono RInt.stays E44)
  have p40 := HE4.out.cell p30
  have p41 := HE4.out.cell p31
  have p42 := HE4.out.cell p32
  have HCu := Lib.hid (Current_any prgA (tskAt 3 42 7) _ _ W4 (HPA.out.mono (HE3.out.trans HE4.out)) HT44.out)
  unfold insV at HCu
  rw [awk_now] at HCu
  dsimp only at HCu
  clear HW4 p30 p31 p32 HT4 HA HB4 E44 TS T3
  go_upto_region 6 with (first | ((first | ((with_reducible show Code.wp _ (Code.region _ (List.toArray ({ dst := _, op := Op.load 32 _, type := _, pos := _, after := _, guard := none } :: _)) false) _ _ _); refine wp_region_lit ?_) | (with_reducible show wpList _ _ _ ({ dst := _, op := Op.load 32 _, type := _, pos := _, after := _, guard := none } :: _) _ _)); refine wpList_load_mid rfl 32 _ rfl _ _ rfl _ _ (by exact rg) Tryz.underlying32 rfl (by exact infoTsk) ?_; dsimp only [dZ, dS]) | ((with_reducible show wpList _ _ _ ({ dst := _, op := Op.store 37 _ _, type := _, pos := _, after := _, guard := none } :: _) _ _); refine wpList_store_mid rfl 37 _ _ rfl _ _ _ rfl rfl (by exact tr) infoInsN (all_oneCell_toArray (by simp [Value.oneCell'])) ?_; (try dsimp only [Act.put])) | (go_at_call 15; refine HCu.out.mono ?_; rintro e w5 ⟨A5, n5, c5, rfl, _, hb5⟩; have HB5 := Lib.hid hb5; clear hb5))
  refine wp_hid2 ?_
  intro W5 HW5
  have HE5 : Hid (Ext W4 W5) := by have h := HB5.out; have h2 := h.size; rw [Hid, HW5.out]; exact xts
  have TI : W5.rangeAt w5.heap.size 0 [Value.int .i64 41, Value.int .i64 0, Value.int .i64 0, Value.int .i64 0, .slice A5 n5 c5] := by
    rw [HW5.out]; exact World.rangeAt_setCells_same _ _ 0 _ (by show World.there _ _ 0 5; exact there_new rfl rfl)
  have HRI := Lib.hid TI
  have HCl := Lib.hid (cloneIns (some ⟨w.heap.size, 0, none⟩) 4 4 (codeCells codeA) W5 (fun h => by cases h) ⟨rfl, fun _ => ⟨_, _, rfl, fun j u hj => by have := ((HE3.out.trans HE4.out).trans HE5.out).cell (HCs.out j u hj); exact this⟩⟩ codeA_one (by decide))
  clear HW5 TI TU p40 p41 p42 HCu HB5
  go_upto_region 7 with (go_at_call 43; refine HCl.out.mono ?_; rintro e w6 ⟨v6, rfl, hown6, hb6⟩; obtain ⟨g6, c6, rfl, hg6⟩ := own_form hown6 (by decide); have HO6 := Lib.hid hown6; have HB6 := Lib.hid hb6; have m1 : w6.cell? ⟨g6, 7, none⟩ = some (Value.int .i64 7) := hown6.cellAt 7 (by decide); have m2 : w6.cell? ⟨g6, 10, none⟩ = some (Value.int .i64 5) := hown6.cellAt 10 (by decide); have z1 := hown6.frozenAt 7; have z2 := hown6.frozenAt 10; clear hown6 hb6)
  go_upto_region 9 with fail
  refine wp_hid2 ?_
  intro W8 HW8
  have hg6W : W5.heap.size ≤ g6 := (HO6.out.lt g6 rfl).1
  have hg6l : g6 < w6.heap.size := (HO6.out.lt g6 rfl).2
  have HE8 : Hid (Ext W5 W8) := by have h := HB6.out; have h2 := h.size; rw [Hid, HW8.out]; exact xt
  obtain ⟨b1, b2⟩ := HO6.out.stored 7 (Value.int .i64 0)
  obtain ⟨b3, b4⟩ := b1.stored 10 (Value.int .i64 6)
  rw [codeB_of] at b3
  have C8 : W8.rangeAt g6 0 (codeCells codeB) := fun j v hj => by
    have h1 := b3.cellAt j (by have := (List.getElem?_eq_some_iff.1 hj).1; exact this)
    rw [HW8.out, Nat.zero_add, World.cell?_alloc_lt, World.cell?_alloc_lt, h1, hj]
    · simpa using hg6l
    · simp; omega
  have hc6 : 4 ≤ c6 := by
    obtain ⟨A9, c9, e9, h9, _⟩ := ownsRow_shape HO6.out
    injection e9 with q1 q2 q3
    omega
  have F8 : W8.rangeAt w6.heap.size 0 [.string mainN, Value.int .i64 0, Value.int .i64 2, Value.int .i64 0, .bool false, .slice (some ⟨g6, 0, none⟩) 4 c6] := by rw [HW8.out]; exact range_old (range_new (by simp)) _
  have Q8 : W8.rangeAt (w6.heap.size + 1) 0 [.slice (some ⟨w6.heap.size, 0, none⟩) 1 1, .slice none 0 0, .slice none 0 0] := by rw [HW8.out]; exact range_new (by simp)
  have q0 : W8.cell? ⟨w6.heap.size + 1, 0, none⟩ = some (.slice (some ⟨w6.heap.size, 0, none⟩) 1 1) := Q8 0 _ rfl
  have q1 : W8.cell? ⟨w6.heap.size + 1, 1, none⟩ = some (.slice none 0 0) := Q8 1 _ rfl
  have q2 : W8.cell? ⟨w6.heap.size + 1, 2, none⟩ = some (.slice none 0 0) := Q8 2 _ rfl
  have HPB := Lib.hid (rprg_one (xs := codeB) (regs := 2) (c := c6) C8 F8 hc6 (by decide) ⟨by decide, by decide⟩ codeB_in (by decide))
  have HE38 : Hid (Ext W3 W8) := (HE4.out.trans HE5.out).trans HE8.out
  have T8 := range_ext HR3.out HE38.out
  have HA2 := Lib.hid (Advance_any prgB (tskAt 0 0 0) _ _ W8 HPB.out (HT33.out.mono HE38.out))
  unfold AdvPost stopA at HA2
  rw [awk_div] at HA2
  dsimp only at HA2
  clear HW8 b1 b2 b3 b4 C8 F8 Q8 m1 m2 z1 z2 hg6W hg6l hc6 HCl HO6 HB6
  go_upto_region 10 with (first | ((first | ((with_reducible show Code.wp _ (Code.region _ (List.toArray ({ dst := _, op := Op.load 32 _, type := _, pos := _, after := _, guard := none } :: _)) false) _ _ _); refine wp_region_lit ?_) | (with_reducible show wpList _ _ _ ({ dst := _, op := Op.load 32 _, type := _, pos := _, after := _, guard := none } :: _) _ _)); refine wpList_load_mid rfl 32 _ rfl _ _ rfl _ _ (by exact rg) Tryz.underlying32 rfl (by exact infoTsk) ?_; dsimp only [dZ, dS]) | ((with_reducible show wpList _ _ _ ({ dst := _, op := Op.store 32 _ _, type := _, pos := _, after := _, guard := none } :: _) _ _); refine wpList_store_mid rfl 32 _ _ rfl _ _ _ rfl rfl (by exact tr) infoTsk (all_oneCell_toArray (by simp [Value.oneCell'])) ?_; (try dsimp only [Act.put])) | ((with_reducible show wpList _ _ _ ({ dst := _, op := Op.store 49 _ _, type := _, pos := _, after := _, guard := none } :: _) _ _); refine wpList_store_mid rfl 49 _ _ rfl _ _ _ rfl rfl (by exact tr) infoStop (all_oneCell_toArray (by simp [Value.oneCell'])) ?_; (try dsimp only [Act.put])) | (go_at_call 24; refine HA2.out.mono ?_; rintro e w9 ⟨V9, rfl, hT9, hb9⟩; have HB9 := Lib.hid hb9; obtain ⟨gF9, oF9, cF9, Ab9, cb9, Ar9, cr9, rfl, hc91, _, _⟩ := tsk_parts hT9; have HC91 := Lib.hid hc91; unfold tskCells; clear hT9 hb9 hc91))
  refine wp_hid2 ?_
  intro W9 HW9
  have HE9 : Hid (Ext W8 W9) := by have h := HB9.out; have h2 := h.size; rw [Hid, HW9.out]; exact xts
  have E99 : Ext w9 W9 := by rw [HW9.out]; exact xts
  have TV : W9.rangeAt w9.heap.size 0 [Value.int .i64 0, Value.int .i64 0, Value.int .i64 0, Value.int .i64 1, Value.int .i64 0, Value.int .i64 0, .bool false, .slice (some ⟨gF9, oF9, none⟩) 1 cF9, .slice Ab9 1 cb9, Value.int .i64 0, .bool false, Value.int .i64 0, Value.int .i64 0, Value.int .i64 0] := by
    rw [HW9.out]; exact (ranges_two (by omega) (by show World.there _ _ 0 14; exact there_old (there_new rfl rfl) _) (by show World.there _ _ 0 3; exact there_new (by simp) rfl)).1
  have TS9 : W9.rangeAt (w9.heap.size + 1) 0 [Value.int .i64 3, Value.int .i64 6, Value.int .i64 0] := by
    rw [HW9.out]; exact (ranges_two (by omega) (by show World.there _ _ 0 14; exact there_old (there_new rfl rfl) _) (by show World.there _ _ 0 3; exact there_new (by simp) rfl)).2
  have HE49 : Hid (Ext W4 W9) := (HE5.out.trans HE8.out).trans HE9.out
  have HE59 : Hid (Ext W5 W9) := HE8.out.trans HE9.out
  have u7 : W9.cell? ⟨w4.heap.size, 7, none⟩ = some (.slice (some ⟨gF4, oF4, none⟩) 1 cF4) := HE49.out.cell (HRU.out 7 _ rfl)
  have v7 : W9.cell? ⟨w9.heap.size, 7, none⟩ = some (.slice (some ⟨gF9, oF9, none⟩) 1 cF9) := TV 7 _ rfl
  have i0 : W9.cell? ⟨w5.heap.size, 0, none⟩ = some (Value.int .i64 41) := HE59.out.cell (HRI.out 0 _ rfl)
  have s0 : W9.cell? ⟨w4.heap.size + 1, 0, none⟩ = some (Value.int .i64 1) := HE49.out.cell (HRS.out 0 _ rfl)
  have s1 : W9.cell? ⟨w4.heap.size + 1, 1, none⟩ = some (Value.int .i64 0) := HE49.out.cell (HRS.out 1 _ rfl)
  have s2 : W9.cell? ⟨w4.heap.size + 1, 2, none⟩ = some (Value.int .i64 0) := HE49.out.cell (HRS.out 2 _ rfl)
  have r0 : W9.cell? ⟨w9.heap.size + 1, 0, none⟩ = some (Value.int .i64 3) := TS9 0 _ rfl
  have r1 : W9.cell? ⟨w9.heap.size + 1, 1, none⟩ = some (Value.int .i64 6) := TS9 1 _ rfl
  have r2 : W9.cell? ⟨w9.heap.size + 1, 2, none⟩ = some (Value.int .i64 0) := TS9 2 _ rfl
  have f1 : W9.cell? ⟨gF4, oF4 + 1, none⟩ = some (Value.int .i64 3) := HE49.out.cell HC41.out
  have f2 : W9.cell? ⟨gF4, oF4 + 2, none⟩ = some (.slice Ar4 2 cr4) := HE49.out.cell HC42.out
  have f3 : W9.cell? ⟨gF9, oF9 + 1, none⟩ = some (Value.int .i64 2) := E99.cell HC91.out
  have HSI := Lib.hid (SameInts_any Ar4 (some ⟨W9.heap.size, 0, none⟩) 2 2 cr4 2 [42, 7] [42, 7] (W9.alloc (.cells #[Value.int .i64 42, Value.int .i64 7] 3)) (HR4.out.mono RInt.stays (HE49.out.trans ((Ext.refl W9).alloc _))) (RSl.newInts W9 [42, 7] 3 (by decide) (by intro x hx; simp at hx; rcases hx with rfl | rfl <;> exact ⟨by decide, by decide⟩)))
  have heq1 : ∀ w : World, (binOp BinOp.eql 49 (.agg #[Value.int .i64 1, Value.int .i64 0, Value.int .i64 0]) (.agg #[Value.int .i64 1, Value.int .i64 0, Value.int .i64 0])).run Tryz.prog w = .ok (.bool true) w := fun _ => by kernel_rfl
  have heq2 : ∀ w : World, (binOp BinOp.eql 49 (.agg #[Value.int .i64 3, Value.int .i64 6, Value.int .i64 0]) (.agg #[Value.int .i64 3, Value.int .i64 6, Value.int .i64 0])).run Tryz.prog w = .ok (.bool true) w := fun _ => by kernel_rfl
  have HE09 : Hid (Ext w W9) := (HE2.out.trans HE3.out).trans (HE4.out.trans HE49.out)
  have zf4 : gF4 < W9.heap.size := lt_of_cell f1
  have zf9 : gF9 < W9.heap.size := lt_of_cell f3
  have zu : w4.heap.size < W9.heap.size := lt_of_cell u7
  have zs : w4.heap.size + 1 < W9.heap.size := lt_of_cell s0
  have zv : w9.heap.size < W9.heap.size := lt_of_cell v7
  have zr : w9.heap.size + 1 < W9.heap.size := lt_of_cell r0
  clear HW9 TV TS9 T8 q0 q1 q2 HA2 HB9 E99
  go_wp2_with (go_at_call 19; refine HSI.out.mono ?_; rintro e w10 ⟨rfl, hb10⟩; obtain ⟨hc10, hf10, hs10, he10⟩ := Ext.use (w := W9) hb10 xt; clear hb10)
  go_ret
  exact ⟨rfl, HE09.out.trans he10⟩
end Go.Proofs.YtcjjoabofecjmaaGreat

namespace Go.Proofs.YtcjjoabofecjmaaGreat
open Go.RowKit
def skF (f : Frm) : Int × Int × Bool := (f.fn, f.result, f.cleanup)
def skB (b : Blk) : Int × Int × Int × Int := (b.scope, b.depth, b.exit, b.mask)
structure Live (p : Prg) (t : Tsk) : Prop where
  fst : ∀ f, t.frames[0]? = some f → f.cleanup = false → f.fn = t.fn ∧ f.result = -1
  cres : ∀ (i : Nat) f, t.frames[i]? = some f → f.cleanup = true → f.result = -1
  blks : blksB p t.blocks = true
  mask : leastI t ≤ t.mask ∧ t.mask ≤ mostI t
  zero : plainN t = 0 → t.unw = true ∧ t.level = 0
  lvl : t.level ≠ 0 → t.unw = true ∧ 2 ≤ t.level ∧ t.level ≤ t.blocks.length
  unw : t.unw = true → (t.level = 0 → plainN t = 0) ∧ (0 < t.level → (plainN t : Int) = depthAt t (t.level - 1))
  keep : ∀ i, 1 ≤ i → i < keepsN t → keepB p t i = true
  hand : t.unw = true → inHand t = true
theorem sk_get {α β : Type} {g : α → β} {l l' : List α} (h : l'.map g = l.map g) {i : Nat} {x' : α} (hx : l'[i]? = some x') : ∃ x, l[i]? = some x ∧ g x' = g x := by
  have h1 : (l'.map g)[i]? = (l.map g)[i]? := by rw [h]
  rw [List.getElem?_map, List.getElem?_map, hx] at h1
  cases hl : l[i]? with
  | none => rw [hl] at h1; cases h1
  | some x => rw [hl] at h1; injection h1 with h1; exact ⟨x, rfl, h1⟩
theorem sk_len {α β : Type} {g : α → β} {l l' : List α} (h : l'.map g = l.map g) : l'.length = l.length := by
  have := congrArg List.length h
  simpa using this
theorem map_set_same {α β : Type} {g : α → β} {l : List α} {k : Nat} {x y : α} (hx : l[k]? = some x) (hg : g y = g x) : (l.set k y).map g = l.map g := by
  apply List.ext_getElem?
  intro i
  rw [List.getElem?_map, List.getElem?_map, List.getElem?_set]
  split
  · rename_i e
    subst e
    rw [if_pos (List.getElem?_eq_some_iff.1 hx).1, hx]
    simp [hg]
  · rfl
theorem inHand_sk {t t' : Tsk} (h : t'.frames.map skF = t.frames.map skF) : inHand t' = inHand t := by
  have hh : ∀ u : Tsk, inHand u = (match (u.frames.map skF).getLast? with | some s => s.2.2 | none => false) := fun u => by
    unfold inHand
    rw [List.getLast?_map]
    cases u.frames.getLast? <;> rfl
  rw [hh, hh, h]
theorem plainN_sk {t t' : Tsk} (h : t'.frames.map skF = t.frames.map skF) : plainN t' = plainN t := by
  unfold plainN
  rw [inHand_sk h, sk_len h]
theorem keepB_iff {p : Prg} {t : Tsk} {i : Nat} : keepB p t i = true ↔ ∃ b f g x, t.blocks[i]? = some b ∧ b.depth ≤ (plainN t : Int) ∧ t.frames[(b.depth - 1).toNat]? = some f ∧ fnAt p f.fn = some g ∧ (0 ≤ b.exit ∧ b.exit ≤ (g.code.length : Int) - 1) ∧ g.code[b.exit.toNat]? = some x ∧ x.op = 36 := by
  constructor
  · intro h
    unfold keepB at h
    cases hb : t.blocks[i]? with
    | none => rw [hb] at h; cases h
    | some b =>
      rw [hb] at h
      simp only [Bool.and_eq_true, decide_eq_true_eq] at h
      obtain ⟨h1, h2⟩ := h
      cases hf : t.frames[(b.depth - 1).toNat]? with
      | none => rw [hf] at h2; cases h2
      | some f =>
        rw [hf] at h2
        dsimp only at h2
        cases hg : fnAt p f.fn with
        | none => rw [hg] at h2; cases h2
        | some g =>
          rw [hg] at h2
          simp only [Bool.and_eq_true, inB_iff] at h2
          obtain ⟨h3, h4⟩ := h2
          cases hx : g.code[b.exit.toNat]? with
          | none => rw [hx] at h4; cases h4
          | some x => rw [hx] at h4; exact ⟨b, f, g, x, rfl, h1, hf, hg, h3, hx, by simpa using h4⟩
  · rintro ⟨b, f, g, x, hb, h1, hf, hg, h3, hx, h4⟩
    unfold keepB
    rw [hb]
    dsimp only
    rw [hf]
    dsimp only
    rw [hg]
    dsimp only
    rw [hx]
    simp only [Bool.and_eq_true, decide_eq_true_eq, inB_iff]
    exact ⟨h1, h3, by simpa using h4⟩
theorem keepB_mono {p : Prg} {t t' : Tsk} {i : Nat} (h : keepB p t i = true) (hB : t'.blocks.map skB = t.blocks.map skB) (hd : ∀ b, t.blocks[i]? = some b → b.depth ≤ (plainN t' : Int))
    (hF : ∀ b f, t.blocks[i]? = some b → t.frames[(b.depth - 1).toNat]? = some f → ∃ f', t'.frames[(b.depth - 1).toNat]? = some f' ∧ f'.fn = f.fn) : keepB p t' i = true := by
  obtain ⟨b, f, g, x, hb, _, hf, hg, h3, hx, h4⟩ := keepB_iff.1 h
  obtain ⟨b', hb', he⟩ := sk_get hB.symm hb
  obtain ⟨f', hf', hfn⟩ := hF b f hb hf
  simp only [skB, Prod.mk.injEq] at he
  obtain ⟨e1, e2, e3, e4⟩ := he
  exact keepB_iff.2 ⟨b', f', g, x, hb', by rw [← e2]; exact hd b hb, by rw [← e2]; exact hf', by rw [hfn]; exact hg, by rw [← e3]; exact h3, by rw [← e3]; exact hx, h4⟩
theorem depthAt_sk {t t' : Tsk} (h : t'.blocks.map skB = t.blocks.map skB) (k : Int) : depthAt t' k = depthAt t k := by
  unfold depthAt
  cases hb : t'.blocks[k.toNat]? with
  | none =>
    cases hc : t.blocks[k.toNat]? with
    | none => rfl
    | some c => obtain ⟨b, e, _⟩ := sk_get h.symm hc; rw [hb] at e; cases e
  | some b =>
    obtain ⟨c, e, e2⟩ := sk_get h hb
    rw [e]
    simp only [skB, Prod.mk.injEq] at e2
    exact e2.2.1
theorem Live.same {p : Prg} {t t' : Tsk} (l : Live p t) (hF : t'.frames.map skF = t.frames.map skF) (hB : t'.blocks.map skB = t.blocks.map skB) (hb : blksB p t'.blocks = true) (hfn : t'.fn = t.fn) (hu : t'.unw = t.unw) (hl : t'.level = t.level) (hm : leastI t ≤ t'.mask ∧ t'.mask ≤ mostI t) : Live p t' := by
  have e1 := inHand_sk hF
  have e2 := plainN_sk hF
  have e3 : keepsN t' = keepsN t := by unfold keepsN; rw [hu, hl, sk_len hB]
  refine ⟨fun f hf hc => ?_, fun i f hf hc => ?_, hb, by unfold leastI mostI at *; rw [e1]; exact hm, by rw [e2, hu, hl]; exact l.zero, by rw [hu, hl, sk_len hB]; exact l.lvl, ?_, fun i h1 h2 => ?_, by rw [hu, e1]; exact l.hand⟩
  · obtain ⟨x, hx, e⟩ := sk_get hF hf
    simp only [skF, Prod.mk.injEq] at e
    rw [e.1, e.2.1, hfn]
    exact l.fst x hx (by rw [← e.2.2]; exact hc)
  · obtain ⟨x, hx, e⟩ := sk_get hF hf
    simp only [skF, Prod.mk.injEq] at e
    rw [e.2.1]
    exact l.cres i x hx (by rw [← e.2.2]; exact hc)
  · rw [hu, hl, e2, depthAt_sk hB]; exact l.unw
  · have hk := l.keep i h1 (by omega)
    refine keepB_mono hk hB (fun b hb => ?_) (fun b f hb hf => ?_)
    · obtain ⟨b', _, _, _, hb', hd, _⟩ := keepB_iff.1 hk
      rw [hb] at hb'; injection hb' with hb'; subst hb'
      rw [e2]; exact hd
    · obtain ⟨x, hx, e⟩ := sk_get hF.symm hf
      simp only [skF, Prod.mk.injEq] at e
      exact ⟨x, hx, e.1.symm⟩
theorem blk_at {p : Prg} {bs : List Blk} (h : blksB p bs = true) {i : Nat} {b : Blk} (hb : bs[i]? = some b) : b.handlers.length ≤ 8 ∧ (∀ x ∈ b.handlers, hdlB p x = true) ∧ (i = 0 → b.scope = -1 ∧ b.depth = 0 ∧ b.exit = 0 ∧ b.mask = 0) ∧
    (1 ≤ i → ∃ a, bs[i - 1]? = some a ∧ (0 ≤ b.scope ∧ b.scope ≤ 31) ∧ (1 ≤ b.depth ∧ b.depth ≤ 8) ∧ (0 ≤ b.mask ∧ b.mask ≤ 100) ∧ a.scope < b.scope ∧ a.depth ≤ b.depth) := by
  unfold blksB at h
  simp only [Bool.and_eq_true, inB_iff] at h
  have hi := (List.getElem?_eq_some_iff.1 hb).1
  have h2 := allB_iff.1 h.2 i (Nat.zero_le _) (by omega)
  unfold blkB at h2
  rw [hb] at h2
  simp only [Bool.and_eq_true, decide_eq_true_eq, List.all_eq_true] at h2
  obtain ⟨⟨h3, h4⟩, h5⟩ := h2
  refine ⟨h3, h4, fun h0 => ?_, fun h1 => ?_⟩
  · rw [if_pos h0] at h5
    simp only [Bool.and_eq_true, beq_iff_eq] at h5
    exact ⟨h5.1.1.1, h5.1.1.2, h5.1.2, h5.2⟩
  · rw [if_neg (by omega)] at h5
    cases ha : bs[i - 1]? with
    | none => rw [ha] at h5; cases h5
    | some a =>
      rw [ha] at h5
      simp only [Bool.and_eq_true, decide_eq_true_eq, inB_iff] at h5
      exact ⟨a, rfl, h5.1.1.1.1, h5.1.1.1.2, h5.1.1.2, h5.1.2, h5.2⟩
theorem blks_len {p : Prg} {bs : List Blk} (h : blksB p bs = true) : 1 ≤ bs.length ∧ bs.length ≤ 8 := by
  unfold blksB at h
  simp only [Bool.and_eq_true, inB_iff] at h
  omega
theorem blks_same {p : Prg} {bs bs' : List Blk} (h : blksB p bs = true) (hB : bs'.map skB = bs.map skB) (hh : ∀ b ∈ bs', b.handlers.length ≤ 8 ∧ ∀ x ∈ b.handlers, hdlB p x = true) : blksB p bs' = true := by
  have hl := sk_len hB
  have hlen := blks_len h
  unfold blksB
  simp only [Bool.and_eq_true, inB_iff]
  refine ⟨by omega, allB_iff.2 fun i _ hi => ?_⟩
  obtain ⟨b', hb'⟩ : ∃ b, bs'[i]? = some b := ⟨_, List.getElem?_eq_getElem (by omega)⟩
  obtain ⟨b, hb, e⟩ := sk_get hB hb'
  obtain ⟨_, _, h3, h4⟩ := blk_at h hb
  obtain ⟨g1, g2⟩ := hh b' (List.mem_of_getElem? hb')
  simp only [skB, Prod.mk.injEq] at e
  obtain ⟨e1, e2, e3, e4⟩ := e
  unfold blkB
  rw [hb']
  simp only [Bool.and_eq_true, decide_eq_true_eq, List.all_eq_true]
  refine ⟨⟨g1, g2⟩, ?_⟩
  by_cases h0 : i = 0
  · rw [if_pos h0, e1, e2, e3, e4]
    obtain ⟨d1, d2, d3, d4⟩ := h3 h0
    simp [d1, d2, d3, d4]
  · rw [if_neg h0]
    obtain ⟨a, ha, f1, f2, f3, f4, f5⟩ := h4 (by omega)
    obtain ⟨a', ha', e'⟩ := sk_get hB.symm ha
    simp only [skB, Prod.mk.injEq] at e'
    rw [ha', e1, e2, e4]
    simp only [Bool.and_eq_true, decide_eq_true_eq, inB_iff]
    rw [← e'.1, ← e'.2.1]
    exact ⟨⟨⟨⟨f1, f2⟩, f3⟩, f4⟩, f5⟩
theorem depth_mono {p : Prg} {bs : List Blk} (h : blksB p bs = true) {i : Nat} {a : Blk} (ha : bs[i]? = some a) : ∀ (k : Nat) (b : Blk), bs[i + k]? = some b → a.depth ≤ b.depth
  | 0, b, hb => by rw [Nat.add_zero, ha] at hb; injection hb with hb; subst hb; exact Int.le_refl _
  | k + 1, b, hb => by
    obtain ⟨_, _, _, h4⟩ := blk_at h hb
    obtain ⟨c, hc, _, _, _, _, h5⟩ := h4 (by omega)
    have := depth_mono h ha k c hc
    omega
theorem Live.off {p : Prg} {t : Tsk} (l : Live p t) (hi : inHand t = false) : t.unw = false ∧ t.level = 0 := by
  have hu : t.unw = false := by
    cases h : t.unw with
    | false => rfl
    | true => rw [l.hand h] at hi; cases hi
  refine ⟨hu, ?_⟩
  rcases Decidable.em (t.level = 0) with h | h
  · exact h
  · have := (l.lvl h).1; rw [hu] at this; cases this
theorem inHand_snoc {t : Tsk} {l : List Frm} {x : Frm} (h : t.frames = l ++ [x]) : inHand t = x.cleanup := by
  unfold inHand; rw [h, List.getLast?_concat]
theorem Live.push {p : Prg} {t : Tsk} (l : Live p t) (hi : inHand t = false) (hpos : 1 ≤ t.frames.length) {nw : Frm} (hc : nw.cleanup = false) : Live p { t with frames := t.frames ++ [nw] } := by
  obtain ⟨hu, hl⟩ := l.off hi
  have e1 : inHand { t with frames := t.frames ++ [nw] } = false := by rw [inHand_snoc rfl, hc]
  have e2 : plainN { t with frames := t.frames ++ [nw] } = t.frames.length + 1 := by unfold plainN; rw [e1]; simp
  have e3 : plainN t = t.frames.length := by unfold plainN; rw [hi]; rfl
  have hm := l.mask
  refine ⟨fun f hf hfc => ?_, fun i f hf hfc => ?_, l.blks, by unfold leastI mostI at *; rw [e1]; rw [hi] at hm; exact hm, fun h0 => by rw [e2] at h0; omega, l.lvl, fun h => by exact absurd (show t.unw = true from h) (by rw [hu]; decide), fun i h1 h2 => ?_, fun h => by exact absurd (show t.unw = true from h) (by rw [hu]; decide)⟩
  · rcases snoc_cases hf with ⟨_, hf⟩ | ⟨h0, rfl⟩
    · exact l.fst f hf hfc
    · omega
  · rcases snoc_cases hf with ⟨_, hf⟩ | ⟨h0, rfl⟩
    · exact l.cres i f hf hfc
    · rw [hc] at hfc; cases hfc
  · have hk := l.keep i h1 h2
    refine keepB_mono hk rfl (fun b hb => ?_) (fun b f hb hf => ?_)
    · obtain ⟨b', _, _, _, hb', hd, _⟩ := keepB_iff.1 hk
      rw [hb] at hb'; injection hb' with hb'; subst hb'
      rw [e2]; omega
    · have hlt := (List.getElem?_eq_some_iff.1 hf).1
      exact ⟨f, by show (t.frames ++ [nw])[_]? = _; rw [List.getElem?_append_left hlt]; exact hf, rfl⟩
theorem pop_index {d z : Int} {N : Nat} (h1 : 1 ≤ d) (h2 : d ≤ z) (h3 : z ≤ (N : Int)) (h4 : z ≠ (N : Int)) : (d - 1).toNat < N - 1 := by omega
theorem Live.pop {p : Prg} {t : Tsk} (l : Live p t) (hr : RunOk p t) (hi : inHand t = false) (h2 : 2 ≤ t.frames.length) (hb : ∀ b, lastB t = some b → b.depth ≠ t.frames.length) : Live p { t with frames := t.frames.take (t.frames.length - 1) } := by
  obtain ⟨hu, hl⟩ := l.off hi
  have hlen : (t.frames.take (t.frames.length - 1)).length = t.frames.length - 1 := by rw [List.length_take]; omega
  have hget : ∀ (i : Nat) (x : Frm), (t.frames.take (t.frames.length - 1))[i]? = some x → i < t.frames.length - 1 ∧ t.frames[i]? = some x := fun i x hx => by
    rw [List.getElem?_take] at hx
    split at hx
    · exact ⟨by assumption, hx⟩
    · cases hx
  have e1 : inHand { t with frames := t.frames.take (t.frames.length - 1) } = false := by
    obtain ⟨x, hx⟩ : ∃ x, (t.frames.take (t.frames.length - 1))[(t.frames.take (t.frames.length - 1)).length - 1]? = some x := ⟨_, List.getElem?_eq_getElem (by omega)⟩
    rw [inHand_last (t := { t with frames := t.frames.take (t.frames.length - 1) }) hx]
    obtain ⟨h3, h4⟩ := hget _ _ hx
    cases hc : x.cleanup with
    | false => rfl
    | true => have := hr.cl _ x h4 hc; omega
  have e2 : plainN { t with frames := t.frames.take (t.frames.length - 1) } = t.frames.length - 1 := by unfold plainN; rw [e1]; exact hlen
  have e3 : plainN t = t.frames.length := by unfold plainN; rw [hi]; rfl
  have hm := l.mask
  refine ⟨fun f hf hfc => l.fst f (hget _ _ hf).2 hfc, fun i f hf hfc => l.cres i f (hget _ _ hf).2 hfc, l.blks, by unfold leastI mostI at *; rw [e1]; rw [hi] at hm; exact hm, fun h0 => by rw [e2] at h0; omega, l.lvl, fun h => by exact absurd (show t.unw = true from h) (by rw [hu]; decide), fun i h1 h3 => ?_, fun h => by exact absurd (show t.unw = true from h) (by rw [hu]; decide)⟩
  have hkn : keepsN t = t.blocks.length := by unfold keepsN; rw [hu]; rfl
  have h3' : i < t.blocks.length := by rw [← hkn]; exact h3
  clear h3
  have hk := l.keep i h1 (by rw [hkn]; exact h3')
  obtain ⟨b, hbi⟩ : ∃ b, t.blocks[i]? = some b := ⟨_, List.getElem?_eq_getElem h3'⟩
  obtain ⟨z, hz⟩ : ∃ z, t.blocks[t.blocks.length - 1]? = some z := ⟨_, List.getElem?_eq_getElem (by omega)⟩
  have hne := hb z hz
  obtain ⟨z', _, _, _, hz', hdz, _⟩ := keepB_iff.1 (l.keep (t.blocks.length - 1) (by clear hm e2; omega) (by rw [hkn]; clear hm e2; omega))
  rw [hz] at hz'; injection hz' with hz'; subst hz'
  have hdm := depth_mono l.blks hbi (t.blocks.length - 1 - i) z (by rw [Nat.add_sub_cancel' (Nat.le_sub_one_of_lt h3')]; exact hz)
  obtain ⟨_, _, _, hb4⟩ := blk_at l.blks hbi
  obtain ⟨_, _, _, hbd, _⟩ := hb4 h1
  refine keepB_mono hk rfl (fun b' hb' => ?_) (fun b' f hb' hf => ?_)
  · rw [hbi] at hb'; injection hb' with hb'; subst hb'
    rw [e2]; omega
  · rw [hbi] at hb'; injection hb' with hb'; subst hb'
    refine ⟨f, ?_, rfl⟩
    show (t.frames.take (t.frames.length - 1))[_]? = _
    rw [List.getElem?_take, if_pos (pop_index hbd.1 hdm (by rw [e3] at hdz; exact hdz) hne)]
    exact hf
theorem frm_at {p : Prg} {t : Tsk} (h : allB (frmB p t) t.frames.length 0 = true) {i : Nat} {f : Frm} (hf : t.frames[i]? = some f) : (f.cleanup = true → f.result = -1) ∧ (f.cleanup = false → i = 0 → f.fn = t.fn ∧ f.result = -1) := by
  have h2 := allB_iff.1 h i (Nat.zero_le _) (by have := (List.getElem?_eq_some_iff.1 hf).1; omega)
  unfold frmB at h2
  rw [hf] at h2
  dsimp only at h2
  cases hfn : fnAt p f.fn with
  | none => rw [hfn] at h2; cases h2
  | some g =>
    rw [hfn] at h2
    simp only [Bool.and_eq_true] at h2
    obtain ⟨_, a5⟩ := h2
    refine ⟨fun hc => ?_, fun hc h0 => ?_⟩
    · rw [if_pos hc] at a5
      simp only [Bool.and_eq_true, beq_iff_eq] at a5
      exact a5.1
    · rw [if_neg (by rw [hc]; decide), if_pos h0] at a5
      simp only [Bool.and_eq_true, beq_iff_eq] at a5
      exact a5
theorem live_of {p : Prg} {t : Tsk} (h : livB p t = true) (hh : t.unw = true → inHand t = true) : Live p t := by
  unfold livB at h
  simp only [Bool.and_eq_true] at h
  obtain ⟨⟨⟨⟨⟨⟨⟨hb, hm⟩, hp⟩, h4⟩, h5⟩, h6⟩, hfr⟩, hk⟩ := h
  refine ⟨fun f hf hc => (frm_at hfr hf).2 hc rfl, fun i f hf hc => (frm_at hfr hf).1 hc, hb, inB_iff.1 hm, fun h0 => ?_, fun hl => ?_, fun hu => ⟨fun hl => ?_, fun hl => ?_⟩, fun i h1 h2 => ?_, hh⟩
  · rw [h0] at h4
    simp at h4
    exact h4
  · cases hu : t.unw with
    | false => rw [hu] at h5; simp [hl] at h5
    | true =>
      rw [hu] at h5
      simp only [Bool.not_true, Bool.false_or, Bool.not_eq_true', Bool.and_eq_false_iff, bne_eq_false_iff_eq, Bool.not_eq_false'] at h5
      rcases h5 with h5 | h5
      · exact absurd h5 hl
      · rw [inB_iff] at h5; exact ⟨rfl, by omega, by omega⟩
  · rw [hu, hl] at h6
    simp at h6
    omega
  · rw [hu] at h6
    simp only [Bool.true_and, Bool.not_eq_true', Bool.or_eq_false_iff, Bool.and_eq_false_iff, decide_eq_false_iff_not, bne_eq_false_iff_eq] at h6
    rcases h6.2 with h7 | h7
    · exact absurd hl h7
    · exact h7
  · exact allB_iff.1 hk i h1 (by omega)
theorem liv_of {p : Prg} {t : Tsk} (r : RunOk p t) (l : Live p t) : livB p t = true := by
  have hpos := r.pos
  obtain ⟨f0, hf0⟩ := r.top
  have hin := inHand_top hf0
  unfold livB
  simp only [Bool.and_eq_true]
  refine ⟨⟨⟨⟨⟨⟨⟨l.blks, inB_iff.2 l.mask⟩, ?_⟩, ?_⟩, ?_⟩, ?_⟩, allB_iff.2 fun i _ hi => ?_⟩, allB_iff.2 fun i h1 h2 => l.keep i h1 (by omega)⟩
  · rw [decide_eq_true_eq]
    unfold plainN
    split
    · have := r.len; omega
    · rename_i hn
      exact r.len8 f0 hf0 (by rw [← hin]; simpa using hn)
  · simp only [Bool.not_eq_true', Bool.and_eq_false_iff, decide_eq_false_iff_not, Bool.or_eq_false_iff, Bool.not_eq_false', bne_eq_false_iff_eq]
    rcases Decidable.em (plainN t = 0) with h | h
    · exact .inr (l.zero h)
    · exact .inl h
  · simp only [Bool.not_eq_true', Bool.and_eq_false_iff, Bool.or_eq_false_iff, Bool.not_eq_false', bne_eq_false_iff_eq]
    rcases Decidable.em (t.level = 0) with h | h
    · exact .inl h
    · obtain ⟨a, b, c⟩ := l.lvl h
      exact .inr ⟨a, inB_iff.2 ⟨b, c⟩⟩
  · simp only [Bool.not_eq_true', Bool.and_eq_false_iff, Bool.or_eq_false_iff, decide_eq_false_iff_not, bne_eq_false_iff_eq, beq_eq_false_iff_ne]
    cases hu : t.unw with
    | false => exact .inl rfl
    | true =>
      obtain ⟨a, b⟩ := l.unw hu
      refine .inr ⟨?_, ?_⟩
      · rcases Decidable.em (t.level = 0) with h | h
        · exact .inr (by have := a h; omega)
        · exact .inl h
      · rcases Decidable.em (0 < t.level) with h | h
        · exact .inr (b h)
        · exact .inl h
  · obtain ⟨f, hf⟩ : ∃ f, t.frames[i]? = some f := ⟨_, List.getElem?_eq_getElem (by omega)⟩
    obtain ⟨g, hg⟩ := r.fr i f hf
    unfold frmB
    rw [hf]
    dsimp only
    rw [hg.fn]
    simp only [Bool.and_eq_true, inB_iff, beq_iff_eq, List.all_eq_true]
    refine ⟨⟨⟨⟨hg.regs, hg.num⟩, hg.pc⟩, hg.cl⟩, ?_⟩
    cases hc : f.cleanup with
    | true =>
      rw [if_pos rfl]
      simp only [Bool.and_eq_true, beq_iff_eq]
      exact ⟨l.cres i f hf hc, r.cl i f hf hc⟩
    | false =>
      rw [if_neg (by decide)]
      rcases Decidable.em (i = 0) with h0 | h0
      · rw [if_pos h0]
        subst h0
        simp only [Bool.and_eq_true, beq_iff_eq]
        exact l.fst f hf hc
      · rw [if_neg h0]
        obtain ⟨h, hh⟩ : ∃ h, t.frames[i - 1]? = some h := ⟨_, List.getElem?_eq_getElem (by omega)⟩
        obtain ⟨k, hk⟩ := r.fr _ h hh
        rw [hh]
        dsimp only
        rw [hk.fn]
        dsimp only
        rw [inB_iff]
        have h3 := r.res (i - 1) f h (by rw [show i - 1 + 1 = i by omega]; exact hf) hh hc
        have h4 := hk.regs
        unfold InF at h3
        omega
end Go.Proofs.YtcjjoabofecjmaaGreat

namespace Go.Proofs.YtcjjoabofecjmaaGreat
open Go.RowKit
theorem live_set {p : Prg} {t : Tsk} (l : Live p t) {f f' : Frm} (hf : topF t = some f) (hs : skF f' = skF f) {m : Int} (hm : leastI t ≤ m ∧ m ≤ mostI t) : Live p { setTop t f' with mask := m } :=
  l.same (map_set_same hf hs) rfl l.blks rfl rfl rfl hm
theorem live_set' {p : Prg} {t : Tsk} (l : Live p t) {f f' : Frm} (hf : topF t = some f) (hs : skF f' = skF f) : Live p (setTop t f') := live_set l hf hs l.mask
theorem live_write {p : Prg} {t : Tsk} (l : Live p t) {f : Frm} (hf : topF t = some f) {i v : Int} (hz : (writeS t f i v).2.kind = 0) : Live p (writeS t f i v).1 := by
  unfold writeS at hz ⊢
  split
  · exact live_set' l hf rfl
  · rename_i h; rw [if_neg h] at hz; cases hz
theorem live_call {p : Prg} {t : Tsk} (l : Live p t) (r : RunOk p t) {f : Frm} (hf : topF t = some f) (hcl : f.cleanup = false) {x : Ins} (hz : (callS p t f x).2.kind = 0) : Live p (callS p t f x).1 := by
  unfold callS at hz ⊢
  split
  · rename_i h; rw [if_pos h] at hz; cases hz
  rename_i h
  rw [if_neg h] at hz
  cases hk : fnAt p x.b with
  | none => rw [hk] at hz; cases hz
  | some k =>
    dsimp only
    have h0 := live_set' l hf (f' := { f with pc := f.pc + 1 }) rfl
    have hpos := r.pos
    refine h0.push (nw := ⟨x.b, 0, regsOf k.regs.toNat (argsOf f x.args), x.a, false⟩) ?_ ?_ rfl
    · rw [inHand_sk (t := t) (t' := setTop t { f with pc := f.pc + 1 }) (map_set_same hf rfl), inHand_top hf]; exact hcl
    · show 1 ≤ List.length (List.set ..)
      rw [List.length_set]; exact hpos
theorem live_give {p : Prg} {t : Tsk} (l : Live p t) (r : RunOk p t) {f : Frm} (hf : topF t = some f) {v : Int} (hz : (giveS t f v).2.kind = 0) : Live p (giveS t f v).1 := by
  have hpos := r.pos
  unfold giveS at hz ⊢
  by_cases hcl : f.cleanup = true
  · rw [if_pos hcl] at hz; cases hz
  rw [if_neg hcl] at hz ⊢
  by_cases h1 : t.frames.length = 1
  · rw [if_pos h1] at hz; cases hz
  rw [if_neg h1] at hz ⊢
  obtain ⟨b, hb⟩ : ∃ b, lastB t = some b := ⟨_, List.getElem?_eq_getElem (show t.blocks.length - 1 < t.blocks.length by have := r.bl; omega)⟩
  obtain ⟨y, hy⟩ : ∃ y, t.frames[t.frames.length - 2]? = some y := ⟨_, List.getElem?_eq_getElem (by omega)⟩
  rw [hb, hy] at hz ⊢
  dsimp only at hz ⊢
  split
  · rename_i h; rw [if_pos h] at hz; cases hz
  rename_i hd
  have hin : inHand t = false := by rw [inHand_top hf]; simpa using hcl
  have h0 := l.pop r hin (by omega) (fun b' hb' => by rw [hb] at hb'; injection hb' with hb'; subst hb'; exact hd)
  have hsk : ((t.frames.take (t.frames.length - 1)).set (t.frames.length - 2) { y with regs := y.regs.set f.result.toNat v }).map skF = (t.frames.take (t.frames.length - 1)).map skF :=
    map_set_same (x := y) (by rw [List.getElem?_take, if_pos (by omega)]; exact hy) rfl
  exact h0.same hsk rfl h0.blks rfl rfl rfl h0.mask
theorem live_defer {p : Prg} {t : Tsk} (l : Live p t) {f : Frm} {g k : Fnc} (hf : topF t = some f) (hg : FrOk p f g) {x : Ins} (hk : fnAt p x.b = some k) (hkc : k.cleanup = true) (hal : (x.args.length : Int) = k.params) (har : ∀ a ∈ x.args, 0 ≤ a ∧ a < g.regs) (hz : (deferS t f x).2.kind = 0) : Live p (deferS t f x).1 := by
  unfold deferS at hz ⊢
  cases hb : lastB t with
  | none => rw [hb] at hz; cases hz
  | some b =>
    rw [hb] at hz
    dsimp only at hz ⊢
    split
    · rename_i h; rw [if_pos h] at hz; cases hz
    rename_i h8
    have hB : (t.blocks.set (t.blocks.length - 1) { b with handlers := b.handlers ++ [⟨x.b, argsOf f x.args⟩] }).map skB = t.blocks.map skB := map_set_same hb rfl
    have hh : hdlB p ⟨x.b, argsOf f x.args⟩ = true := by
      unfold hdlB
      dsimp only
      rw [hk]
      simp only [Bool.and_eq_true, beq_iff_eq, List.all_eq_true]
      refine ⟨⟨hkc, by unfold argsOf; rw [List.length_map]; exact hal⟩, fun z hz => ?_⟩
      unfold argsOf at hz
      obtain ⟨a, ha, rfl⟩ := List.mem_map.1 hz
      exact regS_num hg (har a ha)
    refine l.same (t' := { t with frames := t.frames.set (t.frames.length - 1) { f with pc := f.pc + 1 }, blocks := t.blocks.set (t.blocks.length - 1) { b with handlers := b.handlers ++ [⟨x.b, argsOf f x.args⟩] } }) (map_set_same hf rfl) hB (blks_same l.blks hB fun c hc => ?_) rfl rfl rfl l.mask
    have hat : ∀ c ∈ t.blocks, c.handlers.length ≤ 8 ∧ ∀ z ∈ c.handlers, hdlB p z = true := fun c hc => by
      obtain ⟨i, hi, rfl⟩ := List.getElem_of_mem hc
      obtain ⟨h1, h2, _⟩ := blk_at l.blks (List.getElem?_eq_getElem hi)
      exact ⟨h1, h2⟩
    rcases List.mem_or_eq_of_mem_set hc with hc | rfl
    · exact hat c hc
    · obtain ⟨h1, h2⟩ := hat b (List.mem_of_getElem? hb)
      refine ⟨by show (b.handlers ++ [_]).length ≤ 8; rw [List.length_append, List.length_singleton]; omega, fun z hz => ?_⟩
      rcases List.mem_append.1 hz with hz | hz
      · exact h2 z hz
      · rw [List.mem_singleton.1 hz]; exact hh
def Halt (t : Tsk) (r : Tsk × Stp) : Prop := (∃ v, r = (t, ⟨2, 0, v⟩)) ∨ (∃ q, q ≠ 0 ∧ r = (t, ⟨3, q, 0⟩)) ∨ (r = (popT t, ⟨4, 0, 0⟩) ∧ inHand t = true)
theorem halt_fail (t : Tsk) {q : Int} (h : q ≠ 0) : Halt t (failT t q) := .inr (.inl ⟨q, h, rfl⟩)
theorem halt_write {t : Tsk} {f : Frm} {i v : Int} (hz : (writeS t f i v).2.kind ≠ 0) : Halt t (writeS t f i v) := by
  unfold writeS at hz ⊢
  split
  · rename_i h; rw [if_pos h] at hz; exact absurd rfl hz
  · exact halt_fail t (by decide)
theorem halt_give {t : Tsk} {f : Frm} (hf : topF t = some f) {v : Int} (hz : (giveS t f v).2.kind ≠ 0) : Halt t (giveS t f v) := by
  unfold giveS at hz ⊢
  by_cases hcl : f.cleanup = true
  · rw [if_pos hcl]; exact .inr (.inr ⟨rfl, by rw [inHand_top hf]; exact hcl⟩)
  rw [if_neg hcl] at hz ⊢
  by_cases h1 : t.frames.length = 1
  · rw [if_pos h1]; exact .inl ⟨v, rfl⟩
  rw [if_neg h1] at hz ⊢
  split
  · rename_i b h e1 e2
    rw [e1, e2] at hz
    dsimp only at hz
    split
    · exact halt_fail t (by decide)
    · rename_i hd; rw [if_neg hd] at hz; exact absurd rfl hz
  · exact halt_fail t (by decide)
def BlkExt (t t' : Tsk) : Prop := t'.blocks.length = t.blocks.length ∧ ∀ (i : Nat) b, t.blocks[i]? = some b → ∃ c, t'.blocks[i]? = some c ∧ skB c = skB b ∧ (∃ l, c.handlers = b.handlers ++ l) ∧ (i + 1 < t.blocks.length → c.handlers = b.handlers)
theorem BlkExt.of_eq {t t' : Tsk} (h : t'.blocks = t.blocks) : BlkExt t t' := ⟨by rw [h], fun i b hb => ⟨b, by rw [h]; exact hb, rfl, ⟨[], by simp⟩, fun _ => rfl⟩⟩
theorem BlkExt.trans {a b c : Tsk} (h : BlkExt a b) (k : BlkExt b c) : BlkExt a c := by
  refine ⟨k.1.trans h.1, fun i x hx => ?_⟩
  obtain ⟨y, hy, e1, ⟨l, e2⟩, e3⟩ := h.2 i x hx
  obtain ⟨z, hz, d1, ⟨m, d2⟩, d3⟩ := k.2 i y hy
  exact ⟨z, hz, d1.trans e1, ⟨l ++ m, by rw [d2, e2, List.append_assoc]⟩, fun hi => (d3 (by rw [h.1]; exact hi)).trans (e3 hi)⟩
theorem give_blocks (t : Tsk) (f : Frm) (v : Int) : (giveS t f v).1.blocks = t.blocks := by
  unfold giveS
  split
  · rfl
  split
  · rfl
  split
  · split <;> rfl
  · rfl
theorem write_blocks (t : Tsk) (f : Frm) (i v : Int) : (writeS t f i v).1.blocks = t.blocks := by
  unfold writeS; split <;> rfl
theorem call_blocks (p : Prg) (t : Tsk) (f : Frm) (x : Ins) : (callS p t f x).1.blocks = t.blocks := by
  unfold callS
  split
  · rfl
  split <;> rfl
theorem defer_blocks (t : Tsk) (f : Frm) (x : Ins) : BlkExt t (deferS t f x).1 := by
  unfold deferS
  cases hb : lastB t with
  | none => exact .of_eq rfl
  | some b =>
    dsimp only
    split
    · exact .of_eq rfl
    have hlt := (List.getElem?_eq_some_iff.1 (show t.blocks[t.blocks.length - 1]? = some b from hb)).1
    refine ⟨by show List.length (List.set ..) = _; rw [List.length_set], fun i c hc => ?_⟩
    show ∃ d, (t.blocks.set (t.blocks.length - 1) { b with handlers := b.handlers ++ [⟨x.b, argsOf f x.args⟩] })[i]? = some d ∧ _
    rw [List.getElem?_set]
    split
    · rename_i e
      subst e
      rw [show t.blocks[t.blocks.length - 1]? = some b from hb] at hc
      injection hc with hc
      subst hc
      (try rw [if_pos hlt])
      exact ⟨_, rfl, rfl, ⟨_, rfl⟩, fun h => by omega⟩
    · exact ⟨c, hc, rfl, ⟨[], by simp⟩, fun _ => rfl⟩
structure StepOk (p : Prg) (t : Tsk) (r : Tsk × Stp) : Prop where
  live : r.2.kind = 0 → Live p r.1
  halt : r.2.kind ≠ 0 → Halt t r
  blk : BlkExt t r.1
theorem step_fail {p : Prg} {t : Tsk} {q : Int} (h : q ≠ 0) : StepOk p t (failT t q) := ⟨fun h0 => absurd (show (3 : Int) = 0 from h0) (by decide), fun _ => halt_fail t h, .of_eq rfl⟩
theorem step_jump {p : Prg} {t : Tsk} (l : Live p t) {f : Frm} (hf : topF t = some f) {pc : Int} : StepOk p t (jumpS t f pc) := ⟨fun _ => live_set' l hf rfl, fun h => absurd rfl h, .of_eq rfl⟩
theorem step_write {p : Prg} {t : Tsk} (l : Live p t) {f : Frm} (hf : topF t = some f) {i v : Int} : StepOk p t (writeS t f i v) := ⟨live_write l hf, halt_write, .of_eq (write_blocks ..)⟩
theorem step_give {p : Prg} {t : Tsk} (l : Live p t) (r : RunOk p t) {f : Frm} (hf : topF t = some f) {v : Int} : StepOk p t (giveS t f v) := ⟨live_give l r hf, halt_give hf, .of_eq (give_blocks ..)⟩
theorem exec_step {p : Prg} {t : Tsk} (hc : checkS p = 0) (r : RunOk p t) (l : Live p t) {f : Frm} {g : Fnc} {x : Ins} (hf : topF t = some f) (hg : FrOk p f g) (hx : g.code[f.pc.toNat]? = some x) (hv : visS x.op = false) : StepOk p t (execS p t f x) := by
  have hfn := fn_ok hc (fnAt_mem hg.fn)
  have hi := ins_ok (hfn.ins x (List.mem_of_getElem? hx))
  have hop := local_op hi.shape hv
  have hno : forbS x.op = true → f.cleanup = false := fun hfb => by
    cases hcf : f.cleanup with
    | false => rfl
    | true =>
      have := hi.forb (by rw [← hg.cl]; exact hcf)
      rw [this] at hfb; cases hfb
  have hm := r.mask
  have hlm := l.mask
  refine exec_cases (motive := fun q => StepOk p t q) hop (fun e => ?_) (fun e => ?_) (fun e => ?_) (fun _ _ _ => step_fail (by decide)) (fun _ _ _ => ?_) (fun e => ?_) (fun e => ?_) (fun e => ?_) (fun e => ?_) (fun e => ?_) (fun e => ?_) (fun e => ?_) (fun e => ?_) (fun e => ?_)
  · exact step_write l hf
  · exact step_write l hf
  · exact step_write l hf
  · exact step_write l hf
  · exact step_jump l hf
  · exact step_jump l hf
  · obtain ⟨k, hk, hkc, _⟩ := need_args hi (.inl e)
    have hcl := hno (by rw [e]; decide)
    refine ⟨live_call l r hf hcl, fun hz => ?_, .of_eq (call_blocks ..)⟩
    unfold callS at hz ⊢
    rw [hk] at hz ⊢
    split
    · exact halt_fail t (by decide)
    · rename_i h; rw [if_neg h] at hz; exact absurd rfl hz
  · exact step_give l r hf
  · obtain ⟨k, hk, hkc, hkl, har⟩ := need_args hi (.inr e)
    refine ⟨live_defer l hf hg hk (by rw [hkc, e]; decide) hkl har, fun hz => ?_, defer_blocks ..⟩
    unfold deferS at hz ⊢
    split
    · exact halt_fail t (by decide)
    · rename_i b hb
      rw [hb] at hz
      dsimp only at hz
      split
      · exact halt_fail t (by decide)
      · rename_i h; rw [if_neg h] at hz; exact absurd rfl hz
  · have hcl := hno (by rw [e]; decide)
    have hin : inHand t = false := by rw [inHand_top hf]; exact hcl
    unfold maskS
    split
    · exact step_fail (by decide)
    · rename_i h
      refine ⟨fun _ => live_set (f' := { f with pc := f.pc + 1 }) l hf rfl ?_, fun h => absurd rfl h, .of_eq rfl⟩
      unfold leastI mostI
      rw [if_neg (by rw [hin]; decide), if_neg (by rw [hin]; decide)]
      omega
  · have hcl := hno (by rw [e]; decide)
    have hin : inHand t = false := by rw [inHand_top hf]; exact hcl
    unfold unmaskS
    split
    · exact step_fail (by decide)
    · split
      · exact step_fail (by decide)
      · rename_i h
        refine ⟨fun _ => live_set (f' := { f with pc := f.pc + 1 }) l hf rfl ?_, fun h => absurd rfl h, .of_eq rfl⟩
        unfold leastI mostI at *
        rw [if_neg (by rw [hin]; decide), if_neg (by rw [hin]; decide)] at *
        omega
  · split
    · exact step_fail (by decide)
    · exact step_jump l hf
  · split
    · exact step_fail (by decide)
    · rename_i h; exact step_fail (by omega)
structure StopOk (p : Prg) (t : Tsk) (r : Tsk × Stp) : Prop where
  end' : ∃ u, RunOk p u ∧ Live p u ∧ Same t u ∧ BlkExt t u ∧ ((r = (u, ⟨1, 0, 0⟩) ∧ ∃ x, nowS p u = some x ∧ visS x.op = true) ∨ (Halt u r ∧ ∀ x, nowS p u = some x → visS x.op = false))
theorem now_at {p : Prg} {t : Tsk} {f : Frm} {g : Fnc} (hf : topF t = some f) (hg : FrOk p f g) : nowS p t = g.code[f.pc.toNat]? := by
  unfold nowS
  unfold topF at hf
  rw [hf]
  dsimp only
  rw [hg.fn]
  dsimp only
  rw [if_neg (by have := hg.pc; omega)]
theorem runS_stop {p : Prg} (hc : checkS p = 0) : ∀ (k : Nat) (t : Tsk) (n : Nat), RunOk p t → Live p t → 2 * (200 - n) + t.frames.length < k → n ≤ 200 → StopOk p t (runS p k t n)
  | 0, t, n, _, _, hk, _ => by omega
  | k + 1, t, n, h, l, hk, hn => by
    obtain ⟨f, hf⟩ := h.top
    obtain ⟨g, hg⟩ := h.fr _ f hf
    have hnow := now_at hf hg
    have hpos := h.pos
    unfold runS
    rw [hf]
    dsimp only
    rw [hg.fn]
    dsimp only
    have hgo : ∀ (r : Tsk × Stp) (m n' : Nat), StepOk p t r → Fate p t r m → r.2.kind = 0 → 2 * (200 - n') + m < k → n' ≤ 200 → StopOk p t (runS p k r.1 n') := fun r m n' hs hF hz hk' hn' => by
      rcases hF.2 with ⟨_, h1, h2⟩ | ⟨h1, _⟩
      · obtain ⟨u, a, b, c, d, e⟩ := (runS_stop hc k r.1 n' h1 (hs.live hz) (by omega) hn').end'
        exact ⟨u, a, b, hF.1.trans c, hs.blk.trans d, e⟩
      · exact absurd hz h1
    have hst : ∀ r : Tsk × Stp, StepOk p t r → r.2.kind ≠ 0 → (∀ x, nowS p t = some x → visS x.op = false) → StopOk p t r := fun r hs hz hx => ⟨t, h, l, Same.refl _, .of_eq rfl, .inr ⟨hs.halt hz, hx⟩⟩
    cases hx : g.code[f.pc.toNat]? with
    | none =>
      dsimp only
      have hG := fate_give h hf (v := 0) (by decide)
      have hS := step_give l h hf (v := 0)
      split
      · rename_i hz; exact hgo _ _ n hS hG hz (by omega) hn
      · rename_i hz; exact hst _ hS hz (fun x hx' => by rw [hnow, hx] at hx'; cases hx')
    | some x =>
      dsimp only
      cases hv : visS x.op with
      | true => rw [if_pos rfl]; exact ⟨t, h, l, Same.refl _, .of_eq rfl, .inl ⟨rfl, x, by rw [hnow, hx], hv⟩⟩
      | false =>
        have hnv : ∀ y, nowS p t = some y → visS y.op = false := fun y hy => by rw [hnow, hx] at hy; injection hy with hy; subst hy; exact hv
        rw [if_neg (by decide)]
        split
        · exact hst _ (step_fail (by decide)) (by simp [failT]) hnv
        · rename_i hne
          have hG := exec_fate hc h hf hg hx hv
          have hS := exec_step hc h l hf hg hx hv
          split
          · rename_i hz; exact hgo _ _ (n + 1) hS hG hz (by omega) (by omega)
          · rename_i hz; exact hst _ hS hz hnv
theorem valid_parts {p : Prg} {t : Tsk} (h : tcheckS p t = 0) (hst : t.status ≠ 3) : checkS p = 0 ∧ numsB p t = true ∧ waitB p t = true ∧ livB p t = true := by
  unfold tcheckS at h
  split at h
  · cases h
  rename_i h1
  (try rw [if_neg hst] at h)
  split at h
  · rename_i h2
    refine ⟨?_, ?_, ?_, h2⟩
    · exact Decidable.not_not.1 (fun e => h1 (.inl e))
    · cases e : numsB p t with
      | true => rfl
      | false => exact absurd (.inr (.inl e)) h1
    · cases e : waitB p t with
      | true => rfl
      | false => exact absurd (.inr (.inr e)) h1
  · cases h
theorem nums_same {p : Prg} {t u : Tsk} (h : Same t u) : numsB p u = numsB p t := by unfold numsB; rw [h.fn, h.prio, h.scope, h.result, h.reason, h.status]
theorem wait_same {p : Prg} {t u : Tsk} (h : Same t u) : waitB p u = waitB p t := by unfold waitB; rw [h.status, h.wkind, h.windex, h.wagain]
theorem valid_of {p : Prg} {t : Tsk} (hst : t.status ≠ 3) (hc : checkS p = 0) (hn : numsB p t = true) (hw : waitB p t = true) (hl : livB p t = true) : tcheckS p t = 0 := by
  unfold tcheckS
  rw [if_neg (by rw [hc, hn, hw]; simp), if_neg hst, if_pos hl]
theorem tcheck_is (p : Prg) (t : Tsk) : tcheckS p t = 0 ∨ tcheckS p t = 1 := by
  unfold tcheckS
  split
  · exact .inr rfl
  split
  · split
    · exact .inl rfl
    · exact .inr rfl
  · split
    · exact .inl rfl
    · exact .inr rfl
theorem adv_stop {p : Prg} {t : Tsk} (h : tcheckS p t = 0) (hst : t.status = 1) (hu : ¬ (t.unw = true ∧ inHand t = false)) (hl : t.frames.length ≠ 0) : StopOk p t (runS p 500 t 0) := by
  obtain ⟨hc, _, _, h4⟩ := valid_parts h (by omega)
  have hr := run_ok h hst hl
  refine runS_stop hc 500 t 0 hr (live_of h4 fun hx => ?_) (by have := hr.len; omega) (by omega)
  cases hi : inHand t with
  | true => rfl
  | false => exact absurd ⟨hx, hi⟩ hu
theorem adv_valid {p : Prg} {t u : Tsk} (h : tcheckS p t = 0) (hst : t.status = 1) (hs : Same t u) (hr : RunOk p u) (hl : Live p u) : tcheckS p u = 0 := by
  obtain ⟨hc, hn, hw, _⟩ := valid_parts h (by omega)
  exact valid_of (by rw [hs.status]; omega) hc (by rw [nums_same hs]; exact hn) (by rw [wait_same hs]; exact hw) (liv_of hr hl)
end Go.Proofs.YtcjjoabofecjmaaGreat

namespace Go.Proofs.YtcjjoabofecjmaaGreat
open Go.RowKit
def noHdl : Hdl := ⟨0, []⟩
def handleT (t : Tsk) (b : Blk) (h : Hdl) (g : Fnc) : Tsk :=
  { t with frames := t.frames ++ [⟨h.fn, 0, regsOf g.regs.toNat h.args, -1, true⟩], blocks := t.blocks.set (t.blocks.length - 1) { b with handlers := b.handlers.take (b.handlers.length - 1) }, mask := t.mask + 1 }
def handleS (p : Prg) (t : Tsk) : Tsk × Hdl × Int :=
  if tcheckS p t ≠ 0 then (zeroTsk, noHdl, 1)
  else if t.status ≠ 1 ∨ inHand t = true then (zeroTsk, noHdl, 17)
  else match lastB t with
    | none => (zeroTsk, noHdl, 23)
    | some b => match b.handlers[b.handlers.length - 1]? with
      | none => (zeroTsk, noHdl, 23)
      | some h => match fnAt p h.fn with
        | none => (zeroTsk, noHdl, 23)
        | some g => (handleT t b h g, h, 0)
theorem live_ok {p : Prg} {t : Tsk} (h : tcheckS p t = 0) (hst : t.status ≠ 3) : livB p t = true := by
  unfold tcheckS at h
  rw [if_neg hst] at h
  split at h
  · cases h
  · split at h
    · assumption
    · cases h
theorem frm_fn {p : Prg} {t : Tsk} (h : allB (frmB p t) t.frames.length 0 = true) {i : Nat} {f : Frm} (hf : t.frames[i]? = some f) : ∃ g, FrOk p f g := by
  have h2 := allB_iff.1 h i (Nat.zero_le _) (by have := (List.getElem?_eq_some_iff.1 hf).1; omega)
  unfold frmB at h2
  rw [hf] at h2
  dsimp only at h2
  cases hfn : fnAt p f.fn with
  | none => rw [hfn] at h2; cases h2
  | some g =>
    rw [hfn] at h2
    simp only [Bool.and_eq_true, inB_iff, beq_iff_eq, List.all_eq_true] at h2
    obtain ⟨⟨⟨⟨a1, a2⟩, a3⟩, a4⟩, _⟩ := h2
    exact ⟨g, ⟨hfn, a1, a2, a3, a4⟩⟩
structure LivOk (p : Prg) (t : Tsk) : Prop where
  blks : blksB p t.blocks = true
  mask : leastI t ≤ t.mask ∧ t.mask ≤ mostI t
  plain : plainN t ≤ 8
  fr : allB (frmB p t) t.frames.length 0 = true
theorem liv_ok {p : Prg} {t : Tsk} (h : livB p t = true) : LivOk p t := by
  unfold livB at h
  simp only [Bool.and_eq_true] at h
  obtain ⟨⟨⟨⟨⟨⟨⟨hb, hm⟩, hp⟩, _⟩, _⟩, _⟩, hfr⟩, _⟩ := h
  exact ⟨hb, inB_iff.1 hm, by simpa using hp, hfr⟩
theorem LivOk.frames9 {p : Prg} {t : Tsk} (l : LivOk p t) : t.frames.length ≤ 9 := by
  have := l.plain
  unfold plainN at this
  split at this <;> omega
theorem LivOk.wk {p : Prg} {t : Tsk} (l : LivOk p t) (hc : checkS p = 0) : RunWk t := by
  have hbl := blks_len l.blks
  refine ⟨l.frames9, fun f hf => ?_, hbl.2, fun b hb => ?_, ?_⟩
  · obtain ⟨i, hi, rfl⟩ := List.getElem_of_mem hf
    obtain ⟨g, hg⟩ := frm_fn l.fr (List.getElem?_eq_getElem hi)
    have := (fn_ok hc (fnAt_mem hg.fn)).reg
    have := hg.regs
    omega
  · obtain ⟨i, hi, rfl⟩ := List.getElem_of_mem hb
    exact (blk_at l.blks (List.getElem?_eq_getElem hi)).1
  · have := l.mask
    unfold leastI mostI at this
    split at this <;> omega
theorem hdl_ok {p : Prg} {h : Hdl} (hh : hdlB p h = true) : ∃ g, fnAt p h.fn = some g ∧ g.cleanup = true ∧ (h.args.length : Int) = g.params ∧ ∀ x ∈ h.args, numB x = true := by
  unfold hdlB at hh
  cases hg : fnAt p h.fn with
  | none => rw [hg] at hh; cases hh
  | some g =>
    rw [hg] at hh
    simp only [Bool.and_eq_true, beq_iff_eq, List.all_eq_true] at hh
    exact ⟨g, rfl, hh.1.1, hh.1.2, hh.2⟩
theorem LivOk.hdl {p : Prg} {t : Tsk} (l : LivOk p t) {b : Blk} (hb : lastB t = some b) {h : Hdl} (hh : h ∈ b.handlers) : ∃ g, fnAt p h.fn = some g ∧ g.cleanup = true ∧ (h.args.length : Int) = g.params ∧ ∀ x ∈ h.args, numB x = true :=
  hdl_ok ((blk_at l.blks (show t.blocks[t.blocks.length - 1]? = some b from hb)).2.1 h hh)
end Go.Proofs.YtcjjoabofecjmaaGreat
