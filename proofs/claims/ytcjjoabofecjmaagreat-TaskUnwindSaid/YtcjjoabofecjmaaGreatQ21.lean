/- A part of the proof: awake of nurserylaw28 answers true; Fail of package task. -/
import Derived.Test.YtcjjoabofecjmaaGreatQ20
import Derived.Test.YtcjjoabofecjmaaGreatQ01
import Derived.Test.YtcjjoabofecjmaaGreatQ04
set_option linter.unusedVariables false
set_option linter.unusedSimpArgs false
namespace Go.Proofs.YtcjjoabofecjmaaGreat
open Go.RowKit Go.Sort
set_option maxRecDepth 8000 in
set_option maxHeartbeats 8000000 in
theorem awake_any (w : World) : Calls Tryz.prog 14 #[] w fun e w' => e = .returned (.bool true) ∧ Ext w w' := by
  go_enter Tryz.func14, Tryz.ntmps14
  go_upto_region 3 with fail
  refine wp_hid2 ?_
  intro W2 HW2
  have HE2 : Hid (Ext w W2) := by rw [Hid, HW2.out]; exact (by repeat' (first | with_reducible assumption | with_reducible exact Ext.refl _ | with_reducible refine Ext.alloc ?_ _ | with_reducible refine Ext.drew ?_ | with_reducible refine Ext.drewN ?_ _ | with_reducible refine Ext.regrown ?_ _ _ | with_reducible refine Ext.setCell ?_ (by first | (simp; done) | (simp; omega)) _))
  have C2 : W2.rangeAt w.heap.size 0 (codeCells codeA) := by rw [HW2.out]; exact range_old (range_old (range_new rfl) _) _
  have F2 : W2.rangeAt (w.heap.size + 1) 0 [.string mainN, Value.int .i64 0, Value.int .i64 2, Value.int .i64 0, .bool false, .slice (some ⟨w.heap.size, 0, none⟩) 4 4] := by rw [HW2.out]; exact range_old (range_new (by simp)) _
  have P2 : W2.rangeAt (w.heap.size + 1 + 1) 0 [.slice (some ⟨w.heap.size + 1, 0, none⟩) 1 1, .slice none 0 0, .slice none 0 0] := by rw [HW2.out]; exact range_new (by simp)
  have HCs := Lib.hid C2
  have HPA := Lib.hid (rprg_one (xs := codeA) (regs := 2) (c := 4) C2 F2 (by decide) (by decide) ⟨by decide, by decide⟩ codeA_in (by decide))
  have HPR := Lib.hid P2
  have p0 : W2.cell? ⟨w.heap.size + 1 + 1, 0, none⟩ = some (.slice (some ⟨w.heap.size + 1, 0, none⟩) 1 1) := P2 0 _ rfl
  have p1 : W2.cell? ⟨w.heap.size + 1 + 1, 1, none⟩ = some (.slice none 0 0) := P2 1 _ rfl
  have p2 : W2.cell? ⟨w.heap.size + 1 + 1, 2, none⟩ = some (.slice none 0 0) := P2 2 _ rfl
  have HS := Lib.hid (Start_any prgA 0 [] 0 _ none 0 0 W2 HPA.out (RSl.nil _) ⟨by decide, by decide⟩ ⟨by decide, by decide⟩)
  rw [awk_start] at HS
  clear C2 F2 P2 HW2
  go_upto_region 4 with (first | ((with_reducible show wpList _ _ _ ({ dst := _, op := Op.store 32 _ _, type := _, pos := _, after := _, guard := none } :: _) _ _); refine wpList_store_mid rfl 32 _ _ rfl _ _ _ rfl rfl (by (repeat' (first | with_reducible assumption | ((with_reducible apply there_new) <;> (simp; done)) | with_reducible apply there_old | with_reducible apply there_drew | with_reducible apply there_set | with_reducible apply there_sets | assumption))) infoTsk (all_oneCell_toArray (by simp [Value.oneCell'])) ?_; (try dsimp only [Act.put])) | (go_at_call 21; refine HS.out.mono ?_; rintro e w3 ⟨V3, rfl, hT3, hb3⟩; have HT3 := Lib.hid hT3; have HB3 := Lib.hid hb3; obtain ⟨gF3, oF3, cF3, Ab3, cb3, Ar3, cr3, rfl, _⟩ := tsk_parts hT3; unfold tskCells at HT3 ⊢; clear hT3 hb3))
  refine wp_hid2 ?_
  intro W3 HW3
  have HE3 : Hid (Ext W2 W3) := by have h := HB3.out; have h2 := h.size; rw [Hid, HW3.out]; exact (by repeat' (first | with_reducible assumption | with_reducible refine Ext.setCells ?_ (by first | omega | (simp; done) | (simp; omega)) _ _ | with_reducible exact Ext.refl _ | with_reducible refine Ext.alloc ?_ _ | with_reducible refine Ext.drew ?_ | with_reducible refine Ext.drewN ?_ _ | with_reducible refine Ext.regrown ?_ _ _ | with_reducible refine Ext.setCell ?_ (by first | (simp; done) | (simp; omega)) _))
  have T3 : W3.rangeAt w3.heap.size 0 [Value.int .i64 0, Value.int .i64 0, Value.int .i64 0, Value.int .i64 1, Value.int .i64 0, Value.int .i64 0, .bool false, .slice (some ⟨gF3, oF3, none⟩) 1 cF3, .slice Ab3 1 cb3, Value.int .i64 0, .bool false, Value.int .i64 0, Value.int .i64 0, Value.int .i64 0] := by
    rw [HW3.out]; exact World.rangeAt_setCells_same _ _ 0 _ (by show World.there _ _ 0 14; exact there_new rfl rfl)
  have HT33 := Lib.hid (show RTsk W3 (tskAt 0 0 0) _ from HT3.out.mono (by rw [HW3.out]; exact (by repeat' (first | with_reducible assumption | with_reducible refine Ext.setCells ?_ (by first | omega | (simp; done) | (simp; omega)) _ _ | with_reducible exact Ext.refl _ | with_reducible refine Ext.alloc ?_ _ | with_reducible refine Ext.drew ?_ | with_reducible refine Ext.drewN ?_ _ | with_reducible refine Ext.regrown ?_ _ _ | with_reducible refine Ext.setCell ?_ (by first | (simp; done) | (simp; omega)) _))))
  have HR3 := Lib.hid T3
  have p30 := HE3.out.cell p0
  have p31 := HE3.out.cell p1
  have p32 := HE3.out.cell p2
  have HA := Lib.hid (Advance_any prgA (tskAt 0 0 0) _ _ W3 (HPA.out.mono HE3.out) HT33.out)
  unfold AdvPost stopA at HA
  rw [awk_go] at HA
  dsimp only at HA
  clear HW3 p0 p1 p2 HT3 HS HB3
  go_upto_region 5 with (first | (first | ((with_reducible show Code.wp _ (Code.region _ (List.toArray ({ dst := _, op := Op.load 32 _, type := _, pos := _, after := _, guard := none } :: _)) false) _ _ _); refine wp_region_lit ?_; refine wpList_load_mid rfl 32 _ rfl _ _ rfl _ _ (by (repeat' (first | with_reducible assumption | ((with_reducible apply range_new); simp; done) | with_reducible apply range_old | with_reducible apply range_drew | ((with_reducible apply World.rangeAt_setCells_same) <;> (repeat' (first | with_reducible assumption | ((with_reducible apply there_new) <;> (simp; done)) | with_reducible apply there_old | with_reducible apply there_drew | with_reducible apply there_set | with_reducible apply there_sets | assumption))) | with_reducible apply range_same | ((with_reducible apply range_at) <;> first | omega | skip) | ((with_reducible apply range_other) <;> first | (simp; omega) | skip)))) Tryz.underlying32 rfl (by exact infoTsk) ?_; dsimp only [List.set_cons_zero, List.set_cons_succ]) | ((with_reducible show wpList _ _ _ ({ dst := _, op := Op.load 32 _, type := _, pos := _, after := _, guard := none } :: _) _ _); refine wpList_load_mid rfl 32 _ rfl _ _ rfl _ _ (by (repeat' (first | with_reducible assumption | ((with_reducible apply range_new); simp; done) | with_reducible apply range_old | with_reducible apply range_drew | ((with_reducible apply World.rangeAt_setCells_same) <;> (repeat' (first | with_reducible assumption | ((with_reducible apply there_new) <;> (simp; done)) | with_reducible apply there_old | with_reducible apply there_drew | with_reducible apply there_set | with_reducible apply there_sets | assumption))) | with_reducible apply range_same | ((with_reducible apply range_at) <;> first | omega | skip) | ((with_reducible apply range_other) <;> first | (simp; omega) | skip)))) Tryz.underlying32 rfl (by exact infoTsk) ?_; dsimp only [List.set_cons_zero, List.set_cons_succ])) | ((with_reducible show wpList _ _ _ ({ dst := _, op := Op.store 32 _ _, type := _, pos := _, after := _, guard := none } :: _) _ _); refine wpList_store_mid rfl 32 _ _ rfl _ _ _ rfl rfl (by (repeat' (first | with_reducible assumption | ((with_reducible apply there_new) <;> (simp; done)) | with_reducible apply there_old | with_reducible apply there_drew | with_reducible apply there_set | with_reducible apply there_sets | assumption))) infoTsk (all_oneCell_toArray (by simp [Value.oneCell'])) ?_; (try dsimp only [Act.put])) | ((with_reducible show wpList _ _ _ ({ dst := _, op := Op.store 49 _ _, type := _, pos := _, after := _, guard := none } :: _) _ _); refine wpList_store_mid rfl 49 _ _ rfl _ _ _ rfl rfl (by (repeat' (first | with_reducible assumption | ((with_reducible apply there_new) <;> (simp; done)) | with_reducible apply there_old | with_reducible apply there_drew | with_reducible apply there_set | with_reducible apply there_sets | assumption))) infoStop (all_oneCell_toArray (by simp [Value.oneCell'])) ?_; (try dsimp only [Act.put])) | (go_at_call 24; refine HA.out.mono ?_; rintro e w4 ⟨V4, rfl, hT4, hb4⟩; have HT4 := Lib.hid hT4; have HB4 := Lib.hid hb4; obtain ⟨gF4, oF4, cF4, Ab4, cb4, Ar4, cr4, rfl, hc41, hc42, hR4⟩ := tsk_parts hT4; have HC41 := Lib.hid hc41; have HC42 := Lib.hid hc42; have HR4 := Lib.hid hR4; unfold tskCells at HT4 ⊢; clear hT4 hb4 hc41 hc42 hR4))
  refine wp_hid2 ?_
  intro W4 HW4
  have HE4 : Hid (Ext W3 W4) := by have h := HB4.out; have h2 := h.size; rw [Hid, HW4.out]; exact (by repeat' (first | with_reducible assumption | with_reducible refine Ext.setCells ?_ (by first | omega | (simp; done) | (simp; omega)) _ _ | with_reducible exact Ext.refl _ | with_reducible refine Ext.alloc ?_ _ | with_reducible refine Ext.drew ?_ | with_reducible refine Ext.drewN ?_ _ | with_reducible refine Ext.regrown ?_ _ _ | with_reducible refine Ext.setCell ?_ (by first | (simp; done) | (simp; omega)) _))
  have E44 : Ext w4 W4 := by rw [HW4.out]; exact (by repeat' (first | with_reducible assumption | with_reducible refine Ext.setCells ?_ (by first | omega | (simp; done) | (simp; omega)) _ _ | with_reducible exact Ext.refl _ | with_reducible refine Ext.alloc ?_ _ | with_reducible refine Ext.drew ?_ | with_reducible refine Ext.drewN ?_ _ | with_reducible refine Ext.regrown ?_ _ _ | with_reducible refine Ext.setCell ?_ (by first | (simp; done) | (simp; omega)) _))
  have TU : W4.rangeAt w4.heap.size 0 [Value.int .i64 0, Value.int .i64 0, Value.int .i64 0, Value.int .i64 1, Value.int .i64 0, Value.int .i64 0, .bool false, .slice (some ⟨gF4, oF4, none⟩) 1 cF4, .slice Ab4 1 cb4, Value.int .i64 0, .bool false, Value.int .i64 0, Value.int .i64 0, Value.int .i64 0] := by
    rw [HW4.out]; exact (ranges_two (by omega) (by show World.there _ _ 0 14; exact there_old (there_new rfl rfl) _) (by show World.there _ _ 0 3; exact there_new (by simp) rfl)).1
  have TS : W4.rangeAt (w4.heap.size + 1) 0 [Value.int .i64 1, Value.int .i64 0, Value.int .i64 0] := by
    rw [HW4.out]; exact (ranges_two (by omega) (by show World.there _ _ 0 14; exact there_old (there_new rfl rfl) _) (by show World.there _ _ 0 3; exact there_new (by simp) rfl)).2
  have HT44 := Lib.hid (show RTsk W4 (tskAt 3 42 7) _ from HT4.out.mono E44)
  have HRU := Lib.hid TU
  have HRS := Lib.hid TS
  have HC41 := Lib.hid (E44.cell HC41.out)
  have HC42 := Lib.hid (E44.cell HC42.out)
  have HR4 := Lib.hid (HR4.out.mono RInt.stays E44)
  have p40 := HE4.out.cell p30
  have p41 := HE4.out.cell p31
  have p42 := HE4.out.cell p32
  have HCu := Lib.hid (Current_any prgA (tskAt 3 42 7) _ _ W4 (HPA.out.mono (HE3.out.trans HE4.out)) HT44.out)
  unfold insV at HCu
  rw [awk_now] at HCu
  dsimp only at HCu
  clear HW4 p30 p31 p32 HT4 HA HB4 E44 TS T3
  go_upto_region 6 with (first | (first | ((with_reducible show Code.wp _ (Code.region _ (List.toArray ({ dst := _, op := Op.load 32 _, type := _, pos := _, after := _, guard := none } :: _)) false) _ _ _); refine wp_region_lit ?_; refine wpList_load_mid rfl 32 _ rfl _ _ rfl _ _ (by (repeat' (first | with_reducible assumption | ((with_reducible apply range_new); simp; done) | with_reducible apply range_old | with_reducible apply range_drew | ((with_reducible apply World.rangeAt_setCells_same) <;> (repeat' (first | with_reducible assumption | ((with_reducible apply there_new) <;> (simp; done)) | with_reducible apply there_old | with_reducible apply there_drew | with_reducible apply there_set | with_reducible apply there_sets | assumption))) | with_reducible apply range_same | ((with_reducible apply range_at) <;> first | omega | skip) | ((with_reducible apply range_other) <;> first | (simp; omega) | skip)))) Tryz.underlying32 rfl (by exact infoTsk) ?_; dsimp only [List.set_cons_zero, List.set_cons_succ]) | ((with_reducible show wpList _ _ _ ({ dst := _, op := Op.load 32 _, type := _, pos := _, after := _, guard := none } :: _) _ _); refine wpList_load_mid rfl 32 _ rfl _ _ rfl _ _ (by (repeat' (first | with_reducible assumption | ((with_reducible apply range_new); simp; done) | with_reducible apply range_old | with_reducible apply range_drew | ((with_reducible apply World.rangeAt_setCells_same) <;> (repeat' (first | with_reducible assumption | ((with_reducible apply there_new) <;> (simp; done)) | with_reducible apply there_old | with_reducible apply there_drew | with_reducible apply there_set | with_reducible apply there_sets | assumption))) | with_reducible apply range_same | ((with_reducible apply range_at) <;> first | omega | skip) | ((with_reducible apply range_other) <;> first | (simp; omega) | skip)))) Tryz.underlying32 rfl (by exact infoTsk) ?_; dsimp only [List.set_cons_zero, List.set_cons_succ])) | ((with_reducible show wpList _ _ _ ({ dst := _, op := Op.store 37 _ _, type := _, pos := _, after := _, guard := none } :: _) _ _); refine wpList_store_mid rfl 37 _ _ rfl _ _ _ rfl rfl (by (repeat' (first | with_reducible assumption | ((with_reducible apply there_new) <;> (simp; done)) | with_reducible apply there_old | with_reducible apply there_drew | with_reducible apply there_set | with_reducible apply there_sets | assumption))) infoInsN (all_oneCell_toArray (by simp [Value.oneCell'])) ?_; (try dsimp only [Act.put])) | (go_at_call 15; refine HCu.out.mono ?_; rintro e w5 ⟨A5, n5, c5, rfl, _, hb5⟩; have HB5 := Lib.hid hb5; clear hb5))
  refine wp_hid2 ?_
  intro W5 HW5
  have HE5 : Hid (Ext W4 W5) := by have h := HB5.out; have h2 := h.size; rw [Hid, HW5.out]; exact (by repeat' (first | with_reducible assumption | with_reducible refine Ext.setCells ?_ (by first | omega | (simp; done) | (simp; omega)) _ _ | with_reducible exact Ext.refl _ | with_reducible refine Ext.alloc ?_ _ | with_reducible refine Ext.drew ?_ | with_reducible refine Ext.drewN ?_ _ | with_reducible refine Ext.regrown ?_ _ _ | with_reducible refine Ext.setCell ?_ (by first | (simp; done) | (simp; omega)) _))
  have TI : W5.rangeAt w5.heap.size 0 [Value.int .i64 41, Value.int .i64 0, Value.int .i64 0, Value.int .i64 0, .slice A5 n5 c5] := by
    rw [HW5.out]; exact World.rangeAt_setCells_same _ _ 0 _ (by show World.there _ _ 0 5; exact there_new rfl rfl)
  have HRI := Lib.hid TI
  have HCl := Lib.hid (cloneIns (some ⟨w.heap.size, 0, none⟩) 4 4 (codeCells codeA) W5 (fun h => by cases h) ⟨rfl, fun _ => ⟨_, _, rfl, fun j u hj => by have := ((HE3.out.trans HE4.out).trans HE5.out).cell (HCs.out j u hj); exact this⟩⟩ codeA_one (by decide))
  clear HW5 TI TU p40 p41 p42 HCu HB5
  go_upto_region 7 with (go_at_call 43; refine HCl.out.mono ?_; rintro e w6 ⟨v6, rfl, hown6, hb6⟩; obtain ⟨g6, c6, rfl, hg6⟩ := own_form hown6 (by decide); have HO6 := Lib.hid hown6; have HB6 := Lib.hid hb6; have m1 : w6.cell? ⟨g6, 7, none⟩ = some (Value.int .i64 7) := hown6.cellAt 7 (by decide); have m2 : w6.cell? ⟨g6, 10, none⟩ = some (Value.int .i64 5) := hown6.cellAt 10 (by decide); have z1 := hown6.frozenAt 7; have z2 := hown6.frozenAt 10; clear hown6 hb6)
  go_upto_region 9 with fail
  refine wp_hid2 ?_
  intro W8 HW8
  have hg6W : W5.heap.size ≤ g6 := (HO6.out.lt g6 rfl).1
  have hg6l : g6 < w6.heap.size := (HO6.out.lt g6 rfl).2
  have HE8 : Hid (Ext W5 W8) := by have h := HB6.out; have h2 := h.size; rw [Hid, HW8.out]; exact (by repeat' (first | with_reducible assumption | with_reducible exact Ext.refl _ | with_reducible refine Ext.alloc ?_ _ | with_reducible refine Ext.drew ?_ | with_reducible refine Ext.drewN ?_ _ | with_reducible refine Ext.regrown ?_ _ _ | with_reducible refine Ext.setCell ?_ (by first | (simp; done) | (simp; omega)) _))
  obtain ⟨b1, b2⟩ := HO6.out.stored 7 (Value.int .i64 0)
  obtain ⟨b3, b4⟩ := b1.stored 10 (Value.int .i64 6)
  rw [codeB_of] at b3
  have C8 : W8.rangeAt g6 0 (codeCells codeB) := fun j v hj => by
    have h1 := b3.cellAt j (by have := (List.getElem?_eq_some_iff.1 hj).1; exact this)
    rw [HW8.out, Nat.zero_add, World.cell?_alloc_lt, World.cell?_alloc_lt, h1, hj]
    · simpa using hg6l
    · simp; omega
  have hc6 : 4 ≤ c6 := by
    obtain ⟨A9, c9, e9, h9, _⟩ := ownsRow_shape HO6.out
    injection e9 with q1 q2 q3
    omega
  have F8 : W8.rangeAt w6.heap.size 0 [.string mainN, Value.int .i64 0, Value.int .i64 2, Value.int .i64 0, .bool false, .slice (some ⟨g6, 0, none⟩) 4 c6] := by rw [HW8.out]; exact range_old (range_new (by simp)) _
  have Q8 : W8.rangeAt (w6.heap.size + 1) 0 [.slice (some ⟨w6.heap.size, 0, none⟩) 1 1, .slice none 0 0, .slice none 0 0] := by rw [HW8.out]; exact range_new (by simp)
  have q0 : W8.cell? ⟨w6.heap.size + 1, 0, none⟩ = some (.slice (some ⟨w6.heap.size, 0, none⟩) 1 1) := Q8 0 _ rfl
  have q1 : W8.cell? ⟨w6.heap.size + 1, 1, none⟩ = some (.slice none 0 0) := Q8 1 _ rfl
  have q2 : W8.cell? ⟨w6.heap.size + 1, 2, none⟩ = some (.slice none 0 0) := Q8 2 _ rfl
  have HPB := Lib.hid (rprg_one (xs := codeB) (regs := 2) (c := c6) C8 F8 hc6 (by decide) ⟨by decide, by decide⟩ codeB_in (by decide))
  have HE38 : Hid (Ext W3 W8) := (HE4.out.trans HE5.out).trans HE8.out
  have T8 := range_ext HR3.out HE38.out
  have HA2 := Lib.hid (Advance_any prgB (tskAt 0 0 0) _ _ W8 HPB.out (HT33.out.mono HE38.out))
  unfold AdvPost stopA at HA2
  rw [awk_div] at HA2
  dsimp only at HA2
  clear HW8 b1 b2 b3 b4 C8 F8 Q8 m1 m2 z1 z2 hg6W hg6l hc6 HCl HO6 HB6
  go_upto_region 10 with (first | (first | ((with_reducible show Code.wp _ (Code.region _ (List.toArray ({ dst := _, op := Op.load 32 _, type := _, pos := _, after := _, guard := none } :: _)) false) _ _ _); refine wp_region_lit ?_; refine wpList_load_mid rfl 32 _ rfl _ _ rfl _ _ (by (repeat' (first | with_reducible assumption | ((with_reducible apply range_new); simp; done) | with_reducible apply range_old | with_reducible apply range_drew | ((with_reducible apply World.rangeAt_setCells_same) <;> (repeat' (first | with_reducible assumption | ((with_reducible apply there_new) <;> (simp; done)) | with_reducible apply there_old | with_reducible apply there_drew | with_reducible apply there_set | with_reducible apply there_sets | assumption))) | with_reducible apply range_same | ((with_reducible apply range_at) <;> first | omega | skip) | ((with_reducible apply range_other) <;> first | (simp; omega) | skip)))) Tryz.underlying32 rfl (by exact infoTsk) ?_; dsimp only [List.set_cons_zero, List.set_cons_succ]) | ((with_reducible show wpList _ _ _ ({ dst := _, op := Op.load 32 _, type := _, pos := _, after := _, guard := none } :: _) _ _); refine wpList_load_mid rfl 32 _ rfl _ _ rfl _ _ (by (repeat' (first | with_reducible assumption | ((with_reducible apply range_new); simp; done) | with_reducible apply range_old | with_reducible apply range_drew | ((with_reducible apply World.rangeAt_setCells_same) <;> (repeat' (first | with_reducible assumption | ((with_reducible apply there_new) <;> (simp; done)) | with_reducible apply there_old | with_reducible apply there_drew | with_reducible apply there_set | with_reducible apply there_sets | assumption))) | with_reducible apply range_same | ((with_reducible apply range_at) <;> first | omega | skip) | ((with_reducible apply range_other) <;> first | (simp; omega) | skip)))) Tryz.underlying32 rfl (by exact infoTsk) ?_; dsimp only [List.set_cons_zero, List.set_cons_succ])) | ((with_reducible show wpList _ _ _ ({ dst := _, op := Op.store 32 _ _, type := _, pos := _, after := _, guard := none } :: _) _ _); refine wpList_store_mid rfl 32 _ _ rfl _ _ _ rfl rfl (by (repeat' (first | with_reducible assumption | ((with_reducible apply there_new) <;> (simp; done)) | with_reducible apply there_old | with_reducible apply there_drew | with_reducible apply there_set | with_reducible apply there_sets | assumption))) infoTsk (all_oneCell_toArray (by simp [Value.oneCell'])) ?_; (try dsimp only [Act.put])) | ((with_reducible show wpList _ _ _ ({ dst := _, op := Op.store 49 _ _, type := _, pos := _, after := _, guard := none } :: _) _ _); refine wpList_store_mid rfl 49 _ _ rfl _ _ _ rfl rfl (by (repeat' (first | with_reducible assumption | ((with_reducible apply there_new) <;> (simp; done)) | with_reducible apply there_old | with_reducible apply there_drew | with_reducible apply there_set | with_reducible apply there_sets | assumption))) infoStop (all_oneCell_toArray (by simp [Value.oneCell'])) ?_; (try dsimp only [Act.put])) | (go_at_call 24; refine HA2.out.mono ?_; rintro e w9 ⟨V9, rfl, hT9, hb9⟩; have HB9 := Lib.hid hb9; obtain ⟨gF9, oF9, cF9, Ab9, cb9, Ar9, cr9, rfl, hc91, _, _⟩ := tsk_parts hT9; have HC91 := Lib.hid hc91; unfold tskCells; clear hT9 hb9 hc91))
  refine wp_hid2 ?_
  intro W9 HW9
  have HE9 : Hid (Ext W8 W9) := by have h := HB9.out; have h2 := h.size; rw [Hid, HW9.out]; exact (by repeat' (first | with_reducible assumption | with_reducible refine Ext.setCells ?_ (by first | omega | (simp; done) | (simp; omega)) _ _ | with_reducible exact Ext.refl _ | with_reducible refine Ext.alloc ?_ _ | with_reducible refine Ext.drew ?_ | with_reducible refine Ext.drewN ?_ _ | with_reducible refine Ext.regrown ?_ _ _ | with_reducible refine Ext.setCell ?_ (by first | (simp; done) | (simp; omega)) _))
  have E99 : Ext w9 W9 := by rw [HW9.out]; exact (by repeat' (first | with_reducible assumption | with_reducible refine Ext.setCells ?_ (by first | omega | (simp; done) | (simp; omega)) _ _ | with_reducible exact Ext.refl _ | with_reducible refine Ext.alloc ?_ _ | with_reducible refine Ext.drew ?_ | with_reducible refine Ext.drewN ?_ _ | with_reducible refine Ext.regrown ?_ _ _ | with_reducible refine Ext.setCell ?_ (by first | (simp; done) | (simp; omega)) _))
  have TV : W9.rangeAt w9.heap.size 0 [Value.int .i64 0, Value.int .i64 0, Value.int .i64 0, Value.int .i64 1, Value.int .i64 0, Value.int .i64 0, .bool false, .slice (some ⟨gF9, oF9, none⟩) 1 cF9, .slice Ab9 1 cb9, Value.int .i64 0, .bool false, Value.int .i64 0, Value.int .i64 0, Value.int .i64 0] := by
    rw [HW9.out]; exact (ranges_two (by omega) (by show World.there _ _ 0 14; exact there_old (there_new rfl rfl) _) (by show World.there _ _ 0 3; exact there_new (by simp) rfl)).1
  have TS9 : W9.rangeAt (w9.heap.size + 1) 0 [Value.int .i64 3, Value.int .i64 6, Value.int .i64 0] := by
    rw [HW9.out]; exact (ranges_two (by omega) (by show World.there _ _ 0 14; exact there_old (there_new rfl rfl) _) (by show World.there _ _ 0 3; exact there_new (by simp) rfl)).2
  have HE49 : Hid (Ext W4 W9) := (HE5.out.trans HE8.out).trans HE9.out
  have HE59 : Hid (Ext W5 W9) := HE8.out.trans HE9.out
  have u7 : W9.cell? ⟨w4.heap.size, 7, none⟩ = some (.slice (some ⟨gF4, oF4, none⟩) 1 cF4) := HE49.out.cell (HRU.out 7 _ rfl)
  have v7 : W9.cell? ⟨w9.heap.size, 7, none⟩ = some (.slice (some ⟨gF9, oF9, none⟩) 1 cF9) := TV 7 _ rfl
  have i0 : W9.cell? ⟨w5.heap.size, 0, none⟩ = some (Value.int .i64 41) := HE59.out.cell (HRI.out 0 _ rfl)
  have s0 : W9.cell? ⟨w4.heap.size + 1, 0, none⟩ = some (Value.int .i64 1) := HE49.out.cell (HRS.out 0 _ rfl)
  have s1 : W9.cell? ⟨w4.heap.size + 1, 1, none⟩ = some (Value.int .i64 0) := HE49.out.cell (HRS.out 1 _ rfl)
  have s2 : W9.cell? ⟨w4.heap.size + 1, 2, none⟩ = some (Value.int .i64 0) := HE49.out.cell (HRS.out 2 _ rfl)
  have r0 : W9.cell? ⟨w9.heap.size + 1, 0, none⟩ = some (Value.int .i64 3) := TS9 0 _ rfl
  have r1 : W9.cell? ⟨w9.heap.size + 1, 1, none⟩ = some (Value.int .i64 6) := TS9 1 _ rfl
  have r2 : W9.cell? ⟨w9.heap.size + 1, 2, none⟩ = some (Value.int .i64 0) := TS9 2 _ rfl
  have f1 : W9.cell? ⟨gF4, oF4 + 1, none⟩ = some (Value.int .i64 3) := HE49.out.cell HC41.out
  have f2 : W9.cell? ⟨gF4, oF4 + 2, none⟩ = some (.slice Ar4 2 cr4) := HE49.out.cell HC42.out
  have f3 : W9.cell? ⟨gF9, oF9 + 1, none⟩ = some (Value.int .i64 2) := E99.cell HC91.out
  have HSI := Lib.hid (SameInts_any Ar4 (some ⟨W9.heap.size, 0, none⟩) 2 2 cr4 2 [42, 7] [42, 7] (W9.alloc (.cells #[Value.int .i64 42, Value.int .i64 7] 3)) (HR4.out.mono RInt.stays (HE49.out.trans ((Ext.refl W9).alloc _))) (RSl.newInts W9 [42, 7] 3 (by decide) (by intro x hx; simp at hx; rcases hx with rfl | rfl <;> exact ⟨by decide, by decide⟩)))
  have heq1 : ∀ w : World, (binOp BinOp.eql 49 (.agg #[Value.int .i64 1, Value.int .i64 0, Value.int .i64 0]) (.agg #[Value.int .i64 1, Value.int .i64 0, Value.int .i64 0])).run Tryz.prog w = .ok (.bool true) w := fun _ => by kernel_rfl
  have heq2 : ∀ w : World, (binOp BinOp.eql 49 (.agg #[Value.int .i64 3, Value.int .i64 6, Value.int .i64 0]) (.agg #[Value.int .i64 3, Value.int .i64 6, Value.int .i64 0])).run Tryz.prog w = .ok (.bool true) w := fun _ => by kernel_rfl
  have HE09 : Hid (Ext w W9) := (HE2.out.trans HE3.out).trans (HE4.out.trans HE49.out)
  have zf4 : gF4 < W9.heap.size := lt_of_cell f1
  have zf9 : gF9 < W9.heap.size := lt_of_cell f3
  have zu : w4.heap.size < W9.heap.size := lt_of_cell u7
  have zs : w4.heap.size + 1 < W9.heap.size := lt_of_cell s0
  have zv : w9.heap.size < W9.heap.size := lt_of_cell v7
  have zr : w9.heap.size + 1 < W9.heap.size := lt_of_cell r0
  clear HW9 TV TS9 T8 q0 q1 q2 HA2 HB9 E99
  go_wp2_with (go_at_call 19; refine HSI.out.mono ?_; rintro e w10 ⟨rfl, hb10⟩; obtain ⟨hc10, hf10, hs10, he10⟩ := Ext.use (w := W9) hb10 (by repeat' (first | with_reducible assumption | with_reducible exact Ext.refl _ | with_reducible refine Ext.alloc ?_ _ | with_reducible refine Ext.drew ?_ | with_reducible refine Ext.drewN ?_ _ | with_reducible refine Ext.regrown ?_ _ _ | with_reducible refine Ext.setCell ?_ (by first | (simp; done) | (simp; omega)) _)); clear hb10)
  go_ret
  exact ⟨rfl, HE09.out.trans he10⟩
end Go.Proofs.YtcjjoabofecjmaaGreat

namespace Go.Proofs.YtcjjoabofecjmaaGreat
open Go.RowKit
theorem failS_same {t : Tsk} {reason : Int} (h : t.status = 3 ∨ t.blocks.length = 0) : failS t reason = t := by rw [failS, if_pos h]
theorem failS_hand {t : Tsk} {reason : Int} (h : ¬ (t.status = 3 ∨ t.blocks.length = 0)) (hi : inHand t = true) (hr : ¬ t.reason = 0) : failS t reason = { t with frames := t.frames.take (t.frames.length - 1), mask := wr64 (t.mask - 1) } := by
  rw [failS, if_neg h, if_pos ⟨hi, hr⟩]
theorem failS_all {t : Tsk} {reason : Int} (h : ¬ (t.status = 3 ∨ t.blocks.length = 0)) (hi : ¬ (inHand t = true ∧ t.reason ≠ 0)) : failS t reason = { t with reason := reason, result := 0, unw := true, level := 0, frames := [], mask := 0 } := by
  rw [failS, if_neg h, if_neg hi]
set_option maxRecDepth 4000 in
set_option maxHeartbeats 4000000 in
theorem fail_any (t : Tsk) (reason : Int) (V : Value) (w : World) (hV : RTsk w t V) (hnf : t.frames.length ≤ 1000) (hr : InR reason) :
    Calls Tryz.prog 39 #[V, Value.int .i64 reason] w fun e w' => ∃ V', e = .returned V' ∧ RTsk w' (failS t reason) V' ∧ Ext w w' := by
  have HV := Lib.hid hV
  have HI := Lib.hid hV.inr
  have HRR := Lib.hid hr
  have HH := Lib.hid (fun W h => handles_any t V W (hV.mono h))
  obtain ⟨Af, nf, cf, Ab, nb, cb, rfl, _, _, _, _, _, _, _, _, _, _, hF, hB, hcf, hcb⟩ := hV
  have LB := Lib.hid hB.len
  have hle := hF.le
  have hle2 := hB.le
  obtain ⟨cs, hcs, hone, hrd⟩ := RSl.cells (by omega) RFrm.stays RFrm.one (hF.take (Nat.sub_le nf 1))
  have HN := Lib.hid (hF.take (Nat.sub_le nf 1)).nil_of_none
  have HCS := Lib.hid hcs
  have HON := Lib.hid hone
  have HRD := Lib.hid hrd
  have HB := Lib.hid hB
  have LF := Lib.hid hF.len
  have HNF : Hid (nf ≤ 1000) := by have := hF.len; rw [Hid]; omega
  have hsub : inHand t = true → IntKind.i64.wrap ((nf : Int) - 1) = ((nf - 1 : Nat) : Int) := fun hin => by
    have hpos : 0 < nf := by have := inHand_pos hin; have := LF.out; omega
    rw [IntWalk.i64_in _ (by omega)]; omega
  have hd1 : ((nf - 1 : Nat) : Int) ≤ (cf : Int) := by omega
  have hd2 : (0 : Int) ≤ ((nf - 1 : Nat) : Int) := by omega
  clear hF hB hcs hone hrd hr hnf
  go_enter Tryz.func39, Tryz.ntmps39
  go_wp2_with (first | (first | ((with_reducible show Code.wp _ (Code.region _ (List.toArray ({ dst := _, op := Op.load 32 _, type := _, pos := _, after := _, guard := none } :: _)) false) _ _ _); refine wp_region_lit ?_; refine wpList_load_mid rfl 32 _ rfl _ _ rfl _ _ (by (repeat' (first | with_reducible assumption | ((with_reducible apply range_new); simp; done) | with_reducible apply range_old | with_reducible apply range_drew | ((with_reducible apply World.rangeAt_setCells_same) <;> (repeat' (first | with_reducible assumption | ((with_reducible apply there_new) <;> (simp; done)) | with_reducible apply there_old | with_reducible apply there_drew | with_reducible apply there_set | with_reducible apply there_sets | assumption))) | with_reducible apply range_same | ((with_reducible apply range_at) <;> first | omega | skip) | ((with_reducible apply range_other) <;> first | (simp; omega) | skip)))) Tryz.underlying32 rfl (by exact infoTsk) ?_; dsimp only [List.set_cons_zero, List.set_cons_succ]) | ((with_reducible show wpList _ _ _ ({ dst := _, op := Op.load 32 _, type := _, pos := _, after := _, guard := none } :: _) _ _); refine wpList_load_mid rfl 32 _ rfl _ _ rfl _ _ (by (repeat' (first | with_reducible assumption | ((with_reducible apply range_new); simp; done) | with_reducible apply range_old | with_reducible apply range_drew | ((with_reducible apply World.rangeAt_setCells_same) <;> (repeat' (first | with_reducible assumption | ((with_reducible apply there_new) <;> (simp; done)) | with_reducible apply there_old | with_reducible apply there_drew | with_reducible apply there_set | with_reducible apply there_sets | assumption))) | with_reducible apply range_same | ((with_reducible apply range_at) <;> first | omega | skip) | ((with_reducible apply range_other) <;> first | (simp; omega) | skip)))) Tryz.underlying32 rfl (by exact infoTsk) ?_; dsimp only [List.set_cons_zero, List.set_cons_succ])) | ((with_reducible show wpList _ _ _ ({ dst := _, op := Op.store 32 _ _, type := _, pos := _, after := _, guard := none } :: _) _ _); refine wpList_store_mid rfl 32 _ _ rfl _ _ _ rfl rfl (by (repeat' (first | with_reducible assumption | ((with_reducible apply there_new) <;> (simp; done)) | with_reducible apply there_old | with_reducible apply there_drew | with_reducible apply there_set | with_reducible apply there_sets | assumption))) infoTsk (all_oneCell_toArray (by simp [Value.oneCell'])) ?_; (try dsimp only [Act.put])) | (go_at_call 65; refine (HH.out _ (by repeat' (first | with_reducible assumption | with_reducible exact Ext.refl _ | with_reducible refine Ext.alloc ?_ _ | with_reducible refine Ext.drew ?_ | with_reducible refine Ext.drewN ?_ _ | with_reducible refine Ext.regrown ?_ _ _ | with_reducible refine Ext.setCell ?_ (by first | (simp; done) | (simp; omega)) _))).mono ?_; rintro e w1 ⟨rfl, hb⟩; have R1 := range_ext (b := w.heap.size) (o := 0) (cs := tskL t (.slice Af nf cf) (.slice Ab nb cb)) (by unfold tskL; (repeat' (first | with_reducible assumption | ((with_reducible apply range_new); simp; done) | with_reducible apply range_old | with_reducible apply range_drew | ((with_reducible apply World.rangeAt_setCells_same) <;> (repeat' (first | with_reducible assumption | ((with_reducible apply there_new) <;> (simp; done)) | with_reducible apply there_old | with_reducible apply there_drew | with_reducible apply there_set | with_reducible apply there_sets | assumption))) | with_reducible apply range_same | ((with_reducible apply range_at) <;> first | omega | skip) | ((with_reducible apply range_other) <;> first | (simp; omega) | skip)))) hb; have T1 := there_ext (b := w.heap.size + 1) (o := 0) (n := 14) (by (repeat' (first | with_reducible assumption | ((with_reducible apply there_new) <;> (simp; done)) | with_reducible apply there_old | with_reducible apply there_drew | with_reducible apply there_set | with_reducible apply there_sets | assumption))) hb; unfold tskL at R1; obtain ⟨hc, hf, hs, he⟩ := Ext.use (w := w) hb (by repeat' (first | with_reducible assumption | with_reducible exact Ext.refl _ | with_reducible refine Ext.alloc ?_ _ | with_reducible refine Ext.drew ?_ | with_reducible refine Ext.drewN ?_ _ | with_reducible refine Ext.regrown ?_ _ _ | with_reducible refine Ext.setCell ?_ (by first | (simp; done) | (simp; omega)) _)); clear hb; (try simp only [World.size_alloc] at hs); rcases hin : inHand t with _ | _) | (go_at_call 74; refine (cloneFrm Af (nf - 1) cf cs _ HN.out (HCS.out.mono (by repeat' (first | with_reducible assumption | with_reducible exact Ext.refl _ | with_reducible refine Ext.alloc ?_ _ | with_reducible refine Ext.drew ?_ | with_reducible refine Ext.drewN ?_ _ | with_reducible refine Ext.regrown ?_ _ _ | with_reducible refine Ext.setCell ?_ (by first | (simp; done) | (simp; omega)) _))) HON.out (by have := HNF.out; omega)).mono ?_; rintro e w2 ⟨v1, rfl, hown1, hb⟩; have R2 := range_ext R1 hb; have T2 := there_ext T1 hb; obtain ⟨hc2, hf2, hs2, he2⟩ := Ext.use (w := w) hb (by repeat' (first | with_reducible assumption | with_reducible exact Ext.refl _ | with_reducible refine Ext.alloc ?_ _ | with_reducible refine Ext.drew ?_ | with_reducible refine Ext.drewN ?_ _ | with_reducible refine Ext.regrown ?_ _ _ | with_reducible refine Ext.setCell ?_ (by first | (simp; done) | (simp; omega)) _)); have HO1 := Lib.hid hown1; obtain ⟨A1, c1, rfl, hc1, _⟩ := ownsRow_shape hown1; clear hb hown1; (try simp only [World.size_alloc] at hs2)))
  · rename_i h
    rw [failS_same (.inl h)]
    refine ret_range (b := w.heap.size + 1) Tryz.results39 rfl rfl rfl (World.rangeAt_setCells_same _ _ 0 _ (by (repeat' (first | with_reducible assumption | ((with_reducible apply there_new) <;> (simp; done)) | with_reducible apply there_old | with_reducible apply there_drew | with_reducible apply there_set | with_reducible apply there_sets | assumption)))) ⟨_, rfl, ?_, (by repeat' (first | with_reducible assumption | with_reducible refine Ext.setCells ?_ (by first | omega | (simp; done) | (simp; omega)) _ _ | with_reducible exact Ext.refl _ | with_reducible refine Ext.alloc ?_ _ | with_reducible refine Ext.drew ?_ | with_reducible refine Ext.drewN ?_ _ | with_reducible refine Ext.regrown ?_ _ _ | with_reducible refine Ext.setCell ?_ (by first | (simp; done) | (simp; omega)) _))⟩
    have h0 := HV.out
    rw [h] at h0
    exact h0.mono (by repeat' (first | with_reducible assumption | with_reducible refine Ext.setCells ?_ (by first | omega | (simp; done) | (simp; omega)) _ _ | with_reducible exact Ext.refl _ | with_reducible refine Ext.alloc ?_ _ | with_reducible refine Ext.drew ?_ | with_reducible refine Ext.drewN ?_ _ | with_reducible refine Ext.regrown ?_ _ _ | with_reducible refine Ext.setCell ?_ (by first | (simp; done) | (simp; omega)) _))
  · rename_i _ h
    rw [failS_same (by have h0 := LB.out; simp only [beq_iff_eq] at h; omega)]
    refine ret_range (b := w.heap.size + 1) Tryz.results39 rfl rfl rfl (World.rangeAt_setCells_same _ _ 0 _ (by (repeat' (first | with_reducible assumption | ((with_reducible apply there_new) <;> (simp; done)) | with_reducible apply there_old | with_reducible apply there_drew | with_reducible apply there_set | with_reducible apply there_sets | assumption)))) ⟨_, rfl, ?_, (by repeat' (first | with_reducible assumption | with_reducible refine Ext.setCells ?_ (by first | omega | (simp; done) | (simp; omega)) _ _ | with_reducible exact Ext.refl _ | with_reducible refine Ext.alloc ?_ _ | with_reducible refine Ext.drew ?_ | with_reducible refine Ext.drewN ?_ _ | with_reducible refine Ext.regrown ?_ _ _ | with_reducible refine Ext.setCell ?_ (by first | (simp; done) | (simp; omega)) _))⟩
    exact HV.out.mono (by repeat' (first | with_reducible assumption | with_reducible refine Ext.setCells ?_ (by first | omega | (simp; done) | (simp; omega)) _ _ | with_reducible exact Ext.refl _ | with_reducible refine Ext.alloc ?_ _ | with_reducible refine Ext.drew ?_ | with_reducible refine Ext.drewN ?_ _ | with_reducible refine Ext.regrown ?_ _ _ | with_reducible refine Ext.setCell ?_ (by first | (simp; done) | (simp; omega)) _))
  · rename_i h
    rw [failS_all (by have h0 := LB.out; simp only [beq_eq_false_iff_ne] at h; omega) (by rw [hin]; simp)]
    refine ret_range (b := w.heap.size + 1) Tryz.results39 rfl rfl rfl (World.rangeAt_setCells_same _ _ 0 _ (by (repeat' (first | with_reducible assumption | ((with_reducible apply there_new) <;> (simp; done)) | with_reducible apply there_old | with_reducible apply there_drew | with_reducible apply there_set | with_reducible apply there_sets | assumption)))) ⟨_, rfl, ?_, (by repeat' (first | with_reducible assumption | with_reducible refine Ext.setCells ?_ (by first | omega | (simp; done) | (simp; omega)) _ _ | with_reducible exact Ext.refl _ | with_reducible refine Ext.alloc ?_ _ | with_reducible refine Ext.drew ?_ | with_reducible refine Ext.drewN ?_ _ | with_reducible refine Ext.regrown ?_ _ _ | with_reducible refine Ext.setCell ?_ (by first | (simp; done) | (simp; omega)) _))⟩
    exact rtsk_of (t := { t with reason := reason, result := 0, unw := true, level := 0, frames := [], mask := 0 }) ⟨HI.out.1, HI.out.2.1, HI.out.2.2.1, HI.out.2.2.2.1, HI.out.2.2.2.2.1, HI.out.2.2.2.2.2.1, zero_in, zero_in, HRR.out, zero_in⟩ (RSl.nil _) (Nat.le_refl _) (HB.out.mono RBlk.stays (by repeat' (first | with_reducible assumption | with_reducible refine Ext.setCells ?_ (by first | omega | (simp; done) | (simp; omega)) _ _ | with_reducible exact Ext.refl _ | with_reducible refine Ext.alloc ?_ _ | with_reducible refine Ext.drew ?_ | with_reducible refine Ext.drewN ?_ _ | with_reducible refine Ext.regrown ?_ _ _ | with_reducible refine Ext.setCell ?_ (by first | (simp; done) | (simp; omega)) _))) hcb
  · have h1 : (t.status == 3) = false ∧ ((nb : Int) == 0) = false := by assumption
    have h : (t.reason != 0) = true := by assumption
    rw [failS_hand (by have h0 := LB.out; simp only [beq_eq_false_iff_ne] at h1; omega) hin (by simpa using h)]
    refine ret_range (b := w.heap.size + 1) Tryz.results39 rfl rfl rfl (World.rangeAt_setCells_same _ _ 0 _ (by (repeat' (first | with_reducible assumption | ((with_reducible apply there_new) <;> (simp; done)) | with_reducible apply there_old | with_reducible apply there_drew | with_reducible apply there_set | with_reducible apply there_sets | assumption)))) ⟨_, rfl, ?_, (by repeat' (first | with_reducible assumption | with_reducible refine Ext.setCells ?_ (by first | omega | (simp; done) | (simp; omega)) _ _ | with_reducible exact Ext.refl _ | with_reducible refine Ext.alloc ?_ _ | with_reducible refine Ext.drew ?_ | with_reducible refine Ext.drewN ?_ _ | with_reducible refine Ext.regrown ?_ _ _ | with_reducible refine Ext.setCell ?_ (by first | (simp; done) | (simp; omega)) _))⟩
    have HRr : ∀ W, Ext w W → W.ownsRow (w.heap.size + 1 + 1) 62 5 (.slice A1 (nf - 1) c1) (nf - 1) cs → RSl 5 RFrm W A1 (nf - 1) (t.frames.take (nf - 1)) := fun W hE hO => by
      obtain ⟨A', c', e, _, hr⟩ := row_reads (A := none) hE HRD.out hO
      injection e with e1 e2 e3
      subst e1
      exact hr
    have HOm : w2.ownsRow (w.heap.size + 1 + 1) 62 5 (.slice A1 (nf - 1) c1) (nf - 1) cs := World.ownsRow.mono HO1.out (by omega)
    refine rtsk_of (t := { t with frames := t.frames.take (t.frames.length - 1), mask := wr64 (t.mask - 1) }) ⟨HI.out.1, HI.out.2.1, HI.out.2.2.1, HI.out.2.2.2.1, HI.out.2.2.2.2.1, HI.out.2.2.2.2.2.1, wr64_in _, HI.out.2.2.2.2.2.2.2.1, HI.out.2.2.2.2.2.2.2.2.1, HI.out.2.2.2.2.2.2.2.2.2⟩ ?_ hc1 (HB.out.mono RBlk.stays (by repeat' (first | with_reducible assumption | with_reducible refine Ext.setCells ?_ (by first | omega | (simp; done) | (simp; omega)) _ _ | with_reducible exact Ext.refl _ | with_reducible refine Ext.alloc ?_ _ | with_reducible refine Ext.drew ?_ | with_reducible refine Ext.drewN ?_ _ | with_reducible refine Ext.regrown ?_ _ _ | with_reducible refine Ext.setCell ?_ (by first | (simp; done) | (simp; omega)) _))) hcb
    show RSl 5 RFrm _ A1 (nf - 1) (t.frames.take (t.frames.length - 1))
    rw [← LF.out]
    exact HRr _ (by repeat' (first | with_reducible assumption | with_reducible refine Ext.setCells ?_ (by first | omega | (simp; done) | (simp; omega)) _ _ | with_reducible exact Ext.refl _ | with_reducible refine Ext.alloc ?_ _ | with_reducible refine Ext.drew ?_ | with_reducible refine Ext.drewN ?_ _ | with_reducible refine Ext.regrown ?_ _ _ | with_reducible refine Ext.setCell ?_ (by first | (simp; done) | (simp; omega)) _)) (own_setCells (own_setCell (own_setCell HOm (show w.heap.size < _ by omega)) (show w.heap.size < _ by omega)) (by omega))
  · have h1 : (t.status == 3) = false ∧ ((nb : Int) == 0) = false := by assumption
    have h : (t.reason != 0) = false := by assumption
    rw [failS_all (by have h0 := LB.out; simp only [beq_eq_false_iff_ne] at h1; omega) (by rw [show t.reason = 0 by simpa using h]; simp)]
    refine ret_range (b := w.heap.size + 1) Tryz.results39 rfl rfl rfl (World.rangeAt_setCells_same _ _ 0 _ (by (repeat' (first | with_reducible assumption | ((with_reducible apply there_new) <;> (simp; done)) | with_reducible apply there_old | with_reducible apply there_drew | with_reducible apply there_set | with_reducible apply there_sets | assumption)))) ⟨_, rfl, ?_, (by repeat' (first | with_reducible assumption | with_reducible refine Ext.setCells ?_ (by first | omega | (simp; done) | (simp; omega)) _ _ | with_reducible exact Ext.refl _ | with_reducible refine Ext.alloc ?_ _ | with_reducible refine Ext.drew ?_ | with_reducible refine Ext.drewN ?_ _ | with_reducible refine Ext.regrown ?_ _ _ | with_reducible refine Ext.setCell ?_ (by first | (simp; done) | (simp; omega)) _))⟩
    exact rtsk_of (t := { t with reason := reason, result := 0, unw := true, level := 0, frames := [], mask := 0 }) ⟨HI.out.1, HI.out.2.1, HI.out.2.2.1, HI.out.2.2.2.1, HI.out.2.2.2.2.1, HI.out.2.2.2.2.2.1, zero_in, zero_in, HRR.out, zero_in⟩ (RSl.nil _) (Nat.le_refl _) (HB.out.mono RBlk.stays (by repeat' (first | with_reducible assumption | with_reducible refine Ext.setCells ?_ (by first | omega | (simp; done) | (simp; omega)) _ _ | with_reducible exact Ext.refl _ | with_reducible refine Ext.alloc ?_ _ | with_reducible refine Ext.drew ?_ | with_reducible refine Ext.drewN ?_ _ | with_reducible refine Ext.regrown ?_ _ _ | with_reducible refine Ext.setCell ?_ (by first | (simp; done) | (simp; omega)) _))) hcb
end Go.Proofs.YtcjjoabofecjmaaGreat
