/- A part of the proof: masked of the reference of layer 28; masked of the reference. -/
import Derived.Test.YtcjjoabofecjmaaGreatQ42
set_option linter.unusedVariables false
set_option linter.unusedSimpArgs false
set_option maxHeartbeats 16000000
namespace Go.Proofs.YtcjjoabofecjmaaGreat
open Go.RowKit Go.Sort
open Go.Value (int)
theorem cold_sets {g : Nat} : ∀ (vs : List Value) {w : World} (_ : Cold w g) (b o : Nat),Cold (w.setCells b o vs) g
 | [],_,h,_,_ => h
 | v :: vs,_,h,b,o => cold_sets vs (h.setCell ⟨b,o,none⟩ v) b (o + 1)
theorem Ownd.put {w0 : Bs} {w : World} {b : Nat} {W : World} {t u : Tsk} {VF VB : Value} {rs hs : List Value} {gs : List (List Value)} (h : Ownd w0 w b W t VF VB rs hs gs) (hc : Cold W b) (hb : w.heap.size ≤ b) (k : Nat) (x : Value) (h1 : u.frames = t.frames) (h2 : u.blocks = t.blocks) (h3 : (tskL t VF VB).set k x = tskL u VF VB) :
  Ownd w0 w b (W.setCell ⟨b,k,none⟩ x) u VF VB rs hs gs := by
 have hG := grown_setCell W ⟨b,k,none⟩ x
 have he0 := h.e0.size
 refine ⟨?_,fun L hL => ?_, ?_,there_set h.thr,h.ext.setCell (show w.heap.size ≤ b from hb) _,h.e0⟩
 ·rw [h1]
  exact h.fr.kept hG (row_cold h.fr.row (by decide) hc) (fun y hy => by obtain ⟨m,xs,hh⟩ := fr_rows h.fr hy;exact row_cold hh (by decide) hc)
 ·rw [h2]
  have hB1 := h.bl (.slice (some ⟨b,0,none⟩) 0 0 :: L) (fun r hr y hy => by
   rcases List.mem_cons.1 hr with rfl | hr
   ·simp only [Value.ownBlock,Option.some.injEq] at hy;exact .inl (by omega)
   ·exact hL r hr y hy)
  exact (hB1.wrote hG (row_cold hB1.row (by decide) hc) (fun y hy => by obtain ⟨m,xs,hh⟩ := bl_rows hB1 hy;exact row_cold hh (by decide) hc) List.mem_cons_self rfl).list fun r' hr' => ⟨r',List.mem_cons_of_mem _ hr',rfl⟩
 ·rw [← h3]
  exact range_same h.box
set_option maxRecDepth 4000 in
theorem masked_go (t : Tsk) (f : Frm) (VF VB : Value) (op m : Int) (w0 : Bs) (w : World) (hT : BTsk w0 t (.agg (tskL t VF VB).toArray)) (h0 : BExt w0 w) (hf : topF t = some f) (hz : Siz t) (hpc : 0 ≤ f.pc ∧ f.pc ≤ 1000) (hm : 0 ≤ t.mask ∧ t.mask ≤ 1000) (b : Blk) (hb : lastB t = some b)
  (hop : (op = 18 ∧ t.mask < 100 ∧ m = t.mask + 1) ∨ (op = 19 ∧ t.mask ≠ 0 ∧ t.mask ≠ b.mask ∧ m = t.mask - 1)) :
  Calls Tryz.prog 100 #[.agg (tskL t VF VB).toArray,int .i64 op] w (ResPost ({ setTop t { f with pc := f.pc + 1 } with mask := m },goOn) w0 w) := by
 obtain ⟨Af,cf,Ab,cb,rfl,rfl,_,hBB,_,_⟩ := (hT.mono h0).two
 have HT := Lib.hid hT
 have HI := Lib.hid (hT.mono h0).inr
 have H0 := Lib.hid h0
 have HSZ := Lib.hid hz
 have hFk : t.frames[t.frames.length - 1]? = some f := hf
 have hpos : 0 < t.frames.length := by
  have := (List.getElem?_eq_some_iff.1 hFk).1;omega
 have hle : t.frames.length ≤ 9223372036854775807 := by have := hz.1;omega
 have hbpos : 0 < t.blocks.length := by
  have := (List.getElem?_eq_some_iff.1 (show t.blocks[t.blocks.length - 1]? = some b from hb)).1;omega
 have hble : t.blocks.length ≤ 9223372036854775807 := by have := hz.2.1;omega
 obtain ⟨bb,ob,Ah,nh,ch,rfl,hlb,_,_,_,_,_,_,_,_,d3,_⟩ := hBB.blk (show t.blocks[t.blocks.length - 1]? = some b from hb)
 have dd := d3
 have zb := lt_of_cell dd
 have HFk := Lib.hid hf
 have hwp : wrap64 (f.pc + 1) = f.pc + 1 := by unfold wrap64;omega
 have hwm : wrap64 (t.mask + 1) = t.mask + 1 := by unfold wrap64;omega
 unfold Siz at hz
 have HZ := Lib.hid hz
 have HM : Hid (InR m) := by rcases hop with ⟨_,_,h⟩ | ⟨_,_,_,h⟩ <;> exact ⟨by omega,by omega⟩
 clear hT hf hz hb h0 hFk hBB d3 hlb
 unfold tskL at HT ⊢
 rcases hop with ⟨rfl,hlt,hmm⟩ | ⟨rfl,hn0,hnb,hmm⟩
 ·have hge : ¬ (100 : Int) ≤ t.mask := by omega
  have HMM := Lib.hid hmm
  clear hmm
  go_enter Tryz.func100,Tryz.ntmps100
  go_upto_region 1 with fail
  refine wp_hid2 ?_
  intro W0 HW0
  have HX0 : Hid (Ext w W0) := by rw [Hid,HW0.out];exact xt
  have R0 : W0.rangeAt w.heap.size 0 [int .i64 t.fn,int .i64 t.scope,int .i64 t.prio,int .i64 t.status,int .i64 t.wkind,int .i64 t.windex,.bool t.wagain,.slice Af t.frames.length cf,.slice (some ⟨bb,ob,none⟩) t.blocks.length cb,int .i64 t.mask,.bool t.unw,int .i64 t.level,int .i64 t.reason,int .i64 t.result] := by rw [HW0.out];exact rg
  have T0 : W0.there (w.heap.size + 1) 0 17 := by rw [HW0.out];exact tr
  have C0 : Cold W0 (w.heap.size + 1) := by rw [HW0.out];exact cold_new (by simp) rfl
  have m9 : W0.cell? ⟨w.heap.size,9,none⟩ = some (int .i64 t.mask) := R0 9 _ rfl
  have m8 : W0.cell? ⟨w.heap.size,8,none⟩ = some (.slice (some ⟨bb,ob,none⟩) t.blocks.length cb) := R0 8 _ rfl
  have zz := lt_of_cell m9
  have dd0 := HX0.out.cell dd
  have zb0 := lt_of_cell dd0
  have hz0 : w.heap.size + 1 < W0.heap.size := by rw [HW0.out];simp
  clear HW0
  go_upto_region 1 with fail
  (refine wp_region_quiet_below (by kernel_rfl) (by kernel_rfl) ?_;(repeat (go_big_quiet_step (fail)));refine wpQuiet_nil fun w1 h1 => ?_;obtain ⟨hc,hf,hs,he⟩ := eu (w := W0) h1 xt;clear h1;(try simp only [sA,sC,sD,sN] at hs))
  have HX1 : Hid (Ext W0 w1) := he
  have R1 := range_ext R0 he
  have T1 := there_ext T0 he
  have C1 := C0.ext he
  have n9 := he.cell m9
  have HY1 : Hid (Ext w w1) := HX0.out.trans he
  have zz1 := lt_of_cell n9
  have hz1 : w.heap.size + 1 < w1.heap.size := Nat.lt_of_lt_of_le hz0 he.size
  clear hc hf hs he R0 T0 C0 m9 m8 dd dd0 zb0 zz
  go_upto_region 6 with (first | ((first | (with_reducible refine jl 32 ?_) | (with_reducible refine il 32 ?_));refine ldm Tryz.underlying32 rfl rfl rfl (by exact rg) rfl (by exact infoTsk) ?_;dsimp only [dZ,dS]) | ((with_reducible refine ik 32 ?_);refine stm rfl rfl rfl rfl (by exact tr) infoTsk (all_oneCell_toArray (by simp [Value.oneCell'])) ?_;(try dsimp only [Act.put])) | (go_at_call 73;(with_reducible refine (ownB_any t _ w0 _ HT.out (H0.out.trans HY1.out) HZ.out.1 HZ.out.2.1 HZ.out.2.2.1 HZ.out.2.2.2).mono ?_);rintro e w3 ⟨VF,VB,rs,hs,gs,rfl,hOF,hOB,hb⟩;have U3 := there_ext T1 hb;have HX3 : Hid (Ext w w3) := Ext.trans HY1.out hb;have HCD : Hid (Cold w3 (w.heap.size + 1)) := C1.ext hb;have HOF := Lib.hid (hOF.base (B' := w.heap.size) (by omega));have HOB := Lib.hid (fun L hL => (hOB L hL).base (B' := w.heap.size) (by omega));have hz3 : w.heap.size + 1 + 1 ≤ w3.heap.size := (by have := hb.size;omega);obtain ⟨gF,cF,rfl,hgF⟩ := own_form HOF.out.row hpos;obtain ⟨AB,cB,rfl,hcB,_⟩ := ownsRow_shape (HOB.out [] (blow_nil _)).row;clear hOF hOB hb))
  refine wp_hid2 ?_
  intro W4 HW4
  obtain ⟨HO,hX4⟩ := ownd_new H0.out HOF.out HOB.out HX3.out rfl HW4.out
  have U4 := there_ext U3 hX4
  have hc4 : Cold W4 (w.heap.size + 1) := (HCD.out).ext hX4
  have hb4 : Cold W4 w3.heap.size := by rw [HW4.out];exact cold_sets _ (Cold.alloc rfl) _ _
  have hgFb : ¬ gF = w3.heap.size := by have := (HOF.out.row.lt gF rfl).2;omega
  obtain ⟨q1,q2,_⟩ := HO.pc rfl HFk.out hgFb (by omega)
  have b5 : W4.cell? ⟨w3.heap.size,7,none⟩ = some (.slice (some ⟨gF,0,none⟩) t.frames.length cF) := HO.box 7 _ rfl
  have zF := lt_of_cell q1
  have zB := lt_of_cell b5
  have HO4 := Lib.hid HO
  clear HW4 hX4 U3 HO R1 T1 C1 n9
  go_upto_region 7 with fail
  (refine wp_region_quiet_tail 12 (by kernel_rfl) (by kernel_rfl) ?_;(try simp only [List.take_succ_cons,List.take_zero,List.drop_succ_cons,List.drop_zero]);(repeat (go_big_quiet_step (fail)));refine wpQuiet_nil fun w1 h1 => ?_;obtain ⟨hc,hf,hs,he⟩ := eu (w := W4) h1 xt;clear h1;(try simp only [sA,sC,sD,sN] at hs))
  have HO6 := Lib.hid (HO4.out.mono he)
  have U6 := there_ext U4 he
  have hc6 := hc4.ext he
  have hb6 := hb4.ext he
  obtain ⟨q4,q5,q6⟩ := HO6.out.pc (gF := gF) (cF := cF) rfl HFk.out hgFb (by omega)
  have HQ2 := Lib.hid (q6 (f.pc + 1) ⟨by omega,by omega⟩)
  clear q6 hc hf hs he HO4 q1 q2 b5 U4 hc4 hb4
  go_upto_region 8 with fail
  refine wp_hid2 ?_
  intro W7 HW7
  have HO7 : Hid (Ownd w0 w w3.heap.size W7 (setTop t { f with pc := f.pc + 1 }) (.slice (some ⟨gF,0,none⟩) t.frames.length cF) (.slice AB t.blocks.length cB) rs hs gs) := by rw [Hid,HW7.out];exact HQ2.out
  have U7 : W7.there (w.heap.size + 1) 0 17 := by rw [HW7.out];exact there_set U6
  have hc7 : Cold W7 (w.heap.size + 1) := by rw [HW7.out];exact hc6.setCell _ _
  have hb7 : Cold W7 w3.heap.size := by rw [HW7.out];exact hb6.setCell _ _
  have r9 : W7.cell? ⟨w3.heap.size,9,none⟩ = some (int .i64 t.mask) := HO7.out.box 9 _ rfl
  have f9 := (HO7.out.thr 9 (by omega)).2
  have zB7 := lt_of_cell r9
  clear HW7 HQ2 U6 hc6 hb6 q4 q5
  go_upto_region 11 with fail
  refine wp_hid2 ?_
  intro W9 HW9
  have HO9 : Hid (Ownd w0 w w3.heap.size W9 { setTop t { f with pc := f.pc + 1 } with mask := m } (.slice (some ⟨gF,0,none⟩) t.frames.length cF) (.slice AB t.blocks.length cB) rs hs gs) := by
   rw [Hid,HW9.out,HMM.out]
   exact HO7.out.put hb7 (by omega) 9 (int .i64 (t.mask + 1)) rfl rfl rfl
  have U9 : W9.there (w.heap.size + 1) 0 17 := by rw [HW9.out];exact there_set U7
  have hc9 : Cold W9 (w.heap.size + 1) := by rw [HW9.out];exact hc7.setCell _ _
  have R9 : W9.rangeAt w3.heap.size 0 [int .i64 t.fn,int .i64 t.scope,int .i64 t.prio,int .i64 t.status,int .i64 t.wkind,int .i64 t.windex,.bool t.wagain,.slice (some ⟨gF,0,none⟩) t.frames.length cF,.slice AB t.blocks.length cB,int .i64 m,.bool t.unw,int .i64 t.level,int .i64 t.reason,int .i64 t.result] := HO9.out.box
  clear HW9 HO7 U7 hc7 hb7 r9 f9
  go_wp2_with (first | ((first | (with_reducible refine jl 32 ?_) | (with_reducible refine il 32 ?_));refine ldm Tryz.underlying32 rfl rfl rfl (by exact rg) rfl (by exact infoTsk) ?_;dsimp only [dZ,dS]) | ((first | (with_reducible refine jk 102 ?_) | (with_reducible refine ik 102 ?_));refine stm rfl rfl rfl rfl (by exact tr) infoRes (all_oneCell_toArray (by simp [Value.oneCell'])) ?_;(try dsimp only [Act.put])))
  refine ret_rangeR (b := w.heap.size + 1) Tryz.results100 rfl rfl ?hl18 (World.rangeAt_setCells_same _ _ 0 _ ?ht18) ?hf18
  case hl18 => rfl
  case ht18 => exact U9
  case hf18 => exact HO9.out.fin (s := goOn) (siz_top HSZ.out HFk.out rfl) ⟨HI.out.1,HI.out.2.1,HI.out.2.2.1,HI.out.2.2.2.1,HI.out.2.2.2.2.1,HI.out.2.2.2.2.2.1,HM.out,HI.out.2.2.2.2.2.2.2⟩ (by omega) hc9 _
 ·have HMM := Lib.hid hmm
  clear hmm
  have e1 : (t.mask == 0) = false := by simpa using hn0
  have e2 : (t.mask == b.mask) = false := by simpa using hnb
  have hw2 : wrap64 (t.mask + 1 - 2) = t.mask - 1 := by unfold wrap64;omega
  have hw3 : wrap64 (t.mask - 1) = t.mask - 1 := by unfold wrap64;omega
  have hw4 : t.mask + 1 - 2 = t.mask - 1 := by omega
  go_enter Tryz.func100,Tryz.ntmps100
  go_upto_region 1 with fail
  refine wp_hid2 ?_
  intro W0 HW0
  have HX0 : Hid (Ext w W0) := by rw [Hid,HW0.out];exact xt
  have R0 : W0.rangeAt w.heap.size 0 [int .i64 t.fn,int .i64 t.scope,int .i64 t.prio,int .i64 t.status,int .i64 t.wkind,int .i64 t.windex,.bool t.wagain,.slice Af t.frames.length cf,.slice (some ⟨bb,ob,none⟩) t.blocks.length cb,int .i64 t.mask,.bool t.unw,int .i64 t.level,int .i64 t.reason,int .i64 t.result] := by rw [HW0.out];exact rg
  have T0 : W0.there (w.heap.size + 1) 0 17 := by rw [HW0.out];exact tr
  have C0 : Cold W0 (w.heap.size + 1) := by rw [HW0.out];exact cold_new (by simp) rfl
  have m9 : W0.cell? ⟨w.heap.size,9,none⟩ = some (int .i64 t.mask) := R0 9 _ rfl
  have m8 : W0.cell? ⟨w.heap.size,8,none⟩ = some (.slice (some ⟨bb,ob,none⟩) t.blocks.length cb) := R0 8 _ rfl
  have zz := lt_of_cell m9
  have dd0 := HX0.out.cell dd
  have zb0 := lt_of_cell dd0
  have hz0 : w.heap.size + 1 < W0.heap.size := by rw [HW0.out];simp
  clear HW0
  go_upto_region 1 with fail
  (refine wp_region_quiet_below (by kernel_rfl) (by kernel_rfl) ?_;(repeat (go_big_quiet_step (fail)));refine wpQuiet_nil fun w1 h1 => ?_;obtain ⟨hc,hf,hs,he⟩ := eu (w := W0) h1 xt;clear h1;(try simp only [sA,sC,sD,sN] at hs))
  have HX1 : Hid (Ext W0 w1) := he
  have R1 := range_ext R0 he
  have T1 := there_ext T0 he
  have C1 := C0.ext he
  have n9 := he.cell m9
  have HY1 : Hid (Ext w w1) := HX0.out.trans he
  have zz1 := lt_of_cell n9
  have hz1 : w.heap.size + 1 < w1.heap.size := Nat.lt_of_lt_of_le hz0 he.size
  clear hc hf hs he R0 T0 C0 m9 m8 dd dd0 zb0 zz
  go_upto_region 6 with (first | ((first | (with_reducible refine jl 32 ?_) | (with_reducible refine il 32 ?_));refine ldm Tryz.underlying32 rfl rfl rfl (by exact rg) rfl (by exact infoTsk) ?_;dsimp only [dZ,dS]) | ((with_reducible refine ik 32 ?_);refine stm rfl rfl rfl rfl (by exact tr) infoTsk (all_oneCell_toArray (by simp [Value.oneCell'])) ?_;(try dsimp only [Act.put])) | (go_at_call 73;(with_reducible refine (ownB_any t _ w0 _ HT.out (H0.out.trans HY1.out) HZ.out.1 HZ.out.2.1 HZ.out.2.2.1 HZ.out.2.2.2).mono ?_);rintro e w3 ⟨VF,VB,rs,hs,gs,rfl,hOF,hOB,hb⟩;have U3 := there_ext T1 hb;have HX3 : Hid (Ext w w3) := Ext.trans HY1.out hb;have HCD : Hid (Cold w3 (w.heap.size + 1)) := C1.ext hb;have HOF := Lib.hid (hOF.base (B' := w.heap.size) (by omega));have HOB := Lib.hid (fun L hL => (hOB L hL).base (B' := w.heap.size) (by omega));have hz3 : w.heap.size + 1 + 1 ≤ w3.heap.size := (by have := hb.size;omega);obtain ⟨gF,cF,rfl,hgF⟩ := own_form HOF.out.row hpos;obtain ⟨AB,cB,rfl,hcB,_⟩ := ownsRow_shape (HOB.out [] (blow_nil _)).row;clear hOF hOB hb))
  refine wp_hid2 ?_
  intro W4 HW4
  obtain ⟨HO,hX4⟩ := ownd_new H0.out HOF.out HOB.out HX3.out rfl HW4.out
  have U4 := there_ext U3 hX4
  have hc4 : Cold W4 (w.heap.size + 1) := (HCD.out).ext hX4
  have hb4 : Cold W4 w3.heap.size := by rw [HW4.out];exact cold_sets _ (Cold.alloc rfl) _ _
  have hgFb : ¬ gF = w3.heap.size := by have := (HOF.out.row.lt gF rfl).2;omega
  obtain ⟨q1,q2,_⟩ := HO.pc rfl HFk.out hgFb (by omega)
  have b5 : W4.cell? ⟨w3.heap.size,7,none⟩ = some (.slice (some ⟨gF,0,none⟩) t.frames.length cF) := HO.box 7 _ rfl
  have zF := lt_of_cell q1
  have zB := lt_of_cell b5
  have HO4 := Lib.hid HO
  clear HW4 hX4 U3 HO R1 T1 C1 n9
  go_upto_region 7 with fail
  (refine wp_region_quiet_tail 12 (by kernel_rfl) (by kernel_rfl) ?_;(try simp only [List.take_succ_cons,List.take_zero,List.drop_succ_cons,List.drop_zero]);(repeat (go_big_quiet_step (fail)));refine wpQuiet_nil fun w1 h1 => ?_;obtain ⟨hc,hf,hs,he⟩ := eu (w := W4) h1 xt;clear h1;(try simp only [sA,sC,sD,sN] at hs))
  have HO6 := Lib.hid (HO4.out.mono he)
  have U6 := there_ext U4 he
  have hc6 := hc4.ext he
  have hb6 := hb4.ext he
  obtain ⟨q4,q5,q6⟩ := HO6.out.pc (gF := gF) (cF := cF) rfl HFk.out hgFb (by omega)
  have HQ2 := Lib.hid (q6 (f.pc + 1) ⟨by omega,by omega⟩)
  clear q6 hc hf hs he HO4 q1 q2 b5 U4 hc4 hb4
  go_upto_region 8 with fail
  refine wp_hid2 ?_
  intro W7 HW7
  have HO7 : Hid (Ownd w0 w w3.heap.size W7 (setTop t { f with pc := f.pc + 1 }) (.slice (some ⟨gF,0,none⟩) t.frames.length cF) (.slice AB t.blocks.length cB) rs hs gs) := by rw [Hid,HW7.out];exact HQ2.out
  have U7 : W7.there (w.heap.size + 1) 0 17 := by rw [HW7.out];exact there_set U6
  have hc7 : Cold W7 (w.heap.size + 1) := by rw [HW7.out];exact hc6.setCell _ _
  have hb7 : Cold W7 w3.heap.size := by rw [HW7.out];exact hb6.setCell _ _
  have r9 : W7.cell? ⟨w3.heap.size,9,none⟩ = some (int .i64 t.mask) := HO7.out.box 9 _ rfl
  have f9 := (HO7.out.thr 9 (by omega)).2
  have zB7 := lt_of_cell r9
  clear HW7 HQ2 U6 hc6 hb6 q4 q5
  go_upto_region 11 with fail
  refine wp_hid2 ?_
  intro W9 HW9
  have HO9 : Hid (Ownd w0 w w3.heap.size W9 { setTop t { f with pc := f.pc + 1 } with mask := m } (.slice (some ⟨gF,0,none⟩) t.frames.length cF) (.slice AB t.blocks.length cB) rs hs gs) := by
   rw [Hid,HW9.out,HMM.out]
   exact (HO7.out.put (u := { setTop t { f with pc := f.pc + 1 } with mask := t.mask + 1 }) hb7 (by omega) 9 (int .i64 (t.mask + 1)) rfl rfl rfl).put (hb7.setCell _ _) (by omega) 9 (int .i64 (t.mask - 1)) rfl rfl rfl
  have U9 : W9.there (w.heap.size + 1) 0 17 := by rw [HW9.out];exact there_set (there_set U7)
  have hc9 : Cold W9 (w.heap.size + 1) := by rw [HW9.out];exact (hc7.setCell _ _).setCell _ _
  have R9 : W9.rangeAt w3.heap.size 0 [int .i64 t.fn,int .i64 t.scope,int .i64 t.prio,int .i64 t.status,int .i64 t.wkind,int .i64 t.windex,.bool t.wagain,.slice (some ⟨gF,0,none⟩) t.frames.length cF,.slice AB t.blocks.length cB,int .i64 m,.bool t.unw,int .i64 t.level,int .i64 t.reason,int .i64 t.result] := HO9.out.box
  clear HW9 HO7 U7 hc7 hb7 r9 f9
  go_wp2_with (first | ((first | (with_reducible refine jl 32 ?_) | (with_reducible refine il 32 ?_));refine ldm Tryz.underlying32 rfl rfl rfl (by exact rg) rfl (by exact infoTsk) ?_;dsimp only [dZ,dS]) | ((first | (with_reducible refine jk 102 ?_) | (with_reducible refine ik 102 ?_));refine stm rfl rfl rfl rfl (by exact tr) infoRes (all_oneCell_toArray (by simp [Value.oneCell'])) ?_;(try dsimp only [Act.put])))
  refine ret_rangeR (b := w.heap.size + 1) Tryz.results100 rfl rfl ?hl19 (World.rangeAt_setCells_same _ _ 0 _ ?ht19) ?hf19
  case hl19 => rfl
  case ht19 => exact U9
  case hf19 => exact HO9.out.fin (s := goOn) (siz_top HSZ.out HFk.out rfl) ⟨HI.out.1,HI.out.2.1,HI.out.2.2.1,HI.out.2.2.2.1,HI.out.2.2.2.2.1,HI.out.2.2.2.2.2.1,HM.out,HI.out.2.2.2.2.2.2.2⟩ (by omega) hc9 _
set_option maxRecDepth 4000 in
theorem masked_fail (t : Tsk) (VF VB : Value) (op q : Int) (w0 : Bs) (w : World) (hT : BTsk w0 t (.agg (tskL t VF VB).toArray)) (h0 : BExt w0 w) (hz : Siz t) (b : Blk) (hb : lastB t = some b)
  (hop : (op = 18 ∧ 100 ≤ t.mask ∧ q = 7) ∨ (op = 19 ∧ (t.mask = 0 ∨ t.mask = b.mask) ∧ q = 8)) :
  Calls Tryz.prog 100 #[.agg (tskL t VF VB).toArray,int .i64 op] w (ResPost (failT t q) w0 w) := by
 obtain ⟨Af,cf,Ab,cb,rfl,rfl,_,hBB,_,_⟩ := (hT.mono h0).two
 have hbpos : 0 < t.blocks.length := by
  have := (List.getElem?_eq_some_iff.1 (show t.blocks[t.blocks.length - 1]? = some b from hb)).1;omega
 have hble : t.blocks.length ≤ 9223372036854775807 := by have := hz.2.1;omega
 obtain ⟨bb,ob,Ah,nh,ch,rfl,hlb,_,_,_,_,_,_,_,_,d3,_⟩ := hBB.blk (show t.blocks[t.blocks.length - 1]? = some b from hb)
 have dd := d3
 have zb := lt_of_cell dd
 have HFA : Hid (∀ W,Ext w W → Calls Tryz.prog 70 #[.agg (tskL t (.slice Af t.frames.length cf) (.slice (some ⟨bb,ob,none⟩) t.blocks.length cb)).toArray,int .i64 q] W (ResPost (failT t q) w0 W)) := fun W hW => failed_any t _ _ q w0 W hT (h0.trans hW)
 clear hT hz hb h0 hBB d3 hlb
 unfold tskL at HFA ⊢
 rcases hop with ⟨rfl,hge,rfl⟩ | ⟨rfl,hor,rfl⟩
 ·have hne : ¬ t.mask < 100 := by omega
  go_enter Tryz.func100,Tryz.ntmps100
  go_upto_region 1 with fail
  refine wp_hid2 ?_
  intro W0 HW0
  have HX0 : Hid (Ext w W0) := by rw [Hid,HW0.out];exact xt
  have R0 : W0.rangeAt w.heap.size 0 [int .i64 t.fn,int .i64 t.scope,int .i64 t.prio,int .i64 t.status,int .i64 t.wkind,int .i64 t.windex,.bool t.wagain,.slice Af t.frames.length cf,.slice (some ⟨bb,ob,none⟩) t.blocks.length cb,int .i64 t.mask,.bool t.unw,int .i64 t.level,int .i64 t.reason,int .i64 t.result] := by rw [HW0.out];exact rg
  have T0 : W0.there (w.heap.size + 1) 0 17 := by rw [HW0.out];exact tr
  have m9 : W0.cell? ⟨w.heap.size,9,none⟩ = some (int .i64 t.mask) := R0 9 _ rfl
  have m8 : W0.cell? ⟨w.heap.size,8,none⟩ = some (.slice (some ⟨bb,ob,none⟩) t.blocks.length cb) := R0 8 _ rfl
  have zz := lt_of_cell m9
  have dd0 := HX0.out.cell dd
  have zb0 := lt_of_cell dd0
  have hz0 : w.heap.size + 1 < W0.heap.size := by rw [HW0.out];simp
  clear HW0
  go_upto_region 1 with fail
  (refine wp_region_quiet_below (by kernel_rfl) (by kernel_rfl) ?_;(repeat (go_big_quiet_step (fail)));refine wpQuiet_nil fun w1 h1 => ?_;obtain ⟨hc,hf,hs,he⟩ := eu (w := W0) h1 xt;clear h1;(try simp only [sA,sC,sD,sN] at hs))
  have R1 := range_ext R0 he
  have T1 := there_ext T0 he
  have n9 := he.cell m9
  have HY1 : Hid (Ext w w1) := HX0.out.trans he
  have zz1 := lt_of_cell n9
  have hz1 : w.heap.size + 1 < w1.heap.size := Nat.lt_of_lt_of_le hz0 he.size
  clear hc hf hs he R0 T0 m9 m8 dd dd0 zb0 zz
  go_wp2_with (first | ((first | (with_reducible refine jl 32 ?_) | (with_reducible refine il 32 ?_));refine ldm Tryz.underlying32 rfl rfl rfl (by exact rg) rfl (by exact infoTsk) ?_;dsimp only [dZ,dS]) | ((first | (with_reducible refine jk 102 ?_) | (with_reducible refine ik 102 ?_));refine stm rfl rfl rfl rfl (by exact tr) infoRes (all_oneCell_toArray (by simp [Value.oneCell'])) ?_;(try dsimp only [Act.put])) | (go_at_call 70;refine (HFA.out _ HY1.out).mono ?_;rintro e w2 ⟨A1,c1,A2,c2,rfl,hR,hb⟩;have HR := Lib.hid hR;unfold resV;have U1 := there_ext T1 hb;have HE1 : Hid (Ext w w2) := Ext.trans HY1.out hb;clear hR hb))
  refine ret_rangeR (b := w.heap.size + 1) Tryz.results100 rfl rfl ?hla (World.rangeAt_setCells_same _ _ 0 _ ?hta) ?hfa
  case hla => rfl
  case hta => exact U1
  case hfa => exact ⟨A1,c1,A2,c2,rfl,fun W' h k => HR.out W' h (((Keep.refl _ _).setCells hz1 0 _).trans k (by omega)),HE1.out.setCells (by omega) 0 _⟩
 ·by_cases hm0 : t.mask = 0
  ·have e1 : (t.mask == 0) = true := by simpa using hm0
   clear hor hm0
   go_enter Tryz.func100,Tryz.ntmps100
   go_upto_region 1 with fail
   refine wp_hid2 ?_
   intro W0 HW0
   have HX0 : Hid (Ext w W0) := by rw [Hid,HW0.out];exact xt
   have R0 : W0.rangeAt w.heap.size 0 [int .i64 t.fn,int .i64 t.scope,int .i64 t.prio,int .i64 t.status,int .i64 t.wkind,int .i64 t.windex,.bool t.wagain,.slice Af t.frames.length cf,.slice (some ⟨bb,ob,none⟩) t.blocks.length cb,int .i64 t.mask,.bool t.unw,int .i64 t.level,int .i64 t.reason,int .i64 t.result] := by rw [HW0.out];exact rg
   have T0 : W0.there (w.heap.size + 1) 0 17 := by rw [HW0.out];exact tr
   have m9 : W0.cell? ⟨w.heap.size,9,none⟩ = some (int .i64 t.mask) := R0 9 _ rfl
   have m8 : W0.cell? ⟨w.heap.size,8,none⟩ = some (.slice (some ⟨bb,ob,none⟩) t.blocks.length cb) := R0 8 _ rfl
   have zz := lt_of_cell m9
   have dd0 := HX0.out.cell dd
   have zb0 := lt_of_cell dd0
   have hz0 : w.heap.size + 1 < W0.heap.size := by rw [HW0.out];simp
   clear HW0
   go_upto_region 1 with fail
   (refine wp_region_quiet_below (by kernel_rfl) (by kernel_rfl) ?_;(repeat (go_big_quiet_step (fail)));refine wpQuiet_nil fun w1 h1 => ?_;obtain ⟨hc,hf,hs,he⟩ := eu (w := W0) h1 xt;clear h1;(try simp only [sA,sC,sD,sN] at hs))
   have R1 := range_ext R0 he
   have T1 := there_ext T0 he
   have n9 := he.cell m9
   have HY1 : Hid (Ext w w1) := HX0.out.trans he
   have zz1 := lt_of_cell n9
   have hz1 : w.heap.size + 1 < w1.heap.size := Nat.lt_of_lt_of_le hz0 he.size
   clear hc hf hs he R0 T0 m9 m8 dd dd0 zb0 zz
   go_wp2_with (first | ((first | (with_reducible refine jl 32 ?_) | (with_reducible refine il 32 ?_));refine ldm Tryz.underlying32 rfl rfl rfl (by exact rg) rfl (by exact infoTsk) ?_;dsimp only [dZ,dS]) | ((first | (with_reducible refine jk 102 ?_) | (with_reducible refine ik 102 ?_));refine stm rfl rfl rfl rfl (by exact tr) infoRes (all_oneCell_toArray (by simp [Value.oneCell'])) ?_;(try dsimp only [Act.put])) | (go_at_call 70;refine (HFA.out _ HY1.out).mono ?_;rintro e w2 ⟨A1,c1,A2,c2,rfl,hR,hb⟩;have HR := Lib.hid hR;unfold resV;have U1 := there_ext T1 hb;have HE1 : Hid (Ext w w2) := Ext.trans HY1.out hb;clear hR hb))
   refine ret_rangeR (b := w.heap.size + 1) Tryz.results100 rfl rfl ?hlb (World.rangeAt_setCells_same _ _ 0 _ ?htb) ?hfb
   case hlb => rfl
   case htb => exact U1
   case hfb => exact ⟨A1,c1,A2,c2,rfl,fun W' h k => HR.out W' h (((Keep.refl _ _).setCells hz1 0 _).trans k (by omega)),HE1.out.setCells (by omega) 0 _⟩
  ·have e1 : (t.mask == 0) = false := by simpa using hm0
   have e2 : (t.mask == b.mask) = true := by rcases hor with h | h;exact absurd h hm0;simpa using h
   clear hor hm0
   go_enter Tryz.func100,Tryz.ntmps100
   go_upto_region 1 with fail
   refine wp_hid2 ?_
   intro W0 HW0
   have HX0 : Hid (Ext w W0) := by rw [Hid,HW0.out];exact xt
   have R0 : W0.rangeAt w.heap.size 0 [int .i64 t.fn,int .i64 t.scope,int .i64 t.prio,int .i64 t.status,int .i64 t.wkind,int .i64 t.windex,.bool t.wagain,.slice Af t.frames.length cf,.slice (some ⟨bb,ob,none⟩) t.blocks.length cb,int .i64 t.mask,.bool t.unw,int .i64 t.level,int .i64 t.reason,int .i64 t.result] := by rw [HW0.out];exact rg
   have T0 : W0.there (w.heap.size + 1) 0 17 := by rw [HW0.out];exact tr
   have m9 : W0.cell? ⟨w.heap.size,9,none⟩ = some (int .i64 t.mask) := R0 9 _ rfl
   have m8 : W0.cell? ⟨w.heap.size,8,none⟩ = some (.slice (some ⟨bb,ob,none⟩) t.blocks.length cb) := R0 8 _ rfl
   have zz := lt_of_cell m9
   have dd0 := HX0.out.cell dd
   have zb0 := lt_of_cell dd0
   have hz0 : w.heap.size + 1 < W0.heap.size := by rw [HW0.out];simp
   clear HW0
   go_upto_region 1 with fail
   (refine wp_region_quiet_below (by kernel_rfl) (by kernel_rfl) ?_;(repeat (go_big_quiet_step (fail)));refine wpQuiet_nil fun w1 h1 => ?_;obtain ⟨hc,hf,hs,he⟩ := eu (w := W0) h1 xt;clear h1;(try simp only [sA,sC,sD,sN] at hs))
   have R1 := range_ext R0 he
   have T1 := there_ext T0 he
   have n9 := he.cell m9
   have HY1 : Hid (Ext w w1) := HX0.out.trans he
   have zz1 := lt_of_cell n9
   have hz1 : w.heap.size + 1 < w1.heap.size := Nat.lt_of_lt_of_le hz0 he.size
   clear hc hf hs he R0 T0 m9 m8 dd dd0 zb0 zz
   go_wp2_with (first | ((first | (with_reducible refine jl 32 ?_) | (with_reducible refine il 32 ?_));refine ldm Tryz.underlying32 rfl rfl rfl (by exact rg) rfl (by exact infoTsk) ?_;dsimp only [dZ,dS]) | ((first | (with_reducible refine jk 102 ?_) | (with_reducible refine ik 102 ?_));refine stm rfl rfl rfl rfl (by exact tr) infoRes (all_oneCell_toArray (by simp [Value.oneCell'])) ?_;(try dsimp only [Act.put])) | (go_at_call 70;refine (HFA.out _ HY1.out).mono ?_;rintro e w2 ⟨A1,c1,A2,c2,rfl,hR,hb⟩;have HR := Lib.hid hR;unfold resV;have U1 := there_ext T1 hb;have HE1 : Hid (Ext w w2) := Ext.trans HY1.out hb;clear hR hb))
   refine ret_rangeR (b := w.heap.size + 1) Tryz.results100 rfl rfl ?hlc (World.rangeAt_setCells_same _ _ 0 _ ?htc) ?hfc
   case hlc => rfl
   case htc => exact U1
   case hfc => exact ⟨A1,c1,A2,c2,rfl,fun W' h k => HR.out W' h (((Keep.refl _ _).setCells hz1 0 _).trans k (by omega)),HE1.out.setCells (by omega) 0 _⟩
theorem masked_any (t : Tsk) (f : Frm) (VF VB : Value) (op : Int) (w0 : Bs) (w : World) (hT : BTsk w0 t (.agg (tskL t VF VB).toArray)) (h0 : BExt w0 w) (hf : topF t = some f) (hz : Siz t) (hpc : 0 ≤ f.pc ∧ f.pc ≤ 1000) (hm : 0 ≤ t.mask ∧ t.mask ≤ 1000) (b : Blk) (hb : lastB t = some b) (hop : op = 18 ∨ op = 19) :
  Calls Tryz.prog 100 #[.agg (tskL t VF VB).toArray,int .i64 op] w (ResPost (if op = 18 then maskS t f else unmaskS t f) w0 w) := by
 rcases hop with rfl | rfl
 ·rw [if_pos rfl]
  unfold maskS
  split
  ·exact masked_fail t VF VB 18 7 w0 w hT h0 hz b hb (.inl ⟨rfl,by assumption,rfl⟩)
  ·exact masked_go t f VF VB 18 _ w0 w hT h0 hf hz hpc hm b hb (.inl ⟨rfl,by omega,rfl⟩)
 ·rw [if_neg (by decide)]
  unfold unmaskS
  rw [hb]
  dsimp only
  split
  ·exact masked_fail t VF VB 19 8 w0 w hT h0 hz b hb (.inr ⟨rfl,by assumption,rfl⟩)
  ·rename_i h
   simp only [not_or] at h
   exact masked_go t f VF VB 19 _ w0 w hT h0 hf hz hpc hm b hb (.inr ⟨rfl,h.1,h.2,rfl⟩)
theorem infoInsR : (Tryz.prog.info? 37).map (·.size) = some 5 := by kernel_rfl
def chkS (t : Tsk) (f : Frm) (op v : Int) : Tsk × Stp := if op = 20 then (if v = 0 then failT t 4 else jumpS t f (f.pc + 1)) else if v < 0 ∨ 899 < v then failT t 8 else failT t (100 + v)
set_option maxRecDepth 4000 in
theorem check_any (t : Tsk) (f : Frm) (VF VB VA : Value) (op a b c v : Int) (w0 : Bs) (w : World) (hT : BTsk w0 t (.agg (tskL t VF VB).toArray)) (h0 : BExt w0 w) (hf : topF t = some f) (hz : Siz t) (hpc : 0 ≤ f.pc ∧ f.pc ≤ 1000) (hv : numB v = true) (hA : ∃ A n k,VA = .slice A n k) :
  Calls Tryz.prog 101 #[.agg (tskL t VF VB).toArray,.agg #[int .i64 op,int .i64 a,int .i64 b,int .i64 c,VA],int .i64 v] w (ResPost (chkS t f op v) w0 w) := by
 obtain ⟨A,n,k,rfl⟩ := hA
 obtain ⟨Af,cf,Ab,cb,rfl,rfl,hFF,_,_,_⟩ := (hT.mono h0).two
 have hFk : t.frames[t.frames.length - 1]? = some f := hf
 have hpos : 0 < t.frames.length := by
  have := (List.getElem?_eq_some_iff.1 hFk).1;omega
 have hle : t.frames.length ≤ 9223372036854775807 := by have := hz.1;omega
 obtain ⟨bf,of,Ar,nr,cr,rfl,hlf,_,_,_,_,_,d1,_,_,_⟩ := hFF.frm hFk
 have dd := d1
 have zf := lt_of_cell dd
 have hvb := num_bounds hv
 have hwv : wrap64 (100 + v) = 100 + v := by unfold wrap64;omega
 have hwp : wrap64 (f.pc + 1) = f.pc + 1 := by unfold wrap64;omega
 have hwp2 : IntKind.i64.wrap (f.pc + 1) = f.pc + 1 := IntWalk.i64_in _ (by omega)
 have HFA : Hid (∀ q W,Ext w W → Calls Tryz.prog 70 #[.agg (tskL t (.slice (some ⟨bf,of,none⟩) t.frames.length cf) (.slice Ab t.blocks.length cb)).toArray,int .i64 q] W (ResPost (failT t q) w0 W)) := fun q W hW => failed_any t _ _ q w0 W hT (h0.trans hW)
 have HJU : Hid (∀ W,Ext w W → Calls Tryz.prog 97 #[.agg (tskL t (.slice (some ⟨bf,of,none⟩) t.frames.length cf) (.slice Ab t.blocks.length cb)).toArray,int .i64 (f.pc + 1)] W (ResPost (jumpS t f (f.pc + 1)) w0 W)) := fun W hW => jump_any t f _ _ (f.pc + 1) w0 W hT (h0.trans hW) hf hz ⟨by omega,by omega⟩
 clear hT hf hz h0 hFF d1 hlf hFk hv
 unfold tskL at HFA HJU ⊢
 unfold chkS
 by_cases hop : op = 20
 ·subst hop
  rw [if_pos rfl]
  by_cases hv0 : v = 0
  ·rw [if_pos hv0]
   subst hv0
   clear HJU
   go_enter Tryz.func101,Tryz.ntmps101
   go_wp2_with (first | ((first | (with_reducible refine jl 32 ?_) | (with_reducible refine il 32 ?_));refine ldm Tryz.underlying32 rfl rfl rfl (by exact rg) rfl (by exact infoTsk) ?_;dsimp only [dZ,dS]) | ((first | (with_reducible refine jk 102 ?_) | (with_reducible refine ik 102 ?_));refine stm rfl rfl rfl rfl (by exact tr) infoRes (all_oneCell_toArray (by simp [Value.oneCell'])) ?_;(try dsimp only [Act.put])) | (go_at_call 70;refine (HFA.out _ _ xt).mono ?_;rintro e w1 ⟨A1,c1,A2,c2,rfl,hR,hb⟩;have HR := Lib.hid hR;unfold resV;have U1 := there_ext (b := w.heap.size + 1 + 1) (o := 0) (n := 17) (by exact tr) hb;have HE1 : Hid (Ext w w1) := Ext.trans xt hb;clear hR hb))
   refine ret_rangeR (b := w.heap.size + 1 + 1) Tryz.results101 rfl rfl ?hla (World.rangeAt_setCells_same _ _ 0 _ ?hta) ?hfa
   case hla => rfl
   case hta => exact U1
   case hfa => exact ⟨A1,c1,A2,c2,rfl,fun W' h k => HR.out W' h (((Keep.refl _ _).setCells (by simp) 0 _).trans k (by simp;omega)),HE1.out.setCells (by omega) 0 _⟩
  ·rw [if_neg hv0]
   have hvb0 : (v == 0) = false := by simpa using hv0
   clear HFA hv0
   go_enter Tryz.func101,Tryz.ntmps101
   go_upto_region 4 with fail
   refine wp_hid2 ?_
   intro W0 HW0
   have HX0 : Hid (Ext w W0) := by rw [Hid,HW0.out];exact xt
   have R0 : W0.rangeAt w.heap.size 0 [int .i64 t.fn,int .i64 t.scope,int .i64 t.prio,int .i64 t.status,int .i64 t.wkind,int .i64 t.windex,.bool t.wagain,.slice (some ⟨bf,of,none⟩) t.frames.length cf,.slice Ab t.blocks.length cb,int .i64 t.mask,.bool t.unw,int .i64 t.level,int .i64 t.reason,int .i64 t.result] := by rw [HW0.out];exact rg
   have T0 : W0.there (w.heap.size + 1 + 1) 0 17 := by rw [HW0.out];exact tr
   have m7 : W0.cell? ⟨w.heap.size,7,none⟩ = some (.slice (some ⟨bf,of,none⟩) t.frames.length cf) := R0 7 _ rfl
   have dd0 := HX0.out.cell dd
   have hz0 : w.heap.size + 1 + 1 < W0.heap.size := by rw [HW0.out];simp
   have hsN : IntKind.i64.wrap ((t.frames.length : Int) - 1) = ((t.frames.length - 1 : Nat) : Int) := by rw [IntWalk.i64_in _ (by omega)];omega
   have hs1N : ((t.frames.length - 1 : Nat) : Int) < (t.frames.length : Int) := by omega
   have hs2N : (0 : Int) ≤ ((t.frames.length - 1 : Nat) : Int) := by omega
   have HST : Hid (∀ W,Ext W0 W → Ext W0 W ∧ W.cell? ⟨w.heap.size,7,none⟩ = some (.slice (some ⟨bf,of,none⟩) t.frames.length cf) ∧ W.cell? ⟨bf,of + (t.frames.length - 1) * 5 + 1,none⟩ = some (int .i64 f.pc)) := fun W h => ⟨h,h.cell m7,h.cell dd0⟩
   clear HW0 dd
   refine wp_region_th 12 (fun W' => Ext W0 W' ∧ W'.cell? ⟨w.heap.size,7,none⟩ = some (.slice (some ⟨bf,of,none⟩) t.frames.length cf) ∧ W'.cell? ⟨bf,of + (t.frames.length - 1) * 5 + 1,none⟩ = some (int .i64 f.pc)) (by kernel_rfl) (by kernel_rfl) (by kernel_rfl) (by kernel_rfl) (by decide) ?_ ?_
   ·exact HST.out _ xt
   intro hT hHeld
   (refine th_take (i := 0) (oi := ?oi0_21) (v := ?v0_21) hT ?hi0_21 (by decide) (by kernel_rfl) (by kernel_rfl) ?hq0_21 (Or.inl ⟨?hw0_21, ?hy0_21⟩) (by assumption) ?rest0_21;(case hi0_21 => (simp only [List.getElem?_toArray,List.getElem?_cons_zero,List.getElem?_cons_succ];rfl));(case hw0_21 => rfl);(case hy0_21 => (intro w' hSw;refine Eq.trans (exec_load_mid 32 _ (by rfl) w.heap.size 0 (by rfl) _ _ Tryz.underlying32 (by rfl) ?hiL0_21 w' (range_ext R0 hSw.1)) ?eqL0_21;(case eqL0_21 => with_reducible rfl);exact infoTsk));(case hq0_21 => (exact fun _ _ _ h => h));(try simp only [Act.put,aset,dZ,dS]))
   (refine tht 1 hT ?_;(try simp only [Act.put,aset,dZ,dS]);refine tht 2 hT ?_;(try simp only [Act.put,aset,dZ,dS]);refine tht 3 hT ?_;(try simp only [Act.put,aset,dZ,dS]);refine tht 4 hT ?_;(try simp only [Act.put,aset,dZ,dS]);refine tht 5 hT ?_;(try simp only [Act.put,aset,dZ,dS]);refine tht 6 hT ?_;(try simp only [Act.put,aset,dZ,dS]);refine tht 7 hT ?_;(try simp only [Act.put,aset,dZ,dS]);refine tht 8 hT ?_;(try simp only [Act.put,aset,dZ,dS]);refine tht 9 hT ?_;(try simp only [Act.put,aset,dZ,dS]);refine tht 10 hT ?_;(try simp only [Act.put,aset,dZ,dS]))
   refine tst 11 (fun K hK => ?_)
   go_simp
   go_at_call 97
   refine (HJU.out _ (HX0.out.trans hHeld.1)).mono ?_
   rintro e w1 ⟨A1,c1,A2,c2,rfl,hR,hb⟩
   dsimp only
   have hsz := hHeld.1.size
   have HR := Lib.hid hR
   have HKW := Lib.hid (Nat.lt_of_lt_of_le hz0 hsz)
   have HE1 : Hid (Ext w w1) := (HX0.out.trans hHeld.1).trans hb
   have U1 := there_ext T0 (hHeld.1.trans hb)
   have hsw := hb.size
   refine hK.out _ _ (HST.out _ (Ext.trans hHeld.1 hb)) (fun hHeld2 => ?_)
   clear hK K hb hR
   (try simp only [Act.put,aset,dZ,dS])
   refine th_done (by kernel_rfl) ?_
   simp only [List.drop_succ_cons,List.drop_zero]
   unfold resV
   go_wp2_with (first | ((first | (with_reducible refine jk 102 ?_) | (with_reducible refine ik 102 ?_));refine stm rfl rfl rfl rfl (by exact tr) infoRes (all_oneCell_toArray (by simp [Value.oneCell'])) ?_;(try dsimp only [Act.put])))
   refine ret_rangeR (b := w.heap.size + 1 + 1) Tryz.results101 rfl rfl ?hlj (World.rangeAt_setCells_same _ _ 0 _ ?htj) ?hfj
   case hlj => rfl
   case htj => exact U1
   case hfj => exact ⟨A1,c1,A2,c2,rfl,fun W' h k => HR.out W' h (((Keep.refl _ _).setCells HKW.out 0 _).trans k (by have := HKW.out;omega)),HE1.out.setCells (by omega) 0 _⟩
 ·rw [if_neg hop]
  have hopb : (op == 20) = false := by simpa using hop
  clear HJU hop
  by_cases hlo : v < 0
  ·rw [if_pos (.inl hlo)]
   go_enter Tryz.func101,Tryz.ntmps101
   go_wp2_with (first | ((first | (with_reducible refine jl 32 ?_) | (with_reducible refine il 32 ?_));refine ldm Tryz.underlying32 rfl rfl rfl (by exact rg) rfl (by exact infoTsk) ?_;dsimp only [dZ,dS]) | ((first | (with_reducible refine jk 102 ?_) | (with_reducible refine ik 102 ?_));refine stm rfl rfl rfl rfl (by exact tr) infoRes (all_oneCell_toArray (by simp [Value.oneCell'])) ?_;(try dsimp only [Act.put])) | (go_at_call 70;refine (HFA.out _ _ xt).mono ?_;rintro e w1 ⟨A1,c1,A2,c2,rfl,hR,hb⟩;have HR := Lib.hid hR;unfold resV;have U1 := there_ext (b := w.heap.size + 1 + 1) (o := 0) (n := 17) (by exact tr) hb;have HE1 : Hid (Ext w w1) := Ext.trans xt hb;clear hR hb))
   refine ret_rangeR (b := w.heap.size + 1 + 1) Tryz.results101 rfl rfl ?hlb (World.rangeAt_setCells_same _ _ 0 _ ?htb) ?hfb
   case hlb => rfl
   case htb => exact U1
   case hfb => exact ⟨A1,c1,A2,c2,rfl,fun W' h k => HR.out W' h (((Keep.refl _ _).setCells (by simp) 0 _).trans k (by simp;omega)),HE1.out.setCells (by omega) 0 _⟩
  ·by_cases hhi : 899 < v
   ·rw [if_pos (.inr hhi)]
    go_enter Tryz.func101,Tryz.ntmps101
    go_wp2_with (first | ((first | (with_reducible refine jl 32 ?_) | (with_reducible refine il 32 ?_));refine ldm Tryz.underlying32 rfl rfl rfl (by exact rg) rfl (by exact infoTsk) ?_;dsimp only [dZ,dS]) | ((first | (with_reducible refine jk 102 ?_) | (with_reducible refine ik 102 ?_));refine stm rfl rfl rfl rfl (by exact tr) infoRes (all_oneCell_toArray (by simp [Value.oneCell'])) ?_;(try dsimp only [Act.put])) | (go_at_call 70;refine (HFA.out _ _ xt).mono ?_;rintro e w1 ⟨A1,c1,A2,c2,rfl,hR,hb⟩;have HR := Lib.hid hR;unfold resV;have U1 := there_ext (b := w.heap.size + 1 + 1) (o := 0) (n := 17) (by exact tr) hb;have HE1 : Hid (Ext w w1) := Ext.trans xt hb;clear hR hb))
    refine ret_rangeR (b := w.heap.size + 1 + 1) Tryz.results101 rfl rfl ?hlc (World.rangeAt_setCells_same _ _ 0 _ ?htc) ?hfc
    case hlc => rfl
    case htc => exact U1
    case hfc => exact ⟨A1,c1,A2,c2,rfl,fun W' h k => HR.out W' h (((Keep.refl _ _).setCells (by simp) 0 _).trans k (by simp;omega)),HE1.out.setCells (by omega) 0 _⟩
   ·rw [if_neg (by omega)]
    go_enter Tryz.func101,Tryz.ntmps101
    go_wp2_with (first | ((first | (with_reducible refine jl 32 ?_) | (with_reducible refine il 32 ?_));refine ldm Tryz.underlying32 rfl rfl rfl (by exact rg) rfl (by exact infoTsk) ?_;dsimp only [dZ,dS]) | ((first | (with_reducible refine jk 102 ?_) | (with_reducible refine ik 102 ?_));refine stm rfl rfl rfl rfl (by exact tr) infoRes (all_oneCell_toArray (by simp [Value.oneCell'])) ?_;(try dsimp only [Act.put])) | (go_at_call 70;refine (HFA.out _ _ xt).mono ?_;rintro e w1 ⟨A1,c1,A2,c2,rfl,hR,hb⟩;have HR := Lib.hid hR;unfold resV;have U1 := there_ext (b := w.heap.size + 1 + 1) (o := 0) (n := 17) (by exact tr) hb;have HE1 : Hid (Ext w w1) := Ext.trans xt hb;clear hR hb))
    refine ret_rangeR (b := w.heap.size + 1 + 1) Tryz.results101 rfl rfl ?hld (World.rangeAt_setCells_same _ _ 0 _ ?htd) ?hfd
    case hld => rfl
    case htd => exact U1
    case hfd => exact ⟨A1,c1,A2,c2,rfl,fun W' h k => HR.out W' h (((Keep.refl _ _).setCells (by simp) 0 _).trans k (by simp;omega)),HE1.out.setCells (by omega) 0 _⟩
end Go.Proofs.YtcjjoabofecjmaaGreat

