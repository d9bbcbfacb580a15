/- A part of the proof: Advance of package task where local instructions run; Advanc. -/
import Derived.Test.YtcjjoabofecjmaaQ25
set_option linter.unusedVariables false
set_option linter.unusedSimpArgs false
set_option maxHeartbeats 16000000
namespace Go.Proofs.Ytcjjoabofecjmaa
open Go.RowKit Go.Sort
open Go.Value (int)
theorem tcheck_check {p : Prg} {t : Tsk} (h : tcheckS p t = 0) : checkS p = 0 := by
 unfold tcheckS at h
 split at h
 ·cases h
 ·rename_i h1
  rcases Decidable.em (checkS p = 0) with h2 | h2
  ·exact h2
  ·exact absurd (.inl h2) h1
set_option maxRecDepth 8000 in
theorem Advance_go (p : Prg) (t : Tsk) (VP VT : Value) (w : World) (hP : RPrg w p VP) (hT : RTsk w t VT) (hc : tcheckS p t = 0) (hst : t.status = 1) (hu : t.unw = false) (hl : t.frames.length ≠ 0) : Calls Try.prog 7 #[VP,VT] w (AdvPost p t w) := by
 have HC := Lib.hid (fun W h => tCheck_any p t VP VT W (hP.mono h) (hT.mono h))
 rw [hc] at HC
 have HCk := Lib.hid (tcheck_check hc)
 have HRO := Lib.hid (run_ok hc hst hl)
 have HNum := Lib.hid hT.nums
 have hwk := HRO.out.wk HCk.out
 have HWK := Lib.hid hwk
 have HCo := Lib.hid (fun W h => copied_any t VT w W hT h (by have := hwk.len;omega) (by have := hwk.bl;omega) (fun f hf => by have := hwk.regs f hf;omega) (fun b hb => by have := hwk.hdl b hb;omega))
 have HP := Lib.hid hP
 have HT := Lib.hid hT
 have HR : Hid (advanceS p t = ((runS p 500 t 0).1,(runS p 500 t 0).2,0)) := by unfold Hid advanceS;rw [if_neg (by simpa using hc),if_neg (by simpa using hst),if_neg (by rw [hu];rintro ⟨h,_⟩;cases h)]
 obtain ⟨Af,nf,cf,Ao,no,co,Av,nv,cv,rfl,hF,hO,hVr,hcf,hco,hcv⟩ := hP
 obtain ⟨Bf,mf,df,Bb,mb,db,rfl,_,_,_,_,_,_,_,_,_,_,hF2,hB2,hdf,hdb⟩ := hT
 clear hO hVr hcf hco hcv hB2 hF hF2
 have HSt := Lib.hid hst
 have HUn := Lib.hid hu
 rw [hu,hst] at HT HC HCo ⊢
 clear hc hst hu hl hwk
 unfold AdvPost
 go_enter Try.func7,Try.ntmps7
 go_wp2_with (first | ((first | (with_reducible refine jl 44 ?_) | (with_reducible refine il 44 ?_));refine ldm Try.underlying44 rfl rfl rfl (by exact rg) rfl (by exact infoTsk) ?_;dsimp only [dZ,dS]) | ((with_reducible refine ig 44 ?_);refine ldg Try.underlying44 (by rfl) rfl rfl (by exact rg) rfl (by exact infoTsk) ?_;dsimp only [dZ,dS]) | (go_at_call 16;refine (HC.out _ xt).mono ?_;rintro e w1 ⟨rfl,hb⟩;have T1 := there_ext (b := w.heap.size + 1 + 1) (o := 0) (n := 14) (by exact tr) hb;have U1 := there_ext (b := w.heap.size + 1 + 1 + 1) (o := 0) (n := 3) (by exact tr) hb;have R1 := range_ext (b := w.heap.size + 1) (o := 0) (by exact rg) hb;have Q1 := range_ext (b := w.heap.size) (o := 0) (cs := [.slice Af nf cf,.slice Ao no co,.slice Av nv cv]) (by exact rg) hb;have he0 := Lib.hid hb;obtain ⟨hc,hf,hs,he⟩ := Ext.use (w := w) hb xt;clear hb;(try simp only [World.size_alloc] at hs);have hz1 : w.heap.size + 1 + 1 + 1 < w1.heap.size := (by omega)))
 have HE1 := Lib.hid he
 have HC4 : Hid (Cold w1 (w.heap.size + 1 + 1)) := by
  refine Cold.ext ?_ he0.out
  refine Cold.ext (w := ((w.alloc _).alloc _).alloc _) ?_ xt
  simpa using Cold.alloc (w := (w.alloc _).alloc _) rfl
 have HC5 : Hid (Cold w1 (w.heap.size + 1 + 1 + 1)) := by
  refine Cold.ext ?_ he0.out
  simpa using Cold.alloc (w := ((w.alloc _).alloc _).alloc _) rfl
 clear hc hf hs he
 refine wp_region_th 5 (fun W' => Ext w1 W') (by kernel_rfl) (by kernel_rfl) (by kernel_rfl) (by kernel_rfl) (by decide) ?_ ?_
 ·exact xt
 intro hT hHeld
 (refine th_take (i := 0) (oi := ?oi0_1) (v := ?v0_1) hT ?hi0_1 (by decide) (by kernel_rfl) (by kernel_rfl) ?hq0_1 (Or.inl ⟨?hw0_1, ?hy0_1⟩) (by assumption) ?rest0_1;(case hi0_1 => (simp only [List.getElem?_toArray,List.getElem?_cons_zero,List.getElem?_cons_succ];rfl));(case hw0_1 => rfl);(case hy0_1 => (intro w' hSw;refine Eq.trans (exec_load_mid 38 _ (by rfl) w.heap.size 0 (by rfl) _ _ Try.underlying38 (by rfl) ?hiL0_1 w' (range_ext Q1 hSw)) ?eqL0_1;(case eqL0_1 => with_reducible rfl);exact infoPrg));(case hq0_1 => (exact fun _ _ _ h => h));(try simp only [Act.put,aset,dZ,dS]))
 (refine th_take (i := 1) (oi := ?oi1_2) (v := ?v1_2) hT ?hi1_2 (by decide) (by kernel_rfl) (by kernel_rfl) ?hq1_2 (Or.inl ⟨?hw1_2, ?hy1_2⟩) (by assumption) ?rest1_2;(case hi1_2 => (simp only [List.getElem?_toArray,List.getElem?_cons_zero,List.getElem?_cons_succ];rfl));(case hw1_2 => rfl);(case hy1_2 => (intro w' hSw;refine Eq.trans (exec_load_mid 44 _ (by rfl) (w.heap.size + 1) 0 (by rfl) _ _ Try.underlying44 (by rfl) ?hiL1_2 w' (range_ext R1 hSw)) ?eqL1_2;(case eqL1_2 => with_reducible rfl);exact infoTsk));(case hq1_2 => (exact fun _ _ _ h => h));(try simp only [Act.put,aset,dZ,dS]))
 refine tst 2 (fun K hK => ?_)
 go_simp
 go_at_call 18
 refine (HCo.out _ (Ext.trans HE1.out hHeld)).mono ?_
 rintro e w5 ⟨VF,VB,rs,hs,gs,rfl,hOF,hOB,hb5⟩
 have hE5 : Ext w1 w5 := Ext.trans hHeld hb5
 dsimp only
 refine hK.out _ _ hE5 (fun hHeld => ?_)
 clear hK K
 (try simp only [Act.put,aset,dZ,dS])
 (refine tht 3 hT ?_;(try simp only [Act.put,aset,dZ,dS]))
 refine tst 4 (fun K hK => ?_)
 go_simp
 refine hK.out _ _ (hE5.alloc _) (fun hHeld => ?_)
 clear hK K
 (try simp only [Act.put,aset,dZ,dS])
 refine th_done (by kernel_rfl) ?_
 simp only [List.drop_succ_cons,List.drop_zero]
 refine wpList_name ?_
 intro W6 HW6
 have hz1 : w.heap.size + 1 + 1 + 1 < w1.heap.size := hz1
 have hs5 := hE5.size
 have hs6 : W6.heap.size = w5.heap.size + 1 := by rw [HW6.out];simp
 have HE6 : Hid (Ext w1 W6) := by rw [Hid,HW6.out];exact hE5.alloc _
 have HFirst := Lib.hid (run_first (B := w1.heap.size) (R := w5.heap.size) (X := [boxV (w5.heap.size + 1),boxV (w.heap.size + 1 + 1),boxV (w.heap.size + 1 + 1 + 1)]) (w0 := w) (W6 := W6) (t := t) (V0 := .slice Af nf cf) (V1 := .slice Ao no co) (V2 := .slice Av nv cv) (VF := VF) (VB := VB) HE1.out.size rfl hs5 (by rw [HW6.out];unfold tskL;rw [HSt.out,HUn.out];rfl) hOF hOB (fun r hr x hx => by
  simp only [List.mem_cons,List.not_mem_nil,or_false] at hr
  have := HE1.out.size
  rcases hr with rfl | rfl | rfl
  ·have h2 : w5.heap.size + 1 = x := by injection hx
   omega
  ·have h2 : w.heap.size + 1 + 1 = x := by injection hx
   omega
  ·have h2 : w.heap.size + 1 + 1 + 1 = x := by injection hx
   omega))
 have HRun := Lib.hid (run_any (X := [boxV (w5.heap.size + 1),boxV (w.heap.size + 1 + 1),boxV (w.heap.size + 1 + 1 + 1)]) (by simp) hs6 hs5 HFirst.out HRO.out HCk.out HNum.out w (HE1.out.trans HE6.out) HE1.out.size HP.out)
 obtain ⟨hwkG,hsame⟩ := runS_wk HCk.out 500 t 0 HRO.out
 have HWG := Lib.hid hwkG
 have HNG := Lib.hid (HNum.out.same hsame)
 clear hwkG hsame HFirst hOF hOB HW6 hE5 hHeld HCo
 obtain ⟨G,hG⟩ : ∃ G,runS p 500 t 0 = G := ⟨_,rfl⟩
 rw [hG] at HRun HWG HNG HR
 clear hG
 unfold RunPost stopA at HRun
 go_wp2_with (first | (go_at_call 19;refine HRun.out.mono ?_;rintro e w7 ⟨rfl,⟨n7,VF7,VB7,rs7,hs7,gs7,hst7⟩,hk7⟩;obtain ⟨A7,c7,e7,hcF7,_⟩ := ownsRow_shape hst7.fr.row;subst e7;obtain ⟨Ab7,cb7,eb7,_⟩ := ownsRow_shape hst7.bl.row;subst eb7;have HS7 := Lib.hid hst7;have HK7 := Lib.hid hk7;obtain ⟨N7,hN7⟩ : ∃ N7,G.1.frames.length = N7 := ⟨_,rfl⟩;have HN7 := Lib.hid hN7;have m7 := hst7.cellT (j := 7) (v := .slice A7 N7 c7) (by rw [← hN7];rfl);have f7 := hst7.frozen 10;have zR7 := hst7.lt.2;have hN9 : N7 ≤ 9 := (by have := HWG.out.len;omega);rw [hN7] at hcF7;clear hst7 hk7 hN7) | (go_at_call 20;refine (clip_any A7 N7 c7 _ hcF7 (by omega)).mono ?_;rintro e w8 ⟨rfl,rfl⟩))
 refine wp_hid2 ?_
 intro W9 HW9
 have hN77 := HN7.out
 have hsz7 := HK7.out.below.size
 have hX4 : w.heap.size + 1 + 1 < w1.heap.size := by omega
 have R9 : W9.rangeAt w5.heap.size 3 (tskL G.1 (.slice A7 N7 N7) (.slice Ab7 G.1.blocks.length cb7)) := by
  rw [HW9.out]
  exact range_old (range_at (HS7.out.task) (by omega)) _
 have S9 : W9.rangeAt w7.heap.size 0 [int .i64 G.2.kind,int .i64 G.2.reason,int .i64 G.2.value] := by
  rw [HW9.out];exact range_new (by simp)
 have T9 : W9.there (w.heap.size + 1 + 1) 0 14 := by
  rw [HW9.out];exact there_old (there_set (there_below (there_ext T1 HE6.out) hX4 HK7.out.below)) _
 have U9 : W9.there (w.heap.size + 1 + 1 + 1) 0 3 := by
  rw [HW9.out];exact there_old (there_set (there_below (there_ext U1 HE6.out) hz1 HK7.out.below)) _
 have TS9 : TskSt [boxV (w5.heap.size + 1),boxV (w.heap.size + 1 + 1),boxV (w.heap.size + 1 + 1 + 1)] w1.heap.size w5.heap.size W9 G.1 (.slice A7 G.1.frames.length c7) (.slice Ab7 G.1.blocks.length cb7) rs7 hs7 gs7 := by
  rw [HW9.out];exact (HS7.out.off_box 10 _).mono ((Ext.refl _).alloc _)
 have C49 : Cold W9 (w.heap.size + 1 + 1) := by
  rw [HW9.out];exact Cold.ext ((((HC4.out.ext HE6.out).keep HK7.out).1).setCell _ _) ((Ext.refl _).alloc _)
 have C59 : Cold W9 (w.heap.size + 1 + 1 + 1) := by
  rw [HW9.out];exact Cold.ext ((((HC5.out.ext HE6.out).keep HK7.out).1).setCell _ _) ((Ext.refl _).alloc _)
 have E9 : Hid (Ext w W9) := by
  have h1 : Ext w w7 := Below.trans (HE1.out.trans HE6.out) (Below.mono HK7.out.below HE1.out.size)
  have h2 := HE1.out.size
  rw [Hid,HW9.out]
  exact (h1.setCell (show w.heap.size ≤ w5.heap.size by omega) _).alloc _
 have hsw7 : w7.heap.size < W9.heap.size := by rw [HW9.out];simp
 have hw1 := HE1.out.size
 have TSH := Lib.hid TS9
 have C4H := Lib.hid C49
 have C5H := Lib.hid C59
 unfold tskL at R9
 clear TS9 C49 C59 HW9 m7 f7 HS7 HK7 R1 Q1 T1 U1
 refine wp_region_th 6 (fun W' => W'.rangeAt w5.heap.size 3 [int .i64 G.1.fn,int .i64 G.1.scope,int .i64 G.1.prio,int .i64 G.1.status,int .i64 G.1.wkind,int .i64 G.1.windex,.bool G.1.wagain,.slice A7 N7 N7,.slice Ab7 G.1.blocks.length cb7,int .i64 G.1.mask,.bool G.1.unw,int .i64 G.1.level,int .i64 G.1.reason,int .i64 G.1.result] ∧ W'.rangeAt w7.heap.size 0 [int .i64 G.2.kind,int .i64 G.2.reason,int .i64 G.2.value]) (by kernel_rfl) (by kernel_rfl) (by kernel_rfl) (by kernel_rfl) (by decide) ?_ ?_
 ·exact ⟨range_drew R9,range_drew S9⟩
 intro hT hHeld
 (refine tht 0 hT ?_;(try simp only [Act.put,aset,dZ,dS]);refine tht 1 hT ?_;(try simp only [Act.put,aset,dZ,dS]);refine tht 2 hT ?_;(try simp only [Act.put,aset,dZ,dS]))
 (refine th_take (i := 3) (oi := ?oi3_3) (v := ?v3_3) hT ?hi3_3 (by decide) (by kernel_rfl) (by kernel_rfl) ?hq3_3 (Or.inl ⟨?hw3_3, ?hy3_3⟩) (by assumption) ?rest3_3;(case hi3_3 => (simp only [List.getElem?_toArray,List.getElem?_cons_zero,List.getElem?_cons_succ];rfl));(case hw3_3 => rfl);(case hy3_3 => (intro w' hSw;refine Eq.trans (exec_load_mid 44 _ (by rfl) w5.heap.size 3 (by rfl) _ _ Try.underlying44 (by rfl) ?hiL3_3 w' (hSw.1)) ?eqL3_3;(case eqL3_3 => with_reducible rfl);exact infoTsk));(case hq3_3 => (exact fun _ _ _ h => h));(try simp only [Act.put,aset,dZ,dS]))
 (refine th_take (i := 4) (oi := ?oi4_4) (v := ?v4_4) hT ?hi4_4 (by decide) (by kernel_rfl) (by kernel_rfl) ?hq4_4 (Or.inl ⟨?hw4_4, ?hy4_4⟩) (by assumption) ?rest4_4;(case hi4_4 => (simp only [List.getElem?_toArray,List.getElem?_cons_zero,List.getElem?_cons_succ];rfl));(case hw4_4 => rfl);(case hy4_4 => (intro w' hSw;refine Eq.trans (exec_load_mid 49 _ (by rfl) w7.heap.size 0 (by rfl) _ _ Try.underlying49 (by rfl) ?hiL4_4 w' (hSw.2)) ?eqL4_4;(case eqL4_4 => with_reducible rfl);exact infoStop));(case hq4_4 => (exact fun _ _ _ h => h));(try simp only [Act.put,aset,dZ,dS]))
 refine tst 5 (fun K hK => ?_)
 have T10 : W9.drew.there (w.heap.size + 1 + 1) 0 14 := there_drew T9
 have U10 : W9.drew.there (w.heap.size + 1 + 1 + 1) 0 3 := there_drew U9
 rw [if_pos (by rfl)]
 refine wp_store_mid _ _ _ rfl _ _ (List.toArray _) rfl rfl T10 infoTsk (all_oneCell_toArray (by simp [Value.oneCell'])) ?_
 refine hK.out _ _ ⟨range_out hHeld.1 (by omega),range_out hHeld.2 (by omega)⟩ (fun hHeld => ?_)
 clear hK K
 (try simp only [Act.put,aset,dZ,dS])
 refine th_done (by kernel_rfl) ?_
 simp only [List.drop_succ_cons,List.drop_zero]
 go_wp2_with ((with_reducible refine ik 49 ?_);refine stm rfl rfl rfl rfl (by exact tr) infoStop (all_oneCell_toArray (by simp [Value.oneCell'])) ?_;(try dsimp only [Act.put]))
 have hd : Ext W9 W9.drew := (Ext.refl _).drew
 have hfin := Lib.hid (fun (cs cs2 : List Value) => (((TSH.out.mono hd).cold (b := w.heap.size + 1 + 1) (by simp) (C4H.out.ext hd) (setCells_grown _ cs 0 _)).cold (b := w.heap.size + 1 + 1 + 1) (by simp) (((C5H.out.ext hd).grown (setCells_grown _ cs 0 _) (by omega))) (setCells_grown _ cs2 0 _)).reads HNG.out HWG.out)
 refine ret_range3 (b := w.heap.size + 1 + 1) (b2 := w.heap.size + 1 + 1 + 1) Try.results7 rfl rfl rfl rfl ?hl ?hl2 (ranges_two (by omega) ?t1 ?t2).1 (ranges_two (by omega) ?t3 ?t4).2 ?fin
 case hl => rfl
 case hl2 => rfl
 case t1 => exact T10
 case t2 => exact U10
 case t3 => exact T10
 case t4 => exact U10
 case fin =>
  rw [HR.out]
  refine ⟨_,rfl, ?_, ?_⟩
  ·obtain ⟨Af7,cf7,ef7,hrt⟩ := hfin.out [int .i64 G.1.fn,int .i64 G.1.scope,int .i64 G.1.prio,int .i64 G.1.status,int .i64 G.1.wkind,int .i64 G.1.windex,.bool G.1.wagain,.slice A7 N7 N7,.slice Ab7 G.1.blocks.length cb7,int .i64 G.1.mask,.bool G.1.unw,int .i64 G.1.level,int .i64 G.1.reason,int .i64 G.1.result] [int .i64 G.2.kind,int .i64 G.2.reason,int .i64 G.2.value]
   injection ef7 with q1 q2 q3
   rw [← q1,HN7.out] at hrt
   exact hrt
  ·have h9 := E9.out
   exact xts
set_option maxRecDepth 8000 in
theorem Advance_hand (p : Prg) (t : Tsk) (VP VT : Value) (w : World) (hP : RPrg w p VP) (hT : RTsk w t VT) (hc : tcheckS p t = 0) (hst : t.status = 1) (hu : t.unw = true) (hi : inHand t = true) (hl : t.frames.length ≠ 0) : Calls Try.prog 7 #[VP,VT] w (AdvPost p t w) := by
 have HC := Lib.hid (fun W h => tCheck_any p t VP VT W (hP.mono h) (hT.mono h))
 rw [hc] at HC
 have HH := Lib.hid (fun W h => handles_any t VT W (hT.mono h))
 rw [hi] at HH
 have HCk := Lib.hid (tcheck_check hc)
 have HRO := Lib.hid (run_ok hc hst hl)
 have HNum := Lib.hid hT.nums
 have hwk := HRO.out.wk HCk.out
 have HWK := Lib.hid hwk
 have HCo := Lib.hid (fun W h => copied_any t VT w W hT h (by have := hwk.len;omega) (by have := hwk.bl;omega) (fun f hf => by have := hwk.regs f hf;omega) (fun b hb => by have := hwk.hdl b hb;omega))
 have HP := Lib.hid hP
 have HT := Lib.hid hT
 have HR : Hid (advanceS p t = ((runS p 500 t 0).1,(runS p 500 t 0).2,0)) := by unfold Hid advanceS;rw [if_neg (by simpa using hc),if_neg (by simpa using hst),if_neg (by rw [hi];rintro ⟨_,h⟩;cases h)]
 obtain ⟨Af,nf,cf,Ao,no,co,Av,nv,cv,rfl,hF,hO,hVr,hcf,hco,hcv⟩ := hP
 obtain ⟨Bf,mf,df,Bb,mb,db,rfl,_,_,_,_,_,_,_,_,_,_,hF2,hB2,hdf,hdb⟩ := hT
 clear hO hVr hcf hco hcv hB2 hF hF2
 have HSt := Lib.hid hst
 have HUn := Lib.hid hu
 rw [hu,hst] at HT HC HCo HH ⊢
 clear hc hst hu hi hl hwk
 unfold AdvPost
 go_enter Try.func7,Try.ntmps7
 go_wp2_with (first | ((first | (with_reducible refine jl 44 ?_) | (with_reducible refine il 44 ?_));refine ldm Try.underlying44 rfl rfl rfl (by exact rg) rfl (by exact infoTsk) ?_;dsimp only [dZ,dS]) | ((with_reducible refine ig 44 ?_);refine ldg Try.underlying44 (by rfl) rfl rfl (by exact rg) rfl (by exact infoTsk) ?_;dsimp only [dZ,dS]) | (go_at_call 16;refine (HC.out _ xt).mono ?_;rintro e w1 ⟨rfl,hb⟩;have T1 := there_ext (b := w.heap.size + 1 + 1) (o := 0) (n := 14) (by exact tr) hb;have U1 := there_ext (b := w.heap.size + 1 + 1 + 1) (o := 0) (n := 3) (by exact tr) hb;have R1 := range_ext (b := w.heap.size + 1) (o := 0) (by exact rg) hb;have Q1 := range_ext (b := w.heap.size) (o := 0) (cs := [.slice Af nf cf,.slice Ao no co,.slice Av nv cv]) (by exact rg) hb;have he0 := Lib.hid hb;obtain ⟨hc,hf,hs,he⟩ := Ext.use (w := w) hb xt;clear hb;(try simp only [World.size_alloc] at hs);have hz1 : w.heap.size + 1 + 1 + 1 < w1.heap.size := (by omega)) | (go_at_call 17;refine (HH.out _ xt).mono ?_;rintro e w2 ⟨rfl,hb⟩;have T1 := there_ext T1 hb;have U1 := there_ext U1 hb;have R1 := range_ext R1 hb;have Q1 := range_ext Q1 hb;have he0 := Lib.hid (Ext.trans he0.out hb);have he := Ext.trans he hb;have hz1 := Nat.lt_of_lt_of_le hz1 hb.size;clear hb))
 have HE1 := Lib.hid he
 have HC4 : Hid (Cold w2 (w.heap.size + 1 + 1)) := by
  refine Cold.ext ?_ he0.out
  refine Cold.ext (w := ((w.alloc _).alloc _).alloc _) ?_ xt
  simpa using Cold.alloc (w := (w.alloc _).alloc _) rfl
 have HC5 : Hid (Cold w2 (w.heap.size + 1 + 1 + 1)) := by
  refine Cold.ext ?_ he0.out
  simpa using Cold.alloc (w := ((w.alloc _).alloc _).alloc _) rfl
 clear hc hf hs he
 refine wp_region_th 5 (fun W' => Ext w2 W') (by kernel_rfl) (by kernel_rfl) (by kernel_rfl) (by kernel_rfl) (by decide) ?_ ?_
 ·exact xt
 intro hT hHeld
 (refine th_take (i := 0) (oi := ?oi0_8) (v := ?v0_8) hT ?hi0_8 (by decide) (by kernel_rfl) (by kernel_rfl) ?hq0_8 (Or.inl ⟨?hw0_8, ?hy0_8⟩) (by assumption) ?rest0_8;(case hi0_8 => (simp only [List.getElem?_toArray,List.getElem?_cons_zero,List.getElem?_cons_succ];rfl));(case hw0_8 => rfl);(case hy0_8 => (intro w' hSw;refine Eq.trans (exec_load_mid 38 _ (by rfl) w.heap.size 0 (by rfl) _ _ Try.underlying38 (by rfl) ?hiL0_8 w' (range_ext Q1 hSw)) ?eqL0_8;(case eqL0_8 => with_reducible rfl);exact infoPrg));(case hq0_8 => (exact fun _ _ _ h => h));(try simp only [Act.put,aset,dZ,dS]))
 (refine th_take (i := 1) (oi := ?oi1_9) (v := ?v1_9) hT ?hi1_9 (by decide) (by kernel_rfl) (by kernel_rfl) ?hq1_9 (Or.inl ⟨?hw1_9, ?hy1_9⟩) (by assumption) ?rest1_9;(case hi1_9 => (simp only [List.getElem?_toArray,List.getElem?_cons_zero,List.getElem?_cons_succ];rfl));(case hw1_9 => rfl);(case hy1_9 => (intro w' hSw;refine Eq.trans (exec_load_mid 44 _ (by rfl) (w.heap.size + 1) 0 (by rfl) _ _ Try.underlying44 (by rfl) ?hiL1_9 w' (range_ext R1 hSw)) ?eqL1_9;(case eqL1_9 => with_reducible rfl);exact infoTsk));(case hq1_9 => (exact fun _ _ _ h => h));(try simp only [Act.put,aset,dZ,dS]))
 refine tst 2 (fun K hK => ?_)
 go_simp
 go_at_call 18
 refine (HCo.out _ (Ext.trans HE1.out hHeld)).mono ?_
 rintro e w5 ⟨VF,VB,rs,hs,gs,rfl,hOF,hOB,hb5⟩
 have hE5 : Ext w2 w5 := Ext.trans hHeld hb5
 dsimp only
 refine hK.out _ _ hE5 (fun hHeld => ?_)
 clear hK K
 (try simp only [Act.put,aset,dZ,dS])
 (refine tht 3 hT ?_;(try simp only [Act.put,aset,dZ,dS]))
 refine tst 4 (fun K hK => ?_)
 go_simp
 refine hK.out _ _ (hE5.alloc _) (fun hHeld => ?_)
 clear hK K
 (try simp only [Act.put,aset,dZ,dS])
 refine th_done (by kernel_rfl) ?_
 simp only [List.drop_succ_cons,List.drop_zero]
 refine wpList_name ?_
 intro W6 HW6
 have hz1 : w.heap.size + 1 + 1 + 1 < w2.heap.size := hz1
 have hs5 := hE5.size
 have hs6 : W6.heap.size = w5.heap.size + 1 := by rw [HW6.out];simp
 have HE6 : Hid (Ext w2 W6) := by rw [Hid,HW6.out];exact hE5.alloc _
 have HFirst := Lib.hid (run_first (B := w2.heap.size) (R := w5.heap.size) (X := [boxV (w5.heap.size + 1),boxV (w.heap.size + 1 + 1),boxV (w.heap.size + 1 + 1 + 1)]) (w0 := w) (W6 := W6) (t := t) (V0 := .slice Af nf cf) (V1 := .slice Ao no co) (V2 := .slice Av nv cv) (VF := VF) (VB := VB) HE1.out.size rfl hs5 (by rw [HW6.out];unfold tskL;rw [HSt.out,HUn.out];rfl) hOF hOB (fun r hr x hx => by
  simp only [List.mem_cons,List.not_mem_nil,or_false] at hr
  have := HE1.out.size
  rcases hr with rfl | rfl | rfl
  ·have h2 : w5.heap.size + 1 = x := by injection hx
   omega
  ·have h2 : w.heap.size + 1 + 1 = x := by injection hx
   omega
  ·have h2 : w.heap.size + 1 + 1 + 1 = x := by injection hx
   omega))
 have HRun := Lib.hid (run_any (X := [boxV (w5.heap.size + 1),boxV (w.heap.size + 1 + 1),boxV (w.heap.size + 1 + 1 + 1)]) (by simp) hs6 hs5 HFirst.out HRO.out HCk.out HNum.out w (HE1.out.trans HE6.out) HE1.out.size HP.out)
 obtain ⟨hwkG,hsame⟩ := runS_wk HCk.out 500 t 0 HRO.out
 have HWG := Lib.hid hwkG
 have HNG := Lib.hid (HNum.out.same hsame)
 clear hwkG hsame HFirst hOF hOB HW6 hE5 hHeld HCo
 obtain ⟨G,hG⟩ : ∃ G,runS p 500 t 0 = G := ⟨_,rfl⟩
 rw [hG] at HRun HWG HNG HR
 clear hG
 unfold RunPost stopA at HRun
 go_wp2_with (first | (go_at_call 19;refine HRun.out.mono ?_;rintro e w7 ⟨rfl,⟨n7,VF7,VB7,rs7,hs7,gs7,hst7⟩,hk7⟩;obtain ⟨A7,c7,e7,hcF7,_⟩ := ownsRow_shape hst7.fr.row;subst e7;obtain ⟨Ab7,cb7,eb7,_⟩ := ownsRow_shape hst7.bl.row;subst eb7;have HS7 := Lib.hid hst7;have HK7 := Lib.hid hk7;obtain ⟨N7,hN7⟩ : ∃ N7,G.1.frames.length = N7 := ⟨_,rfl⟩;have HN7 := Lib.hid hN7;have m7 := hst7.cellT (j := 7) (v := .slice A7 N7 c7) (by rw [← hN7];rfl);have f7 := hst7.frozen 10;have zR7 := hst7.lt.2;have hN9 : N7 ≤ 9 := (by have := HWG.out.len;omega);rw [hN7] at hcF7;clear hst7 hk7 hN7) | (go_at_call 20;refine (clip_any A7 N7 c7 _ hcF7 (by omega)).mono ?_;rintro e w8 ⟨rfl,rfl⟩))
 refine wp_hid2 ?_
 intro W9 HW9
 have hN77 := HN7.out
 have hsz7 := HK7.out.below.size
 have hX4 : w.heap.size + 1 + 1 < w2.heap.size := by omega
 have R9 : W9.rangeAt w5.heap.size 3 (tskL G.1 (.slice A7 N7 N7) (.slice Ab7 G.1.blocks.length cb7)) := by
  rw [HW9.out]
  exact range_old (range_at (HS7.out.task) (by omega)) _
 have S9 : W9.rangeAt w7.heap.size 0 [int .i64 G.2.kind,int .i64 G.2.reason,int .i64 G.2.value] := by
  rw [HW9.out];exact range_new (by simp)
 have T9 : W9.there (w.heap.size + 1 + 1) 0 14 := by
  rw [HW9.out];exact there_old (there_set (there_below (there_ext T1 HE6.out) hX4 HK7.out.below)) _
 have U9 : W9.there (w.heap.size + 1 + 1 + 1) 0 3 := by
  rw [HW9.out];exact there_old (there_set (there_below (there_ext U1 HE6.out) hz1 HK7.out.below)) _
 have TS9 : TskSt [boxV (w5.heap.size + 1),boxV (w.heap.size + 1 + 1),boxV (w.heap.size + 1 + 1 + 1)] w2.heap.size w5.heap.size W9 G.1 (.slice A7 G.1.frames.length c7) (.slice Ab7 G.1.blocks.length cb7) rs7 hs7 gs7 := by
  rw [HW9.out];exact (HS7.out.off_box 10 _).mono ((Ext.refl _).alloc _)
 have C49 : Cold W9 (w.heap.size + 1 + 1) := by
  rw [HW9.out];exact Cold.ext ((((HC4.out.ext HE6.out).keep HK7.out).1).setCell _ _) ((Ext.refl _).alloc _)
 have C59 : Cold W9 (w.heap.size + 1 + 1 + 1) := by
  rw [HW9.out];exact Cold.ext ((((HC5.out.ext HE6.out).keep HK7.out).1).setCell _ _) ((Ext.refl _).alloc _)
 have E9 : Hid (Ext w W9) := by
  have h1 : Ext w w7 := Below.trans (HE1.out.trans HE6.out) (Below.mono HK7.out.below HE1.out.size)
  have h2 := HE1.out.size
  rw [Hid,HW9.out]
  exact (h1.setCell (show w.heap.size ≤ w5.heap.size by omega) _).alloc _
 have hsw7 : w7.heap.size < W9.heap.size := by rw [HW9.out];simp
 have hw2 := HE1.out.size
 have TSH := Lib.hid TS9
 have C4H := Lib.hid C49
 have C5H := Lib.hid C59
 unfold tskL at R9
 clear TS9 C49 C59 HW9 m7 f7 HS7 HK7 R1 Q1 T1 U1
 refine wp_region_th 6 (fun W' => W'.rangeAt w5.heap.size 3 [int .i64 G.1.fn,int .i64 G.1.scope,int .i64 G.1.prio,int .i64 G.1.status,int .i64 G.1.wkind,int .i64 G.1.windex,.bool G.1.wagain,.slice A7 N7 N7,.slice Ab7 G.1.blocks.length cb7,int .i64 G.1.mask,.bool G.1.unw,int .i64 G.1.level,int .i64 G.1.reason,int .i64 G.1.result] ∧ W'.rangeAt w7.heap.size 0 [int .i64 G.2.kind,int .i64 G.2.reason,int .i64 G.2.value]) (by kernel_rfl) (by kernel_rfl) (by kernel_rfl) (by kernel_rfl) (by decide) ?_ ?_
 ·exact ⟨range_drew R9,range_drew S9⟩
 intro hT hHeld
 (refine tht 0 hT ?_;(try simp only [Act.put,aset,dZ,dS]);refine tht 1 hT ?_;(try simp only [Act.put,aset,dZ,dS]);refine tht 2 hT ?_;(try simp only [Act.put,aset,dZ,dS]))
 (refine th_take (i := 3) (oi := ?oi3_10) (v := ?v3_10) hT ?hi3_10 (by decide) (by kernel_rfl) (by kernel_rfl) ?hq3_10 (Or.inl ⟨?hw3_10, ?hy3_10⟩) (by assumption) ?rest3_10;(case hi3_10 => (simp only [List.getElem?_toArray,List.getElem?_cons_zero,List.getElem?_cons_succ];rfl));(case hw3_10 => rfl);(case hy3_10 => (intro w' hSw;refine Eq.trans (exec_load_mid 44 _ (by rfl) w5.heap.size 3 (by rfl) _ _ Try.underlying44 (by rfl) ?hiL3_10 w' (hSw.1)) ?eqL3_10;(case eqL3_10 => with_reducible rfl);exact infoTsk));(case hq3_10 => (exact fun _ _ _ h => h));(try simp only [Act.put,aset,dZ,dS]))
 (refine th_take (i := 4) (oi := ?oi4_11) (v := ?v4_11) hT ?hi4_11 (by decide) (by kernel_rfl) (by kernel_rfl) ?hq4_11 (Or.inl ⟨?hw4_11, ?hy4_11⟩) (by assumption) ?rest4_11;(case hi4_11 => (simp only [List.getElem?_toArray,List.getElem?_cons_zero,List.getElem?_cons_succ];rfl));(case hw4_11 => rfl);(case hy4_11 => (intro w' hSw;refine Eq.trans (exec_load_mid 49 _ (by rfl) w7.heap.size 0 (by rfl) _ _ Try.underlying49 (by rfl) ?hiL4_11 w' (hSw.2)) ?eqL4_11;(case eqL4_11 => with_reducible rfl);exact infoStop));(case hq4_11 => (exact fun _ _ _ h => h));(try simp only [Act.put,aset,dZ,dS]))
 refine tst 5 (fun K hK => ?_)
 have T10 : W9.drew.there (w.heap.size + 1 + 1) 0 14 := there_drew T9
 have U10 : W9.drew.there (w.heap.size + 1 + 1 + 1) 0 3 := there_drew U9
 rw [if_pos (by rfl)]
 refine wp_store_mid _ _ _ rfl _ _ (List.toArray _) rfl rfl T10 infoTsk (all_oneCell_toArray (by simp [Value.oneCell'])) ?_
 refine hK.out _ _ ⟨range_out hHeld.1 (by omega),range_out hHeld.2 (by omega)⟩ (fun hHeld => ?_)
 clear hK K
 (try simp only [Act.put,aset,dZ,dS])
 refine th_done (by kernel_rfl) ?_
 simp only [List.drop_succ_cons,List.drop_zero]
 go_wp2_with ((with_reducible refine ik 49 ?_);refine stm rfl rfl rfl rfl (by exact tr) infoStop (all_oneCell_toArray (by simp [Value.oneCell'])) ?_;(try dsimp only [Act.put]))
 have hd : Ext W9 W9.drew := (Ext.refl _).drew
 have hfin := Lib.hid (fun (cs cs2 : List Value) => (((TSH.out.mono hd).cold (b := w.heap.size + 1 + 1) (by simp) (C4H.out.ext hd) (setCells_grown _ cs 0 _)).cold (b := w.heap.size + 1 + 1 + 1) (by simp) (((C5H.out.ext hd).grown (setCells_grown _ cs 0 _) (by omega))) (setCells_grown _ cs2 0 _)).reads HNG.out HWG.out)
 refine ret_range3 (b := w.heap.size + 1 + 1) (b2 := w.heap.size + 1 + 1 + 1) Try.results7 rfl rfl rfl rfl ?hl ?hl2 (ranges_two (by omega) ?t1 ?t2).1 (ranges_two (by omega) ?t3 ?t4).2 ?fin
 case hl => rfl
 case hl2 => rfl
 case t1 => exact T10
 case t2 => exact U10
 case t3 => exact T10
 case t4 => exact U10
 case fin =>
  rw [HR.out]
  refine ⟨_,rfl, ?_, ?_⟩
  ·obtain ⟨Af7,cf7,ef7,hrt⟩ := hfin.out [int .i64 G.1.fn,int .i64 G.1.scope,int .i64 G.1.prio,int .i64 G.1.status,int .i64 G.1.wkind,int .i64 G.1.windex,.bool G.1.wagain,.slice A7 N7 N7,.slice Ab7 G.1.blocks.length cb7,int .i64 G.1.mask,.bool G.1.unw,int .i64 G.1.level,int .i64 G.1.reason,int .i64 G.1.result] [int .i64 G.2.kind,int .i64 G.2.reason,int .i64 G.2.value]
   injection ef7 with q1 q2 q3
   rw [← q1,HN7.out] at hrt
   exact hrt
  ·have h9 := E9.out
   exact xts
theorem frames_some {p : Prg} {t : Tsk} (h : tcheckS p t = 0) (hst : t.status = 1) (hu : ¬ (t.unw = true ∧ inHand t = false)) : t.frames.length ≠ 0 := fun h0 => by
 have hi : inHand t = false := inHand_nil (List.eq_nil_of_length_eq_zero h0)
 have hu' : t.unw = false := by
  cases hx : t.unw with
  | false => rfl
  | true => exact absurd ⟨hx,hi⟩ hu
 unfold tcheckS at h
 split at h
 ·cases h
 rw [if_neg (by omega)] at h
 split at h
 ·rename_i h1
  unfold livB at h1
  simp only [Bool.and_eq_true] at h1
  obtain ⟨⟨⟨⟨⟨⟨⟨_,_⟩,_⟩,h4⟩,_⟩,_⟩,_⟩,_⟩ := h1
  have hp : plainN t = 0 := by unfold plainN;rw [hi];simpa using h0
  rw [hp,hu'] at h4
  simp at h4
 ·cases h
theorem Advance_any (p : Prg) (t : Tsk) (VP VT : Value) (w : World) (hP : RPrg w p VP) (hT : RTsk w t VT) : Calls Try.prog 7 #[VP,VT] w (AdvPost p t w) := by
 by_cases hc : tcheckS p t = 0
 ·by_cases hst : t.status = 1
  ·by_cases hu : t.unw = true ∧ inHand t = false
   ·exact Advance_unwinding p t VP VT w hP hT hc hst hu.1 hu.2
   ·have hl := frames_some hc hst hu
    cases hx : t.unw with
    | false => exact Advance_go p t VP VT w hP hT hc hst hx hl
    | true =>
     cases hy : inHand t with
     | false => exact absurd ⟨hx,hy⟩ hu
     | true => exact Advance_hand p t VP VT w hP hT hc hst hx hy hl
  ·exact Advance_state p t VP VT w hP hT hc hst
 ·exact Advance_bad p t VP VT w hP hT hc
end Go.Proofs.Ytcjjoabofecjmaa

