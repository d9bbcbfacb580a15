/- A part of the proof: The reference of layer 28. -/
import Derived.Test.YtcjjoabofecjmaaGreatQ50
set_option linter.unusedVariables false
set_option linter.unusedSimpArgs false
set_option maxHeartbeats 16000000
namespace Go.Proofs.YtcjjoabofecjmaaGreat
open Go.RowKit Go.Sort
open Go.Value (int)
theorem livB_ref (p : Prg) (t : Tsk) : livB p t = (blksB p t.blocks && (!decide (t.mask < 0) && !decide (mostI t < t.mask)) && !((t.level != 0) && (!t.unw || decide (t.level < 2) || decide ((t.blocks.length : Int) < t.level))) && rframesB p t) := by
 cases hb : blksB p t.blocks with
 | false => unfold livB;rw [hb];rfl
 | true =>
 have hd : 2 ≤ t.level → t.level ≤ (t.blocks.length : Int) → 1 ≤ depthAt t (t.level - 1) := by
  intro h1 h2
  obtain ⟨x,hx⟩ : ∃ x,t.blocks[(t.level - 1).toNat]? = some x := ⟨_,List.getElem?_eq_getElem (by omega)⟩
  have h := rblk_depth hb (by omega) hx
  unfold depthAt;rw [hx];exact h.1
 unfold livB rframesB leastI inB
 rw [hb,Bool.eq_iff_iff]
 generalize allB (frmB p t) t.frames.length 0 = A at *
 generalize allB (keepB p t) (keepsN t - 1) 1 = B at *
 generalize depthAt t (t.level - 1) = D at *
 generalize mostI t = M at *
 generalize plainN t = N at *
 cases A <;> cases B <;> cases inHand t <;> cases t.unw <;> simp <;> omega
set_option maxRecDepth 8000 in
theorem rtcheck_any (p : Prg) (t : Tsk) (VP VT : Value) (w : World) (hP : RPrg w p VP) (hT : RTsk w t VT) :
  Calls Tryz.prog 18 #[VP,VT] w fun e w' => e = .returned (int .i64 (tcheckS p t)) ∧ Ext w w' := by
 have HC := Lib.hid (fun W h => rCheck_any p VP W (hP.mono h))
 have HWt := Lib.hid (fun W h hst => rwaits_any p t VP VT W (hP.mono h) (hT.mono h) hst)
 have HH := Lib.hid (fun W h => inHandler_any t VT W (hT.mono h))
 have HFr := Lib.hid (fun W h hb hl => rframes_any p t VP VT W (hP.mono h) (hT.mono h) hb hl)
 have HFn := Lib.hid (fun W h => rfunction_any p t.fn false VP W (hP.mono h))
 have HPP := Lib.hid hP
 obtain ⟨Af,nf,cf,Ao,no,co,Av,nv,cv,rfl,hF,hO,hVr,hcf,hco,hcv⟩ := hP
 obtain ⟨Bf,mf,df,Bb,mb,db,rfl,_,_,_,_,_,_,i7,i8,_,_,hF2,hB2,hdf,hdb⟩ := hT
 clear hO hVr hcf hco hcv
 have HF := Lib.hid hF
 have HB2 := Lib.hid hB2
 have HBl := Lib.hid (fun W (h : Ext w W) => rblocks_any p t.blocks _ Bb mb db W (HPP.out.mono h) (hB2.mono RBlk.stays h))
 have hle := hF.le
 have hle2 := hF2.le
 have hle3 := hB2.le
 have HL1 := Lib.hid hF.len
 have HL2 := Lib.hid hF2.len
 have HL3 := Lib.hid hB2.len
 clear hF hF2 hB2
 go_enter Tryz.func18,Tryz.ntmps18
 go_upto_region 1 with fail
 refine wp_hid2 ?_
 intro W0 HW0
 have hb := ext_eq HW0.out
 have HE : Hid (Ext w W0) := by rw [HW0.out];exact Lib.hid xt
 have R0 := range_ext (b := w.heap.size + 1) (o := 0) (by exact rg) hb
 have k0 : W0.cell? ⟨w.heap.size,0,none⟩ = some (.slice Af nf cf) := by rw [HW0.out];simp [go_sem]
 have k1 : W0.cell? ⟨w.heap.size,1,none⟩ = some (.slice Ao no co) := by rw [HW0.out];simp [go_sem]
 have k2 : W0.cell? ⟨w.heap.size,2,none⟩ = some (.slice Av nv cv) := by rw [HW0.out];simp [go_sem]
 have z0 : w.heap.size < W0.heap.size := lt_of_cell k0
 clear hb HW0
 by_cases hck : checkS p = 0
 rotate_left
 ·have hne : (checkS p != 0) = true := by simpa using hck
  have HR : Hid (tcheckS p t = 1) := by unfold Hid tcheckS;rw [if_pos (Or.inl hck)]
  clear hck
  go_wp2_with (go_at_call 49;refine (HC.out _ (HE.out.trans xt)).mono ?_;rintro e w1 ⟨rfl,hb1⟩)
  go_ret
  exact ⟨ret_int HR.out.symm,HE.out.trans hb1⟩
 rw [hck] at HC
 have HCK := Lib.hid hck
 clear hck
 go_upto_region 3 with (go_at_call 49;refine (HC.out _ (HE.out.trans xt)).mono ?_;rintro e wb ⟨rfl,hb1⟩)
 have hew := HE.out.trans hb1
 have R1 := range_ext R0 hb1
 replace k0 := hb1.cell k0
 replace k1 := hb1.cell k1
 replace k2 := hb1.cell k2
 replace z0 : w.heap.size < wb.heap.size := lt_of_cell k0
 have q0 : wb.cell? ⟨w.heap.size + 1,0,none⟩ = some (int .i64 t.fn) := R1 0 _ rfl
 have q1 : wb.cell? ⟨w.heap.size + 1,1,none⟩ = some (int .i64 t.scope) := R1 1 _ rfl
 have q2 : wb.cell? ⟨w.heap.size + 1,2,none⟩ = some (int .i64 t.prio) := R1 2 _ rfl
 have q12 : wb.cell? ⟨w.heap.size + 1,12,none⟩ = some (int .i64 t.reason) := R1 12 _ rfl
 have q13 : wb.cell? ⟨w.heap.size + 1,13,none⟩ = some (int .i64 t.result) := R1 13 _ rfl
 have z1 : w.heap.size + 1 < wb.heap.size := lt_of_cell q0
 clear R0 hb1
 cases hfb : fnB p t.fn false with
 | false =>
  have HR : Hid (tcheckS p t = 1) := by
   unfold Hid tcheckS;rw [if_pos (Or.inr (Or.inl ?_))]
   unfold numsB
   unfold fnB at hfb
   split
   ·rfl
   ·rename_i f hf;rw [hf] at hfb;dsimp only at hfb;simp at hfb;rw [hfb];rfl
  rw [hfb] at HFn
  clear hfb
  (refine wp_region_quiet_below (by kernel_rfl) (by kernel_rfl) ?_;(repeat (go_big_quiet_step ((go_at_call 50;exact quiet_ext (HFn.out _ (hew.trans xt))))));refine wpQuiet_nil fun w1 h1 => ?_;obtain ⟨hc,hf,hs,he⟩ := eu (w := wb) h1 xt;clear h1;(try simp only [sA,sC,sD,sN] at hs))
  go_wp2
  go_ret
  exact ⟨ret_int HR.out.symm,hew.trans he⟩
 | true =>
 rw [hfb] at HFn
 obtain ⟨g,hg,hgc⟩ : ∃ g,fnAt p t.fn = some g ∧ g.cleanup = false := by
  unfold fnB at hfb
  cases hh : fnAt p t.fn with
  | none => rw [hh] at hfb;cases hfb
  | some g => rw [hh] at hfb;exact ⟨g,rfl,by simpa using hfb⟩
 obtain ⟨v0,v1,v2⟩ := fnAt_some hg
 obtain ⟨b3,off3,Ac,nc,cc,rfl,hlb3,_,_,_,_,_,_,_,_,g3,_,_⟩ := (HF.out.mono RFnc.stays hew).fnc v2
 have hltf : t.fn < (nf : Int) := by have := HL1.out;omega
 obtain ⟨qa,ha⟩ : ∃ q,(t.prio != g.prio) = q := ⟨_,rfl⟩
 obtain ⟨qb,hbq⟩ : ∃ q,decide (t.scope < 0) = q := ⟨_,rfl⟩
 obtain ⟨qc,hc⟩ : ∃ q,decide (32 ≤ t.scope) = q := ⟨_,rfl⟩
 obtain ⟨qd,hd⟩ : ∃ q,numB t.result = q := ⟨_,rfl⟩
 obtain ⟨qe,hee⟩ : ∃ q,(inB t.reason 0 9 || inB t.reason 100 999) = q := ⟨_,rfl⟩
 have HN : Hid (numsB p t = (!qa && (!qb && !qc) && qd && qe && inB t.status 1 3)) := by
  unfold Hid numsB;rw [hg];dsimp only;rw [hgc,hd,hee,← ha,← hbq,← hc,show inB t.scope 0 31 = (!decide (t.scope < 0) && !decide (32 ≤ t.scope)) by unfold inB;rw [Bool.eq_iff_iff];simp;omega];simp [bne]
 have HNu := Lib.hid (fun W => rnumber_any t.result W)
 have HRe := Lib.hid (fun W => rreason_any t.reason W)
 rw [hd] at HNu
 rw [hee] at HRe
 have HR1 : Hid (numsB p t = false → tcheckS p t = 1) := by
  intro h;unfold tcheckS;rw [if_pos (Or.inr (Or.inl h))]
 clear hd hee hfb hg hgc v1 v2
 cases qa with
 | true =>
  have HR : Hid (tcheckS p t = 1) := HR1.out (by rw [HN.out];simp)
  (refine wp_region_quiet_below (by kernel_rfl) (by kernel_rfl) ?_;(repeat (go_big_quiet_step (first | (go_at_call 50;exact quiet_ext (HFn.out _ (hew.trans xt))) | (go_at_call 51;exact quiet_same (HNu.out _)) | (go_at_call 52;exact quiet_same (HRe.out _)))));refine wpQuiet_nil fun w1 h1 => ?_;obtain ⟨hc,hf,hs,he⟩ := eu (w := wb) h1 xt;clear h1;(try simp only [sA,sC,sD,sN] at hs))
  go_wp2
  go_ret
  exact ⟨ret_int HR.out.symm,hew.trans he⟩
 | false =>
 cases qb with
 | true =>
  have HR : Hid (tcheckS p t = 1) := HR1.out (by rw [HN.out];simp)
  (refine wp_region_quiet_below (by kernel_rfl) (by kernel_rfl) ?_;(repeat (go_big_quiet_step (first | (go_at_call 50;exact quiet_ext (HFn.out _ (hew.trans xt))) | (go_at_call 51;exact quiet_same (HNu.out _)) | (go_at_call 52;exact quiet_same (HRe.out _)))));refine wpQuiet_nil fun w1 h1 => ?_;obtain ⟨hc,hf,hs,he⟩ := eu (w := wb) h1 xt;clear h1;(try simp only [sA,sC,sD,sN] at hs))
  go_wp2
  go_ret
  exact ⟨ret_int HR.out.symm,hew.trans he⟩
 | false =>
 cases qc with
 | true =>
  have HR : Hid (tcheckS p t = 1) := HR1.out (by rw [HN.out];simp)
  (refine wp_region_quiet_below (by kernel_rfl) (by kernel_rfl) ?_;(repeat (go_big_quiet_step (first | (go_at_call 50;exact quiet_ext (HFn.out _ (hew.trans xt))) | (go_at_call 51;exact quiet_same (HNu.out _)) | (go_at_call 52;exact quiet_same (HRe.out _)))));refine wpQuiet_nil fun w1 h1 => ?_;obtain ⟨hc,hf,hs,he⟩ := eu (w := wb) h1 xt;clear h1;(try simp only [sA,sC,sD,sN] at hs))
  go_wp2
  go_ret
  exact ⟨ret_int HR.out.symm,hew.trans he⟩
 | false =>
 cases qd with
 | false =>
  have HR : Hid (tcheckS p t = 1) := HR1.out (by rw [HN.out];simp)
  (refine wp_region_quiet_below (by kernel_rfl) (by kernel_rfl) ?_;(repeat (go_big_quiet_step (first | (go_at_call 50;exact quiet_ext (HFn.out _ (hew.trans xt))) | (go_at_call 51;exact quiet_same (HNu.out _)) | (go_at_call 52;exact quiet_same (HRe.out _)))));refine wpQuiet_nil fun w1 h1 => ?_;obtain ⟨hc,hf,hs,he⟩ := eu (w := wb) h1 xt;clear h1;(try simp only [sA,sC,sD,sN] at hs))
  go_wp2
  go_ret
  exact ⟨ret_int HR.out.symm,hew.trans he⟩
 | true =>
 cases qe with
 | false =>
  have HR : Hid (tcheckS p t = 1) := HR1.out (by rw [HN.out];simp)
  (refine wp_region_quiet_below (by kernel_rfl) (by kernel_rfl) ?_;(repeat (go_big_quiet_step (first | (go_at_call 50;exact quiet_ext (HFn.out _ (hew.trans xt))) | (go_at_call 51;exact quiet_same (HNu.out _)) | (go_at_call 52;exact quiet_same (HRe.out _)))));refine wpQuiet_nil fun w1 h1 => ?_;obtain ⟨hc,hf,hs,he⟩ := eu (w := wb) h1 xt;clear h1;(try simp only [sA,sC,sD,sN] at hs))
  go_wp2
  go_ret
  exact ⟨ret_int HR.out.symm,hew.trans he⟩
 | true =>
 have HN2 : Hid (numsB p t = inB t.status 1 3) := by rw [Hid,HN.out];rfl
 have q3 : wb.cell? ⟨w.heap.size + 1,3,none⟩ = some (int .i64 t.status) := R1 3 _ rfl
 (refine wp_region_quiet_below (by kernel_rfl) (by kernel_rfl) ?_;(repeat (go_big_quiet_step (first | (go_at_call 50;exact quiet_ext (HFn.out _ (hew.trans xt))) | (go_at_call 51;exact quiet_same (HNu.out _)) | (go_at_call 52;exact quiet_same (HRe.out _)))));refine wpQuiet_nil fun w1 h1 => ?_;obtain ⟨hc,hf,hs,he⟩ := eu (w := wb) h1 xt;clear h1;(try simp only [sA,sC,sD,sN] at hs))
 have hew2 := hew.trans he
 have R2 := range_ext R1 he
 replace k0 := he.cell k0
 replace k1 := he.cell k1
 replace k2 := he.cell k2
 replace q3 := he.cell q3
 replace z0 : w.heap.size < w1.heap.size := lt_of_cell k0
 replace z1 : w.heap.size + 1 < w1.heap.size := lt_of_cell q3
 clear R1 q0 q1 q2 q12 q13 he hew HR1 HN HNu HRe hc hf hs
 obtain ⟨wd,ewd⟩ : ∃ W,W = w1 := ⟨_,rfl⟩
 subst ewd
 by_cases hst3 : t.status = 1 ∨ t.status = 2 ∨ t.status = 3
 rotate_left
 ·have HR : Hid (tcheckS p t = 1) := by unfold Hid tcheckS;rw [if_pos (Or.inr (Or.inl (by rw [HN2.out,inB_off];omega)))]
  have s1 : (t.status != 1) = true := by simp;omega
  have s2 : (t.status != 2) = true := by simp;omega
  have s3 : (t.status != 3) = true := by simp;omega
  clear hst3
  go_upto_region 5 with fail
  go_wp2
  go_ret
  exact ⟨ret_int HR.out.symm,hew2.trans xt⟩
 have HNT : Hid (numsB p t = true) := by rw [Hid,HN2.out,inB_iff];omega
 obtain ⟨qw,hqw⟩ : ∃ q,waitB p t = q := ⟨_,rfl⟩
 have HQW := Lib.hid hqw
 rw [hqw] at HWt
 clear hqw HN2
 go_upto_region 5 with fail
 go_cut [66] from 48 to 66 (fun s66 wx => s66 = .bool (!qw) ∧ Hid (Ext wd wx))
 case first =>
  by_cases h1 : t.status = 1
  ·have s1 : (t.status != 1) = false := by simpa using h1
   clear h1
   (go_wp2_with (first | ((with_reducible refine ig 32 ?_);refine ldg Tryz.underlying32 (by rfl) rfl rfl (by exact rg) rfl (by exact infoTsk) ?_;dsimp only [dZ,dS]) | (go_at_call 53;refine (HWt.out _ (hew2.trans xt) hst3).mono ?_;rintro e w4 ⟨rfl,hb4⟩));go_meet;exact ⟨rfl,by first | exact hb4 | exact Ext.refl _⟩)
  by_cases h2 : t.status = 2
  ·have s1 : (t.status != 1) = true := by simpa using h1
   have s2 : (t.status != 2) = false := by simpa using h2
   clear h1 h2
   (go_wp2_with (first | ((with_reducible refine ig 32 ?_);refine ldg Tryz.underlying32 (by rfl) rfl rfl (by exact rg) rfl (by exact infoTsk) ?_;dsimp only [dZ,dS]) | (go_at_call 53;refine (HWt.out _ (hew2.trans xt) hst3).mono ?_;rintro e w4 ⟨rfl,hb4⟩));go_meet;exact ⟨rfl,by first | exact hb4 | exact Ext.refl _⟩)
  have h3 : t.status = 3 := by omega
  have s1 : (t.status != 1) = true := by simpa using h1
  have s2 : (t.status != 2) = true := by simpa using h2
  have s3 : (t.status != 3) = false := by simpa using h3
  clear h1 h2 h3
  (go_wp2_with (first | ((with_reducible refine ig 32 ?_);refine ldg Tryz.underlying32 (by rfl) rfl rfl (by exact rg) rfl (by exact infoTsk) ?_;dsimp only [dZ,dS]) | (go_at_call 53;refine (HWt.out _ (hew2.trans xt) hst3).mono ?_;rintro e w4 ⟨rfl,hb4⟩));go_meet;exact ⟨rfl,by first | exact hb4 | exact Ext.refl _⟩)
 case rest =>
 obtain ⟨rfl,HX⟩ := hcut
 have hX := HX.out
 have hew3 := hew2.trans hX
 have R3 := range_ext R2 hX
 replace k0 := hX.cell k0
 replace k1 := hX.cell k1
 replace k2 := hX.cell k2
 replace q3 := hX.cell q3
 have q7 : wc.cell? ⟨w.heap.size + 1,7,none⟩ = some (.slice Bf mf df) := R3 7 _ rfl
 have q8 : wc.cell? ⟨w.heap.size + 1,8,none⟩ = some (.slice Bb mb db) := R3 8 _ rfl
 have q9 : wc.cell? ⟨w.heap.size + 1,9,none⟩ = some (int .i64 t.mask) := R3 9 _ rfl
 have q10 : wc.cell? ⟨w.heap.size + 1,10,none⟩ = some (.bool t.unw) := R3 10 _ rfl
 have q11 : wc.cell? ⟨w.heap.size + 1,11,none⟩ = some (int .i64 t.level) := R3 11 _ rfl
 replace z0 : w.heap.size < wc.heap.size := lt_of_cell k0
 replace z1 : w.heap.size + 1 < wc.heap.size := lt_of_cell q7
 clear R2 hX hew2 HX
 cases qw with
 | false =>
  have HR : Hid (tcheckS p t = 1) := by unfold Hid tcheckS;rw [if_pos (Or.inr (Or.inr HQW.out))]
  go_wp2
  go_ret
  exact ⟨ret_int HR.out.symm,hew3⟩
 | true =>
 have HR1 : Hid (tcheckS p t = if t.status = 3 then (if t.frames.length = 0 ∧ t.blocks.length = 0 ∧ t.mask = 0 ∧ t.level = 0 ∧ t.unw = false then 0 else 1) else if livB p t = true then 0 else 1) := by
  unfold Hid tcheckS;rw [if_neg (by rw [HCK.out,HNT.out,HQW.out];simp)]
 by_cases hs : t.status = 3
 ·have hs3 : (t.status == 3) = true := by simpa using hs
  rw [Hid,if_pos hs,← HL2.out,← HL3.out] at HR1
  replace HR1 := Lib.hid HR1
  clear hs hst3
  by_cases m1 : mf = 0
  rotate_left
  ·have HR : Hid (tcheckS p t = 1) := by rw [Hid,HR1.out,if_neg (fun h => m1 h.1)]
   have g1 : (0 : Int) < (mf : Int) := by omega
   clear m1 HR1
   go_wp2
   go_ret
   exact ⟨ret_int HR.out.symm,hew3⟩
  by_cases m2 : mb = 0
  rotate_left
  ·have HR : Hid (tcheckS p t = 1) := by rw [Hid,HR1.out,if_neg (fun h => m2 h.2.1)]
   have g1 : ¬ (0 : Int) < (mf : Int) := by omega
   have g2 : (0 : Int) < (mb : Int) := by omega
   clear m1 m2 HR1
   go_wp2
   go_ret
   exact ⟨ret_int HR.out.symm,hew3⟩
  have g1 : ¬ (0 : Int) < (mf : Int) := by omega
  have g2 : ¬ (0 : Int) < (mb : Int) := by omega
  obtain ⟨qm,hm⟩ : ∃ q,(t.mask != 0) = q := ⟨_,rfl⟩
  obtain ⟨ql,hl⟩ : ∃ q,(t.level != 0) = q := ⟨_,rfl⟩
  obtain ⟨u,hu⟩ : ∃ q,t.unw = q := ⟨_,rfl⟩
  rw [hu] at q10
  have HR2 : Hid (tcheckS p t = if (!qm && !ql && !u) = true then 0 else 1) := by
   rw [Hid,HR1.out,← hm,← hl,← hu];simp [m1,m2,and_assoc]
  clear m1 m2 HR1 hu
  cases qm with
  | true =>
   have HR : Hid (tcheckS p t = 1) := by rw [Hid,HR2.out];rfl
   go_wp2
   go_ret
   exact ⟨ret_int HR.out.symm,hew3⟩
  | false =>
  cases ql with
  | true =>
   have HR : Hid (tcheckS p t = 1) := by rw [Hid,HR2.out];rfl
   go_wp2
   go_ret
   exact ⟨ret_int HR.out.symm,hew3⟩
  | false =>
  cases u with
  | true =>
   have HR : Hid (tcheckS p t = 1) := by rw [Hid,HR2.out];rfl
   go_wp2
   go_ret
   exact ⟨ret_int HR.out.symm,hew3⟩
  | false =>
   have HR : Hid (tcheckS p t = 0) := by rw [Hid,HR2.out];rfl
   go_wp2
   go_ret
   exact ⟨ret_int HR.out.symm,hew3⟩
 have hs3 : (t.status == 3) = false := by simpa using hs
 rw [Hid,if_neg hs] at HR1
 replace HR1 := Lib.hid HR1
 clear hs hst3
 obtain ⟨qh,hqh⟩ : ∃ q,inHand t = q := ⟨_,rfl⟩
 rw [hqh] at HH
 have HQH := Lib.hid hqh
 clear hqh
 go_upto_if 95 with (first | ((first | (with_reducible refine jl 32 ?_) | (with_reducible refine il 32 ?_));refine ldm Tryz.underlying32 rfl rfl rfl (by exact rg) rfl (by exact infoTsk) ?_;dsimp only [dZ,dS]) | (go_at_call 54;refine (HH.out _ (hew3.trans xt)).mono ?_;rintro e w5 ⟨rfl,hb5⟩))
 have hew5 := hew3.trans hb5
 have R5 := range_ext R3 hb5
 replace k0 := hb5.cell k0
 replace k1 := hb5.cell k1
 replace k2 := hb5.cell k2
 replace q8 := hb5.cell q8
 replace q9 := hb5.cell q9
 replace q10 := hb5.cell q10
 replace q11 := hb5.cell q11
 replace z0 : w.heap.size < w5.heap.size := lt_of_cell k0
 replace z1 : w.heap.size + 1 < w5.heap.size := lt_of_cell q8
 clear R3 q7 q3 hb5 hew3
 go_cut [5] from 96 to 97 (fun s5 wx => s5 = .int .i64 (mostI t) ∧ wx = w5)
 case first =>
  have h : Hid (mostI t = if qh = true then 101 else 100) := by rw [Hid,mostI,HQH.out]
  cases qh
  all_goals
   go_wp2
   go_meet
   exact ⟨by rw [h.out];rfl,rfl⟩
 case rest =>
 obtain ⟨rfl,rfl⟩ := hcut
 have HR2 := Lib.hid (HR1.out.trans (by rw [livB_ref]))
 clear HR1
 obtain ⟨qk,hk⟩ : ∃ q,blksB p t.blocks = q := ⟨_,rfl⟩
 obtain ⟨qm,hm⟩ : ∃ q,decide (t.mask < 0) = q := ⟨_,rfl⟩
 obtain ⟨M,hM⟩ : ∃ M,mostI t = M := ⟨_,rfl⟩
 obtain ⟨qM,hMM⟩ : ∃ q,decide (M < t.mask) = q := ⟨_,rfl⟩
 obtain ⟨l,hl⟩ : ∃ l,t.level = l := ⟨_,rfl⟩
 obtain ⟨u,hu⟩ : ∃ u,t.unw = u := ⟨_,rfl⟩
 obtain ⟨ql,hql⟩ : ∃ q,(l != 0) = q := ⟨_,rfl⟩
 obtain ⟨qx,hqx⟩ : ∃ q,decide (l < 2) = q := ⟨_,rfl⟩
 obtain ⟨qy,hqy⟩ : ∃ q,decide ((mb : Int) < l) = q := ⟨_,rfl⟩
 have HR3 : Hid (tcheckS p t = if (qk && (!qm && !qM) && !(ql && (!u || qx || qy)) && rframesB p t) = true then 0 else 1) := by
  rw [Hid,HR2.out,hk,hm,hM,hMM,hl,hu,hql,hqx,← HL3.out,hqy]
 have HBK := Lib.hid hk
 have HLL := Lib.hid hl
 rw [hk] at HBl
 rw [hM]
 rw [hl] at q11
 rw [hu] at q10
 clear HR2 hk hM hl hu
 go_upto_region 14 with fail
 go_cut [5,113] from 98 to 113 (fun s5 s113 wx => s5 = .int .i64 M ∧ s113 = .bool (!qk || qm || qM) ∧ Hid (Ext wc wx))
 case first =>
  cases qk with
  | false => (go_wp2_with (first | ((with_reducible refine ig 32 ?_);refine ldg Tryz.underlying32 (by rfl) rfl rfl (by exact rg) rfl (by exact infoTsk) ?_;dsimp only [dZ,dS]) | ((first | (with_reducible refine jl 32 ?_) | (with_reducible refine il 32 ?_));refine ldm Tryz.underlying32 rfl rfl rfl (by exact rg) rfl (by exact infoTsk) ?_;dsimp only [dZ,dS]) | (go_at_call 55;refine (HBl.out _ (hew5.trans xt)).mono ?_;rintro e w6 ⟨rfl,hb6⟩;have y9 := hb6.cell q9));go_meet;exact ⟨rfl,rfl,by first | exact hb6 | exact Ext.refl _⟩)
  | true => cases qm with
   | true => (go_wp2_with (first | ((with_reducible refine ig 32 ?_);refine ldg Tryz.underlying32 (by rfl) rfl rfl (by exact rg) rfl (by exact infoTsk) ?_;dsimp only [dZ,dS]) | ((first | (with_reducible refine jl 32 ?_) | (with_reducible refine il 32 ?_));refine ldm Tryz.underlying32 rfl rfl rfl (by exact rg) rfl (by exact infoTsk) ?_;dsimp only [dZ,dS]) | (go_at_call 55;refine (HBl.out _ (hew5.trans xt)).mono ?_;rintro e w6 ⟨rfl,hb6⟩;have y9 := hb6.cell q9));go_meet;exact ⟨rfl,rfl,by first | exact hb6 | exact Ext.refl _⟩)
   | false => cases qM with
    | true => (go_wp2_with (first | ((with_reducible refine ig 32 ?_);refine ldg Tryz.underlying32 (by rfl) rfl rfl (by exact rg) rfl (by exact infoTsk) ?_;dsimp only [dZ,dS]) | ((first | (with_reducible refine jl 32 ?_) | (with_reducible refine il 32 ?_));refine ldm Tryz.underlying32 rfl rfl rfl (by exact rg) rfl (by exact infoTsk) ?_;dsimp only [dZ,dS]) | (go_at_call 55;refine (HBl.out _ (hew5.trans xt)).mono ?_;rintro e w6 ⟨rfl,hb6⟩;have y9 := hb6.cell q9));go_meet;exact ⟨rfl,rfl,by first | exact hb6 | exact Ext.refl _⟩)
    | false => (go_wp2_with (first | ((with_reducible refine ig 32 ?_);refine ldg Tryz.underlying32 (by rfl) rfl rfl (by exact rg) rfl (by exact infoTsk) ?_;dsimp only [dZ,dS]) | ((first | (with_reducible refine jl 32 ?_) | (with_reducible refine il 32 ?_));refine ldm Tryz.underlying32 rfl rfl rfl (by exact rg) rfl (by exact infoTsk) ?_;dsimp only [dZ,dS]) | (go_at_call 55;refine (HBl.out _ (hew5.trans xt)).mono ?_;rintro e w6 ⟨rfl,hb6⟩;have y9 := hb6.cell q9));go_meet;exact ⟨rfl,rfl,by first | exact hb6 | exact Ext.refl _⟩)
 case rest =>
 obtain ⟨rfl,rfl,HX⟩ := hcut
 have hX := HX.out
 have hew6 := hew5.trans hX
 have R6 := range_ext R5 hX
 replace k0 := hX.cell k0
 replace k1 := hX.cell k1
 replace k2 := hX.cell k2
 replace q8 := hX.cell q8
 replace q10 := hX.cell q10
 replace q11 := hX.cell q11
 replace z0 : w.heap.size < wc.heap.size := lt_of_cell k0
 replace z1 : w.heap.size + 1 < wc.heap.size := lt_of_cell q8
 clear R5 hX hew5 HX q9
 obtain ⟨qz,hz⟩ : ∃ q,(!qk || qm || qM) = q := ⟨_,rfl⟩
 have HZ := Lib.hid hz
 rw [hz]
 clear hz
 cases qz with
 | true =>
  have HR : Hid (tcheckS p t = 1) := by
   have h := HZ.out
   rw [Hid,HR3.out,if_neg]
   intro h2
   cases qk <;> cases qm <;> cases qM <;> simp_all
  go_wp2
  go_ret
  exact ⟨ret_int HR.out.symm,hew6⟩
 | false =>
 have HR4 : Hid (qk = true ∧ tcheckS p t = if (!(ql && (!u || qx || qy)) && rframesB p t) = true then 0 else 1) := by
  have h := HZ.out
  have h3 := HR3.out
  cases qk <;> cases qm <;> cases qM <;> first | (cases h;done) | exact ⟨rfl,h3⟩
 have HFB := Lib.hid (fun W h hl => HFr.out W h (HBK.out.trans HR4.out.1) hl)
 obtain ⟨qf,hf⟩ : ∃ q,rframesB p t = q := ⟨_,rfl⟩
 have HQL := Lib.hid hql
 have HQX := Lib.hid hqx
 have HQY := Lib.hid hqy
 cases ql with
 | false =>
  have hlv : t.level = 0 ∨ (2 ≤ t.level ∧ t.level ≤ (t.blocks.length : Int)) := by rw [HLL.out,← HL3.out];left;simpa using HQL.out
  have HFC := Lib.hid (fun W h => HFB.out W h hlv)
  rw [hf] at HFC HR4
  clear hlv HFB
  cases qf with
  | true =>
   have HR : Hid (tcheckS p t = 0) := by rw [Hid,HR4.out.2];rfl
   go_wp2_with (first | ((with_reducible refine ig 32 ?_);refine ldg Tryz.underlying32 (by rfl) rfl rfl (by exact rg) rfl (by exact infoTsk) ?_;dsimp only [dZ,dS]) | ((first | (with_reducible refine jl 32 ?_) | (with_reducible refine il 32 ?_));refine ldm Tryz.underlying32 rfl rfl rfl (by exact rg) rfl (by exact infoTsk) ?_;dsimp only [dZ,dS]) | (go_at_call 56;refine (HFC.out _ (hew6.trans xt)).mono ?_;rintro e w7 ⟨rfl,hb7⟩))
   go_ret
   exact ⟨ret_int HR.out.symm,hew6.trans hb7⟩
  | false =>
   have HR : Hid (tcheckS p t = 1) := by rw [Hid,HR4.out.2];rfl
   go_wp2_with (first | ((with_reducible refine ig 32 ?_);refine ldg Tryz.underlying32 (by rfl) rfl rfl (by exact rg) rfl (by exact infoTsk) ?_;dsimp only [dZ,dS]) | ((first | (with_reducible refine jl 32 ?_) | (with_reducible refine il 32 ?_));refine ldm Tryz.underlying32 rfl rfl rfl (by exact rg) rfl (by exact infoTsk) ?_;dsimp only [dZ,dS]) | (go_at_call 56;refine (HFC.out _ (hew6.trans xt)).mono ?_;rintro e w7 ⟨rfl,hb7⟩))
   go_ret
   exact ⟨ret_int HR.out.symm,hew6.trans hb7⟩
 | true =>
  cases u with
  | false =>
   have HR : Hid (tcheckS p t = 1) := by rw [Hid,HR4.out.2];rfl
   clear HFB
   go_wp2_with (first | ((with_reducible refine ig 32 ?_);refine ldg Tryz.underlying32 (by rfl) rfl rfl (by exact rg) rfl (by exact infoTsk) ?_;dsimp only [dZ,dS]) | ((first | (with_reducible refine jl 32 ?_) | (with_reducible refine il 32 ?_));refine ldm Tryz.underlying32 rfl rfl rfl (by exact rg) rfl (by exact infoTsk) ?_;dsimp only [dZ,dS]))
   go_ret
   exact ⟨ret_int HR.out.symm,hew6⟩
  | true =>
   cases qx with
   | true =>
    have HR : Hid (tcheckS p t = 1) := by rw [Hid,HR4.out.2];rfl
    clear HFB
    go_wp2_with (first | ((with_reducible refine ig 32 ?_);refine ldg Tryz.underlying32 (by rfl) rfl rfl (by exact rg) rfl (by exact infoTsk) ?_;dsimp only [dZ,dS]) | ((first | (with_reducible refine jl 32 ?_) | (with_reducible refine il 32 ?_));refine ldm Tryz.underlying32 rfl rfl rfl (by exact rg) rfl (by exact infoTsk) ?_;dsimp only [dZ,dS]))
    go_ret
    exact ⟨ret_int HR.out.symm,hew6⟩
   | false =>
    cases qy with
    | true =>
     have HR : Hid (tcheckS p t = 1) := by rw [Hid,HR4.out.2];rfl
     clear HFB
     go_wp2_with (first | ((with_reducible refine ig 32 ?_);refine ldg Tryz.underlying32 (by rfl) rfl rfl (by exact rg) rfl (by exact infoTsk) ?_;dsimp only [dZ,dS]) | ((first | (with_reducible refine jl 32 ?_) | (with_reducible refine il 32 ?_));refine ldm Tryz.underlying32 rfl rfl rfl (by exact rg) rfl (by exact infoTsk) ?_;dsimp only [dZ,dS]))
     go_ret
     exact ⟨ret_int HR.out.symm,hew6⟩
    | false =>
     have hlv : t.level = 0 ∨ (2 ≤ t.level ∧ t.level ≤ (t.blocks.length : Int)) := by rw [HLL.out,← HL3.out];right;exact ⟨by have := of_decide_eq_false HQX.out;omega,by have := of_decide_eq_false HQY.out;omega⟩
     have HFC := Lib.hid (fun W h => HFB.out W h hlv)
     rw [hf] at HFC HR4
     clear hlv HFB
     cases qf with
     | true =>
      have HR : Hid (tcheckS p t = 0) := by rw [Hid,HR4.out.2];rfl
      go_wp2_with (first | ((with_reducible refine ig 32 ?_);refine ldg Tryz.underlying32 (by rfl) rfl rfl (by exact rg) rfl (by exact infoTsk) ?_;dsimp only [dZ,dS]) | ((first | (with_reducible refine jl 32 ?_) | (with_reducible refine il 32 ?_));refine ldm Tryz.underlying32 rfl rfl rfl (by exact rg) rfl (by exact infoTsk) ?_;dsimp only [dZ,dS]) | (go_at_call 56;refine (HFC.out _ (hew6.trans xt)).mono ?_;rintro e w7 ⟨rfl,hb7⟩))
      go_ret
      exact ⟨ret_int HR.out.symm,hew6.trans hb7⟩
     | false =>
      have HR : Hid (tcheckS p t = 1) := by rw [Hid,HR4.out.2];rfl
      go_wp2_with (first | ((with_reducible refine ig 32 ?_);refine ldg Tryz.underlying32 (by rfl) rfl rfl (by exact rg) rfl (by exact infoTsk) ?_;dsimp only [dZ,dS]) | ((first | (with_reducible refine jl 32 ?_) | (with_reducible refine il 32 ?_));refine ldm Tryz.underlying32 rfl rfl rfl (by exact rg) rfl (by exact infoTsk) ?_;dsimp only [dZ,dS]) | (go_at_call 56;refine (HFC.out _ (hew6.trans xt)).mono ?_;rintro e w7 ⟨rfl,hb7⟩))
      go_ret
      exact ⟨ret_int HR.out.symm,hew6.trans hb7⟩
end Go.Proofs.YtcjjoabofecjmaaGreat

