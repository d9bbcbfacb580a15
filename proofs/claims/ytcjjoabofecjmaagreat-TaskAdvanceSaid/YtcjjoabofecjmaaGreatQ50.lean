/- A part of the proof: The reference of layer 28; The reference of layer 28. -/
import Derived.Test.YtcjjoabofecjmaaGreatQ38
set_option linter.unusedVariables false
set_option linter.unusedSimpArgs false
set_option maxHeartbeats 16000000
namespace Go.Proofs.YtcjjoabofecjmaaGreat
open Go.RowKit Go.Sort
open Go.Value (int)
theorem frmB_none {p : Prg} {t : Tsk} {i : Nat} {f : Frm} (h : t.frames[i]? = some f) (hn : fnAt p f.fn = none) : frmB p t i = false := by
 unfold frmB;rw [h];dsimp only;rw [hn]
theorem frmB_some {p : Prg} {t : Tsk} {i : Nat} {f : Frm} {g : Fnc} (h : t.frames[i]? = some f) (hn : fnAt p f.fn = some g) :
  frmB p t i = (((f.regs.length : Int) == g.regs) && f.regs.all numB && inB f.pc 0 (g.code.length : Int) && (f.cleanup == g.cleanup) &&
   (if f.cleanup = true then (f.result == -1) && (i + 1 == t.frames.length)
   else if i = 0 then (f.fn == t.fn) && (f.result == -1)
   else match t.frames[i - 1]? with
    | none => false
    | some h => match fnAt p h.fn with
     | none => false
     | some k => inB f.result 0 (k.regs - 1))) := by
 unfold frmB;rw [h];dsimp only;rw [hn];rfl
set_option maxRecDepth 8000 in
theorem rframe_any (p : Prg) (t : Tsk) (i : Nat) (VP VT : Value) (w : World) (hP : RPrg w p VP) (hT : RTsk w t VT) (hi : i < t.frames.length)
  (hprev : i ≠ 0 → ∃ h k,t.frames[i - 1]? = some h ∧ fnAt p h.fn = some k ∧ (h.regs.length : Int) = k.regs) :
  Calls Tryz.prog 87 #[VP,VT,.int .i64 (i : Int)] w fun e w' => e = .returned (.bool (frmB p t i)) ∧ Ext w w' := by
 obtain ⟨Af,nf,cf,Ao,no,co,Av,nv,cv,rfl,hF,_⟩ := hP
 obtain ⟨Bf,mf,df,Bb,mb,db,rfl,_,_,_,_,_,_,_,_,_,_,hFr,_⟩ := hT
 have HFr := Lib.hid hFr
 have HL := Lib.hid hFr.len
 have hml := hFr.le
 have HF := Lib.hid hF
 have hnf := hF.le
 have HNF := Lib.hid hF.len
 have HPV := Lib.hid hprev
 obtain ⟨f,hf⟩ : ∃ f,t.frames[i]? = some f := ⟨_,List.getElem?_eq_getElem hi⟩
 obtain ⟨b,off,Ar,nr,cr,rfl,hb,_,_,_,⟨hR,_⟩,r0,r1,r2,r3,r4⟩ := hFr.frm hf
 have him : (i : Int) < (mf : Int) := by have := HL.out;omega
 have hi0 : (0 : Int) ≤ (i : Int) := by omega
 have hnr := hR.le
 have HNR := Lib.hid hR.len
 have HNs := Lib.hid (fun W (hE : Ext w W) => rnumbers_any Ar nr cr f.regs W (hR.mono RInt.stays hE))
 have HFE := Lib.hid hf
 clear hFr hprev hi hR hF
 go_enter Tryz.func87,Tryz.ntmps87
 go_upto_region 2 with fail
 refine wp_hid2 ?_
 intro W0 HW0
 have HE : Hid (Ext w W0) := by rw [HW0.out];exact Lib.hid xt
 have e0 : W0.cell? ⟨w.heap.size,0,none⟩ = some (.slice Af nf cf) := by rw [HW0.out];simp [go_sem]
 have f0 : W0.cell? ⟨w.heap.size + 1,0,none⟩ = some (int .i64 t.fn) := by rw [HW0.out];simp [go_sem]
 have f7 : W0.cell? ⟨w.heap.size + 1,7,none⟩ = some (.slice (some ⟨b,off,none⟩) mf df) := by rw [HW0.out];simp [go_sem]
 have k0 : W0.cell? ⟨w.heap.size + 2,0,none⟩ = some (int .i64 f.fn) := by rw [HW0.out];simp [go_sem]
 have k1 : W0.cell? ⟨w.heap.size + 2,1,none⟩ = some (int .i64 f.pc) := by rw [HW0.out];simp [go_sem]
 have k2 : W0.cell? ⟨w.heap.size + 2,2,none⟩ = some (.slice Ar nr cr) := by rw [HW0.out];simp [go_sem]
 have k3 : W0.cell? ⟨w.heap.size + 2,3,none⟩ = some (int .i64 f.result) := by rw [HW0.out];simp [go_sem]
 have k4 : W0.cell? ⟨w.heap.size + 2,4,none⟩ = some (.bool f.cleanup) := by rw [HW0.out];simp [go_sem]
 have z0 : w.heap.size + 2 < W0.heap.size := lt_of_cell k0
 clear HW0 r0 r1 r2 r3 r4
 cases hfn : fnAt p f.fn with
 | none =>
  have HQ := Lib.hid (frmB_none HFE.out hfn)
  have h0 := fnAt_none hfn
  clear hfn
  by_cases h1 : f.fn < 0
  ·have h1' : decide (f.fn < 0) = true := decide_eq_true h1
   go_quiet (fail)
   go_wp2
   go_ret
   exact ⟨ret_bool HQ.out.symm,HE.out.trans xt⟩
  ·have h1' : decide (f.fn < 0) = false := decide_eq_false h1
   have h2' : decide ((nf : Int) ≤ f.fn) = true := decide_eq_true (by have := HNF.out;omega)
   clear h0 h1
   go_quiet (fail)
   go_wp2
   go_ret
   exact ⟨ret_bool HQ.out.symm,HE.out.trans xt⟩
 | some g =>
 obtain ⟨h0,h1,h2⟩ := fnAt_some hfn
 have hlt : f.fn < (nf : Int) := by have := HNF.out;omega
 have h1' : decide (f.fn < 0) = false := decide_eq_false (by omega)
 have h2' : decide ((nf : Int) ≤ f.fn) = false := decide_eq_false (by omega)
 obtain ⟨b2,off2,Ac,nc,cc,rfl,hb2,_,_,_,_,⟨hC,_⟩,_,_,p2,_,p4,p5⟩ := (HF.out.mono RFnc.stays HE.out).fnc h2
 have HNC := Lib.hid hC.len
 have hnc := hC.le
 have HQ0 := Lib.hid (frmB_some HFE.out hfn)
 clear hfn h1 h2 hC
 obtain ⟨cf1,hcf⟩ : ∃ q,f.cleanup = q := ⟨_,rfl⟩
 obtain ⟨cg,hcg⟩ : ∃ q,g.cleanup = q := ⟨_,rfl⟩
 rw [hcf] at k4
 rw [hcg] at p4
 obtain ⟨q2,h2⟩ : ∃ q,((nr : Int) != g.regs) = q := ⟨_,rfl⟩
 obtain ⟨q3,h3⟩ : ∃ q,f.regs.all numB = q := ⟨_,rfl⟩
 obtain ⟨q4,h4⟩ : ∃ q,decide (f.pc < 0) = q := ⟨_,rfl⟩
 obtain ⟨q5,h5⟩ : ∃ q,decide ((nc : Int) < f.pc) = q := ⟨_,rfl⟩
 have HQ : Hid (frmB p t i = (!q2 && q3 && (!q4 && !q5) && (cf1 == cg) && (if cf1 = true then (f.result == -1) && (i + 1 == t.frames.length)
   else if i = 0 then (f.fn == t.fn) && (f.result == -1)
   else match t.frames[i - 1]? with
    | none => false
    | some h => match fnAt p h.fn with
     | none => false
     | some k => inB f.result 0 (k.regs - 1)))) := by
  rw [Hid,HQ0.out,← h2,h3,← h4,← h5,hcf,hcg,HNR.out,← HNC.out]
  congr 1
  congr 1
  congr 1
  ·congr 1
   simp [bne]
  ·unfold inB;rw [Bool.eq_iff_iff];first | (simp;done) | (simp;omega)
 rw [h3] at HNs
 clear HQ0 h3 hcf hcg
 cases hne : (cf1 == cg) with
 | false =>
  have HR : Hid (frmB p t i = false) := by rw [Hid,HQ.out,hne];simp
  clear HQ
  cases cf1 <;> cases cg <;> first | (cases hne;done) | skip
  all_goals
   clear hne
   go_quiet (fail)
   go_wp2
   go_ret
   exact ⟨ret_bool HR.out.symm,HE.out.trans xt⟩
 | true =>
 rw [hne,Bool.and_true] at HQ
 have hcc : cf1 = cg := by simpa using hne
 subst hcc
 clear hne
 cases cf1 with
 | true =>
  go_quiet (fail)
  go_upto_region 4 with fail
  refine wp_hid2 ?_
  intro W1 HW1
  have HE1 : Hid (Ext W0 W1) := by rw [HW1.out];exact Lib.hid xt
  clear HW1
  replace e0 := HE1.out.cell e0
  replace f0 := HE1.out.cell f0
  replace f7 := HE1.out.cell f7
  replace k0 := HE1.out.cell k0
  replace k1 := HE1.out.cell k1
  replace k2 := HE1.out.cell k2
  replace k3 := HE1.out.cell k3
  replace k4 := HE1.out.cell k4
  replace p2 := HE1.out.cell p2
  replace p4 := HE1.out.cell p4
  replace p5 := HE1.out.cell p5
  replace z0 : w.heap.size + 2 < W1.heap.size := lt_of_cell k0
  have zb2 := lt_of_cell p2
  have z1 : w.heap.size + 1 < W1.heap.size := by omega
  have zz : w.heap.size < W1.heap.size := by omega
  cases q2 with
  | true =>
   (refine wp_region_quiet_below (by kernel_rfl) (by kernel_rfl) ?_;(repeat (go_big_quiet_step ((go_at_call 61;exact quiet_ext (HNs.out _ ((HE.out.trans HE1.out).trans xt))))));refine wpQuiet_nil fun w1 h1 => ?_;obtain ⟨hc,hf,hs,he⟩ := eu (w := W1) h1 xt;clear h1;(try simp only [sA,sC,sD,sN] at hs))
   go_wp2
   go_ret
   exact ⟨ret_bool (by rw [HQ.out];simp),(HE.out.trans HE1.out).trans he⟩
  | false =>
  cases q3 with
  | false =>
   (refine wp_region_quiet_below (by kernel_rfl) (by kernel_rfl) ?_;(repeat (go_big_quiet_step ((go_at_call 61;exact quiet_ext (HNs.out _ ((HE.out.trans HE1.out).trans xt))))));refine wpQuiet_nil fun w1 h1 => ?_;obtain ⟨hc,hf,hs,he⟩ := eu (w := W1) h1 xt;clear h1;(try simp only [sA,sC,sD,sN] at hs))
   go_wp2
   go_ret
   exact ⟨ret_bool (by rw [HQ.out];simp),(HE.out.trans HE1.out).trans he⟩
  | true =>
  cases q4 with
  | true =>
   (refine wp_region_quiet_below (by kernel_rfl) (by kernel_rfl) ?_;(repeat (go_big_quiet_step ((go_at_call 61;exact quiet_ext (HNs.out _ ((HE.out.trans HE1.out).trans xt))))));refine wpQuiet_nil fun w1 h1 => ?_;obtain ⟨hc,hf,hs,he⟩ := eu (w := W1) h1 xt;clear h1;(try simp only [sA,sC,sD,sN] at hs))
   go_wp2
   go_ret
   exact ⟨ret_bool (by rw [HQ.out];simp),(HE.out.trans HE1.out).trans he⟩
  | false =>
  cases q5 with
  | true =>
   (refine wp_region_quiet_below (by kernel_rfl) (by kernel_rfl) ?_;(repeat (go_big_quiet_step ((go_at_call 61;exact quiet_ext (HNs.out _ ((HE.out.trans HE1.out).trans xt))))));refine wpQuiet_nil fun w1 h1 => ?_;obtain ⟨hc,hf,hs,he⟩ := eu (w := W1) h1 xt;clear h1;(try simp only [sA,sC,sD,sN] at hs))
   go_wp2
   go_ret
   exact ⟨ret_bool (by rw [HQ.out];simp),(HE.out.trans HE1.out).trans he⟩
  | false =>
  (refine wp_region_quiet_below (by kernel_rfl) (by kernel_rfl) ?_;(repeat (go_big_quiet_step ((go_at_call 61;exact quiet_ext (HNs.out _ ((HE.out.trans HE1.out).trans xt))))));refine wpQuiet_nil fun w1 h1 => ?_;obtain ⟨hc,hf,hs,he⟩ := eu (w := W1) h1 xt;clear h1;(try simp only [sA,sC,sD,sN] at hs))
  obtain ⟨q6,h6⟩ : ∃ q,(f.result == -1) = q := ⟨_,rfl⟩
  have HS : Hid ((i + 1 == t.frames.length) = ((i : Int) == (mf : Int) - 1)) := by rw [Hid,← HL.out,Bool.eq_iff_iff];simp;omega
  obtain ⟨q7,h7⟩ : ∃ q,((i : Int) == (mf : Int) - 1) = q := ⟨_,rfl⟩
  have HR : Hid (frmB p t i = (q6 && q7)) := by rw [Hid,HQ.out,← h6,← h7,HS.out];simp
  have hwr := wr_sub (x := (mf : Int)) (by omega)
  clear HQ HS
  cases q7
  all_goals
   go_wp2
   go_ret
   exact ⟨ret_bool (by rw [HR.out];simp [*]),(HE.out.trans HE1.out).trans he⟩
 | false =>
  go_quiet (fail)
  go_upto_region 4 with fail
  refine wp_hid2 ?_
  intro W1 HW1
  have HE1 : Hid (Ext W0 W1) := by rw [HW1.out];exact Lib.hid xt
  clear HW1
  replace e0 := HE1.out.cell e0
  replace f0 := HE1.out.cell f0
  replace f7 := HE1.out.cell f7
  replace k0 := HE1.out.cell k0
  replace k1 := HE1.out.cell k1
  replace k2 := HE1.out.cell k2
  replace k3 := HE1.out.cell k3
  replace k4 := HE1.out.cell k4
  replace p2 := HE1.out.cell p2
  replace p4 := HE1.out.cell p4
  replace p5 := HE1.out.cell p5
  replace z0 : w.heap.size + 2 < W1.heap.size := lt_of_cell k0
  have zb2 := lt_of_cell p2
  have z1 : w.heap.size + 1 < W1.heap.size := by omega
  have zz : w.heap.size < W1.heap.size := by omega
  cases q2 with
  | true =>
   (refine wp_region_quiet_below (by kernel_rfl) (by kernel_rfl) ?_;(repeat (go_big_quiet_step ((go_at_call 61;exact quiet_ext (HNs.out _ ((HE.out.trans HE1.out).trans xt))))));refine wpQuiet_nil fun w1 h1 => ?_;obtain ⟨hc,hf,hs,he⟩ := eu (w := W1) h1 xt;clear h1;(try simp only [sA,sC,sD,sN] at hs))
   go_wp2
   go_ret
   exact ⟨ret_bool (by rw [HQ.out];simp),(HE.out.trans HE1.out).trans he⟩
  | false =>
  cases q3 with
  | false =>
   (refine wp_region_quiet_below (by kernel_rfl) (by kernel_rfl) ?_;(repeat (go_big_quiet_step ((go_at_call 61;exact quiet_ext (HNs.out _ ((HE.out.trans HE1.out).trans xt))))));refine wpQuiet_nil fun w1 h1 => ?_;obtain ⟨hc,hf,hs,he⟩ := eu (w := W1) h1 xt;clear h1;(try simp only [sA,sC,sD,sN] at hs))
   go_wp2
   go_ret
   exact ⟨ret_bool (by rw [HQ.out];simp),(HE.out.trans HE1.out).trans he⟩
  | true =>
  cases q4 with
  | true =>
   (refine wp_region_quiet_below (by kernel_rfl) (by kernel_rfl) ?_;(repeat (go_big_quiet_step ((go_at_call 61;exact quiet_ext (HNs.out _ ((HE.out.trans HE1.out).trans xt))))));refine wpQuiet_nil fun w1 h1 => ?_;obtain ⟨hc,hf,hs,he⟩ := eu (w := W1) h1 xt;clear h1;(try simp only [sA,sC,sD,sN] at hs))
   go_wp2
   go_ret
   exact ⟨ret_bool (by rw [HQ.out];simp),(HE.out.trans HE1.out).trans he⟩
  | false =>
  cases q5 with
  | true =>
   (refine wp_region_quiet_below (by kernel_rfl) (by kernel_rfl) ?_;(repeat (go_big_quiet_step ((go_at_call 61;exact quiet_ext (HNs.out _ ((HE.out.trans HE1.out).trans xt))))));refine wpQuiet_nil fun w1 h1 => ?_;obtain ⟨hc,hf,hs,he⟩ := eu (w := W1) h1 xt;clear h1;(try simp only [sA,sC,sD,sN] at hs))
   go_wp2
   go_ret
   exact ⟨ret_bool (by rw [HQ.out];simp),(HE.out.trans HE1.out).trans he⟩
  | false =>
  (refine wp_region_quiet_below (by kernel_rfl) (by kernel_rfl) ?_;(repeat (go_big_quiet_step ((go_at_call 61;exact quiet_ext (HNs.out _ ((HE.out.trans HE1.out).trans xt))))));refine wpQuiet_nil fun w1 h1 => ?_;obtain ⟨hc,hf,hs,he⟩ := eu (w := W1) h1 xt;clear h1;(try simp only [sA,sC,sD,sN] at hs))
  rcases Nat.eq_zero_or_pos i with hz | hp
  ·have hz' : ((i : Int) == 0) = true := by simp [hz]
   obtain ⟨q6,h6⟩ : ∃ q,(f.fn == t.fn) = q := ⟨_,rfl⟩
   obtain ⟨q7,h7⟩ : ∃ q,(f.result == -1) = q := ⟨_,rfl⟩
   have HR : Hid (frmB p t i = (q6 && q7)) := by rw [Hid,HQ.out,← h6,← h7,if_pos hz];simp
   have HZ := Lib.hid hz
   clear HQ hz HPV
   cases q6
   all_goals
    go_wp2
    go_ret
    exact ⟨ret_bool (by rw [HR.out];simp [*]),(HE.out.trans HE1.out).trans he⟩
  ·obtain ⟨j,hj⟩ : ∃ j,i = j + 1 := ⟨i - 1,by omega⟩
   obtain ⟨h,k,hh,hk,hkr⟩ := HPV.out (by omega)
   have hne : ((i : Int) == 0) = false := by simp;omega
   have hjj : i - 1 = j := by omega
   rw [hjj] at hh
   obtain ⟨b3,off3,Ah,nh,ch,hAe,_,_,_,_,⟨hHR,_⟩,_,_,x2,_⟩ := (HFr.out.mono RFrm.stays (HE.out.trans HE1.out)).frm hh
   cases hAe
   have hhl := hHR.len
   have hhle := hHR.le
   obtain ⟨q6,h6⟩ : ∃ q,decide (0 ≤ f.result) = q := ⟨_,rfl⟩
   obtain ⟨q7,h7⟩ : ∃ q,decide (f.result < (nh : Int)) = q := ⟨_,rfl⟩
   have HR : Hid (frmB p t i = (q6 && q7)) := by
    have n0 : ¬ i = 0 := by omega
    rw [Hid,HQ.out,← h6,← h7,if_neg (show ¬ (false = true) by decide),if_neg n0,hjj,hh]
    dsimp only
    rw [hk]
    dsimp only
    rw [← hkr,← hhl]
    unfold inB;rw [Bool.eq_iff_iff];simp;omega
   have HZ : Hid ((i : Int) = (j : Int) + 1) := Lib.hid (by omega)
   have hjn : (j : Int) < (mf : Int) := by omega
   have hj0 : (0 : Int) ≤ (j : Int) := by omega
   clear HQ HPV hh hk hkr hHR hhl hjj hj hp
   have zx := lt_of_cell x2
   go_upto_region 10 with fail
   rw [HZ.out]
   cases q6
   all_goals
    go_quiet (fail)
    go_wp2
    go_ret
    exact ⟨ret_bool (by rw [HR.out];simp [*]),(HE.out.trans HE1.out).trans (he.trans xt)⟩
theorem ext_eq {a b : World} (h : b = a) : Ext a b := by rw [h];exact Ext.refl _
theorem frm_regs {p : Prg} {t : Tsk} {i : Nat} {h : Frm} (hf : t.frames[i]? = some h) (hb : frmB p t i = true) : ∃ k,fnAt p h.fn = some k ∧ (h.regs.length : Int) = k.regs := by
 cases hk : fnAt p h.fn with
 | none => rw [frmB_none hf hk] at hb;cases hb
 | some k =>
  rw [frmB_some hf hk] at hb
  simp only [Bool.and_eq_true,beq_iff_eq] at hb
  exact ⟨k,rfl,hb.1.1.1.1⟩
theorem rblk_depth {p : Prg} {t : Tsk} (h : blksB p t.blocks = true) {k : Nat} {x : Blk} (hk : 1 ≤ k) (hx : t.blocks[k]? = some x) : 1 ≤ x.depth ∧ x.depth ≤ 8 := by
 unfold blksB at h
 simp only [Bool.and_eq_true] at h
 have h2 := allB_iff.1 h.2 k (Nat.zero_le _) (by have := (List.getElem?_eq_some_iff.1 hx).1;omega)
 unfold blkB at h2
 rw [hx] at h2
 dsimp only at h2
 rw [if_neg (by omega)] at h2
 cases hy : t.blocks[k - 1]? with
 | none => rw [hy] at h2;simp at h2
 | some y =>
  rw [hy] at h2
  simp only [Bool.and_eq_true,inB_iff] at h2
  exact h2.2.1.1.1.2
def rframesB (p : Prg) (t : Tsk) : Bool :=
 allB (frmB p t) t.frames.length 0 && (!(decide ((8 : Int) < (plainN t : Int)) || (((plainN t : Int) == 0) && !t.unw) || (inHand t && decide (t.mask < 1))) &&
  (!(t.unw && (((t.level == 0) && ((plainN t : Int) != 0)) || (decide (0 < t.level) && ((plainN t : Int) != depthAt t (t.level - 1))))) &&
  allB (keepB p t) (keepsN t - 1) 1))
set_option maxRecDepth 8000 in
theorem rframes_any (p : Prg) (t : Tsk) (VP VT : Value) (w : World) (hP : RPrg w p VP) (hT : RTsk w t VT) (hbk : blksB p t.blocks = true) (hlv : t.level = 0 ∨ (2 ≤ t.level ∧ t.level ≤ (t.blocks.length : Int))) :
  Calls Tryz.prog 56 #[VP,VT] w fun e w' => e = .returned (.bool (rframesB p t)) ∧ Ext w w' := by
 have HBK := Lib.hid hbk
 have HLV := Lib.hid hlv
 have HH := Lib.hid (fun W h => inHandler_any t VT W (hT.mono h))
 have HPl := Lib.hid (fun W h => plain_any t VT W (hT.mono h))
 have HFm := Lib.hid (fun (i : Nat) (W : World) (h : Ext w W) (hi : i < t.frames.length) hpre => rframe_any p t i VP VT W (hP.mono h) (hT.mono h) hi hpre)
 obtain ⟨Af,nf,cf,Ao,no,co,Av,nv,cv,rfl,hF,hO,hVr,hcf,hco,hcv⟩ := hP
 obtain ⟨Bf,mf,df,Bb,mb,db,rfl,_,_,_,_,_,_,i7,i8,_,_,hF2,hB2,hdf,hdb⟩ := hT
 clear hO hVr hcf hco hcv hbk hlv
 have HF := Lib.hid hF
 have HF2 := Lib.hid hF2
 have HB2 := Lib.hid hB2
 have hle := hF.le
 have hle2 := hF2.le
 have hle3 := hB2.le
 have HL2 := Lib.hid hF2.len
 have HL3 := Lib.hid hB2.len
 clear hF hF2 hB2
 obtain ⟨qh,hqh⟩ : ∃ q,inHand t = q := ⟨_,rfl⟩
 obtain ⟨N,hN⟩ : ∃ N,plainN t = N := ⟨_,rfl⟩
 rw [hqh] at HH
 rw [hN] at HPl
 have HQH := Lib.hid hqh
 have HN := Lib.hid hN
 clear hqh hN
 go_enter Tryz.func56,Tryz.ntmps56
 go_wp2
 refine wp_hid2 ?_
 intro W0 HW0
 have hb := ext_eq HW0.out
 have HE : Hid (Ext w W0) := by rw [HW0.out];exact Lib.hid xt
 have R0 := range_ext (b := w.heap.size + 1) (o := 0) (by exact rg) hb
 have k0 : W0.cell? ⟨w.heap.size,0,none⟩ = some (.slice Af nf cf) := by rw [HW0.out];simp [go_sem]
 have k1 : W0.cell? ⟨w.heap.size,1,none⟩ = some (.slice Ao no co) := by rw [HW0.out];simp [go_sem]
 have k2 : W0.cell? ⟨w.heap.size,2,none⟩ = some (.slice Av nv cv) := by rw [HW0.out];simp [go_sem]
 clear hb HW0
 have q7 : W0.cell? ⟨w.heap.size + 1,7,none⟩ = some (.slice Bf mf df) := R0 7 _ rfl
 have hs3 : w.heap.size + 1 < W0.heap.size := lt_of_cell q7
 go_loopg [5] mf (fun gg s5 wr => ∃ kk : Nat,kk ≤ mf ∧ mf - kk ≤ gg ∧ s5 = .int .i64 kk ∧ Hid (Ext W0 wr) ∧ Hid (allB (frmB p t) mf 0 = allB (frmB p t) (mf - kk) kk) ∧ Hid (∀ j,j < kk → frmB p t j = true))
 case atStart => exact ⟨0,Nat.zero_le _,by omega,rfl,Ext.refl _,rfl,fun j hj => absurd hj (Nat.not_lt_zero _)⟩
 case round =>
  obtain ⟨kk,hkk,hg,rfl,HW,HI,HJ⟩ := hrel
  have hW := HW.out
  have R3 := range_ext R0 hW
  have hs4 := hW.size
  replace k0 := hW.cell k0
  replace k1 := hW.cell k1
  replace k2 := hW.cell k2
  replace q7 := hW.cell q7
  by_cases hlt : kk < mf
  ·have hltz : (kk : Int) < (mf : Int) := by omega
   have hkl : kk < t.frames.length := by have := HL2.out;omega
   have HD := Lib.hid (allB_step (g := frmB p t) hlt)
   have HC := Lib.hid (fun W (h : Ext wr W) => HFm.out kk W ((HE.out.trans hW).trans h) hkl (fun h0 => by
    obtain ⟨h,hh⟩ : ∃ h,t.frames[kk - 1]? = some h := ⟨_,List.getElem?_eq_getElem (by omega)⟩
    obtain ⟨k,h1,h2⟩ := frm_regs hh (HJ.out (kk - 1) (by omega))
    exact ⟨h,k,hh,h1,h2⟩))
   obtain ⟨q,hq⟩ : ∃ q,frmB p t kk = q := ⟨_,rfl⟩
   rw [hq] at HC
   have HQ := Lib.hid hq
   clear hq hkl hW
   cases q with
   | true =>
    go_wp2_with (first | ((first | (with_reducible refine jl 32 ?_) | (with_reducible refine il 32 ?_));refine ldm Tryz.underlying32 rfl rfl rfl (by exact rg) rfl (by exact infoTsk) ?_;dsimp only [dZ,dS]) | (go_at_call 87;refine (HC.out _ xt).mono ?_;rintro e w3 ⟨rfl,hb3⟩))
    go_roundg (mf - (kk + 1))
    case measure => omega
    case rel => exact ⟨kk + 1,by omega,by omega,by go_num,HW.out.trans hb3,by rw [Hid,HI.out,HD.out,HQ.out];rfl,fun j hj => by
     rcases Nat.lt_or_ge j kk with h | h
     ·exact HJ.out j h
     ·have : j = kk := by omega
      subst this;exact HQ.out⟩
   | false =>
    have HR : Hid (rframesB p t = false) := by unfold Hid rframesB;rw [← HL2.out,HI.out,HD.out,HQ.out];rfl
    go_wp2_with (first | ((first | (with_reducible refine jl 32 ?_) | (with_reducible refine il 32 ?_));refine ldm Tryz.underlying32 rfl rfl rfl (by exact rg) rfl (by exact infoTsk) ?_;dsimp only [dZ,dS]) | (go_at_call 87;refine (HC.out _ xt).mono ?_;rintro e w3 ⟨rfl,hb3⟩))
    go_ret
    exact ⟨ret_bool HR.out.symm,HE.out.trans (HW.out.trans hb3)⟩
  ·have hltz : ¬ (kk : Int) < (mf : Int) := by omega
   have HFA : Hid (∀ j,j < mf → frmB p t j = true) := fun j hj => HJ.out j (by omega)
   have HR0 : Hid (rframesB p t = (!(decide ((8 : Int) < (N : Int)) || (((N : Int) == 0) && !t.unw) || (qh && decide (t.mask < 1))) &&
     (!(t.unw && (((t.level == 0) && ((N : Int) != 0)) || (decide (0 < t.level) && ((N : Int) != depthAt t (t.level - 1))))) && allB (keepB p t) (keepsN t - 1) 1))) := by
    unfold Hid rframesB;rw [← HL2.out,HI.out,allB_done (by omega),HN.out,HQH.out];rfl
   have hew := HE.out.trans hW
   clear HI HJ HW hlt hkk hg hW R0
   obtain ⟨b1,h1⟩ : ∃ b,decide ((8 : Int) < (N : Int)) = b := ⟨_,rfl⟩
   obtain ⟨b2,h2⟩ : ∃ b,((N : Int) == 0) = b := ⟨_,rfl⟩
   obtain ⟨b3,h3⟩ : ∃ b,decide (t.mask < 1) = b := ⟨_,rfl⟩
   obtain ⟨u,hu⟩ : ∃ b,t.unw = b := ⟨_,rfl⟩
   have HU := Lib.hid hu
   have q8 : wr.cell? ⟨w.heap.size + 1,8,none⟩ = some (.slice Bb mb db) := R3 8 _ rfl
   have q9 : wr.cell? ⟨w.heap.size + 1,9,none⟩ = some (int .i64 t.mask) := R3 9 _ rfl
   have q10 : wr.cell? ⟨w.heap.size + 1,10,none⟩ = some (.bool u) := by rw [← hu];exact R3 10 _ rfl
   have q11 : wr.cell? ⟨w.heap.size + 1,11,none⟩ = some (int .i64 t.level) := R3 11 _ rfl
   rw [h1,h2,h3,hu] at HR0
   clear hu
   go_upto_region 7 with (first | ((first | (with_reducible refine jl 32 ?_) | (with_reducible refine il 32 ?_));refine ldm Tryz.underlying32 rfl rfl rfl (by exact rg) rfl (by exact infoTsk) ?_;dsimp only [dZ,dS]) | (go_at_call 88;refine (HPl.out _ (hew.trans xt)).mono ?_;rintro e w3 ⟨rfl,hb3⟩))
   have hew2 := hew.trans hb3
   have R4 := range_ext R3 hb3
   replace k0 := hb3.cell k0
   replace k1 := hb3.cell k1
   replace k2 := hb3.cell k2
   replace q7 := hb3.cell q7
   replace q8 := hb3.cell q8
   replace q9 := hb3.cell q9
   replace q10 := hb3.cell q10
   replace q11 := hb3.cell q11
   replace hs3 : w.heap.size + 1 < w3.heap.size := lt_of_cell q7
   clear R3 hew hb3 hs4
   obtain ⟨bx,hbx⟩ : ∃ b,(b1 || (b2 && !u) || (qh && b3)) = b := ⟨_,rfl⟩
   have HBX := Lib.hid hbx
   go_cut [6,44] from 25 to 44 (fun s6 s44 wx => s6 = .int .i64 (N : Int) ∧ s44 = .bool bx ∧ Hid (Ext w3 wx))
   case first =>
    cases b1 with
    | true => (go_wp2_with (first | ((first | (with_reducible refine jl 32 ?_) | (with_reducible refine il 32 ?_));refine ldm Tryz.underlying32 rfl rfl rfl (by exact rg) rfl (by exact infoTsk) ?_;dsimp only [dZ,dS]) | ((with_reducible refine ig 32 ?_);refine ldg Tryz.underlying32 (by rfl) rfl rfl (by exact rg) rfl (by exact infoTsk) ?_;dsimp only [dZ,dS]) | (go_at_call 54;refine (HH.out _ (hew2.trans xt)).mono ?_;rintro e w4 ⟨rfl,hb4⟩;have z9 := hb4.cell q9));go_meet;exact ⟨rfl,congrArg Value.bool (by rw [← hbx];rfl),by first | exact hb4 | exact Ext.refl _⟩)
    | false =>
     cases b2 with
     | false => cases qh with
      | false => (go_wp2_with (first | ((first | (with_reducible refine jl 32 ?_) | (with_reducible refine il 32 ?_));refine ldm Tryz.underlying32 rfl rfl rfl (by exact rg) rfl (by exact infoTsk) ?_;dsimp only [dZ,dS]) | ((with_reducible refine ig 32 ?_);refine ldg Tryz.underlying32 (by rfl) rfl rfl (by exact rg) rfl (by exact infoTsk) ?_;dsimp only [dZ,dS]) | (go_at_call 54;refine (HH.out _ (hew2.trans xt)).mono ?_;rintro e w4 ⟨rfl,hb4⟩;have z9 := hb4.cell q9));go_meet;exact ⟨rfl,congrArg Value.bool (by rw [← hbx];rfl),by first | exact hb4 | exact Ext.refl _⟩)
      | true => cases b3 with
       | false => (go_wp2_with (first | ((first | (with_reducible refine jl 32 ?_) | (with_reducible refine il 32 ?_));refine ldm Tryz.underlying32 rfl rfl rfl (by exact rg) rfl (by exact infoTsk) ?_;dsimp only [dZ,dS]) | ((with_reducible refine ig 32 ?_);refine ldg Tryz.underlying32 (by rfl) rfl rfl (by exact rg) rfl (by exact infoTsk) ?_;dsimp only [dZ,dS]) | (go_at_call 54;refine (HH.out _ (hew2.trans xt)).mono ?_;rintro e w4 ⟨rfl,hb4⟩;have z9 := hb4.cell q9));go_meet;exact ⟨rfl,congrArg Value.bool (by rw [← hbx];rfl),by first | exact hb4 | exact Ext.refl _⟩)
       | true => (go_wp2_with (first | ((first | (with_reducible refine jl 32 ?_) | (with_reducible refine il 32 ?_));refine ldm Tryz.underlying32 rfl rfl rfl (by exact rg) rfl (by exact infoTsk) ?_;dsimp only [dZ,dS]) | ((with_reducible refine ig 32 ?_);refine ldg Tryz.underlying32 (by rfl) rfl rfl (by exact rg) rfl (by exact infoTsk) ?_;dsimp only [dZ,dS]) | (go_at_call 54;refine (HH.out _ (hew2.trans xt)).mono ?_;rintro e w4 ⟨rfl,hb4⟩;have z9 := hb4.cell q9));go_meet;exact ⟨rfl,congrArg Value.bool (by rw [← hbx];rfl),by first | exact hb4 | exact Ext.refl _⟩)
     | true => cases u with
      | false => (go_wp2_with (first | ((first | (with_reducible refine jl 32 ?_) | (with_reducible refine il 32 ?_));refine ldm Tryz.underlying32 rfl rfl rfl (by exact rg) rfl (by exact infoTsk) ?_;dsimp only [dZ,dS]) | ((with_reducible refine ig 32 ?_);refine ldg Tryz.underlying32 (by rfl) rfl rfl (by exact rg) rfl (by exact infoTsk) ?_;dsimp only [dZ,dS]) | (go_at_call 54;refine (HH.out _ (hew2.trans xt)).mono ?_;rintro e w4 ⟨rfl,hb4⟩;have z9 := hb4.cell q9));go_meet;exact ⟨rfl,congrArg Value.bool (by rw [← hbx];rfl),by first | exact hb4 | exact Ext.refl _⟩)
      | true => cases qh with
       | false => (go_wp2_with (first | ((first | (with_reducible refine jl 32 ?_) | (with_reducible refine il 32 ?_));refine ldm Tryz.underlying32 rfl rfl rfl (by exact rg) rfl (by exact infoTsk) ?_;dsimp only [dZ,dS]) | ((with_reducible refine ig 32 ?_);refine ldg Tryz.underlying32 (by rfl) rfl rfl (by exact rg) rfl (by exact infoTsk) ?_;dsimp only [dZ,dS]) | (go_at_call 54;refine (HH.out _ (hew2.trans xt)).mono ?_;rintro e w4 ⟨rfl,hb4⟩;have z9 := hb4.cell q9));go_meet;exact ⟨rfl,congrArg Value.bool (by rw [← hbx];rfl),by first | exact hb4 | exact Ext.refl _⟩)
       | true => cases b3 with
        | false => (go_wp2_with (first | ((first | (with_reducible refine jl 32 ?_) | (with_reducible refine il 32 ?_));refine ldm Tryz.underlying32 rfl rfl rfl (by exact rg) rfl (by exact infoTsk) ?_;dsimp only [dZ,dS]) | ((with_reducible refine ig 32 ?_);refine ldg Tryz.underlying32 (by rfl) rfl rfl (by exact rg) rfl (by exact infoTsk) ?_;dsimp only [dZ,dS]) | (go_at_call 54;refine (HH.out _ (hew2.trans xt)).mono ?_;rintro e w4 ⟨rfl,hb4⟩;have z9 := hb4.cell q9));go_meet;exact ⟨rfl,congrArg Value.bool (by rw [← hbx];rfl),by first | exact hb4 | exact Ext.refl _⟩)
        | true => (go_wp2_with (first | ((first | (with_reducible refine jl 32 ?_) | (with_reducible refine il 32 ?_));refine ldm Tryz.underlying32 rfl rfl rfl (by exact rg) rfl (by exact infoTsk) ?_;dsimp only [dZ,dS]) | ((with_reducible refine ig 32 ?_);refine ldg Tryz.underlying32 (by rfl) rfl rfl (by exact rg) rfl (by exact infoTsk) ?_;dsimp only [dZ,dS]) | (go_at_call 54;refine (HH.out _ (hew2.trans xt)).mono ?_;rintro e w4 ⟨rfl,hb4⟩;have z9 := hb4.cell q9));go_meet;exact ⟨rfl,congrArg Value.bool (by rw [← hbx];rfl),by first | exact hb4 | exact Ext.refl _⟩)
   case rest =>
   obtain ⟨rfl,rfl,HX⟩ := hcut
   have hX := HX.out
   have hew3 := hew2.trans hX
   have R5 := range_ext R4 hX
   replace k0 := hX.cell k0
   replace k1 := hX.cell k1
   replace k2 := hX.cell k2
   replace q7 := hX.cell q7
   replace q8 := hX.cell q8
   replace q10 := hX.cell q10
   replace q11 := hX.cell q11
   have hs5 : w.heap.size + 1 < wc.heap.size := lt_of_cell q7
   clear R4 hX hew2 hs3 q9 HX hbx h1 h2 h3
   cases bx with
   | true =>
    have HR : Hid (rframesB p t = false) := by rw [Hid,HR0.out,HBX.out];rfl
    go_wp2
    go_ret
    exact ⟨ret_bool HR.out.symm,hew3⟩
   | false =>
   obtain ⟨l,hl⟩ : ∃ l,t.level = l := ⟨_,rfl⟩
   have HLE := Lib.hid hl
   obtain ⟨dp,hdp⟩ : ∃ x,depthAt t (l - 1) = x := ⟨_,rfl⟩
   have HDP := Lib.hid hdp
   obtain ⟨b10,hb10⟩ : ∃ b,(u && (((l == 0) && ((N : Int) != 0)) || (decide (0 < l) && ((N : Int) != dp)))) = b := ⟨_,rfl⟩
   have HR1 : Hid (rframesB p t = (!b10 && allB (keepB p t) (keepsN t - 1) 1)) := by rw [Hid,HR0.out,HBX.out,hl,hdp,hb10];rfl
   have HLV2 : Hid (l = 0 ∨ 2 ≤ l ∧ l ≤ (mb : Int)) := by rw [Hid,← hl,HL3.out];exact HLV.out
   have iL9 : InR l := by rw [← hl];exact i8
   rw [hl] at q11
   clear HR0 hl hdp i8
   have HB10 := Lib.hid hb10
   go_upto_region 9 with fail
   go_cut [6,72] from 45 to 72 (fun s6 s72 wx => s6 = .int .i64 (N : Int) ∧ s72 = .bool b10 ∧ wx = wc)
   case first =>
    rcases HLV2.out with hz | hlv
    ·subst hz
     clear HB10 HDP
     obtain ⟨bz,hbz⟩ : ∃ b,((N : Int) != 0) = b := ⟨_,rfl⟩
     have HBZ := Lib.hid hbz
     cases u <;> cases bz
     all_goals (go_wp2;all_goals (go_meet;exact ⟨rfl,congrArg Value.bool (by rw [← hb10,HBZ.out];rfl),rfl⟩))
    ·obtain ⟨x,hx⟩ : ∃ x,t.blocks[(l - 1).toNat]? = some x := ⟨_,List.getElem?_eq_getElem (by have := HL3.out;omega)⟩
     have hxd : Hid (x.depth = dp) := by rw [Hid,← HDP.out,depthAt,hx]
     obtain ⟨b,off,Aa,na,ca,rfl,hlb,_,_,_,_,_,d0,d1,d2,d3,d4⟩ := (HB2.out.mono RBlk.stays hew3).blk hx
     rw [hxd.out] at d1
     have hsub : IntKind.i64.wrap (l - 1) = ((l - 1).toNat : Int) := by rw [IntWalk.i64_in _ (by omega)];omega
     obtain ⟨k,hk⟩ : ∃ k,(l - 1).toNat = k := ⟨_,rfl⟩
     rw [hk] at hsub d1
     have hk1 : (k : Int) < (mb : Int) := by omega
     have hk0 : (0 : Int) ≤ (k : Int) := by omega
     have hp : 0 < l := by omega
     have hl0 : (l == 0) = false := by simp;omega
     clear hlv hk hx d0 d2 d3 d4 HB10 HDP
     cases u
     all_goals (go_wp2;all_goals (go_meet;exact ⟨by first | rfl | (simp [*];done),congrArg Value.bool (by rw [← hb10];simp [*];try omega),rfl⟩))
   case rest =>
   obtain ⟨rfl,rfl,rfl⟩ := hcut
   clear hb10
   cases b10 with
   | true =>
    have HR : Hid (rframesB p t = false) := by rw [Hid,HR1.out];rfl
    go_wp2
    go_ret
    exact ⟨ret_bool HR.out.symm,hew3⟩
   | false =>
   have HR2 : Hid (rframesB p t = allB (keepB p t) (keepsN t - 1) 1) := by rw [Hid,HR1.out];rfl
   clear HR1
   obtain ⟨K,hK⟩ : ∃ K,keepsN t = K := ⟨_,rfl⟩
   have HKN : Hid (keepsN t = K) := hK
   clear hK
   have HKB : Hid (K ≤ mb ∧ (u = true → l = (K : Int))) := by
    have h := HLV2.out
    rw [Hid,← HKN.out]
    unfold keepsN
    rw [HU.out,HLE.out,← HL3.out]
    cases u with
    | true => simp only [if_true];refine ⟨?_,fun _ => ?_⟩ <;> omega
    | false => simp
   go_upto_if 77 with fail
   go_cut [7] from 78 to 79 (fun s7 wx => s7 = .int .i64 (K : Int) ∧ wx = wc)
   case first =>
    cases u with
    | true =>
     have h := HKB.out.2 rfl
     subst h
     go_wp2
     go_meet
     exact ⟨rfl,rfl⟩
    | false =>
     have h : Hid (mb = K) := by rw [Hid,← HKN.out];unfold keepsN;rw [HU.out,HL3.out];rfl
     go_wp2
     go_meet
     exact ⟨by rw [h.out],rfl⟩
   case rest =>
   obtain ⟨rfl,rfl⟩ := hcut
   have hkmb := HKB.out.1
   clear q10 q11
   go_wp2
   go_loopg [8,9,10] K (fun gg s8 _ _ wq => ∃ kk : Nat,1 ≤ kk ∧ K - kk ≤ gg ∧ s8 = .int .i64 kk ∧ Hid (Ext wc wq) ∧ Hid (allB (keepB p t) (K - 1) 1 = allB (keepB p t) (K - kk) kk))
   case atStart => exact ⟨1,Nat.le_refl _,by omega,rfl,Ext.refl wc,rfl⟩
   case round =>
    obtain ⟨kk,hkk,hg,rfl,HW,HI⟩ := hrel
    have hW := HW.out
    have hWw := hew3.trans hW
    replace k0 := hW.cell k0
    replace k1 := hW.cell k1
    replace k2 := hW.cell k2
    replace q7 := hW.cell q7
    replace q8 := hW.cell q8
    clear R5 hs5
    have hlb1 : w.heap.size + 1 < wr.heap.size := lt_of_cell q7
    by_cases hlt : kk < K
    rotate_left
    ·have hltz2 : ¬ (kk : Int) < (K : Int) := by omega
     clear hew3 hW
     go_wp2
     go_ret
     exact ⟨ret_bool (by rw [HR2.out,HKN.out,HI.out,show K - kk = 0 by omega];rfl),hWw⟩
    have hltz2 : (kk : Int) < (K : Int) := by omega
    have hltb : (kk : Int) < (mb : Int) := by omega
    obtain ⟨x,hx⟩ : ∃ x,t.blocks[kk]? = some x := ⟨_,List.getElem?_eq_getElem (by have := HL3.out;omega)⟩
    have HD := Lib.hid (allB_step (g := keepB p t) hlt)
    have hdep := rblk_depth HBK.out hkk hx
    obtain ⟨b,off,Aa,na,ca,rfl,hlb,_,xi2,xi3,_,_,d0,d1,d2,d3,d4⟩ := (HB2.out.mono RBlk.stays hWw).blk hx
    clear hW hew3
    by_cases hdn : (N : Int) < x.depth
    ·have HK : Hid (keepB p t kk = false) := by
      unfold Hid keepB;rw [hx];dsimp only;rw [HN.out,decide_eq_false (by omega)];rfl
     clear hx hdep
     go_wp2
     go_ret
     exact ⟨ret_bool (by rw [HR2.out,HKN.out,HI.out,HD.out,HK.out];rfl),hWw.trans xt⟩
    have hNm : N ≤ mf := by
     have h := HN.out
     unfold plainN at h
     have := HL2.out
     split at h <;> omega
    obtain ⟨y,hy⟩ : ∃ y,t.frames[(x.depth - 1).toNat]? = some y := ⟨_,List.getElem?_eq_getElem (by have := HL2.out;omega)⟩
    obtain ⟨g,hg2,_⟩ := frm_regs hy (HFA.out _ (by have := HL2.out;omega))
    obtain ⟨v0,v1,v2⟩ := fnAt_some hg2
    obtain ⟨b2,off2,Ay,ny,cy,rfl,hlb2,_,_,_,_,f0,f1,f2,f3,f4⟩ := (HF2.out.mono RFrm.stays hWw).frm hy
    have HLF := HF.out.len
    obtain ⟨b3,off3,Ac,nc,cc,rfl,hlb3,_,_,_,_,⟨hC,hcc⟩,g0,g1,g2,g3,g4,g5⟩ := (HF.out.mono RFnc.stays hWw).fnc v2
    have hltf : y.fn < (nf : Int) := by omega
    have hCl := hC.le
    have HCL := Lib.hid hC.len
    have hsubd : IntKind.i64.wrap (x.depth - 1) = ((x.depth - 1).toNat : Int) := by rw [IntWalk.i64_in _ (by omega)];omega
    obtain ⟨k,hk⟩ : ∃ k,(x.depth - 1).toNat = k := ⟨_,rfl⟩
    rw [hk] at hsubd f0 f1 f2 f3 f4
    have hk1 : (k : Int) < (mf : Int) := by omega
    have hk0' : (0 : Int) ≤ (k : Int) := by omega
    have HK : Hid (keepB p t kk = (inB x.exit 0 ((nc : Int) - 1) && match g.code[x.exit.toNat]? with | none => false | some z => z.op == 36)) := by
     unfold Hid keepB;rw [hx];dsimp only;rw [HN.out,decide_eq_true (by omega),hy];dsimp only;rw [hg2];dsimp only;rw [HCL.out];rfl
    clear hx hdep hy hg2 v1 v2 hk HLF hNm f1 f2 f3 f4 g0 g1 g2 g3 g4
    by_cases hx0 : x.exit < 0
    ·have HK : Hid (keepB p t kk = false) := by rw [Hid,HK.out,inB_false (by omega)];rfl
     clear hC
     go_wp2
     (refine wp_region_quiet_below (by kernel_rfl) (by kernel_rfl) ?_;(repeat (go_big_quiet_step (fail)));refine wpQuiet_nil fun w1 h1 => ?_;obtain ⟨hc,hf,hs,he⟩ := eu (w := wr) h1 xt;clear h1;(try simp only [sA,sC,sD,sN] at hs))
     go_wp2
     go_ret
     exact ⟨ret_bool (by rw [HR2.out,HKN.out,HI.out,HD.out,HK.out];rfl),hWw.trans he⟩
    by_cases hx1 : (nc : Int) ≤ x.exit
    ·have HK : Hid (keepB p t kk = false) := by rw [Hid,HK.out,inB_false (by omega)];rfl
     clear hC
     go_wp2
     (refine wp_region_quiet_below (by kernel_rfl) (by kernel_rfl) ?_;(repeat (go_big_quiet_step (fail)));refine wpQuiet_nil fun w1 h1 => ?_;obtain ⟨hc,hf,hs,he⟩ := eu (w := wr) h1 xt;clear h1;(try simp only [sA,sC,sD,sN] at hs))
     go_wp2
     go_ret
     exact ⟨ret_bool (by rw [HR2.out,HKN.out,HI.out,HD.out,HK.out];rfl),hWw.trans he⟩
    obtain ⟨z,hz⟩ : ∃ z,g.code[x.exit.toNat]? = some z := ⟨_,List.getElem?_eq_getElem (by have := HCL.out;omega)⟩
    obtain ⟨b4,off4,Az,nz,cz,rfl,hlb4,_,_,_,_,_,z0,z1,z2,z3,z4⟩ := hC.ins hz
    have hlte : x.exit < (nc : Int) := by omega
    have hge : 0 ≤ x.exit := by omega
    have HK : Hid (keepB p t kk = (z.op == 36)) := by rw [Hid,HK.out,inB_true (by omega),hz];rfl
    clear hC hz z1 z2 z3 z4
    by_cases h36 : z.op = 36
    ·have e36 : (z.op != 36) = false := by simpa using h36
     have HK : Hid (keepB p t kk = true) := by rw [Hid,HK.out];simpa using h36
     clear h36
     go_wp2
     (refine wp_region_quiet_below (by kernel_rfl) (by kernel_rfl) ?_;(repeat (go_big_quiet_step (fail)));refine wpQuiet_nil fun w1 h1 => ?_;obtain ⟨hc,hf,hs,he⟩ := eu (w := wr) h1 xt;clear h1;(try simp only [sA,sC,sD,sN] at hs))
     go_wp2
     go_roundg (K - (kk + 1))
     case measure => omega
     case rel => exact ⟨kk + 1,by omega,by omega,by go_num,HW.out.trans he,by rw [Hid,HI.out,HD.out,HK.out];rfl⟩
    ·have e36 : (z.op != 36) = true := by simpa using h36
     have HK : Hid (keepB p t kk = false) := by rw [Hid,HK.out];simpa using h36
     clear h36
     go_wp2
     (refine wp_region_quiet_below (by kernel_rfl) (by kernel_rfl) ?_;(repeat (go_big_quiet_step (fail)));refine wpQuiet_nil fun w1 h1 => ?_;obtain ⟨hc,hf,hs,he⟩ := eu (w := wr) h1 xt;clear h1;(try simp only [sA,sC,sD,sN] at hs))
     go_wp2
     go_ret
     exact ⟨ret_bool (by rw [HR2.out,HKN.out,HI.out,HD.out,HK.out];rfl),hWw.trans he⟩
end Go.Proofs.YtcjjoabofecjmaaGreat

