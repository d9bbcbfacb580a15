/- A part of the proof: The reference of layer 13. -/
import Derived.Test.YtcjjoabofecjmaaGreatQ35
set_option linter.unusedVariables false
set_option linter.unusedSimpArgs false
set_option maxHeartbeats 16000000
namespace Go.Proofs.YtcjjoabofecjmaaGreat
open Go.RowKit Go.Sort
open Go.Value (int)
set_option maxRecDepth 8000 in
theorem rvar_any (p : Prg) (i : Nat) (V : Value) (w : World) (hV : RPrg w p V) (hi : i < p.vars.length) :
  Calls Tryz.prog 84 #[V,int .i64 i] w fun e w' => e = .returned (int .i64 (checkVrS p i)) ∧ Ext w w' := by
 obtain ⟨Af,nf,cf,Ao,no,co,Av,nv,cv,rfl,_,hO,hVr,_⟩ := hV
 have HO := Lib.hid hO
 have HV := Lib.hid hVr
 have hle := hO.le
 have hle2 := hVr.le
 have HNo := Lib.hid hO.len
 have HNv := Lib.hid hVr.len
 have hln := hVr.len
 obtain ⟨v,hv⟩ : ∃ v,p.vars[i]? = some v := ⟨_,List.getElem?_eq_getElem hi⟩
 obtain ⟨b,off,rfl,hb,hnm,_,c0,c1,c2⟩ := hVr.vr hv
 have hi1 : (i : Int) < (nv : Int) := by omega
 have hi0 : (0 : Int) ≤ (i : Int) := by omega
 have HS : Hid (checkVrS p i = if nmB v.name = false then 5 else if inB v.init (-1099511627776) 1099511627776 = false then 2
  else if p.objs.any (fun x => x.name.toList == v.name.toList) then 6 else if (p.vars.take i).any (fun x => x.name.toList == v.name.toList) then 6 else 0) := by
  unfold Hid checkVrS;rw [hv]
 have HNm := Lib.hid (fun W => refIsName_any v.name W hnm)
 obtain ⟨qn,hqn⟩ : ∃ q,nmB v.name = q := ⟨_,rfl⟩
 rw [hqn] at HNm HS
 have HB1 := Lib.hid (fun W => between_any v.init (-1099511627776) 1099511627776 W)
 obtain ⟨q1,hq1⟩ : ∃ q,inB v.init (-1099511627776) 1099511627776 = q := ⟨_,rfl⟩
 rw [hq1] at HB1 HS
 clear hO hVr hi hln hv hnm hqn hq1
 cases qn with
 | false =>
  go_enter Tryz.func84,Tryz.ntmps84
  go_wp2_with (first | (go_at_call 119;refine (HNm.out _).mono ?_;rintro e w' ⟨rfl,rfl⟩))
  go_ret
  exact ⟨ret_int HS.out.symm,xt⟩
 | true =>
 cases q1 with
 | false =>
  go_enter Tryz.func84,Tryz.ntmps84
  go_wp2_with (first | (go_at_call 119;refine (HNm.out _).mono ?_;rintro e w' ⟨rfl,rfl⟩) | (go_at_call 120;(with_reducible refine (HB1.out _).mono ?_);rintro e w' ⟨rfl,rfl⟩))
  go_ret
  exact ⟨ret_int HS.out.symm,xt⟩
 | true =>
 go_enter Tryz.func84,Tryz.ntmps84
 go_wp2_with (first | (go_at_call 119;refine (HNm.out _).mono ?_;rintro e w' ⟨rfl,rfl⟩) | (go_at_call 120;(with_reducible refine (HB1.out _).mono ?_);rintro e w' ⟨rfl,rfl⟩))
 refine wp_hid2 ?_
 intro W0 HW0
 have HE : Hid (Ext w W0) := by rw [HW0.out];exact Lib.hid xt
 have e1 : W0.cell? ⟨w.heap.size,1,none⟩ = some (.slice Ao no co) := by rw [HW0.out];simp [go_sem]
 have e2 : W0.cell? ⟨w.heap.size,2,none⟩ = some (.slice (some ⟨b,off,none⟩) nv cv) := by rw [HW0.out];simp [go_sem]
 have k0 : W0.cell? ⟨w.heap.size + 1,0,none⟩ = some (.string v.name) := by rw [HW0.out];simp [go_sem]
 have z0 : w.heap.size < W0.heap.size := lt_of_cell e1
 have z1 : w.heap.size + 1 < W0.heap.size := lt_of_cell k0
 clear HW0 c0 c1 c2
 go_loopg [6] no (fun gg s6 wr => ∃ k : Nat,k ≤ no ∧ no - k ≤ gg ∧ s6 = .int .i64 k ∧ Hid (Ext W0 wr) ∧ Hid (((p.objs).any (fun x => x.name.toList == v.name.toList)) = (((p.objs).drop k).any (fun x => x.name.toList == v.name.toList))))
 case atStart => exact ⟨0,Nat.zero_le _,by omega,rfl,Ext.refl _,rfl⟩
 case round =>
  obtain ⟨k,hkk,hgk,rfl,HWk,HIk⟩ := hrel
  obtain ⟨wrk,ewrk⟩ : ∃ W,W = wr := ⟨_,rfl⟩
  subst ewrk
  have hWk := HWk.out
  replace e1 := hWk.cell e1
  replace e2 := hWk.cell e2
  replace k0 := hWk.cell k0
  have hszk := hWk.size
  by_cases hltk : k < no
  ·have hltzk : (k : Int) < (no : Int) := by omega
   have hltnk : (k : Int) < (no : Int) := by omega
   have hk0k : (0 : Int) ≤ (k : Int) := by omega
   obtain ⟨y,hy⟩ : ∃ y,p.objs[k]? = some y := ⟨_,List.getElem?_eq_getElem (by have := HNo.out;omega)⟩
   obtain ⟨b2,off2,eA,_,_,_,_,_,d0,_,_,_⟩ := HO.out.ob hy
   subst eA
   replace d0 := hWk.cell (HE.out.cell d0)
   have zbk := lt_of_cell d0
   have HD := Lib.hid (any_step (g := fun x : Ob => x.name.toList == v.name.toList) (l := (p.objs)) (k := k) (y := y) (by exact hy))
   obtain ⟨q,hq⟩ : ∃ q,(y.name.toList == v.name.toList) = q := ⟨_,rfl⟩
   rw [hq] at HD
   have hqn : (y.name.toList == v.name.toList) = q := hq
   clear hy hq
   cases q with
   | true =>
    have HT : Hid (((p.objs).any (fun x => x.name.toList == v.name.toList)) = true) := by rw [Hid,HIk.out,HD.out];rfl
    go_wp2
    (refine wp_region_quiet_below (by kernel_rfl) (by kernel_rfl) ?_;(repeat (go_big_quiet_step (fail)));refine wpQuiet_nil fun w1 h1 => ?_;obtain ⟨hc,hf,hs,he⟩ := eu (w := wrk) h1 xt;clear h1;(try simp only [sA,sC,sD,sN] at hs))
    go_wp2
    go_ret
    exact ⟨ret_int (by rw [HS.out,HT.out];rfl),(HE.out.trans HWk.out).trans he⟩
   | false =>
    go_wp2
    (refine wp_region_quiet_below (by kernel_rfl) (by kernel_rfl) ?_;(repeat (go_big_quiet_step (fail)));refine wpQuiet_nil fun w1 h1 => ?_;obtain ⟨hc,hf,hs,he⟩ := eu (w := wrk) h1 xt;clear h1;(try simp only [sA,sC,sD,sN] at hs))
    go_wp2
    go_roundg (no - (k + 1))
    case measure => omega
    case rel => exact ⟨k + 1,by omega,by omega,by go_num,Ext.trans HWk.out he,by rw [Hid,HIk.out,HD.out];rfl⟩
  ·have hltzk : ¬ (k : Int) < (no : Int) := by omega
   have HNk : Hid (((p.objs).any (fun x => x.name.toList == v.name.toList)) = false) := by
    rw [Hid,HIk.out,show (p.objs).drop k = [] from List.drop_eq_nil_of_le (by have := HNo.out;omega)];rfl
   go_wp2
   go_loopg [7] i (fun gg s7 wr => ∃ j : Nat,j ≤ i ∧ i - j ≤ gg ∧ s7 = .int .i64 j ∧ Hid (Ext wrk wr) ∧ Hid (((p.vars.take i).any (fun x => x.name.toList == v.name.toList)) = (((p.vars.take i).drop j).any (fun x => x.name.toList == v.name.toList))))
   case atStart => exact ⟨0,Nat.zero_le _,by omega,rfl,Ext.refl _,rfl⟩
   case round =>
    obtain ⟨j,hkj,hgj,rfl,HWj,HIj⟩ := hrel
    obtain ⟨wrj,ewrj⟩ : ∃ W,W = wr := ⟨_,rfl⟩
    subst ewrj
    have hWj := HWj.out
    replace e2 := hWj.cell e2
    replace k0 := hWj.cell k0
    have hszj := hWj.size
    by_cases hltj : j < i
    ·have hltzj : (j : Int) < (i : Int) := by omega
     have hltnj : (j : Int) < (nv : Int) := by omega
     have hk0j : (0 : Int) ≤ (j : Int) := by omega
     obtain ⟨y,hy⟩ : ∃ y,p.vars[j]? = some y := ⟨_,List.getElem?_eq_getElem (by have := HNv.out;omega)⟩
     obtain ⟨b2,off2,eA,_,_,_,d0,_,_⟩ := HV.out.vr hy
     cases eA
     replace d0 := hWj.cell ((HE.out.trans HWk.out).cell d0)
     have zbj := lt_of_cell d0
     have HD := Lib.hid (any_step (g := fun x : Vr => x.name.toList == v.name.toList) (l := (p.vars.take i)) (k := j) (y := y) (by rw [List.getElem?_take,if_pos hltj];exact hy))
     obtain ⟨q,hq⟩ : ∃ q,(y.name.toList == v.name.toList) = q := ⟨_,rfl⟩
     rw [hq] at HD
     have hqn : (y.name.toList == v.name.toList) = q := hq
     clear hy hq
     cases q with
     | true =>
      have HT : Hid (((p.vars.take i).any (fun x => x.name.toList == v.name.toList)) = true) := by rw [Hid,HIj.out,HD.out];rfl
      go_wp2
      (refine wp_region_quiet_below (by kernel_rfl) (by kernel_rfl) ?_;(repeat (go_big_quiet_step (fail)));refine wpQuiet_nil fun w1 h1 => ?_;obtain ⟨hc,hf,hs,he⟩ := eu (w := wrj) h1 xt;clear h1;(try simp only [sA,sC,sD,sN] at hs))
      go_wp2
      go_ret
      exact ⟨ret_int (by rw [HS.out,HNk.out,HT.out];rfl),((HE.out.trans HWk.out).trans HWj.out).trans he⟩
     | false =>
      go_wp2
      (refine wp_region_quiet_below (by kernel_rfl) (by kernel_rfl) ?_;(repeat (go_big_quiet_step (fail)));refine wpQuiet_nil fun w1 h1 => ?_;obtain ⟨hc,hf,hs,he⟩ := eu (w := wrj) h1 xt;clear h1;(try simp only [sA,sC,sD,sN] at hs))
      go_wp2
      go_roundg (i - (j + 1))
      case measure => omega
      case rel => exact ⟨j + 1,by omega,by omega,by go_num,Ext.trans HWj.out he,by rw [Hid,HIj.out,HD.out];rfl⟩
    ·have hltzj : ¬ (j : Int) < (i : Int) := by omega
     have HNj : Hid (((p.vars.take i).any (fun x => x.name.toList == v.name.toList)) = false) := by
      rw [Hid,HIj.out,show (p.vars.take i).drop j = [] from List.drop_eq_nil_of_le (by rw [List.length_take];omega)];rfl
     have HF : Hid (checkVrS p i = 0) := by rw [Hid,HS.out,HNk.out,HNj.out];rfl
     go_wp2
     go_ret
     exact ⟨ret_int HF.out.symm,(HE.out.trans HWk.out).trans HWj.out⟩
set_option maxRecDepth 8000 in
theorem rfunc_any (p : Prg) (i : Nat) (V : Value) (w : World) (hV : RPrg w p V) (hi : i < p.funcs.length) :
  Calls Tryz.prog 85 #[V,int .i64 i] w fun e w' => e = .returned (int .i64 (checkFnS p i)) ∧ Ext w w' := by
 have HVV := Lib.hid hV
 obtain ⟨Af,nf,cf,Ao,no,co,Av,nv,cv,rfl,hF,_⟩ := hV
 have HFn := Lib.hid hF
 have hle := hF.le
 have HNf := Lib.hid hF.len
 have hln := hF.len
 obtain ⟨f,hf⟩ : ∃ f,p.funcs[i]? = some f := ⟨_,List.getElem?_eq_getElem hi⟩
 obtain ⟨b,off,Ac,nc,cc,rfl,hb,hnm,_,_,_,⟨hC,hcc⟩,c0,c1,c2,c3,c4,c5⟩ := hF.fnc hf
 have hi1 : (i : Int) < (nf : Int) := by omega
 have hi0 : (0 : Int) ≤ (i : Int) := by omega
 have hncl := hC.le
 have HC := Lib.hid hC
 have HCL := Lib.hid hC.len
 have HUU : Hid (RFn w f (.agg #[.string f.name,int .i64 f.params,int .i64 f.regs,int .i64 f.prio,.bool f.cleanup,.slice Ac nc cc])) := ⟨Ac,nc,cc,rfl,hC,hcc⟩
 have HS : Hid (checkFnS p i = if nmB f.name = false then 5 else if (p.funcs.take i).any (fun x => x.name.toList == f.name.toList) then 6
  else if inB f.params 0 8 = false ∨ inB f.regs f.params 32 = false ∨ inB f.prio 0 9 = false ∨ (f.cleanup = true ∧ f.prio ≠ 0) then 2
  else if 200 < (f.code.length : Int) then 4 else if i = 0 ∧ (0 < f.params ∨ f.cleanup = true) then 16 else codeS p f f.code) := by
  unfold Hid checkFnS;rw [hf]
 have HNm := Lib.hid (fun W => refIsName_any f.name W hnm)
 obtain ⟨qn,hqn⟩ : ∃ q,nmB f.name = q := ⟨_,rfl⟩
 rw [hqn] at HNm HS
 have HB1 := Lib.hid (fun W => between_any f.params 0 8 W)
 have HB2 := Lib.hid (fun W => between_any f.regs f.params 32 W)
 have HB3 := Lib.hid (fun W => between_any f.prio 0 9 W)
 obtain ⟨q1,hq1⟩ : ∃ q,inB f.params 0 8 = q := ⟨_,rfl⟩
 obtain ⟨q2,hq2⟩ : ∃ q,inB f.regs f.params 32 = q := ⟨_,rfl⟩
 obtain ⟨q3,hq3⟩ : ∃ q,inB f.prio 0 9 = q := ⟨_,rfl⟩
 have HRg : Hid (q1 = true → q2 = true → 0 ≤ f.regs ∧ f.regs ≤ 32) := fun h1 h2 => by
  have h3 := inB_iff.1 (hq1.trans h1)
  have h4 := inB_iff.1 (hq2.trans h2)
  omega
 have HPa : Hid (q1 = true → 0 ≤ f.params) := fun h1 => (inB_iff.1 (hq1.trans h1)).1
 rw [hq1] at HB1 HS
 rw [hq2] at HB2 HS
 rw [hq3] at HB3 HS
 clear hF hi hln hf hnm hqn hq1 hq2 hq3 hC
 cases qn with
 | false =>
  go_enter Tryz.func85,Tryz.ntmps85
  go_wp2_with (first | (go_at_call 119;refine (HNm.out _).mono ?_;rintro e w' ⟨rfl,rfl⟩))
  go_ret
  exact ⟨ret_int HS.out.symm,xt⟩
 | true =>
 go_enter Tryz.func85,Tryz.ntmps85
 go_wp2_with (first | (go_at_call 119;refine (HNm.out _).mono ?_;rintro e w' ⟨rfl,rfl⟩))
 refine wp_hid2 ?_
 intro W0 HW0
 have HE : Hid (Ext w W0) := by rw [HW0.out];exact Lib.hid xt
 have e0 : W0.cell? ⟨w.heap.size,0,none⟩ = some (.slice (some ⟨b,off,none⟩) nf cf) := by rw [HW0.out];simp [go_sem]
 have e1 : W0.cell? ⟨w.heap.size,1,none⟩ = some (.slice Ao no co) := by rw [HW0.out];simp [go_sem]
 have e2 : W0.cell? ⟨w.heap.size,2,none⟩ = some (.slice Av nv cv) := by rw [HW0.out];simp [go_sem]
 have g0 : W0.cell? ⟨w.heap.size + 1,0,none⟩ = some (.string f.name) := by rw [HW0.out];simp [go_sem]
 have g1 : W0.cell? ⟨w.heap.size + 1,1,none⟩ = some (int .i64 f.params) := by rw [HW0.out];simp [go_sem]
 have g2 : W0.cell? ⟨w.heap.size + 1,2,none⟩ = some (int .i64 f.regs) := by rw [HW0.out];simp [go_sem]
 have g3 : W0.cell? ⟨w.heap.size + 1,3,none⟩ = some (int .i64 f.prio) := by rw [HW0.out];simp [go_sem]
 have g4 : W0.cell? ⟨w.heap.size + 1,4,none⟩ = some (.bool f.cleanup) := by rw [HW0.out];simp [go_sem]
 have g5 : W0.cell? ⟨w.heap.size + 1,5,none⟩ = some (.slice Ac nc cc) := by rw [HW0.out];simp [go_sem]
 have z0 : w.heap.size < W0.heap.size := lt_of_cell e1
 have z1 : w.heap.size + 1 < W0.heap.size := lt_of_cell g0
 clear HW0 c0 c1 c2 c3 c4 c5
 go_loopg [6] i (fun gg s6 wr => ∃ k : Nat,k ≤ i ∧ i - k ≤ gg ∧ s6 = .int .i64 k ∧ Hid (Ext W0 wr) ∧ Hid (((p.funcs.take i).any (fun x => x.name.toList == f.name.toList)) = (((p.funcs.take i).drop k).any (fun x => x.name.toList == f.name.toList))))
 case atStart => exact ⟨0,Nat.zero_le _,by omega,rfl,Ext.refl _,rfl⟩
 case round =>
  obtain ⟨k,hkk,hgk,rfl,HWk,HIk⟩ := hrel
  obtain ⟨wrk,ewrk⟩ : ∃ W,W = wr := ⟨_,rfl⟩
  subst ewrk
  have hWk := HWk.out
  replace e0 := hWk.cell e0
  replace e1 := hWk.cell e1
  replace e2 := hWk.cell e2
  replace g0 := hWk.cell g0
  replace g1 := hWk.cell g1
  replace g2 := hWk.cell g2
  replace g3 := hWk.cell g3
  replace g4 := hWk.cell g4
  replace g5 := hWk.cell g5
  have hszk := hWk.size
  by_cases hltk : k < i
  ·have hltzk : (k : Int) < (i : Int) := by omega
   have hltnk : (k : Int) < (nf : Int) := by omega
   have hk0k : (0 : Int) ≤ (k : Int) := by omega
   obtain ⟨y,hy⟩ : ∃ y,p.funcs[k]? = some y := ⟨_,List.getElem?_eq_getElem (by have := HNf.out;omega)⟩
   obtain ⟨b2,off2,Ac2,nc2,cc2,eA,_,_,_,_,_,_,d0,_,_,_,_,_⟩ := HFn.out.fnc hy
   cases eA
   replace d0 := hWk.cell (HE.out.cell d0)
   have zbk := lt_of_cell d0
   have HD := Lib.hid (any_step (g := fun x : Fnc => x.name.toList == f.name.toList) (l := (p.funcs.take i)) (k := k) (y := y) (by rw [List.getElem?_take,if_pos hltk];exact hy))
   obtain ⟨q,hq⟩ : ∃ q,(y.name.toList == f.name.toList) = q := ⟨_,rfl⟩
   rw [hq] at HD
   have hqn : (y.name.toList == f.name.toList) = q := hq
   clear hy hq
   cases q with
   | true =>
    have HT : Hid (((p.funcs.take i).any (fun x => x.name.toList == f.name.toList)) = true) := by rw [Hid,HIk.out,HD.out];rfl
    go_wp2
    (refine wp_region_quiet_below (by kernel_rfl) (by kernel_rfl) ?_;(repeat (go_big_quiet_step (fail)));refine wpQuiet_nil fun w1 h1 => ?_;obtain ⟨hc,hf,hs,he⟩ := eu (w := wrk) h1 xt;clear h1;(try simp only [sA,sC,sD,sN] at hs))
    go_wp2
    go_ret
    exact ⟨ret_int (by rw [HS.out,HT.out];rfl),(HE.out.trans HWk.out).trans he⟩
   | false =>
    go_wp2
    (refine wp_region_quiet_below (by kernel_rfl) (by kernel_rfl) ?_;(repeat (go_big_quiet_step (fail)));refine wpQuiet_nil fun w1 h1 => ?_;obtain ⟨hc,hf,hs,he⟩ := eu (w := wrk) h1 xt;clear h1;(try simp only [sA,sC,sD,sN] at hs))
    go_wp2
    go_roundg (i - (k + 1))
    case measure => omega
    case rel => exact ⟨k + 1,by omega,by omega,by go_num,Ext.trans HWk.out he,by rw [Hid,HIk.out,HD.out];rfl⟩
  ·have hltzk : ¬ (k : Int) < (i : Int) := by omega
   have HNk : Hid (((p.funcs.take i).any (fun x => x.name.toList == f.name.toList)) = false) := by
    rw [Hid,HIk.out,show (p.funcs.take i).drop k = [] from List.drop_eq_nil_of_le (by rw [List.length_take];omega)];rfl
   have HEk : Hid (Ext w wrk) := HE.out.trans HWk.out
   rw [HNk.out] at HS
   cases q1 with
   | false =>
    have HF : Hid (checkFnS p i = 2) := by rw [Hid,HS.out];simp
    go_wp2_with (first | (go_at_call 120;(with_reducible refine (HB1.out _).mono ?_);rintro e w' ⟨rfl,rfl⟩) | (go_at_call 120;(with_reducible refine (HB2.out _).mono ?_);rintro e w' ⟨rfl,rfl⟩) | (go_at_call 120;(with_reducible refine (HB3.out _).mono ?_);rintro e w' ⟨rfl,rfl⟩))
    go_ret
    exact ⟨ret_int HF.out.symm,HEk.out⟩
   | true =>
   cases q2 with
   | false =>
    have HF : Hid (checkFnS p i = 2) := by rw [Hid,HS.out];simp
    go_wp2_with (first | (go_at_call 120;(with_reducible refine (HB1.out _).mono ?_);rintro e w' ⟨rfl,rfl⟩) | (go_at_call 120;(with_reducible refine (HB2.out _).mono ?_);rintro e w' ⟨rfl,rfl⟩) | (go_at_call 120;(with_reducible refine (HB3.out _).mono ?_);rintro e w' ⟨rfl,rfl⟩))
    go_ret
    exact ⟨ret_int HF.out.symm,HEk.out⟩
   | true =>
   cases q3 with
   | false =>
    have HF : Hid (checkFnS p i = 2) := by rw [Hid,HS.out];simp
    go_wp2_with (first | (go_at_call 120;(with_reducible refine (HB1.out _).mono ?_);rintro e w' ⟨rfl,rfl⟩) | (go_at_call 120;(with_reducible refine (HB2.out _).mono ?_);rintro e w' ⟨rfl,rfl⟩) | (go_at_call 120;(with_reducible refine (HB3.out _).mono ?_);rintro e w' ⟨rfl,rfl⟩))
    go_ret
    exact ⟨ret_int HF.out.symm,HEk.out⟩
   | true =>
   have hreg := HRg.out rfl rfl
   by_cases h4 : f.cleanup = true ∧ f.prio ≠ 0
   ·obtain ⟨h41,h42⟩ := h4
    have HF : Hid (checkFnS p i = 2) := by rw [Hid,HS.out];simp [h41,h42]
    have h43 : (f.prio != 0) = true := by simpa using h42
    rw [h41] at g4
    clear h42 hreg
    go_wp2_with (first | (go_at_call 120;(with_reducible refine (HB1.out _).mono ?_);rintro e w' ⟨rfl,rfl⟩) | (go_at_call 120;(with_reducible refine (HB2.out _).mono ?_);rintro e w' ⟨rfl,rfl⟩) | (go_at_call 120;(with_reducible refine (HB3.out _).mono ?_);rintro e w' ⟨rfl,rfl⟩))
    go_ret
    exact ⟨ret_int HF.out.symm,HEk.out⟩
   replace HS : Hid (checkFnS p i = if 200 < (f.code.length : Int) then 4 else if i = 0 ∧ (0 < f.params ∨ f.cleanup = true) then 16 else codeS p f f.code) := by rw [Hid,HS.out];simp [h4]
   obtain ⟨q4,hq4⟩ : ∃ q,(f.cleanup && (f.prio != 0)) = q := ⟨_,rfl⟩
   obtain ⟨cl,hcl⟩ : ∃ c,f.cleanup = c := ⟨_,rfl⟩
   have HPr : Hid (cl = true → (f.prio != 0) = false) := fun h => by
    have : f.prio = 0 := Classical.byContradiction fun h5 => h4 ⟨hcl.trans h,h5⟩
    simp [this]
   rw [hcl] at g4 HS
   have HCl := Lib.hid hcl
   clear h4 hq4 hcl
   have hpr : cl = true → (f.prio != 0) = false := HPr.out
   by_cases h200 : (200 : Int) < (nc : Int)
   ·have HF : Hid (checkFnS p i = 4) := by rw [Hid,HS.out,if_pos (by have := HCL.out;omega)]
    clear hreg
    cases cl with
    | false =>
     clear hpr
     go_wp2_with (first | (go_at_call 120;(with_reducible refine (HB1.out _).mono ?_);rintro e w' ⟨rfl,rfl⟩) | (go_at_call 120;(with_reducible refine (HB2.out _).mono ?_);rintro e w' ⟨rfl,rfl⟩) | (go_at_call 120;(with_reducible refine (HB3.out _).mono ?_);rintro e w' ⟨rfl,rfl⟩))
     go_ret
     exact ⟨ret_int HF.out.symm,HEk.out⟩
    | true =>
     have hp0 := hpr rfl
     clear hpr
     go_wp2_with (first | (go_at_call 120;(with_reducible refine (HB1.out _).mono ?_);rintro e w' ⟨rfl,rfl⟩) | (go_at_call 120;(with_reducible refine (HB2.out _).mono ?_);rintro e w' ⟨rfl,rfl⟩) | (go_at_call 120;(with_reducible refine (HB3.out _).mono ?_);rintro e w' ⟨rfl,rfl⟩))
     go_ret
     exact ⟨ret_int HF.out.symm,HEk.out⟩
   rw [if_neg (by have := HCL.out;omega)] at HS
   by_cases h16 : i = 0 ∧ (0 < f.params ∨ cl = true)
   ·have HF : Hid (checkFnS p i = 16) := by rw [Hid,HS.out,if_pos h16]
    obtain ⟨h161,h162⟩ := h16
    have hib : ((i : Int) == 0) = true := by simp [h161]
    have hpb : cl = false → (f.params != 0) = true := fun h => by
     rcases h162 with h9 | h9
     ·simp;omega
     ·rw [h] at h9;cases h9
    clear hreg h161 h162
    cases cl with
    | false =>
     have hpb := hpb rfl
     clear hpr
     go_wp2_with (first | (go_at_call 120;(with_reducible refine (HB1.out _).mono ?_);rintro e w' ⟨rfl,rfl⟩) | (go_at_call 120;(with_reducible refine (HB2.out _).mono ?_);rintro e w' ⟨rfl,rfl⟩) | (go_at_call 120;(with_reducible refine (HB3.out _).mono ?_);rintro e w' ⟨rfl,rfl⟩))
     go_ret
     exact ⟨ret_int HF.out.symm,HEk.out⟩
    | true =>
     have hp0 := hpr rfl
     clear hpr hpb
     obtain ⟨q9,hq9⟩ : ∃ q,(f.params != 0) = q := ⟨_,rfl⟩
     cases q9
     all_goals
      go_wp2_with (first | (go_at_call 120;(with_reducible refine (HB1.out _).mono ?_);rintro e w' ⟨rfl,rfl⟩) | (go_at_call 120;(with_reducible refine (HB2.out _).mono ?_);rintro e w' ⟨rfl,rfl⟩) | (go_at_call 120;(with_reducible refine (HB3.out _).mono ?_);rintro e w' ⟨rfl,rfl⟩))
      go_ret
      exact ⟨ret_int HF.out.symm,HEk.out⟩
   rw [if_neg h16] at HS
   have HR := Lib.hid hreg
   have hi16 : ((i : Int) == 0) = true → (f.params != 0) = false ∧ cl = false := fun h => by
    have hi : i = 0 := by simpa using h
    refine ⟨?_, ?_⟩
    ·have : ¬ 0 < f.params := fun h9 => h16 ⟨hi,.inl h9⟩
     have := HPa.out rfl
     simp;omega
    ·cases hc : cl with
     | false => rfl
     | true => exact absurd ⟨hi,.inr hc⟩ h16
   have HI16 := Lib.hid hi16
   clear h16 hreg hi16
   obtain ⟨qi,hqi⟩ : ∃ q,((i : Int) == 0) = q := ⟨_,rfl⟩
   have hfin : Hid (∀ W,Ext wrk W → ∀ x,x ∈ f.code → ∀ A n c,RSl 1 RInt W A n x.args → Calls Tryz.prog 121 #[.agg #[.slice (some ⟨b,off,none⟩) nf cf,.slice Ao no co,.slice Av nv cv],.agg #[.string f.name,int .i64 f.params,int .i64 f.regs,int .i64 f.prio,.bool cl,.slice Ac nc cc],.agg #[int .i64 x.op,int .i64 x.a,int .i64 x.b,int .i64 x.c,.slice A n c]] W fun e w' => e = .returned (int .i64 (instrS p f x)) ∧ Ext W w') := fun W hE x _ A n c hx => by
    have := rinstr_any p f x _ _ A n c W (HVV.out.mono (HEk.out.trans hE)) (HUU.out.mono (HEk.out.trans hE)) HR.out hx
    rwa [HCl.out] at this
   have h200' : ¬ (200 : Int) < (nc : Int) := h200
   cases qi with
   | true =>
    obtain ⟨hp9,hc9⟩ := HI16.out hqi
    subst hc9
    clear hpr
    go_wp2_with (first | (go_at_call 120;(with_reducible refine (HB1.out _).mono ?_);rintro e w' ⟨rfl,rfl⟩) | (go_at_call 120;(with_reducible refine (HB2.out _).mono ?_);rintro e w' ⟨rfl,rfl⟩) | (go_at_call 120;(with_reducible refine (HB3.out _).mono ?_);rintro e w' ⟨rfl,rfl⟩))
    go_loopg [7,8] nc (fun gg s7 _ wr => ∃ j : Nat,j ≤ nc ∧ nc - j ≤ gg ∧ s7 = .int .i64 j ∧ Hid (Ext wrk wr) ∧ Hid (codeS p f f.code = codeS p f (f.code.drop j)))
    case atStart => exact ⟨0,Nat.zero_le _,by omega,rfl,Ext.refl _,rfl⟩
    case round =>
     obtain ⟨j,hkj,hgj,rfl,HWj,HIj⟩ := hrel
     obtain ⟨wrj,ewrj⟩ : ∃ W,W = wr := ⟨_,rfl⟩
     subst ewrj
     have hWj := HWj.out
     replace e0 := hWj.cell e0
     replace e1 := hWj.cell e1
     replace e2 := hWj.cell e2
     replace g0 := hWj.cell g0
     replace g1 := hWj.cell g1
     replace g2 := hWj.cell g2
     replace g3 := hWj.cell g3
     replace g4 := hWj.cell g4
     replace g5 := hWj.cell g5
     have hszj := hWj.size
     by_cases hltj : j < nc
     ·have hltzj : (j : Int) < (nc : Int) := by omega
      have hk0j : (0 : Int) ≤ (j : Int) := by omega
      obtain ⟨x,hx⟩ : ∃ x,f.code[j]? = some x := ⟨_,List.getElem?_eq_getElem (by have := HCL.out;omega)⟩
      obtain ⟨b3,off3,A,n,c,rfl,_,_,_,_,_,⟨hX,_⟩,d0,d1,d2,d3,d4⟩ := (HC.out.mono RIns.stays (HEk.out.trans hWj)).ins hx
      have zb3 := lt_of_cell d0
      have HCI := Lib.hid (fun W (hE : Ext wrj W) => hfin.out W (hWj.trans hE) x (List.mem_of_getElem? hx) A n c (hX.mono RInt.stays hE))
      have HD : Hid (codeS p f (f.code.drop j) = if instrS p f x ≠ 0 then instrS p f x else codeS p f (f.code.drop (j + 1))) := by
       obtain ⟨h1,h2⟩ := List.getElem?_eq_some_iff.1 hx
       rw [Hid,List.drop_eq_getElem_cons h1,h2];rfl
      obtain ⟨e,hee⟩ : ∃ e,instrS p f x = e := ⟨_,rfl⟩
      rw [hee] at HCI HD
      clear hx hX hee
      by_cases hez : e = 0
      ·subst hez
       go_wp2
       (refine wp_region_quiet_below (by kernel_rfl) (by kernel_rfl) ?_;(repeat (go_big_quiet_step ((go_at_call 121;exact quiet_ext (HCI.out _ xt)))));refine wpQuiet_nil fun w1 h1 => ?_;obtain ⟨hc,hf,hs,he⟩ := eu (w := wrj) h1 xt;clear h1;(try simp only [sA,sC,sD,sN] at hs))
       go_wp2
       go_roundg (nc - (j + 1))
       case measure => omega
       case rel => exact ⟨j + 1,by omega,by omega,by go_num,Ext.trans HWj.out he,by rw [Hid,HIj.out,HD.out];rfl⟩
      ·have hezb : (e != 0) = true := by simpa using hez
       rw [if_pos hez] at HD
       clear hez
       go_wp2
       (refine wp_region_quiet_below (by kernel_rfl) (by kernel_rfl) ?_;(repeat (go_big_quiet_step ((go_at_call 121;exact quiet_ext (HCI.out _ xt)))));refine wpQuiet_nil fun w1 h1 => ?_;obtain ⟨hc,hf,hs,he⟩ := eu (w := wrj) h1 xt;clear h1;(try simp only [sA,sC,sD,sN] at hs))
       go_wp2
       go_ret
       exact ⟨ret_int (by rw [HS.out,HIj.out,HD.out]),(HEk.out.trans HWj.out).trans he⟩
     ·have hltzj : ¬ (j : Int) < (nc : Int) := by omega
      have HF : Hid (checkFnS p i = 0) := by rw [Hid,HS.out,HIj.out,List.drop_eq_nil_of_le (by have := HCL.out;omega)];rfl
      go_wp2
      go_ret
      exact ⟨ret_int HF.out.symm,HEk.out.trans HWj.out⟩
   | false =>
    cases cl with
    | false =>
     clear hpr
     go_wp2_with (first | (go_at_call 120;(with_reducible refine (HB1.out _).mono ?_);rintro e w' ⟨rfl,rfl⟩) | (go_at_call 120;(with_reducible refine (HB2.out _).mono ?_);rintro e w' ⟨rfl,rfl⟩) | (go_at_call 120;(with_reducible refine (HB3.out _).mono ?_);rintro e w' ⟨rfl,rfl⟩))
     go_loopg [7,8] nc (fun gg s7 _ wr => ∃ j : Nat,j ≤ nc ∧ nc - j ≤ gg ∧ s7 = .int .i64 j ∧ Hid (Ext wrk wr) ∧ Hid (codeS p f f.code = codeS p f (f.code.drop j)))
     case atStart => exact ⟨0,Nat.zero_le _,by omega,rfl,Ext.refl _,rfl⟩
     case round =>
      obtain ⟨j,hkj,hgj,rfl,HWj,HIj⟩ := hrel
      obtain ⟨wrj,ewrj⟩ : ∃ W,W = wr := ⟨_,rfl⟩
      subst ewrj
      have hWj := HWj.out
      replace e0 := hWj.cell e0
      replace e1 := hWj.cell e1
      replace e2 := hWj.cell e2
      replace g0 := hWj.cell g0
      replace g1 := hWj.cell g1
      replace g2 := hWj.cell g2
      replace g3 := hWj.cell g3
      replace g4 := hWj.cell g4
      replace g5 := hWj.cell g5
      have hszj := hWj.size
      by_cases hltj : j < nc
      ·have hltzj : (j : Int) < (nc : Int) := by omega
       have hk0j : (0 : Int) ≤ (j : Int) := by omega
       obtain ⟨x,hx⟩ : ∃ x,f.code[j]? = some x := ⟨_,List.getElem?_eq_getElem (by have := HCL.out;omega)⟩
       obtain ⟨b3,off3,A,n,c,rfl,_,_,_,_,_,⟨hX,_⟩,d0,d1,d2,d3,d4⟩ := (HC.out.mono RIns.stays (HEk.out.trans hWj)).ins hx
       have zb3 := lt_of_cell d0
       have HCI := Lib.hid (fun W (hE : Ext wrj W) => hfin.out W (hWj.trans hE) x (List.mem_of_getElem? hx) A n c (hX.mono RInt.stays hE))
       have HD : Hid (codeS p f (f.code.drop j) = if instrS p f x ≠ 0 then instrS p f x else codeS p f (f.code.drop (j + 1))) := by
        obtain ⟨h1,h2⟩ := List.getElem?_eq_some_iff.1 hx
        rw [Hid,List.drop_eq_getElem_cons h1,h2];rfl
       obtain ⟨e,hee⟩ : ∃ e,instrS p f x = e := ⟨_,rfl⟩
       rw [hee] at HCI HD
       clear hx hX hee
       by_cases hez : e = 0
       ·subst hez
        go_wp2
        (refine wp_region_quiet_below (by kernel_rfl) (by kernel_rfl) ?_;(repeat (go_big_quiet_step ((go_at_call 121;exact quiet_ext (HCI.out _ xt)))));refine wpQuiet_nil fun w1 h1 => ?_;obtain ⟨hc,hf,hs,he⟩ := eu (w := wrj) h1 xt;clear h1;(try simp only [sA,sC,sD,sN] at hs))
        go_wp2
        go_roundg (nc - (j + 1))
        case measure => omega
        case rel => exact ⟨j + 1,by omega,by omega,by go_num,Ext.trans HWj.out he,by rw [Hid,HIj.out,HD.out];rfl⟩
       ·have hezb : (e != 0) = true := by simpa using hez
        rw [if_pos hez] at HD
        clear hez
        go_wp2
        (refine wp_region_quiet_below (by kernel_rfl) (by kernel_rfl) ?_;(repeat (go_big_quiet_step ((go_at_call 121;exact quiet_ext (HCI.out _ xt)))));refine wpQuiet_nil fun w1 h1 => ?_;obtain ⟨hc,hf,hs,he⟩ := eu (w := wrj) h1 xt;clear h1;(try simp only [sA,sC,sD,sN] at hs))
        go_wp2
        go_ret
        exact ⟨ret_int (by rw [HS.out,HIj.out,HD.out]),(HEk.out.trans HWj.out).trans he⟩
      ·have hltzj : ¬ (j : Int) < (nc : Int) := by omega
       have HF : Hid (checkFnS p i = 0) := by rw [Hid,HS.out,HIj.out,List.drop_eq_nil_of_le (by have := HCL.out;omega)];rfl
       go_wp2
       go_ret
       exact ⟨ret_int HF.out.symm,HEk.out.trans HWj.out⟩
    | true =>
     have hp0 := hpr rfl
     clear hpr
     go_wp2_with (first | (go_at_call 120;(with_reducible refine (HB1.out _).mono ?_);rintro e w' ⟨rfl,rfl⟩) | (go_at_call 120;(with_reducible refine (HB2.out _).mono ?_);rintro e w' ⟨rfl,rfl⟩) | (go_at_call 120;(with_reducible refine (HB3.out _).mono ?_);rintro e w' ⟨rfl,rfl⟩))
     go_loopg [7,8] nc (fun gg s7 _ wr => ∃ j : Nat,j ≤ nc ∧ nc - j ≤ gg ∧ s7 = .int .i64 j ∧ Hid (Ext wrk wr) ∧ Hid (codeS p f f.code = codeS p f (f.code.drop j)))
     case atStart => exact ⟨0,Nat.zero_le _,by omega,rfl,Ext.refl _,rfl⟩
     case round =>
      obtain ⟨j,hkj,hgj,rfl,HWj,HIj⟩ := hrel
      obtain ⟨wrj,ewrj⟩ : ∃ W,W = wr := ⟨_,rfl⟩
      subst ewrj
      have hWj := HWj.out
      replace e0 := hWj.cell e0
      replace e1 := hWj.cell e1
      replace e2 := hWj.cell e2
      replace g0 := hWj.cell g0
      replace g1 := hWj.cell g1
      replace g2 := hWj.cell g2
      replace g3 := hWj.cell g3
      replace g4 := hWj.cell g4
      replace g5 := hWj.cell g5
      have hszj := hWj.size
      by_cases hltj : j < nc
      ·have hltzj : (j : Int) < (nc : Int) := by omega
       have hk0j : (0 : Int) ≤ (j : Int) := by omega
       obtain ⟨x,hx⟩ : ∃ x,f.code[j]? = some x := ⟨_,List.getElem?_eq_getElem (by have := HCL.out;omega)⟩
       obtain ⟨b3,off3,A,n,c,rfl,_,_,_,_,_,⟨hX,_⟩,d0,d1,d2,d3,d4⟩ := (HC.out.mono RIns.stays (HEk.out.trans hWj)).ins hx
       have zb3 := lt_of_cell d0
       have HCI := Lib.hid (fun W (hE : Ext wrj W) => hfin.out W (hWj.trans hE) x (List.mem_of_getElem? hx) A n c (hX.mono RInt.stays hE))
       have HD : Hid (codeS p f (f.code.drop j) = if instrS p f x ≠ 0 then instrS p f x else codeS p f (f.code.drop (j + 1))) := by
        obtain ⟨h1,h2⟩ := List.getElem?_eq_some_iff.1 hx
        rw [Hid,List.drop_eq_getElem_cons h1,h2];rfl
       obtain ⟨e,hee⟩ : ∃ e,instrS p f x = e := ⟨_,rfl⟩
       rw [hee] at HCI HD
       clear hx hX hee
       by_cases hez : e = 0
       ·subst hez
        go_wp2
        (refine wp_region_quiet_below (by kernel_rfl) (by kernel_rfl) ?_;(repeat (go_big_quiet_step ((go_at_call 121;exact quiet_ext (HCI.out _ xt)))));refine wpQuiet_nil fun w1 h1 => ?_;obtain ⟨hc,hf,hs,he⟩ := eu (w := wrj) h1 xt;clear h1;(try simp only [sA,sC,sD,sN] at hs))
        go_wp2
        go_roundg (nc - (j + 1))
        case measure => omega
        case rel => exact ⟨j + 1,by omega,by omega,by go_num,Ext.trans HWj.out he,by rw [Hid,HIj.out,HD.out];rfl⟩
       ·have hezb : (e != 0) = true := by simpa using hez
        rw [if_pos hez] at HD
        clear hez
        go_wp2
        (refine wp_region_quiet_below (by kernel_rfl) (by kernel_rfl) ?_;(repeat (go_big_quiet_step ((go_at_call 121;exact quiet_ext (HCI.out _ xt)))));refine wpQuiet_nil fun w1 h1 => ?_;obtain ⟨hc,hf,hs,he⟩ := eu (w := wrj) h1 xt;clear h1;(try simp only [sA,sC,sD,sN] at hs))
        go_wp2
        go_ret
        exact ⟨ret_int (by rw [HS.out,HIj.out,HD.out]),(HEk.out.trans HWj.out).trans he⟩
      ·have hltzj : ¬ (j : Int) < (nc : Int) := by omega
       have HF : Hid (checkFnS p i = 0) := by rw [Hid,HS.out,HIj.out,List.drop_eq_nil_of_le (by have := HCL.out;omega)];rfl
       go_wp2
       go_ret
       exact ⟨ret_int HF.out.symm,HEk.out.trans HWj.out⟩
end Go.Proofs.YtcjjoabofecjmaaGreat

