/- A part of the proof: current and Current of package task. -/
import Derived.Test.YtcjjoabofecjmaaQ12
set_option linter.unusedVariables false
set_option linter.unusedSimpArgs false
set_option maxHeartbeats 16000000
namespace Go.Proofs.Ytcjjoabofecjmaa
open Go.RowKit
open Go.Value (int)
def insV (x : Ins) (V : Value) : Value := .agg #[int .i64 x.op,int .i64 x.a,int .i64 x.b,int .i64 x.c,V]
def nowI (p : Prg) (t : Tsk) : Ins × Bool := match nowS p t with | none => (zeroIns,false) | some x => (x,true)
set_option maxRecDepth 4000 in
theorem curr_any (p : Prg) (t : Tsk) (f : Frm) (g : Fnc) (VP VT : Value) (u0 u w : World) (hP : RPrg u0 p VP) (hT : RTsk u t VT) (hE0 : Ext u0 w) (hE : Ext u w) (hf : t.frames[t.frames.length - 1]? = some f) (hg : fnAt p f.fn = some g) (hpc : 0 ≤ f.pc) :
  Calls Try.prog 21 #[VP,VT] w fun e w' => ∃ A n c,e = .returned (.tuple #[insV (nowI p t).1 (.slice A n c),.bool (nowI p t).2]) ∧ (RSl 1 RInt u0 A n (nowI p t).1.args ∧ n ≤ c) ∧ Ext w w' := by
 have hnow : nowS p t = g.code[f.pc.toNat]? := by unfold nowS;rw [hf];dsimp only;rw [hg];dsimp only;rw [if_neg (by omega)]
 obtain ⟨Af,nf,cf,Ao,no,co,Av,nv,cv,rfl,hF,hO,hVr,hcf,hco,hcv⟩ := hP
 obtain ⟨Bf,mf,df,Bb,mb,db,rfl,_,_,_,_,_,_,_,_,_,_,hF2,hB2,hdf,hdb⟩ := hT
 clear hO hVr hcf hco hcv hB2
 have hle := hF.le
 have hle2 := hF2.2.1
 have hl2 := hF2.len
 have hpos : 0 < mf := by have := (List.getElem?_eq_some_iff.1 hf).1;omega
 obtain ⟨v0,v1,v2⟩ := fnAt_some hg
 rw [← hl2] at hf
 obtain ⟨b,off,Ar,nr,cr,rfl,hlb,_,_,_,_,c0,c1,c2,c3,c4⟩ := hF2.frm hf
 have hlf := hF.len
 obtain ⟨b2,off2,Ac,nc,cc,rfl,hlb2,_,_,_,_,⟨hC,hcc⟩,g0,g1,g2,g3,g4,g5⟩ := hF.fnc v2
 have hlt : f.fn < (nf : Int) := by omega
 have hCl := hC.le
 have HC := Lib.hid hC
 have hcl := hC.len
 replace hlb := Nat.lt_of_lt_of_le hlb hE.size
 replace hlb2 := Nat.lt_of_lt_of_le hlb2 hE0.size
 replace c0 := hE.cell c0
 replace c1 := hE.cell c1
 replace c2 := hE.cell c2
 replace c3 := hE.cell c3
 replace c4 := hE.cell c4
 replace g0 := hE0.cell g0
 replace g1 := hE0.cell g1
 replace g2 := hE0.cell g2
 replace g3 := hE0.cell g3
 replace g4 := hE0.cell g4
 replace g5 := hE0.cell g5
 by_cases hend : (nc : Int) ≤ f.pc
 ·have HI : Hid (nowI p t = (zeroIns,false)) := by
   unfold Hid nowI;rw [hnow,List.getElem?_eq_none (by omega)]
  clear hnow hF hF2 hf hg hl2 hlf hC hcl v1 v2 hE hE0
  go_enter Try.func21,Try.ntmps21
  go_wp2_with (first | ((first | (with_reducible refine jl 44 ?_) | (with_reducible refine il 44 ?_));refine ldm Try.underlying44 rfl rfl rfl (by exact rg) rfl (by exact infoTsk) ?_;dsimp only [dZ,dS]) | ((go_at_call 29;refine (innermost_any _ _ _ _ _ _ _ _ _ _ _ _ _ b off mf df _ hpos hle2).mono ?_;rintro e w1 ⟨rfl,hb⟩;obtain ⟨hc,hf,hs,he⟩ := Ext.use (w := w) hb xt;clear hb;(try simp only [sA,sC,sD,sN] at hs));have hz1 : w.heap.size + 1 + 1 < w1.heap.size := (by omega)))
  (refine wp_region_quiet_below (by kernel_rfl) (by kernel_rfl) ?_;(repeat (go_big_quiet_step (fail)));refine wpQuiet_nil fun w1 h1 => ?_;obtain ⟨hc,hf,hs,he⟩ := eu (w := w) h1 xt;clear h1;(try simp only [sA,sC,sD,sN] at hs))
  go_wp2
  rw [HI.out]
  refine bodyPost_ret (v := .tuple #[insV zeroIns (.slice none 0 0),.bool false]) (by simp [results,Try.results21,go_sem,insV,zeroIns, *]) rfl ⟨none,0,0,rfl,⟨RSl.nil _,Nat.le_refl _⟩,xt⟩
 ·obtain ⟨x,hx⟩ : ∃ x,g.code[f.pc.toNat]? = some x := ⟨_,List.getElem?_eq_getElem (by omega)⟩
  have HI : Hid (nowI p t = (x,true)) := by unfold Hid nowI;rw [hnow,hx]
  obtain ⟨b3,off3,Ax,nx,cx,rfl,hlb3,_,_,_,_,⟨hX,hcx⟩,x0,x1,x2,x3,x4⟩ := hC.ins hx
  have HX := Lib.hid hX
  replace hlb3 := Nat.lt_of_lt_of_le hlb3 hE0.size
  replace x0 := hE0.cell x0
  replace x1 := hE0.cell x1
  replace x2 := hE0.cell x2
  replace x3 := hE0.cell x3
  replace x4 := hE0.cell x4
  have hltc : f.pc < (nc : Int) := by omega
  clear hnow hF hF2 hf hg hl2 hlf hC hcl v1 v2 hE hE0 hx hX
  go_enter Try.func21,Try.ntmps21
  go_wp2_with (first | ((first | (with_reducible refine jl 44 ?_) | (with_reducible refine il 44 ?_));refine ldm Try.underlying44 rfl rfl rfl (by exact rg) rfl (by exact infoTsk) ?_;dsimp only [dZ,dS]) | ((go_at_call 29;refine (innermost_any _ _ _ _ _ _ _ _ _ _ _ _ _ b off mf df _ hpos hle2).mono ?_;rintro e w1 ⟨rfl,hb⟩;obtain ⟨hc,hf,hs,he⟩ := Ext.use (w := w) hb xt;clear hb;(try simp only [sA,sC,sD,sN] at hs));have hz1 : w.heap.size + 1 + 1 < w1.heap.size := (by omega)))
  (refine wp_region_quiet_below (by kernel_rfl) (by kernel_rfl) ?_;(repeat (go_big_quiet_step (fail)));refine wpQuiet_nil fun w1 h1 => ?_;obtain ⟨hc,hf,hs,he⟩ := eu (w := w) h1 xt;clear h1;(try simp only [sA,sC,sD,sN] at hs))
  go_wp2
  rw [HI.out]
  refine bodyPost_ret (v := .tuple #[insV x (.slice Ax nx cx),.bool true]) (by simp [results,Try.results21,go_sem,insV, *]) rfl ⟨Ax,nx,cx,rfl,⟨HX.out,hcx⟩,xt⟩
theorem liv_top {p : Prg} {t : Tsk} (h : tcheckS p t = 0) (hl : t.frames.length ≠ 0) : ∃ f g,t.frames[t.frames.length - 1]? = some f ∧ fnAt p f.fn = some g ∧ 0 ≤ f.pc := by
 unfold tcheckS at h
 split at h
 ·cases h
 ·split at h
  ·split at h
   ·rename_i h1;exact absurd h1.1 hl
   ·cases h
  ·split at h
   ·rename_i h1
    rw [livB_eq] at h1
    simp only [Bool.and_eq_true] at h1
    obtain ⟨f,hf⟩ : ∃ f,t.frames[t.frames.length - 1]? = some f := ⟨_,List.getElem?_eq_getElem (by omega)⟩
    have h2 := allB_iff.1 h1.1.2 (t.frames.length - 1) (Nat.zero_le _) (by omega)
    obtain ⟨g,hg⟩ := frm_fnAt h2 hf
    refine ⟨f,g,hf,hg, ?_⟩
    unfold frmB at h2
    rw [hf] at h2
    dsimp only at h2
    rw [hg] at h2
    simp only [Bool.and_eq_true,inB_iff] at h2
    exact h2.1.1.2.1
   ·cases h
theorem currentS_ok {p : Prg} {t : Tsk} (h : tcheckS p t = 0) (hl : t.frames.length ≠ 0) : currentS p t = nowI p t := by
 unfold currentS nowI;rw [if_neg (by simp [h,hl])];rfl
theorem currentS_bad {p : Prg} {t : Tsk} (h : tcheckS p t ≠ 0 ∨ t.frames.length = 0) : currentS p t = (zeroIns,false) := by
 unfold currentS;rw [if_pos h]
set_option maxRecDepth 4000 in
theorem Current_any (p : Prg) (t : Tsk) (VP VT : Value) (w : World) (hP : RPrg w p VP) (hT : RTsk w t VT) :
  Calls Try.prog 8 #[VP,VT] w fun e w' => ∃ A n c,e = .returned (.tuple #[insV (currentS p t).1 (.slice A n c),.bool (currentS p t).2]) ∧ (RSl 1 RInt w' A n (currentS p t).1.args ∧ n ≤ c) ∧ Ext w w' := by
 have HC := Lib.hid (fun W h => tCheck_any p t VP VT W (hP.mono h) (hT.mono h))
 have HP := Lib.hid hP
 have HT := Lib.hid hT
 obtain ⟨Af,nf,cf,Ao,no,co,Av,nv,cv,rfl,hF,hO,hVr,hcf,hco,hcv⟩ := hP
 obtain ⟨Bf,mf,df,Bb,mb,db,rfl,_,_,_,_,_,_,_,_,_,_,hF2,hB2,hdf,hdb⟩ := hT
 clear hO hVr hcf hco hcv hB2 hF
 have hl2 := Lib.hid hF2.len
 clear hF2
 by_cases hc : tcheckS p t = 0
 rotate_left
 ·have HR : Hid (currentS p t = (zeroIns,false)) := currentS_bad (.inl hc)
  have hcb : (tcheckS p t != 0) = true := by simpa using hc
  clear hc
  go_enter Try.func8,Try.ntmps8
  go_wp2_with (first | ((first | (with_reducible refine jl 44 ?_) | (with_reducible refine il 44 ?_));refine ldm Try.underlying44 rfl rfl rfl (by exact rg) rfl (by exact infoTsk) ?_;dsimp only [dZ,dS]) | (go_at_call 16;refine (HC.out _ xt).mono ?_;rintro e w1 ⟨rfl,hb⟩;obtain ⟨hc,hf,hs,he⟩ := Ext.use (w := w) hb xt;clear hb;(try simp only [World.size_alloc] at hs);have hz1 : w.heap.size + 1 + 1 < w1.heap.size := (by omega)))
  rw [HR.out]
  refine bodyPost_ret (v := .tuple #[insV zeroIns (.slice none 0 0),.bool false]) (by simp [results,Try.results8,go_sem,insV,zeroIns, *]) rfl ⟨none,0,0,rfl,⟨RSl.nil _,Nat.le_refl _⟩,xt⟩
 rw [hc] at HC
 by_cases hl : t.frames.length = 0
 ·have HR : Hid (currentS p t = (zeroIns,false)) := currentS_bad (.inr hl)
  have hm0 : mf = 0 := by have := hl2.out;omega
  subst hm0
  clear hc hl
  go_enter Try.func8,Try.ntmps8
  go_wp2_with (first | ((first | (with_reducible refine jl 44 ?_) | (with_reducible refine il 44 ?_));refine ldm Try.underlying44 rfl rfl rfl (by exact rg) rfl (by exact infoTsk) ?_;dsimp only [dZ,dS]) | (go_at_call 16;refine (HC.out _ xt).mono ?_;rintro e w1 ⟨rfl,hb⟩;obtain ⟨hc,hf,hs,he⟩ := Ext.use (w := w) hb xt;clear hb;(try simp only [World.size_alloc] at hs);have hz1 : w.heap.size + 1 + 1 < w1.heap.size := (by omega);have hz2 : w.heap.size + 1 < w1.heap.size := (by omega)))
  rw [HR.out]
  refine bodyPost_ret (v := .tuple #[insV zeroIns (.slice none 0 0),.bool false]) (by simp [results,Try.results8,go_sem,insV,zeroIns, *]) rfl ⟨none,0,0,rfl,⟨RSl.nil _,Nat.le_refl _⟩,xt⟩
 ·obtain ⟨f,g,hf,hg,hpc⟩ := liv_top hc hl
  have HR := Lib.hid (currentS_ok hc hl)
  have HK := Lib.hid (fun W h => curr_any p t f g _ _ w w W HP.out HT.out h h hf hg hpc)
  unfold insV at HK
  have hm0 : ((mf : Int) == 0) = false := by have := hl2.out;simp only [beq_eq_false_iff_ne];omega
  clear hc hl hf hg hpc
  go_enter Try.func8,Try.ntmps8
  go_wp2_with (first | ((first | (with_reducible refine jl 44 ?_) | (with_reducible refine il 44 ?_));refine ldm Try.underlying44 rfl rfl rfl (by exact rg) rfl (by exact infoTsk) ?_;dsimp only [dZ,dS]) | (go_at_call 16;refine (HC.out _ xt).mono ?_;rintro e w1 ⟨rfl,hb⟩;have R1 := range_ext (b := w.heap.size + 1) (o := 0) (by exact rg) hb;obtain ⟨hc,hf,hs,he⟩ := Ext.use (w := w) hb xt;clear hb;(try simp only [World.size_alloc] at hs);have hz1 : w.heap.size + 1 + 1 < w1.heap.size := (by omega);have hz2 : w.heap.size + 1 < w1.heap.size := (by omega)) | (go_at_call 21;refine (HK.out _ xt).mono ?_;rintro e w2 ⟨A,n,c,rfl,hX,hb2⟩;have HX := Lib.hid hX;obtain ⟨hc2,hf2,hs2,he2⟩ := Ext.use (w := w) hb2 xt;clear hb2;have hz3 : w.heap.size + 1 + 1 < w2.heap.size := (by omega);clear hX))
  rw [HR.out]
  refine bodyPost_ret (v := .tuple #[insV (nowI p t).1 (.slice A n c),.bool (nowI p t).2]) (by simp [results,Try.results8,go_sem,insV, *]) rfl ⟨A,n,c,rfl,⟨HX.out.1.mono RInt.stays xt,HX.out.2⟩,xt⟩
end Go.Proofs.Ytcjjoabofecjmaa

