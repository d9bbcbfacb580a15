/- A part of the proof: validLiving of package task; Check of package task. -/
import Derived.Test.YtcjjoabofecjmaaQ11
import Derived.Deep.CutRange
set_option linter.unusedVariables false
set_option linter.unusedSimpArgs false
set_option maxHeartbeats 16000000
namespace Go.Proofs.Ytcjjoabofecjmaa
open Go.RowKit
open Go.Value (int)
theorem liv0_parts (p : Prg) (t : Tsk) (h : blksB p t.blocks = true) : liv0 p t =
  (!(!inB t.mask (leastI t) (mostI t) || decide ((8 : Int) < (plainN t : Int)) || (((plainN t : Int) == 0) && (!t.unw || (t.level != 0)))) &&
   !((t.level != 0) && (!t.unw || !inB t.level 2 (t.blocks.length : Int))) &&
   !(t.unw && (((t.level == 0) && decide ((0 : Int) < (plainN t : Int))) || (decide (0 < t.level) && ((plainN t : Int) != depthAt t (t.level - 1)))))) := by
 unfold liv0
 rw [h,show decide (plainN t ≤ 8) = !decide ((8 : Int) < (plainN t : Int)) by rw [← decide_not,decide_eq_decide];omega,
  show ((plainN t : Int) == 0) = decide (plainN t = 0) by rw [Bool.eq_iff_iff,beq_iff_eq,decide_eq_true_eq];omega,
  show decide ((0 : Int) < (plainN t : Int)) = decide (0 < plainN t) by rw [decide_eq_decide];omega]
 simp only [Bool.not_or,Bool.not_not,Bool.true_and,Bool.and_assoc]
theorem blk_depth {p : Prg} {t : Tsk} (h : blksB p t.blocks = true) {k : Nat} {x : Blk} (hk : 1 ≤ k) (hx : t.blocks[k]? = some x) : 1 ≤ x.depth ∧ x.depth ≤ 8 := by
 unfold blksB at h
 simp only [Bool.and_eq_true] at h
 have h2 := allB_iff.1 h.2 k (Nat.zero_le _) (by have := (List.getElem?_eq_some_iff.1 hx).1;omega)
 unfold blkB at h2
 rw [hx] at h2
 dsimp only at h2
 rw [if_neg (by omega)] at h2
 cases hy : t.blocks[k - 1]? with
 | none => rw [hy] at h2;simp at h2
 | some y =>
  rw [hy] at h2
  simp only [Bool.and_eq_true,inB_iff] at h2
  exact h2.2.1.1.1.2
set_option maxRecDepth 8000 in
theorem validLiving_any (p : Prg) (t : Tsk) (VP VT : Value) (w : World) (hP : RPrg w p VP) (hT : RTsk w t VT) (hpo : ∀ g : Fnc,g ∈ p.funcs → 0 ≤ g.regs ∧ g.regs ≤ 32) :
  Calls Try.prog 28 #[VP,VT] w fun e w' => e = .returned (.bool (livB p t)) ∧ Ext w w' := by
 have HB1 := Lib.hid (fun W h => validBlocks_any p t VP VT W (hP.mono h) (hT.mono h))
 have HH := Lib.hid (fun W h => handles_any t VT W (hT.mono h))
 have HFm := Lib.hid (fun (i : Nat) (W : World) (h : Ext w W) (hi : i < t.frames.length) hpre => validFrame_any p t i VP VT W (hP.mono h) (hT.mono h) hi hpo hpre)
 obtain ⟨Af,nf,cf,Ao,no,co,Av,nv,cv,rfl,hF,hO,hVr,hcf,hco,hcv⟩ := hP
 obtain ⟨Bf,mf,df,Bb,mb,db,rfl,_,_,_,_,_,_,i7,i8,_,_,hF2,hB2,hdf,hdb⟩ := hT
 clear hO hVr hcf hco hcv
 have HF := Lib.hid hF
 have HF2 := Lib.hid hF2
 have HB2 := Lib.hid hB2
 have hle := hF.le
 have hle2 := hF2.le
 have hle3 := hB2.le
 have HL2 := Lib.hid hF2.len
 have HL3 := Lib.hid hB2.len
 clear hF hF2 hB2
 cases hbk : blksB p t.blocks with
 | false =>
  have HR : Hid (livB p t = false) := liv0_ends (liv0_blks hbk)
  rw [hbk] at HB1
  clear hbk
  go_enter Try.func28,Try.ntmps28
  go_wp2_with (first | ((first | (with_reducible refine jl 44 ?_) | (with_reducible refine il 44 ?_));refine ldm Try.underlying44 rfl rfl rfl (by exact rg) rfl (by exact infoTsk) ?_;dsimp only [dZ,dS]) | (go_at_call 51;refine (HB1.out _ xt).mono ?_;rintro e w1 ⟨rfl,hb⟩;obtain ⟨hc,hf,hs,he⟩ := Ext.use (w := w) hb xt;clear hb;(try simp only [sA,sC,sD,sN] at hs)))
  go_ret
  exact ⟨ret_bool HR.out.symm,xt⟩
 | true =>
 rw [hbk] at HB1
 have HBK := Lib.hid hbk
 clear hbk
 obtain ⟨qh,hqh⟩ : ∃ q,inHand t = q := ⟨_,rfl⟩
 rw [hqh] at HH
 have HQH := Lib.hid hqh
 clear hqh
 go_enter Try.func28,Try.ntmps28
 go_upto_if 21 with (first | ((first | (with_reducible refine jl 44 ?_) | (with_reducible refine il 44 ?_));refine ldm Try.underlying44 rfl rfl rfl (by exact rg) rfl (by exact infoTsk) ?_;dsimp only [dZ,dS]) | (go_at_call 51;refine (HB1.out _ xt).mono ?_;rintro e w1 ⟨rfl,hb⟩;have R1 := range_ext (b := w.heap.size + 1) (o := 0) (by exact rg) hb;obtain ⟨hc,hf,hs,he⟩ := Ext.use (w := w) hb xt;clear hb;(try simp only [World.size_alloc] at hs)) | (go_at_call 17;refine (HH.out _ xt).mono ?_;rintro e w2 ⟨rfl,hb⟩;have R2 := range_ext R1 hb;have k0 := hb.cell (p := ⟨w.heap.size,0,none⟩) (v := .slice Af nf cf) (by rw [hc];simp [go_sem]);have k1 := hb.cell (p := ⟨w.heap.size,1,none⟩) (v := .slice Ao no co) (by rw [hc];simp [go_sem]);have k2 := hb.cell (p := ⟨w.heap.size,2,none⟩) (v := .slice Av nv cv) (by rw [hc];simp [go_sem]);have he2 := he.trans hb;have hs2 := hb.size;clear hb hc hf))
 go_cut [5,6,7] from 22 to 25 (fun s5 s6 s7 wx => s5 = .int .i64 ((plainN t : Nat) : Int) ∧ s6 = .int .i64 (leastI t) ∧ s7 = .int .i64 (mostI t) ∧ wx = w2)
 case first =>
  cases qh with
  | true =>
   have hpos := inHand_pos HQH.out
   have hsub : IntKind.i64.wrap ((mf : Int) - 1) = ((plainN t : Nat) : Int) := by
    rw [IntWalk.i64_in _ (by have := HL2.out;omega),plainN,if_pos HQH.out];have := HL2.out;omega
   have e6 : Hid (leastI t = 1) := by unfold Hid leastI;rw [if_pos HQH.out]
   have e7 : Hid (mostI t = 101) := by unfold Hid mostI;rw [if_pos HQH.out]
   go_wp2
   go_meet
   exact ⟨rfl,by rw [e6.out],by rw [e7.out],rfl⟩
  | false =>
   have e5 : Hid (plainN t = mf) := by unfold Hid plainN;rw [if_neg (by rw [HQH.out];decide),HL2.out]
   have e6 : Hid (leastI t = 0) := by unfold Hid leastI;rw [if_neg (by rw [HQH.out];decide)]
   have e7 : Hid (mostI t = 100) := by unfold Hid mostI;rw [if_neg (by rw [HQH.out];decide)]
   go_wp2
   go_meet
   exact ⟨by rw [e5.out],by rw [e6.out],by rw [e7.out],rfl⟩
 case rest =>
  obtain ⟨rfl,rfl,rfl,rfl⟩ := hcut
  obtain ⟨N,hN⟩ : ∃ N,plainN t = N := ⟨_,rfl⟩
  obtain ⟨lo,hlo⟩ : ∃ x,leastI t = x := ⟨_,rfl⟩
  obtain ⟨hi,hhi⟩ : ∃ x,mostI t = x := ⟨_,rfl⟩
  obtain ⟨dp,hdp⟩ : ∃ x,depthAt t (t.level - 1) = x := ⟨_,rfl⟩
  obtain ⟨u,hu⟩ : ∃ u,t.unw = u := ⟨_,rfl⟩
  obtain ⟨l,hl⟩ : ∃ l,t.level = l := ⟨_,rfl⟩
  obtain ⟨b6,hb6⟩ : ∃ b,(!inB t.mask lo hi || decide ((8 : Int) < (N : Int)) || (((N : Int) == 0) && (!u || (l != 0)))) = b := ⟨_,rfl⟩
  obtain ⟨b8,hb8⟩ : ∃ b,((l != 0) && (!u || !inB l 2 (mb : Int))) = b := ⟨_,rfl⟩
  obtain ⟨b10,hb10⟩ : ∃ b,(u && (((l == 0) && decide ((0 : Int) < (N : Int))) || (decide (0 < l) && ((N : Int) != dp)))) = b := ⟨_,rfl⟩
  have H0 : Hid (liv0 p t = (!b6 && !b8 && !b10)) := by
   rw [Hid,liv0_parts p t HBK.out,hN,hlo,hhi,hdp,hu,hl,← HL3.out,hb6,hb8,hb10]
  have HN := Lib.hid hN
  have HDP := Lib.hid hdp
  have HU := Lib.hid hu
  have HLV := Lib.hid hl
  have HB6 := Lib.hid hb6
  have HB8 := Lib.hid hb8
  have HB10 := Lib.hid hb10
  rw [hN,hlo,hhi]
  clear hN hlo hhi hdp hb6 hb8 hb10 R1 he
  have q7 : wc.cell? ⟨w.heap.size + 1,7,none⟩ = some (.slice Bf mf df) := R2 7 _ rfl
  have q8 : wc.cell? ⟨w.heap.size + 1,8,none⟩ = some (.slice Bb mb db) := R2 8 _ rfl
  have q9 : wc.cell? ⟨w.heap.size + 1,9,none⟩ = some (int .i64 t.mask) := R2 9 _ rfl
  have q10 : wc.cell? ⟨w.heap.size + 1,10,none⟩ = some (.bool u) := by rw [← hu];exact R2 10 _ rfl
  have q11 : wc.cell? ⟨w.heap.size + 1,11,none⟩ = some (int .i64 l) := by rw [← hl];exact R2 11 _ rfl
  have iL9 : InR l := by rw [← hl];exact i8
  clear hu hl i8
  go_upto_region 6 with fail
  go_cut [5,49] from 26 to 49 (fun s5 s49 wx => s5 = .int .i64 (N : Int) ∧ s49 = .bool b6 ∧ wx = wc)
  case first =>
   go_wp2_with (go_at_call 50;refine (twithin_any _ _ _ _).mono ?_;rintro e w' ⟨rfl,rfl⟩)
   all_goals (go_meet;exact ⟨by first | rfl | (simp [*];done),congrArg Value.bool (by rw [← HB6.out];simp [*]),rfl⟩)
  case rest =>
  obtain ⟨rfl,rfl,rfl⟩ := hcut
  cases b6 with
  | true =>
   go_wp2
   go_ret
   exact ⟨ret_bool (liv0_ends (by rw [H0.out];rfl)).symm,he2⟩
  | false =>
  go_upto_region 8 with fail
  go_cut [5,66] from 50 to 66 (fun s5 s66 wx => s5 = .int .i64 (N : Int) ∧ s66 = .bool b8 ∧ wx = wc)
  case first =>
   go_wp2_with (go_at_call 50;refine (twithin_any _ _ _ _).mono ?_;rintro e w' ⟨rfl,rfl⟩)
   all_goals (go_meet;exact ⟨by first | rfl | (simp [*];done),congrArg Value.bool (by rw [← HB8.out];simp [*]),rfl⟩)
  case rest =>
  obtain ⟨rfl,rfl,rfl⟩ := hcut
  cases b8 with
  | true =>
   go_wp2
   go_ret
   exact ⟨ret_bool (liv0_ends (by rw [H0.out];rfl)).symm,he2⟩
  | false =>
  go_upto_region 10 with fail
  go_cut [5,94] from 67 to 94 (fun s5 s94 wx => s5 = .int .i64 (N : Int) ∧ s94 = .bool b10 ∧ wx = wc)
  case first =>
   by_cases hlv : 2 ≤ l ∧ l ≤ (mb : Int)
   ·obtain ⟨x,hx⟩ : ∃ x,t.blocks[(l - 1).toNat]? = some x := ⟨_,List.getElem?_eq_getElem (by have := HL3.out;omega)⟩
    have hxd : Hid (x.depth = dp) := by rw [Hid,← HDP.out,depthAt,HLV.out,hx]
    obtain ⟨b,off,Aa,na,ca,rfl,hlb,_,_,_,_,_,d0,d1,d2,d3,d4⟩ := (HB2.out.mono RBlk.stays he2).blk hx
    rw [hxd.out] at d1
    have hsub : IntKind.i64.wrap (l - 1) = ((l - 1).toNat : Int) := by rw [IntWalk.i64_in _ (by omega)];omega
    obtain ⟨k,hk⟩ : ∃ k,(l - 1).toNat = k := ⟨_,rfl⟩
    rw [hk] at hsub d1
    have hk1 : (k : Int) < (mb : Int) := by omega
    have hk0 : (0 : Int) ≤ (k : Int) := by omega
    have hp : 0 < l := by omega
    clear hlv hk hx d0 d2 d3 d4
    go_wp2
    all_goals (go_meet;exact ⟨by first | rfl | (simp [*];done),congrArg Value.bool (by rw [← HB10.out];simp [*];try omega),rfl⟩)
   ·have hz : l = 0 := by
     have h := HB8.out
     simp only [Bool.and_eq_false_iff,bne_eq_false_iff_eq,Bool.or_eq_false_iff,Bool.not_eq_false',inB_iff] at h
     rcases h with h | ⟨_,h⟩
     ·exact h
     ·exact absurd h hlv
    clear hlv
    go_wp2
    all_goals (go_meet;exact ⟨by first | rfl | (simp [*];done),congrArg Value.bool (by rw [← HB10.out];simp [*];try omega),rfl⟩)
  case rest =>
  obtain ⟨rfl,rfl,rfl⟩ := hcut
  cases b10 with
  | true =>
   go_wp2
   go_ret
   exact ⟨ret_bool (liv0_ends (by rw [H0.out];rfl)).symm,he2⟩
  | false =>
  have HR : Hid (livB p t = (allB (frmB p t) mf 0 && allB (keepB p t) (keepsN t - 1) 1)) := by rw [Hid,livB_eq,H0.out,HL2.out];rfl
  clear H0
  have he3 := HF2.out.mono RFrm.stays he2
  have hs3 : w.heap.size + 1 < wc.heap.size := lt_of_cell q7
  go_wp2
  go_loopg [8,98] mf (fun gg _ s98 wr => ∃ kk : Nat,kk ≤ mf ∧ mf - kk ≤ gg ∧ s98 = .int .i64 kk ∧ Hid (Ext wc wr) ∧ Hid (allB (frmB p t) mf 0 = allB (frmB p t) (mf - kk) kk) ∧ Hid (∀ j,j < kk → frmB p t j = true))
  case atStart => exact ⟨0,Nat.zero_le _,by omega,rfl,Ext.refl wc,rfl,fun j hj => absurd hj (Nat.not_lt_zero _)⟩
  case round =>
   obtain ⟨kk,hkk,hg,rfl,HW,HI,HJ⟩ := hrel
   have hW := HW.out
   have R3 := range_ext R2 hW
   have hs4 := hW.size
   replace k0 := hW.cell k0
   replace k1 := hW.cell k1
   replace k2 := hW.cell k2
   replace q7 := hW.cell q7
   replace q8 := hW.cell q8
   replace q10 := hW.cell q10
   replace q11 := hW.cell q11
   clear q9
   by_cases hlt : kk < mf
   ·have hltz : (kk : Int) < (mf : Int) := by omega
    have hkl : kk < t.frames.length := by have := HL2.out;omega
    have HD : Hid (allB (frmB p t) (mf - kk) kk = (frmB p t kk && allB (frmB p t) (mf - (kk + 1)) (kk + 1))) := by
     rw [Hid,show mf - kk = (mf - (kk + 1)) + 1 by omega];rfl
    have HC := Lib.hid (fun W (h : Ext wr W) => HFm.out kk W ((he2.trans hW).trans h) hkl (fun f h0 hf => frm_fnAt (HJ.out (kk - 1) (by omega)) hf))
    obtain ⟨q,hq⟩ : ∃ q,frmB p t kk = q := ⟨_,rfl⟩
    rw [hq] at HC
    have HQ := Lib.hid hq
    clear hq hkl hW
    cases q with
    | true =>
     go_wp2_with (first | ((first | (with_reducible refine jl 44 ?_) | (with_reducible refine il 44 ?_));refine ldm Try.underlying44 rfl rfl rfl (by exact rg) rfl (by exact infoTsk) ?_;dsimp only [dZ,dS]) | (go_at_call 52;refine (HC.out _ xt).mono ?_;rintro e w3 ⟨rfl,hb3⟩))
     go_roundg (mf - (kk + 1))
     case measure => omega
     case rel => exact ⟨kk + 1,by omega,by omega,by go_num,HW.out.trans hb3,by rw [Hid,HI.out,HD.out,HQ.out];rfl,fun j hj => by
      rcases Nat.lt_or_ge j kk with h | h
      ·exact HJ.out j h
      ·have : j = kk := by omega
       subst this;exact HQ.out⟩
    | false =>
     go_wp2_with (first | ((first | (with_reducible refine jl 44 ?_) | (with_reducible refine il 44 ?_));refine ldm Try.underlying44 rfl rfl rfl (by exact rg) rfl (by exact infoTsk) ?_;dsimp only [dZ,dS]) | (go_at_call 52;refine (HC.out _ xt).mono ?_;rintro e w3 ⟨rfl,hb3⟩))
     go_ret
     exact ⟨ret_bool (by rw [HR.out,HI.out,HD.out,HQ.out];rfl),he2.trans (HW.out.trans hb3)⟩
   ·have hltz : ¬ (kk : Int) < (mf : Int) := by omega
    have HFA : Hid (∀ j,j < mf → frmB p t j = true) := fun j hj => HJ.out j (by omega)
    have HR2 : Hid (livB p t = allB (keepB p t) (keepsN t - 1) 1) := by rw [Hid,HR.out,HI.out,show mf - kk = 0 by omega];rfl
    have hew := he2.trans hW
    obtain ⟨K,hK⟩ : ∃ K,keepsN t = K := ⟨_,rfl⟩
    have HKN : Hid (keepsN t = K) := hK
    clear hK HR HI HJ HW hlt hkk hg hW R2 he3 hs3
    have HKB : Hid (K ≤ mb ∧ (u = true → l = (K : Int))) := by
     have h := HB8.out
     simp only [Bool.and_eq_false_iff,bne_eq_false_iff_eq,Bool.or_eq_false_iff,Bool.not_eq_false',inB_iff] at h
     rw [Hid,← HKN.out]
     unfold keepsN
     rw [HU.out,HLV.out,← HL3.out]
     cases u with
     | true => simp only [if_true];refine ⟨?_,fun _ => ?_⟩ <;> omega
     | false => simp
    go_upto_if 111 with fail
    go_cut [9] from 112 to 113 (fun s9 wx => s9 = .int .i64 (K : Int) ∧ wx = wr)
    case first =>
     cases u with
     | true =>
      have h := HKB.out.2 rfl
      subst h
      go_wp2
      go_meet
      exact ⟨rfl,rfl⟩
     | false =>
      have h : Hid (mb = K) := by rw [Hid,← HKN.out];unfold keepsN;rw [HU.out,HL3.out];rfl
      go_wp2
      go_meet
      exact ⟨by rw [h.out],rfl⟩
    case rest =>
    obtain ⟨rfl,rfl⟩ := hcut
    have hkmb := HKB.out.1
    go_wp2
    go_loopg [10,11,12] K (fun gg s10 _ _ wq => ∃ kk : Nat,1 ≤ kk ∧ K - kk ≤ gg ∧ s10 = .int .i64 kk ∧ Hid (Ext wc wq) ∧ Hid (allB (keepB p t) (K - 1) 1 = allB (keepB p t) (K - kk) kk))
    case atStart => exact ⟨1,Nat.le_refl _,by omega,rfl,Ext.refl wc,rfl⟩
    case round =>
     obtain ⟨kk,hkk,hg,rfl,HW,HI⟩ := hrel
     have hW := HW.out
     have hWw := hew.trans hW
     have hs5 := hW.size
     replace k0 := hW.cell k0
     replace k1 := hW.cell k1
     replace k2 := hW.cell k2
     replace q7 := hW.cell q7
     replace q8 := hW.cell q8
     clear q10 q11 R3 hs4
     have hlb1 : w.heap.size + 1 < wr.heap.size := lt_of_cell q7
     by_cases hlt : kk < K
     rotate_left
     ·have hltz2 : ¬ (kk : Int) < (K : Int) := by omega
      clear hew hW
      go_wp2
      go_ret
      exact ⟨ret_bool (by rw [HR2.out,HKN.out,HI.out,show K - kk = 0 by omega];rfl),hWw⟩
     have hltz2 : (kk : Int) < (K : Int) := by omega
     have hltb : (kk : Int) < (mb : Int) := by omega
     obtain ⟨x,hx⟩ : ∃ x,t.blocks[kk]? = some x := ⟨_,List.getElem?_eq_getElem (by have := HL3.out;omega)⟩
     have HD : Hid (allB (keepB p t) (K - kk) kk = (keepB p t kk && allB (keepB p t) (K - (kk + 1)) (kk + 1))) := by
      rw [Hid,show K - kk = (K - (kk + 1)) + 1 by omega];rfl
     have hdep := blk_depth HBK.out hkk hx
     obtain ⟨b,off,Aa,na,ca,rfl,hlb,_,xi2,xi3,_,_,d0,d1,d2,d3,d4⟩ := (HB2.out.mono RBlk.stays hWw).blk hx
     clear hW hew
     by_cases hdn : (N : Int) < x.depth
     ·have HK : Hid (keepB p t kk = false) := by
       unfold Hid keepB;rw [hx];dsimp only;rw [HN.out,decide_eq_false (by omega)];rfl
      clear hx hdep
      go_wp2
      go_ret
      exact ⟨ret_bool (by rw [HR2.out,HKN.out,HI.out,HD.out,HK.out];rfl),hWw.trans xt⟩
     have hNm : N ≤ mf := by
      have h := HN.out
      unfold plainN at h
      have := HL2.out
      split at h <;> omega
     obtain ⟨y,hy⟩ : ∃ y,t.frames[(x.depth - 1).toNat]? = some y := ⟨_,List.getElem?_eq_getElem (by have := HL2.out;omega)⟩
     obtain ⟨g,hg2⟩ := frm_fnAt (HFA.out _ (by have := HL2.out;omega)) hy
     obtain ⟨v0,v1,v2⟩ := fnAt_some hg2
     obtain ⟨b2,off2,Ay,ny,cy,rfl,hlb2,_,_,_,_,f0,f1,f2,f3,f4⟩ := (HF2.out.mono RFrm.stays hWw).frm hy
     have HLF := HF.out.len
     obtain ⟨b3,off3,Ac,nc,cc,rfl,hlb3,_,_,_,_,⟨hC,hcc⟩,g0,g1,g2,g3,g4,g5⟩ := (HF.out.mono RFnc.stays hWw).fnc v2
     have hltf : y.fn < (nf : Int) := by omega
     have hCl := hC.le
     have HSC := sub_one hCl
     have HCL := Lib.hid hC.len
     have hsubd : IntKind.i64.wrap (x.depth - 1) = ((x.depth - 1).toNat : Int) := by rw [IntWalk.i64_in _ (by omega)];omega
     obtain ⟨k,hk⟩ : ∃ k,(x.depth - 1).toNat = k := ⟨_,rfl⟩
     rw [hk] at hsubd f0 f1 f2 f3 f4
     have hk1 : (k : Int) < (mf : Int) := by omega
     have hk0' : (0 : Int) ≤ (k : Int) := by omega
     have HK : Hid (keepB p t kk = (inB x.exit 0 ((nc : Int) - 1) && match g.code[x.exit.toNat]? with | none => false | some z => z.op == 36)) := by
      unfold Hid keepB;rw [hx];dsimp only;rw [HN.out,decide_eq_true (by omega),hy];dsimp only;rw [hg2];dsimp only;rw [HCL.out];rfl
     clear hx hdep hy hg2 v1 v2 hk HLF hNm f1 f2 f3 f4 g0 g1 g2 g3 g4
     cases hex : inB x.exit 0 ((nc : Int) - 1) with
     | false =>
      have HK : Hid (keepB p t kk = false) := by rw [Hid,HK.out,hex];rfl
      clear hC
      go_wp2
      (refine wp_region_quiet_below (by kernel_rfl) (by kernel_rfl) ?_;(repeat (go_big_quiet_step (fail)));refine wpQuiet_nil fun w1 h1 => ?_;obtain ⟨hc,hf,hs,he⟩ := eu (w := w) h1 xt;clear h1;(try simp only [sA,sC,sD,sN] at hs))
      go_wp2_with (go_at_call 50;(with_reducible refine (twithin_is hex _).mono ?_);rintro e w' ⟨rfl,rfl⟩)
      go_ret
      exact ⟨ret_bool (by rw [HR2.out,HKN.out,HI.out,HD.out,HK.out];rfl),he⟩
     | true =>
      have hex' := inB_iff.1 hex
      obtain ⟨z,hz⟩ : ∃ z,g.code[x.exit.toNat]? = some z := ⟨_,List.getElem?_eq_getElem (by have := HCL.out;omega)⟩
      obtain ⟨b4,off4,Az,nz,cz,rfl,hlb4,_,_,_,_,_,z0,z1,z2,z3,z4⟩ := hC.ins hz
      have hlte : x.exit < (nc : Int) := by omega
      have hge : 0 ≤ x.exit := hex'.1
      have HK : Hid (keepB p t kk = (z.op == 36)) := by rw [Hid,HK.out,hex,hz];rfl
      clear hC hz z1 z2 z3 z4 hex'
      by_cases h36 : z.op = 36
      ·have e36 : (z.op != 36) = false := by simpa using h36
       have HK : Hid (keepB p t kk = true) := by rw [Hid,HK.out];simpa using h36
       clear h36
       go_wp2
       (refine wp_region_quiet_below (by kernel_rfl) (by kernel_rfl) ?_;(repeat (go_big_quiet_step (fail)));refine wpQuiet_nil fun w1 h1 => ?_;obtain ⟨hc,hf,hs,he⟩ := eu (w := wr) h1 xt;clear h1;(try simp only [sA,sC,sD,sN] at hs))
       go_wp2_with (go_at_call 50;(with_reducible refine (twithin_is hex _).mono ?_);rintro e w' ⟨rfl,rfl⟩)
       go_roundg (K - (kk + 1))
       case measure => omega
       case rel => exact ⟨kk + 1,by omega,by omega,by go_num,HW.out.trans he,by rw [Hid,HI.out,HD.out,HK.out];rfl⟩
      ·have e36 : (z.op != 36) = true := by simpa using h36
       have HK : Hid (keepB p t kk = false) := by rw [Hid,HK.out];simpa using h36
       clear h36
       go_wp2
       (refine wp_region_quiet_below (by kernel_rfl) (by kernel_rfl) ?_;(repeat (go_big_quiet_step (fail)));refine wpQuiet_nil fun w1 h1 => ?_;obtain ⟨hc,hf,hs,he⟩ := eu (w := w) h1 xt;clear h1;(try simp only [sA,sC,sD,sN] at hs))
       go_wp2_with (go_at_call 50;(with_reducible refine (twithin_is hex _).mono ?_);rintro e w' ⟨rfl,rfl⟩)
       go_ret
       exact ⟨ret_bool (by rw [HR2.out,HKN.out,HI.out,HD.out,HK.out];rfl),he⟩
theorem firstBad_zero {f : Nat → Int} : ∀ {n i : Nat},firstBad f n i = 0 → ∀ k,i ≤ k → k < i + n → f k = 0
 | 0,i,_,k,h1,h2 => by omega
 | n + 1,i,h,k,h1,h2 => by
  unfold firstBad at h
  by_cases h0 : f i = 0
  ·rw [if_neg (by simpa using h0)] at h
   rcases Nat.lt_or_ge i k with h3 | h3
   ·exact firstBad_zero h k h3 (by omega)
   ·have : k = i := by omega
    subst this;exact h0
  ·rw [if_pos h0] at h
   exact absurd h h0
theorem check_fn {p : Prg} (h : checkS p = 0) {i : Nat} (hi : i < p.funcs.length) : checkFnS p i = 0 := by
 unfold checkS at h
 split at h
 ·cases h
 ·split at h
  ·cases h
  ·split at h
   ·rename_i h1;exact absurd h h1
   ·split at h
    ·rename_i h1;exact absurd h h1
    ·exact firstBad_zero h i (Nat.zero_le _) (by omega)
theorem check_regs {p : Prg} (h : checkS p = 0) : ∀ g : Fnc,g ∈ p.funcs → 0 ≤ g.regs ∧ g.regs ≤ 32 := fun g hg => by
 obtain ⟨i,hi,rfl⟩ := List.getElem_of_mem hg
 have h1 := check_fn h hi
 unfold checkFnS at h1
 rw [List.getElem?_eq_getElem hi] at h1
 dsimp only at h1
 split at h1
 ·cases h1
 ·split at h1
  ·cases h1
  ·split at h1
   ·cases h1
   ·rename_i h2
    simp only [not_or,Bool.not_eq_false,inB_iff] at h2
    omega
set_option maxRecDepth 8000 in
theorem tCheck_any (p : Prg) (t : Tsk) (VP VT : Value) (w : World) (hP : RPrg w p VP) (hT : RTsk w t VT) :
  Calls Try.prog 16 #[VP,VT] w fun e w' => e = .returned (int .i64 (tcheckS p t)) ∧ Ext w w' := by
 have HC := Lib.hid (fun W h => Check_any p VP W (hP.mono h))
 have HN := Lib.hid (fun W h => validNumbers_any p t VP VT W (hP.mono h) (hT.mono h))
 have HW := Lib.hid (fun W h => validWait_any p t VP VT W (hP.mono h) (hT.mono h))
 have HL := Lib.hid (fun W h hpo => validLiving_any p t VP VT W (hP.mono h) (hT.mono h) hpo)
 obtain ⟨Af,nf,cf,Ao,no,co,Av,nv,cv,rfl,hF,hO,hVr,hcf,hco,hcv⟩ := hP
 obtain ⟨Bf,mf,df,Bb,mb,db,rfl,_,_,_,_,_,_,i7,i8,_,_,hF2,hB2,hdf,hdb⟩ := hT
 clear hF hO hVr hcf hco hcv
 have hle2 := hF2.2.1
 have hle3 := hB2.2.1
 have HL2 := Lib.hid hF2.len
 have HL3 := Lib.hid hB2.len
 clear hF2 hB2
 by_cases hc : checkS p = 0
 rotate_left
 ·have HR : Hid (tcheckS p t = 1) := by unfold Hid tcheckS;rw [if_pos (.inl hc)]
  have hcb : (checkS p != 0) = true := by simpa using hc
  clear hc
  go_enter Try.func16,Try.ntmps16
  go_wp2_with (first | ((first | (with_reducible refine jl 44 ?_) | (with_reducible refine il 44 ?_));refine ldm Try.underlying44 rfl rfl rfl (by exact rg) rfl (by exact infoTsk) ?_;dsimp only [dZ,dS]) | ((with_reducible refine ig 44 ?_);refine ldg Try.underlying44 (by rfl) rfl rfl (by exact rg) rfl (by exact infoTsk) ?_;dsimp only [dZ,dS]) | (go_at_call 12;refine (HC.out _ xt).mono ?_;rintro e w1 ⟨rfl,hb⟩;obtain ⟨hc,hf,hs,he⟩ := Ext.use (w := w) hb xt;clear hb;(try simp only [sA,sC,sD,sN] at hs)))
  go_ret
  exact ⟨ret_int HR.out.symm,xt⟩
 have HPO := Lib.hid (check_regs hc)
 have HC0 := Lib.hid hc
 rw [hc] at HC
 cases hn : numsB p t with
 | false =>
  have HR : Hid (tcheckS p t = 1) := by unfold Hid tcheckS;rw [if_pos (.inr (.inl hn))]
  rw [hn] at HN
  clear hn hc
  go_enter Try.func16,Try.ntmps16
  go_wp2_with (first | ((first | (with_reducible refine jl 44 ?_) | (with_reducible refine il 44 ?_));refine ldm Try.underlying44 rfl rfl rfl (by exact rg) rfl (by exact infoTsk) ?_;dsimp only [dZ,dS]) | ((with_reducible refine ig 44 ?_);refine ldg Try.underlying44 (by rfl) rfl rfl (by exact rg) rfl (by exact infoTsk) ?_;dsimp only [dZ,dS]) | (go_at_call 12;refine (HC.out _ xt).mono ?_;rintro e w1 ⟨rfl,hb⟩;have R1 := range_ext (b := w.heap.size + 1) (o := 0) (by exact rg) hb;obtain ⟨hc,hf,hs,he⟩ := Ext.use (w := w) hb xt;clear hb;(try simp only [World.size_alloc] at hs)) | (go_at_call 26;refine (HN.out _ xt).mono ?_;rintro e w2 ⟨rfl,hb2⟩))
  go_ret
  exact ⟨ret_int HR.out.symm,he.trans hb2⟩
 | true =>
 rw [hn] at HN
 cases hw : waitB p t with
 | false =>
  have HR : Hid (tcheckS p t = 1) := by unfold Hid tcheckS;rw [if_pos (.inr (.inr hw))]
  rw [hw] at HW
  clear hn hc hw
  go_enter Try.func16,Try.ntmps16
  go_wp2_with (first | ((first | (with_reducible refine jl 44 ?_) | (with_reducible refine il 44 ?_));refine ldm Try.underlying44 rfl rfl rfl (by exact rg) rfl (by exact infoTsk) ?_;dsimp only [dZ,dS]) | ((with_reducible refine ig 44 ?_);refine ldg Try.underlying44 (by rfl) rfl rfl (by exact rg) rfl (by exact infoTsk) ?_;dsimp only [dZ,dS]) | (go_at_call 12;refine (HC.out _ xt).mono ?_;rintro e w1 ⟨rfl,hb⟩;have R1 := range_ext (b := w.heap.size + 1) (o := 0) (by exact rg) hb;obtain ⟨hc,hf,hs,he⟩ := Ext.use (w := w) hb xt;clear hb;(try simp only [World.size_alloc] at hs)) | (go_at_call 26;refine (HN.out _ xt).mono ?_;rintro e w2 ⟨rfl,hb2⟩;have R2 := range_ext R1 hb2;have he2 := he.trans hb2;have hs2 := hb2.size;have k0 := hb2.cell (p := ⟨w.heap.size,0,none⟩) (v := .slice Af nf cf) (by rw [hc];simp [go_sem]);have k1 := hb2.cell (p := ⟨w.heap.size,1,none⟩) (v := .slice Ao no co) (by rw [hc];simp [go_sem]);have k2 := hb2.cell (p := ⟨w.heap.size,2,none⟩) (v := .slice Av nv cv) (by rw [hc];simp [go_sem]);clear hb2) | (go_at_call 27;refine (HW.out _ xt).mono ?_;rintro e w3 ⟨rfl,hb3⟩))
  go_ret
  exact ⟨ret_int HR.out.symm,he2.trans hb3⟩
 | true =>
 rw [hw] at HW
 have HR : Hid (tcheckS p t = if t.status = 3 then (if t.frames.length = 0 ∧ t.blocks.length = 0 ∧ t.mask = 0 ∧ t.level = 0 ∧ t.unw = false then 0 else 1) else if livB p t = true then 0 else 1) := by
  unfold Hid tcheckS;rw [if_neg (by rw [hn,hw];simp [hc])]
 obtain ⟨q,hq⟩ : ∃ q,livB p t = q := ⟨_,rfl⟩
 have HLQ : Hid (∀ W,Ext w W → Calls Try.prog 28 #[.agg #[.slice Af nf cf,.slice Ao no co,.slice Av nv cv],tskV t (.slice Bf mf df) (.slice Bb mb db)] W fun e w' => e = .returned (.bool q) ∧ Ext W w') := fun W h => by
  rw [← hq];exact HL.out W h HPO.out
 unfold tskV at HLQ
 rw [hq] at HR
 clear hn hc hw HL hq
 have hsum : IntKind.i64.wrap ((mf : Int) + (mb : Int)) = (mf : Int) + (mb : Int) := IntWalk.i64_in _ (by omega)
 go_enter Try.func16,Try.ntmps16
 go_wp2_with (first | ((first | (with_reducible refine jl 44 ?_) | (with_reducible refine il 44 ?_));refine ldm Try.underlying44 rfl rfl rfl (by exact rg) rfl (by exact infoTsk) ?_;dsimp only [dZ,dS]) | ((with_reducible refine ig 44 ?_);refine ldg Try.underlying44 (by rfl) rfl rfl (by exact rg) rfl (by exact infoTsk) ?_;dsimp only [dZ,dS]) | (go_at_call 12;refine (HC.out _ xt).mono ?_;rintro e w1 ⟨rfl,hb⟩;have R1 := range_ext (b := w.heap.size + 1) (o := 0) (by exact rg) hb;obtain ⟨hc,hf,hs,he⟩ := Ext.use (w := w) hb xt;clear hb;(try simp only [World.size_alloc] at hs)) | (go_at_call 26;refine (HN.out _ xt).mono ?_;rintro e w2 ⟨rfl,hb2⟩;have R2 := range_ext R1 hb2;have he2 := he.trans hb2;have hs2 := hb2.size;have k0 := hb2.cell (p := ⟨w.heap.size,0,none⟩) (v := .slice Af nf cf) (by rw [hc];simp [go_sem]);have k1 := hb2.cell (p := ⟨w.heap.size,1,none⟩) (v := .slice Ao no co) (by rw [hc];simp [go_sem]);have k2 := hb2.cell (p := ⟨w.heap.size,2,none⟩) (v := .slice Av nv cv) (by rw [hc];simp [go_sem]);clear hb2) | (go_at_call 27;refine (HW.out _ xt).mono ?_;rintro e w3 ⟨rfl,hb3⟩;have R3 := range_ext R2 hb3;have he3 := he2.trans hb3;have hs3 := hb3.size;replace k0 := hb3.cell k0;replace k1 := hb3.cell k1;replace k2 := hb3.cell k2;have q3 : w3.cell? ⟨w.heap.size + 1,3,none⟩ = some (int .i64 t.status) := R3 3 _ rfl;have q7 : w3.cell? ⟨w.heap.size + 1,7,none⟩ = some (.slice Bf mf df) := R3 7 _ rfl;have q8 : w3.cell? ⟨w.heap.size + 1,8,none⟩ = some (.slice Bb mb db) := R3 8 _ rfl;have q9 : w3.cell? ⟨w.heap.size + 1,9,none⟩ = some (int .i64 t.mask) := R3 9 _ rfl;have q10 : w3.cell? ⟨w.heap.size + 1,10,none⟩ = some (.bool t.unw) := R3 10 _ rfl;have q11 : w3.cell? ⟨w.heap.size + 1,11,none⟩ = some (int .i64 t.level) := R3 11 _ rfl;clear hb3 hc) | (go_at_call 28;refine (HLQ.out _ xt).mono ?_;rintro e w4 ⟨rfl,hb4⟩))
 all_goals (go_ret;exact ⟨ret_int (by rw [HR.out,← HL2.out,← HL3.out];clear HR HL2 HL3 HN HW HC HLQ HPO;first | (simp_all;done) | (simp_all;omega) | (simp_all;intros;simp_all;done) | (simp_all;intros;omega)),by first | exact he3.trans hb4 | exact xt⟩)
end Go.Proofs.Ytcjjoabofecjmaa

