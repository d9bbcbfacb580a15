/- A part of the proof: The reference of layer 13; Visible of the reference of layer. -/
import Derived.Test.YtcjjoabofecjmaaGreatQ36
import Derived.Test.YtcjjoabofecjmaaGreatQ10
set_option linter.unusedVariables false
set_option linter.unusedSimpArgs false
set_option maxHeartbeats 16000000
namespace Go.Proofs.YtcjjoabofecjmaaGreat
open Go.RowKit Go.Sort
open Go.Value (int)
theorem rCheck_any (p : Prg) (V : Value) (w : World) (hV : RPrg w p V) :
  Calls Tryz.prog 49 #[V] w fun e w' => e = .returned (.int .i64 (checkS p)) ∧ Ext w w' := by
 have hV' := hV
 obtain ⟨Af,nf,cf,Ao,no,co,Av,nv,cv,rfl,hF,hO,hVr,hcf,hco,hcv⟩ := hV
 have LF := Lib.hid hF.len
 have LO := Lib.hid hO.len
 have LV := Lib.hid hVr.len
 have hF64 := hF.le
 have hO64 := hO.le
 have hV64 := hVr.le
 obtain ⟨eo,HEO⟩ : ∃ e,Hid (firstBad (checkObS p) p.objs.length 0 = e) := ⟨_,rfl⟩
 obtain ⟨ev,HEV⟩ : ∃ e,Hid (firstBad (checkVrS p) p.vars.length 0 = e) := ⟨_,rfl⟩
 obtain ⟨ef,HEF⟩ : ∃ e,Hid (firstBad (checkFnS p) p.funcs.length 0 = e) := ⟨_,rfl⟩
 have HS : Hid (checkS p = if nf = 0 then 1 else if 32 < nf ∨ 16 < no ∨ 16 < nv then 4 else if eo ≠ 0 then eo else if ev ≠ 0 then ev else ef) := by
  unfold Hid checkS;rw [← HEO.out,← HEV.out,← HEF.out,LF.out,LO.out,LV.out]
 have HO : ∀ (i : Nat) (W : World),Ext w W → i < no → Calls Tryz.prog 83 #[.agg #[.slice Af nf cf,.slice Ao no co,.slice Av nv cv],.int .i64 i] W fun e w' => e = .returned (.int .i64 (checkObS p i)) ∧ Ext W w' :=
  fun i W hW hi => robject_any p i _ W (hV'.mono hW) (by have := LO.out;omega)
 have HVr : ∀ (i : Nat) (W : World),Ext w W → i < nv → Calls Tryz.prog 84 #[.agg #[.slice Af nf cf,.slice Ao no co,.slice Av nv cv],.int .i64 i] W fun e w' => e = .returned (.int .i64 (checkVrS p i)) ∧ Ext W w' :=
  fun i W hW hi => rvar_any p i _ W (hV'.mono hW) (by have := LV.out;omega)
 have HF : ∀ (i : Nat) (W : World),Ext w W → i < nf → Calls Tryz.prog 85 #[.agg #[.slice Af nf cf,.slice Ao no co,.slice Av nv cv],.int .i64 i] W fun e w' => e = .returned (.int .i64 (checkFnS p i)) ∧ Ext W w' :=
  fun i W hW hi => rfunc_any p i _ W (hV'.mono hW) (by have := LF.out;omega)
 clear hV' hF hO hVr hcf hco hcv
 have Hnf : nf = 0 ∨ 0 < nf := by omega
 have Hnf : nf = 0 ∨ 0 < nf := by omega
 go_enter Tryz.func49,Tryz.ntmps49
 go_wp2
 all_goals try (go_ret;exact ⟨ret_int (by have g := HS.out;clear HO HVr HF HS;rw [g];clear g;simp only [beq_iff_eq,beq_eq_false_iff_ne,ne_eq] at *;first | rw [if_neg (by omega),if_pos (by omega)] | rw [if_pos (by omega)]),xt⟩)
 refine wp_hid ?_
 intro W0 HW0
 have HE : Hid (Ext w W0) := by rw [HW0.out];exact Lib.hid xt
 have hl0 : w.heap.size < W0.heap.size := by rw [HW0.out];simp
 have k0 : W0.cell? ⟨w.heap.size,0,none⟩ = some (.slice Af nf cf) := by rw [HW0.out];simp [go_sem]
 have k1 : W0.cell? ⟨w.heap.size,1,none⟩ = some (.slice Ao no co) := by rw [HW0.out];simp [go_sem]
 have k2 : W0.cell? ⟨w.heap.size,2,none⟩ = some (.slice Av nv cv) := by rw [HW0.out];simp [go_sem]
 have HS2 : Hid (checkS p = if eo ≠ 0 then eo else if ev ≠ 0 then ev else ef) := by have g := HS.out;clear HO HVr HF HS;rw [Hid,g];clear g;simp only [beq_iff_eq,beq_eq_false_iff_ne,ne_eq] at *;rw [if_neg (by omega),if_neg (by omega)]
 clear HW0 HS
 go_loopg [3,4] no (fun gg s3 _ wr => ∃ j : Nat,j ≤ no ∧ no - j ≤ gg ∧ s3 = .int .i64 j ∧ Hid (Ext W0 wr) ∧ Hid (eo = firstBad (checkObS p) (no - j) j))
 case atStart => exact ⟨0,Nat.zero_le _,by omega,rfl,Ext.refl _,by rw [Hid,← HEO.out,LO.out];rfl⟩
 case round =>
  obtain ⟨j,hk0,hg0,rfl,HW1,HI1⟩ := hrel
  obtain ⟨wr1,ewr1⟩ : ∃ W,W = wr := ⟨_,rfl⟩
  subst ewr1
  have hW0 := HW1.out
  have hE0 := HE.out.trans hW0
  replace k0 := hW0.cell k0
  replace k1 := hW0.cell k1
  replace k2 := hW0.cell k2
  have hl1 := Nat.lt_of_lt_of_le hl0 hW0.size
  by_cases hlt : j < no
  ·have hltz : (j : Int) < (no : Int) := by omega
   have HD : Hid (firstBad (checkObS p) (no - j) j = if checkObS p j ≠ 0 then checkObS p j else firstBad (checkObS p) (no - (j + 1)) (j + 1)) := by rw [Hid,show no - j = (no - (j + 1)) + 1 by omega];rfl
   have HX := HO j wr1 hE0 hlt
   obtain ⟨e0,he0⟩ : ∃ e0,checkObS p j = e0 := ⟨_,rfl⟩
   rw [he0] at HX
   have HQ := Lib.hid he0
   clear he0
   by_cases hz : e0 = 0
   ·subst hz
    go_wp2_with (go_at_call 83;refine (HX).mono ?_;rintro e w9 ⟨rfl,hb⟩;obtain ⟨hc9,hf9,hs9,he9⟩ := Ext.use (w := wr1) hb xt;clear hb;(try simp only [sA,sC,sD,sN] at hs9))
    go_roundg (no - (j + 1))
    case measure => omega
    case rel => exact ⟨j + 1,by omega,by omega,by go_num,HW1.out.trans he9,by rw [Hid,HI1.out,HD.out,if_neg (by rw [HQ.out];decide)]⟩
   ·have hz' : (e0 != 0) = true := by simpa using hz
    go_wp2_with (go_at_call 83;refine (HX).mono ?_;rintro e w9 ⟨rfl,hb⟩;obtain ⟨hc9,hf9,hs9,he9⟩ := Ext.use (w := wr1) hb xt;clear hb;(try simp only [sA,sC,sD,sN] at hs9))
    go_ret
    exact ⟨ret_int (by
     have g : eo = e0 := by rw [HI1.out,HD.out,HQ.out,if_pos hz]
     rw [HS2.out,g,if_pos hz]),hE0.trans he9⟩
  ·have hltz : ¬ (j : Int) < (no : Int) := by omega
   have hzo : eo = 0 := by rw [HI1.out,show no - j = 0 by omega];rfl
   clear HO
   go_wp2
   go_loopg [5,6] nv (fun gg s5 _ wr => ∃ k : Nat,k ≤ nv ∧ nv - k ≤ gg ∧ s5 = .int .i64 k ∧ Hid (Ext wr1 wr) ∧ Hid (ev = firstBad (checkVrS p) (nv - k) k))
   case atStart => exact ⟨0,Nat.zero_le _,by omega,rfl,Ext.refl _,by rw [Hid,← HEV.out,LV.out];rfl⟩
   case round =>
    obtain ⟨k,hk1,hg1,rfl,HW2,HI2⟩ := hrel
    obtain ⟨wr2,ewr2⟩ : ∃ W,W = wr := ⟨_,rfl⟩
    subst ewr2
    have hW1 := HW2.out
    have hE1 := hE0.trans hW1
    replace k0 := hW1.cell k0
    replace k1 := hW1.cell k1
    replace k2 := hW1.cell k2
    have hl2 := Nat.lt_of_lt_of_le hl1 hW1.size
    by_cases hlt : k < nv
    ·have hltz : (k : Int) < (nv : Int) := by omega
     have HD : Hid (firstBad (checkVrS p) (nv - k) k = if checkVrS p k ≠ 0 then checkVrS p k else firstBad (checkVrS p) (nv - (k + 1)) (k + 1)) := by rw [Hid,show nv - k = (nv - (k + 1)) + 1 by omega];rfl
     have HX := HVr k wr2 hE1 hlt
     obtain ⟨e0,he0⟩ : ∃ e0,checkVrS p k = e0 := ⟨_,rfl⟩
     rw [he0] at HX
     have HQ := Lib.hid he0
     clear he0
     by_cases hz : e0 = 0
     ·subst hz
      go_wp2_with (go_at_call 84;refine (HX).mono ?_;rintro e w9 ⟨rfl,hb⟩;obtain ⟨hc9,hf9,hs9,he9⟩ := Ext.use (w := wr2) hb xt;clear hb;(try simp only [sA,sC,sD,sN] at hs9))
      go_roundg (nv - (k + 1))
      case measure => omega
      case rel => exact ⟨k + 1,by omega,by omega,by go_num,HW2.out.trans he9,by rw [Hid,HI2.out,HD.out,if_neg (by rw [HQ.out];decide)]⟩
     ·have hz' : (e0 != 0) = true := by simpa using hz
      go_wp2_with (go_at_call 84;refine (HX).mono ?_;rintro e w9 ⟨rfl,hb⟩;obtain ⟨hc9,hf9,hs9,he9⟩ := Ext.use (w := wr2) hb xt;clear hb;(try simp only [sA,sC,sD,sN] at hs9))
      go_ret
      exact ⟨ret_int (by
       have g : ev = e0 := by rw [HI2.out,HD.out,HQ.out,if_pos hz]
       rw [HS2.out,if_neg (by simp [hzo]),g,if_pos hz]),hE1.trans he9⟩
    ·have hltz : ¬ (k : Int) < (nv : Int) := by omega
     have hzv : ev = 0 := by rw [HI2.out,show nv - k = 0 by omega];rfl
     clear HVr
     go_wp2
     go_loopg [7,8] nf (fun gg s7 _ wr => ∃ l : Nat,l ≤ nf ∧ nf - l ≤ gg ∧ s7 = .int .i64 l ∧ Hid (Ext wr2 wr) ∧ Hid (ef = firstBad (checkFnS p) (nf - l) l))
     case atStart => exact ⟨0,Nat.zero_le _,by omega,rfl,Ext.refl _,by rw [Hid,← HEF.out,LF.out];rfl⟩
     case round =>
      obtain ⟨l,hk2,hg2,rfl,HW3,HI3⟩ := hrel
      obtain ⟨wr3,ewr3⟩ : ∃ W,W = wr := ⟨_,rfl⟩
      subst ewr3
      have hW2 := HW3.out
      have hE2 := hE1.trans hW2
      replace k0 := hW2.cell k0
      replace k1 := hW2.cell k1
      replace k2 := hW2.cell k2
      have hl3 := Nat.lt_of_lt_of_le hl2 hW2.size
      by_cases hlt : l < nf
      ·have hltz : (l : Int) < (nf : Int) := by omega
       have HD : Hid (firstBad (checkFnS p) (nf - l) l = if checkFnS p l ≠ 0 then checkFnS p l else firstBad (checkFnS p) (nf - (l + 1)) (l + 1)) := by rw [Hid,show nf - l = (nf - (l + 1)) + 1 by omega];rfl
       have HX := HF l wr3 hE2 hlt
       obtain ⟨e0,he0⟩ : ∃ e0,checkFnS p l = e0 := ⟨_,rfl⟩
       rw [he0] at HX
       have HQ := Lib.hid he0
       clear he0
       by_cases hz : e0 = 0
       ·subst hz
        go_wp2_with (go_at_call 85;refine (HX).mono ?_;rintro e w9 ⟨rfl,hb⟩;obtain ⟨hc9,hf9,hs9,he9⟩ := Ext.use (w := wr3) hb xt;clear hb;(try simp only [sA,sC,sD,sN] at hs9))
        go_roundg (nf - (l + 1))
        case measure => omega
        case rel => exact ⟨l + 1,by omega,by omega,by go_num,HW3.out.trans he9,by rw [Hid,HI3.out,HD.out,if_neg (by rw [HQ.out];decide)]⟩
       ·have hz' : (e0 != 0) = true := by simpa using hz
        go_wp2_with (go_at_call 85;refine (HX).mono ?_;rintro e w9 ⟨rfl,hb⟩;obtain ⟨hc9,hf9,hs9,he9⟩ := Ext.use (w := wr3) hb xt;clear hb;(try simp only [sA,sC,sD,sN] at hs9))
        go_ret
        exact ⟨ret_int (by
         have g : ef = e0 := by rw [HI3.out,HD.out,HQ.out,if_pos hz]
         rw [HS2.out,if_neg (by simp [hzo]),if_neg (by simp [hzv]),g]),hE2.trans he9⟩
      ·have hltz : ¬ (l : Int) < (nf : Int) := by omega
       have hz_ : ef = 0 := by rw [HI3.out,show nf - l = 0 by omega];rfl
       clear HF
       go_wp2
       go_ret
       exact ⟨ret_int (by rw [HS2.out,if_neg (by simp [hzo]),if_neg (by simp [hzv]),hz_]),hE2⟩
end Go.Proofs.YtcjjoabofecjmaaGreat
namespace Go.Proofs.YtcjjoabofecjmaaGreat
open Go.RowKit
open Go.Value (int)
set_option maxRecDepth 4000 in
theorem rvisible_any (op : Int) (w : World) :
  Calls Tryz.prog 41 #[int .i64 op] w fun e w' => e = .returned (.bool (visS op)) ∧ Ext w w' := by
 have HS := Lib.hid (fun W => roles_any op W)
 obtain ⟨r,hr⟩ : ∃ r,rolesS op = r := ⟨_,rfl⟩
 have HR : Hid (visS op = (!decide (r.toList = []) && decide (30 ≤ op))) := by
  unfold Hid visS
  rw [← hr]
  unfold rolesS
  cases hsh : shapeS op with
  | none => rw [ByteArray.toList_eq];rfl
  | some s => rw [ByteArray.toList_eq];simp
 rw [hr] at HS
 clear hr
 by_cases h30 : (30 : Int) ≤ op
 ·go_enter Tryz.func41,Tryz.ntmps41
  go_wp2_with (go_at_call 76;refine (HS.out _).mono ?_;rintro e w1 ⟨rfl,hb⟩;have he := Lib.hid hb;clear hb)
  go_ret
  rw [HR.out]
  have h9 : w = w1 := he.out
  subst h9
  exact ⟨by cases hl : r.toList <;> simp [h30,hl],xt⟩
 ·go_enter Tryz.func41,Tryz.ntmps41
  go_wp2
  go_ret
  rw [HR.out]
  exact ⟨by simp [h30],xt⟩
end Go.Proofs.YtcjjoabofecjmaaGreat

