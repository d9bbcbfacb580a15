/- A part of the proof: The reference of layer 13. -/
import Derived.Test.YtcjjoabofecjmaaGreatQ34
import Derived.Deep.CutRange
set_option linter.unusedVariables false
set_option linter.unusedSimpArgs false
set_option maxHeartbeats 16000000
namespace Go.Proofs.YtcjjoabofecjmaaGreat
open Go.RowKit Go.Sort
open Go.Value (int)
theorem any_step {α : Type} {g : α → Bool} {l : List α} {k : Nat} {y : α} (h : l[k]? = some y) : (l.drop k).any g = (g y || (l.drop (k + 1)).any g) := by
 obtain ⟨h1,h2⟩ := List.getElem?_eq_some_iff.1 h
 rw [List.drop_eq_getElem_cons h1,h2];rfl
theorem kinds9 (kd no : Int) (h : inB kd 1 9 = true) : ∃ lo hi lo3 hi3,sizesS kd = (lo,hi) ∧ othersS no kd = (lo3,hi3) ∧ ((kd = 1 ∧ lo = 0 ∧ hi = 0 ∧ lo3 = 0 ∧ hi3 = 0) ∨ (kd = 2 ∧ lo = 0 ∧ hi = 0 ∧ lo3 = 0 ∧ hi3 = 0) ∨ (kd = 3 ∧ lo = 0 ∧ hi = 0 ∧ lo3 = 0 ∧ hi3 = no - 1) ∨ (kd = 4 ∧ lo = 1 ∧ hi = 100 ∧ lo3 = 0 ∧ hi3 = 1) ∨ (kd = 5 ∧ lo = 1 ∧ hi = 100 ∧ lo3 = 0 ∧ hi3 = 0) ∨ (kd = 6 ∧ lo = 0 ∧ hi = 100 ∧ lo3 = 0 ∧ hi3 = 0) ∨ (kd = 7 ∧ lo = 1 ∧ hi = 100 ∧ lo3 = 0 ∧ hi3 = 0) ∨ (kd = 8 ∧ lo = 1 ∧ hi = 100 ∧ lo3 = 1 ∧ hi3 = 1099511627776) ∨ (kd = 9 ∧ lo = 0 ∧ hi = 0 ∧ lo3 = 0 ∧ hi3 = 0)) := by
 have h1 := inB_iff.1 h
 have : kd = 1 ∨ kd = 2 ∨ kd = 3 ∨ kd = 4 ∨ kd = 5 ∨ kd = 6 ∨ kd = 7 ∨ kd = 8 ∨ kd = 9 := by omega
 rcases this with rfl | rfl | rfl | rfl | rfl | rfl | rfl | rfl | rfl <;> exact ⟨_,_,_,_,rfl,rfl,by simp⟩
set_option maxRecDepth 8000 in
theorem robject_any (p : Prg) (i : Nat) (V : Value) (w : World) (hV : RPrg w p V) (hi : i < p.objs.length) :
  Calls Tryz.prog 83 #[V,int .i64 i] w fun e w' => e = .returned (int .i64 (checkObS p i)) ∧ Ext w w' := by
 obtain ⟨Af,nf,cf,Ao,no,co,Av,nv,cv,rfl,_,hO,_⟩ := hV
 have HO := Lib.hid hO
 have hle := hO.le
 have hln := hO.len
 obtain ⟨o,ho⟩ : ∃ o,p.objs[i]? = some o := ⟨_,List.getElem?_eq_getElem hi⟩
 obtain ⟨b,off,rfl,hb,hnm,_,_,_,c0,c1,c2,c3⟩ := hO.ob ho
 have hi1 : (i : Int) < (no : Int) := by omega
 have hi0 : (0 : Int) ≤ (i : Int) := by omega
 have hi64 : (i : Int) ≤ 9223372036854775806 := by omega
 have hwo := wr_sub (x := (no : Int)) (by omega)
 have HS : Hid (checkObS p i = if nmB o.name = false then 5 else if inB o.kind 1 9 = false then 8
  else if inB o.size (sizesS o.kind).1 (sizesS o.kind).2 = false ∨ inB o.other (othersS (no : Int) o.kind).1 (othersS (no : Int) o.kind).2 = false then 2
  else if o.kind = 3 ∧ kindAt p o.other ≠ 1 then 8 else if (p.objs.take i).any (fun x => x.name.toList == o.name.toList) then 6 else 0) := by
  unfold Hid checkObS;rw [ho,hln]
 have HNm := Lib.hid (fun W => refIsName_any o.name W hnm)
 obtain ⟨qn,hqn⟩ : ∃ q,nmB o.name = q := ⟨_,rfl⟩
 rw [hqn] at HNm HS
 obtain ⟨kd,hkd⟩ : ∃ k,o.kind = k := ⟨_,rfl⟩
 rw [hkd] at c1 HS
 have HB1 := Lib.hid (fun W => between_any kd 1 9 W)
 cases qn with
 | false =>
  clear hO hi hln ho hnm hqn hkd
  go_enter Tryz.func83,Tryz.ntmps83
  go_wp2_with (first | (go_at_call 119;refine (HNm.out _).mono ?_;rintro e w' ⟨rfl,rfl⟩))
  go_ret
  exact ⟨ret_int HS.out.symm,xt⟩
 | true =>
 cases hq1 : inB kd 1 9 with
 | false =>
  rw [hq1] at HB1 HS
  clear hO hi hln ho hnm hqn hkd hq1
  go_enter Tryz.func83,Tryz.ntmps83
  go_wp2_with (first | (go_at_call 119;refine (HNm.out _).mono ?_;rintro e w' ⟨rfl,rfl⟩) | (go_at_call 120;refine (HB1.out _).mono ?_;rintro e w' ⟨rfl,rfl⟩))
  go_ret
  exact ⟨ret_int HS.out.symm,xt⟩
 | true =>
 obtain ⟨lo,hi',lo3,hi3,hsz,hot,hk9⟩ := kinds9 kd (no : Int) hq1
 rw [hq1] at HB1 HS
 rw [hsz,hot] at HS
 have HB2 := Lib.hid (fun W => between_any o.size lo hi' W)
 have HB3 := Lib.hid (fun W => between_any o.other lo3 hi3 W)
 have HNo := Lib.hid hln
 cases hq2 : inB o.size lo hi' with
 | false =>
  rw [hq2] at HB2
  have HF : Hid (checkObS p i = 2) := by rw [Hid,HS.out,if_neg (by decide),if_neg (by decide),if_pos (.inl hq2)]
  clear hO hi hln ho hnm hqn hkd hq1 hsz hot hq2 HS HB3
  rcases hk9 with ⟨rfl,rfl,rfl,rfl,rfl⟩ | ⟨rfl,rfl,rfl,rfl,rfl⟩ | ⟨rfl,rfl,rfl,rfl,rfl⟩ | ⟨rfl,rfl,rfl,rfl,rfl⟩ | ⟨rfl,rfl,rfl,rfl,rfl⟩ | ⟨rfl,rfl,rfl,rfl,rfl⟩ | ⟨rfl,rfl,rfl,rfl,rfl⟩ | ⟨rfl,rfl,rfl,rfl,rfl⟩ | ⟨rfl,rfl,rfl,rfl,rfl⟩
  all_goals
   go_enter Tryz.func83,Tryz.ntmps83
   go_wp2_with (first | (go_at_call 119;refine (HNm.out _).mono ?_;rintro e w' ⟨rfl,rfl⟩) | (go_at_call 120;(with_reducible refine (HB1.out _).mono ?_);rintro e w' ⟨rfl,rfl⟩) | (go_at_call 120;(with_reducible refine (HB2.out _).mono ?_);rintro e w' ⟨rfl,rfl⟩))
   go_ret
   exact ⟨ret_int HF.out.symm,xt⟩
 | true =>
 rw [hq2] at HB2
 cases hq3 : inB o.other lo3 hi3 with
 | false =>
  rw [hq3] at HB3
  have HF : Hid (checkObS p i = 2) := by rw [Hid,HS.out,if_neg (by decide),if_neg (by decide),if_pos (.inr hq3)]
  clear hO hi hln ho hnm hqn hkd hq1 hsz hot hq2 hq3 HS
  rcases hk9 with ⟨rfl,rfl,rfl,rfl,rfl⟩ | ⟨rfl,rfl,rfl,rfl,rfl⟩ | ⟨rfl,rfl,rfl,rfl,rfl⟩ | ⟨rfl,rfl,rfl,rfl,rfl⟩ | ⟨rfl,rfl,rfl,rfl,rfl⟩ | ⟨rfl,rfl,rfl,rfl,rfl⟩ | ⟨rfl,rfl,rfl,rfl,rfl⟩ | ⟨rfl,rfl,rfl,rfl,rfl⟩ | ⟨rfl,rfl,rfl,rfl,rfl⟩
  all_goals
   go_enter Tryz.func83,Tryz.ntmps83
   go_wp2_with (first | (go_at_call 119;refine (HNm.out _).mono ?_;rintro e w' ⟨rfl,rfl⟩) | (go_at_call 120;(with_reducible refine (HB1.out _).mono ?_);rintro e w' ⟨rfl,rfl⟩) | (go_at_call 120;(with_reducible refine (HB2.out _).mono ?_);rintro e w' ⟨rfl,rfl⟩) | (go_at_call 120;(with_reducible refine (HB3.out _).mono ?_);rintro e w' ⟨rfl,rfl⟩))
   go_ret
   exact ⟨ret_int HF.out.symm,xt⟩
 | true =>
 have HQ3 := Lib.hid hq3
 rw [hq3] at HB3
 rw [hq2,hq3] at HS
 by_cases h3 : kd = 3
 ·subst h3
  obtain ⟨rfl,rfl,rfl,rfl⟩ : lo = 0 ∧ hi' = 0 ∧ lo3 = 0 ∧ hi3 = (no : Int) - 1 := by omega
  have ho3 := inB_iff.1 hq3
  obtain ⟨kb,hkb⟩ : ∃ kb : Nat,o.other = (kb : Int) := ⟨o.other.toNat,by omega⟩
  obtain ⟨x,hx⟩ : ∃ x,p.objs[kb]? = some x := ⟨_,List.getElem?_eq_getElem (by omega)⟩
  obtain ⟨b3,off3,eA,_,_,_,_,_,_,d1,_,_⟩ := hO.ob hx
  cases eA
  have hka : kindAt p o.other = x.kind := by unfold kindAt;rw [hkb,Int.toNat_natCast,hx]
  rw [hka] at HS
  have hkl : (kb : Int) < (no : Int) := by omega
  have hkl0 : (0 : Int) ≤ (kb : Int) := by omega
  rw [hkb] at c3 HB3
  clear hO hi hln ho hnm hqn hkd hq1 hsz hot hq2 hq3 HQ3 hk9 ho3 hx hka
  by_cases hx1 : x.kind = 1
  ·have hxb : (x.kind != 1) = false := by simp [hx1]
   replace HS : Hid (checkObS p i = if ((p.objs.take i).any (fun x => x.name.toList == o.name.toList)) = true then 6 else 0) := by rw [Hid,HS.out,if_neg (show ¬ ((3 : Int) = 3 ∧ x.kind ≠ 1) from fun h => h.2 hx1)];rfl
   clear hx1
   go_enter Tryz.func83,Tryz.ntmps83
   go_wp2_with (first | (go_at_call 119;refine (HNm.out _).mono ?_;rintro e w' ⟨rfl,rfl⟩) | (go_at_call 120;(with_reducible refine (HB1.out _).mono ?_);rintro e w' ⟨rfl,rfl⟩) | (go_at_call 120;(with_reducible refine (HB2.out _).mono ?_);rintro e w' ⟨rfl,rfl⟩) | (go_at_call 120;(with_reducible refine (HB3.out _).mono ?_);rintro e w' ⟨rfl,rfl⟩))
   refine wp_hid2 ?_
   intro W0 HW0
   have HE : Hid (Ext w W0) := by rw [HW0.out];exact Lib.hid xt
   have e1 : W0.cell? ⟨w.heap.size,1,none⟩ = some (.slice (some ⟨b,off,none⟩) no co) := by rw [HW0.out];simp [go_sem]
   have k0 : W0.cell? ⟨w.heap.size + 1,0,none⟩ = some (.string o.name) := by rw [HW0.out];simp [go_sem]
   have z0 : w.heap.size < W0.heap.size := lt_of_cell e1
   have z1 : w.heap.size + 1 < W0.heap.size := lt_of_cell k0
   clear HW0 c0 c1 c2 c3
   go_loopg [8] i (fun gg s8 wr => ∃ k : Nat,k ≤ i ∧ i - k ≤ gg ∧ s8 = .int .i64 k ∧ Hid (Ext W0 wr) ∧ Hid (((p.objs.take i).any (fun x => x.name.toList == o.name.toList)) = (((p.objs.take i).drop k).any (fun x => x.name.toList == o.name.toList))))
   case atStart => exact ⟨0,Nat.zero_le _,by omega,rfl,Ext.refl _,rfl⟩
   case round =>
    obtain ⟨k,hk,hg,rfl,HW,HI⟩ := hrel
    have hW := HW.out
    replace e1 := hW.cell e1
    replace k0 := hW.cell k0
    have hsz := hW.size
    by_cases hlt : k < i
    ·have hltz : (k : Int) < (i : Int) := by omega
     have hltn : (k : Int) < (no : Int) := by omega
     have hk0 : (0 : Int) ≤ (k : Int) := by omega
     obtain ⟨y,hy⟩ : ∃ y,p.objs[k]? = some y := ⟨_,List.getElem?_eq_getElem (by have := HNo.out;omega)⟩
     obtain ⟨b2,off2,eA,_,_,_,_,_,d0,_,_,_⟩ := HO.out.ob hy
     cases eA
     replace d0 := hW.cell (HE.out.cell d0)
     have zb := lt_of_cell d0
     have HD := Lib.hid (any_step (g := fun x : Ob => x.name.toList == o.name.toList) (l := p.objs.take i) (k := k) (y := y) (by rw [List.getElem?_take,if_pos hlt];exact hy))
     obtain ⟨q,hq⟩ : ∃ q,(y.name.toList == o.name.toList) = q := ⟨_,rfl⟩
     rw [hq] at HD
     have hqn : (y.name.toList == o.name.toList) = q := hq
     clear hy hq
     cases q with
     | true =>
      go_wp2
      (refine wp_region_quiet_below (by kernel_rfl) (by kernel_rfl) ?_;(repeat (go_big_quiet_step (fail)));refine wpQuiet_nil fun w1 h1 => ?_;obtain ⟨hc,hf,hs,he⟩ := eu (w := wr) h1 xt;clear h1;(try simp only [sA,sC,sD,sN] at hs))
      go_wp2
      go_ret
      exact ⟨ret_int (by rw [HS.out,HI.out,HD.out];rfl),(HE.out.trans HW.out).trans he⟩
     | false =>
      go_wp2
      (refine wp_region_quiet_below (by kernel_rfl) (by kernel_rfl) ?_;(repeat (go_big_quiet_step (fail)));refine wpQuiet_nil fun w1 h1 => ?_;obtain ⟨hc,hf,hs,he⟩ := eu (w := wr) h1 xt;clear h1;(try simp only [sA,sC,sD,sN] at hs))
      go_wp2
      go_roundg (i - (k + 1))
      case measure => omega
      case rel => exact ⟨k + 1,by omega,by omega,by go_num,Ext.trans HW.out he,by rw [Hid,HI.out,HD.out];rfl⟩
    ·have hltz : ¬ (k : Int) < (i : Int) := by omega
     have hnil : (p.objs.take i).drop k = [] := List.drop_eq_nil_of_le (by rw [List.length_take];omega)
     have HF : Hid (checkObS p i = 0) := by rw [Hid,HS.out,HI.out,hnil];rfl
     clear hnil
     go_wp2
     go_ret
     exact ⟨ret_int HF.out.symm,HE.out.trans HW.out⟩
  ·have hxb : (x.kind != 1) = true := by simpa using hx1
   have HF : Hid (checkObS p i = 8) := by rw [Hid,HS.out];simp [hx1]
   clear hx1
   go_enter Tryz.func83,Tryz.ntmps83
   go_wp2_with (first | (go_at_call 119;refine (HNm.out _).mono ?_;rintro e w' ⟨rfl,rfl⟩) | (go_at_call 120;(with_reducible refine (HB1.out _).mono ?_);rintro e w' ⟨rfl,rfl⟩) | (go_at_call 120;(with_reducible refine (HB2.out _).mono ?_);rintro e w' ⟨rfl,rfl⟩) | (go_at_call 120;(with_reducible refine (HB3.out _).mono ?_);rintro e w' ⟨rfl,rfl⟩))
   go_ret
   exact ⟨ret_int HF.out.symm,xt⟩
 ·replace HS : Hid (checkObS p i = if ((p.objs.take i).any (fun x => x.name.toList == o.name.toList)) = true then 6 else 0) := by rw [Hid,HS.out];simp [h3]
  clear hO hi hln ho hnm hqn hkd hq1 hsz hot hq2 hq3 HQ3
  rcases hk9 with ⟨rfl,rfl,rfl,rfl,rfl⟩ | ⟨rfl,rfl,rfl,rfl,rfl⟩ | ⟨rfl,rfl,rfl,rfl,rfl⟩ | ⟨rfl,rfl,rfl,rfl,rfl⟩ | ⟨rfl,rfl,rfl,rfl,rfl⟩ | ⟨rfl,rfl,rfl,rfl,rfl⟩ | ⟨rfl,rfl,rfl,rfl,rfl⟩ | ⟨rfl,rfl,rfl,rfl,rfl⟩ | ⟨rfl,rfl,rfl,rfl,rfl⟩
  case inr.inr.inl => exact absurd rfl h3
  all_goals
   go_enter Tryz.func83,Tryz.ntmps83
   go_wp2_with (first | (go_at_call 119;refine (HNm.out _).mono ?_;rintro e w' ⟨rfl,rfl⟩) | (go_at_call 120;(with_reducible refine (HB1.out _).mono ?_);rintro e w' ⟨rfl,rfl⟩) | (go_at_call 120;(with_reducible refine (HB2.out _).mono ?_);rintro e w' ⟨rfl,rfl⟩) | (go_at_call 120;(with_reducible refine (HB3.out _).mono ?_);rintro e w' ⟨rfl,rfl⟩))
   refine wp_hid2 ?_
   intro W0 HW0
   have HE : Hid (Ext w W0) := by rw [HW0.out];exact Lib.hid xt
   have e1 : W0.cell? ⟨w.heap.size,1,none⟩ = some (.slice (some ⟨b,off,none⟩) no co) := by rw [HW0.out];simp [go_sem]
   have k0 : W0.cell? ⟨w.heap.size + 1,0,none⟩ = some (.string o.name) := by rw [HW0.out];simp [go_sem]
   have z0 : w.heap.size < W0.heap.size := lt_of_cell e1
   have z1 : w.heap.size + 1 < W0.heap.size := lt_of_cell k0
   clear HW0 c0 c1 c2 c3
   go_loopg [8] i (fun gg s8 wr => ∃ k : Nat,k ≤ i ∧ i - k ≤ gg ∧ s8 = .int .i64 k ∧ Hid (Ext W0 wr) ∧ Hid (((p.objs.take i).any (fun x => x.name.toList == o.name.toList)) = (((p.objs.take i).drop k).any (fun x => x.name.toList == o.name.toList))))
   case atStart => exact ⟨0,Nat.zero_le _,by omega,rfl,Ext.refl _,rfl⟩
   case round =>
    obtain ⟨k,hk,hg,rfl,HW,HI⟩ := hrel
    have hW := HW.out
    replace e1 := hW.cell e1
    replace k0 := hW.cell k0
    have hsz := hW.size
    by_cases hlt : k < i
    ·have hltz : (k : Int) < (i : Int) := by omega
     have hltn : (k : Int) < (no : Int) := by omega
     have hk0 : (0 : Int) ≤ (k : Int) := by omega
     obtain ⟨y,hy⟩ : ∃ y,p.objs[k]? = some y := ⟨_,List.getElem?_eq_getElem (by have := HNo.out;omega)⟩
     obtain ⟨b2,off2,eA,_,_,_,_,_,d0,_,_,_⟩ := HO.out.ob hy
     cases eA
     replace d0 := hW.cell (HE.out.cell d0)
     have zb := lt_of_cell d0
     have HD := Lib.hid (any_step (g := fun x : Ob => x.name.toList == o.name.toList) (l := p.objs.take i) (k := k) (y := y) (by rw [List.getElem?_take,if_pos hlt];exact hy))
     obtain ⟨q,hq⟩ : ∃ q,(y.name.toList == o.name.toList) = q := ⟨_,rfl⟩
     rw [hq] at HD
     have hqn : (y.name.toList == o.name.toList) = q := hq
     clear hy hq
     cases q with
     | true =>
      go_wp2
      (refine wp_region_quiet_below (by kernel_rfl) (by kernel_rfl) ?_;(repeat (go_big_quiet_step (fail)));refine wpQuiet_nil fun w1 h1 => ?_;obtain ⟨hc,hf,hs,he⟩ := eu (w := wr) h1 xt;clear h1;(try simp only [sA,sC,sD,sN] at hs))
      go_wp2
      go_ret
      exact ⟨ret_int (by rw [HS.out,HI.out,HD.out];rfl),(HE.out.trans HW.out).trans he⟩
     | false =>
      go_wp2
      (refine wp_region_quiet_below (by kernel_rfl) (by kernel_rfl) ?_;(repeat (go_big_quiet_step (fail)));refine wpQuiet_nil fun w1 h1 => ?_;obtain ⟨hc,hf,hs,he⟩ := eu (w := wr) h1 xt;clear h1;(try simp only [sA,sC,sD,sN] at hs))
      go_wp2
      go_roundg (i - (k + 1))
      case measure => omega
      case rel => exact ⟨k + 1,by omega,by omega,by go_num,Ext.trans HW.out he,by rw [Hid,HI.out,HD.out];rfl⟩
    ·have hltz : ¬ (k : Int) < (i : Int) := by omega
     have hnil : (p.objs.take i).drop k = [] := List.drop_eq_nil_of_le (by rw [List.length_take];omega)
     have HF : Hid (checkObS p i = 0) := by rw [Hid,HS.out,HI.out,hnil];rfl
     clear hnil
     go_wp2
     go_ret
     exact ⟨ret_int HF.out.symm,HE.out.trans HW.out⟩
end Go.Proofs.YtcjjoabofecjmaaGreat

