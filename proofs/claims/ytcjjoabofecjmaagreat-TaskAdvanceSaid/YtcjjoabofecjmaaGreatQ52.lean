/- A part of the proof: Advance of the reference of layer 28. -/
import Derived.Test.YtcjjoabofecjmaaGreatQ49
import Derived.Test.YtcjjoabofecjmaaGreatQ51
set_option linter.unusedVariables false
set_option linter.unusedSimpArgs false
set_option maxHeartbeats 16000000
namespace Go.Proofs.YtcjjoabofecjmaaGreat
open Go.RowKit Go.Sort
open Go.Value (int)
def bsOf (w W : World) (h : w.heap.size + 1 + 1 + 1 < W.heap.size) : Bs := ⟨W,[w.heap.size + 1,w.heap.size + 1 + 1,w.heap.size + 1 + 1 + 1],fun y hy => by simp at hy;omega⟩
theorem BExt.setS {b : Bs} {W : World} (h : BExt b W) {y : Nat} (hy : y ∈ b.S ∨ b.heap.size ≤ y) (o : Nat) (vs : List Value) : BExt b (W.setCells y o vs) := by
 have hg := setCells_grown y vs o W
 refine ⟨hg.os.trans h.os,hg.tape.trans h.tape,hg.output.trans h.output,Nat.le_trans h.size hg.size,fun k hk hs => ?_⟩
 rw [hg.block k (Nat.lt_of_lt_of_le hk h.size) (fun e => by
  injection e with e
  subst e
  rcases hy with hy | hy
  ·exact hs hy
  ·omega)]
 exact h.block k hk hs
theorem btsk_store {w W W2 : World} {h : w.heap.size + 1 + 1 + 1 < W.heap.size} {h2 : w.heap.size + 1 + 1 + 1 < W2.heap.size} {t : Tsk} {V : Value} (hT : BTsk (bsOf w W h) t V) (hW : BExt (bsOf w W h) W2) : BTsk (bsOf w W2 h2) t V := fun W' k =>
 hT W' ⟨k.os.trans hW.os,k.tape.trans hW.tape,k.output.trans hW.output,Nat.le_trans hW.size k.size,fun i hi hs => (k.block i (Nat.lt_of_lt_of_le hi hW.size) hs).trans (hW.block i hi hs)⟩
theorem btsk_call {w wr Wc w3 W2 : World} {h : w.heap.size + 1 + 1 + 1 < wr.heap.size} {h2 : w.heap.size + 1 + 1 + 1 < W2.heap.size} {t : Tsk} {V : Value} {rb : Nat} {vs : List Value} (hR : ∀ W',BExt (bsOf w wr h) W' → Keep Wc w3 W' → BRd (bsOf w wr h) W' t V) (h1 : Ext wr Wc) (h3 : Ext Wc w3) (hr : wr.heap.size ≤ rb) (hr2 : rb < Wc.heap.size) (hW : W2 = w3.setCells rb 0 vs) :
  BTsk (bsOf w W2 h2) t V := fun W' k => by
 have hX : Ext wr W2 := by rw [hW];exact (h1.trans h3).setCells hr 0 _
 have hs3 : w3.heap.size ≤ W2.heap.size := by rw [hW];exact (setCells_grown rb vs 0 w3).size
 refine hR W' ⟨k.os.trans hX.os,k.tape.trans hX.tape,k.output.trans hX.output,Nat.le_trans hX.size k.size,fun i hi hs => (k.block i (Nat.lt_of_lt_of_le hi hX.size) hs).trans (hX.block i hi)⟩ ⟨Nat.le_trans hs3 k.size,fun i hi1 hi2 => ?_⟩
 have hc1 := h1.size
 rw [k.block i (Nat.lt_of_lt_of_le hi2 hs3) (fun hs => by
  have : i = w.heap.size + 1 ∨ i = w.heap.size + 1 + 1 ∨ i = w.heap.size + 1 + 1 + 1 := by simpa [bsOf] using hs
  omega)]
 show W2.heap[i]? = _
 rw [hW]
 exact (setCells_grown rb vs 0 w3).block i hi2 (fun e => by injection e with e;omega)
theorem range_left {w : World} {b o : Nat} {cs ds : List Value} (h : w.rangeAt b o (cs ++ ds)) : w.rangeAt b o cs := fun j v hj => h j v (by rw [List.getElem?_append_left (List.getElem?_eq_some_iff.1 hj).1];exact hj)
theorem range_right {w : World} {b o : Nat} {cs ds : List Value} (h : w.rangeAt b o (cs ++ ds)) : w.rangeAt b (o + cs.length) ds := fun j v hj => by
 have := h (cs.length + j) v (by rw [List.getElem?_append_right (by omega)];simpa using hj)
 rw [Nat.add_assoc];exact this
set_option maxRecDepth 4000 in
theorem rAdvance_bad (p : Prg) (t : Tsk) (VP VT : Value) (w : World) (hP : RPrg w p VP) (hT : RTsk w t VT) (hc : tcheckS p t ≠ 0) : Calls Tryz.prog 25 #[VP,VT] w (AdvPost p t w) := by
 have HC := Lib.hid (fun W h => rtcheck_any p t VP VT W (hP.mono h) (hT.mono h))
 obtain ⟨Af,nf,cf,Ao,no,co,Av,nv,cv,rfl,hF,hO,hVr,hcf,hco,hcv⟩ := hP
 obtain ⟨Bf,mf,df,Bb,mb,db,rfl,_,_,_,_,_,_,_,_,_,_,hF2,hB2,hdf,hdb⟩ := hT
 clear hO hVr hcf hco hcv hB2 hF hF2
 have HR : Hid (advanceS p t = (zeroTsk,goOn,1)) := by unfold Hid advanceS;rw [if_pos hc]
 have h1 : tcheckS p t = 1 := by
  unfold tcheckS at hc ⊢
  split
  ·rfl
  ·rename_i h1
   rw [if_neg h1] at hc
   split
   ·rename_i h2
    rw [if_pos h2] at hc
    split
    ·rename_i h3;rw [if_pos h3] at hc;exact absurd rfl hc
    ·rfl
   ·rename_i h2
    rw [if_neg h2] at hc
    split
    ·rename_i h3;rw [if_pos h3] at hc;exact absurd rfl hc
    ·rfl
 rw [h1] at HC
 clear hc h1
 unfold AdvPost
 go_enter Tryz.func25,Tryz.ntmps25
 go_wp2_with (first | ((first | (with_reducible refine jl 32 ?_) | (with_reducible refine il 32 ?_));refine ldm Tryz.underlying32 rfl rfl rfl (by exact rg) rfl (by exact infoTsk) ?_;dsimp only [dZ,dS]) | ((with_reducible refine ik 32 ?_);refine stm rfl rfl rfl rfl (by exact tr) infoTsk (all_oneCell_toArray (by simp [Value.oneCell'])) ?_;(try dsimp only [Act.put])) | ((with_reducible refine ik 49 ?_);refine stm rfl rfl rfl rfl (by exact tr) infoStop (all_oneCell_toArray (by simp [Value.oneCell'])) ?_;(try dsimp only [Act.put])) | (go_at_call 18;refine (HC.out _ xt).mono ?_;rintro e w1 ⟨rfl,hb⟩;have T1 := there_ext (b := w.heap.size + 1 + 1) (o := 0) (n := 14) (by exact tr) hb;have U1 := there_ext (b := w.heap.size + 1 + 1 + 1) (o := 0) (n := 3) (by exact tr) hb;have he0 := Lib.hid hb;obtain ⟨hc,hf,hs,he⟩ := Ext.use (w := w) hb xt;clear hb;(try simp only [World.size_alloc] at hs);have hz1 : w.heap.size + 1 + 1 + 1 < w1.heap.size := (by omega)))
 refine ret_range3 (b := w.heap.size + 1 + 1) (b2 := w.heap.size + 1 + 1 + 1) Tryz.results25 rfl rfl rfl rfl ?hl ?hl2 (ranges_two (by omega) ?t1 ?t2).1 (ranges_two (by omega) ?t3 ?t4).2 ?fin
 case hl => rfl
 case hl2 => rfl
 case t1 => exact tr
 case t2 => exact tr
 case t3 => exact tr
 case t4 => exact tr
 rw [HR.out]
 exact ⟨_,rfl,zero_reads _,xts⟩
set_option maxRecDepth 4000 in
theorem rAdvance_state (p : Prg) (t : Tsk) (VP VT : Value) (w : World) (hP : RPrg w p VP) (hT : RTsk w t VT) (hc : tcheckS p t = 0) (hst : t.status ≠ 1) : Calls Tryz.prog 25 #[VP,VT] w (AdvPost p t w) := by
 have HC := Lib.hid (fun W h => rtcheck_any p t VP VT W (hP.mono h) (hT.mono h))
 rw [hc] at HC
 obtain ⟨Af,nf,cf,Ao,no,co,Av,nv,cv,rfl,hF,hO,hVr,hcf,hco,hcv⟩ := hP
 obtain ⟨Bf,mf,df,Bb,mb,db,rfl,_,_,_,_,_,_,_,_,_,_,hF2,hB2,hdf,hdb⟩ := hT
 clear hO hVr hcf hco hcv hB2 hF hF2
 have HR : Hid (advanceS p t = (zeroTsk,goOn,17)) := by unfold Hid advanceS;rw [if_neg (by simpa using hc),if_pos hst]
 have hcb : (t.status != 1) = true := by simpa using hst
 clear hc hst
 unfold AdvPost
 go_enter Tryz.func25,Tryz.ntmps25
 go_wp2_with (first | ((first | (with_reducible refine jl 32 ?_) | (with_reducible refine il 32 ?_));refine ldm Tryz.underlying32 rfl rfl rfl (by exact rg) rfl (by exact infoTsk) ?_;dsimp only [dZ,dS]) | ((with_reducible refine ik 32 ?_);refine stm rfl rfl rfl rfl (by exact tr) infoTsk (all_oneCell_toArray (by simp [Value.oneCell'])) ?_;(try dsimp only [Act.put])) | ((with_reducible refine ik 49 ?_);refine stm rfl rfl rfl rfl (by exact tr) infoStop (all_oneCell_toArray (by simp [Value.oneCell'])) ?_;(try dsimp only [Act.put])) | (go_at_call 18;refine (HC.out _ xt).mono ?_;rintro e w1 ⟨rfl,hb⟩;have T1 := there_ext (b := w.heap.size + 1 + 1) (o := 0) (n := 14) (by exact tr) hb;have U1 := there_ext (b := w.heap.size + 1 + 1 + 1) (o := 0) (n := 3) (by exact tr) hb;have he0 := Lib.hid hb;obtain ⟨hc,hf,hs,he⟩ := Ext.use (w := w) hb xt;clear hb;(try simp only [World.size_alloc] at hs);have hz1 : w.heap.size + 1 + 1 + 1 < w1.heap.size := (by omega)))
 refine ret_range3 (b := w.heap.size + 1 + 1) (b2 := w.heap.size + 1 + 1 + 1) Tryz.results25 rfl rfl rfl rfl ?hl ?hl2 (ranges_two (by omega) ?t1 ?t2).1 (ranges_two (by omega) ?t3 ?t4).2 ?fin
 case hl => rfl
 case hl2 => rfl
 case t1 => exact tr
 case t2 => exact tr
 case t3 => exact tr
 case t4 => exact tr
 rw [HR.out]
 exact ⟨_,rfl,zero_reads _,xts⟩
set_option maxRecDepth 4000 in
theorem rAdvance_unwinding (p : Prg) (t : Tsk) (VP VT : Value) (w : World) (hP : RPrg w p VP) (hT : RTsk w t VT) (hc : tcheckS p t = 0) (hst : t.status = 1) (hu : t.unw = true) (hi : inHand t = false) : Calls Tryz.prog 25 #[VP,VT] w (AdvPost p t w) := by
 have HC := Lib.hid (fun W h => rtcheck_any p t VP VT W (hP.mono h) (hT.mono h))
 rw [hc] at HC
 have HH := Lib.hid (fun W h => inHandler_any t VT W (hT.mono h))
 rw [hi] at HH
 have HT := Lib.hid hT
 have HR : Hid (advanceS p t = (t,⟨5,0,0⟩,0)) := by unfold Hid advanceS;rw [if_neg (by simpa using hc),if_neg (by simpa using hst),if_pos ⟨hu,hi⟩]
 obtain ⟨Af,nf,cf,Ao,no,co,Av,nv,cv,rfl,hF,hO,hVr,hcf,hco,hcv⟩ := hP
 obtain ⟨Bf,mf,df,Bb,mb,db,rfl,_,_,_,_,_,_,_,_,_,_,hF2,hB2,hdf,hdb⟩ := hT
 clear hO hVr hcf hco hcv hB2 hF hF2
 rw [hu,hst] at HT HC HH ⊢
 clear hc hst hu hi
 unfold AdvPost
 go_enter Tryz.func25,Tryz.ntmps25
 go_wp2_with (first | ((first | (with_reducible refine jl 32 ?_) | (with_reducible refine il 32 ?_));refine ldm Tryz.underlying32 rfl rfl rfl (by exact rg) rfl (by exact infoTsk) ?_;dsimp only [dZ,dS]) | ((with_reducible refine ig 32 ?_);refine ldg Tryz.underlying32 (by rfl) rfl rfl (by exact rg) rfl (by exact infoTsk) ?_;dsimp only [dZ,dS]) | ((with_reducible refine ik 32 ?_);refine stm rfl rfl rfl rfl (by exact tr) infoTsk (all_oneCell_toArray (by simp [Value.oneCell'])) ?_;(try dsimp only [Act.put])) | ((with_reducible refine ik 49 ?_);refine stm rfl rfl rfl rfl (by exact tr) infoStop (all_oneCell_toArray (by simp [Value.oneCell'])) ?_;(try dsimp only [Act.put])) | (go_at_call 18;refine (HC.out _ xt).mono ?_;rintro e w1 ⟨rfl,hb⟩;have T1 := there_ext (b := w.heap.size + 1 + 1) (o := 0) (n := 14) (by exact tr) hb;have U1 := there_ext (b := w.heap.size + 1 + 1 + 1) (o := 0) (n := 3) (by exact tr) hb;have R1 := range_ext (b := w.heap.size + 1) (o := 0) (by exact rg) hb;have he0 := Lib.hid hb;obtain ⟨hc,hf,hs,he⟩ := Ext.use (w := w) hb xt;clear hb;(try simp only [World.size_alloc] at hs);have hz1 : w.heap.size + 1 + 1 + 1 < w1.heap.size := (by omega)) | (go_at_call 54;refine (HH.out _ xt).mono ?_;rintro e w2 ⟨rfl,hb⟩;have T2 := there_ext T1 hb;have U2 := there_ext U1 hb;have R2 := range_ext R1 hb;have he0 := Lib.hid hb;obtain ⟨hc2,hf2,hs2,he2⟩ := Ext.use (w := w) hb xt;clear hb))
 refine ret_range3 (b := w.heap.size + 1 + 1) (b2 := w.heap.size + 1 + 1 + 1) Tryz.results25 rfl rfl rfl rfl ?hl ?hl2 (ranges_two (by omega) ?t1 ?t2).1 (ranges_two (by omega) ?t3 ?t4).2 ?fin
 case hl => rfl
 case hl2 => rfl
 case t1 => exact tr
 case t2 => exact tr
 case t3 => exact tr
 case t4 => exact tr
 rw [HR.out]
 exact ⟨_,rfl,HT.out.mono xts,xts⟩
end Go.Proofs.YtcjjoabofecjmaaGreat

