/- A part of the proof: give of the reference of layer 28; give of the reference of . -/
import Derived.Test.YtcjjoabofecjmaaGreatQ43
set_option linter.unusedVariables false
set_option linter.unusedSimpArgs false
set_option maxHeartbeats 16000000
namespace Go.Proofs.YtcjjoabofecjmaaGreat
open Go.RowKit Go.Sort
open Go.Value (int)
theorem Ownd.cut {w0 : Bs} {w : World} {b : Nat} {W : World} {t : Tsk} {VB : Value} {rs hs : List Value} {gs : List (List Value)} {gF cF m : Nat} (h : Ownd w0 w b W t (.slice (some ⟨gF,0,none⟩) t.frames.length cF) VB rs hs gs) (hc : Cold W b) (hb : w.heap.size ≤ b) (hm : m ≤ t.frames.length) :
  Ownd w0 w b (W.setCell ⟨b,7,none⟩ (.slice (some ⟨gF,0,none⟩) m cF)) { t with frames := t.frames.take m } (.slice (some ⟨gF,0,none⟩) m cF) VB (rs.take m) hs gs := by
 have hG := grown_setCell W ⟨b,7,none⟩ (.slice (some ⟨gF,0,none⟩) m cF)
 have he0 := h.e0.size
 refine ⟨?_,fun L hL => ?_, ?_,there_set h.thr,h.ext.setCell (show w.heap.size ≤ b from hb) _,h.e0⟩
 ·have h1 := h.fr.kept hG (row_cold h.fr.row (by decide) hc) (fun y hy => by obtain ⟨m,xs,hh⟩ := fr_rows h.fr hy;exact row_cold hh (by decide) hc)
  exact h1.take hm
 ·have hB1 := h.bl (.slice (some ⟨b,0,none⟩) 0 0 :: L) (fun r hr y hy => by
   rcases List.mem_cons.1 hr with rfl | hr
   ·simp only [Value.ownBlock,Option.some.injEq] at hy;exact .inl (by omega)
   ·exact hL r hr y hy)
  exact (hB1.wrote hG (row_cold hB1.row (by decide) hc) (fun y hy => by obtain ⟨m,xs,hh⟩ := bl_rows hB1 hy;exact row_cold hh (by decide) hc) List.mem_cons_self rfl).list fun r' hr' => ⟨r',List.mem_cons_of_mem _ hr',rfl⟩
 ·exact range_same (k := 7) (u := .slice (some ⟨gF,0,none⟩) m cF) h.box
theorem siz_take {t : Tsk} (hz : Siz t) (m : Nat) : Siz { t with frames := t.frames.take m } :=
 ⟨by show (List.take _ _).length ≤ 1000;rw [List.length_take];have := hz.1;omega,hz.2.1,fun f hf => hz.2.2.1 f (List.mem_of_mem_take hf),hz.2.2.2⟩
set_option maxRecDepth 4000 in
theorem give_hand (t : Tsk) (f : Frm) (VF VB : Value) (v : Int) (w0 : Bs) (w : World) (hT : BTsk w0 t (.agg (tskL t VF VB).toArray)) (h0 : BExt w0 w) (hf : topF t = some f) (hz : Siz t) (hm : 0 ≤ t.mask ∧ t.mask ≤ 1000) (hcl : f.cleanup = true) :
  Calls Tryz.prog 69 #[.agg (tskL t VF VB).toArray,int .i64 v] w (ResPost (giveS t f v) w0 w) := by
 have hwm : wr64 (t.mask - 1) = t.mask - 1 := by unfold wr64 wrap64;omega
 have HS : Hid (giveS t f v = ({ t with frames := t.frames.take (t.frames.length - 1),mask := t.mask - 1 },⟨4,0,0⟩)) := by unfold Hid giveS;rw [if_pos hcl,hwm]
 clear hwm
 have hwm : wrap64 (t.mask - 1) = t.mask - 1 := by unfold wrap64;omega
 obtain ⟨Af,cf,Ab,cb,rfl,rfl,hFF,_,_,_⟩ := (hT.mono h0).two
 have HT := Lib.hid hT
 have HI := Lib.hid (hT.mono h0).inr
 have H0 := Lib.hid h0
 have HSZ := Lib.hid hz
 have hFk : t.frames[t.frames.length - 1]? = some f := hf
 have hpos : 0 < t.frames.length := by
  have := (List.getElem?_eq_some_iff.1 hFk).1;omega
 have hle : t.frames.length ≤ 9223372036854775807 := by have := hz.1;omega
 obtain ⟨bf,of,Ar,nr,cr,rfl,hlf,_,_,_,_,_,_,_,_,d4⟩ := hFF.frm hFk
 rw [hcl] at d4
 have dd := d4
 have zf := lt_of_cell dd
 have hsN : IntKind.i64.wrap ((t.frames.length : Int) - 1) = ((t.frames.length - 1 : Nat) : Int) := by rw [IntWalk.i64_in _ (by omega)];omega
 have hs1N : ((t.frames.length - 1 : Nat) : Int) < (t.frames.length : Int) := by omega
 have hs2N : (0 : Int) ≤ ((t.frames.length - 1 : Nat) : Int) := by omega
 unfold Siz at hz
 have HZ := Lib.hid hz
 rw [HS.out]
 clear hT hf hz h0 hFF hFk d4 hlf HS hcl
 unfold tskL at HT ⊢
 go_enter Tryz.func69,Tryz.ntmps69
 go_upto_region 4 with (first | ((first | (with_reducible refine jl 32 ?_) | (with_reducible refine il 32 ?_));refine ldm Tryz.underlying32 rfl rfl rfl (by exact rg) rfl (by exact infoTsk) ?_;dsimp only [dZ,dS]) | ((with_reducible refine ik 32 ?_);refine stm rfl rfl rfl rfl (by exact tr) infoTsk (all_oneCell_toArray (by simp [Value.oneCell'])) ?_;(try dsimp only [Act.put])) | (go_at_call 73;(with_reducible refine (ownB_any t _ w0 _ HT.out (H0.out.trans xt) HZ.out.1 HZ.out.2.1 HZ.out.2.2.1 HZ.out.2.2.2).mono ?_);rintro e w3 ⟨VF,VB,rs,hs,gs,rfl,hOF,hOB,hb⟩;have U3 := there_ext (b := w.heap.size + 1) (o := 0) (n := 17) (by exact tr) hb;have R3 := range_ext (b := w.heap.size) (o := 0) (by exact rg) hb;have HX3 : Hid (Ext w w3) := Ext.trans xt hb;have HCD : Hid (Cold w3 (w.heap.size + 1)) := (cold_new (b := w.heap.size + 1) (by simp) rfl).ext hb;have HOF := Lib.hid (hOF.base (B' := w.heap.size) (by simp;omega));have HOB := Lib.hid (fun L hL => (hOB L hL).base (B' := w.heap.size) (by simp;omega));have hz3 : w.heap.size + 1 + 1 ≤ w3.heap.size := (by have := hb.size;simpa using this);obtain ⟨gF,cF,rfl,hgF⟩ := own_form HOF.out.row hpos;obtain ⟨AB,cB,rfl,hcB,_⟩ := ownsRow_shape (HOB.out [] (blow_nil _)).row;clear hOF hOB hb))
 refine wp_hid2 ?_
 intro W4 HW4
 obtain ⟨HO,hX4⟩ := ownd_new H0.out HOF.out HOB.out HX3.out rfl HW4.out
 have U4 := there_ext U3 hX4
 have hc4 : Cold W4 (w.heap.size + 1) := (HCD.out).ext hX4
 have hb4 : Cold W4 w3.heap.size := by rw [HW4.out];exact cold_sets _ (Cold.alloc rfl) _ _
 have hcF2 : ((t.frames.length - 1 : Nat) : Int) ≤ (cF : Int) := by
  obtain ⟨_,_,e9,h9,_⟩ := ownsRow_shape HO.fr.row
  injection e9 with _ _ e9
  omega
 have b7 : W4.cell? ⟨w3.heap.size,7,none⟩ = some (.slice (some ⟨gF,0,none⟩) t.frames.length cF) := HO.box 7 _ rfl
 have b9 : W4.cell? ⟨w3.heap.size,9,none⟩ = some (int .i64 t.mask) := HO.box 9 _ rfl
 have f7 := (HO.thr 7 (by omega)).2
 have f9 := (HO.thr 9 (by omega)).2
 have zB := lt_of_cell b7
 have HO4 := Lib.hid HO
 clear HW4 hX4 U3 R3 HO dd
 go_upto_region 6 with fail
 refine wp_hid2 ?_
 intro W6 HW6
 have HO6 : Hid (Ownd w0 w w3.heap.size W6 { t with frames := t.frames.take (t.frames.length - 1),mask := t.mask - 1 } (.slice (some ⟨gF,0,none⟩) (t.frames.length - 1) cF) (.slice AB t.blocks.length cB) (rs.take (t.frames.length - 1)) hs gs) := by
  rw [Hid,HW6.out]
  exact (HO4.out.cut hb4 (by omega) (Nat.sub_le _ 1)).put (u := { t with frames := t.frames.take (t.frames.length - 1),mask := t.mask - 1 }) (hb4.setCell _ _) (by omega) 9 (int .i64 (t.mask - 1)) rfl rfl rfl
 have U6 : W6.there (w.heap.size + 1) 0 17 := by rw [HW6.out];exact there_set (there_set U4)
 have hc6 : Cold W6 (w.heap.size + 1) := by rw [HW6.out];exact (hc4.setCell _ _).setCell _ _
 have R6 : W6.rangeAt w3.heap.size 0 [int .i64 t.fn,int .i64 t.scope,int .i64 t.prio,int .i64 t.status,int .i64 t.wkind,int .i64 t.windex,.bool t.wagain,.slice (some ⟨gF,0,none⟩) (t.frames.length - 1) cF,.slice AB t.blocks.length cB,int .i64 (t.mask - 1),.bool t.unw,int .i64 t.level,int .i64 t.reason,int .i64 t.result] := HO6.out.box
 clear HW6 HO4 U4 hc4 hb4 b7 b9 f7 f9
 go_wp2_with (first | ((first | (with_reducible refine jl 32 ?_) | (with_reducible refine il 32 ?_));refine ldm Tryz.underlying32 rfl rfl rfl (by exact rg) rfl (by exact infoTsk) ?_;dsimp only [dZ,dS]) | ((first | (with_reducible refine jk 102 ?_) | (with_reducible refine ik 102 ?_));refine stm rfl rfl rfl rfl (by exact tr) infoRes (all_oneCell_toArray (by simp [Value.oneCell'])) ?_;(try dsimp only [Act.put])))
 refine ret_rangeR (b := w.heap.size + 1) Tryz.results69 rfl rfl ?hl (World.rangeAt_setCells_same _ _ 0 _ ?ht) ?hfin
 case hl => rfl
 case ht => exact U6
 case hfin =>
  have := HO6.out.fin (s := ⟨4,0,0⟩) (siz_take HSZ.out _) ⟨HI.out.1,HI.out.2.1,HI.out.2.2.1,HI.out.2.2.2.1,HI.out.2.2.2.2.1,HI.out.2.2.2.2.2.1,⟨by show _ ≤ t.mask - 1;omega,by show t.mask - 1 ≤ _;omega⟩,HI.out.2.2.2.2.2.2.2⟩ (by omega) hc6
  exact this _
theorem Ownd.regAt {w0 : Bs} {w : World} {b : Nat} {W : World} {t : Tsk} {VF VB : Value} {rs hs : List Value} {gs : List (List Value)} (h : Ownd w0 w b W t VF VB rs hs gs) {i : Nat} {f : Frm} {k : Nat} {v : Value} (hf : t.frames[i]? = some f) (hv : rs[i]? = some v) (hk : k < f.regs.length) (hvb : v.ownBlock ≠ some b) :
  ∃ g c,v = .slice (some ⟨g,0,none⟩) f.regs.length c ∧ w.heap.size ≤ g ∧ W.frozen? ⟨g,k,none⟩ = false ∧ (∃ u,W.cell? ⟨g,k,none⟩ = some u) ∧
   ∀ x : Int,InR x → Ownd w0 w b (W.setCell ⟨g,k,none⟩ (int .i64 x)) { t with frames := t.frames.set i { f with regs := f.regs.set k x } } VF VB rs hs gs := by
 obtain ⟨g,c,rfl,hB,fz,hc,hset⟩ := h.fr.set_reg (i := i) hf hv hk
 have hgb : ¬ g = b := fun e => hvb (by rw [← e];rfl)
 refine ⟨g,c,rfl,hB,fz,hc,fun x hx => ?_⟩
 obtain ⟨h1,h2⟩ := hset x hx
 refine ⟨h1,fun L hL => ?_,range_other h.box hgb,there_set h.thr,h.ext.setCell (show w.heap.size ≤ g from hB) _,h.e0⟩
 have he0 := h.e0.size
 have hL2 : BLow w0 (.slice (some ⟨g,0,none⟩) 0 0 :: L) := by
  intro r hr y hy
  rcases List.mem_cons.1 hr with rfl | hr
  ·simp only [Value.ownBlock,Option.some.injEq] at hy;exact .inl (by omega)
  ·exact hL r hr y hy
 have hBB := h.bl _ hL2
 have hrow := h.fr.reg _ f _ hf hv
 exact (hBB.wrote h2 (apart_ne (apart_types hBB.row hrow (by decide)) rfl) (fun u hu => by obtain ⟨m,xs,hh⟩ := bl_rows hBB hu;exact apart_ne (apart_types hh hrow (by decide)) rfl) List.mem_cons_self rfl).list fun r' hr' => ⟨r',List.mem_cons_of_mem _ hr',rfl⟩
theorem Ownd.headAt {w0 : Bs} {w : World} {b : Nat} {W : World} {t : Tsk} {VB : Value} {rs hs : List Value} {gs : List (List Value)} {gF cF : Nat} (h : Ownd w0 w b W t (.slice (some ⟨gF,0,none⟩) t.frames.length cF) VB rs hs gs) {i : Nat} {f : Frm} {v : Value} (hf : t.frames[i]? = some f) (hv : rs[i]? = some v) : W.cell? ⟨gF,i * 5 + 2,none⟩ = some v := by
 have hl := (List.getElem?_eq_some_iff.1 hf).1
 rw [h.fr.row.cellAt _ (by omega),rowOf_get frmCells_len hf hv (by omega)];rfl
set_option maxRecDepth 4000 in
theorem give_one (t : Tsk) (f : Frm) (VF VB : Value) (v : Int) (w0 : Bs) (w : World) (hT : BTsk w0 t (.agg (tskL t VF VB).toArray)) (h0 : BExt w0 w) (hf : topF t = some f) (h1 : t.frames.length = 1) (hcl : f.cleanup = false) :
  Calls Tryz.prog 69 #[.agg (tskL t VF VB).toArray,int .i64 v] w (ResPost (t,⟨2,0,v⟩) w0 w) := by
 obtain ⟨Af,cf,Ab,cb,rfl,rfl,hFF,_,_,_⟩ := (hT.mono h0).two
 have HT := Lib.hid hT
 obtain ⟨bf,of,Ar,nr,cr,rfl,hlf,_,_,_,_,_,_,_,_,d4⟩ := hFF.frm (show t.frames[t.frames.length - 1]? = some f from hf)
 rw [hcl] at d4
 have dd := d4
 have zf := lt_of_cell dd
 have H1 := Lib.hid h1
 clear hT hf h0 hFF d4 hlf hcl
 have HT2 : Hid (∀ W',BExt w0 W' → BRd w0 W' t (.agg (tskL t (.slice (some ⟨bf,of,none⟩) t.frames.length cf) (.slice Ab t.blocks.length cb)).toArray)) := fun W' h => HT.out W' h
 unfold tskL at HT ⊢
 rw [h1] at dd ⊢
 clear h1
 go_enter Tryz.func69,Tryz.ntmps69
 go_wp2_with (first | ((first | (with_reducible refine jl 32 ?_) | (with_reducible refine il 32 ?_));refine ldm Tryz.underlying32 rfl rfl rfl (by exact rg) rfl (by exact infoTsk) ?_;dsimp only [dZ,dS]) | ((first | (with_reducible refine jk 102 ?_) | (with_reducible refine ik 102 ?_));refine stm rfl rfl rfl rfl (by exact tr) infoRes (all_oneCell_toArray (by simp [Value.oneCell'])) ?_;(try dsimp only [Act.put])))
 refine ret_rangeR (b := w.heap.size + 1) Tryz.results69 rfl rfl ?hl (World.rangeAt_setCells_same _ _ 0 _ ?ht) ?hfin
 case hl => rfl
 case ht => show World.there _ _ 0 17;exact tr
 case hfin => exact ⟨_,cf,_,cb,by rw [H1.out];rfl,fun W' h _ => HT2.out W' h,xts⟩
set_option maxRecDepth 4000 in
theorem give_two (t : Tsk) (f g : Frm) (b : Blk) (VF VB : Value) (v : Int) (w0 : Bs) (w : World) (hT : BTsk w0 t (.agg (tskL t VF VB).toArray)) (h0 : BExt w0 w) (hf : topF t = some f) (hz : Siz t) (hcl : f.cleanup = false) (h2 : 2 ≤ t.frames.length) (hg : t.frames[t.frames.length - 2]? = some g) (hb : lastB t = some b)
  (hr : 0 ≤ f.result ∧ f.result < g.regs.length) (hv : InR v) :
  Calls Tryz.prog 69 #[.agg (tskL t VF VB).toArray,int .i64 v] w (ResPost (giveS t f v) w0 w) := by
 obtain ⟨Af,cf,Ab,cb,rfl,rfl,hFF,hBB,_,_⟩ := (hT.mono h0).two
 have HT := Lib.hid hT
 have HI := Lib.hid (hT.mono h0).inr
 have H0 := Lib.hid h0
 have HSZ := Lib.hid hz
 have hFk : t.frames[t.frames.length - 1]? = some f := hf
 have hpos : 0 < t.frames.length := by omega
 have hle : t.frames.length ≤ 9223372036854775807 := by have := hz.1;omega
 have hbpos : 0 < t.blocks.length := by
  have := (List.getElem?_eq_some_iff.1 (show t.blocks[t.blocks.length - 1]? = some b from hb)).1;omega
 have hble : t.blocks.length ≤ 9223372036854775807 := by have := hz.2.1;omega
 have hgl : g.regs.length ≤ 9223372036854775807 := by have := hz.2.2.1 g (List.mem_of_getElem? hg);omega
 obtain ⟨bf,of,Ar,nr,cr,rfl,hlf,_,_,_,_,_,_,_,d3,d4⟩ := hFF.frm hFk
 rw [hcl] at d4
 obtain ⟨bb,ob,Ah,nh,ch,rfl,hlb,_,_,_,_,_,_,e1,_,_,_⟩ := hBB.blk (show t.blocks[t.blocks.length - 1]? = some b from hb)
 have dd := d4
 have dr := d3
 have db := e1
 have zf := lt_of_cell dd
 have zb := lt_of_cell db
 have hn1 : ((t.frames.length : Int) == 1) = false := beq_eq_false_iff_ne.2 (by omega)
 have hsN : IntKind.i64.wrap ((t.frames.length : Int) - 1) = ((t.frames.length - 1 : Nat) : Int) := by rw [IntWalk.i64_in _ (by omega)];omega
 have hs1N : ((t.frames.length - 1 : Nat) : Int) < (t.frames.length : Int) := by omega
 have hs2N : (0 : Int) ≤ ((t.frames.length - 1 : Nat) : Int) := by omega
 have hsM : IntKind.i64.wrap ((t.frames.length : Int) - 2) = ((t.frames.length - 2 : Nat) : Int) := by rw [IntWalk.i64_in _ (by omega)];omega
 have hs1M : ((t.frames.length - 2 : Nat) : Int) < (t.frames.length : Int) := by omega
 have hs2M : (0 : Int) ≤ ((t.frames.length - 2 : Nat) : Int) := by omega
 have hr0 := hr.1
 have hr1 := hr.2
 have HG := Lib.hid hg
 have HV := Lib.hid hv
 have HN1 : Hid (¬ t.frames.length = 1) := by rw [Hid];omega
 by_cases hd : b.depth = (t.frames.length : Int)
 ·have HS : Hid (giveS t f v = failT t 8) := by
   unfold Hid giveS
   rw [if_neg (by rw [hcl];decide),if_neg HN1.out,hb,hg]
   dsimp only
   rw [if_pos hd]
  have hdb : (b.depth == (t.frames.length : Int)) = true := by simpa using hd
  have HFA : Hid (∀ q W,Ext w W → Calls Tryz.prog 70 #[.agg (tskL t (.slice (some ⟨bf,of,none⟩) t.frames.length cf) (.slice (some ⟨bb,ob,none⟩) t.blocks.length cb)).toArray,int .i64 q] W (ResPost (failT t q) w0 W)) := fun q W hW => failed_any t _ _ q w0 W hT (h0.trans hW)
  rw [HS.out]
  clear hT hf hz h0 hFF hBB hFk d3 d4 e1 hlf hlb HS hcl hd hg hb hr hv
  unfold tskL at HT HFA ⊢
  go_enter Tryz.func69,Tryz.ntmps69
  go_wp2_with (first | ((first | (with_reducible refine jl 32 ?_) | (with_reducible refine il 32 ?_));refine ldm Tryz.underlying32 rfl rfl rfl (by exact rg) rfl (by exact infoTsk) ?_;dsimp only [dZ,dS]) | ((first | (with_reducible refine jk 102 ?_) | (with_reducible refine ik 102 ?_));refine stm rfl rfl rfl rfl (by exact tr) infoRes (all_oneCell_toArray (by simp [Value.oneCell'])) ?_;(try dsimp only [Act.put])) | (go_at_call 70;refine (HFA.out _ _ xt).mono ?_;rintro e w1 ⟨A1,c1,A2,c2,rfl,hR,hb⟩;have HR := Lib.hid hR;unfold resV;have U1 := there_ext (b := w.heap.size + 1) (o := 0) (n := 17) (by exact tr) hb;have HE1 : Hid (Ext w w1) := Ext.trans xt hb;clear hR hb))
  refine ret_rangeR (b := w.heap.size + 1) Tryz.results69 rfl rfl ?hl (World.rangeAt_setCells_same _ _ 0 _ ?ht) ?hfin
  case hl => rfl
  case ht => exact U1
  case hfin => exact ⟨A1,c1,A2,c2,rfl,fun W' h k => HR.out W' h (((Keep.refl _ _).setCells (by simp) 0 _).trans k (by simp;omega)),HE1.out.setCells (by omega) 0 _⟩
 ·have HS : Hid (giveS t f v = ({ t with frames := (t.frames.take (t.frames.length - 1)).set (t.frames.length - 2) { g with regs := g.regs.set f.result.toNat v } },goOn)) := by
   unfold Hid giveS
   rw [if_neg (by rw [hcl];decide),if_neg HN1.out,hb,hg]
   dsimp only
   rw [if_neg hd]
  have hdb : (b.depth == (t.frames.length : Int)) = false := by simpa using hd
  rw [HS.out]
  unfold Siz at hz
  have HZ := Lib.hid hz
  clear hT hf hz h0 hFF hBB hFk d3 d4 e1 hlf hlb HS hcl hd hg hb hr hv
  unfold tskL at HT ⊢
  go_enter Tryz.func69,Tryz.ntmps69
  go_upto_region 12 with (first | ((first | (with_reducible refine jl 32 ?_) | (with_reducible refine il 32 ?_));refine ldm Tryz.underlying32 rfl rfl rfl (by exact rg) rfl (by exact infoTsk) ?_;dsimp only [dZ,dS]) | ((with_reducible refine ik 32 ?_);refine stm rfl rfl rfl rfl (by exact tr) infoTsk (all_oneCell_toArray (by simp [Value.oneCell'])) ?_;(try dsimp only [Act.put])) | (go_at_call 73;(with_reducible refine (ownB_any t _ w0 _ HT.out (H0.out.trans xt) HZ.out.1 HZ.out.2.1 HZ.out.2.2.1 HZ.out.2.2.2).mono ?_);rintro e w3 ⟨VF,VB,rs,hs,gs,rfl,hOF,hOB,hb⟩;have U3 := there_ext (b := w.heap.size + 1) (o := 0) (n := 17) (by exact tr) hb;have R3 := range_ext (b := w.heap.size) (o := 0) (by exact rg) hb;have HX3 : Hid (Ext w w3) := Ext.trans xt hb;have HCD : Hid (Cold w3 (w.heap.size + 1)) := (cold_new (b := w.heap.size + 1) (by simp) rfl).ext hb;have HOF := Lib.hid (hOF.base (B' := w.heap.size) (by simp;omega));have HOB := Lib.hid (fun L hL => (hOB L hL).base (B' := w.heap.size) (by simp;omega));have hz3 : w.heap.size + 1 + 1 ≤ w3.heap.size := (by have := hb.size;simpa using this);obtain ⟨gF,cF,rfl,hgF⟩ := own_form HOF.out.row hpos;obtain ⟨AB,cB,rfl,hcB,_⟩ := ownsRow_shape (HOB.out [] (blow_nil _)).row;clear hOF hOB hb))
  refine wp_hid2 ?_
  intro W4 HW4
  obtain ⟨HO,hX4⟩ := ownd_new H0.out HOF.out HOB.out HX3.out rfl HW4.out
  have U4 := there_ext U3 hX4
  have R4 := range_ext R3 hX4
  have dr4 := (HX3.out.trans hX4).cell dr
  have m7 : W4.cell? ⟨w.heap.size,7,none⟩ = some (.slice (some ⟨bf,of,none⟩) t.frames.length cf) := R4 7 _ rfl
  have hc4 : Cold W4 (w.heap.size + 1) := (HCD.out).ext hX4
  have hb4 : Cold W4 w3.heap.size := by rw [HW4.out];exact cold_sets _ (Cold.alloc rfl) _ _
  have hcF2 : ((t.frames.length - 1 : Nat) : Int) ≤ (cF : Int) := by
   obtain ⟨_,_,e9,h9,_⟩ := ownsRow_shape HO.fr.row
   injection e9 with _ _ e9
   omega
  have b7 : W4.cell? ⟨w3.heap.size,7,none⟩ = some (.slice (some ⟨gF,0,none⟩) t.frames.length cF) := HO.box 7 _ rfl
  obtain ⟨vr,hvr⟩ : ∃ u,rs[t.frames.length - 2]? = some u := ⟨_,List.getElem?_eq_getElem (by rw [HO.fr.len];omega)⟩
  have hvb : vr.ownBlock ≠ some w3.heap.size := fun e => by have := ((HOF.out.reg _ g vr HG.out hvr).lt _ e).2;omega
  have hhd := HO.headAt HG.out hvr
  obtain ⟨gR,cR,rfl,hgR,fzR,⟨u5,hu5⟩,_⟩ := HO.regAt HG.out hvr (k := f.result.toNat) (by omega) hvb
  have HVR := Lib.hid hvr
  have HVB := Lib.hid hvb
  have zB := lt_of_cell b7
  have zF := lt_of_cell hhd
  have zR := lt_of_cell hu5
  have z0 := lt_of_cell m7
  have zD := lt_of_cell dr4
  have HO4 := Lib.hid HO
  clear HW4 hX4 U3 R3 R4 HO dd dr db zf zb hvr hvb
  go_upto_region 12 with fail
  (refine wp_region_quiet_tail 16 (by kernel_rfl) (by kernel_rfl) ?_;(try simp only [List.take_succ_cons,List.take_zero,List.drop_succ_cons,List.drop_zero]);(repeat (go_big_quiet_step (fail)));refine wpQuiet_nil fun w1 h1 => ?_;obtain ⟨hc,hf,hs,he⟩ := eu (w := W4) h1 xt;clear h1;(try simp only [sA,sC,sD,sN] at hs))
  have HO6 := Lib.hid (HO4.out.mono he)
  have U6 := there_ext U4 he
  have hc6 := hc4.ext he
  have hb6 := hb4.ext he
  obtain ⟨gR',cR',eR,_,fz6,⟨u6,hu6⟩,hset⟩ := HO6.out.regAt HG.out HVR.out (k := f.result.toNat) (by omega) HVB.out
  injection eR with eR1 eR2 eR3
  injection eR1 with eR1
  injection eR1 with eR1 _ _
  subst eR1 eR3
  clear eR2
  have HQ := Lib.hid (hset v HV.out)
  clear hset hc hf hs he HO4 hhd hu5 b7 m7 dr4 U4 hc4 hb4 fzR
  go_upto_region 13 with fail
  refine wp_hid2 ?_
  intro W7 HW7
  have HO7 : Hid (Ownd w0 w w3.heap.size W7 { t with frames := t.frames.set (t.frames.length - 2) { g with regs := g.regs.set f.result.toNat v } } (.slice (some ⟨gF,0,none⟩) t.frames.length cF) (.slice AB t.blocks.length cB) rs hs gs) := by rw [Hid,HW7.out];exact HQ.out
  have U7 : W7.there (w.heap.size + 1) 0 17 := by rw [HW7.out];exact there_set U6
  have hc7 : Cold W7 (w.heap.size + 1) := by rw [HW7.out];exact hc6.setCell _ _
  have hb7 : Cold W7 w3.heap.size := by rw [HW7.out];exact hb6.setCell _ _
  have b7 : W7.cell? ⟨w3.heap.size,7,none⟩ = some (.slice (some ⟨gF,0,none⟩) t.frames.length cF) := HO7.out.box 7 _ rfl
  have f7 := (HO7.out.thr 7 (by omega)).2
  have zB7 := lt_of_cell b7
  clear HW7 HQ U6 hc6 hb6 HO6
  go_upto_region 14 with fail
  refine wp_hid2 ?_
  intro W8 HW8
  have HO8 : Hid (Ownd w0 w w3.heap.size W8 { t with frames := (t.frames.take (t.frames.length - 1)).set (t.frames.length - 2) { g with regs := g.regs.set f.result.toNat v } } (.slice (some ⟨gF,0,none⟩) (t.frames.length - 1) cF) (.slice AB t.blocks.length cB) (rs.take (t.frames.length - 1)) hs gs) := by
   have hl : (t.frames.set (t.frames.length - 2) { g with regs := g.regs.set f.result.toNat v }).length = t.frames.length := List.length_set ..
   have h9 := HO7.out
   have h8 := Ownd.cut (t := { t with frames := t.frames.set (t.frames.length - 2) { g with regs := g.regs.set f.result.toNat v } }) (m := t.frames.length - 1) (gF := gF) (cF := cF) (by rw [hl];exact h9) hb7 (by omega) (by rw [hl];exact Nat.sub_le _ 1)
   rw [List.take_set] at h8
   rw [Hid,HW8.out];exact h8
  have U8 : W8.there (w.heap.size + 1) 0 17 := by rw [HW8.out];exact there_set U7
  have hc8 : Cold W8 (w.heap.size + 1) := by rw [HW8.out];exact hc7.setCell _ _
  have R8 : W8.rangeAt w3.heap.size 0 [int .i64 t.fn,int .i64 t.scope,int .i64 t.prio,int .i64 t.status,int .i64 t.wkind,int .i64 t.windex,.bool t.wagain,.slice (some ⟨gF,0,none⟩) (t.frames.length - 1) cF,.slice AB t.blocks.length cB,int .i64 t.mask,.bool t.unw,int .i64 t.level,int .i64 t.reason,int .i64 t.result] := HO8.out.box
  clear HW8 HO7 U7 hc7 hb7 b7 f7
  go_wp2_with (first | ((first | (with_reducible refine jl 32 ?_) | (with_reducible refine il 32 ?_));refine ldm Tryz.underlying32 rfl rfl rfl (by exact rg) rfl (by exact infoTsk) ?_;dsimp only [dZ,dS]) | ((first | (with_reducible refine jk 102 ?_) | (with_reducible refine ik 102 ?_));refine stm rfl rfl rfl rfl (by exact tr) infoRes (all_oneCell_toArray (by simp [Value.oneCell'])) ?_;(try dsimp only [Act.put])))
  refine ret_rangeR (b := w.heap.size + 1) Tryz.results69 rfl rfl ?hl2 (World.rangeAt_setCells_same _ _ 0 _ ?ht2) ?hfin2
  case hl2 => rfl
  case ht2 => exact U8
  case hfin2 =>
   have := HO8.out.fin (s := goOn) ⟨by show (List.set _ _ _).length ≤ 1000;rw [List.length_set,List.length_take];have := HSZ.out.1;omega,HSZ.out.2.1,fun y hy => by
    rcases List.mem_or_eq_of_mem_set hy with h | rfl
    ·exact HSZ.out.2.2.1 y (List.mem_of_mem_take h)
    ·show (List.set _ _ _).length ≤ 1000
     rw [List.length_set];exact HSZ.out.2.2.1 g (List.mem_of_getElem? HG.out),HSZ.out.2.2.2⟩ HI.out (by omega) hc8
   exact this _
set_option maxRecDepth 4000 in
theorem rarguments_any (f : Frm) (l : List Int) (A Ar : Option Addr) (m c nr cr : Nat) (fn pc rs : Int) (cl : Bool) (w : World) (hl : RSl 1 RInt w A m l) (hm : m ≤ 1000) (hr : RSl 1 RInt w Ar nr f.regs) (ha : ∀ a ∈ l,0 ≤ a ∧ a < f.regs.length) :
  Calls Tryz.prog 149 #[.agg #[int .i64 fn,int .i64 pc,.slice Ar nr cr,int .i64 rs,.bool cl],.slice A m c] w fun e w' => ∃ v,e = .returned v ∧ w'.ownsRow (w.heap.size + 1) 3 1 v m ((argsOf f l).map (int .i64)) ∧ Ext w w' := by
 have HL := Lib.hid hl
 have HR := Lib.hid hr
 have HA := Lib.hid ha
 have HML := Lib.hid hl.len
 have HNR := Lib.hid hr.len
 have hnl := hr.le
 clear hl hr ha
 go_enter Tryz.func149,Tryz.ntmps149
 go_wp2
 refine wp_hid2 ?_
 intro W0 HW0
 obtain ⟨Wb,hWb⟩ : ∃ W,W = w.alloc (.cells #[int .i64 fn,int .i64 pc,.slice Ar nr cr,int .i64 rs,.bool cl] 62) := ⟨_,rfl⟩
 have HEb : Hid (Ext w Wb) := by rw [Hid,hWb];exact (Ext.refl _).alloc _
 have hsb : Wb.heap.size = w.heap.size + 1 := by rw [hWb];simp
 have c2 : Wb.cell? ⟨w.heap.size,2,none⟩ = some (.slice Ar nr cr) := by rw [hWb];simp [go_sem]
 have HO0 : Hid (W0.ownsRow (w.heap.size + 1) 3 1 (.slice (some ⟨w.heap.size + 1,0,none⟩) 0 0) 0 (((l.take 0).map (regS f)).map (int .i64))) := by
  have h1 := World.ownsRow_lit (base := w.heap.size + 1) (e := 3) (size := 1) Wb #[] 0 (by omega) (by simp [maxLen]) (by simp)
  rw [hsb] at h1
  rw [Hid,HW0.out,← hWb]
  simpa using h1
 have HX0 : Hid (Ext Wb W0) := by rw [Hid,HW0.out,← hWb];exact (Ext.refl _).alloc _
 have HSB := Lib.hid hsb
 clear HW0 hWb hsb
 go_loopg [5,6] m (fun gg s5 s6 wr => ∃ (k : Nat) (v : Value),k ≤ m ∧ m - k ≤ gg ∧ s5 = v ∧ s6 = .int .i64 k ∧ Hid (Ext Wb wr) ∧ Hid (wr.ownsRow (w.heap.size + 1) 3 1 v k (((l.take k).map (regS f)).map (int .i64))))
 case atStart => exact ⟨0,_,by omega,by omega,rfl,rfl,HX0,HO0⟩
 case round =>
  obtain ⟨k,v,hk,hgg,rfl,rfl,HX,HO⟩ := hrel
  clear HO0 HX0
  by_cases hlt : k < m
  ·have hltz : (k : Int) < (m : Int) := by omega
   obtain ⟨a,hak⟩ : ∃ a,l[k]? = some a := ⟨_,List.getElem?_eq_getElem (by have := HML.out;omega)⟩
   have hai := HA.out a (List.mem_of_getElem? hak)
   obtain ⟨ai,rfl⟩ : ∃ n : Nat,a = (n : Int) := ⟨a.toNat,by omega⟩
   obtain ⟨y,hy⟩ : ∃ y,f.regs[ai]? = some y := ⟨_,List.getElem?_eq_getElem (by omega)⟩
   obtain ⟨bl,ol,rfl,hbl,_,e0⟩ := HL.out.int hak
   obtain ⟨br,orr,rfl,hbr,hyi,e1⟩ := HR.out.int hy
   have hnr : (ai : Int) < (nr : Int) := by have := HNR.out;omega
   have hWr : Hid (Ext w wr) := HEb.out.trans HX.out
   have c3 := HX.out.cell c2
   have e2 := hWr.out.cell e0
   have e3 := hWr.out.cell e1
   have z1 : w.heap.size < wr.heap.size := lt_of_cell c3
   have z2 := lt_of_cell e2
   have z3 := lt_of_cell e3
   have HRS : Hid (regS f ai = y) := by unfold Hid regS;rw [Int.toNat_natCast,List.getD_eq_getElem?_getD,hy];rfl
   have HAK := Lib.hid hak
   obtain ⟨A5,c5,rfl,hc5,_⟩ := ownsRow_shape HO.out
   clear hak hy e0 e1 hai
   go_upto_region 5 with fail
   refine wp_region_th 11 (fun W' => W'.cell? ⟨w.heap.size,2,none⟩ = some (.slice (some ⟨br,orr,none⟩) nr cr) ∧ W'.cell? ⟨bl,ol + k,none⟩ = some (int .i64 (ai : Int)) ∧ W'.cell? ⟨br,orr + ai,none⟩ = some (int .i64 y)) (by kernel_rfl) (by kernel_rfl) (by kernel_rfl) (by kernel_rfl) (by decide) ?_ ?_
   ·(repeat' (with_reducible apply And.intro)) <;> go_simp
   intro hT hHeld
   (refine tht 0 hT ?_;(try simp only [Act.put,aset,dZ,dS]);refine tht 1 hT ?_;(try simp only [Act.put,aset,dZ,dS]);refine tht 2 hT ?_;(try simp only [Act.put,aset,dZ,dS]);refine tht 3 hT ?_;(try simp only [Act.put,aset,dZ,dS]);refine tht 4 hT ?_;(try simp only [Act.put,aset,dZ,dS]);refine tht 5 hT ?_;(try simp only [Act.put,aset,dZ,dS]);refine tht 6 hT ?_;(try simp only [Act.put,aset,dZ,dS]);refine tht 7 hT ?_;(try simp only [Act.put,aset,dZ,dS]);refine tht 8 hT ?_;(try simp only [Act.put,aset,dZ,dS]))
   refine tst 9 (fun K hK => ?_)
   go_simp
   refine hK.out _ _ ?_ (fun hHeld => ?_)
   ·(repeat' (with_reducible apply And.intro)) <;> go_simp
   clear hK K
   (try simp only [Act.put,aset,dZ,dS])
   refine tst 10 (fun K hK => ?_)
   have hE6 : Ext wr (wr.drew.alloc (.cells #[int .i64 y] 3)) := ((Ext.refl _).drew).alloc _
   have HROW := Lib.hid (ownsRow_ext HO.out hE6)
   obtain ⟨i0,hi0,hz0,hz1,hz2⟩ := info_parts infoInt
   refine step_append_lies _ (by rfl) (.tmp 14) (.tmp 23) _ (by rfl) (w.heap.size + 1) 3 i0 _ 1 8 Tryz.underlying35 hi0 hz0 hz1 hz2 rfl (by omega) _ k _ (by rfl) HROW.out ⟨wr.heap.size,0,none⟩ 1 1 [int .i64 y] (by rfl) rfl (fun j u hj => by rw [addr_add];simpa [go_sem] using hj) (by simp [Value.oneCell']) (by omega) (by simp only [maxLen];omega) (by omega) (by simp;omega) _ rfl ?_
   clear hi0 hz0 hz1 hz2
   intro g7 cap7 w7 hown7 hgr7 hat7 hlt7
   have hrow : ∀ x,(Value.slice A5 k c5).ownBlock = some x → w.heap.size + 1 ≤ x := fun x hx => (HO.out.lt x hx).1
   have far : ∀ {b o : Nat} {u : Value},b < w.heap.size + 1 → wr.cell? ⟨b,o,none⟩ = some u → w7.cell? ⟨b,o,none⟩ = some u := fun {b o u} h1 h2 => by
    rw [hgr7.cell_far ⟨b,o,none⟩ (by have := lt_of_cell h2;simp;omega) (fun e => by have := hrow b e.symm;omega)]
    exact hE6.cell h2
   have hX7 : Ext Wb w7 := Below.grown (HX.out.trans hE6) hgr7 (by have := hE6.size;have := HX.out.size;omega) (fun x e => by have := hrow x e;have := HSB.out;omega)
   refine hK.out _ _ ⟨far (by omega) c3,far (by omega) e2,far (by omega) e3⟩ (fun hHeld => ?_)
   clear hK K
   (try simp only [Act.put,aset,dZ,dS])
   refine th_done (by kernel_rfl) ?_
   simp only [List.drop_succ_cons,List.drop_zero]
   go_wp2
   go_roundg (m - (k + 1))
   case measure => omega
   case rel =>
    refine ⟨k + 1,_,by omega,by omega,rfl,by go_num,hX7, ?_⟩
    rw [Hid,List.take_add_one,HAK.out,List.map_append,List.map_append]
    show World.ownsRow _ _ _ _ _ _ (_ ++ [int .i64 (regS f ai)])
    rw [HRS.out]
    exact hown7
  ·have hltz : ¬ (k : Int) < (m : Int) := by omega
   obtain rfl : k = m := by omega
   go_wp2
   go_ret
   exact ⟨_,rfl,by have h9 := HO.out;rw [List.take_of_length_le (by rw [← HML.out];exact Nat.le_refl _)] at h9;exact h9,HEb.out.trans HX.out⟩
theorem Ownd.cells {w0 : Bs} {w : World} {b : Nat} {W : World} {t : Tsk} {VB : Value} {rs hs : List Value} {gs : List (List Value)} {gF cF : Nat} (h : Ownd w0 w b W t (.slice (some ⟨gF,0,none⟩) t.frames.length cF) VB rs hs gs) {i : Nat} {f : Frm} {v : Value} (hf : t.frames[i]? = some f) (hv : rs[i]? = some v) : W.rangeAt gF (i * 5) [int .i64 f.fn,int .i64 f.pc,v,int .i64 f.result,.bool f.cleanup] := fun j u hj => by
 have hl := (List.getElem?_eq_some_iff.1 hf).1
 have hj5 : j < 5 := by have := (List.getElem?_eq_some_iff.1 hj).1;simpa using this
 rw [h.fr.row.cellAt _ (by omega),rowOf_get frmCells_len hf hv hj5];exact hj
set_option maxRecDepth 8000 in
theorem call_fail (p : Prg) (t : Tsk) (x : Ins) (VF VB VP : Value) (A : Option Addr) (m c : Nat) (w0 : Bs) (w : World) (hP : BPrg w0 p VP) (hT : BTsk w0 t (.agg (tskL t VF VB).toArray)) (h0 : BExt w0 w) (hpl : 8 ≤ plainN t) :
  Calls Tryz.prog 98 #[VP,.agg (tskL t VF VB).toArray,.agg #[int .i64 x.op,int .i64 x.a,int .i64 x.b,int .i64 x.c,.slice A m c]] w (ResPost (failT t 7) w0 w) := by
 obtain ⟨Af,cf,Ab,cb,rfl,rfl,_,_,_,_⟩ := (hT.mono h0).two
 obtain ⟨Pf,nf,kf,Po,no,ko,Pv,nv,kv,rfl,_⟩ := hP.mono h0
 have HPL : Hid (∀ W,Ext w W → Calls Tryz.prog 88 #[.agg (tskL t (.slice Af t.frames.length cf) (.slice Ab t.blocks.length cb)).toArray] W fun e w' => e = .returned (.int .i64 (plainN t)) ∧ Ext W w') := fun W hW => plain_any t _ W (hT.mono (h0.trans hW))
 have HFA : Hid (∀ q W,Ext w W → Calls Tryz.prog 70 #[.agg (tskL t (.slice Af t.frames.length cf) (.slice Ab t.blocks.length cb)).toArray,int .i64 q] W (ResPost (failT t q) w0 W)) := fun q W hW => failed_any t _ _ q w0 W hT (h0.trans hW)
 obtain ⟨n,hn⟩ : ∃ n,plainN t = n := ⟨_,rfl⟩
 rw [hn] at HPL hpl
 have hge : (8 : Int) ≤ (n : Int) := by omega
 clear hT h0 hn
 unfold tskL at HPL HFA ⊢
 go_enter Tryz.func98,Tryz.ntmps98
 go_upto_region 2 with (first | ((first | (with_reducible refine jl 32 ?_) | (with_reducible refine il 32 ?_));refine ldm Tryz.underlying32 rfl rfl rfl (by exact rg) rfl (by exact infoTsk) ?_;dsimp only [dZ,dS]) | (go_at_call 88;refine (HPL.out _ xt).mono ?_;rintro e w2 ⟨rfl,hb⟩;have R2 := range_ext (b := w.heap.size + 1) (o := 0) (by exact rg) hb;have T2 := there_ext (b := w.heap.size + 1 + 1 + 1) (o := 0) (n := 17) (by exact tr) hb;have HE2 : Hid (Ext w w2) := Ext.trans xt hb;have hz2 : w.heap.size + 1 + 1 + 1 < w2.heap.size := (by have := hb.size;simp at this;omega);clear hb))
 go_wp2_with (first | ((first | (with_reducible refine jl 32 ?_) | (with_reducible refine il 32 ?_));refine ldm Tryz.underlying32 rfl rfl rfl (by exact rg) rfl (by exact infoTsk) ?_;dsimp only [dZ,dS]) | ((first | (with_reducible refine jk 102 ?_) | (with_reducible refine ik 102 ?_));refine stm rfl rfl rfl rfl (by exact tr) infoRes (all_oneCell_toArray (by simp [Value.oneCell'])) ?_;(try dsimp only [Act.put])) | (go_at_call 70;refine (HFA.out _ _ HE2.out).mono ?_;rintro e w3 ⟨A1,c1,A2,c2,rfl,hR,hb⟩;have HR := Lib.hid hR;unfold resV;have U1 := there_ext T2 hb;have HE1 : Hid (Ext w w3) := Ext.trans HE2.out hb;clear hR hb))
 refine ret_rangeR (b := w.heap.size + 1 + 1 + 1) Tryz.results98 rfl rfl ?hl (World.rangeAt_setCells_same _ _ 0 _ ?ht) ?hfin
 case hl => rfl
 case ht => exact U1
 case hfin => exact ⟨A1,c1,A2,c2,rfl,fun W' h k => HR.out W' h (((Keep.refl _ _).setCells hz2 0 _).trans k (by omega)),HE1.out.setCells (by omega) 0 _⟩
end Go.Proofs.YtcjjoabofecjmaaGreat

