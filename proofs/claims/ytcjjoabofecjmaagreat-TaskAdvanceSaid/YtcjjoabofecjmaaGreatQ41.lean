/- A part of the proof: own of nurseryref28; Worlds of which some blocks do not coun. -/
import Derived.Test.YtcjjoabofecjmaaGreatQ40
set_option linter.unusedVariables false
set_option linter.unusedSimpArgs false
set_option maxHeartbeats 16000000
namespace Go.Proofs.YtcjjoabofecjmaaGreat
open Go.RowKit
open Go.Value (int)
theorem wpList_hid {P : Program} {ops : Array Oper} {rest : List Oper} {a : Act} {w : World} {Q : Exit → Act → World → Prop} (h : ∀ W,Hid (W = w) → wpList P ops Q rest a W) : wpList P ops Q rest a w := h w rfl
set_option maxRecDepth 4000 in
theorem own_args (t : Tsk) (V : Value) (w0 w : World) (hV0 : RTsk w0 t V) (h0 : Ext w0 w) (hnf : t.frames.length ≤ 1000) (hnb : t.blocks.length ≤ 1000) (hnr : ∀ f : Frm,f ∈ t.frames → f.regs.length ≤ 1000) (hnh : ∀ b : Blk,b ∈ t.blocks → b.handlers.length ≤ 1000) :
  Calls Tryz.prog 73 #[V] w fun e w' => ∃ VF VB rs hs gs,e = .returned (.agg #[int .i64 t.fn,int .i64 t.scope,int .i64 t.prio,int .i64 t.status,int .i64 t.wkind,int .i64 t.windex,.bool t.wagain,VF,VB,int .i64 t.mask,.bool t.unw,int .i64 t.level,int .i64 t.reason,int .i64 t.result]) ∧
   OFr w.heap.size w' t.frames VF rs ∧ OBlW w0 w t V w.heap.size w' VB hs gs ∧ Ext w w' := by
 have hV := hV0.mono h0
 obtain ⟨Af,nf,cf,Ab,nb,cb,rfl,_,_,_,_,_,_,_,_,_,_,hF,hB,hcf,hcb⟩ := hV
 have HF := Lib.hid hF
 have HB := Lib.hid hB
 have LF := Lib.hid hF.len
 have LB := Lib.hid hB.len
 have HIF := Lib.hid hF.frm_in
 have HIB := Lib.hid hB.blk_in
 have hle := hF.le
 have hle2 := hB.le
 have hnf' : nf ≤ 1000 := by have := hF.len;omega
 have hnb' : nb ≤ 1000 := by have := hB.len;omega
 have HNR := Lib.hid hnr
 have HNH := Lib.hid hnh
 have hB0 : RSl 5 RBlk w0 Ab nb t.blocks := by
  obtain ⟨_,_,_,Ab',nb',cb',e,_,_,_,_,_,_,_,_,_,_,_,hB0,_,_⟩ := hV0
  simp only [Value.agg.injEq,Array.mk.injEq,List.cons.injEq,Value.slice.injEq] at e
  obtain ⟨_,_,_,_,_,_,_,_,⟨e1,e2,_⟩,_⟩ := e
  rw [e1,e2];exact hB0
 have HB00 := Lib.hid hB0
 have H0 := Lib.hid h0
 clear hF hB hB0 hV0 h0 hnf hnb hnr hnh hcf hcb
 go_enter Tryz.func73,Tryz.ntmps73
 go_wp2
 refine wp_hid2 ?_
 intro W0 HW0
 have hws : w.heap.size + 1 + 1 = W0.heap.size := by rw [HW0.out];simp
 have HE0 : Hid (Ext w W0) := by rw [Hid,HW0.out];exact xt
 have HB0 : Hid (W0.rangeAt w.heap.size 0 [int .i64 t.fn,int .i64 t.scope,int .i64 t.prio,int .i64 t.status,int .i64 t.wkind,int .i64 t.windex,.bool t.wagain,.slice Af nf cf,.slice Ab nb cb,int .i64 t.mask,.bool t.unw,int .i64 t.level,int .i64 t.reason,int .i64 t.result]) := by rw [Hid,HW0.out];exact rg
 have HT0 : Hid (W0.there w.heap.size 0 14) := by rw [Hid,HW0.out];exact tr
 have HU0 : Hid (W0.there (w.heap.size + 1) 0 14) := by rw [Hid,HW0.out];exact tr
 clear HW0
 go_loopg [3,4,5] nf (fun gg s3 s4 _ wr => ∃ (k : Nat) (A3 : Option Addr) (c3 : Nat) (rs : List Value),k ≤ nf ∧ nf - k ≤ gg ∧ s3 = .slice A3 k c3 ∧ s4 = .int .i64 k ∧ Hid (Ext W0 wr) ∧ Hid (Cp frmCells 62 3 1 (frmN t.frames) (frmC t.frames) W0.heap.size wr (t.frames.take k) (.slice A3 k c3) rs rs (t.frames.take k).length))
 case atStart => exact ⟨0,none,0,[],Nat.zero_le _,by omega,rfl,rfl,Ext.refl _,Cp.start rfl (by simpa [rowOf] using World.ownsRow_nil _ _ _ _)⟩
 case round =>
  obtain ⟨k,A3,c3,rs,hk,hgk,rfl,rfl,HE,HC⟩ := hrel
  have k7 : wr.cell? ⟨w.heap.size,7,none⟩ = some (.slice Af nf cf) := HE.out.cell (HB0.out 7 _ rfl)
  by_cases hlt : k < nf
  ·have hltz : (k : Int) < (nf : Int) := by omega
   obtain ⟨f,hf⟩ : ∃ f,t.frames[k]? = some f := ⟨_,List.getElem?_eq_getElem (by have := LF.out;omega)⟩
   obtain ⟨b,off,Aa,na,ca,rfl,hlb,_,_,_,⟨hA,hca⟩,c0,c1,c2,c3x,c4⟩ := (HF.out.mono RFrm.stays (HE0.out.trans HE.out)).frm hf
   have hna := hA.len
   subst hna
   have HN : Hid (f.regs.length ≤ 1000) := HNR.out f (List.mem_of_getElem? hf)
   have HCA := Lib.hid (ints_csl hA)
   have HAN := Lib.hid hA.nil_of_none
   have HFk := Lib.hid hf
   have HE' := HE.out
   have hwsz := HE'.size
   have HRW : Hid (∀ W,Ext wr W → W.ownsRow W0.heap.size 62 5 (.slice A3 k c3) k (rowOf frmCells (t.frames.take k) rs)) := fun W h => by
    have h2 := ownsRow_ext HC.out.row h
    rwa [show (t.frames.take k).length = k by rw [List.length_take];have := LF.out;omega] at h2
   clear hA hf
   rcases Aa with _ | ⟨b2,o2,f2⟩
   ·have HZ := Lib.hid (HAN.out rfl)
    rw [HZ.out] at c2
    have HL : Hid (((wr.alloc (.cells #[int .i64 f.fn,int .i64 f.pc,.slice none 0 ca,int .i64 f.result,.bool f.cleanup] 62)).alloc (.cells #[] 3)).ownsRow (wr.heap.size + 1) 3 1 (.slice (some ⟨wr.heap.size + 1,0,none⟩) 0 0) 0 []) := by
     have h := World.ownsRow_lit (base := wr.heap.size + 1) (e := 3) (size := 1) (wr.alloc (.cells #[int .i64 f.fn,int .i64 f.pc,.slice none 0 ca,int .i64 f.result,.bool f.cleanup] 62)) #[] 0 (by simp) (by simp [maxLen]) (by simp)
     rw [World.size_alloc] at h
     exact h
    go_wp2_with (first | (at_builtin;obtain ⟨i0,hi0,hz0,hz1,hz2⟩ := info_parts infoInt;refine wpList_append_nil rfl (.tmp 21) (.tmp 23) _ rfl (wr.heap.size + 1) 3 i0 1 ca Tryz.underlying35 hi0 _ 0 [] rfl HL.out rfl ?_;clear hi0 hz0 hz1 hz2;refine wpList_hid ?_;intro w1 HW1;have HO1 : Hid (w1.ownsRow (wr.heap.size + 1) 3 1 (.slice (some ⟨wr.heap.size + 1,0,none⟩) 0 0) 0 []) := (by rw [Hid,HW1.out];exact HL.out);have he1 : Ext wr w1 := (by rw [HW1.out];exact xt);have d0 : w1.cell? ⟨wr.heap.size,0,none⟩ = some (int .i64 f.fn) := (by rw [HW1.out];simp [go_sem]);have d1 : w1.cell? ⟨wr.heap.size,1,none⟩ = some (int .i64 f.pc) := (by rw [HW1.out];simp [go_sem]);have d2 : w1.cell? ⟨wr.heap.size,2,none⟩ = some (.slice none 0 ca) := (by rw [HW1.out];simp [go_sem]);have d3 : w1.cell? ⟨wr.heap.size,3,none⟩ = some (int .i64 f.result) := (by rw [HW1.out];simp [go_sem]);have d4 : w1.cell? ⟨wr.heap.size,4,none⟩ = some (.bool f.cleanup) := (by rw [HW1.out];simp [go_sem]);have df : w1.frozen? ⟨wr.heap.size,2,none⟩ = false := (by rw [HW1.out];simp [go_sem]);have hs1 : wr.heap.size + 1 + 1 ≤ w1.heap.size := (by rw [HW1.out];simp);clear HW1) | (at_builtin;obtain ⟨i0,hi0,hz0,hz1,hz2⟩ := info_parts infoFrm;refine wpList_append_own_at _ rfl (.tmp 26) (.tmp 28) _ rfl W0.heap.size 62 i0 _ 5 56 Tryz.underlying29 hi0 hz0 hz1 hz2 rfl (by omega) _ k _ rfl (HRW.out _ (((he1.setCell (Nat.le_refl _) _).alloc _))) ⟨w1.heap.size,0,none⟩ 1 1 (frmCells f (.slice (some ⟨wr.heap.size + 1,0,none⟩) 0 0)) rfl rfl (fun j u hj => by rw [addr_add];simpa [go_sem,frmCells] using hj) (frmCells_one f _ rfl) (by simp only [maxLen];omega) (by omega) (by simp;omega) ?_;clear hi0 hz0 hz1 hz2;intro v2 w2 hown2 hgr2 _ _;have HO2 := Lib.hid hown2;have HG2 := Lib.hid hgr2;obtain ⟨A2,c2',rfl,_,_⟩ := ownsRow_shape hown2;clear hown2 hgr2))
    have hlk : (t.frames.take k).length = k := by rw [List.length_take];have := LF.out;omega
    have htk : t.frames.take k ++ [f] = t.frames.take (k + 1) := by rw [List.take_add_one,HFk.out];rfl
    have he2 : Ext wr ((w1.setCell ⟨wr.heap.size,2,none⟩ (.slice (some ⟨wr.heap.size + 1,0,none⟩) 0 0)).alloc (.cells #[int .i64 f.fn,int .i64 f.pc,.slice (some ⟨wr.heap.size + 1,0,none⟩) 0 0,int .i64 f.result,.bool f.cleanup] 62)) := (he1.setCell (Nat.le_refl _) _).alloc _
    have hvP : ((w1.setCell ⟨wr.heap.size,2,none⟩ (.slice (some ⟨wr.heap.size + 1,0,none⟩) 0 0)).alloc (.cells #[int .i64 f.fn,int .i64 f.pc,.slice (some ⟨wr.heap.size + 1,0,none⟩) 0 0,int .i64 f.result,.bool f.cleanup] 62)).ownsRow wr.heap.size 3 1 (.slice (some ⟨wr.heap.size + 1,0,none⟩) 0 0) (frmN t.frames (t.frames.take k).length) (frmC t.frames (t.frames.take k).length) := by
     rw [hlk,frmN_at HFk.out,frmC_at HFk.out]
     have h1 : w1.ownsRow (wr.heap.size + 1) 3 1 (.slice (some ⟨wr.heap.size + 1,0,none⟩) 0 0) f.regs.length (f.regs.map (int .i64)) := by rw [List.eq_nil_of_length_eq_zero HZ.out];exact HO1.out
     exact World.ownsRow.mono (ownsRow_ext (own_setCell h1 (show wr.heap.size < _ by omega)) ((Ext.refl _).alloc _)) (by omega)
    have hpu := Cp.push (fs := t.frames.take k) (f := f) (by decide) HC.out he2 hwsz hvP (by rw [hlk];exact HO2.out) HG2.out
    rw [htk] at hpu
    have HPu := Lib.hid hpu
    have HE2 : Hid (Ext W0 w2) := Below.grown (HE'.trans he2) HG2.out (by have := he2.size;omega) (fun q e => ((HRW.out wr (Ext.refl _)).lt q e).1)
    clear hpu hvP
    go_roundg (nf - (k + 1))
    case measure => omega
    case rel => exact ⟨k + 1,A2,c2',_,by omega,by omega,rfl,by go_num,HE2,HPu⟩
   ·have HL : Hid (((wr.alloc (.cells #[int .i64 f.fn,int .i64 f.pc,.slice (some ⟨b2,o2,f2⟩) f.regs.length ca,int .i64 f.result,.bool f.cleanup] 62)).alloc (.cells #[] 3)).ownsRow (wr.heap.size + 1) 3 1 (.slice (some ⟨wr.heap.size + 1,0,none⟩) 0 0) 0 []) := by
     have h := World.ownsRow_lit (base := wr.heap.size + 1) (e := 3) (size := 1) (wr.alloc (.cells #[int .i64 f.fn,int .i64 f.pc,.slice (some ⟨b2,o2,f2⟩) f.regs.length ca,int .i64 f.result,.bool f.cleanup] 62)) #[] 0 (by simp) (by simp [maxLen]) (by simp)
     rw [World.size_alloc] at h
     exact h
    go_wp2_with (first | (at_builtin;obtain ⟨i0,hi0,hz0,hz1,hz2⟩ := info_parts infoInt;refine wpList_append_own_at _ rfl (.tmp 21) (.tmp 23) _ rfl (wr.heap.size + 1) 3 i0 _ 1 8 Tryz.underlying35 hi0 hz0 hz1 hz2 rfl (by omega) _ 0 [] rfl HL.out ⟨b2,o2,f2⟩ f.regs.length ca _ rfl HCA.out.1 (CSl.news (HCA.out.mono xt)) (int_one _) (by have := HN.out;simp only [maxLen];omega) (by have := HN.out;omega) (by simp) ?_;clear hi0 hz0 hz1 hz2;intro v1 w1 hown1 hgr1 _ _;replace hgr1 : World.grownBy _ w1 (some (wr.heap.size + 1)) := hgr1;have he1 : Ext wr w1 := Below.grown (show Ext wr _ from xt) hgr1 (by simp;omega) (fun q e => by cases e;omega);have HO1 := Lib.hid hown1;have HG1 := Lib.hid hgr1;simp only [Nat.zero_add,List.nil_append] at hown1;obtain ⟨A1,c1',rfl,_,_⟩ := ownsRow_shape hown1;have d0 : w1.cell? ⟨wr.heap.size,0,none⟩ = some (int .i64 f.fn) := (by rw [hgr1.cell_far ⟨wr.heap.size,0,none⟩ (by simp;omega) (by simp)];simp [go_sem]);have d1 : w1.cell? ⟨wr.heap.size,1,none⟩ = some (int .i64 f.pc) := (by rw [hgr1.cell_far ⟨wr.heap.size,1,none⟩ (by simp;omega) (by simp)];simp [go_sem]);have d2 : w1.cell? ⟨wr.heap.size,2,none⟩ = some (.slice (some ⟨b2,o2,f2⟩) f.regs.length ca) := (by rw [hgr1.cell_far ⟨wr.heap.size,2,none⟩ (by simp;omega) (by simp)];simp [go_sem]);have d3 : w1.cell? ⟨wr.heap.size,3,none⟩ = some (int .i64 f.result) := (by rw [hgr1.cell_far ⟨wr.heap.size,3,none⟩ (by simp;omega) (by simp)];simp [go_sem]);have d4 : w1.cell? ⟨wr.heap.size,4,none⟩ = some (.bool f.cleanup) := (by rw [hgr1.cell_far ⟨wr.heap.size,4,none⟩ (by simp;omega) (by simp)];simp [go_sem]);have df : w1.frozen? ⟨wr.heap.size,2,none⟩ = false := (by rw [hgr1.frozen_far ⟨wr.heap.size,2,none⟩ (by simp;omega) (by simp)];simp [go_sem]);have hs1 : wr.heap.size + 1 + 1 ≤ w1.heap.size := (by simpa using hgr1.size);clear hown1 hgr1) | (at_builtin;obtain ⟨i0,hi0,hz0,hz1,hz2⟩ := info_parts infoFrm;refine wpList_append_own_at _ rfl (.tmp 26) (.tmp 28) _ rfl W0.heap.size 62 i0 _ 5 56 Tryz.underlying29 hi0 hz0 hz1 hz2 rfl (by omega) _ k _ rfl (HRW.out _ (((he1.setCell (Nat.le_refl _) _).alloc _))) ⟨w1.heap.size,0,none⟩ 1 1 (frmCells f (.slice A1 f.regs.length c1')) rfl rfl (fun j u hj => by rw [addr_add];simpa [go_sem,frmCells] using hj) (frmCells_one f _ rfl) (by simp only [maxLen];omega) (by omega) (by simp;omega) ?_;clear hi0 hz0 hz1 hz2;intro v2 w2 hown2 hgr2 _ _;have HO2 := Lib.hid hown2;have HG2 := Lib.hid hgr2;obtain ⟨A2,c2',rfl,_,_⟩ := ownsRow_shape hown2;clear hown2 hgr2))
    have hlk : (t.frames.take k).length = k := by rw [List.length_take];have := LF.out;omega
    have htk : t.frames.take k ++ [f] = t.frames.take (k + 1) := by rw [List.take_add_one,HFk.out];rfl
    have he2 : Ext wr ((w1.setCell ⟨wr.heap.size,2,none⟩ (.slice A1 f.regs.length c1')).alloc (.cells #[int .i64 f.fn,int .i64 f.pc,.slice A1 f.regs.length c1',int .i64 f.result,.bool f.cleanup] 62)) := (he1.setCell (Nat.le_refl _) _).alloc _
    have hvP : ((w1.setCell ⟨wr.heap.size,2,none⟩ (.slice A1 f.regs.length c1')).alloc (.cells #[int .i64 f.fn,int .i64 f.pc,.slice A1 f.regs.length c1',int .i64 f.result,.bool f.cleanup] 62)).ownsRow wr.heap.size 3 1 (.slice A1 f.regs.length c1') (frmN t.frames (t.frames.take k).length) (frmC t.frames (t.frames.take k).length) := by
     rw [hlk,frmN_at HFk.out,frmC_at HFk.out]
     have h1 : w1.ownsRow (wr.heap.size + 1) 3 1 (.slice A1 f.regs.length c1') f.regs.length (f.regs.map (int .i64)) := by have h := HO1.out;rwa [Nat.zero_add,List.nil_append] at h
     exact World.ownsRow.mono (ownsRow_ext (own_setCell h1 (show wr.heap.size < _ by omega)) ((Ext.refl _).alloc _)) (by omega)
    have hpu := Cp.push (fs := t.frames.take k) (f := f) (by decide) HC.out he2 hwsz hvP (by rw [hlk];exact HO2.out) HG2.out
    rw [htk] at hpu
    have HPu := Lib.hid hpu
    have HE2 : Hid (Ext W0 w2) := Below.grown (HE'.trans he2) HG2.out (by have := he2.size;omega) (fun q e => ((HRW.out wr (Ext.refl _)).lt q e).1)
    clear hpu hvP
    go_roundg (nf - (k + 1))
    case measure => omega
    case rel => exact ⟨k + 1,A2,c2',_,by omega,by omega,rfl,by go_num,HE2,HPu⟩
  ·have hltz : ¬ (k : Int) < (nf : Int) := by omega
   obtain rfl : k = nf := by omega
   have HOF : Hid (OFr W0.heap.size wr t.frames (.slice A3 k c3) rs) := CpF.done (by have h0 := HC.out;rw [LF.out,List.take_length] at h0;rw [LF.out];exact h0) HIF.out
   obtain ⟨W1,eW1⟩ : ∃ W,W = wr := ⟨_,rfl⟩
   subst eW1
   have HE1 : Hid (Ext w W1) := HE0.out.trans HE.out
   have HB1 : Hid (W1.rangeAt w.heap.size 0 [int .i64 t.fn,int .i64 t.scope,int .i64 t.prio,int .i64 t.status,int .i64 t.wkind,int .i64 t.windex,.bool t.wagain,.slice Af k cf,.slice Ab nb cb,int .i64 t.mask,.bool t.unw,int .i64 t.level,int .i64 t.reason,int .i64 t.result]) := range_ext HB0.out HE.out
   have HT1 : Hid (W1.there w.heap.size 0 14) := there_ext HT0.out HE.out
   have HU1 : Hid (W1.there (w.heap.size + 1) 0 14) := there_ext HU0.out HE.out
   have hws1 : w.heap.size + 1 + 1 ≤ W1.heap.size := by have := HE.out.size;omega
   obtain ⟨gs,hgl,hgp⟩ := exists_list' (P := fun i (g : List Value) => ∀ x : Blk,t.blocks[i]? = some x → ∃ b off Aa ca,Ab = some ⟨b,off,none⟩ ∧ (Aa = none → x.handlers.length = 0) ∧ x.handlers.length ≤ ca ∧ g.length = x.handlers.length ∧ CSl w0 Aa x.handlers.length 2 (rowOf hdlCells x.handlers g) ∧
     (∀ (q : Nat) (y : Hdl) (u : Value),x.handlers[q]? = some y → g[q]? = some u → InR y.fn ∧ RArgs w0 y.args u) ∧ w0.cell? ⟨b,off + i * 5,none⟩ = some (int .i64 x.scope) ∧ w0.cell? ⟨b,off + i * 5 + 1,none⟩ = some (int .i64 x.depth) ∧ w0.cell? ⟨b,off + i * 5 + 2,none⟩ = some (int .i64 x.exit) ∧ w0.cell? ⟨b,off + i * 5 + 3,none⟩ = some (int .i64 x.mask) ∧ w0.cell? ⟨b,off + i * 5 + 4,none⟩ = some (.slice Aa x.handlers.length ca)) t.blocks.length (fun i hi => by
    obtain ⟨b,off,Aa,na,ca,rfl,_,_,_,_,_,⟨hA,hca⟩,c0,c1,c2,c3,c4⟩ := HB00.out.blk (List.getElem?_eq_getElem hi)
    have hna := hA.len
    subst hna
    obtain ⟨g,g1,g2,g3⟩ := handlers_cells hA
    refine ⟨g,fun x hx => ?_⟩
    rw [List.getElem?_eq_getElem hi] at hx
    cases hx
    exact ⟨b,off,Aa,ca,rfl,hA.nil_of_none,hca,g1,g2,g3,c0,c1,c2,c3,c4⟩)
   have HGL := Lib.hid hgl
   have HGP := Lib.hid hgp
   clear hgl hgp
   clear HC HB0 HT0 HU0
   go_wp2
   go_loopg [6,7,8] nb (fun gg s6 s7 _ wr => ∃ (j : Nat) (A6 : Option Addr) (c6 : Nat) (hs : List Value),j ≤ nb ∧ nb - j ≤ gg ∧ s6 = .slice A6 j c6 ∧ s7 = .int .i64 j ∧ Hid (Ext W1 wr) ∧ Hid (Cp blkCells 55 58 2 (blkN t.blocks) (blkC t.blocks gs) W1.heap.size wr (t.blocks.take j) (.slice A6 j c6) hs hs (t.blocks.take j).length))
   case atStart => exact ⟨0,none,0,[],Nat.zero_le _,by omega,rfl,rfl,Ext.refl _,Cp.start rfl (by simpa [rowOf] using World.ownsRow_nil _ _ _ _)⟩
   case round =>
    obtain ⟨j,A6,c6,hs,hj,hgj,rfl,rfl,HEb,HCb⟩ := hrel
    have k8 : wr.cell? ⟨w.heap.size,8,none⟩ = some (.slice Ab nb cb) := HEb.out.cell (HB1.out 8 _ rfl)
    by_cases hlt : j < nb
    ·have hltz : (j : Int) < (nb : Int) := by omega
     obtain ⟨x,hx⟩ : ∃ x,t.blocks[j]? = some x := ⟨_,List.getElem?_eq_getElem (by have := LB.out;omega)⟩
     obtain ⟨ga,hga⟩ : ∃ v,gs[j]? = some v := ⟨_,List.getElem?_eq_getElem (by rw [HGL.out];have := LB.out;omega)⟩
     have HEw : Hid (Ext w0 wr) := H0.out.trans (HE1.out.trans HEb.out)
     obtain ⟨b,off,Aa,ca,rfl,hAn,hca,hgal,hAc,hAp,c0,c1,c2,c3x,c4⟩ := HGP.out j ga hga x hx
     replace c0 := HEw.out.cell c0
     replace c1 := HEw.out.cell c1
     replace c2 := HEw.out.cell c2
     replace c3x := HEw.out.cell c3x
     replace c4 := HEw.out.cell c4
     have HN : Hid (x.handlers.length ≤ 1000) := HNH.out x (List.mem_of_getElem? hx)
     have HCA := Lib.hid (hAc.mono HEw.out)
     have HAN := Lib.hid hAn
     have HON : Hid (∀ u ∈ rowOf hdlCells x.handlers ga,u.oneCell' = true) := rowOf_one hdlCells_one (fun v hv => by
      obtain ⟨i,hi,rfl⟩ := List.getElem_of_mem hv
      obtain ⟨_,A,n,c,e,_⟩ := hAp i _ _ (List.getElem?_eq_getElem (by omega)) (List.getElem?_eq_getElem hi)
      rw [e];rfl)
     have HFk := Lib.hid hx
     have HGk := Lib.hid hga
     have HEb' := HEb.out
     have hwsz := HEb'.size
     have HRW : Hid (∀ W,Ext wr W → W.ownsRow W1.heap.size 55 5 (.slice A6 j c6) j (rowOf blkCells (t.blocks.take j) hs)) := fun W h => by
      have h2 := ownsRow_ext HCb.out.row h
      rwa [show (t.blocks.take j).length = j by rw [List.length_take];have := LB.out;omega] at h2
     clear hAn hAc hAp hgal hx hga
     rcases Aa with _ | ⟨b2,o2,f2⟩
     ·have HZ := Lib.hid (HAN.out rfl)
      rw [HZ.out] at c4
      have HL : Hid (((wr.alloc (.cells #[int .i64 x.scope,int .i64 x.depth,int .i64 x.exit,int .i64 x.mask,.slice none 0 ca] 55)).alloc (.cells #[] 58)).ownsRow (wr.heap.size + 1) 58 2 (.slice (some ⟨wr.heap.size + 1,0,none⟩) 0 0) 0 []) := by
       have h := World.ownsRow_lit (base := wr.heap.size + 1) (e := 58) (size := 2) (wr.alloc (.cells #[int .i64 x.scope,int .i64 x.depth,int .i64 x.exit,int .i64 x.mask,.slice none 0 ca] 55)) #[] 0 (by simp) (by simp [maxLen]) (by simp)
       rw [World.size_alloc] at h
       exact h
      go_wp2_with (first | (at_builtin;obtain ⟨i0,hi0,hz0,hz1,hz2⟩ := info_parts infoHdl;refine wpList_append_nil rfl (.tmp 42) (.tmp 44) _ rfl (wr.heap.size + 1) 58 i0 2 ca Tryz.underlying53 hi0 _ 0 [] rfl HL.out rfl ?_;clear hi0 hz0 hz1 hz2;refine wpList_hid ?_;intro w1 HW1;have HO1 : Hid (w1.ownsRow (wr.heap.size + 1) 58 2 (.slice (some ⟨wr.heap.size + 1,0,none⟩) 0 0) 0 []) := (by rw [Hid,HW1.out];exact HL.out);have he1 : Ext wr w1 := (by rw [HW1.out];exact xt);have d0 : w1.cell? ⟨wr.heap.size,0,none⟩ = some (int .i64 x.scope) := (by rw [HW1.out];simp [go_sem]);have d1 : w1.cell? ⟨wr.heap.size,1,none⟩ = some (int .i64 x.depth) := (by rw [HW1.out];simp [go_sem]);have d2 : w1.cell? ⟨wr.heap.size,2,none⟩ = some (int .i64 x.exit) := (by rw [HW1.out];simp [go_sem]);have d3 : w1.cell? ⟨wr.heap.size,3,none⟩ = some (int .i64 x.mask) := (by rw [HW1.out];simp [go_sem]);have d4 : w1.cell? ⟨wr.heap.size,4,none⟩ = some (.slice none 0 ca) := (by rw [HW1.out];simp [go_sem]);have df : w1.frozen? ⟨wr.heap.size,4,none⟩ = false := (by rw [HW1.out];simp [go_sem]);have hs1 : wr.heap.size + 1 + 1 ≤ w1.heap.size := (by rw [HW1.out];simp);clear HW1) | (at_builtin;obtain ⟨i0,hi0,hz0,hz1,hz2⟩ := info_parts infoBlk;refine wpList_append_own_at _ rfl (.tmp 47) (.tmp 49) _ rfl W1.heap.size 55 i0 _ 5 56 Tryz.underlying30 hi0 hz0 hz1 hz2 rfl (by omega) _ j _ rfl (HRW.out _ (((he1.setCell (Nat.le_refl _) _).alloc _))) ⟨w1.heap.size,0,none⟩ 1 1 (blkCells x (.slice (some ⟨wr.heap.size + 1,0,none⟩) 0 0)) rfl rfl (fun q u hq => by rw [addr_add];simpa [go_sem,blkCells] using hq) (blkCells_one x _ rfl) (by simp only [maxLen];omega) (by omega) (by simp;omega) ?_;clear hi0 hz0 hz1 hz2;intro v2 w2 hown2 hgr2 _ _;have HO2 := Lib.hid hown2;have HG2 := Lib.hid hgr2;obtain ⟨A2,c2',rfl,_,_⟩ := ownsRow_shape hown2;clear hown2 hgr2))
      have hlk : (t.blocks.take j).length = j := by rw [List.length_take];have := LB.out;omega
      have htk : t.blocks.take j ++ [x] = t.blocks.take (j + 1) := by rw [List.take_add_one,HFk.out];rfl
      have he2 : Ext wr ((w1.setCell ⟨wr.heap.size,4,none⟩ (.slice (some ⟨wr.heap.size + 1,0,none⟩) 0 0)).alloc (.cells #[int .i64 x.scope,int .i64 x.depth,int .i64 x.exit,int .i64 x.mask,.slice (some ⟨wr.heap.size + 1,0,none⟩) 0 0] 55)) := (he1.setCell (Nat.le_refl _) _).alloc _
      have hvP : ((w1.setCell ⟨wr.heap.size,4,none⟩ (.slice (some ⟨wr.heap.size + 1,0,none⟩) 0 0)).alloc (.cells #[int .i64 x.scope,int .i64 x.depth,int .i64 x.exit,int .i64 x.mask,.slice (some ⟨wr.heap.size + 1,0,none⟩) 0 0] 55)).ownsRow wr.heap.size 58 2 (.slice (some ⟨wr.heap.size + 1,0,none⟩) 0 0) (blkN t.blocks (t.blocks.take j).length) (blkC t.blocks gs (t.blocks.take j).length) := by
       rw [hlk,blkN_at HFk.out,blkC_at HFk.out HGk.out]
       have h1 : w1.ownsRow (wr.heap.size + 1) 58 2 (.slice (some ⟨wr.heap.size + 1,0,none⟩) 0 0) x.handlers.length (rowOf hdlCells x.handlers ga) := by rw [List.eq_nil_of_length_eq_zero HZ.out];exact HO1.out
       exact World.ownsRow.mono (ownsRow_ext (own_setCell h1 (show wr.heap.size < _ by omega)) ((Ext.refl _).alloc _)) (by omega)
      have hpu := Cp.push (fs := t.blocks.take j) (f := x) (by decide) HCb.out he2 hwsz hvP (by rw [hlk];exact HO2.out) HG2.out
      rw [htk] at hpu
      have HPu := Lib.hid hpu
      have HE2 : Hid (Ext W1 w2) := Below.grown (HEb'.trans he2) HG2.out (by have := he2.size;omega) (fun q e => ((HRW.out wr (Ext.refl _)).lt q e).1)
      clear hpu hvP
      go_roundg (nb - (j + 1))
      case measure => omega
      case rel => exact ⟨j + 1,A2,c2',_,by omega,by omega,rfl,by go_num,HE2,HPu⟩
     ·have HL : Hid (((wr.alloc (.cells #[int .i64 x.scope,int .i64 x.depth,int .i64 x.exit,int .i64 x.mask,.slice (some ⟨b2,o2,f2⟩) x.handlers.length ca] 55)).alloc (.cells #[] 58)).ownsRow (wr.heap.size + 1) 58 2 (.slice (some ⟨wr.heap.size + 1,0,none⟩) 0 0) 0 []) := by
       have h := World.ownsRow_lit (base := wr.heap.size + 1) (e := 58) (size := 2) (wr.alloc (.cells #[int .i64 x.scope,int .i64 x.depth,int .i64 x.exit,int .i64 x.mask,.slice (some ⟨b2,o2,f2⟩) x.handlers.length ca] 55)) #[] 0 (by simp) (by simp [maxLen]) (by simp)
       rw [World.size_alloc] at h
       exact h
      go_wp2_with (first | (at_builtin;obtain ⟨i0,hi0,hz0,hz1,hz2⟩ := info_parts infoHdl;refine wpList_append_own_at _ rfl (.tmp 42) (.tmp 44) _ rfl (wr.heap.size + 1) 58 i0 _ 2 32 Tryz.underlying53 hi0 hz0 hz1 hz2 rfl (by omega) _ 0 [] rfl HL.out ⟨b2,o2,f2⟩ x.handlers.length ca _ rfl HCA.out.1 (CSl.news (HCA.out.mono xt)) HON.out (by have := HN.out;simp only [maxLen];omega) (by have := HN.out;omega) (by simp) ?_;clear hi0 hz0 hz1 hz2;intro v1 w1 hown1 hgr1 _ _;replace hgr1 : World.grownBy _ w1 (some (wr.heap.size + 1)) := hgr1;have he1 : Ext wr w1 := Below.grown (show Ext wr _ from xt) hgr1 (by simp;omega) (fun q e => by cases e;omega);have HO1 := Lib.hid hown1;have HG1 := Lib.hid hgr1;simp only [Nat.zero_add,List.nil_append] at hown1;obtain ⟨A1,c1',rfl,_,_⟩ := ownsRow_shape hown1;have d0 : w1.cell? ⟨wr.heap.size,0,none⟩ = some (int .i64 x.scope) := (by rw [hgr1.cell_far ⟨wr.heap.size,0,none⟩ (by simp;omega) (by simp)];simp [go_sem]);have d1 : w1.cell? ⟨wr.heap.size,1,none⟩ = some (int .i64 x.depth) := (by rw [hgr1.cell_far ⟨wr.heap.size,1,none⟩ (by simp;omega) (by simp)];simp [go_sem]);have d2 : w1.cell? ⟨wr.heap.size,2,none⟩ = some (int .i64 x.exit) := (by rw [hgr1.cell_far ⟨wr.heap.size,2,none⟩ (by simp;omega) (by simp)];simp [go_sem]);have d3 : w1.cell? ⟨wr.heap.size,3,none⟩ = some (int .i64 x.mask) := (by rw [hgr1.cell_far ⟨wr.heap.size,3,none⟩ (by simp;omega) (by simp)];simp [go_sem]);have d4 : w1.cell? ⟨wr.heap.size,4,none⟩ = some (.slice (some ⟨b2,o2,f2⟩) x.handlers.length ca) := (by rw [hgr1.cell_far ⟨wr.heap.size,4,none⟩ (by simp;omega) (by simp)];simp [go_sem]);have df : w1.frozen? ⟨wr.heap.size,4,none⟩ = false := (by rw [hgr1.frozen_far ⟨wr.heap.size,4,none⟩ (by simp;omega) (by simp)];simp [go_sem]);have hs1 : wr.heap.size + 1 + 1 ≤ w1.heap.size := (by simpa using hgr1.size);clear hown1 hgr1) | (at_builtin;obtain ⟨i0,hi0,hz0,hz1,hz2⟩ := info_parts infoBlk;refine wpList_append_own_at _ rfl (.tmp 47) (.tmp 49) _ rfl W1.heap.size 55 i0 _ 5 56 Tryz.underlying30 hi0 hz0 hz1 hz2 rfl (by omega) _ j _ rfl (HRW.out _ (((he1.setCell (Nat.le_refl _) _).alloc _))) ⟨w1.heap.size,0,none⟩ 1 1 (blkCells x (.slice A1 x.handlers.length c1')) rfl rfl (fun q u hq => by rw [addr_add];simpa [go_sem,blkCells] using hq) (blkCells_one x _ rfl) (by simp only [maxLen];omega) (by omega) (by simp;omega) ?_;clear hi0 hz0 hz1 hz2;intro v2 w2 hown2 hgr2 _ _;have HO2 := Lib.hid hown2;have HG2 := Lib.hid hgr2;obtain ⟨A2,c2',rfl,_,_⟩ := ownsRow_shape hown2;clear hown2 hgr2))
      have hlk : (t.blocks.take j).length = j := by rw [List.length_take];have := LB.out;omega
      have htk : t.blocks.take j ++ [x] = t.blocks.take (j + 1) := by rw [List.take_add_one,HFk.out];rfl
      have he2 : Ext wr ((w1.setCell ⟨wr.heap.size,4,none⟩ (.slice A1 x.handlers.length c1')).alloc (.cells #[int .i64 x.scope,int .i64 x.depth,int .i64 x.exit,int .i64 x.mask,.slice A1 x.handlers.length c1'] 55)) := (he1.setCell (Nat.le_refl _) _).alloc _
      have hvP : ((w1.setCell ⟨wr.heap.size,4,none⟩ (.slice A1 x.handlers.length c1')).alloc (.cells #[int .i64 x.scope,int .i64 x.depth,int .i64 x.exit,int .i64 x.mask,.slice A1 x.handlers.length c1'] 55)).ownsRow wr.heap.size 58 2 (.slice A1 x.handlers.length c1') (blkN t.blocks (t.blocks.take j).length) (blkC t.blocks gs (t.blocks.take j).length) := by
       rw [hlk,blkN_at HFk.out,blkC_at HFk.out HGk.out]
       have h1 : w1.ownsRow (wr.heap.size + 1) 58 2 (.slice A1 x.handlers.length c1') x.handlers.length (rowOf hdlCells x.handlers ga) := by have h := HO1.out;rwa [Nat.zero_add,List.nil_append] at h
       exact World.ownsRow.mono (ownsRow_ext (own_setCell h1 (show wr.heap.size < _ by omega)) ((Ext.refl _).alloc _)) (by omega)
      have hpu := Cp.push (fs := t.blocks.take j) (f := x) (by decide) HCb.out he2 hwsz hvP (by rw [hlk];exact HO2.out) HG2.out
      rw [htk] at hpu
      have HPu := Lib.hid hpu
      have HE2 : Hid (Ext W1 w2) := Below.grown (HEb'.trans he2) HG2.out (by have := he2.size;omega) (fun q e => ((HRW.out wr (Ext.refl _)).lt q e).1)
      clear hpu hvP
      go_roundg (nb - (j + 1))
      case measure => omega
      case rel => exact ⟨j + 1,A2,c2',_,by omega,by omega,rfl,by go_num,HE2,HPu⟩
    ·have hltz : ¬ (j : Int) < (nb : Int) := by omega
     obtain rfl : j = nb := by omega
     have HEw : Hid (Ext w wr) := HE1.out.trans HEb.out
     have HOF2 := Lib.hid (HOF.out.mono HEb.out)
     have HCb' : Hid (CpB gs W1.heap.size wr t.blocks (.slice A6 j c6) hs hs t.blocks.length) := by have h0 := HCb.out;rw [LB.out,List.take_length] at h0;rw [LB.out];exact h0
     have R2 := range_ext HB1.out HEb.out
     have T2 := there_ext HT1.out HEb.out
     have U2 := there_ext HU1.out HEb.out
     have f7 : wr.frozen? ⟨w.heap.size,7,none⟩ = false := (T2 7 (by omega)).2
     have f8 : wr.frozen? ⟨w.heap.size,8,none⟩ = false := (T2 8 (by omega)).2
     have k7' : wr.cell? ⟨w.heap.size,7,none⟩ = some (.slice Af k cf) := R2 7 _ rfl
     have HAV : Hid (∀ P,ArgsOk P w t (.agg #[int .i64 t.fn,int .i64 t.scope,int .i64 t.prio,int .i64 t.status,int .i64 t.wkind,int .i64 t.windex,.bool t.wagain,.slice Af k cf,.slice Ab j cb,int .i64 t.mask,.bool t.unw,int .i64 t.level,int .i64 t.reason,int .i64 t.result]) → ∀ (i : Nat) (b : Blk) (a : List Value),t.blocks[i]? = some b → gs[i]? = some a → ∀ (q : Nat) (h : Hdl) (v : Value),b.handlers[q]? = some h → a[q]? = some v → P h v) := by
      intro P hA i b a e1 e2 q h v e3 e4
      obtain ⟨bb,off,Aa,ca,eA,_,_,hgal,hAc,_,_,_,_,_,c4⟩ := HGP.out i a e2 b e1
      obtain ⟨y,z,hy,hyc⟩ := hAc.2 (by have := (List.getElem?_eq_some_iff.1 e3).1;omega)
      exact hA _ Ab j cb rfl rfl i b e1 bb off eA Aa _ ca (by rw [← Nat.add_assoc];exact H0.out.cell c4) q h e3 y z hy v (H0.out.cell (hyc (q * 2 + 1) v (by rw [rowOf_get hdlCells_len e3 e4 (by omega)];rfl)))
     have fin : Hid (∀ vs,(∃ rs,OFr w.heap.size (((wr.setCell ⟨w.heap.size,7,none⟩ (.slice A3 k c3)).setCell ⟨w.heap.size,8,none⟩ (.slice A6 j c6)).setCells (w.heap.size + 1) 0 vs) t.frames (.slice A3 k c3) rs) ∧ (∃ hs gs,OBlW w0 w t (.agg #[int .i64 t.fn,int .i64 t.scope,int .i64 t.prio,int .i64 t.status,int .i64 t.wkind,int .i64 t.windex,.bool t.wagain,.slice Af k cf,.slice Ab j cb,int .i64 t.mask,.bool t.unw,int .i64 t.level,int .i64 t.reason,int .i64 t.result]) w.heap.size (((wr.setCell ⟨w.heap.size,7,none⟩ (.slice A3 k c3)).setCell ⟨w.heap.size,8,none⟩ (.slice A6 j c6)).setCells (w.heap.size + 1) 0 vs) (.slice A6 j c6) hs gs) ∧ Ext w (((wr.setCell ⟨w.heap.size,7,none⟩ (.slice A3 k c3)).setCell ⟨w.heap.size,8,none⟩ (.slice A6 j c6)).setCells (w.heap.size + 1) 0 vs)) := fun vs => by
      have g1 : wr.grownBy _ (some w.heap.size) := grown_setCell wr ⟨w.heap.size,7,none⟩ (.slice A3 k c3)
      have g2 : World.grownBy _ _ (some w.heap.size) := grown_setCell (wr.setCell ⟨w.heap.size,7,none⟩ (.slice A3 k c3)) ⟨w.heap.size,8,none⟩ (.slice A6 j c6)
      have g3 := setCells_grown (w.heap.size + 1) vs 0 ((wr.setCell ⟨w.heap.size,7,none⟩ (.slice A3 k c3)).setCell ⟨w.heap.size,8,none⟩ (.slice A6 j c6))
      have he3 := Ext.setCells ((HEw.out.setCell (p := ⟨w.heap.size,7,none⟩) (Nat.le_refl _) (.slice A3 k c3)).setCell (p := ⟨w.heap.size,8,none⟩) (Nat.le_refl _) (.slice A6 j c6)) (Nat.le_succ _) 0 vs
      refine ⟨⟨rs,(((HOF2.out.far g1 (by omega)).far g2 (by omega)).far g3 (by omega)).base (by omega)⟩,⟨hs,gs,fun L hL => ?_,HAV.out⟩,he3⟩
      refine OBl.base (CpB.done (((HCb'.out.kept g1 (by omega)).kept g2 (by omega)).kept g3 (by omega)) HGL.out (fun i b a hb ha => ?_) HIB.out) (by omega)
      obtain ⟨_,_,_,_,_,_,_,h1,_,h2,_⟩ := HGP.out i a ha b hb
      exact ⟨h1,fun q x v hx hv => ⟨(h2 q x v hx hv).1,(h2 q x v hx hv).2.mono (H0.out.trans he3),(h2 q x v hx hv).2.low hL⟩⟩
     clear HCb HCb' HOF HOF2 HGP HB1 HT1 HU1
     go_wp2_with (first | ((first | (with_reducible refine jl 32 ?_) | (with_reducible refine il 32 ?_));refine ldm Tryz.underlying32 rfl rfl rfl (by exact rg) rfl (by exact infoTsk) ?_;dsimp only [dZ,dS]) | ((with_reducible refine ik 32 ?_);refine stm rfl rfl rfl rfl (by exact tr) infoTsk (all_oneCell_toArray (by simp [Value.oneCell'])) ?_;(try dsimp only [Act.put])))
     refine ret_range (b := w.heap.size + 1) Tryz.results73 rfl rfl rfl (World.rangeAt_setCells_same _ _ 0 _ (by exact tr)) ?_
     exact ⟨_,_,rfl,fin.out _⟩
end Go.Proofs.YtcjjoabofecjmaaGreat
namespace Go.Proofs.YtcjjoabofecjmaaGreat
open Go.RowKit Go.Sort
open Go.Value (int)
structure Bs where
 w : World
 S : List Nat
 lt : ∀ y ∈ S,y < w.heap.size
def Bs.heap (b : Bs) : Array Obj := b.w.heap
structure BExt (b : Bs) (W : World) : Prop where
 os : W.os = b.w.os
 tape : W.tape = b.w.tape
 output : W.output = b.w.output
 size : b.heap.size ≤ W.heap.size
 block : ∀ k,k < b.heap.size → k ∉ b.S → W.heap[k]? = b.w.heap[k]?
theorem BExt.refl (b : Bs) : BExt b b.w := ⟨rfl,rfl,rfl,Nat.le_refl _,fun _ _ _ => rfl⟩
theorem BExt.trans {b : Bs} {W W' : World} (h : BExt b W) (k : Ext W W') : BExt b W' :=
 ⟨k.os.trans h.os,k.tape.trans h.tape,k.output.trans h.output,Nat.le_trans h.size k.size,fun i hi hs => (k.block i (Nat.lt_of_lt_of_le hi h.size)).trans (h.block i hi hs)⟩
def BLow (b : Bs) (L : List Value) : Prop := ∀ r ∈ L,∀ x,r.ownBlock = some x → b.heap.size ≤ x ∨ x ∈ b.S
theorem blow_nil (b : Bs) : BLow b [] := by unfold BLow;simp
def PS (S : List Nat) (h : Hdl) (v : Value) : Prop := h.args = [] ∨ ∀ x,v.ownBlock = some x → x ∉ S
def BRd (b : Bs) (W : World) (t : Tsk) (V : Value) : Prop := RTsk W t V ∧ ArgsOk (PS b.S) W t V
def BTsk (b : Bs) (t : Tsk) (V : Value) : Prop := ∀ W,BExt b W → BRd b W t V
theorem BTsk.mono {b : Bs} {t : Tsk} {V : Value} (h : BTsk b t V) {W : World} (k : BExt b W) : RTsk W t V := (h W k).1
def BPrg (b : Bs) (p : Prg) (V : Value) : Prop := ∀ W,BExt b W → RPrg W p V
theorem BPrg.mono {b : Bs} {p : Prg} {V : Value} (h : BPrg b p V) {W : World} (k : BExt b W) : RPrg W p V := h W k
def BInts (b : Bs) (A : Option Addr) (m : Nat) (xs : List Int) : Prop := ∀ W,BExt b W → RSl 1 RInt W A m xs
theorem BInts.mono (_ : Stays RInt) {b : Bs} {A : Option Addr} {m : Nat} {xs : List Int} (h : BInts b A m xs) {W : World} (k : BExt b W) : RSl 1 RInt W A m xs := h W k
theorem BInts.len {b : Bs} {A : Option Addr} {m : Nat} {xs : List Int} (h : BInts b A m xs) : m = xs.length := (h _ (BExt.refl b)).len
def trunc (w : World) (n : Nat) : World := { w with heap := w.heap.extract 0 n }
theorem trunc_size {w : World} {n : Nat} (h : n ≤ w.heap.size) : (trunc w n).heap.size = n := by
 show (w.heap.extract 0 n).size = n
 rw [Array.size_extract];omega
theorem trunc_get {w : World} {n k : Nat} (h : n ≤ w.heap.size) (hk : k < n) : (trunc w n).heap[k]? = w.heap[k]? := by
 show (w.heap.extract 0 n)[k]? = _
 rw [Array.getElem?_extract,if_pos (by omega),Nat.zero_add]
theorem trunc_ext {w : World} {n : Nat} (h : n ≤ w.heap.size) : Ext (trunc w n) w :=
 ⟨rfl,rfl,rfl,by rw [trunc_size h];exact h,fun k hk => by rw [trunc_size h] at hk;exact (trunc_get h hk).symm⟩
theorem trunc_bext {b : Bs} {w : World} (h : BExt b w) : BExt b (trunc w b.heap.size) :=
 ⟨h.os,h.tape,h.output,by rw [trunc_size h.size];exact Nat.le_refl _,fun k hk hs => (trunc_get h.size hk).trans (h.block k hk hs)⟩
theorem RSl.backB {b : Bs} {W W' : World} {A : Option Addr} {n : Nat} {xs : List Int} (hE : BExt b W) (hE' : BExt b W') (h : RSl 1 RInt W A n xs) (hl : xs = [] ∨ ∀ y o s,A = some ⟨y,o,s⟩ → y < b.heap.size ∧ y ∉ b.S) : RSl 1 RInt W' A n xs := by
 refine ⟨h.1,h.2.1,fun k x hk => ?_⟩
 obtain ⟨y,off,cs,hA,h1,h2,h3⟩ := h.2.2 k x hk
 have hb : y < b.heap.size ∧ y ∉ b.S := by
  rcases hl with e | e
  ·subst e;simp at hk
  ·exact e _ _ _ hA
 refine ⟨y,off,cs,hA,h1,h2,fun j v hj => ?_⟩
 have h4 := h3 j v hj
 rw [World.cell?_of_block ((hE'.block y hb.1 hb.2).trans (hE.block y hb.1 hb.2).symm)]
 exact h4
theorem ownB_any (t : Tsk) (V : Value) (w0 : Bs) (w : World) (hV0 : BTsk w0 t V) (h0 : BExt w0 w) (hnf : t.frames.length ≤ 1000) (hnb : t.blocks.length ≤ 1000) (hnr : ∀ f : Frm,f ∈ t.frames → f.regs.length ≤ 1000) (hnh : ∀ b : Blk,b ∈ t.blocks → b.handlers.length ≤ 1000) :
  Calls Tryz.prog 73 #[V] w fun e w' => ∃ VF VB rs hs gs,e = .returned (.agg #[int .i64 t.fn,int .i64 t.scope,int .i64 t.prio,int .i64 t.status,int .i64 t.wkind,int .i64 t.windex,.bool t.wagain,VF,VB,int .i64 t.mask,.bool t.unw,int .i64 t.level,int .i64 t.reason,int .i64 t.result]) ∧
   OFr w.heap.size w' t.frames VF rs ∧ (∀ L,BLow w0 L → OBl w.heap.size w' t.blocks VB hs gs L) ∧ Ext w w' :=
 (own_args t V (trunc w w0.heap.size) w (hV0.mono (trunc_bext h0)) (trunc_ext h0.size) hnf hnb hnr hnh).mono fun e w' ⟨VF,VB,rs,hs,gs,h1,h2,⟨h3,h5⟩,h4⟩ => ⟨VF,VB,rs,hs,gs,h1,h2,fun L hL => by
  have hA := h5 (PS w0.S) (hV0 w h0).2
  refine OBl.relist (h3 [] (low_nil _)) fun i b a e1 e2 k x v e3 e4 => ?_
  by_cases hx : x.args = []
  ·exact .inl hx
  refine .inr fun r hr => ?_
  cases hy : r.ownBlock with
  | none => exact .inl hy
  | some y =>
   rcases hL r hr y hy with h | h
   ·rcases ((h3 [r] (fun q hq z hz => by
     rw [List.mem_singleton] at hq
     subst hq
     rw [hy] at hz
     injection hz with hz
     rw [trunc_size h0.size];omega)).arg i b a k x v e1 e2 e3 e4).2.2 with h6 | h6
    ·exact absurd h6 hx
    ·exact h6 r (List.mem_singleton.2 rfl)
   ·rcases hA i b a e1 e2 k x v e3 e4 with h6 | h6
    ·exact absurd h6 hx
    ·exact .inr fun e => h6 y (by rw [← e];exact hy) h,h4⟩
theorem bl_args {w0 : Bs} {B : Nat} {w : World} {bs : List Blk} {VB : Value} {hs : List Value} {gs : List (List Value)} (h : ∀ L,BLow w0 L → OBl B w bs VB hs gs L) : AllArgs (PS w0.S) bs gs := fun i b a e1 e2 k x v e3 e4 => by
 by_cases hx : x.args = []
 ·exact .inl hx
 ·refine .inr fun y hy hS => ?_
  rcases ((h [.slice (some ⟨y,0,none⟩) 0 0] (fun r hr z hz => by
   rw [List.mem_singleton] at hr
   subst hr
   injection hz with hz
   subst hz
   exact .inr hS)).arg i b a k x v e1 e2 e3 e4).2.2 with h | h
  ·exact hx h
  ·rcases h _ (List.mem_singleton.2 rfl) with h | h
   ·cases h
   ·exact h (by rw [hy];rfl)
theorem bext_old {b : Bs} {w W : World} (hw : Ext w b.w) (hS : ∀ y ∈ b.S,w.heap.size ≤ y) (h : BExt b W) : Ext w W :=
 ⟨h.os.trans hw.os,h.tape.trans hw.tape,h.output.trans hw.output,Nat.le_trans hw.size h.size,fun k hk => (h.block k (Nat.lt_of_lt_of_le hk hw.size) (fun hs => by have := hS k hs;omega)).trans (hw.block k hk)⟩
theorem btsk_old {b : Bs} {w : World} {t : Tsk} {V : Value} (hT : RTsk w t V) (hw : Ext w b.w) (hS : ∀ y ∈ b.S,w.heap.size ≤ y) : BTsk b t V := fun W h => by
 have hX := bext_old hw hS h
 refine ⟨hT.mono hX,fun cs A n c e1 e2 i bk hb x o hA Ah nh ch hc k hd hk y q hy v hv => ?_⟩
 rcases (args_low hT).mono hT hX cs A n c e1 e2 i bk hb x o hA Ah nh ch hc k hd hk y q hy v hv with h | h
 ·exact .inl h
 ·exact .inr fun z hz hs => by have := h z hz;have := hS z hs;omega
end Go.Proofs.YtcjjoabofecjmaaGreat

