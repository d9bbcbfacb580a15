/- A part of the proof: call of the reference of layer 28; register of the reference. -/
import Derived.Test.YtcjjoabofecjmaaGreatQ44
set_option linter.unusedVariables false
set_option linter.unusedSimpArgs false
set_option maxHeartbeats 16000000
namespace Go.Proofs.YtcjjoabofecjmaaGreat
open Go.RowKit Go.Sort
open Go.Value (int)
theorem Ownd.anew {w0 : Bs} {w : World} {b : Nat} {W : World} {t u : Tsk} {VF VF' VB : Value} {rs' hs : List Value} {gs : List (List Value)} (hF : OFr w.heap.size W u.frames VF' rs') (hB : ∀ L,BLow w0 L → OBl w.heap.size W t.blocks VB hs gs L) (hbx : W.rangeAt b 0 (tskL t VF VB)) (hth : W.there b 0 14) (hX : Ext w W) (h0 : BExt w0 w) (hc : Cold W b) (hb : w.heap.size ≤ b) (hbl : u.blocks = t.blocks) (h3 : (tskL t VF VB).set 7 VF' = tskL u VF' VB) :
  Ownd w0 w b (W.setCell ⟨b,7,none⟩ VF') u VF' VB rs' hs gs := by
 have hG := grown_setCell W ⟨b,7,none⟩ VF'
 have he0 := h0.size
 refine ⟨hF.kept hG (row_cold hF.row (by decide) hc) (fun y hy => by obtain ⟨m,xs,hh⟩ := fr_rows hF hy;exact row_cold hh (by decide) hc),fun L hL => ?_, ?_,there_set hth,hX.setCell (show w.heap.size ≤ b from hb) _,h0⟩
 ·rw [hbl]
  have hB1 := hB (.slice (some ⟨b,0,none⟩) 0 0 :: L) (fun r hr y hy => by
   rcases List.mem_cons.1 hr with rfl | hr
   ·simp only [Value.ownBlock,Option.some.injEq] at hy;exact .inl (by omega)
   ·exact hL r hr y hy)
  exact (hB1.wrote hG (row_cold hB1.row (by decide) hc) (fun y hy => by obtain ⟨m,xs,hh⟩ := bl_rows hB1 hy;exact row_cold hh (by decide) hc) List.mem_cons_self rfl).list fun r' hr' => ⟨r',List.mem_cons_of_mem _ hr',rfl⟩
 ·rw [← h3];exact range_same hbx
theorem infoFrm5 : (Tryz.prog.info? 62).map (·.size) = some 5 := by kernel_rfl
theorem regS_inR {f : Frm} (h : ∀ x ∈ f.regs,InR x) (k : Int) : InR (regS f k) := by
 unfold regS
 rw [List.getD_eq_getElem?_getD]
 cases hk : f.regs[k.toNat]? with
 | none => exact zero_in
 | some v => exact h v (List.mem_of_getElem? hk)
set_option maxRecDepth 8000 in
theorem call_go (p : Prg) (t : Tsk) (f : Frm) (x : Ins) (g : Fnc) (N2 : Nat) (VF VB VP : Value) (A : Option Addr) (m c : Nat) (w0 : Bs) (w : World) (hP : BPrg w0 p VP) (hT : BTsk w0 t (.agg (tskL t VF VB).toArray)) (h0 : BExt w0 w) (hf : topF t = some f) (hz : Siz t) (hpc : 0 ≤ f.pc ∧ f.pc ≤ 1000) (hpl : plainN t < 8) (h9 : t.frames.length ≤ 900)
  (hx : BInts w0 A m x.args) (hxa : InR x.a ∧ InR x.b) (ha : ∀ a ∈ x.args,0 ≤ a ∧ a < f.regs.length) (hg : fnAt p x.b = some g) (hN : g.regs = (N2 : Int)) (hN2 : x.args.length ≤ N2 ∧ N2 ≤ 1000) :
  Calls Tryz.prog 98 #[VP,.agg (tskL t VF VB).toArray,.agg #[int .i64 x.op,int .i64 x.a,int .i64 x.b,int .i64 x.c,.slice A m c]] w (ResPost ({ t with frames := t.frames.set (t.frames.length - 1) { f with pc := f.pc + 1 } ++ [⟨x.b,0,regsOf N2 (argsOf f x.args),x.a,false⟩] },goOn) w0 w) := by
 obtain ⟨Af,cf,Ab,cb,rfl,rfl,_,_,_,_⟩ := (hT.mono h0).two
 have HT := Lib.hid hT
 have HI := Lib.hid (hT.mono h0).inr
 have H0 := Lib.hid h0
 have HSZ := Lib.hid hz
 have hFk : t.frames[t.frames.length - 1]? = some f := hf
 have HFk := Lib.hid hf
 have hpos : 0 < t.frames.length := by
  have := (List.getElem?_eq_some_iff.1 hFk).1;omega
 have hle : t.frames.length ≤ 9223372036854775807 := by have := hz.1;omega
 obtain ⟨Pf,nf,kf,Po,no,ko,Pv,nv,kv,rfl,hFn,_⟩ := hP.mono h0
 obtain ⟨g0,g1,g2⟩ := fnAt_some hg
 obtain ⟨kb,hkb⟩ : ∃ kb : Nat,x.b = (kb : Int) := ⟨x.b.toNat,by omega⟩
 obtain ⟨bF,off,Ac,nc,cc,rfl,hlb,_,_,_,_,_,_,_,d2,_,_,_⟩ := hFn.fnc g2
 rw [hkb,Int.toNat_natCast,hN] at d2
 have hkl : (kb : Int) < (nf : Int) := by have := hFn.len;omega
 have hnfl := hFn.le
 have dd := d2
 have zz := lt_of_cell dd
 have HX := Lib.hid hx
 have HXA := Lib.hid hxa
 have HA := Lib.hid ha
 have hml := hx.len
 have HML : Hid (m = x.args.length) := hml
 have HN2 := Lib.hid hN2
 have HKB : Hid (x.b = (kb : Int)) := hkb
 have hwp : wrap64 (f.pc + 1) = f.pc + 1 := by unfold wrap64;omega
 have hsN : IntKind.i64.wrap ((t.frames.length : Int) - 1) = ((t.frames.length - 1 : Nat) : Int) := by rw [IntWalk.i64_in _ (by omega)];omega
 have hs1N : ((t.frames.length - 1 : Nat) : Int) < (t.frames.length : Int) := by omega
 have hs2N : (0 : Int) ≤ ((t.frames.length - 1 : Nat) : Int) := by omega
 have hmz : m ≤ 1000 := by omega
 have HPL : Hid (∀ W,Ext w W → Calls Tryz.prog 88 #[.agg (tskL t (.slice Af t.frames.length cf) (.slice Ab t.blocks.length cb)).toArray] W fun e w' => e = .returned (.int .i64 (plainN t)) ∧ Ext W w') := fun W hW => plain_any t _ W (hT.mono (h0.trans hW))
 obtain ⟨pn,hpn⟩ : ∃ n,plainN t = n := ⟨_,rfl⟩
 rw [hpn] at HPL hpl
 have hge : ¬ (8 : Int) ≤ (pn : Int) := by omega
 unfold Siz at hz
 have HZ := Lib.hid hz
 clear hT hf hz h0 hFk hFn d2 hlb hg g0 g1 g2 hN hx hxa ha hml hN2 hpn hpl
 rw [hkb]
 clear hkb
 unfold tskL at HT HPL ⊢
 go_enter Tryz.func98,Tryz.ntmps98
 go_upto_region 3 with (first | ((first | (with_reducible refine jl 32 ?_) | (with_reducible refine il 32 ?_));refine ldm Tryz.underlying32 rfl rfl rfl (by exact rg) rfl (by exact infoTsk) ?_;dsimp only [dZ,dS]) | (go_at_call 88;refine (HPL.out _ xt).mono ?_;rintro e w2 ⟨rfl,hb⟩;have R2 := range_ext (b := w.heap.size + 1) (o := 0) (by exact rg) hb;have T2 := there_ext (b := w.heap.size + 1 + 1 + 1) (o := 0) (n := 17) (by exact tr) hb;have Q2 := range_ext (b := w.heap.size) (o := 0) (cs := [.slice (some ⟨bF,off,none⟩) nf kf,.slice Po no ko,.slice Pv nv kv]) (by exact rg) hb;have I2 := range_ext (b := w.heap.size + 1 + 1) (o := 0) (cs := [int .i64 x.op,int .i64 x.a,int .i64 (kb : Int),int .i64 x.c,.slice A m c]) (by exact rg) hb;have HCD : Hid (Cold w2 (w.heap.size + 1 + 1 + 1)) := (cold_new (b := w.heap.size + 1 + 1 + 1) (by simp) rfl).ext hb;have HE2 : Hid (Ext w w2) := Ext.trans xt hb;have hz2 : w.heap.size + 1 + 1 + 1 < w2.heap.size := (by have := hb.size;simp at this;omega);clear hb))
 go_upto_region 4 with (first | ((first | (with_reducible refine jl 32 ?_) | (with_reducible refine il 32 ?_));refine ldm Tryz.underlying32 rfl rfl rfl (by exact rg) rfl (by exact infoTsk) ?_;dsimp only [dZ,dS]) | ((with_reducible refine ik 32 ?_);refine stm rfl rfl rfl rfl (by exact tr) infoTsk (all_oneCell_toArray (by simp [Value.oneCell'])) ?_;(try dsimp only [Act.put])) | (go_at_call 73;(with_reducible refine (ownB_any t _ w0 _ HT.out (H0.out.trans HE2.out) HZ.out.1 HZ.out.2.1 HZ.out.2.2.1 HZ.out.2.2.2).mono ?_);rintro e w3 ⟨VF,VB,rs,hs,gs,rfl,hOF,hOB,hb⟩;have U3 := there_ext T2 hb;have Q3 := range_ext Q2 hb;have I3 := range_ext I2 hb;have HX3 : Hid (Ext w w3) := Ext.trans HE2.out hb;have HCD3 : Hid (Cold w3 (w.heap.size + 1 + 1 + 1)) := HCD.out.ext hb;have HOF := Lib.hid (hOF.base (B' := w.heap.size) (by omega));have HOB := Lib.hid (fun L hL => (hOB L hL).base (B' := w.heap.size) (by omega));have hz3 : w.heap.size + 1 + 1 + 1 < w3.heap.size := (by have := hb.size;omega);obtain ⟨gF,cF,rfl,hgF⟩ := own_form HOF.out.row hpos;obtain ⟨AB,cB,rfl,hcB,_⟩ := ownsRow_shape (HOB.out [] (blow_nil _)).row;have hgF2 : w2.heap.size ≤ gF := (hOF.row.lt gF rfl).1;clear hOF hOB hb))
 refine wp_hid2 ?_
 intro W4 HW4
 obtain ⟨HO,hX4⟩ := ownd_new H0.out HOF.out HOB.out HX3.out rfl HW4.out
 have U4 := there_ext U3 hX4
 have Q4 := range_ext Q3 hX4
 have I4 := range_ext I3 hX4
 have HE4 : Hid (Ext w W4) := HX3.out.trans hX4
 have hc4 : Cold W4 (w.heap.size + 1 + 1 + 1) := HCD3.out.ext hX4
 have hb4 : Cold W4 w3.heap.size := by rw [HW4.out];exact cold_sets _ (Cold.alloc rfl) _ _
 obtain ⟨vr,hvr⟩ : ∃ u,rs[t.frames.length - 1]? = some u := ⟨_,List.getElem?_eq_getElem (by rw [HO.fr.len];omega)⟩
 obtain ⟨Ar,cr,rfl,hcr,_⟩ := ownsRow_shape (HO.fr.reg _ f vr HFk.out hvr)
 have C4 := HO.cells HFk.out hvr
 have hfi := HO.fr.inr f (List.mem_of_getElem? HFk.out)
 have HRI := Lib.hid ((own_ints (HO.fr.reg _ f _ HFk.out hvr) (HZ.out.2.2.1 f (List.mem_of_getElem? HFk.out)) hfi.2.2.2).1)
 have b7 : W4.cell? ⟨w3.heap.size,7,none⟩ = some (.slice (some ⟨gF,0,none⟩) t.frames.length cF) := HO.box 7 _ rfl
 have i4 : W4.cell? ⟨w.heap.size + 1 + 1,4,none⟩ = some (.slice A m c) := I4 4 _ rfl
 have zB := lt_of_cell b7
 have HZ4 : Hid (w3.heap.size < W4.heap.size) := zB
 have zI := lt_of_cell i4
 have hgFb : ¬ gF = w3.heap.size := by have := (HOF.out.row.lt gF rfl).2;omega
 have HO4 := Lib.hid HO
 have HVR := Lib.hid hvr
 clear HW4 hX4 U3 Q3 I3 R2 T2 Q2 I2 HO hvr
 have HFI := Lib.hid hfi
 clear hfi
 go_upto_region 5 with fail
 refine wp_region_th 8 (fun W' => Ext W4 W' ∧ W'.cell? ⟨w3.heap.size,7,none⟩ = some (.slice (some ⟨gF,0,none⟩) t.frames.length cF) ∧ W'.cell? ⟨w.heap.size + 1 + 1,4,none⟩ = some (.slice A m c)) (by kernel_rfl) (by kernel_rfl) (by kernel_rfl) (by kernel_rfl) (by decide) ?_ ?_
 ·exact ⟨xt,by go_simp,by go_simp⟩
 intro hT hHeld
 (refine tht 0 hT ?_;(try simp only [Act.put,aset,dZ,dS]);refine tht 1 hT ?_;(try simp only [Act.put,aset,dZ,dS]);refine tht 2 hT ?_;(try simp only [Act.put,aset,dZ,dS]);refine tht 3 hT ?_;(try simp only [Act.put,aset,dZ,dS]))
 (refine th_take (i := 4) (oi := ?oi4_20) (v := ?v4_20) hT ?hi4_20 (by decide) (by kernel_rfl) (by kernel_rfl) ?hq4_20 (Or.inl ⟨?hw4_20, ?hy4_20⟩) (by assumption) ?rest4_20;(case hi4_20 => (simp only [List.getElem?_toArray,List.getElem?_cons_zero,List.getElem?_cons_succ];rfl));(case hw4_20 => rfl);(case hy4_20 => (intro w' hSw;refine Eq.trans (exec_load_mid 62 _ (by rfl) gF ((t.frames.length - 1) * 5) (by rfl) _ _ Tryz.underlying62 (by rfl) ?hiL4_20 w' (range_ext C4 hSw.1)) ?eqL4_20;(case eqL4_20 => with_reducible rfl);exact infoFrm5));(case hq4_20 => (exact fun _ _ _ h => h));(try simp only [Act.put,aset,dZ,dS]))
 (refine tht 5 hT ?_;(try simp only [Act.put,aset,dZ,dS]);refine tht 6 hT ?_;(try simp only [Act.put,aset,dZ,dS]))
 refine tst 7 (fun K hK => ?_)
 go_simp
 go_at_call 149
 refine (rarguments_any f x.args A Ar m c f.regs.length cr f.fn f.pc f.result f.cleanup _ ((HX.out.mono RInt.stays H0.out).mono RInt.stays (HE4.out.trans hHeld.1)) hmz (HRI.out.mono RInt.stays hHeld.1) HA.out).mono ?_
 rintro e w5 ⟨va,rfl,hva,hb5⟩
 dsimp only
 have HVA := Lib.hid hva
 have HX5 : Hid (Ext W4 w5) := hHeld.1.trans hb5
 have HDS := Lib.hid hHeld.1.size
 refine hK.out _ _ ⟨hHeld.1.trans hb5,hb5.cell hHeld.2.1,hb5.cell hHeld.2.2⟩ (fun hHeld2 => ?_)
 clear hK K hb5 hva
 (try simp only [Act.put,aset,dZ,dS])
 refine th_done (by kernel_rfl) ?_
 simp only [List.drop_succ_cons,List.drop_zero]
 go_upto_region 6 with fail
 have HVA2 : Hid (w5.ownsRow W4.heap.size 3 1 va m ((argsOf f x.args).map (int .i64))) := World.ownsRow.mono HVA.out (by have := HDS.out;omega)
 obtain ⟨Av,cv,rfl,hcv,_⟩ := ownsRow_shape HVA2.out
 have HO5 := Lib.hid (HO4.out.mono HX5.out)
 have U5 := there_ext U4 HX5.out
 have Q5 := range_ext Q4 HX5.out
 have I5 := range_ext I4 HX5.out
 have hc5 := hc4.ext HX5.out
 have hb5' := hb4.ext HX5.out
 have d5 := (HE4.out.trans HX5.out).cell dd
 obtain ⟨q1,q2,_⟩ := HO5.out.pc (gF := gF) (cF := cF) rfl HFk.out hgFb (by omega)
 have b75 : w5.cell? ⟨w3.heap.size,7,none⟩ = some (.slice (some ⟨gF,0,none⟩) t.frames.length cF) := HO5.out.box 7 _ rfl
 have zF5 := lt_of_cell q1
 have zB5 := lt_of_cell b75
 have hW45 := HX5.out.size
 clear hHeld hHeld2 hT HO4 U4 Q4 I4 hc4 hb4 b7 i4 zB zI dd HVA HDS
 (refine wp_region_quiet_tail 12 (by kernel_rfl) (by kernel_rfl) ?_;(try simp only [List.take_succ_cons,List.take_zero,List.drop_succ_cons,List.drop_zero]);(repeat (go_big_quiet_step (fail)));refine wpQuiet_nil fun w1 h1 => ?_;obtain ⟨hc,hf,hs,he⟩ := eu (w := w5) h1 xt;clear h1;(try simp only [sA,sC,sD,sN] at hs))
 have HO6 := Lib.hid (HO5.out.mono he)
 have U6 := there_ext U5 he
 have Q6 := range_ext Q5 he
 have I6 := range_ext I5 he
 have hc6 := hc5.ext he
 have hb6 := hb5'.ext he
 have d6 := he.cell d5
 have HV6 := Lib.hid (ownsRow_ext HVA2.out he)
 obtain ⟨q4,q5,q6⟩ := HO6.out.pc (gF := gF) (cF := cF) rfl HFk.out hgFb (by omega)
 have HQ2 := Lib.hid (q6 (f.pc + 1) ⟨by omega,by omega⟩)
 clear q6 hc hf hs he HO5 q1 q2 b75 U5 Q5 I5 hc5 hb5' d5 HVA2 zF5 zB5
 go_upto_region 7 with fail
 refine wp_hid2 ?_
 intro W7 HW7
 have hzbF : bF < w.heap.size := zz
 have HO7 : Hid (Ownd w0 w w3.heap.size W7 (setTop t { f with pc := f.pc + 1 }) (.slice (some ⟨gF,0,none⟩) t.frames.length cF) (.slice AB t.blocks.length cB) rs hs gs) := by rw [Hid,HW7.out];exact HQ2.out
 have U7 : W7.there (w.heap.size + 1 + 1 + 1) 0 17 := by rw [HW7.out];exact there_set U6
 have Q7 : W7.rangeAt w.heap.size 0 [.slice (some ⟨bF,off,none⟩) nf kf,.slice Po no ko,.slice Pv nv kv] := by rw [HW7.out];exact range_other Q6 (show ¬ gF = w.heap.size by omega)
 have I7 : W7.rangeAt (w.heap.size + 1 + 1) 0 [int .i64 x.op,int .i64 x.a,int .i64 (kb : Int),int .i64 x.c,.slice A m c] := by rw [HW7.out];exact range_other I6 (show ¬ gF = w.heap.size + 1 + 1 by omega)
 have hc7 : Cold W7 (w.heap.size + 1 + 1 + 1) := by rw [HW7.out];exact hc6.setCell _ _
 have hb7 : Cold W7 w3.heap.size := by rw [HW7.out];exact hb6.setCell _ _
 have HV7 : Hid (W7.ownsRow W4.heap.size 3 1 (.slice Av m cv) m ((argsOf f x.args).map (int .i64))) := by rw [Hid,HW7.out];exact ownsRow_setCell_below HV6.out (show gF < W4.heap.size by have := (HOF.out.row.lt gF rfl).2;have := HZ4.out;omega) _
 have d7 : W7.cell? ⟨bF,off + kb * 6 + 2,none⟩ = some (int .i64 (N2 : Int)) := by rw [HW7.out,cell?_setCell_if,if_neg (fun e => by have e1 : gF = bF := e.1;omega)];exact d6
 have s0 : W7.cell? ⟨w3.heap.size,7,none⟩ = some (.slice (some ⟨gF,0,none⟩) t.frames.length cF) := HO7.out.box 7 _ rfl
 have s1 : W7.cell? ⟨w.heap.size + 1 + 1,2,none⟩ = some (int .i64 (kb : Int)) := I7 2 _ rfl
 have s2 : W7.cell? ⟨w.heap.size + 1 + 1,1,none⟩ = some (int .i64 x.a) := I7 1 _ rfl
 have s3 : W7.cell? ⟨w.heap.size,0,none⟩ = some (.slice (some ⟨bF,off,none⟩) nf kf) := Q7 0 _ rfl
 have zB7 := lt_of_cell s0
 have hs7 : w3.heap.size < W7.heap.size := zB7
 clear HW7 HQ2 U6 Q6 I6 hc6 hb6 d6 HV6 q4 q5 HO6
 obtain ⟨N,hN⟩ : ∃ N,t.frames.length = N := ⟨_,rfl⟩
 have hN9 : N ≤ 900 := by omega
 have hN0 : 0 < N := by omega
 have HN := Lib.hid hN
 have HL7 : Hid ((setTop t { f with pc := f.pc + 1 }).frames.length = N) := (List.length_set ..).trans hN
 have HRS : Hid (RSl 1 RInt W7 Av m (argsOf f x.args) ∧ m ≤ cv) := own_ints HV7.out hmz (fun y hy => by
  obtain ⟨j,hj,rfl⟩ := List.mem_map.1 hy
  exact regS_inR HFI.out.2.2.2 _)
 have hVF : ∀ y,(Value.slice (some ⟨gF,0,none⟩) N cF).ownBlock = some y → w2.heap.size ≤ y ∧ y < w3.heap.size := fun y hy => by
  have e1 : gF = y := by injection hy
  have e2 := (HOF.out.row.lt gF rfl).2
  omega
 have hbF7 : bF < W7.heap.size := by omega
 have hw7 : w.heap.size + 1 + 1 + 1 < W7.heap.size := by omega
 have hw7a : w.heap.size < W7.heap.size := by omega
 have hw7b : w.heap.size + 1 + 1 < W7.heap.size := by omega
 rw [hN] at s0 hsN hs1N hs2N
 clear hN
 refine wp_region_th 19 (fun W' => W'.cell? ⟨w3.heap.size,7,none⟩ = some (.slice (some ⟨gF,0,none⟩) N cF) ∧ W'.cell? ⟨w.heap.size,0,none⟩ = some (.slice (some ⟨bF,off,none⟩) nf kf) ∧ W'.cell? ⟨w.heap.size + 1 + 1,2,none⟩ = some (int .i64 (kb : Int)) ∧ W'.cell? ⟨w.heap.size + 1 + 1,1,none⟩ = some (int .i64 x.a) ∧ W'.cell? ⟨bF,off + kb * 6 + 2,none⟩ = some (int .i64 (N2 : Int))) (by kernel_rfl) (by kernel_rfl) (by kernel_rfl) (by kernel_rfl) (by decide) ?_ ?_
 ·(repeat' (with_reducible apply And.intro)) <;> go_simp
 intro hT hHeld
 (refine tht 0 hT ?_;(try simp only [Act.put,aset,dZ,dS]);refine tht 1 hT ?_;(try simp only [Act.put,aset,dZ,dS]);refine tht 2 hT ?_;(try simp only [Act.put,aset,dZ,dS]);refine tht 3 hT ?_;(try simp only [Act.put,aset,dZ,dS]);refine tht 4 hT ?_;(try simp only [Act.put,aset,dZ,dS]);refine tht 5 hT ?_;(try simp only [Act.put,aset,dZ,dS]);refine tht 6 hT ?_;(try simp only [Act.put,aset,dZ,dS]);refine tht 7 hT ?_;(try simp only [Act.put,aset,dZ,dS]);refine tht 8 hT ?_;(try simp only [Act.put,aset,dZ,dS]);refine tht 9 hT ?_;(try simp only [Act.put,aset,dZ,dS]);refine tht 10 hT ?_;(try simp only [Act.put,aset,dZ,dS]);refine tht 11 hT ?_;(try simp only [Act.put,aset,dZ,dS]))
 (refine tht 13 hT ?_;(try simp only [Act.put,aset,dZ,dS]);refine tht 14 hT ?_;(try simp only [Act.put,aset,dZ,dS]))
 refine tst 12 (fun K hK => ?_)
 go_simp
 go_at_call 62
 refine (rregs_any N2 (argsOf f x.args) Av m cv _ (HRS.out.1.mono RInt.stays xt) (by unfold argsOf;rw [List.length_map];exact HN2.out.1) HN2.out.2).mono ?_
 rintro e w6 ⟨g6,rfl,hg6,hown6,hb6⟩
 obtain ⟨hc6,hf6,hs6,he6⟩ := Ext.use (w := W7) hb6 xt
 have hown66 : Hid (w6.ownsRow W7.heap.size 3 1 (.slice (some ⟨g6,0,none⟩) N2 N2) N2 ((regsOf N2 (argsOf f x.args)).map (int .i64))) := hown6
 clear hb6 hown6
 (try simp only [World.size_drew] at hs6 hg6)
 have zw6 : w.heap.size + 1 + 1 + 1 < w6.heap.size := by omega
 have zw6a : w.heap.size < w6.heap.size := by omega
 have zw6b : w.heap.size + 1 + 1 < w6.heap.size := by omega
 have zR6 : w3.heap.size < w6.heap.size := by omega
 have zb6 : bF < w6.heap.size := by omega
 dsimp only
 refine hK.out _ _ ?_ (fun hHeld => ?_)
 ·(repeat' (with_reducible apply And.intro)) <;> go_simp
 clear hK K
 (try simp only [Act.put,aset,dZ,dS])
 (refine tht 15 hT ?_;(try simp only [Act.put,aset,dZ,dS]))
 refine tst 16 (fun K hK => ?_)
 go_simp
 refine hK.out _ _ ?_ (fun hHeld => ?_)
 ·(repeat' (with_reducible apply And.intro)) <;> go_simp
 clear hK K
 (try simp only [Act.put,aset,dZ,dS])
 refine tst 17 (fun K hK => ?_)
 have hE6 : Ext W7 (w6.alloc (.cells #[int .i64 (kb : Int),int .i64 0,.slice (some ⟨g6,0,none⟩) N2 N2,int .i64 x.a,.bool false] 62)) := he6.alloc _
 have HROW : Hid ((w6.alloc (.cells #[int .i64 (kb : Int),int .i64 0,.slice (some ⟨g6,0,none⟩) N2 N2,int .i64 x.a,.bool false] 62)).ownsRow w.heap.size 62 5 (.slice (some ⟨gF,0,none⟩) N cF) N (rowOf frmCells (setTop t { f with pc := f.pc + 1 }).frames rs)) := by
  have h9 := ownsRow_ext HO7.out.fr.row hE6
  rwa [HL7.out,HN.out] at h9
 obtain ⟨i0,hi0,hz0,hz1,hz2⟩ := info_parts infoFrm
 refine step_append_lies _ (by rfl) (.tmp 42) (.tmp 57) _ (by rfl) w.heap.size 62 i0 _ 5 56 Tryz.underlying29 hi0 hz0 hz1 hz2 rfl (by omega) _ N _ (by rfl) HROW.out ⟨w6.heap.size,0,none⟩ 1 1 (frmCells ⟨kb,0,regsOf N2 (argsOf f x.args),x.a,false⟩ (.slice (some ⟨g6,0,none⟩) N2 N2)) (by rfl) rfl (fun j u hj => by rw [addr_add];simpa [go_sem,frmCells] using hj) (frmCells_one _ _ rfl) (by omega) (by simp only [maxLen];omega) (by omega) (by simp;omega) _ rfl ?_
 clear hi0 hz0 hz1 hz2
 intro g7 cap7 w7 hown7 hgr7 hat7 hlt7
 have hneV : ∀ y,(y < w2.heap.size ∨ w3.heap.size ≤ y) → (Value.slice (some ⟨gF,0,none⟩) N cF).ownBlock ≠ some y := fun y h e => by have := hVF y e;omega
 have hz23 : w2.heap.size ≤ gF ∧ gF < w3.heap.size := hVF gF rfl
 have far7 : ∀ {b o : Nat} {v : Value},b < w6.heap.size → (Value.slice (some ⟨gF,0,none⟩) N cF).ownBlock ≠ some b → w6.cell? ⟨b,o,none⟩ = some v → w7.cell? ⟨b,o,none⟩ = some v := fun {b o v} h1 h2 h3 => by
  rw [hgr7.cell_far ⟨b,o,none⟩ (by simp;omega) (fun e => h2 e.symm),World.cell?_alloc_lt _ _ _ h1];exact h3
 have there7 : ∀ {b n : Nat},W7.there b 0 n → b < W7.heap.size → (b < w2.heap.size ∨ w3.heap.size ≤ b) → w7.there b 0 n := fun {b n} h1 h3 h2 j hj => by
  have h4 := he6.size
  obtain ⟨a1,a2⟩ := there_old (there_ext h1 he6) (.cells #[int .i64 (kb : Int),int .i64 0,.slice (some ⟨g6,0,none⟩) N2 N2,int .i64 x.a,.bool false] 62) j hj
  refine ⟨?_, ?_⟩
  ·rw [hgr7.cell_far ⟨b,0 + j,none⟩ (by simp;omega) (fun e => hneV b h2 e.symm)];exact a1
  ·rw [hgr7.frozen_far ⟨b,0 + j,none⟩ (by simp;omega) (fun e => hneV b h2 e.symm)];exact a2
 have U8 := there7 U7 (by omega) (.inl (by omega))
 have S8 := there7 HO7.out.thr (by omega) (.inr (Nat.le_refl _))
 have R8 : w7.rangeAt w3.heap.size 0 (tskL t (.slice (some ⟨gF,0,none⟩) N cF) (.slice AB t.blocks.length cB)) := fun j v hj => far7 zR6 (hneV _ (.inr (Nat.le_refl _))) (range_ext HO7.out.box he6 j v (by rw [HN.out];exact hj))
 have hE8 : Hid (Ext w w7) := Below.grown (Ext.trans HO7.out.ext hE6) hgr7 (by have := hE6.size;omega) (fun k e => by have := hVF k e;omega)
 have HOF8 := Lib.hid (HO7.out.fr.push (f := ⟨x.b,0,regsOf N2 (argsOf f x.args),x.a,false⟩) (v := .slice (some ⟨g6,0,none⟩) N2 N2) (VF' := .slice (some ⟨g7,0,none⟩) (N + 1) cap7) hE6 (by omega)
  (by
   have h9 := ownsRow_ext hown66.out ((Ext.refl _).alloc (.cells #[int .i64 (kb : Int),int .i64 0,.slice (some ⟨g6,0,none⟩) N2 N2,int .i64 x.a,.bool false] 62))
   show World.ownsRow _ _ _ _ _ (regsOf N2 (argsOf f x.args)).length _
   rw [regsOf_length (by unfold argsOf;rw [List.length_map];exact HN2.out.1)]
   exact h9)
  (by rw [HL7.out,HKB.out];exact hown7) (by rw [HN.out];exact hgr7)
  ⟨HXA.out.2,zero_in,HXA.out.1,fun z hz => by
   have hz := hz
   simp only [regsOf] at hz
   rcases List.mem_append.1 hz with hz | hz
   ·obtain ⟨j,hj,rfl⟩ := List.mem_map.1 hz
    exact regS_inR HFI.out.2.2.2 _
   ·rw [(List.mem_replicate.1 hz).2];exact zero_in⟩)
 have HOB8 : Hid (∀ L,BLow w0 L → OBl w.heap.size w7 t.blocks (.slice AB t.blocks.length cB) hs gs L) := fun L hL => by
  have he0 := H0.out.size
  have hB1 := (HO7.out.bl (.slice (some ⟨gF,0,none⟩) N cF :: L) (fun r hr y hy => by
   rcases List.mem_cons.1 hr with rfl | hr
   ·have := hVF y hy;omega
   ·exact hL r hr y hy)).mono hE6
  exact (hB1.grew hgr7 HROW.out List.mem_cons_self).list fun r' hr' => ⟨r',List.mem_cons_of_mem _ hr',rfl⟩
 have hcdA : ∀ b,Cold W7 b → (b < w2.heap.size ∨ w3.heap.size ≤ b) → Cold w7 b := fun b hb h2 => by
  obtain ⟨o,h1,h3⟩ := hb.ext hE6
  exact ⟨o,(hgr7.block _ (Array.getElem?_eq_some_iff.1 h1).1 (fun e => hneV _ h2 e.symm)).trans h1,h3⟩
 have hc8 := hcdA _ hc7 (.inl (by omega))
 have hb8 := hcdA _ hb7 (.inr (Nat.le_refl _))
 have m7 : w7.cell? ⟨w3.heap.size,7,none⟩ = some (.slice (some ⟨gF,0,none⟩) N cF) := R8 7 _ rfl
 have f7 : w7.frozen? ⟨w3.heap.size,7,none⟩ = false := (S8 7 (by omega)).2
 refine hK.out _ _ ?_ (fun hHeld => ?_)
 ·exact ⟨m7,far7 zw6a (hneV _ (.inl (by omega))) (he6.cell s3),far7 zw6b (hneV _ (.inl (by omega))) (he6.cell s1),far7 zw6b (hneV _ (.inl (by omega))) (he6.cell s2),far7 zb6 (hneV _ (.inl (by omega))) (he6.cell d7)⟩
 clear hK K
 (try simp only [Act.put,aset,dZ,dS])
 (refine tht 18 hT ?_;(try simp only [Act.put,aset,dZ,dS]))
 refine th_done (by kernel_rfl) ?_
 simp only [List.drop_succ_cons,List.drop_zero]
 clear hHeld far7 there7 hc6 hf6 s0 s1 s2 s3 d7 U7 Q7 I7 HO7 hT HROW hown66 hcdA
 go_upto_region 8 with fail
 refine wp_hid2 ?_
 intro W9 HW9
 have HO9 : Hid (Ownd w0 w w3.heap.size W9 { t with frames := t.frames.set (t.frames.length - 1) { f with pc := f.pc + 1 } ++ [⟨x.b,0,regsOf N2 (argsOf f x.args),x.a,false⟩] } (.slice (some ⟨g7,0,none⟩) (N + 1) cap7) (.slice AB t.blocks.length cB) (rs ++ [.slice (some ⟨g6,0,none⟩) N2 N2]) hs gs) := by
  rw [Hid,HW9.out]
  exact Ownd.anew HOF8.out HOB8.out R8 S8 hE8.out H0.out hb8 (by omega) rfl rfl
 have U9 : W9.there (w.heap.size + 1 + 1 + 1) 0 17 := by rw [HW9.out];exact there_set U8
 have hc9 : Cold W9 (w.heap.size + 1 + 1 + 1) := by rw [HW9.out];exact hc8.setCell _ _
 have R9 : W9.rangeAt w3.heap.size 0 [int .i64 t.fn,int .i64 t.scope,int .i64 t.prio,int .i64 t.status,int .i64 t.wkind,int .i64 t.windex,.bool t.wagain,.slice (some ⟨g7,0,none⟩) (N + 1) cap7,.slice AB t.blocks.length cB,int .i64 t.mask,.bool t.unw,int .i64 t.level,int .i64 t.reason,int .i64 t.result] := HO9.out.box
 clear HW9 HOF8 HOB8 R8 U8 S8 hE8 hc8 hb8 m7 f7 hown7 hgr7
 go_wp2_with (first | ((first | (with_reducible refine jl 32 ?_) | (with_reducible refine il 32 ?_));refine ldm Tryz.underlying32 rfl rfl rfl (by exact rg) rfl (by exact infoTsk) ?_;dsimp only [dZ,dS]) | ((first | (with_reducible refine jk 102 ?_) | (with_reducible refine ik 102 ?_));refine stm rfl rfl rfl rfl (by exact tr) infoRes (all_oneCell_toArray (by simp [Value.oneCell'])) ?_;(try dsimp only [Act.put])))
 refine ret_rangeR (b := w.heap.size + 1 + 1 + 1) Tryz.results98 rfl rfl ?hl2 (World.rangeAt_setCells_same _ _ 0 _ ?ht2) ?hf2
 case hl2 => rfl
 case ht2 => exact U9
 case hf2 =>
  have hz9 : Siz { t with frames := t.frames.set (t.frames.length - 1) { f with pc := f.pc + 1 } ++ [⟨x.b,0,regsOf N2 (argsOf f x.args),x.a,false⟩] } := by
   refine ⟨by show (List.length (_ ++ _)) ≤ 1000;rw [List.length_append,List.length_set];simp;omega,HZ.out.2.1,fun y hy => ?_,HZ.out.2.2.2⟩
   rcases List.mem_append.1 hy with hy | hy
   ·rcases List.mem_or_eq_of_mem_set hy with h | rfl
    ·exact HZ.out.2.2.1 y h
    ·exact HZ.out.2.2.1 f (List.mem_of_getElem? HFk.out)
   ·rw [List.mem_singleton.1 hy]
    show (regsOf N2 (argsOf f x.args)).length ≤ 1000
    rw [regsOf_length (by unfold argsOf;rw [List.length_map];exact HN2.out.1)]
    exact HN2.out.2
  rw [← HKB.out]
  exact HO9.out.fin (s := goOn) hz9 HI.out (by omega) hc9 _
theorem obl_handler {w0 : Bs} {w W W1 : World} {B k : Nat} {bs : List Blk} {VB : Value} {hs : List Value} {gs : List (List Value)} (h : ∀ L,BLow w0 L → OBl B w bs VB hs gs L) (h0 : w0.heap.size ≤ B) {b : Blk} {v : Value} {a : List Value} (hb : bs[k]? = some b) (hv : hs[k]? = some v) (ha : gs[k]? = some a)
  {y : Hdl} {av v' : Value} (hE : Ext w W) (hav : W.ownsRow w.heap.size 3 1 av y.args.length (y.args.map (int .i64))) (hyn : y.args.length ≤ 1000) (hyi : InR y.fn ∧ ∀ x ∈ y.args,InR x)
  (hap : W1.ownsRow B 58 2 v' (b.handlers.length + 1) (rowOf hdlCells b.handlers a ++ hdlCells y av)) (hg : W.grownBy W1 v.ownBlock) (hat : v'.ownBlock = v.ownBlock ∨ v'.ownBlock = some W.heap.size)
  {gB cB : Nat} (hVB : VB = .slice (some ⟨gB,0,none⟩) bs.length cB) (L : List Value) (hL : BLow w0 L) (hLa : ∀ r ∈ L,Apart r av) :
  OBl B (W1.setCell ⟨gB,k * 5 + 4,none⟩ v') (bs.set k { b with handlers := b.handlers ++ [y] }) VB (hs.set k v') (gs.set k (a ++ [av])) L := by
 subst hVB
 have hkb : k < bs.length := (List.getElem?_eq_some_iff.1 hb).1
 have hh0 := h [] (blow_nil _)
 obtain ⟨hal,hrow⟩ := hh0.hnd k b v a hb hv ha
 have hlow : ∀ (i : Nat) (u : Value),hs[i]? = some u → ∀ x,u.ownBlock = some x → x < w.heap.size := fun i u hu x hx => by
  obtain ⟨m,xs,hh⟩ := bl_rows hh0 (List.mem_of_getElem? hu)
  exact (hh.lt x hx).2
 have hbV := hh0.row.lt gB rfl
 have hv'x : ∀ {u : Value},(∀ x,u.ownBlock = some x → x < w.heap.size) → Apart v u → Apart v' u := fun {u} hu hvu => by
  rcases hat with e | e
  ·unfold Apart at *;rw [e];exact hvu
  ·exact high_apart' hu fun x hx => by rw [e] at hx;injection hx with hx;subst hx;exact hE.size
 have hv'y : ∀ {u : Value},(∀ x,u.ownBlock = some x → x < w.heap.size) → Apart u v → Apart u v' := fun {u} hu hvu => by
  rcases hat with e | e
  ·unfold Apart at *;rw [e];exact hvu
  ·exact high_apart hu fun x hx => by rw [e] at hx;injection hx with hx;subst hx;exact hE.size
 have hb1 : OBl B w bs _ hs gs (v :: .slice (some ⟨gB,0,none⟩) bs.length cB :: L) := h _ (fun r hr x hx => by
  rcases List.mem_cons.1 hr with rfl | hr
  ·have := (hrow.lt x hx).1;omega
  rcases List.mem_cons.1 hr with rfl | hr
  ·have := (hh0.row.lt x hx).1;omega
  ·exact hL r hr x hx)
 have hbW := hb1.mono hE
 have hbr1 := hbW.row.kept hg (apart_types hh0.row hrow (by decide))
 obtain ⟨h4,h5⟩ := hbr1.stored (k * 5 + 4) v'
 have hkeep : ∀ {u : Value} {xs : List Int},RArgs W xs u → (xs = [] ∨ (Apart v u ∧ Apart (.slice (some ⟨gB,0,none⟩) bs.length cB) u)) → RArgs (W1.setCell ⟨gB,k * 5 + 4,none⟩ v') xs u := fun {u xs} h1 h2 => by
  by_cases hx : xs = []
  ·subst hx
   obtain ⟨A,m,c,rfl,h3,h6⟩ := h1
   exact ⟨A,m,c,rfl,⟨h3.1,h3.2.1,fun k x hk => by simp at hk⟩,h6⟩
  ·rcases h2 with h2 | ⟨h2,h3⟩
   ·exact absurd h2 hx
   ·refine (h1.kept hg ?_).kept h5 ?_
    ·rcases h2 with e | e
     ·cases hu : u.ownBlock with
      | none => exact .inl rfl
      | some x => rw [e];exact .inr (fun e => by cases e)
     ·exact .inr fun e' => e e'.symm
    ·rcases h3 with e | e
     ·cases e
     ·exact .inr fun e' => e e'.symm
 refine ⟨by rw [List.length_set,List.length_set];exact hh0.len,by rw [List.length_set,List.length_set];exact hh0.alen, ?_,fun i b2 u a2 e1 e2 e3 => ?_,fun i b2 a2 q x u e1 e2 e3 e4 => ?_,fun i j u1 u2 hij e1 e2 => ?_,fun b2 hb2 => ?_⟩
 ·rw [List.length_set,rowOf_same hb (List.getElem?_set_self (by rw [hh0.len];exact hkb)) (by rfl),← rowOf_put blkCells_len (j := 4) (u := v') (v' := v') hb hv (by omega) (by rfl)]
  exact h4
 ·rcases set_cases e1 with ⟨rfl,rfl⟩ | ⟨hne,e1'⟩
  ·rcases set_cases e2 with ⟨_,rfl⟩ | ⟨hne,_⟩
   ·rcases set_cases e3 with ⟨_,rfl⟩ | ⟨hne,_⟩
    ·refine ⟨by simp [hal], ?_⟩
     have h9 := hap.kept h5 (apart_ne (apart_types hap hbr1 (by decide)) rfl)
     have hsn : rowOf hdlCells (b.handlers ++ [y]) (a ++ [av]) = rowOf hdlCells b.handlers a ++ hdlCells y av := rowOf_snoc hal
     rw [List.length_append,List.length_singleton,hsn]
     exact h9
    ·exact absurd rfl hne
   ·exact absurd rfl hne
  ·rcases set_cases e2 with ⟨e,_⟩ | ⟨_,e2'⟩
   ·exact absurd e hne
   ·rcases set_cases e3 with ⟨e,_⟩ | ⟨_,e3'⟩
    ·exact absurd e hne
    ·obtain ⟨q1,q2⟩ := hbW.hnd i b2 u a2 e1' e2' e3'
     have q3 := q2.kept hg (hh0.dis i k u v hne e2' hv)
     exact ⟨q1,q3.kept h5 (apart_ne (apart_types q3 hbr1 (by decide)) rfl)⟩
 ·have old : ∀ (i : Nat) (b3 : Blk) (a3 : List Value),bs[i]? = some b3 → gs[i]? = some a3 → b3.handlers[q]? = some x → a3[q]? = some u →
    InR x.fn ∧ RArgs (W1.setCell ⟨gB,k * 5 + 4,none⟩ v') x.args u ∧ (x.args = [] ∨ ∀ r ∈ L,Apart r u) := fun i b3 a3 e1 e2 e3 e4 => by
   obtain ⟨q1,q2,q3⟩ := hbW.arg i b3 a3 q x u e1 e2 e3 e4
   refine ⟨q1,hkeep q2 (q3.imp id fun hh => ⟨hh v List.mem_cons_self,hh _ (List.mem_cons_of_mem _ List.mem_cons_self)⟩),q3.imp id fun hh r hr => hh r (List.mem_cons_of_mem _ (List.mem_cons_of_mem _ hr))⟩
  rcases set_cases e1 with ⟨rfl,rfl⟩ | ⟨hne,e1'⟩
  ·rcases set_cases e2 with ⟨_,rfl⟩ | ⟨hne,_⟩
   ·rcases snoc_cases e4 with ⟨hq,e4'⟩ | ⟨hq,rfl⟩
    ·rcases snoc_cases e3 with ⟨_,e3'⟩ | ⟨hq',_⟩
     ·exact old i b a hb ha e3' e4'
     ·omega
    ·rcases snoc_cases e3 with ⟨hq',_⟩ | ⟨_,rfl⟩
     ·omega
     ·have hav2 : ∀ z,u.ownBlock = some z → w.heap.size ≤ z ∧ z < W.heap.size := fun z hz => hav.lt z hz
      have hRA := RArgs.of_row hav hyn hyi.2
      exact ⟨hyi.1,hkeep hRA (.inr ⟨high_apart (hlow i v hv) fun z hz => (hav2 z hz).1,high_apart (fun x hx => (hh0.row.lt x hx).2) fun z hz => (hav2 z hz).1⟩),.inr hLa⟩
   ·exact absurd rfl hne
  ·rcases set_cases e2 with ⟨e,_⟩ | ⟨_,e2'⟩
   ·exact absurd e hne
   ·exact old i b2 a2 e1' e2' e3 e4
 ·rcases set_cases e1 with ⟨rfl,rfl⟩ | ⟨hne,e1'⟩ <;> rcases set_cases e2 with ⟨hjk,rfl⟩ | ⟨hne2,e2'⟩
  ·exact absurd hjk.symm hij
  ·exact hv'x (hlow j u2 e2') (hh0.dis _ j v u2 hij hv e2')
  ·subst hjk;exact hv'y (hlow i u1 e1') (hh0.dis i _ u1 v hij e1' hv)
  ·exact hh0.dis i j u1 u2 hij e1' e2'
 ·rcases List.mem_or_eq_of_mem_set hb2 with hb2 | rfl
  ·exact hh0.inr b2 hb2
  ·exact hh0.inr b (List.mem_of_getElem? hb)
set_option maxRecDepth 8000 in
theorem register_fail (t : Tsk) (x : Ins) (b : Blk) (VF VB : Value) (A : Option Addr) (m c : Nat) (w0 : Bs) (w : World) (hT : BTsk w0 t (.agg (tskL t VF VB).toArray)) (h0 : BExt w0 w) (hz : Siz t) (hb : lastB t = some b) (h8 : 8 ≤ b.handlers.length) :
  Calls Tryz.prog 99 #[.agg (tskL t VF VB).toArray,.agg #[int .i64 x.op,int .i64 x.a,int .i64 x.b,int .i64 x.c,.slice A m c]] w (ResPost (failT t 7) w0 w) := by
 obtain ⟨Af,cf,Ab,cb,rfl,rfl,_,hBB,_,_⟩ := (hT.mono h0).two
 have hbpos : 0 < t.blocks.length := by
  have := (List.getElem?_eq_some_iff.1 (show t.blocks[t.blocks.length - 1]? = some b from hb)).1;omega
 have hble : t.blocks.length ≤ 9223372036854775807 := by have := hz.2.1;omega
 obtain ⟨bb,ob,Ah,nh,ch,rfl,hlb,_,_,_,_,⟨hHH,_⟩,_,_,_,_,d4⟩ := hBB.blk (show t.blocks[t.blocks.length - 1]? = some b from hb)
 have dd := d4
 have zb := lt_of_cell dd
 have hge : (8 : Int) ≤ (nh : Int) := by have := hHH.len;omega
 have hnh : nh ≤ 9223372036854775807 := by have := hHH.le;omega
 have hsB : IntKind.i64.wrap ((t.blocks.length : Int) - 1) = ((t.blocks.length - 1 : Nat) : Int) := by rw [IntWalk.i64_in _ (by omega)];omega
 have hs1B : ((t.blocks.length - 1 : Nat) : Int) < (t.blocks.length : Int) := by omega
 have hs2B : (0 : Int) ≤ ((t.blocks.length - 1 : Nat) : Int) := by omega
 have HFA : Hid (∀ q W,Ext w W → Calls Tryz.prog 70 #[.agg (tskL t (.slice Af t.frames.length cf) (.slice (some ⟨bb,ob,none⟩) t.blocks.length cb)).toArray,int .i64 q] W (ResPost (failT t q) w0 W)) := fun q W hW => failed_any t _ _ q w0 W hT (h0.trans hW)
 clear hT h0 hz hb hHH hlb d4 hBB h8
 unfold tskL at HFA ⊢
 go_enter Tryz.func99,Tryz.ntmps99
 go_upto_region 1 with fail
 refine wp_hid2 ?_
 intro W1 HW1
 have hX1 : Hid (Ext w W1) := by rw [Hid,HW1.out];exact xt
 have U1 : W1.there (w.heap.size + 1 + 1) 0 17 := by rw [HW1.out];exact tr
 have R1 : W1.rangeAt w.heap.size 0 [int .i64 t.fn,int .i64 t.scope,int .i64 t.prio,int .i64 t.status,int .i64 t.wkind,int .i64 t.windex,.bool t.wagain,.slice Af t.frames.length cf,.slice (some ⟨bb,ob,none⟩) t.blocks.length cb,int .i64 t.mask,.bool t.unw,int .i64 t.level,int .i64 t.reason,int .i64 t.result] := by rw [HW1.out];exact rg
 have hz1 : w.heap.size + 1 + 1 < W1.heap.size := by rw [HW1.out];simp
 have m8 : W1.cell? ⟨w.heap.size,8,none⟩ = some (.slice (some ⟨bb,ob,none⟩) t.blocks.length cb) := R1 8 _ rfl
 have zz := lt_of_cell m8
 have dd1 := hX1.out.cell dd
 have zb1 := lt_of_cell dd1
 clear HW1 dd zb
 go_upto_region 3 with fail
 go_wp2_with (first | ((first | (with_reducible refine jl 32 ?_) | (with_reducible refine il 32 ?_));refine ldm Tryz.underlying32 rfl rfl rfl (by exact rg) rfl (by exact infoTsk) ?_;dsimp only [dZ,dS]) | ((first | (with_reducible refine jk 102 ?_) | (with_reducible refine ik 102 ?_));refine stm rfl rfl rfl rfl (by exact tr) infoRes (all_oneCell_toArray (by simp [Value.oneCell'])) ?_;(try dsimp only [Act.put])) | (go_at_call 70;refine (HFA.out _ _ hX1.out).mono ?_;rintro e w3 ⟨A1,c1,A2,c2,rfl,hR,hb⟩;have HR := Lib.hid hR;unfold resV;have U3 := there_ext U1 hb;have HE1 : Hid (Ext w w3) := Ext.trans hX1.out hb;have HES : Hid (W1.heap.size ≤ w3.heap.size) := hb.size;clear hR hb))
 refine ret_rangeR (b := w.heap.size + 1 + 1) Tryz.results99 rfl rfl ?hl (World.rangeAt_setCells_same _ _ 0 _ ?ht) ?hfin
 case hl => rfl
 case ht => exact U3
 case hfin => exact ⟨A1,c1,A2,c2,rfl,fun W' h k => HR.out W' h (((Keep.refl _ _).setCells hz1 0 _).trans k (by omega)),HE1.out.setCells (by omega) 0 _⟩
end Go.Proofs.YtcjjoabofecjmaaGreat

