/- A part of the proof: Advance of the reference of layer 28. -/
import Derived.Test.YtcjjoabofecjmaaGreatQ52
set_option linter.unusedVariables false
set_option linter.unusedSimpArgs false
set_option maxHeartbeats 16000000
namespace Go.Proofs.YtcjjoabofecjmaaGreat
open Go.RowKit Go.Sort
open Go.Value (int)
structure RAd (w : World) (P3 : List Value) (t : Tsk) (VF VB : Value) (W : World) : Prop where
 ext : Ext w W
 prog : W.rangeAt w.heap.size 0 P3
 box : W.rangeAt (w.heap.size + 1) 0 (tskL t VF VB)
 tt : W.there (w.heap.size + 1) 0 14
 ta : W.there (w.heap.size + 1 + 1) 0 14
 ts : W.there (w.heap.size + 1 + 1 + 1) 0 3
 rd : ∀ h,BTsk (bsOf w W h) t (.agg (tskL t VF VB).toArray)
theorem there_lt {W : World} {b n : Nat} (h : W.there b 0 n) (hn : 0 < n) : b < W.heap.size := by
 obtain ⟨v,hv⟩ := Option.isSome_iff_exists.1 (h 0 hn).1
 exact lt_of_cell hv
def resL (t : Tsk) (VF VB : Value) (s : Stp) : List Value := tskL t VF VB ++ [int .i64 s.kind,int .i64 s.reason,int .i64 s.value]
structure RSt (p : Prg) (w wr : World) (rb kk : Nat) (t' : Tsk) (n' : Nat) (G : Tsk × Stp) (m : Nat) (VF VB : Value) (W : World) : Prop where
 ext : Ext wr W
 box : W.rangeAt rb 0 (resL G.1 VF VB G.2)
 rd : ∀ h,BTsk (bsOf w W h) G.1 (.agg (tskL G.1 VF VB).toArray)
 run : runS p (kk + 1) t' n' = if G.2.kind = 0 then runS p kk G.1 m else G
 on : G.2.kind = 0 → RunOk p G.1 ∧ 2 * (200 - m) + G.1.frames.length < kk ∧ m ≤ 200
theorem rst_of {p : Prg} {w wr Wc w3 : World} {rb kk : Nat} {t' : Tsk} {n' : Nat} {G : Tsk × Stp} {m : Nat} {VF VB : Value} {hz : w.heap.size + 1 + 1 + 1 < wr.heap.size} (hR : ∀ W',BExt (bsOf w wr hz) W' → Keep Wc w3 W' → BRd (bsOf w wr hz) W' G.1 (.agg (tskL G.1 VF VB).toArray)) (h1 : Ext wr Wc) (h3 : Ext Wc w3) (hr : wr.heap.size ≤ rb) (hr2 : rb < Wc.heap.size) (hth : w3.there rb 0 17)
  (hrun : runS p (kk + 1) t' n' = if G.2.kind = 0 then runS p kk G.1 m else G) (hon : G.2.kind = 0 → RunOk p G.1 ∧ 2 * (200 - m) + G.1.frames.length < kk ∧ m ≤ 200) : RSt p w wr rb kk t' n' G m VF VB (w3.setCells rb 0 (resL G.1 VF VB G.2)) :=
 ⟨(h1.trans h3).setCells hr 0 _,World.rangeAt_setCells_same _ _ 0 _ hth,fun h => btsk_call (h := hz) hR h1 h3 hr hr2 rfl,hrun,hon⟩
set_option maxRecDepth 8000 in
theorem rAdvance_run (p : Prg) (t : Tsk) (VP VT : Value) (w : World) (hP : RPrg w p VP) (hT : RTsk w t VT) (hc : tcheckS p t = 0) (hst : t.status = 1) (hu : t.unw = true → inHand t = true) (hl : t.frames.length ≠ 0) : Calls Tryz.prog 25 #[VP,VT] w (AdvPost p t w) := by
 have HC := Lib.hid (fun W h => rtcheck_any p t VP VT W (hP.mono h) (hT.mono h))
 rw [hc] at HC
 have HH := Lib.hid (fun W h => inHandler_any t VT W (hT.mono h))
 have HCk := Lib.hid (tcheck_check hc)
 have HRO := Lib.hid (run_ok hc hst hl)
 have HP := Lib.hid hP
 have HT := Lib.hid hT
 have HR : Hid (advanceS p t = ((runS p 500 t 0).1,(runS p 500 t 0).2,0)) := by
  unfold Hid advanceS
  rw [if_neg (by simpa using hc),if_neg (by simpa using hst),if_neg (by rintro ⟨h1,h2⟩;rw [hu h1] at h2;cases h2)]
 obtain ⟨Pf,nf,kf,Po,no,ko,Pv,nv,kv,rfl,hFn,_⟩ := hP
 have HFn := Lib.hid hFn
 have hnfl := hFn.le
 clear hFn
 obtain ⟨Bf,mf,df,Bb,mb,db,rfl,_,_,_,_,_,_,_,_,_,_,hF2,hB2,hdf,hdb⟩ := hT
 clear hB2 hF2 hdf hdb
 have hsb : (t.status != 1) = false := by simpa using hst
 have HU := Lib.hid hu
 clear hc hst hu hl
 unfold AdvPost
 go_enter Tryz.func25,Tryz.ntmps25
 go_upto_region 6 with (first | ((first | (with_reducible refine jl 32 ?_) | (with_reducible refine il 32 ?_));refine ldm Tryz.underlying32 rfl rfl rfl (by exact rg) rfl (by exact infoTsk) ?_;dsimp only [dZ,dS]) | (go_at_call 18;refine (HC.out _ xt).mono ?_;rintro e w1 ⟨rfl,hb⟩;have T1 := there_ext (b := w.heap.size + 1 + 1) (o := 0) (n := 14) (by exact tr) hb;have U1 := there_ext (b := w.heap.size + 1 + 1 + 1) (o := 0) (n := 3) (by exact tr) hb;have S1 := there_ext (b := w.heap.size + 1) (o := 0) (n := 14) (by exact tr) hb;have R1 := range_ext (b := w.heap.size + 1) (o := 0) (by exact rg) hb;have Q1 := range_ext (b := w.heap.size) (o := 0) (cs := [.slice Pf nf kf,.slice Po no ko,.slice Pv nv kv]) (by exact rg) hb;have HE1 : Hid (Ext w w1) := Ext.trans xt hb;have b3 : w1.cell? ⟨w.heap.size + 1,3,none⟩ = some (int .i64 t.status) := R1 3 _ rfl;have b10 : w1.cell? ⟨w.heap.size + 1,10,none⟩ = some (.bool t.unw) := R1 10 _ rfl;have zb1 := lt_of_cell b10;clear hb))
 clear b3
 go_cut [31] from 25 (fun s31 wx => s31 = .bool false ∧ Hid (Ext w1 wx))
 case first =>
  rcases Bool.eq_false_or_eq_true t.unw with hux | hux
  ·have hin := HU.out hux
   rw [hin] at HH
   rw [hux] at b10
   clear hux hin
   go_wp2_with (first | ((with_reducible refine ig 32 ?_);refine ldg Tryz.underlying32 (by rfl) rfl rfl (by exact rg) rfl (by exact infoTsk) ?_;dsimp only [dZ,dS]) | (go_at_call 54;refine (HH.out _ HE1.out).mono ?_;rintro e w2 ⟨rfl,hb⟩;have HE2 := Lib.hid hb;clear hb))
   go_meet
   exact ⟨rfl,HE2.out⟩
  ·rw [hux] at b10
   clear hux
   go_wp2
   go_meet
   exact ⟨rfl,Ext.refl _⟩
 case rest =>
  obtain ⟨rfl,HEc⟩ := hcut
  have HI0 : Hid (RAd w [.slice Pf nf kf,.slice Po no ko,.slice Pv nv kv] t (.slice Bf mf df) (.slice Bb mb db) wc) := by
   have hX := HE1.out.trans HEc.out
   refine ⟨hX,range_ext Q1 HEc.out,range_ext R1 HEc.out,there_ext S1 HEc.out,there_ext T1 HEc.out,there_ext U1 HEc.out,fun h => btsk_old HT.out hX fun y hy => ?_⟩
   have : y = w.heap.size + 1 ∨ y = w.heap.size + 1 + 1 ∨ y = w.heap.size + 1 + 1 + 1 := by simpa [bsOf] using hy
   omega
  clear HEc HE1 T1 U1 S1 R1 Q1 b10 zb1 HT HH HC HU
  go_upto_region 8 with fail
  go_wp2_with fail
  go_loopg [8] 500 (fun gg s8 wr => ∃ (t' : Tsk) (n' : Nat) (VF VB : Value),s8 = .int .i64 (n' : Int) ∧ Hid (RAd w [.slice Pf nf kf,.slice Po no ko,.slice Pv nv kv] t' VF VB wr) ∧ Hid (RunOk p t') ∧ Hid (runS p 500 t 0 = runS p gg t' n') ∧ Hid (2 * (200 - n') + t'.frames.length < gg ∧ n' ≤ 200))
  case atStart => exact ⟨t,0,_,_,rfl,HI0,HRO.out,rfl,⟨by have := HRO.out.len;omega,by omega⟩⟩
  case round =>
   obtain ⟨t',n',VF,VB,rfl,HI,HRO',HQ,HM⟩ := hrel
   clear HI0 HRO
   obtain ⟨f,hf⟩ := HRO'.out.top
   obtain ⟨g,hg⟩ := HRO'.out.fr _ f hf
   obtain ⟨kk,hkk⟩ : ∃ kk,gk = kk + 1 := ⟨gk - 1,by have := HM.out.1;omega⟩
   subst hkk
   have hz : w.heap.size + 1 + 1 + 1 < wr.heap.size := there_lt HI.out.ts (by omega)
   have HBT := Lib.hid (HI.out.rd hz)
   have hrt : RTsk wr t' _ := (HBT.out wr (BExt.refl (bsOf w wr hz))).1
   obtain ⟨Af,cf,Ab,cb,rfl,rfl,hFF,_,_,_⟩ := hrt.two
   have hpos : 0 < t'.frames.length := by have := HRO'.out.pos;omega
   have hlen9 := HRO'.out.len
   have hle : t'.frames.length ≤ 9223372036854775807 := by omega
   obtain ⟨bf,off,Ar,nr,cr,rfl,hlf,_,_,_,_,e0,e1,e2,e3,e4⟩ := hFF.frm (show t'.frames[t'.frames.length - 1]? = some f from hf)
   have hsN : IntKind.i64.wrap ((t'.frames.length : Int) - 1) = ((t'.frames.length - 1 : Nat) : Int) := by rw [IntWalk.i64_in _ (by omega)];omega
   have hs1N : ((t'.frames.length - 1 : Nat) : Int) < (t'.frames.length : Int) := by omega
   have hs2N : (0 : Int) ≤ ((t'.frames.length - 1 : Nat) : Int) := by omega
   obtain ⟨g0,g1,g2⟩ := fnAt_some hg.fn
   obtain ⟨kb,hkb⟩ : ∃ kb : Nat,f.fn = (kb : Int) := ⟨f.fn.toNat,by omega⟩
   obtain ⟨bF,offF,Ac,nc,cc,rfl,hlb,_,_,_,_,⟨hCd,_⟩,_,_,_,_,_,d5⟩ := HFn.out.fnc g2
   have hgpc := hg.pc
   obtain ⟨pn,hpn⟩ : ∃ pn : Nat,f.pc = (pn : Int) := ⟨f.pc.toNat,by omega⟩
   have HNC := Lib.hid hCd.len
   have hncle := hCd.le
   have hkl : (kb : Int) < (nf : Int) := by have := HFn.out.len;omega
   have hpcle : f.pc ≤ 1000 := by have := (fn_ok HCk.out (fnAt_mem hg.fn)).len;omega
   rw [hkb,Int.toNat_natCast] at d5
   rw [hkb] at e0
   rw [hpn] at e1 hgpc hpcle
   have HCd := Lib.hid hCd
   have HFf := Lib.hid hf
   have HG := Lib.hid hg
   have HKB := Lib.hid hkb
   have HPN := Lib.hid hpn
   have F0 : wr.rangeAt bf (off + (t'.frames.length - 1) * 5) [int .i64 (kb : Int),int .i64 (pn : Int),.slice Ar nr cr,int .i64 f.result,.bool f.cleanup] := frm_range e0 e1 e2 e3 e4
   have R0 : wr.rangeAt (w.heap.size + 1) 0 [int .i64 t'.fn,int .i64 t'.scope,int .i64 t'.prio,int .i64 t'.status,int .i64 t'.wkind,int .i64 t'.windex,.bool t'.wagain,.slice (some ⟨bf,off,none⟩) t'.frames.length cf,.slice Ab t'.blocks.length cb,int .i64 t'.mask,.bool t'.unw,int .i64 t'.level,int .i64 t'.reason,int .i64 t'.result] := HI.out.box
   have P0 : wr.rangeAt w.heap.size 0 [.slice (some ⟨bF,offF,none⟩) nf kf,.slice Po no ko,.slice Pv nv kv] := HI.out.prog
   have d6 := HI.out.ext.cell d5
   have zd6 := lt_of_cell d6
   have b7 : wr.cell? ⟨w.heap.size + 1,7,none⟩ = some (.slice (some ⟨bf,off,none⟩) t'.frames.length cf) := R0 7 _ rfl
   have zb7 := lt_of_cell b7
   have p0 : wr.cell? ⟨w.heap.size,0,none⟩ = some (.slice (some ⟨bF,offF,none⟩) nf kf) := P0 0 _ rfl
   clear hf hg hrt hFF e0 e1 e2 e3 e4 g0 g1 g2 hCd d5 hkb hpn
   go_upto_region 11 with (first | ((first | (with_reducible refine jl 62 ?_) | (with_reducible refine il 62 ?_));refine ldm Tryz.underlying62 rfl rfl rfl (by exact rg) rfl (by exact infoFrm5) ?_;dsimp only [dZ,dS]) | ((first | (with_reducible refine jk 62 ?_) | (with_reducible refine ik 62 ?_));refine stm rfl rfl rfl rfl (by exact tr) infoFrm5 (all_oneCell_toArray (by simp [Value.oneCell'])) ?_;(try dsimp only [Act.put])))
   refine wp_hid2 ?_
   intro W1 HW1
   have X1 : Hid (Ext wr W1) := by rw [Hid,HW1.out];exact xts
   have G1 : W1.rangeAt wr.heap.size 0 [int .i64 (kb : Int),int .i64 (pn : Int),.slice Ar nr cr,int .i64 f.result,.bool f.cleanup] := by rw [HW1.out];exact World.rangeAt_setCells_same _ _ 0 _ (by show World.there _ _ 0 5;exact tr)
   have c0 : W1.cell? ⟨wr.heap.size,0,none⟩ = some (int .i64 (kb : Int)) := G1 0 _ rfl
   have zc0 := lt_of_cell c0
   have d7 := X1.out.cell d6
   have p1 := X1.out.cell p0
   have zd7 := lt_of_cell d7
   have zp1 := lt_of_cell p1
   clear HW1 F0 b7 zb7 d6 zd6 p0
   go_upto_region 12 with fail
   clear c0 d7 p1 zd7 zp1
   go_upto_region 13 with ((first | (with_reducible refine jk 102 ?_) | (with_reducible refine ik 102 ?_));refine stm rfl rfl rfl rfl (by exact tr) infoRes (all_oneCell_toArray (by simp [Value.oneCell'])) ?_;(try dsimp only [Act.put]))
   refine wp_hid2 ?_
   intro W2 HW2
   have X2 : Hid (Ext W1 W2) := by rw [Hid,HW2.out];exact xts
   have T2 : W2.there W1.heap.size 0 17 := by rw [HW2.out];exact there_sets (there_new rfl rfl)
   have E2 : Hid (Ext wr W2) := X1.out.trans X2.out
   have R2 := range_ext R0 E2.out
   have P2 := range_ext P0 E2.out
   have q1 : W2.cell? ⟨wr.heap.size,1,none⟩ = some (int .i64 (pn : Int)) := X2.out.cell (G1 1 _ rfl)
   have zq1 := lt_of_cell q1
   have hrb1 : wr.heap.size ≤ W1.heap.size := X1.out.size
   have hrb2 : W1.heap.size < W2.heap.size := there_lt T2 (by omega)
   have HB2 : Hid (BExt (bsOf w wr hz) W2) := (BExt.refl (bsOf w wr hz)).trans E2.out
   have hEw := HI.out.ext.trans E2.out
   have HEw := Lib.hid hEw
   clear HW2 G1 R0 P0 hEw zc0
   have hrun : Hid (runS p (kk + 1) t' n' = match g.code[f.pc.toNat]? with
    | none => if (giveS t' f 0).2.kind = 0 then runS p kk (giveS t' f 0).1 n' else giveS t' f 0
    | some x => if visS x.op = true then (t',⟨1,0,0⟩) else if n' = 200 then failT t' 7 else if (execS p t' f x).2.kind = 0 then runS p kk (execS p t' f x).1 (n' + 1) else execS p t' f x) := by
    unfold Hid
    conv => lhs;unfold runS
    rw [HFf.out]
    dsimp only
    rw [HG.out.fn]
    dsimp only
    all_goals (cases g.code[f.pc.toNat]? <;> rfl)
   go_upto_if 56 with fail
   go_cut [8] from 34 to 90 (fun s8 wx => ∃ (G : Tsk × Stp) (m : Nat) (A1 : Option Addr) (c1 : Nat) (A2 : Option Addr) (c2 : Nat),s8 = .int .i64 ((m : Int) - 1) ∧ RSt p w wr W1.heap.size kk t' n' G m (.slice A1 G.1.frames.length c1) (.slice A2 G.1.blocks.length c2) wx)
   case first =>
    cases hx : g.code[f.pc.toNat]? with
    | none =>
     rw [hx] at hrun
     dsimp only at hrun
     have hge : (nc : Int) ≤ (pn : Int) := by have := List.getElem?_eq_none_iff.1 hx;have := HPN.out;have := HNC.out;omega
     have hgeb : decide ((nc : Int) ≤ (pn : Int)) = true := decide_eq_true hge
     have HL := Lib.hid (fun W (hE : Ext W2 W) => rgive_any HRO'.out HCk.out HFf.out (v := 0) (by decide) _ _ (bsOf w wr hz) W HBT.out (HB2.out.trans hE))
     have hFt := Lib.hid (fate_give HRO'.out HFf.out (v := 0) (by decide))
     obtain ⟨G,hG⟩ : ∃ G,giveS t' f 0 = G := ⟨_,rfl⟩
     rw [hG] at HL hrun hFt
     have HON : Hid (G.2.kind = 0 → RunOk p G.1 ∧ 2 * (200 - n') + G.1.frames.length < kk ∧ n' ≤ 200) := fun h0 => by
      rcases hFt.out.2 with ⟨_,h1,h2⟩ | ⟨h1,_⟩
      ·exact ⟨h1,by have := HM.out.1;omega,HM.out.2⟩
      ·exact absurd h0 h1
     have hn200 := HM.out.2
     clear hG hx hFt
     unfold tskL at HL
     go_wp2_with (first | ((first | (with_reducible refine jl 32 ?_) | (with_reducible refine il 32 ?_));refine ldm Tryz.underlying32 rfl rfl rfl (by exact rg) rfl (by exact infoTsk) ?_;dsimp only [dZ,dS]) | ((first | (with_reducible refine jk 102 ?_) | (with_reducible refine ik 102 ?_));refine stm rfl rfl rfl rfl (by exact tr) infoRes (all_oneCell_toArray (by simp [Value.oneCell'])) ?_;(try dsimp only [Act.put])) | (go_at_call 69;refine (HL.out W2 (Ext.refl _)).mono ?_;rintro e w3 ⟨A1,c1,A2,c2,rfl,hR,hb⟩;have HRR := Lib.hid hR;unfold resV;have T3 := there_ext T2 hb;have HE3 := Lib.hid hb;have hs3 := hb.size;clear hR hb))
     go_meet
     exact ⟨G,n',A1,c1,A2,c2,by go_num,rst_of (hz := hz) HRR.out E2.out HE3.out hrb1 hrb2 T3 hrun.out HON.out⟩
    | some x =>
     rw [hx] at hrun
     dsimp only at hrun
     have hpl : f.pc < g.code.length := by have := (List.getElem?_eq_some_iff.1 hx).1;have := HPN.out;omega
     have hlt : ¬ (nc : Int) ≤ (pn : Int) := by have := HPN.out;have := HNC.out;omega
     have hgeb : decide ((nc : Int) ≤ (pn : Int)) = false := decide_eq_false hlt
     have hx2 : g.code[pn]? = some x := by rw [← hx,HPN.out];rfl
     obtain ⟨bc,oc,Aa,na,ca,rfl,hlc,_,i1,i2,i3,⟨hAa,_⟩,y0,y1,y2,y3,y4⟩ := HCd.out.ins hx2
     have Y2 : W2.rangeAt bc (oc + pn * 5) [int .i64 x.op,int .i64 x.a,int .i64 x.b,int .i64 x.c,.slice Aa na ca] := frm_range (HEw.out.cell y0) (HEw.out.cell y1) (HEw.out.cell y2) (HEw.out.cell y3) (HEw.out.cell y4)
     have yy0 := HEw.out.cell y0
     have zy0 := lt_of_cell yy0
     have hpn1 : (pn : Int) < (nc : Int) := by omega
     have hpn2 : pn < nc := by omega
     have HV := Lib.hid (fun W => rvisible_any x.op W)
     have HXX := Lib.hid hx
     have HINS := Lib.hid (ins_ok ((fn_ok HCk.out (fnAt_mem HG.out.fn)).ins x (List.mem_of_getElem? hx)))
     have HAR : Hid (BInts (bsOf w wr hz) Aa na x.args) := fun W hb => hAa.mono RInt.stays (bext_old HI.out.ext (fun y hy => by
      have : y = w.heap.size + 1 ∨ y = w.heap.size + 1 + 1 ∨ y = w.heap.size + 1 + 1 + 1 := by simpa [bsOf] using hy
      omega) hb)
     have HPR : Hid (BPrg (bsOf w wr hz) p (.agg #[.slice (some ⟨bF,offF,none⟩) nf kf,.slice Po no ko,.slice Pv nv kv])) := fun W hb => HP.out.mono (bext_old HI.out.ext (fun y hy => by
      have : y = w.heap.size + 1 ∨ y = w.heap.size + 1 + 1 ∨ y = w.heap.size + 1 + 1 + 1 := by simpa [bsOf] using hy
      omega) hb)
     have HXI : Hid (InR x.a ∧ InR x.b ∧ InR x.c) := ⟨i1,i2,i3⟩
     have HPL := Lib.hid hpl
     clear hx hx2 hAa y0 y1 y2 y3 y4 hpl i1 i2 i3
     cases hvis : visS x.op with
     | true =>
      rw [hvis,if_pos rfl] at hrun
      rw [hvis] at HV
      clear hvis
      go_wp2_with (first | ((first | (with_reducible refine jl 32 ?_) | (with_reducible refine il 32 ?_));refine ldm Tryz.underlying32 rfl rfl rfl (by exact rg) rfl (by exact infoTsk) ?_;dsimp only [dZ,dS]) | ((with_reducible refine ik 32 ?_);refine stm rfl rfl rfl rfl (by exact tr) infoTsk (all_oneCell_toArray (by simp [Value.oneCell'])) ?_;(try dsimp only [Act.put])) | ((with_reducible refine ik 49 ?_);refine stm rfl rfl rfl rfl (by exact tr) infoStop (all_oneCell_toArray (by simp [Value.oneCell'])) ?_;(try dsimp only [Act.put])) | (go_at_call 41;refine (HV.out _).mono ?_;rintro e w3 ⟨rfl,hb⟩;have HE3 := Lib.hid hb;have R3 := range_ext R2 hb;have P3 := range_ext P2 hb;have T3 := there_ext T2 hb;have Y3 := range_ext Y2 hb;have q3 := hb.cell q1;have zq3 := lt_of_cell q3;have hs3 := hb.size;have TA3 := there_ext (there_ext HI.out.ta E2.out) hb;have TS3 := there_ext (there_ext HI.out.ts E2.out) hb;have HEw3 := Lib.hid (HEw.out.trans hb);clear hb))
      refine ret_range3 (b := w.heap.size + 1 + 1) (b2 := w.heap.size + 1 + 1 + 1) Tryz.results25 rfl rfl rfl rfl ?hl ?hl2 (ranges_two (by omega) ?t1 ?t2).1 (ranges_two (by omega) ?t3 ?t4).2 ?fin
      case hl => rfl
      case hl2 => rfl
      case t1 => exact TA3
      case t2 => exact TS3
      case t3 => exact TA3
      case t4 => exact TS3
      case fin =>
       rw [HR.out,HQ.out.trans hrun.out]
       have hB := (((HB2.out.trans HE3.out).setS (y := w.heap.size + 1 + 1) (.inl (by simp [bsOf])) 0 [int .i64 t'.fn,int .i64 t'.scope,int .i64 t'.prio,int .i64 t'.status,int .i64 t'.wkind,int .i64 t'.windex,.bool t'.wagain,.slice (some ⟨bf,off,none⟩) t'.frames.length cf,.slice Ab t'.blocks.length cb,int .i64 t'.mask,.bool t'.unw,int .i64 t'.level,int .i64 t'.reason,int .i64 t'.result]).setS (y := w.heap.size + 1 + 1 + 1) (.inl (by simp [bsOf])) 0 [int .i64 1,int .i64 0,int .i64 0])
       have h9 := HEw3.out
       exact ⟨_,rfl,HBT.out.mono hB,xts⟩
     | false =>
      rw [hvis,if_neg (by decide)] at hrun
      rw [hvis] at HV
      have HVS := Lib.hid hvis
      clear hvis
      have hn200 := HM.out.2
      by_cases hn : n' = 200
      ·rw [if_pos hn] at hrun
       have hnd : (200 : Int) ≤ (n' : Int) := by omega
       have hndb : decide ((200 : Int) ≤ (n' : Int)) = true := decide_eq_true hnd
       have HL := Lib.hid (fun W (hE : Ext W2 W) => failed_any t' _ _ 7 (bsOf w wr hz) W HBT.out (HB2.out.trans hE))
       have HON : Hid ((failT t' 7).2.kind = 0 → RunOk p (failT t' 7).1 ∧ 2 * (200 - (n' + 1)) + (failT t' 7).1.frames.length < kk ∧ n' + 1 ≤ 200) := fun h0 => absurd (show (3 : Int) = 0 from h0) (by decide)
       have hrun2 : Hid (runS p (kk + 1) t' n' = if (failT t' 7).2.kind = 0 then runS p kk (failT t' 7).1 (n' + 1) else failT t' 7) := hrun.out.trans (if_neg (show ¬ ((3 : Int) = 0) by decide)).symm
       obtain ⟨G,hG⟩ : ∃ G,failT t' 7 = G := ⟨_,rfl⟩
       rw [hG] at HL hrun2 HON
       clear hG hn
       unfold tskL at HL
       go_wp2_with (first | ((first | (with_reducible refine jl 32 ?_) | (with_reducible refine il 32 ?_));refine ldm Tryz.underlying32 rfl rfl rfl (by exact rg) rfl (by exact infoTsk) ?_;dsimp only [dZ,dS]) | ((first | (with_reducible refine jk 102 ?_) | (with_reducible refine ik 102 ?_));refine stm rfl rfl rfl rfl (by exact tr) infoRes (all_oneCell_toArray (by simp [Value.oneCell'])) ?_;(try dsimp only [Act.put])) | (go_at_call 41;refine (HV.out _).mono ?_;rintro e w3 ⟨rfl,hb⟩;have HE3 := Lib.hid hb;have R3 := range_ext R2 hb;have P3 := range_ext P2 hb;have T3 := there_ext T2 hb;have Y3 := range_ext Y2 hb;have q3 := hb.cell q1;have zq3 := lt_of_cell q3;have hs3 := hb.size;have TA3 := there_ext (there_ext HI.out.ta E2.out) hb;have TS3 := there_ext (there_ext HI.out.ts E2.out) hb;have HEw3 := Lib.hid (HEw.out.trans hb);clear hb) | (go_at_call 70;refine (HL.out _ HE3.out).mono ?_;rintro e w4 ⟨A1,c1,A2,c2,rfl,hR,hb⟩;have HRR := Lib.hid hR;unfold resV;have T4 := there_ext T3 hb;have HE4 := Lib.hid hb;have hs4 := hb.size;clear hR hb))
       go_meet
       exact ⟨G,n' + 1,A1,c1,A2,c2,congrArg (int .i64) (by omega),rst_of (hz := hz) HRR.out (E2.out.trans HE3.out) HE4.out hrb1 (by omega) T4 hrun2.out HON.out⟩
      ·rw [if_neg hn] at hrun
       have hnd : ¬ (200 : Int) ≤ (n' : Int) := by omega
       have hndb : decide ((200 : Int) ≤ (n' : Int)) = false := decide_eq_false hnd
       have HL := Lib.hid (fun W (hE : Ext W2 W) => rexec_any (c := ca) (w0 := bsOf w wr hz) (w := W) ⟨HRO'.out,HCk.out,HFf.out,HG.out,HPL.out,HINS.out,HPR.out,HBT.out,HB2.out.trans hE,HAR.out,HXI.out⟩ HVS.out)
       have hFt := Lib.hid (exec_fate HCk.out HRO'.out HFf.out HG.out HXX.out HVS.out)
       obtain ⟨G,hG⟩ : ∃ G,execS p t' f x = G := ⟨_,rfl⟩
       rw [hG] at HL hrun hFt
       have HON : Hid (G.2.kind = 0 → RunOk p G.1 ∧ 2 * (200 - (n' + 1)) + G.1.frames.length < kk ∧ n' + 1 ≤ 200) := fun h0 => by
        rcases hFt.out.2 with ⟨_,h1,h2⟩ | ⟨h1,_⟩
        ·exact ⟨h1,by have := HM.out.1;omega,by omega⟩
        ·exact absurd h0 h1
       clear hG hFt hn
       unfold tskL at HL
       go_upto_region 20 with (go_at_call 41;refine (HV.out _).mono ?_;rintro e w3 ⟨rfl,hb⟩;have HE3 := Lib.hid hb;have R3 := range_ext R2 hb;have P3 := range_ext P2 hb;have T3 := there_ext T2 hb;have Y3 := range_ext Y2 hb;have q3 := hb.cell q1;have zq3 := lt_of_cell q3;have hs3 := hb.size;have TA3 := there_ext (there_ext HI.out.ta E2.out) hb;have TS3 := there_ext (there_ext HI.out.ts E2.out) hb;have HEw3 := Lib.hid (HEw.out.trans hb);clear hb)
       refine wp_region_th 8 (fun W' => Ext w3 W' ∧ W'.cell? ⟨wr.heap.size,1,none⟩ = some (int .i64 (pn : Int))) (by kernel_rfl) (by kernel_rfl) (by kernel_rfl) (by kernel_rfl) (by decide) ?_ ?_
       ·exact ⟨xt,by go_simp⟩
       intro hT hHeld
       (refine th_take (i := 0) (oi := ?oi0_12) (v := ?v0_12) hT ?hi0_12 (by decide) (by kernel_rfl) (by kernel_rfl) ?hq0_12 (Or.inl ⟨?hw0_12, ?hy0_12⟩) (by assumption) ?rest0_12;(case hi0_12 => (simp only [List.getElem?_toArray,List.getElem?_cons_zero,List.getElem?_cons_succ];rfl));(case hw0_12 => rfl);(case hy0_12 => (intro w' hSw;refine Eq.trans (exec_load_mid 26 _ (by rfl) w.heap.size 0 (by rfl) _ _ Tryz.underlying26 (by rfl) ?hiL0_12 w' (range_ext P3 hSw.1)) ?eqL0_12;(case eqL0_12 => with_reducible rfl);exact infoPrgR));(case hq0_12 => (exact fun _ _ _ h => h));(try simp only [Act.put,aset,dZ,dS]))
       (refine th_take (i := 1) (oi := ?oi1_13) (v := ?v1_13) hT ?hi1_13 (by decide) (by kernel_rfl) (by kernel_rfl) ?hq1_13 (Or.inl ⟨?hw1_13, ?hy1_13⟩) (by assumption) ?rest1_13;(case hi1_13 => (simp only [List.getElem?_toArray,List.getElem?_cons_zero,List.getElem?_cons_succ];rfl));(case hw1_13 => rfl);(case hy1_13 => (intro w' hSw;refine Eq.trans (exec_load_mid 32 _ (by rfl) (w.heap.size + 1) 0 (by rfl) _ _ Tryz.underlying32 (by rfl) ?hiL1_13 w' (range_ext R3 hSw.1)) ?eqL1_13;(case eqL1_13 => with_reducible rfl);exact infoTsk));(case hq1_13 => (exact fun _ _ _ h => h));(try simp only [Act.put,aset,dZ,dS]))
       (refine tht 2 hT ?_;(try simp only [Act.put,aset,dZ,dS]);refine tht 3 hT ?_;(try simp only [Act.put,aset,dZ,dS]);refine tht 4 hT ?_;(try simp only [Act.put,aset,dZ,dS]);refine tht 5 hT ?_;(try simp only [Act.put,aset,dZ,dS]))
       (refine th_take (i := 6) (oi := ?oi6_14) (v := ?v6_14) hT ?hi6_14 (by decide) (by kernel_rfl) (by kernel_rfl) ?hq6_14 (Or.inl ⟨?hw6_14, ?hy6_14⟩) (by assumption) ?rest6_14;(case hi6_14 => (simp only [List.getElem?_toArray,List.getElem?_cons_zero,List.getElem?_cons_succ];rfl));(case hw6_14 => rfl);(case hy6_14 => (intro w' hSw;refine Eq.trans (exec_load_mid 37 _ (by rfl) bc (oc + pn * 5) (by rfl) _ _ Tryz.underlying37 (by rfl) ?hiL6_14 w' (range_ext Y3 hSw.1)) ?eqL6_14;(case eqL6_14 => with_reducible rfl);exact infoInsR));(case hq6_14 => (exact fun _ _ _ h => h));(try simp only [Act.put,aset,dZ,dS]))
       refine tst 7 (fun K hK => ?_)
       go_simp
       have HSd := Lib.hid hHeld.1.size
       have HEd := Lib.hid hHeld.1
       go_at_call 71
       refine (HL.out _ (HE3.out.trans hHeld.1)).mono ?_
       rintro e w4 ⟨A1,c1,A2,c2,rfl,hR,hb⟩
       have HRR := Lib.hid hR
       unfold resV
       have T4 := there_ext (there_ext T3 hHeld.1) hb
       have HE4 := Lib.hid hb
       have hs4 := hb.size
       dsimp only
       refine hK.out _ _ ⟨hHeld.1.trans hb,hb.cell hHeld.2⟩ (fun hHeld2 => ?_)
       clear hR hb hHeld hHeld2
       clear hK K
       (try simp only [Act.put,aset,dZ,dS])
       refine th_done (by kernel_rfl) ?_
       simp only [List.drop_succ_cons,List.drop_zero]
       go_wp2_with ((first | (with_reducible refine jk 102 ?_) | (with_reducible refine ik 102 ?_));refine stm rfl rfl rfl rfl (by exact tr) infoRes (all_oneCell_toArray (by simp [Value.oneCell'])) ?_;(try dsimp only [Act.put]))
       go_meet
       exact ⟨G,n' + 1,A1,c1,A2,c2,congrArg (int .i64) (by omega),rst_of (hz := hz) HRR.out ((E2.out.trans HE3.out).trans HEd.out) HE4.out hrb1 (by have := HSd.out;omega) T4 hrun.out HON.out⟩
   case rest =>
    obtain ⟨G,m,A1,c1,A2,c2,rfl,hS⟩ := hcut
    have HS := Lib.hid hS
    have hzc : w.heap.size + 1 + 1 + 1 < wc.heap.size := by have := hS.ext.size;omega
    have TT := there_ext HI.out.tt hS.ext
    have TA := there_ext HI.out.ta hS.ext
    have TS := there_ext HI.out.ts hS.ext
    have R3 : wc.rangeAt W1.heap.size 0 [int .i64 G.1.fn,int .i64 G.1.scope,int .i64 G.1.prio,int .i64 G.1.status,int .i64 G.1.wkind,int .i64 G.1.windex,.bool G.1.wagain,.slice A1 G.1.frames.length c1,.slice A2 G.1.blocks.length c2,int .i64 G.1.mask,.bool G.1.unw,int .i64 G.1.level,int .i64 G.1.reason,int .i64 G.1.result] := range_left hS.box
    have S3 : wc.rangeAt W1.heap.size 14 [int .i64 G.2.kind,int .i64 G.2.reason,int .i64 G.2.value] := range_right hS.box
    have hrb3 : W1.heap.size < wc.heap.size := lt_of_cell (R3 0 _ rfl)
    clear hS T2 q1 zq1 R2 P2
    go_upto_region 22 with (first | ((first | (with_reducible refine jl 32 ?_) | (with_reducible refine il 32 ?_));refine ldm Tryz.underlying32 rfl rfl rfl (by exact rg) rfl (by exact infoTsk) ?_;dsimp only [dZ,dS]) | ((with_reducible refine ik 32 ?_);refine stm rfl rfl rfl rfl (by exact tr) infoTsk (all_oneCell_toArray (by simp [Value.oneCell'])) ?_;(try dsimp only [Act.put])))
    refine wp_hid2 ?_
    intro W5 HW5
    have BX : Hid (BExt (bsOf w wc hzc) W5) := by rw [Hid,HW5.out];exact (BExt.refl (bsOf w wc hzc)).setS (.inl (by simp [bsOf])) 0 _
    have HI5 : Hid (RAd w [.slice (some ⟨bF,offF,none⟩) nf kf,.slice Po no ko,.slice Pv nv kv] G.1 (.slice A1 G.1.frames.length c1) (.slice A2 G.1.blocks.length c2) W5) := by
     have hX := HI.out.ext.trans HS.out.ext
     refine ⟨?_, ?_, ?_, ?_, ?_, ?_,fun h => btsk_store (HS.out.rd hzc) BX.out⟩
     ·rw [HW5.out];exact hX.setCells (by omega) 0 _
     ·rw [HW5.out];exact range_out (range_ext HI.out.prog HS.out.ext) (by omega)
     ·rw [HW5.out];exact World.rangeAt_setCells_same _ _ 0 _ TT
     ·rw [HW5.out];exact there_sets TT
     ·rw [HW5.out];exact there_sets TA
     ·rw [HW5.out];exact there_sets TS
    have S5 : W5.rangeAt W1.heap.size 14 [int .i64 G.2.kind,int .i64 G.2.reason,int .i64 G.2.value] := by rw [HW5.out];exact range_out S3 (by omega)
    have k14 : W5.cell? ⟨W1.heap.size,14,none⟩ = some (int .i64 G.2.kind) := S5 0 _ rfl
    have zk14 := lt_of_cell k14
    clear HW5 R3 S3 TT TA TS
    by_cases hk : G.2.kind = 0
    ·have hkb : (G.2.kind != 0) = false := by simpa using hk
     have hon := HS.out.on hk
     have hm200 := hon.2.2
     have HRn := Lib.hid hon
     clear hk hon
     go_wp2
     go_roundg kk
     case measure => omega
     case rel =>
      have hk : G.2.kind = 0 := by simpa using hkb
      exact ⟨G.1,m,_,_,by go_num,HI5,HRn.out.1,HQ.out.trans (HS.out.run.trans (if_pos hk)),HRn.out.2⟩
    ·have hkb : (G.2.kind != 0) = true := by simpa using hk
     have HK := Lib.hid hk
     have R5 : W5.rangeAt (w.heap.size + 1) 0 [int .i64 G.1.fn,int .i64 G.1.scope,int .i64 G.1.prio,int .i64 G.1.status,int .i64 G.1.wkind,int .i64 G.1.windex,.bool G.1.wagain,.slice A1 G.1.frames.length c1,.slice A2 G.1.blocks.length c2,int .i64 G.1.mask,.bool G.1.unw,int .i64 G.1.level,int .i64 G.1.reason,int .i64 G.1.result] := HI5.out.box
     have hz5 : w.heap.size + 1 + 1 + 1 < W5.heap.size := there_lt HI5.out.ts (by omega)
     clear hk
     go_upto_region 23 with fail
     refine wp_region_th 4 (fun W' => W'.rangeAt (w.heap.size + 1) 0 [int .i64 G.1.fn,int .i64 G.1.scope,int .i64 G.1.prio,int .i64 G.1.status,int .i64 G.1.wkind,int .i64 G.1.windex,.bool G.1.wagain,.slice A1 G.1.frames.length c1,.slice A2 G.1.blocks.length c2,int .i64 G.1.mask,.bool G.1.unw,int .i64 G.1.level,int .i64 G.1.reason,int .i64 G.1.result] ∧ W'.rangeAt W1.heap.size 14 [int .i64 G.2.kind,int .i64 G.2.reason,int .i64 G.2.value]) (by kernel_rfl) (by kernel_rfl) (by kernel_rfl) (by kernel_rfl) (by decide) ?_ ?_
     ·exact ⟨range_drew R5,range_drew S5⟩
     intro hT hHeld
     (refine th_take (i := 0) (oi := ?oi0_15) (v := ?v0_15) hT ?hi0_15 (by decide) (by kernel_rfl) (by kernel_rfl) ?hq0_15 (Or.inl ⟨?hw0_15, ?hy0_15⟩) (by assumption) ?rest0_15;(case hi0_15 => (simp only [List.getElem?_toArray,List.getElem?_cons_zero,List.getElem?_cons_succ];rfl));(case hw0_15 => rfl);(case hy0_15 => (intro w' hSw;refine Eq.trans (exec_load_mid 32 _ (by rfl) (w.heap.size + 1) 0 (by rfl) _ _ Tryz.underlying32 (by rfl) ?hiL0_15 w' (hSw.1)) ?eqL0_15;(case eqL0_15 => with_reducible rfl);exact infoTsk));(case hq0_15 => (exact fun _ _ _ h => h));(try simp only [Act.put,aset,dZ,dS]))
     (refine tht 1 hT ?_;(try simp only [Act.put,aset,dZ,dS]))
     (refine th_take (i := 2) (oi := ?oi2_16) (v := ?v2_16) hT ?hi2_16 (by decide) (by kernel_rfl) (by kernel_rfl) ?hq2_16 (Or.inl ⟨?hw2_16, ?hy2_16⟩) (by assumption) ?rest2_16;(case hi2_16 => (simp only [List.getElem?_toArray,List.getElem?_cons_zero,List.getElem?_cons_succ];rfl));(case hw2_16 => rfl);(case hy2_16 => (intro w' hSw;refine Eq.trans (exec_load_mid 49 _ (by rfl) W1.heap.size 14 (by rfl) _ _ Tryz.underlying49 (by rfl) ?hiL2_16 w' (hSw.2)) ?eqL2_16;(case eqL2_16 => with_reducible rfl);exact infoStop));(case hq2_16 => (exact fun _ _ _ h => h));(try simp only [Act.put,aset,dZ,dS]))
     refine tst 3 (fun K hK => ?_)
     have T10 : W5.drew.there (w.heap.size + 1 + 1) 0 14 := there_drew HI5.out.ta
     have U10 : W5.drew.there (w.heap.size + 1 + 1 + 1) 0 3 := there_drew HI5.out.ts
     rw [if_pos (by rfl)]
     refine wp_store_mid _ _ _ rfl _ _ (List.toArray _) rfl rfl T10 infoTsk (all_oneCell_toArray (by simp [Value.oneCell'])) ?_
     refine hK.out _ _ ⟨range_out hHeld.1 (by omega),range_out hHeld.2 (by omega)⟩ (fun hHeld => ?_)
     clear hK K
     (try simp only [Act.put,aset,dZ,dS])
     refine th_done (by kernel_rfl) ?_
     simp only [List.drop_succ_cons,List.drop_zero]
     go_wp2_with ((with_reducible refine ik 49 ?_);refine stm rfl rfl rfl rfl (by exact tr) infoStop (all_oneCell_toArray (by simp [Value.oneCell'])) ?_;(try dsimp only [Act.put]))
     refine ret_range3 (b := w.heap.size + 1 + 1) (b2 := w.heap.size + 1 + 1 + 1) Tryz.results25 rfl rfl rfl rfl ?hl ?hl2 (ranges_two (by omega) ?t1 ?t2).1 (ranges_two (by omega) ?t3 ?t4).2 ?fin
     case hl => rfl
     case hl2 => rfl
     case t1 => exact T10
     case t2 => exact U10
     case t3 => exact T10
     case t4 => exact U10
     case fin =>
      rw [HR.out,HQ.out.trans (HS.out.run.trans (if_neg HK.out))]
      have hB := (((BExt.refl (bsOf w W5 hz5)).trans (show Ext W5 W5.drew from (Ext.refl _).drew)).setS (y := w.heap.size + 1 + 1) (.inl (by simp [bsOf])) 0 [int .i64 G.1.fn,int .i64 G.1.scope,int .i64 G.1.prio,int .i64 G.1.status,int .i64 G.1.wkind,int .i64 G.1.windex,.bool G.1.wagain,.slice A1 G.1.frames.length c1,.slice A2 G.1.blocks.length c2,int .i64 G.1.mask,.bool G.1.unw,int .i64 G.1.level,int .i64 G.1.reason,int .i64 G.1.result]).setS (y := w.heap.size + 1 + 1 + 1) (.inl (by simp [bsOf])) 0 [int .i64 G.2.kind,int .i64 G.2.reason,int .i64 G.2.value]
      have h9 := HI5.out.ext
      exact ⟨_,rfl,(HI5.out.rd hz5).mono hB,xts⟩
end Go.Proofs.YtcjjoabofecjmaaGreat

