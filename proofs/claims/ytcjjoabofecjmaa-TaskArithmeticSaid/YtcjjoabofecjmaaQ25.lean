/- A part of the proof: More for XHTail; Visible of package program; run of a runner. -/
import Derived.Test.YtcjjoabofecjmaaQ23
set_option linter.unusedVariables false
set_option linter.unusedSimpArgs false
set_option maxHeartbeats 16000000
namespace Go.Proofs.Ytcjjoabofecjmaa
open Go.RowKit Go.Sort
open Go.Value (int)
section
variable {P : Program} {ops : Array Oper} {Q : Exit → Act → World → Prop} {S : World → Prop}
theorem th_two {n g f i j : Nat} {oi oj : Oper} {l : List Oper} {listed : Array Bool} {a : Act} {w : World} (hi : ops[i]? = some oi) (hj : ops[j]? = some oj) (hin : i < n) (hjn : j < n) (hr : Region.ready .any ops listed = [i,j])
  (h1 : ∀ K' : Act → World → Prop,Shut (∀ a w,S w → (S w → THeld P ops Q S l g n f (listed.setIfInBounds i true) a w) → K' a w) → if Region.wanted oi (yielded ops a.tmps) = true then Oper.wp P oi a w K' Q else K' (a.put oi.dst undef) w)
  (h2 : ∀ K' : Act → World → Prop,Shut (∀ a w,S w → (S w → THeld P ops Q S l g n f (listed.setIfInBounds j true) a w) → K' a w) → if Region.wanted oj (yielded ops a.tmps) = true then Oper.wp P oj a w K' Q else K' (a.put oj.dst undef) w) : THeld P ops Q S l g n (f + 1) listed a w := fun inv => by
 refine ⟨by rw [hr];simp,fun k hk => ?_⟩
 rw [hr] at hk
 have hk2 : k = i ∨ k = j := by simpa using hk
 rcases hk2 with rfl | rfl
 ·refine ⟨hin, ?_⟩
  have h3 := h1 (fun a' w' => S w' ∧ anyTH P .any ops Q S n (TailL P .any ops Q l g n) f (listed.setIfInBounds k true) a' w') (fun a' w' hS hh => ⟨hS,hh hS (inv.set (by rw [hr];simp) hin)⟩)
  unfold wpOp
  simp only [hi]
  split
  ·rename_i hw;rw [if_pos hw] at h3;exact .inl h3
  ·rename_i hw;rw [if_neg hw] at h3;exact h3
 ·refine ⟨hjn, ?_⟩
  have h3 := h2 (fun a' w' => S w' ∧ anyTH P .any ops Q S n (TailL P .any ops Q l g n) f (listed.setIfInBounds k true) a' w') (fun a' w' hS hh => ⟨hS,hh hS (inv.set (by rw [hr];simp) hjn)⟩)
  unfold wpOp
  simp only [hj]
  split
  ·rename_i hw;rw [if_pos hw] at h3;exact .inl h3
  ·rename_i hw;rw [if_neg hw] at h3;exact h3
theorem exec_load_mid {op : Oper} {a : Act} (ty : TypeId) (x : Operand) (ho : op.op = .load ty x) (b o : Nat) (hx : a.eval x = .pointer (some ⟨b,o,none⟩)) (cs : List Value) (d : TypeDesc) (hu : P.underlying ty = some d) (hd : d.isRow = true) (hi : (P.info? ty).map (·.size) = some cs.length)
  (w : World) (hc : w.rangeAt b o cs) : (execOp a.eval op).run P w = .ok (.value (.agg cs.toArray)) w := by
 unfold execOp
 simp only [ho,hx,Instr.loadAt,Instr.sureAddr,Sem.run_bind,Sem.run_pure,Result.andThen_ok,run_loadVar_mid w b o ty cs d hc hu hd hi]
end
theorem infoPrg : (Try.prog.info? 38).map (·.size) = some 3 := by kernel_rfl
end Go.Proofs.Ytcjjoabofecjmaa
namespace Go.Proofs.Ytcjjoabofecjmaa
open Go.RowKit
open Go.Value (int)
set_option maxRecDepth 4000 in
theorem visible_any (op : Int) (w : World) :
  Calls Try.prog 37 #[int .i64 op] w fun e w' => e = .returned (.bool (visS op)) ∧ Ext w w' := by
 obtain ⟨k,hk⟩ : ∃ k,(shapeS op).isSome = k := ⟨_,rfl⟩
 have HS := Lib.hid (fun W => shapeOf_any op W)
 rw [hk] at HS
 have HR : Hid (visS op = (k && decide (30 ≤ op))) := by unfold Hid visS;rw [hk]
 clear hk
 cases k with
 | false =>
  go_enter Try.func37,Try.ntmps37
  go_wp2_with (go_at_call 79;refine (HS.out _).mono ?_;rintro e w1 ⟨rfl,hb⟩;have he := Lib.hid hb;clear hb)
  go_ret
  exact ⟨ret_bool (by rw [HR.out];rfl),by have := he.out;exact xt⟩
 | true =>
  by_cases h30 : (30 : Int) ≤ op
  ·go_enter Try.func37,Try.ntmps37
   go_wp2_with (go_at_call 79;refine (HS.out _).mono ?_;rintro e w1 ⟨rfl,hb⟩;have he := Lib.hid hb;clear hb)
   go_ret
   exact ⟨ret_bool (by rw [HR.out];simp [h30]),by have := he.out;exact xt⟩
  ·go_enter Try.func37,Try.ntmps37
   go_wp2_with (go_at_call 79;refine (HS.out _).mono ?_;rintro e w1 ⟨rfl,hb⟩;have he := Lib.hid hb;clear hb)
   go_ret
   exact ⟨ret_bool (by rw [HR.out];simp [h30]),by have := he.out;exact xt⟩
end Go.Proofs.Ytcjjoabofecjmaa
namespace Go.Proofs.Ytcjjoabofecjmaa
open Go.RowKit Go.Sort
open Go.Value (int)
set_option maxRecDepth 8000 in
theorem run_any {p : Prg} {X : List Value} {B R : Nat} {P3 : List Value} {w : World} {t : Tsk} {VF VB : Value} {rs hs : List Value} {gs : List (List Value)} (hX : boxV (R + 1) ∈ X) (hRS : w.heap.size = R + 1) (hBR : B ≤ R) (h : ∀ W,Ext w W → R + 1 < W.heap.size → RunSt X B R P3 W t 0 VF VB rs hs gs) (hr : RunOk p t) (hc : checkS p = 0) (hN : NumIn t) (u : World) (hu : Ext u w) (huB : u.heap.size ≤ B) (hP : RPrg u p (.agg P3.toArray)) :
  Calls Try.prog 19 #[.pointer (some ⟨R,0,none⟩)] w (RunPost X B R P3 w (runS p 500 t 0)) := by
 have hmf : ∀ (fn : Fn) (first cap : Array Value) (w : World),(Instr.makeFunc fn first cap).run Try.prog w = .ok (.func fn first cap) w := fun _ _ _ _ => rfl
 obtain ⟨V0,V1,V2,rfl⟩ : ∃ V0 V1 V2,P3 = [V0,V1,V2] := by
  have h3 := (h (w.alloc (.cells #[] 0)) ((Ext.refl w).alloc _) (by simp;omega)).three
  match P3,h3 with
  | [a,b,c],_ => exact ⟨a,b,c,rfl⟩
 have hlR : R < w.heap.size := by omega
 have hBW : B ≤ w.heap.size := by omega
 have H := Lib.hid h
 have HRO := Lib.hid hr
 have hXX := Lib.hid hX
 have HN := Lib.hid hN
 have HC := Lib.hid hc
 have HU := Lib.hid hu
 have HUB := Lib.hid huB
 have HP := Lib.hid hP
 clear h hr hc hN hu huB hP hX
 obtain ⟨post,hpost⟩ : ∃ post,RunPost X B R [V0,V1,V2] w (runS p 500 t 0) = post := ⟨_,rfl⟩
 have HPost := Lib.hid hpost
 rw [hpost]
 clear hpost
 go_enter_defers Try.func19,Try.ntmps19
 go_wp2_with (go_at_call 35;refine (operations_any _).mono ?_;rintro e w1 ⟨b,rfl,hT,hb1⟩)
 have HTab := Lib.hid hT
 have HST : Hid (StopAt w1 w.heap.size) := (hb1.block _ (by simp)).trans (heap_alloc_new w _)
 have HE1 : Hid (Ext w w1) := Ext.trans xt hb1
 clear hT hb1
 go_loopg [5] 500 (fun gg _ wr => ∃ (t' : Tsk) (n' : Nat) (VF' VB' : Value) (rs' hs' : List Value) (gs' : List (List Value)),Hid (RunSt X B R [V0,V1,V2] wr t' n' VF' VB' rs' hs' gs') ∧ Hid (RunOk p t') ∧ Hid (NumIn t') ∧ Hid (Tabs wr b) ∧ Hid (Kept B w wr) ∧ Hid (StopAt wr w.heap.size) ∧ Hid (runS p 500 t 0 = runS p gg t' n') ∧ Hid (2 * (200 - n') + t'.frames.length < gg ∧ n' ≤ 200))
 case atStart => exact ⟨t,0,_,_,_,_,_,H.out _ HE1.out (by have := lt_of_cell (HST.out.cell (o := 0) (by omega));rw [← hRS];exact this),HRO.out,HN.out,HTab.out,Kept.mono HE1.out hBW,HST.out,rfl,⟨by have := HRO.out.len;omega,by omega⟩⟩
 case round =>
  obtain ⟨t',n',VF',VB',rs',hs',gs',H',HR',HN',HT',HK',HS',HQ',HM'⟩ := hrel
  clear H HRO HN HTab HST HE1
  obtain ⟨f,hf⟩ := HR'.out.top
  obtain ⟨g,hg⟩ := HR'.out.fr _ f hf
  obtain ⟨kk,hkk⟩ : ∃ kk,gk = kk + 1 := ⟨gk - 1,by have := HM'.out.1;omega⟩
  subst hkk
  have HU' : Hid (Ext u wr) := Below.trans HU.out (Below.mono HK'.out.below HUB.out)
  have HCur := Lib.hid (fun W (hE : Ext wr W) => curr_any p t' f g _ _ u wr W HP.out (H'.out.rtsk HN'.out (HR'.out.wk HC.out)) (HU'.out.trans hE) hE hf hg.fn hg.pc.1)
  have HF := Lib.hid hf
  have HG := Lib.hid hg
  have R0 : Hid (wr.rangeAt R 0 [V0,V1,V2]) := fun j v hj => by rw [Nat.zero_add];exact H'.out.cellP hj
  have R1 := Lib.hid H'.out.task
  have hlR' := H'.out.lt.2
  unfold insV at HCur
  unfold tskL at HCur R1
  clear hf hg
  go_upto_region 3 with fail
  go_cut [4,5] from 8 to 50 (fun s4 s5 wx => ∃ (I : Nat) (A : Option Addr) (m c : Nat),s4 = .pointer (some ⟨I,0,none⟩) ∧ s5 = .bool (nowI p t').2 ∧ Hid (Ext wr wx) ∧ Hid (wr.heap.size ≤ I) ∧ Hid (wx.rangeAt I 0 [int .i64 (nowI p t').1.op,int .i64 (nowI p t').1.a,int .i64 (nowI p t').1.b,int .i64 (nowI p t').1.c,.slice A m c]) ∧ Hid (RSl 1 RInt u A m (nowI p t').1.args))
  case first =>
   refine wp_region_noPanic ?_
   refine wp_region_th 14 (fun W' => Ext wr W') (by kernel_rfl) (by kernel_rfl) (by kernel_rfl) (by kernel_rfl) (by decide) ?_ ?_
   ·exact xt
   intro hT hHeld
   (refine tht 0 hT ?_;(try simp only [Act.put,aset,dZ,dS]);refine tht 1 hT ?_;(try simp only [Act.put,aset,dZ,dS]);refine tht 2 hT ?_;(try simp only [Act.put,aset,dZ,dS]))
   (refine th_take (i := 3) (oi := ?oi3_5) (v := ?v3_5) hT ?hi3_5 (by decide) (by kernel_rfl) (by kernel_rfl) ?hq3_5 (Or.inl ⟨?hw3_5, ?hy3_5⟩) (by assumption) ?rest3_5;(case hi3_5 => (simp only [List.getElem?_toArray,List.getElem?_cons_zero,List.getElem?_cons_succ];rfl));(case hw3_5 => rfl);(case hy3_5 => (intro w' hSw;refine Eq.trans (exec_load_mid 38 _ (by rfl) R 0 (by rfl) _ _ Try.underlying38 (by rfl) ?hiL3_5 w' (range_ext R0.out hSw)) ?eqL3_5;(case eqL3_5 => with_reducible rfl);exact infoPrg));(case hq3_5 => (exact fun _ _ _ h => h));(try simp only [Act.put,aset,dZ,dS]))
   (refine tht 4 hT ?_;(try simp only [Act.put,aset,dZ,dS]);refine tht 5 hT ?_;(try simp only [Act.put,aset,dZ,dS]);refine tht 6 hT ?_;(try simp only [Act.put,aset,dZ,dS]))
   (refine th_take (i := 7) (oi := ?oi7_6) (v := ?v7_6) hT ?hi7_6 (by decide) (by kernel_rfl) (by kernel_rfl) ?hq7_6 (Or.inl ⟨?hw7_6, ?hy7_6⟩) (by assumption) ?rest7_6;(case hi7_6 => (simp only [List.getElem?_toArray,List.getElem?_cons_zero,List.getElem?_cons_succ];rfl));(case hw7_6 => rfl);(case hy7_6 => (intro w' hSw;refine Eq.trans (exec_load_mid 44 _ (by rfl) R 3 (by rfl) _ _ Try.underlying44 (by rfl) ?hiL7_6 w' (range_ext R1.out hSw)) ?eqL7_6;(case eqL7_6 => with_reducible rfl);exact infoTsk));(case hq7_6 => (exact fun _ _ _ h => h));(try simp only [Act.put,aset,dZ,dS]))
   (refine th_two (i := 8) (j := 12) (oi := ?oA8_7) (oj := ?oB8_7) ?hA8_7 ?hB8_7 (by decide) (by decide) (by kernel_rfl) (fun K hK => ?_) (fun K hK => ?_);(case hA8_7 => (simp only [List.getElem?_toArray,List.getElem?_cons_zero,List.getElem?_cons_succ];rfl));(case hB8_7 => (simp only [List.getElem?_toArray,List.getElem?_cons_zero,List.getElem?_cons_succ];rfl)))
   ·go_simp
    go_at_call 21
    refine (HCur.out _ hHeld).mono ?_
    rintro e w5 ⟨A,m,c,rfl,⟨hX,_⟩,hb5⟩
    have HX := Lib.hid hX
    clear hX
    dsimp only
    have hE5 : Ext wr w5 := Ext.trans hHeld hb5
    have hz5 := hE5.size
    refine hK.out _ _ (Ext.trans hHeld hb5) (fun hHeld => ?_)
    clear hK K
    (try simp only [Act.put,aset,dZ,dS])
    (refine tht 9 hT ?_;(try simp only [Act.put,aset,dZ,dS]);refine tht 10 hT ?_;(try simp only [Act.put,aset,dZ,dS]);refine tht 11 hT ?_;(try simp only [Act.put,aset,dZ,dS]))
    refine tst 12 (fun K hK => ?_)
    go_simp
    refine hK.out _ _ (hHeld.alloc _) (fun hHeld => ?_)
    clear hK K
    (try simp only [Act.put,aset,dZ,dS])
    refine tst 13 (fun K hK => ?_)
    go_simp
    refine hK.out _ _ (hE5.alloc _) (fun hHeld => ?_)
    clear hK K
    (try simp only [Act.put,aset,dZ,dS])
    refine th_done (by kernel_rfl) ?_
    simp only [List.drop_succ_cons,List.drop_zero]
    go_wp2
    refine NoPanic.normal ?_
    go_wp2
    go_meet
    exact ⟨w5.heap.size,A,m,c,rfl,rfl,hE5.alloc _,hz5,(fun j v hj => by rw [Nat.zero_add,cell?_alloc_if,if_neg (Nat.lt_irrefl _),if_pos rfl];simpa using hj),HX.out⟩
   ·go_simp
    refine hK.out _ _ (hHeld.alloc _) (fun hHeld => ?_)
    clear hK K
    (try simp only [Act.put,aset,dZ,dS])
    refine tst 8 (fun K hK => ?_)
    go_simp
    go_at_call 21
    refine (HCur.out _ xt).mono ?_
    rintro e w5 ⟨A,m,c,rfl,⟨hX,_⟩,hb5⟩
    have HX := Lib.hid hX
    clear hX
    dsimp only
    have T5 := there_ext (b := wr.heap.size) (o := 0) (n := 5) (by exact tr) hb5
    have F5 : ∀ o,w5.frozen? ⟨wr.heap.size,o,none⟩ = false := fun o => by rw [Below.frozen hb5 (by simp)];simp [go_sem]
    have hE5 : Ext wr w5 := Ext.trans xt hb5
    have k0 := Option.isSome_iff_exists.1 (T5 0 (by omega)).1
    have k1 := Option.isSome_iff_exists.1 (T5 1 (by omega)).1
    have k2 := Option.isSome_iff_exists.1 (T5 2 (by omega)).1
    have k3 := Option.isSome_iff_exists.1 (T5 3 (by omega)).1
    have k4 := Option.isSome_iff_exists.1 (T5 4 (by omega)).1
    simp only [Nat.zero_add] at k0 k1 k2 k3 k4
    obtain ⟨v0,k0⟩ := k0
    obtain ⟨v1,k1⟩ := k1
    obtain ⟨v2,k2⟩ := k2
    obtain ⟨v3,k3⟩ := k3
    obtain ⟨v4,k4⟩ := k4
    refine hK.out _ _ hE5 (fun hHeld => ?_)
    clear hK K
    (try simp only [Act.put,aset,dZ,dS])
    (refine tht 9 hT ?_;(try simp only [Act.put,aset,dZ,dS]);refine tht 10 hT ?_;(try simp only [Act.put,aset,dZ,dS]);refine tht 11 hT ?_;(try simp only [Act.put,aset,dZ,dS]))
    refine tst 13 (fun K hK => ?_)
    go_simp
    have hF : Ext wr (w5.setCells wr.heap.size 0 [int .i64 (nowI p t').1.op,int .i64 (nowI p t').1.a,int .i64 (nowI p t').1.b,int .i64 (nowI p t').1.c,.slice A m c]) := Ext.setCells hE5 (Nat.le_refl _) 0 _
    have RF : (w5.setCells wr.heap.size 0 [int .i64 (nowI p t').1.op,int .i64 (nowI p t').1.a,int .i64 (nowI p t').1.b,int .i64 (nowI p t').1.c,.slice A m c]).rangeAt wr.heap.size 0 [int .i64 (nowI p t').1.op,int .i64 (nowI p t').1.a,int .i64 (nowI p t').1.b,int .i64 (nowI p t').1.c,.slice A m c] := World.rangeAt_setCells_same _ _ 0 _ T5
    refine hK.out _ _ hF (fun hHeld => ?_)
    clear hK K
    (try simp only [Act.put,aset,dZ,dS])
    refine th_done (by kernel_rfl) ?_
    simp only [List.drop_succ_cons,List.drop_zero]
    clear hHeld T5 F5 k0 k1 k2 k3 k4
    go_wp2
    refine NoPanic.normal ?_
    go_wp2
    go_meet
    exact ⟨wr.heap.size,A,m,c,rfl,rfl,hF,Nat.le_refl _,RF,HX.out⟩
  case rest =>
   obtain ⟨I,A,m,c,rfl,rfl,HE,HI,HR,HX⟩ := hcut
   have hnow : nowI p t' = match g.code[f.pc.toNat]? with | none => (zeroIns,false) | some x => (x,true) := by
    unfold nowI nowS
    have h1 := HF.out
    unfold topF at h1
    rw [h1]
    dsimp only
    rw [HG.out.fn]
    dsimp only
    rw [if_neg (by have := HG.out.pc.1;omega)]
    all_goals (cases g.code[f.pc.toNat]? <;> rfl)
   have HW : Hid (RunSt X B R [V0,V1,V2] wc t' n' VF' VB' rs' hs' gs') := H'.out.mono HE.out
   have HKc : Hid (Kept B w wc) := Kept.trans HK'.out (Kept.mono HE.out (by have := H'.out.lt;omega))
   have HSc : Hid (StopAt wc (R + 1)) := by rw [← hRS];exact HS'.out.keep (Kept.mono HE.out (Nat.zero_le _))
   obtain ⟨C3,C4,C5,C6,C7,C8,C9,C10,C11,D6,D7,HTb0⟩ := HT'.out
   have HTb : Hid (TabOk wc b C3 C4 C5 C6 C7 C8 C9 C10 C11 D6 D7) := HTb0.keep (Kept.mono HE.out (Nat.zero_le _))
   clear HTb0
   have hrun : Hid (runS p (kk + 1) t' n' = match g.code[f.pc.toNat]? with
    | none => if (giveS t' f 0).2.kind = 0 then runS p kk (giveS t' f 0).1 n' else giveS t' f 0
    | some x => if visS x.op = true then (t',⟨1,0,0⟩) else if n' = 200 then failT t' 7 else if (execS p t' f x).2.kind = 0 then runS p kk (execS p t' f x).1 (n' + 1) else execS p t' f x) := by
    unfold Hid
    conv => lhs;unfold runS
    rw [HF.out]
    dsimp only
    rw [HG.out.fn]
    dsimp only
    all_goals (cases g.code[f.pc.toNat]? <;> rfl)
   cases hx : g.code[f.pc.toNat]? with
   | none =>
    rw [hx] at hnow hrun
    dsimp only at hnow hrun
    have HL := Lib.hid (fun W (hE : Ext wc W) => (leave_any (HW.out.mono hE) HR'.out HC.out HF.out 0 (by decide)).mono fun e w' hp => OpPost.base hp (Kept.mono hE (by have := HW.out.lt;omega)))
    have hFt := Lib.hid (fate_give HR'.out HF.out (v := 0) (by decide))
    obtain ⟨G,hG⟩ : ∃ G,giveS t' f 0 = G := ⟨_,rfl⟩
    have hBare := Lib.hid (bare_give t' f 0)
    rw [hG] at HL hrun hFt hBare
    rw [hnow]
    clear hnow hG hx HCur R1
    dsimp only
    go_wp2_with (go_at_call 36;refine (HL.out _ xt).mono ?_;rintro e w5 HP5;have HPo := Lib.hid HP5;rcases HP5.ends with rfl | ⟨ch,rfl⟩;all_goals clear HP5)
    ·obtain ⟨VF2,VB2,rs2,hs2,gs2,hst⟩ := HPo.out.2.1
     have h0 := end_zero HPo.out.1
     have HF2 : Hid (RunOk p G.1 ∧ G.1.frames.length ≤ t'.frames.length - 1) := by
      rcases hFt.out.2 with ⟨_,h1,h2⟩ | ⟨h1,_⟩
      ·exact ⟨h1,h2⟩
      ·exact absurd h0 h1
     have HST := Lib.hid hst
     clear hst
     go_roundg kk
     case measure => omega
     case rel => exact ⟨G.1,n',VF2,VB2,rs2,hs2,gs2,HST.out,HF2.out.1,HN'.out.same hFt.out.1,⟨_,_,_,_,_,_,_,_,_,_,_,HTb.out.keep HPo.out.2.2⟩,Kept.trans HKc.out HPo.out.2.2,by rw [hRS];exact HSc.out.keep HPo.out.2.2,HQ'.out.trans (hrun.out.trans (if_pos h0)),⟨by have := HM'.out.1;have := HF2.out.2;have := HR'.out.pos;omega,HM'.out.2⟩⟩
    ·obtain ⟨VF2,VB2,rs2,hs2,gs2,hst⟩ := HPo.out.2.1
     rw [← HPost.out,HQ'.out.trans (hrun.out.trans (if_neg (end_some HPo.out.1)))]
     exact run_panics rfl hXX.out hst (Kept.trans HKc.out HPo.out.2.2) (HSc.out.keep HPo.out.2.2) (by omega) (by omega) HPo.out.1 hBare.out
   | some x =>
    rw [hx] at hnow hrun
    dsimp only at hnow hrun
    rw [hnow] at HR HX ⊢
    dsimp only at HR HX ⊢
    have HIB := Lib.hid (HP.out.ins_in HG.out.fn hx)
    have HXX := Lib.hid hx
    have HV := Lib.hid (fun W => visible_any x.op W)
    have k0 : wc.cell? ⟨I,0,none⟩ = some (int .i64 x.op) := HR.out 0 _ rfl
    have k1 : wc.cell? ⟨I,1,none⟩ = some (int .i64 x.a) := HR.out 1 _ rfl
    have k2 : wc.cell? ⟨I,2,none⟩ = some (int .i64 x.b) := HR.out 2 _ rfl
    have k3 : wc.cell? ⟨I,3,none⟩ = some (int .i64 x.c) := HR.out 3 _ rfl
    have k4 : wc.cell? ⟨I,4,none⟩ = some (.slice A m c) := HR.out 4 _ rfl
    have s0 := HSc.out.cell (o := 0) (by omega)
    have s1 := HSc.out.cell (o := 1) (by omega)
    have s2 := HSc.out.cell (o := 2) (by omega)
    have sf := HSc.out.frozen
    have kn := HW.out.cellN
    have kf := HW.out.frozen 17
    have zI : I < wc.heap.size := lt_of_cell k0
    have zS : R + 1 < wc.heap.size := lt_of_cell s0
    have zR : R < wc.heap.size := by omega
    clear hnow hx HCur R1
    cases hv : visS x.op with
    | true =>
     rw [hv,if_pos rfl] at hrun
     rw [hv] at HV
     go_wp2_with (go_at_call 37;refine (HV.out _).mono ?_;rintro e w5 ⟨rfl,hb5⟩;have HB5 := Lib.hid hb5;obtain ⟨hc5,hf5,hs5,he5⟩ := Ext.use (w := wc) hb5 xt;clear hb5)
     rw [← HPost.out,HQ'.out.trans hrun.out]
     exact run_returns (r := (t',⟨1,0,0⟩)) rfl hXX.out (HW.out.mono HB5.out) (Kept.trans HKc.out (Kept.mono HB5.out (by have := HW.out.lt;omega))) (HSc.out.keep (Kept.mono HB5.out (Nat.zero_le _))) (by omega) (by omega)
    | false =>
     have hv0 : visS x.op = false := hv
     rw [hv,if_neg (by decide)] at hrun
     rw [hv] at HV
     by_cases h200 : n' = 200
     ·rw [if_pos h200] at hrun
      have hn2 : ((n' : Int) == 200) = true := by rw [h200];rfl
      clear h200 hv hv0
      go_wp2_with (go_at_call 37;refine (HV.out _).mono ?_;rintro e w5 ⟨rfl,hb5⟩;have HB5 := Lib.hid hb5;obtain ⟨hc5,hf5,hs5,he5⟩ := Ext.use (w := wc) hb5 xt;clear hb5)
      rw [← HPost.out,HQ'.out.trans hrun.out]
      exact run_returns (r := failT t' 7) rfl hXX.out (HW.out.mono HB5.out) (Kept.trans HKc.out (Kept.mono HB5.out (by have := HW.out.lt;omega))) (HSc.out.keep (Kept.mono HB5.out (Nat.zero_le _))) (by omega) (by omega)
     ·rw [if_neg h200] at hrun
      have hn2 : ((n' : Int) == 200) = false := beq_eq_false_iff_ne.2 (by omega)
      have HL2 : Hid (n' < 200) := by have := HM'.out.2;rw [Hid];omega
      have hn200 : n' ≤ 200 := HM'.out.2
      have hwn : IntKind.i64.wrap ((n' : Int) + 1) = (n' : Int) + 1 := IntWalk.i64_in _ (by omega)
      have hFt := Lib.hid (exec_fate HC.out HR'.out HF.out HG.out HXX.out hv0)
      have hop := local_op (ins_ok ((fn_ok HC.out (fnAt_mem HG.out.fn)).ins x (List.mem_of_getElem? HXX.out))).shape hv0
      have hBare := Lib.hid (bare_exec p t' f x hop)
      have HEX := Lib.hid (fun W (hS : RunSt X B R [V0,V1,V2] W t' ((n' : Int) + 1) VF' VB' rs' hs' gs') (hU : Ext u W) (hT : TabOk W b C3 C4 C5 C6 C7 C8 C9 C10 C11 D6 D7) => exec_any hS HR'.out HC.out HN'.out u hU HUB.out HP.out HF.out HG.out x HXX.out hv0 A m c HX.out HIB.out hT)
      have HOP := Lib.hid hop
      obtain ⟨G,hG⟩ : ∃ G,execS p t' f x = G := ⟨_,rfl⟩
      rw [hG] at hrun hFt hBare HEX
      clear hG h200 hv hv0 hop
      go_wp2_with (first | (go_at_call 37;refine (HV.out _).mono ?_;rintro e w5 ⟨rfl,hb5⟩;have HB5 := Lib.hid hb5;have HN5 := Lib.hid ((HW.out.mono hb5).set_n ((n' : Int) + 1));have HU5 : Hid (Ext u (w5.setCell ⟨R,17,none⟩ (int .i64 ((n' : Int) + 1)))) := Ext.setCell (Ext.trans HU'.out (Ext.trans HE.out hb5)) (show u.heap.size ≤ R by have := HUB.out;rw [Hid] at *;omega) _;have HK5 : Hid (Kept B wc (w5.setCell ⟨R,17,none⟩ (int .i64 ((n' : Int) + 1)))) := Kept.store (Kept.mono hb5 (by have := HW.out.lt;omega)) hBR _ HN5.out.hotR;obtain ⟨gk,lb,eV,eg,hcall⟩ := HEX.out _ HN5.out HU5.out (HTb.out.keep HK5.out);have hlk := tab_look (HTb.out.keep HK5.out) HOP.out;rw [eV] at hlk;have HCALL := Lib.hid hcall;unfold Enters at eg;obtain ⟨hc5,hf5,hs5,he5⟩ := Ext.use (w := wc) hb5 xt;clear hb5 hcall eV) | (go_at_fn gk;refine HCALL.out.mono ?_;rintro e w6 HP6;have HPo := Lib.hid (OpPost.base HP6 HK5.out);rcases HP6.ends with rfl | ⟨ch,rfl⟩;all_goals clear HP6))
      ·obtain ⟨VF2,VB2,rs2,hs2,gs2,hst⟩ := HPo.out.2.1
       have h0 := end_zero HPo.out.1
       have HF2 : Hid (RunOk p G.1 ∧ G.1.frames.length ≤ t'.frames.length + 1) := by
        rcases hFt.out.2 with ⟨_,h1,h2⟩ | ⟨h1,_⟩
        ·exact ⟨h1,h2⟩
        ·exact absurd h0 h1
       have HST := Lib.hid hst
       clear hst
       go_roundg kk
       case measure => omega
       case rel => exact ⟨G.1,n' + 1,VF2,VB2,rs2,hs2,gs2,HST.out,HF2.out.1,HN'.out.same hFt.out.1,⟨_,_,_,_,_,_,_,_,_,_,_,HTb.out.keep HPo.out.2.2⟩,Kept.trans HKc.out HPo.out.2.2,by rw [hRS];exact HSc.out.keep HPo.out.2.2,HQ'.out.trans (hrun.out.trans (if_pos h0)),⟨by have := HM'.out.1;have := HF2.out.2;have := HL2.out;omega,by have := HL2.out;omega⟩⟩
      ·obtain ⟨VF2,VB2,rs2,hs2,gs2,hst⟩ := HPo.out.2.1
       rw [← HPost.out,HQ'.out.trans (hrun.out.trans (if_neg (end_some HPo.out.1)))]
       exact run_panics rfl hXX.out hst (Kept.trans HKc.out HPo.out.2.2) (HSc.out.keep HPo.out.2.2) (by omega) (by omega) HPo.out.1 hBare.out
set_option maxRecDepth 4000 in
theorem clip_any (A : Option Addr) (n c : Nat) (w : World) (hn : n ≤ c) (hm : n ≤ 1000) :
  Calls Try.prog 20 #[.slice A n c] w fun e w' => e = .returned (.slice A n n) ∧ w' = w := by
 have h1 : (n : Int) ≤ (c : Int) := by omega
 have h0 : (0 : Int) ≤ (n : Int) := by omega
 go_enter Try.func20,Try.ntmps20
 go_wp2
 go_ret
 exact ⟨rfl,rfl⟩
theorem ret_range3 {fn : Func} {R : Ending → World → Prop} {a : Act} {w : World} {b b2 s s2 k : Nat} {cs cs2 : List Value} {v : Value} (hfn : fn.results = #[ResultVar.cell s 44,ResultVar.cell s2 49,ResultVar.tmp k]) (hs : a.tmps[s]? = some (.pointer (some ⟨b,0,none⟩))) (hs2 : a.tmps[s2]? = some (.pointer (some ⟨b2,0,none⟩))) (hk : a.tmps[k]? = some v) (hd : a.defers = []) (hl : cs.length = 14) (hl2 : cs2.length = 3) (hR : w.rangeAt b 0 cs) (hR2 : w.rangeAt b2 0 cs2)
  (h : R (.returned (.tuple #[.agg cs.toArray,.agg cs2.toArray,v])) w) : bodyPost Try.prog fn R .ret a w :=
 bodyPost_ret (by simp [results,hfn,hs,hs2,hk,asAddr,run_loadVar_mid w b 0 44 cs _ hR Try.underlying44 rfl (by rw [infoTsk,hl]),run_loadVar_mid w b2 0 49 cs2 _ hR2 Try.underlying49 rfl (by rw [infoStop,hl2])]) hd h
theorem ranges_two {w : World} {b b2 : Nat} {cs cs2 : List Value} (hb : b ≠ b2) (h : w.there b 0 cs.length) (h2 : w.there b2 0 cs2.length) : ((w.setCells b 0 cs).setCells b2 0 cs2).rangeAt b 0 cs ∧ ((w.setCells b 0 cs).setCells b2 0 cs2).rangeAt b2 0 cs2 :=
 ⟨fun j v hj => by rw [World.cell?_setCells_out b2 cs2 0 _ _ (fun e => absurd e hb)];exact World.rangeAt_setCells_same _ _ 0 _ h j v hj,World.rangeAt_setCells_same _ _ 0 _ (there_sets h2)⟩
def AdvPost (p : Prg) (t : Tsk) (w : World) (e : Ending) (w' : World) : Prop := ∃ V',e = .returned (.tuple #[V',stopA (advanceS p t).2.1,int .i64 (advanceS p t).2.2]) ∧ RTsk w' (advanceS p t).1 V' ∧ Ext w w'
set_option maxRecDepth 4000 in
theorem Advance_bad (p : Prg) (t : Tsk) (VP VT : Value) (w : World) (hP : RPrg w p VP) (hT : RTsk w t VT) (hc : tcheckS p t ≠ 0) : Calls Try.prog 7 #[VP,VT] w (AdvPost p t w) := by
 have HC := Lib.hid (fun W h => tCheck_any p t VP VT W (hP.mono h) (hT.mono h))
 obtain ⟨Af,nf,cf,Ao,no,co,Av,nv,cv,rfl,hF,hO,hVr,hcf,hco,hcv⟩ := hP
 obtain ⟨Bf,mf,df,Bb,mb,db,rfl,_,_,_,_,_,_,_,_,_,_,hF2,hB2,hdf,hdb⟩ := hT
 clear hO hVr hcf hco hcv hB2 hF hF2
 have HR : Hid (advanceS p t = (zeroTsk,goOn,1)) := by unfold Hid advanceS;rw [if_pos hc]
 have hcb : (tcheckS p t != 0) = true := by simpa using hc
 clear hc
 unfold AdvPost
 go_enter Try.func7,Try.ntmps7
 go_wp2_with (first | ((first | (with_reducible refine jl 44 ?_) | (with_reducible refine il 44 ?_));refine ldm Try.underlying44 rfl rfl rfl (by exact rg) rfl (by exact infoTsk) ?_;dsimp only [dZ,dS]) | ((with_reducible refine ik 44 ?_);refine stm rfl rfl rfl rfl (by exact tr) infoTsk (all_oneCell_toArray (by simp [Value.oneCell'])) ?_;(try dsimp only [Act.put])) | ((with_reducible refine ik 49 ?_);refine stm rfl rfl rfl rfl (by exact tr) infoStop (all_oneCell_toArray (by simp [Value.oneCell'])) ?_;(try dsimp only [Act.put])) | (go_at_call 16;refine (HC.out _ xt).mono ?_;rintro e w1 ⟨rfl,hb⟩;have T1 := there_ext (b := w.heap.size + 1 + 1) (o := 0) (n := 14) (by exact tr) hb;have U1 := there_ext (b := w.heap.size + 1 + 1 + 1) (o := 0) (n := 3) (by exact tr) hb;have he0 := Lib.hid hb;obtain ⟨hc,hf,hs,he⟩ := Ext.use (w := w) hb xt;clear hb;(try simp only [World.size_alloc] at hs);have hz1 : w.heap.size + 1 + 1 + 1 < w1.heap.size := (by omega)))
 refine ret_range3 (b := w.heap.size + 1 + 1) (b2 := w.heap.size + 1 + 1 + 1) Try.results7 rfl rfl rfl rfl ?hl ?hl2 (ranges_two (by omega) ?t1 ?t2).1 (ranges_two (by omega) ?t3 ?t4).2 ?fin
 case hl => rfl
 case hl2 => rfl
 case t1 => exact tr
 case t2 => exact tr
 case t3 => exact tr
 case t4 => exact tr
 rw [HR.out]
 exact ⟨_,rfl,zero_reads _,xts⟩
set_option maxRecDepth 4000 in
theorem Advance_state (p : Prg) (t : Tsk) (VP VT : Value) (w : World) (hP : RPrg w p VP) (hT : RTsk w t VT) (hc : tcheckS p t = 0) (hst : t.status ≠ 1) : Calls Try.prog 7 #[VP,VT] w (AdvPost p t w) := by
 have HC := Lib.hid (fun W h => tCheck_any p t VP VT W (hP.mono h) (hT.mono h))
 rw [hc] at HC
 obtain ⟨Af,nf,cf,Ao,no,co,Av,nv,cv,rfl,hF,hO,hVr,hcf,hco,hcv⟩ := hP
 obtain ⟨Bf,mf,df,Bb,mb,db,rfl,_,_,_,_,_,_,_,_,_,_,hF2,hB2,hdf,hdb⟩ := hT
 clear hO hVr hcf hco hcv hB2 hF hF2
 have HR : Hid (advanceS p t = (zeroTsk,goOn,17)) := by unfold Hid advanceS;rw [if_neg (by simpa using hc),if_pos hst]
 have hcb : (t.status != 1) = true := by simpa using hst
 clear hc hst
 unfold AdvPost
 go_enter Try.func7,Try.ntmps7
 go_wp2_with (first | ((first | (with_reducible refine jl 44 ?_) | (with_reducible refine il 44 ?_));refine ldm Try.underlying44 rfl rfl rfl (by exact rg) rfl (by exact infoTsk) ?_;dsimp only [dZ,dS]) | ((with_reducible refine ik 44 ?_);refine stm rfl rfl rfl rfl (by exact tr) infoTsk (all_oneCell_toArray (by simp [Value.oneCell'])) ?_;(try dsimp only [Act.put])) | ((with_reducible refine ik 49 ?_);refine stm rfl rfl rfl rfl (by exact tr) infoStop (all_oneCell_toArray (by simp [Value.oneCell'])) ?_;(try dsimp only [Act.put])) | (go_at_call 16;refine (HC.out _ xt).mono ?_;rintro e w1 ⟨rfl,hb⟩;have T1 := there_ext (b := w.heap.size + 1 + 1) (o := 0) (n := 14) (by exact tr) hb;have U1 := there_ext (b := w.heap.size + 1 + 1 + 1) (o := 0) (n := 3) (by exact tr) hb;have he0 := Lib.hid hb;obtain ⟨hc,hf,hs,he⟩ := Ext.use (w := w) hb xt;clear hb;(try simp only [World.size_alloc] at hs);have hz1 : w.heap.size + 1 + 1 + 1 < w1.heap.size := (by omega)))
 refine ret_range3 (b := w.heap.size + 1 + 1) (b2 := w.heap.size + 1 + 1 + 1) Try.results7 rfl rfl rfl rfl ?hl ?hl2 (ranges_two (by omega) ?t1 ?t2).1 (ranges_two (by omega) ?t3 ?t4).2 ?fin
 case hl => rfl
 case hl2 => rfl
 case t1 => exact tr
 case t2 => exact tr
 case t3 => exact tr
 case t4 => exact tr
 rw [HR.out]
 exact ⟨_,rfl,zero_reads _,xts⟩
set_option maxRecDepth 4000 in
theorem Advance_unwinding (p : Prg) (t : Tsk) (VP VT : Value) (w : World) (hP : RPrg w p VP) (hT : RTsk w t VT) (hc : tcheckS p t = 0) (hst : t.status = 1) (hu : t.unw = true) (hi : inHand t = false) : Calls Try.prog 7 #[VP,VT] w (AdvPost p t w) := by
 have HC := Lib.hid (fun W h => tCheck_any p t VP VT W (hP.mono h) (hT.mono h))
 rw [hc] at HC
 have HH := Lib.hid (fun W h => handles_any t VT W (hT.mono h))
 rw [hi] at HH
 have HT := Lib.hid hT
 have HR : Hid (advanceS p t = (t,⟨5,0,0⟩,0)) := by unfold Hid advanceS;rw [if_neg (by simpa using hc),if_neg (by simpa using hst),if_pos ⟨hu,hi⟩]
 obtain ⟨Af,nf,cf,Ao,no,co,Av,nv,cv,rfl,hF,hO,hVr,hcf,hco,hcv⟩ := hP
 obtain ⟨Bf,mf,df,Bb,mb,db,rfl,_,_,_,_,_,_,_,_,_,_,hF2,hB2,hdf,hdb⟩ := hT
 clear hO hVr hcf hco hcv hB2 hF hF2
 rw [hu,hst] at HT HC HH ⊢
 clear hc hst hu hi
 unfold AdvPost
 go_enter Try.func7,Try.ntmps7
 go_wp2_with (first | ((first | (with_reducible refine jl 44 ?_) | (with_reducible refine il 44 ?_));refine ldm Try.underlying44 rfl rfl rfl (by exact rg) rfl (by exact infoTsk) ?_;dsimp only [dZ,dS]) | ((with_reducible refine ig 44 ?_);refine ldg Try.underlying44 (by rfl) rfl rfl (by exact rg) rfl (by exact infoTsk) ?_;dsimp only [dZ,dS]) | ((with_reducible refine ik 44 ?_);refine stm rfl rfl rfl rfl (by exact tr) infoTsk (all_oneCell_toArray (by simp [Value.oneCell'])) ?_;(try dsimp only [Act.put])) | ((with_reducible refine ik 49 ?_);refine stm rfl rfl rfl rfl (by exact tr) infoStop (all_oneCell_toArray (by simp [Value.oneCell'])) ?_;(try dsimp only [Act.put])) | (go_at_call 16;refine (HC.out _ xt).mono ?_;rintro e w1 ⟨rfl,hb⟩;have T1 := there_ext (b := w.heap.size + 1 + 1) (o := 0) (n := 14) (by exact tr) hb;have U1 := there_ext (b := w.heap.size + 1 + 1 + 1) (o := 0) (n := 3) (by exact tr) hb;have R1 := range_ext (b := w.heap.size + 1) (o := 0) (by exact rg) hb;have he0 := Lib.hid hb;obtain ⟨hc,hf,hs,he⟩ := Ext.use (w := w) hb xt;clear hb;(try simp only [World.size_alloc] at hs);have hz1 : w.heap.size + 1 + 1 + 1 < w1.heap.size := (by omega)) | (go_at_call 17;refine (HH.out _ xt).mono ?_;rintro e w2 ⟨rfl,hb⟩;have T2 := there_ext T1 hb;have U2 := there_ext U1 hb;have R2 := range_ext R1 hb;have he0 := Lib.hid hb;obtain ⟨hc2,hf2,hs2,he2⟩ := Ext.use (w := w) hb xt;clear hb))
 refine ret_range3 (b := w.heap.size + 1 + 1) (b2 := w.heap.size + 1 + 1 + 1) Try.results7 rfl rfl rfl rfl ?hl ?hl2 (ranges_two (by omega) ?t1 ?t2).1 (ranges_two (by omega) ?t3 ?t4).2 ?fin
 case hl => rfl
 case hl2 => rfl
 case t1 => exact tr
 case t2 => exact tr
 case t3 => exact tr
 case t4 => exact tr
 rw [HR.out]
 exact ⟨_,rfl,HT.out.mono xts,xts⟩
theorem wpList_name {P : Program} {ops : Array Oper} {rest : List Oper} {a : Act} {w : World} {Q : Exit → Act → World → Prop} (h : ∀ W,Hid (W = w) → wpList P ops Q rest a W) : wpList P ops Q rest a w := h w rfl
theorem range_out {w : World} {b b2 o o2 : Nat} {cs vs : List Value} (h : w.rangeAt b o cs) (hb : b ≠ b2) : (w.setCells b2 o2 vs).rangeAt b o cs := fun j v hj => by
 rw [World.cell?_setCells_out b2 vs o2 _ _ (fun e => absurd e hb)];exact h j v hj
theorem Cold.grown {w W : World} {b c : Nat} (h : Cold w b) (hg : w.grownBy W (some c)) (hne : b ≠ c) : Cold W b := by
 obtain ⟨o,h1,h2⟩ := h
 exact ⟨o,(hg.block b (Array.getElem?_eq_some_iff.1 h1).1 (fun e => hne (by injection e))).trans h1,h2⟩
def TskSt (X : List Value) (B R : Nat) (w : World) (t : Tsk) (VF VB : Value) (rs hs : List Value) (gs : List (List Value)) : Prop := OFr B w t.frames VF rs ∧ OBl B w t.blocks VB hs gs (boxV R :: VF :: VB :: (rs ++ (hs ++ X)))
theorem row_cold {w : World} {B b : Nat} {e : TypeId} {sz : Nat} {v : Value} {n : Nat} {xs : List Value} (h : w.ownsRow B e sz v n xs) (he : hotO (.cells #[] e (0,0)) = true) (hb : Cold w b) : v.ownBlock = none ∨ v.ownBlock ≠ some b := by
 cases hv : v.ownBlock with
 | none => exact .inl rfl
 | some x =>
  refine .inr fun e' => ?_
  injection e' with e'
  subst e'
  obtain ⟨o,h1,h2⟩ := hb
  have := hot_row h hv he o h1
  rw [h2] at this
  cases this
theorem TskSt.mono {X : List Value} {B R : Nat} {w W : World} {t : Tsk} {VF VB : Value} {rs hs : List Value} {gs : List (List Value)} (h : TskSt X B R w t VF VB rs hs gs) (hE : Ext w W) : TskSt X B R W t VF VB rs hs gs := ⟨h.1.mono hE,h.2.mono hE⟩
theorem fr_rows {B : Nat} {w : World} {fs : List Frm} {VF : Value} {rs : List Value} (h : OFr B w fs VF rs) {v : Value} (hv : v ∈ rs) : ∃ m xs,w.ownsRow B 3 1 v m xs := by
 obtain ⟨i,hi,rfl⟩ := List.getElem_of_mem hv
 exact ⟨_,_,h.reg i _ _ (List.getElem?_eq_getElem (by rw [← h.len];exact hi)) (List.getElem?_eq_getElem hi)⟩
theorem bl_rows {B : Nat} {w : World} {bs : List Blk} {VB : Value} {hs : List Value} {gs : List (List Value)} {L : List Value} (h : OBl B w bs VB hs gs L) {v : Value} (hv : v ∈ hs) : ∃ m xs,w.ownsRow B 83 2 v m xs := by
 obtain ⟨i,hi,rfl⟩ := List.getElem_of_mem hv
 exact ⟨_,_,(h.hnd i _ _ _ (List.getElem?_eq_getElem (show i < bs.length by rw [← h.len];exact hi)) (List.getElem?_eq_getElem hi) (List.getElem?_eq_getElem (show i < gs.length by rw [h.alen,← h.len];exact hi))).2⟩
theorem TskSt.cold {X : List Value} {B R b : Nat} {w W : World} {t : Tsk} {VF VB : Value} {rs hs : List Value} {gs : List (List Value)} (h : TskSt X B R w t VF VB rs hs gs) (hX : boxV b ∈ X) (hb : Cold w b) (hg : w.grownBy W (some b)) : TskSt X B R W t VF VB rs hs gs := by
 refine ⟨h.1.kept hg (row_cold h.1.row (by decide) hb) (fun u hu => by obtain ⟨m,xs,hh⟩ := fr_rows h.1 hu;exact row_cold hh (by decide) hb),h.2.wrote hg (row_cold h.2.row (by decide) hb) (fun u hu => by obtain ⟨m,xs,hh⟩ := bl_rows h.2 hu;exact row_cold hh (by decide) hb) (u := boxV b) ?_ rfl⟩
 exact List.mem_cons_of_mem _ (List.mem_cons_of_mem _ (List.mem_cons_of_mem _ (List.mem_append_right _ (List.mem_append_right _ hX))))
theorem RunSt.off_box {X : List Value} {B R : Nat} {P3 : List Value} {w : World} {t : Tsk} {n : Int} {VF VB : Value} {rs hs : List Value} {gs : List (List Value)} (h : RunSt X B R P3 w t n VF VB rs hs gs) (j : Nat) (v : Value) : TskSt X B R (w.setCell ⟨R,j,none⟩ v) t VF VB rs hs gs := by
 obtain ⟨_,h5⟩ := World.ownsRow.stored (g := R) (n := 1) (cap := 1) h.box j v
 exact ⟨h.fr.kept h5 (apart_ne (apart_types h.fr.row h.box (by decide)) rfl) (fun u hu => by obtain ⟨m,xs,hh⟩ := h.rs_row hu;exact apart_ne (apart_types hh h.box (by decide)) rfl),
  h.bl.wrote h5 (apart_ne (apart_types h.bl.row h.box (by decide)) rfl) (fun u hu => by obtain ⟨m,xs,hh⟩ := h.hs_row hu;exact apart_ne (apart_types hh h.box (by decide)) rfl) List.mem_cons_self rfl⟩
theorem TskSt.reads {X : List Value} {B R : Nat} {w : World} {t : Tsk} {VF VB : Value} {rs hs : List Value} {gs : List (List Value)} (h : TskSt X B R w t VF VB rs hs gs) (hn : NumIn t) (hw : RunWk t) : ∃ Af cf,VF = .slice Af t.frames.length cf ∧ RTsk w t (.agg (tskL t (.slice Af t.frames.length t.frames.length) VB).toArray) := by
 have := hw.len
 have := hw.bl
 obtain ⟨Af,cf,rfl,hcf,hF⟩ := h.1.reads (by omega) (fun f hf => by have := hw.regs f hf;omega)
 obtain ⟨Ab,cb,rfl,hcb,hB⟩ := h.2.reads (by omega) (fun b hb => by have := hw.hdl b hb;omega)
 exact ⟨Af,cf,rfl,rtsk_of ⟨hn.fn,hn.scope,hn.prio,hn.status,hn.wkind,hn.windex,⟨by have := hw.mask;omega,by have := hw.mask;omega⟩,hn.level,hn.reason,hn.result⟩ hF (Nat.le_refl _) hB hcb⟩
theorem there_below {B : Nat} {w W : World} {b o n : Nat} (h : w.there b o n) (hb : b < B) (k : Below B w W) : W.there b o n := fun j hj => by
 obtain ⟨h1,h2⟩ := h j hj
 exact ⟨by rw [Below.cell k (show b < B from hb)];exact h1,by rw [Below.frozen k (show b < B from hb)];exact h2⟩
theorem run_first {B R : Nat} {X : List Value} {w0 w5 W6 : World} {t : Tsk} {V0 V1 V2 VF VB : Value} {rs hs : List Value} {gs : List (List Value)} (hB : w0.heap.size ≤ B) (hR : w5.heap.size = R) (hBR : B ≤ R) (hW : W6 = w5.alloc (.cells ([V0,V1,V2] ++ (tskL t VF VB ++ [int .i64 0])).toArray 71))
  (hF : OFr B w5 t.frames VF rs) (hO : ∀ L,Low w0 L → OBl B w5 t.blocks VB hs gs L) (hX : ∀ r ∈ X,∀ x,r.ownBlock = some x → w0.heap.size ≤ x ∧ x ≤ R + 1) :
  ∀ W,Ext W6 W → R + 1 < W.heap.size → RunSt X B R [V0,V1,V2] W t 0 VF VB rs hs gs := fun W hE hs1 => by
 subst hW hR
 have hE5 : Ext w5 (w5.alloc (.cells ([V0,V1,V2] ++ (tskL t VF VB ++ [int .i64 0])).toArray 71)) := (Ext.refl _).alloc _
 have hE' := hE5.trans hE
 have hbx := World.ownsRow_lit (base := B) (e := 71) (size := 18) w5 ([V0,V1,V2] ++ (tskL t VF VB ++ [int .i64 0])).toArray 1 hBR (by simp [maxLen]) rfl
 have hlow : Low w0 (boxV w5.heap.size :: VF :: VB :: (rs ++ (hs ++ X))) := fun r hr x hx => by
  have hO0 := hO [] (fun _ h => by cases h)
  rcases List.mem_cons.1 hr with rfl | hr
  ·have hx2 : w5.heap.size = x := by injection hx
   omega
  rcases List.mem_cons.1 hr with rfl | hr
  ·exact Nat.le_trans hB (hF.row.lt x hx).1
  rcases List.mem_cons.1 hr with rfl | hr
  ·exact Nat.le_trans hB (hO0.row.lt x hx).1
  rcases List.mem_append.1 hr with hr | hr
  ·obtain ⟨m,xs,hh⟩ := fr_rows hF hr;exact Nat.le_trans hB (hh.lt x hx).1
  rcases List.mem_append.1 hr with hr | hr
  ·obtain ⟨m,xs,hh⟩ := bl_rows hO0 hr;exact Nat.le_trans hB (hh.lt x hx).1
  ·exact (hX r hr x hx).1
 exact ⟨rfl,ownsRow_ext hbx hE,hF.mono hE',(hO _ hlow).mono hE',fun r hr x hx => by have := (hX r hr x hx).2;omega⟩
end Go.Proofs.Ytcjjoabofecjmaa

