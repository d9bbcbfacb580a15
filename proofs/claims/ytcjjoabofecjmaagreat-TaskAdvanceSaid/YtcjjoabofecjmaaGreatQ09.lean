/- A part of the proof: Great of the reference; Tools of the laws; Great of the refe. -/
import Derived.Test.YtcjjoabofecjmaaGreatQ10
import Derived.Test.YtcjjoabofecjmaaGreatQ30
set_option linter.unusedVariables false
set_option linter.unusedSimpArgs false
set_option maxHeartbeats 16000000
namespace Go.Proofs.YtcjjoabofecjmaaGreat
open Go.RowKit
open Go.Value (int)
theorem wp_hid' {P : Program} {c : Code} {Q : Exit → Act → World → Prop} {a : Act} {w : World} (h : ∀ W,Hid (W = w) → c.wp P Q a W) : c.wp P Q a w := h w rfl
def greatF (f : Frm) : Bool := decide (40 < f.regs.length)
def greatH (h : Hdl) : Bool := decide (12 < h.args.length)
def greatB (b : Blk) : Bool := decide (12 < b.handlers.length) || b.handlers.any greatH
def greatT (t : Tsk) : Bool := decide (12 < t.frames.length) || decide (12 < t.blocks.length) || t.frames.any greatF || t.blocks.any greatB
theorem any_drop {α : Type} (g : α → Bool) {xs : List α} {k : Nat} {x : α} (hx : xs[k]? = some x) : (xs.drop k).any g = (g x || (xs.drop (k + 1)).any g) := by
 rw [drop_cons hx,List.any_cons]
theorem refGreat_any (t : Tsk) (V : Value) (w : World) (hV : RTsk w t V) :
  Calls Tryz.prog 36 #[V] w fun e w' => e = .returned (.bool (greatT t)) ∧ Ext w w' := by
 obtain ⟨Af,nf,cf,Ab,nb,cb,rfl,_,_,_,_,_,_,_,_,_,_,hF,hB,_⟩ := hV
 have hle := hF.le
 have hle2 := hB.le
 have LF := Lib.hid hF.len
 have LB := Lib.hid hB.len
 obtain ⟨qf,HQF⟩ : ∃ q,Hid (t.frames.any greatF = q) := ⟨_,rfl⟩
 obtain ⟨qb,HQB⟩ : ∃ q,Hid (t.blocks.any greatB = q) := ⟨_,rfl⟩
 have HG : Hid (greatT t = (decide (12 < nf) || decide (12 < nb) || qf || qb)) := by unfold Hid greatT;rw [HQF.out,HQB.out,LF.out,LB.out]
 have HF := Lib.hid hF
 have HB := Lib.hid hB
 clear hF hB
 go_enter Tryz.func36,Tryz.ntmps36
 go_wp2
 all_goals try (go_ret;exact ⟨ret_bool (by have g := HG.out;clear HG;rw [g];simp;omega),xt⟩)
 refine wp_hid' ?_
 intro W0 HW0
 have HE : Hid (Ext w W0) := by rw [HW0.out];exact Lib.hid xt
 have k7 : W0.cell? ⟨w.heap.size,7,none⟩ = some (.slice Af nf cf) := by rw [HW0.out];simp [go_sem]
 have k8 : W0.cell? ⟨w.heap.size,8,none⟩ = some (.slice Ab nb cb) := by rw [HW0.out];simp [go_sem]
 have HG2 : Hid (greatT t = (qf || qb)) := by
  have g := HG.out
  rw [Hid,g]
  have h1 : ¬ 12 < nf := by omega
  have h2 : ¬ 12 < nb := by omega
  simp [h1,h2]
 clear HW0 HG
 go_loopg [3] nf (fun gg s3 wr => ∃ k : Nat,k ≤ nf ∧ nf - k ≤ gg ∧ s3 = .int .i64 k ∧ Hid (W0 = wr) ∧ Hid (qf = (t.frames.drop k).any greatF))
 case atStart => exact ⟨0,Nat.zero_le _,by omega,rfl,rfl,HQF.out.symm⟩
 case round =>
  obtain ⟨k,hk,hg,rfl,HW,HI⟩ := hrel
  by_cases hlt : k < nf
  ·have hltz : (k : Int) < (nf : Int) := by omega
   obtain ⟨x,hx⟩ : ∃ x,t.frames[k]? = some x := ⟨_,List.getElem?_eq_getElem (by have := LF.out;omega)⟩
   obtain ⟨b,off,Aa,na,ca,rfl,hlb,_,_,_,⟨hA,_⟩,c0,c1,c2,c3,c4⟩ := (HF.out.mono RFrm.stays HE.out).frm hx
   have HD := Lib.hid (any_drop greatF hx)
   have HX : Hid (greatF x = decide (40 < na)) := by rw [Hid,greatF,hA.len]
   rw [HW.out] at k7 k8 c0 c1 c2 c3 c4
   have hle3 := hA.le
   clear hx hA
   by_cases h40 : 40 < na
   ·have h40z : (40 : Int) < (na : Int) := by omega
    go_wp2
    go_ret
    exact ⟨ret_bool (by rw [HG2.out,HI.out,HD.out,HX.out,decide_eq_true h40];rfl),HW.out ▸ HE.out⟩
   ·have h40z : ¬ (40 : Int) < (na : Int) := by omega
    go_wp2
    go_roundg (nf - (k + 1))
    case measure => omega
    case rel => exact ⟨k + 1,by omega,by omega,by go_num,HW.out,by rw [Hid,HI.out,HD.out,HX.out,decide_eq_false h40];rfl⟩
  ·have hltz : ¬ (k : Int) < (nf : Int) := by omega
   have hq : qf = false := by rw [HI.out,List.drop_eq_nil_of_le (by have := LF.out;omega)];rfl
   subst hq
   obtain ⟨W1,eW1⟩ : ∃ W,W = wr := ⟨_,rfl⟩
   subst eW1
   rw [HW.out] at k7 k8
   have HE1 : Hid (Ext w W1) := HW.out ▸ HE
   go_wp2
   go_loopg [4,5] nb (fun gg s4 _ wr => ∃ j : Nat,j ≤ nb ∧ nb - j ≤ gg ∧ s4 = .int .i64 j ∧ Hid (W1 = wr) ∧ Hid (qb = (t.blocks.drop j).any greatB))
   case atStart => exact ⟨0,Nat.zero_le _,by omega,rfl,rfl,HQB.out.symm⟩
   case round =>
    obtain ⟨j,hj,hgj,rfl,HWj,HIj⟩ := hrel
    obtain ⟨W2,eW2⟩ : ∃ W,W = wr := ⟨_,rfl⟩
    subst eW2
    rw [HWj.out] at k7 k8
    have HE2 : Hid (Ext w W2) := HWj.out ▸ HE1
    by_cases hlt : j < nb
    ·have hltz : (j : Int) < (nb : Int) := by omega
     obtain ⟨x,hx⟩ : ∃ x,t.blocks[j]? = some x := ⟨_,List.getElem?_eq_getElem (by have := LB.out;omega)⟩
     obtain ⟨b,off,Aa,na,ca,rfl,hlb,_,_,_,_,⟨hA,_⟩,c0,c1,c2,c3,c4⟩ := (HB.out.mono RBlk.stays HE2.out).blk hx
     have HD := Lib.hid (any_drop greatB hx)
     have LA := Lib.hid hA.len
     have hle3 := hA.le
     have HA := Lib.hid hA
     clear hx hA
     by_cases h12 : 12 < na
     ·have h12z : (12 : Int) < (na : Int) := by omega
      go_wp2
      go_ret
      exact ⟨ret_bool (by rw [HG2.out,HIj.out,HD.out,greatB,← LA.out,decide_eq_true h12];rfl),HE2.out⟩
     ·have h12z : ¬ (12 : Int) < (na : Int) := by omega
      have HX : Hid (greatB x = x.handlers.any greatH) := by rw [Hid,greatB,← LA.out,decide_eq_false h12];rfl
      go_wp2
      go_loopg [5] na (fun gg s5 wr => ∃ i : Nat,i ≤ na ∧ na - i ≤ gg ∧ s5 = .int .i64 i ∧ Hid (W2 = wr) ∧ Hid (x.handlers.any greatH = (x.handlers.drop i).any greatH))
      case atStart => exact ⟨0,Nat.zero_le _,by omega,rfl,rfl,rfl⟩
      case round =>
       obtain ⟨i,hi,hgi,rfl,HWi,HIi⟩ := hrel
       rw [HWi.out] at k7 k8 c4
       by_cases hlt : i < na
       ·have hltz : (i : Int) < (na : Int) := by omega
        obtain ⟨y,hy⟩ : ∃ y,x.handlers[i]? = some y := ⟨_,List.getElem?_eq_getElem (by have := LA.out;omega)⟩
        obtain ⟨b2,off2,Ac,nc,cc,rfl,hlb2,_,⟨hC,_⟩,d0,d1⟩ := HA.out.hdl hy
        rw [HWi.out] at d0 d1
        have HDi := Lib.hid (any_drop greatH hy)
        have HY : Hid (greatH y = decide (12 < nc)) := by rw [Hid,greatH,hC.len]
        have hle4 := hC.le
        clear hy hC
        by_cases h12' : 12 < nc
        ·have h12y : (12 : Int) < (nc : Int) := by omega
         go_wp2
         go_ret
         exact ⟨ret_bool (by rw [HG2.out,HIj.out,HD.out,HX.out,HIi.out,HDi.out,HY.out,decide_eq_true h12'];rfl),HWi.out ▸ HE2.out⟩
        ·have h12y : ¬ (12 : Int) < (nc : Int) := by omega
         go_wp2
         go_roundg (na - (i + 1))
         case measure => omega
         case rel => exact ⟨i + 1,by omega,by omega,by go_num,HWi.out,by rw [Hid,HIi.out,HDi.out,HY.out,decide_eq_false h12'];rfl⟩
       ·have hltz : ¬ (i : Int) < (na : Int) := by omega
        go_wp2
        go_roundg (nb - (j + 1))
        case measure => omega
        case rel => exact ⟨j + 1,by omega,by omega,by go_num,HWj.out.trans HWi.out,by rw [Hid,HIj.out,HD.out,HX.out,HIi.out,List.drop_eq_nil_of_le (by have := LA.out;omega)];rfl⟩
    ·have hltz : ¬ (j : Int) < (nb : Int) := by omega
     go_wp2
     go_ret
     exact ⟨ret_bool (by rw [HG2.out,HIj.out,List.drop_eq_nil_of_le (by have := LB.out;omega)];rfl),HE2.out⟩
end Go.Proofs.YtcjjoabofecjmaaGreat
namespace Go.Proofs.YtcjjoabofecjmaaGreat
open Go.RowKit Go.Sort
open Go.Value (int)
structure Cells14 where
 l : List Value
 len : l.length = 14
 one : ∀ u ∈ l,u.oneCell' = true
theorem RTsk.cells {w : World} {t : Tsk} {V : Value} (h : RTsk w t V) : ∃ c : Cells14,V = .agg c.l.toArray := by
 obtain ⟨Af,nf,cf,Ab,nb,cb,rfl,_⟩ := h
 exact ⟨⟨tskL t (.slice Af nf cf) (.slice Ab nb cb),rfl,by simp [tskL,Value.oneCell']⟩,rfl⟩
theorem Cells14.info (c : Cells14) : (Tryz.prog.info? 32).map (·.size) = some c.l.length := by rw [infoTsk,c.len]
theorem Cells14.infoA (c : Cells14) : (Tryz.prog.info? 32).map (·.size) = some c.l.toArray.size := by rw [infoTsk,List.size_toArray,c.len]
theorem Cells14.oneA (c : Cells14) : c.l.toArray.all (·.oneCell') = true := all_oneCell_toArray c.one
theorem Cells14.there {w : World} {b o : Nat} (c : Cells14) (h : w.there b o 14) : w.there b o c.l.toArray.size := by rw [List.size_toArray,c.len];exact h
theorem Cells14.there' {w : World} {b o : Nat} (c : Cells14) (h : w.there b o 14) : w.there b o c.l.length := by rw [c.len];exact h
theorem Cells14.same {w : World} {b : Nat} (c : Cells14) (h : w.there b 0 14) : (w.setCells b 0 c.l).rangeAt b 0 c.l := World.rangeAt_setCells_same _ _ 0 _ (c.there' h)
end Go.Proofs.YtcjjoabofecjmaaGreat
namespace Go.Proofs.YtcjjoabofecjmaaGreat
open Go.RowKit
open Go.Value (int)
def greatI (x : Ins) : Bool := decide (24 < x.args.length)
def greatO (x : Ob) : Bool := decide (40 < x.name.size)
def greatV (x : Vr) : Bool := decide (40 < x.name.size)
def greatFs : Nat → List Fnc → Bool
 | _,[] => false
 | n,f :: fs => decide (250 < n + f.code.length) || decide (40 < f.name.size) || f.code.any greatI || greatFs (n + f.code.length) fs
def greatP (p : Prg) : Bool := decide (34 < p.funcs.length) || decide (18 < p.objs.length) || decide (18 < p.vars.length) || greatFs 0 p.funcs || p.objs.any greatO || p.vars.any greatV
theorem greatFs_drop {n : Nat} {xs : List Fnc} {k : Nat} {x : Fnc} (hx : xs[k]? = some x) : greatFs n (xs.drop k) = (decide (250 < n + x.code.length) || decide (40 < x.name.size) || x.code.any greatI || greatFs (n + x.code.length) (xs.drop (k + 1))) := by
 rw [drop_cons hx,greatFs]
theorem greatInstr_any (a b c d : Int) (A : Option Addr) (n cap : Nat) (w : World) (hn : n ≤ 140737488355328) :
  Calls Tryz.prog 57 #[.agg #[int .i64 a,int .i64 b,int .i64 c,int .i64 d,.slice A n cap]] w fun e w' => e = .returned (.bool (decide (24 < n))) ∧ Ext w w' := by
 by_cases h : 24 < n
 ·have hz : (24 : Int) < (n : Int) := by omega
  go_enter Tryz.func57,Tryz.ntmps57
  go_wp2
  go_ret
  exact ⟨ret_bool (by simp [h]),xt⟩
 ·have hz : ¬ (24 : Int) < (n : Int) := by omega
  go_enter Tryz.func57,Tryz.ntmps57
  go_wp2
  go_ret
  exact ⟨ret_bool (by simp [h]),xt⟩
theorem refGreatP_any (p : Prg) (V : Value) (w : World) (hV : RPrg w p V) :
  Calls Tryz.prog 20 #[V] w fun e w' => e = .returned (.bool (greatP p)) ∧ Ext w w' := by
 obtain ⟨Af,nf,cf,Ao,no,co,Av,nv,cv,rfl,hF,hO,hV,_,_,_⟩ := hV
 have hle := hF.le
 have hle2 := hO.le
 have hle3 := hV.le
 have LF := Lib.hid hF.len
 have LO := Lib.hid hO.len
 have LV := Lib.hid hV.len
 obtain ⟨qf,HQF⟩ : ∃ q,Hid (greatFs 0 p.funcs = q) := ⟨_,rfl⟩
 obtain ⟨qo,HQO⟩ : ∃ q,Hid (p.objs.any greatO = q) := ⟨_,rfl⟩
 obtain ⟨qv,HQV⟩ : ∃ q,Hid (p.vars.any greatV = q) := ⟨_,rfl⟩
 have HG : Hid (greatP p = (decide (34 < nf) || decide (18 < no) || decide (18 < nv) || qf || qo || qv)) := by unfold Hid greatP;rw [HQF.out,HQO.out,HQV.out,LF.out,LO.out,LV.out]
 have HF := Lib.hid hF
 have HO := Lib.hid hO
 have HV := Lib.hid hV
 clear hF hO hV
 go_enter Tryz.func20,Tryz.ntmps20
 go_wp2
 all_goals try (go_ret;exact ⟨ret_bool (by have g := HG.out;clear HG;rw [g];simp;omega),xt⟩)
 refine wp_hid' ?_
 intro W0 HW0
 have HE : Hid (Ext w W0) := by rw [HW0.out];exact Lib.hid xt
 have k0 : W0.cell? ⟨w.heap.size,0,none⟩ = some (.slice Af nf cf) := by rw [HW0.out];simp [go_sem]
 have k1 : W0.cell? ⟨w.heap.size,1,none⟩ = some (.slice Ao no co) := by rw [HW0.out];simp [go_sem]
 have k2 : W0.cell? ⟨w.heap.size,2,none⟩ = some (.slice Av nv cv) := by rw [HW0.out];simp [go_sem]
 have HG2 : Hid (greatP p = (qf || qo || qv)) := by
  have g := HG.out
  rw [Hid,g]
  have h1 : ¬ 34 < nf := by omega
  have h2 : ¬ 18 < no := by omega
  have h3 : ¬ 18 < nv := by omega
  simp [h1,h2,h3]
 clear HW0 HG
 go_loopg [3,4,5] nf (fun gg s3 s4 _ wr => ∃ k n : Nat,k ≤ nf ∧ nf - k ≤ gg ∧ n ≤ 250 ∧ s3 = .int .i64 n ∧ s4 = .int .i64 k ∧ Hid (Ext W0 wr) ∧ Hid (qf = greatFs n (p.funcs.drop k)))
 case atStart => exact ⟨0,0,Nat.zero_le _,by omega,by omega,rfl,rfl,Ext.refl _,HQF.out.symm⟩
 case round =>
  obtain ⟨k,n,hk,hg,hn,rfl,rfl,HW,HI⟩ := hrel
  have HE0 : Hid (Ext w wr) := HE.out.trans HW.out
  have k0 := HW.out.cell k0
  have k1 := HW.out.cell k1
  have k2 := HW.out.cell k2
  by_cases hlt : k < nf
  ·have hltz : (k : Int) < (nf : Int) := by omega
   obtain ⟨x,hx⟩ : ∃ x,p.funcs[k]? = some x := ⟨_,List.getElem?_eq_getElem (by have := LF.out;omega)⟩
   obtain ⟨b,off,Ac,nc,cc,rfl,hlb,hnm,_,_,_,⟨hA,_⟩,c0,c1,c2,c3,c4,c5⟩ := (HF.out.mono RFnc.stays HE0.out).fnc hx
   have HD := Lib.hid (greatFs_drop (n := n) hx)
   have LA := Lib.hid hA.len
   have hle4 := hA.le
   have HA := Lib.hid hA
   have hA0 := hA
   clear hx hA
   have hle5 := hA0.2.1
   obtain ⟨m,hm⟩ : ∃ m,m = n + nc := ⟨_,rfl⟩
   go_upto_region 8 with fail
   rw [show ((n : Int) + (nc : Int)) = (m : Int) by omega]
   have HM := Lib.hid hm
   rw [← LA.out,← hm] at HD
   clear hm hA0
   by_cases h250 : 250 < m
   ·have h250z : (250 : Int) < (m : Int) := by omega
    go_wp2
    go_ret
    exact ⟨ret_bool (by rw [HG2.out,HI.out,HD.out,decide_eq_true h250];rfl),HE0.out⟩
   have h250z : ¬ (250 : Int) < (m : Int) := by omega
   by_cases h40 : 40 < x.name.size
   ·have h40z : (40 : Int) < (x.name.size : Int) := by omega
    go_wp2
    go_ret
    exact ⟨ret_bool (by rw [HG2.out,HI.out,HD.out,decide_eq_true h40];simp),HE0.out⟩
   have h40z : ¬ (40 : Int) < (x.name.size : Int) := by omega
   obtain ⟨qi,HQI⟩ : ∃ q,Hid (x.code.any greatI = q) := ⟨_,rfl⟩
   have HD2 : Hid (greatFs n (p.funcs.drop k) = (qi || greatFs m (p.funcs.drop (k + 1)))) := by
    rw [Hid,HD.out,decide_eq_false h250,decide_eq_false h40,HQI.out];rfl
   obtain ⟨W1,eW1⟩ : ∃ W,W = wr := ⟨_,rfl⟩
   subst eW1
   have H0 := Lib.hid k0
   have H1 := Lib.hid k1
   have H2 := Lib.hid k2
   have H5 := Lib.hid c5
   go_wp2
   clear c0 c1 c2 c3 c4
   go_loopg [5] nc (fun gg s5 wr => ∃ i : Nat,i ≤ nc ∧ nc - i ≤ gg ∧ s5 = .int .i64 i ∧ Hid (Ext W1 wr) ∧ Hid (qi = (x.code.drop i).any greatI))
   case atStart => exact ⟨0,Nat.zero_le _,by omega,rfl,Ext.refl _,HQI.out.symm⟩
   case round =>
    obtain ⟨i,hi,hgi,rfl,HWi,HIi⟩ := hrel
    have k0 := HWi.out.cell H0.out
    have c5 := HWi.out.cell H5.out
    have HE1 : Hid (Ext w wr) := HE0.out.trans HWi.out
    by_cases hlt : i < nc
    ·have hltz : (i : Int) < (nc : Int) := by omega
     obtain ⟨y,hy⟩ : ∃ y,x.code[i]? = some y := ⟨_,List.getElem?_eq_getElem (by have := LA.out;omega)⟩
     obtain ⟨b2,off2,Ay,ny,cy,rfl,hlb2,_,_,_,_,⟨hC,_⟩,d0,d1,d2,d3,d4⟩ := (HA.out.mono RIns.stays HWi.out).ins hy
     have HDi := Lib.hid (any_drop greatI hy)
     have HY : Hid (greatI y = decide (24 < ny)) := by rw [Hid,greatI,hC.len]
     have hle6 := hC.2.1
     clear hy hC
     by_cases h24 : 24 < ny
     ·have HR : Hid (decide (24 < ny) = true) := decide_eq_true h24
      have HCI := Lib.hid (fun W => greatInstr_any y.op y.a y.b y.c Ay ny cy W hle6)
      rw [HR.out] at HCI
      go_wp2_with (go_at_call 57;refine (HCI.out _).mono ?_;rintro e w2 ⟨rfl,hb⟩;obtain ⟨hc2,hf2,hs2,he2⟩ := Ext.use (w := wr) hb xt;clear hb;(try simp only [sA,sC,sD,sN] at hs2))
      go_ret
      exact ⟨ret_bool (by rw [HG2.out,HI.out,HD2.out,HIi.out,HDi.out,HY.out,HR.out];simp),HE1.out.trans he2⟩
     ·have HR : Hid (decide (24 < ny) = false) := decide_eq_false h24
      have HCI := Lib.hid (fun W => greatInstr_any y.op y.a y.b y.c Ay ny cy W hle6)
      rw [HR.out] at HCI
      go_wp2_with (go_at_call 57;refine (HCI.out _).mono ?_;rintro e w2 ⟨rfl,hb⟩;obtain ⟨hc2,hf2,hs2,he2⟩ := Ext.use (w := wr) hb xt;clear hb;(try simp only [sA,sC,sD,sN] at hs2))
      go_roundg (nc - (i + 1))
      case measure => omega
      case rel => exact ⟨i + 1,by omega,by omega,by go_num,HWi.out.trans he2,by rw [Hid,HIi.out,HDi.out,HY.out,HR.out];rfl⟩
    ·have hltz : ¬ (i : Int) < (nc : Int) := by omega
     go_wp2
     go_roundg (nf - (k + 1))
     case measure => omega
     case rel => exact ⟨k + 1,m,by omega,by omega,by omega,rfl,by go_num,HW.out.trans HWi.out,by rw [Hid,HI.out,HD2.out,HIi.out,List.drop_eq_nil_of_le (by have := LA.out;omega)];rfl⟩
  ·have hltz : ¬ (k : Int) < (nf : Int) := by omega
   have hq : qf = false := by rw [HI.out,List.drop_eq_nil_of_le (by have := LF.out;omega)];rfl
   subst hq
   obtain ⟨W1,eW1⟩ : ∃ W,W = wr := ⟨_,rfl⟩
   subst eW1
   go_wp2
   go_loopg [6] no (fun gg s6 wr => ∃ i : Nat,i ≤ no ∧ no - i ≤ gg ∧ s6 = .int .i64 i ∧ Hid (W1 = wr) ∧ Hid (qo = (p.objs.drop i).any greatO))
   case atStart => exact ⟨0,Nat.zero_le _,by omega,rfl,rfl,HQO.out.symm⟩
   case round =>
    obtain ⟨i,hi,hgi,rfl,HWi,HIi⟩ := hrel
    obtain ⟨W2,eW2⟩ : ∃ W,W = wr := ⟨_,rfl⟩
    subst eW2
    rw [HWi.out] at k1 k2
    have HE2 : Hid (Ext w W2) := HWi.out ▸ HE0
    by_cases hlt : i < no
    ·have hltz : (i : Int) < (no : Int) := by omega
     obtain ⟨y,hy⟩ : ∃ y,p.objs[i]? = some y := ⟨_,List.getElem?_eq_getElem (by have := LO.out;omega)⟩
     obtain ⟨b2,off2,rfl,hlb2,hnm,_,_,_,d0,d1,d2,d3⟩ := (HO.out.mono ROb.stays HE2.out).ob hy
     have HDi := Lib.hid (any_drop greatO hy)
     clear hy
     by_cases h40 : 40 < y.name.size
     ·have h40z : (40 : Int) < (y.name.size : Int) := by omega
      go_wp2
      go_ret
      exact ⟨ret_bool (by rw [HG2.out,HIi.out,HDi.out,greatO,decide_eq_true h40];simp),HE2.out⟩
     ·have h40z : ¬ (40 : Int) < (y.name.size : Int) := by omega
      go_wp2
      go_roundg (no - (i + 1))
      case measure => omega
      case rel => exact ⟨i + 1,by omega,by omega,by go_num,HWi.out,by rw [Hid,HIi.out,HDi.out,greatO,decide_eq_false h40];rfl⟩
    ·have hltz : ¬ (i : Int) < (no : Int) := by omega
     have hq : qo = false := by rw [HIi.out,List.drop_eq_nil_of_le (by have := LO.out;omega)];rfl
     subst hq
     go_wp2
     go_loopg [7] nv (fun gg s7 wr => ∃ i : Nat,i ≤ nv ∧ nv - i ≤ gg ∧ s7 = .int .i64 i ∧ Hid (W2 = wr) ∧ Hid (qv = (p.vars.drop i).any greatV))
     case atStart => exact ⟨0,Nat.zero_le _,by omega,rfl,rfl,HQV.out.symm⟩
     case round =>
      obtain ⟨j,hj,hgj,rfl,HWj,HIj⟩ := hrel
      obtain ⟨W3,eW3⟩ : ∃ W,W = wr := ⟨_,rfl⟩
      subst eW3
      rw [HWj.out] at k2
      have HE3 : Hid (Ext w W3) := HWj.out ▸ HE2
      by_cases hlt : j < nv
      ·have hltz : (j : Int) < (nv : Int) := by omega
       obtain ⟨y,hy⟩ : ∃ y,p.vars[j]? = some y := ⟨_,List.getElem?_eq_getElem (by have := LV.out;omega)⟩
       obtain ⟨b2,off2,rfl,hlb2,hnm,_,d0,d1,d2⟩ := (HV.out.mono RVr.stays HE3.out).vr hy
       have HDj := Lib.hid (any_drop greatV hy)
       clear hy
       by_cases h40 : 40 < y.name.size
       ·have h40z : (40 : Int) < (y.name.size : Int) := by omega
        go_wp2
        go_ret
        exact ⟨ret_bool (by rw [HG2.out,HIj.out,HDj.out,greatV,decide_eq_true h40];simp),HE3.out⟩
       ·have h40z : ¬ (40 : Int) < (y.name.size : Int) := by omega
        go_wp2
        go_roundg (nv - (j + 1))
        case measure => omega
        case rel => exact ⟨j + 1,by omega,by omega,by go_num,HWj.out,by rw [Hid,HIj.out,HDj.out,greatV,decide_eq_false h40];rfl⟩
      ·have hltz : ¬ (j : Int) < (nv : Int) := by omega
       go_wp2
       go_ret
       exact ⟨ret_bool (by rw [HG2.out,HIj.out,List.drop_eq_nil_of_le (by have := LV.out;omega)];rfl),HE3.out⟩
end Go.Proofs.YtcjjoabofecjmaaGreat
namespace Go.Proofs.YtcjjoabofecjmaaGreat
open Go.RowKit Go.Sort
open Go.Value (int)
theorem great_any (p : Prg) (t : Tsk) (VP VT : Value) (w : World) (hP : RPrg w p VP) (hT : RTsk w t VT) :
  Calls Tryz.prog 13 #[VP,VT] w fun e w' => e = .returned (.bool (greatP p || greatT t)) ∧ Ext w w' := by
 have HP := Lib.hid (fun W h => refGreatP_any p VP W (hP.mono h))
 have HT := Lib.hid (fun W h => refGreat_any t VT W (hT.mono h))
 obtain ⟨c,rfl⟩ := hT.cells
 obtain ⟨Af,nf,cf,Ao,no,co,Av,nv,cv,rfl,_⟩ := hP
 cases hp : greatP p with
 | true =>
  rw [hp] at HP
  clear hT HT hp
  go_enter Tryz.func13,Tryz.ntmps13
  go_wp2_with (first | ((first | (with_reducible refine jl 26 ?_) | (with_reducible refine il 26 ?_));refine ldm Tryz.underlying26 rfl rfl rfl (by exact rg) rfl (by exact infoPrg) ?_;dsimp only [dZ,dS]) | (go_at_call 20;refine (HP.out _ xt).mono ?_;rintro e w1 ⟨rfl,hb⟩;obtain ⟨hc,hf,hs,he⟩ := Ext.use (w := w) hb xt;clear hb;(try simp only [sA,sC,sD,sN] at hs)))
  go_ret
  exact ⟨rfl,he⟩
 | false =>
  rw [hp] at HP
  clear hT hp
  obtain ⟨q,hq⟩ : ∃ q,greatT t = q := ⟨_,rfl⟩
  rw [hq] at HT ⊢
  clear hq
  go_enter Tryz.func13,Tryz.ntmps13
  go_wp2_with (first | ((first | (with_reducible refine jl 26 ?_) | (with_reducible refine il 26 ?_));refine ldm Tryz.underlying26 rfl rfl rfl (by exact rg) rfl (by exact infoPrg) ?_;dsimp only [dZ,dS]) | ((with_reducible refine ig 32 ?_);refine ldg Tryz.underlying32 (by rfl) rfl rfl (by exact rg) rfl (by exact Cells14.info _) ?_;dsimp only [dZ,dS]) | (go_at_call 20;refine (HP.out _ xt).mono ?_;rintro e w1 ⟨rfl,hb⟩;have R1 := range_ext (b := w.heap.size + 1) (o := 0) (by exact rg) hb;obtain ⟨hc,hf,hs,he⟩ := Ext.use (w := w) hb xt;clear hb) | (go_at_call 36;refine (HT.out _ xt).mono ?_;rintro e w2 ⟨rfl,hb⟩;obtain ⟨hc2,hf2,hs2,he2⟩ := Ext.use (w := w1) hb xt;clear hb;(try simp only [sA,sC,sD,sN] at hs2)))
  go_ret
  exact ⟨ret_bool (by simp),he.trans he2⟩
end Go.Proofs.YtcjjoabofecjmaaGreat
namespace Go.Proofs.YtcjjoabofecjmaaGreat
open Go.RowKit
open Go.Value (int)
attribute [local go_sem] Oper.semAt_some
theorem extTsk (a b : Tsk) : a = b ↔ a.fn = b.fn ∧ a.scope = b.scope ∧ a.prio = b.prio ∧ a.status = b.status ∧ (a.wkind = b.wkind ∧ a.windex = b.windex ∧ a.wagain = b.wagain) ∧ a.mask = b.mask ∧ a.unw = b.unw ∧ a.level = b.level ∧ a.reason = b.reason ∧ a.result = b.result ∧ a.frames = b.frames ∧ a.blocks = b.blocks := by
 constructor
 ·rintro rfl;simp
 ·rintro ⟨h1,h2,h3,h4,⟨h5,h6,h7⟩,h8,h9,h10,h11,h12,h13,h14⟩
  cases a;cases b;simp_all
theorem Same_any (s t : Tsk) (V U : Value) (w : World) (hV : RTsk w s V) (hU : RTsk w t U) :
  Calls Tryz.prog 23 #[V,U] w fun e w' => e = .returned (.bool (decide (s = t))) ∧ Ext w w' := by
 obtain ⟨Af,nf,cf,Ab,nb,cb,rfl,_,_,_,_,_,_,_,_,_,_,hF,hB,_⟩ := hV
 obtain ⟨Bf,mf,df,Bb,mb,db,rfl,_,_,_,_,_,_,_,_,_,_,hF2,hB2,_⟩ := hU
 obtain ⟨qf,hqf⟩ : ∃ q,decide (s.frames = t.frames) = q := ⟨_,rfl⟩
 obtain ⟨qb,hqb⟩ : ∃ q,decide (s.blocks = t.blocks) = q := ⟨_,rfl⟩
 have HF : ∀ W,Ext w W → Calls Tryz.prog 63 #[.slice Af nf cf,.slice Bf mf df] W fun e w' => e = .returned (.bool qf) ∧ Ext W w' := fun W hW => by rw [← hqf];exact SameFrm_any Af Bf nf mf cf df _ _ W (hF.mono RFrm.stays hW) (hF2.mono RFrm.stays hW)
 have HB : ∀ W,Ext w W → Calls Tryz.prog 64 #[.slice Ab nb cb,.slice Bb mb db] W fun e w' => e = .returned (.bool qb) ∧ Ext W w' := fun W hW => by rw [← hqb];exact SameBlk_any Ab Bb nb mb cb db _ _ W (hB.mono RBlk.stays hW) (hB2.mono RBlk.stays hW)
 have HD : Hid (decide (s = t) = (decide (s.fn = t.fn) && decide (s.scope = t.scope) && decide (s.prio = t.prio) && decide (s.status = t.status) && (decide (s.wkind = t.wkind) && decide (s.windex = t.windex) && decide (s.wagain = t.wagain)) && decide (s.mask = t.mask) && decide (s.unw = t.unw) && decide (s.level = t.level) && decide (s.reason = t.reason) && decide (s.result = t.result) && qf && qb)) := by
  unfold Hid
  rw [← hqf,← hqb]
  rw [Bool.eq_iff_iff]
  simp only [decide_eq_true_eq,Bool.and_eq_true,extTsk]
  constructor <;> (intro h;simp_all)
 clear hqf hqb hF hF2 hB hB2
 go_enter Tryz.func23,Tryz.ntmps23
 go_wp2_with (first | (go_at_call 63;refine (HF _ xt).mono ?_;rintro e w1 ⟨rfl,hb⟩;obtain ⟨hc,hf,hs,he⟩ := Ext.use (w := w) hb xt;clear hb;(try simp only [sA,sC,sD,sN] at hs)) | (go_at_call 64;refine (HB _ xt).mono ?_;rintro e w1 ⟨rfl,hb⟩;obtain ⟨hc,hf,hs,he⟩ := Ext.use (w := w) hb xt;clear hb;(try simp only [sA,sC,sD,sN] at hs)))
 all_goals (go_ret;exact ⟨ret_bool (by have g := HD.out;clear HD HF HB;rw [g];clear g;simp_all),xt⟩)
end Go.Proofs.YtcjjoabofecjmaaGreat

