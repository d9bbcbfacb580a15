/- A part of the proof: checkFunc of package program; checkObject and checkVar of pa. -/
import Derived.Test.YtcjjoabofecjmaaQ07
set_option linter.unusedVariables false
set_option linter.unusedSimpArgs false
set_option maxHeartbeats 16000000
namespace Go.Proofs.Ytcjjoabofecjmaa
open Go.RowKit
open Go.Value (int)
theorem wp_hid {P : Program} {c : Code} {Q : Exit → Act → World → Prop} {a : Act} {w : World} (h : ∀ W,Hid (W = w) → c.wp P Q a W) : c.wp P Q a w := h w rfl
theorem checkFunc1_pred (s : ByteArray) (B : Nat) (w : World) (xs : List Fnc) (hB : ∀ W,Ext w W → W.cell? ⟨B,0,none⟩ = some (.string s)) :
  PredOn Try.prog 48 #[.pointer (some ⟨B,0,none⟩)] (fun cs => .agg cs.toArray) RFnc w xs (fun x => x.name.toList == s.toList) := by
 intro W k x cs hW hx hR
 obtain ⟨A,n,c,rfl,hR'⟩ := hR
 clear hR'
 have c0 := hB W hW
 have hlb : B < W.heap.size := lt_of_cell c0
 clear hB hx hW
 simp only [List.push_toArray,List.append_toArray,List.cons_append,List.nil_append]
 clear w
 obtain ⟨w,hw⟩ : ∃ w,w = W := ⟨_,rfl⟩
 subst hw
 go_enter Try.func48,Try.ntmps48
 go_wp2
 go_ret
 exact ⟨rfl,xt⟩
def codeS (p : Prg) (f : Fnc) : List Ins → Int
 | [] => 0
 | x :: xs => if instrS p f x ≠ 0 then instrS p f x else codeS p f xs
def checkFnS (p : Prg) (i : Nat) : Int := match p.funcs[i]? with
 | none => 0
 | some f => if nmB f.name = false then 5
  else if (p.funcs.take i).any (fun x => x.name.toList == f.name.toList) then 6
  else if inB f.params 0 8 = false ∨ inB f.regs f.params 32 = false ∨ inB f.prio 0 9 = false ∨ (f.cleanup = true ∧ f.prio ≠ 0) then 2
  else if 200 < (f.code.length : Int) then 4
  else if i = 0 ∧ (0 < f.params ∨ f.cleanup = true) then 16
  else codeS p f f.code
theorem checkFunc_any (p : Prg) (i : Nat) (V : Value) (w : World) (hV : RPrg w p V) (hi : i < p.funcs.length) :
  Calls Try.prog 24 #[V,.int .i64 i] w fun e w' => e = .returned (.int .i64 (checkFnS p i)) ∧ Ext w w' := by
 obtain ⟨Af,nf,cf,Ao,no,co,Av,nv,cv,rfl,hF,hO,hVr,hcf,hco,hcv⟩ := hV
 obtain ⟨f,hf'⟩ : ∃ f,p.funcs[i]? = some f := ⟨_,List.getElem?_eq_getElem hi⟩
 have hF' := hF.take (m := i) (by have := hF.len;omega)
 have hF0 := Lib.hid hF
 obtain ⟨b,off,Ac,nc,cc,rfl,hlb,hsz,i1,i2,i3,⟨hC,hcc⟩,c0,c1,c2,c3,c4,c5⟩ := hF.fnc hf'
 have hiv : (i : Int) < (nf : Int) := by have := hF.len;omega
 have hic : (i : Int) ≤ (cf : Int) := by omega
 have hle := hF.le
 have hCl := hC.le
 have HL := Lib.hid hC.len
 have hi64 : (i : Int) ≤ 9223372036854775807 := by omega
 obtain ⟨res,hres⟩ : ∃ res,checkFnS p i = res := ⟨_,rfl⟩
 rw [hres]
 have HV : Hid (res = if nmB f.name = false then 5
  else if (p.funcs.take i).any (fun x => x.name.toList == f.name.toList) then 6
  else if inB f.params 0 8 = false ∨ inB f.regs f.params 32 = false ∨ inB f.prio 0 9 = false ∨ (f.cleanup = true ∧ f.prio ≠ 0) then 2
  else if 200 < (nc : Int) then 4
  else if i = 0 ∧ (0 < f.params ∨ f.cleanup = true) then 16
  else codeS p f f.code) := by rw [← hres];unfold Hid checkFnS;rw [hf',HL.out]
 have HX : ∀ (W : World) (k : Nat) (x : Ins) (cl : Bool) (A : Option Addr) (n c : Nat),Ext w W → f.cleanup = cl → 0 ≤ f.regs ∧ f.regs ≤ 32 → InR x.op → InR x.a → InR x.b → InR x.c → RSl 1 RInt w A n x.args → n ≤ c →
   Calls Try.prog 49 #[.agg #[.slice (some ⟨b,off,none⟩) nf cf,.slice Ao no co,.slice Av nv cv,.string f.name,int .i64 f.params,int .i64 f.regs,int .i64 f.prio,.bool cl,.slice Ac nc cc],.agg #[int .i64 x.op,int .i64 x.a,int .i64 x.b,int .i64 x.c,.slice A n c]] W fun e w' => e = .returned (int .i64 (instrS p f x)) ∧ Ext W w' :=
  by
   intro W k x cl A n c hW hcl hr j0 j1 j2 j3 hx hnc
   subst hcl
   exact instr_any p f x _ A n c W (RCk.mono ⟨_,_,_,_,_,_,_,_,_,_,_,_,rfl,hF0.out,hO,hVr,hC⟩ hW) hr j0 j1 j2 j3 (hx.mono RInt.stays hW) hnc
 clear hF hf' hi hcf hco hcv hres hO hVr
 go_enter Try.func24,Try.ntmps24
 go_wp2_with (first | ((go_at_call 40;refine (isName_any _ _ hsz).mono ?_;rintro e w1 ⟨rfl,hb⟩;obtain ⟨hc,hf,hs,he⟩ := Ext.use (w := w) hb xt;clear hb;(try simp only [sA,sC,sD,sN] at hs));have kn : w1.cell? ⟨w.heap.size + 1,0,none⟩ = some (.string f.name) := (by rw [hc];simp [go_sem])) | (go_at_call 41;refine (within_any _ _ _ _).mono ?_;rintro e w' ⟨rfl,rfl⟩) | ((go_at_call 47;refine (containsFuncFnc 48 #[.pointer (some ⟨w.heap.size + 1,0,none⟩)] (enters_of Try.func48 (by kernel_rfl) rfl) (fun x => x.name.toList == f.name.toList) _ _ _ (p.funcs.take i) _ (hF'.mono RFnc.stays xt) (checkFunc1_pred f.name _ _ (p.funcs.take i) (fun W hW => hW.cell kn))).mono ?_;rintro e w2 ⟨rfl,hb⟩;obtain ⟨hc2,hf2,hs2,he2⟩ := Ext.use (w := w1) hb xt;clear hb;(try simp only [sA,sC,sD,sN] at hs2));have he2' := he.trans he2))
 all_goals try (go_ret;exact ⟨ret_int (by have g := HV.out;clear HV HX c0 c1 c2 c3 c4 c5 hF' hC;rw [g];clear g;simp only [Bool.not_eq_true',Bool.not_eq_false',Bool.not_eq_true,bne_iff_ne,bne_eq_false_iff_eq,ne_eq] at *;simp_all),xt⟩)
 all_goals
  have HR : Hid (res = codeS p f f.code) := by
   unfold Hid
   have g := HV.out
   clear HV HX c0 c1 c2 c3 c4 c5 hF' hC
   rw [g]
   clear g
   simp only [Bool.not_eq_true',Bool.not_eq_false',Bool.not_eq_true,bne_iff_ne,bne_eq_false_iff_eq,ne_eq] at *
   rw [if_neg (by simp_all),if_neg (by simp_all),if_neg (by simp_all),if_neg (by omega),if_neg (by simp_all)]
  have hrg : 0 ≤ f.regs ∧ f.regs ≤ 32 := by
   have g1 : inB f.params 0 8 = true := by assumption
   have g2 : inB f.regs f.params 32 = true := by assumption
   simp only [inB,decide_eq_true_eq] at g1 g2
   omega
  refine wp_hid ?_
  intro W0 HW0
  have HE : Hid (Ext w W0) := by rw [HW0.out];exact Lib.hid xt
  have hl2 : w2.heap.size < W0.heap.size := by rw [HW0.out];simp
  have k0 : W0.cell? ⟨w2.heap.size,0,none⟩ = some (.slice (some ⟨b,off,none⟩) nf cf) := by rw [HW0.out];simp [go_sem, *]
  have k1 : W0.cell? ⟨w2.heap.size,1,none⟩ = some (.slice Ao no co) := by rw [HW0.out];simp [go_sem, *]
  have k2 : W0.cell? ⟨w2.heap.size,2,none⟩ = some (.slice Av nv cv) := by rw [HW0.out];simp [go_sem, *]
  have k3 : W0.cell? ⟨w2.heap.size,3,none⟩ = some (.string f.name) := by rw [HW0.out];simp [go_sem, *]
  have k4 : W0.cell? ⟨w2.heap.size,4,none⟩ = some (int .i64 f.params) := by rw [HW0.out];simp [go_sem, *]
  have k5 : W0.cell? ⟨w2.heap.size,5,none⟩ = some (int .i64 f.regs) := by rw [HW0.out];simp [go_sem, *]
  have k6 : W0.cell? ⟨w2.heap.size,6,none⟩ = some (int .i64 f.prio) := by rw [HW0.out];simp [go_sem, *]
  have k7 : W0.cell? ⟨w2.heap.size,7,none⟩ = some (.bool f.cleanup) := by rw [HW0.out];simp [go_sem, *]
  have k8 : W0.cell? ⟨w2.heap.size,8,none⟩ = some (.slice Ac nc cc) := by rw [HW0.out];simp [go_sem, *]
  clear HW0 hc hf hc2 hf2 kn he he2 he2' c0 c1 c2 c3 c4 c5 hF' HV hsz i1 i2 i3
  go_loopg [8,9,78] nc (fun gg _ _ s78 wr => ∃ kk : Nat,kk ≤ nc ∧ nc - kk ≤ gg ∧ s78 = .int .i64 kk ∧ Hid (Ext W0 wr) ∧ Hid (codeS p f f.code = codeS p f (f.code.drop kk)))
  case atStart => exact ⟨0,Nat.zero_le _,by omega,rfl,Ext.refl W0,rfl⟩
  case round =>
   obtain ⟨kk,hkk,hg,rfl,HW,HI⟩ := hrel
   have hW := HW.out
   have hWw := HE.out.trans hW
   by_cases hlt : kk < nc
   ·have hltz : (kk : Int) < (nc : Int) := by omega
    obtain ⟨x,hx⟩ : ∃ x,f.code[kk]? = some x := ⟨_,List.getElem?_eq_getElem (by have := HL.out;omega)⟩
    obtain ⟨b2,off2,Aa,na,ca,rfl,hlb2,j1,j2,j3,j4,⟨hxa,hna⟩,d0,d1,d2,d3,d4⟩ := hC.ins hx
    have hl2' : w2.heap.size < wr.heap.size := Nat.lt_of_lt_of_le hl2 hW.size
    replace hlb2 := Nat.lt_of_lt_of_le hlb2 hWw.size
    replace k0 := hW.cell k0
    replace k1 := hW.cell k1
    replace k2 := hW.cell k2
    replace k3 := hW.cell k3
    replace k4 := hW.cell k4
    replace k5 := hW.cell k5
    replace k6 := hW.cell k6
    replace k7 := hW.cell k7
    replace k8 := hW.cell k8
    replace d0 := hWw.cell d0
    replace d1 := hWw.cell d1
    replace d2 := hWw.cell d2
    replace d3 := hWw.cell d3
    replace d4 := hWw.cell d4
    have HD : Hid (f.code.drop kk = x :: f.code.drop (kk + 1)) := drop_cons hx
    have HXx := fun (W : World) (cl : Bool) (hW : Ext w W) (hcl : f.cleanup = cl) => HX W kk x cl Aa na ca hW hcl hrg j1 j2 j3 j4 hxa hna
    clear hx HX hW hC
    obtain ⟨e0,he0⟩ : ∃ e0,instrS p f x = e0 := ⟨_,rfl⟩
    rw [he0] at HXx
    have HQ := Lib.hid he0
    clear he0
    by_cases hz : e0 = 0
    ·subst hz
     go_wp2_with (go_at_call 49;refine (HXx _ _ xt (by first | rfl | assumption | simpa using (‹¬f.cleanup = true›))).mono ?_;rintro e w3 ⟨rfl,hb⟩;obtain ⟨hc3,hf3,hs3,he3⟩ := Ext.use (w := wr) hb xt;clear hb;(try simp only [sA,sC,sD,sN] at hs3))
     go_roundg (nc - (kk + 1))
     case measure => omega
     case rel => exact ⟨kk + 1,by omega,by omega,by go_num,HW.out.trans he3,by rw [Hid,HI.out,HD.out,codeS,if_neg (by rw [HQ.out];decide)]⟩
    ·have hz' : (e0 != 0) = true := by simpa using hz
     go_wp2_with (go_at_call 49;refine (HXx _ _ xt (by first | rfl | assumption | simpa using (‹¬f.cleanup = true›))).mono ?_;rintro e w3 ⟨rfl,hb⟩;obtain ⟨hc3,hf3,hs3,he3⟩ := Ext.use (w := wr) hb xt;clear hb;(try simp only [sA,sC,sD,sN] at hs3))
     go_ret
     exact ⟨ret_int (by rw [HR.out,HI.out,HD.out,codeS,HQ.out,if_pos hz]),hWw.trans he3⟩
   ·have hltz : ¬ (kk : Int) < (nc : Int) := by omega
    clear HX hC
    go_wp2
    go_ret
    exact ⟨ret_int (by rw [HR.out,HI.out,List.drop_eq_nil_of_le (by have := HL.out;omega)];rfl),hWw⟩
theorem checkObject1_pred (s : ByteArray) (B : Nat) (w : World) (xs : List Ob) (hB : ∀ W,Ext w W → W.cell? ⟨B,0,none⟩ = some (.string s)) :
  PredOn Try.prog 43 #[.pointer (some ⟨B,0,none⟩)] (fun cs => .agg cs.toArray) ROb w xs (fun x => x.name.toList == s.toList) := by
 intro W k x cs hW hx hR
 obtain ⟨rfl,_⟩ := hR
 have c0 := hB W hW
 have hlb : B < W.heap.size := lt_of_cell c0
 clear hB hx hW
 simp only [List.push_toArray,List.append_toArray,List.cons_append,List.nil_append]
 clear w
 obtain ⟨w,hw⟩ : ∃ w,w = W := ⟨_,rfl⟩
 subst hw
 go_enter Try.func43,Try.ntmps43
 go_wp2
 go_ret
 exact ⟨rfl,xt⟩
theorem checkVar1_pred (s : ByteArray) (B : Nat) (w : World) (xs : List Ob) (hB : ∀ W,Ext w W → W.cell? ⟨B,0,none⟩ = some (.string s)) :
  PredOn Try.prog 44 #[.pointer (some ⟨B,0,none⟩)] (fun cs => .agg cs.toArray) ROb w xs (fun x => x.name.toList == s.toList) := by
 intro W k x cs hW hx hR
 obtain ⟨rfl,_⟩ := hR
 have c0 := hB W hW
 have hlb : B < W.heap.size := lt_of_cell c0
 clear hB hx hW
 simp only [List.push_toArray,List.append_toArray,List.cons_append,List.nil_append]
 clear w
 obtain ⟨w,hw⟩ : ∃ w,w = W := ⟨_,rfl⟩
 subst hw
 go_enter Try.func44,Try.ntmps44
 go_wp2
 go_ret
 exact ⟨rfl,xt⟩
theorem checkVar2_pred (s : ByteArray) (B : Nat) (w : World) (xs : List Vr) (hB : ∀ W,Ext w W → W.cell? ⟨B,0,none⟩ = some (.string s)) :
  PredOn Try.prog 46 #[.pointer (some ⟨B,0,none⟩)] (fun cs => .agg cs.toArray) RVr w xs (fun x => x.name.toList == s.toList) := by
 intro W k x cs hW hx hR
 obtain ⟨rfl,_⟩ := hR
 have c0 := hB W hW
 have hlb : B < W.heap.size := lt_of_cell c0
 clear hB hx hW
 simp only [List.push_toArray,List.append_toArray,List.cons_append,List.nil_append]
 clear w
 obtain ⟨w,hw⟩ : ∃ w,w = W := ⟨_,rfl⟩
 subst hw
 go_enter Try.func46,Try.ntmps46
 go_wp2
 go_ret
 exact ⟨rfl,xt⟩
def kindAt (p : Prg) (k : Int) : Int := match p.objs[k.toNat]? with | some q => q.kind | none => 0
def checkObS (p : Prg) (i : Nat) : Int := match p.objs[i]? with
 | none => 0
 | some o => if nmB o.name = false then 5
  else if inB o.kind 1 9 = false then 8
  else if inB o.size (sizesS o.kind).1 (sizesS o.kind).2 = false ∨ inB o.other (othersS p.objs.length o.kind).1 (othersS p.objs.length o.kind).2 = false then 2
  else if o.kind = 3 ∧ kindAt p o.other ≠ 1 then 8
  else if (p.objs.take i).any (fun x => x.name.toList == o.name.toList) then 6 else 0
def checkVrS (p : Prg) (i : Nat) : Int := match p.vars[i]? with
 | none => 0
 | some v => if nmB v.name = false then 5
  else if inB v.init (-1099511627776) 1099511627776 = false then 2
  else if p.objs.any (fun x => x.name.toList == v.name.toList) then 6
  else if (p.vars.take i).any (fun x => x.name.toList == v.name.toList) then 6 else 0
theorem checkVar_any (p : Prg) (i : Nat) (V : Value) (w : World) (hV : RPrg w p V) (hi : i < p.vars.length) :
  Calls Try.prog 23 #[V,.int .i64 i] w fun e w' => e = .returned (.int .i64 (checkVrS p i)) ∧ Ext w w' := by
 obtain ⟨Af,nf,cf,Ao,no,co,Av,nv,cv,rfl,hF,hO,hVr,hcf,hco,hcv⟩ := hV
 obtain ⟨v,hv⟩ : ∃ v,p.vars[i]? = some v := ⟨_,List.getElem?_eq_getElem hi⟩
 have hVr' := hVr.take (m := i) (by have := hVr.len;omega)
 obtain ⟨b,off,rfl,hlb,hsz,hin,c0,c1,c2⟩ := hVr.vr hv
 have hiv : (i : Int) < (nv : Int) := by have := hVr.len;omega
 have hic : (i : Int) ≤ (cv : Int) := by omega
 have hle := hVr.le
 have HV : Hid (checkVrS p i = if nmB v.name = false then 5
  else if inB v.init (-1099511627776) 1099511627776 = false then 2
  else if p.objs.any (fun x => x.name.toList == v.name.toList) then 6
  else if (p.vars.take i).any (fun x => x.name.toList == v.name.toList) then 6 else 0) := by unfold Hid checkVrS;rw [hv]
 clear hVr hv hF hi hcf hco hcv
 go_enter Try.func23,Try.ntmps23
 go_wp2_with (first | ((go_at_call 40;refine (isName_any _ _ hsz).mono ?_;rintro e w1 ⟨rfl,hb⟩;obtain ⟨hc,hf,hs,he⟩ := Ext.use (w := w) hb xt;clear hb;(try simp only [sA,sC,sD,sN] at hs));have kn : w1.cell? ⟨w.heap.size + 1,0,none⟩ = some (.string v.name) := (by rw [hc];simp [go_sem])) | (go_at_call 41;refine (within_any _ _ _ _).mono ?_;rintro e w' ⟨rfl,rfl⟩) | ((go_at_call 42;refine (containsFuncOb 44 #[.pointer (some ⟨w.heap.size + 1,0,none⟩)] (enters_of Try.func44 (by kernel_rfl) rfl) (fun x => x.name.toList == v.name.toList) _ _ _ p.objs _ (hO.mono ROb.stays xt) (checkVar1_pred v.name _ _ p.objs (fun W hW => hW.cell kn))).mono ?_;rintro e w2 ⟨rfl,hb⟩;obtain ⟨hc2,hf2,hs2,he2⟩ := Ext.use (w := w1) hb xt;clear hb;(try simp only [sA,sC,sD,sN] at hs2));have he2' := he.trans he2) | ((go_at_call 45;refine (containsFuncVr 46 #[.pointer (some ⟨w.heap.size + 1,0,none⟩)] (enters_of Try.func46 (by kernel_rfl) rfl) (fun x => x.name.toList == v.name.toList) _ _ _ (p.vars.take i) _ (hVr'.mono RVr.stays xt) (checkVar2_pred v.name _ _ (p.vars.take i) (fun W hW => (he2.trans hW).cell kn))).mono ?_;rintro e w3 ⟨rfl,hb⟩;obtain ⟨hc3,hf3,hs3,he3⟩ := Ext.use (w := w2) hb xt;clear hb;(try simp only [sA,sC,sD,sN] at hs3));have he3' := he2'.trans he3))
 all_goals (go_ret;exact ⟨ret_int (by have g := HV.out;clear HV;rw [g];clear g;simp only [Bool.not_eq_true',Bool.not_eq_false'] at *;simp only [*,Bool.true_eq_false,Bool.false_eq_true,if_true,if_false,reduceIte,reduceCtorEq]),xt⟩)
theorem checkObject_plain (p : Prg) (i : Nat) (V : Value) (w : World) (hV : RPrg w p V) (hi : i < p.objs.length) (hq : ∀ o,p.objs[i]? = some o → o.kind ≠ 3) :
  Calls Try.prog 22 #[V,.int .i64 i] w fun e w' => e = .returned (.int .i64 (checkObS p i)) ∧ Ext w w' := by
 obtain ⟨Af,nf,cf,Ao,no,co,Av,nv,cv,rfl,hF,hO,hVr,hcf,hco,hcv⟩ := hV
 obtain ⟨o,ho⟩ : ∃ o,p.objs[i]? = some o := ⟨_,List.getElem?_eq_getElem hi⟩
 have hO' := hO.take (m := i) (by have := hO.len;omega)
 obtain ⟨b,off,rfl,hlb,hsz,i1,i2,i3,c0,c1,c2,c3⟩ := hO.ob ho
 have hiv : (i : Int) < (no : Int) := by have := hO.len;omega
 have hic : (i : Int) ≤ (co : Int) := by omega
 have hle := hO.le
 have hno := hO.len
 have HV : Hid (checkObS p i = if nmB o.name = false then 5
  else if inB o.kind 1 9 = false then 8
  else if inB o.size (sizesS o.kind).1 (sizesS o.kind).2 = false ∨ inB o.other (othersS no o.kind).1 (othersS no o.kind).2 = false then 2
  else if o.kind = 3 ∧ kindAt p o.other ≠ 1 then 8
  else if (p.objs.take i).any (fun x => x.name.toList == o.name.toList) then 6 else 0) := by unfold Hid checkObS;rw [ho,hno]
 have hk3 := hq o ho
 clear hq hVr ho hF hi hcf hco hcv hO hno
 go_enter Try.func22,Try.ntmps22
 go_wp2_with (first | (go_at_call 38;refine (sizes_any _ _).mono ?_;rintro e w' ⟨rfl,rfl⟩) | ((go_at_call 39;refine (others_any _ _ _ _ _ _ _ hle).mono ?_;rintro e w1 ⟨rfl,hb⟩;obtain ⟨hc,hf,hs,he⟩ := Ext.use (w := w) hb xt;clear hb;(try simp only [sA,sC,sD,sN] at hs));have kn : w1.cell? ⟨w.heap.size + 1,0,none⟩ = some (.string o.name) := (by rw [hc];simp [go_sem])) | ((go_at_call 40;refine (isName_any _ _ hsz).mono ?_;rintro e w2 ⟨rfl,hb⟩;obtain ⟨hc2,hf2,hs2,he2⟩ := Ext.use (w := w1) hb xt;clear hb;(try simp only [sA,sC,sD,sN] at hs2));have he2' := he.trans he2;have kn2 := he2.cell kn) | (go_at_call 41;refine (within_any _ _ _ _).mono ?_;rintro e w' ⟨rfl,rfl⟩) | ((go_at_call 42;refine (containsFuncOb 43 #[.pointer (some ⟨w.heap.size + 1,0,none⟩)] (enters_of Try.func43 (by kernel_rfl) rfl) (fun x => x.name.toList == o.name.toList) _ _ _ (p.objs.take i) _ (hO'.mono ROb.stays xt) (checkObject1_pred o.name _ _ (p.objs.take i) (fun W hW => hW.cell kn2))).mono ?_;rintro e w3 ⟨rfl,hb⟩;obtain ⟨hc3,hf3,hs3,he3⟩ := Ext.use (w := w2) hb xt;clear hb;(try simp only [sA,sC,sD,sN] at hs3));have he3' := he2'.trans he3))
 all_goals (go_ret;exact ⟨ret_int (by have g := HV.out;clear HV;rw [g];clear g;simp only [Bool.not_eq_true',Bool.not_eq_false'] at *;simp_all only [Bool.true_eq_false,Bool.false_eq_true,if_true,if_false,reduceIte,reduceCtorEq,or_true,true_or,or_false,false_or,or_self,not_true_eq_false,not_false_eq_true,ne_eq,false_and,true_and,and_true,and_false]),xt⟩)
theorem checkObject_out (p : Prg) (i : Nat) (V : Value) (w : World) (hV : RPrg w p V) (hi : i < p.objs.length) (hq : ∀ o,p.objs[i]? = some o → o.kind = 3 ∧ ¬ (0 ≤ o.other ∧ o.other < (p.objs.length : Int))) :
  Calls Try.prog 22 #[V,.int .i64 i] w fun e w' => e = .returned (.int .i64 (checkObS p i)) ∧ Ext w w' := by
 obtain ⟨Af,nf,cf,Ao,no,co,Av,nv,cv,rfl,hF,hO,hVr,hcf,hco,hcv⟩ := hV
 obtain ⟨o,ho⟩ : ∃ o,p.objs[i]? = some o := ⟨_,List.getElem?_eq_getElem hi⟩
 have hO' := hO.take (m := i) (by have := hO.len;omega)
 obtain ⟨b,off,rfl,hlb,hsz,i1,i2,i3,c0,c1,c2,c3⟩ := hO.ob ho
 have hiv : (i : Int) < (no : Int) := by have := hO.len;omega
 have hic : (i : Int) ≤ (co : Int) := by omega
 have hle := hO.le
 have hno := hO.len
 have HV : Hid (checkObS p i = if nmB o.name = false then 5
  else if inB o.kind 1 9 = false then 8
  else if inB o.size (sizesS o.kind).1 (sizesS o.kind).2 = false ∨ inB o.other (othersS no o.kind).1 (othersS no o.kind).2 = false then 2
  else if o.kind = 3 ∧ kindAt p o.other ≠ 1 then 8
  else if (p.objs.take i).any (fun x => x.name.toList == o.name.toList) then 6 else 0) := by unfold Hid checkObS;rw [ho,hno]
 have hk3 := (hq o ho).1
 have hot : inB o.other (othersS no o.kind).1 (othersS no o.kind).2 = false := by have := (hq o ho).2;rw [hk3];simp only [othersS,inB,if_true];rw [decide_eq_false_iff_not];omega
 have hotc : ∀ W,Calls Try.prog 41 #[int .i64 o.other,int .i64 (othersS no o.kind).1,int .i64 (othersS no o.kind).2] W fun e w' => e = .returned (.bool false) ∧ W = w' := fun W => by
  have := within_any o.other (othersS no o.kind).1 (othersS no o.kind).2 W
  rwa [hot] at this
 clear hk3 hq hVr ho hF hi hcf hco hcv hO hno
 go_enter Try.func22,Try.ntmps22
 go_wp2_with (first | (go_at_call 38;refine (sizes_any _ _).mono ?_;rintro e w' ⟨rfl,rfl⟩) | ((go_at_call 39;refine (others_any _ _ _ _ _ _ _ hle).mono ?_;rintro e w1 ⟨rfl,hb⟩;obtain ⟨hc,hf,hs,he⟩ := Ext.use (w := w) hb xt;clear hb;(try simp only [sA,sC,sD,sN] at hs));have kn : w1.cell? ⟨w.heap.size + 1,0,none⟩ = some (.string o.name) := (by rw [hc];simp [go_sem])) | ((go_at_call 40;refine (isName_any _ _ hsz).mono ?_;rintro e w2 ⟨rfl,hb⟩;obtain ⟨hc2,hf2,hs2,he2⟩ := Ext.use (w := w1) hb xt;clear hb;(try simp only [sA,sC,sD,sN] at hs2));have he2' := he.trans he2;have kn2 := he2.cell kn) | (go_at_call 41;(with_reducible refine (hotc _).mono ?_);rintro e w' ⟨rfl,rfl⟩) | (go_at_call 41;refine (within_any _ _ _ _).mono ?_;rintro e w' ⟨rfl,rfl⟩) | ((go_at_call 42;refine (containsFuncOb 43 #[.pointer (some ⟨w.heap.size + 1,0,none⟩)] (enters_of Try.func43 (by kernel_rfl) rfl) (fun x => x.name.toList == o.name.toList) _ _ _ (p.objs.take i) _ (hO'.mono ROb.stays xt) (checkObject1_pred o.name _ _ (p.objs.take i) (fun W hW => hW.cell kn2))).mono ?_;rintro e w3 ⟨rfl,hb⟩;obtain ⟨hc3,hf3,hs3,he3⟩ := Ext.use (w := w2) hb xt;clear hb;(try simp only [sA,sC,sD,sN] at hs3));have he3' := he2'.trans he3))
 all_goals (go_ret;exact ⟨ret_int (by have g := HV.out;clear HV hotc c0 c1 c2 c3 hc hf hO';rw [g];clear g;simp only [Bool.not_eq_true',Bool.not_eq_false'] at *;simp_all only [Bool.true_eq_false,Bool.false_eq_true,if_true,if_false,reduceIte,reduceCtorEq,or_true,true_or,or_false,false_or,or_self,not_true_eq_false,not_false_eq_true,ne_eq,false_and,true_and,and_true,and_false]),xt⟩)
theorem checkObject_in (p : Prg) (i : Nat) (V : Value) (w : World) (hV : RPrg w p V) (hi : i < p.objs.length) (hq : ∀ o,p.objs[i]? = some o → o.kind = 3 ∧ (0 ≤ o.other ∧ o.other < (p.objs.length : Int))) :
  Calls Try.prog 22 #[V,.int .i64 i] w fun e w' => e = .returned (.int .i64 (checkObS p i)) ∧ Ext w w' := by
 obtain ⟨Af,nf,cf,Ao,no,co,Av,nv,cv,rfl,hF,hO,hVr,hcf,hco,hcv⟩ := hV
 obtain ⟨o,ho⟩ : ∃ o,p.objs[i]? = some o := ⟨_,List.getElem?_eq_getElem hi⟩
 have hO' := hO.take (m := i) (by have := hO.len;omega)
 obtain ⟨b,off,rfl,hlb,hsz,i1,i2,i3,c0,c1,c2,c3⟩ := hO.ob ho
 have hiv : (i : Int) < (no : Int) := by have := hO.len;omega
 have hic : (i : Int) ≤ (co : Int) := by omega
 have hle := hO.le
 have hno := hO.len
 have HV : Hid (checkObS p i = if nmB o.name = false then 5
  else if inB o.kind 1 9 = false then 8
  else if inB o.size (sizesS o.kind).1 (sizesS o.kind).2 = false ∨ inB o.other (othersS no o.kind).1 (othersS no o.kind).2 = false then 2
  else if o.kind = 3 ∧ kindAt p o.other ≠ 1 then 8
  else if (p.objs.take i).any (fun x => x.name.toList == o.name.toList) then 6 else 0) := by unfold Hid checkObS;rw [ho,hno]
 obtain ⟨hk3,hq1,hq2⟩ := hq o ho
 obtain ⟨q,hqq⟩ : ∃ q,p.objs[o.other.toNat]? = some q := ⟨_,List.getElem?_eq_getElem (by omega)⟩
 have HK : Hid (kindAt p o.other = q.kind) := by unfold Hid kindAt;rw [hqq]
 obtain ⟨b',off',hA,_,_,_,_,_,_,d1,_,_⟩ := hO.ob hqq
 simp only [Option.some.injEq,Addr.mk.injEq,and_true] at hA
 obtain ⟨rfl,rfl⟩ := hA
 replace hq2 : o.other < (no : Int) := by omega
 clear hqq
 clear hq hVr ho hF hi hcf hco hcv hO hno
 go_enter Try.func22,Try.ntmps22
 go_wp2_with (first | (go_at_call 38;refine (sizes_any _ _).mono ?_;rintro e w' ⟨rfl,rfl⟩) | ((go_at_call 39;refine (others_any _ _ _ _ _ _ _ hle).mono ?_;rintro e w1 ⟨rfl,hb⟩;obtain ⟨hc,hf,hs,he⟩ := Ext.use (w := w) hb xt;clear hb;(try simp only [sA,sC,sD,sN] at hs));have kn : w1.cell? ⟨w.heap.size + 1,0,none⟩ = some (.string o.name) := (by rw [hc];simp [go_sem])) | ((go_at_call 40;refine (isName_any _ _ hsz).mono ?_;rintro e w2 ⟨rfl,hb⟩;obtain ⟨hc2,hf2,hs2,he2⟩ := Ext.use (w := w1) hb xt;clear hb;(try simp only [sA,sC,sD,sN] at hs2));have he2' := he.trans he2;have kn2 := he2.cell kn) | (go_at_call 41;refine (within_any _ _ _ _).mono ?_;rintro e w' ⟨rfl,rfl⟩) | ((go_at_call 42;refine (containsFuncOb 43 #[.pointer (some ⟨w.heap.size + 1,0,none⟩)] (enters_of Try.func43 (by kernel_rfl) rfl) (fun x => x.name.toList == o.name.toList) _ _ _ (p.objs.take i) _ (hO'.mono ROb.stays xt) (checkObject1_pred o.name _ _ (p.objs.take i) (fun W hW => hW.cell kn2))).mono ?_;rintro e w3 ⟨rfl,hb⟩;obtain ⟨hc3,hf3,hs3,he3⟩ := Ext.use (w := w2) hb xt;clear hb;(try simp only [sA,sC,sD,sN] at hs3));have he3' := he2'.trans he3))
 all_goals (go_ret;exact ⟨ret_int (by have g := HV.out;clear HV;rw [g,HK.out];clear g HK;simp only [Bool.not_eq_true',Bool.not_eq_false',bne_iff_ne,bne_eq_false_iff_eq,ne_eq] at *;simp_all only [Bool.true_eq_false,Bool.false_eq_true,if_true,if_false,reduceIte,reduceCtorEq,or_true,true_or,or_false,false_or,or_self,not_true_eq_false,not_false_eq_true,ne_eq,false_and,true_and,and_true,and_false]),xt⟩)
theorem checkObject_any (p : Prg) (i : Nat) (V : Value) (w : World) (hV : RPrg w p V) (hi : i < p.objs.length) :
  Calls Try.prog 22 #[V,.int .i64 i] w fun e w' => e = .returned (.int .i64 (checkObS p i)) ∧ Ext w w' := by
 obtain ⟨o,ho⟩ : ∃ o,p.objs[i]? = some o := ⟨_,List.getElem?_eq_getElem hi⟩
 by_cases h3 : o.kind = 3
 ·by_cases h : 0 ≤ o.other ∧ o.other < (p.objs.length : Int)
  ·exact checkObject_in p i V w hV hi (fun q hq => by rw [ho] at hq;cases hq;exact ⟨h3,h⟩)
  ·exact checkObject_out p i V w hV hi (fun q hq => by rw [ho] at hq;cases hq;exact ⟨h3,h⟩)
 ·exact checkObject_plain p i V w hV hi (fun q hq => by rw [ho] at hq;cases hq;exact h3)
def firstBad (f : Nat → Int) : Nat → Nat → Int
 | 0,_ => 0
 | m + 1,k => if f k ≠ 0 then f k else firstBad f m (k + 1)
def checkS (p : Prg) : Int :=
 if p.funcs.length = 0 then 1
 else if 32 < p.funcs.length ∨ 16 < p.objs.length ∨ 16 < p.vars.length then 4
 else if firstBad (checkObS p) p.objs.length 0 ≠ 0 then firstBad (checkObS p) p.objs.length 0
 else if firstBad (checkVrS p) p.vars.length 0 ≠ 0 then firstBad (checkVrS p) p.vars.length 0
 else firstBad (checkFnS p) p.funcs.length 0
theorem Check_any (p : Prg) (V : Value) (w : World) (hV : RPrg w p V) :
  Calls Try.prog 12 #[V] w fun e w' => e = .returned (.int .i64 (checkS p)) ∧ Ext w w' := by
 have hV' := hV
 obtain ⟨Af,nf,cf,Ao,no,co,Av,nv,cv,rfl,hF,hO,hVr,hcf,hco,hcv⟩ := hV
 have LF := Lib.hid hF.len
 have LO := Lib.hid hO.len
 have LV := Lib.hid hVr.len
 have hF64 := hF.le
 have hO64 := hO.le
 have hV64 := hVr.le
 obtain ⟨eo,HEO⟩ : ∃ e,Hid (firstBad (checkObS p) p.objs.length 0 = e) := ⟨_,rfl⟩
 obtain ⟨ev,HEV⟩ : ∃ e,Hid (firstBad (checkVrS p) p.vars.length 0 = e) := ⟨_,rfl⟩
 obtain ⟨ef,HEF⟩ : ∃ e,Hid (firstBad (checkFnS p) p.funcs.length 0 = e) := ⟨_,rfl⟩
 have HS : Hid (checkS p = if nf = 0 then 1 else if 32 < nf ∨ 16 < no ∨ 16 < nv then 4 else if eo ≠ 0 then eo else if ev ≠ 0 then ev else ef) := by
  unfold Hid checkS;rw [← HEO.out,← HEV.out,← HEF.out,LF.out,LO.out,LV.out]
 have HO : ∀ (i : Nat) (W : World),Ext w W → i < no → Calls Try.prog 22 #[.agg #[.slice Af nf cf,.slice Ao no co,.slice Av nv cv],.int .i64 i] W fun e w' => e = .returned (.int .i64 (checkObS p i)) ∧ Ext W w' :=
  fun i W hW hi => checkObject_any p i _ W (hV'.mono hW) (by have := LO.out;omega)
 have HVr : ∀ (i : Nat) (W : World),Ext w W → i < nv → Calls Try.prog 23 #[.agg #[.slice Af nf cf,.slice Ao no co,.slice Av nv cv],.int .i64 i] W fun e w' => e = .returned (.int .i64 (checkVrS p i)) ∧ Ext W w' :=
  fun i W hW hi => checkVar_any p i _ W (hV'.mono hW) (by have := LV.out;omega)
 have HF : ∀ (i : Nat) (W : World),Ext w W → i < nf → Calls Try.prog 24 #[.agg #[.slice Af nf cf,.slice Ao no co,.slice Av nv cv],.int .i64 i] W fun e w' => e = .returned (.int .i64 (checkFnS p i)) ∧ Ext W w' :=
  fun i W hW hi => checkFunc_any p i _ W (hV'.mono hW) (by have := LF.out;omega)
 clear hV' hF hO hVr hcf hco hcv
 have Hnf : nf = 0 ∨ 0 < nf := by omega
 have Hnf : nf = 0 ∨ 0 < nf := by omega
 go_enter Try.func12,Try.ntmps12
 go_wp2
 all_goals try (go_ret;exact ⟨ret_int (by have g := HS.out;clear HO HVr HF HS;rw [g];clear g;simp only [beq_iff_eq,beq_eq_false_iff_ne,ne_eq] at *;first | rw [if_neg (by omega),if_pos (by omega)] | rw [if_pos (by omega)]),xt⟩)
 refine wp_hid ?_
 intro W0 HW0
 have HE : Hid (Ext w W0) := by rw [HW0.out];exact Lib.hid xt
 have hl0 : w.heap.size < W0.heap.size := by rw [HW0.out];simp
 have k0 : W0.cell? ⟨w.heap.size,0,none⟩ = some (.slice Af nf cf) := by rw [HW0.out];simp [go_sem]
 have k1 : W0.cell? ⟨w.heap.size,1,none⟩ = some (.slice Ao no co) := by rw [HW0.out];simp [go_sem]
 have k2 : W0.cell? ⟨w.heap.size,2,none⟩ = some (.slice Av nv cv) := by rw [HW0.out];simp [go_sem]
 have HS2 : Hid (checkS p = if eo ≠ 0 then eo else if ev ≠ 0 then ev else ef) := by have g := HS.out;clear HO HVr HF HS;rw [Hid,g];clear g;simp only [beq_iff_eq,beq_eq_false_iff_ne,ne_eq] at *;rw [if_neg (by omega),if_neg (by omega)]
 clear HW0 HS
 go_loopg [3,4,32] no (fun gg _ _ s32 wr => ∃ j : Nat,j ≤ no ∧ no - j ≤ gg ∧ s32 = .int .i64 j ∧ Hid (Ext W0 wr) ∧ Hid (eo = firstBad (checkObS p) (no - j) j))
 case atStart => exact ⟨0,Nat.zero_le _,by omega,rfl,Ext.refl _,by rw [Hid,← HEO.out,LO.out];rfl⟩
 case round =>
  obtain ⟨j,hk0,hg0,rfl,HW1,HI1⟩ := hrel
  obtain ⟨wr1,ewr1⟩ : ∃ W,W = wr := ⟨_,rfl⟩
  subst ewr1
  have hW0 := HW1.out
  have hE0 := HE.out.trans hW0
  replace k0 := hW0.cell k0
  replace k1 := hW0.cell k1
  replace k2 := hW0.cell k2
  have hl1 := Nat.lt_of_lt_of_le hl0 hW0.size
  by_cases hlt : j < no
  ·have hltz : (j : Int) < (no : Int) := by omega
   have HD : Hid (firstBad (checkObS p) (no - j) j = if checkObS p j ≠ 0 then checkObS p j else firstBad (checkObS p) (no - (j + 1)) (j + 1)) := by rw [Hid,show no - j = (no - (j + 1)) + 1 by omega];rfl
   have HX := HO j wr1 hE0 hlt
   obtain ⟨e0,he0⟩ : ∃ e0,checkObS p j = e0 := ⟨_,rfl⟩
   rw [he0] at HX
   have HQ := Lib.hid he0
   clear he0
   by_cases hz : e0 = 0
   ·subst hz
    go_wp2_with (go_at_call 22;refine (HX).mono ?_;rintro e w9 ⟨rfl,hb⟩;obtain ⟨hc9,hf9,hs9,he9⟩ := Ext.use (w := wr1) hb xt;clear hb;(try simp only [sA,sC,sD,sN] at hs9))
    go_roundg (no - (j + 1))
    case measure => omega
    case rel => exact ⟨j + 1,by omega,by omega,by go_num,HW1.out.trans he9,by rw [Hid,HI1.out,HD.out,if_neg (by rw [HQ.out];decide)]⟩
   ·have hz' : (e0 != 0) = true := by simpa using hz
    go_wp2_with (go_at_call 22;refine (HX).mono ?_;rintro e w9 ⟨rfl,hb⟩;obtain ⟨hc9,hf9,hs9,he9⟩ := Ext.use (w := wr1) hb xt;clear hb;(try simp only [sA,sC,sD,sN] at hs9))
    go_ret
    exact ⟨ret_int (by
     have g : eo = e0 := by rw [HI1.out,HD.out,HQ.out,if_pos hz]
     rw [HS2.out,g,if_pos hz]),hE0.trans he9⟩
  ·have hltz : ¬ (j : Int) < (no : Int) := by omega
   have hzo : eo = 0 := by rw [HI1.out,show no - j = 0 by omega];rfl
   clear HO
   go_wp2
   go_loopg [5,6,45] nv (fun gg _ _ s45 wr => ∃ k : Nat,k ≤ nv ∧ nv - k ≤ gg ∧ s45 = .int .i64 k ∧ Hid (Ext wr1 wr) ∧ Hid (ev = firstBad (checkVrS p) (nv - k) k))
   case atStart => exact ⟨0,Nat.zero_le _,by omega,rfl,Ext.refl _,by rw [Hid,← HEV.out,LV.out];rfl⟩
   case round =>
    obtain ⟨k,hk1,hg1,rfl,HW2,HI2⟩ := hrel
    obtain ⟨wr2,ewr2⟩ : ∃ W,W = wr := ⟨_,rfl⟩
    subst ewr2
    have hW1 := HW2.out
    have hE1 := hE0.trans hW1
    replace k0 := hW1.cell k0
    replace k1 := hW1.cell k1
    replace k2 := hW1.cell k2
    have hl2 := Nat.lt_of_lt_of_le hl1 hW1.size
    by_cases hlt : k < nv
    ·have hltz : (k : Int) < (nv : Int) := by omega
     have HD : Hid (firstBad (checkVrS p) (nv - k) k = if checkVrS p k ≠ 0 then checkVrS p k else firstBad (checkVrS p) (nv - (k + 1)) (k + 1)) := by rw [Hid,show nv - k = (nv - (k + 1)) + 1 by omega];rfl
     have HX := HVr k wr2 hE1 hlt
     obtain ⟨e0,he0⟩ : ∃ e0,checkVrS p k = e0 := ⟨_,rfl⟩
     rw [he0] at HX
     have HQ := Lib.hid he0
     clear he0
     by_cases hz : e0 = 0
     ·subst hz
      go_wp2_with (go_at_call 23;refine (HX).mono ?_;rintro e w9 ⟨rfl,hb⟩;obtain ⟨hc9,hf9,hs9,he9⟩ := Ext.use (w := wr2) hb xt;clear hb;(try simp only [sA,sC,sD,sN] at hs9))
      go_roundg (nv - (k + 1))
      case measure => omega
      case rel => exact ⟨k + 1,by omega,by omega,by go_num,HW2.out.trans he9,by rw [Hid,HI2.out,HD.out,if_neg (by rw [HQ.out];decide)]⟩
     ·have hz' : (e0 != 0) = true := by simpa using hz
      go_wp2_with (go_at_call 23;refine (HX).mono ?_;rintro e w9 ⟨rfl,hb⟩;obtain ⟨hc9,hf9,hs9,he9⟩ := Ext.use (w := wr2) hb xt;clear hb;(try simp only [sA,sC,sD,sN] at hs9))
      go_ret
      exact ⟨ret_int (by
       have g : ev = e0 := by rw [HI2.out,HD.out,HQ.out,if_pos hz]
       rw [HS2.out,if_neg (by simp [hzo]),g,if_pos hz]),hE1.trans he9⟩
    ·have hltz : ¬ (k : Int) < (nv : Int) := by omega
     have hzv : ev = 0 := by rw [HI2.out,show nv - k = 0 by omega];rfl
     clear HVr
     go_wp2
     go_loopg [7,8,58] nf (fun gg _ _ s58 wr => ∃ l : Nat,l ≤ nf ∧ nf - l ≤ gg ∧ s58 = .int .i64 l ∧ Hid (Ext wr2 wr) ∧ Hid (ef = firstBad (checkFnS p) (nf - l) l))
     case atStart => exact ⟨0,Nat.zero_le _,by omega,rfl,Ext.refl _,by rw [Hid,← HEF.out,LF.out];rfl⟩
     case round =>
      obtain ⟨l,hk2,hg2,rfl,HW3,HI3⟩ := hrel
      obtain ⟨wr3,ewr3⟩ : ∃ W,W = wr := ⟨_,rfl⟩
      subst ewr3
      have hW2 := HW3.out
      have hE2 := hE1.trans hW2
      replace k0 := hW2.cell k0
      replace k1 := hW2.cell k1
      replace k2 := hW2.cell k2
      have hl3 := Nat.lt_of_lt_of_le hl2 hW2.size
      by_cases hlt : l < nf
      ·have hltz : (l : Int) < (nf : Int) := by omega
       have HD : Hid (firstBad (checkFnS p) (nf - l) l = if checkFnS p l ≠ 0 then checkFnS p l else firstBad (checkFnS p) (nf - (l + 1)) (l + 1)) := by rw [Hid,show nf - l = (nf - (l + 1)) + 1 by omega];rfl
       have HX := HF l wr3 hE2 hlt
       obtain ⟨e0,he0⟩ : ∃ e0,checkFnS p l = e0 := ⟨_,rfl⟩
       rw [he0] at HX
       have HQ := Lib.hid he0
       clear he0
       by_cases hz : e0 = 0
       ·subst hz
        go_wp2_with (go_at_call 24;refine (HX).mono ?_;rintro e w9 ⟨rfl,hb⟩;obtain ⟨hc9,hf9,hs9,he9⟩ := Ext.use (w := wr3) hb xt;clear hb;(try simp only [sA,sC,sD,sN] at hs9))
        go_roundg (nf - (l + 1))
        case measure => omega
        case rel => exact ⟨l + 1,by omega,by omega,by go_num,HW3.out.trans he9,by rw [Hid,HI3.out,HD.out,if_neg (by rw [HQ.out];decide)]⟩
       ·have hz' : (e0 != 0) = true := by simpa using hz
        go_wp2_with (go_at_call 24;refine (HX).mono ?_;rintro e w9 ⟨rfl,hb⟩;obtain ⟨hc9,hf9,hs9,he9⟩ := Ext.use (w := wr3) hb xt;clear hb;(try simp only [sA,sC,sD,sN] at hs9))
        go_ret
        exact ⟨ret_int (by
         have g : ef = e0 := by rw [HI3.out,HD.out,HQ.out,if_pos hz]
         rw [HS2.out,if_neg (by simp [hzo]),if_neg (by simp [hzv]),g]),hE2.trans he9⟩
      ·have hltz : ¬ (l : Int) < (nf : Int) := by omega
       have hz_ : ef = 0 := by rw [HI3.out,show nf - l = 0 by omega];rfl
       clear HF
       go_wp2
       go_ret
       exact ⟨ret_int (by rw [HS2.out,if_neg (by simp [hzo]),if_neg (by simp [hzv]),hz_]),hE2⟩
end Go.Proofs.Ytcjjoabofecjmaa

