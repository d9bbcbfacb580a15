/- A part of the proof: The programs of TaskArithmetic, in plain logic; two and comp. -/
import Derived.Test.YtcjjoabofecjmaaQ27
import Derived.Test.YtcjjoabofecjmaaQ28
import Derived.Test.YtcjjoabofecjmaaQ31
set_option linter.unusedVariables false
set_option linter.unusedSimpArgs false
set_option maxHeartbeats 16000000
namespace Go.Proofs.Ytcjjoabofecjmaa
open Go.RowKit
open Go.Value (int)
def twoN : ByteArray := ⟨#[116,119,111]⟩
def codeT (op : Int) : List Ins := [⟨op,2,0,1,[]⟩,⟨41,2,0,0,[]⟩]
def fncT (op : Int) : Fnc := ⟨twoN,2,3,0,false,codeT op⟩
def prgT (op : Int) : Prg := ⟨[⟨mainN,0,0,0,false,[]⟩,fncT op],[],[]⟩
def tskT (pc a b c : Int) : Tsk := ⟨1,0,0,1,0,0,false,[⟨1,pc,[a,b,c],-1,false⟩],[⟨-1,0,0,0,[]⟩],0,false,0,0,0⟩
theorem prgT3 : checkS (prgT 3) = 0 := by kernel_rfl
theorem prgT4 : checkS (prgT 4) = 0 := by kernel_rfl
theorem prgT5 : checkS (prgT 5) = 0 := by kernel_rfl
theorem prgT6 : checkS (prgT 6) = 0 := by kernel_rfl
theorem prgT7 : checkS (prgT 7) = 0 := by kernel_rfl
theorem prgT8 : checkS (prgT 8) = 0 := by kernel_rfl
theorem prgT9 : checkS (prgT 9) = 0 := by kernel_rfl
theorem prgT10 : checkS (prgT 10) = 0 := by kernel_rfl
theorem prgT11 : checkS (prgT 11) = 0 := by kernel_rfl
theorem prgT_ok {op : Int} (h : 3 ≤ op ∧ op ≤ 11) : checkS (prgT op) = 0 := by
 have : op = 3 ∨ op = 4 ∨ op = 5 ∨ op = 6 ∨ op = 7 ∨ op = 8 ∨ op = 9 ∨ op = 10 ∨ op = 11 := by omega
 rcases this with rfl | rfl | rfl | rfl | rfl | rfl | rfl | rfl | rfl
 ·exact prgT3
 ·exact prgT4
 ·exact prgT5
 ·exact prgT6
 ·exact prgT7
 ·exact prgT8
 ·exact prgT9
 ·exact prgT10
 ·exact prgT11
theorem fnT (op : Int) : fnAt (prgT op) 1 = some (fncT op) := rfl
theorem firstT (op a b : Int) : firstTsk 1 (fncT op) [a,b] 0 = tskT 0 a b 0 := rfl
theorem startT {op a b : Int} (h : 3 ≤ op ∧ op ≤ 11) (ha : numB a = true) (hb : numB b = true) : startS (prgT op) 1 [a,b] 0 = (tskT 0 a b 0,0) := by
 unfold startS
 rw [if_neg (by rw [prgT_ok h];decide),fnT]
 dsimp only
 rw [if_neg (show ¬ (fncT op).cleanup = true from (by decide : ¬ (false = true))),if_neg (show ¬ (([a,b].length : Int) ≠ (fncT op).params) from (by decide : ¬ ((2 : Int) ≠ 2))),if_neg (by simp [ha,hb]),firstT]
theorem validT {op a b : Int} (h : 3 ≤ op ∧ op ≤ 11) (ha : numB a = true) (hb : numB b = true) : tcheckS (prgT op) (tskT 0 a b 0) = 0 := by
 have := start_valid (p := prgT op) (f := 1) (g := fncT op) (args := [a,b]) (scope := 0) (prgT_ok h) (fnT op) rfl rfl (fun x hx => by
  rcases List.mem_cons.1 hx with rfl | hx
  ·exact ha
  ·rw [List.mem_singleton] at hx;subst hx;exact hb) ⟨by decide,by decide⟩
 rw [firstT] at this
 exact this
theorem binS_of (op a b : Int) (h : 3 ≤ op ∧ op ≤ 11) : execS (prgT op) (tskT 0 a b 0) ⟨1,0,[a,b,0],-1,false⟩ ⟨op,2,0,1,[]⟩ = if (op = 6 ∨ op = 7) ∧ b = 0 then failT (tskT 0 a b 0) 6 else if numB (binS op a b) = true then (tskT 1 a b (binS op a b),goOn) else failT (tskT 0 a b 0) 5 := by
 unfold execS
 dsimp only
 rw [if_neg (by omega),if_neg (by omega),if_neg (by omega),if_pos h]
 rfl
theorem runT {op : Int} (h : 3 ≤ op ∧ op ≤ 11) (a b : Int) : runS (prgT op) 500 (tskT 0 a b 0) 0 = if (op = 6 ∨ op = 7) ∧ b = 0 then failT (tskT 0 a b 0) 6 else if numB (binS op a b) = true then (tskT 1 a b (binS op a b),⟨1,0,0⟩) else failT (tskT 0 a b 0) 5 := by
 have hv : visS op = false := by
  unfold visS
  rw [decide_eq_false (by omega),Bool.and_false]
 have h1 : ∀ k,runS (prgT op) (k + 1) (tskT 0 a b 0) 0 = if visS op = true then (tskT 0 a b 0,⟨1,0,0⟩) else if (0 : Nat) = 200 then failT (tskT 0 a b 0) 7 else if (execS (prgT op) (tskT 0 a b 0) ⟨1,0,[a,b,0],-1,false⟩ ⟨op,2,0,1,[]⟩).2.kind = 0 then runS (prgT op) k (execS (prgT op) (tskT 0 a b 0) ⟨1,0,[a,b,0],-1,false⟩ ⟨op,2,0,1,[]⟩).1 1 else execS (prgT op) (tskT 0 a b 0) ⟨1,0,[a,b,0],-1,false⟩ ⟨op,2,0,1,[]⟩ := fun k => by
  rw [runS];rfl
 have h2 : ∀ k c,runS (prgT op) (k + 1) (tskT 1 a b c) 1 = (tskT 1 a b c,⟨1,0,0⟩) := fun k c => by
  rw [runS];rfl
 rw [show 500 = 498 + 1 + 1 from rfl,h1,if_neg (by rw [hv];decide),if_neg (by decide),binS_of op a b h]
 split
 ·rfl
 ·split
  ·exact (if_pos rfl).trans (h2 498 _)
  ·rfl
def computeS (op a b : Int) : Int × Int := if (op = 6 ∨ op = 7) ∧ b = 0 then (0,6) else if numB (binS op a b) = true then (binS op a b,0) else (0,5)
def tskC (op a b : Int) : Tsk × Stp := if (op = 6 ∨ op = 7) ∧ b = 0 then (tskT 0 a b 0,⟨3,6,0⟩) else if numB (binS op a b) = true then (tskT 1 a b (binS op a b),⟨1,0,0⟩) else (tskT 0 a b 0,⟨3,5,0⟩)
theorem advT {op a b : Int} (h : 3 ≤ op ∧ op ≤ 11) (ha : numB a = true) (hb : numB b = true) : advanceS (prgT op) (tskT 0 a b 0) = ((tskC op a b).1,(tskC op a b).2,0) := by
 unfold advanceS
 rw [if_neg (by rw [validT h ha hb];decide),if_neg (show ¬ (tskT 0 a b 0).status ≠ 1 from (by decide : ¬ ((1 : Int) ≠ 1))),if_neg (by rintro ⟨h1,_⟩;cases h1),runT h]
 rfl
end Go.Proofs.Ytcjjoabofecjmaa
namespace Go.Proofs.Ytcjjoabofecjmaa
open Go.RowKit Go.Sort
open Go.Value (int)
theorem rprg_two {w : World} {op : Int} {C F c : Nat} (hC : w.rangeAt C 0 (codeCells (codeT op))) (hF : w.rangeAt F 0 [.string mainN,int .i64 0,int .i64 0,int .i64 0,.bool false,.slice none 0 0,.string twoN,int .i64 2,int .i64 3,int .i64 0,.bool false,.slice (some ⟨C,0,none⟩) 2 c]) (hc : 2 ≤ c) (hop : InR op) :
  RPrg w (prgT op) (.agg #[.slice (some ⟨F,0,none⟩) 2 2,.slice none 0 0,.slice none 0 0]) := by
 have hx : ∀ x ∈ codeT op,x.args = [] ∧ InR x.op ∧ InR x.a ∧ InR x.b ∧ InR x.c := fun x hx => by
  simp only [codeT,List.mem_cons,List.not_mem_nil,or_false] at hx
  rcases hx with rfl | rfl
  ·exact ⟨rfl,hop,show InR 2 from ⟨by decide,by decide⟩,show InR 0 from ⟨by decide,by decide⟩,show InR 1 from ⟨by decide,by decide⟩⟩
  ·exact ⟨rfl,⟨by decide,by decide⟩,⟨by decide,by decide⟩,⟨by decide,by decide⟩,⟨by decide,by decide⟩⟩
 refine ⟨_,_,_,_,_,_,_,_,_,rfl,⟨rfl,by decide,fun k x hk => ?_⟩,RSl.nil _,RSl.nil _,Nat.le_refl _,Nat.le_refl _,Nat.le_refl _⟩
 match k,hk with
 | 0,hk =>
  have hx0 : x = ⟨mainN,0,0,0,false,[]⟩ := by simpa [prgT] using hk.symm
  subst hx0
  refine ⟨F,0,[.string mainN,int .i64 0,int .i64 0,int .i64 0,.bool false,.slice none 0 0],rfl,rfl,⟨none,0,0,rfl,by decide,⟨by decide,by decide⟩,⟨by decide,by decide⟩,⟨by decide,by decide⟩,RSl.nil _,Nat.le_refl _⟩,fun j v hj => ?_⟩
  have := hF j v (by
   have hj6 : j < 6 := (List.getElem?_eq_some_iff.1 hj).1
   rw [← hj]
   match j,hj6 with
   | 0,_ => rfl
   | 1,_ => rfl
   | 2,_ => rfl
   | 3,_ => rfl
   | 4,_ => rfl
   | 5,_ => rfl)
  simpa using this
 | 1,hk =>
  have hx0 : x = fncT op := by simpa [prgT] using hk.symm
  subst hx0
  refine ⟨F,0,[.string twoN,int .i64 2,int .i64 3,int .i64 0,.bool false,.slice (some ⟨C,0,none⟩) 2 c],rfl,rfl,⟨some ⟨C,0,none⟩,2,c,rfl,by show twoN.size ≤ _;decide,show InR 2 from ⟨by decide,by decide⟩,show InR 3 from ⟨by decide,by decide⟩,show InR 0 from ⟨by decide,by decide⟩,rins_list hC hx (by show 2 ≤ 1000;decide),hc⟩,fun j v hj => ?_⟩
  have := hF (6 + j) v (by
   have hj6 : j < 6 := (List.getElem?_eq_some_iff.1 hj).1
   rw [← hj]
   match j,hj6 with
   | 0,_ => rfl
   | 1,_ => rfl
   | 2,_ => rfl
   | 3,_ => rfl
   | 4,_ => rfl
   | 5,_ => rfl)
  simpa using this
 | k + 2,hk => simp [prgT] at hk
set_option maxRecDepth 8000 in
theorem two_any (op : Int) (w : World) (hop : InR op) : Calls Try.prog 11 #[int .i64 op] w fun e w' => ∃ F,e = .returned (.agg #[.slice (some ⟨F,0,none⟩) 2 2,.slice none 0 0,.slice none 0 0]) ∧ RPrg w' (prgT op) (.agg #[.slice (some ⟨F,0,none⟩) 2 2,.slice none 0 0,.slice none 0 0]) ∧ Ext w w' := by
 go_enter Try.func11,Try.ntmps11
 go_wp2
 refine bodyPost_ret (v := .agg #[.slice (some ⟨w.heap.size + 1 + 1,0,none⟩) 2 2,.slice none 0 0,.slice none 0 0]) (by simp [results,Try.results11,go_sem]) rfl ?_
 refine ⟨_,rfl,rprg_two (C := w.heap.size + 1) (c := 2) ?_ ?_ (by decide) hop,xt⟩
 ·exact fun j v hj => by
   have hj10 : j < 10 := (List.getElem?_eq_some_iff.1 hj).1
   rw [← hj]
   simp only [Nat.zero_add]
   match j,hj10 with
   | 0,_ => simp [go_sem,codeCells,codeT,rowOf,insRow]
   | 1,_ => simp [go_sem,codeCells,codeT,rowOf,insRow]
   | 2,_ => simp [go_sem,codeCells,codeT,rowOf,insRow]
   | 3,_ => simp [go_sem,codeCells,codeT,rowOf,insRow]
   | 4,_ => simp [go_sem,codeCells,codeT,rowOf,insRow]
   | 5,_ => simp [go_sem,codeCells,codeT,rowOf,insRow]
   | 6,_ => simp [go_sem,codeCells,codeT,rowOf,insRow]
   | 7,_ => simp [go_sem,codeCells,codeT,rowOf,insRow]
   | 8,_ => simp [go_sem,codeCells,codeT,rowOf,insRow]
   | 9,_ => simp [go_sem,codeCells,codeT,rowOf,insRow]
 ·exact fun j v hj => by
   have hj12 : j < 12 := (List.getElem?_eq_some_iff.1 hj).1
   rw [← hj]
   simp only [Nat.zero_add]
   match j,hj12 with
   | 0,_ => simp [go_sem,mainN]
   | 1,_ => simp [go_sem]
   | 2,_ => simp [go_sem]
   | 3,_ => simp [go_sem]
   | 4,_ => simp [go_sem]
   | 5,_ => simp [go_sem]
   | 6,_ => simp [go_sem,twoN]
   | 7,_ => simp [go_sem]
   | 8,_ => simp [go_sem]
   | 9,_ => simp [go_sem]
   | 10,_ => simp [go_sem]
   | 11,_ => simp [go_sem]
def tskTC (VF VB : Value) : List Value := [int .i64 1,int .i64 0,int .i64 0,int .i64 1,int .i64 0,int .i64 0,.bool false,VF,VB,int .i64 0,.bool false,int .i64 0,int .i64 0,int .i64 0]
theorem tskT_parts {w : World} {pc a b c : Int} {V : Value} (h : RTsk w (tskT pc a b c) V) : ∃ gF oF cF Ab cb gR oR cr,V = .agg (tskTC (.slice (some ⟨gF,oF,none⟩) 1 cF) (.slice Ab 1 cb)).toArray ∧ w.cell? ⟨gF,oF + 1,none⟩ = some (int .i64 pc) ∧ w.cell? ⟨gF,oF + 2,none⟩ = some (.slice (some ⟨gR,oR,none⟩) 3 cr) ∧ w.cell? ⟨gR,oR + 2,none⟩ = some (int .i64 c) := by
 obtain ⟨Af,nf,cf,Ab,nb,cb,rfl,_,_,_,_,_,_,_,_,_,_,hF,hB,_,_⟩ := h
 have h1 : nf = 1 := hF.len
 have h2 : nb = 1 := hB.len
 subst h1 h2
 obtain ⟨b2,off,Ar,nr,cr,rfl,_,_,_,_,⟨hR,_⟩,c0,c1,c2,_,_⟩ := hF.frm (k := 0) rfl
 have h3 : nr = 3 := hR.len
 subst h3
 obtain ⟨b3,o3,rfl,_,_,d0⟩ := hR.int (k := 2) rfl
 exact ⟨b2,off,cf,Ab,cb,b3,o3,cr,rfl,by simpa using c1,by simpa using c2,d0⟩
set_option maxRecDepth 8000 in
theorem compute_any (op a b : Int) (w : World) (h : 3 ≤ op ∧ op ≤ 11) (ha : numB a = true) (hb : numB b = true) : Calls Try.prog 5 #[int .i64 op,int .i64 a,int .i64 b] w fun e w' => e = .returned (.tuple #[int .i64 (computeS op a b).1,int .i64 (computeS op a b).2,.bool true]) ∧ Ext w w' := by
 have hio : InR op := ⟨by omega,by omega⟩
 have hia := num_in ha
 have hib := num_in hb
 have HST := Lib.hid (startT h ha hb)
 have HAD := Lib.hid (advT h ha hb)
 obtain ⟨pc,c,s,hq,hcs⟩ : ∃ pc c s,tskC op a b = (tskT pc a b c,s) ∧ ((s = ⟨3,(computeS op a b).2,0⟩ ∧ pc = 0 ∧ (computeS op a b).1 = 0) ∨ (s = ⟨1,0,0⟩ ∧ (computeS op a b).1 = c ∧ (computeS op a b).2 = 0)) := by
  unfold tskC computeS
  split
  ·exact ⟨0,0,_,rfl,.inl ⟨rfl,rfl,rfl⟩⟩
  ·split
   ·exact ⟨1,binS op a b,_,rfl,.inr ⟨rfl,rfl,rfl⟩⟩
   ·exact ⟨0,0,_,rfl,.inl ⟨rfl,rfl,rfl⟩⟩
 rw [hq] at HAD
 obtain ⟨⟨N,R⟩,hNR⟩ : ∃ q,computeS op a b = q := ⟨_,rfl⟩
 rw [hNR] at hcs ⊢
 dsimp only at hcs ⊢
 clear hq h ha hb hNR
 have HIA := Lib.hid hia
 have HIB := Lib.hid hib
 clear hia hib
 go_enter Try.func5,Try.ntmps5
 go_upto_region 2 with (first | ((first | (with_reducible refine jk 38 ?_) | (with_reducible refine ik 38 ?_));refine stm rfl rfl rfl rfl (by exact tr) infoPrg (all_oneCell_toArray (by simp [Value.oneCell'])) ?_;(try dsimp only [Act.put])) | (go_at_call 11;refine (two_any op _ hio).mono ?_;rintro e w1 ⟨F,rfl,hP,hb1⟩;have HP1 := Lib.hid hP;have HB1 := Lib.hid hb1;clear hP hb1))
 refine wp_hid2 ?_
 intro W2 HW2
 have HE2 : Hid (Ext w W2) := by have h := HB1.out;have h2 := h.size;rw [Hid,HW2.out];exact xts
 have HF2 : Hid (Ext w1 W2) := by rw [Hid,HW2.out];exact xts
 have P2 : W2.rangeAt w1.heap.size 0 [.slice (some ⟨F,0,none⟩) 2 2,.slice none 0 0,.slice none 0 0] := by rw [HW2.out];exact World.rangeAt_setCells_same _ _ 0 _ (by show World.there _ _ 0 3;exact there_new rfl rfl)
 have HP2 : Hid (RPrg W2 (prgT op) (.agg #[.slice (some ⟨F,0,none⟩) 2 2,.slice none 0 0,.slice none 0 0])) := HP1.out.mono HF2.out
 have hints : RSl 1 RInt (W2.alloc (.cells #[int .i64 a,int .i64 b] 3)) (some ⟨W2.heap.size,0,none⟩) 2 [a,b] := RSl.newInts W2 [a,b] 3 (show 2 ≤ 1000000 by decide) (by intro x hx;simp at hx;rcases hx with rfl | rfl;exact HIA.out;exact HIB.out)
 have HS := Lib.hid (Start_any (prgT op) 1 [a,b] 0 _ _ 2 2 (W2.alloc (.cells #[int .i64 a,int .i64 b] 3)) (HP2.out.mono ((Ext.refl _).alloc _)) hints ⟨by decide,by decide⟩ ⟨by decide,by decide⟩)
 rw [HST.out] at HS
 dsimp only at HS
 clear hints
 clear HW2 HP1
 go_upto_region 3 with (first | ((first | (with_reducible refine jl 38 ?_) | (with_reducible refine il 38 ?_));refine ldm Try.underlying38 rfl rfl rfl (by exact rg) rfl (by exact infoPrg) ?_;dsimp only [dZ,dS]) | ((with_reducible refine ik 44 ?_);refine stm rfl rfl rfl rfl (by exact tr) infoTsk (all_oneCell_toArray (by simp [Value.oneCell'])) ?_;(try dsimp only [Act.put])) | (go_at_call 6;refine HS.out.mono ?_;rintro e w3 ⟨V3,rfl,hT3,hb3⟩;have HT3 := Lib.hid hT3;have HB3 : Hid (Ext W2 w3) := Ext.trans xt hb3;obtain ⟨gF3,oF3,cF3,Ab3,cb3,gR3,oR3,cr3,rfl,_⟩ := tskT_parts hT3;unfold tskTC at HT3 ⊢;clear hT3 hb3))
 refine wp_hid2 ?_
 intro W3 HW3
 have HE3 : Hid (Ext W2 W3) := by have h := HB3.out;have h2 := h.size;rw [Hid,HW3.out];exact xts
 have T3 : W3.rangeAt w3.heap.size 0 [int .i64 1,int .i64 0,int .i64 0,int .i64 1,int .i64 0,int .i64 0,.bool false,.slice (some ⟨gF3,oF3,none⟩) 1 cF3,.slice Ab3 1 cb3,int .i64 0,.bool false,int .i64 0,int .i64 0,int .i64 0] := by
  rw [HW3.out];exact World.rangeAt_setCells_same _ _ 0 _ (by show World.there _ _ 0 14;exact there_new rfl rfl)
 have HT33 := Lib.hid (show RTsk W3 (tskT 0 a b 0) _ from HT3.out.mono (by rw [HW3.out];exact xts))
 have P3 := range_ext P2 HE3.out
 have HA := Lib.hid (Advance_any (prgT op) (tskT 0 a b 0) _ _ W3 (HP2.out.mono HE3.out) HT33.out)
 unfold AdvPost stopA at HA
 rw [HAD.out] at HA
 dsimp only at HA
 clear HW3 HT3 HS HB3 P2
 go_upto_region 4 with (first | ((first | (with_reducible refine jl 38 ?_) | (with_reducible refine il 38 ?_));refine ldm Try.underlying38 rfl rfl rfl (by exact rg) rfl (by exact infoPrg) ?_;dsimp only [dZ,dS]) | ((first | (with_reducible refine jl 44 ?_) | (with_reducible refine il 44 ?_));refine ldm Try.underlying44 rfl rfl rfl (by exact rg) rfl (by exact infoTsk) ?_;dsimp only [dZ,dS]) | ((with_reducible refine ik 44 ?_);refine stm rfl rfl rfl rfl (by exact tr) infoTsk (all_oneCell_toArray (by simp [Value.oneCell'])) ?_;(try dsimp only [Act.put])) | ((with_reducible refine ik 49 ?_);refine stm rfl rfl rfl rfl (by exact tr) infoStop (all_oneCell_toArray (by simp [Value.oneCell'])) ?_;(try dsimp only [Act.put])) | (go_at_call 7;refine HA.out.mono ?_;rintro e w4 ⟨V4,rfl,hT4,hb4⟩;have HT4 := Lib.hid hT4;have HB4 := Lib.hid hb4;obtain ⟨gF4,oF4,cF4,Ab4,cb4,gR4,oR4,cr4,rfl,hc41,hc42,hc43⟩ := tskT_parts hT4;have HC41 := Lib.hid hc41;have HC42 := Lib.hid hc42;have HC43 := Lib.hid hc43;unfold tskTC;clear hT4 hb4 hc41 hc42 hc43))
 refine wp_hid2 ?_
 intro W4 HW4
 have HE4 : Hid (Ext W3 W4) := by have h := HB4.out;have h2 := h.size;rw [Hid,HW4.out];exact xts
 have E44 : Ext w4 W4 := by rw [HW4.out];exact xts
 have TU : W4.rangeAt w4.heap.size 0 [int .i64 1,int .i64 0,int .i64 0,int .i64 1,int .i64 0,int .i64 0,.bool false,.slice (some ⟨gF4,oF4,none⟩) 1 cF4,.slice Ab4 1 cb4,int .i64 0,.bool false,int .i64 0,int .i64 0,int .i64 0] := by
  rw [HW4.out];exact (ranges_two (by omega) (by show World.there _ _ 0 14;exact there_old (there_new rfl rfl) _) (by show World.there _ _ 0 3;exact there_new (by simp) rfl)).1
 have TS : W4.rangeAt (w4.heap.size + 1) 0 [int .i64 s.kind,int .i64 s.reason,int .i64 s.value] := by
  rw [HW4.out];exact (ranges_two (by omega) (by show World.there _ _ 0 14;exact there_old (there_new rfl rfl) _) (by show World.there _ _ 0 3;exact there_new (by simp) rfl)).2
 have HEW : Hid (Ext w W4) := (HE2.out.trans HE3.out).trans HE4.out
 have u7 : W4.cell? ⟨w4.heap.size,7,none⟩ = some (.slice (some ⟨gF4,oF4,none⟩) 1 cF4) := TU 7 _ rfl
 have f1 := E44.cell HC41.out
 have f2 := E44.cell HC42.out
 have f3 := E44.cell HC43.out
 have s0 : W4.cell? ⟨w4.heap.size + 1,0,none⟩ = some (int .i64 s.kind) := TS 0 _ rfl
 have s1 : W4.cell? ⟨w4.heap.size + 1,1,none⟩ = some (int .i64 s.reason) := TS 1 _ rfl
 have z1 := lt_of_cell u7
 have z2 := lt_of_cell f1
 have z3 := lt_of_cell f3
 have z4 := lt_of_cell s0
 clear HW4 HT4 HA HB4 E44 TU TS T3 P3 HT33 HAD HST HE2 HE3 HE4 HIA HIB HB1 HF2 HP2
 rcases hcs with ⟨rfl,rfl,rfl⟩ | ⟨rfl,rfl,rfl⟩
 ·dsimp only at s0 s1
  go_upto_region 7 with fail
  (refine wp_region_quiet_below (by kernel_rfl) (by kernel_rfl) ?_;(repeat (go_big_quiet_step (fail)));refine wpQuiet_nil fun w1 h1 => ?_;obtain ⟨hc,hf,hs,he⟩ := eu (w := W4) h1 xt;clear h1;(try simp only [sA,sC,sD,sN] at hs))
  go_wp2
  refine bodyPost_ret (v := .tuple #[int .i64 0,int .i64 R,.bool true]) (by simp [results,Try.results5,go_sem]) rfl ⟨rfl,HEW.out.trans he⟩
 ·dsimp only at s0 s1
  go_upto_region 8 with fail
  (refine wp_region_quiet_below (by kernel_rfl) (by kernel_rfl) ?_;(repeat (go_big_quiet_step (fail)));refine wpQuiet_nil fun w1 h1 => ?_;obtain ⟨hc,hf,hs,he⟩ := eu (w := W4) h1 xt;clear h1;(try simp only [sA,sC,sD,sN] at hs))
  go_wp2
  refine bodyPost_ret (v := .tuple #[int .i64 N,int .i64 0,.bool true]) (by simp [results,Try.results5,go_sem]) rfl ⟨rfl,HEW.out.trans he⟩
end Go.Proofs.Ytcjjoabofecjmaa
namespace Go.Proofs.Ytcjjoabofecjmaa
open Go.RowKit Go.Sort Go.Maps
open Go.Value (int)
def mx (x y : Int) : Int := if y > x then y else x
def mn (x y : Int) : Int := if y < x then y else x
theorem run_max4 {P : Program} (ts : Array TypeId) (t : TypeId) (k : IntKind) (x y z u : Int) (w : World) : (Builtin.max_ ts t #[.int k x,.int k y,.int k z,.int k u]).run P w = .ok (.int k (mx (mx (mx x y) z) u)) w := by
 simp [Builtin.max_,Builtin.max2,mx]
theorem run_max2 {P : Program} (ts : Array TypeId) (t : TypeId) (k : IntKind) (x y : Int) (w : World) : (Builtin.max_ ts t #[.int k x,.int k y]).run P w = .ok (.int k (mx x y)) w := by
 simp [Builtin.max_,Builtin.max2,mx]
theorem run_min2 {P : Program} (ts : Array TypeId) (t : TypeId) (k : IntKind) (x y : Int) (w : World) : (Builtin.min_ ts t #[.int k x,.int k y]).run P w = .ok (.int k (mn x y)) w := by
 simp [Builtin.min_,Builtin.min2,mn]
theorem mx_lt {x y c : Int} : c < mx x y ↔ c < x ∨ c < y := by unfold mx;split <;> omega
theorem mn_lt {x y c : Int} : mn x y < c ↔ x < c ∨ y < c := by unfold mn;split <;> omega
theorem num_iff {x : Int} : numB x = true ↔ -1099511627776 ≤ x ∧ x ≤ 1099511627776 := inB_iff
set_option maxRecDepth 8000 in
theorem lawArith_out (a b : Int) (w : World) (hn : ¬ (numB a = true ∧ numB b = true)) : Calls Try.prog 3 #[int .i64 a,int .i64 b] w fun e w' => e = .returned (.bool true) ∧ Ext w w' := by
 rw [num_iff,num_iff] at hn
 have hmax := fun w => run_max4 (P := Try.prog) #[3,3,3,3] 3 .i64 a (wrap64 (-a)) b (wrap64 (-b)) w
 have hmin := fun w => run_min2 (P := Try.prog) #[3,3] 3 .i64 a b w
 have hM : 1099511627776 < mx (mx (mx a (wrap64 (-a))) b) (wrap64 (-b)) ∨ (¬ 1099511627776 < mx (mx (mx a (wrap64 (-a))) b) (wrap64 (-b)) ∧ mn a b < -1099511627776) := by
  rw [mx_lt,mx_lt,mx_lt,mn_lt];omega
 generalize mx (mx (mx a (wrap64 (-a))) b) (wrap64 (-b)) = M at hmax hM
 generalize mn a b = m at hmin hM
 clear hn
 rcases hM with hM | ⟨hM,hm⟩
 ·have hMb : decide (1099511627776 < M) = true := decide_eq_true hM
  go_enter Try.func3,Try.ntmps3
  go_wp2_with (go_at_call 4;refine (awake_any _).mono ?_;rintro e w2 ⟨rfl,hb2⟩)
  go_ret
  exact ⟨rfl,hb2⟩
 ·have hMb : decide (1099511627776 < M) = false := decide_eq_false hM
  have hmb : decide (m < -1099511627776) = true := decide_eq_true hm
  go_enter Try.func3,Try.ntmps3
  go_wp2_with (go_at_call 4;refine (awake_any _).mono ?_;rintro e w2 ⟨rfl,hb2⟩)
  go_ret
  exact ⟨rfl,hb2⟩
theorem bitS_num (q : Bool) : numB (bitS q) = true := by cases q <;> decide
theorem mx_abs (x : Int) : mx x (-x) = (x.natAbs : Int) := by unfold mx;split <;> omega
theorem mul_out {a b : Int} (h : numB (a * b) = false) : b ≠ 0 ∧ 0 < mx b (-b) ∧ ¬ mx a (-a) ≤ Int.tdiv 1099511627776 (mx b (-b)) := by
 have hn : ¬ numB (a * b) = true := by rw [h];decide
 have hb : b ≠ 0 := fun e => hn (by rw [e,Int.mul_zero];decide)
 have hB : 0 < mx b (-b) := by rw [mx_abs];omega
 refine ⟨hb,hB,fun hle => hn ?_⟩
 rw [Int.tdiv_eq_ediv_of_nonneg (by decide),Int.le_ediv_iff_mul_le hB,mx_abs,mx_abs] at hle
 have h2 : ((a * b).natAbs : Int) = (a.natAbs : Int) * (b.natAbs : Int) := by rw [Int.natAbs_mul];push_cast;rfl
 rw [← h2] at hle
 rw [num_iff];omega
theorem quo_in {B : Int} (h : 0 < B) : 0 ≤ Int.tdiv 1099511627776 B ∧ Int.tdiv 1099511627776 B ≤ 1099511627776 := by
 rw [Int.tdiv_eq_ediv_of_nonneg (by decide)]
 exact ⟨Int.ediv_nonneg (by decide) (by omega),Int.ediv_le_self _ (by decide)⟩
theorem comp_yes {op a b X : Int} (h : 3 ≤ op ∧ op ≤ 11) (ha : numB a = true) (hb : numB b = true) (hX : binS op a b = X) (hz : ¬ ((op = 6 ∨ op = 7) ∧ b = 0)) (hq : numB X = true) (W : World) : Calls Try.prog 5 #[int .i64 op,int .i64 a,int .i64 b] W fun e w' => e = .returned (.tuple #[int .i64 X,int .i64 0,.bool true]) ∧ Ext W w' := by
 have := compute_any op a b W h ha hb
 have hc : computeS op a b = (X,0) := by unfold computeS;rw [if_neg hz,hX,if_pos hq]
 rw [hc] at this;exact this
theorem comp_no {op a b X : Int} (h : 3 ≤ op ∧ op ≤ 11) (ha : numB a = true) (hb : numB b = true) (hX : binS op a b = X) (hz : ¬ ((op = 6 ∨ op = 7) ∧ b = 0)) (hq : numB X = false) (W : World) : Calls Try.prog 5 #[int .i64 op,int .i64 a,int .i64 b] W fun e w' => e = .returned (.tuple #[int .i64 0,int .i64 5,.bool true]) ∧ Ext W w' := by
 have := compute_any op a b W h ha hb
 have hc : computeS op a b = (0,5) := by unfold computeS;rw [if_neg hz,hX,if_neg (by rw [hq];decide)]
 rw [hc] at this;exact this
theorem comp_zero {op a b : Int} (h : 3 ≤ op ∧ op ≤ 11) (h67 : op = 6 ∨ op = 7) (ha : numB a = true) (hb : numB b = true) (hz : b = 0) (W : World) : Calls Try.prog 5 #[int .i64 op,int .i64 a,int .i64 b] W fun e w' => e = .returned (.tuple #[int .i64 0,int .i64 6,.bool true]) ∧ Ext W w' := by
 have := compute_any op a b W h ha hb
 have hc : computeS op a b = (0,6) := by unfold computeS;rw [if_pos ⟨h67,hz⟩]
 rw [hc] at this;exact this
set_option maxRecDepth 8000 in
theorem lawArith_in (a b : Int) (w : World) (ha : numB a = true) (hb : numB b = true) : Calls Try.prog 3 #[int .i64 a,int .i64 b] w fun e w' => e = .returned (.bool true) ∧ Ext w w' := by
 have hna := num_iff.1 ha
 have hnb := num_iff.1 hb
 have HNA := Lib.hid ha
 have HNB := Lib.hid hb
 have hwa : wrap64 (-a) = -a := by unfold wrap64;omega
 have hwb : wrap64 (-b) = -b := by unfold wrap64;omega
 have hmax := fun w => run_max4 (P := Try.prog) #[3,3,3,3] 3 .i64 a (-a) b (-b) w
 have hmin := fun w => run_min2 (P := Try.prog) #[3,3] 3 .i64 a b w
 have hM : ¬ 1099511627776 < mx (mx (mx a (-a)) b) (-b) := by rw [mx_lt,mx_lt,mx_lt];omega
 have hm : ¬ mn a b < -1099511627776 := by rw [mn_lt];omega
 have hMb : decide (1099511627776 < mx (mx (mx a (-a)) b) (-b)) = false := decide_eq_false hM
 have hmb : decide (mn a b < -1099511627776) = false := decide_eq_false hm
 generalize mx (mx (mx a (-a)) b) (-b) = M at hmax hM hMb
 generalize mn a b = m at hmin hm hmb
 have hs1 : wrap64 (a + b) = a + b := by unfold wrap64;omega
 have hs2 : IntKind.i64.wrap (a + b) = a + b := IntWalk.i64_in _ (by omega)
 clear ha hb
 go_enter Try.func3,Try.ntmps3
 go_upto_region 3 with fail
 go_wp2
 refine wp_hid2 ?_
 intro W0 HW0
 have HE0 : Hid (Ext w W0) := by rw [Hid,HW0.out];exact xt
 have HA0 : Hid (W0.cell? ⟨w.heap.size,0,none⟩ = some (int .i64 3)) := by rw [Hid,HW0.out];simp [go_sem]
 have HA1 : Hid (W0.cell? ⟨w.heap.size,1,none⟩ = some (int .i64 4)) := by rw [Hid,HW0.out];simp [go_sem]
 have HA2 : Hid (W0.cell? ⟨w.heap.size,2,none⟩ = some (int .i64 6)) := by rw [Hid,HW0.out];simp [go_sem]
 have HA3 : Hid (W0.cell? ⟨w.heap.size,3,none⟩ = some (int .i64 7)) := by rw [Hid,HW0.out];simp [go_sem]
 clear HW0
 go_loopg [38] 4 (fun gg s38 wr => ∃ k : Nat,k ≤ 4 ∧ 4 - k ≤ gg ∧ s38 = .int .i64 (k : Int) ∧ Hid (Ext W0 wr))
 case atStart => exact ⟨0,by omega,by omega,rfl,Ext.refl _⟩
 case round =>
  obtain ⟨k,hk,hgk,rfl,HE⟩ := hrel
  by_cases hk4 : k = 4
  rotate_left
  ·have hk0 : k = 0 ∨ k = 1 ∨ k = 2 ∨ k = 3 := by omega
   clear hk4
   rcases hk0 with rfl | rfl | rfl | rfl
   ·have c0 := HE.out.cell HA0.out
    have zc0 := lt_of_cell c0
    clear hk
    have hxx : (a + b != a + b) = false := by simp
    have hxe : (a + b == a + b) = true := by simp
    cases hq : numB (a + b) with
    | true =>
     have hq2 := num_iff.1 hq
     have g1 : decide (1099511627776 < a + b) = false := decide_eq_false (by omega)
     have g2 : decide (a + b < -1099511627776) = false := decide_eq_false (by omega)
     have HC := Lib.hid (fun W => comp_yes (op := 3) (by decide) HNA.out HNB.out (X := a + b) rfl (by omega) hq W)
     clear hq hq2
     go_wp2_with (go_at_call 5;refine (HC.out _).mono ?_;rintro e w2 ⟨rfl,hb2⟩;have HE2 := Lib.hid (Ext.trans HE.out hb2);clear hb2)
     go_roundg 3
     case measure => omega
     case rel => exact ⟨1,by omega,by omega,by go_num,HE2⟩
    | false =>
     have HC := Lib.hid (fun W => comp_no (op := 3) (by decide) HNA.out HNB.out (X := a + b) rfl (by omega) hq W)
     have hq2 : 1099511627776 < a + b ∨ (¬ 1099511627776 < a + b ∧ a + b < -1099511627776) := by
      have : ¬ (numB (a + b) = true) := by rw [hq];decide
      rw [num_iff] at this;omega
     clear hq
     rcases hq2 with g | ⟨g,g'⟩
     ·have g1 : decide (1099511627776 < a + b) = true := decide_eq_true g
      go_wp2_with (go_at_call 5;refine (HC.out _).mono ?_;rintro e w2 ⟨rfl,hb2⟩;have HE2 := Lib.hid (Ext.trans HE.out hb2);clear hb2)
      go_roundg 3
      case measure => omega
      case rel => exact ⟨1,by omega,by omega,by go_num,HE2⟩
     ·have g1 : decide (1099511627776 < a + b) = false := decide_eq_false g
      have g2 : decide (a + b < -1099511627776) = true := decide_eq_true g'
      go_wp2_with (go_at_call 5;refine (HC.out _).mono ?_;rintro e w2 ⟨rfl,hb2⟩;have HE2 := Lib.hid (Ext.trans HE.out hb2);clear hb2)
      go_roundg 3
      case measure => omega
      case rel => exact ⟨1,by omega,by omega,by go_num,HE2⟩
   ·have c0 := HE.out.cell HA1.out
    have zc0 := lt_of_cell c0
    clear hk
    obtain ⟨X,hX⟩ : ∃ X,a - b = X := ⟨_,rfl⟩
    have hw3 : wrap64 (a - b) = X := by unfold wrap64;omega
    have hw4 : IntKind.i64.wrap (a - b) = X := (IntWalk.i64_in _ (by omega)).trans hX
    have hxx : (X != X) = false := by simp
    have hxe : (X == X) = true := by simp
    cases hq : numB X with
    | true =>
     have hq2 := num_iff.1 hq
     have g1 : decide (1099511627776 < X) = false := decide_eq_false (by omega)
     have g2 : decide (X < -1099511627776) = false := decide_eq_false (by omega)
     have HC := Lib.hid (fun W => comp_yes (op := 4) (by decide) HNA.out HNB.out (X := X) hX (by omega) hq W)
     clear hX hq hq2
     go_wp2_with (go_at_call 5;refine (HC.out _).mono ?_;rintro e w2 ⟨rfl,hb2⟩;have HE2 := Lib.hid (Ext.trans HE.out hb2);clear hb2)
     go_roundg 2
     case measure => omega
     case rel => exact ⟨2,by omega,by omega,by go_num,HE2⟩
    | false =>
     have HC := Lib.hid (fun W => comp_no (op := 4) (by decide) HNA.out HNB.out (X := X) hX (by omega) hq W)
     have hq2 : 1099511627776 < X ∨ (¬ 1099511627776 < X ∧ X < -1099511627776) := by
      have : ¬ (numB X = true) := by rw [hq];decide
      rw [num_iff] at this;omega
     clear hX hq
     rcases hq2 with g | ⟨g,g'⟩
     ·have g1 : decide (1099511627776 < X) = true := decide_eq_true g
      go_wp2_with (go_at_call 5;refine (HC.out _).mono ?_;rintro e w2 ⟨rfl,hb2⟩;have HE2 := Lib.hid (Ext.trans HE.out hb2);clear hb2)
      go_roundg 2
      case measure => omega
      case rel => exact ⟨2,by omega,by omega,by go_num,HE2⟩
     ·have g1 : decide (1099511627776 < X) = false := decide_eq_false g
      have g2 : decide (X < -1099511627776) = true := decide_eq_true g'
      go_wp2_with (go_at_call 5;refine (HC.out _).mono ?_;rintro e w2 ⟨rfl,hb2⟩;have HE2 := Lib.hid (Ext.trans HE.out hb2);clear hb2)
      go_roundg 2
      case measure => omega
      case rel => exact ⟨2,by omega,by omega,by go_num,HE2⟩
   ·have c0 := HE.out.cell HA2.out
    have zc0 := lt_of_cell c0
    clear hk
    by_cases hz : b = 0
    ·have hzb : (b == 0) = true := by simpa using hz
     have HC := Lib.hid (fun W => comp_zero (op := 6) (by decide) (by omega) HNA.out HNB.out hz W)
     clear hz
     go_wp2_with (go_at_call 5;refine (HC.out _).mono ?_;rintro e w2 ⟨rfl,hb2⟩;have HE2 := Lib.hid (Ext.trans HE.out hb2);clear hb2)
     go_roundg 1
     case measure => omega
     case rel => exact ⟨3,by omega,by omega,by go_num,HE2⟩
    ·have hzb : (b == 0) = false := by simpa using hz
     have hw5 : IntKind.i64.wrap (a.tdiv b) = a.tdiv b := IntWalk.i64_in _ (by have := tdiv_num (b := b) HNA.out;omega)
     have hw6 : wrap64 (a.tdiv b) = a.tdiv b := by have := tdiv_num (b := b) HNA.out;unfold wrap64;omega
     have hq := num_iff.2 (tdiv_num (b := b) HNA.out)
     have hq2 := num_iff.1 hq
     have HC := Lib.hid (fun W => comp_yes (op := 6) (by decide) HNA.out HNB.out (X := a.tdiv b) rfl (by omega) hq W)
     clear hq
     have hxx : (a.tdiv b != a.tdiv b) = false := by simp
     have hxe : (a.tdiv b == a.tdiv b) = true := by simp
     have g1 : decide (1099511627776 < a.tdiv b) = false := decide_eq_false (by omega)
     have g2 : decide (a.tdiv b < -1099511627776) = false := decide_eq_false (by omega)
     clear hq2
     go_wp2_with (go_at_call 5;refine (HC.out _).mono ?_;rintro e w2 ⟨rfl,hb2⟩;have HE2 := Lib.hid (Ext.trans HE.out hb2);clear hb2)
     go_roundg 1
     case measure => omega
     case rel => exact ⟨3,by omega,by omega,by go_num,HE2⟩
   ·have c0 := HE.out.cell HA3.out
    have zc0 := lt_of_cell c0
    clear hk
    by_cases hz : b = 0
    ·have hzb : (b == 0) = true := by simpa using hz
     have HC := Lib.hid (fun W => comp_zero (op := 7) (by decide) (by omega) HNA.out HNB.out hz W)
     clear hz
     go_wp2_with (go_at_call 5;refine (HC.out _).mono ?_;rintro e w2 ⟨rfl,hb2⟩;have HE2 := Lib.hid (Ext.trans HE.out hb2);clear hb2)
     go_roundg 0
     case measure => omega
     case rel => exact ⟨4,by omega,by omega,by go_num,HE2⟩
    ·have hzb : (b == 0) = false := by simpa using hz
     have hw5 : IntKind.i64.wrap (a.tmod b) = a.tmod b := IntWalk.i64_in _ (by have := tmod_num (b := b) HNA.out;omega)
     have hw6 : wrap64 (a.tmod b) = a.tmod b := by have := tmod_num (b := b) HNA.out;unfold wrap64;omega
     have hq := num_iff.2 (tmod_num (b := b) HNA.out)
     have hq2 := num_iff.1 hq
     have HC := Lib.hid (fun W => comp_yes (op := 7) (by decide) HNA.out HNB.out (X := a.tmod b) rfl (by omega) hq W)
     clear hq
     have hxx : (a.tmod b != a.tmod b) = false := by simp
     have hxe : (a.tmod b == a.tmod b) = true := by simp
     have g1 : decide (1099511627776 < a.tmod b) = false := decide_eq_false (by omega)
     have g2 : decide (a.tmod b < -1099511627776) = false := decide_eq_false (by omega)
     clear hq2
     go_wp2_with (go_at_call 5;refine (HC.out _).mono ?_;rintro e w2 ⟨rfl,hb2⟩;have HE2 := Lib.hid (Ext.trans HE.out hb2);clear hb2)
     go_roundg 0
     case measure => omega
     case rel => exact ⟨4,by omega,by omega,by go_num,HE2⟩
  ·subst hk4
   clear HA0 HA1 HA2 HA3 hgk hk
   obtain ⟨⟨N,R⟩,hNR⟩ : ∃ q,computeS 5 a b = q := ⟨_,rfl⟩
   have HC := Lib.hid (fun W => compute_any 5 a b W (by decide) HNA.out HNB.out)
   rw [hNR] at HC
   dsimp only at HC
   have hcs : (R = 0 ∧ N = a * b) ∨ (R = 5 ∧ N = 0 ∧ numB (a * b) = false) := by
    unfold computeS at hNR
    rw [if_neg (by omega)] at hNR
    split at hNR
    ·injection hNR with h1 h2;exact .inl ⟨h2.symm,h1.symm⟩
    ·rename_i h;injection hNR with h1 h2;exact .inr ⟨h2.symm,h1.symm,by simpa [binS] using h⟩
   have HCS := Lib.hid hcs
   clear hNR hcs
   have hxa := fun w => run_max2 (P := Try.prog) #[3,3] 3 .i64 a (-a) w
   have hxb := fun w => run_max2 (P := Try.prog) #[3,3] 3 .i64 b (-b) w
   go_upto_region 25 with (go_at_call 5;refine (HC.out _).mono ?_;rintro e w2 ⟨rfl,hb2⟩;have HE2 := Lib.hid (Ext.trans HE.out hb2);clear hb2)
   go_cut [169] from 111 (fun s wx => s = .bool false ∧ wx = w2)
   case first =>
    rcases HCS.out with ⟨rfl,hN⟩ | ⟨rfl,rfl,hq⟩
    ·by_cases hz : b = 0
     ·have hzb : (b == 0) = true := by simpa using hz
      have hzn : (b != 0) = false := by simpa using hz
      have hpn : (N != 0) = false := by rw [hN,hz,Int.mul_zero];decide
      clear hz hN
      go_wp2
      go_meet
      exact ⟨rfl,rfl⟩
     ·have hzb : (b == 0) = false := by simpa using hz
      have hzn : (b != 0) = true := by simpa using hz
      have hd1 : wrap64 (N.tdiv b) = a := by rw [hN,Int.mul_tdiv_cancel a hz];unfold wrap64;omega
      have hd2 : IntKind.i64.wrap (N.tdiv b) = a := by rw [hN,Int.mul_tdiv_cancel a hz];exact IntWalk.i64_in _ (by omega)
      have hd3 : N.tmod b = 0 := by rw [hN];exact Int.mul_tmod_left a b
      have haa : (a != a) = false := by simp
      clear hN
      go_wp2
      go_meet
      exact ⟨rfl,rfl⟩
    ·obtain ⟨h1,h2,h3⟩ := mul_out hq
     have h4 := quo_in h2
     generalize mx a (-a) = A at hxa h3
     generalize mx b (-b) = B at hxb h2 h3 h4
     have hzb : (b == 0) = false := by simpa using h1
     have hBz : (B == 0) = false := beq_eq_false_iff_ne.2 (by omega)
     have hB0 : ¬ B = 0 := by omega
     have hQ1 : wrap64 (Int.tdiv 1099511627776 B) = Int.tdiv 1099511627776 B := by unfold wrap64;omega
     have hQ2 : IntKind.i64.wrap (Int.tdiv 1099511627776 B) = Int.tdiv 1099511627776 B := IntWalk.i64_in _ (by omega)
     have h3b : decide (A ≤ Int.tdiv 1099511627776 B) = false := decide_eq_false h3
     clear hq h1
     go_wp2
     go_meet
     exact ⟨rfl,rfl⟩
   case rest =>
    obtain ⟨rfl,rfl⟩ := hcut
    clear HCS HC hxa hxb hmax hmin hM hm hMb hmb hwa hwb hs1 hs2 HE
    obtain ⟨W1,hW1⟩ : ∃ W,W = wc := ⟨_,rfl⟩
    subst hW1
    have HEW : Hid (Ext w W1) := HE0.out.trans HE2.out
    obtain ⟨p1,hp1⟩ : ∃ q,(a == b) = q := ⟨_,rfl⟩
    obtain ⟨p2,hp2⟩ : ∃ q,decide (a < b) = q := ⟨_,rfl⟩
    obtain ⟨pb,hpb⟩ : ∃ q,(b != 0) = q := ⟨_,rfl⟩
    have hmm := @run_makeMap Try.prog
    clear HE0 HE2 hna hnb
    have hTM0 := Lib.hid (World.ownsMap_made (H := Value) W1 Try.prog 4 selfR)
    have HE0m : Hid (Ext W1 (W1.alloc (.map #[] 0))) := (Ext.refl W1).alloc _
    have hlt0 : Hid (W1.heap.size < (W1.alloc (.map #[] 0)).heap.size) := by rw [Hid];simp
    by_cases hz : a = 0
    ·have hza : (a != 0) = false := by simpa using hz
     have HB8 : Hid (binS 8 a b = bitS p1) := by unfold Hid binS;simp [hp1]
     have HB9 : Hid (binS 9 a b = bitS p2) := by unfold Hid binS;simp [hp2]
     have HB10 : Hid (binS 10 a b = bitS false) := by unfold Hid binS;simp [hza,hpb]
     have HB11 : Hid (binS 11 a b = bitS pb) := by unfold Hid binS;simp [hza,hpb]
     clear hz
     go_upto_region 28 with ((with_reducible show wpList _ _ _ ({ dst := _,op := Op.insert _ _ _ _,type := _,pos := _,after := _,guard := none } :: _) _ _);refine wpList_insert_own _ rfl _ _ _ 26 rfl 4 _ law_bool Try.underlying26 W1.heap.size _ _ rfl hTM0.out (by simp only [maxLen];omega) _ _ _ rfl rfl (key_bool true) ?_;intro w3 hTM hgr3;have HTM := Lib.hid hTM;have HE3 : Hid (Ext W1 w3) := Below.grown HE0m.out hgr3 (Nat.le_of_lt hlt0.out) (fun k e => by cases e;exact Nat.le_refl _);have hz3 := Nat.lt_of_lt_of_le hlt0.out hgr3.size;clear hTM hgr3)
     have hown := Lib.hid (World.ownsMap_made (H := Value) w3 Try.prog 3 selfR)
     have HE := Lib.hid (Ext.trans HE3.out ((Ext.refl w3).alloc (.map #[] 0)))
     have HTM := Lib.hid (HTM.out.kept (ext_grown ((Ext.refl w3).alloc (.map #[] 0)) none) (by simp))
     have hlt : Hid (w3.heap.size < (w3.alloc (.map #[] 0)).heap.size) := by rw [Hid];simp
     go_wp2_with (first
      | ((with_reducible show wpList _ _ _ ({ dst := _,op := Op.insert _ _ _ _,type := _,pos := _,after := _,guard := none } :: _) _ _);refine wpList_insert_own _ rfl _ _ _ 27 rfl 3 _ law_int Try.underlying27 w3.heap.size _ _ rfl hown.out (by simp only [maxLen];omega) _ _ _ rfl rfl (key_int ⟨by decide,by decide⟩) ?_;intro w4 hown1 hgr1;replace HTM := Lib.hid (HTM.out.kept hgr1 (by simp;omega));replace HE := Lib.hid (Below.grown HE.out hgr1 (by have := hlt.out;omega) (fun k e => by cases e;omega));replace hlt := Lib.hid (Nat.lt_of_lt_of_le hlt.out hgr1.size);clear hown;have hown := Lib.hid hown1;clear hown1 hgr1)
      | (at_range;refine wpList_range_own _ rfl _ 27 rfl 3 4 law_int Try.underlying27 selfR w3.heap.size _ _ rfl hown.out ?_;intro w7 hrg7 hgr7 hsz7;have HRG7 := Lib.hid hrg7;replace HTM := Lib.hid (HTM.out.kept hgr7 (by simp));replace HE := Lib.hid (Ext.trans HE.out (show Ext _ w7 from ⟨hgr7.os,hgr7.tape,hgr7.output,hgr7.size,fun i hi => hgr7.block i hi (by simp)⟩));clear hrg7 hgr7 hsz7))
     (try go_frame)
     have HRG8 : Hid (w7.ranges Try.prog 3 selfR w3.heap.size _ _ (wantD p1 p2 false pb) (Maps.has (wantD p1 p2 false pb)) (Maps.size (wantD p1 p2 false pb))) := HRG7.out
     rw [want_size] at HRG8
     go_loopg [16] 4 (fun gg _ wr => ∃ (left : Lit → Bool) (cnt : Nat),cnt ≤ gg ∧ Hid (wr.ranges Try.prog 3 selfR w3.heap.size _ _ (wantD p1 p2 false pb) left cnt) ∧ Hid (∀ kl,left kl = true → Maps.has (wantD p1 p2 false pb) kl = true) ∧ Hid (wr.ownsMap Try.prog 4 selfR W1.heap.size _ truthD) ∧ Hid (Ext W1 wr))
     case atStart => exact ⟨_,4,Nat.le_refl _,HRG8,fun kl h => h,HTM,HE⟩
     case round =>
      obtain ⟨left,cnt,hcnt,HRG,HL,HTM0,HE0'⟩ := hrel
      go_wp2_with (at_next;refine wpList_next_ranges _ rfl _ rfl 3 law_int selfR (int .i64) (fun v => v) (fun key kl hk => by obtain ⟨x,rfl,_⟩ := Maps.keyOf_int_inv Try.underlying3 hk;exact ⟨x,rfl⟩) (fun v y _ => ⟨v,rfl⟩) w3.heap.size _ _ (wantD p1 p2 false pb) left cnt rfl HRG.out ?_ ?_)
      ·intro _ _
       go_wp2_with (go_at_call 4;refine (awake_any _).mono ?_;rintro e w9 ⟨rfl,hb9⟩)
       go_ret
       exact ⟨rfl,HEW.out.trans (HE0'.out.trans hb9)⟩
      ·intro x c kl y ps w8 cnt8 hkey hlk hv hat hrg hlt8 hgr8 hsz8 hen
       obtain ⟨x',hx',hkl,_⟩ := Maps.keyOf_int_inv Try.underlying3 hkey
       injection hx' with _ hx'
       subst hx' hkl
       have hy : y = .held c := by simp only [selfR,Option.some.injEq,Prod.mk.injEq] at hv;exact hv.1.symm
       subst hy
       have hin := want_has _ _ _ _ x (HL.out _ hlk)
       have HTM1 := Lib.hid (HTM0.out.kept hgr8 (by have := hlt.out;simp;omega))
       have HE1 : Hid (Ext W1 w8) := Below.grown HE0'.out hgr8 HE0'.out.size (fun k e => by cases e;have := hlt.out;omega)
       (try dsimp only at hat hen)
       rcases hin with rfl | rfl | rfl | rfl
       ·have hc := (hat (.held (int .i64 0))).symm.trans (want8 p1 p2 false pb)
        simp only [DataW.held.injEq] at hc
        subst hc
        have HC := Lib.hid (fun W => comp_yes (op := 8) (by decide) HNA.out HNB.out (X := bitS p1) HB8.out (by omega) (bitS_num _) W)
        have hbb : (bitS p1 != bitS p1) = false := by simp
        clear hat hkey hv hlk
        go_wp2_with (go_at_call 5;refine (HC.out _).mono ?_;rintro e w9 ⟨rfl,hb9⟩;have hlk9 := truth_look ((HTM1.out.kept (ext_grown hb9 none) (by simp))) p1;have HRG9 := Lib.hid (hrg.kept (ext_grown hb9 none) (by simp) (by simp));have HTM9 := Lib.hid (HTM1.out.kept (ext_grown hb9 none) (by simp));have HE9 := Lib.hid (Ext.trans HE1.out hb9);clear hb9)
        go_roundg cnt8
        case measure => omega
        case rel => exact ⟨_,cnt8,Nat.le_refl _,HRG9,fun kl h => HL.out kl (by simp at h;exact h.1),HTM9,HE9⟩
       ·have hc := (hat (.held (int .i64 0))).symm.trans (want9 p1 p2 false pb)
        simp only [DataW.held.injEq] at hc
        subst hc
        have HC := Lib.hid (fun W => comp_yes (op := 9) (by decide) HNA.out HNB.out (X := bitS p2) HB9.out (by omega) (bitS_num _) W)
        have hbb : (bitS p2 != bitS p2) = false := by simp
        clear hat hkey hv hlk
        go_wp2_with (go_at_call 5;refine (HC.out _).mono ?_;rintro e w9 ⟨rfl,hb9⟩;have hlk9 := truth_look ((HTM1.out.kept (ext_grown hb9 none) (by simp))) p2;have HRG9 := Lib.hid (hrg.kept (ext_grown hb9 none) (by simp) (by simp));have HTM9 := Lib.hid (HTM1.out.kept (ext_grown hb9 none) (by simp));have HE9 := Lib.hid (Ext.trans HE1.out hb9);clear hb9)
        go_roundg cnt8
        case measure => omega
        case rel => exact ⟨_,cnt8,Nat.le_refl _,HRG9,fun kl h => HL.out kl (by simp at h;exact h.1),HTM9,HE9⟩
       ·have hc := (hat (.held (int .i64 0))).symm.trans (want10 p1 p2 false pb)
        simp only [DataW.held.injEq] at hc
        subst hc
        have HC := Lib.hid (fun W => comp_yes (op := 10) (by decide) HNA.out HNB.out (X := bitS false) HB10.out (by omega) (bitS_num _) W)
        have hbb : (bitS false != bitS false) = false := by simp
        clear hat hkey hv hlk
        go_wp2_with (go_at_call 5;refine (HC.out _).mono ?_;rintro e w9 ⟨rfl,hb9⟩;have hlk9 := truth_look ((HTM1.out.kept (ext_grown hb9 none) (by simp))) false;have HRG9 := Lib.hid (hrg.kept (ext_grown hb9 none) (by simp) (by simp));have HTM9 := Lib.hid (HTM1.out.kept (ext_grown hb9 none) (by simp));have HE9 := Lib.hid (Ext.trans HE1.out hb9);clear hb9)
        go_roundg cnt8
        case measure => omega
        case rel => exact ⟨_,cnt8,Nat.le_refl _,HRG9,fun kl h => HL.out kl (by simp at h;exact h.1),HTM9,HE9⟩
       ·have hc := (hat (.held (int .i64 0))).symm.trans (want11 p1 p2 false pb)
        simp only [DataW.held.injEq] at hc
        subst hc
        have HC := Lib.hid (fun W => comp_yes (op := 11) (by decide) HNA.out HNB.out (X := bitS pb) HB11.out (by omega) (bitS_num _) W)
        have hbb : (bitS pb != bitS pb) = false := by simp
        clear hat hkey hv hlk
        go_wp2_with (go_at_call 5;refine (HC.out _).mono ?_;rintro e w9 ⟨rfl,hb9⟩;have hlk9 := truth_look ((HTM1.out.kept (ext_grown hb9 none) (by simp))) pb;have HRG9 := Lib.hid (hrg.kept (ext_grown hb9 none) (by simp) (by simp));have HTM9 := Lib.hid (HTM1.out.kept (ext_grown hb9 none) (by simp));have HE9 := Lib.hid (Ext.trans HE1.out hb9);clear hb9)
        go_roundg cnt8
        case measure => omega
        case rel => exact ⟨_,cnt8,Nat.le_refl _,HRG9,fun kl h => HL.out kl (by simp at h;exact h.1),HTM9,HE9⟩
    ·have hza : (a != 0) = true := by simpa using hz
     have HB8 : Hid (binS 8 a b = bitS p1) := by unfold Hid binS;simp [hp1]
     have HB9 : Hid (binS 9 a b = bitS p2) := by unfold Hid binS;simp [hp2]
     have HB10 : Hid (binS 10 a b = bitS pb) := by unfold Hid binS;simp [hza,hpb]
     have HB11 : Hid (binS 11 a b = bitS true) := by unfold Hid binS;simp [hza,hpb]
     clear hz
     go_upto_region 28 with ((with_reducible show wpList _ _ _ ({ dst := _,op := Op.insert _ _ _ _,type := _,pos := _,after := _,guard := none } :: _) _ _);refine wpList_insert_own _ rfl _ _ _ 26 rfl 4 _ law_bool Try.underlying26 W1.heap.size _ _ rfl hTM0.out (by simp only [maxLen];omega) _ _ _ rfl rfl (key_bool true) ?_;intro w3 hTM hgr3;have HTM := Lib.hid hTM;have HE3 : Hid (Ext W1 w3) := Below.grown HE0m.out hgr3 (Nat.le_of_lt hlt0.out) (fun k e => by cases e;exact Nat.le_refl _);have hz3 := Nat.lt_of_lt_of_le hlt0.out hgr3.size;clear hTM hgr3)
     have hown := Lib.hid (World.ownsMap_made (H := Value) w3 Try.prog 3 selfR)
     have HE := Lib.hid (Ext.trans HE3.out ((Ext.refl w3).alloc (.map #[] 0)))
     have HTM := Lib.hid (HTM.out.kept (ext_grown ((Ext.refl w3).alloc (.map #[] 0)) none) (by simp))
     have hlt : Hid (w3.heap.size < (w3.alloc (.map #[] 0)).heap.size) := by rw [Hid];simp
     go_wp2_with (first
      | ((with_reducible show wpList _ _ _ ({ dst := _,op := Op.insert _ _ _ _,type := _,pos := _,after := _,guard := none } :: _) _ _);refine wpList_insert_own _ rfl _ _ _ 27 rfl 3 _ law_int Try.underlying27 w3.heap.size _ _ rfl hown.out (by simp only [maxLen];omega) _ _ _ rfl rfl (key_int ⟨by decide,by decide⟩) ?_;intro w4 hown1 hgr1;replace HTM := Lib.hid (HTM.out.kept hgr1 (by simp;omega));replace HE := Lib.hid (Below.grown HE.out hgr1 (by have := hlt.out;omega) (fun k e => by cases e;omega));replace hlt := Lib.hid (Nat.lt_of_lt_of_le hlt.out hgr1.size);clear hown;have hown := Lib.hid hown1;clear hown1 hgr1)
      | (at_range;refine wpList_range_own _ rfl _ 27 rfl 3 4 law_int Try.underlying27 selfR w3.heap.size _ _ rfl hown.out ?_;intro w7 hrg7 hgr7 hsz7;have HRG7 := Lib.hid hrg7;replace HTM := Lib.hid (HTM.out.kept hgr7 (by simp));replace HE := Lib.hid (Ext.trans HE.out (show Ext _ w7 from ⟨hgr7.os,hgr7.tape,hgr7.output,hgr7.size,fun i hi => hgr7.block i hi (by simp)⟩));clear hrg7 hgr7 hsz7))
     (try go_frame)
     have HRG8 : Hid (w7.ranges Try.prog 3 selfR w3.heap.size _ _ (wantD p1 p2 pb true) (Maps.has (wantD p1 p2 pb true)) (Maps.size (wantD p1 p2 pb true))) := HRG7.out
     rw [want_size] at HRG8
     go_loopg [16] 4 (fun gg _ wr => ∃ (left : Lit → Bool) (cnt : Nat),cnt ≤ gg ∧ Hid (wr.ranges Try.prog 3 selfR w3.heap.size _ _ (wantD p1 p2 pb true) left cnt) ∧ Hid (∀ kl,left kl = true → Maps.has (wantD p1 p2 pb true) kl = true) ∧ Hid (wr.ownsMap Try.prog 4 selfR W1.heap.size _ truthD) ∧ Hid (Ext W1 wr))
     case atStart => exact ⟨_,4,Nat.le_refl _,HRG8,fun kl h => h,HTM,HE⟩
     case round =>
      obtain ⟨left,cnt,hcnt,HRG,HL,HTM0,HE0'⟩ := hrel
      go_wp2_with (at_next;refine wpList_next_ranges _ rfl _ rfl 3 law_int selfR (int .i64) (fun v => v) (fun key kl hk => by obtain ⟨x,rfl,_⟩ := Maps.keyOf_int_inv Try.underlying3 hk;exact ⟨x,rfl⟩) (fun v y _ => ⟨v,rfl⟩) w3.heap.size _ _ (wantD p1 p2 pb true) left cnt rfl HRG.out ?_ ?_)
      ·intro _ _
       go_wp2_with (go_at_call 4;refine (awake_any _).mono ?_;rintro e w9 ⟨rfl,hb9⟩)
       go_ret
       exact ⟨rfl,HEW.out.trans (HE0'.out.trans hb9)⟩
      ·intro x c kl y ps w8 cnt8 hkey hlk hv hat hrg hlt8 hgr8 hsz8 hen
       obtain ⟨x',hx',hkl,_⟩ := Maps.keyOf_int_inv Try.underlying3 hkey
       injection hx' with _ hx'
       subst hx' hkl
       have hy : y = .held c := by simp only [selfR,Option.some.injEq,Prod.mk.injEq] at hv;exact hv.1.symm
       subst hy
       have hin := want_has _ _ _ _ x (HL.out _ hlk)
       have HTM1 := Lib.hid (HTM0.out.kept hgr8 (by have := hlt.out;simp;omega))
       have HE1 : Hid (Ext W1 w8) := Below.grown HE0'.out hgr8 HE0'.out.size (fun k e => by cases e;have := hlt.out;omega)
       (try dsimp only at hat hen)
       rcases hin with rfl | rfl | rfl | rfl
       ·have hc := (hat (.held (int .i64 0))).symm.trans (want8 p1 p2 pb true)
        simp only [DataW.held.injEq] at hc
        subst hc
        have HC := Lib.hid (fun W => comp_yes (op := 8) (by decide) HNA.out HNB.out (X := bitS p1) HB8.out (by omega) (bitS_num _) W)
        have hbb : (bitS p1 != bitS p1) = false := by simp
        clear hat hkey hv hlk
        go_wp2_with (go_at_call 5;refine (HC.out _).mono ?_;rintro e w9 ⟨rfl,hb9⟩;have hlk9 := truth_look ((HTM1.out.kept (ext_grown hb9 none) (by simp))) p1;have HRG9 := Lib.hid (hrg.kept (ext_grown hb9 none) (by simp) (by simp));have HTM9 := Lib.hid (HTM1.out.kept (ext_grown hb9 none) (by simp));have HE9 := Lib.hid (Ext.trans HE1.out hb9);clear hb9)
        go_roundg cnt8
        case measure => omega
        case rel => exact ⟨_,cnt8,Nat.le_refl _,HRG9,fun kl h => HL.out kl (by simp at h;exact h.1),HTM9,HE9⟩
       ·have hc := (hat (.held (int .i64 0))).symm.trans (want9 p1 p2 pb true)
        simp only [DataW.held.injEq] at hc
        subst hc
        have HC := Lib.hid (fun W => comp_yes (op := 9) (by decide) HNA.out HNB.out (X := bitS p2) HB9.out (by omega) (bitS_num _) W)
        have hbb : (bitS p2 != bitS p2) = false := by simp
        clear hat hkey hv hlk
        go_wp2_with (go_at_call 5;refine (HC.out _).mono ?_;rintro e w9 ⟨rfl,hb9⟩;have hlk9 := truth_look ((HTM1.out.kept (ext_grown hb9 none) (by simp))) p2;have HRG9 := Lib.hid (hrg.kept (ext_grown hb9 none) (by simp) (by simp));have HTM9 := Lib.hid (HTM1.out.kept (ext_grown hb9 none) (by simp));have HE9 := Lib.hid (Ext.trans HE1.out hb9);clear hb9)
        go_roundg cnt8
        case measure => omega
        case rel => exact ⟨_,cnt8,Nat.le_refl _,HRG9,fun kl h => HL.out kl (by simp at h;exact h.1),HTM9,HE9⟩
       ·have hc := (hat (.held (int .i64 0))).symm.trans (want10 p1 p2 pb true)
        simp only [DataW.held.injEq] at hc
        subst hc
        have HC := Lib.hid (fun W => comp_yes (op := 10) (by decide) HNA.out HNB.out (X := bitS pb) HB10.out (by omega) (bitS_num _) W)
        have hbb : (bitS pb != bitS pb) = false := by simp
        clear hat hkey hv hlk
        go_wp2_with (go_at_call 5;refine (HC.out _).mono ?_;rintro e w9 ⟨rfl,hb9⟩;have hlk9 := truth_look ((HTM1.out.kept (ext_grown hb9 none) (by simp))) pb;have HRG9 := Lib.hid (hrg.kept (ext_grown hb9 none) (by simp) (by simp));have HTM9 := Lib.hid (HTM1.out.kept (ext_grown hb9 none) (by simp));have HE9 := Lib.hid (Ext.trans HE1.out hb9);clear hb9)
        go_roundg cnt8
        case measure => omega
        case rel => exact ⟨_,cnt8,Nat.le_refl _,HRG9,fun kl h => HL.out kl (by simp at h;exact h.1),HTM9,HE9⟩
       ·have hc := (hat (.held (int .i64 0))).symm.trans (want11 p1 p2 pb true)
        simp only [DataW.held.injEq] at hc
        subst hc
        have HC := Lib.hid (fun W => comp_yes (op := 11) (by decide) HNA.out HNB.out (X := bitS true) HB11.out (by omega) (bitS_num _) W)
        have hbb : (bitS true != bitS true) = false := by simp
        clear hat hkey hv hlk
        go_wp2_with (go_at_call 5;refine (HC.out _).mono ?_;rintro e w9 ⟨rfl,hb9⟩;have hlk9 := truth_look ((HTM1.out.kept (ext_grown hb9 none) (by simp))) true;have HRG9 := Lib.hid (hrg.kept (ext_grown hb9 none) (by simp) (by simp));have HTM9 := Lib.hid (HTM1.out.kept (ext_grown hb9 none) (by simp));have HE9 := Lib.hid (Ext.trans HE1.out hb9);clear hb9)
        go_roundg cnt8
        case measure => omega
        case rel => exact ⟨_,cnt8,Nat.le_refl _,HRG9,fun kl h => HL.out kl (by simp at h;exact h.1),HTM9,HE9⟩
theorem lawArith_any (a b : Int) (w : World) (_ : InR a) (_ : InR b) : Calls Try.prog 3 #[int .i64 a,int .i64 b] w fun e w' => e = .returned (.bool true) ∧ Ext w w' := by
 by_cases hn : numB a = true ∧ numB b = true
 ·exact lawArith_in a b w hn.1 hn.2
 ·exact lawArith_out a b w hn
end Go.Proofs.Ytcjjoabofecjmaa

