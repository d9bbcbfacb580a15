/- A part of the proof: The reference of layer 13; The reference of layer 13. -/
import Derived.Test.YtcjjoabofecjmaaGreatQ31
set_option linter.unusedVariables false
set_option linter.unusedSimpArgs false
set_option maxHeartbeats 16000000
namespace Go.Proofs.YtcjjoabofecjmaaGreat
open Go.RowKit
open Go.Value (int)
def rargsS (p : Prg) (f : Fnc) (what : Int) (x : Ins) : Int := if argsS p f what x ≠ 0 then argsS p f what x else if clashS x = true then 16 else 0
def ranyOut (f : Fnc) (l : List Int) : Bool := l.any fun n => !regB f n
theorem clash_plain {x : Ins} (h : x.op ≠ 67) : clashS x = ((x.op == 65) && (x.a == x.c)) := by
 unfold clashS
 simp [h]
set_option maxRecDepth 8000 in
theorem rargs_dot (p : Prg) (f : Fnc) (x : Ins) (V U : Value) (A : Option Addr) (n c : Nat) (w : World) (hV : RPrg w p V) (hU : RFn w f U) (hx : RSl 1 RInt w A n x.args) (ho : x.op ≠ 67) :
  Calls Tryz.prog 159 #[V,U,.int .u8 46,.agg #[int .i64 x.op,int .i64 x.a,int .i64 x.b,int .i64 x.c,.slice A n c]] w fun e w' => e = .returned (int .i64 (rargsS p f 0 x)) ∧ Ext w w' := by
 have HL := Lib.hid hx.len
 have HCl := Lib.hid (clash_plain ho)
 obtain ⟨Af,nf,cf,Ao,no,co,Av,nv,cv,rfl,_⟩ := hV
 obtain ⟨Ac,nc,cc,rfl,_⟩ := hU
 clear hx ho
 rcases Nat.eq_zero_or_pos n with h0 | h0
 ·subst h0
  have HS : Hid (rargsS p f 0 x = if clashS x = true then 16 else 0) := by unfold Hid rargsS argsS;simp [← HL.out]
  rw [HCl.out] at HS
  clear HCl HL
  obtain ⟨q1,h1⟩ : ∃ q,(x.op == 65) = q := ⟨_,rfl⟩
  obtain ⟨q2,h2⟩ : ∃ q,(x.a == x.c) = q := ⟨_,rfl⟩
  rw [h1,h2] at HS
  cases q1 <;> cases q2
  all_goals
  go_enter Tryz.func159,Tryz.ntmps159
  go_wp2
  go_loopg [10,11] 0 (fun _ s10 s11 wr => s10 = .int .i64 0 ∧ s11 = .int .i64 0 ∧ wr = ((w.alloc (.cells #[.slice Af nf cf,.slice Ao no co,.slice Av nv cv] 26)).alloc (.cells #[.string f.name,int .i64 f.params,int .i64 f.regs,int .i64 f.prio,.bool f.cleanup,.slice Ac nc cc] 76)).alloc (.cells #[int .i64 x.op,int .i64 x.a,int .i64 x.b,int .i64 x.c,.slice A 0 c] 37))
  case atStart => exact ⟨rfl,rfl,rfl⟩
  case round =>
   obtain ⟨rfl,rfl,rfl⟩ := hrel
   go_wp2
   go_ret
   exact ⟨ret_int (by rw [HS.out];rfl),xt⟩
 ·have h1 : (0 : Int) < (n : Int) := by omega
  have HS : Hid (rargsS p f 0 x = 1) := by unfold Hid rargsS argsS;simp [← HL.out,h0]
  go_enter Tryz.func159,Tryz.ntmps159
  go_wp2
  go_ret
  exact ⟨ret_int HS.out.symm,xt⟩
theorem rany_drop {f : Fnc} {l : List Int} {k : Nat} {y : Int} (h : l[k]? = some y) : ranyOut f (l.drop k) = (!regB f y || ranyOut f (l.drop (k + 1))) := by
 obtain ⟨h1,h2⟩ := List.getElem?_eq_some_iff.1 h
 rw [List.drop_eq_getElem_cons h1,h2]
 rfl
set_option maxRecDepth 8000 in
theorem rargs_cnt (p : Prg) (f : Fnc) (x : Ins) (V U : Value) (A : Option Addr) (n c : Nat) (w : World) (hV : RPrg w p V) (hU : RFn w f U) (hr : 0 ≤ f.regs ∧ f.regs ≤ 32) (hx : RSl 1 RInt w A n x.args) (ho : x.op ≠ 67) (hb : 0 ≤ x.b ∧ x.b < (p.funcs.length : Int)) :
  Calls Tryz.prog 159 #[V,U,.int .u8 112,.agg #[int .i64 x.op,int .i64 x.a,int .i64 x.b,int .i64 x.c,.slice A n c]] w fun e w' => e = .returned (int .i64 (rargsS p f 1 x)) ∧ Ext w w' := by
 have HL := Lib.hid hx.len
 have HX := Lib.hid hx
 have HCl := Lib.hid (clash_plain ho)
 have hle := hx.le
 have hwr := wr_sub (x := f.regs) (by omega)
 obtain ⟨Af,nf,cf,Ao,no,co,Av,nv,cv,rfl,hF,_⟩ := hV
 obtain ⟨Ac,nc,cc,rfl,_⟩ := hU
 obtain ⟨kb,hkb⟩ : ∃ kb : Nat,x.b = (kb : Int) := ⟨x.b.toNat,by omega⟩
 obtain ⟨g,hgk⟩ : ∃ g,p.funcs[kb]? = some g := ⟨_,List.getElem?_eq_getElem (by omega)⟩
 have hk2 : p.funcs[x.b.toNat]? = some g := by rw [hkb,Int.toNat_natCast];exact hgk
 obtain ⟨bF,offF,Ag,ng,cg,rfl,hbF,_,_,_,_,_,_,p1,_,_,_,_⟩ := hF.fnc hgk
 have hkl : (kb : Int) < (nf : Int) := by have := hF.len;omega
 have hk0 : (0 : Int) ≤ (kb : Int) := by omega
 have hnfl := hF.le
 clear hF hgk hb
 have HA : argsS p f 1 x = if (n : Int) ≠ g.params then 10 else if ranyOut f x.args = true then 2 else 0 := by simp [argsS,wantS,ranyOut,hk2,HL.out]
 by_cases hn : (n : Int) = g.params
 rotate_left
 ·have HS : Hid (rargsS p f 1 x = 10) := by
   unfold Hid rargsS
   rw [HA,if_pos hn];rfl
  have hnb : ((n : Int) != g.params) = true := by simpa using hn
  rw [hkb]
  clear hn hx ho HCl hr HA hk2 hkb
  go_enter Tryz.func159,Tryz.ntmps159
  go_wp2
  go_ret
  exact ⟨ret_int HS.out.symm,xt⟩
 have HS : Hid (rargsS p f 1 x = if ranyOut f x.args = true then 2 else if clashS x = true then 16 else 0) := by
  unfold Hid rargsS
  rw [HA.trans (if_neg (fun h => h hn))]
  cases ranyOut f x.args <;> simp
 have hnb : ((n : Int) != g.params) = false := by simp [hn]
 rw [HCl.out] at HS
 obtain ⟨q1,h1⟩ : ∃ q,(x.op == 65) = q := ⟨_,rfl⟩
 obtain ⟨q2,h2⟩ : ∃ q,(x.a == x.c) = q := ⟨_,rfl⟩
 rw [h1,h2] at HS
 rw [hkb]
 clear hn hx ho HCl hr HA hk2 hkb
 go_enter Tryz.func159,Tryz.ntmps159
 go_wp2
 refine wp_hid2 ?_
 intro W0 HW0
 have HE : Hid (Ext w W0) := by rw [HW0.out];exact Lib.hid xt
 have g2 : W0.cell? ⟨w.heap.size + 1,2,none⟩ = some (int .i64 f.regs) := by rw [HW0.out];simp [go_sem]
 have k0 : W0.cell? ⟨w.heap.size + 1 + 1,0,none⟩ = some (int .i64 x.op) := by rw [HW0.out];simp [go_sem]
 have k1 : W0.cell? ⟨w.heap.size + 1 + 1,1,none⟩ = some (int .i64 x.a) := by rw [HW0.out];simp [go_sem]
 have k3 : W0.cell? ⟨w.heap.size + 1 + 1,3,none⟩ = some (int .i64 x.c) := by rw [HW0.out];simp [go_sem]
 have k4 : W0.cell? ⟨w.heap.size + 1 + 1,4,none⟩ = some (.slice A n c) := by rw [HW0.out];simp [go_sem]
 have z1 : w.heap.size + 1 < W0.heap.size := lt_of_cell g2
 have z2 : w.heap.size + 1 + 1 < W0.heap.size := lt_of_cell k0
 clear HW0
 go_loopg [10,11] n (fun gg s10 s11 wr => ∃ k : Nat,k ≤ n ∧ n - k ≤ gg ∧ s10 = .int .i64 0 ∧ s11 = .int .i64 k ∧ Hid (Ext W0 wr) ∧ Hid (ranyOut f x.args = ranyOut f (x.args.drop k)))
 case atStart => exact ⟨0,Nat.zero_le _,by omega,rfl,rfl,Ext.refl _,rfl⟩
 case round =>
  obtain ⟨k,hk,hg,rfl,rfl,HW,HI⟩ := hrel
  have hW := HW.out
  replace g2 := hW.cell g2
  replace k0 := hW.cell k0
  replace k1 := hW.cell k1
  replace k3 := hW.cell k3
  replace k4 := hW.cell k4
  have hsz := hW.size
  by_cases hlt : k < n
  ·have hltz : (k : Int) < (n : Int) := by omega
   obtain ⟨y,hy⟩ : ∃ y,x.args[k]? = some y := ⟨_,List.getElem?_eq_getElem (by have := HL.out;omega)⟩
   obtain ⟨b2,off2,rfl,hb2,_,cy⟩ := HX.out.int hy
   replace cy := hW.cell (HE.out.cell cy)
   have zb := lt_of_cell cy
   obtain ⟨q,hq⟩ : ∃ q,inB y 0 (f.regs - 1) = q := ⟨_,rfl⟩
   have HB := Lib.hid (fun W => between_any y 0 (f.regs - 1) W)
   have HD := Lib.hid (rany_drop (f := f) hy)
   rw [hq] at HB
   have HQ : Hid (regB f y = q) := hq
   clear hq hy
   cases q with
   | false =>
    go_wp2
    (refine wp_region_quiet_below (by kernel_rfl) (by kernel_rfl) ?_;(repeat (go_big_quiet_step ((go_at_call 120;exact quiet_same (HB.out _)))));refine wpQuiet_nil fun w1 h1 => ?_;obtain ⟨hc,hf,hs,he⟩ := eu (w := wr) h1 xt;clear h1;(try simp only [sA,sC,sD,sN] at hs))
    go_wp2
    go_ret
    exact ⟨ret_int (by rw [HS.out,HI.out,HD.out,HQ.out];rfl),(HE.out.trans HW.out).trans he⟩
   | true =>
    go_wp2
    (refine wp_region_quiet_below (by kernel_rfl) (by kernel_rfl) ?_;(repeat (go_big_quiet_step ((go_at_call 120;exact quiet_same (HB.out _)))));refine wpQuiet_nil fun w1 h1 => ?_;obtain ⟨hc,hf,hs,he⟩ := eu (w := wr) h1 xt;clear h1;(try simp only [sA,sC,sD,sN] at hs))
    go_wp2
    go_roundg (n - (k + 1))
    case measure => omega
    case rel => exact ⟨k + 1,by omega,by omega,rfl,by go_num,Ext.trans HW.out he,by rw [Hid,HI.out,HD.out,HQ.out];rfl⟩
  ·have hltz : ¬ (k : Int) < (n : Int) := by omega
   have hdr : Hid (ranyOut f x.args = false) := by rw [Hid,HI.out,List.drop_eq_nil_of_le (by have := HL.out;omega)];rfl
   cases q1 <;> cases q2
   all_goals
    go_wp2
    go_ret
    exact ⟨ret_int (by rw [HS.out,hdr.out];rfl),HE.out.trans HW.out⟩
set_option maxRecDepth 8000 in
theorem rargs_two (p : Prg) (f : Fnc) (x : Ins) (V U : Value) (A : Option Addr) (n c : Nat) (w : World) (hV : RPrg w p V) (hU : RFn w f U) (hr : 0 ≤ f.regs ∧ f.regs ≤ 32) (hx : RSl 1 RInt w A n x.args) (ho : x.op ≠ 67) :
  Calls Tryz.prog 159 #[V,U,.int .u8 50,.agg #[int .i64 x.op,int .i64 x.a,int .i64 x.b,int .i64 x.c,.slice A n c]] w fun e w' => e = .returned (int .i64 (rargsS p f 2 x)) ∧ Ext w w' := by
 have HL := Lib.hid hx.len
 have HX := Lib.hid hx
 have HCl := Lib.hid (clash_plain ho)
 have hle := hx.le
 have hwr := wr_sub (x := f.regs) (by omega)
 obtain ⟨Af,nf,cf,Ao,no,co,Av,nv,cv,rfl,hF,_⟩ := hV
 obtain ⟨Ac,nc,cc,rfl,_⟩ := hU
 have HA : argsS p f 2 x = if (n : Int) ≠ 2 then 10 else if ranyOut f x.args = true then 2 else 0 := by simp [argsS,wantS,ranyOut,HL.out]
 by_cases hn : (n : Int) = 2
 rotate_left
 ·have HS : Hid (rargsS p f 2 x = 10) := by
   unfold Hid rargsS
   rw [HA,if_pos hn];rfl
  have hnb : ((n : Int) != 2) = true := by simpa using hn
  clear hn hx ho HCl hr HA
  go_enter Tryz.func159,Tryz.ntmps159
  go_wp2
  go_ret
  exact ⟨ret_int HS.out.symm,xt⟩
 have HS : Hid (rargsS p f 2 x = if ranyOut f x.args = true then 2 else if clashS x = true then 16 else 0) := by
  unfold Hid rargsS
  rw [HA.trans (if_neg (fun h => h hn))]
  cases ranyOut f x.args <;> simp
 have hnb : ((n : Int) != 2) = false := by simp [hn]
 rw [HCl.out] at HS
 obtain ⟨q1,h1⟩ : ∃ q,(x.op == 65) = q := ⟨_,rfl⟩
 obtain ⟨q2,h2⟩ : ∃ q,(x.a == x.c) = q := ⟨_,rfl⟩
 rw [h1,h2] at HS
 clear hn hx ho HCl hr HA
 go_enter Tryz.func159,Tryz.ntmps159
 go_wp2
 refine wp_hid2 ?_
 intro W0 HW0
 have HE : Hid (Ext w W0) := by rw [HW0.out];exact Lib.hid xt
 have g2 : W0.cell? ⟨w.heap.size + 1,2,none⟩ = some (int .i64 f.regs) := by rw [HW0.out];simp [go_sem]
 have k0 : W0.cell? ⟨w.heap.size + 1 + 1,0,none⟩ = some (int .i64 x.op) := by rw [HW0.out];simp [go_sem]
 have k1 : W0.cell? ⟨w.heap.size + 1 + 1,1,none⟩ = some (int .i64 x.a) := by rw [HW0.out];simp [go_sem]
 have k3 : W0.cell? ⟨w.heap.size + 1 + 1,3,none⟩ = some (int .i64 x.c) := by rw [HW0.out];simp [go_sem]
 have k4 : W0.cell? ⟨w.heap.size + 1 + 1,4,none⟩ = some (.slice A n c) := by rw [HW0.out];simp [go_sem]
 have z1 : w.heap.size + 1 < W0.heap.size := lt_of_cell g2
 have z2 : w.heap.size + 1 + 1 < W0.heap.size := lt_of_cell k0
 clear HW0
 go_loopg [10,11] n (fun gg s10 s11 wr => ∃ k : Nat,k ≤ n ∧ n - k ≤ gg ∧ s10 = .int .i64 0 ∧ s11 = .int .i64 k ∧ Hid (Ext W0 wr) ∧ Hid (ranyOut f x.args = ranyOut f (x.args.drop k)))
 case atStart => exact ⟨0,Nat.zero_le _,by omega,rfl,rfl,Ext.refl _,rfl⟩
 case round =>
  obtain ⟨k,hk,hg,rfl,rfl,HW,HI⟩ := hrel
  have hW := HW.out
  replace g2 := hW.cell g2
  replace k0 := hW.cell k0
  replace k1 := hW.cell k1
  replace k3 := hW.cell k3
  replace k4 := hW.cell k4
  have hsz := hW.size
  by_cases hlt : k < n
  ·have hltz : (k : Int) < (n : Int) := by omega
   obtain ⟨y,hy⟩ : ∃ y,x.args[k]? = some y := ⟨_,List.getElem?_eq_getElem (by have := HL.out;omega)⟩
   obtain ⟨b2,off2,rfl,hb2,_,cy⟩ := HX.out.int hy
   replace cy := hW.cell (HE.out.cell cy)
   have zb := lt_of_cell cy
   obtain ⟨q,hq⟩ : ∃ q,inB y 0 (f.regs - 1) = q := ⟨_,rfl⟩
   have HB := Lib.hid (fun W => between_any y 0 (f.regs - 1) W)
   have HD := Lib.hid (rany_drop (f := f) hy)
   rw [hq] at HB
   have HQ : Hid (regB f y = q) := hq
   clear hq hy
   cases q with
   | false =>
    go_wp2
    (refine wp_region_quiet_below (by kernel_rfl) (by kernel_rfl) ?_;(repeat (go_big_quiet_step ((go_at_call 120;exact quiet_same (HB.out _)))));refine wpQuiet_nil fun w1 h1 => ?_;obtain ⟨hc,hf,hs,he⟩ := eu (w := wr) h1 xt;clear h1;(try simp only [sA,sC,sD,sN] at hs))
    go_wp2
    go_ret
    exact ⟨ret_int (by rw [HS.out,HI.out,HD.out,HQ.out];rfl),(HE.out.trans HW.out).trans he⟩
   | true =>
    go_wp2
    (refine wp_region_quiet_below (by kernel_rfl) (by kernel_rfl) ?_;(repeat (go_big_quiet_step ((go_at_call 120;exact quiet_same (HB.out _)))));refine wpQuiet_nil fun w1 h1 => ?_;obtain ⟨hc,hf,hs,he⟩ := eu (w := wr) h1 xt;clear h1;(try simp only [sA,sC,sD,sN] at hs))
    go_wp2
    go_roundg (n - (k + 1))
    case measure => omega
    case rel => exact ⟨k + 1,by omega,by omega,rfl,by go_num,Ext.trans HW.out he,by rw [Hid,HI.out,HD.out,HQ.out];rfl⟩
  ·have hltz : ¬ (k : Int) < (n : Int) := by omega
   have hdr : Hid (ranyOut f x.args = false) := by rw [Hid,HI.out,List.drop_eq_nil_of_le (by have := HL.out;omega)];rfl
   cases q1 <;> cases q2
   all_goals
    go_wp2
    go_ret
    exact ⟨ret_int (by rw [HS.out,hdr.out];rfl),HE.out.trans HW.out⟩
theorem cases_at {p : Prg} {f : Fnc} {l : List Int} {m j cnt : Nat} (hj : j < m) : casesFrom p f l (List.range' j (m - j)) cnt = if caseAt p f l j ≠ 0 then caseAt p f l j else casesFrom p f l (List.range' (j + 1) (m - (j + 1))) (cnt + dflt l j) := by
 rw [show m - j = (m - (j + 1)) + 1 by omega,List.range'_succ]
 rfl
set_option maxRecDepth 8000 in
theorem rargs_sel (p : Prg) (f : Fnc) (x : Ins) (V U : Value) (A : Option Addr) (n c : Nat) (w : World) (hV : RPrg w p V) (hU : RFn w f U) (hr : 0 ≤ f.regs ∧ f.regs ≤ 32) (hx : RSl 1 RInt w A n x.args) (ho : x.op = 67) :
  Calls Tryz.prog 159 #[V,U,.int .u8 115,.agg #[int .i64 x.op,int .i64 x.a,int .i64 x.b,int .i64 x.c,.slice A n c]] w fun e w' => e = .returned (int .i64 (rargsS p f 3 x)) ∧ Ext w w' := by
 have HL := Lib.hid hx.len
 have HX := Lib.hid hx
 have HCl : Hid (clashS x = ((x.a == x.b) || ((x.a == x.c) || (x.b == x.c)))) := by unfold Hid clashS;simp [ho,Bool.or_assoc]
 have hle := hx.le
 have HVV := Lib.hid hV
 have HUU := Lib.hid hU
 have HR := Lib.hid hr
 obtain ⟨Af,nf,cf,Ao,no,co,Av,nv,cv,rfl,_⟩ := hV
 obtain ⟨Ac,nc,cc,rfl,_⟩ := hU
 have HS : Hid (rargsS p f 3 x = if casesS p f x.args ≠ 0 then casesS p f x.args else if clashS x = true then 16 else 0) := by unfold Hid rargsS argsS;rfl
 by_cases hn : n = 0 ∨ n % 3 ≠ 0 ∨ 18 < n
 ·have hcs : casesS p f x.args = 10 := by unfold casesS;rw [← HL.out,if_pos hn]
  rw [hcs] at HS
  clear hr hx ho HCl hcs
  by_cases h0 : n = 0
  ·subst h0
   go_enter Tryz.func159,Tryz.ntmps159
   go_wp2
   go_ret
   exact ⟨ret_int HS.out.symm,xt⟩
  have h0b : ((n : Int) == 0) = false := beq_eq_false_iff_ne.2 (by omega)
  by_cases h3 : n % 3 = 0
  ·have h18 : (18 : Int) < (n : Int) := by omega
   have hrm : (((n : Int) % 3) != 0) = false := by simp;omega
   go_enter Tryz.func159,Tryz.ntmps159
   go_wp2
   go_ret
   exact ⟨ret_int HS.out.symm,xt⟩
  ·have hrm : (((n : Int) % 3) != 0) = true := by simp;omega
   go_enter Tryz.func159,Tryz.ntmps159
   go_wp2
   go_ret
   exact ⟨ret_int HS.out.symm,xt⟩
 obtain ⟨m,hm⟩ : ∃ m,n = 3 * m := ⟨n / 3,by omega⟩
 have hm0 : 0 < m := by omega
 have hm6 : m ≤ 6 := by omega
 have h0b : ((n : Int) == 0) = false := beq_eq_false_iff_ne.2 (by omega)
 have hrm : (((n : Int) % 3) != 0) = false := by simp;omega
 have h18 : ¬ (18 : Int) < (n : Int) := by omega
 have HCs : Hid (casesS p f x.args = casesFrom p f x.args (List.range' 0 (m - 0)) 0) := by
  unfold Hid casesS
  rw [← HL.out,if_neg hn,List.range_eq_range',show n / 3 = m - 0 by omega]
 have HM := Lib.hid hm
 obtain ⟨q1,hq1⟩ : ∃ q,(x.a == x.b) = q := ⟨_,rfl⟩
 obtain ⟨q2,hq2⟩ : ∃ q,(x.a == x.c) = q := ⟨_,rfl⟩
 obtain ⟨q3,hq3⟩ : ∃ q,(x.b == x.c) = q := ⟨_,rfl⟩
 rw [hq1,hq2,hq3] at HCl
 have ho65 : (x.op == 65) = false := by rw [ho];rfl
 clear hn hx ho hr hm
 go_enter Tryz.func159,Tryz.ntmps159
 go_wp2
 refine wp_hid2 ?_
 intro W0 HW0
 have HE : Hid (Ext w W0) := by rw [HW0.out];exact Lib.hid xt
 have e0 : W0.cell? ⟨w.heap.size,0,none⟩ = some (.slice Af nf cf) := by rw [HW0.out];simp [go_sem]
 have e1 : W0.cell? ⟨w.heap.size,1,none⟩ = some (.slice Ao no co) := by rw [HW0.out];simp [go_sem]
 have e2 : W0.cell? ⟨w.heap.size,2,none⟩ = some (.slice Av nv cv) := by rw [HW0.out];simp [go_sem]
 have g0 : W0.cell? ⟨w.heap.size + 1,0,none⟩ = some (.string f.name) := by rw [HW0.out];simp [go_sem]
 have g1 : W0.cell? ⟨w.heap.size + 1,1,none⟩ = some (int .i64 f.params) := by rw [HW0.out];simp [go_sem]
 have g2 : W0.cell? ⟨w.heap.size + 1,2,none⟩ = some (int .i64 f.regs) := by rw [HW0.out];simp [go_sem]
 have g3 : W0.cell? ⟨w.heap.size + 1,3,none⟩ = some (int .i64 f.prio) := by rw [HW0.out];simp [go_sem]
 have g4 : W0.cell? ⟨w.heap.size + 1,4,none⟩ = some (.bool f.cleanup) := by rw [HW0.out];simp [go_sem]
 have g5 : W0.cell? ⟨w.heap.size + 1,5,none⟩ = some (.slice Ac nc cc) := by rw [HW0.out];simp [go_sem]
 have k0 : W0.cell? ⟨w.heap.size + 1 + 1,0,none⟩ = some (int .i64 x.op) := by rw [HW0.out];simp [go_sem]
 have k1 : W0.cell? ⟨w.heap.size + 1 + 1,1,none⟩ = some (int .i64 x.a) := by rw [HW0.out];simp [go_sem]
 have k2 : W0.cell? ⟨w.heap.size + 1 + 1,2,none⟩ = some (int .i64 x.b) := by rw [HW0.out];simp [go_sem]
 have k3 : W0.cell? ⟨w.heap.size + 1 + 1,3,none⟩ = some (int .i64 x.c) := by rw [HW0.out];simp [go_sem]
 have k4 : W0.cell? ⟨w.heap.size + 1 + 1,4,none⟩ = some (.slice A n c) := by rw [HW0.out];simp [go_sem]
 have z0 : w.heap.size < W0.heap.size := lt_of_cell e0
 have z1 : w.heap.size + 1 < W0.heap.size := lt_of_cell g2
 have z2 : w.heap.size + 1 + 1 < W0.heap.size := lt_of_cell k0
 clear HW0
 go_loopg [10,11] n (fun gg s10 s11 wr => ∃ k cnt : Nat,k ≤ n ∧ n - k ≤ gg ∧ s10 = .int .i64 cnt ∧ s11 = .int .i64 k ∧ cnt ≤ k ∧ Hid (Ext W0 wr) ∧ Hid (casesS p f x.args = casesFrom p f x.args (List.range' ((k + 2) / 3) (m - (k + 2) / 3)) cnt))
 case atStart => exact ⟨0,0,Nat.zero_le _,by omega,rfl,rfl,Nat.le_refl _,Ext.refl _,HCs.out⟩
 case round =>
  obtain ⟨k,cnt,hk,hg,rfl,rfl,hcnt,HW,HI⟩ := hrel
  have hW := HW.out
  replace e0 := hW.cell e0
  replace e1 := hW.cell e1
  replace e2 := hW.cell e2
  replace g0 := hW.cell g0
  replace g1 := hW.cell g1
  replace g2 := hW.cell g2
  replace g3 := hW.cell g3
  replace g4 := hW.cell g4
  replace g5 := hW.cell g5
  replace k0 := hW.cell k0
  replace k1 := hW.cell k1
  replace k2 := hW.cell k2
  replace k3 := hW.cell k3
  replace k4 := hW.cell k4
  have hsz := hW.size
  have hwk : IntKind.i64.wrap ((k : Int) + 1) = ((k + 1 : Nat) : Int) := by rw [IntWalk.i64_in _ (by have := HM.out;omega)];omega
  by_cases hlt : k < n
  ·have hltz : (k : Int) < (n : Int) := by omega
   by_cases hk3 : k % 3 = 0
   rotate_left
   ·have hkb : (((k : Int) % 3) != 0) = true := by simp;omega
    have HK3 := Lib.hid hk3
    clear hk3
    go_wp2
    go_roundg (n - (k + 1))
    case measure => omega
    case rel => exact ⟨k + 1,cnt,by omega,by omega,rfl,by go_num,by omega,HW.out,by rw [Hid,HI.out,show (k + 1 + 2) / 3 = (k + 2) / 3 by have := HK3.out;omega]⟩
   have hkb : (((k : Int) % 3) != 0) = false := by simp;omega
   obtain ⟨j,hj⟩ : ∃ j,k = 3 * j := ⟨k / 3,by omega⟩
   have hjm : j < m := by have := HM.out;omega
   have HJ : Hid ((k + 2) / 3 = j ∧ (k + 1 + 2) / 3 = j + 1) := by constructor <;> omega
   obtain ⟨y0,hy0⟩ : ∃ y,x.args[k]? = some y := ⟨_,List.getElem?_eq_getElem (by have := HL.out;omega)⟩
   obtain ⟨y1,hy1⟩ : ∃ y,x.args[k + 1]? = some y := ⟨_,List.getElem?_eq_getElem (by have := HL.out;have := HM.out;omega)⟩
   obtain ⟨y2,hy2⟩ : ∃ y,x.args[k + 2]? = some y := ⟨_,List.getElem?_eq_getElem (by have := HL.out;have := HM.out;omega)⟩
   obtain ⟨b2,off2,rfl,hb2,_,cy0⟩ := HX.out.int hy0
   obtain ⟨b3,off3,eA,_,_,cy1⟩ := HX.out.int hy1
   obtain ⟨b4,off4,eB,_,_,cy2⟩ := HX.out.int hy2
   cases eA
   cases eB
   replace cy0 := hW.cell (HE.out.cell cy0)
   replace cy1 := hW.cell (HE.out.cell cy1)
   replace cy2 := hW.cell (HE.out.cell cy2)
   have zb := lt_of_cell cy0
   have hgd : ∀ (i : Nat) (y : Int),x.args[i]? = some y → x.args.getD i 0 = y := fun i y h => by rw [List.getD_eq_getElem?_getD,h];rfl
   have HAt : Hid (caseAt p f x.args j = caseS p f y0 y1 y2) := by
    unfold Hid caseAt
    rw [show j * 3 = k by omega,hgd k y0 hy0,hgd (k + 1) y1 hy1,hgd (k + 2) y2 hy2]
   have HDf : Hid (dflt x.args j = if y0 = 3 then 1 else 0) := by
    unfold Hid dflt
    rw [show j * 3 = k by omega,hgd k y0 hy0]
   obtain ⟨e,he⟩ : ∃ e,caseS p f y0 y1 y2 = e := ⟨_,rfl⟩
   have HCa : Hid (∀ W,Ext wr W → Calls Tryz.prog 169 #[.agg #[.slice Af nf cf,.slice Ao no co,.slice Av nv cv],.agg #[.string f.name,int .i64 f.params,int .i64 f.regs,int .i64 f.prio,.bool f.cleanup,.slice Ac nc cc],int .i64 y0,int .i64 y1,int .i64 y2] W fun e' w' => e' = .returned (int .i64 e) ∧ Ext W w') := fun W hE => by
    rw [← he];exact rcase_any p f y0 y1 y2 _ _ W (HVV.out.mono ((HE.out.trans hW).trans hE)) (HUU.out.mono ((HE.out.trans hW).trans hE)) HR.out
   rw [he] at HAt
   have HC1 := Lib.hid (cases_at (p := p) (f := f) (l := x.args) (cnt := cnt) hjm)
   rw [HAt.out,HDf.out] at HC1
   have hkk : Hid (k = 3 * j) := hj
   clear he hj hjm hy0 hy1 hy2 hgd HAt HDf hk3
   have hw1 : IntKind.i64.wrap ((k : Int) + 1) = ((k + 1 : Nat) : Int) := hwk
   have hw2 : IntKind.i64.wrap ((k : Int) + 2) = ((k + 2 : Nat) : Int) := by rw [IntWalk.i64_in _ (by have := HM.out;omega)];omega
   have hl1 : ((k + 1 : Nat) : Int) < (n : Int) := by have := HM.out;have := hkk.out;omega
   have hl2 : ((k + 2 : Nat) : Int) < (n : Int) := by have := HM.out;have := hkk.out;omega
   by_cases hez : e = 0
   ·subst hez
    by_cases hy3 : y0 = 3
    ·subst hy3
     go_wp2
     (refine wp_region_quiet_below (by kernel_rfl) (by kernel_rfl) ?_;(repeat (go_big_quiet_step ((go_at_call 169;exact quiet_ext (HCa.out _ xt)))));refine wpQuiet_nil fun w1 h1 => ?_;obtain ⟨hc,hf,hs,he⟩ := eu (w := wr) h1 xt;clear h1;(try simp only [sA,sC,sD,sN] at hs))
     go_wp2
     go_roundg (n - (k + 1))
     case measure => omega
     case rel => exact ⟨k + 1,cnt + 1,by omega,by omega,by go_num,by go_num,by omega,Ext.trans HW.out he,by rw [Hid,HI.out,HJ.out.1,HJ.out.2,HC1.out];rfl⟩
    ·have hy3b : (y0 == 3) = false := beq_eq_false_iff_ne.2 hy3
     rw [if_neg hy3] at HC1
     clear hy3
     go_wp2
     (refine wp_region_quiet_below (by kernel_rfl) (by kernel_rfl) ?_;(repeat (go_big_quiet_step ((go_at_call 169;exact quiet_ext (HCa.out _ xt)))));refine wpQuiet_nil fun w1 h1 => ?_;obtain ⟨hc,hf,hs,he⟩ := eu (w := wr) h1 xt;clear h1;(try simp only [sA,sC,sD,sN] at hs))
     go_wp2
     go_roundg (n - (k + 1))
     case measure => omega
     case rel => exact ⟨k + 1,cnt,by omega,by omega,rfl,by go_num,by omega,Ext.trans HW.out he,by rw [Hid,HI.out,HJ.out.1,HJ.out.2,HC1.out];rfl⟩
   ·have hezb : (e != 0) = true := by simpa using hez
    rw [if_pos hez] at HC1
    have HEz := Lib.hid hez
    clear hez
    go_wp2
    (refine wp_region_quiet_below (by kernel_rfl) (by kernel_rfl) ?_;(repeat (go_big_quiet_step ((go_at_call 169;exact quiet_ext (HCa.out _ xt)))));refine wpQuiet_nil fun w1 h1 => ?_;obtain ⟨hc,hf,hs,he⟩ := eu (w := wr) h1 xt;clear h1;(try simp only [sA,sC,sD,sN] at hs))
    go_wp2
    go_ret
    exact ⟨ret_int (by rw [HS.out,HI.out,HJ.out.1,HC1.out,if_pos HEz.out]),(HE.out.trans HW.out).trans he⟩
  ·have hltz : ¬ (k : Int) < (n : Int) := by omega
   obtain rfl : k = n := by omega
   have hfin : Hid (casesS p f x.args = if 1 < cnt then 16 else 0) := by
    rw [Hid,HI.out,show m - (k + 2) / 3 = 0 by have := HM.out;omega];rfl
   by_cases hc1 : 1 < cnt
   ·have hc2 : (1 : Int) < (cnt : Int) := by omega
    have HF : Hid (rargsS p f 3 x = 16) := by rw [Hid,HS.out,hfin.out,if_pos hc1];rfl
    clear hc1
    go_wp2
    go_ret
    exact ⟨ret_int HF.out.symm,HE.out.trans HW.out⟩
   ·have hc2 : ¬ (1 : Int) < (cnt : Int) := by omega
    have HF : Hid (rargsS p f 3 x = if (q1 || (q2 || q3)) = true then 16 else 0) := by rw [Hid,HS.out,hfin.out,if_neg hc1,HCl.out];rfl
    clear hc1
    cases q1 <;> cases q2 <;> cases q3
    all_goals
     go_wp2
     go_ret
     exact ⟨ret_int HF.out.symm,HE.out.trans HW.out⟩
end Go.Proofs.YtcjjoabofecjmaaGreat

