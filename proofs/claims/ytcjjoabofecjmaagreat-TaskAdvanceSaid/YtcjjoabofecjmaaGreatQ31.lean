/- A part of the proof: The reference of layer 13; The reference of layer 13; The re. -/
import Derived.Test.YtcjjoabofecjmaaGreatQ16
import Derived.Test.YtcjjoabofecjmaaGreatQ32
set_option linter.unusedVariables false
set_option linter.unusedSimpArgs false
set_option maxHeartbeats 16000000
namespace Go.Proofs.YtcjjoabofecjmaaGreat
open Go.RowKit
open Go.Value (int)
theorem between_any (n lo hi : Int) (w : World) :
  Calls Tryz.prog 120 #[int .i64 n,int .i64 lo,int .i64 hi] w fun e w' => e = .returned (.bool (inB n lo hi)) ∧ w = w' := by
 go_enter Tryz.func120,Tryz.ntmps120
 go_wp2
 all_goals (go_ret;exact ⟨ret_bool (by unfold inB;simp [*] <;> omega),rfl⟩)
set_option maxRecDepth 8000 in
theorem rforbidden_any (op : Int) (w : World) :
  Calls Tryz.prog 157 #[int .i64 op] w fun e w' => e = .returned (.bool (forbS op)) ∧ w = w' := by
 go_enter Tryz.func157,Tryz.ntmps157
 go_wp2
 all_goals (go_ret;exact ⟨ret_bool (by unfold forbS;simp_all),rfl⟩)
def RFn (w : World) (f : Fnc) (V : Value) : Prop := ∃ Ac nc cc,V = .agg #[.string f.name,int .i64 f.params,int .i64 f.regs,int .i64 f.prio,.bool f.cleanup,.slice Ac nc cc] ∧ RSl 5 RIns w Ac nc f.code ∧ nc ≤ cc
theorem RFn.mono {w W : World} {f : Fnc} {V : Value} (h : RFn w f V) (hE : Ext w W) : RFn W f V := by
 obtain ⟨Ac,nc,cc,h1,h2,h3⟩ := h
 exact ⟨Ac,nc,cc,h1,h2.mono RIns.stays hE,h3⟩
def objIxS (p : Prg) (n k : Int) : Int := if 0 ≤ n then match p.objs[n.toNat]? with | some x => if x.kind = k then 0 else 8 | none => 2 else 2
set_option maxRecDepth 8000 in
theorem objIx_any (p : Prg) (n k : Int) (V : Value) (w : World) (hV : RPrg w p V) :
  Calls Tryz.prog 168 #[V,int .i64 n,int .i64 k] w fun e w' => e = .returned (int .i64 (objIxS p n k)) ∧ Ext w w' := by
 obtain ⟨Af,nf,cf,Ao,no,co,Av,nv,cv,rfl,_,hO,_⟩ := hV
 have hle := hO.le
 have hsub : IntKind.i64.wrap ((no : Int) - 1) = (no : Int) - 1 := IntWalk.i64_in _ (by omega)
 have hl := hO.len
 by_cases hin : 0 ≤ n ∧ n < (no : Int)
 ·obtain ⟨i,rfl⟩ : ∃ i : Nat,n = (i : Int) := ⟨n.toNat,by omega⟩
  obtain ⟨x,hx⟩ : ∃ x,p.objs[i]? = some x := ⟨_,List.getElem?_eq_getElem (by omega)⟩
  obtain ⟨b,off,rfl,hb,_,_,_,_,_,c1,_,_⟩ := hO.ob hx
  have HS : Hid (objIxS p (i : Int) k = if x.kind = k then 0 else 8) := by unfold Hid objIxS;rw [if_pos hin.1,Int.toNat_natCast,hx]
  have hB : inB (i : Int) 0 ((no : Int) - 1) = true := inB_true (by omega)
  have h1 := hin.2
  clear hO hx hl hin
  go_enter Tryz.func168,Tryz.ntmps168
  go_wp2_with (go_at_call 120;refine (between_any _ _ _ _).mono ?_;rintro e w' ⟨rfl,rfl⟩)
  all_goals (go_ret;exact ⟨ret_int (by rw [HS.out];simp_all),xt⟩)
 ·have HS : Hid (objIxS p n k = 2) := by
   unfold Hid objIxS
   split
   ·rw [List.getElem?_eq_none (by omega)]
   ·rfl
  have hB : inB n 0 ((no : Int) - 1) = false := inB_false (by omega)
  clear hO hl hin
  go_enter Tryz.func168,Tryz.ntmps168
  go_wp2_with (go_at_call 120;refine (between_any _ _ _ _).mono ?_;rintro e w' ⟨rfl,rfl⟩)
  go_ret
  exact ⟨ret_int HS.out.symm,xt⟩
theorem wr_sub {x : Int} (h : 0 ≤ x ∧ x ≤ 9223372036854775807) : IntKind.i64.wrap (x - 1) = x - 1 := IntWalk.i64_in _ (by omega)
set_option maxRecDepth 8000 in
theorem rop_dot (p : Prg) (f : Fnc) (n : Int) (V U : Value) (w : World) (hV : RPrg w p V) (hU : RFn w f U) :
  Calls Tryz.prog 158 #[V,U,.int .u8 46,int .i64 n] w fun e w' => e = .returned (int .i64 (if n = 0 then 0 else 1)) ∧ Ext w w' := by
 obtain ⟨Af,nf,cf,Ao,no,co,Av,nv,cv,rfl,_⟩ := hV
 obtain ⟨Ac,nc,cc,rfl,_⟩ := hU
 go_enter Tryz.func158,Tryz.ntmps158
 go_wp2
 all_goals (go_ret;exact ⟨ret_int (by simp_all),xt⟩)
set_option maxRecDepth 8000 in
theorem rop_w (p : Prg) (f : Fnc) (n : Int) (V U : Value) (w : World) (hV : RPrg w p V) (hU : RFn w f U) (hr : 0 ≤ f.regs ∧ f.regs ≤ 32) :
  Calls Tryz.prog 158 #[V,U,.int .u8 119,int .i64 n] w fun e w' => e = .returned (int .i64 (if inB n (0) (f.regs - 1) = true then 0 else 2)) ∧ Ext w w' := by
 obtain ⟨Af,nf,cf,Ao,no,co,Av,nv,cv,rfl,_⟩ := hV
 obtain ⟨Ac,nc,cc,rfl,hC,_⟩ := hU
 have hwr := wr_sub (x := f.regs) (by omega)
 have hwc := wr_sub (x := (nc : Int)) (by have := hC.le;omega)
 have hcl := hC.le
 (try rw [← hC.len])
 clear hC hr
 have HB := Lib.hid (fun W => between_any n (0) (f.regs - 1) W)
 cases hq : inB n (0) (f.regs - 1) with
 | true =>
  rw [hq] at HB
  clear hq
  go_enter Tryz.func158,Tryz.ntmps158
  go_wp2_with (go_at_call 120;refine (HB.out _).mono ?_;rintro e w' ⟨rfl,rfl⟩)
  go_ret
  exact ⟨rfl,xt⟩
 | false =>
  rw [hq] at HB
  clear hq
  go_enter Tryz.func158,Tryz.ntmps158
  go_wp2_with (go_at_call 120;refine (HB.out _).mono ?_;rintro e w' ⟨rfl,rfl⟩)
  go_ret
  exact ⟨rfl,xt⟩
set_option maxRecDepth 8000 in
theorem rop_r (p : Prg) (f : Fnc) (n : Int) (V U : Value) (w : World) (hV : RPrg w p V) (hU : RFn w f U) (hr : 0 ≤ f.regs ∧ f.regs ≤ 32) :
  Calls Tryz.prog 158 #[V,U,.int .u8 114,int .i64 n] w fun e w' => e = .returned (int .i64 (if inB n (0) (f.regs - 1) = true then 0 else 2)) ∧ Ext w w' := by
 obtain ⟨Af,nf,cf,Ao,no,co,Av,nv,cv,rfl,_⟩ := hV
 obtain ⟨Ac,nc,cc,rfl,hC,_⟩ := hU
 have hwr := wr_sub (x := f.regs) (by omega)
 have hwc := wr_sub (x := (nc : Int)) (by have := hC.le;omega)
 have hcl := hC.le
 (try rw [← hC.len])
 clear hC hr
 have HB := Lib.hid (fun W => between_any n (0) (f.regs - 1) W)
 cases hq : inB n (0) (f.regs - 1) with
 | true =>
  rw [hq] at HB
  clear hq
  go_enter Tryz.func158,Tryz.ntmps158
  go_wp2_with (go_at_call 120;refine (HB.out _).mono ?_;rintro e w' ⟨rfl,rfl⟩)
  go_ret
  exact ⟨rfl,xt⟩
 | false =>
  rw [hq] at HB
  clear hq
  go_enter Tryz.func158,Tryz.ntmps158
  go_wp2_with (go_at_call 120;refine (HB.out _).mono ?_;rintro e w' ⟨rfl,rfl⟩)
  go_ret
  exact ⟨rfl,xt⟩
set_option maxRecDepth 8000 in
theorem rop_o (p : Prg) (f : Fnc) (n : Int) (V U : Value) (w : World) (hV : RPrg w p V) (hU : RFn w f U) (hr : 0 ≤ f.regs ∧ f.regs ≤ 32) :
  Calls Tryz.prog 158 #[V,U,.int .u8 111,int .i64 n] w fun e w' => e = .returned (int .i64 (if inB n (-1) (f.regs - 1) = true then 0 else 2)) ∧ Ext w w' := by
 obtain ⟨Af,nf,cf,Ao,no,co,Av,nv,cv,rfl,_⟩ := hV
 obtain ⟨Ac,nc,cc,rfl,hC,_⟩ := hU
 have hwr := wr_sub (x := f.regs) (by omega)
 have hwc := wr_sub (x := (nc : Int)) (by have := hC.le;omega)
 have hcl := hC.le
 (try rw [← hC.len])
 clear hC hr
 have HB := Lib.hid (fun W => between_any n (-1) (f.regs - 1) W)
 cases hq : inB n (-1) (f.regs - 1) with
 | true =>
  rw [hq] at HB
  clear hq
  go_enter Tryz.func158,Tryz.ntmps158
  go_wp2_with (go_at_call 120;refine (HB.out _).mono ?_;rintro e w' ⟨rfl,rfl⟩)
  go_quiet (fail)
  go_wp2_with (go_at_call 120;refine (HB.out _).mono ?_;rintro e w' ⟨rfl,rfl⟩)
  go_ret
  exact ⟨rfl,xt⟩
 | false =>
  rw [hq] at HB
  clear hq
  go_enter Tryz.func158,Tryz.ntmps158
  go_wp2_with (go_at_call 120;refine (HB.out _).mono ?_;rintro e w' ⟨rfl,rfl⟩)
  go_quiet (fail)
  go_wp2_with (go_at_call 120;refine (HB.out _).mono ?_;rintro e w' ⟨rfl,rfl⟩)
  go_ret
  exact ⟨rfl,xt⟩
set_option maxRecDepth 8000 in
theorem rop_n (p : Prg) (f : Fnc) (n : Int) (V U : Value) (w : World) (hV : RPrg w p V) (hU : RFn w f U) (hr : 0 ≤ f.regs ∧ f.regs ≤ 32) :
  Calls Tryz.prog 158 #[V,U,.int .u8 110,int .i64 n] w fun e w' => e = .returned (int .i64 (if inB n (-1099511627776) (1099511627776) = true then 0 else 2)) ∧ Ext w w' := by
 obtain ⟨Af,nf,cf,Ao,no,co,Av,nv,cv,rfl,_⟩ := hV
 obtain ⟨Ac,nc,cc,rfl,hC,_⟩ := hU
 have hwr := wr_sub (x := f.regs) (by omega)
 have hwc := wr_sub (x := (nc : Int)) (by have := hC.le;omega)
 have hcl := hC.le
 (try rw [← hC.len])
 clear hC hr
 have HB := Lib.hid (fun W => between_any n (-1099511627776) (1099511627776) W)
 cases hq : inB n (-1099511627776) (1099511627776) with
 | true =>
  rw [hq] at HB
  clear hq
  go_enter Tryz.func158,Tryz.ntmps158
  go_wp2_with (go_at_call 120;refine (HB.out _).mono ?_;rintro e w' ⟨rfl,rfl⟩)
  go_ret
  exact ⟨rfl,xt⟩
 | false =>
  rw [hq] at HB
  clear hq
  go_enter Tryz.func158,Tryz.ntmps158
  go_wp2_with (go_at_call 120;refine (HB.out _).mono ?_;rintro e w' ⟨rfl,rfl⟩)
  go_ret
  exact ⟨rfl,xt⟩
set_option maxRecDepth 8000 in
theorem rop_t (p : Prg) (f : Fnc) (n : Int) (V U : Value) (w : World) (hV : RPrg w p V) (hU : RFn w f U) (hr : 0 ≤ f.regs ∧ f.regs ≤ 32) :
  Calls Tryz.prog 158 #[V,U,.int .u8 116,int .i64 n] w fun e w' => e = .returned (int .i64 (if inB n (0) (((f.code.length : Int) - 1)) = true then 0 else 2)) ∧ Ext w w' := by
 obtain ⟨Af,nf,cf,Ao,no,co,Av,nv,cv,rfl,_⟩ := hV
 obtain ⟨Ac,nc,cc,rfl,hC,_⟩ := hU
 have hwr := wr_sub (x := f.regs) (by omega)
 have hwc := wr_sub (x := (nc : Int)) (by have := hC.le;omega)
 have hcl := hC.le
 (try rw [← hC.len])
 clear hC hr
 have HB := Lib.hid (fun W => between_any n (0) (((nc : Int) - 1)) W)
 cases hq : inB n (0) (((nc : Int) - 1)) with
 | true =>
  rw [hq] at HB
  clear hq
  go_enter Tryz.func158,Tryz.ntmps158
  go_wp2_with (go_at_call 120;refine (HB.out _).mono ?_;rintro e w' ⟨rfl,rfl⟩)
  go_ret
  exact ⟨rfl,xt⟩
 | false =>
  rw [hq] at HB
  clear hq
  go_enter Tryz.func158,Tryz.ntmps158
  go_wp2_with (go_at_call 120;refine (HB.out _).mono ?_;rintro e w' ⟨rfl,rfl⟩)
  go_ret
  exact ⟨rfl,xt⟩
set_option maxRecDepth 8000 in
theorem rop_m (p : Prg) (f : Fnc) (n : Int) (V U : Value) (w : World) (hV : RPrg w p V) (hU : RFn w f U) (hr : 0 ≤ f.regs ∧ f.regs ≤ 32) :
  Calls Tryz.prog 158 #[V,U,.int .u8 109,int .i64 n] w fun e w' => e = .returned (int .i64 (if inB n (0) (99) = true then 0 else 2)) ∧ Ext w w' := by
 obtain ⟨Af,nf,cf,Ao,no,co,Av,nv,cv,rfl,_⟩ := hV
 obtain ⟨Ac,nc,cc,rfl,hC,_⟩ := hU
 have hwr := wr_sub (x := f.regs) (by omega)
 have hwc := wr_sub (x := (nc : Int)) (by have := hC.le;omega)
 have hcl := hC.le
 (try rw [← hC.len])
 clear hC hr
 have HB := Lib.hid (fun W => between_any n (0) (99) W)
 cases hq : inB n (0) (99) with
 | true =>
  rw [hq] at HB
  clear hq
  go_enter Tryz.func158,Tryz.ntmps158
  go_wp2_with (go_at_call 120;refine (HB.out _).mono ?_;rintro e w' ⟨rfl,rfl⟩)
  go_ret
  exact ⟨rfl,xt⟩
 | false =>
  rw [hq] at HB
  clear hq
  go_enter Tryz.func158,Tryz.ntmps158
  go_wp2_with (go_at_call 120;refine (HB.out _).mono ?_;rintro e w' ⟨rfl,rfl⟩)
  go_ret
  exact ⟨rfl,xt⟩
set_option maxRecDepth 8000 in
theorem rop_c_out (p : Prg) (f : Fnc) (n : Int) (V U : Value) (w : World) (hV : RPrg w p V) (hU : RFn w f U) (h : ¬ (0 ≤ n ∧ n < (f.code.length : Int))) :
  Calls Tryz.prog 158 #[V,U,.int .u8 99,int .i64 n] w fun e w' => e = .returned (int .i64 2) ∧ Ext w w' := by
 obtain ⟨Af,nf,cf,Ao,no,co,Av,nv,cv,rfl,hF,hO,hVr,_⟩ := hV
 obtain ⟨Ac,nc,cc,rfl,hC,_⟩ := hU
 have hle := hC.le
 have hwc := wr_sub (x := (nc : Int)) (by omega)
 rw [← hC.len] at h
 have HB := Lib.hid (fun W => between_any n 0 ((nc : Int) - 1) W)
 rw [inB_false (by omega)] at HB
 clear hF hO hVr hC h
 go_enter Tryz.func158,Tryz.ntmps158
 go_wp2_with (go_at_call 120;refine (HB.out _).mono ?_;rintro e w' ⟨rfl,rfl⟩)
 go_ret
 exact ⟨rfl,xt⟩
set_option maxRecDepth 8000 in
theorem rop_c_in (p : Prg) (f : Fnc) (i : Nat) (x : Ins) (V U : Value) (w : World) (hV : RPrg w p V) (hU : RFn w f U) (hx : f.code[i]? = some x) :
  Calls Tryz.prog 158 #[V,U,.int .u8 99,int .i64 i] w fun e w' => e = .returned (int .i64 (if x.op = 36 then 0 else 8)) ∧ Ext w w' := by
 obtain ⟨Af,nf,cf,Ao,no,co,Av,nv,cv,rfl,hF,hO,hVr,_⟩ := hV
 obtain ⟨Ac,nc,cc,rfl,hC,_⟩ := hU
 have hle := hC.le
 have hwc := wr_sub (x := (nc : Int)) (by omega)
 have hil : i < nc := by have := (List.getElem?_eq_some_iff.1 hx).1;have := hC.len;omega
 have h0 : (0 : Int) ≤ (i : Int) := by omega
 have h1 : (i : Int) < (nc : Int) := by omega
 obtain ⟨b,off,Aa,na,ca,rfl,hb,_,_,_,_,_,c0,_,_,_,_⟩ := hC.ins hx
 have HB := Lib.hid (fun W => between_any (i : Int) 0 ((nc : Int) - 1) W)
 rw [inB_true (by omega)] at HB
 obtain ⟨q,hq⟩ : ∃ q,x.op = q := ⟨_,rfl⟩
 rw [hq] at c0 ⊢
 clear hF hO hVr hC hx hil hq
 by_cases h36 : q = 36
 rotate_left
 ·have e36 : (q != 36) = true := by simpa using h36
  rw [if_neg h36]
  clear h36
  go_enter Tryz.func158,Tryz.ntmps158
  go_wp2_with (go_at_call 120;refine (HB.out _).mono ?_;rintro e w' ⟨rfl,rfl⟩)
  go_ret
  exact ⟨rfl,xt⟩
 subst h36
 all_goals
  go_enter Tryz.func158,Tryz.ntmps158
  go_wp2_with (go_at_call 120;refine (HB.out _).mono ?_;rintro e w' ⟨rfl,rfl⟩)
  (try go_quiet (fail))
  (try go_wp2_with (go_at_call 120;refine (HB.out _).mono ?_;rintro e w' ⟨rfl,rfl⟩))
  go_ret
  exact ⟨rfl,xt⟩
set_option maxRecDepth 8000 in
theorem rop_f_out (p : Prg) (f : Fnc) (n : Int) (V U : Value) (w : World) (hV : RPrg w p V) (hU : RFn w f U) (h : ¬ (0 ≤ n ∧ n < (p.funcs.length : Int))) :
  Calls Tryz.prog 158 #[V,U,.int .u8 102,int .i64 n] w fun e w' => e = .returned (int .i64 2) ∧ Ext w w' := by
 obtain ⟨Af,nf,cf,Ao,no,co,Av,nv,cv,rfl,hF,hO,hVr,_⟩ := hV
 obtain ⟨Ac,nc,cc,rfl,hC,_⟩ := hU
 have hle := hF.le
 have hwc := wr_sub (x := (nf : Int)) (by omega)
 rw [← hF.len] at h
 have HB := Lib.hid (fun W => between_any n 0 ((nf : Int) - 1) W)
 rw [inB_false (by omega)] at HB
 clear hF hO hVr hC h
 go_enter Tryz.func158,Tryz.ntmps158
 go_wp2_with (go_at_call 120;refine (HB.out _).mono ?_;rintro e w' ⟨rfl,rfl⟩)
 go_ret
 exact ⟨rfl,xt⟩
set_option maxRecDepth 8000 in
theorem rop_f_in (p : Prg) (f : Fnc) (i : Nat) (x : Fnc) (V U : Value) (w : World) (hV : RPrg w p V) (hU : RFn w f U) (hx : p.funcs[i]? = some x) :
  Calls Tryz.prog 158 #[V,U,.int .u8 102,int .i64 i] w fun e w' => e = .returned (int .i64 (if x.cleanup = true then 16 else 0)) ∧ Ext w w' := by
 obtain ⟨Af,nf,cf,Ao,no,co,Av,nv,cv,rfl,hF,hO,hVr,_⟩ := hV
 obtain ⟨Ac,nc,cc,rfl,hC,_⟩ := hU
 have hle := hF.le
 have hwc := wr_sub (x := (nf : Int)) (by omega)
 have hil : i < nf := by have := (List.getElem?_eq_some_iff.1 hx).1;have := hF.len;omega
 have h0 : (0 : Int) ≤ (i : Int) := by omega
 have h1 : (i : Int) < (nf : Int) := by omega
 obtain ⟨b,off,Ac2,nc2,cc2,rfl,hb,_,_,_,_,_,_,_,_,_,c4,_⟩ := hF.fnc hx
 have HB := Lib.hid (fun W => between_any (i : Int) 0 ((nf : Int) - 1) W)
 rw [inB_true (by omega)] at HB
 obtain ⟨q,hq⟩ : ∃ q,x.cleanup = q := ⟨_,rfl⟩
 rw [hq] at c4 ⊢
 clear hF hO hVr hC hx hil hq
 cases q
 all_goals
  go_enter Tryz.func158,Tryz.ntmps158
  go_wp2_with (go_at_call 120;refine (HB.out _).mono ?_;rintro e w' ⟨rfl,rfl⟩)
  (try go_quiet (fail))
  (try go_wp2_with (go_at_call 120;refine (HB.out _).mono ?_;rintro e w' ⟨rfl,rfl⟩))
  go_ret
  exact ⟨rfl,xt⟩
set_option maxRecDepth 8000 in
theorem rop_d_out (p : Prg) (f : Fnc) (n : Int) (V U : Value) (w : World) (hV : RPrg w p V) (hU : RFn w f U) (h : ¬ (0 ≤ n ∧ n < (p.funcs.length : Int))) :
  Calls Tryz.prog 158 #[V,U,.int .u8 100,int .i64 n] w fun e w' => e = .returned (int .i64 2) ∧ Ext w w' := by
 obtain ⟨Af,nf,cf,Ao,no,co,Av,nv,cv,rfl,hF,hO,hVr,_⟩ := hV
 obtain ⟨Ac,nc,cc,rfl,hC,_⟩ := hU
 have hle := hF.le
 have hwc := wr_sub (x := (nf : Int)) (by omega)
 rw [← hF.len] at h
 have HB := Lib.hid (fun W => between_any n 0 ((nf : Int) - 1) W)
 rw [inB_false (by omega)] at HB
 clear hF hO hVr hC h
 go_enter Tryz.func158,Tryz.ntmps158
 go_wp2_with (go_at_call 120;refine (HB.out _).mono ?_;rintro e w' ⟨rfl,rfl⟩)
 go_ret
 exact ⟨rfl,xt⟩
set_option maxRecDepth 8000 in
theorem rop_d_in (p : Prg) (f : Fnc) (i : Nat) (x : Fnc) (V U : Value) (w : World) (hV : RPrg w p V) (hU : RFn w f U) (hx : p.funcs[i]? = some x) :
  Calls Tryz.prog 158 #[V,U,.int .u8 100,int .i64 i] w fun e w' => e = .returned (int .i64 (if x.cleanup = true then 0 else 16)) ∧ Ext w w' := by
 obtain ⟨Af,nf,cf,Ao,no,co,Av,nv,cv,rfl,hF,hO,hVr,_⟩ := hV
 obtain ⟨Ac,nc,cc,rfl,hC,_⟩ := hU
 have hle := hF.le
 have hwc := wr_sub (x := (nf : Int)) (by omega)
 have hil : i < nf := by have := (List.getElem?_eq_some_iff.1 hx).1;have := hF.len;omega
 have h0 : (0 : Int) ≤ (i : Int) := by omega
 have h1 : (i : Int) < (nf : Int) := by omega
 obtain ⟨b,off,Ac2,nc2,cc2,rfl,hb,_,_,_,_,_,_,_,_,_,c4,_⟩ := hF.fnc hx
 have HB := Lib.hid (fun W => between_any (i : Int) 0 ((nf : Int) - 1) W)
 rw [inB_true (by omega)] at HB
 obtain ⟨q,hq⟩ : ∃ q,x.cleanup = q := ⟨_,rfl⟩
 rw [hq] at c4 ⊢
 clear hF hO hVr hC hx hil hq
 cases q
 all_goals
  go_enter Tryz.func158,Tryz.ntmps158
  go_wp2_with (go_at_call 120;refine (HB.out _).mono ?_;rintro e w' ⟨rfl,rfl⟩)
  (try go_quiet (fail))
  (try go_wp2_with (go_at_call 120;refine (HB.out _).mono ?_;rintro e w' ⟨rfl,rfl⟩))
  go_ret
  exact ⟨rfl,xt⟩
set_option maxRecDepth 8000 in
theorem rop_v_out (p : Prg) (f : Fnc) (n : Int) (V U : Value) (w : World) (hV : RPrg w p V) (hU : RFn w f U) (h : ¬ (0 ≤ n ∧ n < (p.vars.length : Int))) :
  Calls Tryz.prog 158 #[V,U,.int .u8 118,int .i64 n] w fun e w' => e = .returned (int .i64 2) ∧ Ext w w' := by
 obtain ⟨Af,nf,cf,Ao,no,co,Av,nv,cv,rfl,hF,hO,hVr,_⟩ := hV
 obtain ⟨Ac,nc,cc,rfl,hC,_⟩ := hU
 have hle := hVr.le
 have hwc := wr_sub (x := (nv : Int)) (by omega)
 rw [← hVr.len] at h
 have HB := Lib.hid (fun W => between_any n 0 ((nv : Int) - 1) W)
 rw [inB_false (by omega)] at HB
 clear hF hO hVr hC h
 go_enter Tryz.func158,Tryz.ntmps158
 go_wp2_with (go_at_call 120;refine (HB.out _).mono ?_;rintro e w' ⟨rfl,rfl⟩)
 go_ret
 exact ⟨rfl,xt⟩
set_option maxRecDepth 8000 in
theorem rop_v_in (p : Prg) (f : Fnc) (i : Nat) (x : Vr) (V U : Value) (w : World) (hV : RPrg w p V) (hU : RFn w f U) (hx : p.vars[i]? = some x) :
  Calls Tryz.prog 158 #[V,U,.int .u8 118,int .i64 i] w fun e w' => e = .returned (int .i64 (0)) ∧ Ext w w' := by
 obtain ⟨Af,nf,cf,Ao,no,co,Av,nv,cv,rfl,hF,hO,hVr,_⟩ := hV
 obtain ⟨Ac,nc,cc,rfl,hC,_⟩ := hU
 have hle := hVr.le
 have hwc := wr_sub (x := (nv : Int)) (by omega)
 have hil : i < nv := by have := (List.getElem?_eq_some_iff.1 hx).1;have := hVr.len;omega
 have h0 : (0 : Int) ≤ (i : Int) := by omega
 have h1 : (i : Int) < (nv : Int) := by omega
 obtain ⟨b,off,rfl,hb,_,_,_,_,c2⟩ := hVr.vr hx
 have HB := Lib.hid (fun W => between_any (i : Int) 0 ((nv : Int) - 1) W)
 rw [inB_true (by omega)] at HB
 obtain ⟨q,hq⟩ : ∃ q,x.atomic = q := ⟨_,rfl⟩
 rw [hq] at c2
 clear hF hO hVr hC hx hil hq
 skip
 all_goals
  go_enter Tryz.func158,Tryz.ntmps158
  go_wp2_with (go_at_call 120;refine (HB.out _).mono ?_;rintro e w' ⟨rfl,rfl⟩)
  (try go_quiet (fail))
  (try go_wp2_with (go_at_call 120;refine (HB.out _).mono ?_;rintro e w' ⟨rfl,rfl⟩))
  go_ret
  exact ⟨rfl,xt⟩
set_option maxRecDepth 8000 in
theorem rop_a_out (p : Prg) (f : Fnc) (n : Int) (V U : Value) (w : World) (hV : RPrg w p V) (hU : RFn w f U) (h : ¬ (0 ≤ n ∧ n < (p.vars.length : Int))) :
  Calls Tryz.prog 158 #[V,U,.int .u8 97,int .i64 n] w fun e w' => e = .returned (int .i64 2) ∧ Ext w w' := by
 obtain ⟨Af,nf,cf,Ao,no,co,Av,nv,cv,rfl,hF,hO,hVr,_⟩ := hV
 obtain ⟨Ac,nc,cc,rfl,hC,_⟩ := hU
 have hle := hVr.le
 have hwc := wr_sub (x := (nv : Int)) (by omega)
 rw [← hVr.len] at h
 have HB := Lib.hid (fun W => between_any n 0 ((nv : Int) - 1) W)
 rw [inB_false (by omega)] at HB
 clear hF hO hVr hC h
 go_enter Tryz.func158,Tryz.ntmps158
 go_wp2_with (go_at_call 120;refine (HB.out _).mono ?_;rintro e w' ⟨rfl,rfl⟩)
 go_ret
 exact ⟨rfl,xt⟩
set_option maxRecDepth 8000 in
theorem rop_a_in (p : Prg) (f : Fnc) (i : Nat) (x : Vr) (V U : Value) (w : World) (hV : RPrg w p V) (hU : RFn w f U) (hx : p.vars[i]? = some x) :
  Calls Tryz.prog 158 #[V,U,.int .u8 97,int .i64 i] w fun e w' => e = .returned (int .i64 (if x.atomic = true then 0 else 16)) ∧ Ext w w' := by
 obtain ⟨Af,nf,cf,Ao,no,co,Av,nv,cv,rfl,hF,hO,hVr,_⟩ := hV
 obtain ⟨Ac,nc,cc,rfl,hC,_⟩ := hU
 have hle := hVr.le
 have hwc := wr_sub (x := (nv : Int)) (by omega)
 have hil : i < nv := by have := (List.getElem?_eq_some_iff.1 hx).1;have := hVr.len;omega
 have h0 : (0 : Int) ≤ (i : Int) := by omega
 have h1 : (i : Int) < (nv : Int) := by omega
 obtain ⟨b,off,rfl,hb,_,_,_,_,c2⟩ := hVr.vr hx
 have HB := Lib.hid (fun W => between_any (i : Int) 0 ((nv : Int) - 1) W)
 rw [inB_true (by omega)] at HB
 obtain ⟨q,hq⟩ : ∃ q,x.atomic = q := ⟨_,rfl⟩
 rw [hq] at c2 ⊢
 clear hF hO hVr hC hx hil hq
 cases q
 all_goals
  go_enter Tryz.func158,Tryz.ntmps158
  go_wp2_with (go_at_call 120;refine (HB.out _).mono ?_;rintro e w' ⟨rfl,rfl⟩)
  (try go_quiet (fail))
  (try go_wp2_with (go_at_call 120;refine (HB.out _).mono ?_;rintro e w' ⟨rfl,rfl⟩))
  go_ret
  exact ⟨rfl,xt⟩
set_option maxRecDepth 8000 in
theorem rop_obj (p : Prg) (f : Fnc) (n k : Int) (V U : Value) (w : World) (hV : RPrg w p V) (hU : RFn w f U) (hk : 1 ≤ k ∧ k ≤ 9) :
  Calls Tryz.prog 158 #[V,U,.int .u8 (48 + k),int .i64 n] w fun e w' => e = .returned (int .i64 (objIxS p n k)) ∧ Ext w w' := by
 have HO := Lib.hid (fun W (h : Ext w W) => objIx_any p n k V W (hV.mono h))
 obtain ⟨Af,nf,cf,Ao,no,co,Av,nv,cv,rfl,_⟩ := hV
 obtain ⟨Ac,nc,cc,rfl,_⟩ := hU
 have : k = 1 ∨ k = 2 ∨ k = 3 ∨ k = 4 ∨ k = 5 ∨ k = 6 ∨ k = 7 ∨ k = 8 ∨ k = 9 := by omega
 clear hk
 rcases this with rfl | rfl | rfl | rfl | rfl | rfl | rfl | rfl | rfl
 all_goals
  go_enter Tryz.func158,Tryz.ntmps158
  go_wp2_with (go_at_call 168;refine (HO.out _ xt).mono ?_;rintro e w1 ⟨rfl,hb⟩;obtain ⟨hc,hf,hs,he⟩ := Ext.use (w := w) hb xt;clear hb;(try simp only [sA,sC,sD,sN] at hs))
  go_ret
  exact ⟨rfl,xt⟩
def okO (o : Opd) : Bool := decide (0 ≤ o.what ∧ o.what ≤ 12) && (o.what != 12 || decide (1 ≤ o.kind ∧ o.kind ≤ 9))
def okShp2 (s : Shp) : Bool := okO s.a && okO s.b && okO s.c && (s.args == 0 || s.args == 1 || s.args == 2 || s.args == 3)
theorem okShp2_ite {c : Prop} [Decidable c] {a b : Option Shp} (h1 : okShp2 (a.getD shpZ) = true) (h2 : okShp2 (b.getD shpZ) = true) : okShp2 ((if c then a else b).getD shpZ) = true := by split <;> assumption
theorem okShp2_s (op : Int) : okShp2 (sS op) = true := by
 unfold sS shapeS groupsS
 repeat' (refine okShp2_ite ?_ ?_)
 all_goals rfl
theorem objIx_opd (p : Prg) (f : Fnc) (n k : Int) : objIxS p n k = operandS p f ⟨12,k⟩ n := by
 unfold objIxS operandS
 rfl
theorem rop_any (p : Prg) (f : Fnc) (o : Opd) (n : Int) (V U : Value) (w : World) (hV : RPrg w p V) (hU : RFn w f U) (hr : 0 ≤ f.regs ∧ f.regs ≤ 32) (ho : okO o = true) :
  Calls Tryz.prog 158 #[V,U,.int .u8 ((roleI o).toNat : Int),int .i64 n] w fun e w' => e = .returned (int .i64 (operandS p f o n)) ∧ Ext w w' := by
 obtain ⟨wh,k⟩ := o
 simp only [okO,Bool.and_eq_true,Bool.or_eq_true,decide_eq_true_eq,bne_iff_ne] at ho
 obtain ⟨h1,h2⟩ := ho
 have hw : wh = 0 ∨ wh = 1 ∨ wh = 2 ∨ wh = 3 ∨ wh = 4 ∨ wh = 5 ∨ wh = 6 ∨ wh = 7 ∨ wh = 8 ∨ wh = 9 ∨ wh = 10 ∨ wh = 11 ∨ wh = 12 := by omega
 have hin : ∀ (L : Int),insideS n L = if inB n 0 (L - 1) = true then 0 else 2 := fun L => by
  unfold insideS
  by_cases h : 0 ≤ n ∧ n < L
  ·rw [if_pos h,inB_true (by omega),if_pos rfl]
  ·rw [if_neg h,inB_false (by omega),if_neg (by decide)]
 rcases hw with rfl | rfl | rfl | rfl | rfl | rfl | rfl | rfl | rfl | rfl | rfl | rfl | rfl
 ·exact rop_dot p f n V U w hV hU
 ·exact rop_n p f n V U w hV hU hr
 ·have := rop_m p f n V U w hV hU hr
  have e9 := hin 100
  rw [show (100 : Int) - 1 = 99 by decide] at e9
  rw [← e9] at this
  exact this
 ·have := rop_r p f n V U w hV hU hr
  rw [← hin] at this
  exact this
 ·have := rop_w p f n V U w hV hU hr
  rw [← hin] at this
  exact this
 ·refine (rop_o p f n V U w hV hU hr).mono fun e w' h => ⟨h.1.trans (ret_int ?_),h.2⟩
  show _ = if -1 ≤ n ∧ n < f.regs then 0 else 2
  by_cases h : -1 ≤ n ∧ n < f.regs
  ·rw [if_pos h,inB_true (by omega),if_pos rfl]
  ·rw [if_neg h,inB_false (by omega),if_neg (by decide)]
 ·have := rop_t p f n V U w hV hU hr
  rw [← hin] at this
  exact this
 ·by_cases h : 0 ≤ n ∧ n < (f.code.length : Int)
  ·obtain ⟨i,rfl⟩ : ∃ i : Nat,n = (i : Int) := ⟨n.toNat,by omega⟩
   obtain ⟨x,hx⟩ : ∃ x,f.code[i]? = some x := ⟨_,List.getElem?_eq_getElem (by omega)⟩
   refine (rop_c_in p f i x V U w hV hU hx).mono fun e w' h3 => ⟨h3.1.trans (ret_int ?_),h3.2⟩
   simp [operandS,hx]
  ·refine (rop_c_out p f n V U w hV hU h).mono fun e w' h3 => ⟨h3.1.trans (ret_int ?_),h3.2⟩
   by_cases h0 : 0 ≤ n
   ·simp [operandS,h0,List.getElem?_eq_none (show f.code.length ≤ n.toNat by omega)]
   ·simp [operandS,h0]
 ·by_cases h : 0 ≤ n ∧ n < (p.funcs.length : Int)
  ·obtain ⟨i,rfl⟩ : ∃ i : Nat,n = (i : Int) := ⟨n.toNat,by omega⟩
   obtain ⟨x,hx⟩ : ∃ x,p.funcs[i]? = some x := ⟨_,List.getElem?_eq_getElem (by omega)⟩
   refine (rop_f_in p f i x V U w hV hU hx).mono fun e w' h3 => ⟨h3.1.trans (ret_int ?_),h3.2⟩
   cases hxx : x.cleanup <;> simp [operandS,hx,hxx]
  ·refine (rop_f_out p f n V U w hV hU h).mono fun e w' h3 => ⟨h3.1.trans (ret_int ?_),h3.2⟩
   by_cases h0 : 0 ≤ n
   ·simp [operandS,h0,List.getElem?_eq_none (show p.funcs.length ≤ n.toNat by omega)]
   ·simp [operandS,h0]
 ·by_cases h : 0 ≤ n ∧ n < (p.funcs.length : Int)
  ·obtain ⟨i,rfl⟩ : ∃ i : Nat,n = (i : Int) := ⟨n.toNat,by omega⟩
   obtain ⟨x,hx⟩ : ∃ x,p.funcs[i]? = some x := ⟨_,List.getElem?_eq_getElem (by omega)⟩
   refine (rop_d_in p f i x V U w hV hU hx).mono fun e w' h3 => ⟨h3.1.trans (ret_int ?_),h3.2⟩
   cases hxx : x.cleanup <;> simp [operandS,hx,hxx]
  ·refine (rop_d_out p f n V U w hV hU h).mono fun e w' h3 => ⟨h3.1.trans (ret_int ?_),h3.2⟩
   by_cases h0 : 0 ≤ n
   ·simp [operandS,h0,List.getElem?_eq_none (show p.funcs.length ≤ n.toNat by omega)]
   ·simp [operandS,h0]
 ·by_cases h : 0 ≤ n ∧ n < (p.vars.length : Int)
  ·obtain ⟨i,rfl⟩ : ∃ i : Nat,n = (i : Int) := ⟨n.toNat,by omega⟩
   obtain ⟨x,hx⟩ : ∃ x,p.vars[i]? = some x := ⟨_,List.getElem?_eq_getElem (by omega)⟩
   refine (rop_v_in p f i x V U w hV hU hx).mono fun e w' h3 => ⟨h3.1.trans (ret_int ?_),h3.2⟩
   cases hxx : x.atomic <;> simp [operandS,hx,hxx]
  ·refine (rop_v_out p f n V U w hV hU h).mono fun e w' h3 => ⟨h3.1.trans (ret_int ?_),h3.2⟩
   by_cases h0 : 0 ≤ n
   ·simp [operandS,h0,List.getElem?_eq_none (show p.vars.length ≤ n.toNat by omega)]
   ·simp [operandS,h0]
 ·by_cases h : 0 ≤ n ∧ n < (p.vars.length : Int)
  ·obtain ⟨i,rfl⟩ : ∃ i : Nat,n = (i : Int) := ⟨n.toNat,by omega⟩
   obtain ⟨x,hx⟩ : ∃ x,p.vars[i]? = some x := ⟨_,List.getElem?_eq_getElem (by omega)⟩
   refine (rop_a_in p f i x V U w hV hU hx).mono fun e w' h3 => ⟨h3.1.trans (ret_int ?_),h3.2⟩
   cases hxx : x.atomic <;> simp [operandS,hx,hxx]
  ·refine (rop_a_out p f n V U w hV hU h).mono fun e w' h3 => ⟨h3.1.trans (ret_int ?_),h3.2⟩
   by_cases h0 : 0 ≤ n
   ·simp [operandS,h0,List.getElem?_eq_none (show p.vars.length ≤ n.toNat by omega)]
   ·simp [operandS,h0]
 ·have hk : 1 ≤ k ∧ k ≤ 9 := h2.resolve_left (by decide)
  have := rop_obj p f n k V U w hV hU hk
  rw [objIx_opd p f n k] at this
  have e : ((roleI ⟨12,k⟩).toNat : Int) = 48 + k := by
   have : k = 1 ∨ k = 2 ∨ k = 3 ∨ k = 4 ∨ k = 5 ∨ k = 6 ∨ k = 7 ∨ k = 8 ∨ k = 9 := by omega
   rcases this with rfl | rfl | rfl | rfl | rfl | rfl | rfl | rfl | rfl <;> rfl
  rw [e]
  exact this
set_option maxRecDepth 8000 in
theorem rcase_any (p : Prg) (f : Fnc) (kind ch reg : Int) (V U : Value) (w : World) (hV : RPrg w p V) (hU : RFn w f U) (hr : 0 ≤ f.regs ∧ f.regs ≤ 32) :
  Calls Tryz.prog 169 #[V,U,int .i64 kind,int .i64 ch,int .i64 reg] w fun e w' => e = .returned (int .i64 (caseS p f kind ch reg)) ∧ Ext w w' := by
 have HO := Lib.hid (fun W (h : Ext w W) => objIx_any p ch 6 V W (hV.mono h))
 obtain ⟨e,he⟩ : ∃ e,objIxS p ch 6 = e := ⟨_,rfl⟩
 have HOP : Hid (operandS p f (oO 6) ch = e) := by rw [Hid,← he];exact (objIx_opd p f ch 6).symm
 rw [he] at HO
 clear he
 obtain ⟨Af,nf,cf,Ao,no,co,Av,nv,cv,rfl,_⟩ := hV
 obtain ⟨Ac,nc,cc,rfl,_⟩ := hU
 have hwr := wr_sub (x := f.regs) (by omega)
 have HRg : Hid (regB f reg = inB reg 0 (f.regs - 1)) := rfl
 clear hr
 have HS : Hid (caseS p f kind ch reg = if kind = 3 then (if ch ≠ 0 ∨ reg ≠ 0 then 1 else 0) else if kind = 1 ∨ kind = 2 then (if e ≠ 0 then e else if kind = 1 ∧ inB reg 0 (f.regs - 1) = false then 2 else if kind = 2 ∧ reg ≠ 0 then 1 else 0) else 8) := by
  unfold Hid caseS;rw [HOP.out,HRg.out]
 by_cases h3 : kind = 3
 ·subst h3
  clear HO
  go_enter Tryz.func169,Tryz.ntmps169
  go_wp2_with (go_at_call 120;refine (between_any _ _ _ _).mono ?_;rintro e w' ⟨rfl,rfl⟩)
  all_goals (go_ret;exact ⟨ret_int (by rw [HS.out];simp_all),xt⟩)
 by_cases h1 : kind = 1
 ·subst h1
  obtain ⟨q,hq⟩ : ∃ q,inB reg 0 (f.regs - 1) = q := ⟨_,rfl⟩
  have HB := Lib.hid (fun W => between_any reg 0 (f.regs - 1) W)
  rw [hq] at HB HS
  clear hq h3
  cases q
  all_goals
   go_enter Tryz.func169,Tryz.ntmps169
   go_wp2_with (first | (go_at_call 168;refine (HO.out _ xt).mono ?_;rintro e w1 ⟨rfl,hb⟩;obtain ⟨hc,hf,hs,he⟩ := Ext.use (w := w) hb xt;clear hb;(try simp only [sA,sC,sD,sN] at hs)) | (go_at_call 120;(with_reducible refine (HB.out _).mono ?_);rintro e w' ⟨rfl,rfl⟩) | (go_at_call 120;refine (between_any _ _ _ _).mono ?_;rintro e w' ⟨rfl,rfl⟩))
   all_goals (go_ret;exact ⟨ret_int (by rw [HS.out];simp_all),xt⟩)
 by_cases h2 : kind = 2
 ·subst h2
  clear h3 h1
  go_enter Tryz.func169,Tryz.ntmps169
  go_wp2_with (first | (go_at_call 168;refine (HO.out _ xt).mono ?_;rintro e w1 ⟨rfl,hb⟩;obtain ⟨hc,hf,hs,he⟩ := Ext.use (w := w) hb xt;clear hb;(try simp only [sA,sC,sD,sN] at hs)) | (go_at_call 120;refine (between_any _ _ _ _).mono ?_;rintro e w' ⟨rfl,rfl⟩))
  all_goals (go_ret;exact ⟨ret_int (by rw [HS.out];simp_all),xt⟩)
 ·have HB := Lib.hid (fun W => between_any kind 1 3 W)
  rw [inB_false (by omega)] at HB
  go_enter Tryz.func169,Tryz.ntmps169
  go_wp2_with (go_at_call 120;refine (HB.out _).mono ?_;rintro e w' ⟨rfl,rfl⟩)
  go_ret
  exact ⟨ret_int (by rw [HS.out,if_neg h3,if_neg (by omega)]),xt⟩
end Go.Proofs.YtcjjoabofecjmaaGreat

