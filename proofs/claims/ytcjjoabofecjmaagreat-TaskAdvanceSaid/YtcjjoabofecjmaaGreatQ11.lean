/- A part of the proof: checker.operand of package program; isName of package progra. -/
import Derived.Test.YtcjjoabofecjmaaGreatQ08
import Derived.Lib.ConvBytes
import Derived.RangeFuncNested
import Derived.RangeFuncBound
import Derived.RangeFuncCalls
import Derived.RangeFuncLeaves
import Derived.Shelf.RegionOpen
import Derived.OwnWalkIn
import Derived.TacticsInMore
import Derived.LoopNIn
import Derived.LoopIn
import Derived.Sort.LoopGhostIn
import Derived.Sort.QuietIn
set_option linter.unusedVariables false
set_option linter.unusedSimpArgs false
set_option maxHeartbeats 16000000
namespace Go.Proofs.YtcjjoabofecjmaaGreat
open Go.RowKit
open Go.Value (int)
def RCk (w : World) (p : Prg) (f : Fnc) (V : Value) : Prop := ∃ Af nf cf Ao no co Av nv cv Ac nc cc,V = .agg #[.slice Af nf cf,.slice Ao no co,.slice Av nv cv,.string f.name,int .i64 f.params,int .i64 f.regs,int .i64 f.prio,.bool f.cleanup,.slice Ac nc cc] ∧
 RSl 6 RFnc w Af nf p.funcs ∧ RSl 4 ROb w Ao no p.objs ∧ RSl 3 RVr w Av nv p.vars ∧ RSl 5 RIns w Ac nc f.code
theorem RCk.mono {w W : World} {p : Prg} {f : Fnc} {V : Value} (h : RCk w p f V) (hw : Ext w W) : RCk W p f V := by
 obtain ⟨Af,nf,cf,Ao,no,co,Av,nv,cv,Ac,nc,cc,h1,h2,h3,h4,h5⟩ := h
 exact ⟨Af,nf,cf,Ao,no,co,Av,nv,cv,Ac,nc,cc,h1,h2.mono RFnc.stays hw,h3.mono ROb.stays hw,h4.mono RVr.stays hw,h5.mono RIns.stays hw⟩
def operandS (p : Prg) (f : Fnc) (o : Opd) (n : Int) : Int :=
 if o.what = 0 then (if n = 0 then 0 else 1)
 else if o.what = 1 then (if inB n (-1099511627776) 1099511627776 then 0 else 2)
 else if o.what = 2 then insideS n 100
 else if o.what = 3 ∨ o.what = 4 then insideS n f.regs
 else if o.what = 5 then (if -1 ≤ n ∧ n < f.regs then 0 else 2)
 else if o.what = 6 then insideS n f.code.length
 else if o.what = 7 then (if 0 ≤ n then match f.code[n.toNat]? with | some x => if x.op = 36 then 0 else 8 | none => 2 else 2)
 else if o.what = 8 ∨ o.what = 9 then (if 0 ≤ n then match p.funcs[n.toNat]? with | some g => if g.cleanup = decide (o.what = 9) then 0 else 16 | none => 2 else 2)
 else if o.what = 10 ∨ o.what = 11 then (if 0 ≤ n then match p.vars[n.toNat]? with | some v => if o.what = 11 ∧ v.atomic = false then 16 else 0 | none => 2 else 2)
 else (if 0 ≤ n then match p.objs[n.toNat]? with | some x => if x.kind = o.kind then 0 else 8 | none => 2 else 2)
theorem insideS_in {n len : Int} (h : 0 ≤ n ∧ n < len) : insideS n len = 0 := if_pos h
theorem insideS_out {n len : Int} (h : ¬ (0 ≤ n ∧ n < len)) : insideS n len = 2 := if_neg h
theorem operand_low (p : Prg) (f : Fnc) (o : Opd) (n : Int) (V : Value) (w : World) (hV : RCk w p f V) (ho : o.what = 0 ∨ o.what = 1 ∨ o.what = 2) :
  Calls Tryz.prog 154 #[V,.agg #[.int .i64 o.what,.int .i64 o.kind],.int .i64 n] w fun e w' => e = .returned (.int .i64 (operandS p f o n)) ∧ Ext w w' := by
 obtain ⟨Af,nf,cf,Ao,no,co,Av,nv,cv,Ac,nc,cc,rfl,_,_,_,_⟩ := hV
 obtain ⟨wh,kd⟩ := o
 dsimp only at ho ⊢
 rcases ho with rfl | rfl | rfl
 all_goals
  go_enter Tryz.func154,Tryz.ntmps154
  go_wp2_with (first | (go_at_call 107;refine (within_any _ _ _ _).mono ?_;rintro e w' ⟨rfl,rfl⟩) | (go_at_call 164;refine (inside_any _ _ _ (by omega) (by omega)).mono ?_;rintro e w' ⟨rfl,rfl⟩))
  all_goals (go_ret;exact ⟨ret_int (by simp_all [operandS]),xt⟩)
theorem operand_regs (p : Prg) (f : Fnc) (o : Opd) (n : Int) (V : Value) (w : World) (hV : RCk w p f V) (hr : 0 ≤ f.regs ∧ f.regs ≤ 32) (ho : o.what = 3 ∨ o.what = 4 ∨ o.what = 6) :
  Calls Tryz.prog 154 #[V,.agg #[.int .i64 o.what,.int .i64 o.kind],.int .i64 n] w fun e w' => e = .returned (.int .i64 (operandS p f o n)) ∧ Ext w w' := by
 obtain ⟨Af,nf,cf,Ao,no,co,Av,nv,cv,Ac,nc,cc,rfl,_,_,_,hC⟩ := hV
 have hCl := hC.le
 have HL := Lib.hid hC.len
 obtain ⟨wh,kd⟩ := o
 dsimp only at ho ⊢
 rcases ho with rfl | rfl | rfl
 all_goals
  go_enter Tryz.func154,Tryz.ntmps154
  go_wp2_with (first | (go_at_call 164;refine (inside_any _ _ _ (by omega) (by omega)).mono ?_;rintro e w' ⟨rfl,rfl⟩))
  all_goals (go_ret;exact ⟨ret_int (by have := HL.out;simp_all [operandS]),xt⟩)
theorem inside_opt (n reg : Int) (hn : InR n) (hr : 0 ≤ reg ∧ reg ≤ 32) : insideS (wrap64 (n + 1)) (reg + 1) = if -1 ≤ n ∧ n < reg then 0 else 2 := by
 unfold InR at hn
 unfold insideS wrap64
 split <;> split <;> first | rfl | omega
theorem operand_opt (p : Prg) (f : Fnc) (o : Opd) (n : Int) (V : Value) (w : World) (hV : RCk w p f V) (hn : InR n) (hr : 0 ≤ f.regs ∧ f.regs ≤ 32) (ho : o.what = 5) :
  Calls Tryz.prog 154 #[V,.agg #[.int .i64 o.what,.int .i64 o.kind],.int .i64 n] w fun e w' => e = .returned (.int .i64 (operandS p f o n)) ∧ Ext w w' := by
 obtain ⟨Af,nf,cf,Ao,no,co,Av,nv,cv,Ac,nc,cc,rfl,_,_,_,_⟩ := hV
 obtain ⟨wh,kd⟩ := o
 dsimp only at ho ⊢
 subst ho
 have HI := Lib.hid (inside_opt n f.regs hn hr)
 clear hn
 go_enter Tryz.func154,Tryz.ntmps154
 go_wp2_with (first | (go_at_call 164;refine (inside_any _ _ _ (by omega) (by omega)).mono ?_;rintro e w' ⟨rfl,rfl⟩))
 go_ret
 exact ⟨ret_int (by rw [HI.out];simp [operandS]),xt⟩
theorem operand_close (p : Prg) (f : Fnc) (o : Opd) (n : Int) (V : Value) (w : World) (hV : RCk w p f V) (ho : o.what = 7) :
  Calls Tryz.prog 154 #[V,.agg #[.int .i64 o.what,.int .i64 o.kind],.int .i64 n] w fun e w' => e = .returned (.int .i64 (operandS p f o n)) ∧ Ext w w' := by
 obtain ⟨Af,nf,cf,Ao,no,co,Av,nv,cv,Ac,nc,cc,rfl,_,_,_,hC⟩ := hV
 have hCl := hC.le
 have HL := Lib.hid hC.len
 obtain ⟨wh,kd⟩ := o
 dsimp only at ho ⊢
 subst ho
 by_cases h : 0 ≤ n ∧ n < (nc : Int)
 ·have hin : insideS n (nc : Int) = 0 := insideS_in h
  obtain ⟨x,hx⟩ : ∃ x,f.code[n.toNat]? = some x := ⟨_,List.getElem?_eq_getElem (by have := HL.out;omega)⟩
  obtain ⟨b,off,Aa,na,ca,rfl,hlb,i1,i2,i3,i4,hA,c0,c1,c2,c3,c4⟩ := hC.ins hx
  have HX := Lib.hid hx
  clear hx c1 c2 c3 c4 hA i1 i2 i3 i4 hC
  obtain ⟨h1,h2⟩ := h
  go_enter Tryz.func154,Tryz.ntmps154
  go_wp2_with (first | (go_at_call 164;refine (inside_any _ _ _ (by omega) (by omega)).mono ?_;rintro e w' ⟨rfl,rfl⟩))
  all_goals (go_ret;exact ⟨ret_int (by have := HX.out;simp_all [operandS]),xt⟩)
 ·have hin : insideS n (nc : Int) = 2 := insideS_out h
  have HS : Hid (operandS p f ⟨7,kd⟩ n = 2) := by
   unfold Hid operandS
   have := HL.out
   by_cases h0 : 0 ≤ n
   ·rw [List.getElem?_eq_none (by omega)];simp
   ·simp [h0]
  clear hC h
  go_enter Tryz.func154,Tryz.ntmps154
  go_wp2_with (first | (go_at_call 164;refine (inside_any _ _ _ (by omega) (by omega)).mono ?_;rintro e w' ⟨rfl,rfl⟩))
  all_goals (go_ret;exact ⟨ret_int (by rw [HS.out]),xt⟩)
theorem operand_funcs (p : Prg) (f : Fnc) (o : Opd) (n : Int) (V : Value) (w : World) (hV : RCk w p f V) (ho : o.what = 8 ∨ o.what = 9) :
  Calls Tryz.prog 154 #[V,.agg #[.int .i64 o.what,.int .i64 o.kind],.int .i64 n] w fun e w' => e = .returned (.int .i64 (operandS p f o n)) ∧ Ext w w' := by
 obtain ⟨Af,nf,cf,Ao,no,co,Av,nv,cv,Ac,nc,cc,rfl,hF,_,_,_⟩ := hV
 have hFl := hF.le
 have HL := Lib.hid hF.len
 obtain ⟨wh,kd⟩ := o
 dsimp only at ho ⊢
 by_cases h : 0 ≤ n ∧ n < (nf : Int)
 ·have hin : insideS n (nf : Int) = 0 := insideS_in h
  obtain ⟨x,hx⟩ : ∃ x,p.funcs[n.toNat]? = some x := ⟨_,List.getElem?_eq_getElem (by have := HL.out;omega)⟩
  obtain ⟨b,off,Aa,na,ca,rfl,hlb,i1,i2,i3,i4,hA,c0,c1,c2,c3,c4,c5⟩ := hF.fnc hx
  have HX := Lib.hid hx
  clear hx c0 c1 c2 c3 c5 hA i1 i2 i3 i4 hF
  obtain ⟨h1,h2⟩ := h
  rcases ho with rfl | rfl
  all_goals
   go_enter Tryz.func154,Tryz.ntmps154
   go_wp2_with (first | (go_at_call 164;refine (inside_any _ _ _ (by omega) (by omega)).mono ?_;rintro e w' ⟨rfl,rfl⟩))
   go_quiet (fail)
   go_wp2
   all_goals (go_ret;exact ⟨ret_int (by have := HX.out;simp_all [operandS]),xt⟩)
 ·have hin : insideS n (nf : Int) = 2 := insideS_out h
  have HS : Hid (operandS p f ⟨wh,kd⟩ n = 2) := by
   unfold Hid operandS
   have := HL.out
   by_cases h0 : 0 ≤ n
   ·rw [show p.funcs[n.toNat]? = none from List.getElem?_eq_none (by omega)];rcases ho with rfl | rfl <;> simp
   ·rcases ho with rfl | rfl <;> simp [h0]
  clear hF h
  rcases ho with rfl | rfl
  all_goals
   go_enter Tryz.func154,Tryz.ntmps154
   go_wp2_with (first | (go_at_call 164;refine (inside_any _ _ _ (by omega) (by omega)).mono ?_;rintro e w' ⟨rfl,rfl⟩))
   go_quiet (fail)
   go_wp2
   all_goals (go_ret;exact ⟨ret_int (by rw [HS.out]),xt⟩)
theorem operand_vars (p : Prg) (f : Fnc) (o : Opd) (n : Int) (V : Value) (w : World) (hV : RCk w p f V) (ho : o.what = 10 ∨ o.what = 11) :
  Calls Tryz.prog 154 #[V,.agg #[.int .i64 o.what,.int .i64 o.kind],.int .i64 n] w fun e w' => e = .returned (.int .i64 (operandS p f o n)) ∧ Ext w w' := by
 obtain ⟨Af,nf,cf,Ao,no,co,Av,nv,cv,Ac,nc,cc,rfl,_,_,hF,_⟩ := hV
 have hFl := hF.le
 have HL := Lib.hid hF.len
 obtain ⟨wh,kd⟩ := o
 dsimp only at ho ⊢
 by_cases h : 0 ≤ n ∧ n < (nv : Int)
 ·have hin : insideS n (nv : Int) = 0 := insideS_in h
  obtain ⟨x,hx⟩ : ∃ x,p.vars[n.toNat]? = some x := ⟨_,List.getElem?_eq_getElem (by have := HL.out;omega)⟩
  obtain ⟨b,off,rfl,hlb,i1,i2,c0,c1,c2⟩ := hF.vr hx
  have HX := Lib.hid hx
  clear hx c0 c1 i1 i2 hF
  obtain ⟨h1,h2⟩ := h
  rcases ho with rfl | rfl
  all_goals
   go_enter Tryz.func154,Tryz.ntmps154
   go_wp2_with (first | (go_at_call 164;refine (inside_any _ _ _ (by omega) (by omega)).mono ?_;rintro e w' ⟨rfl,rfl⟩))
   all_goals (go_ret;exact ⟨ret_int (by have := HX.out;simp_all [operandS]),xt⟩)
 ·have hin : insideS n (nv : Int) = 2 := insideS_out h
  have HS : Hid (operandS p f ⟨wh,kd⟩ n = 2) := by
   unfold Hid operandS
   have := HL.out
   by_cases h0 : 0 ≤ n
   ·rw [show p.vars[n.toNat]? = none from List.getElem?_eq_none (by omega)];rcases ho with rfl | rfl <;> simp
   ·rcases ho with rfl | rfl <;> simp [h0]
  clear hF h
  rcases ho with rfl | rfl
  all_goals
   go_enter Tryz.func154,Tryz.ntmps154
   go_wp2_with (first | (go_at_call 164;refine (inside_any _ _ _ (by omega) (by omega)).mono ?_;rintro e w' ⟨rfl,rfl⟩))
   all_goals (go_ret;exact ⟨ret_int (by rw [HS.out]),xt⟩)
theorem operand_objs (p : Prg) (f : Fnc) (o : Opd) (n : Int) (V : Value) (w : World) (hV : RCk w p f V) (ho : o.what = 12) :
  Calls Tryz.prog 154 #[V,.agg #[.int .i64 o.what,.int .i64 o.kind],.int .i64 n] w fun e w' => e = .returned (.int .i64 (operandS p f o n)) ∧ Ext w w' := by
 obtain ⟨Af,nf,cf,Ao,no,co,Av,nv,cv,Ac,nc,cc,rfl,_,hF,_,_⟩ := hV
 have hFl := hF.le
 have HL := Lib.hid hF.len
 obtain ⟨wh,kd⟩ := o
 dsimp only at ho ⊢
 subst ho
 by_cases h : 0 ≤ n ∧ n < (no : Int)
 ·have hin : insideS n (no : Int) = 0 := insideS_in h
  obtain ⟨x,hx⟩ : ∃ x,p.objs[n.toNat]? = some x := ⟨_,List.getElem?_eq_getElem (by have := HL.out;omega)⟩
  obtain ⟨b,off,rfl,hlb,i1,i2,i3,i4,c0,c1,c2,c3⟩ := hF.ob hx
  have HX := Lib.hid hx
  clear hx c0 c2 c3 i1 i2 i3 i4 hF
  obtain ⟨h1,h2⟩ := h
  go_enter Tryz.func154,Tryz.ntmps154
  go_wp2_with (first | (go_at_call 164;refine (inside_any _ _ _ (by omega) (by omega)).mono ?_;rintro e w' ⟨rfl,rfl⟩))
  go_quiet (fail)
  go_wp2
  all_goals (go_ret;exact ⟨ret_int (by have := HX.out;simp_all [operandS]),xt⟩)
 ·have hin : insideS n (no : Int) = 2 := insideS_out h
  have HS : Hid (operandS p f ⟨12,kd⟩ n = 2) := by
   unfold Hid operandS
   have := HL.out
   by_cases h0 : 0 ≤ n
   ·rw [show p.objs[n.toNat]? = none from List.getElem?_eq_none (by omega)];simp
   ·simp [h0]
  clear hF h
  go_enter Tryz.func154,Tryz.ntmps154
  go_wp2_with (first | (go_at_call 164;refine (inside_any _ _ _ (by omega) (by omega)).mono ?_;rintro e w' ⟨rfl,rfl⟩))
  go_quiet (fail)
  go_wp2
  all_goals (go_ret;exact ⟨ret_int (by rw [HS.out]),xt⟩)
theorem operand_any (p : Prg) (f : Fnc) (o : Opd) (n : Int) (V : Value) (w : World) (hV : RCk w p f V) (hn : InR n) (hr : 0 ≤ f.regs ∧ f.regs ≤ 32) (ho : 0 ≤ o.what ∧ o.what ≤ 12) :
  Calls Tryz.prog 154 #[V,.agg #[.int .i64 o.what,.int .i64 o.kind],.int .i64 n] w fun e w' => e = .returned (.int .i64 (operandS p f o n)) ∧ Ext w w' := by
 have h : (o.what = 0 ∨ o.what = 1 ∨ o.what = 2) ∨ (o.what = 3 ∨ o.what = 4 ∨ o.what = 6) ∨ o.what = 5 ∨ o.what = 7 ∨ (o.what = 8 ∨ o.what = 9) ∨ (o.what = 10 ∨ o.what = 11) ∨ o.what = 12 := by omega
 rcases h with h | h | h | h | h | h | h
 ·exact operand_low p f o n V w hV h
 ·exact operand_regs p f o n V w hV hr h
 ·exact operand_opt p f o n V w hV hn hr h
 ·exact operand_close p f o n V w hV h
 ·exact operand_funcs p f o n V w hV h
 ·exact operand_vars p f o n V w hV h
 ·exact operand_objs p f o n V w hV h
def nmOk (i : Nat) (c : Int) : Prop := (97 ≤ c ∧ c ≤ 122) ∨ (i ≠ 0 ∧ ((48 ≤ c ∧ c ≤ 57) ∨ c = 95))
instance (i : Nat) (c : Int) : Decidable (nmOk i c) := by unfold nmOk;infer_instance
def nmAt (s : ByteArray) (i : Nat) : Prop := nmOk i (s.data.toList.getD i 0).toNat
instance (s : ByteArray) (i : Nat) : Decidable (nmAt s i) := by unfold nmAt;infer_instance
def nmB (s : ByteArray) : Bool := decide (1 ≤ (s.size : Int)) && decide ((s.size : Int) ≤ 30) && (List.range s.size).all fun i => decide (nmAt s i)
theorem nmB_false {s : ByteArray} {k : Nat} (hk : k < s.size) (h : ¬ nmAt s k) : nmB s = false := by
 unfold nmB
 rw [show ((List.range s.size).all fun i => decide (nmAt s i)) = false from List.all_eq_false.2 ⟨k,List.mem_range.2 hk,by simp [h]⟩]
 simp
theorem nmB_end {s : ByteArray} (h : ∀ j,j < s.size → nmAt s j) : nmB s = (decide (1 ≤ (s.size : Int)) && decide ((s.size : Int) ≤ 30)) := by
 unfold nmB
 rw [List.all_eq_true.2 fun j hj => by simpa using h j (List.mem_range.1 hj)]
 simp
theorem nmB_size {s : ByteArray} (h : ¬ (1 ≤ (s.size : Int) ∧ (s.size : Int) ≤ 30)) : nmB s = false := by
 unfold nmB
 rw [Bool.and_eq_false_iff]
 left
 simp;omega
theorem run_convert_program {w : World} {s : ByteArray} : (convert 9 159 (.string s)).run Tryz.prog w = .ok (.slice (some ⟨w.heap.size,0,none⟩) s.size (grownCap w s.size 0 5)) (Lib.bytesWorld w 5 s) :=
 Lib.run_convert_string_bytes w _ _ _ s Tryz.underlying9 Tryz.underlying159 Tryz.underlying5
theorem Ext.bytesWorld (w : World) (e : TypeId) (s : ByteArray) : Ext w (Lib.bytesWorld w e s) :=
 ⟨rfl,rfl,rfl,by rw [Lib.bytesWorld_size];omega,fun k hk => Lib.bytesWorld_at_old w e s k hk⟩
theorem isName_any (s : ByteArray) (w : World) (hs : s.size ≤ 140737488355328) :
  Calls Tryz.prog 106 #[.string s] w fun e w' => e = .returned (.bool (nmB s)) ∧ Ext w w' := by
 have hconv := fun w => run_convert_program (w := w) (s := s)
 have hcell := fun k (h : k < s.size) => Lib.bytesWorld_cell w 5 s k h
 have HX : Hid (Ext w (Lib.bytesWorld w 5 s)) := Ext.bytesWorld w _ s
 generalize grownCap w s.size 0 5 = cp at hconv
 go_enter Tryz.func106,Tryz.ntmps106
 go_wp2
 generalize Lib.bytesWorld w 5 s = wb at hcell HX ⊢
 go_loop [9] (fun i => ∃ k : Nat,k ≤ s.size ∧ i = .int .i64 k ∧ Hid (∀ j,j < k → nmAt s j)) (fun i => s.size - (intOf i).toNat)
 case atStart => exact ⟨0,Nat.zero_le _,rfl,fun j hj => absurd hj (Nat.not_lt_zero _)⟩
 case round =>
  obtain ⟨k,hk,rfl,HP⟩ := hrel
  by_cases hlt : k < s.size
  ·have hltz : (k : Int) < (s.size : Int) := by omega
   have hck := hcell k hlt
   have HT : Hid (nmAt s k = nmOk k (s.data.toList.getD k 0).toNat) := rfl
   generalize (s.data.toList.getD k 0).toNat = c at hck HT
   clear hcell hconv
   have hkb : (((k : Int) == 0) = true ∧ Hid (k = 0)) ∨ (((k : Int) == 0) = false ∧ Hid (k ≠ 0)) := by
    by_cases h : k = 0
    ·exact .inl ⟨by simp [h],h⟩
    ·exact .inr ⟨by simp [h],h⟩
   rcases hkb with ⟨hkb,HK⟩ | ⟨hkb,HK⟩
   all_goals
    go_wp2
    all_goals try (go_ret;exact ⟨ret_bool (by rw [nmB_false hlt (by rw [HT.out];have := HK.out;unfold nmOk;(try simp at *);omega)]),HX.out⟩)
    all_goals go_round
    all_goals first | (simp [intOf];omega) | skip
    all_goals
     refine ⟨k + 1,by omega,by go_num,fun j hj => ?_⟩
     rcases Nat.lt_succ_iff_lt_or_eq.1 hj with h | rfl
     ·exact HP.out j h
     ·rw [HT.out];have := HK.out;unfold nmOk;(try simp at *);omega
  ·have hke : k = s.size := by omega
   subst hke
   clear hcell hconv
   go_wp2
   all_goals (go_ret;exact ⟨ret_bool (by rw [nmB_end HP.out];simp [*] <;> omega),HX.out⟩)
theorem loop_len (s : ByteArray) : ∀ (n i : Nat) (r : List UInt8),s.size - i = n → (ByteArray.toList.loop s i r).length = r.length + n := by
 intro n
 induction n with
 | zero => intro i r h;unfold ByteArray.toList.loop;rw [if_neg (by omega)];simp
 | succ n ih => intro i r h;unfold ByteArray.toList.loop;rw [if_pos (by omega),ih _ _ (by omega)];simp;omega
theorem toList_nil_iff (s : ByteArray) : s.toList = [] ↔ s.size = 0 := by
 have := loop_len s s.size 0 [] rfl
 unfold ByteArray.toList
 rw [← List.length_eq_zero_iff,this];simp
theorem refIsName_any (s : ByteArray) (w : World) (hs : s.size ≤ 140737488355328) :
  Calls Tryz.prog 119 #[.string s] w fun e w' => e = .returned (.bool (nmB s)) ∧ w = w' := by
 have hemp := toList_nil_iff s
 by_cases h0 : s.size = 0
 ·have h1 : s.toList = [] := hemp.2 h0
  have HZ : Hid (s.size = 0) := h0
  have hf : nmB s = false := nmB_size (by omega)
  clear h0 hemp
  go_enter Tryz.func119,Tryz.ntmps119
  go_wp2
  go_ret
  exact ⟨ret_bool (by rw [hf]),rfl⟩
 have h1 : s.toList.isEmpty = false := by simp [List.isEmpty_eq_false_iff,hemp,h0]
 clear hemp
 by_cases h30 : (30 : Int) < s.size
 ·have hf : nmB s = false := nmB_size (by omega)
  clear h0
  go_enter Tryz.func119,Tryz.ntmps119
  go_wp2
  go_ret
  exact ⟨ret_bool (by rw [hf]),rfl⟩
 have HF : Hid (∀ k,k < s.size → ¬ nmAt s k → nmB s = false) := fun k h1 h2 => nmB_false h1 h2
 have HE : Hid ((∀ j,j < s.size → nmAt s j) → nmB s = true) := fun h => by rw [nmB_end h];simp;omega
 have h0' : 1 ≤ s.size := by omega
 clear h0
 go_enter Tryz.func119,Tryz.ntmps119
 go_wp2
 go_loop [3] (fun i => ∃ k : Nat,k ≤ s.size ∧ i = .int .i64 k ∧ Hid (∀ j,j < k → nmAt s j)) (fun i => s.size - (intOf i).toNat)
 case atStart => exact ⟨0,Nat.zero_le _,rfl,fun j hj => absurd hj (Nat.not_lt_zero _)⟩
 case round =>
  obtain ⟨k,hk,rfl,HP⟩ := hrel
  by_cases hlt : k < s.size
  ·have hltz : (k : Int) < (s.size : Int) := by omega
   have HT : Hid (nmAt s k = nmOk k (s[k]'hlt).toNat) := by
    unfold Hid nmAt
    congr 2
    simp [List.getD,hlt];rfl
   have hkb : (((k : Int) == 0) = true ∧ Hid (k = 0)) ∨ (((k : Int) == 0) = false ∧ Hid (k ≠ 0)) := by
    by_cases h : k = 0
    ·exact .inl ⟨by simp [h],h⟩
    ·exact .inr ⟨by simp [h],h⟩
   rcases hkb with ⟨hkb,HK⟩ | ⟨hkb,HK⟩
   all_goals
    go_wp2
    all_goals try (go_ret;exact ⟨ret_bool (by rw [HF.out k hlt (by rw [HT.out];have := HK.out;unfold nmOk;(try simp at *);omega)]),rfl⟩)
    all_goals go_round
    all_goals first | (simp [intOf];omega) | skip
    all_goals
     refine ⟨k + 1,by omega,by go_num,fun j hj => ?_⟩
     rcases Nat.lt_succ_iff_lt_or_eq.1 hj with h | rfl
     ·exact HP.out j h
     ·rw [HT.out];have := HK.out;unfold nmOk;(try simp at *);omega
  ·have hke : k = s.size := by omega
   subst hke
   go_wp2
   go_ret
   exact ⟨ret_bool (by rw [HE.out HP.out]),rfl⟩
theorem indexInts (x : Int) (A : Option Addr) (n c : Nat) (xs : List Int) (w : World) (hs : RSl 1 RInt w A n xs) :
  Calls Tryz.prog 170 #[.slice A n c,.int .i64 x] w fun e w' => e = .returned (.int .i64 (idxFrom (fun y => x == y) xs 0)) ∧ w = w' := by
 have hle := hs.le
 have HL : Hid (n = xs.length) := hs.len
 go_enter Tryz.func170,Tryz.ntmps170
 go_wp2
 go_loopg [5,8] n (fun gg _ s8 wr => ∃ kk : Nat,kk ≤ n ∧ n - kk ≤ gg ∧ s8 = .int .i64 kk ∧ Hid (w = wr) ∧ Hid (idxFrom (fun y => x == y) xs 0 = idxFrom (fun y => x == y) (xs.drop kk) kk))
 case atStart => exact ⟨0,Nat.zero_le _,by omega,rfl,rfl,rfl⟩
 case round =>
  obtain ⟨kk,hkk,hg,rfl,HW,HI⟩ := hrel
  by_cases hlt : kk < n
  ·have hltz : (kk : Int) < (n : Int) := by omega
   have hx : ∃ y,xs[kk]? = some y := ⟨_,List.getElem?_eq_getElem (by have := HL.out;omega)⟩
   obtain ⟨y,hx⟩ := hx
   obtain ⟨b,off,rfl,hlb,hin,h0⟩ := hs.int hx
   rw [HW.out] at h0
   have HD : Hid (xs.drop kk = y :: xs.drop (kk + 1)) := drop_cons hx
   clear hlb hin hx hs
   cases hq : (x == y) with
   | true =>
    have HQ : Hid ((x == y) = true) := hq
    go_wp2
    go_ret
    exact ⟨ret_int (by rw [HI.out,HD.out,idxFrom,if_pos HQ.out]),HW.out⟩
   | false =>
    have HQ : Hid ((x == y) = false) := hq
    go_wp2
    go_roundg (n - (kk + 1))
    case measure => omega
    case rel => exact ⟨kk + 1,by omega,by omega,by go_num,HW.out,by rw [Hid,HI.out,HD.out,idxFrom,if_neg (by rw [HQ.out];decide)]⟩
  ·have hltz : ¬ (kk : Int) < (n : Int) := by omega
   clear hs
   go_wp2
   go_ret
   exact ⟨ret_int (by rw [HI.out,List.drop_eq_nil_of_le (by have := HL.out;omega)];rfl),HW.out⟩
theorem containsInts (x : Int) (A : Option Addr) (n c : Nat) (xs : List Int) (w : World) (hs : RSl 1 RInt w A n xs) :
  Calls Tryz.prog 163 #[.slice A n c,.int .i64 x] w fun e w' => e = .returned (.bool (xs.any fun y => x == y)) ∧ w = w' := by
 rw [← idxFrom_nonneg (fun y => x == y) xs 0]
 go_enter Tryz.func163,Tryz.ntmps163
 go_wp2_with (go_at_call 170;refine (indexInts x A n c xs _ hs).mono ?_;rintro e w' ⟨rfl,rfl⟩)
 go_ret
 exact ⟨rfl,rfl⟩
theorem RSl.newInts (w : World) (xs : List Int) (t : TypeId) (hn : xs.length ≤ 1000000) (hi : ∀ x ∈ xs,InR x) : RSl 1 RInt (w.alloc (.cells (xs.map (Value.int .i64)).toArray t)) (some ⟨w.heap.size,0,none⟩) xs.length xs := by
 refine ⟨rfl,by omega,fun k x hk => ⟨_,_,[.int .i64 x],rfl,rfl,⟨rfl,hi x (List.mem_of_getElem? hk)⟩,fun j v hj => ?_⟩⟩
 cases j with
 | zero =>
  simp only [List.getElem?_cons_zero,Option.some.injEq] at hj
  subst hj
  simp [World.cell?,World.alloc,hk,-World.alloc_eq]
 | succ j => simp at hj
def forbS (op : Int) : Bool := [15,17,18,19,34,35,36,37,42,43].any fun y => op == y
theorem forbidden_any (op : Int) (w : World) :
  Calls Tryz.prog 153 #[.int .i64 op] w fun e w' => e = .returned (.bool (forbS op)) ∧ Ext w w' := by
 have hs := RSl.newInts w [15,17,18,19,34,35,36,37,42,43] 3 (by simp) (by intro x hx;simp at hx;unfold InR;omega)
 have HS := Lib.hid hs
 clear hs
 go_enter Tryz.func153,Tryz.ntmps153
 go_wp2_with fail
 refine (containsInts op _ _ _ _ _ HS.out).mono ?_
 rintro e w' ⟨rfl,rfl⟩
 go_wp2
 go_ret
 exact ⟨ret_bool (by simp [forbS]),xt⟩
end Go.Proofs.YtcjjoabofecjmaaGreat
namespace Go.Proofs.YtcjjoabofecjmaaGreat
open Go.RowKit Go.Shelf
open Go.Value (int)
attribute [local go_sem] Oper.semAt_some
def chunkV (b off : Nat) {m : Nat} (k : Fin m) : Array Value := #[.slice (some ⟨b,off + k.1 * 3,none⟩) 3 3]
def ChunkKeeps (B2 B3 : Nat) (W W' : World) : Prop := W'.heap[B2]? = W.heap[B2]? ∧ W'.heap[B3]? = W.heap[B3]?
theorem chunk1_in (m B2 B3 b off cap : Nat) (l : Nat) (J Jx : List (Fin m) → World → Prop) (hm : m * 3 ≤ 140737488355328) (hcap : m * 3 ≤ cap)
  (hY : ∀ pre x W,J pre W → pre.length < m → YieldAt Fence.wide 4 Tryz.prog l (chunkV b off x) W fun e W' =>
   (e = .returned (.bool true) ∧ J (pre ++ [x]) W' ∧ ChunkKeeps B2 B3 W W') ∨ (e = .returned (.bool false) ∧ Jx (pre ++ [x]) W'))
  (W : World) (h2 : W.cell? ⟨B2,0,none⟩ = some (.slice (some ⟨b,off,none⟩) (m * 3) cap)) (h3 : W.cell? ⟨B3,0,none⟩ = some (.int .i64 3)) (h0 : J [] W) (hJd : ∀ pre W n,J pre W → J pre (W.drewN n)) :
  CallsIn Fence.wide 5 Tryz.prog 172 #[.func (.yield l) #[] #[],.pointer (some ⟨B2,0,none⟩),.pointer (some ⟨B3,0,none⟩)] W fun e W' => (∃ v,e = .returned v) ∧
   ((∃ ys,ys = List.finRange m ∧ J ys W') ∨ (∃ pre,pre <+: List.finRange m ∧ Jx pre W')) := by
 have hro : Fence.wide.round = none := rfl
 have h6 : Fence.wide.fn 172 := trivial
 refine callsIn_of_wp Tryz.func172 rfl h6 ?_ hro
 simp only [Tryz.ntmps172,List.size_toArray,List.length_cons,List.length_nil,Nat.reduceAdd,Nat.reduceSub,Array.replicate_succ,Array.replicate_zero,List.push_toArray,List.append_toArray,List.nil_append,List.cons_append]
 gi_wp2
 gi_loopw [4] (fun i wr => ∃ k : Nat,k ≤ m ∧ i = .int .i64 (↑(k * 3) : Int) ∧ wr.cell? ⟨B2,0,none⟩ = some (.slice (some ⟨b,off,none⟩) (m * 3) cap) ∧ wr.cell? ⟨B3,0,none⟩ = some (.int .i64 3) ∧ J ((List.finRange m).take k) wr)
  (fun i _ => m * 3 - (intOf i).toNat)
 case atStart => exact ⟨0,Nat.zero_le _,rfl,h2,h3,by simpa using h0⟩
 case round =>
  obtain ⟨k,hk,rfl,hc2,hc3,hJs⟩ := hrel
  clear h0 h2 h3
  by_cases hlt : k < m
  ·have hltz : ((k * 3 : Nat) : Int) < ((m * 3 : Nat) : Int) := by omega
   have hsl : (k : Int) * 3 ≤ (m : Int) * 3 := by omega
   gi_wp2
   refine wpIn_wide.2 ?_
   go_quiet (fail)
   obtain ⟨fn,tmps,assign,body,hy,hR⟩ := hY ((List.finRange m).take k) ⟨k,hlt⟩ (wr.drewN nq) (hJd _ _ _ hJs) (by rw [List.length_take,List.length_finRange];omega)
   unfold chunkV at hy
   dsimp only at hy
   clear hY
   have HT : Hid ((List.finRange m).take k ++ [⟨k,hlt⟩] = (List.finRange m).take (k + 1)) := by
    unfold Hid
    rw [List.take_succ_eq_append_getElem (by rw [List.length_finRange];exact hlt),List.getElem_finRange];rfl
   gi_wp2
   refine hR.mono ?_
   rintro e W3 (⟨rfl,hJ3,hK2,hK3⟩ | ⟨rfl,hJx3⟩)
   ·have hc2' : W3.cell? ⟨B2,0,none⟩ = some (.slice (some ⟨b,off,none⟩) (m * 3) cap) := (World.cell?_of_block (w := wr.drewN nq) hK2).trans hc2
    have hc3' : W3.cell? ⟨B3,0,none⟩ = some (.int .i64 3) := (World.cell?_of_block (w := wr.drewN nq) hK3).trans hc3
    rw [HT.out] at hJ3
    have HJ := Lib.hid hJ3
    clear hJ3 hK2 hK3 hJs hy hc2 hc3 hJd
    gi_wp2
    exact ⟨⟨k + 1,by omega,by congr 1;omega,hc2',hc3',HJ.out⟩,by simp [intOf];omega⟩
   ·rw [HT.out] at hJx3
    have HJ := Lib.hid hJx3
    clear hJx3 hJs hy hc2 hc3 hJd
    gi_wp2
    refine bodyPost_ret (results_none rfl _ _ _) rfl ?_
    exact ⟨⟨_,rfl⟩,.inr ⟨_,List.take_prefix _ _,HJ.out⟩⟩
  ·have hke : k = m := by omega
   subst hke
   gi_wp2
   go_end0
   exact ⟨⟨_,rfl⟩,.inl ⟨_,rfl,by simpa [List.take_of_length_le] using hJs⟩⟩
end Go.Proofs.YtcjjoabofecjmaaGreat
namespace Go.Proofs.YtcjjoabofecjmaaGreat
open Go.RowKit
open Go.Value (int)
def regB (f : Fnc) (n : Int) : Bool := inB n 0 (f.regs - 1)
theorem register_any (p : Prg) (f : Fnc) (n : Int) (V : Value) (w : World) (hV : RCk w p f V) (hr : 0 ≤ f.regs ∧ f.regs ≤ 32) :
  Calls Tryz.prog 167 #[V,.int .i64 n] w fun e w' => e = .returned (.bool (regB f n)) ∧ Ext w w' := by
 obtain ⟨Af,nf,cf,Ao,no,co,Av,nv,cv,Ac,nc,cc,rfl,_,_,_,_⟩ := hV
 go_enter Tryz.func167,Tryz.ntmps167
 go_wp2_with (go_at_call 107;refine (within_any _ _ _ _).mono ?_;rintro e w' ⟨rfl,rfl⟩)
 go_ret
 exact ⟨rfl,xt⟩
theorem args1_pred (p : Prg) (f : Fnc) (B : Nat) (w : World) (xs : List Int) (hr : 0 ≤ f.regs ∧ f.regs ≤ 32)
  (hB : ∀ W,Ext w W → ∃ Af nf cf Ao no co Av nv cv Ac nc cc,RCk W p f (.agg #[.slice Af nf cf,.slice Ao no co,.slice Av nv cv,.string f.name,int .i64 f.params,int .i64 f.regs,int .i64 f.prio,.bool f.cleanup,.slice Ac nc cc]) ∧
   W.cell? ⟨B,0,none⟩ = some (.slice Af nf cf) ∧ W.cell? ⟨B,1,none⟩ = some (.slice Ao no co) ∧ W.cell? ⟨B,2,none⟩ = some (.slice Av nv cv) ∧ W.cell? ⟨B,3,none⟩ = some (.string f.name) ∧ W.cell? ⟨B,4,none⟩ = some (int .i64 f.params) ∧
   W.cell? ⟨B,5,none⟩ = some (int .i64 f.regs) ∧ W.cell? ⟨B,6,none⟩ = some (int .i64 f.prio) ∧ W.cell? ⟨B,7,none⟩ = some (.bool f.cleanup) ∧ W.cell? ⟨B,8,none⟩ = some (.slice Ac nc cc)) :
  PredOn Tryz.prog 166 #[.pointer (some ⟨B,0,none⟩)] (fun cs => cs.headD undef) RInt w xs (fun n => !regB f n) := by
 intro W k x cs hW hx hR
 obtain ⟨rfl,hin⟩ := hR
 obtain ⟨Af,nf,cf,Ao,no,co,Av,nv,cv,Ac,nc,cc,hV,c0,c1,c2,c3,c4,c5,c6,c7,c8⟩ := hB W hW
 clear hB hx hW
 simp only [List.headD_cons,List.push_toArray,List.append_toArray,List.cons_append,List.nil_append]
 clear w
 obtain ⟨w,hw⟩ : ∃ w,w = W := ⟨_,rfl⟩
 subst hw
 go_enter Tryz.func166,Tryz.ntmps166
 go_wp2_with (go_at_call 167;refine (register_any p f _ _ _ (hV.mono xt) hr).mono ?_;rintro e w1 ⟨rfl,hb⟩;obtain ⟨hc,hf,hs,he⟩ := Ext.use (w := w) hb xt;clear hb;(try simp only [sA,sC,sD,sN] at hs))
 go_ret
 exact ⟨rfl,xt⟩
theorem chunk_any (A : Option Addr) (n c : Nat) (w : World) :
  Calls Tryz.prog 171 #[.slice A n c,.int .i64 3] w fun e w' => e = .returned (.func (.func 172) #[] #[.pointer (some ⟨w.heap.size,0,none⟩),.pointer (some ⟨w.heap.size + 1,0,none⟩)]) ∧
   (w.alloc (.cells #[.slice A n c] 35)).alloc (.cells #[.int .i64 3] 3) = w' := by
 have hmf : ∀ (fn : Go.Fn) (first cap : Array Value) (w : World),(Instr.makeFunc fn first cap).run Tryz.prog w = .ok (.func fn first cap) w := fun _ _ _ _ => rfl
 go_enter Tryz.func171,Tryz.ntmps171
 go_wp2
 go_ret
 exact ⟨rfl,rfl⟩
end Go.Proofs.YtcjjoabofecjmaaGreat

