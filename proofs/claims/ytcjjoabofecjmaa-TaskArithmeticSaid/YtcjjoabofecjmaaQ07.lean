/- A part of the proof: checker.instr of package program. -/
import Derived.Test.YtcjjoabofecjmaaQ04
import Derived.Test.YtcjjoabofecjmaaQ05
import Derived.Test.YtcjjoabofecjmaaQ06
import Derived.LoopN
set_option linter.unusedVariables false
set_option linter.unusedSimpArgs false
set_option maxHeartbeats 16000000
namespace Go.Proofs.Ytcjjoabofecjmaa
open Go.RowKit
open Go.Value (int)
attribute [local go_sem] Oper.semAt_some
def opsS (p : Prg) (f : Fnc) (s : Shp) (x : Ins) : Int :=
 if operandS p f s.a x.a ≠ 0 then operandS p f s.a x.a else if operandS p f s.b x.b ≠ 0 then operandS p f s.b x.b else operandS p f s.c x.c
def clashS (x : Ins) : Bool := (x.op == 65 && x.a == x.c) || (x.op == 67 && ((x.a == x.b) || (x.a == x.c) || (x.b == x.c)))
def instrS (p : Prg) (f : Fnc) (x : Ins) : Int :=
 if (shapeS x.op).isSome = false then 8
 else if f.cleanup = true ∧ forbS x.op = true then 16
 else if opsS p f (sS x.op) x ≠ 0 then opsS p f (sS x.op) x
 else if argsS p f (sS x.op).args x ≠ 0 then argsS p f (sS x.op).args x
 else if clashS x then 16 else 0
def okShp (s : Shp) : Bool := decide (0 ≤ s.a.what ∧ s.a.what ≤ 12 ∧ 0 ≤ s.b.what ∧ s.b.what ≤ 12 ∧ 0 ≤ s.c.what ∧ s.c.what ≤ 12) && (s.args == 0 || s.args == 3 || (s.args == 1 && (s.b.what == 8 || s.b.what == 9)) || s.args == 2)
theorem okShp_ite {c : Prop} [Decidable c] {a b : Option Shp} (h1 : okShp (a.getD shpZ) = true) (h2 : okShp (b.getD shpZ) = true) : okShp ((if c then a else b).getD shpZ) = true := by split <;> assumption
theorem okShp_s (op : Int) : okShp (sS op) = true := by
 unfold sS shapeS groupsS
 repeat' (refine okShp_ite ?_ ?_)
 all_goals rfl
theorem opsS_b {p : Prg} {f : Fnc} {s : Shp} {x : Ins} (h : opsS p f s x = 0) : operandS p f s.b x.b = 0 := by
 unfold opsS at h
 split at h
 ·contradiction
 ·split at h
  ·contradiction
  ·rename_i h1 h2;exact Decidable.not_not.1 h2
theorem operandS_fn {p : Prg} {f : Fnc} {o : Opd} {n : Int} (ho : o.what = 8 ∨ o.what = 9) (h : operandS p f o n = 0) : 0 ≤ n ∧ n < (p.funcs.length : Int) := by
 unfold operandS at h
 by_cases h0 : 0 ≤ n
 ·refine ⟨h0, ?_⟩
  rcases Nat.lt_or_ge n.toNat p.funcs.length with h1 | h1
  ·omega
  ·rw [show p.funcs[n.toNat]? = none from List.getElem?_eq_none h1] at h
   rcases ho with ho | ho <;> simp [ho,h0] at h
 ·rcases ho with ho | ho <;> simp [ho,h0] at h
theorem instr_any (p : Prg) (f : Fnc) (x : Ins) (V : Value) (A : Option Addr) (n c : Nat) (w : World) (hV : RCk w p f V) (hr : 0 ≤ f.regs ∧ f.regs ≤ 32) (i0 : InR x.op) (i1 : InR x.a) (i2 : InR x.b) (i3 : InR x.c) (hx : RSl 1 RInt w A n x.args) (hcap : n ≤ c) :
  Calls Try.prog 49 #[V,.agg #[int .i64 x.op,int .i64 x.a,int .i64 x.b,int .i64 x.c,.slice A n c]] w fun e w' => e = .returned (int .i64 (instrS p f x)) ∧ Ext w w' := by
 have hV' := hV
 obtain ⟨Af,nf,cf,Ao,no,co,Av,nv,cv,Ac,nc,cc,rfl,h1,h2,h3,h4⟩ := hV
 clear h1 h2 h3 h4
 have hs := okShp_s x.op
 have HI : Hid (instrS p f x = if (shapeS x.op).isSome = false then 8
  else if f.cleanup = true ∧ forbS x.op = true then 16
  else if opsS p f (sS x.op) x ≠ 0 then opsS p f (sS x.op) x
  else if argsS p f (sS x.op).args x ≠ 0 then argsS p f (sS x.op).args x
  else if clashS x then 16 else 0) := rfl
 obtain ⟨sh,hsh⟩ : ∃ sh,sS x.op = sh := ⟨_,rfl⟩
 have HS := Lib.hid hsh
 rw [hsh] at hs
 rw [hsh] at HI
 obtain ⟨⟨wa,ka⟩,⟨wb,kb⟩,⟨wc,kc⟩,wargs⟩ := sh
 simp only [okShp,Bool.and_eq_true,Bool.or_eq_true,decide_eq_true_eq,beq_iff_eq] at hs
 obtain ⟨⟨ha1,ha2,hb1,hb2,hc1,hc2⟩,hargs⟩ := hs
 have HSH := shapeOf_any x.op
 rw [hsh] at HSH
 obtain ⟨ea,HEA⟩ : ∃ e,Hid (operandS p f ⟨wa,ka⟩ x.a = e) := ⟨_,rfl⟩
 obtain ⟨eb,HEB⟩ : ∃ e,Hid (operandS p f ⟨wb,kb⟩ x.b = e) := ⟨_,rfl⟩
 obtain ⟨ec,HEC⟩ : ∃ e,Hid (operandS p f ⟨wc,kc⟩ x.c = e) := ⟨_,rfl⟩
 obtain ⟨eg,HEG⟩ : ∃ e,Hid (argsS p f wargs x = e) := ⟨_,rfl⟩
 have HO : Hid (opsS p f ⟨⟨wa,ka⟩,⟨wb,kb⟩,⟨wc,kc⟩,wargs⟩ x = if ea ≠ 0 then ea else if eb ≠ 0 then eb else ec) := by
  unfold Hid opsS
  rw [← HEA.out,← HEB.out,← HEC.out]
 have HA : ∀ (V : Value) (W : World),RCk W p f V → Calls Try.prog 84 #[V,.agg #[int .i64 wa,int .i64 ka],int .i64 x.a] W fun e w' => e = .returned (int .i64 ea) ∧ Ext W w' := fun V W hW => by
  rw [← HEA.out];exact operand_any p f ⟨wa,ka⟩ x.a V W hW i1 hr ⟨ha1,ha2⟩
 have HB : ∀ (V : Value) (W : World),RCk W p f V → Calls Try.prog 84 #[V,.agg #[int .i64 wb,int .i64 kb],int .i64 x.b] W fun e w' => e = .returned (int .i64 eb) ∧ Ext W w' := fun V W hW => by
  rw [← HEB.out];exact operand_any p f ⟨wb,kb⟩ x.b V W hW i2 hr ⟨hb1,hb2⟩
 have HC : ∀ (V : Value) (W : World),RCk W p f V → Calls Try.prog 84 #[V,.agg #[int .i64 wc,int .i64 kc],int .i64 x.c] W fun e w' => e = .returned (int .i64 ec) ∧ Ext W w' := fun V W hW => by
  rw [← HEC.out];exact operand_any p f ⟨wc,kc⟩ x.c V W hW i3 hr ⟨hc1,hc2⟩
 have HG : eb = 0 → ∀ (V : Value) (W : World),RCk W p f V → RSl 1 RInt W A n x.args → Calls Try.prog 85 #[V,int .i64 wargs,.agg #[int .i64 x.op,int .i64 x.a,int .i64 x.b,int .i64 x.c,.slice A n c]] W fun e w' => e = .returned (int .i64 eg) ∧ Ext W w' := fun h0 V W hW hxW => by
  rw [← HEG.out]
  refine args_any p f x V wargs A n c W hW hr hxW hcap (by omega) (fun h1 => operandS_fn (o := ⟨wb,kb⟩) (by simp only;omega) (HEB.out.trans h0))
 clear ha1 ha2 hb1 hb2 hc1 hc2 hargs i0 i1 i2 i3 hsh
 cases hcl : f.cleanup with
 | false =>
  rw [hcl] at hV' HI
  go_enter Try.func49,Try.ntmps49
  go_wp2_with (first | (go_at_call 79;refine (HSH _).mono ?_;rintro e w1 ⟨rfl,hb⟩;obtain ⟨hc,hf,hs,he⟩ := Ext.use (w := w) hb xt;clear hb;(try simp only [sA,sC,sD,sN] at hs)) | (go_at_call 83;refine (forbidden_any x.op _).mono ?_;rintro e w2 ⟨rfl,hb⟩;obtain ⟨hc2,hf2,hs2,he2⟩ := Ext.use (w := w1) hb xt;clear hb;(try simp only [sA,sC,sD,sN] at hs2)))
  all_goals try (go_ret;refine ⟨ret_int (by rw [HI.out];simp_all), ?_⟩;first | ((repeat' (first | with_reducible assumption | with_reducible exact Ext.refl _ | with_reducible refine Ext.alloc ?_ _ | with_reducible refine Ext.drew ?_ | with_reducible refine Ext.drewN ?_ _ | with_reducible refine Ext.regrown ?_ _ _ | with_reducible refine Ext.setCell ?_ (by first | (simp;done) | (simp;omega)) _));done) | exact Ext.trans he he2)
  obtain ⟨kw1_0,kw1_1,kw1_2,kw1_3,kw1_4,kw1_5,kw1_6,kw1_7,kw1_8,kw1_9,kw1_10,kw1_11⟩ : w1.cell? ⟨w.heap.size,0,none⟩ = some (.slice Af nf cf) ∧ w1.cell? ⟨w.heap.size,1,none⟩ = some (.slice Ao no co) ∧ w1.cell? ⟨w.heap.size,2,none⟩ = some (.slice Av nv cv) ∧ w1.cell? ⟨w.heap.size,3,none⟩ = some (.string f.name) ∧ w1.cell? ⟨w.heap.size,4,none⟩ = some (int .i64 f.params) ∧ w1.cell? ⟨w.heap.size,5,none⟩ = some (int .i64 f.regs) ∧ w1.cell? ⟨w.heap.size,6,none⟩ = some (int .i64 f.prio) ∧ w1.cell? ⟨w.heap.size,7,none⟩ = some (.bool false) ∧ w1.cell? ⟨w.heap.size,8,none⟩ = some (.slice Ac nc cc) ∧ w1.cell? ⟨w.heap.size + 1,1,none⟩ = some (int .i64 x.a) ∧ w1.cell? ⟨w.heap.size + 1,2,none⟩ = some (int .i64 x.b) ∧ w1.cell? ⟨w.heap.size + 1,3,none⟩ = some (int .i64 x.c) := by (refine ⟨?_, ?_, ?_, ?_, ?_, ?_, ?_, ?_, ?_, ?_, ?_, ?_⟩ <;> (rw [hc];simp [go_sem]))
  refine wp_loop_rounds 4 ?_
  rw [rounds_succ]
  go_wp2
  refine wp_region_th 13 (fun W' => Ext w W' ∧ W'.cell? ⟨w.heap.size,0,none⟩ = some (.slice Af nf cf) ∧ W'.cell? ⟨w.heap.size,1,none⟩ = some (.slice Ao no co) ∧ W'.cell? ⟨w.heap.size,2,none⟩ = some (.slice Av nv cv) ∧ W'.cell? ⟨w.heap.size,3,none⟩ = some (.string f.name) ∧ W'.cell? ⟨w.heap.size,4,none⟩ = some (int .i64 f.params) ∧ W'.cell? ⟨w.heap.size,5,none⟩ = some (int .i64 f.regs) ∧ W'.cell? ⟨w.heap.size,6,none⟩ = some (int .i64 f.prio) ∧ W'.cell? ⟨w.heap.size,7,none⟩ = some (.bool false) ∧ W'.cell? ⟨w.heap.size,8,none⟩ = some (.slice Ac nc cc) ∧ W'.cell? ⟨w.heap.size + 1,1,none⟩ = some (int .i64 x.a) ∧ W'.cell? ⟨w.heap.size + 1,2,none⟩ = some (int .i64 x.b) ∧ W'.cell? ⟨w.heap.size + 1,3,none⟩ = some (int .i64 x.c) ∧ W'.cell? ⟨w1.heap.size + 1 + 1,0,none⟩ = some (int .i64 wa) ∧ W'.cell? ⟨w1.heap.size + 1 + 1,1,none⟩ = some (int .i64 ka)) (by kernel_rfl) (by kernel_rfl) (by kernel_rfl) (by kernel_rfl) (by decide) ?_ ?_
  ·((repeat' (with_reducible apply And.intro)) <;> first | ((repeat' (first | with_reducible assumption | with_reducible exact Ext.refl _ | with_reducible refine Ext.alloc ?_ _ | with_reducible refine Ext.drew ?_ | with_reducible refine Ext.drewN ?_ _ | with_reducible refine Ext.regrown ?_ _ _ | with_reducible refine Ext.setCell ?_ (by first | (simp;done) | (simp;omega)) _));done) | ((first | refine Ext.trans (by assumption) ?_ | refine Ext.cell ?_ (by assumption));((repeat' (first | with_reducible assumption | with_reducible exact Ext.refl _ | with_reducible refine Ext.alloc ?_ _ | with_reducible refine Ext.drew ?_ | with_reducible refine Ext.drewN ?_ _ | with_reducible refine Ext.regrown ?_ _ _ | with_reducible refine Ext.setCell ?_ (by first | (simp;done) | (simp;omega)) _));done)) | (go_simp;done))
  intro hT hHeld
  (refine tht 0 hT ?_;(try simp only [Act.put,aset,dZ,dS]);refine tht 1 hT ?_;(try simp only [Act.put,aset,dZ,dS]);refine tht 2 hT ?_;(try simp only [Act.put,aset,dZ,dS]);refine tht 3 hT ?_;(try simp only [Act.put,aset,dZ,dS]);refine tht 4 hT ?_;(try simp only [Act.put,aset,dZ,dS]);refine tht 5 hT ?_;(try simp only [Act.put,aset,dZ,dS]);refine tht 6 hT ?_;(try simp only [Act.put,aset,dZ,dS]);refine tht 7 hT ?_;(try simp only [Act.put,aset,dZ,dS]);refine tht 9 hT ?_;(try simp only [Act.put,aset,dZ,dS]))
  refine tst 8 (fun K hK => ?_)
  go_simp
  refine hK.out _ _ ?_ (fun hHeld => ?_)
  ·((repeat' (with_reducible apply And.intro)) <;> first | ((repeat' (first | with_reducible assumption | with_reducible exact Ext.refl _ | with_reducible refine Ext.alloc ?_ _ | with_reducible refine Ext.drew ?_ | with_reducible refine Ext.drewN ?_ _ | with_reducible refine Ext.regrown ?_ _ _ | with_reducible refine Ext.setCell ?_ (by first | (simp;done) | (simp;omega)) _));done) | ((first | refine Ext.trans (by assumption) ?_ | refine Ext.cell ?_ (by assumption));((repeat' (first | with_reducible assumption | with_reducible exact Ext.refl _ | with_reducible refine Ext.alloc ?_ _ | with_reducible refine Ext.drew ?_ | with_reducible refine Ext.drewN ?_ _ | with_reducible refine Ext.regrown ?_ _ _ | with_reducible refine Ext.setCell ?_ (by first | (simp;done) | (simp;omega)) _));done)) | (go_simp;done))
  clear hK K
  (try simp only [Act.put,aset,dZ,dS])
  (refine tht 10 hT ?_;(try simp only [Act.put,aset,dZ,dS]))
  refine tst 11 (fun K hK => ?_)
  go_simp
  refine hK.out _ _ hHeld (fun hHeld => ?_)
  clear hK K
  (try simp only [Act.put,aset,dZ,dS])
  refine tst 12 (fun K hK => ?_)
  go_simp
  (go_at_call 84;refine (HA _ _ (hV'.mono xt)).mono ?_;rintro e w3 ⟨rfl,hb⟩;obtain ⟨hc3,hf3,hs3,he3⟩ := Ext.use (w := w1) hb xt;clear hb;(try simp only [sA,sC,sD,sN] at hs3))
  dsimp only
  refine hK.out _ _ ?_ (fun hHeld => ?_)
  ·((repeat' (with_reducible apply And.intro)) <;> first | ((repeat' (first | with_reducible assumption | with_reducible exact Ext.refl _ | with_reducible refine Ext.alloc ?_ _ | with_reducible refine Ext.drew ?_ | with_reducible refine Ext.drewN ?_ _ | with_reducible refine Ext.regrown ?_ _ _ | with_reducible refine Ext.setCell ?_ (by first | (simp;done) | (simp;omega)) _));done) | ((first | refine Ext.trans (by assumption) ?_ | refine Ext.cell ?_ (by assumption));((repeat' (first | with_reducible assumption | with_reducible exact Ext.refl _ | with_reducible refine Ext.alloc ?_ _ | with_reducible refine Ext.drew ?_ | with_reducible refine Ext.drewN ?_ _ | with_reducible refine Ext.regrown ?_ _ _ | with_reducible refine Ext.setCell ?_ (by first | (simp;done) | (simp;omega)) _));done)) | (go_simp;done))
  clear hK K
  (try simp only [Act.put,aset,dZ,dS])
  clear hT hHeld
  refine th_done (by kernel_rfl) ?_
  simp only [List.drop_succ_cons,List.drop_zero]
  have he3' := he3
  have he3 := Ext.trans he he3
  have kw3_0 := he3'.cell kw1_0
  have kw3_1 := he3'.cell kw1_1
  have kw3_2 := he3'.cell kw1_2
  have kw3_3 := he3'.cell kw1_3
  have kw3_4 := he3'.cell kw1_4
  have kw3_5 := he3'.cell kw1_5
  have kw3_6 := he3'.cell kw1_6
  have kw3_7 := he3'.cell kw1_7
  have kw3_8 := he3'.cell kw1_8
  have kw3_9 := he3'.cell kw1_9
  have kw3_10 := he3'.cell kw1_10
  have kw3_11 := he3'.cell kw1_11
  go_wp2
  ·go_ret;exact ⟨ret_int (by rw [HI.out,HO.out];simp_all),xt⟩
  rw [rounds_succ]
  go_wp2
  refine wp_region_th 13 (fun W' => Ext w W' ∧ W'.cell? ⟨w.heap.size,0,none⟩ = some (.slice Af nf cf) ∧ W'.cell? ⟨w.heap.size,1,none⟩ = some (.slice Ao no co) ∧ W'.cell? ⟨w.heap.size,2,none⟩ = some (.slice Av nv cv) ∧ W'.cell? ⟨w.heap.size,3,none⟩ = some (.string f.name) ∧ W'.cell? ⟨w.heap.size,4,none⟩ = some (int .i64 f.params) ∧ W'.cell? ⟨w.heap.size,5,none⟩ = some (int .i64 f.regs) ∧ W'.cell? ⟨w.heap.size,6,none⟩ = some (int .i64 f.prio) ∧ W'.cell? ⟨w.heap.size,7,none⟩ = some (.bool false) ∧ W'.cell? ⟨w.heap.size,8,none⟩ = some (.slice Ac nc cc) ∧ W'.cell? ⟨w.heap.size + 1,1,none⟩ = some (int .i64 x.a) ∧ W'.cell? ⟨w.heap.size + 1,2,none⟩ = some (int .i64 x.b) ∧ W'.cell? ⟨w.heap.size + 1,3,none⟩ = some (int .i64 x.c) ∧ W'.cell? ⟨w3.heap.size,0,none⟩ = some (int .i64 wb) ∧ W'.cell? ⟨w3.heap.size,1,none⟩ = some (int .i64 kb)) (by kernel_rfl) (by kernel_rfl) (by kernel_rfl) (by kernel_rfl) (by decide) ?_ ?_
  ·((repeat' (with_reducible apply And.intro)) <;> first | ((repeat' (first | with_reducible assumption | with_reducible exact Ext.refl _ | with_reducible refine Ext.alloc ?_ _ | with_reducible refine Ext.drew ?_ | with_reducible refine Ext.drewN ?_ _ | with_reducible refine Ext.regrown ?_ _ _ | with_reducible refine Ext.setCell ?_ (by first | (simp;done) | (simp;omega)) _));done) | ((first | refine Ext.trans (by assumption) ?_ | refine Ext.cell ?_ (by assumption));((repeat' (first | with_reducible assumption | with_reducible exact Ext.refl _ | with_reducible refine Ext.alloc ?_ _ | with_reducible refine Ext.drew ?_ | with_reducible refine Ext.drewN ?_ _ | with_reducible refine Ext.regrown ?_ _ _ | with_reducible refine Ext.setCell ?_ (by first | (simp;done) | (simp;omega)) _));done)) | (go_simp;done))
  intro hT hHeld
  (refine tht 0 hT ?_;(try simp only [Act.put,aset,dZ,dS]);refine tht 1 hT ?_;(try simp only [Act.put,aset,dZ,dS]);refine tht 2 hT ?_;(try simp only [Act.put,aset,dZ,dS]);refine tht 3 hT ?_;(try simp only [Act.put,aset,dZ,dS]);refine tht 4 hT ?_;(try simp only [Act.put,aset,dZ,dS]);refine tht 5 hT ?_;(try simp only [Act.put,aset,dZ,dS]);refine tht 6 hT ?_;(try simp only [Act.put,aset,dZ,dS]);refine tht 7 hT ?_;(try simp only [Act.put,aset,dZ,dS]);refine tht 9 hT ?_;(try simp only [Act.put,aset,dZ,dS]))
  refine tst 8 (fun K hK => ?_)
  go_simp
  refine hK.out _ _ ?_ (fun hHeld => ?_)
  ·((repeat' (with_reducible apply And.intro)) <;> first | ((repeat' (first | with_reducible assumption | with_reducible exact Ext.refl _ | with_reducible refine Ext.alloc ?_ _ | with_reducible refine Ext.drew ?_ | with_reducible refine Ext.drewN ?_ _ | with_reducible refine Ext.regrown ?_ _ _ | with_reducible refine Ext.setCell ?_ (by first | (simp;done) | (simp;omega)) _));done) | ((first | refine Ext.trans (by assumption) ?_ | refine Ext.cell ?_ (by assumption));((repeat' (first | with_reducible assumption | with_reducible exact Ext.refl _ | with_reducible refine Ext.alloc ?_ _ | with_reducible refine Ext.drew ?_ | with_reducible refine Ext.drewN ?_ _ | with_reducible refine Ext.regrown ?_ _ _ | with_reducible refine Ext.setCell ?_ (by first | (simp;done) | (simp;omega)) _));done)) | (go_simp;done))
  clear hK K
  (try simp only [Act.put,aset,dZ,dS])
  (refine tht 10 hT ?_;(try simp only [Act.put,aset,dZ,dS]))
  refine tst 11 (fun K hK => ?_)
  go_simp
  refine hK.out _ _ hHeld (fun hHeld => ?_)
  clear hK K
  (try simp only [Act.put,aset,dZ,dS])
  refine tst 12 (fun K hK => ?_)
  go_simp
  (go_at_call 84;refine (HB _ _ (hV'.mono xt)).mono ?_;rintro e w4 ⟨rfl,hb⟩;obtain ⟨hc4,hf4,hs4,he4⟩ := Ext.use (w := w3) hb xt;clear hb;(try simp only [sA,sC,sD,sN] at hs4))
  dsimp only
  refine hK.out _ _ ?_ (fun hHeld => ?_)
  ·((repeat' (with_reducible apply And.intro)) <;> first | ((repeat' (first | with_reducible assumption | with_reducible exact Ext.refl _ | with_reducible refine Ext.alloc ?_ _ | with_reducible refine Ext.drew ?_ | with_reducible refine Ext.drewN ?_ _ | with_reducible refine Ext.regrown ?_ _ _ | with_reducible refine Ext.setCell ?_ (by first | (simp;done) | (simp;omega)) _));done) | ((first | refine Ext.trans (by assumption) ?_ | refine Ext.cell ?_ (by assumption));((repeat' (first | with_reducible assumption | with_reducible exact Ext.refl _ | with_reducible refine Ext.alloc ?_ _ | with_reducible refine Ext.drew ?_ | with_reducible refine Ext.drewN ?_ _ | with_reducible refine Ext.regrown ?_ _ _ | with_reducible refine Ext.setCell ?_ (by first | (simp;done) | (simp;omega)) _));done)) | (go_simp;done))
  clear hK K
  (try simp only [Act.put,aset,dZ,dS])
  clear hT hHeld
  refine th_done (by kernel_rfl) ?_
  simp only [List.drop_succ_cons,List.drop_zero]
  have he4' := he4
  have he4 := Ext.trans he3 he4
  have kw4_0 := he4'.cell kw3_0
  have kw4_1 := he4'.cell kw3_1
  have kw4_2 := he4'.cell kw3_2
  have kw4_3 := he4'.cell kw3_3
  have kw4_4 := he4'.cell kw3_4
  have kw4_5 := he4'.cell kw3_5
  have kw4_6 := he4'.cell kw3_6
  have kw4_7 := he4'.cell kw3_7
  have kw4_8 := he4'.cell kw3_8
  have kw4_9 := he4'.cell kw3_9
  have kw4_10 := he4'.cell kw3_10
  have kw4_11 := he4'.cell kw3_11
  go_wp2
  ·go_ret;exact ⟨ret_int (by rw [HI.out,HO.out];simp_all),xt⟩
  rw [rounds_succ]
  go_wp2
  refine wp_region_th 13 (fun W' => Ext w W' ∧ W'.cell? ⟨w.heap.size,0,none⟩ = some (.slice Af nf cf) ∧ W'.cell? ⟨w.heap.size,1,none⟩ = some (.slice Ao no co) ∧ W'.cell? ⟨w.heap.size,2,none⟩ = some (.slice Av nv cv) ∧ W'.cell? ⟨w.heap.size,3,none⟩ = some (.string f.name) ∧ W'.cell? ⟨w.heap.size,4,none⟩ = some (int .i64 f.params) ∧ W'.cell? ⟨w.heap.size,5,none⟩ = some (int .i64 f.regs) ∧ W'.cell? ⟨w.heap.size,6,none⟩ = some (int .i64 f.prio) ∧ W'.cell? ⟨w.heap.size,7,none⟩ = some (.bool false) ∧ W'.cell? ⟨w.heap.size,8,none⟩ = some (.slice Ac nc cc) ∧ W'.cell? ⟨w.heap.size + 1,1,none⟩ = some (int .i64 x.a) ∧ W'.cell? ⟨w.heap.size + 1,2,none⟩ = some (int .i64 x.b) ∧ W'.cell? ⟨w.heap.size + 1,3,none⟩ = some (int .i64 x.c) ∧ W'.cell? ⟨w4.heap.size,0,none⟩ = some (int .i64 wc) ∧ W'.cell? ⟨w4.heap.size,1,none⟩ = some (int .i64 kc)) (by kernel_rfl) (by kernel_rfl) (by kernel_rfl) (by kernel_rfl) (by decide) ?_ ?_
  ·((repeat' (with_reducible apply And.intro)) <;> first | ((repeat' (first | with_reducible assumption | with_reducible exact Ext.refl _ | with_reducible refine Ext.alloc ?_ _ | with_reducible refine Ext.drew ?_ | with_reducible refine Ext.drewN ?_ _ | with_reducible refine Ext.regrown ?_ _ _ | with_reducible refine Ext.setCell ?_ (by first | (simp;done) | (simp;omega)) _));done) | ((first | refine Ext.trans (by assumption) ?_ | refine Ext.cell ?_ (by assumption));((repeat' (first | with_reducible assumption | with_reducible exact Ext.refl _ | with_reducible refine Ext.alloc ?_ _ | with_reducible refine Ext.drew ?_ | with_reducible refine Ext.drewN ?_ _ | with_reducible refine Ext.regrown ?_ _ _ | with_reducible refine Ext.setCell ?_ (by first | (simp;done) | (simp;omega)) _));done)) | (go_simp;done))
  intro hT hHeld
  (refine tht 0 hT ?_;(try simp only [Act.put,aset,dZ,dS]);refine tht 1 hT ?_;(try simp only [Act.put,aset,dZ,dS]);refine tht 2 hT ?_;(try simp only [Act.put,aset,dZ,dS]);refine tht 3 hT ?_;(try simp only [Act.put,aset,dZ,dS]);refine tht 4 hT ?_;(try simp only [Act.put,aset,dZ,dS]);refine tht 5 hT ?_;(try simp only [Act.put,aset,dZ,dS]);refine tht 6 hT ?_;(try simp only [Act.put,aset,dZ,dS]);refine tht 7 hT ?_;(try simp only [Act.put,aset,dZ,dS]);refine tht 9 hT ?_;(try simp only [Act.put,aset,dZ,dS]))
  refine tst 8 (fun K hK => ?_)
  go_simp
  refine hK.out _ _ ?_ (fun hHeld => ?_)
  ·((repeat' (with_reducible apply And.intro)) <;> first | ((repeat' (first | with_reducible assumption | with_reducible exact Ext.refl _ | with_reducible refine Ext.alloc ?_ _ | with_reducible refine Ext.drew ?_ | with_reducible refine Ext.drewN ?_ _ | with_reducible refine Ext.regrown ?_ _ _ | with_reducible refine Ext.setCell ?_ (by first | (simp;done) | (simp;omega)) _));done) | ((first | refine Ext.trans (by assumption) ?_ | refine Ext.cell ?_ (by assumption));((repeat' (first | with_reducible assumption | with_reducible exact Ext.refl _ | with_reducible refine Ext.alloc ?_ _ | with_reducible refine Ext.drew ?_ | with_reducible refine Ext.drewN ?_ _ | with_reducible refine Ext.regrown ?_ _ _ | with_reducible refine Ext.setCell ?_ (by first | (simp;done) | (simp;omega)) _));done)) | (go_simp;done))
  clear hK K
  (try simp only [Act.put,aset,dZ,dS])
  (refine tht 10 hT ?_;(try simp only [Act.put,aset,dZ,dS]))
  refine tst 11 (fun K hK => ?_)
  go_simp
  refine hK.out _ _ hHeld (fun hHeld => ?_)
  clear hK K
  (try simp only [Act.put,aset,dZ,dS])
  refine tst 12 (fun K hK => ?_)
  go_simp
  (go_at_call 84;refine (HC _ _ (hV'.mono xt)).mono ?_;rintro e w5 ⟨rfl,hb⟩;obtain ⟨hc5,hf5,hs5,he5⟩ := Ext.use (w := w4) hb xt;clear hb;(try simp only [sA,sC,sD,sN] at hs5))
  dsimp only
  refine hK.out _ _ ?_ (fun hHeld => ?_)
  ·((repeat' (with_reducible apply And.intro)) <;> first | ((repeat' (first | with_reducible assumption | with_reducible exact Ext.refl _ | with_reducible refine Ext.alloc ?_ _ | with_reducible refine Ext.drew ?_ | with_reducible refine Ext.drewN ?_ _ | with_reducible refine Ext.regrown ?_ _ _ | with_reducible refine Ext.setCell ?_ (by first | (simp;done) | (simp;omega)) _));done) | ((first | refine Ext.trans (by assumption) ?_ | refine Ext.cell ?_ (by assumption));((repeat' (first | with_reducible assumption | with_reducible exact Ext.refl _ | with_reducible refine Ext.alloc ?_ _ | with_reducible refine Ext.drew ?_ | with_reducible refine Ext.drewN ?_ _ | with_reducible refine Ext.regrown ?_ _ _ | with_reducible refine Ext.setCell ?_ (by first | (simp;done) | (simp;omega)) _));done)) | (go_simp;done))
  clear hK K
  (try simp only [Act.put,aset,dZ,dS])
  clear hT hHeld
  refine th_done (by kernel_rfl) ?_
  simp only [List.drop_succ_cons,List.drop_zero]
  have he5' := he5
  have he5 := Ext.trans he4 he5
  have kw5_0 := he5'.cell kw4_0
  have kw5_1 := he5'.cell kw4_1
  have kw5_2 := he5'.cell kw4_2
  have kw5_3 := he5'.cell kw4_3
  have kw5_4 := he5'.cell kw4_4
  have kw5_5 := he5'.cell kw4_5
  have kw5_6 := he5'.cell kw4_6
  have kw5_7 := he5'.cell kw4_7
  have kw5_8 := he5'.cell kw4_8
  have kw5_9 := he5'.cell kw4_9
  have kw5_10 := he5'.cell kw4_10
  have kw5_11 := he5'.cell kw4_11
  go_wp2
  ·go_ret;exact ⟨ret_int (by rw [HI.out,HO.out];simp_all),xt⟩
  rw [rounds_succ]
  go_wp2_with (go_at_call 85;refine (HG (by simpa using (‹(eb != 0) = false› : (eb != 0) = false)) _ _ (hV'.mono xt) (hx.mono RInt.stays xt)).mono ?_;rintro e w1 ⟨rfl,hb⟩;obtain ⟨hc,hf,hs,he⟩ := Ext.use (w := w) hb xt;clear hb;(try simp only [sA,sC,sD,sN] at hs))
  all_goals (go_ret;exact ⟨ret_int (by have g1 := HI.out;have g2 := HO.out;have g3 := HEG.out;clear HA HB HC HG HSH;(clear kw1_0 kw1_1 kw1_2 kw1_3 kw1_4 kw1_5 kw1_6 kw1_7 kw1_8 kw1_9 kw1_10 kw1_11 kw3_0 kw3_1 kw3_2 kw3_3 kw3_4 kw3_5 kw3_6 kw3_7 kw3_8 kw3_9 kw3_10 kw3_11 kw4_0 kw4_1 kw4_2 kw4_3 kw4_4 kw4_5 kw4_6 kw4_7 kw4_8 kw4_9 kw4_10 kw4_11 kw5_0 kw5_1 kw5_2 kw5_3 kw5_4 kw5_5 kw5_6 kw5_7 kw5_8 kw5_9 kw5_10 kw5_11);(clear hc3 hf3 hs3 he3 he3' hc4 hf4 hs4 he4 he4' hc5 hf5 hs5 he5 he5');rw [g1,g2,g3];simp_all [clashS]),xt⟩)
 | true =>
  rw [hcl] at hV' HI
  go_enter Try.func49,Try.ntmps49
  go_wp2_with (first | (go_at_call 79;refine (HSH _).mono ?_;rintro e w1 ⟨rfl,hb⟩;obtain ⟨hc,hf,hs,he⟩ := Ext.use (w := w) hb xt;clear hb;(try simp only [sA,sC,sD,sN] at hs)) | (go_at_call 83;refine (forbidden_any x.op _).mono ?_;rintro e w2 ⟨rfl,hb⟩;obtain ⟨hc2,hf2,hs2,he2⟩ := Ext.use (w := w1) hb xt;clear hb;(try simp only [sA,sC,sD,sN] at hs2)))
  all_goals try (go_ret;refine ⟨ret_int (by rw [HI.out];simp_all), ?_⟩;first | ((repeat' (first | with_reducible assumption | with_reducible exact Ext.refl _ | with_reducible refine Ext.alloc ?_ _ | with_reducible refine Ext.drew ?_ | with_reducible refine Ext.drewN ?_ _ | with_reducible refine Ext.regrown ?_ _ _ | with_reducible refine Ext.setCell ?_ (by first | (simp;done) | (simp;omega)) _));done) | exact Ext.trans he he2)
  obtain ⟨kw1_0,kw1_1,kw1_2,kw1_3,kw1_4,kw1_5,kw1_6,kw1_7,kw1_8,kw1_9,kw1_10,kw1_11⟩ : w1.cell? ⟨w.heap.size,0,none⟩ = some (.slice Af nf cf) ∧ w1.cell? ⟨w.heap.size,1,none⟩ = some (.slice Ao no co) ∧ w1.cell? ⟨w.heap.size,2,none⟩ = some (.slice Av nv cv) ∧ w1.cell? ⟨w.heap.size,3,none⟩ = some (.string f.name) ∧ w1.cell? ⟨w.heap.size,4,none⟩ = some (int .i64 f.params) ∧ w1.cell? ⟨w.heap.size,5,none⟩ = some (int .i64 f.regs) ∧ w1.cell? ⟨w.heap.size,6,none⟩ = some (int .i64 f.prio) ∧ w1.cell? ⟨w.heap.size,7,none⟩ = some (.bool true) ∧ w1.cell? ⟨w.heap.size,8,none⟩ = some (.slice Ac nc cc) ∧ w1.cell? ⟨w.heap.size + 1,1,none⟩ = some (int .i64 x.a) ∧ w1.cell? ⟨w.heap.size + 1,2,none⟩ = some (int .i64 x.b) ∧ w1.cell? ⟨w.heap.size + 1,3,none⟩ = some (int .i64 x.c) := by (refine ⟨?_, ?_, ?_, ?_, ?_, ?_, ?_, ?_, ?_, ?_, ?_, ?_⟩ <;> (rw [hc];simp [go_sem]))
  have he2' := he2
  have he2 := he.trans he2'
  have kw2_0 := he2'.cell kw1_0
  have kw2_1 := he2'.cell kw1_1
  have kw2_2 := he2'.cell kw1_2
  have kw2_3 := he2'.cell kw1_3
  have kw2_4 := he2'.cell kw1_4
  have kw2_5 := he2'.cell kw1_5
  have kw2_6 := he2'.cell kw1_6
  have kw2_7 := he2'.cell kw1_7
  have kw2_8 := he2'.cell kw1_8
  have kw2_9 := he2'.cell kw1_9
  have kw2_10 := he2'.cell kw1_10
  have kw2_11 := he2'.cell kw1_11
  refine wp_loop_rounds 4 ?_
  rw [rounds_succ]
  go_wp2
  refine wp_region_th 13 (fun W' => Ext w W' ∧ W'.cell? ⟨w.heap.size,0,none⟩ = some (.slice Af nf cf) ∧ W'.cell? ⟨w.heap.size,1,none⟩ = some (.slice Ao no co) ∧ W'.cell? ⟨w.heap.size,2,none⟩ = some (.slice Av nv cv) ∧ W'.cell? ⟨w.heap.size,3,none⟩ = some (.string f.name) ∧ W'.cell? ⟨w.heap.size,4,none⟩ = some (int .i64 f.params) ∧ W'.cell? ⟨w.heap.size,5,none⟩ = some (int .i64 f.regs) ∧ W'.cell? ⟨w.heap.size,6,none⟩ = some (int .i64 f.prio) ∧ W'.cell? ⟨w.heap.size,7,none⟩ = some (.bool true) ∧ W'.cell? ⟨w.heap.size,8,none⟩ = some (.slice Ac nc cc) ∧ W'.cell? ⟨w.heap.size + 1,1,none⟩ = some (int .i64 x.a) ∧ W'.cell? ⟨w.heap.size + 1,2,none⟩ = some (int .i64 x.b) ∧ W'.cell? ⟨w.heap.size + 1,3,none⟩ = some (int .i64 x.c) ∧ W'.cell? ⟨w2.heap.size + 1,0,none⟩ = some (int .i64 wa) ∧ W'.cell? ⟨w2.heap.size + 1,1,none⟩ = some (int .i64 ka)) (by kernel_rfl) (by kernel_rfl) (by kernel_rfl) (by kernel_rfl) (by decide) ?_ ?_
  ·((repeat' (with_reducible apply And.intro)) <;> first | ((repeat' (first | with_reducible assumption | with_reducible exact Ext.refl _ | with_reducible refine Ext.alloc ?_ _ | with_reducible refine Ext.drew ?_ | with_reducible refine Ext.drewN ?_ _ | with_reducible refine Ext.regrown ?_ _ _ | with_reducible refine Ext.setCell ?_ (by first | (simp;done) | (simp;omega)) _));done) | ((first | refine Ext.trans (by assumption) ?_ | refine Ext.cell ?_ (by assumption));((repeat' (first | with_reducible assumption | with_reducible exact Ext.refl _ | with_reducible refine Ext.alloc ?_ _ | with_reducible refine Ext.drew ?_ | with_reducible refine Ext.drewN ?_ _ | with_reducible refine Ext.regrown ?_ _ _ | with_reducible refine Ext.setCell ?_ (by first | (simp;done) | (simp;omega)) _));done)) | (go_simp;done))
  intro hT hHeld
  (refine tht 0 hT ?_;(try simp only [Act.put,aset,dZ,dS]);refine tht 1 hT ?_;(try simp only [Act.put,aset,dZ,dS]);refine tht 2 hT ?_;(try simp only [Act.put,aset,dZ,dS]);refine tht 3 hT ?_;(try simp only [Act.put,aset,dZ,dS]);refine tht 4 hT ?_;(try simp only [Act.put,aset,dZ,dS]);refine tht 5 hT ?_;(try simp only [Act.put,aset,dZ,dS]);refine tht 6 hT ?_;(try simp only [Act.put,aset,dZ,dS]);refine tht 7 hT ?_;(try simp only [Act.put,aset,dZ,dS]);refine tht 9 hT ?_;(try simp only [Act.put,aset,dZ,dS]))
  refine tst 8 (fun K hK => ?_)
  go_simp
  refine hK.out _ _ ?_ (fun hHeld => ?_)
  ·((repeat' (with_reducible apply And.intro)) <;> first | ((repeat' (first | with_reducible assumption | with_reducible exact Ext.refl _ | with_reducible refine Ext.alloc ?_ _ | with_reducible refine Ext.drew ?_ | with_reducible refine Ext.drewN ?_ _ | with_reducible refine Ext.regrown ?_ _ _ | with_reducible refine Ext.setCell ?_ (by first | (simp;done) | (simp;omega)) _));done) | ((first | refine Ext.trans (by assumption) ?_ | refine Ext.cell ?_ (by assumption));((repeat' (first | with_reducible assumption | with_reducible exact Ext.refl _ | with_reducible refine Ext.alloc ?_ _ | with_reducible refine Ext.drew ?_ | with_reducible refine Ext.drewN ?_ _ | with_reducible refine Ext.regrown ?_ _ _ | with_reducible refine Ext.setCell ?_ (by first | (simp;done) | (simp;omega)) _));done)) | (go_simp;done))
  clear hK K
  (try simp only [Act.put,aset,dZ,dS])
  (refine tht 10 hT ?_;(try simp only [Act.put,aset,dZ,dS]))
  refine tst 11 (fun K hK => ?_)
  go_simp
  refine hK.out _ _ hHeld (fun hHeld => ?_)
  clear hK K
  (try simp only [Act.put,aset,dZ,dS])
  refine tst 12 (fun K hK => ?_)
  go_simp
  (go_at_call 84;refine (HA _ _ (hV'.mono xt)).mono ?_;rintro e w3 ⟨rfl,hb⟩;obtain ⟨hc3,hf3,hs3,he3⟩ := Ext.use (w := w2) hb xt;clear hb;(try simp only [sA,sC,sD,sN] at hs3))
  dsimp only
  refine hK.out _ _ ?_ (fun hHeld => ?_)
  ·((repeat' (with_reducible apply And.intro)) <;> first | ((repeat' (first | with_reducible assumption | with_reducible exact Ext.refl _ | with_reducible refine Ext.alloc ?_ _ | with_reducible refine Ext.drew ?_ | with_reducible refine Ext.drewN ?_ _ | with_reducible refine Ext.regrown ?_ _ _ | with_reducible refine Ext.setCell ?_ (by first | (simp;done) | (simp;omega)) _));done) | ((first | refine Ext.trans (by assumption) ?_ | refine Ext.cell ?_ (by assumption));((repeat' (first | with_reducible assumption | with_reducible exact Ext.refl _ | with_reducible refine Ext.alloc ?_ _ | with_reducible refine Ext.drew ?_ | with_reducible refine Ext.drewN ?_ _ | with_reducible refine Ext.regrown ?_ _ _ | with_reducible refine Ext.setCell ?_ (by first | (simp;done) | (simp;omega)) _));done)) | (go_simp;done))
  clear hK K
  (try simp only [Act.put,aset,dZ,dS])
  clear hT hHeld
  refine th_done (by kernel_rfl) ?_
  simp only [List.drop_succ_cons,List.drop_zero]
  have he3' := he3
  have he3 := Ext.trans he2 he3
  have kw3_0 := he3'.cell kw2_0
  have kw3_1 := he3'.cell kw2_1
  have kw3_2 := he3'.cell kw2_2
  have kw3_3 := he3'.cell kw2_3
  have kw3_4 := he3'.cell kw2_4
  have kw3_5 := he3'.cell kw2_5
  have kw3_6 := he3'.cell kw2_6
  have kw3_7 := he3'.cell kw2_7
  have kw3_8 := he3'.cell kw2_8
  have kw3_9 := he3'.cell kw2_9
  have kw3_10 := he3'.cell kw2_10
  have kw3_11 := he3'.cell kw2_11
  go_wp2
  ·go_ret;exact ⟨ret_int (by rw [HI.out,HO.out];simp_all),xt⟩
  rw [rounds_succ]
  go_wp2
  refine wp_region_th 13 (fun W' => Ext w W' ∧ W'.cell? ⟨w.heap.size,0,none⟩ = some (.slice Af nf cf) ∧ W'.cell? ⟨w.heap.size,1,none⟩ = some (.slice Ao no co) ∧ W'.cell? ⟨w.heap.size,2,none⟩ = some (.slice Av nv cv) ∧ W'.cell? ⟨w.heap.size,3,none⟩ = some (.string f.name) ∧ W'.cell? ⟨w.heap.size,4,none⟩ = some (int .i64 f.params) ∧ W'.cell? ⟨w.heap.size,5,none⟩ = some (int .i64 f.regs) ∧ W'.cell? ⟨w.heap.size,6,none⟩ = some (int .i64 f.prio) ∧ W'.cell? ⟨w.heap.size,7,none⟩ = some (.bool true) ∧ W'.cell? ⟨w.heap.size,8,none⟩ = some (.slice Ac nc cc) ∧ W'.cell? ⟨w.heap.size + 1,1,none⟩ = some (int .i64 x.a) ∧ W'.cell? ⟨w.heap.size + 1,2,none⟩ = some (int .i64 x.b) ∧ W'.cell? ⟨w.heap.size + 1,3,none⟩ = some (int .i64 x.c) ∧ W'.cell? ⟨w3.heap.size,0,none⟩ = some (int .i64 wb) ∧ W'.cell? ⟨w3.heap.size,1,none⟩ = some (int .i64 kb)) (by kernel_rfl) (by kernel_rfl) (by kernel_rfl) (by kernel_rfl) (by decide) ?_ ?_
  ·((repeat' (with_reducible apply And.intro)) <;> first | ((repeat' (first | with_reducible assumption | with_reducible exact Ext.refl _ | with_reducible refine Ext.alloc ?_ _ | with_reducible refine Ext.drew ?_ | with_reducible refine Ext.drewN ?_ _ | with_reducible refine Ext.regrown ?_ _ _ | with_reducible refine Ext.setCell ?_ (by first | (simp;done) | (simp;omega)) _));done) | ((first | refine Ext.trans (by assumption) ?_ | refine Ext.cell ?_ (by assumption));((repeat' (first | with_reducible assumption | with_reducible exact Ext.refl _ | with_reducible refine Ext.alloc ?_ _ | with_reducible refine Ext.drew ?_ | with_reducible refine Ext.drewN ?_ _ | with_reducible refine Ext.regrown ?_ _ _ | with_reducible refine Ext.setCell ?_ (by first | (simp;done) | (simp;omega)) _));done)) | (go_simp;done))
  intro hT hHeld
  (refine tht 0 hT ?_;(try simp only [Act.put,aset,dZ,dS]);refine tht 1 hT ?_;(try simp only [Act.put,aset,dZ,dS]);refine tht 2 hT ?_;(try simp only [Act.put,aset,dZ,dS]);refine tht 3 hT ?_;(try simp only [Act.put,aset,dZ,dS]);refine tht 4 hT ?_;(try simp only [Act.put,aset,dZ,dS]);refine tht 5 hT ?_;(try simp only [Act.put,aset,dZ,dS]);refine tht 6 hT ?_;(try simp only [Act.put,aset,dZ,dS]);refine tht 7 hT ?_;(try simp only [Act.put,aset,dZ,dS]);refine tht 9 hT ?_;(try simp only [Act.put,aset,dZ,dS]))
  refine tst 8 (fun K hK => ?_)
  go_simp
  refine hK.out _ _ ?_ (fun hHeld => ?_)
  ·((repeat' (with_reducible apply And.intro)) <;> first | ((repeat' (first | with_reducible assumption | with_reducible exact Ext.refl _ | with_reducible refine Ext.alloc ?_ _ | with_reducible refine Ext.drew ?_ | with_reducible refine Ext.drewN ?_ _ | with_reducible refine Ext.regrown ?_ _ _ | with_reducible refine Ext.setCell ?_ (by first | (simp;done) | (simp;omega)) _));done) | ((first | refine Ext.trans (by assumption) ?_ | refine Ext.cell ?_ (by assumption));((repeat' (first | with_reducible assumption | with_reducible exact Ext.refl _ | with_reducible refine Ext.alloc ?_ _ | with_reducible refine Ext.drew ?_ | with_reducible refine Ext.drewN ?_ _ | with_reducible refine Ext.regrown ?_ _ _ | with_reducible refine Ext.setCell ?_ (by first | (simp;done) | (simp;omega)) _));done)) | (go_simp;done))
  clear hK K
  (try simp only [Act.put,aset,dZ,dS])
  (refine tht 10 hT ?_;(try simp only [Act.put,aset,dZ,dS]))
  refine tst 11 (fun K hK => ?_)
  go_simp
  refine hK.out _ _ hHeld (fun hHeld => ?_)
  clear hK K
  (try simp only [Act.put,aset,dZ,dS])
  refine tst 12 (fun K hK => ?_)
  go_simp
  (go_at_call 84;refine (HB _ _ (hV'.mono xt)).mono ?_;rintro e w4 ⟨rfl,hb⟩;obtain ⟨hc4,hf4,hs4,he4⟩ := Ext.use (w := w3) hb xt;clear hb;(try simp only [sA,sC,sD,sN] at hs4))
  dsimp only
  refine hK.out _ _ ?_ (fun hHeld => ?_)
  ·((repeat' (with_reducible apply And.intro)) <;> first | ((repeat' (first | with_reducible assumption | with_reducible exact Ext.refl _ | with_reducible refine Ext.alloc ?_ _ | with_reducible refine Ext.drew ?_ | with_reducible refine Ext.drewN ?_ _ | with_reducible refine Ext.regrown ?_ _ _ | with_reducible refine Ext.setCell ?_ (by first | (simp;done) | (simp;omega)) _));done) | ((first | refine Ext.trans (by assumption) ?_ | refine Ext.cell ?_ (by assumption));((repeat' (first | with_reducible assumption | with_reducible exact Ext.refl _ | with_reducible refine Ext.alloc ?_ _ | with_reducible refine Ext.drew ?_ | with_reducible refine Ext.drewN ?_ _ | with_reducible refine Ext.regrown ?_ _ _ | with_reducible refine Ext.setCell ?_ (by first | (simp;done) | (simp;omega)) _));done)) | (go_simp;done))
  clear hK K
  (try simp only [Act.put,aset,dZ,dS])
  clear hT hHeld
  refine th_done (by kernel_rfl) ?_
  simp only [List.drop_succ_cons,List.drop_zero]
  have he4' := he4
  have he4 := Ext.trans he3 he4
  have kw4_0 := he4'.cell kw3_0
  have kw4_1 := he4'.cell kw3_1
  have kw4_2 := he4'.cell kw3_2
  have kw4_3 := he4'.cell kw3_3
  have kw4_4 := he4'.cell kw3_4
  have kw4_5 := he4'.cell kw3_5
  have kw4_6 := he4'.cell kw3_6
  have kw4_7 := he4'.cell kw3_7
  have kw4_8 := he4'.cell kw3_8
  have kw4_9 := he4'.cell kw3_9
  have kw4_10 := he4'.cell kw3_10
  have kw4_11 := he4'.cell kw3_11
  go_wp2
  ·go_ret;exact ⟨ret_int (by rw [HI.out,HO.out];simp_all),xt⟩
  rw [rounds_succ]
  go_wp2
  refine wp_region_th 13 (fun W' => Ext w W' ∧ W'.cell? ⟨w.heap.size,0,none⟩ = some (.slice Af nf cf) ∧ W'.cell? ⟨w.heap.size,1,none⟩ = some (.slice Ao no co) ∧ W'.cell? ⟨w.heap.size,2,none⟩ = some (.slice Av nv cv) ∧ W'.cell? ⟨w.heap.size,3,none⟩ = some (.string f.name) ∧ W'.cell? ⟨w.heap.size,4,none⟩ = some (int .i64 f.params) ∧ W'.cell? ⟨w.heap.size,5,none⟩ = some (int .i64 f.regs) ∧ W'.cell? ⟨w.heap.size,6,none⟩ = some (int .i64 f.prio) ∧ W'.cell? ⟨w.heap.size,7,none⟩ = some (.bool true) ∧ W'.cell? ⟨w.heap.size,8,none⟩ = some (.slice Ac nc cc) ∧ W'.cell? ⟨w.heap.size + 1,1,none⟩ = some (int .i64 x.a) ∧ W'.cell? ⟨w.heap.size + 1,2,none⟩ = some (int .i64 x.b) ∧ W'.cell? ⟨w.heap.size + 1,3,none⟩ = some (int .i64 x.c) ∧ W'.cell? ⟨w4.heap.size,0,none⟩ = some (int .i64 wc) ∧ W'.cell? ⟨w4.heap.size,1,none⟩ = some (int .i64 kc)) (by kernel_rfl) (by kernel_rfl) (by kernel_rfl) (by kernel_rfl) (by decide) ?_ ?_
  ·((repeat' (with_reducible apply And.intro)) <;> first | ((repeat' (first | with_reducible assumption | with_reducible exact Ext.refl _ | with_reducible refine Ext.alloc ?_ _ | with_reducible refine Ext.drew ?_ | with_reducible refine Ext.drewN ?_ _ | with_reducible refine Ext.regrown ?_ _ _ | with_reducible refine Ext.setCell ?_ (by first | (simp;done) | (simp;omega)) _));done) | ((first | refine Ext.trans (by assumption) ?_ | refine Ext.cell ?_ (by assumption));((repeat' (first | with_reducible assumption | with_reducible exact Ext.refl _ | with_reducible refine Ext.alloc ?_ _ | with_reducible refine Ext.drew ?_ | with_reducible refine Ext.drewN ?_ _ | with_reducible refine Ext.regrown ?_ _ _ | with_reducible refine Ext.setCell ?_ (by first | (simp;done) | (simp;omega)) _));done)) | (go_simp;done))
  intro hT hHeld
  (refine tht 0 hT ?_;(try simp only [Act.put,aset,dZ,dS]);refine tht 1 hT ?_;(try simp only [Act.put,aset,dZ,dS]);refine tht 2 hT ?_;(try simp only [Act.put,aset,dZ,dS]);refine tht 3 hT ?_;(try simp only [Act.put,aset,dZ,dS]);refine tht 4 hT ?_;(try simp only [Act.put,aset,dZ,dS]);refine tht 5 hT ?_;(try simp only [Act.put,aset,dZ,dS]);refine tht 6 hT ?_;(try simp only [Act.put,aset,dZ,dS]);refine tht 7 hT ?_;(try simp only [Act.put,aset,dZ,dS]);refine tht 9 hT ?_;(try simp only [Act.put,aset,dZ,dS]))
  refine tst 8 (fun K hK => ?_)
  go_simp
  refine hK.out _ _ ?_ (fun hHeld => ?_)
  ·((repeat' (with_reducible apply And.intro)) <;> first | ((repeat' (first | with_reducible assumption | with_reducible exact Ext.refl _ | with_reducible refine Ext.alloc ?_ _ | with_reducible refine Ext.drew ?_ | with_reducible refine Ext.drewN ?_ _ | with_reducible refine Ext.regrown ?_ _ _ | with_reducible refine Ext.setCell ?_ (by first | (simp;done) | (simp;omega)) _));done) | ((first | refine Ext.trans (by assumption) ?_ | refine Ext.cell ?_ (by assumption));((repeat' (first | with_reducible assumption | with_reducible exact Ext.refl _ | with_reducible refine Ext.alloc ?_ _ | with_reducible refine Ext.drew ?_ | with_reducible refine Ext.drewN ?_ _ | with_reducible refine Ext.regrown ?_ _ _ | with_reducible refine Ext.setCell ?_ (by first | (simp;done) | (simp;omega)) _));done)) | (go_simp;done))
  clear hK K
  (try simp only [Act.put,aset,dZ,dS])
  (refine tht 10 hT ?_;(try simp only [Act.put,aset,dZ,dS]))
  refine tst 11 (fun K hK => ?_)
  go_simp
  refine hK.out _ _ hHeld (fun hHeld => ?_)
  clear hK K
  (try simp only [Act.put,aset,dZ,dS])
  refine tst 12 (fun K hK => ?_)
  go_simp
  (go_at_call 84;refine (HC _ _ (hV'.mono xt)).mono ?_;rintro e w5 ⟨rfl,hb⟩;obtain ⟨hc5,hf5,hs5,he5⟩ := Ext.use (w := w4) hb xt;clear hb;(try simp only [sA,sC,sD,sN] at hs5))
  dsimp only
  refine hK.out _ _ ?_ (fun hHeld => ?_)
  ·((repeat' (with_reducible apply And.intro)) <;> first | ((repeat' (first | with_reducible assumption | with_reducible exact Ext.refl _ | with_reducible refine Ext.alloc ?_ _ | with_reducible refine Ext.drew ?_ | with_reducible refine Ext.drewN ?_ _ | with_reducible refine Ext.regrown ?_ _ _ | with_reducible refine Ext.setCell ?_ (by first | (simp;done) | (simp;omega)) _));done) | ((first | refine Ext.trans (by assumption) ?_ | refine Ext.cell ?_ (by assumption));((repeat' (first | with_reducible assumption | with_reducible exact Ext.refl _ | with_reducible refine Ext.alloc ?_ _ | with_reducible refine Ext.drew ?_ | with_reducible refine Ext.drewN ?_ _ | with_reducible refine Ext.regrown ?_ _ _ | with_reducible refine Ext.setCell ?_ (by first | (simp;done) | (simp;omega)) _));done)) | (go_simp;done))
  clear hK K
  (try simp only [Act.put,aset,dZ,dS])
  clear hT hHeld
  refine th_done (by kernel_rfl) ?_
  simp only [List.drop_succ_cons,List.drop_zero]
  have he5' := he5
  have he5 := Ext.trans he4 he5
  have kw5_0 := he5'.cell kw4_0
  have kw5_1 := he5'.cell kw4_1
  have kw5_2 := he5'.cell kw4_2
  have kw5_3 := he5'.cell kw4_3
  have kw5_4 := he5'.cell kw4_4
  have kw5_5 := he5'.cell kw4_5
  have kw5_6 := he5'.cell kw4_6
  have kw5_7 := he5'.cell kw4_7
  have kw5_8 := he5'.cell kw4_8
  have kw5_9 := he5'.cell kw4_9
  have kw5_10 := he5'.cell kw4_10
  have kw5_11 := he5'.cell kw4_11
  go_wp2
  ·go_ret;exact ⟨ret_int (by rw [HI.out,HO.out];simp_all),xt⟩
  rw [rounds_succ]
  go_wp2_with (go_at_call 85;refine (HG (by simpa using (‹(eb != 0) = false› : (eb != 0) = false)) _ _ (hV'.mono xt) (hx.mono RInt.stays xt)).mono ?_;rintro e w1 ⟨rfl,hb⟩;obtain ⟨hc,hf,hs,he⟩ := Ext.use (w := w) hb xt;clear hb;(try simp only [sA,sC,sD,sN] at hs))
  all_goals (go_ret;exact ⟨ret_int (by have g1 := HI.out;have g2 := HO.out;have g3 := HEG.out;clear HA HB HC HG HSH;(clear kw1_0 kw1_1 kw1_2 kw1_3 kw1_4 kw1_5 kw1_6 kw1_7 kw1_8 kw1_9 kw1_10 kw1_11 kw2_0 kw2_1 kw2_2 kw2_3 kw2_4 kw2_5 kw2_6 kw2_7 kw2_8 kw2_9 kw2_10 kw2_11 kw3_0 kw3_1 kw3_2 kw3_3 kw3_4 kw3_5 kw3_6 kw3_7 kw3_8 kw3_9 kw3_10 kw3_11 kw4_0 kw4_1 kw4_2 kw4_3 kw4_4 kw4_5 kw4_6 kw4_7 kw4_8 kw4_9 kw4_10 kw4_11 kw5_0 kw5_1 kw5_2 kw5_3 kw5_4 kw5_5 kw5_6 kw5_7 kw5_8 kw5_9 kw5_10 kw5_11);(clear hc3 hf3 hs3 he3 he3' hc4 hf4 hs4 he4 he4' hc5 hf5 hs5 he5 he5');rw [g1,g2,g3];simp_all [clashS]),xt⟩)
end Go.Proofs.Ytcjjoabofecjmaa

