/- A part of the proof: The reference of layer 13. -/
import Derived.Test.YtcjjoabofecjmaaGreatQ33
set_option linter.unusedVariables false
set_option linter.unusedSimpArgs false
set_option maxHeartbeats 16000000
namespace Go.Proofs.YtcjjoabofecjmaaGreat
open Go.RowKit
open Go.Value (int)
theorem args3 (op : Int) : (sS op).args = 3 ↔ op = 67 := by
 constructor
 ·intro h
  have hb : ∀ {c : Prop} [Decidable c] {a b : Option Shp},(c → (a.getD shpZ).args ≠ 3) → ((b.getD shpZ).args = 3 → op = 67) → (((if c then a else b).getD shpZ).args = 3 → op = 67) := fun {c} _ {a b} h1 h2 h3 => by
   split at h3
   ·rename_i hc;exact absurd h3 (h1 hc)
   ·exact h2 h3
  revert h
  unfold sS shapeS groupsS
  by_cases h67 : op = 67
  ·intro _;exact h67
  ·rw [if_neg (show ¬ op = 67 from h67)]
   repeat' (refine hb (fun _ => by decide) ?_)
   intro h;exact absurd h (by decide)
 ·rintro rfl;rfl
theorem rargs_any (p : Prg) (f : Fnc) (x : Ins) (V U : Value) (A : Option Addr) (n c : Nat) (w : World) {s : Shp} (what : Int) (hV : RPrg w p V) (hU : RFn w f U) (hr : 0 ≤ f.regs ∧ f.regs ≤ 32) (hx : RSl 1 RInt w A n x.args) (hs : sS x.op = s) (hw : s.args = what)
  (hb : what = 1 → 0 ≤ x.b ∧ x.b < (p.funcs.length : Int)) :
  Calls Tryz.prog 159 #[V,U,.int .u8 ((roleA what).toNat : Int),.agg #[int .i64 x.op,int .i64 x.a,int .i64 x.b,int .i64 x.c,.slice A n c]] w fun e w' => e = .returned (int .i64 (rargsS p f what x)) ∧ Ext w w' := by
 have h3 := args3 x.op
 have hk := okShp2_s x.op
 rw [hs,hw] at h3
 rw [hs] at hk
 simp only [okShp2,Bool.and_eq_true,Bool.or_eq_true,beq_iff_eq,hw] at hk
 rcases hk.2 with ((rfl | rfl) | rfl) | rfl
 ·exact rargs_dot p f x V U A n c w hV hU hx (fun h => by have := h3.2 h;cases this)
 ·exact rargs_cnt p f x V U A n c w hV hU hr hx (fun h => by have := h3.2 h;cases this) (hb rfl)
 ·exact rargs_two p f x V U A n c w hV hU hr hx (fun h => by have := h3.2 h;cases this)
 ·exact rargs_sel p f x V U A n c w hV hU hr hx (h3.1 rfl)
def opE (p : Prg) (f : Fnc) (s : Shp) (x : Ins) (k : Nat) : Int := if k = 0 then operandS p f s.a x.a else if k = 1 then operandS p f s.b x.b else operandS p f s.c x.c
theorem ops_bad {p : Prg} {f : Fnc} {s : Shp} {x : Ins} {k : Nat} (hk : k < 3) (h : ∀ j,j < k → opE p f s x j = 0) (hb : opE p f s x k ≠ 0) : opsS p f s x = opE p f s x k := by
 have : k = 0 ∨ k = 1 ∨ k = 2 := by omega
 rcases this with rfl | rfl | rfl
 ·unfold opsS;rw [if_pos (show operandS p f s.a x.a ≠ 0 from hb)];rfl
 ·unfold opsS;rw [if_neg (fun h1 => h1 (h 0 (by omega))),if_pos (show operandS p f s.b x.b ≠ 0 from hb)];rfl
 ·unfold opsS;rw [if_neg (fun h1 => h1 (h 0 (by omega))),if_neg (fun h1 => h1 (h 1 (by omega)))];rfl
theorem ops_ok {p : Prg} {f : Fnc} {s : Shp} {x : Ins} (h : ∀ j,j < 3 → opE p f s x j = 0) : opsS p f s x = 0 := by
 unfold opsS
 rw [if_neg (fun h1 => h1 (h 0 (by omega))),if_neg (fun h1 => h1 (h 1 (by omega)))]
 exact h 2 (by omega)
set_option maxRecDepth 8000 in
theorem rinstr_any (p : Prg) (f : Fnc) (x : Ins) (V U : Value) (A : Option Addr) (n c : Nat) (w : World) (hV : RPrg w p V) (hU : RFn w f U) (hr : 0 ≤ f.regs ∧ f.regs ≤ 32) (hx : RSl 1 RInt w A n x.args) :
  Calls Tryz.prog 121 #[V,U,.agg #[int .i64 x.op,int .i64 x.a,int .i64 x.b,int .i64 x.c,.slice A n c]] w fun e w' => e = .returned (int .i64 (instrS p f x)) ∧ Ext w w' := by
 have HX := Lib.hid hx
 have HVV := Lib.hid hV
 have HUU := Lib.hid hU
 have HR := Lib.hid hr
 have HRo := Lib.hid (fun W => roles_any x.op W)
 have HFb := Lib.hid (fun W => rforbidden_any x.op W)
 obtain ⟨Af,nf,cf,Ao,no,co,Av,nv,cv,rfl,_⟩ := hV
 obtain ⟨Ac,nc,cc,rfl,_⟩ := hU
 cases hsh : shapeS x.op with
 | none =>
  have HS : Hid (instrS p f x = 8) := by unfold Hid instrS;rw [hsh];rfl
  have hro : rolesS x.op = ⟨#[]⟩ := by unfold rolesS;rw [hsh]
  rw [hro] at HRo
  clear hx hr hsh hro
  go_enter Tryz.func121,Tryz.ntmps121
  go_wp2_with (go_at_call 76;refine (HRo.out _).mono ?_;rintro e w' ⟨rfl,rfl⟩)
  go_ret
  exact ⟨ret_int HS.out.symm,xt⟩
 | some s =>
  have hro : rolesS x.op = ⟨#[roleI s.a,roleI s.b,roleI s.c,roleA s.args]⟩ := by unfold rolesS;rw [hsh]
  rw [hro] at HRo
  obtain ⟨u0,hu0⟩ : ∃ u,roleI s.a = u := ⟨_,rfl⟩
  obtain ⟨u1,hu1⟩ : ∃ u,roleI s.b = u := ⟨_,rfl⟩
  obtain ⟨u2,hu2⟩ : ∃ u,roleI s.c = u := ⟨_,rfl⟩
  obtain ⟨u3,hu3⟩ : ∃ u,roleA s.args = u := ⟨_,rfl⟩
  rw [hu0,hu1,hu2,hu3] at HRo
  clear hx hr hro
  have HCk := okShp2_s x.op
  have hss : sS x.op = s := by unfold sS;rw [hsh];rfl
  rw [hss] at HCk
  simp only [okShp2,Bool.and_eq_true] at HCk
  obtain ⟨⟨⟨hoa,hob⟩,hoc⟩,_⟩ := HCk
  have HOa := Lib.hid (fun W (h : Ext w W) => rop_any p f s.a x.a _ _ W (HVV.out.mono h) (HUU.out.mono h) HR.out hoa)
  have HOb := Lib.hid (fun W (h : Ext w W) => rop_any p f s.b x.b _ _ W (HVV.out.mono h) (HUU.out.mono h) HR.out hob)
  have HOc := Lib.hid (fun W (h : Ext w W) => rop_any p f s.c x.c _ _ W (HVV.out.mono h) (HUU.out.mono h) HR.out hoc)
  have HAr := Lib.hid (fun W (h : Ext w W) (h1 : opE p f s x 1 = 0) => rargs_any p f x _ _ A n c W s.args (HVV.out.mono h) (HUU.out.mono h) HR.out (HX.out.mono RInt.stays h) hss rfl (fun hw => operandS_fn (o := s.b) (by
   have h2 := okShp_s x.op
   rw [hss] at h2
   simp only [okShp,Bool.and_eq_true,Bool.or_eq_true,decide_eq_true_eq,beq_iff_eq] at h2
   have := h2.2
   omega) h1))
  rw [hu0] at HOa
  rw [hu1] at HOb
  rw [hu2] at HOc
  rw [hu3] at HAr
  by_cases hbad : f.cleanup = true ∧ forbS x.op = true
  ·obtain ⟨hcl,hfb⟩ := hbad
   have HS : Hid (instrS p f x = 16) := by unfold Hid instrS;rw [hsh,hcl,hfb];rfl
   rw [hfb] at HFb
   clear hfb hsh
   go_enter Tryz.func121,Tryz.ntmps121
   go_wp2_with (first | (go_at_call 76;refine (HRo.out _).mono ?_;rintro e w' ⟨rfl,rfl⟩) | (go_at_call 157;refine (HFb.out _).mono ?_;rintro e w' ⟨rfl,rfl⟩))
   go_ret
   exact ⟨ret_int HS.out.symm,xt⟩
  have HS : Hid (instrS p f x = if opsS p f s x ≠ 0 then opsS p f s x else rargsS p f s.args x) := by
   unfold Hid instrS
   rw [hsh,hss,if_neg (by simp),if_neg hbad]
   rfl
  cases hcl : f.cleanup
  rotate_left
  ·have hfb : forbS x.op = false := by
    cases h : forbS x.op with
    | false => rfl
    | true => exact absurd ⟨hcl,h⟩ hbad
   rw [hfb] at HFb
   clear hfb hbad hsh hss hoa hob hoc
   rw [hcl] at HOa HOb HOc HAr
   go_enter Tryz.func121,Tryz.ntmps121
   go_wp2_with (first | (go_at_call 76;refine (HRo.out _).mono ?_;rintro e w' ⟨rfl,rfl⟩) | (go_at_call 157;refine (HFb.out _).mono ?_;rintro e w' ⟨rfl,rfl⟩))
   refine wp_hid2 ?_
   intro W0 HW0
   have HE : Hid (Ext w W0) := by rw [HW0.out];exact Lib.hid xt
   have e0 : W0.cell? ⟨w.heap.size,0,none⟩ = some (.slice Af nf cf) := by rw [HW0.out];simp [go_sem]
   have e1 : W0.cell? ⟨w.heap.size,1,none⟩ = some (.slice Ao no co) := by rw [HW0.out];simp [go_sem]
   have e2 : W0.cell? ⟨w.heap.size,2,none⟩ = some (.slice Av nv cv) := by rw [HW0.out];simp [go_sem]
   have g0 : W0.cell? ⟨w.heap.size + 1,0,none⟩ = some (.string f.name) := by rw [HW0.out];simp [go_sem]
   have g1 : W0.cell? ⟨w.heap.size + 1,1,none⟩ = some (int .i64 f.params) := by rw [HW0.out];simp [go_sem]
   have g2 : W0.cell? ⟨w.heap.size + 1,2,none⟩ = some (int .i64 f.regs) := by rw [HW0.out];simp [go_sem]
   have g3 : W0.cell? ⟨w.heap.size + 1,3,none⟩ = some (int .i64 f.prio) := by rw [HW0.out];simp [go_sem]
   have g4 : W0.cell? ⟨w.heap.size + 1,4,none⟩ = some (.bool true) := by rw [HW0.out];simp [go_sem]
   have g5 : W0.cell? ⟨w.heap.size + 1,5,none⟩ = some (.slice Ac nc cc) := by rw [HW0.out];simp [go_sem]
   have k0 : W0.cell? ⟨w.heap.size + 1 + 1,0,none⟩ = some (int .i64 x.op) := by rw [HW0.out];simp [go_sem]
   have k1 : W0.cell? ⟨w.heap.size + 1 + 1,1,none⟩ = some (int .i64 x.a) := by rw [HW0.out];simp [go_sem]
   have k2 : W0.cell? ⟨w.heap.size + 1 + 1,2,none⟩ = some (int .i64 x.b) := by rw [HW0.out];simp [go_sem]
   have k3 : W0.cell? ⟨w.heap.size + 1 + 1,3,none⟩ = some (int .i64 x.c) := by rw [HW0.out];simp [go_sem]
   have k4 : W0.cell? ⟨w.heap.size + 1 + 1,4,none⟩ = some (.slice A n c) := by rw [HW0.out];simp [go_sem]
   have f0 : W0.cell? ⟨w.heap.size + 1 + 1 + 1,0,none⟩ = some (int .i64 x.a) := by rw [HW0.out];simp [go_sem]
   have f1 : W0.cell? ⟨w.heap.size + 1 + 1 + 1,1,none⟩ = some (int .i64 x.b) := by rw [HW0.out];simp [go_sem]
   have f2 : W0.cell? ⟨w.heap.size + 1 + 1 + 1,2,none⟩ = some (int .i64 x.c) := by rw [HW0.out];simp [go_sem]
   have z0 : w.heap.size < W0.heap.size := lt_of_cell e0
   have z1 : w.heap.size + 1 < W0.heap.size := lt_of_cell g2
   have z2 : w.heap.size + 1 + 1 < W0.heap.size := lt_of_cell k0
   have z3 : w.heap.size + 1 + 1 + 1 < W0.heap.size := lt_of_cell f0
   clear HW0
   go_loopg [9,10] 3 (fun gg s9 _ wr => ∃ k : Nat,k ≤ 3 ∧ 3 - k ≤ gg ∧ s9 = .int .i64 k ∧ Hid (Ext W0 wr) ∧ Hid (∀ j,j < k → opE p f s x j = 0))
   case atStart => exact ⟨0,Nat.zero_le _,by omega,rfl,Ext.refl _,fun j hj => absurd hj (Nat.not_lt_zero j)⟩
   case round =>
    obtain ⟨k,hk,hg,rfl,HW,HI⟩ := hrel
    have hW := HW.out
    replace e0 := hW.cell e0
    replace e1 := hW.cell e1
    replace e2 := hW.cell e2
    replace g0 := hW.cell g0
    replace g1 := hW.cell g1
    replace g2 := hW.cell g2
    replace g3 := hW.cell g3
    replace g4 := hW.cell g4
    replace g5 := hW.cell g5
    replace k0 := hW.cell k0
    replace k1 := hW.cell k1
    replace k2 := hW.cell k2
    replace k3 := hW.cell k3
    replace k4 := hW.cell k4
    replace f0 := hW.cell f0
    replace f1 := hW.cell f1
    replace f2 := hW.cell f2
    have hsz := hW.size
    have HE0 : Hid (Ext w wr) := HE.out.trans hW
    have hcs : k = 0 ∨ k = 1 ∨ k = 2 ∨ k = 3 := by omega
    rcases hcs with rfl | rfl | rfl | rfl
    ·obtain ⟨e,he0⟩ : ∃ e,operandS p f s.a x.a = e := ⟨_,rfl⟩
     have HO2 : Hid (∀ W,Ext w W → Calls Tryz.prog 158 #[.agg #[.slice Af nf cf,.slice Ao no co,.slice Av nv cv],.agg #[.string f.name,int .i64 f.params,int .i64 f.regs,int .i64 f.prio,.bool true,.slice Ac nc cc],.int .u8 (u0.toNat : Int),int .i64 x.a] W fun e' w' => e' = .returned (int .i64 e) ∧ Ext W w') := fun W h => by rw [← he0];exact HOa.out W h
     have HEk : Hid (opE p f s x 0 = e) := he0
     clear he0
     by_cases hez : e = 0
     ·subst hez
      go_wp2
      (refine wp_region_quiet_below (by kernel_rfl) (by kernel_rfl) ?_;(repeat (go_big_quiet_step ((go_at_call 158;exact quiet_ext (HO2.out _ (Ext.trans HE0.out xt))))));refine wpQuiet_nil fun w1 h1 => ?_;obtain ⟨hc,hf,hs,he⟩ := eu (w := wr) h1 xt;clear h1;(try simp only [sA,sC,sD,sN] at hs))
      go_wp2
      go_roundg (3 - (0 + 1))
      case measure => omega
      case rel => exact ⟨0 + 1,by omega,by omega,by go_num,Ext.trans HW.out he,fun j hj => by
       rcases Nat.lt_or_ge j 0 with h9 | h9
       ·exact HI.out j h9
       ·have : j = 0 := by omega
        subst this;exact HEk.out⟩
     ·have hezb : (e != 0) = true := by simpa using hez
      have HEz := Lib.hid hez
      clear hez
      go_wp2
      (refine wp_region_quiet_below (by kernel_rfl) (by kernel_rfl) ?_;(repeat (go_big_quiet_step ((go_at_call 158;exact quiet_ext (HO2.out _ (Ext.trans HE0.out xt))))));refine wpQuiet_nil fun w1 h1 => ?_;obtain ⟨hc,hf,hs,he⟩ := eu (w := wr) h1 xt;clear h1;(try simp only [sA,sC,sD,sN] at hs))
      go_wp2
      go_ret
      exact ⟨ret_int (by
       have h9 := ops_bad (p := p) (f := f) (s := s) (x := x) (k := 0) (by omega) HI.out (by rw [HEk.out];exact HEz.out)
       rw [HS.out,h9,HEk.out,if_pos HEz.out]),HE0.out.trans he⟩
    ·obtain ⟨e,he0⟩ : ∃ e,operandS p f s.b x.b = e := ⟨_,rfl⟩
     have HO2 : Hid (∀ W,Ext w W → Calls Tryz.prog 158 #[.agg #[.slice Af nf cf,.slice Ao no co,.slice Av nv cv],.agg #[.string f.name,int .i64 f.params,int .i64 f.regs,int .i64 f.prio,.bool true,.slice Ac nc cc],.int .u8 (u1.toNat : Int),int .i64 x.b] W fun e' w' => e' = .returned (int .i64 e) ∧ Ext W w') := fun W h => by rw [← he0];exact HOb.out W h
     have HEk : Hid (opE p f s x 1 = e) := he0
     clear he0
     by_cases hez : e = 0
     ·subst hez
      go_wp2
      (refine wp_region_quiet_below (by kernel_rfl) (by kernel_rfl) ?_;(repeat (go_big_quiet_step ((go_at_call 158;exact quiet_ext (HO2.out _ (Ext.trans HE0.out xt))))));refine wpQuiet_nil fun w1 h1 => ?_;obtain ⟨hc,hf,hs,he⟩ := eu (w := wr) h1 xt;clear h1;(try simp only [sA,sC,sD,sN] at hs))
      go_wp2
      go_roundg (3 - (1 + 1))
      case measure => omega
      case rel => exact ⟨1 + 1,by omega,by omega,by go_num,Ext.trans HW.out he,fun j hj => by
       rcases Nat.lt_or_ge j 1 with h9 | h9
       ·exact HI.out j h9
       ·have : j = 1 := by omega
        subst this;exact HEk.out⟩
     ·have hezb : (e != 0) = true := by simpa using hez
      have HEz := Lib.hid hez
      clear hez
      go_wp2
      (refine wp_region_quiet_below (by kernel_rfl) (by kernel_rfl) ?_;(repeat (go_big_quiet_step ((go_at_call 158;exact quiet_ext (HO2.out _ (Ext.trans HE0.out xt))))));refine wpQuiet_nil fun w1 h1 => ?_;obtain ⟨hc,hf,hs,he⟩ := eu (w := wr) h1 xt;clear h1;(try simp only [sA,sC,sD,sN] at hs))
      go_wp2
      go_ret
      exact ⟨ret_int (by
       have h9 := ops_bad (p := p) (f := f) (s := s) (x := x) (k := 1) (by omega) HI.out (by rw [HEk.out];exact HEz.out)
       rw [HS.out,h9,HEk.out,if_pos HEz.out]),HE0.out.trans he⟩
    ·obtain ⟨e,he0⟩ : ∃ e,operandS p f s.c x.c = e := ⟨_,rfl⟩
     have HO2 : Hid (∀ W,Ext w W → Calls Tryz.prog 158 #[.agg #[.slice Af nf cf,.slice Ao no co,.slice Av nv cv],.agg #[.string f.name,int .i64 f.params,int .i64 f.regs,int .i64 f.prio,.bool true,.slice Ac nc cc],.int .u8 (u2.toNat : Int),int .i64 x.c] W fun e' w' => e' = .returned (int .i64 e) ∧ Ext W w') := fun W h => by rw [← he0];exact HOc.out W h
     have HEk : Hid (opE p f s x 2 = e) := he0
     clear he0
     by_cases hez : e = 0
     ·subst hez
      go_wp2
      (refine wp_region_quiet_below (by kernel_rfl) (by kernel_rfl) ?_;(repeat (go_big_quiet_step ((go_at_call 158;exact quiet_ext (HO2.out _ (Ext.trans HE0.out xt))))));refine wpQuiet_nil fun w1 h1 => ?_;obtain ⟨hc,hf,hs,he⟩ := eu (w := wr) h1 xt;clear h1;(try simp only [sA,sC,sD,sN] at hs))
      go_wp2
      go_roundg (3 - (2 + 1))
      case measure => omega
      case rel => exact ⟨2 + 1,by omega,by omega,by go_num,Ext.trans HW.out he,fun j hj => by
       rcases Nat.lt_or_ge j 2 with h9 | h9
       ·exact HI.out j h9
       ·have : j = 2 := by omega
        subst this;exact HEk.out⟩
     ·have hezb : (e != 0) = true := by simpa using hez
      have HEz := Lib.hid hez
      clear hez
      go_wp2
      (refine wp_region_quiet_below (by kernel_rfl) (by kernel_rfl) ?_;(repeat (go_big_quiet_step ((go_at_call 158;exact quiet_ext (HO2.out _ (Ext.trans HE0.out xt))))));refine wpQuiet_nil fun w1 h1 => ?_;obtain ⟨hc,hf,hs,he⟩ := eu (w := wr) h1 xt;clear h1;(try simp only [sA,sC,sD,sN] at hs))
      go_wp2
      go_ret
      exact ⟨ret_int (by
       have h9 := ops_bad (p := p) (f := f) (s := s) (x := x) (k := 2) (by omega) HI.out (by rw [HEk.out];exact HEz.out)
       rw [HS.out,h9,HEk.out,if_pos HEz.out]),HE0.out.trans he⟩
    ·have HF : Hid (instrS p f x = rargsS p f s.args x) := by rw [Hid,HS.out,ops_ok HI.out];rfl
     obtain ⟨e,he0⟩ : ∃ e,rargsS p f s.args x = e := ⟨_,rfl⟩
     have HA2 : Hid (∀ W,Ext w W → Calls Tryz.prog 159 #[.agg #[.slice Af nf cf,.slice Ao no co,.slice Av nv cv],.agg #[.string f.name,int .i64 f.params,int .i64 f.regs,int .i64 f.prio,.bool true,.slice Ac nc cc],.int .u8 (u3.toNat : Int),.agg #[int .i64 x.op,int .i64 x.a,int .i64 x.b,int .i64 x.c,.slice A n c]] W fun e' w' => e' = .returned (int .i64 e) ∧ Ext W w') := fun W h => by
      rw [← he0];exact HAr.out W h (HI.out 1 (by omega))
     rw [he0] at HF
     clear he0
     go_wp2
     (refine wp_region_quiet_below (by kernel_rfl) (by kernel_rfl) ?_;(repeat (go_big_quiet_step ((go_at_call 159;exact quiet_ext (HA2.out _ (Ext.trans HE0.out xt))))));refine wpQuiet_nil fun w1 h1 => ?_;obtain ⟨hc,hf,hs,he⟩ := eu (w := wr) h1 xt;clear h1;(try simp only [sA,sC,sD,sN] at hs))
     go_wp2
     go_ret
     exact ⟨ret_int HF.out.symm,HE0.out.trans he⟩
  ·clear hbad hsh hss hoa hob hoc HFb
   rw [hcl] at HOa HOb HOc HAr
   go_enter Tryz.func121,Tryz.ntmps121
   go_wp2_with (go_at_call 76;refine (HRo.out _).mono ?_;rintro e w' ⟨rfl,rfl⟩)
   refine wp_hid2 ?_
   intro W0 HW0
   have HE : Hid (Ext w W0) := by rw [HW0.out];exact Lib.hid xt
   have e0 : W0.cell? ⟨w.heap.size,0,none⟩ = some (.slice Af nf cf) := by rw [HW0.out];simp [go_sem]
   have e1 : W0.cell? ⟨w.heap.size,1,none⟩ = some (.slice Ao no co) := by rw [HW0.out];simp [go_sem]
   have e2 : W0.cell? ⟨w.heap.size,2,none⟩ = some (.slice Av nv cv) := by rw [HW0.out];simp [go_sem]
   have g0 : W0.cell? ⟨w.heap.size + 1,0,none⟩ = some (.string f.name) := by rw [HW0.out];simp [go_sem]
   have g1 : W0.cell? ⟨w.heap.size + 1,1,none⟩ = some (int .i64 f.params) := by rw [HW0.out];simp [go_sem]
   have g2 : W0.cell? ⟨w.heap.size + 1,2,none⟩ = some (int .i64 f.regs) := by rw [HW0.out];simp [go_sem]
   have g3 : W0.cell? ⟨w.heap.size + 1,3,none⟩ = some (int .i64 f.prio) := by rw [HW0.out];simp [go_sem]
   have g4 : W0.cell? ⟨w.heap.size + 1,4,none⟩ = some (.bool false) := by rw [HW0.out];simp [go_sem]
   have g5 : W0.cell? ⟨w.heap.size + 1,5,none⟩ = some (.slice Ac nc cc) := by rw [HW0.out];simp [go_sem]
   have k0 : W0.cell? ⟨w.heap.size + 1 + 1,0,none⟩ = some (int .i64 x.op) := by rw [HW0.out];simp [go_sem]
   have k1 : W0.cell? ⟨w.heap.size + 1 + 1,1,none⟩ = some (int .i64 x.a) := by rw [HW0.out];simp [go_sem]
   have k2 : W0.cell? ⟨w.heap.size + 1 + 1,2,none⟩ = some (int .i64 x.b) := by rw [HW0.out];simp [go_sem]
   have k3 : W0.cell? ⟨w.heap.size + 1 + 1,3,none⟩ = some (int .i64 x.c) := by rw [HW0.out];simp [go_sem]
   have k4 : W0.cell? ⟨w.heap.size + 1 + 1,4,none⟩ = some (.slice A n c) := by rw [HW0.out];simp [go_sem]
   have f0 : W0.cell? ⟨w.heap.size + 1 + 1 + 1,0,none⟩ = some (int .i64 x.a) := by rw [HW0.out];simp [go_sem]
   have f1 : W0.cell? ⟨w.heap.size + 1 + 1 + 1,1,none⟩ = some (int .i64 x.b) := by rw [HW0.out];simp [go_sem]
   have f2 : W0.cell? ⟨w.heap.size + 1 + 1 + 1,2,none⟩ = some (int .i64 x.c) := by rw [HW0.out];simp [go_sem]
   have z0 : w.heap.size < W0.heap.size := lt_of_cell e0
   have z1 : w.heap.size + 1 < W0.heap.size := lt_of_cell g2
   have z2 : w.heap.size + 1 + 1 < W0.heap.size := lt_of_cell k0
   have z3 : w.heap.size + 1 + 1 + 1 < W0.heap.size := lt_of_cell f0
   clear HW0
   go_loopg [9,10] 3 (fun gg s9 _ wr => ∃ k : Nat,k ≤ 3 ∧ 3 - k ≤ gg ∧ s9 = .int .i64 k ∧ Hid (Ext W0 wr) ∧ Hid (∀ j,j < k → opE p f s x j = 0))
   case atStart => exact ⟨0,Nat.zero_le _,by omega,rfl,Ext.refl _,fun j hj => absurd hj (Nat.not_lt_zero j)⟩
   case round =>
    obtain ⟨k,hk,hg,rfl,HW,HI⟩ := hrel
    have hW := HW.out
    replace e0 := hW.cell e0
    replace e1 := hW.cell e1
    replace e2 := hW.cell e2
    replace g0 := hW.cell g0
    replace g1 := hW.cell g1
    replace g2 := hW.cell g2
    replace g3 := hW.cell g3
    replace g4 := hW.cell g4
    replace g5 := hW.cell g5
    replace k0 := hW.cell k0
    replace k1 := hW.cell k1
    replace k2 := hW.cell k2
    replace k3 := hW.cell k3
    replace k4 := hW.cell k4
    replace f0 := hW.cell f0
    replace f1 := hW.cell f1
    replace f2 := hW.cell f2
    have hsz := hW.size
    have HE0 : Hid (Ext w wr) := HE.out.trans hW
    have hcs : k = 0 ∨ k = 1 ∨ k = 2 ∨ k = 3 := by omega
    rcases hcs with rfl | rfl | rfl | rfl
    ·obtain ⟨e,he0⟩ : ∃ e,operandS p f s.a x.a = e := ⟨_,rfl⟩
     have HO2 : Hid (∀ W,Ext w W → Calls Tryz.prog 158 #[.agg #[.slice Af nf cf,.slice Ao no co,.slice Av nv cv],.agg #[.string f.name,int .i64 f.params,int .i64 f.regs,int .i64 f.prio,.bool false,.slice Ac nc cc],.int .u8 (u0.toNat : Int),int .i64 x.a] W fun e' w' => e' = .returned (int .i64 e) ∧ Ext W w') := fun W h => by rw [← he0];exact HOa.out W h
     have HEk : Hid (opE p f s x 0 = e) := he0
     clear he0
     by_cases hez : e = 0
     ·subst hez
      go_wp2
      (refine wp_region_quiet_below (by kernel_rfl) (by kernel_rfl) ?_;(repeat (go_big_quiet_step ((go_at_call 158;exact quiet_ext (HO2.out _ (Ext.trans HE0.out xt))))));refine wpQuiet_nil fun w1 h1 => ?_;obtain ⟨hc,hf,hs,he⟩ := eu (w := wr) h1 xt;clear h1;(try simp only [sA,sC,sD,sN] at hs))
      go_wp2
      go_roundg (3 - (0 + 1))
      case measure => omega
      case rel => exact ⟨0 + 1,by omega,by omega,by go_num,Ext.trans HW.out he,fun j hj => by
       rcases Nat.lt_or_ge j 0 with h9 | h9
       ·exact HI.out j h9
       ·have : j = 0 := by omega
        subst this;exact HEk.out⟩
     ·have hezb : (e != 0) = true := by simpa using hez
      have HEz := Lib.hid hez
      clear hez
      go_wp2
      (refine wp_region_quiet_below (by kernel_rfl) (by kernel_rfl) ?_;(repeat (go_big_quiet_step ((go_at_call 158;exact quiet_ext (HO2.out _ (Ext.trans HE0.out xt))))));refine wpQuiet_nil fun w1 h1 => ?_;obtain ⟨hc,hf,hs,he⟩ := eu (w := wr) h1 xt;clear h1;(try simp only [sA,sC,sD,sN] at hs))
      go_wp2
      go_ret
      exact ⟨ret_int (by
       have h9 := ops_bad (p := p) (f := f) (s := s) (x := x) (k := 0) (by omega) HI.out (by rw [HEk.out];exact HEz.out)
       rw [HS.out,h9,HEk.out,if_pos HEz.out]),HE0.out.trans he⟩
    ·obtain ⟨e,he0⟩ : ∃ e,operandS p f s.b x.b = e := ⟨_,rfl⟩
     have HO2 : Hid (∀ W,Ext w W → Calls Tryz.prog 158 #[.agg #[.slice Af nf cf,.slice Ao no co,.slice Av nv cv],.agg #[.string f.name,int .i64 f.params,int .i64 f.regs,int .i64 f.prio,.bool false,.slice Ac nc cc],.int .u8 (u1.toNat : Int),int .i64 x.b] W fun e' w' => e' = .returned (int .i64 e) ∧ Ext W w') := fun W h => by rw [← he0];exact HOb.out W h
     have HEk : Hid (opE p f s x 1 = e) := he0
     clear he0
     by_cases hez : e = 0
     ·subst hez
      go_wp2
      (refine wp_region_quiet_below (by kernel_rfl) (by kernel_rfl) ?_;(repeat (go_big_quiet_step ((go_at_call 158;exact quiet_ext (HO2.out _ (Ext.trans HE0.out xt))))));refine wpQuiet_nil fun w1 h1 => ?_;obtain ⟨hc,hf,hs,he⟩ := eu (w := wr) h1 xt;clear h1;(try simp only [sA,sC,sD,sN] at hs))
      go_wp2
      go_roundg (3 - (1 + 1))
      case measure => omega
      case rel => exact ⟨1 + 1,by omega,by omega,by go_num,Ext.trans HW.out he,fun j hj => by
       rcases Nat.lt_or_ge j 1 with h9 | h9
       ·exact HI.out j h9
       ·have : j = 1 := by omega
        subst this;exact HEk.out⟩
     ·have hezb : (e != 0) = true := by simpa using hez
      have HEz := Lib.hid hez
      clear hez
      go_wp2
      (refine wp_region_quiet_below (by kernel_rfl) (by kernel_rfl) ?_;(repeat (go_big_quiet_step ((go_at_call 158;exact quiet_ext (HO2.out _ (Ext.trans HE0.out xt))))));refine wpQuiet_nil fun w1 h1 => ?_;obtain ⟨hc,hf,hs,he⟩ := eu (w := wr) h1 xt;clear h1;(try simp only [sA,sC,sD,sN] at hs))
      go_wp2
      go_ret
      exact ⟨ret_int (by
       have h9 := ops_bad (p := p) (f := f) (s := s) (x := x) (k := 1) (by omega) HI.out (by rw [HEk.out];exact HEz.out)
       rw [HS.out,h9,HEk.out,if_pos HEz.out]),HE0.out.trans he⟩
    ·obtain ⟨e,he0⟩ : ∃ e,operandS p f s.c x.c = e := ⟨_,rfl⟩
     have HO2 : Hid (∀ W,Ext w W → Calls Tryz.prog 158 #[.agg #[.slice Af nf cf,.slice Ao no co,.slice Av nv cv],.agg #[.string f.name,int .i64 f.params,int .i64 f.regs,int .i64 f.prio,.bool false,.slice Ac nc cc],.int .u8 (u2.toNat : Int),int .i64 x.c] W fun e' w' => e' = .returned (int .i64 e) ∧ Ext W w') := fun W h => by rw [← he0];exact HOc.out W h
     have HEk : Hid (opE p f s x 2 = e) := he0
     clear he0
     by_cases hez : e = 0
     ·subst hez
      go_wp2
      (refine wp_region_quiet_below (by kernel_rfl) (by kernel_rfl) ?_;(repeat (go_big_quiet_step ((go_at_call 158;exact quiet_ext (HO2.out _ (Ext.trans HE0.out xt))))));refine wpQuiet_nil fun w1 h1 => ?_;obtain ⟨hc,hf,hs,he⟩ := eu (w := wr) h1 xt;clear h1;(try simp only [sA,sC,sD,sN] at hs))
      go_wp2
      go_roundg (3 - (2 + 1))
      case measure => omega
      case rel => exact ⟨2 + 1,by omega,by omega,by go_num,Ext.trans HW.out he,fun j hj => by
       rcases Nat.lt_or_ge j 2 with h9 | h9
       ·exact HI.out j h9
       ·have : j = 2 := by omega
        subst this;exact HEk.out⟩
     ·have hezb : (e != 0) = true := by simpa using hez
      have HEz := Lib.hid hez
      clear hez
      go_wp2
      (refine wp_region_quiet_below (by kernel_rfl) (by kernel_rfl) ?_;(repeat (go_big_quiet_step ((go_at_call 158;exact quiet_ext (HO2.out _ (Ext.trans HE0.out xt))))));refine wpQuiet_nil fun w1 h1 => ?_;obtain ⟨hc,hf,hs,he⟩ := eu (w := wr) h1 xt;clear h1;(try simp only [sA,sC,sD,sN] at hs))
      go_wp2
      go_ret
      exact ⟨ret_int (by
       have h9 := ops_bad (p := p) (f := f) (s := s) (x := x) (k := 2) (by omega) HI.out (by rw [HEk.out];exact HEz.out)
       rw [HS.out,h9,HEk.out,if_pos HEz.out]),HE0.out.trans he⟩
    ·have HF : Hid (instrS p f x = rargsS p f s.args x) := by rw [Hid,HS.out,ops_ok HI.out];rfl
     obtain ⟨e,he0⟩ : ∃ e,rargsS p f s.args x = e := ⟨_,rfl⟩
     have HA2 : Hid (∀ W,Ext w W → Calls Tryz.prog 159 #[.agg #[.slice Af nf cf,.slice Ao no co,.slice Av nv cv],.agg #[.string f.name,int .i64 f.params,int .i64 f.regs,int .i64 f.prio,.bool false,.slice Ac nc cc],.int .u8 (u3.toNat : Int),.agg #[int .i64 x.op,int .i64 x.a,int .i64 x.b,int .i64 x.c,.slice A n c]] W fun e' w' => e' = .returned (int .i64 e) ∧ Ext W w') := fun W h => by
      rw [← he0];exact HAr.out W h (HI.out 1 (by omega))
     rw [he0] at HF
     clear he0
     go_wp2
     (refine wp_region_quiet_below (by kernel_rfl) (by kernel_rfl) ?_;(repeat (go_big_quiet_step ((go_at_call 159;exact quiet_ext (HA2.out _ (Ext.trans HE0.out xt))))));refine wpQuiet_nil fun w1 h1 => ?_;obtain ⟨hc,hf,hs,he⟩ := eu (w := wr) h1 xt;clear h1;(try simp only [sA,sC,sD,sN] at hs))
     go_wp2
     go_ret
     exact ⟨ret_int HF.out.symm,HE0.out.trans he⟩
end Go.Proofs.YtcjjoabofecjmaaGreat

