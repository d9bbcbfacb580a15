/- A part of the proof: The reference of layer 28; registers of the reference of lay. -/
import Derived.Test.YtcjjoabofecjmaaGreatQ37
set_option linter.unusedVariables false
set_option linter.unusedSimpArgs false
set_option maxHeartbeats 16000000
namespace Go.Proofs.YtcjjoabofecjmaaGreat
open Go.RowKit Go.Sort
open Go.Value (int)
theorem rnumber_any (n : Int) (w : World) :
  Calls Tryz.prog 51 #[int .i64 n] w fun e w' => e = .returned (.bool (numB n)) ∧ w = w' := by
 go_enter Tryz.func51,Tryz.ntmps51
 go_wp2
 all_goals (go_ret;exact ⟨ret_bool (by unfold numB inB;rw [Bool.eq_iff_iff];simp at * <;> omega),rfl⟩)
theorem rreason_any (n : Int) (w : World) :
  Calls Tryz.prog 52 #[int .i64 n] w fun e w' => e = .returned (.bool (inB n 0 9 || inB n 100 999)) ∧ w = w' := by
 go_enter Tryz.func52,Tryz.ntmps52
 go_wp2
 all_goals (go_ret;exact ⟨ret_bool (by unfold inB;rw [Bool.eq_iff_iff];simp at * <;> omega),rfl⟩)
theorem all_drop {α : Type} {g : α → Bool} {l : List α} {k : Nat} {y : α} (h : l[k]? = some y) : (l.drop k).all g = (g y && (l.drop (k + 1)).all g) := by
 obtain ⟨h1,h2⟩ := List.getElem?_eq_some_iff.1 h
 rw [List.drop_eq_getElem_cons h1,h2];rfl
set_option maxRecDepth 8000 in
theorem rnumbers_any (A : Option Addr) (n c : Nat) (xs : List Int) (w : World) (hx : RSl 1 RInt w A n xs) :
  Calls Tryz.prog 61 #[.slice A n c] w fun e w' => e = .returned (.bool (xs.all numB)) ∧ Ext w w' := by
 have HX := Lib.hid hx
 have HL := Lib.hid hx.len
 have hle := hx.le
 clear hx
 go_enter Tryz.func61,Tryz.ntmps61
 go_wp2
 go_loopg [3] n (fun gg s3 wr => ∃ k : Nat,k ≤ n ∧ n - k ≤ gg ∧ s3 = .int .i64 k ∧ Hid (Ext w wr) ∧ Hid (xs.all numB = (xs.drop k).all numB))
 case atStart => exact ⟨0,Nat.zero_le _,by omega,rfl,Ext.refl _,rfl⟩
 case round =>
  obtain ⟨k,hk,hg,rfl,HW,HI⟩ := hrel
  by_cases hlt : k < n
  ·have hltz : (k : Int) < (n : Int) := by omega
   have hk0 : (0 : Int) ≤ (k : Int) := by omega
   obtain ⟨y,hy⟩ : ∃ y,xs[k]? = some y := ⟨_,List.getElem?_eq_getElem (by have := HL.out;omega)⟩
   obtain ⟨b,off,rfl,hb,_,c0⟩ := HX.out.int hy
   replace c0 := HW.out.cell c0
   have zb := lt_of_cell c0
   have HD := Lib.hid (all_drop (g := numB) hy)
   obtain ⟨q,hq⟩ : ∃ q,numB y = q := ⟨_,rfl⟩
   have HB := Lib.hid (fun W => rnumber_any y W)
   rw [hq] at HB HD
   clear hq hy
   cases q with
   | false =>
    go_wp2_with (go_at_call 51;refine (HB.out _).mono ?_;rintro e w' ⟨rfl,rfl⟩)
    go_ret
    exact ⟨ret_bool (by rw [HI.out,HD.out];rfl),HW.out⟩
   | true =>
    go_wp2_with (go_at_call 51;refine (HB.out _).mono ?_;rintro e w' ⟨rfl,rfl⟩)
    go_roundg (n - (k + 1))
    case measure => omega
    case rel => exact ⟨k + 1,by omega,by omega,by go_num,HW.out,by rw [Hid,HI.out,HD.out];rfl⟩
  ·have hltz : ¬ (k : Int) < (n : Int) := by omega
   have HF : Hid (xs.all numB = true) := by rw [Hid,HI.out,List.drop_eq_nil_of_le (by have := HL.out;omega)];rfl
   go_wp2
   go_ret
   exact ⟨ret_bool HF.out.symm,HW.out⟩
def fnB (p : Prg) (i : Int) (cl : Bool) : Bool := match fnAt p i with | none => false | some g => g.cleanup == cl
set_option maxRecDepth 8000 in
theorem rfunction_any (p : Prg) (i : Int) (cl : Bool) (V : Value) (w : World) (hV : RPrg w p V) :
  Calls Tryz.prog 50 #[V,int .i64 i,.bool cl] w fun e w' => e = .returned (.bool (fnB p i cl)) ∧ Ext w w' := by
 obtain ⟨Af,nf,cf,Ao,no,co,Av,nv,cv,rfl,hF,_⟩ := hV
 have hle := hF.le
 have hln := hF.len
 cases hfn : fnAt p i with
 | none =>
  have HR : Hid (fnB p i cl = false) := by unfold Hid fnB;rw [hfn]
  have h0 := fnAt_none hfn
  by_cases h1 : 0 ≤ i
  ·have h2 : ¬ i < (nf : Int) := by omega
   clear hfn hF hln h0
   go_enter Tryz.func50,Tryz.ntmps50
   go_wp2
   go_ret
   exact ⟨ret_bool HR.out.symm,xt⟩
  ·clear hfn hF hln h0
   go_enter Tryz.func50,Tryz.ntmps50
   go_wp2
   go_ret
   exact ⟨ret_bool HR.out.symm,xt⟩
 | some f =>
  obtain ⟨h0,h1,h2⟩ := fnAt_some hfn
  have hlt : i < (nf : Int) := by omega
  obtain ⟨b,off,Ac,nc,cc,rfl,hlb,_,_,_,_,_,_,_,_,_,c4,_⟩ := hF.fnc h2
  have HR : Hid (fnB p i cl = (f.cleanup == cl)) := by unfold Hid fnB;rw [hfn]
  clear hfn hF hln h1 h2
  go_enter Tryz.func50,Tryz.ntmps50
  go_wp2
  all_goals (go_ret;exact ⟨ret_bool (by rw [HR.out]),xt⟩)
set_option maxRecDepth 8000 in
theorem rwaits_any (p : Prg) (t : Tsk) (VP VT : Value) (w : World) (hP : RPrg w p VP) (hT : RTsk w t VT) (hst3 : t.status = 1 ∨ t.status = 2 ∨ t.status = 3) :
  Calls Tryz.prog 53 #[VP,VT] w fun e w' => e = .returned (.bool (waitB p t)) ∧ Ext w w' := by
 obtain ⟨Af,nf,cf,Ao,no,co,Av,nv,cv,rfl,hF,hO,hVr,hcf,hco,hcv⟩ := hP
 obtain ⟨Bf,mf,df,Bb,mb,db,rfl,_⟩ := hT
 clear hF hVr hcf hco hcv
 have hle := hO.le
 have HL := hO.len
 by_cases hst : t.status = 2
 rotate_left
 ·have e0 : (t.status != 2) = true := by simpa using hst
  have HR : Hid (waitB p t = ((t.wkind == 0) && (t.windex == 0) && !t.wagain)) := by unfold Hid waitB;rw [if_pos hst]
  clear hst hO HL hst3
  go_enter Tryz.func53,Tryz.ntmps53
  go_wp2
  all_goals (go_ret;exact ⟨ret_bool (by rw [HR.out];simp_all),xt⟩)
 have e0 : (t.status != 2) = false := by simpa using hst
 clear hst3
 by_cases hin : inB t.windex 0 ((no : Int) - 1) = true
 ·have hin' := inB_iff.1 hin
  obtain ⟨o,ho⟩ : ∃ o,p.objs[t.windex.toNat]? = some o := ⟨_,List.getElem?_eq_getElem (by omega)⟩
  obtain ⟨b,off,rfl,hlb,_,_,_,_,c0,c1,c2,c3⟩ := hO.ob ho
  have hlt : t.windex < (no : Int) := by omega
  have hge : 0 ≤ t.windex := hin'.1
  have HR : Hid (waitB p t = if t.wagain = true ∧ t.wkind ≠ 5 then false else if t.wkind = 1 then true else if t.wkind = 5 then o.kind == 1 else if t.wkind = 4 then decide (t.windex < 32) else if t.wkind = 2 ∨ t.wkind = 3 then t.windex == 0 else false) := by
   have h31 : inB t.windex 0 31 = decide (t.windex < 32) := by unfold inB;rw [decide_eq_decide];omega
   unfold Hid waitB kindAt;rw [if_neg (by simpa using hst),← HL,hin,ho,h31];simp
  clear hst hO HL ho hin hin'
  go_enter Tryz.func53,Tryz.ntmps53
  go_wp2
  all_goals (go_ret;exact ⟨ret_bool (by have g := HR.out;clear HR;rw [g];clear g;simp only [beq_iff_eq,beq_eq_false_iff_ne,ne_eq,bne_iff_ne,bne_eq_false_iff_eq,Bool.not_eq_true] at *;simp [*]),xt⟩)
 ·have hin : inB t.windex 0 ((no : Int) - 1) = false := by simpa using hin
  have hin' := inB_off.1 hin
  have HR : Hid (waitB p t = if t.wagain = true ∧ t.wkind ≠ 5 then false else if t.wkind = 1 then false else if t.wkind = 5 then false else if t.wkind = 4 then (decide (0 ≤ t.windex) && decide (t.windex < 32)) else if t.wkind = 2 ∨ t.wkind = 3 then t.windex == 0 else false) := by
   have h31 : inB t.windex 0 31 = (decide (0 ≤ t.windex) && decide (t.windex < 32)) := by unfold inB;rw [Bool.eq_iff_iff];simp;omega
   unfold Hid waitB kindAt;rw [if_neg (by simpa using hst),← HL,hin,h31];simp
  by_cases hge : 0 ≤ t.windex
  ·have hlt : ¬ t.windex < (no : Int) := by omega
   clear hst hO HL hin hin'
   go_enter Tryz.func53,Tryz.ntmps53
   go_wp2
   all_goals (go_ret;exact ⟨ret_bool (by have g := HR.out;clear HR;rw [g];clear g;simp only [beq_iff_eq,beq_eq_false_iff_ne,ne_eq,bne_iff_ne,bne_eq_false_iff_eq,Bool.not_eq_true] at *;simp [*]),xt⟩)
  ·clear hst hO HL hin hin'
   go_enter Tryz.func53,Tryz.ntmps53
   go_wp2
   all_goals (go_ret;exact ⟨ret_bool (by have g := HR.out;clear HR;rw [g];clear g;simp only [beq_iff_eq,beq_eq_false_iff_ne,ne_eq,bne_iff_ne,bne_eq_false_iff_eq,Bool.not_eq_true] at *;first | (simp [*];done) | (simp [*];omega)),xt⟩)
set_option maxRecDepth 8000 in
theorem rhandlers_any (p : Prg) (l : List Hdl) (V : Value) (A : Option Addr) (n c : Nat) (w : World) (hV : RPrg w p V) (hx : RSl 2 RHdl w A n l) :
  Calls Tryz.prog 86 #[V,.slice A n c] w fun e w' => e = .returned (.bool (decide (l.length ≤ 8) && l.all (hdlB p))) ∧ Ext w w' := by
 have HV := Lib.hid hV
 have HX := Lib.hid hx
 have HL := Lib.hid hx.len
 have hle := hx.le
 obtain ⟨Af,nf,cf,Ao,no,co,Av,nv,cv,rfl,hF,_⟩ := hV
 have HF := Lib.hid hF
 have hnf := hF.le
 have HNF := Lib.hid hF.len
 clear hx hF
 by_cases h8 : (8 : Int) < (n : Int)
 ·have HR : Hid ((decide (l.length ≤ 8) && l.all (hdlB p)) = false) := by rw [Hid,decide_eq_false (by have := HL.out;omega)];rfl
  go_enter Tryz.func86,Tryz.ntmps86
  go_wp2
  go_ret
  exact ⟨ret_bool HR.out.symm,xt⟩
 have HR : Hid ((decide (l.length ≤ 8) && l.all (hdlB p)) = l.all (hdlB p)) := by rw [Hid,decide_eq_true (by have := HL.out;omega)];rfl
 go_enter Tryz.func86,Tryz.ntmps86
 go_wp2
 refine wp_hid2 ?_
 intro W0 HW0
 have HE : Hid (Ext w W0) := by rw [HW0.out];exact Lib.hid xt
 have e0 : W0.cell? ⟨w.heap.size,0,none⟩ = some (.slice Af nf cf) := by rw [HW0.out];simp [go_sem]
 have e1 : W0.cell? ⟨w.heap.size,1,none⟩ = some (.slice Ao no co) := by rw [HW0.out];simp [go_sem]
 have e2 : W0.cell? ⟨w.heap.size,2,none⟩ = some (.slice Av nv cv) := by rw [HW0.out];simp [go_sem]
 have z0 : w.heap.size < W0.heap.size := lt_of_cell e0
 clear HW0
 go_loopg [5] n (fun gg s5 wr => ∃ k : Nat,k ≤ n ∧ n - k ≤ gg ∧ s5 = .int .i64 k ∧ Hid (Ext W0 wr) ∧ Hid (l.all (hdlB p) = (l.drop k).all (hdlB p)))
 case atStart => exact ⟨0,Nat.zero_le _,by omega,rfl,Ext.refl _,rfl⟩
 case round =>
  obtain ⟨k,hk,hg,rfl,HW,HI⟩ := hrel
  have hW := HW.out
  replace e0 := hW.cell e0
  replace e1 := hW.cell e1
  replace e2 := hW.cell e2
  have hsz := hW.size
  by_cases hlt : k < n
  ·have hltz : (k : Int) < (n : Int) := by omega
   have hk0 : (0 : Int) ≤ (k : Int) := by omega
   obtain ⟨h,hh⟩ : ∃ h,l[k]? = some h := ⟨_,List.getElem?_eq_getElem (by have := HL.out;omega)⟩
   obtain ⟨b2,off2,Aa,na,ca,rfl,hb2,_,⟨hA,_⟩,c0,c1⟩ := (HX.out.mono RHdl.stays (HE.out.trans hW)).hdl hh
   have HD := Lib.hid (all_drop (g := hdlB p) hh)
   have HFn := Lib.hid (fun W (hE : Ext wr W) => rfunction_any p h.fn true _ W (HV.out.mono ((HE.out.trans hW).trans hE)))
   have HNs := Lib.hid (fun W (hE : Ext wr W) => rnumbers_any Aa na ca h.args W (hA.mono RInt.stays hE))
   have hal := hA.len
   have hnal := hA.le
   cases hfn : fnAt p h.fn with
   | none =>
    have hq : fnB p h.fn true = false := by unfold fnB;rw [hfn]
    have HQ : Hid (hdlB p h = false) := by unfold Hid hdlB;rw [hfn]
    rw [hq] at HFn
    clear hh hA hq hfn hal
    go_wp2
    (refine wp_region_quiet_below (by kernel_rfl) (by kernel_rfl) ?_;(repeat (go_big_quiet_step ((go_at_call 50;exact quiet_ext (HFn.out _ xt)))));refine wpQuiet_nil fun w1 h1 => ?_;obtain ⟨hc,hf,hs,he⟩ := eu (w := wr) h1 xt;clear h1;(try simp only [sA,sC,sD,sN] at hs))
    go_wp2
    go_ret
    exact ⟨ret_bool (by rw [HR.out,HI.out,HD.out,HQ.out];rfl),(HE.out.trans HW.out).trans he⟩
   | some g =>
    obtain ⟨h0,h1,h2⟩ := fnAt_some hfn
    cases hcl : g.cleanup with
    | false =>
     have hq : fnB p h.fn true = false := by unfold fnB;rw [hfn];dsimp only;rw [hcl];rfl
     have HQ : Hid (hdlB p h = false) := by unfold Hid hdlB;rw [hfn];dsimp only;rw [hcl];rfl
     rw [hq] at HFn
     clear hh hA hq hfn hal h0 h1 h2 hcl
     go_wp2
     (refine wp_region_quiet_below (by kernel_rfl) (by kernel_rfl) ?_;(repeat (go_big_quiet_step ((go_at_call 50;exact quiet_ext (HFn.out _ xt)))));refine wpQuiet_nil fun w1 h1 => ?_;obtain ⟨hc,hf,hs,he⟩ := eu (w := wr) h1 xt;clear h1;(try simp only [sA,sC,sD,sN] at hs))
     go_wp2
     go_ret
     exact ⟨ret_bool (by rw [HR.out,HI.out,HD.out,HQ.out];rfl),(HE.out.trans HW.out).trans he⟩
    | true =>
     have hq : fnB p h.fn true = true := by unfold fnB;rw [hfn];dsimp only;rw [hcl];rfl
     have HQ : Hid (hdlB p h = (((na : Int) == g.params) && h.args.all numB)) := by unfold Hid hdlB;rw [hfn];dsimp only;rw [hcl,← hal];rfl
     rw [hq] at HFn
     obtain ⟨b3,off3,Ac,nc,cc,rfl,_,_,_,_,_,_,_,p1,_,_,_,_⟩ := HF.out.fnc h2
     replace p1 := hW.cell (HE.out.cell p1)
     have zb3 := lt_of_cell p1
     have zb2 := lt_of_cell c0
     have hltf : h.fn < (nf : Int) := by have := HNF.out;omega
     obtain ⟨q2,hq2⟩ : ∃ q,((na : Int) == g.params) = q := ⟨_,rfl⟩
     obtain ⟨q3,hq3⟩ : ∃ q,h.args.all numB = q := ⟨_,rfl⟩
     have hq2' : ((na : Int) != g.params) = !q2 := by rw [← hq2];rfl
     rw [hq2,hq3] at HQ
     rw [hq3] at HNs
     clear hh hA hq hfn hal h1 h2 hcl hq3
     cases q2 with
     | false =>
      have hq4 : ((na : Int) != g.params) = true := hq2'
      clear hq2'
      go_wp2
      (refine wp_region_quiet_below (by kernel_rfl) (by kernel_rfl) ?_;(repeat (go_big_quiet_step (first | (go_at_call 50;exact quiet_ext (HFn.out _ xt)) | (go_at_call 61;exact quiet_ext (HNs.out _ xt)))));refine wpQuiet_nil fun w1 h1 => ?_;obtain ⟨hc,hf,hs,he⟩ := eu (w := wr) h1 xt;clear h1;(try simp only [sA,sC,sD,sN] at hs))
      go_wp2
      go_ret
      exact ⟨ret_bool (by rw [HR.out,HI.out,HD.out,HQ.out];rfl),(HE.out.trans HW.out).trans he⟩
     | true =>
      have hq4 : ((na : Int) != g.params) = false := hq2'
      clear hq2'
      cases q3 with
      | false =>
       go_wp2
       (refine wp_region_quiet_below (by kernel_rfl) (by kernel_rfl) ?_;(repeat (go_big_quiet_step (first | (go_at_call 50;exact quiet_ext (HFn.out _ xt)) | (go_at_call 61;exact quiet_ext (HNs.out _ xt)))));refine wpQuiet_nil fun w1 h1 => ?_;obtain ⟨hc,hf,hs,he⟩ := eu (w := wr) h1 xt;clear h1;(try simp only [sA,sC,sD,sN] at hs))
       go_wp2
       go_ret
       exact ⟨ret_bool (by rw [HR.out,HI.out,HD.out,HQ.out];rfl),(HE.out.trans HW.out).trans he⟩
      | true =>
       go_wp2
       (refine wp_region_quiet_below (by kernel_rfl) (by kernel_rfl) ?_;(repeat (go_big_quiet_step (first | (go_at_call 50;exact quiet_ext (HFn.out _ xt)) | (go_at_call 61;exact quiet_ext (HNs.out _ xt)))));refine wpQuiet_nil fun w1 h1 => ?_;obtain ⟨hc,hf,hs,he⟩ := eu (w := wr) h1 xt;clear h1;(try simp only [sA,sC,sD,sN] at hs))
       go_wp2
       go_roundg (n - (k + 1))
       case measure => omega
       case rel => exact ⟨k + 1,by omega,by omega,by go_num,Ext.trans HW.out he,by rw [Hid,HI.out,HD.out,HQ.out];rfl⟩
  ·have hltz : ¬ (k : Int) < (n : Int) := by omega
   have HFi : Hid (l.all (hdlB p) = true) := by rw [Hid,HI.out,List.drop_eq_nil_of_le (by have := HL.out;omega)];rfl
   go_wp2
   go_ret
   exact ⟨ret_bool (by rw [HR.out,HFi.out]),HE.out.trans HW.out⟩
def regsTo (n : Nat) (l : List Int) (k : Nat) : List Int := l.take k ++ List.replicate (n - k) 0
theorem regsTo_length {n : Nat} {l : List Int} {k : Nat} (hk : k ≤ l.length) (hn : l.length ≤ n) : (regsTo n l k).length = n := by simp [regsTo];omega
theorem regsTo_all (n : Nat) (l : List Int) : regsTo n l l.length = regsOf n l := by simp [regsTo,regsOf]
theorem regsTo_set {n : Nat} {l : List Int} {k : Nat} {a : Int} (h : l[k]? = some a) (hn : l.length ≤ n) : (regsTo n l k).set k a = regsTo n l (k + 1) := by
 have hk := (List.getElem?_eq_some_iff.1 h).1
 unfold regsTo
 have hl : (l.take k).length = k := by simp;omega
 rw [List.set_append_right _ _ (by omega),hl,Nat.sub_self,show n - k = (n - (k + 1)) + 1 by omega,List.replicate_succ,List.set_cons_zero,List.take_add_one,List.append_assoc,h]
 rfl
set_option maxRecDepth 4000 in
theorem rregs_any (n : Nat) (xs : List Int) (A : Option Addr) (m c : Nat) (w : World) (hx : RSl 1 RInt w A m xs) (hle : xs.length ≤ n) (hn : n ≤ 1000) :
  Calls Tryz.prog 62 #[int .i64 n,.slice A m c] w fun e w' => ∃ g,e = .returned (.slice (some ⟨g,0,none⟩) n n) ∧ w.heap.size ≤ g ∧ w'.ownsRow w.heap.size 3 1 (.slice (some ⟨g,0,none⟩) n n) n ((regsOf n xs).map (int .i64)) ∧ Ext w w' := by
 have HML := Lib.hid hx.len
 have hmn : m ≤ n := by have := hx.len;omega
 have HX := Lib.hid hx
 have HLE := Lib.hid hle
 have hmk := fun W => run_make_row' (P := Tryz.prog) 35 3 (.int .i64 0) 8 Tryz.underlying35 infoInt rfl .i64 .i64 n (by omega) (by omega) W
 clear hx hle
 go_enter Tryz.func62,Tryz.ntmps62
 go_wp2
 refine wp_hid2 ?_
 intro W0 HW0
 have HE : Hid (Ext w W0) := by rw [HW0.out];exact Lib.hid xt
 have HO : Hid (W0.ownsRow w.heap.size 3 1 (.slice (some ⟨w.heap.size,0,none⟩) n n) n ((regsTo n xs 0).map (int .i64))) := by
  rw [Hid,HW0.out,madeCells_one]
  have h1 := World.ownsRow_lit (base := w.heap.size) (e := 3) (size := 1) w (List.replicate n (int .i64 0)).toArray n (by simp) (by simp only [maxLen];omega) (by simp)
  simpa [regsTo] using h1
 clear HW0 hmk
 go_loopg [6] m (fun gg s6 wr => ∃ kk : Nat,kk ≤ m ∧ m - kk ≤ gg ∧ s6 = .int .i64 kk ∧ Hid (Ext w wr) ∧ Hid (wr.ownsRow w.heap.size 3 1 (.slice (some ⟨w.heap.size,0,none⟩) n n) n ((regsTo n xs kk).map (int .i64))))
 case atStart => exact ⟨0,Nat.zero_le _,by omega,rfl,HE.out,HO⟩
 case round =>
  obtain ⟨kk,hkk,hg,rfl,HW,HR⟩ := hrel
  by_cases hlt : kk < m
  ·have hltz : (kk : Int) < (m : Int) := by omega
   have hltn : (kk : Int) < (n : Int) := by omega
   obtain ⟨a,hak⟩ : ∃ a,xs[kk]? = some a := ⟨_,List.getElem?_eq_getElem (by have := HML.out;omega)⟩
   obtain ⟨b,off,rfl,hlb,_,d0⟩ := HX.out.int hak
   have e0 := HW.out.cell d0
   have hlb2 := Nat.lt_of_lt_of_le hlb HW.out.size
   have HS := Lib.hid (regsTo_set hak HLE.out)
   clear hak d0 hlb
   have HWE := HW.out
   obtain ⟨u,hu⟩ : ∃ u,((regsTo n xs kk).map (int .i64))[kk]? = some u := ⟨_,List.getElem?_eq_getElem (by rw [List.length_map,regsTo_length (by have := HML.out;omega) HLE.out];omega)⟩
   have r1 := World.ownsRow.frozenAt (g := w.heap.size) HR.out kk
   have r2 := World.ownsRow.cellAt (g := w.heap.size) HR.out kk (by omega)
   rw [hu] at r2
   go_wp2
   go_roundg (m - (kk + 1))
   case measure => omega
   case rel =>
    refine ⟨kk + 1,by omega,by omega,by go_num,HWE.setCell (Nat.le_refl _) _, ?_⟩
    have h9 := (World.ownsRow.stored (g := w.heap.size) HR.out kk (int .i64 a)).1
    rw [← List.map_set,HS.out] at h9
    exact h9
  ·have hltz : ¬ (kk : Int) < (m : Int) := by omega
   have hkm : kk = m := by omega
   go_wp2
   go_ret
   exact ⟨_,rfl,Nat.le_refl _,by have h1 := HR.out;rw [hkm,HML.out,regsTo_all] at h1;exact h1,HW.out⟩
theorem blkB0 {p : Prg} {l : List Blk} {b : Blk} (h : l[0]? = some b) : blkB p l 0 = (decide (b.handlers.length ≤ 8) && b.handlers.all (hdlB p) && ((b.scope == -1) && (b.depth == 0) && (b.exit == 0) && (b.mask == 0))) := by
 unfold blkB;rw [h];rfl
theorem blkBs {p : Prg} {l : List Blk} {b a : Blk} {j : Nat} (h : l[j + 1]? = some b) (ha : l[j]? = some a) :
  blkB p l (j + 1) = (decide (b.handlers.length ≤ 8) && b.handlers.all (hdlB p) && (inB b.scope 0 31 && inB b.depth 1 8 && inB b.mask 0 100 && decide (a.scope < b.scope) && decide (a.depth ≤ b.depth))) := by
 unfold blkB;rw [h];dsimp only;rw [if_neg (by omega),Nat.add_sub_cancel,ha]
theorem allB_step {g : Nat → Bool} {n k : Nat} (h : k < n) : allB g (n - k) k = (g k && allB g (n - (k + 1)) (k + 1)) := by
 rw [show n - k = (n - (k + 1)) + 1 by omega];rfl
theorem allB_done {g : Nat → Bool} {n k : Nat} (h : n ≤ k) : allB g (n - k) k = true := by
 rw [show n - k = 0 by omega];rfl
set_option maxRecDepth 8000 in
theorem rblocks_any (p : Prg) (l : List Blk) (V : Value) (A : Option Addr) (n c : Nat) (w : World) (hV : RPrg w p V) (hx : RSl 5 RBlk w A n l) :
  Calls Tryz.prog 55 #[V,.slice A n c] w fun e w' => e = .returned (.bool (blksB p l)) ∧ Ext w w' := by
 have HV := Lib.hid hV
 have HX := Lib.hid hx
 have HL := Lib.hid hx.len
 have hle := hx.le
 obtain ⟨Af,nf,cf,Ao,no,co,Av,nv,cv,rfl,_⟩ := hV
 clear hx
 by_cases hlen : inB (l.length : Int) 1 8 = true
 rotate_left
 ·have HR : Hid (blksB p l = false) := by unfold Hid blksB;rw [Bool.not_eq_true] at hlen;rw [hlen];rfl
  rw [inB_iff] at hlen
  by_cases h1 : (n : Int) < 1
  ·clear hlen
   go_enter Tryz.func55,Tryz.ntmps55
   go_wp2
   go_ret
   exact ⟨ret_bool HR.out.symm,xt⟩
  ·have h8 : (8 : Int) < (n : Int) := by have := HL.out;omega
   clear hlen
   go_enter Tryz.func55,Tryz.ntmps55
   go_wp2
   go_ret
   exact ⟨ret_bool HR.out.symm,xt⟩
 have HR0 : Hid (blksB p l = allB (blkB p l) n 0) := by unfold Hid blksB;rw [hlen,HL.out];rfl
 rw [inB_iff] at hlen
 have h1 : ¬ (n : Int) < 1 := by have := HL.out;omega
 have h8 : ¬ (8 : Int) < (n : Int) := by have := HL.out;omega
 have hn1 : (0 : Int) < (n : Int) := by omega
 obtain ⟨b0,hb0⟩ : ∃ b,l[0]? = some b := ⟨_,List.getElem?_eq_getElem (by omega)⟩
 have HB0 := Lib.hid (blkB0 (p := p) hb0)
 have HG : Hid (((b0.scope == -1) && (b0.depth == 0) && (b0.exit == 0) && (b0.mask == 0)) = false → blksB p l = false) := by
  intro hh
  rw [HR0.out]
  obtain ⟨n',hn'⟩ : ∃ n',n = n' + 1 := ⟨n - 1,by omega⟩
  rw [hn'];show (blkB p l 0 && _) = false
  rw [HB0.out,hh,Bool.and_false];rfl
 obtain ⟨bb,boff,Ah0,nh0,ch0,rfl,hbb,_,_,_,_,_,d0,d1,d2,d3,_⟩ := HX.out.blk hb0
 have HE0 := Lib.hid hb0
 simp only [Nat.zero_mul,Nat.add_zero] at d0 d1 d2 d3
 clear hb0 hlen
 by_cases g0 : b0.scope = -1
 rotate_left
 ·have HR : Hid (blksB p l = false) := HG.out (by simp [g0])
  clear HG
  have g0' : (b0.scope != -1) = true := by simpa using g0
  clear g0
  go_enter Tryz.func55,Tryz.ntmps55
  go_wp2
  go_ret
  exact ⟨ret_bool HR.out.symm,xt⟩
 by_cases g1 : b0.depth = 0
 rotate_left
 ·have HR : Hid (blksB p l = false) := HG.out (by simp [g1])
  clear HG
  have g1' : (b0.depth != 0) = true := by simpa using g1
  clear g1
  rw [g0] at d0
  go_enter Tryz.func55,Tryz.ntmps55
  go_wp2
  go_ret
  exact ⟨ret_bool HR.out.symm,xt⟩
 by_cases g2 : b0.exit = 0
 rotate_left
 ·have HR : Hid (blksB p l = false) := HG.out (by simp [g2])
  clear HG
  have g2' : (b0.exit != 0) = true := by simpa using g2
  clear g2
  rw [g0] at d0
  rw [g1] at d1
  go_enter Tryz.func55,Tryz.ntmps55
  go_wp2
  go_ret
  exact ⟨ret_bool HR.out.symm,xt⟩
 by_cases g3 : b0.mask = 0
 rotate_left
 ·have HR : Hid (blksB p l = false) := HG.out (by simp [g3])
  clear HG
  have g3' : (b0.mask != 0) = true := by simpa using g3
  clear g3
  rw [g0] at d0
  rw [g1] at d1
  rw [g2] at d2
  go_enter Tryz.func55,Tryz.ntmps55
  go_wp2
  go_ret
  exact ⟨ret_bool HR.out.symm,xt⟩
 have HB0' : Hid (blkB p l 0 = (decide (b0.handlers.length ≤ 8) && b0.handlers.all (hdlB p))) := by rw [Hid,HB0.out,g0,g1,g2,g3];simp
 clear HG HB0
 rw [g0] at d0
 rw [g1] at d1
 rw [g2] at d2
 rw [g3] at d3
 go_enter Tryz.func55,Tryz.ntmps55
 go_wp2
 refine wp_hid2 ?_
 intro W0 HW0
 have HE : Hid (Ext w W0) := by rw [HW0.out];exact Lib.hid xt
 have e0 : W0.cell? ⟨w.heap.size,0,none⟩ = some (.slice Af nf cf) := by rw [HW0.out];simp [go_sem]
 have e1 : W0.cell? ⟨w.heap.size,1,none⟩ = some (.slice Ao no co) := by rw [HW0.out];simp [go_sem]
 have e2 : W0.cell? ⟨w.heap.size,2,none⟩ = some (.slice Av nv cv) := by rw [HW0.out];simp [go_sem]
 have z0 : w.heap.size < W0.heap.size := lt_of_cell e0
 clear HW0 d0 d1 d2 d3
 go_loopg [5] n (fun gg s5 wr => ∃ k : Nat,k ≤ n ∧ n - k ≤ gg ∧ s5 = .int .i64 k ∧ Hid (Ext W0 wr) ∧ Hid (blksB p l = allB (blkB p l) (n - k) k))
 case atStart => exact ⟨0,Nat.zero_le _,by omega,rfl,Ext.refl _,HR0⟩
 case round =>
  obtain ⟨k,hk,hg,rfl,HW,HI⟩ := hrel
  have hW := HW.out
  replace e0 := hW.cell e0
  replace e1 := hW.cell e1
  replace e2 := hW.cell e2
  have hsz := hW.size
  clear HR0
  by_cases hlt : k < n
  ·have hltz : (k : Int) < (n : Int) := by omega
   have hk0 : (0 : Int) ≤ (k : Int) := by omega
   have HD := Lib.hid (allB_step (g := blkB p l) hlt)
   obtain ⟨b,hb⟩ : ∃ b,l[k]? = some b := ⟨_,List.getElem?_eq_getElem (by have := HL.out;omega)⟩
   obtain ⟨b1,off1,Ah,nh,ch,hAe,hb1,_,_,_,_,⟨hH,_⟩,c0,c1,c2,c3,c4⟩ := (HX.out.mono RBlk.stays (HE.out.trans hW)).blk hb
   cases hAe
   have HHn := Lib.hid (fun W (hE : Ext wr W) => rhandlers_any p b.handlers _ Ah nh ch W (HV.out.mono ((HE.out.trans hW).trans hE)) (hH.mono RHdl.stays hE))
   clear hH
   obtain ⟨q,hq⟩ : ∃ q,(decide (b.handlers.length ≤ 8) && b.handlers.all (hdlB p)) = q := ⟨_,rfl⟩
   rw [hq] at HHn
   rcases Nat.eq_zero_or_pos k with hkz | hkp
   ·have hbe : b = b0 := by have := HE0.out;rw [← hkz,hb] at this;exact Option.some.inj this
    have HQ : Hid (blkB p l k = q) := by rw [Hid,hkz,HB0'.out,← hbe,hq]
    have hkz' : decide ((0 : Int) < (k : Int)) = false := decide_eq_false (by omega)
    have HZ : Hid ((k : Int) = 0) := Lib.hid (by omega)
    clear hq hb HB0' HE0 hbe hkz
    cases q with
    | false =>
     go_wp2
     (refine wp_region_quiet_below (by kernel_rfl) (by kernel_rfl) ?_;(repeat (go_big_quiet_step ((go_at_call 86;exact quiet_ext (HHn.out _ xt)))));refine wpQuiet_nil fun w1 h1 => ?_;obtain ⟨hc,hf,hs,he⟩ := eu (w := wr) h1 xt;clear h1;(try simp only [sA,sC,sD,sN] at hs))
     go_wp2
     go_ret
     exact ⟨ret_bool (by rw [HI.out,HD.out,HQ.out];rfl),(HE.out.trans HW.out).trans he⟩
    | true =>
     go_wp2
     (refine wp_region_quiet_below (by kernel_rfl) (by kernel_rfl) ?_;(repeat (go_big_quiet_step ((go_at_call 86;exact quiet_ext (HHn.out _ xt)))));refine wpQuiet_nil fun w1 h1 => ?_;obtain ⟨hc,hf,hs,he⟩ := eu (w := wr) h1 xt;clear h1;(try simp only [sA,sC,sD,sN] at hs))
     go_upto_region 8 with fail
     rw [HZ.out]
     go_quiet (fail)
     go_wp2
     have HK1 : Hid (k = 0) := Lib.hid (by have := HZ.out;omega)
     go_roundg (n - 1)
     case measure => have := HZ.out;omega
     case rel => exact ⟨1,by omega,by omega,by first | rfl | go_num,Ext.trans HW.out (he.trans xt),by rw [Hid,HI.out,HD.out,HQ.out,HK1.out];rfl⟩
   ·obtain ⟨j,hj⟩ : ∃ j,k = j + 1 := ⟨k - 1,by omega⟩
    have HZ : Hid ((k : Int) = (j : Int) + 1) := Lib.hid (by omega)
    obtain ⟨a,ha⟩ : ∃ a,l[j]? = some a := ⟨_,List.getElem?_eq_getElem (by have := HL.out;omega)⟩
    obtain ⟨b2,off2,_,_,_,hAe,_,_,_,_,_,_,x0,x1,_⟩ := (HX.out.mono RBlk.stays (HE.out.trans hW)).blk ha
    cases hAe
    have hjn : (j : Int) < (n : Int) := by omega
    have hjn1 : (j : Int) + 1 < (n : Int) := by omega
    have hj0 : (0 : Int) ≤ (j : Int) := by omega
    obtain ⟨d1,h1⟩ : ∃ q,decide (b.scope < 0) = q := ⟨_,rfl⟩
    obtain ⟨d2,h2⟩ : ∃ q,decide (32 ≤ b.scope) = q := ⟨_,rfl⟩
    obtain ⟨d3,h3⟩ : ∃ q,decide (b.scope ≤ a.scope) = q := ⟨_,rfl⟩
    obtain ⟨d4,h4⟩ : ∃ q,decide (b.depth < 1) = q := ⟨_,rfl⟩
    obtain ⟨d5,h5⟩ : ∃ q,decide (8 < b.depth) = q := ⟨_,rfl⟩
    obtain ⟨d6,h6⟩ : ∃ q,decide (b.depth < a.depth) = q := ⟨_,rfl⟩
    obtain ⟨d7,h7⟩ : ∃ q,decide (b.mask < 0) = q := ⟨_,rfl⟩
    obtain ⟨d8,h8⟩ : ∃ q,decide (100 < b.mask) = q := ⟨_,rfl⟩
    have HQ : Hid (blkB p l k = (q && (!d1 && !d2 && !d3 && !d4 && !d5 && !d6 && !d7 && !d8))) := by
     rw [Hid,hj,blkBs (by rw [← hj];exact hb) ha,hq,← h1,← h2,← h3,← h4,← h5,← h6,← h7,← h8,Bool.eq_iff_iff]
     unfold inB
     cases q
     ·simp
     ·simp;omega
    have hkp' : decide (0 < k) = true := decide_eq_true hkp
    rw [hj] at c0 c1 c2 c3
    clear hq hb HB0' HE0 hj ha
    cases q with
    | false =>
     clear h1 h2 h3 h4 h5 h6 h7 h8
     go_wp2
     (refine wp_region_quiet_below (by kernel_rfl) (by kernel_rfl) ?_;(repeat (go_big_quiet_step ((go_at_call 86;exact quiet_ext (HHn.out _ xt)))));refine wpQuiet_nil fun w1 h1 => ?_;obtain ⟨hc,hf,hs,he⟩ := eu (w := wr) h1 xt;clear h1;(try simp only [sA,sC,sD,sN] at hs))
     go_wp2
     go_ret
     exact ⟨ret_bool (by rw [HI.out,HD.out,HQ.out];rfl),(HE.out.trans HW.out).trans he⟩
    | true =>
     go_wp2
     (refine wp_region_quiet_below (by kernel_rfl) (by kernel_rfl) ?_;(repeat (go_big_quiet_step ((go_at_call 86;exact quiet_ext (HHn.out _ xt)))));refine wpQuiet_nil fun w1 h1 => ?_;obtain ⟨hc,hf,hs,he⟩ := eu (w := wr) h1 xt;clear h1;(try simp only [sA,sC,sD,sN] at hs))
     go_upto_region 8 with fail
     rw [HZ.out]
     clear hkp hkp'
     cases d1 with
     | true =>
      go_quiet (fail)
      go_wp2
      go_ret
      exact ⟨ret_bool (by rw [HI.out,HD.out,HQ.out];simp),(HE.out.trans HW.out).trans (he.trans xt)⟩
     | false =>
     cases d2 with
     | true =>
      go_quiet (fail)
      go_wp2
      go_ret
      exact ⟨ret_bool (by rw [HI.out,HD.out,HQ.out];simp),(HE.out.trans HW.out).trans (he.trans xt)⟩
     | false =>
     cases d3 with
     | true =>
      go_quiet (fail)
      go_wp2
      go_ret
      exact ⟨ret_bool (by rw [HI.out,HD.out,HQ.out];simp),(HE.out.trans HW.out).trans (he.trans xt)⟩
     | false =>
     cases d4 with
     | true =>
      go_quiet (fail)
      go_wp2
      go_ret
      exact ⟨ret_bool (by rw [HI.out,HD.out,HQ.out];simp),(HE.out.trans HW.out).trans (he.trans xt)⟩
     | false =>
     cases d5 with
     | true =>
      go_quiet (fail)
      go_wp2
      go_ret
      exact ⟨ret_bool (by rw [HI.out,HD.out,HQ.out];simp),(HE.out.trans HW.out).trans (he.trans xt)⟩
     | false =>
     cases d6 with
     | true =>
      go_quiet (fail)
      go_wp2
      go_ret
      exact ⟨ret_bool (by rw [HI.out,HD.out,HQ.out];simp),(HE.out.trans HW.out).trans (he.trans xt)⟩
     | false =>
     cases d7 with
     | true =>
      go_quiet (fail)
      go_wp2
      go_ret
      exact ⟨ret_bool (by rw [HI.out,HD.out,HQ.out];simp),(HE.out.trans HW.out).trans (he.trans xt)⟩
     | false =>
     cases d8 with
     | true =>
      go_quiet (fail)
      go_wp2
      go_ret
      exact ⟨ret_bool (by rw [HI.out,HD.out,HQ.out];simp),(HE.out.trans HW.out).trans (he.trans xt)⟩
     | false =>
     go_quiet (fail)
     go_wp2
     go_roundg (n - (k + 1))
     case measure => have := HZ.out;omega
     case rel => exact ⟨k + 1,by omega,by omega,by rw [← HZ.out];go_num,Ext.trans HW.out (he.trans xt),by rw [Hid,HI.out,HD.out,HQ.out];rfl⟩
  ·have hltz : ¬ (k : Int) < (n : Int) := by omega
   have HFi : Hid (blksB p l = true) := by rw [Hid,HI.out,allB_done (by omega)]
   go_wp2
   go_ret
   exact ⟨ret_bool HFi.out.symm,HE.out.trans HW.out⟩
end Go.Proofs.YtcjjoabofecjmaaGreat

