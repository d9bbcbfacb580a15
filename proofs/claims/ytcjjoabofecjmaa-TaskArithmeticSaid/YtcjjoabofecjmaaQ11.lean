/- A part of the proof: What Check of chapter 28 answers about a program and a task,. -/
import Derived.Test.YtcjjoabofecjmaaQ08
import Derived.Test.YtcjjoabofecjmaaQ15
set_option linter.unusedVariables false
set_option linter.unusedSimpArgs false
set_option maxHeartbeats 16000000
namespace Go.Proofs.Ytcjjoabofecjmaa
open Go.RowKit
open Go.Value (int)
def numB (x : Int) : Bool := inB x (-1099511627776) 1099511627776
def fnAt (p : Prg) (i : Int) : Option Fnc := if i < 0 then none else p.funcs[i.toNat]?
theorem fnAt_some {p : Prg} {i : Int} {f : Fnc} (h : fnAt p i = some f) : 0 ≤ i ∧ i < (p.funcs.length : Int) ∧ p.funcs[i.toNat]? = some f := by
 unfold fnAt at h
 split at h
 ·cases h
 ·have := (List.getElem?_eq_some_iff.1 h).1
  exact ⟨by omega,by omega,h⟩
theorem fnAt_none {p : Prg} {i : Int} (h : fnAt p i = none) : i < 0 ∨ (p.funcs.length : Int) ≤ i := by
 unfold fnAt at h
 split at h
 ·omega
 ·rw [List.getElem?_eq_none_iff] at h;omega
theorem fnAt_in {p : Prg} {i : Int} (h0 : 0 ≤ i) (h1 : i < (p.funcs.length : Int)) : ∃ f,fnAt p i = some f := by
 unfold fnAt
 rw [if_neg (by omega)]
 exact ⟨_,List.getElem?_eq_getElem (by omega)⟩
theorem inB_true {n lo hi : Int} (h : lo ≤ n ∧ n ≤ hi) : inB n lo hi = true := by simp [inB,h]
theorem inB_false {n lo hi : Int} (h : n < lo ∨ hi < n) : inB n lo hi = false := by
 unfold inB;rw [decide_eq_false];omega
theorem inB_iff {n lo hi : Int} : inB n lo hi = true ↔ lo ≤ n ∧ n ≤ hi := by simp [inB]
def allB (f : Nat → Bool) : Nat → Nat → Bool
 | 0,_ => true
 | n + 1,i => f i && allB f n (i + 1)
theorem allB_iff {f : Nat → Bool} : ∀ {n i : Nat},allB f n i = true ↔ ∀ k,i ≤ k → k < i + n → f k = true
 | 0,i => by simp only [allB,true_iff];intro k h1 h2;omega
 | n + 1,i => by
  simp only [allB,Bool.and_eq_true]
  rw [allB_iff (n := n) (i := i + 1)]
  constructor
  ·rintro ⟨h1,h2⟩ k hk hk2
   rcases Nat.lt_or_ge i k with h | h
   ·exact h2 k h (by omega)
   ·have : k = i := by omega
    subst this;exact h1
  ·intro h
   exact ⟨h i (Nat.le_refl _) (by omega),fun k h1 h2 => h k (by omega) (by omega)⟩
def numsB (p : Prg) (t : Tsk) : Bool := match fnAt p t.fn with
 | none => false
 | some f => !f.cleanup && (t.prio == f.prio) && inB t.scope 0 31 && numB t.result && (inB t.reason 0 9 || inB t.reason 100 999) && inB t.status 1 3
def waitB (p : Prg) (t : Tsk) : Bool :=
 if t.status ≠ 2 then (t.wkind == 0) && (t.windex == 0) && !t.wagain
 else if t.wagain = true ∧ t.wkind ≠ 5 then false
 else if t.wkind = 1 then inB t.windex 0 ((p.objs.length : Int) - 1)
 else if t.wkind = 5 then inB t.windex 0 ((p.objs.length : Int) - 1) && (kindAt p t.windex == 1)
 else if t.wkind = 4 then inB t.windex 0 31
 else if t.wkind = 2 ∨ t.wkind = 3 then t.windex == 0
 else false
def hdlB (p : Prg) (h : Hdl) : Bool := match fnAt p h.fn with
 | none => false
 | some f => f.cleanup && ((h.args.length : Int) == f.params) && h.args.all numB
def blkB (p : Prg) (bs : List Blk) (i : Nat) : Bool := match bs[i]? with
 | none => false
 | some b => decide (b.handlers.length ≤ 8) && b.handlers.all (hdlB p) &&
  (if i = 0 then (b.scope == -1) && (b.depth == 0) && (b.exit == 0) && (b.mask == 0)
   else match bs[i - 1]? with
   | none => false
   | some a => inB b.scope 0 31 && inB b.depth 1 8 && inB b.mask 0 100 && decide (a.scope < b.scope) && decide (a.depth ≤ b.depth))
def blksB (p : Prg) (bs : List Blk) : Bool := inB (bs.length : Int) 1 8 && allB (blkB p bs) bs.length 0
def frmB (p : Prg) (t : Tsk) (i : Nat) : Bool := match t.frames[i]? with
 | none => false
 | some f => match fnAt p f.fn with
  | none => false
  | some g => ((f.regs.length : Int) == g.regs) && f.regs.all numB && inB f.pc 0 (g.code.length : Int) && (f.cleanup == g.cleanup) &&
   (if f.cleanup = true then (f.result == -1) && (i + 1 == t.frames.length)
   else if i = 0 then (f.fn == t.fn) && (f.result == -1)
   else match t.frames[i - 1]? with
    | none => false
    | some h => match fnAt p h.fn with
     | none => false
     | some k => inB f.result 0 (k.regs - 1))
def keepB (p : Prg) (t : Tsk) (i : Nat) : Bool := match t.blocks[i]? with
 | none => false
 | some b => decide (b.depth ≤ (plainN t : Int)) && match t.frames[(b.depth - 1).toNat]? with
  | none => false
  | some f => match fnAt p f.fn with
   | none => false
   | some g => inB b.exit 0 ((g.code.length : Int) - 1) && match g.code[b.exit.toNat]? with
    | none => false
    | some x => x.op == 36
def leastI (t : Tsk) : Int := if inHand t = true then 1 else 0
def mostI (t : Tsk) : Int := if inHand t = true then 101 else 100
def depthAt (t : Tsk) (i : Int) : Int := match t.blocks[i.toNat]? with | some b => b.depth | none => 0
def keepsN (t : Tsk) : Nat := if t.unw = true then t.level.toNat else t.blocks.length
def livB (p : Prg) (t : Tsk) : Bool :=
 blksB p t.blocks && inB t.mask (leastI t) (mostI t) && decide (plainN t ≤ 8) && !(decide (plainN t = 0) && (!t.unw || (t.level != 0)))
  && !((t.level != 0) && (!t.unw || !inB t.level 2 (t.blocks.length : Int)))
  && !(t.unw && (((t.level == 0) && decide (0 < plainN t)) || (decide (0 < t.level) && ((plainN t : Int) != depthAt t (t.level - 1)))))
  && allB (frmB p t) t.frames.length 0 && allB (keepB p t) (keepsN t - 1) 1
def tcheckS (p : Prg) (t : Tsk) : Int :=
 if checkS p ≠ 0 ∨ numsB p t = false ∨ waitB p t = false then 1
 else if t.status = 3 then (if t.frames.length = 0 ∧ t.blocks.length = 0 ∧ t.mask = 0 ∧ t.level = 0 ∧ t.unw = false then 0 else 1)
 else if livB p t = true then 0 else 1
theorem outside_any (n : Int) (w : World) :
  Calls Try.prog 14 #[int .i64 n] w fun e w' => e = .returned (.bool (!numB n)) ∧ w = w' := by
 go_enter Try.func14,Try.ntmps14
 go_wp2
 all_goals (go_ret;exact ⟨ret_bool (by unfold numB inB;rw [Bool.eq_iff_iff];simp at * <;> omega),rfl⟩)
theorem twithin_any (n lo hi : Int) (w : World) :
  Calls Try.prog 50 #[int .i64 n,int .i64 lo,int .i64 hi] w fun e w' => e = .returned (.bool (inB n lo hi)) ∧ w = w' := by
 go_enter Try.func50,Try.ntmps50
 go_wp2
 all_goals (go_ret;exact ⟨ret_bool (by unfold inB;simp [*] <;> omega),rfl⟩)
theorem twithin_is {n lo hi : Int} {q : Bool} (hq : inB n lo hi = q) (w : World) :
  Calls Try.prog 50 #[int .i64 n,int .i64 lo,int .i64 hi] w fun e w' => e = .returned (.bool q) ∧ w = w' := by rw [← hq];exact twithin_any n lo hi w
theorem sub_one {n : Nat} (h : n ≤ 9223372036854775807) : IntKind.i64.wrap ((n : Int) - 1) = (n : Int) - 1 := IntWalk.i64_in _ (by omega)
theorem validNumbers_any (p : Prg) (t : Tsk) (VP VT : Value) (w : World) (hP : RPrg w p VP) (hT : RTsk w t VT) :
  Calls Try.prog 26 #[VP,VT] w fun e w' => e = .returned (.bool (numsB p t)) ∧ Ext w w' := by
 obtain ⟨Af,nf,cf,Ao,no,co,Av,nv,cv,rfl,hF,hO,hVr,hcf,hco,hcv⟩ := hP
 obtain ⟨Bf,mf,df,Bb,mb,db,rfl,_,_,_,_,_,_,_,_,_,_,hF2,hB2,_⟩ := hT
 clear hF2 hB2 hO hVr hcf hco hcv
 have hle := hF.le
 have HS := sub_one hle
 have HL := hF.len
 cases hfn : fnAt p t.fn with
 | none =>
  have HQ : inB t.fn 0 ((nf : Int) - 1) = false := inB_false (by rcases fnAt_none hfn with h | h <;> omega)
  have HR : Hid (numsB p t = false) := by unfold Hid numsB;rw [hfn]
  clear hfn hF HL
  go_enter Try.func26,Try.ntmps26
  go_wp2
  (refine wp_region_quiet_below (by kernel_rfl) (by kernel_rfl) ?_;(repeat (go_big_quiet_step ((go_at_call 50;exact quiet_same (twithin_is HQ _)))));refine wpQuiet_nil fun w1 h1 => ?_;obtain ⟨hc,hf,hs,he⟩ := eu (w := w) h1 xt;clear h1;(try simp only [sA,sC,sD,sN] at hs))
  go_wp2
  go_ret
  exact ⟨ret_bool HR.out.symm,he⟩
 | some f =>
  obtain ⟨h0,h1,h2⟩ := fnAt_some hfn
  have HQ : inB t.fn 0 ((nf : Int) - 1) = true := inB_true (by omega)
  obtain ⟨b,off,Ac,nc,cc,rfl,hlb,hsz,i1,i2,i3,hC,c0,c1,c2,c3,c4,c5⟩ := hF.fnc h2
  have hlt : t.fn < (nf : Int) := by omega
  have HR : Hid (numsB p t = (!f.cleanup && (t.prio == f.prio) && inB t.scope 0 31 && numB t.result && (inB t.reason 0 9 || inB t.reason 100 999) && inB t.status 1 3)) := by unfold Hid numsB;rw [hfn]
  clear hfn hF HL h1 h2 hC
  cases hcl : f.cleanup with
  | true =>
   rw [hcl] at c4
   have HR : Hid (numsB p t = false) := by rw [Hid,HR.out,hcl];rfl
   clear hcl
   go_enter Try.func26,Try.ntmps26
   go_wp2
   (refine wp_region_quiet_below (by kernel_rfl) (by kernel_rfl) ?_;(repeat (go_big_quiet_step ((go_at_call 50;exact quiet_same (twithin_is HQ _)))));refine wpQuiet_nil fun w1 h1 => ?_;obtain ⟨hc,hf,hs,he⟩ := eu (w := w) h1 xt;clear h1;(try simp only [sA,sC,sD,sN] at hs))
   go_wp2
   go_ret
   exact ⟨ret_bool HR.out.symm,he⟩
  | false =>
   rw [hcl] at c4
   by_cases hpr : t.prio = f.prio
   ·have e0 : (t.prio != f.prio) = false := by simpa using hpr
    have HR : Hid (numsB p t = (inB t.scope 0 31 && numB t.result && (inB t.reason 0 9 || inB t.reason 100 999) && inB t.status 1 3)) := by rw [Hid,HR.out,hcl,hpr];simp
    clear hcl hpr
    go_enter Try.func26,Try.ntmps26
    go_wp2
    (refine wp_region_quiet_below (by kernel_rfl) (by kernel_rfl) ?_;(repeat (go_big_quiet_step ((go_at_call 50;exact quiet_same (twithin_is HQ _)))));refine wpQuiet_nil fun w1 h1 => ?_;obtain ⟨hc,hf,hs,he⟩ := eu (w := w) h1 xt;clear h1;(try simp only [sA,sC,sD,sN] at hs))
    go_wp2_with (first | (go_at_call 50;refine (twithin_any _ _ _ _).mono ?_;rintro e w' ⟨rfl,rfl⟩) | (go_at_call 14;refine (outside_any _ _).mono ?_;rintro e w' ⟨rfl,rfl⟩))
    all_goals (go_ret;exact ⟨ret_bool (by have g := HR.out;clear HR;rw [g];clear g;simp_all),he⟩)
   ·have e0 : (t.prio != f.prio) = true := by simpa using hpr
    have HR : Hid (numsB p t = false) := by rw [Hid,HR.out,hcl];simp [hpr]
    clear hcl hpr
    go_enter Try.func26,Try.ntmps26
    go_wp2
    (refine wp_region_quiet_below (by kernel_rfl) (by kernel_rfl) ?_;(repeat (go_big_quiet_step ((go_at_call 50;exact quiet_same (twithin_is HQ _)))));refine wpQuiet_nil fun w1 h1 => ?_;obtain ⟨hc,hf,hs,he⟩ := eu (w := w) h1 xt;clear h1;(try simp only [sA,sC,sD,sN] at hs))
    go_wp2
    go_ret
    exact ⟨ret_bool HR.out.symm,he⟩
theorem validHandler_any (p : Prg) (h : Hdl) (VP : Value) (A : Option Addr) (n c : Nat) (w : World) (hP : RPrg w p VP) (hA : RSl 1 RInt w A n h.args) :
  Calls Try.prog 88 #[VP,.agg #[int .i64 h.fn,.slice A n c]] w fun e w' => e = .returned (.bool (hdlB p h)) ∧ Ext w w' := by
 obtain ⟨Af,nf,cf,Ao,no,co,Av,nv,cv,rfl,hF,hO,hVr,hcf,hco,hcv⟩ := hP
 clear hO hVr hcf hco hcv
 have hle := hF.le
 have HS := sub_one hle
 have HL := hF.len
 have HN := Lib.hid hA.len
 have hnl := hA.le
 cases hfn : fnAt p h.fn with
 | none =>
  have HQ : inB h.fn 0 ((nf : Int) - 1) = false := inB_false (by rcases fnAt_none hfn with h | h <;> omega)
  have HR : Hid (hdlB p h = false) := by unfold Hid hdlB;rw [hfn]
  clear hfn hF HL hA
  go_enter Try.func88,Try.ntmps88
  go_wp2
  (refine wp_region_quiet_below (by kernel_rfl) (by kernel_rfl) ?_;(repeat (go_big_quiet_step ((go_at_call 50;exact quiet_same (twithin_is HQ _)))));refine wpQuiet_nil fun w1 h1 => ?_;obtain ⟨hc,hf,hs,he⟩ := eu (w := w) h1 xt;clear h1;(try simp only [sA,sC,sD,sN] at hs))
  go_wp2
  go_ret
  exact ⟨ret_bool HR.out.symm,he⟩
 | some f =>
  obtain ⟨h0,h1,h2⟩ := fnAt_some hfn
  have HQ : inB h.fn 0 ((nf : Int) - 1) = true := inB_true (by omega)
  obtain ⟨b,off,Ac,nc,cc,rfl,hlb,hsz,i1,i2,i3,hC,c0,c1,c2,c3,c4,c5⟩ := hF.fnc h2
  have hlt : h.fn < (nf : Int) := by omega
  have HR : Hid (hdlB p h = (f.cleanup && ((n : Int) == f.params) && h.args.all numB)) := by unfold Hid hdlB;rw [hfn,HN.out]
  clear hfn hF HL h1 h2 hC
  cases hcl : f.cleanup with
  | false =>
   rw [hcl] at c4
   have HR : Hid (hdlB p h = false) := by rw [Hid,HR.out,hcl];rfl
   clear hcl hA
   go_enter Try.func88,Try.ntmps88
   go_wp2
   (refine wp_region_quiet_below (by kernel_rfl) (by kernel_rfl) ?_;(repeat (go_big_quiet_step ((go_at_call 50;exact quiet_same (twithin_is HQ _)))));refine wpQuiet_nil fun w1 h1 => ?_;obtain ⟨hc,hf,hs,he⟩ := eu (w := w) h1 xt;clear h1;(try simp only [sA,sC,sD,sN] at hs))
   go_wp2
   go_ret
   exact ⟨ret_bool HR.out.symm,he⟩
  | true =>
   rw [hcl] at c4
   by_cases hpr : (n : Int) = f.params
   ·have e0 : ((n : Int) == f.params) = true := by simpa using hpr
    have HC : ∀ W,Ext w W → Calls Try.prog 13 #[.slice A n c,.func (.func 14) #[] #[]] W fun e w' => e = .returned (.bool (h.args.any (fun x => !numB x))) ∧ Ext W w' := fun W hW =>
     containsFuncInt 14 #[] (enters_of Try.func14 (by kernel_rfl) rfl) (fun x => !numB x) A n c h.args W (hA.mono RInt.stays hW) (fun W' k x cs _ _ hR => by
      obtain ⟨rfl,_⟩ := hR
      exact (outside_any x W').mono fun e w' ⟨h1,h2⟩ => ⟨h1,h2 ▸ Ext.refl _⟩)
    have HR : Hid (hdlB p h = !h.args.any (fun x => !numB x)) := by
     rw [Hid,HR.out,hcl,e0,List.not_any_eq_all_not];simp
    clear hcl hpr hA
    obtain ⟨q,hq⟩ : ∃ q,h.args.any (fun x => !numB x) = q := ⟨_,rfl⟩
    rw [hq] at HR HC
    clear hq
    go_enter Try.func88,Try.ntmps88
    go_wp2
    (refine wp_region_quiet_below (by kernel_rfl) (by kernel_rfl) ?_;(repeat (go_big_quiet_step (first | (go_at_call 50;exact quiet_same (twithin_is HQ _)) | (go_at_call 13;exact quiet_ext (HC _ xt)))));refine wpQuiet_nil fun w1 h1 => ?_;obtain ⟨hc,hf,hs,he⟩ := eu (w := w) h1 xt;clear h1;(try simp only [sA,sC,sD,sN] at hs))
    go_wp2
    go_ret
    exact ⟨ret_bool HR.out.symm,he⟩
   ·have e0 : ((n : Int) == f.params) = false := by simpa using hpr
    have HR : Hid (hdlB p h = false) := by rw [Hid,HR.out,hcl,e0];rfl
    clear hcl hpr hA
    go_enter Try.func88,Try.ntmps88
    go_wp2
    (refine wp_region_quiet_below (by kernel_rfl) (by kernel_rfl) ?_;(repeat (go_big_quiet_step ((go_at_call 50;exact quiet_same (twithin_is HQ _)))));refine wpQuiet_nil fun w1 h1 => ?_;obtain ⟨hc,hf,hs,he⟩ := eu (w := w) h1 xt;clear h1;(try simp only [sA,sC,sD,sN] at hs))
    go_wp2
    go_ret
    exact ⟨ret_bool HR.out.symm,he⟩
theorem validWait_any (p : Prg) (t : Tsk) (VP VT : Value) (w : World) (hP : RPrg w p VP) (hT : RTsk w t VT) :
  Calls Try.prog 27 #[VP,VT] w fun e w' => e = .returned (.bool (waitB p t)) ∧ Ext w w' := by
 obtain ⟨Af,nf,cf,Ao,no,co,Av,nv,cv,rfl,hF,hO,hVr,hcf,hco,hcv⟩ := hP
 obtain ⟨Bf,mf,df,Bb,mb,db,rfl,_,_,_,_,_,_,_,_,_,_,hF2,hB2,_⟩ := hT
 clear hF2 hB2 hF hVr hcf hco hcv
 have hle := hO.le
 have HS := sub_one hle
 have HL := hO.len
 by_cases hst : t.status = 2
 rotate_left
 ·have e0 : (t.status != 2) = true := by simpa using hst
  have HR : Hid (waitB p t = ((t.wkind == 0) && (t.windex == 0) && !t.wagain)) := by unfold Hid waitB;rw [if_pos hst]
  clear hst hO HL
  go_enter Try.func27,Try.ntmps27
  go_wp2
  all_goals (go_ret;exact ⟨ret_bool (by rw [HR.out];simp_all),xt⟩)
 have e0 : (t.status != 2) = false := by simpa using hst
 by_cases hin : inB t.windex 0 ((no : Int) - 1) = true
 ·have hin' := inB_iff.1 hin
  obtain ⟨o,ho⟩ : ∃ o,p.objs[t.windex.toNat]? = some o := ⟨_,List.getElem?_eq_getElem (by omega)⟩
  obtain ⟨b,off,rfl,hlb,hsz,i1,i2,i3,c0,c1,c2,c3⟩ := hO.ob ho
  have hlt : t.windex < (no : Int) := by omega
  have hge : 0 ≤ t.windex := hin'.1
  have HR : Hid (waitB p t = if t.wagain = true ∧ t.wkind ≠ 5 then false else if t.wkind = 1 then true else if t.wkind = 5 then o.kind == 1 else if t.wkind = 4 then inB t.windex 0 31 else if t.wkind = 2 ∨ t.wkind = 3 then t.windex == 0 else false) := by
   unfold Hid waitB kindAt;rw [if_neg (by simpa using hst),← HL,hin,ho];simp
  clear hst hO HL ho
  go_enter Try.func27,Try.ntmps27
  go_wp2_with (first | (go_at_call 50;(with_reducible refine (twithin_is hin _).mono ?_);rintro e w' ⟨rfl,rfl⟩) | (go_at_call 50;refine (twithin_any _ _ _ _).mono ?_;rintro e w' ⟨rfl,rfl⟩))
  all_goals (go_ret;exact ⟨ret_bool (by have g := HR.out;clear HR HS;rw [g];clear g;simp only [beq_iff_eq,beq_eq_false_iff_ne,ne_eq,bne_iff_ne,bne_eq_false_iff_eq,Bool.not_eq_true] at *;simp [*]),xt⟩)
 ·have hin : inB t.windex 0 ((no : Int) - 1) = false := by simpa using hin
  have HR : Hid (waitB p t = if t.wagain = true ∧ t.wkind ≠ 5 then false else if t.wkind = 1 then false else if t.wkind = 5 then false else if t.wkind = 4 then inB t.windex 0 31 else if t.wkind = 2 ∨ t.wkind = 3 then t.windex == 0 else false) := by
   unfold Hid waitB kindAt;rw [if_neg (by simpa using hst),← HL,hin];simp
  clear hst hO HL
  go_enter Try.func27,Try.ntmps27
  go_wp2_with (first | (go_at_call 50;(with_reducible refine (twithin_is hin _).mono ?_);rintro e w' ⟨rfl,rfl⟩) | (go_at_call 50;refine (twithin_any _ _ _ _).mono ?_;rintro e w' ⟨rfl,rfl⟩))
  all_goals (go_ret;exact ⟨ret_bool (by have g := HR.out;clear HR HS;rw [g];clear g;simp only [beq_iff_eq,beq_eq_false_iff_ne,ne_eq,bne_iff_ne,bne_eq_false_iff_eq,Bool.not_eq_true] at *;simp [*]),xt⟩)
theorem validBlocks1_pred (p : Prg) (B : Nat) (Af Ao Av : Option Addr) (nf cf no co nv cv : Nat) (w : World) (xs : List Hdl) (hP : RPrg w p (.agg #[.slice Af nf cf,.slice Ao no co,.slice Av nv cv]))
  (h0 : w.cell? ⟨B,0,none⟩ = some (.slice Af nf cf)) (h1 : w.cell? ⟨B,1,none⟩ = some (.slice Ao no co)) (h2 : w.cell? ⟨B,2,none⟩ = some (.slice Av nv cv)) :
  PredOn Try.prog 87 #[.pointer (some ⟨B,0,none⟩)] (fun cs => .agg cs.toArray) RHdl w xs (fun h => !hdlB p h) := by
 intro W k x cs hW hx hR
 obtain ⟨A,n,c,rfl,hi,hA,_⟩ := hR
 have k0 := hW.cell h0
 have k1 := hW.cell h1
 have k2 := hW.cell h2
 have hlb : B < W.heap.size := lt_of_cell k0
 have HC : ∀ W',Ext W W' → Calls Try.prog 88 #[.agg #[.slice Af nf cf,.slice Ao no co,.slice Av nv cv],.agg #[int .i64 x.fn,.slice A n c]] W' fun e w' => e = .returned (.bool (hdlB p x)) ∧ Ext W' w' := fun W' hW' =>
  validHandler_any p x _ A n c W' (hP.mono (hW.trans hW')) (hA.mono RInt.stays (hW.trans hW'))
 obtain ⟨q,hq⟩ : ∃ q,hdlB p x = q := ⟨_,rfl⟩
 show Calls _ _ _ _ fun e W' => e = .returned (.bool (!hdlB p x)) ∧ _
 rw [hq] at HC ⊢
 clear h0 h1 h2 hx hW hP hA hq hi
 simp only [List.push_toArray,List.append_toArray,List.cons_append,List.nil_append]
 clear w
 obtain ⟨w,hw⟩ : ∃ w,w = W := ⟨_,rfl⟩
 subst hw
 go_enter Try.func87,Try.ntmps87
 go_wp2_with (go_at_call 88;refine (HC _ xt).mono ?_;rintro e w1 ⟨rfl,hb⟩;obtain ⟨hc,hf,hs,he⟩ := Ext.use (w := w) hb xt;clear hb;(try simp only [sA,sC,sD,sN] at hs))
 go_ret
 exact ⟨rfl,xt⟩
theorem any_hdl (p : Prg) (l : List Hdl) : (l.any fun h => !hdlB p h) = !l.all (hdlB p) := by
 rw [List.not_all_eq_any_not]
set_option maxRecDepth 8000 in
theorem validBlocks_any (p : Prg) (t : Tsk) (VP VT : Value) (w : World) (hP : RPrg w p VP) (hT : RTsk w t VT) :
  Calls Try.prog 51 #[VP,VT] w fun e w' => e = .returned (.bool (blksB p t.blocks)) ∧ Ext w w' := by
 have HP := Lib.hid hP
 obtain ⟨Af,nf,cf,Ao,no,co,Av,nv,cv,rfl,_⟩ := hP
 obtain ⟨Bf,mf,df,Bb,mb,db,rfl,_,_,_,_,_,_,_,_,_,_,_,hB2,_⟩ := hT
 have hle := hB2.le
 have HL := Lib.hid hB2.len
 cases hin : inB (mb : Int) 1 8 with
 | false =>
  have HR : Hid (blksB p t.blocks = false) := by unfold Hid blksB;rw [← HL.out,hin];rfl
  clear hB2 HP
  go_enter Try.func51,Try.ntmps51
  go_wp2_with (go_at_call 50;refine (twithin_is hin _).mono ?_;rintro e w' ⟨rfl,rfl⟩)
  go_ret
  exact ⟨ret_bool HR.out.symm,xt⟩
 | true =>
 have HR : Hid (blksB p t.blocks = allB (blkB p t.blocks) mb 0) := by unfold Hid blksB;rw [← HL.out,hin];rfl
 go_enter Try.func51,Try.ntmps51
 go_wp2_with (go_at_call 50;refine (twithin_is hin _).mono ?_;rintro e w' ⟨rfl,rfl⟩)
 refine wp_hid ?_
 intro W0 HW0
 have HE : Hid (Ext w W0) := by rw [HW0.out];exact Lib.hid xt
 have hl2 : w.heap.size + 1 < W0.heap.size := by rw [HW0.out];simp
 have k0 : W0.cell? ⟨w.heap.size,0,none⟩ = some (.slice Af nf cf) := by rw [HW0.out];simp [go_sem, *]
 have k1 : W0.cell? ⟨w.heap.size,1,none⟩ = some (.slice Ao no co) := by rw [HW0.out];simp [go_sem, *]
 have k2 : W0.cell? ⟨w.heap.size,2,none⟩ = some (.slice Av nv cv) := by rw [HW0.out];simp [go_sem, *]
 have k8 : W0.cell? ⟨w.heap.size + 1,8,none⟩ = some (.slice Bb mb db) := by rw [HW0.out];simp [go_sem, *]
 clear HW0
 go_loopg [5,6,7,16] mb (fun gg _ _ _ s16 wr => ∃ kk : Nat,kk ≤ mb ∧ mb - kk ≤ gg ∧ s16 = .int .i64 kk ∧ Hid (Ext W0 wr) ∧ Hid (allB (blkB p t.blocks) mb 0 = allB (blkB p t.blocks) (mb - kk) kk))
 case atStart => exact ⟨0,Nat.zero_le _,by omega,rfl,Ext.refl W0,rfl⟩
 case round =>
  obtain ⟨kk,hkk,hg,rfl,HW,HI⟩ := hrel
  have hW := HW.out
  have hWw := HE.out.trans hW
  by_cases hlt : kk < mb
  ·have hltz : (kk : Int) < (mb : Int) := by omega
   obtain ⟨x,hx⟩ : ∃ x,t.blocks[kk]? = some x := ⟨_,List.getElem?_eq_getElem (by have := HL.out;omega)⟩
   have HD : Hid (allB (blkB p t.blocks) (mb - kk) kk = (blkB p t.blocks kk && allB (blkB p t.blocks) (mb - (kk + 1)) (kk + 1))) := by
    rw [Hid,show mb - kk = (mb - (kk + 1)) + 1 by omega];rfl
   have HB2 := Lib.hid hB2
   obtain ⟨b,off,Aa,na,ca,rfl,hlb,j1,j2,j3,j4,⟨hH,hna⟩,d0,d1,d2,d3,d4⟩ := (hB2.mono RBlk.stays hWw).blk hx
   have hnl := hH.le
   have HN := Lib.hid hH.len
   have hl2' : w.heap.size + 1 < wr.heap.size := Nat.lt_of_lt_of_le hl2 hW.size
   replace k0 := hW.cell k0
   replace k1 := hW.cell k1
   replace k2 := hW.cell k2
   replace k8 := hW.cell k8
   have HC : ∀ W,Ext wr W → Calls Try.prog 86 #[.slice Aa na ca,.func (.func 87) #[] #[.pointer (some ⟨w.heap.size,0,none⟩)]] W fun e w' => e = .returned (.bool (!x.handlers.all (hdlB p))) ∧ Ext W w' := fun W hW' => by
    rw [← any_hdl]
    exact containsFuncHdl 87 #[.pointer (some ⟨w.heap.size,0,none⟩)] (enters_of Try.func87 (by kernel_rfl) rfl) (fun h => !hdlB p h) Aa na ca x.handlers W (hH.mono RHdl.stays hW')
     (validBlocks1_pred p w.heap.size Af Ao Av nf cf no co nv cv W x.handlers (HP.out.mono (hWw.trans hW')) (hW'.cell k0) (hW'.cell k1) (hW'.cell k2))
   obtain ⟨q,hq⟩ : ∃ q,x.handlers.all (hdlB p) = q := ⟨_,rfl⟩
   rw [hq] at HC
   clear hH hB2 hW
   have HK : Hid (blkB p t.blocks kk = (decide (na ≤ 8) && q && (if kk = 0 then !(x.scope != -1) && !(x.depth != 0) && !(x.exit != 0) && !(x.mask != 0) else match t.blocks[kk - 1]? with | none => false | some y => inB x.scope 0 31 && inB x.depth 1 8 && inB x.mask 0 100 && !decide (x.scope ≤ y.scope) && !decide (x.depth < y.depth)))) := by
    unfold Hid blkB
    rw [hx]
    dsimp only
    rw [hq,HN.out]
    congr 1
    split
    ·simp only [bne,Bool.not_not]
    ·cases t.blocks[kk - 1]? with
     | none => rfl
     | some y => dsimp only;rw [← decide_not,← decide_not];simp only [Int.not_le,Int.not_lt]
   by_cases h8 : na ≤ 8
   rotate_left
   ·have h8z : (8 : Int) < (na : Int) := by omega
    have HK : Hid (blkB p t.blocks kk = false) := by rw [Hid,HK.out,decide_eq_false h8];rfl
    clear hx hq hWw HC
    go_wp2
    go_ret
    exact ⟨ret_bool (by rw [HR.out,HI.out,HD.out,HK.out];rfl),HE.out.trans (HW.out.trans xt)⟩
   have h8z : ¬ (8 : Int) < (na : Int) := by omega
   have hb8 : decide (na ≤ 8) = true := by simpa using h8
   cases q with
   | false =>
    have HK : Hid (blkB p t.blocks kk = false) := by rw [Hid,HK.out,hb8];rfl
    clear hx hq hWw h8 hb8
    go_wp2_with (go_at_call 86;refine (HC _ xt).mono ?_;rintro e w2 ⟨rfl,hb⟩;obtain ⟨hc2,hf2,hs2,he2⟩ := Ext.use (w := wr) hb xt;clear hb;(try simp only [sA,sC,sD,sN] at hs2))
    go_ret
    exact ⟨ret_bool (by rw [HR.out,HI.out,HD.out,HK.out];rfl),HE.out.trans (HW.out.trans xt)⟩
   | true =>
   rcases Nat.eq_zero_or_pos kk with h0 | h0
   ·have hzb : ((kk : Int) == 0) = true := by simp only [beq_iff_eq];omega
    have HK : Hid (blkB p t.blocks kk = (!(x.scope != -1) && !(x.depth != 0) && !(x.exit != 0) && !(x.mask != 0))) := by rw [Hid,HK.out,if_pos h0,hb8];rfl
    clear hx hq h0 h8 hb8
    go_wp2_with (go_at_call 86;refine (HC _ xt).mono ?_;rintro e w2 ⟨rfl,hb⟩;obtain ⟨hc2,hf2,hs2,he2⟩ := Ext.use (w := wr) hb xt;clear hb;(try simp only [sA,sC,sD,sN] at hs2))
    all_goals first
     | (go_ret;exact ⟨ret_bool (by rw [HR.out,HI.out,HD.out,HK.out];(simp [*];done)),HE.out.trans (HW.out.trans xt)⟩)
     | (go_roundg (mb - (kk + 1))
        case measure => omega
        case rel => exact ⟨kk + 1,by omega,by omega,by go_num,HW.out.trans xt,by rw [Hid,HI.out,HD.out,HK.out];(simp [*];done)⟩)
   ·have hzb : ((kk : Int) == 0) = false := by simp only [beq_eq_false_iff_ne];omega
    have hsub : IntKind.i64.wrap ((kk : Int) - 1) = ((kk - 1 : Nat) : Int) := by rw [IntWalk.i64_in _ (by omega)];omega
    have hlt2 : ((kk - 1 : Nat) : Int) < (mb : Int) := by omega
    have hge2 : (0 : Int) ≤ ((kk - 1 : Nat) : Int) := by omega
    obtain ⟨y,hy⟩ : ∃ y,t.blocks[kk - 1]? = some y := ⟨_,List.getElem?_eq_getElem (by have := HL.out;omega)⟩
    obtain ⟨b',off',Ay,ny,cy,e1,_,_,_,_,_,_,f0,f1,f2,f3,f4⟩ := (HB2.out.mono RBlk.stays hWw).blk hy
    cases e1
    have HK : Hid (blkB p t.blocks kk = (inB x.scope 0 31 && inB x.depth 1 8 && inB x.mask 0 100 && !decide (x.scope ≤ y.scope) && !decide (x.depth < y.depth))) := by
     rw [Hid,HK.out,if_neg (by omega),hb8,hy];rfl
    clear hx hq hy hWw h8 hb8
    go_wp2_with (first | (go_at_call 86;refine (HC _ xt).mono ?_;rintro e w2 ⟨rfl,hb⟩;obtain ⟨hc2,hf2,hs2,he2⟩ := Ext.use (w := wr) hb xt;clear hb;(try simp only [sA,sC,sD,sN] at hs2)) | (go_at_call 50;refine (twithin_any _ _ _ _).mono ?_;rintro e w' ⟨rfl,rfl⟩))
    all_goals first
     | (go_ret;exact ⟨ret_bool (by rw [HR.out,HI.out,HD.out,HK.out];(first | (simp [*];done) | (simp only [Bool.not_eq_true',Bool.not_eq_false'] at *;simp [*];done) | (simp only [Bool.not_eq_true',Bool.not_eq_false'] at *;simp [*];intros;omega))),HE.out.trans (HW.out.trans xt)⟩)
     | (go_roundg (mb - (kk + 1))
        case measure => omega
        case rel => exact ⟨kk + 1,by omega,by omega,by go_num,HW.out.trans xt,by rw [Hid,HI.out,HD.out,HK.out];(first | (simp [*];done) | (simp only [Bool.not_eq_true',Bool.not_eq_false'] at *;simp [*];done) | (simp only [Bool.not_eq_true',Bool.not_eq_false'] at *;simp [*];intros;omega))⟩)
  ·have hltz : ¬ (kk : Int) < (mb : Int) := by omega
   clear hB2
   go_wp2
   go_ret
   exact ⟨ret_bool (by rw [HR.out,HI.out,show mb - kk = 0 by omega];rfl),hWw⟩
theorem anyOut (l : List Int) : (l.any fun x => !numB x) = !l.all numB := by rw [List.not_all_eq_any_not]
theorem outs_any (A : Option Addr) (n c : Nat) (l : List Int) (W : World) (hA : RSl 1 RInt W A n l) :
  Calls Try.prog 13 #[.slice A n c,.func (.func 14) #[] #[]] W fun e w' => e = .returned (.bool (!l.all numB)) ∧ Ext W w' := by
 rw [← anyOut]
 exact containsFuncInt 14 #[] (enters_of Try.func14 (by kernel_rfl) rfl) (fun x => !numB x) A n c l W hA (fun W' k x cs _ _ hR => by
  obtain ⟨rfl,_⟩ := hR
  exact (outside_any x W').mono fun e w' ⟨h1,h2⟩ => ⟨h1,h2 ▸ Ext.refl _⟩)
set_option maxRecDepth 4000 in
theorem validFrame_any (p : Prg) (t : Tsk) (i : Nat) (VP VT : Value) (w : World) (hP : RPrg w p VP) (hT : RTsk w t VT) (hi : i < t.frames.length) (hpo : ∀ g : Fnc,g ∈ p.funcs → 0 ≤ g.regs ∧ g.regs ≤ 32) (hpre : ∀ f,0 < i → t.frames[i - 1]? = some f → ∃ g,fnAt p f.fn = some g) :
  Calls Try.prog 52 #[VP,VT,int .i64 i] w fun e w' => e = .returned (.bool (frmB p t i)) ∧ Ext w w' := by
 obtain ⟨Af,nf,cf,Ao,no,co,Av,nv,cv,rfl,hF,hO,hVr,hcf,hco,hcv⟩ := hP
 obtain ⟨Bf,mf,df,Bb,mb,db,rfl,_,_,_,_,_,_,_,_,_,_,hF2,hB2,hdf,hdb⟩ := hT
 clear hO hVr hcf hco hcv hB2 hdb
 have hle := hF.le
 have hle2 := hF2.le
 have HS := sub_one hle
 have HS2 := sub_one hle2
 have HL := hF.len
 have HL2 := hF2.len
 have hiz : (i : Int) < (mf : Int) := by omega
 have hi64 : (i : Int) ≤ 9223372036854775807 := by omega
 obtain ⟨f,hf⟩ : ∃ f,t.frames[i]? = some f := ⟨_,List.getElem?_eq_getElem hi⟩
 obtain ⟨b,off,Ar,nr,cr,rfl,hlb,_,_,_,⟨hR,hcr⟩,c0,c1,c2,c3,c4⟩ := hF2.frm hf
 have hnr := hR.le
 have HN := Lib.hid hR.len
 cases hfn : fnAt p f.fn with
 | none =>
  have HQ : inB f.fn 0 ((nf : Int) - 1) = false := inB_false (by rcases fnAt_none hfn with h | h <;> omega)
  have HR : Hid (frmB p t i = false) := by unfold Hid frmB;rw [hf];dsimp only;rw [hfn]
  clear hfn hF HL hF2 HL2 hR hf hpre
  go_enter Try.func52,Try.ntmps52
  go_wp2_with (go_at_call 50;(with_reducible refine (twithin_is HQ _).mono ?_);rintro e w' ⟨rfl,rfl⟩)
  go_ret
  exact ⟨ret_bool HR.out.symm,xt⟩
 | some g =>
 obtain ⟨h0,h1,h2⟩ := fnAt_some hfn
 have HQ : inB f.fn 0 ((nf : Int) - 1) = true := inB_true (by omega)
 obtain ⟨b2,off2,Ac,nc,cc,rfl,hlb2,hsz,i1,i2,i3,⟨hC,hcc⟩,g0,g1,g2,g3,g4,g5⟩ := hF.fnc h2
 have hlt : f.fn < (nf : Int) := by omega
 have hCl := hC.le
 have HC := Lib.hid hC.len
 have HO : ∀ W,Ext w W → Calls Try.prog 13 #[.slice Ar nr cr,.func (.func 14) #[] #[]] W fun e w' => e = .returned (.bool (!f.regs.all numB)) ∧ Ext W w' := fun W hW => outs_any Ar nr cr f.regs W (hR.mono RInt.stays hW)
 have HR : Hid (frmB p t i = (((nr : Int) == g.regs) && f.regs.all numB && inB f.pc 0 (nc : Int) && (f.cleanup == g.cleanup) &&
   (if f.cleanup = true then (f.result == -1) && (i + 1 == mf)
        else if i = 0 then (f.fn == t.fn) && (f.result == -1)
        else match t.frames[i - 1]? with
    | none => false
    | some h => match fnAt p h.fn with
     | none => false
     | some k => inB f.result 0 (k.regs - 1)))) := by
  unfold Hid frmB;rw [hf];dsimp only;rw [hfn];dsimp only;rw [HN.out,HC.out,HL2];all_goals rfl
 obtain ⟨q,hq⟩ : ∃ q,f.regs.all numB = q := ⟨_,rfl⟩
 rw [hq] at HR HO
 clear hq
 by_cases hn : (nr : Int) = g.regs
 rotate_left
 ·have e0 : ((nr : Int) != g.regs) = true := by simpa using hn
  have HR : Hid (frmB p t i = false) := by rw [Hid,HR.out,beq_eq_false_iff_ne.2 hn];rfl
  clear hfn hF HL hF2 HL2 hR hf hpre hC h1 h2
  go_enter Try.func52,Try.ntmps52
  go_wp2_with (first | (go_at_call 50;(with_reducible refine (twithin_is HQ _).mono ?_);rintro e w' ⟨rfl,rfl⟩))
  go_ret
  exact ⟨ret_bool HR.out.symm,xt⟩
 have e0 : ((nr : Int) != g.regs) = false := by simpa using hn
 have e0' : ((nr : Int) == g.regs) = true := by simpa using hn
 cases q with
 | false =>
  have HR : Hid (frmB p t i = false) := by rw [Hid,HR.out,e0'];rfl
  clear hfn hF HL hF2 HL2 hR hf hpre hC h1 h2 hn e0'
  go_enter Try.func52,Try.ntmps52
  go_wp2_with (first | (go_at_call 50;(with_reducible refine (twithin_is HQ _).mono ?_);rintro e w' ⟨rfl,rfl⟩) | (go_at_call 13;refine (HO _ xt).mono ?_;rintro e w1 ⟨rfl,hb⟩;obtain ⟨hc,hf,hs,he⟩ := Ext.use (w := w) hb xt;clear hb;(try simp only [sA,sC,sD,sN] at hs)))
  go_ret
  exact ⟨ret_bool HR.out.symm,xt⟩
 | true =>
 cases hpc : inB f.pc 0 (nc : Int) with
 | false =>
  have HR : Hid (frmB p t i = false) := by rw [Hid,HR.out,hpc,e0'];rfl
  clear hfn hF HL hF2 HL2 hR hf hpre hC h1 h2 hn e0'
  go_enter Try.func52,Try.ntmps52
  go_wp2_with (first | (go_at_call 50;(with_reducible refine (twithin_is HQ _).mono ?_);rintro e w' ⟨rfl,rfl⟩) | (go_at_call 50;(with_reducible refine (twithin_is hpc _).mono ?_);rintro e w' ⟨rfl,rfl⟩) | (go_at_call 13;refine (HO _ xt).mono ?_;rintro e w1 ⟨rfl,hb⟩;obtain ⟨hc,hf,hs,he⟩ := Ext.use (w := w) hb xt;clear hb;(try simp only [sA,sC,sD,sN] at hs)))
  go_ret
  exact ⟨ret_bool HR.out.symm,xt⟩
 | true =>
 by_cases hcl : f.cleanup = g.cleanup
 rotate_left
 ·have e1 : (f.cleanup == g.cleanup) = false := by simpa using hcl
  have HR : Hid (frmB p t i = false) := by rw [Hid,HR.out,hpc,e0',e1];rfl
  clear hfn hF HL hF2 HL2 hR hf hpre hC h1 h2 hn e0'
  go_enter Try.func52,Try.ntmps52
  go_wp2_with (first | (go_at_call 50;(with_reducible refine (twithin_is HQ _).mono ?_);rintro e w' ⟨rfl,rfl⟩) | (go_at_call 50;(with_reducible refine (twithin_is hpc _).mono ?_);rintro e w' ⟨rfl,rfl⟩) | (go_at_call 13;refine (HO _ xt).mono ?_;rintro e w1 ⟨rfl,hb⟩;obtain ⟨hc,hf,hs,he⟩ := Ext.use (w := w) hb xt;clear hb;(try simp only [sA,sC,sD,sN] at hs)))
  go_ret
  exact ⟨ret_bool HR.out.symm,xt⟩
 have e1 : (g.cleanup == g.cleanup) = true := by simp
 rw [hcl] at c4
 cases hcu : g.cleanup with
 | true =>
  rw [hcu] at c4 g4
  have HR : Hid (frmB p t i = ((f.result == -1) && ((i : Int) == (mf : Int) - 1))) := by
   rw [Hid,HR.out,hpc,e0',hcl,e1,if_pos hcu]
   simp only [Bool.true_and]
   congr 1
   rw [Bool.eq_iff_iff,beq_iff_eq,beq_iff_eq];omega
  clear hfn hF HL hF2 HL2 hR hf hpre hC h1 h2 hn e0' hcl e1 hcu
  go_enter Try.func52,Try.ntmps52
  go_wp2_with (first | (go_at_call 50;(with_reducible refine (twithin_is HQ _).mono ?_);rintro e w' ⟨rfl,rfl⟩) | (go_at_call 50;(with_reducible refine (twithin_is hpc _).mono ?_);rintro e w' ⟨rfl,rfl⟩) | (go_at_call 13;refine (HO _ xt).mono ?_;rintro e w1 ⟨rfl,hb⟩;obtain ⟨hc,hf,hs,he⟩ := Ext.use (w := w) hb xt;clear hb;(try simp only [sA,sC,sD,sN] at hs)))
  all_goals (go_ret;exact ⟨ret_bool (by rw [HR.out];simp [*]),xt⟩)
 | false =>
 rw [hcu] at c4 g4
 rcases Nat.eq_zero_or_pos i with hi0 | hi0
 ·have e2 : ((i : Int) == 0) = true := by simp only [beq_iff_eq];omega
  have HR : Hid (frmB p t i = ((f.fn == t.fn) && (f.result == -1))) := by
   rw [Hid,HR.out,hpc,e0',hcl,e1,if_neg (by rw [hcu];decide),if_pos hi0];rfl
  clear hfn hF HL hF2 HL2 hR hf hpre hC h1 h2 hn e0' hcl e1 hcu hi0
  go_enter Try.func52,Try.ntmps52
  go_wp2_with (first | (go_at_call 50;(with_reducible refine (twithin_is HQ _).mono ?_);rintro e w' ⟨rfl,rfl⟩) | (go_at_call 50;(with_reducible refine (twithin_is hpc _).mono ?_);rintro e w' ⟨rfl,rfl⟩) | (go_at_call 13;refine (HO _ xt).mono ?_;rintro e w1 ⟨rfl,hb⟩;obtain ⟨hc,hf,hs,he⟩ := Ext.use (w := w) hb xt;clear hb;(try simp only [sA,sC,sD,sN] at hs)))
  all_goals (go_ret;exact ⟨ret_bool (by rw [HR.out];simp [*]),xt⟩)
 ·have e2 : ((i : Int) == 0) = false := by simp only [beq_eq_false_iff_ne];omega
  have hsub : IntKind.i64.wrap ((i : Int) - 1) = ((i - 1 : Nat) : Int) := by rw [IntWalk.i64_in _ (by omega)];omega
  have hlt2 : ((i - 1 : Nat) : Int) < (mf : Int) := by omega
  have hge2 : (0 : Int) ≤ ((i - 1 : Nat) : Int) := by omega
  obtain ⟨y,hy⟩ : ∃ y,t.frames[i - 1]? = some y := ⟨_,List.getElem?_eq_getElem (by omega)⟩
  obtain ⟨k,hk⟩ := hpre y hi0 hy
  obtain ⟨b',off',Ay,ny,cy,e1',_,_,_,_,_,f0,f1,f2,f3,f4⟩ := hF2.frm hy
  cases e1'
  obtain ⟨u0,u1,u2⟩ := fnAt_some hk
  obtain ⟨b'',off'',Ac',nc',cc',e2',_,_,_,j2,_,_,r0,r1,r2,r3,r4,r5⟩ := hF.fnc u2
  cases e2'
  have hltk : y.fn < (nf : Int) := by omega
  have HR : Hid (frmB p t i = inB f.result 0 (k.regs - 1)) := by
   rw [Hid,HR.out,hpc,e0',hcl,e1,if_neg (by rw [hcu];decide),if_neg (by omega),hy];dsimp only;rw [hk];rfl
  obtain ⟨q2,hq2⟩ : ∃ q2,inB f.result 0 (k.regs - 1) = q2 := ⟨_,rfl⟩
  rw [hq2] at HR
  have hk0 := hpo k (List.mem_of_getElem? u2)
  have hsub2 : IntKind.i64.wrap (k.regs - 1) = k.regs - 1 := IntWalk.i64_in _ (by omega)
  clear hfn hF HL hF2 HL2 hR hf hpre hC h1 h2 hn e0' hcl e1 hcu hi0 hy hk u1 u2 hpo hk0
  go_enter Try.func52,Try.ntmps52
  go_wp2_with (first | (go_at_call 50;(with_reducible refine (twithin_is HQ _).mono ?_);rintro e w' ⟨rfl,rfl⟩) | (go_at_call 50;(with_reducible refine (twithin_is hpc _).mono ?_);rintro e w' ⟨rfl,rfl⟩) | (go_at_call 13;refine (HO _ xt).mono ?_;rintro e w1 ⟨rfl,hb⟩;obtain ⟨hc,hf,hs,he⟩ := Ext.use (w := w) hb xt;clear hb;(try simp only [sA,sC,sD,sN] at hs)))
  (refine wp_region_quiet_below (by kernel_rfl) (by kernel_rfl) ?_;(repeat (go_big_quiet_step ((go_at_call 50;exact quiet_same (twithin_is hq2 _)))));refine wpQuiet_nil fun w1 h1 => ?_;obtain ⟨hc,hf,hs,he⟩ := eu (w := w) h1 xt;clear h1;(try simp only [sA,sC,sD,sN] at hs))
  go_wp2
  go_ret
  exact ⟨ret_bool HR.out.symm,he⟩
theorem frm_fnAt {p : Prg} {t : Tsk} {i : Nat} {f : Frm} (h : frmB p t i = true) (hf : t.frames[i]? = some f) : ∃ g,fnAt p f.fn = some g := by
 unfold frmB at h
 rw [hf] at h
 dsimp only at h
 cases hg : fnAt p f.fn with
 | none => rw [hg] at h;cases h
 | some g => exact ⟨g,rfl⟩
def liv0 (p : Prg) (t : Tsk) : Bool := blksB p t.blocks && inB t.mask (leastI t) (mostI t) && decide (plainN t ≤ 8) && !(decide (plainN t = 0) && (!t.unw || (t.level != 0)))
  && !((t.level != 0) && (!t.unw || !inB t.level 2 (t.blocks.length : Int)))
  && !(t.unw && (((t.level == 0) && decide (0 < plainN t)) || (decide (0 < t.level) && ((plainN t : Int) != depthAt t (t.level - 1)))))
theorem livB_eq (p : Prg) (t : Tsk) : livB p t = (liv0 p t && allB (frmB p t) t.frames.length 0 && allB (keepB p t) (keepsN t - 1) 1) := rfl
theorem liv0_ends {p : Prg} {t : Tsk} (h : liv0 p t = false) : livB p t = false := by rw [livB_eq,h];rfl
theorem liv0_blks {p : Prg} {t : Tsk} (h : blksB p t.blocks = false) : liv0 p t = false := by unfold liv0;rw [h];rfl
end Go.Proofs.Ytcjjoabofecjmaa

