/- A part of the proof: What a step of a runner does with what stays true, in plain . -/
import Derived.Test.YtcjjoabofecjmaaQ17
set_option linter.unusedVariables false
set_option linter.unusedSimpArgs false
set_option maxHeartbeats 16000000
namespace Go.Proofs.Ytcjjoabofecjmaa
open Go.RowKit
open Go.Value (int)
structure Same (t t' : Tsk) : Prop where
 fn : t'.fn = t.fn
 scope : t'.scope = t.scope
 prio : t'.prio = t.prio
 status : t'.status = t.status
 wkind : t'.wkind = t.wkind
 windex : t'.windex = t.windex
 wagain : t'.wagain = t.wagain
 unw : t'.unw = t.unw
 level : t'.level = t.level
 reason : t'.reason = t.reason
 result : t'.result = t.result
theorem Same.refl (t : Tsk) : Same t t := ⟨rfl,rfl,rfl,rfl,rfl,rfl,rfl,rfl,rfl,rfl,rfl⟩
theorem Same.trans {a b c : Tsk} (h : Same a b) (k : Same b c) : Same a c :=
 ⟨k.fn.trans h.fn,k.scope.trans h.scope,k.prio.trans h.prio,k.status.trans h.status,k.wkind.trans h.wkind,k.windex.trans h.windex,k.wagain.trans h.wagain,k.unw.trans h.unw,k.level.trans h.level,k.reason.trans h.reason,k.result.trans h.result⟩
def popT (t : Tsk) : Tsk := { t with frames := t.frames.take (t.frames.length - 1),mask := wr64 (t.mask - 1) }
def Fate (p : Prg) (t : Tsk) (r : Tsk × Stp) (m : Nat) : Prop := Same t r.1 ∧ ((r.2.kind = 0 ∧ RunOk p r.1 ∧ r.1.frames.length ≤ m) ∨ (r.2.kind ≠ 0 ∧ (r.1 = t ∨ r.1 = popT t)))
theorem fate_fail {p : Prg} {t : Tsk} {m : Nat} (r : Int) : Fate p t (failT t r) m := ⟨Same.refl _,.inr ⟨by simp [failT],.inl rfl⟩⟩
theorem wrote_same (t : Tsk) (f : Frm) (i v : Int) : Same t (writeS t f i v).1 := by
 unfold writeS;split
 ·exact ⟨rfl,rfl,rfl,rfl,rfl,rfl,rfl,rfl,rfl,rfl,rfl⟩
 ·exact Same.refl _
theorem fate_write {p : Prg} {t : Tsk} (h : RunOk p t) {f : Frm} {g : Fnc} (hf : topF t = some f) (hg : FrOk p f g) (hpc : f.pc < g.code.length) (i v : Int) {m : Nat} (hm : t.frames.length ≤ m) : Fate p t (writeS t f i v) m := by
 refine ⟨wrote_same _ _ _ _, ?_⟩
 by_cases hz : (writeS t f i v).2.kind = 0
 ·refine .inl ⟨hz,h.write hf hg hpc hz, ?_⟩
  unfold writeS;split
  ·simpa [Go.Proofs.Ytcjjoabofecjmaa.setTop] using hm
  ·exact hm
 ·refine .inr ⟨hz,.inl ?_⟩
  unfold writeS at hz ⊢
  split
  ·rename_i hv;rw [if_pos hv] at hz;exact absurd rfl hz
  ·rfl
theorem fate_jump {p : Prg} {t : Tsk} (h : RunOk p t) {f : Frm} {g : Fnc} (hf : topF t = some f) (hg : FrOk p f g) {pc : Int} (hpc : 0 ≤ pc ∧ pc ≤ g.code.length) {m : Nat} (hm : t.frames.length ≤ m) : Fate p t (jumpS t f pc) m :=
 ⟨⟨rfl,rfl,rfl,rfl,rfl,rfl,rfl,rfl,rfl,rfl,rfl⟩,.inl ⟨rfl,h.jump hf hg hpc,by simpa [jumpS,Go.Proofs.Ytcjjoabofecjmaa.setTop] using hm⟩⟩
theorem fate_give {p : Prg} {t : Tsk} (h : RunOk p t) {f : Frm} (hf : topF t = some f) {v : Int} (hv : numB v = true) : Fate p t (giveS t f v) (t.frames.length - 1) := by
 have hpos := h.pos
 unfold giveS
 by_cases hcl : f.cleanup = true
 ·rw [if_pos hcl]
  exact ⟨⟨rfl,rfl,rfl,rfl,rfl,rfl,rfl,rfl,rfl,rfl,rfl⟩,.inr ⟨by show (4 : Int) ≠ 0;decide,.inr rfl⟩⟩
 rw [if_neg hcl]
 by_cases h1 : t.frames.length = 1
 ·rw [if_pos h1]
  exact ⟨Same.refl _,.inr ⟨by show (2 : Int) ≠ 0;decide,.inl rfl⟩⟩
 rw [if_neg h1]
 obtain ⟨b,hb⟩ : ∃ b,lastB t = some b := ⟨_,List.getElem?_eq_getElem (show t.blocks.length - 1 < t.blocks.length by have := h.bl;omega)⟩
 obtain ⟨y,hy⟩ : ∃ y,t.frames[t.frames.length - 2]? = some y := ⟨_,List.getElem?_eq_getElem (by omega)⟩
 rw [hb,hy]
 dsimp only
 split
 ·exact fate_fail 8
 have hF : ∀ (i : Nat) (x : Frm),((t.frames.take (t.frames.length - 1)).set (t.frames.length - 2) { y with regs := y.regs.set f.result.toNat v })[i]? = some x →
   ∃ x0,t.frames[i]? = some x0 ∧ i < t.frames.length - 1 ∧ x.regs.length = x0.regs.length ∧ x.cleanup = x0.cleanup ∧ x.result = x0.result ∧ ∀ g,FrOk p x0 g → FrOk p x g := fun i x hx => by
  rcases set_cases hx with ⟨rfl,rfl⟩ | ⟨_,hx⟩
  ·refine ⟨y,hy,by omega,List.length_set ..,rfl,rfl,fun g hg => ⟨hg.fn,by rw [List.length_set];exact hg.regs,fun z hz => ?_,hg.pc,hg.cl⟩⟩
   rcases List.mem_or_eq_of_mem_set hz with hz | rfl
   ·exact hg.num z hz
   ·exact hv
  ·rw [List.getElem?_take] at hx
   split at hx
   ·exact ⟨x,hx,by assumption,rfl,rfl,rfl,fun g hg => hg⟩
   ·cases hx
 have hl : ((t.frames.take (t.frames.length - 1)).set (t.frames.length - 2) { y with regs := y.regs.set f.result.toNat v }).length = t.frames.length - 1 := by
  rw [List.length_set,List.length_take];omega
 have h9 := h.len
 refine ⟨⟨rfl,rfl,rfl,rfl,rfl,rfl,rfl,rfl,rfl,rfl,rfl⟩,.inl ⟨rfl,⟨by show 1 ≤ List.length _;rw [hl];omega,by show List.length _ ≤ 9;rw [hl];omega,fun _ _ _ => by show List.length _ ≤ 8;rw [hl];omega,fun i x hx => ?_,fun i x z hx hz hxc => ?_,fun i x hx hxc => ?_,h.bl,h.hdl,h.mask⟩,by show List.length _ ≤ _;rw [hl];exact Nat.le_refl _⟩⟩
 ·obtain ⟨x0,e1,_,_,_,_,e5⟩ := hF i x hx
  obtain ⟨g,hg⟩ := h.fr i x0 e1
  exact ⟨g,e5 g hg⟩
 ·obtain ⟨x0,e1,_,e2,e3,e4,_⟩ := hF (i + 1) x hx
  obtain ⟨z0,d1,_,d2,_⟩ := hF i z hz
  have := h.res i x0 z0 e1 d1 (by rw [← e3];exact hxc)
  unfold InF at *
  rw [e4,d2];exact this
 ·obtain ⟨x0,e1,e0,e2,e3,e4,_⟩ := hF i x hx
  have := h.cl i x0 e1 (by rw [← e3];exact hxc)
  omega
theorem fate_call {p : Prg} {t : Tsk} (h : RunOk p t) {f : Frm} {g k : Fnc} (hf : topF t = some f) (hg : FrOk p f g) (hpc : f.pc < g.code.length) (hcl : f.cleanup = false) {x : Ins} (hk : fnAt p x.b = some k) (hkc : k.cleanup = false) (hkr : 0 ≤ k.regs)
  (ha : 0 ≤ x.a ∧ x.a < g.regs) (hal : (x.args.length : Int) ≤ k.regs) (har : ∀ a ∈ x.args,0 ≤ a ∧ a < g.regs) : Fate p t (callS p t f x) (t.frames.length + 1) := by
 have hpos := h.pos
 unfold callS
 split
 ·exact fate_fail 7
 rename_i h8
 rw [hk]
 dsimp only
 have hN : t.frames.length < 8 := by
  unfold plainN at h8
  rw [inHand_top hf,hcl] at h8
  simpa using h8
 have h0 : RunOk p (setTop t { f with pc := f.pc + 1 }) := h.setTop hf (f' := { f with pc := f.pc + 1 }) (g := g) ⟨hg.fn,hg.regs,hg.num,⟨by have := hg.pc;show 0 ≤ f.pc + 1;omega,by show f.pc + 1 ≤ _;omega⟩,hg.cl⟩ rfl rfl rfl
 have hlen : (argsOf f x.args).length = x.args.length := by simp [argsOf]
 have hnf : FrOk p ⟨x.b,0,regsOf k.regs.toNat (argsOf f x.args),x.a,false⟩ k := ⟨hk,by rw [regsOf_length (by omega)];omega,fun z hz => by
  unfold regsOf at hz
  rcases List.mem_append.1 hz with hz | hz
  ·unfold argsOf at hz
   obtain ⟨a,ha',rfl⟩ := List.mem_map.1 hz
   exact regS_num hg (har a ha')
  ·rw [(List.mem_replicate.1 hz).2];decide,⟨Int.le_refl _,by show (0 : Int) ≤ _;omega⟩,by show false = _;rw [hkc]⟩
 have hl0 : (t.frames.set (t.frames.length - 1) { f with pc := f.pc + 1 }).length = t.frames.length := List.length_set ..
 refine ⟨⟨rfl,rfl,rfl,rfl,rfl,rfl,rfl,rfl,rfl,rfl,rfl⟩,.inl ⟨rfl,⟨by simp,by simp;omega,fun _ _ _ => by simp;omega,fun i y hy => ?_,fun i y z hy hz hyc => ?_,fun i y hy hyc => ?_,h.bl,h.hdl,h.mask⟩,by simp⟩⟩
 ·rcases snoc_cases hy with ⟨_,hy⟩ | ⟨_,rfl⟩
  ·exact h0.fr i y hy
  ·exact ⟨k,hnf⟩
 ·rcases snoc_cases hz with ⟨hi,hz'⟩ | ⟨hi,_⟩
  ·rcases snoc_cases hy with ⟨_,hy⟩ | ⟨hi2,rfl⟩
   ·exact h0.res i y z hy hz' hyc
   ·rw [hl0] at hi2 hi
    have hi3 : i = t.frames.length - 1 := by omega
    subst hi3
    rw [List.getElem?_set_self (by omega)] at hz'
    injection hz' with hz'
    subst hz'
    exact ⟨ha.1,by have := hg.regs;show x.a < (f.regs.length : Int);omega⟩
  ·rcases snoc_cases hy with ⟨hi2,_⟩ | ⟨hi2,_⟩ <;> omega
 ·rcases snoc_cases hy with ⟨hi,hy⟩ | ⟨_,rfl⟩
  ·have h2 := h0.cl i y hy hyc
   simp only [Go.Proofs.Ytcjjoabofecjmaa.setTop,hl0] at h2
   rcases set_cases hy with ⟨_,rfl⟩ | ⟨hne,_⟩
   ·rw [show ({ f with pc := f.pc + 1 } : Frm).cleanup = f.cleanup from rfl,hcl] at hyc;cases hyc
   ·omega
  ·cases hyc
theorem fate_defer {p : Prg} {t : Tsk} (h : RunOk p t) {f : Frm} {g : Fnc} (hf : topF t = some f) (hg : FrOk p f g) (hpc : f.pc < g.code.length) (x : Ins) {m : Nat} (hm : t.frames.length ≤ m) : Fate p t (deferS t f x) m := by
 unfold deferS
 obtain ⟨b,hb⟩ : ∃ b,lastB t = some b := ⟨_,List.getElem?_eq_getElem (show t.blocks.length - 1 < t.blocks.length by have := h.bl;omega)⟩
 rw [hb]
 dsimp only
 split
 ·exact fate_fail 7
 rename_i h8
 have h0 : RunOk p (setTop t { f with pc := f.pc + 1 }) := h.setTop hf (f' := { f with pc := f.pc + 1 }) (g := g) ⟨hg.fn,hg.regs,hg.num,⟨by have := hg.pc;show 0 ≤ f.pc + 1;omega,by show f.pc + 1 ≤ _;omega⟩,hg.cl⟩ rfl rfl rfl
 refine ⟨⟨rfl,rfl,rfl,rfl,rfl,rfl,rfl,rfl,rfl,rfl,rfl⟩,.inl ⟨rfl,⟨h0.pos,h0.len,h0.len8,h0.fr,h0.res,h0.cl, ?_,fun y hy => ?_,h.mask⟩,by simpa using hm⟩⟩
 ·show 1 ≤ List.length (List.set ..) ∧ List.length (List.set ..) ≤ 8
  rw [List.length_set];exact h.bl
 ·rcases List.mem_or_eq_of_mem_set hy with hy | rfl
  ·exact h.hdl y hy
  ·show (b.handlers ++ [_]).length ≤ 8
   rw [List.length_append,List.length_singleton];omega
theorem fate_mask {p : Prg} {t : Tsk} (h : RunOk p t) {f : Frm} {g : Fnc} (hf : topF t = some f) (hg : FrOk p f g) (hpc : f.pc < g.code.length) {m : Nat} (hm : t.frames.length ≤ m) : Fate p t (maskS t f) m ∧ Fate p t (unmaskS t f) m := by
 have h0 : RunOk p (setTop t { f with pc := f.pc + 1 }) := h.setTop hf (f' := { f with pc := f.pc + 1 }) (g := g) ⟨hg.fn,hg.regs,hg.num,⟨by have := hg.pc;show 0 ≤ f.pc + 1;omega,by show f.pc + 1 ≤ _;omega⟩,hg.cl⟩ rfl rfl rfl
 have hmk := h.mask
 constructor
 ·unfold maskS
  split
  ·exact fate_fail 7
  ·exact ⟨⟨rfl,rfl,rfl,rfl,rfl,rfl,rfl,rfl,rfl,rfl,rfl⟩,.inl ⟨rfl,h0.mask' (by omega),by simpa [Go.Proofs.Ytcjjoabofecjmaa.setTop] using hm⟩⟩
 ·unfold unmaskS
  obtain ⟨b,hb⟩ : ∃ b,lastB t = some b := ⟨_,List.getElem?_eq_getElem (show t.blocks.length - 1 < t.blocks.length by have := h.bl;omega)⟩
  rw [hb]
  dsimp only
  split
  ·exact fate_fail 8
  ·rename_i hne
   exact ⟨⟨rfl,rfl,rfl,rfl,rfl,rfl,rfl,rfl,rfl,rfl,rfl⟩,.inl ⟨rfl,h0.mask' (by omega),by simpa [Go.Proofs.Ytcjjoabofecjmaa.setTop] using hm⟩⟩
theorem exec_cases {p : Prg} {t : Tsk} {f : Frm} {x : Ins} {motive : Tsk × Stp → Prop} (hop : 1 ≤ x.op ∧ x.op ≤ 21)
  (h1 : x.op = 1 → motive (writeS t f x.a x.b)) (h2 : x.op = 2 → motive (writeS t f x.a (regS f x.b))) (h12 : x.op = 12 → motive (writeS t f x.a (bitS (regS f x.b == 0))))
  (hd : 3 ≤ x.op → x.op ≤ 11 → (x.op = 6 ∨ x.op = 7) ∧ regS f x.c = 0 → motive (failT t 6)) (hb : 3 ≤ x.op → x.op ≤ 11 → ¬ ((x.op = 6 ∨ x.op = 7) ∧ regS f x.c = 0) → motive (writeS t f x.a (binS x.op (regS f x.b) (regS f x.c))))
  (h13 : x.op = 13 → motive (jumpS t f x.a)) (h14 : x.op = 14 → motive (jumpS t f (if regS f x.a = 0 then x.b else f.pc + 1))) (h15 : x.op = 15 → motive (callS p t f x)) (h16 : x.op = 16 → motive (giveS t f (regS f x.a)))
  (h17 : x.op = 17 → motive (deferS t f x)) (h18 : x.op = 18 → motive (maskS t f)) (h19 : x.op = 19 → motive (unmaskS t f)) (h20 : x.op = 20 → motive (if regS f x.a = 0 then failT t 4 else jumpS t f (f.pc + 1)))
  (h21 : x.op = 21 → motive (if regS f x.a < 0 ∨ 899 < regS f x.a then failT t 8 else failT t (100 + regS f x.a))) : motive (execS p t f x) := by
 unfold execS
 by_cases e1 : x.op = 1
 ·rw [if_pos e1];exact h1 e1
 rw [if_neg e1]
 by_cases e2 : x.op = 2
 ·rw [if_pos e2];exact h2 e2
 rw [if_neg e2]
 by_cases e12 : x.op = 12
 ·rw [if_pos e12];exact h12 e12
 rw [if_neg e12]
 by_cases e3 : 3 ≤ x.op ∧ x.op ≤ 11
 ·rw [if_pos e3]
  by_cases e4 : (x.op = 6 ∨ x.op = 7) ∧ regS f x.c = 0
  ·rw [if_pos e4];exact hd e3.1 e3.2 e4
  ·rw [if_neg e4];exact hb e3.1 e3.2 e4
 rw [if_neg e3]
 by_cases e13 : x.op = 13
 ·rw [if_pos e13];exact h13 e13
 rw [if_neg e13]
 by_cases e14 : x.op = 14
 ·rw [if_pos e14];exact h14 e14
 rw [if_neg e14]
 by_cases e15 : x.op = 15
 ·rw [if_pos e15];exact h15 e15
 rw [if_neg e15]
 by_cases e16 : x.op = 16
 ·rw [if_pos e16];exact h16 e16
 rw [if_neg e16]
 by_cases e17 : x.op = 17
 ·rw [if_pos e17];exact h17 e17
 rw [if_neg e17]
 by_cases e18 : x.op = 18
 ·rw [if_pos e18];exact h18 e18
 rw [if_neg e18]
 by_cases e19 : x.op = 19
 ·rw [if_pos e19];exact h19 e19
 rw [if_neg e19]
 by_cases e20 : x.op = 20
 ·rw [if_pos e20];exact h20 e20
 rw [if_neg e20]
 exact h21 (by omega)
theorem need_a {p : Prg} {g : Fnc} {x : Ins} (h : InsOk p g x) (hx : (1 ≤ x.op ∧ x.op ≤ 12) ∨ x.op = 14 ∨ x.op = 15 ∨ x.op = 16 ∨ x.op = 20 ∨ x.op = 21) : 0 ≤ x.a ∧ x.a < g.regs := by
 have hw : ∀ k : Int,(1 ≤ k ∧ k ≤ 12) ∨ k = 14 ∨ k = 15 ∨ k = 16 ∨ k = 20 ∨ k = 21 → ((sS k).a.what = 3 ∨ (sS k).a.what = 4) := fun k hk => by
  have : k = 1 ∨ k = 2 ∨ k = 3 ∨ k = 4 ∨ k = 5 ∨ k = 6 ∨ k = 7 ∨ k = 8 ∨ k = 9 ∨ k = 10 ∨ k = 11 ∨ k = 12 ∨ k = 14 ∨ k = 15 ∨ k = 16 ∨ k = 20 ∨ k = 21 := by omega
  rcases this with rfl | rfl | rfl | rfl | rfl | rfl | rfl | rfl | rfl | rfl | rfl | rfl | rfl | rfl | rfl | rfl | rfl <;> decide
 exact oper_reg (hw _ hx) h.a
theorem need_b {p : Prg} {g : Fnc} {x : Ins} (h : InsOk p g x) (hx : 2 ≤ x.op ∧ x.op ≤ 12) : 0 ≤ x.b ∧ x.b < g.regs := by
 have hw : ∀ k : Int,2 ≤ k ∧ k ≤ 12 → ((sS k).b.what = 3 ∨ (sS k).b.what = 4) := fun k hk => by
  have : k = 2 ∨ k = 3 ∨ k = 4 ∨ k = 5 ∨ k = 6 ∨ k = 7 ∨ k = 8 ∨ k = 9 ∨ k = 10 ∨ k = 11 ∨ k = 12 := by omega
  rcases this with rfl | rfl | rfl | rfl | rfl | rfl | rfl | rfl | rfl | rfl | rfl <;> decide
 exact oper_reg (hw _ hx) h.b
theorem need_c {p : Prg} {g : Fnc} {x : Ins} (h : InsOk p g x) (hx : 3 ≤ x.op ∧ x.op ≤ 11) : 0 ≤ x.c ∧ x.c < g.regs := by
 have hw : ∀ k : Int,3 ≤ k ∧ k ≤ 11 → ((sS k).c.what = 3 ∨ (sS k).c.what = 4) := fun k hk => by
  have : k = 3 ∨ k = 4 ∨ k = 5 ∨ k = 6 ∨ k = 7 ∨ k = 8 ∨ k = 9 ∨ k = 10 ∨ k = 11 := by omega
  rcases this with rfl | rfl | rfl | rfl | rfl | rfl | rfl | rfl | rfl <;> decide
 exact oper_reg (hw _ hx) h.c
theorem need_jump {p : Prg} {g : Fnc} {x : Ins} (h : InsOk p g x) : (x.op = 13 → 0 ≤ x.a ∧ x.a < (g.code.length : Int)) ∧ (x.op = 14 → 0 ≤ x.b ∧ x.b < (g.code.length : Int)) :=
 ⟨fun e => oper_jump (by rw [e];rfl) h.a,fun e => oper_jump (by rw [e];rfl) h.b⟩
theorem need_args {p : Prg} {g : Fnc} {x : Ins} (h : InsOk p g x) (hx : x.op = 15 ∨ x.op = 17) : ∃ k,fnAt p x.b = some k ∧ k.cleanup = decide (x.op = 17) ∧ (x.args.length : Int) = k.params ∧ ∀ a ∈ x.args,0 ≤ a ∧ a < g.regs := by
 have h1 : (sS x.op).args = 1 := by rcases hx with e | e <;> rw [e] <;> rfl
 obtain ⟨h2,h3⟩ := args_regs h.args h1
 have h4 : ∃ k,fnAt p x.b = some k ∧ k.cleanup = decide ((sS x.op).b.what = 9) := oper_fn (by rcases hx with e | e <;> rw [e] <;> decide) h.b
 obtain ⟨k,hk,hkc⟩ := h4
 refine ⟨k,hk, ?_, ?_,h3⟩
 ·rw [hkc];rcases hx with e | e <;> rw [e] <;> decide
 ·rw [h2];unfold wantS;rw [if_pos rfl,(fnAt_some hk).2.2]
theorem exec_fate {p : Prg} {t : Tsk} (hc : checkS p = 0) (h : RunOk p t) {f : Frm} {g : Fnc} {x : Ins} (hf : topF t = some f) (hg : FrOk p f g) (hx : g.code[f.pc.toNat]? = some x) (hv : visS x.op = false) : Fate p t (execS p t f x) (t.frames.length + 1) := by
 have hfn := fn_ok hc (fnAt_mem hg.fn)
 have hi := ins_ok (hfn.ins x (List.mem_of_getElem? hx))
 have hpc : f.pc < g.code.length := by have := (List.getElem?_eq_some_iff.1 hx).1;have := hg.pc;omega
 have hop := local_op hi.shape hv
 have hpc0 := hg.pc
 have hle : t.frames.length ≤ t.frames.length + 1 := Nat.le_succ _
 refine exec_cases (motive := fun r => Fate p t r (t.frames.length + 1)) hop (fun e => ?_) (fun e => ?_) (fun e => ?_) (fun _ _ _ => fate_fail 6) (fun _ _ _ => ?_) (fun e => ?_) (fun e => ?_) (fun e => ?_) (fun e => ?_) (fun e => ?_) (fun e => ?_) (fun e => ?_) (fun e => ?_) (fun e => ?_)
 ·exact fate_write h hf hg hpc _ _ hle
 ·exact fate_write h hf hg hpc _ _ hle
 ·exact fate_write h hf hg hpc _ _ hle
 ·exact fate_write h hf hg hpc _ _ hle
 ·have := (need_jump hi).1 e;exact fate_jump h hf hg (by omega) hle
 ·have := (need_jump hi).2 e;refine fate_jump h hf hg ?_ hle;split <;> omega
 ·obtain ⟨k,hk,hkc,hkl,har⟩ := need_args hi (.inl e)
  have hfk := fn_ok hc (fnAt_mem hk)
  have hcl : f.cleanup = false := by
   cases hcf : f.cleanup with
   | false => rfl
   | true =>
    have := hi.forb (by rw [← hg.cl];exact hcf)
    rw [e] at this;exact absurd this (by decide)
  have := hfk.par;have := hfk.reg
  exact fate_call h hf hg hpc hcl hk (by rw [hkc,e];decide) (by omega) (need_a hi (by omega)) (by omega) har
 ·obtain ⟨h1,h2⟩ := fate_give h hf (regS_num hg (need_a hi (by omega)))
  exact ⟨h1,h2.imp (fun ⟨a,b,c⟩ => ⟨a,b,by omega⟩) id⟩
 ·exact fate_defer h hf hg hpc x hle
 ·exact (fate_mask h hf hg hpc hle).1
 ·exact (fate_mask h hf hg hpc hle).2
 ·split
  ·exact fate_fail 4
  ·exact fate_jump h hf hg (by omega) hle
 ·split
  ·exact fate_fail 8
  ·exact fate_fail _
structure RunWk (t : Tsk) : Prop where
 len : t.frames.length ≤ 9
 regs : ∀ f ∈ t.frames,f.regs.length ≤ 32
 bl : t.blocks.length ≤ 8
 hdl : ∀ b ∈ t.blocks,b.handlers.length ≤ 8
 mask : -1 ≤ t.mask ∧ t.mask ≤ 101
theorem RunOk.wk {p : Prg} {t : Tsk} (h : RunOk p t) (hc : checkS p = 0) : RunWk t := by
 refine ⟨h.len,fun f hf => ?_,h.bl.2,h.hdl,by have := h.mask;omega⟩
 obtain ⟨i,hi,rfl⟩ := List.getElem_of_mem hf
 obtain ⟨g,hg⟩ := h.fr i _ (List.getElem?_eq_getElem hi)
 have h1 := (fn_ok hc (fnAt_mem hg.fn)).reg
 have := hg.regs
 omega
theorem RunOk.wk_pop {p : Prg} {t : Tsk} (h : RunOk p t) (hc : checkS p = 0) : RunWk (popT t) := by
 have hw := h.wk hc
 have hm := h.mask
 refine ⟨by show List.length (List.take _ _) ≤ 9;rw [List.length_take];have := hw.len;omega,fun f hf => hw.regs f (List.mem_of_mem_take hf),hw.bl,hw.hdl, ?_⟩
 show -1 ≤ wr64 (t.mask - 1) ∧ wr64 (t.mask - 1) ≤ 101
 unfold wr64 wrap64;omega
theorem Fate.wk {p : Prg} {t : Tsk} {r : Tsk × Stp} {m : Nat} (hc : checkS p = 0) (h : RunOk p t) (hr : Fate p t r m) : RunWk r.1 := by
 rcases hr.2 with ⟨_,h1,_⟩ | ⟨_,h1 | h1⟩
 ·exact h1.wk hc
 ·rw [h1];exact h.wk hc
 ·rw [h1];exact h.wk_pop hc
theorem runS_wk {p : Prg} (hc : checkS p = 0) : ∀ (k : Nat) (t : Tsk) (n : Nat),RunOk p t → RunWk (runS p k t n).1 ∧ Same t (runS p k t n).1
 | 0,t,n,h => ⟨h.wk hc,Same.refl _⟩
 | k + 1,t,n,h => by
  obtain ⟨f,hf⟩ := h.top
  obtain ⟨g,hg⟩ := h.fr _ f hf
  unfold runS
  rw [hf]
  dsimp only
  rw [hg.fn]
  dsimp only
  cases hx : g.code[f.pc.toNat]? with
  | none =>
   dsimp only
   have hG := fate_give h hf (v := 0) (by decide)
   split
   ·rename_i hz
    rcases hG.2 with ⟨_,h1,_⟩ | ⟨h1,_⟩
    ·obtain ⟨a,b⟩ := runS_wk hc k _ n h1
     exact ⟨a,hG.1.trans b⟩
    ·exact absurd hz h1
   ·exact ⟨hG.wk hc h,hG.1⟩
  | some x =>
   dsimp only
   cases hv : visS x.op with
   | true => rw [if_pos rfl];exact ⟨h.wk hc,Same.refl _⟩
   | false =>
    rw [if_neg (by decide)]
    split
    ·exact ⟨h.wk hc,Same.refl _⟩
    ·have hG := exec_fate hc h hf hg hx hv
     split
     ·rename_i hz
      rcases hG.2 with ⟨_,h1,_⟩ | ⟨h1,_⟩
      ·obtain ⟨a,b⟩ := runS_wk hc k _ (n + 1) h1
       exact ⟨a,hG.1.trans b⟩
      ·exact absurd hz h1
     ·exact ⟨hG.wk hc h,hG.1⟩
theorem run_ok {p : Prg} {t : Tsk} (h : tcheckS p t = 0) (hst : t.status = 1) (hl : t.frames.length ≠ 0) : RunOk p t := by
 unfold tcheckS at h
 split at h
 ·cases h
 rw [if_neg (by omega)] at h
 split at h
 ·rename_i h1
  unfold livB at h1
  simp only [Bool.and_eq_true] at h1
  obtain ⟨⟨⟨⟨⟨⟨⟨hb,hm⟩,hp⟩,_⟩,_⟩,_⟩,hfr⟩,_⟩ := h1
  have hp8 : plainN t ≤ 8 := by simpa using hp
  have hfr' := fun (i : Nat) (hi : i < t.frames.length) => allB_iff.1 hfr i (Nat.zero_le _) (by omega)
  have hfrm : ∀ (i : Nat) (f : Frm),t.frames[i]? = some f → ∃ g,FrOk p f g ∧ (f.cleanup = true → i + 1 = t.frames.length) ∧ (f.cleanup = false → ∀ h,0 < i → t.frames[i - 1]? = some h → ∃ k,fnAt p h.fn = some k ∧ 0 ≤ f.result ∧ f.result ≤ k.regs - 1) := fun i f hf => by
   have h2 := hfr' i (List.getElem?_eq_some_iff.1 hf).1
   unfold frmB at h2
   rw [hf] at h2
   dsimp only at h2
   cases hfn : fnAt p f.fn with
   | none => rw [hfn] at h2;cases h2
   | some g =>
    rw [hfn] at h2
    simp only [Bool.and_eq_true,inB_iff,beq_iff_eq,List.all_eq_true] at h2
    obtain ⟨⟨⟨⟨a1,a2⟩,a3⟩,a4⟩,a5⟩ := h2
    refine ⟨g,⟨hfn,a1,a2,a3,a4⟩,fun hc => ?_,fun hc h hi hh => ?_⟩
    ·rw [if_pos hc] at a5
     simp only [Bool.and_eq_true,beq_iff_eq] at a5
     exact a5.2
    ·rw [if_neg (by rw [hc];decide),if_neg (by omega),hh] at a5
     dsimp only at a5
     cases hk : fnAt p h.fn with
     | none => rw [hk] at a5;cases a5
     | some k => rw [hk] at a5;rw [inB_iff] at a5;exact ⟨k,rfl,a5⟩
  obtain ⟨f,hf⟩ : ∃ f,topF t = some f := ⟨_,List.getElem?_eq_getElem (show t.frames.length - 1 < t.frames.length by omega)⟩
  have hin := inHand_top hf
  unfold blksB at hb
  simp only [Bool.and_eq_true,inB_iff] at hb
  have hbl := fun (i : Nat) (hi : i < t.blocks.length) => allB_iff.1 hb.2 i (Nat.zero_le _) (by omega)
  unfold plainN at hp8
  refine ⟨by omega,by split at hp8 <;> omega,fun y hy hc => ?_,fun i y hy => ?_,fun i y z hy hz hc => ?_,fun i y hy hc => ?_,by omega,fun b hb' => ?_, ?_⟩
  ·rw [hf] at hy;injection hy with hy;subst hy
   rw [hin,hc] at hp8
   simpa using hp8
  ·obtain ⟨g,hg,_⟩ := hfrm i y hy;exact ⟨g,hg⟩
  ·obtain ⟨_,_,_,h3⟩ := hfrm (i + 1) y hy
   obtain ⟨k,hk,h4⟩ := h3 hc z (by omega) hz
   obtain ⟨k',hk',_⟩ := hfrm i z hz
   have := hk'.fn
   rw [hk] at this
   injection this with this
   subst this
   have := hk'.regs
   exact ⟨h4.1,by omega⟩
  ·obtain ⟨_,_,h3,_⟩ := hfrm i y hy;exact h3 hc
  ·obtain ⟨i,hi,rfl⟩ := List.getElem_of_mem hb'
   have h2 := hbl i hi
   unfold blkB at h2
   rw [List.getElem?_eq_getElem hi] at h2
   simp only [Bool.and_eq_true,decide_eq_true_eq] at h2
   exact h2.1.1
  ·rw [inB_iff] at hm
   unfold leastI mostI at hm
   split at hm <;> omega
 ·cases h
end Go.Proofs.Ytcjjoabofecjmaa
namespace Go.Proofs.Ytcjjoabofecjmaa
open Go.RowKit Go.Sort
open Go.Value (int)
set_option maxRecDepth 4000 in
theorem leave_give {X : List Value} {B R : Nat} {P3 : List Value} {w : World} {t : Tsk} {n : Int} {VF VB : Value} {rs hs : List Value} {gs : List (List Value)} (h : RunSt X B R P3 w t n VF VB rs hs gs) {f y : Frm} (ht : TopOk t f) (v : Int) (hvi : InR v) (hcl : f.cleanup = false) (h1 : 2 ≤ t.frames.length) (b : Blk) (hb : lastB t = some b) (hbl : t.blocks.length ≤ 1000)
  (hd : ¬ b.depth = (t.frames.length : Int)) (hy : t.frames[t.frames.length - 2]? = some y) (hyr : y.regs.length ≤ 1000) (hi : InF y f.result) :
  Calls Try.prog 36 #[.pointer (some ⟨R,0,none⟩),int .i64 v] w (OpPost X B R P3 w (giveS t f v) n) := by
 have hR : giveS t f v = ({ t with frames := (t.frames.take (t.frames.length - 1)).set (t.frames.length - 2) { y with regs := y.regs.set f.result.toNat v } },goOn) := by unfold giveS;rw [if_neg (by rw [hcl];decide),if_neg (by omega),hb,hy];dsimp only;rw [if_neg hd]
 rw [hR]
 have hlR := h.lt.2
 have hBR := h.lt.1
 have hBW : B ≤ w.heap.size := by have := h.lt;omega
 obtain ⟨gF,cF,v',rfl,hv,hpos,hgF,⟨Av,cv,rfl,hcv⟩,c0,c1,c2,c3,c4⟩ := h.top ht.top
 have hcF : t.frames.length ≤ cF := by
  obtain ⟨A9,cF',e9,hcF,_⟩ := ownsRow_shape h.fr.row
  injection e9 with q1 q2 q3
  omega
 have m1 : w.cell? ⟨R,10,none⟩ = some (.slice (some ⟨gF,0,none⟩) t.frames.length cF) := h.cellT (j := 7) rfl
 have m3 : w.cell? ⟨R,11,none⟩ = some VB := h.cellT (j := 8) rfl
 have f1 := h.frozen 10
 have H := Lib.hid h
 have hn2 : t.frames.length - 1 - 1 = t.frames.length - 2 := by omega
 obtain ⟨u,hu⟩ : ∃ u,rs[t.frames.length - 2]? = some u := ⟨_,List.getElem?_eq_getElem (by rw [h.fr.len];omega)⟩
 have d2 : w.cell? ⟨gF,(t.frames.length - 1 - 1) * 5 + 2,none⟩ = some u := by
  rw [hn2]
  exact (h.fr.row.cellAt ((t.frames.length - 2) * 5 + 2) (by omega)).trans (rowOf_get frmCells_len hy hu (by omega))
 have hkl : f.result.toNat < y.regs.length := by have := hi.1;have := hi.2;omega
 obtain ⟨k,hk⟩ : ∃ k : Nat,f.result = (k : Int) := ⟨f.result.toNat,by have := hi.1;omega⟩
 obtain ⟨z,hz⟩ : ∃ z,y.regs[f.result.toNat]? = some z := ⟨_,List.getElem?_eq_getElem hkl⟩
 obtain ⟨gr,cr,rfl,hgr,x0⟩ := h.reg_cell hy hu hz
 obtain ⟨g1,c1',e1,hB1,z1,_,_⟩ := h.set_reg hy hu hkl
 cases e1
 have hneR : ¬ gr = R := fun e => by
  have := apart_types (h.fr.reg _ _ _ hy hu) h.box (by decide)
  subst e
  rcases this with h | h
  ·cases h
  ·exact h rfl
 have hneR2 : ¬ gF = R := fun e => by
  have := apart_types h.fr.row h.box (by decide)
  subst e
  rcases this with h | h
  ·cases h
  ·exact h rfl
 have hneR3 : ¬ R = gr := fun e => hneR e.symm
 have hneR4 : ¬ R = gF := fun e => hneR2 e.symm
 unfold lastB at hb
 have hbpos : 0 < t.blocks.length := by have := (List.getElem?_eq_some_iff.1 hb).1;omega
 obtain ⟨gB,cB,eB,hgB⟩ := own_form h.bl.row hbpos
 obtain ⟨v4,hv4⟩ : ∃ v,hs[t.blocks.length - 1]? = some v := ⟨_,List.getElem?_eq_getElem (by rw [h.bl.len];omega)⟩
 have m4 : w.cell? ⟨gB,(t.blocks.length - 1) * 5 + 1,none⟩ = some (int .i64 b.depth) := by
  have h9 := h.bl.row
  rw [eB] at h9
  rw [h9.cellAt _ (by omega),rowOf_get blkCells_len hb hv4 (by omega)];rfl
 have hlB : gB < w.heap.size := lt_of_cell m4
 have hsB : IntKind.i64.wrap ((t.blocks.length : Int) - 1) = ((t.blocks.length - 1 : Nat) : Int) := by rw [IntWalk.i64_in _ (by omega)];omega
 have hs1B : ((t.blocks.length - 1 : Nat) : Int) < (t.blocks.length : Int) := by omega
 have hs2B : (0 : Int) ≤ ((t.blocks.length - 1 : Nat) : Int) := by omega
 have hl := ht.len
 have HY := Lib.hid hy
 have HU := Lib.hid hu
 have HKL := Lib.hid hkl
 have HV := Lib.hid hvi
 rw [hcl] at c4
 rw [hk,Int.toNat_natCast] at x0 z1 hkl
 rw [hk] at c3
 subst eB
 have hdN : (b.depth == (t.frames.length : Int)) = false := beq_eq_false_iff_ne.2 hd
 have HK : Hid (f.result.toNat = k) := by rw [Hid,hk,Int.toNat_natCast]
 have hky : (k : Int) < (y.regs.length : Int) := by omega
 obtain ⟨M,hM⟩ : ∃ M,y.regs.length = M := ⟨_,rfl⟩
 rw [hM] at hky hyr
 have hPop := Lib.hid (fun W hE => (H.out.mono (W := W) hE).pop (m := t.frames.length - 1) (Nat.sub_le _ _))
 obtain ⟨N,hN⟩ : ∃ N,t.frames.length = N := ⟨_,rfl⟩
 have HN := Lib.hid hN
 rw [hM] at d2
 clear h ht hv hcl hR hy hb hd hv4 hu hz hk hi hkl hM hvi hn2
 rw [hN] at m1 c0 c1 c2 c3 c4 hpos hl h1 hcF d2 hdN hPop
 have hsF : IntKind.i64.wrap ((N : Int) - 1) = ((N - 1 : Nat) : Int) := by rw [IntWalk.i64_in _ (by omega)];omega
 have hs1F : ((N - 1 : Nat) : Int) < (N : Int) := by omega
 have hs2F : (0 : Int) ≤ ((N - 1 : Nat) : Int) := by omega
 have hs3F : ((N - 1 : Nat) : Int) ≤ (cF : Int) := by omega
 have hN1 : ((N : Int) == 1) = false := beq_eq_false_iff_ne.2 (by omega)
 have hpos2 : 0 < N - 1 := by omega
 clear hN
 go_enter Try.func36,Try.ntmps36
 go_wp2
 (refine wp_region_quiet_below (by kernel_rfl) (by kernel_rfl) ?_;(repeat (go_big_quiet_step (fail)));refine wpQuiet_nil fun w1 h1 => ?_;obtain ⟨hc,hf,hs,he⟩ := eu (w := w) h1 xt;clear h1;(try simp only [sA,sC,sD,sN] at hs))
 have H1 := Lib.hid (H.out.mono (show Ext w w1 from he))
 have n1 := he.cell m1
 have n2 := H1.out.frozen 10
 have n3 : w1.cell? ⟨w.heap.size,3,none⟩ = some (int .i64 k) := by rw [hc];simp [go_sem]
 have n4 := he.cell d2
 have n5 := he.cell x0
 have n6 : gF < w1.heap.size := lt_of_cell n4
 have n7 : gr < w1.heap.size := lt_of_cell n5
 have n8 : w.heap.size < w1.heap.size := lt_of_cell n3
 have n9 : R < w1.heap.size := lt_of_cell n1
 have nz : w1.frozen? ⟨gr,k,none⟩ = false := by rw [Below.frozen he (show gr < w.heap.size from hgr)];exact z1
 have HP1 := hPop.out w1 he
 have HE1 := Lib.hid he
 clear hc hf hs he
 go_wp2
 refine wp_hid2 ?_
 intro W2 HW2
 rw [← HW2.out] at HP1
 have R2 := HP1.task
 have p3 : W2.cell? ⟨w.heap.size,3,none⟩ = some (int .i64 k) := by rw [HW2.out,cell?_setCell_if,if_neg (by omega)];exact n3
 have p4 : W2.cell? ⟨gF,(N - 1 - 1) * 5 + 2,none⟩ = some (.slice (some ⟨gr,0,none⟩) M cr) := by rw [HW2.out,cell?_setCell_if,if_neg (by omega)];exact n4
 have p5 : W2.cell? ⟨gr,k,none⟩ = some (int .i64 z) := by rw [HW2.out,cell?_setCell_if,if_neg (by omega)];exact n5
 have pz : W2.frozen? ⟨gr,k,none⟩ = false := by rw [HW2.out,World.frozen?_setCell];exact nz
 have p6 : gF < W2.heap.size := lt_of_cell p4
 have p7 : gr < W2.heap.size := lt_of_cell p5
 have p8 : w.heap.size < W2.heap.size := lt_of_cell p3
 have p9 := HP1.lt.2
 have HPh := Lib.hid HP1
 have HK2 : Hid (Kept B w W2) := by rw [Hid,HW2.out];exact Kept.store (Kept.mono HE1.out hBW) hBR _ (H1.out.hotR.setCell _ _)
 have HB2 : Hid (B ≤ W2.heap.size) := by rw [Hid];omega
 unfold tskL at R2
 clear HP1 HW2 n1 n2 n3 n4 n5 n6 n7 n8 n9 nz m1 m3 m4 c0 c1 c2 c3 c4 d2 x0 z1 f1 HE1
 (refine wp_region_quiet_tail 12 (by kernel_rfl) (by kernel_rfl) ?_;(try simp only [List.take_succ_cons,List.take_zero,List.drop_succ_cons,List.drop_zero]);(repeat (first | ((with_reducible show wpQuiet _ _ _ _ ({ dst := _,op := Op.load 44 _,type := _,pos := _,after := _,guard := none } :: _) _);refine wpQuiet_load_mid rfl 44 _ rfl _ _ rfl _ _ (range_regrown (by exact rg)) Try.underlying44 rfl (by exact infoTsk) ?_;(try simp only [Act.put,aset,dZ,dS])) | go_big_quiet_step ((go_at_call 29;exact quiet_ext ((innermost_any _ _ _ _ _ _ _ _ _ _ _ _ _ gF 0 (N - 1) cF _ hpos2 (by omega)))))));refine wpQuiet_nil fun w1 h1 => ?_;obtain ⟨hc,hf,hs,he⟩ := eu (w := W2) h1 xt;clear h1;(try simp only [sA,sC,sD,sN] at hs))
 go_wp2
 go_end0
 have h3 := HPh.out.mono he
 obtain ⟨g5,c5',e5,_,_,_,h5⟩ := h3.set_reg (i := t.frames.length - 2) (f := y) (k := f.result.toNat) (by show (t.frames.take _)[_]? = _;rw [List.getElem?_take,if_pos (by have := HN.out;omega)];exact HY.out) (by rw [List.getElem?_take,if_pos (by have := HN.out;omega)];exact HU.out) HKL.out
 injection e5 with q1 q2 q3
 injection q1 with q1
 injection q1 with q1
 subst q1
 have h6 := h5 v HV.out
 rw [HK.out] at h6
 have h7 : OpPost X B R P3 w ({ t with frames := (t.frames.take (t.frames.length - 1)).set (t.frames.length - 2) { y with regs := y.regs.set f.result.toNat v } },goOn) n (.returned (.tuple #[])) _ := ⟨rfl,⟨_,_,_,_,_,by rw [HN.out,HK.out] at *;exact h6⟩,Kept.store (Kept.trans HK2.out (Kept.mono he HB2.out)) hB1 _ (h6.hotG (i := t.frames.length - 2) (by rw [List.getElem?_take,if_pos (by have := HN.out;omega)];exact HU.out) rfl)⟩
 exact h7
theorem num_in {x : Int} (h : numB x = true) : InR x := by
 have := inB_iff.1 h
 exact ⟨by omega,by omega⟩
theorem leave_any {p : Prg} {X : List Value} {B R : Nat} {P3 : List Value} {w : World} {t : Tsk} {n : Int} {VF VB : Value} {rs hs : List Value} {gs : List (List Value)} (h : RunSt X B R P3 w t n VF VB rs hs gs) (hr : RunOk p t) (hc : checkS p = 0) {f : Frm} (hf : topF t = some f) (v : Int) (hv : numB v = true) :
  Calls Try.prog 36 #[.pointer (some ⟨R,0,none⟩),int .i64 v] w (OpPost X B R P3 w (giveS t f v) n) := by
 have ht := hr.topOk hc hf
 have hm := hr.mask
 have hbl := hr.bl
 have hpos := hr.pos
 cases hcl : f.cleanup with
 | true => exact leave_clean h ht v hcl (by omega)
 | false =>
  by_cases h1 : t.frames.length = 1
  ·exact leave_one h ht v hcl h1
  obtain ⟨b,hb⟩ : ∃ b,lastB t = some b := ⟨_,List.getElem?_eq_getElem (show t.blocks.length - 1 < t.blocks.length by omega)⟩
  by_cases hd : b.depth = (t.frames.length : Int)
  ·exact leave_mis h ht v hcl (by omega) b hb (by omega) hd
  obtain ⟨y,hy⟩ : ∃ y,t.frames[t.frames.length - 2]? = some y := ⟨_,List.getElem?_eq_getElem (by omega)⟩
  obtain ⟨g,hg⟩ := hr.fr _ y hy
  have h2 := (fn_ok hc (fnAt_mem hg.fn)).reg
  have h3 := hg.regs
  unfold topF at hf
  exact leave_give h ht v (num_in hv) hcl (by omega) b hb (by omega) hd hy (by omega) (hr.res (t.frames.length - 2) f y (by rw [show t.frames.length - 2 + 1 = t.frames.length - 1 by omega];exact hf) hy hcl)
set_option maxRecDepth 4000 in
theorem op_return {p : Prg} {X : List Value} {B R : Nat} {P3 : List Value} {w : World} {t : Tsk} {n : Int} {VF VB : Value} {rs hs : List Value} {gs : List (List Value)} (h : RunSt X B R P3 w t n VF VB rs hs gs) (hr : RunOk p t) (hc : checkS p = 0) {f : Frm} (hf : topF t = some f) (x : Ins) (VX : Value) (ha : InF f x.a) (hv : numB (regS f x.a) = true) :
  Calls Try.prog 73 #[.pointer (some ⟨R,0,none⟩),.agg #[int .i64 x.op,int .i64 x.a,int .i64 x.b,int .i64 x.c,VX]] w (OpPost X B R P3 w (giveS t f (regS f x.a)) n) := by
 have hBW : B ≤ w.heap.size := by have := h.lt;omega
 have HS := Lib.hid (fun W (hE : Ext w W) => (leave_any (h.mono hE) hr hc hf (regS f x.a) hv).mono fun e w' hp => OpPost.base hp (Kept.mono hE hBW))
 have HG := Lib.hid (fun W (hE : Ext w W) => reg_is (h.mono hE) (hr.topOk hc hf) ha)
 clear h
 obtain ⟨y,hy⟩ : ∃ y,regS f x.a = y := ⟨_,rfl⟩
 rw [hy] at HG HS ⊢
 clear hy hv hr hf hc
 go_enter Try.func73,Try.ntmps73
 go_wp2_with (first | (go_at_call 56;refine (HG.out _ xt).mono ?_;rintro e w1 ⟨rfl,hb⟩;obtain ⟨hc,hf,hs,he⟩ := Ext.use (w := w) hb xt;clear hb;(try simp only [sA,sC,sD,sN] at hs)) | (go_at_call 36;refine (HS.out _ xt).mono ?_;rintro e w5 HP;rcases HP.ends with rfl | ⟨ch,rfl⟩))
 ·go_end0
  exact HP
 ·exact ⟨rfl,HP⟩
structure NumIn (t : Tsk) : Prop where
 fn : InR t.fn
 scope : InR t.scope
 prio : InR t.prio
 status : InR t.status
 wkind : InR t.wkind
 windex : InR t.windex
 level : InR t.level
 reason : InR t.reason
 result : InR t.result
theorem NumIn.same {t t' : Tsk} (h : NumIn t) (k : Same t t') : NumIn t' :=
 ⟨by rw [k.fn];exact h.fn,by rw [k.scope];exact h.scope,by rw [k.prio];exact h.prio,by rw [k.status];exact h.status,by rw [k.wkind];exact h.wkind,by rw [k.windex];exact h.windex,by rw [k.level];exact h.level,by rw [k.reason];exact h.reason,by rw [k.result];exact h.result⟩
theorem RTsk.nums {w : World} {t : Tsk} {V : Value} (h : RTsk w t V) : NumIn t := by
 obtain ⟨h1,h2,h3,h4,h5,h6,_,h8,h9,h10⟩ := h.inr
 exact ⟨h1,h2,h3,h4,h5,h6,h8,h9,h10⟩
theorem RunSt.rtsk {X : List Value} {B R : Nat} {P3 : List Value} {w : World} {t : Tsk} {n : Int} {VF VB : Value} {rs hs : List Value} {gs : List (List Value)} (h : RunSt X B R P3 w t n VF VB rs hs gs) (hn : NumIn t) (hw : RunWk t) : RTsk w t (.agg (tskL t VF VB).toArray) := by
 have := hw.len
 have := hw.bl
 obtain ⟨Af,cf,rfl,hcf,hF⟩ := h.fr.reads (by omega) (fun f hf => by have := hw.regs f hf;omega)
 obtain ⟨Ab,cb,rfl,hcb,hB⟩ := h.bl.reads (by omega) (fun b hb => by have := hw.hdl b hb;omega)
 exact rtsk_of ⟨hn.fn,hn.scope,hn.prio,hn.status,hn.wkind,hn.windex,⟨by have := hw.mask;omega,by have := hw.mask;omega⟩,hn.level,hn.reason,hn.result⟩ hF hcf hB hcb
set_option maxRecDepth 4000 in
theorem op_call_full {p : Prg} {X : List Value} {B R : Nat} {P3 : List Value} {w : World} {t : Tsk} {n : Int} {VF VB : Value} {rs hs : List Value} {gs : List (List Value)} (h : RunSt X B R P3 w t n VF VB rs hs gs) (hr : RunOk p t) (hc : checkS p = 0) (hN : NumIn t) {f : Frm} (hf : topF t = some f) (hcl : f.cleanup = false) (x : Ins) (VX : Value) (h8 : 8 ≤ plainN t) :
  Calls Try.prog 72 #[.pointer (some ⟨R,0,none⟩),.agg #[int .i64 x.op,int .i64 x.a,int .i64 x.b,int .i64 x.c,VX]] w (OpPost X B R P3 w (callS p t f x) n) := by
 have hR : callS p t f x = failT t 7 := by unfold callS;rw [if_pos h8]
 rw [hR]
 have hlR := h.lt.2
 have hBW : B ≤ w.heap.size := by have := h.lt;omega
 have hin := inHand_top hf
 rw [hcl] at hin
 have HH := Lib.hid (fun W (hE : Ext w W) => handles_any t _ W ((h.mono hE).rtsk hN (hr.wk hc)))
 rw [hin] at HH
 have R1 := h.task
 have m1 : w.cell? ⟨R,10,none⟩ = some VF := h.cellT (j := 7) rfl
 obtain ⟨gF,cF,v',rfl,hv,hpos,hgF,_,_⟩ := h.top hf
 have H := Lib.hid h
 have h8N : 8 ≤ t.frames.length := by unfold plainN at h8;rw [hin] at h8;simpa using h8
 have hle := hr.len
 unfold tskL at R1 HH
 clear h hR hr hc hf hcl h8 hin hN hv
 obtain ⟨N,hN⟩ : ∃ N,t.frames.length = N := ⟨_,rfl⟩
 rw [hN] at R1 m1 HH h8N hle
 clear hN
 have h8z : (8 : Int) ≤ (N : Int) := by omega
 go_enter Try.func72,Try.ntmps72
 go_wp2_with (first | ((first | (with_reducible refine jl 44 ?_) | (with_reducible refine il 44 ?_));refine ldm Try.underlying44 rfl rfl rfl (by exact rg) rfl (by exact infoTsk) ?_;dsimp only [dZ,dS]) | (go_at_call 17;refine (HH.out _ xt).mono ?_;rintro e w1 ⟨rfl,hb⟩;obtain ⟨hc,hf,hs,he⟩ := Ext.use (w := w) hb xt;clear hb;(try simp only [sA,sC,sD,sN] at hs)))
 exact ⟨rfl,rfl,⟨_,_,_,_,_,H.out.mono xt⟩,Kept.mono (show Ext w _ from xt) hBW⟩
end Go.Proofs.Ytcjjoabofecjmaa

