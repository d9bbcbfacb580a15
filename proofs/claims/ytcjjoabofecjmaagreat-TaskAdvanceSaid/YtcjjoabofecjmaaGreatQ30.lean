/- A part of the proof: The reference's comparisons of numbers, handlers, frames, bl. -/
import Derived.Test.YtcjjoabofecjmaaGreatQ05
set_option linter.unusedVariables false
set_option linter.unusedSimpArgs false
set_option maxHeartbeats 16000000
namespace Go.Proofs.YtcjjoabofecjmaaGreat
open Go.RowKit
open Go.Value (int)
attribute [local go_sem] Oper.semAt_some
theorem drop_eq_iff {α : Type} [DecidableEq α] {xs ys : List α} {k : Nat} {x y : α} (hx : xs[k]? = some x) (hy : ys[k]? = some y) : decide (xs.drop k = ys.drop k) = (decide (x = y) && decide (xs.drop (k + 1) = ys.drop (k + 1))) := by
 rw [drop_cons hx,drop_cons hy]
 simp [Bool.decide_and]
theorem SameInts_any (A B : Option Addr) (n m c d : Nat) (xs ys : List Int) (w : World) (hx : RSl 1 RInt w A n xs) (hy : RSl 1 RInt w B m ys) :
  Calls Tryz.prog 19 #[.slice A n c,.slice B m d] w fun e w' => e = .returned (.bool (decide (xs = ys))) ∧ Ext w w' := by
 have hle := hx.le
 have hle2 := hy.le
 have HX := Lib.hid hx.len
 have HY := Lib.hid hy.len
 by_cases hnm : n = m
 ·subst hnm
  go_enter Tryz.func19,Tryz.ntmps19
  go_wp2
  go_loopg [5] n (fun gg s5 wr => ∃ kk : Nat,kk ≤ n ∧ n - kk ≤ gg ∧ s5 = .int .i64 kk ∧ Hid (Ext w wr) ∧ Hid (decide (xs = ys) = decide (xs.drop kk = ys.drop kk)))
  case atStart => exact ⟨0,Nat.zero_le _,by omega,rfl,Ext.refl w,rfl⟩
  case round =>
   obtain ⟨kk,hkk,hg,rfl,HW,HI⟩ := hrel
   by_cases hlt : kk < n
   ·have hltz : (kk : Int) < (n : Int) := by omega
    obtain ⟨x,hx0⟩ : ∃ x,xs[kk]? = some x := ⟨_,List.getElem?_eq_getElem (by have := HX.out;omega)⟩
    obtain ⟨y,hy0⟩ : ∃ y,ys[kk]? = some y := ⟨_,List.getElem?_eq_getElem (by have := HY.out;omega)⟩
    obtain ⟨b,off,rfl,hlb,_,h0⟩ := (hx.mono RInt.stays HW.out).int hx0
    obtain ⟨b2,off2,rfl,hlb2,_,h2⟩ := (hy.mono RInt.stays HW.out).int hy0
    have HD := Lib.hid (drop_eq_iff hx0 hy0)
    have hWr := HW.out
    clear hx hy hx0 hy0
    go_wp2
    (refine wp_region_quiet_below (by kernel_rfl) (by kernel_rfl) ?_;(repeat (go_big_quiet_step (fail)));refine wpQuiet_nil fun w1 h1 => ?_;obtain ⟨hc,hf,hs,he⟩ := eu (w := w) h1 xt;clear h1;(try simp only [sA,sC,sD,sN] at hs))
    go_wp2
    ·go_ret
     exact ⟨ret_bool (by rw [HI.out,HD.out,decide_eq_false (by simpa using ‹(x != y) = true›)];rfl),he⟩
    ·go_roundg (n - (kk + 1))
     case measure => omega
     case rel => exact ⟨kk + 1,by omega,by omega,by go_num,he,by rw [Hid,HI.out,HD.out,decide_eq_true (by simpa using ‹(x != y) = false›)];rfl⟩
   ·have hltz : ¬ (kk : Int) < (n : Int) := by omega
    clear hx hy
    go_wp2
    go_ret
    exact ⟨ret_bool (by rw [HI.out,List.drop_eq_nil_of_le (by have := HX.out;omega),List.drop_eq_nil_of_le (by have := HY.out;omega)];rfl),HW.out⟩
 ·have hz : ((n : Int) != (m : Int)) = true := by simp;omega
  clear hx hy
  go_enter Tryz.func19,Tryz.ntmps19
  go_wp2
  go_ret
  exact ⟨ret_bool (by rw [decide_eq_false];intro h;exact hnm (by rw [HX.out,HY.out,h])),xt⟩
theorem extHdl (x y : Hdl) : x = y ↔ x.fn = y.fn ∧ x.args = y.args := by cases x;cases y;simp;try (intros;constructor <;> (rintro ⟨h1,h2,h3⟩;simp_all))
theorem SameHdl_any (A B : Option Addr) (n m c d : Nat) (xs ys : List Hdl) (w : World) (hx : RSl 2 RHdl w A n xs) (hy : RSl 2 RHdl w B m ys) :
  Calls Tryz.prog 27 #[.slice A n c,.slice B m d] w fun e w' => e = .returned (.bool (decide (xs = ys))) ∧ Ext w w' := by
 have hle := hx.le
 have hle2 := hy.le
 have HX := Lib.hid hx.len
 have HY := Lib.hid hy.len
 by_cases hnm : n = m
 ·subst hnm
  go_enter Tryz.func27,Tryz.ntmps27
  go_wp2
  go_loopg [5] n (fun gg s5 wr => ∃ kk : Nat,kk ≤ n ∧ n - kk ≤ gg ∧ s5 = .int .i64 kk ∧ Hid (Ext w wr) ∧ Hid (decide (xs = ys) = decide (xs.drop kk = ys.drop kk)))
  case atStart => exact ⟨0,Nat.zero_le _,by omega,rfl,Ext.refl w,rfl⟩
  case round =>
   obtain ⟨kk,hkk,hg,rfl,HW,HI⟩ := hrel
   by_cases hlt : kk < n
   ·have hltz : (kk : Int) < (n : Int) := by omega
    obtain ⟨x,hx0⟩ : ∃ x,xs[kk]? = some x := ⟨_,List.getElem?_eq_getElem (by have := HX.out;omega)⟩
    obtain ⟨y,hy0⟩ : ∃ y,ys[kk]? = some y := ⟨_,List.getElem?_eq_getElem (by have := HY.out;omega)⟩
    obtain ⟨b,off,Aa,na,ca,rfl,hlb,_,⟨hA,_⟩,c0,c1⟩ := (hx.mono RHdl.stays HW.out).hdl hx0
    obtain ⟨b2,off2,Ab,nb,cb,rfl,hlb2,_,⟨hB,_⟩,d0,d1⟩ := (hy.mono RHdl.stays HW.out).hdl hy0
    have HD := Lib.hid (drop_eq_iff hx0 hy0)
    have HA := Lib.hid hA
    have HB := Lib.hid hB
    have hWr := HW.out
    clear hx hy hx0 hy0 hA hB
    by_cases h0 : x.fn = y.fn
    rotate_left
    ·have e0 : (x.fn != y.fn) = true := by simpa using h0
     go_wp2
     (refine wp_region_quiet_below (by kernel_rfl) (by kernel_rfl) ?_;(repeat (go_big_quiet_step (fail)));refine wpQuiet_nil fun w1 h1 => ?_;obtain ⟨hc,hf,hs,he⟩ := eu (w := w) h1 xt;clear h1;(try simp only [sA,sC,sD,sN] at hs))
     go_wp2
     go_ret
     exact ⟨ret_bool (by rw [HI.out,HD.out,decide_eq_false (fun h => h0 (by rw [h]))];rfl),he⟩
    have e0 : (x.fn != y.fn) = false := by simpa using h0
    have HE : Hid (decide (x = y) = decide (x.args = y.args)) := by unfold Hid;rw [decide_eq_decide,extHdl];simp only [h0,true_and]
    clear h0
    obtain ⟨q,hq⟩ : ∃ q,decide (x.args = y.args) = q := ⟨_,rfl⟩
    rw [hq] at HE
    have HC : ∀ W,Ext wr W → Calls Tryz.prog 19 #[.slice Aa na ca,.slice Ab nb cb] W fun e w' => e = .returned (.bool q) ∧ Ext W w' := fun W hW => by rw [← hq];exact SameInts_any Aa Ab na nb ca cb x.args y.args W (HA.out.mono RInt.stays hW) (HB.out.mono RInt.stays hW)
    clear hq
    cases q with
    | false =>
     go_wp2
     (refine wp_region_quiet_below (by kernel_rfl) (by kernel_rfl) ?_;(repeat (go_big_quiet_step ((go_at_call 19;exact quiet_ext (HC _ xt)))));refine wpQuiet_nil fun w1 h1 => ?_;obtain ⟨hc,hf,hs,he⟩ := eu (w := w) h1 xt;clear h1;(try simp only [sA,sC,sD,sN] at hs))
     go_wp2
     go_ret
     exact ⟨ret_bool (by rw [HI.out,HD.out,HE.out];rfl),he⟩
    | true =>
     go_wp2
     (refine wp_region_quiet_below (by kernel_rfl) (by kernel_rfl) ?_;(repeat (go_big_quiet_step ((go_at_call 19;exact quiet_ext (HC _ xt)))));refine wpQuiet_nil fun w1 h1 => ?_;obtain ⟨hc,hf,hs,he⟩ := eu (w := w) h1 xt;clear h1;(try simp only [sA,sC,sD,sN] at hs))
     go_wp2
     go_roundg (n - (kk + 1))
     case measure => omega
     case rel => exact ⟨kk + 1,by omega,by omega,by go_num,he,by rw [Hid,HI.out,HD.out,HE.out];rfl⟩
   ·have hltz : ¬ (kk : Int) < (n : Int) := by omega
    clear hx hy
    go_wp2
    go_ret
    exact ⟨ret_bool (by rw [HI.out,List.drop_eq_nil_of_le (by have := HX.out;omega),List.drop_eq_nil_of_le (by have := HY.out;omega)];rfl),HW.out⟩
 ·have hz : ((n : Int) != (m : Int)) = true := by simp;omega
  clear hx hy
  go_enter Tryz.func27,Tryz.ntmps27
  go_wp2
  go_ret
  exact ⟨ret_bool (by rw [decide_eq_false];intro h;exact hnm (by rw [HX.out,HY.out,h])),xt⟩
theorem extFrm (x y : Frm) : x = y ↔ x.fn = y.fn ∧ x.pc = y.pc ∧ x.result = y.result ∧ x.cleanup = y.cleanup ∧ x.regs = y.regs := by cases x;cases y;simp;try (intros;constructor <;> (rintro ⟨h1,h2,h3⟩;simp_all))
theorem SameFrm_any (A B : Option Addr) (n m c d : Nat) (xs ys : List Frm) (w : World) (hx : RSl 5 RFrm w A n xs) (hy : RSl 5 RFrm w B m ys) :
  Calls Tryz.prog 63 #[.slice A n c,.slice B m d] w fun e w' => e = .returned (.bool (decide (xs = ys))) ∧ Ext w w' := by
 have hle := hx.le
 have hle2 := hy.le
 have HX := Lib.hid hx.len
 have HY := Lib.hid hy.len
 by_cases hnm : n = m
 ·subst hnm
  go_enter Tryz.func63,Tryz.ntmps63
  go_wp2
  go_loopg [5] n (fun gg s5 wr => ∃ kk : Nat,kk ≤ n ∧ n - kk ≤ gg ∧ s5 = .int .i64 kk ∧ Hid (Ext w wr) ∧ Hid (decide (xs = ys) = decide (xs.drop kk = ys.drop kk)))
  case atStart => exact ⟨0,Nat.zero_le _,by omega,rfl,Ext.refl w,rfl⟩
  case round =>
   obtain ⟨kk,hkk,hg,rfl,HW,HI⟩ := hrel
   by_cases hlt : kk < n
   ·have hltz : (kk : Int) < (n : Int) := by omega
    obtain ⟨x,hx0⟩ : ∃ x,xs[kk]? = some x := ⟨_,List.getElem?_eq_getElem (by have := HX.out;omega)⟩
    obtain ⟨y,hy0⟩ : ∃ y,ys[kk]? = some y := ⟨_,List.getElem?_eq_getElem (by have := HY.out;omega)⟩
    obtain ⟨b,off,Aa,na,ca,rfl,hlb,_,_,_,⟨hA,_⟩,c0,c1,c2,c3,c4⟩ := (hx.mono RFrm.stays HW.out).frm hx0
    obtain ⟨b2,off2,Ab,nb,cb,rfl,hlb2,_,_,_,⟨hB,_⟩,d0,d1,d2,d3,d4⟩ := (hy.mono RFrm.stays HW.out).frm hy0
    have HD := Lib.hid (drop_eq_iff hx0 hy0)
    have HA := Lib.hid hA
    have HB := Lib.hid hB
    have hWr := HW.out
    clear hx hy hx0 hy0 hA hB
    by_cases h0 : x.fn = y.fn
    rotate_left
    ·have e0 : (x.fn != y.fn) = true := by simpa using h0
     go_wp2
     (refine wp_region_quiet_below (by kernel_rfl) (by kernel_rfl) ?_;(repeat (go_big_quiet_step (fail)));refine wpQuiet_nil fun w1 h1 => ?_;obtain ⟨hc,hf,hs,he⟩ := eu (w := w) h1 xt;clear h1;(try simp only [sA,sC,sD,sN] at hs))
     go_wp2
     go_ret
     exact ⟨ret_bool (by rw [HI.out,HD.out,decide_eq_false (fun h => h0 (by rw [h]))];rfl),he⟩
    have e0 : (x.fn != y.fn) = false := by simpa using h0
    by_cases h1 : x.pc = y.pc
    rotate_left
    ·have e1 : (x.pc != y.pc) = true := by simpa using h1
     go_wp2
     (refine wp_region_quiet_below (by kernel_rfl) (by kernel_rfl) ?_;(repeat (go_big_quiet_step (fail)));refine wpQuiet_nil fun w1 h1 => ?_;obtain ⟨hc,hf,hs,he⟩ := eu (w := w) h1 xt;clear h1;(try simp only [sA,sC,sD,sN] at hs))
     go_wp2
     go_ret
     exact ⟨ret_bool (by rw [HI.out,HD.out,decide_eq_false (fun h => h1 (by rw [h]))];rfl),he⟩
    have e1 : (x.pc != y.pc) = false := by simpa using h1
    by_cases h2 : x.result = y.result
    rotate_left
    ·have e2 : (x.result != y.result) = true := by simpa using h2
     go_wp2
     (refine wp_region_quiet_below (by kernel_rfl) (by kernel_rfl) ?_;(repeat (go_big_quiet_step (fail)));refine wpQuiet_nil fun w1 h1 => ?_;obtain ⟨hc,hf,hs,he⟩ := eu (w := w) h1 xt;clear h1;(try simp only [sA,sC,sD,sN] at hs))
     go_wp2
     go_ret
     exact ⟨ret_bool (by rw [HI.out,HD.out,decide_eq_false (fun h => h2 (by rw [h]))];rfl),he⟩
    have e2 : (x.result != y.result) = false := by simpa using h2
    by_cases h3 : x.cleanup = y.cleanup
    rotate_left
    ·have e3 : (x.cleanup == y.cleanup) = false := by simpa using h3
     go_wp2
     (refine wp_region_quiet_below (by kernel_rfl) (by kernel_rfl) ?_;(repeat (go_big_quiet_step (fail)));refine wpQuiet_nil fun w1 h1 => ?_;obtain ⟨hc,hf,hs,he⟩ := eu (w := w) h1 xt;clear h1;(try simp only [sA,sC,sD,sN] at hs))
     go_wp2
     go_ret
     exact ⟨ret_bool (by rw [HI.out,HD.out,decide_eq_false (fun h => h3 (by rw [h]))];rfl),he⟩
    have e3 : (x.cleanup == y.cleanup) = true := by simpa using h3
    have HE : Hid (decide (x = y) = decide (x.regs = y.regs)) := by unfold Hid;rw [decide_eq_decide,extFrm];simp only [h0,h1,h2,h3,true_and]
    clear h0 h1 h2 h3
    obtain ⟨q,hq⟩ : ∃ q,decide (x.regs = y.regs) = q := ⟨_,rfl⟩
    rw [hq] at HE
    have HC : ∀ W,Ext wr W → Calls Tryz.prog 19 #[.slice Aa na ca,.slice Ab nb cb] W fun e w' => e = .returned (.bool q) ∧ Ext W w' := fun W hW => by rw [← hq];exact SameInts_any Aa Ab na nb ca cb x.regs y.regs W (HA.out.mono RInt.stays hW) (HB.out.mono RInt.stays hW)
    clear hq
    cases q with
    | false =>
     go_wp2
     (refine wp_region_quiet_below (by kernel_rfl) (by kernel_rfl) ?_;(repeat (go_big_quiet_step ((go_at_call 19;exact quiet_ext (HC _ xt)))));refine wpQuiet_nil fun w1 h1 => ?_;obtain ⟨hc,hf,hs,he⟩ := eu (w := w) h1 xt;clear h1;(try simp only [sA,sC,sD,sN] at hs))
     go_wp2
     go_ret
     exact ⟨ret_bool (by rw [HI.out,HD.out,HE.out];rfl),he⟩
    | true =>
     go_wp2
     (refine wp_region_quiet_below (by kernel_rfl) (by kernel_rfl) ?_;(repeat (go_big_quiet_step ((go_at_call 19;exact quiet_ext (HC _ xt)))));refine wpQuiet_nil fun w1 h1 => ?_;obtain ⟨hc,hf,hs,he⟩ := eu (w := w) h1 xt;clear h1;(try simp only [sA,sC,sD,sN] at hs))
     go_wp2
     go_roundg (n - (kk + 1))
     case measure => omega
     case rel => exact ⟨kk + 1,by omega,by omega,by go_num,he,by rw [Hid,HI.out,HD.out,HE.out];rfl⟩
   ·have hltz : ¬ (kk : Int) < (n : Int) := by omega
    clear hx hy
    go_wp2
    go_ret
    exact ⟨ret_bool (by rw [HI.out,List.drop_eq_nil_of_le (by have := HX.out;omega),List.drop_eq_nil_of_le (by have := HY.out;omega)];rfl),HW.out⟩
 ·have hz : ((n : Int) != (m : Int)) = true := by simp;omega
  clear hx hy
  go_enter Tryz.func63,Tryz.ntmps63
  go_wp2
  go_ret
  exact ⟨ret_bool (by rw [decide_eq_false];intro h;exact hnm (by rw [HX.out,HY.out,h])),xt⟩
theorem extBlk (x y : Blk) : x = y ↔ x.scope = y.scope ∧ x.depth = y.depth ∧ x.exit = y.exit ∧ x.mask = y.mask ∧ x.handlers = y.handlers := by cases x;cases y;simp;try (intros;constructor <;> (rintro ⟨h1,h2,h3⟩;simp_all))
theorem SameBlk_any (A B : Option Addr) (n m c d : Nat) (xs ys : List Blk) (w : World) (hx : RSl 5 RBlk w A n xs) (hy : RSl 5 RBlk w B m ys) :
  Calls Tryz.prog 64 #[.slice A n c,.slice B m d] w fun e w' => e = .returned (.bool (decide (xs = ys))) ∧ Ext w w' := by
 have hle := hx.le
 have hle2 := hy.le
 have HX := Lib.hid hx.len
 have HY := Lib.hid hy.len
 by_cases hnm : n = m
 ·subst hnm
  go_enter Tryz.func64,Tryz.ntmps64
  go_wp2
  go_loopg [5] n (fun gg s5 wr => ∃ kk : Nat,kk ≤ n ∧ n - kk ≤ gg ∧ s5 = .int .i64 kk ∧ Hid (Ext w wr) ∧ Hid (decide (xs = ys) = decide (xs.drop kk = ys.drop kk)))
  case atStart => exact ⟨0,Nat.zero_le _,by omega,rfl,Ext.refl w,rfl⟩
  case round =>
   obtain ⟨kk,hkk,hg,rfl,HW,HI⟩ := hrel
   by_cases hlt : kk < n
   ·have hltz : (kk : Int) < (n : Int) := by omega
    obtain ⟨x,hx0⟩ : ∃ x,xs[kk]? = some x := ⟨_,List.getElem?_eq_getElem (by have := HX.out;omega)⟩
    obtain ⟨y,hy0⟩ : ∃ y,ys[kk]? = some y := ⟨_,List.getElem?_eq_getElem (by have := HY.out;omega)⟩
    obtain ⟨b,off,Aa,na,ca,rfl,hlb,_,_,_,_,⟨hA,_⟩,c0,c1,c2,c3,c4⟩ := (hx.mono RBlk.stays HW.out).blk hx0
    obtain ⟨b2,off2,Ab,nb,cb,rfl,hlb2,_,_,_,_,⟨hB,_⟩,d0,d1,d2,d3,d4⟩ := (hy.mono RBlk.stays HW.out).blk hy0
    have HD := Lib.hid (drop_eq_iff hx0 hy0)
    have HA := Lib.hid hA
    have HB := Lib.hid hB
    have hWr := HW.out
    clear hx hy hx0 hy0 hA hB
    by_cases h0 : x.scope = y.scope
    rotate_left
    ·have e0 : (x.scope != y.scope) = true := by simpa using h0
     go_wp2
     (refine wp_region_quiet_below (by kernel_rfl) (by kernel_rfl) ?_;(repeat (go_big_quiet_step (fail)));refine wpQuiet_nil fun w1 h1 => ?_;obtain ⟨hc,hf,hs,he⟩ := eu (w := w) h1 xt;clear h1;(try simp only [sA,sC,sD,sN] at hs))
     go_wp2
     go_ret
     exact ⟨ret_bool (by rw [HI.out,HD.out,decide_eq_false (fun h => h0 (by rw [h]))];rfl),he⟩
    have e0 : (x.scope != y.scope) = false := by simpa using h0
    by_cases h1 : x.depth = y.depth
    rotate_left
    ·have e1 : (x.depth != y.depth) = true := by simpa using h1
     go_wp2
     (refine wp_region_quiet_below (by kernel_rfl) (by kernel_rfl) ?_;(repeat (go_big_quiet_step (fail)));refine wpQuiet_nil fun w1 h1 => ?_;obtain ⟨hc,hf,hs,he⟩ := eu (w := w) h1 xt;clear h1;(try simp only [sA,sC,sD,sN] at hs))
     go_wp2
     go_ret
     exact ⟨ret_bool (by rw [HI.out,HD.out,decide_eq_false (fun h => h1 (by rw [h]))];rfl),he⟩
    have e1 : (x.depth != y.depth) = false := by simpa using h1
    by_cases h2 : x.exit = y.exit
    rotate_left
    ·have e2 : (x.exit != y.exit) = true := by simpa using h2
     go_wp2
     (refine wp_region_quiet_below (by kernel_rfl) (by kernel_rfl) ?_;(repeat (go_big_quiet_step (fail)));refine wpQuiet_nil fun w1 h1 => ?_;obtain ⟨hc,hf,hs,he⟩ := eu (w := w) h1 xt;clear h1;(try simp only [sA,sC,sD,sN] at hs))
     go_wp2
     go_ret
     exact ⟨ret_bool (by rw [HI.out,HD.out,decide_eq_false (fun h => h2 (by rw [h]))];rfl),he⟩
    have e2 : (x.exit != y.exit) = false := by simpa using h2
    by_cases h3 : x.mask = y.mask
    rotate_left
    ·have e3 : (x.mask != y.mask) = true := by simpa using h3
     go_wp2
     (refine wp_region_quiet_below (by kernel_rfl) (by kernel_rfl) ?_;(repeat (go_big_quiet_step (fail)));refine wpQuiet_nil fun w1 h1 => ?_;obtain ⟨hc,hf,hs,he⟩ := eu (w := w) h1 xt;clear h1;(try simp only [sA,sC,sD,sN] at hs))
     go_wp2
     go_ret
     exact ⟨ret_bool (by rw [HI.out,HD.out,decide_eq_false (fun h => h3 (by rw [h]))];rfl),he⟩
    have e3 : (x.mask != y.mask) = false := by simpa using h3
    have HE : Hid (decide (x = y) = decide (x.handlers = y.handlers)) := by unfold Hid;rw [decide_eq_decide,extBlk];simp only [h0,h1,h2,h3,true_and]
    clear h0 h1 h2 h3
    obtain ⟨q,hq⟩ : ∃ q,decide (x.handlers = y.handlers) = q := ⟨_,rfl⟩
    rw [hq] at HE
    have HC : ∀ W,Ext wr W → Calls Tryz.prog 27 #[.slice Aa na ca,.slice Ab nb cb] W fun e w' => e = .returned (.bool q) ∧ Ext W w' := fun W hW => by rw [← hq];exact SameHdl_any Aa Ab na nb ca cb x.handlers y.handlers W (HA.out.mono RHdl.stays hW) (HB.out.mono RHdl.stays hW)
    clear hq
    cases q with
    | false =>
     go_wp2
     (refine wp_region_quiet_below (by kernel_rfl) (by kernel_rfl) ?_;(repeat (go_big_quiet_step ((go_at_call 27;exact quiet_ext (HC _ xt)))));refine wpQuiet_nil fun w1 h1 => ?_;obtain ⟨hc,hf,hs,he⟩ := eu (w := w) h1 xt;clear h1;(try simp only [sA,sC,sD,sN] at hs))
     go_wp2
     go_ret
     exact ⟨ret_bool (by rw [HI.out,HD.out,HE.out];rfl),he⟩
    | true =>
     go_wp2
     (refine wp_region_quiet_below (by kernel_rfl) (by kernel_rfl) ?_;(repeat (go_big_quiet_step ((go_at_call 27;exact quiet_ext (HC _ xt)))));refine wpQuiet_nil fun w1 h1 => ?_;obtain ⟨hc,hf,hs,he⟩ := eu (w := w) h1 xt;clear h1;(try simp only [sA,sC,sD,sN] at hs))
     go_wp2
     go_roundg (n - (kk + 1))
     case measure => omega
     case rel => exact ⟨kk + 1,by omega,by omega,by go_num,he,by rw [Hid,HI.out,HD.out,HE.out];rfl⟩
   ·have hltz : ¬ (kk : Int) < (n : Int) := by omega
    clear hx hy
    go_wp2
    go_ret
    exact ⟨ret_bool (by rw [HI.out,List.drop_eq_nil_of_le (by have := HX.out;omega),List.drop_eq_nil_of_le (by have := HY.out;omega)];rfl),HW.out⟩
 ·have hz : ((n : Int) != (m : Int)) = true := by simp;omega
  clear hx hy
  go_enter Tryz.func64,Tryz.ntmps64
  go_wp2
  go_ret
  exact ⟨ret_bool (by rw [decide_eq_false];intro h;exact hnm (by rw [HX.out,HY.out,h])),xt⟩
end Go.Proofs.YtcjjoabofecjmaaGreat

