/- A part of the proof: The reference's comparisons of numbers, handlers, frames, bl. -/
import Derived.Test.YtcjjoabofecjmaaQ10
set_option linter.unusedVariables false
set_option linter.unusedSimpArgs false
set_option maxHeartbeats 16000000
namespace Go.Proofs.Ytcjjoabofecjmaa
open Go.RowKit
open Go.Value (int)
attribute [local go_sem] Oper.semAt_some
theorem drop_eq_iff {α : Type} [DecidableEq α] {xs ys : List α} {k : Nat} {x y : α} (hx : xs[k]? = some x) (hy : ys[k]? = some y) : decide (xs.drop k = ys.drop k) = (decide (x = y) && decide (xs.drop (k + 1) = ys.drop (k + 1))) := by
 rw [drop_cons hx,drop_cons hy]
 simp [Bool.decide_and]
theorem SameInts_any (A B : Option Addr) (n m c d : Nat) (xs ys : List Int) (w : World) (hx : RSl 1 RInt w A n xs) (hy : RSl 1 RInt w B m ys) :
  Calls Try.prog 10 #[.slice A n c,.slice B m d] w fun e w' => e = .returned (.bool (decide (xs = ys))) ∧ Ext w w' := by
 have hle := hx.le
 have hle2 := hy.le
 have HX := Lib.hid hx.len
 have HY := Lib.hid hy.len
 by_cases hnm : n = m
 ·subst hnm
  go_enter Try.func10,Try.ntmps10
  go_wp2
  go_loopg [5] n (fun gg s5 wr => ∃ kk : Nat,kk ≤ n ∧ n - kk ≤ gg ∧ s5 = .int .i64 kk ∧ Hid (Ext w wr) ∧ Hid (decide (xs = ys) = decide (xs.drop kk = ys.drop kk)))
  case atStart => exact ⟨0,Nat.zero_le _,by omega,rfl,Ext.refl w,rfl⟩
  case round =>
   obtain ⟨kk,hkk,hg,rfl,HW,HI⟩ := hrel
   by_cases hlt : kk < n
   ·have hltz : (kk : Int) < (n : Int) := by omega
    obtain ⟨x,hx0⟩ : ∃ x,xs[kk]? = some x := ⟨_,List.getElem?_eq_getElem (by have := HX.out;omega)⟩
    obtain ⟨y,hy0⟩ : ∃ y,ys[kk]? = some y := ⟨_,List.getElem?_eq_getElem (by have := HY.out;omega)⟩
    obtain ⟨b,off,rfl,hlb,_,h0⟩ := (hx.mono RInt.stays HW.out).int hx0
    obtain ⟨b2,off2,rfl,hlb2,_,h2⟩ := (hy.mono RInt.stays HW.out).int hy0
    have HD := Lib.hid (drop_eq_iff hx0 hy0)
    have hWr := HW.out
    clear hx hy hx0 hy0
    go_wp2
    (refine wp_region_quiet_below (by kernel_rfl) (by kernel_rfl) ?_;(repeat (go_big_quiet_step (fail)));refine wpQuiet_nil fun w1 h1 => ?_;obtain ⟨hc,hf,hs,he⟩ := eu (w := w) h1 xt;clear h1;(try simp only [sA,sC,sD,sN] at hs))
    go_wp2
    ·go_ret
     exact ⟨ret_bool (by rw [HI.out,HD.out,decide_eq_false (by simpa using ‹(x != y) = true›)];rfl),he⟩
    ·go_roundg (n - (kk + 1))
     case measure => omega
     case rel => exact ⟨kk + 1,by omega,by omega,by go_num,he,by rw [Hid,HI.out,HD.out,decide_eq_true (by simpa using ‹(x != y) = false›)];rfl⟩
   ·have hltz : ¬ (kk : Int) < (n : Int) := by omega
    clear hx hy
    go_wp2
    go_ret
    exact ⟨ret_bool (by rw [HI.out,List.drop_eq_nil_of_le (by have := HX.out;omega),List.drop_eq_nil_of_le (by have := HY.out;omega)];rfl),HW.out⟩
 ·have hz : ((n : Int) != (m : Int)) = true := by simp;omega
  clear hx hy
  go_enter Try.func10,Try.ntmps10
  go_wp2
  go_ret
  exact ⟨ret_bool (by rw [decide_eq_false];intro h;exact hnm (by rw [HX.out,HY.out,h])),xt⟩
end Go.Proofs.Ytcjjoabofecjmaa

