/- A part of the proof: The reference's comparisons of numbers, handlers, frames, blocks and tasks; awake of nurserylaw28 answers true; TaskHandlers answers true where no handler begins; Handle of package task. -/
import Derived.Test.YtcjjoabofecjmaaGreatQ02
import Derived.Test.YtcjjoabofecjmaaGreatQ16
import Derived.Test.YtcjjoabofecjmaaGreatQ01
import Derived.Test.YtcjjoabofecjmaaGreatQ04
import Derived.Test.YtcjjoabofecjmaaGreatQ13
import Derived.Test.YtcjjoabofecjmaaGreatQ08
import Derived.Test.YtcjjoabofecjmaaGreatQ15
set_option linter.unusedVariables false
set_option linter.unusedSimpArgs false
namespace Go.Proofs.YtcjjoabofecjmaaGreat
open Go.RowKit
attribute [local go_sem] Oper.semAt_some
theorem drop_eq_iff {α : Type} [DecidableEq α] {xs ys : List α} {k : Nat} {x y : α} (hx : xs[k]? = some x) (hy : ys[k]? = some y) : decide (xs.drop k = ys.drop k) = (decide (x = y) && decide (xs.drop (k + 1) = ys.drop (k + 1))) := by
  rw [drop_cons hx, drop_cons hy]
  simp [Bool.decide_and]
set_option maxHeartbeats 1000000 in
theorem SameInts_any (A B : Option Addr) (n m c d : Nat) (xs ys : List Int) (w : World) (hx : RSl 1 RInt w A n xs) (hy : RSl 1 RInt w B m ys) :
    Calls Tryz.prog 19 #[.slice A n c, .slice B m d] w fun e w' => e = .returned (.bool (decide (xs = ys))) ∧ Ext w w' := by
  have hle := hx.le
  have hle2 := hy.le
  have HX := Lib.hid hx.len
  have HY := Lib.hid hy.len
  by_cases hnm : n = m
  · subst hnm
    go_enter Tryz.func19, Tryz.ntmps19
    go_wp2
    go_loopg [5] n (fun gg s5 wr => ∃ kk : Nat, kk ≤ n ∧ n - kk ≤ gg ∧ s5 = .int .i64 kk ∧ Hid (Ext w wr) ∧ Hid (decide (xs = ys) = decide (xs.drop kk = ys.drop kk)))
    case atStart => exact ⟨0, Nat.zero_le _, by omega, rfl, Ext.refl w, rfl⟩
    case round =>
      obtain ⟨kk, hkk, hg, rfl, HW, HI⟩ := hrel
      by_cases hlt : kk < n
      · have hltz : (kk : Int) < (n : Int) := by omega
        obtain ⟨x, hx0⟩ : ∃ x, xs[kk]? = some x := ⟨_, List.getElem?_eq_getElem (by have := HX.out; omega)⟩
        obtain ⟨y, hy0⟩ : ∃ y, ys[kk]? = some y := ⟨_, List.getElem?_eq_getElem (by have := HY.out; omega)⟩
        obtain ⟨b, off, rfl, hlb, _, h0⟩ := (hx.mono RInt.stays HW.out).int hx0
        obtain ⟨b2, off2, rfl, hlb2, _, h2⟩ := (hy.mono RInt.stays HW.out).int hy0
        have HD := Lib.hid (drop_eq_iff hx0 hy0)
        have hWr := HW.out
        clear hx hy hx0 hy0
        go_wp2
        (refine wp_region_quiet_below (by kernel_rfl) (by kernel_rfl) ?_; (repeat (go_big_quiet_step (fail))); refine wpQuiet_nil ?_; intro w1 hw1; obtain ⟨hc, hf, hs, he⟩ := Ext.use (w := w) (ext_of_regrown hw1) xt; clear hw1; (try simp only [sA, sC, sD, sN] at hs))
        go_wp2
        · go_ret
          exact ⟨ret_bool (by rw [HI.out, HD.out, decide_eq_false (by simpa using ‹(x != y) = true›)]; rfl), he⟩
        · go_roundg (n - (kk + 1))
          case measure => omega
          case rel => exact ⟨kk + 1, by omega, by omega, by go_num, he, by rw [Hid, HI.out, HD.out, decide_eq_true (by simpa using ‹(x != y) = false›)]; rfl⟩
      · have hltz : ¬ (kk : Int) < (n : Int) := by omega
        clear hx hy
        go_wp2
        go_ret
        exact ⟨ret_bool (by rw [HI.out, List.drop_eq_nil_of_le (by have := HX.out; omega), List.drop_eq_nil_of_le (by have := HY.out; omega)]; rfl), HW.out⟩
  · have hz : ((n : Int) != (m : Int)) = true := by simp; omega
    clear hx hy
    go_enter Tryz.func19, Tryz.ntmps19
    go_wp2
    go_ret
    exact ⟨ret_bool (by rw [decide_eq_false]; intro h; exact hnm (by rw [HX.out, HY.out, h])), xt⟩
theorem extHdl (x y : Hdl) : x = y ↔ x.fn = y.fn ∧ x.args = y.args := by cases x; cases y; simp; try (intros; constructor <;> (rintro ⟨h1, h2, h3⟩; simp_all))
set_option maxHeartbeats 4000000 in
theorem SameHdl_any (A B : Option Addr) (n m c d : Nat) (xs ys : List Hdl) (w : World) (hx : RSl 2 RHdl w A n xs) (hy : RSl 2 RHdl w B m ys) :
    Calls Tryz.prog 27 #[.slice A n c, .slice B m d] w fun e w' => e = .returned (.bool (decide (xs = ys))) ∧ Ext w w' := by
  have hle := hx.le
  have hle2 := hy.le
  have HX := Lib.hid hx.len
  have HY := Lib.hid hy.len
  by_cases hnm : n = m
  · subst hnm
    go_enter Tryz.func27, Tryz.ntmps27
    go_wp2
    go_loopg [5] n (fun gg s5 wr => ∃ kk : Nat, kk ≤ n ∧ n - kk ≤ gg ∧ s5 = .int .i64 kk ∧ Hid (Ext w wr) ∧ Hid (decide (xs = ys) = decide (xs.drop kk = ys.drop kk)))
    case atStart => exact ⟨0, Nat.zero_le _, by omega, rfl, Ext.refl w, rfl⟩
    case round =>
      obtain ⟨kk, hkk, hg, rfl, HW, HI⟩ := hrel
      by_cases hlt : kk < n
      · have hltz : (kk : Int) < (n : Int) := by omega
        obtain ⟨x, hx0⟩ : ∃ x, xs[kk]? = some x := ⟨_, List.getElem?_eq_getElem (by have := HX.out; omega)⟩
        obtain ⟨y, hy0⟩ : ∃ y, ys[kk]? = some y := ⟨_, List.getElem?_eq_getElem (by have := HY.out; omega)⟩
        obtain ⟨b, off, Aa, na, ca, rfl, hlb, _, ⟨hA, _⟩, c0, c1⟩ := (hx.mono RHdl.stays HW.out).hdl hx0
        obtain ⟨b2, off2, Ab, nb, cb, rfl, hlb2, _, ⟨hB, _⟩, d0, d1⟩ := (hy.mono RHdl.stays HW.out).hdl hy0
        have HD := Lib.hid (drop_eq_iff hx0 hy0)
        have HA := Lib.hid hA
        have HB := Lib.hid hB
        have hWr := HW.out
        clear hx hy hx0 hy0 hA hB
        by_cases h0 : x.fn = y.fn
        rotate_left
        · have e0 : (x.fn != y.fn) = true := by simpa using h0
          go_wp2
          (refine wp_region_quiet_below (by kernel_rfl) (by kernel_rfl) ?_; (repeat (go_big_quiet_step (fail))); refine wpQuiet_nil ?_; intro w1 hw1; obtain ⟨hc, hf, hs, he⟩ := Ext.use (w := w) (ext_of_regrown hw1) xt; clear hw1; (try simp only [sA, sC, sD, sN] at hs))
          go_wp2
          go_ret
          exact ⟨ret_bool (by rw [HI.out, HD.out, decide_eq_false (fun h => h0 (by rw [h]))]; rfl), he⟩
        have e0 : (x.fn != y.fn) = false := by simpa using h0
        have HE : Hid (decide (x = y) = decide (x.args = y.args)) := by unfold Hid; rw [decide_eq_decide, extHdl]; simp only [h0, true_and]
        clear h0
        obtain ⟨q, hq⟩ : ∃ q, decide (x.args = y.args) = q := ⟨_, rfl⟩
        rw [hq] at HE
        have HC : ∀ W, Ext wr W → Calls Tryz.prog 19 #[.slice Aa na ca, .slice Ab nb cb] W fun e w' => e = .returned (.bool q) ∧ Ext W w' := fun W hW => by rw [← hq]; exact SameInts_any Aa Ab na nb ca cb x.args y.args W (HA.out.mono RInt.stays hW) (HB.out.mono RInt.stays hW)
        clear hq
        cases q with
        | false =>
          go_wp2
          (refine wp_region_quiet_below (by kernel_rfl) (by kernel_rfl) ?_; (repeat (go_big_quiet_step ((go_at_call 19; exact quiet_ext (HC _ xt))))); refine wpQuiet_nil ?_; intro w1 hw1; obtain ⟨hc, hf, hs, he⟩ := Ext.use (w := w) (ext_of_regrown hw1) xt; clear hw1; (try simp only [sA, sC, sD, sN] at hs))
          go_wp2
          go_ret
          exact ⟨ret_bool (by rw [HI.out, HD.out, HE.out]; rfl), he⟩
        | true =>
          go_wp2
          (refine wp_region_quiet_below (by kernel_rfl) (by kernel_rfl) ?_; (repeat (go_big_quiet_step ((go_at_call 19; exact quiet_ext (HC _ xt))))); refine wpQuiet_nil ?_; intro w1 hw1; obtain ⟨hc, hf, hs, he⟩ := Ext.use (w := w) (ext_of_regrown hw1) xt; clear hw1; (try simp only [sA, sC, sD, sN] at hs))
          go_wp2
          go_roundg (n - (kk + 1))
          case measure => omega
          case rel => exact ⟨kk + 1, by omega, by omega, by go_num, he, by rw [Hid, HI.out, HD.out, HE.out]; rfl⟩
      · have hltz : ¬ (kk : Int) < (n : Int) := by omega
        clear hx hy
        go_wp2
        go_ret
        exact ⟨ret_bool (by rw [HI.out, List.drop_eq_nil_of_le (by have := HX.out; omega), List.drop_eq_nil_of_le (by have := HY.out; omega)]; rfl), HW.out⟩
  · have hz : ((n : Int) != (m : Int)) = true := by simp; omega
    clear hx hy
    go_enter Tryz.func27, Tryz.ntmps27
    go_wp2
    go_ret
    exact ⟨ret_bool (by rw [decide_eq_false]; intro h; exact hnm (by rw [HX.out, HY.out, h])), xt⟩
theorem extFrm (x y : Frm) : x = y ↔ x.fn = y.fn ∧ x.pc = y.pc ∧ x.result = y.result ∧ x.cleanup = y.cleanup ∧ x.regs = y.regs := by cases x; cases y; simp; try (intros; constructor <;> (rintro ⟨h1, h2, h3⟩; simp_all))
set_option maxHeartbeats 4000000 in
theorem SameFrm_any (A B : Option Addr) (n m c d : Nat) (xs ys : List Frm) (w : World) (hx : RSl 5 RFrm w A n xs) (hy : RSl 5 RFrm w B m ys) :
    Calls Tryz.prog 63 #[.slice A n c, .slice B m d] w fun e w' => e = .returned (.bool (decide (xs = ys))) ∧ Ext w w' := by
  have hle := hx.le
  have hle2 := hy.le
  have HX := Lib.hid hx.len
  have HY := Lib.hid hy.len
  by_cases hnm : n = m
  · subst hnm
    go_enter Tryz.func63, Tryz.ntmps63
    go_wp2
    go_loopg [5] n (fun gg s5 wr => ∃ kk : Nat, kk ≤ n ∧ n - kk ≤ gg ∧ s5 = .int .i64 kk ∧ Hid (Ext w wr) ∧ Hid (decide (xs = ys) = decide (xs.drop kk = ys.drop kk)))
    case atStart => exact ⟨0, Nat.zero_le _, by omega, rfl, Ext.refl w, rfl⟩
    case round =>
      obtain ⟨kk, hkk, hg, rfl, HW, HI⟩ := hrel
      by_cases hlt : kk < n
      · have hltz : (kk : Int) < (n : Int) := by omega
        obtain ⟨x, hx0⟩ : ∃ x, xs[kk]? = some x := ⟨_, List.getElem?_eq_getElem (by have := HX.out; omega)⟩
        obtain ⟨y, hy0⟩ : ∃ y, ys[kk]? = some y := ⟨_, List.getElem?_eq_getElem (by have := HY.out; omega)⟩
        obtain ⟨b, off, Aa, na, ca, rfl, hlb, _, _, _, ⟨hA, _⟩, c0, c1, c2, c3, c4⟩ := (hx.mono RFrm.stays HW.out).frm hx0
        obtain ⟨b2, off2, Ab, nb, cb, rfl, hlb2, _, _, _, ⟨hB, _⟩, d0, d1, d2, d3, d4⟩ := (hy.mono RFrm.stays HW.out).frm hy0
        have HD := Lib.hid (drop_eq_iff hx0 hy0)
        have HA := Lib.hid hA
        have HB := Lib.hid hB
        have hWr := HW.out
        clear hx hy hx0 hy0 hA hB
        by_cases h0 : x.fn = y.fn
        rotate_left
        · have e0 : (x.fn != y.fn) = true := by simpa using h0
          go_wp2
          (refine wp_region_quiet_below (by kernel_rfl) (by kernel_rfl) ?_; (repeat (go_big_quiet_step (fail))); refine wpQuiet_nil ?_; intro w1 hw1; obtain ⟨hc, hf, hs, he⟩ := Ext.use (w := w) (ext_of_regrown hw1) xt; clear hw1; (try simp only [sA, sC, sD, sN] at hs))
          go_wp2
          go_ret
          exact ⟨ret_bool (by rw [HI.out, HD.out, decide_eq_false (fun h => h0 (by rw [h]))]; rfl), he⟩
        have e0 : (x.fn != y.fn) = false := by simpa using h0
        by_cases h1 : x.pc = y.pc
        rotate_left
        · have e1 : (x.pc != y.pc) = true := by simpa using h1
          go_wp2
          (refine wp_region_quiet_below (by kernel_rfl) (by kernel_rfl) ?_; (repeat (go_big_quiet_step (fail))); refine wpQuiet_nil ?_; intro w1 hw1; obtain ⟨hc, hf, hs, he⟩ := Ext.use (w := w) (ext_of_regrown hw1) xt; clear hw1; (try simp only [sA, sC, sD, sN] at hs))
          go_wp2
          go_ret
          exact ⟨ret_bool (by rw [HI.out, HD.out, decide_eq_false (fun h => h1 (by rw [h]))]; rfl), he⟩
        have e1 : (x.pc != y.pc) = false := by simpa using h1
        by_cases h2 : x.result = y.result
        rotate_left
        · have e2 : (x.result != y.result) = true := by simpa using h2
          go_wp2
          (refine wp_region_quiet_below (by kernel_rfl) (by kernel_rfl) ?_; (repeat (go_big_quiet_step (fail))); refine wpQuiet_nil ?_; intro w1 hw1; obtain ⟨hc, hf, hs, he⟩ := Ext.use (w := w) (ext_of_regrown hw1) xt; clear hw1; (try simp only [sA, sC, sD, sN] at hs))
          go_wp2
          go_ret
          exact ⟨ret_bool (by rw [HI.out, HD.out, decide_eq_false (fun h => h2 (by rw [h]))]; rfl), he⟩
        have e2 : (x.result != y.result) = false := by simpa using h2
        by_cases h3 : x.cleanup = y.cleanup
        rotate_left
        · have e3 : (x.cleanup == y.cleanup) = false := by simpa using h3
          go_wp2
          (refine wp_region_quiet_below (by kernel_rfl) (by kernel_rfl) ?_; (repeat (go_big_quiet_step (fail))); refine wpQuiet_nil ?_; intro w1 hw1; obtain ⟨hc, hf, hs, he⟩ := Ext.use (w := w) (ext_of_regrown hw1) xt; clear hw1; (try simp only [sA, sC, sD, sN] at hs))
          go_wp2
          go_ret
          exact ⟨ret_bool (by rw [HI.out, HD.out, decide_eq_false (fun h => h3 (by rw [h]))]; rfl), he⟩
        have e3 : (x.cleanup == y.cleanup) = true := by simpa using h3
        have HE : Hid (decide (x = y) = decide (x.regs = y.regs)) := by unfold Hid; rw [decide_eq_decide, extFrm]; simp only [h0, h1, h2, h3, true_and]
        clear h0 h1 h2 h3
        obtain ⟨q, hq⟩ : ∃ q, decide (x.regs = y.regs) = q := ⟨_, rfl⟩
        rw [hq] at HE
        have HC : ∀ W, Ext wr W → Calls Tryz.prog 19 #[.slice Aa na ca, .slice Ab nb cb] W fun e w' => e = .returned (.bool q) ∧ Ext W w' := fun W hW => by rw [← hq]; exact SameInts_any Aa Ab na nb ca cb x.regs y.regs W (HA.out.mono RInt.stays hW) (HB.out.mono RInt.stays hW)
        clear hq
        cases q with
        | false =>
          go_wp2
          (refine wp_region_quiet_below (by kernel_rfl) (by kernel_rfl) ?_; (repeat (go_big_quiet_step ((go_at_call 19; exact quiet_ext (HC _ xt))))); refine wpQuiet_nil ?_; intro w1 hw1; obtain ⟨hc, hf, hs, he⟩ := Ext.use (w := w) (ext_of_regrown hw1) xt; clear hw1; (try simp only [sA, sC, sD, sN] at hs))
          go_wp2
          go_ret
          exact ⟨ret_bool (by rw [HI.out, HD.out, HE.out]; rfl), he⟩
        | true =>
          go_wp2
          (refine wp_region_quiet_below (by kernel_rfl) (by kernel_rfl) ?_; (repeat (go_big_quiet_step ((go_at_call 19; exact quiet_ext (HC _ xt))))); refine wpQuiet_nil ?_; intro w1 hw1; obtain ⟨hc, hf, hs, he⟩ := Ext.use (w := w) (ext_of_regrown hw1) xt; clear hw1; (try simp only [sA, sC, sD, sN] at hs))
          go_wp2
          go_roundg (n - (kk + 1))
          case measure => omega
          case rel => exact ⟨kk + 1, by omega, by omega, by go_num, he, by rw [Hid, HI.out, HD.out, HE.out]; rfl⟩
      · have hltz : ¬ (kk : Int) < (n : Int) := by omega
        clear hx hy
        go_wp2
        go_ret
        exact ⟨ret_bool (by rw [HI.out, List.drop_eq_nil_of_le (by have := HX.out; omega), List.drop_eq_nil_of_le (by have := HY.out; omega)]; rfl), HW.out⟩
  · have hz : ((n : Int) != (m : Int)) = true := by simp; omega
    clear hx hy
    go_enter Tryz.func63, Tryz.ntmps63
    go_wp2
    go_ret
    exact ⟨ret_bool (by rw [decide_eq_false]; intro h; exact hnm (by rw [HX.out, HY.out, h])), xt⟩
theorem extBlk (x y : Blk) : x = y ↔ x.scope = y.scope ∧ x.depth = y.depth ∧ x.exit = y.exit ∧ x.mask = y.mask ∧ x.handlers = y.handlers := by cases x; cases y; simp; try (intros; constructor <;> (rintro ⟨h1, h2, h3⟩; simp_all))
set_option maxHeartbeats 4000000 in
theorem SameBlk_any (A B : Option Addr) (n m c d : Nat) (xs ys : List Blk) (w : World) (hx : RSl 5 RBlk w A n xs) (hy : RSl 5 RBlk w B m ys) :
    Calls Tryz.prog 64 #[.slice A n c, .slice B m d] w fun e w' => e = .returned (.bool (decide (xs = ys))) ∧ Ext w w' := by
  have hle := hx.le
  have hle2 := hy.le
  have HX := Lib.hid hx.len
  have HY := Lib.hid hy.len
  by_cases hnm : n = m
  · subst hnm
    go_enter Tryz.func64, Tryz.ntmps64
    go_wp2
    go_loopg [5] n (fun gg s5 wr => ∃ kk : Nat, kk ≤ n ∧ n - kk ≤ gg ∧ s5 = .int .i64 kk ∧ Hid (Ext w wr) ∧ Hid (decide (xs = ys) = decide (xs.drop kk = ys.drop kk)))
    case atStart => exact ⟨0, Nat.zero_le _, by omega, rfl, Ext.refl w, rfl⟩
    case round =>
      obtain ⟨kk, hkk, hg, rfl, HW, HI⟩ := hrel
      by_cases hlt : kk < n
      · have hltz : (kk : Int) < (n : Int) := by omega
        obtain ⟨x, hx0⟩ : ∃ x, xs[kk]? = some x := ⟨_, List.getElem?_eq_getElem (by have := HX.out; omega)⟩
        obtain ⟨y, hy0⟩ : ∃ y, ys[kk]? = some y := ⟨_, List.getElem?_eq_getElem (by have := HY.out; omega)⟩
        obtain ⟨b, off, Aa, na, ca, rfl, hlb, _, _, _, _, ⟨hA, _⟩, c0, c1, c2, c3, c4⟩ := (hx.mono RBlk.stays HW.out).blk hx0
        obtain ⟨b2, off2, Ab, nb, cb, rfl, hlb2, _, _, _, _, ⟨hB, _⟩, d0, d1, d2, d3, d4⟩ := (hy.mono RBlk.stays HW.out).blk hy0
        have HD := Lib.hid (drop_eq_iff hx0 hy0)
        have HA := Lib.hid hA
        have HB := Lib.hid hB
        have hWr := HW.out
        clear hx hy hx0 hy0 hA hB
        by_cases h0 : x.scope = y.scope
        rotate_left
        · have e0 : (x.scope != y.scope) = true := by simpa using h0
          go_wp2
          (refine wp_region_quiet_below (by kernel_rfl) (by kernel_rfl) ?_; (repeat (go_big_quiet_step (fail))); refine wpQuiet_nil ?_; intro w1 hw1; obtain ⟨hc, hf, hs, he⟩ := Ext.use (w := w) (ext_of_regrown hw1) xt; clear hw1; (try simp only [sA, sC, sD, sN] at hs))
          go_wp2
          go_ret
          exact ⟨ret_bool (by rw [HI.out, HD.out, decide_eq_false (fun h => h0 (by rw [h]))]; rfl), he⟩
        have e0 : (x.scope != y.scope) = false := by simpa using h0
        by_cases h1 : x.depth = y.depth
        rotate_left
        · have e1 : (x.depth != y.depth) = true := by simpa using h1
          go_wp2
          (refine wp_region_quiet_below (by kernel_rfl) (by kernel_rfl) ?_; (repeat (go_big_quiet_step (fail))); refine wpQuiet_nil ?_; intro w1 hw1; obtain ⟨hc, hf, hs, he⟩ := Ext.use (w := w) (ext_of_regrown hw1) xt; clear hw1; (try simp only [sA, sC, sD, sN] at hs))
          go_wp2
          go_ret
          exact ⟨ret_bool (by rw [HI.out, HD.out, decide_eq_false (fun h => h1 (by rw [h]))]; rfl), he⟩
        have e1 : (x.depth != y.depth) = false := by simpa using h1
        by_cases h2 : x.exit = y.exit
        rotate_left
        · have e2 : (x.exit != y.exit) = true := by simpa using h2
          go_wp2
          (refine wp_region_quiet_below (by kernel_rfl) (by kernel_rfl) ?_; (repeat (go_big_quiet_step (fail))); refine wpQuiet_nil ?_; intro w1 hw1; obtain ⟨hc, hf, hs, he⟩ := Ext.use (w := w) (ext_of_regrown hw1) xt; clear hw1; (try simp only [sA, sC, sD, sN] at hs))
          go_wp2
          go_ret
          exact ⟨ret_bool (by rw [HI.out, HD.out, decide_eq_false (fun h => h2 (by rw [h]))]; rfl), he⟩
        have e2 : (x.exit != y.exit) = false := by simpa using h2
        by_cases h3 : x.mask = y.mask
        rotate_left
        · have e3 : (x.mask != y.mask) = true := by simpa using h3
          go_wp2
          (refine wp_region_quiet_below (by kernel_rfl) (by kernel_rfl) ?_; (repeat (go_big_quiet_step (fail))); refine wpQuiet_nil ?_; intro w1 hw1; obtain ⟨hc, hf, hs, he⟩ := Ext.use (w := w) (ext_of_regrown hw1) xt; clear hw1; (try simp only [sA, sC, sD, sN] at hs))
          go_wp2
          go_ret
          exact ⟨ret_bool (by rw [HI.out, HD.out, decide_eq_false (fun h => h3 (by rw [h]))]; rfl), he⟩
        have e3 : (x.mask != y.mask) = false := by simpa using h3
        have HE : Hid (decide (x = y) = decide (x.handlers = y.handlers)) := by unfold Hid; rw [decide_eq_decide, extBlk]; simp only [h0, h1, h2, h3, true_and]
        clear h0 h1 h2 h3
        obtain ⟨q, hq⟩ : ∃ q, decide (x.handlers = y.handlers) = q := ⟨_, rfl⟩
        rw [hq] at HE
        have HC : ∀ W, Ext wr W → Calls Tryz.prog 27 #[.slice Aa na ca, .slice Ab nb cb] W fun e w' => e = .returned (.bool q) ∧ Ext W w' := fun W hW => by rw [← hq]; exact SameHdl_any Aa Ab na nb ca cb x.handlers y.handlers W (HA.out.mono RHdl.stays hW) (HB.out.mono RHdl.stays hW)
        clear hq
        cases q with
        | false =>
          go_wp2
          (refine wp_region_quiet_below (by kernel_rfl) (by kernel_rfl) ?_; (repeat (go_big_quiet_step ((go_at_call 27; exact quiet_ext (HC _ xt))))); refine wpQuiet_nil ?_; intro w1 hw1; obtain ⟨hc, hf, hs, he⟩ := Ext.use (w := w) (ext_of_regrown hw1) xt; clear hw1; (try simp only [sA, sC, sD, sN] at hs))
          go_wp2
          go_ret
          exact ⟨ret_bool (by rw [HI.out, HD.out, HE.out]; rfl), he⟩
        | true =>
          go_wp2
          (refine wp_region_quiet_below (by kernel_rfl) (by kernel_rfl) ?_; (repeat (go_big_quiet_step ((go_at_call 27; exact quiet_ext (HC _ xt))))); refine wpQuiet_nil ?_; intro w1 hw1; obtain ⟨hc, hf, hs, he⟩ := Ext.use (w := w) (ext_of_regrown hw1) xt; clear hw1; (try simp only [sA, sC, sD, sN] at hs))
          go_wp2
          go_roundg (n - (kk + 1))
          case measure => omega
          case rel => exact ⟨kk + 1, by omega, by omega, by go_num, he, by rw [Hid, HI.out, HD.out, HE.out]; rfl⟩
      · have hltz : ¬ (kk : Int) < (n : Int) := by omega
        clear hx hy
        go_wp2
        go_ret
        exact ⟨ret_bool (by rw [HI.out, List.drop_eq_nil_of_le (by have := HX.out; omega), List.drop_eq_nil_of_le (by have := HY.out; omega)]; rfl), HW.out⟩
  · have hz : ((n : Int) != (m : Int)) = true := by simp; omega
    clear hx hy
    go_enter Tryz.func64, Tryz.ntmps64
    go_wp2
    go_ret
    exact ⟨ret_bool (by rw [decide_eq_false]; intro h; exact hnm (by rw [HX.out, HY.out, h])), xt⟩
end Go.Proofs.YtcjjoabofecjmaaGreat

namespace Go.Proofs.YtcjjoabofecjmaaGreat
open Go.RowKit Go.Sort
set_option maxRecDepth 8000 in
set_option maxHeartbeats 8000000 in
theorem awake_any (w : World) : Calls Tryz.prog 14 #[] w fun e w' => e = .returned (.bool true) ∧ Ext w w' := by
  go_enter Tryz.func14, Tryz.ntmps14
  go_upto_region 3 with fail
  refine wp_hid2 ?_
  intro W2 HW2
  have HE2 : Hid (Ext w W2) := by rw [Hid, HW2.out]; exact xt
  have C2 : W2.rangeAt w.heap.size 0 (codeCells codeA) := by rw [HW2.out]; exact range_old (range_old (range_new rfl) _) _
  have F2 : W2.rangeAt (w.heap.size + 1) 0 [.string mainN, Value.int .i64 0, Value.int .i64 2, Value.int .i64 0, .bool false, .slice (some ⟨w.heap.size, 0, none⟩) 4 4] := by rw [HW2.out]; exact range_old (range_new (by simp)) _
  have P2 : W2.rangeAt (w.heap.size + 1 + 1) 0 [.slice (some ⟨w.heap.size + 1, 0, none⟩) 1 1, .slice none 0 0, .slice none 0 0] := by rw [HW2.out]; exact range_new (by simp)
  have HCs := Lib.hid C2
  have HPA := Lib.hid (rprg_one (xs := codeA) (regs := 2) (c := 4) C2 F2 (by decide) (by decide) ⟨by decide, by decide⟩ codeA_in (by decide))
  have HPR := Lib.hid P2
  have p0 : W2.cell? ⟨w.heap.size + 1 + 1, 0, none⟩ = some (.slice (some ⟨w.heap.size + 1, 0, none⟩) 1 1) := P2 0 _ rfl
  have p1 : W2.cell? ⟨w.heap.size + 1 + 1, 1, none⟩ = some (.slice none 0 0) := P2 1 _ rfl
  have p2 : W2.cell? ⟨w.heap.size + 1 + 1, 2, none⟩ = some (.slice none 0 0) := P2 2 _ rfl
  have HS := Lib.hid (Start_any prgA 0 [] 0 _ none 0 0 W2 HPA.out (RSl.nil _) ⟨by decide, by decide⟩ ⟨by decide, by decide⟩)
  rw [awk_start] at HS
  clear C2 F2 P2 HW2
  go_upto_region 4 with (first | ((with_reducible show wpList _ _ _ ({ dst := _, op := Op.store 32 _ _, type := _, pos := _, after := _, guard := none } :: _) _ _); refine wpList_store_mid rfl 32 _ _ rfl _ _ _ rfl rfl (by exact tr) infoTsk (all_oneCell_toArray (by simp [Value.oneCell'])) ?_; (try dsimp only [Act.put])) | (go_at_call 21; refine HS.out.mono ?_; rintro e w3 ⟨V3, rfl, hT3, hb3⟩; have HT3 := Lib.hid hT3; have HB3 := Lib.hid hb3; obtain ⟨gF3, oF3, cF3, Ab3, cb3, Ar3, cr3, rfl, _⟩ := tsk_parts hT3; unfold tskCells at HT3 ⊢; clear hT3 hb3))
  refine wp_hid2 ?_
  intro W3 HW3
  have HE3 : Hid (Ext W2 W3) := by have h := HB3.out; have h2 := h.size; rw [Hid, HW3.out]; exact xts
  have T3 : W3.rangeAt w3.heap.size 0 [Value.int .i64 0, Value.int .i64 0, Value.int .i64 0, Value.int .i64 1, Value.int .i64 0, Value.int .i64 0, .bool false, .slice (some ⟨gF3, oF3, none⟩) 1 cF3, .slice Ab3 1 cb3, Value.int .i64 0, .bool false, Value.int .i64 0, Value.int .i64 0, Value.int .i64 0] := by
    rw [HW3.out]; exact World.rangeAt_setCells_same _ _ 0 _ (by show World.there _ _ 0 14; exact there_new rfl rfl)
  have HT33 := Lib.hid (show RTsk W3 (tskAt 0 0 0) _ from HT3.out.mono (by rw [HW3.out]; exact xts))
  have HR3 := Lib.hid T3
  have p30 := HE3.out.cell p0
  have p31 := HE3.out.cell p1
  have p32 := HE3.out.cell p2
  have HA := Lib.hid (Advance_any prgA (tskAt 0 0 0) _ _ W3 (HPA.out.mono HE3.out) HT33.out)
  unfold AdvPost stopA at HA
  rw [awk_go] at HA
  dsimp only at HA
  clear HW3 p0 p1 p2 HT3 HS HB3
  go_upto_region 5 with (first | ((first | ((with_reducible show Code.wp _ (Code.region _ (List.toArray ({ dst := _, op := Op.load 32 _, type := _, pos := _, after := _, guard := none } :: _)) false) _ _ _); refine wp_region_lit ?_) | (with_reducible show wpList _ _ _ ({ dst := _, op := Op.load 32 _, type := _, pos := _, after := _, guard := none } :: _) _ _)); refine wpList_load_mid rfl 32 _ rfl _ _ rfl _ _ (by exact rg) Tryz.underlying32 rfl (by exact infoTsk) ?_; dsimp only [dZ, dS]) | ((with_reducible show wpList _ _ _ ({ dst := _, op := Op.store 32 _ _, type := _, pos := _, after := _, guard := none } :: _) _ _); refine wpList_store_mid rfl 32 _ _ rfl _ _ _ rfl rfl (by exact tr) infoTsk (all_oneCell_toArray (by simp [Value.oneCell'])) ?_; (try dsimp only [Act.put])) | ((with_reducible show wpList _ _ _ ({ dst := _, op := Op.store 49 _ _, type := _, pos := _, after := _, guard := none } :: _) _ _); refine wpList_store_mid rfl 49 _ _ rfl _ _ _ rfl rfl (by exact tr) infoStop (all_oneCell_toArray (by simp [Value.oneCell'])) ?_; (try dsimp only [Act.put])) | (go_at_call 24; refine HA.out.mono ?_; rintro e w4 ⟨V4, rfl, hT4, hb4⟩; have HT4 := Lib.hid hT4; have HB4 := Lib.hid hb4; obtain ⟨gF4, oF4, cF4, Ab4, cb4, Ar4, cr4, rfl, hc41, hc42, hR4⟩ := tsk_parts hT4; have HC41 := Lib.hid hc41; have HC42 := Lib.hid hc42; have HR4 := Lib.hid hR4; unfold tskCells at HT4 ⊢; clear hT4 hb4 hc41 hc42 hR4))
  refine wp_hid2 ?_
  intro W4 HW4
  have HE4 : Hid (Ext W3 W4) := by have h := HB4.out; have h2 := h.size; rw [Hid, HW4.out]; exact xts
  have E44 : Ext w4 W4 := by rw [HW4.out]; exact xts
  have TU : W4.rangeAt w4.heap.size 0 [Value.int .i64 0, Value.int .i64 0, Value.int .i64 0, Value.int .i64 1, Value.int .i64 0, Value.int .i64 0, .bool false, .slice (some ⟨gF4, oF4, none⟩) 1 cF4, .slice Ab4 1 cb4, Value.int .i64 0, .bool false, Value.int .i64 0, Value.int .i64 0, Value.int .i64 0] := by
    rw [HW4.out]; exact (ranges_two (by omega) (by show World.there _ _ 0 14; exact there_old (there_new rfl rfl) _) (by show World.there _ _ 0 3; exact there_new (by simp) rfl)).1
  have TS : W4.rangeAt (w4.heap.size + 1) 0 [Value.int .i64 1, Value.int .i64 0, Value.int .i64 0] := by
    rw [HW4.out]; exact (ranges_two (by omega) (by show World.there _ _ 0 14; exact there_old (there_new rfl rfl) _) (by show World.there _ _ 0 3; exact there_new (by simp) rfl)).2
  have HT44 := Lib.hid (show RTsk W4 (tskAt 3 42 7) _ from HT4.out.mono E44)
  have HRU := Lib.hid TU
  have HRS := Lib.hid TS
  have HC41 := Lib.hid (E44.cell HC41.out)
  have HC42 := Lib.hid (E44.cell HC42.out)
  have HR4 := Lib.hid (HR4.out.mono RInt.stays E44)
  have p40 := HE4.out.cell p30
  have p41 := HE4.out.cell p31
  have p42 := HE4.out.cell p32
  have HCu := Lib.hid (Current_any prgA (tskAt 3 42 7) _ _ W4 (HPA.out.mono (HE3.out.trans HE4.out)) HT44.out)
  unfold insV at HCu
  rw [awk_now] at HCu
  dsimp only at HCu
  clear HW4 p30 p31 p32 HT4 HA HB4 E44 TS T3
  go_upto_region 6 with (first | ((first | ((with_reducible show Code.wp _ (Code.region _ (List.toArray ({ dst := _, op := Op.load 32 _, type := _, pos := _, after := _, guard := none } :: _)) false) _ _ _); refine wp_region_lit ?_) | (with_reducible show wpList _ _ _ ({ dst := _, op := Op.load 32 _, type := _, pos := _, after := _, guard := none } :: _) _ _)); refine wpList_load_mid rfl 32 _ rfl _ _ rfl _ _ (by exact rg) Tryz.underlying32 rfl (by exact infoTsk) ?_; dsimp only [dZ, dS]) | ((with_reducible show wpList _ _ _ ({ dst := _, op := Op.store 37 _ _, type := _, pos := _, after := _, guard := none } :: _) _ _); refine wpList_store_mid rfl 37 _ _ rfl _ _ _ rfl rfl (by exact tr) infoInsN (all_oneCell_toArray (by simp [Value.oneCell'])) ?_; (try dsimp only [Act.put])) | (go_at_call 15; refine HCu.out.mono ?_; rintro e w5 ⟨A5, n5, c5, rfl, _, hb5⟩; have HB5 := Lib.hid hb5; clear hb5))
  refine wp_hid2 ?_
  intro W5 HW5
  have HE5 : Hid (Ext W4 W5) := by have h := HB5.out; have h2 := h.size; rw [Hid, HW5.out]; exact xts
  have TI : W5.rangeAt w5.heap.size 0 [Value.int .i64 41, Value.int .i64 0, Value.int .i64 0, Value.int .i64 0, .slice A5 n5 c5] := by
    rw [HW5.out]; exact World.rangeAt_setCells_same _ _ 0 _ (by show World.there _ _ 0 5; exact there_new rfl rfl)
  have HRI := Lib.hid TI
  have HCl := Lib.hid (cloneIns (some ⟨w.heap.size, 0, none⟩) 4 4 (codeCells codeA) W5 (fun h => by cases h) ⟨rfl, fun _ => ⟨_, _, rfl, fun j u hj => by have := ((HE3.out.trans HE4.out).trans HE5.out).cell (HCs.out j u hj); exact this⟩⟩ codeA_one (by decide))
  clear HW5 TI TU p40 p41 p42 HCu HB5
  go_upto_region 7 with (go_at_call 43; refine HCl.out.mono ?_; rintro e w6 ⟨v6, rfl, hown6, hb6⟩; obtain ⟨g6, c6, rfl, hg6⟩ := own_form hown6 (by decide); have HO6 := Lib.hid hown6; have HB6 := Lib.hid hb6; have m1 : w6.cell? ⟨g6, 7, none⟩ = some (Value.int .i64 7) := hown6.cellAt 7 (by decide); have m2 : w6.cell? ⟨g6, 10, none⟩ = some (Value.int .i64 5) := hown6.cellAt 10 (by decide); have z1 := hown6.frozenAt 7; have z2 := hown6.frozenAt 10; clear hown6 hb6)
  go_upto_region 9 with fail
  refine wp_hid2 ?_
  intro W8 HW8
  have hg6W : W5.heap.size ≤ g6 := (HO6.out.lt g6 rfl).1
  have hg6l : g6 < w6.heap.size := (HO6.out.lt g6 rfl).2
  have HE8 : Hid (Ext W5 W8) := by have h := HB6.out; have h2 := h.size; rw [Hid, HW8.out]; exact xt
  obtain ⟨b1, b2⟩ := HO6.out.stored 7 (Value.int .i64 0)
  obtain ⟨b3, b4⟩ := b1.stored 10 (Value.int .i64 6)
  rw [codeB_of] at b3
  have C8 : W8.rangeAt g6 0 (codeCells codeB) := fun j v hj => by
    have h1 := b3.cellAt j (by have := (List.getElem?_eq_some_iff.1 hj).1; exact this)
    rw [HW8.out, Nat.zero_add, World.cell?_alloc_lt, World.cell?_alloc_lt, h1, hj]
    · simpa using hg6l
    · simp; omega
  have hc6 : 4 ≤ c6 := by
    obtain ⟨A9, c9, e9, h9, _⟩ := ownsRow_shape HO6.out
    injection e9 with q1 q2 q3
    omega
  have F8 : W8.rangeAt w6.heap.size 0 [.string mainN, Value.int .i64 0, Value.int .i64 2, Value.int .i64 0, .bool false, .slice (some ⟨g6, 0, none⟩) 4 c6] := by rw [HW8.out]; exact range_old (range_new (by simp)) _
  have Q8 : W8.rangeAt (w6.heap.size + 1) 0 [.slice (some ⟨w6.heap.size, 0, none⟩) 1 1, .slice none 0 0, .slice none 0 0] := by rw [HW8.out]; exact range_new (by simp)
  have q0 : W8.cell? ⟨w6.heap.size + 1, 0, none⟩ = some (.slice (some ⟨w6.heap.size, 0, none⟩) 1 1) := Q8 0 _ rfl
  have q1 : W8.cell? ⟨w6.heap.size + 1, 1, none⟩ = some (.slice none 0 0) := Q8 1 _ rfl
  have q2 : W8.cell? ⟨w6.heap.size + 1, 2, none⟩ = some (.slice none 0 0) := Q8 2 _ rfl
  have HPB := Lib.hid (rprg_one (xs := codeB) (regs := 2) (c := c6) C8 F8 hc6 (by decide) ⟨by decide, by decide⟩ codeB_in (by decide))
  have HE38 : Hid (Ext W3 W8) := (HE4.out.trans HE5.out).trans HE8.out
  have T8 := range_ext HR3.out HE38.out
  have HA2 := Lib.hid (Advance_any prgB (tskAt 0 0 0) _ _ W8 HPB.out (HT33.out.mono HE38.out))
  unfold AdvPost stopA at HA2
  rw [awk_div] at HA2
  dsimp only at HA2
  clear HW8 b1 b2 b3 b4 C8 F8 Q8 m1 m2 z1 z2 hg6W hg6l hc6 HCl HO6 HB6
  go_upto_region 10 with (first | ((first | ((with_reducible show Code.wp _ (Code.region _ (List.toArray ({ dst := _, op := Op.load 32 _, type := _, pos := _, after := _, guard := none } :: _)) false) _ _ _); refine wp_region_lit ?_) | (with_reducible show wpList _ _ _ ({ dst := _, op := Op.load 32 _, type := _, pos := _, after := _, guard := none } :: _) _ _)); refine wpList_load_mid rfl 32 _ rfl _ _ rfl _ _ (by exact rg) Tryz.underlying32 rfl (by exact infoTsk) ?_; dsimp only [dZ, dS]) | ((with_reducible show wpList _ _ _ ({ dst := _, op := Op.store 32 _ _, type := _, pos := _, after := _, guard := none } :: _) _ _); refine wpList_store_mid rfl 32 _ _ rfl _ _ _ rfl rfl (by exact tr) infoTsk (all_oneCell_toArray (by simp [Value.oneCell'])) ?_; (try dsimp only [Act.put])) | ((with_reducible show wpList _ _ _ ({ dst := _, op := Op.store 49 _ _, type := _, pos := _, after := _, guard := none } :: _) _ _); refine wpList_store_mid rfl 49 _ _ rfl _ _ _ rfl rfl (by exact tr) infoStop (all_oneCell_toArray (by simp [Value.oneCell'])) ?_; (try dsimp only [Act.put])) | (go_at_call 24; refine HA2.out.mono ?_; rintro e w9 ⟨V9, rfl, hT9, hb9⟩; have HB9 := Lib.hid hb9; obtain ⟨gF9, oF9, cF9, Ab9, cb9, Ar9, cr9, rfl, hc91, _, _⟩ := tsk_parts hT9; have HC91 := Lib.hid hc91; unfold tskCells; clear hT9 hb9 hc91))
  refine wp_hid2 ?_
  intro W9 HW9
  have HE9 : Hid (Ext W8 W9) := by have h := HB9.out; have h2 := h.size; rw [Hid, HW9.out]; exact xts
  have E99 : Ext w9 W9 := by rw [HW9.out]; exact xts
  have TV : W9.rangeAt w9.heap.size 0 [Value.int .i64 0, Value.int .i64 0, Value.int .i64 0, Value.int .i64 1, Value.int .i64 0, Value.int .i64 0, .bool false, .slice (some ⟨gF9, oF9, none⟩) 1 cF9, .slice Ab9 1 cb9, Value.int .i64 0, .bool false, Value.int .i64 0, Value.int .i64 0, Value.int .i64 0] := by
    rw [HW9.out]; exact (ranges_two (by omega) (by show World.there _ _ 0 14; exact there_old (there_new rfl rfl) _) (by show World.there _ _ 0 3; exact there_new (by simp) rfl)).1
  have TS9 : W9.rangeAt (w9.heap.size + 1) 0 [Value.int .i64 3, Value.int .i64 6, Value.int .i64 0] := by
    rw [HW9.out]; exact (ranges_two (by omega) (by show World.there _ _ 0 14; exact there_old (there_new rfl rfl) _) (by show World.there _ _ 0 3; exact there_new (by simp) rfl)).2
  have HE49 : Hid (Ext W4 W9) := (HE5.out.trans HE8.out).trans HE9.out
  have HE59 : Hid (Ext W5 W9) := HE8.out.trans HE9.out
  have u7 : W9.cell? ⟨w4.heap.size, 7, none⟩ = some (.slice (some ⟨gF4, oF4, none⟩) 1 cF4) := HE49.out.cell (HRU.out 7 _ rfl)
  have v7 : W9.cell? ⟨w9.heap.size, 7, none⟩ = some (.slice (some ⟨gF9, oF9, none⟩) 1 cF9) := TV 7 _ rfl
  have i0 : W9.cell? ⟨w5.heap.size, 0, none⟩ = some (Value.int .i64 41) := HE59.out.cell (HRI.out 0 _ rfl)
  have s0 : W9.cell? ⟨w4.heap.size + 1, 0, none⟩ = some (Value.int .i64 1) := HE49.out.cell (HRS.out 0 _ rfl)
  have s1 : W9.cell? ⟨w4.heap.size + 1, 1, none⟩ = some (Value.int .i64 0) := HE49.out.cell (HRS.out 1 _ rfl)
  have s2 : W9.cell? ⟨w4.heap.size + 1, 2, none⟩ = some (Value.int .i64 0) := HE49.out.cell (HRS.out 2 _ rfl)
  have r0 : W9.cell? ⟨w9.heap.size + 1, 0, none⟩ = some (Value.int .i64 3) := TS9 0 _ rfl
  have r1 : W9.cell? ⟨w9.heap.size + 1, 1, none⟩ = some (Value.int .i64 6) := TS9 1 _ rfl
  have r2 : W9.cell? ⟨w9.heap.size + 1, 2, none⟩ = some (Value.int .i64 0) := TS9 2 _ rfl
  have f1 : W9.cell? ⟨gF4, oF4 + 1, none⟩ = some (Value.int .i64 3) := HE49.out.cell HC41.out
  have f2 : W9.cell? ⟨gF4, oF4 + 2, none⟩ = some (.slice Ar4 2 cr4) := HE49.out.cell HC42.out
  have f3 : W9.cell? ⟨gF9, oF9 + 1, none⟩ = some (Value.int .i64 2) := E99.cell HC91.out
  have HSI := Lib.hid (SameInts_any Ar4 (some ⟨W9.heap.size, 0, none⟩) 2 2 cr4 2 [42, 7] [42, 7] (W9.alloc (.cells #[Value.int .i64 42, Value.int .i64 7] 3)) (HR4.out.mono RInt.stays (HE49.out.trans ((Ext.refl W9).alloc _))) (RSl.newInts W9 [42, 7] 3 (by decide) (by intro x hx; simp at hx; rcases hx with rfl | rfl <;> exact ⟨by decide, by decide⟩)))
  have heq1 : ∀ w : World, (binOp BinOp.eql 49 (.agg #[Value.int .i64 1, Value.int .i64 0, Value.int .i64 0]) (.agg #[Value.int .i64 1, Value.int .i64 0, Value.int .i64 0])).run Tryz.prog w = .ok (.bool true) w := fun _ => by kernel_rfl
  have heq2 : ∀ w : World, (binOp BinOp.eql 49 (.agg #[Value.int .i64 3, Value.int .i64 6, Value.int .i64 0]) (.agg #[Value.int .i64 3, Value.int .i64 6, Value.int .i64 0])).run Tryz.prog w = .ok (.bool true) w := fun _ => by kernel_rfl
  have HE09 : Hid (Ext w W9) := (HE2.out.trans HE3.out).trans (HE4.out.trans HE49.out)
  have zf4 : gF4 < W9.heap.size := lt_of_cell f1
  have zf9 : gF9 < W9.heap.size := lt_of_cell f3
  have zu : w4.heap.size < W9.heap.size := lt_of_cell u7
  have zs : w4.heap.size + 1 < W9.heap.size := lt_of_cell s0
  have zv : w9.heap.size < W9.heap.size := lt_of_cell v7
  have zr : w9.heap.size + 1 < W9.heap.size := lt_of_cell r0
  clear HW9 TV TS9 T8 q0 q1 q2 HA2 HB9 E99
  go_wp2_with (go_at_call 19; refine HSI.out.mono ?_; rintro e w10 ⟨rfl, hb10⟩; obtain ⟨hc10, hf10, hs10, he10⟩ := Ext.use (w := W9) hb10 xt; clear hb10)
  go_ret
  exact ⟨rfl, HE09.out.trans he10⟩
end Go.Proofs.YtcjjoabofecjmaaGreat

namespace Go.Proofs.YtcjjoabofecjmaaGreat
open Go.RowKit Go.Sort
theorem RTsk.cells4 {w : World} {t : Tsk} {V : Value} (h : RTsk w t V) : ∃ (c : Cells14) (Af : Option Addr) (nf cf : Nat) (Ab : Option Addr) (nb cb : Nat), V = .agg c.l.toArray ∧ c.l = tskL t (.slice Af nf cf) (.slice Ab nb cb) ∧ RSl 5 RFrm w Af nf t.frames ∧ nf ≤ cf ∧ RSl 5 RBlk w Ab nb t.blocks ∧ nb ≤ cb := by
  obtain ⟨Af, nf, cf, Ab, nb, cb, rfl, _, _, _, _, _, _, _, _, _, _, hF, hB, hc1, hc2⟩ := h
  exact ⟨⟨tskL t (.slice Af nf cf) (.slice Ab nb cb), rfl, by simp [tskL, Value.oneCell']⟩, _, _, _, _, _, _, rfl, rfl, hF, hc1, hB, hc2⟩
set_option maxRecDepth 8000 in
set_option maxHeartbeats 8000000 in
theorem handlers_early (p : Prg) (t : Tsk) (VP VT : Value) (w : World) (hP : RPrg w p VP) (hT : RTsk w t VT) (hh : (greatP p || greatT t) = true ∨ ((greatP p || greatT t) = false ∧ (tcheckS p t ≠ 0 ∨ (tcheckS p t = 0 ∧ t.status ≠ 1)))) : Calls Tryz.prog 9 #[VP, VT] w fun e w' => e = .returned (.bool true) ∧ Ext w w' := by
  have HG := Lib.hid (fun W (h : Ext w W) => great_any p t VP VT W (hP.mono h) (hT.mono h))
  have HC := Lib.hid (fun W (h : Ext w W) => tCheck_any p t VP VT W (hP.mono h) (hT.mono h))
  obtain ⟨c, Bf, mf, df, Bb, mb, db, rfl, hcl, _⟩ := hT.cells4
  have HCL := Lib.hid hcl
  obtain ⟨Af, nf, cf, Ao, no, co, Av, nv, cv, rfl, _⟩ := hP
  clear hT hcl
  rcases hh with hg | ⟨hg, hc | ⟨hc, hst⟩⟩
  · rw [hg] at HG
    clear hg HC
    go_enter Tryz.func9, Tryz.ntmps9
    go_wp2_with (first | ((first | ((with_reducible show Code.wp _ (Code.region _ (List.toArray ({ dst := _, op := Op.load 26 _, type := _, pos := _, after := _, guard := none } :: _)) false) _ _ _); refine wp_region_lit ?_) | (with_reducible show wpList _ _ _ ({ dst := _, op := Op.load 26 _, type := _, pos := _, after := _, guard := none } :: _) _ _)); refine wpList_load_mid rfl 26 _ rfl _ _ rfl _ _ (by exact rg) Tryz.underlying26 rfl (by exact infoPrg) ?_; dsimp only [dZ, dS]) | ((first | ((with_reducible show Code.wp _ (Code.region _ (List.toArray ({ dst := _, op := Op.load 32 _, type := _, pos := _, after := _, guard := none } :: _)) false) _ _ _); refine wp_region_lit ?_) | (with_reducible show wpList _ _ _ ({ dst := _, op := Op.load 32 _, type := _, pos := _, after := _, guard := none } :: _) _ _)); refine wpList_load_mid rfl 32 _ rfl _ _ rfl _ _ (by exact rg) Tryz.underlying32 rfl (by exact Cells14.info _) ?_; dsimp only [dZ, dS]) | (go_at_call 13; refine (HG.out _ xt).mono ?_; rintro e w1 ⟨rfl, hb⟩; obtain ⟨hc, hf, hs, he⟩ := Ext.use (w := w) hb xt; clear hb; (try simp only [sA, sC, sD, sN] at hs)) | (go_at_call 14; refine (awake_any _).mono ?_; rintro e w2 ⟨rfl, hb2⟩; have he2 := Ext.trans he hb2; clear hb2))
    go_ret
    exact ⟨rfl, he2⟩
  · rw [hg] at HG
    have hcb : (tcheckS p t != 0) = true := by simpa using hc
    clear hg hc
    go_enter Tryz.func9, Tryz.ntmps9
    go_wp2_with (first | ((first | ((with_reducible show Code.wp _ (Code.region _ (List.toArray ({ dst := _, op := Op.load 26 _, type := _, pos := _, after := _, guard := none } :: _)) false) _ _ _); refine wp_region_lit ?_) | (with_reducible show wpList _ _ _ ({ dst := _, op := Op.load 26 _, type := _, pos := _, after := _, guard := none } :: _) _ _)); refine wpList_load_mid rfl 26 _ rfl _ _ rfl _ _ (by exact rg) Tryz.underlying26 rfl (by exact infoPrg) ?_; dsimp only [dZ, dS]) | ((first | ((with_reducible show Code.wp _ (Code.region _ (List.toArray ({ dst := _, op := Op.load 32 _, type := _, pos := _, after := _, guard := none } :: _)) false) _ _ _); refine wp_region_lit ?_) | (with_reducible show wpList _ _ _ ({ dst := _, op := Op.load 32 _, type := _, pos := _, after := _, guard := none } :: _) _ _)); refine wpList_load_mid rfl 32 _ rfl _ _ rfl _ _ (by exact rg) Tryz.underlying32 rfl (by exact Cells14.info _) ?_; dsimp only [dZ, dS]) | ((with_reducible show wpList _ _ _ ({ dst := _, op := Op.load 26 _, type := _, pos := _, after := _, guard := some _ } :: _) _ _); refine wpList_load_mid_g (by rfl) 26 _ rfl _ _ rfl _ _ (by exact rg) Tryz.underlying26 rfl (by exact infoPrg) ?_; dsimp only [dZ, dS]) | ((with_reducible show wpList _ _ _ ({ dst := _, op := Op.load 32 _, type := _, pos := _, after := _, guard := some _ } :: _) _ _); refine wpList_load_mid_g (by rfl) 32 _ rfl _ _ rfl _ _ (by exact rg) Tryz.underlying32 rfl (by exact Cells14.info _) ?_; dsimp only [dZ, dS]) | (go_at_call 13; refine (HG.out _ xt).mono ?_; rintro e w1 ⟨rfl, hb⟩; have R1 := range_ext (b := w.heap.size + 1) (o := 0) (by exact rg) hb; have Q1 := range_ext (b := w.heap.size) (o := 0) (cs := [.slice Af nf cf, .slice Ao no co, .slice Av nv cv]) (by exact rg) hb; have HE1 : Hid (Ext w w1) := Ext.trans xt hb; clear hb) | (go_at_call 17; refine (HC.out _ HE1.out).mono ?_; rintro e w4 ⟨rfl, hb4⟩; have HE4 : Hid (Ext w w4) := Ext.trans HE1.out hb4; clear hb4) | (go_at_call 14; refine (awake_any _).mono ?_; rintro e w9 ⟨rfl, hb9⟩; have HE9 := Lib.hid (Ext.trans HE4.out hb9); clear hb9))
    go_ret
    exact ⟨rfl, HE9.out⟩
  · rw [hg] at HG
    rw [hc] at HC
    have hsb : (t.status != 1) = true := by simpa using hst
    clear hg hc hst
    go_enter Tryz.func9, Tryz.ntmps9
    go_wp2_with (first | ((first | ((with_reducible show Code.wp _ (Code.region _ (List.toArray ({ dst := _, op := Op.load 26 _, type := _, pos := _, after := _, guard := none } :: _)) false) _ _ _); refine wp_region_lit ?_) | (with_reducible show wpList _ _ _ ({ dst := _, op := Op.load 26 _, type := _, pos := _, after := _, guard := none } :: _) _ _)); refine wpList_load_mid rfl 26 _ rfl _ _ rfl _ _ (by exact rg) Tryz.underlying26 rfl (by exact infoPrg) ?_; dsimp only [dZ, dS]) | ((first | ((with_reducible show Code.wp _ (Code.region _ (List.toArray ({ dst := _, op := Op.load 32 _, type := _, pos := _, after := _, guard := none } :: _)) false) _ _ _); refine wp_region_lit ?_) | (with_reducible show wpList _ _ _ ({ dst := _, op := Op.load 32 _, type := _, pos := _, after := _, guard := none } :: _) _ _)); refine wpList_load_mid rfl 32 _ rfl _ _ rfl _ _ (by exact rg) Tryz.underlying32 rfl (by exact Cells14.info _) ?_; dsimp only [dZ, dS]) | ((with_reducible show wpList _ _ _ ({ dst := _, op := Op.load 26 _, type := _, pos := _, after := _, guard := some _ } :: _) _ _); refine wpList_load_mid_g (by rfl) 26 _ rfl _ _ rfl _ _ (by exact rg) Tryz.underlying26 rfl (by exact infoPrg) ?_; dsimp only [dZ, dS]) | ((with_reducible show wpList _ _ _ ({ dst := _, op := Op.load 32 _, type := _, pos := _, after := _, guard := some _ } :: _) _ _); refine wpList_load_mid_g (by rfl) 32 _ rfl _ _ rfl _ _ (by exact rg) Tryz.underlying32 rfl (by exact Cells14.info _) ?_; dsimp only [dZ, dS]) | (go_at_call 13; refine (HG.out _ xt).mono ?_; rintro e w1 ⟨rfl, hb⟩; have R1 := range_ext (b := w.heap.size + 1) (o := 0) (by exact rg) hb; have Q1 := range_ext (b := w.heap.size) (o := 0) (cs := [.slice Af nf cf, .slice Ao no co, .slice Av nv cv]) (by exact rg) hb; have HE1 : Hid (Ext w w1) := Ext.trans xt hb; clear hb) | (go_at_call 17; refine (HC.out _ HE1.out).mono ?_; rintro e w4 ⟨rfl, hb4⟩; have HE4 : Hid (Ext w w4) := Ext.trans HE1.out hb4; have r4 : w4.cell? ⟨w.heap.size + 1, 3, none⟩ = some (Value.int .i64 t.status) := Ext.cell hb4 (R1 3 _ (by rw [HCL.out]; rfl)); have hz4 := lt_of_cell r4; clear hb4) | (go_at_call 14; refine (awake_any _).mono ?_; rintro e w9 ⟨rfl, hb9⟩; have HE9 := Lib.hid (Ext.trans HE4.out hb9); clear hb9))
    go_ret
    exact ⟨rfl, HE9.out⟩
end Go.Proofs.YtcjjoabofecjmaaGreat

namespace Go.Proofs.YtcjjoabofecjmaaGreat
open Go.RowKit Go.Sort
theorem OBl.cut {B k : Nat} {w : World} {bs : List Blk} {VB : Value} {hs : List Value} {gs : List (List Value)} {L : List Value} (h : OBl B w bs VB hs gs L) {b : Blk} {a : List Value} {g c m gB cB : Nat} (hb : bs[k]? = some b) (hv : hs[k]? = some (.slice (some ⟨g, 0, none⟩) b.handlers.length c)) (ha : gs[k]? = some a) (hm : m ≤ b.handlers.length)
    (hVB : VB = .slice (some ⟨gB, 0, none⟩) bs.length cB) (hL : VB ∈ L) :
    OBl B (w.setCell ⟨gB, k * 5 + 4, none⟩ (.slice (some ⟨g, 0, none⟩) m c)) (bs.set k { b with handlers := b.handlers.take m }) VB (hs.set k (.slice (some ⟨g, 0, none⟩) m c)) (gs.set k (a.take m)) L := by
  subst hVB
  have hkb : k < bs.length := (List.getElem?_eq_some_iff.1 hb).1
  obtain ⟨hal, hrow⟩ := h.hnd k b _ a hb hv ha
  obtain ⟨h4, h5⟩ := World.ownsRow.stored (g := gB) (n := bs.length) (cap := cB) h.row (k * 5 + 4) (.slice (some ⟨g, 0, none⟩) m c)
  refine ⟨by rw [List.length_set, List.length_set]; exact h.len, by rw [List.length_set, List.length_set]; exact h.alen, ?_, fun i b2 u a2 e1 e2 e3 => ?_, fun i b2 a2 q x u e1 e2 e3 e4 => ?_, fun i j u1 u2 hij e1 e2 => ?_, fun b2 hb2 => ?_⟩
  · rw [List.length_set, rowOf_same hb (List.getElem?_set_self (by rw [h.len]; exact hkb)) (by rfl), ← rowOf_put blkCells_len (j := 4) (u := .slice (some ⟨g, 0, none⟩) m c) (v' := .slice (some ⟨g, 0, none⟩) m c) hb hv (by omega) (by rfl)]
    exact h4
  · rcases set_cases e1 with ⟨rfl, rfl⟩ | ⟨hne, e1'⟩
    · rcases set_cases e2 with ⟨_, rfl⟩ | ⟨hne, _⟩
      · rcases set_cases e3 with ⟨_, rfl⟩ | ⟨hne, _⟩
        · have h9 := own_take (hrow.kept h5 (apart_ne (apart_types hrow h.row (by decide)) rfl)) hm
          refine ⟨by rw [List.length_take, List.length_take, hal], ?_⟩
          rw [List.length_take, Nat.min_eq_left hm, ← rowOf_take hdlCells_len hal]
          exact h9
        · exact absurd rfl hne
      · exact absurd rfl hne
    · rcases set_cases e2 with ⟨e, _⟩ | ⟨_, e2'⟩
      · exact absurd e hne
      · rcases set_cases e3 with ⟨e, _⟩ | ⟨_, e3'⟩
        · exact absurd e hne
        · obtain ⟨q1, q2⟩ := h.hnd i b2 u a2 e1' e2' e3'
          exact ⟨q1, q2.kept h5 (apart_ne (apart_types q2 h.row (by decide)) rfl)⟩
  · have old : ∀ (i : Nat) (b3 : Blk) (a3 : List Value), bs[i]? = some b3 → gs[i]? = some a3 → b3.handlers[q]? = some x → a3[q]? = some u →
        InR x.fn ∧ RArgs (w.setCell ⟨gB, k * 5 + 4, none⟩ (.slice (some ⟨g, 0, none⟩) m c)) x.args u ∧ (x.args = [] ∨ ∀ r ∈ L, Apart r u) := fun i b3 a3 e1 e2 e3 e4 => by
      obtain ⟨q1, q2, q3⟩ := h.arg i b3 a3 q x u e1 e2 e3 e4
      refine ⟨q1, ?_, q3⟩
      by_cases hx : x.args = []
      · rw [hx] at q2 ⊢
        obtain ⟨A, m, c, rfl, h3, h6⟩ := q2
        exact ⟨A, m, c, rfl, ⟨h3.1, h3.2.1, fun k x hk => by simp at hk⟩, h6⟩
      · rcases q3 with q3 | q3
        · exact absurd q3 hx
        · refine q2.kept h5 ?_
          rcases q3 _ hL with e | e
          · cases e
          · exact .inr fun e' => e e'.symm
    rcases set_cases e1 with ⟨rfl, rfl⟩ | ⟨hne, e1'⟩
    · rcases set_cases e2 with ⟨_, rfl⟩ | ⟨hne, _⟩
      · dsimp only at e3
        rw [List.getElem?_take] at e3 e4
        split at e3
        · rename_i hq
          rw [if_pos hq] at e4
          exact old i b a hb ha e3 e4
        · cases e3
      · exact absurd rfl hne
    · rcases set_cases e2 with ⟨e, _⟩ | ⟨_, e2'⟩
      · exact absurd e hne
      · exact old i b2 a2 e1' e2' e3 e4
  · rcases set_cases e1 with ⟨rfl, rfl⟩ | ⟨hne, e1'⟩ <;> rcases set_cases e2 with ⟨hjk, rfl⟩ | ⟨hne2, e2'⟩
    · exact absurd hjk.symm hij
    · have h9 := h.dis i j _ u2 hij hv e2'; exact h9
    · subst hjk; have h9 := h.dis i _ u1 _ hij e1' hv; exact h9
    · exact h.dis i j u1 u2 hij e1' e2'
  · rcases List.mem_or_eq_of_mem_set hb2 with hb2 | rfl
    · exact h.inr b2 hb2
    · exact h.inr b (List.mem_of_getElem? hb)
def AllArgs (P : Hdl → Value → Prop) (bs : List Blk) (gs : List (List Value)) : Prop := ∀ (i : Nat) (b : Blk) (a : List Value), bs[i]? = some b → gs[i]? = some a → ∀ (k : Nat) (h : Hdl) (v : Value), b.handlers[k]? = some h → a[k]? = some v → P h v
theorem AllArgs.cut {P : Hdl → Value → Prop} {bs : List Blk} {gs : List (List Value)} (h : AllArgs P bs gs) {k m : Nat} {b : Blk} {a : List Value} (hb : bs[k]? = some b) (ha : gs[k]? = some a) : AllArgs P (bs.set k { b with handlers := b.handlers.take m }) (gs.set k (a.take m)) := fun i b2 a2 e1 e2 q x v e3 e4 => by
  rcases set_cases e1 with ⟨rfl, rfl⟩ | ⟨hne, e1'⟩
  · rcases set_cases e2 with ⟨_, rfl⟩ | ⟨hne, _⟩
    · dsimp only at e3
      rw [List.getElem?_take] at e3 e4
      split at e3
      · rename_i hq
        rw [if_pos hq] at e4
        exact h i b a hb ha q x v e3 e4
      · cases e3
    · exact absurd rfl hne
  · rcases set_cases e2 with ⟨e, _⟩ | ⟨_, e2'⟩
    · exact absurd e hne
    · exact h i b2 a2 e1' e2' q x v e3 e4
theorem OBl.relist {B : Nat} {w : World} {bs : List Blk} {VB : Value} {hs : List Value} {gs : List (List Value)} {L L' : List Value} (h : OBl B w bs VB hs gs L) (hA : AllArgs (fun x v => x.args = [] ∨ ∀ r ∈ L', Apart r v) bs gs) : OBl B w bs VB hs gs L' :=
  ⟨h.len, h.alen, h.row, h.hnd, fun i b a k x v e1 e2 e3 e4 => ⟨(h.arg i b a k x v e1 e2 e3 e4).1, (h.arg i b a k x v e1 e2 e3 e4).2.1, hA i b a e1 e2 k x v e3 e4⟩, h.dis, h.inr⟩
theorem OBl.allArgs {B : Nat} {w : World} {bs : List Blk} {VB : Value} {hs : List Value} {gs : List (List Value)} {L : List Value} (h : OBl B w bs VB hs gs L) : AllArgs (fun x v => x.args = [] ∨ ∀ r ∈ L, Apart r v) bs gs := fun i b a e1 e2 k x v e3 e4 => (h.arg i b a k x v e1 e2 e3 e4).2.2
theorem ArgsOk.mono {P : Hdl → Value → Prop} {w W : World} {t : Tsk} {V : Value} (h : ArgsOk P w t V) (hT : RTsk w t V) (hE : Ext w W) : ArgsOk P W t V := fun cs A n c hV h8 i b hb x o hA Ah nh ch hc k hd hk y q hy v hv => by
  have h0 := h cs A n c hV h8
  obtain ⟨Af, nf, cf, Ab, nb, cb, rfl, _, _, _, _, _, _, _, _, _, _, _, hB, _, _⟩ := hT
  have e8 : A = Ab := by
    have := congrArg (fun v => match v with | .agg a => a.toList[8]? | _ => none) hV
    dsimp only at this
    rw [h8] at this
    simp only [List.getElem?_cons_succ, List.getElem?_cons_zero, Option.some.injEq, Value.slice.injEq] at this
    exact this.1.symm
  subst e8
  obtain ⟨b2, off, Aa, na, ca, hA2, hlt, _, _, _, _, ⟨hH, _⟩, _, _, _, _, c4⟩ := hB.blk hb
  rw [hA] at hA2
  injection hA2 with hA2
  injection hA2 with e1 e2 _
  subst e1 e2
  have c5 := hE.cell c4
  rw [Nat.add_assoc] at c4 c5
  rw [hc] at c5
  injection c5 with c5
  injection c5 with e1 e2 e3
  subst e1 e2 e3
  obtain ⟨b3, o3, Ag, ng, cg, hA3, hl3, _, _, _, d1⟩ := hH.hdl hk
  rw [hy] at hA3
  injection hA3 with hA3
  injection hA3 with e1 e2 _
  subst e1 e2
  have d2 := hE.cell d1
  rw [Nat.add_assoc] at d1 d2
  rw [hv] at d2
  injection d2 with d2
  subst d2
  exact h0 i b hb x o hA _ _ _ c4 k hd hk y q hy _ d1
end Go.Proofs.YtcjjoabofecjmaaGreat
