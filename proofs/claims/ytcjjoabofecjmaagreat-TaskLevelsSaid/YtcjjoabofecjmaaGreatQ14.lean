/- A part of the proof: The deferred closure of run; current and Current of package task; run of a runner; How run ends; Visible of package program; run of a runner. -/
import Derived.Test.YtcjjoabofecjmaaGreatQ13
import Derived.Test.YtcjjoabofecjmaaGreatQ07
import Derived.Test.YtcjjoabofecjmaaGreatQ11
import Derived.Test.YtcjjoabofecjmaaGreatQ06
import Derived.Test.YtcjjoabofecjmaaGreatQ04
import Derived.Defers
import Derived.Recover
import Derived.Deep.CutRange
set_option linter.unusedVariables false
set_option linter.unusedSimpArgs false
namespace Go.Proofs.YtcjjoabofecjmaaGreat
open Go.RowKit Go.Sort
set_option maxRecDepth 4000 in
set_option maxHeartbeats 1000000 in
theorem catch_idle (S : Nat) (w : World) :
    CallsD Tryz.prog 91 #[.pointer (some ⟨S, 0, none⟩)] .returning w fun e u' w' => e = .returned (.tuple #[]) ∧ u' = .returning ∧ w' = w := by
  refine callsD_of_wpS Tryz.func91 rfl fun c₀ cs hu => ?_
  apply wpS_seq
  apply wpS_region
  simp only [Tryz.ntmps91, List.size_toArray, List.length_cons, List.length_nil, Nat.reduceAdd, Nat.reduceSub, Array.replicate_succ, Array.replicate_zero, List.push_toArray, List.append_toArray, List.nil_append, List.cons_append]
  simp [wpOpsS, go_sem, recoverD, hu, Tryz.ntmps91, Exit.thenS]
  refine wpS_of_wp ?_
  go_wp2
  cases c₀
  simp_all [bodyPostS, results, Tryz.results91]
set_option maxRecDepth 4000 in
set_option maxHeartbeats 1000000 in
theorem catch_failure (S : Nat) (r : Int) (older : List PanicEntry) (w : World) (c0 : (w.cell? ⟨S, 0, none⟩).isSome) (c1 : (w.cell? ⟨S, 1, none⟩).isSome) (c2 : (w.cell? ⟨S, 2, none⟩).isSome) (hz : ∀ o, w.frozen? ⟨S, o, none⟩ = false) :
    CallsD Tryz.prog 91 #[.pointer (some ⟨S, 0, none⟩)] (.panicking ({ v := .iface 121 (Value.int .i64 r), recovered := false } :: older)) w fun e u' w' => e = .returned (.tuple #[]) ∧ u' = .panicking ({ v := .iface 121 (Value.int .i64 r), recovered := true } :: older) ∧ w' = ((w.setCell ⟨S, 0, none⟩ (Value.int .i64 3)).setCell ⟨S, 1, none⟩ (Value.int .i64 r)).setCell ⟨S, 2, none⟩ (Value.int .i64 0) := by
  obtain ⟨v0, h0⟩ := Option.isSome_iff_exists.1 c0
  obtain ⟨v1, h1⟩ := Option.isSome_iff_exists.1 c1
  obtain ⟨v2, h2⟩ := Option.isSome_iff_exists.1 c2
  clear c0 c1 c2
  refine callsD_of_wpS Tryz.func91 rfl fun c₀ cs hu => ?_
  apply wpS_seq
  apply wpS_region
  simp only [Tryz.ntmps91, List.size_toArray, List.length_cons, List.length_nil, Nat.reduceAdd, Nat.reduceSub, Array.replicate_succ, Array.replicate_zero, List.push_toArray, List.append_toArray, List.nil_append, List.cons_append]
  simp [wpOpsS, go_sem, recoverD, hu, Tryz.ntmps91, Exit.thenS]
  refine wpS_of_wp ?_
  have heq : ∀ w : World, (binOp BinOp.eql 20 (.iface 121 (Value.int .i64 r)) .nilIface).run Tryz.prog w = .ok (.bool false) w := fun _ => by kernel_rfl
  have hta : ∀ w : World, (Instr.typeAssert (.iface 121 (Value.int .i64 r)) 20 121 true).run Tryz.prog w = .ok (.tuple #[Value.int .i64 r, .bool true]) w := fun _ => by kernel_rfl
  generalize hQ : (fun e a' w' => bodyPostS Tryz.prog Tryz.f91 c₀ cs _ e a' _ w') = Q
  have HQ := Lib.hid hQ
  clear hQ
  go_wp2
  rw [← HQ.out]
  clear HQ h0 h1 h2 hz
  cases c₀
  simp_all [bodyPostS, results, Tryz.results91]
set_option maxRecDepth 4000 in
set_option maxHeartbeats 1000000 in
theorem catch_stopped (S : Nat) (a b c : Int) (older : List PanicEntry) (w : World) (c0 : (w.cell? ⟨S, 0, none⟩).isSome) (c1 : (w.cell? ⟨S, 1, none⟩).isSome) (c2 : (w.cell? ⟨S, 2, none⟩).isSome) (hz : ∀ o, w.frozen? ⟨S, o, none⟩ = false) (hS : S < w.heap.size) :
    CallsD Tryz.prog 91 #[.pointer (some ⟨S, 0, none⟩)] (.panicking ({ v := .iface 123 (.agg #[Value.int .i64 a, Value.int .i64 b, Value.int .i64 c]), recovered := false } :: older)) w fun e u' w' => e = .returned (.tuple #[]) ∧ u' = .panicking ({ v := .iface 123 (.agg #[Value.int .i64 a, Value.int .i64 b, Value.int .i64 c]), recovered := true } :: older) ∧ w' = (((w.setCell ⟨S, 0, none⟩ (Value.int .i64 a)).setCell ⟨S, 1, none⟩ (Value.int .i64 b)).setCell ⟨S, 2, none⟩ (Value.int .i64 c)).alloc (.cells #[Value.int .i64 a, Value.int .i64 b, Value.int .i64 c] 123) := by
  obtain ⟨v0, h0⟩ := Option.isSome_iff_exists.1 c0
  obtain ⟨v1, h1⟩ := Option.isSome_iff_exists.1 c1
  obtain ⟨v2, h2⟩ := Option.isSome_iff_exists.1 c2
  clear c0 c1 c2
  refine callsD_of_wpS Tryz.func91 rfl fun c₀ cs hu => ?_
  apply wpS_seq
  apply wpS_region
  simp only [Tryz.ntmps91, List.size_toArray, List.length_cons, List.length_nil, Nat.reduceAdd, Nat.reduceSub, Array.replicate_succ, Array.replicate_zero, List.push_toArray, List.append_toArray, List.nil_append, List.cons_append]
  simp [wpOpsS, go_sem, recoverD, hu, Tryz.ntmps91, Exit.thenS]
  refine wpS_of_wp ?_
  have heq : ∀ w : World, (binOp BinOp.eql 20 (.iface 123 (.agg #[Value.int .i64 a, Value.int .i64 b, Value.int .i64 c])) .nilIface).run Tryz.prog w = .ok (.bool false) w := fun _ => by kernel_rfl
  have hta : ∀ w : World, (Instr.typeAssert (.iface 123 (.agg #[Value.int .i64 a, Value.int .i64 b, Value.int .i64 c])) 20 121 true).run Tryz.prog w = .ok (.tuple #[Value.int .i64 0, .bool false]) w := fun _ => by kernel_rfl
  have htb : ∀ w : World, (Instr.typeAssert (.iface 123 (.agg #[Value.int .i64 a, Value.int .i64 b, Value.int .i64 c])) 20 123 true).run Tryz.prog w = .ok (.tuple #[.agg #[Value.int .i64 a, Value.int .i64 b, Value.int .i64 c], .bool true]) w := fun _ => by kernel_rfl
  generalize hQ : (fun e a' w' => bodyPostS Tryz.prog Tryz.f91 c₀ cs _ e a' _ w') = Q
  have HQ := Lib.hid hQ
  clear hQ
  go_wp2
  rw [← HQ.out]
  clear HQ h0 h1 h2 hz
  cases c₀
  simp_all [bodyPostS, results, Tryz.results91]
end Go.Proofs.YtcjjoabofecjmaaGreat

namespace Go.Proofs.YtcjjoabofecjmaaGreat
open Go.RowKit
def insV (x : Ins) (V : Value) : Value := .agg #[Value.int .i64 x.op, Value.int .i64 x.a, Value.int .i64 x.b, Value.int .i64 x.c, V]
def nowI (p : Prg) (t : Tsk) : Ins × Bool := match nowS p t with | none => (zeroIns, false) | some x => (x, true)
set_option maxRecDepth 4000 in
set_option maxHeartbeats 4000000 in
theorem curr_any (p : Prg) (t : Tsk) (f : Frm) (g : Fnc) (VP VT : Value) (u0 u w : World) (hP : RPrg u0 p VP) (hT : RTsk u t VT) (hE0 : Ext u0 w) (hE : Ext u w) (hf : t.frames[t.frames.length - 1]? = some f) (hg : fnAt p f.fn = some g) (hpc : 0 ≤ f.pc) :
    Calls Tryz.prog 44 #[VP, VT] w fun e w' => ∃ A n c, e = .returned (.tuple #[insV (nowI p t).1 (.slice A n c), .bool (nowI p t).2]) ∧ (RSl 1 RInt u0 A n (nowI p t).1.args ∧ n ≤ c) ∧ Ext w w' := by
  have hnow : nowS p t = g.code[f.pc.toNat]? := by unfold nowS; rw [hf]; dsimp only; rw [hg]; dsimp only; rw [if_neg (by omega)]
  obtain ⟨Af, nf, cf, Ao, no, co, Av, nv, cv, rfl, hF, hO, hVr, hcf, hco, hcv⟩ := hP
  obtain ⟨Bf, mf, df, Bb, mb, db, rfl, _, _, _, _, _, _, _, _, _, _, hF2, hB2, hdf, hdb⟩ := hT
  clear hO hVr hcf hco hcv hB2
  have hle := hF.le
  have hle2 := hF2.2.1
  have hl2 := hF2.len
  have hpos : 0 < mf := by have := (List.getElem?_eq_some_iff.1 hf).1; omega
  obtain ⟨v0, v1, v2⟩ := fnAt_some hg
  rw [← hl2] at hf
  obtain ⟨b, off, Ar, nr, cr, rfl, hlb, _, _, _, _, c0, c1, c2, c3, c4⟩ := hF2.frm hf
  have hlf := hF.len
  obtain ⟨b2, off2, Ac, nc, cc, rfl, hlb2, _, _, _, _, ⟨hC, hcc⟩, g0, g1, g2, g3, g4, g5⟩ := hF.fnc v2
  have hlt : f.fn < (nf : Int) := by omega
  have hCl := hC.le
  have HC := Lib.hid hC
  have hcl := hC.len
  replace hlb := Nat.lt_of_lt_of_le hlb hE.size
  replace hlb2 := Nat.lt_of_lt_of_le hlb2 hE0.size
  replace c0 := hE.cell c0
  replace c1 := hE.cell c1
  replace c2 := hE.cell c2
  replace c3 := hE.cell c3
  replace c4 := hE.cell c4
  replace g0 := hE0.cell g0
  replace g1 := hE0.cell g1
  replace g2 := hE0.cell g2
  replace g3 := hE0.cell g3
  replace g4 := hE0.cell g4
  replace g5 := hE0.cell g5
  by_cases hend : (nc : Int) ≤ f.pc
  · have HI : Hid (nowI p t = (zeroIns, false)) := by
      unfold Hid nowI; rw [hnow, List.getElem?_eq_none (by omega)]
    clear hnow hF hF2 hf hg hl2 hlf hC hcl v1 v2 hE hE0
    go_enter Tryz.func44, Tryz.ntmps44
    go_wp2_with (first | ((first | ((with_reducible show Code.wp _ (Code.region _ (List.toArray ({ dst := _, op := Op.load 32 _, type := _, pos := _, after := _, guard := none } :: _)) false) _ _ _); refine wp_region_lit ?_) | (with_reducible show wpList _ _ _ ({ dst := _, op := Op.load 32 _, type := _, pos := _, after := _, guard := none } :: _) _ _)); refine wpList_load_mid rfl 32 _ rfl _ _ rfl _ _ (by exact rg) Tryz.underlying32 rfl (by exact infoTsk) ?_; dsimp only [dZ, dS]) | ((go_at_call 75; refine (innermost_any _ _ _ _ _ _ _ _ _ _ _ _ _ b off mf df _ hpos hle2).mono ?_; rintro e w1 ⟨rfl, hb⟩; obtain ⟨hc, hf, hs, he⟩ := Ext.use (w := w) hb xt; clear hb; (try simp only [sA, sC, sD, sN] at hs)); have hz1 : w.heap.size + 1 + 1 < w1.heap.size := (by omega)))
    (refine wp_region_quiet_below (by kernel_rfl) (by kernel_rfl) ?_; (repeat (go_big_quiet_step (fail))); refine wpQuiet_nil ?_; intro w1 hw1; obtain ⟨hc, hf, hs, he⟩ := Ext.use (w := w) (ext_of_regrown hw1) xt; clear hw1; (try simp only [sA, sC, sD, sN] at hs))
    go_wp2
    rw [HI.out]
    refine bodyPost_ret (v := .tuple #[insV zeroIns (.slice none 0 0), .bool false]) (by simp [results, Tryz.results44, go_sem, insV, zeroIns, *]) rfl ⟨none, 0, 0, rfl, ⟨RSl.nil _, Nat.le_refl _⟩, xt⟩
  · obtain ⟨x, hx⟩ : ∃ x, g.code[f.pc.toNat]? = some x := ⟨_, List.getElem?_eq_getElem (by omega)⟩
    have HI : Hid (nowI p t = (x, true)) := by unfold Hid nowI; rw [hnow, hx]
    obtain ⟨b3, off3, Ax, nx, cx, rfl, hlb3, _, _, _, _, ⟨hX, hcx⟩, x0, x1, x2, x3, x4⟩ := hC.ins hx
    have HX := Lib.hid hX
    replace hlb3 := Nat.lt_of_lt_of_le hlb3 hE0.size
    replace x0 := hE0.cell x0
    replace x1 := hE0.cell x1
    replace x2 := hE0.cell x2
    replace x3 := hE0.cell x3
    replace x4 := hE0.cell x4
    have hltc : f.pc < (nc : Int) := by omega
    clear hnow hF hF2 hf hg hl2 hlf hC hcl v1 v2 hE hE0 hx hX
    go_enter Tryz.func44, Tryz.ntmps44
    go_wp2_with (first | ((first | ((with_reducible show Code.wp _ (Code.region _ (List.toArray ({ dst := _, op := Op.load 32 _, type := _, pos := _, after := _, guard := none } :: _)) false) _ _ _); refine wp_region_lit ?_) | (with_reducible show wpList _ _ _ ({ dst := _, op := Op.load 32 _, type := _, pos := _, after := _, guard := none } :: _) _ _)); refine wpList_load_mid rfl 32 _ rfl _ _ rfl _ _ (by exact rg) Tryz.underlying32 rfl (by exact infoTsk) ?_; dsimp only [dZ, dS]) | ((go_at_call 75; refine (innermost_any _ _ _ _ _ _ _ _ _ _ _ _ _ b off mf df _ hpos hle2).mono ?_; rintro e w1 ⟨rfl, hb⟩; obtain ⟨hc, hf, hs, he⟩ := Ext.use (w := w) hb xt; clear hb; (try simp only [sA, sC, sD, sN] at hs)); have hz1 : w.heap.size + 1 + 1 < w1.heap.size := (by omega)))
    (refine wp_region_quiet_below (by kernel_rfl) (by kernel_rfl) ?_; (repeat (go_big_quiet_step (fail))); refine wpQuiet_nil ?_; intro w1 hw1; obtain ⟨hc, hf, hs, he⟩ := Ext.use (w := w) (ext_of_regrown hw1) xt; clear hw1; (try simp only [sA, sC, sD, sN] at hs))
    go_wp2
    rw [HI.out]
    refine bodyPost_ret (v := .tuple #[insV x (.slice Ax nx cx), .bool true]) (by simp [results, Tryz.results44, go_sem, insV, *]) rfl ⟨Ax, nx, cx, rfl, ⟨HX.out, hcx⟩, xt⟩
theorem liv_top {p : Prg} {t : Tsk} (h : tcheckS p t = 0) (hl : t.frames.length ≠ 0) : ∃ f g, t.frames[t.frames.length - 1]? = some f ∧ fnAt p f.fn = some g ∧ 0 ≤ f.pc := by
  unfold tcheckS at h
  split at h
  · cases h
  · split at h
    · split at h
      · rename_i h1; exact absurd h1.1 hl
      · cases h
    · split at h
      · rename_i h1
        rw [livB_eq] at h1
        simp only [Bool.and_eq_true] at h1
        obtain ⟨f, hf⟩ : ∃ f, t.frames[t.frames.length - 1]? = some f := ⟨_, List.getElem?_eq_getElem (by omega)⟩
        have h2 := allB_iff.1 h1.1.2 (t.frames.length - 1) (Nat.zero_le _) (by omega)
        obtain ⟨g, hg⟩ := frm_fnAt h2 hf
        refine ⟨f, g, hf, hg, ?_⟩
        unfold frmB at h2
        rw [hf] at h2
        dsimp only at h2
        rw [hg] at h2
        simp only [Bool.and_eq_true, inB_iff] at h2
        exact h2.1.1.2.1
      · cases h
theorem currentS_ok {p : Prg} {t : Tsk} (h : tcheckS p t = 0) (hl : t.frames.length ≠ 0) : currentS p t = nowI p t := by
  unfold currentS nowI; rw [if_neg (by simp [h, hl])]; rfl
theorem currentS_bad {p : Prg} {t : Tsk} (h : tcheckS p t ≠ 0 ∨ t.frames.length = 0) : currentS p t = (zeroIns, false) := by
  unfold currentS; rw [if_pos h]
set_option maxRecDepth 4000 in
set_option maxHeartbeats 4000000 in
theorem Current_any (p : Prg) (t : Tsk) (VP VT : Value) (w : World) (hP : RPrg w p VP) (hT : RTsk w t VT) :
    Calls Tryz.prog 15 #[VP, VT] w fun e w' => ∃ A n c, e = .returned (.tuple #[insV (currentS p t).1 (.slice A n c), .bool (currentS p t).2]) ∧ (RSl 1 RInt w' A n (currentS p t).1.args ∧ n ≤ c) ∧ Ext w w' := by
  have HC := Lib.hid (fun W h => tCheck_any p t VP VT W (hP.mono h) (hT.mono h))
  have HP := Lib.hid hP
  have HT := Lib.hid hT
  obtain ⟨Af, nf, cf, Ao, no, co, Av, nv, cv, rfl, hF, hO, hVr, hcf, hco, hcv⟩ := hP
  obtain ⟨Bf, mf, df, Bb, mb, db, rfl, _, _, _, _, _, _, _, _, _, _, hF2, hB2, hdf, hdb⟩ := hT
  clear hO hVr hcf hco hcv hB2 hF
  have hl2 := Lib.hid hF2.len
  clear hF2
  by_cases hc : tcheckS p t = 0
  rotate_left
  · have HR : Hid (currentS p t = (zeroIns, false)) := currentS_bad (.inl hc)
    have hcb : (tcheckS p t != 0) = true := by simpa using hc
    clear hc
    go_enter Tryz.func15, Tryz.ntmps15
    go_wp2_with (first | ((first | ((with_reducible show Code.wp _ (Code.region _ (List.toArray ({ dst := _, op := Op.load 32 _, type := _, pos := _, after := _, guard := none } :: _)) false) _ _ _); refine wp_region_lit ?_) | (with_reducible show wpList _ _ _ ({ dst := _, op := Op.load 32 _, type := _, pos := _, after := _, guard := none } :: _) _ _)); refine wpList_load_mid rfl 32 _ rfl _ _ rfl _ _ (by exact rg) Tryz.underlying32 rfl (by exact infoTsk) ?_; dsimp only [dZ, dS]) | (go_at_call 17; refine (HC.out _ xt).mono ?_; rintro e w1 ⟨rfl, hb⟩; obtain ⟨hc, hf, hs, he⟩ := Ext.use (w := w) hb xt; clear hb; (try simp only [World.size_alloc] at hs); have hz1 : w.heap.size + 1 + 1 < w1.heap.size := (by omega)))
    rw [HR.out]
    refine bodyPost_ret (v := .tuple #[insV zeroIns (.slice none 0 0), .bool false]) (by simp [results, Tryz.results15, go_sem, insV, zeroIns, *]) rfl ⟨none, 0, 0, rfl, ⟨RSl.nil _, Nat.le_refl _⟩, xt⟩
  rw [hc] at HC
  by_cases hl : t.frames.length = 0
  · have HR : Hid (currentS p t = (zeroIns, false)) := currentS_bad (.inr hl)
    have hm0 : mf = 0 := by have := hl2.out; omega
    subst hm0
    clear hc hl
    go_enter Tryz.func15, Tryz.ntmps15
    go_wp2_with (first | ((first | ((with_reducible show Code.wp _ (Code.region _ (List.toArray ({ dst := _, op := Op.load 32 _, type := _, pos := _, after := _, guard := none } :: _)) false) _ _ _); refine wp_region_lit ?_) | (with_reducible show wpList _ _ _ ({ dst := _, op := Op.load 32 _, type := _, pos := _, after := _, guard := none } :: _) _ _)); refine wpList_load_mid rfl 32 _ rfl _ _ rfl _ _ (by exact rg) Tryz.underlying32 rfl (by exact infoTsk) ?_; dsimp only [dZ, dS]) | (go_at_call 17; refine (HC.out _ xt).mono ?_; rintro e w1 ⟨rfl, hb⟩; obtain ⟨hc, hf, hs, he⟩ := Ext.use (w := w) hb xt; clear hb; (try simp only [World.size_alloc] at hs); have hz1 : w.heap.size + 1 + 1 < w1.heap.size := (by omega); have hz2 : w.heap.size + 1 < w1.heap.size := (by omega)))
    rw [HR.out]
    refine bodyPost_ret (v := .tuple #[insV zeroIns (.slice none 0 0), .bool false]) (by simp [results, Tryz.results15, go_sem, insV, zeroIns, *]) rfl ⟨none, 0, 0, rfl, ⟨RSl.nil _, Nat.le_refl _⟩, xt⟩
  · obtain ⟨f, g, hf, hg, hpc⟩ := liv_top hc hl
    have HR := Lib.hid (currentS_ok hc hl)
    have HK := Lib.hid (fun W h => curr_any p t f g _ _ w w W HP.out HT.out h h hf hg hpc)
    unfold insV at HK
    have hm0 : ((mf : Int) == 0) = false := by have := hl2.out; simp only [beq_eq_false_iff_ne]; omega
    clear hc hl hf hg hpc
    go_enter Tryz.func15, Tryz.ntmps15
    go_wp2_with (first | ((first | ((with_reducible show Code.wp _ (Code.region _ (List.toArray ({ dst := _, op := Op.load 32 _, type := _, pos := _, after := _, guard := none } :: _)) false) _ _ _); refine wp_region_lit ?_) | (with_reducible show wpList _ _ _ ({ dst := _, op := Op.load 32 _, type := _, pos := _, after := _, guard := none } :: _) _ _)); refine wpList_load_mid rfl 32 _ rfl _ _ rfl _ _ (by exact rg) Tryz.underlying32 rfl (by exact infoTsk) ?_; dsimp only [dZ, dS]) | (go_at_call 17; refine (HC.out _ xt).mono ?_; rintro e w1 ⟨rfl, hb⟩; have R1 := range_ext (b := w.heap.size + 1) (o := 0) (by exact rg) hb; obtain ⟨hc, hf, hs, he⟩ := Ext.use (w := w) hb xt; clear hb; (try simp only [World.size_alloc] at hs); have hz1 : w.heap.size + 1 + 1 < w1.heap.size := (by omega); have hz2 : w.heap.size + 1 < w1.heap.size := (by omega)) | (go_at_call 44; refine (HK.out _ xt).mono ?_; rintro e w2 ⟨A, n, c, rfl, hX, hb2⟩; have HX := Lib.hid hX; obtain ⟨hc2, hf2, hs2, he2⟩ := Ext.use (w := w) hb2 xt; clear hb2; have hz3 : w.heap.size + 1 + 1 < w2.heap.size := (by omega); clear hX))
    rw [HR.out]
    refine bodyPost_ret (v := .tuple #[insV (nowI p t).1 (.slice A n c), .bool (nowI p t).2]) (by simp [results, Tryz.results15, go_sem, insV, *]) rfl ⟨A, n, c, rfl, ⟨HX.out.1.mono RInt.stays xt, HX.out.2⟩, xt⟩
end Go.Proofs.YtcjjoabofecjmaaGreat

namespace Go.Proofs.YtcjjoabofecjmaaGreat
open Go.RowKit Go.Sort
def stopA (s : Stp) : Value := .agg #[Value.int .i64 s.kind, Value.int .i64 s.reason, Value.int .i64 s.value]
def RunPost (X : List Value) (B R : Nat) (P3 : List Value) (w : World) (r : Tsk × Stp) (e : Ending) (w' : World) : Prop :=
  e = .returned (stopA r.2) ∧ (∃ n VF VB rs hs gs, RunSt X B R P3 w' r.1 n VF VB rs hs gs) ∧ Kept B w w'
def StopAt (w : World) (S : Nat) : Prop := w.heap[S]? = some (.cells #[Value.int .i64 0, Value.int .i64 0, Value.int .i64 0] 49 (0, 0))
theorem StopAt.keep {B S : Nat} {w W : World} (h : StopAt w S) (k : Kept B w W) : StopAt W S := k.cold S _ h rfl
theorem StopAt.cell {w : World} {S : Nat} (h : StopAt w S) {o : Nat} (ho : o < 3) : w.cell? ⟨S, o, none⟩ = some (Value.int .i64 0) := by
  unfold StopAt at h
  rw [show (⟨S, o, none⟩ : Addr) = ⟨S, o, none⟩ from rfl]
  simp only [World.cell?, h]
  have : o = 0 ∨ o = 1 ∨ o = 2 := by omega
  rcases this with rfl | rfl | rfl <;> rfl
theorem StopAt.frozen {w : World} {S : Nat} (h : StopAt w S) (o : Nat) : w.frozen? ⟨S, o, none⟩ = false := by
  unfold StopAt at h
  simp [World.frozen?, h]
end Go.Proofs.YtcjjoabofecjmaaGreat

namespace Go.Proofs.YtcjjoabofecjmaaGreat
open Go.RowKit Go.Sort
theorem infoStop : (Tryz.prog.info? 49).map (·.size) = some 3 := by kernel_rfl
theorem run_leaves {S : Nat} {tmps : Array Value} {w : World} {R : Ending → World → Prop} {a b c : Int} (h2 : tmps[2]? = some (.pointer (some ⟨S, 0, none⟩))) (hR : w.rangeAt S 0 [Value.int .i64 a, Value.int .i64 b, Value.int .i64 c]) (h : R (.returned (.agg #[Value.int .i64 a, Value.int .i64 b, Value.int .i64 c])) w) : Leaves Tryz.prog Tryz.f67 tmps R [] .returning w := by
  refine ⟨_, ?_, h⟩
  simp [results, Tryz.results67, h2, asAddr, run_loadVar_mid w S 0 49 _ _ hR Tryz.underlying49 rfl (by rw [infoStop]; rfl)]
theorem StopAt.some {w : World} {S : Nat} (h : StopAt w S) {o : Nat} (ho : o < 3) : (w.cell? ⟨S, o, none⟩).isSome := by rw [h.cell ho]; rfl
theorem range3 {w : World} {S : Nat} {a b c : Int} (h0 : w.cell? ⟨S, 0, none⟩ = some (Value.int .i64 a)) (h1 : w.cell? ⟨S, 1, none⟩ = some (Value.int .i64 b)) (h2 : w.cell? ⟨S, 2, none⟩ = some (Value.int .i64 c)) : w.rangeAt S 0 [Value.int .i64 a, Value.int .i64 b, Value.int .i64 c] := fun j v hj => by
  rw [Nat.zero_add]
  match j, hj with
  | 0, hj => rw [h0, ← hj]; rfl
  | 1, hj => rw [h1, ← hj]; rfl
  | 2, hj => rw [h2, ← hj]; rfl
theorem StopAt.set3 {w : World} {S : Nat} (h : StopAt w S) (a b c : Int) : (((w.setCell ⟨S, 0, none⟩ (Value.int .i64 a)).setCell ⟨S, 1, none⟩ (Value.int .i64 b)).setCell ⟨S, 2, none⟩ (Value.int .i64 c)).rangeAt S 0 [Value.int .i64 a, Value.int .i64 b, Value.int .i64 c] := by
  have c0 := h.cell (o := 0) (by omega)
  have c1 := h.cell (o := 1) (by omega)
  have c2 := h.cell (o := 2) (by omega)
  refine range3 ?_ ?_ ?_ <;> simp [cell?_setCell_if, c0, c1, c2]
theorem set3_kept {B S : Nat} {w0 w : World} (hk : Kept B w0 w) (hS : StopAt w S) (hn : w0.heap.size ≤ S) (hB : B ≤ S) (a b c : Int) : Kept B w0 (((w.setCell ⟨S, 0, none⟩ (Value.int .i64 a)).setCell ⟨S, 1, none⟩ (Value.int .i64 b)).setCell ⟨S, 2, none⟩ (Value.int .i64 c)) := by
  refine ⟨Below.setCell (Below.setCell (Below.setCell hk.below hB _) hB _) hB _, fun i o h1 h2 => ?_⟩
  have hi : i ≠ S := by have := (Array.getElem?_eq_some_iff.1 h1).1; omega
  rw [Below.heap_setCell _ _ _ _ hi, Below.heap_setCell _ _ _ _ hi, Below.heap_setCell _ _ _ _ hi]
  exact hk.cold i o h1 h2
def StopB (w : World) (S : Nat) : Prop := ∃ cur, w.heap[S]? = some (.cells cur 49 (0, 0))
theorem StopAt.b {w : World} {S : Nat} (h : StopAt w S) : StopB w S := ⟨_, h⟩
theorem StopB.setCell {w : World} {S : Nat} (h : StopB w S) (p : Addr) (v : Value) : StopB (w.setCell p v) S := by
  obtain ⟨cur, h⟩ := h
  by_cases hp : S = p.block
  · subst hp
    refine ⟨if p.spot.isSome then cur else cur.setIfInBounds p.off v, ?_⟩
    simp only [World.setCell, Array.getElem?_modify, if_true, h]
    rfl
  · exact ⟨cur, (Below.heap_setCell _ _ _ _ hp).trans h⟩
theorem row_ne_stop {w : World} {B S : Nat} {e : TypeId} {sz : Nat} {v : Value} {n : Nat} {xs : List Value} (h : w.ownsRow B e sz v n xs) (hS : StopB w S) (he : e ≠ 49) : v.ownBlock = none ∨ v.ownBlock ≠ some S := by
  cases hv : v.ownBlock with
  | none => exact .inl rfl
  | some x =>
    refine .inr fun e' => ?_
    injection e' with e'
    subst e'
    obtain ⟨cur, hc⟩ := ownsRow_type h hv
    obtain ⟨cur', hc'⟩ := hS
    rw [hc] at hc'
    injection hc' with hc'
    injection hc' with _ ht
    exact he ht
theorem RunSt.stop_set {X : List Value} {B R : Nat} {P3 : List Value} {w : World} {t : Tsk} {n : Int} {VF VB : Value} {rs hs : List Value} {gs : List (List Value)} (h : RunSt X B R P3 w t n VF VB rs hs gs) (hX : boxV (R + 1) ∈ X) (hS : StopB w (R + 1)) (o : Nat) (v : Value) : RunSt X B R P3 (w.setCell ⟨R + 1, o, none⟩ v) t n VF VB rs hs gs := by
  have hg : w.grownBy (w.setCell ⟨R + 1, o, none⟩ v) (some (R + 1)) := grown_setCell _ _ _
  refine ⟨h.three, h.box.kept hg (row_ne_stop h.box hS (by decide)), h.fr.kept hg (row_ne_stop h.fr.row hS (by decide)) (fun u hu => by obtain ⟨m, xs, hh⟩ := h.rs_row hu; exact row_ne_stop hh hS (by decide)), h.bl.wrote hg (row_ne_stop h.bl.row hS (by decide)) (fun u hu => by obtain ⟨m, xs, hh⟩ := h.hs_row hu; exact row_ne_stop hh hS (by decide)) (u := boxV (R + 1)) ?_ rfl, by rw [World.size_setCell]; exact h.lt1⟩
  exact List.mem_cons_of_mem _ (List.mem_cons_of_mem _ (List.mem_cons_of_mem _ (List.mem_append_right _ (List.mem_append_right _ hX))))
theorem RunSt.stop_set3 {X : List Value} {B R : Nat} {P3 : List Value} {w : World} {t : Tsk} {n : Int} {VF VB : Value} {rs hs : List Value} {gs : List (List Value)} (h : RunSt X B R P3 w t n VF VB rs hs gs) (hX : boxV (R + 1) ∈ X) (hS : StopAt w (R + 1)) (a b c : Int) : RunSt X B R P3 (((w.setCell ⟨R + 1, 0, none⟩ (Value.int .i64 a)).setCell ⟨R + 1, 1, none⟩ (Value.int .i64 b)).setCell ⟨R + 1, 2, none⟩ (Value.int .i64 c)) t n VF VB rs hs gs :=
  ((h.stop_set hX hS.b 0 _).stop_set hX (hS.b.setCell _ _) 1 _).stop_set hX ((hS.b.setCell _ _).setCell _ _) 2 _
def runDefers (R : Nat) : List Deferred := [{ target := Target.fn (Fn.func 91) #[.pointer (some ⟨R + 1, 0, none⟩)], args := #[] }]
theorem run_panics {X : List Value} {B R : Nat} {P3 : List Value} {w w' : World} {r : Tsk × Stp} {n : Int} {VF VB : Value} {rs hs : List Value} {gs : List (List Value)} {tmps : Array Value} {ch : List PanicEntry} (h2 : tmps[2]? = some (.pointer (some ⟨R + 1, 0, none⟩))) (hX : boxV (R + 1) ∈ X) (hst : RunSt X B R P3 w' r.1 n VF VB rs hs gs)
    (hk : Kept B w w') (hS : StopAt w' (R + 1)) (hw : w.heap.size ≤ R + 1) (hB : B ≤ R + 1) (he : Ending.panicked ch = endOf r.2) (hv : r.2.kind = 3 → r.2.value = 0) :
    bodyPostD Tryz.prog Tryz.f67 (RunPost X B R P3 w r) (Exit.panic ch) { tmps := tmps, defers := runDefers R } w' := by
  show Leaves _ _ _ _ _ _ _
  unfold endOf at he
  split at he
  · cases he
  split at he
  · rename_i h3
    injection he with he
    subst he
    refine leaves_cons (f := 91) (args := #[.pointer (some ⟨R + 1, 0, none⟩)]) (by simp) (by simp [go_sem]) ?_
    refine (catch_failure (R + 1) r.2.reason [] w' (hS.some (by omega)) (hS.some (by omega)) (hS.some (by omega)) hS.frozen).mono ?_
    rintro e u' w'' ⟨rfl, rfl, rfl⟩
    show Leaves _ _ _ _ [] .returning _
    refine run_leaves h2 (hS.set3 _ _ _) ⟨?_, ⟨_, _, _, _, _, _, hst.stop_set3 hX hS _ _ _⟩, set3_kept hk hS hw hB _ _ _⟩
    unfold stopA
    rw [h3, hv h3]
  · injection he with he
    subst he
    refine leaves_cons (f := 91) (args := #[.pointer (some ⟨R + 1, 0, none⟩)]) (by simp) (by simp [go_sem]) ?_
    refine (catch_stopped (R + 1) r.2.kind r.2.reason r.2.value [] w' (hS.some (by omega)) (hS.some (by omega)) (hS.some (by omega)) hS.frozen (hst.lt1 _ hX _ rfl)).mono ?_
    rintro e u' w'' ⟨rfl, rfl, rfl⟩
    show Leaves _ _ _ _ [] .returning _
    have hE := (Ext.refl (((w'.setCell ⟨R + 1, 0, none⟩ (Value.int .i64 r.2.kind)).setCell ⟨R + 1, 1, none⟩ (Value.int .i64 r.2.reason)).setCell ⟨R + 1, 2, none⟩ (Value.int .i64 r.2.value))).alloc (.cells #[Value.int .i64 r.2.kind, Value.int .i64 r.2.reason, Value.int .i64 r.2.value] 123)
    have hk3 := set3_kept hk hS hw hB r.2.kind r.2.reason r.2.value
    have hs0 := hst.lt1 _ hX _ rfl
    have hbx := hst.lt
    refine run_leaves h2 (range_ext (hS.set3 _ _ _) hE) ⟨rfl, ⟨_, _, _, _, _, _, (hst.stop_set3 hX hS _ _ _).mono hE⟩, Kept.trans hk3 (Kept.mono hE (by simp only [World.size_setCell]; omega))⟩
theorem run_returns {X : List Value} {B R : Nat} {P3 : List Value} {w w' : World} {r : Tsk × Stp} {n : Int} {VF VB : Value} {rs hs : List Value} {gs : List (List Value)} {tmps : Array Value} (h2 : tmps[2]? = some (.pointer (some ⟨R + 1, 0, none⟩))) (hX : boxV (R + 1) ∈ X) (hst : RunSt X B R P3 w' r.1 n VF VB rs hs gs)
    (hk : Kept B w w') (hS : StopAt w' (R + 1)) (hw : w.heap.size ≤ R + 1) (hB : B ≤ R + 1) :
    bodyPostD Tryz.prog Tryz.f67 (RunPost X B R P3 w r) Exit.ret { tmps := tmps, defers := runDefers R } (((w'.setCell ⟨R + 1, 0, none⟩ (Value.int .i64 r.2.kind)).setCell ⟨R + 1, 1, none⟩ (Value.int .i64 r.2.reason)).setCell ⟨R + 1, 2, none⟩ (Value.int .i64 r.2.value)) := by
  show Leaves _ _ _ _ _ _ _
  refine leaves_cons (f := 91) (args := #[.pointer (some ⟨R + 1, 0, none⟩)]) (by simp) (by simp [go_sem]) ?_
  refine (catch_idle (R + 1) _).mono ?_
  rintro e u' w'' ⟨rfl, rfl, rfl⟩
  show Leaves _ _ _ _ [] .returning _
  exact run_leaves h2 (hS.set3 _ _ _) ⟨rfl, ⟨_, _, _, _, _, _, hst.stop_set3 hX hS _ _ _⟩, set3_kept hk hS hw hB _ _ _⟩
theorem RPrg.ins_in {w : World} {p : Prg} {V : Value} (h : RPrg w p V) {i : Int} {g : Fnc} (hg : fnAt p i = some g) {k : Nat} {x : Ins} (hx : g.code[k]? = some x) : InR x.b := by
  obtain ⟨Af, nf, cf, Ao, no, co, Av, nv, cv, rfl, hF, _⟩ := h
  obtain ⟨b, off, Ac, nc, cc, _, _, _, _, _, _, ⟨hC, _⟩, _⟩ := hF.fnc (fnAt_some hg).2.2
  obtain ⟨b3, off3, Ax, nx, cx, _, _, _, _, i3, _⟩ := hC.ins hx
  exact i3
theorem end_zero {s : Stp} {v : Value} (h : Ending.returned v = endOf s) : s.kind = 0 := by
  unfold endOf at h
  split at h
  · assumption
  · split at h <;> cases h
theorem end_some {s : Stp} {ch : List PanicEntry} (h : Ending.panicked ch = endOf s) : ¬ s.kind = 0 := fun h0 => by
  unfold endOf at h
  rw [if_pos h0] at h
  cases h
def Bare (r : Tsk × Stp) : Prop := r.2.kind = 3 → r.2.value = 0
theorem bare_fail (t : Tsk) (r : Int) : Bare (failT t r) := fun _ => rfl
theorem bare_write (t : Tsk) (f : Frm) (i v : Int) : Bare (writeS t f i v) := by unfold writeS; split; exact fun _ => rfl; exact bare_fail _ _
theorem bare_give (t : Tsk) (f : Frm) (v : Int) : Bare (giveS t f v) := by
  unfold giveS
  split
  · exact fun _ => rfl
  split
  · exact fun h => absurd h (by show ¬ (2 : Int) = 3; decide)
  split
  · split
    · exact bare_fail _ _
    · exact fun _ => rfl
  · exact bare_fail _ _
theorem bare_exec (p : Prg) (t : Tsk) (f : Frm) (x : Ins) (hop : 1 ≤ x.op ∧ x.op ≤ 21) : Bare (execS p t f x) := by
  refine exec_cases (motive := Bare) hop (fun _ => bare_write _ _ _ _) (fun _ => bare_write _ _ _ _) (fun _ => bare_write _ _ _ _) (fun _ _ _ => bare_fail _ _) (fun _ _ _ => bare_write _ _ _ _) (fun _ _ => rfl) (fun _ _ => rfl) (fun _ => ?_) (fun _ => bare_give _ _ _) (fun _ => ?_) (fun _ => ?_) (fun _ => ?_) (fun _ => ?_) (fun _ => ?_)
  · unfold callS; split; exact bare_fail _ _; split; exact bare_fail _ _; exact fun _ => rfl
  · unfold deferS; split; exact bare_fail _ _; split; exact bare_fail _ _; exact fun _ => rfl
  · unfold maskS; split; exact bare_fail _ _; exact fun _ => rfl
  · unfold unmaskS; split; exact bare_fail _ _; split; exact bare_fail _ _; exact fun _ => rfl
  · split; exact bare_fail _ _; exact fun _ => rfl
  · split <;> exact bare_fail _ _
end Go.Proofs.YtcjjoabofecjmaaGreat

namespace Go.Proofs.YtcjjoabofecjmaaGreat
open Go.RowKit
set_option maxRecDepth 4000 in
set_option maxHeartbeats 1000000 in
theorem visible_any (op : Int) (w : World) :
    Calls Tryz.prog 26 #[Value.int .i64 op] w fun e w' => e = .returned (.bool (visS op)) ∧ Ext w w' := by
  obtain ⟨k, hk⟩ : ∃ k, (shapeS op).isSome = k := ⟨_, rfl⟩
  have HS := Lib.hid (fun W => shapeOf_any op W)
  rw [hk] at HS
  have HR : Hid (visS op = (k && decide (30 ≤ op))) := by unfold Hid visS; rw [hk]
  clear hk
  cases k with
  | false =>
    go_enter Tryz.func26, Tryz.ntmps26
    go_wp2_with (go_at_call 72; refine (HS.out _).mono ?_; rintro e w1 ⟨rfl, hb⟩; have he := Lib.hid hb; clear hb)
    go_ret
    exact ⟨ret_bool (by rw [HR.out]; rfl), by have := he.out; exact xt⟩
  | true =>
    by_cases h30 : (30 : Int) ≤ op
    · go_enter Tryz.func26, Tryz.ntmps26
      go_wp2_with (go_at_call 72; refine (HS.out _).mono ?_; rintro e w1 ⟨rfl, hb⟩; have he := Lib.hid hb; clear hb)
      go_ret
      exact ⟨ret_bool (by rw [HR.out]; simp [h30]), by have := he.out; exact xt⟩
    · go_enter Tryz.func26, Tryz.ntmps26
      go_wp2_with (go_at_call 72; refine (HS.out _).mono ?_; rintro e w1 ⟨rfl, hb⟩; have he := Lib.hid hb; clear hb)
      go_ret
      exact ⟨ret_bool (by rw [HR.out]; simp [h30]), by have := he.out; exact xt⟩
end Go.Proofs.YtcjjoabofecjmaaGreat

namespace Go.Proofs.YtcjjoabofecjmaaGreat
open Go.RowKit Go.Sort
set_option maxRecDepth 8000 in
set_option maxHeartbeats 4000000 in
theorem run_any {p : Prg} {X : List Value} {B R : Nat} {P3 : List Value} {w : World} {t : Tsk} {VF VB : Value} {rs hs : List Value} {gs : List (List Value)} (hX : boxV (R + 1) ∈ X) (hRS : w.heap.size = R + 1) (hBR : B ≤ R) (h : ∀ W, Ext w W → R + 1 < W.heap.size → RunSt X B R P3 W t 0 VF VB rs hs gs) (hr : RunOk p t) (hc : checkS p = 0) (hN : NumIn t) (u : World) (hu : Ext u w) (huB : u.heap.size ≤ B) (hP : RPrg u p (.agg P3.toArray)) :
    Calls Tryz.prog 67 #[.pointer (some ⟨R, 0, none⟩)] w (RunPost X B R P3 w (runS p 500 t 0)) := by
  have hmf : ∀ (fn : Fn) (first cap : Array Value) (w : World), (Instr.makeFunc fn first cap).run Tryz.prog w = .ok (.func fn first cap) w := fun _ _ _ _ => rfl
  obtain ⟨V0, V1, V2, rfl⟩ : ∃ V0 V1 V2, P3 = [V0, V1, V2] := by
    have h3 := (h (w.alloc (.cells #[] 0)) ((Ext.refl w).alloc _) (by simp; omega)).three
    match P3, h3 with
    | [a, b, c], _ => exact ⟨a, b, c, rfl⟩
  have hlR : R < w.heap.size := by omega
  have hBW : B ≤ w.heap.size := by omega
  have H := Lib.hid h
  have HRO := Lib.hid hr
  have hXX := Lib.hid hX
  have HN := Lib.hid hN
  have HC := Lib.hid hc
  have HU := Lib.hid hu
  have HUB := Lib.hid huB
  have HP := Lib.hid hP
  clear h hr hc hN hu huB hP hX
  obtain ⟨post, hpost⟩ : ∃ post, RunPost X B R [V0, V1, V2] w (runS p 500 t 0) = post := ⟨_, rfl⟩
  have HPost := Lib.hid hpost
  rw [hpost]
  clear hpost
  go_enter_defers Tryz.func67, Tryz.ntmps67
  go_wp2_with (go_at_call 92; refine (operations_any _).mono ?_; rintro e w1 ⟨b, rfl, hT, hb1⟩)
  have HTab := Lib.hid hT
  have HST : Hid (StopAt w1 w.heap.size) := (hb1.block _ (by simp)).trans (heap_alloc_new w _)
  have HE1 : Hid (Ext w w1) := Ext.trans xt hb1
  clear hT hb1
  go_loopg [5] 500 (fun gg _ wr => ∃ (t' : Tsk) (n' : Nat) (VF' VB' : Value) (rs' hs' : List Value) (gs' : List (List Value)), Hid (RunSt X B R [V0, V1, V2] wr t' n' VF' VB' rs' hs' gs') ∧ Hid (RunOk p t') ∧ Hid (NumIn t') ∧ Hid (Tabs wr b) ∧ Hid (Kept B w wr) ∧ Hid (StopAt wr w.heap.size) ∧ Hid (runS p 500 t 0 = runS p gg t' n') ∧ Hid (2 * (200 - n') + t'.frames.length < gg ∧ n' ≤ 200))
  case atStart => exact ⟨t, 0, _, _, _, _, _, H.out _ HE1.out (by have := lt_of_cell (HST.out.cell (o := 0) (by omega)); rw [← hRS]; exact this), HRO.out, HN.out, HTab.out, Kept.mono HE1.out hBW, HST.out, rfl, ⟨by have := HRO.out.len; omega, by omega⟩⟩
  case round =>
    obtain ⟨t', n', VF', VB', rs', hs', gs', H', HR', HN', HT', HK', HS', HQ', HM'⟩ := hrel
    clear H HRO HN HTab HST HE1
    obtain ⟨f, hf⟩ := HR'.out.top
    obtain ⟨g, hg⟩ := HR'.out.fr _ f hf
    obtain ⟨kk, hkk⟩ : ∃ kk, gk = kk + 1 := ⟨gk - 1, by have := HM'.out.1; omega⟩
    subst hkk
    have HU' : Hid (Ext u wr) := Below.trans HU.out (Below.mono HK'.out.below HUB.out)
    have HCur := Lib.hid (fun W (hE : Ext wr W) => curr_any p t' f g _ _ u wr W HP.out (H'.out.rtsk HN'.out (HR'.out.wk HC.out)) (HU'.out.trans hE) hE hf hg.fn hg.pc.1)
    have HF := Lib.hid hf
    have HG := Lib.hid hg
    have R0 : Hid (wr.rangeAt R 0 [V0, V1, V2]) := fun j v hj => by rw [Nat.zero_add]; exact H'.out.cellP hj
    have R1 := Lib.hid H'.out.task
    have hlR' := H'.out.lt.2
    unfold insV at HCur
    unfold tskL at HCur R1
    clear hf hg
    go_upto_region 3 with fail
    go_cut [4, 5] from 8 to 50 (fun s4 s5 wx => ∃ (I : Nat) (A : Option Addr) (m c : Nat), s4 = .pointer (some ⟨I, 0, none⟩) ∧ s5 = .bool (nowI p t').2 ∧ Hid (Ext wr wx) ∧ Hid (wr.heap.size ≤ I) ∧ Hid (wx.rangeAt I 0 [Value.int .i64 (nowI p t').1.op, Value.int .i64 (nowI p t').1.a, Value.int .i64 (nowI p t').1.b, Value.int .i64 (nowI p t').1.c, .slice A m c]) ∧ Hid (RSl 1 RInt u A m (nowI p t').1.args))
    case first =>
      refine wp_region_noPanic ?_
      refine wp_region_th 14 (fun W' => Ext wr W') (by kernel_rfl) (by kernel_rfl) (by kernel_rfl) (by kernel_rfl) (by decide) ?_ ?_
      · exact xt
      intro hT hHeld
      (refine tht 0 hT ?_; (try simp only [Act.put, aset, dZ, dS]); refine tht 1 hT ?_; (try simp only [Act.put, aset, dZ, dS]); refine tht 2 hT ?_; (try simp only [Act.put, aset, dZ, dS]))
      (refine th_take (i := 3) (oi := ?oi3_1) (v := ?v3_1) hT ?hi3_1 (by decide) (by kernel_rfl) (by kernel_rfl) ?hq3_1 (Or.inl ⟨?hw3_1, ?hy3_1⟩) (by assumption) ?rest3_1; (case hi3_1 => (simp only [List.getElem?_toArray, List.getElem?_cons_zero, List.getElem?_cons_succ]; rfl)); (case hw3_1 => rfl); (case hy3_1 => (intro w' hSw; refine Eq.trans (exec_load_mid 26 _ (by rfl) R 0 (by rfl) _ _ Tryz.underlying26 (by rfl) ?hiL3_1 w' (range_ext R0.out hSw)) ?eqL3_1; (case eqL3_1 => with_reducible rfl); exact infoPrg)); (case hq3_1 => (exact fun _ _ _ h => h)); (try simp only [Act.put, aset, dZ, dS]))
      (refine tht 4 hT ?_; (try simp only [Act.put, aset, dZ, dS]); refine tht 5 hT ?_; (try simp only [Act.put, aset, dZ, dS]); refine tht 6 hT ?_; (try simp only [Act.put, aset, dZ, dS]))
      (refine th_take (i := 7) (oi := ?oi7_2) (v := ?v7_2) hT ?hi7_2 (by decide) (by kernel_rfl) (by kernel_rfl) ?hq7_2 (Or.inl ⟨?hw7_2, ?hy7_2⟩) (by assumption) ?rest7_2; (case hi7_2 => (simp only [List.getElem?_toArray, List.getElem?_cons_zero, List.getElem?_cons_succ]; rfl)); (case hw7_2 => rfl); (case hy7_2 => (intro w' hSw; refine Eq.trans (exec_load_mid 32 _ (by rfl) R 3 (by rfl) _ _ Tryz.underlying32 (by rfl) ?hiL7_2 w' (range_ext R1.out hSw)) ?eqL7_2; (case eqL7_2 => with_reducible rfl); exact infoTsk)); (case hq7_2 => (exact fun _ _ _ h => h)); (try simp only [Act.put, aset, dZ, dS]))
      (refine th_two (i := 8) (j := 12) (oi := ?oA8_3) (oj := ?oB8_3) ?hA8_3 ?hB8_3 (by decide) (by decide) (by kernel_rfl) (fun K hK => ?_) (fun K hK => ?_); (case hA8_3 => (simp only [List.getElem?_toArray, List.getElem?_cons_zero, List.getElem?_cons_succ]; rfl)); (case hB8_3 => (simp only [List.getElem?_toArray, List.getElem?_cons_zero, List.getElem?_cons_succ]; rfl)))
      · go_simp
        go_at_call 44
        refine (HCur.out _ hHeld).mono ?_
        rintro e w5 ⟨A, m, c, rfl, ⟨hX, _⟩, hb5⟩
        have HX := Lib.hid hX
        clear hX
        dsimp only
        have hE5 : Ext wr w5 := Ext.trans hHeld hb5
        have hz5 := hE5.size
        refine hK.out _ _ (Ext.trans hHeld hb5) (fun hHeld => ?_)
        clear hK K
        (try simp only [Act.put, List.setIfInBounds_toArray, List.set_cons_zero, List.set_cons_succ])
        (refine tht 9 hT ?_; (try simp only [Act.put, aset, dZ, dS]); refine tht 10 hT ?_; (try simp only [Act.put, aset, dZ, dS]); refine tht 11 hT ?_; (try simp only [Act.put, aset, dZ, dS]))
        refine tst 12 (fun K hK => ?_)
        go_simp
        refine hK.out _ _ (hHeld.alloc _) (fun hHeld => ?_)
        clear hK K
        (try simp only [Act.put, List.setIfInBounds_toArray, List.set_cons_zero, List.set_cons_succ])
        refine tst 13 (fun K hK => ?_)
        go_simp
        refine hK.out _ _ (hE5.alloc _) (fun hHeld => ?_)
        clear hK K
        (try simp only [Act.put, List.setIfInBounds_toArray, List.set_cons_zero, List.set_cons_succ])
        refine th_done (by kernel_rfl) ?_
        simp only [List.drop_succ_cons, List.drop_zero]
        go_wp2
        refine NoPanic.normal ?_
        go_wp2
        go_meet
        exact ⟨w5.heap.size, A, m, c, rfl, rfl, hE5.alloc _, hz5, (fun j v hj => by rw [Nat.zero_add, cell?_alloc_if, if_neg (Nat.lt_irrefl _), if_pos rfl]; simpa using hj), HX.out⟩
      · go_simp
        refine hK.out _ _ (hHeld.alloc _) (fun hHeld => ?_)
        clear hK K
        (try simp only [Act.put, List.setIfInBounds_toArray, List.set_cons_zero, List.set_cons_succ])
        refine tst 8 (fun K hK => ?_)
        go_simp
        go_at_call 44
        refine (HCur.out _ xt).mono ?_
        rintro e w5 ⟨A, m, c, rfl, ⟨hX, _⟩, hb5⟩
        have HX := Lib.hid hX
        clear hX
        dsimp only
        have T5 := there_ext (b := wr.heap.size) (o := 0) (n := 5) (by exact tr) hb5
        have F5 : ∀ o, w5.frozen? ⟨wr.heap.size, o, none⟩ = false := fun o => by rw [Below.frozen hb5 (by simp)]; simp [go_sem]
        have hE5 : Ext wr w5 := Ext.trans xt hb5
        have k0 := Option.isSome_iff_exists.1 (T5 0 (by omega)).1
        have k1 := Option.isSome_iff_exists.1 (T5 1 (by omega)).1
        have k2 := Option.isSome_iff_exists.1 (T5 2 (by omega)).1
        have k3 := Option.isSome_iff_exists.1 (T5 3 (by omega)).1
        have k4 := Option.isSome_iff_exists.1 (T5 4 (by omega)).1
        simp only [Nat.zero_add] at k0 k1 k2 k3 k4
        obtain ⟨v0, k0⟩ := k0
        obtain ⟨v1, k1⟩ := k1
        obtain ⟨v2, k2⟩ := k2
        obtain ⟨v3, k3⟩ := k3
        obtain ⟨v4, k4⟩ := k4
        refine hK.out _ _ hE5 (fun hHeld => ?_)
        clear hK K
        (try simp only [Act.put, List.setIfInBounds_toArray, List.set_cons_zero, List.set_cons_succ])
        (refine tht 9 hT ?_; (try simp only [Act.put, aset, dZ, dS]); refine tht 10 hT ?_; (try simp only [Act.put, aset, dZ, dS]); refine tht 11 hT ?_; (try simp only [Act.put, aset, dZ, dS]))
        refine tst 13 (fun K hK => ?_)
        go_simp
        have hF : Ext wr (w5.setCells wr.heap.size 0 [Value.int .i64 (nowI p t').1.op, Value.int .i64 (nowI p t').1.a, Value.int .i64 (nowI p t').1.b, Value.int .i64 (nowI p t').1.c, .slice A m c]) := Ext.setCells hE5 (Nat.le_refl _) 0 _
        have RF : (w5.setCells wr.heap.size 0 [Value.int .i64 (nowI p t').1.op, Value.int .i64 (nowI p t').1.a, Value.int .i64 (nowI p t').1.b, Value.int .i64 (nowI p t').1.c, .slice A m c]).rangeAt wr.heap.size 0 [Value.int .i64 (nowI p t').1.op, Value.int .i64 (nowI p t').1.a, Value.int .i64 (nowI p t').1.b, Value.int .i64 (nowI p t').1.c, .slice A m c] := World.rangeAt_setCells_same _ _ 0 _ T5
        refine hK.out _ _ hF (fun hHeld => ?_)
        clear hK K
        (try simp only [Act.put, List.setIfInBounds_toArray, List.set_cons_zero, List.set_cons_succ])
        refine th_done (by kernel_rfl) ?_
        simp only [List.drop_succ_cons, List.drop_zero]
        clear hHeld T5 F5 k0 k1 k2 k3 k4
        go_wp2
        refine NoPanic.normal ?_
        go_wp2
        go_meet
        exact ⟨wr.heap.size, A, m, c, rfl, rfl, hF, Nat.le_refl _, RF, HX.out⟩
    case rest =>
      obtain ⟨I, A, m, c, rfl, rfl, HE, HI, HR, HX⟩ := hcut
      have hnow : nowI p t' = match g.code[f.pc.toNat]? with | none => (zeroIns, false) | some x => (x, true) := by
        unfold nowI nowS
        have h1 := HF.out
        unfold topF at h1
        rw [h1]
        dsimp only
        rw [HG.out.fn]
        dsimp only
        rw [if_neg (by have := HG.out.pc.1; omega)]
        all_goals (cases g.code[f.pc.toNat]? <;> rfl)
      have HW : Hid (RunSt X B R [V0, V1, V2] wc t' n' VF' VB' rs' hs' gs') := H'.out.mono HE.out
      have HKc : Hid (Kept B w wc) := Kept.trans HK'.out (Kept.mono HE.out (by have := H'.out.lt; omega))
      have HSc : Hid (StopAt wc (R + 1)) := by rw [← hRS]; exact HS'.out.keep (Kept.mono HE.out (Nat.zero_le _))
      obtain ⟨C3, C4, C5, C6, C7, C8, C9, C10, C11, D6, D7, HTb0⟩ := HT'.out
      have HTb : Hid (TabOk wc b C3 C4 C5 C6 C7 C8 C9 C10 C11 D6 D7) := HTb0.keep (Kept.mono HE.out (Nat.zero_le _))
      clear HTb0
      have hrun : Hid (runS p (kk + 1) t' n' = match g.code[f.pc.toNat]? with
        | none => if (giveS t' f 0).2.kind = 0 then runS p kk (giveS t' f 0).1 n' else giveS t' f 0
        | some x => if visS x.op = true then (t', ⟨1, 0, 0⟩) else if n' = 200 then failT t' 7 else if (execS p t' f x).2.kind = 0 then runS p kk (execS p t' f x).1 (n' + 1) else execS p t' f x) := by
        unfold Hid
        conv => lhs; unfold runS
        rw [HF.out]
        dsimp only
        rw [HG.out.fn]
        dsimp only
        all_goals (cases g.code[f.pc.toNat]? <;> rfl)
      cases hx : g.code[f.pc.toNat]? with
      | none =>
        rw [hx] at hnow hrun
        dsimp only at hnow hrun
        have HL := Lib.hid (fun W (hE : Ext wc W) => (leave_any (HW.out.mono hE) HR'.out HC.out HF.out 0 (by decide)).mono fun e w' hp => OpPost.base hp (Kept.mono hE (by have := HW.out.lt; omega)))
        have hFt := Lib.hid (fate_give HR'.out HF.out (v := 0) (by decide))
        obtain ⟨G, hG⟩ : ∃ G, giveS t' f 0 = G := ⟨_, rfl⟩
        have hBare := Lib.hid (bare_give t' f 0)
        rw [hG] at HL hrun hFt hBare
        rw [hnow]
        clear hnow hG hx HCur R1
        dsimp only
        go_wp2_with (go_at_call 93; refine (HL.out _ xt).mono ?_; rintro e w5 HP5; have HPo := Lib.hid HP5; rcases HP5.ends with rfl | ⟨ch, rfl⟩; all_goals clear HP5)
        · obtain ⟨VF2, VB2, rs2, hs2, gs2, hst⟩ := HPo.out.2.1
          have h0 := end_zero HPo.out.1
          have HF2 : Hid (RunOk p G.1 ∧ G.1.frames.length ≤ t'.frames.length - 1) := by
            rcases hFt.out.2 with ⟨_, h1, h2⟩ | ⟨h1, _⟩
            · exact ⟨h1, h2⟩
            · exact absurd h0 h1
          have HST := Lib.hid hst
          clear hst
          go_roundg kk
          case measure => omega
          case rel => exact ⟨G.1, n', VF2, VB2, rs2, hs2, gs2, HST.out, HF2.out.1, HN'.out.same hFt.out.1, ⟨_, _, _, _, _, _, _, _, _, _, _, HTb.out.keep HPo.out.2.2⟩, Kept.trans HKc.out HPo.out.2.2, by rw [hRS]; exact HSc.out.keep HPo.out.2.2, HQ'.out.trans (hrun.out.trans (if_pos h0)), ⟨by have := HM'.out.1; have := HF2.out.2; have := HR'.out.pos; omega, HM'.out.2⟩⟩
        · obtain ⟨VF2, VB2, rs2, hs2, gs2, hst⟩ := HPo.out.2.1
          rw [← HPost.out, HQ'.out.trans (hrun.out.trans (if_neg (end_some HPo.out.1)))]
          exact run_panics rfl hXX.out hst (Kept.trans HKc.out HPo.out.2.2) (HSc.out.keep HPo.out.2.2) (by omega) (by omega) HPo.out.1 hBare.out
      | some x =>
        rw [hx] at hnow hrun
        dsimp only at hnow hrun
        rw [hnow] at HR HX ⊢
        dsimp only at HR HX ⊢
        have HIB := Lib.hid (HP.out.ins_in HG.out.fn hx)
        have HXX := Lib.hid hx
        have HV := Lib.hid (fun W => visible_any x.op W)
        have k0 : wc.cell? ⟨I, 0, none⟩ = some (Value.int .i64 x.op) := HR.out 0 _ rfl
        have k1 : wc.cell? ⟨I, 1, none⟩ = some (Value.int .i64 x.a) := HR.out 1 _ rfl
        have k2 : wc.cell? ⟨I, 2, none⟩ = some (Value.int .i64 x.b) := HR.out 2 _ rfl
        have k3 : wc.cell? ⟨I, 3, none⟩ = some (Value.int .i64 x.c) := HR.out 3 _ rfl
        have k4 : wc.cell? ⟨I, 4, none⟩ = some (.slice A m c) := HR.out 4 _ rfl
        have s0 := HSc.out.cell (o := 0) (by omega)
        have s1 := HSc.out.cell (o := 1) (by omega)
        have s2 := HSc.out.cell (o := 2) (by omega)
        have sf := HSc.out.frozen
        have kn := HW.out.cellN
        have kf := HW.out.frozen 17
        have zI : I < wc.heap.size := lt_of_cell k0
        have zS : R + 1 < wc.heap.size := lt_of_cell s0
        have zR : R < wc.heap.size := by omega
        clear hnow hx HCur R1
        cases hv : visS x.op with
        | true =>
          rw [hv, if_pos rfl] at hrun
          rw [hv] at HV
          go_wp2_with (go_at_call 26; refine (HV.out _).mono ?_; rintro e w5 ⟨rfl, hb5⟩; have HB5 := Lib.hid hb5; obtain ⟨hc5, hf5, hs5, he5⟩ := Ext.use (w := wc) hb5 xt; clear hb5)
          rw [← HPost.out, HQ'.out.trans hrun.out]
          exact run_returns (r := (t', ⟨1, 0, 0⟩)) rfl hXX.out (HW.out.mono HB5.out) (Kept.trans HKc.out (Kept.mono HB5.out (by have := HW.out.lt; omega))) (HSc.out.keep (Kept.mono HB5.out (Nat.zero_le _))) (by omega) (by omega)
        | false =>
          have hv0 : visS x.op = false := hv
          rw [hv, if_neg (by decide)] at hrun
          rw [hv] at HV
          by_cases h200 : n' = 200
          · rw [if_pos h200] at hrun
            have hn2 : ((n' : Int) == 200) = true := by rw [h200]; rfl
            clear h200 hv hv0
            go_wp2_with (go_at_call 26; refine (HV.out _).mono ?_; rintro e w5 ⟨rfl, hb5⟩; have HB5 := Lib.hid hb5; obtain ⟨hc5, hf5, hs5, he5⟩ := Ext.use (w := wc) hb5 xt; clear hb5)
            rw [← HPost.out, HQ'.out.trans hrun.out]
            exact run_returns (r := failT t' 7) rfl hXX.out (HW.out.mono HB5.out) (Kept.trans HKc.out (Kept.mono HB5.out (by have := HW.out.lt; omega))) (HSc.out.keep (Kept.mono HB5.out (Nat.zero_le _))) (by omega) (by omega)
          · rw [if_neg h200] at hrun
            have hn2 : ((n' : Int) == 200) = false := beq_eq_false_iff_ne.2 (by omega)
            have HL2 : Hid (n' < 200) := by have := HM'.out.2; rw [Hid]; omega
            have hn200 : n' ≤ 200 := HM'.out.2
            have hwn : IntKind.i64.wrap ((n' : Int) + 1) = (n' : Int) + 1 := IntWalk.i64_in _ (by omega)
            have hFt := Lib.hid (exec_fate HC.out HR'.out HF.out HG.out HXX.out hv0)
            have hop := local_op (ins_ok ((fn_ok HC.out (fnAt_mem HG.out.fn)).ins x (List.mem_of_getElem? HXX.out))).shape hv0
            have hBare := Lib.hid (bare_exec p t' f x hop)
            have HEX := Lib.hid (fun W (hS : RunSt X B R [V0, V1, V2] W t' ((n' : Int) + 1) VF' VB' rs' hs' gs') (hU : Ext u W) (hT : TabOk W b C3 C4 C5 C6 C7 C8 C9 C10 C11 D6 D7) => exec_any hS HR'.out HC.out HN'.out u hU HUB.out HP.out HF.out HG.out x HXX.out hv0 A m c HX.out HIB.out hT)
            have HOP := Lib.hid hop
            obtain ⟨G, hG⟩ : ∃ G, execS p t' f x = G := ⟨_, rfl⟩
            rw [hG] at hrun hFt hBare HEX
            clear hG h200 hv hv0 hop
            go_wp2_with (first | (go_at_call 26; refine (HV.out _).mono ?_; rintro e w5 ⟨rfl, hb5⟩; have HB5 := Lib.hid hb5; have HN5 := Lib.hid ((HW.out.mono hb5).set_n ((n' : Int) + 1)); have HU5 : Hid (Ext u (w5.setCell ⟨R, 17, none⟩ (Value.int .i64 ((n' : Int) + 1)))) := Ext.setCell (Ext.trans HU'.out (Ext.trans HE.out hb5)) (show u.heap.size ≤ R by have := HUB.out; rw [Hid] at *; omega) _; have HK5 : Hid (Kept B wc (w5.setCell ⟨R, 17, none⟩ (Value.int .i64 ((n' : Int) + 1)))) := Kept.store (Kept.mono hb5 (by have := HW.out.lt; omega)) hBR _ HN5.out.hotR; obtain ⟨gk, lb, eV, eg, hcall⟩ := HEX.out _ HN5.out HU5.out (HTb.out.keep HK5.out); have hlk := tab_look (HTb.out.keep HK5.out) HOP.out; rw [eV] at hlk; have HCALL := Lib.hid hcall; unfold Enters at eg; obtain ⟨hc5, hf5, hs5, he5⟩ := Ext.use (w := wc) hb5 xt; clear hb5 hcall eV) | (go_at_fn gk; refine HCALL.out.mono ?_; rintro e w6 HP6; have HPo := Lib.hid (OpPost.base HP6 HK5.out); rcases HP6.ends with rfl | ⟨ch, rfl⟩; all_goals clear HP6))
            · obtain ⟨VF2, VB2, rs2, hs2, gs2, hst⟩ := HPo.out.2.1
              have h0 := end_zero HPo.out.1
              have HF2 : Hid (RunOk p G.1 ∧ G.1.frames.length ≤ t'.frames.length + 1) := by
                rcases hFt.out.2 with ⟨_, h1, h2⟩ | ⟨h1, _⟩
                · exact ⟨h1, h2⟩
                · exact absurd h0 h1
              have HST := Lib.hid hst
              clear hst
              go_roundg kk
              case measure => omega
              case rel => exact ⟨G.1, n' + 1, VF2, VB2, rs2, hs2, gs2, HST.out, HF2.out.1, HN'.out.same hFt.out.1, ⟨_, _, _, _, _, _, _, _, _, _, _, HTb.out.keep HPo.out.2.2⟩, Kept.trans HKc.out HPo.out.2.2, by rw [hRS]; exact HSc.out.keep HPo.out.2.2, HQ'.out.trans (hrun.out.trans (if_pos h0)), ⟨by have := HM'.out.1; have := HF2.out.2; have := HL2.out; omega, by have := HL2.out; omega⟩⟩
            · obtain ⟨VF2, VB2, rs2, hs2, gs2, hst⟩ := HPo.out.2.1
              rw [← HPost.out, HQ'.out.trans (hrun.out.trans (if_neg (end_some HPo.out.1)))]
              exact run_panics rfl hXX.out hst (Kept.trans HKc.out HPo.out.2.2) (HSc.out.keep HPo.out.2.2) (by omega) (by omega) HPo.out.1 hBare.out
end Go.Proofs.YtcjjoabofecjmaaGreat
