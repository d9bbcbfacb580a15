/- A part of the proof: The operation that calls, where there is room; The operation that registers a clean-up handler; The table of the local operations; Whatever local operation. -/
import Derived.Test.YtcjjoabofecjmaaGreatQ12
import Derived.Maps.Own
set_option linter.unusedVariables false
set_option linter.unusedSimpArgs false
namespace Go.Proofs.YtcjjoabofecjmaaGreat
open Go.RowKit Go.Sort
theorem RSl.of_row {W : World} {C : Nat} {A : Option Addr} {n c : Nat} {xs : List Int} (h : W.ownsRow C 3 1 (.slice A n c) n (xs.map (Value.int .i64))) (hl : n = xs.length) (hn : n ≤ 1000) (hi : ∀ x ∈ xs, InR x) : RSl 1 RInt W A n xs := by
  subst hl
  obtain ⟨A2, n2, c2, e, h2, _⟩ := RArgs.of_row h hn hi
  injection e with q1 q2 q3
  subst q1 q2
  exact h2
set_option maxRecDepth 8000 in
set_option maxHeartbeats 4000000 in
theorem op_call_ok {p : Prg} {X : List Value} {B R : Nat} {P3 : List Value} {w : World} {t : Tsk} {n : Int} {VF VB : Value} {rs hs : List Value} {gs : List (List Value)} (h : RunSt X B R P3 w t n VF VB rs hs gs) (hr : RunOk p t) (hc : checkS p = 0) (hN : NumIn t) (u : World) (hu : Ext u w) (huB : u.heap.size ≤ B) (hP : RPrg u p (.agg P3.toArray)) {f : Frm} {g : Fnc} (hf : topF t = some f) (hg : FrOk p f g) (hpc : f.pc < g.code.length) (hcl : f.cleanup = false)
    (x : Ins) (A : Option Addr) (m c : Nat) (hx : RSl 1 RInt u A m x.args) (ha : 0 ≤ x.a ∧ x.a < g.regs) (kf : Fnc) (hk : fnAt p x.b = some kf) (hal : (x.args.length : Int) ≤ kf.regs) (har : ∀ a ∈ x.args, 0 ≤ a ∧ a < g.regs) (h8 : ¬ 8 ≤ plainN t) :
    Calls Tryz.prog 141 #[.pointer (some ⟨R, 0, none⟩), .agg #[Value.int .i64 x.op, Value.int .i64 x.a, Value.int .i64 x.b, Value.int .i64 x.c, .slice A m c]] w (OpPost X B R P3 w (callS p t f x) n) := by
  have ht := hr.topOk hc hf
  have hgo := fn_ok hc (fnAt_mem hg.fn)
  have hko := fn_ok hc (fnAt_mem hk)
  have hR : callS p t f x = ({ t with frames := t.frames.set (t.frames.length - 1) { f with pc := f.pc + 1 } ++ [⟨x.b, 0, regsOf kf.regs.toNat (argsOf f x.args), x.a, false⟩] }, goOn) := by unfold callS; rw [if_neg h8, hk]
  rw [hR]
  have hlR := h.lt.2
  have hBR := h.lt.1
  have hBW : B ≤ w.heap.size := by have := h.lt; omega
  have hin := inHand_top hf
  rw [hcl] at hin
  have HH := Lib.hid (fun W (hE : Ext w W) => handles_any t _ W ((h.mono hE).rtsk hN (hr.wk hc)))
  rw [hin] at HH
  have hml := hx.len
  have hp1 := hko.par
  have hp2 := hko.reg
  have hp3 := hgo.reg
  have hfr := hg.regs
  have hm : m ≤ 32 := by omega
  have HAr := Lib.hid (fun W (hE : Ext w W) => arguments_any (h.mono hE) ht x A m c (hx.mono RInt.stays (hu.trans hE)) (by omega) (fun a h1 => ⟨(har a h1).1, by have := (har a h1).2; omega⟩))
  have HAI : Hid (∀ z ∈ argsOf f x.args, InR z) := fun z hz => by
    unfold argsOf at hz
    obtain ⟨a, ha', rfl⟩ := List.mem_map.1 hz
    exact num_in (regS_num hg (har a ha'))
  have HAL : Hid (m = (argsOf f x.args).length) := by rw [Hid, hml]; simp [argsOf]
  obtain ⟨Af, nf, cf, Ao, no, co, Av, nv, cv, e3, hF, _⟩ := hP
  have eP : P3 = [.slice Af nf cf, .slice Ao no co, .slice Av nv cv] := by
    injection e3 with e3
    have := congrArg Array.toList e3
    simpa using this
  subst eP
  obtain ⟨k0, k1, k2⟩ := fnAt_some hk
  obtain ⟨b, off, Ac, nc, cc, rfl, hlb, _, i1, i2, i3, ⟨_, _⟩, q0, q1, q2, q3, q4, q5⟩ := hF.fnc k2
  obtain ⟨kb, hkb⟩ : ∃ kb : Nat, x.b = (kb : Int) := ⟨x.b.toNat, by omega⟩
  obtain ⟨N2, hN2⟩ : ∃ N2 : Nat, kf.regs = (N2 : Int) := ⟨kf.regs.toNat, by omega⟩
  have hkl : (kb : Int) < (nf : Int) := by have := hF.len; omega
  have hnfl := hF.le
  rw [hkb, Int.toNat_natCast] at q0 q1 q2 q3 q4 q5
  rw [hN2] at q2 ⊢
  rw [Int.toNat_natCast]
  have HL2 : Hid (N2 ≤ 32) := by rw [Hid]; omega
  have HLe : Hid ((argsOf f x.args).length ≤ N2) := by rw [Hid, ← HAL.out]; omega
  have R1 := h.task
  have m0 : w.cell? ⟨R, 0, none⟩ = some (.slice (some ⟨b, off, none⟩) nf cf) := h.cellP (j := 0) rfl
  have m1 : w.cell? ⟨R, 10, none⟩ = some VF := h.cellT (j := 7) rfl
  obtain ⟨gF, cF, v', rfl, hv, hpos, hgF, ⟨Av', cv', rfl, hcv⟩, c0, c1, c2, c3, c4⟩ := h.top hf
  obtain ⟨g2, c2', e2, hB2, z2, _, _⟩ := h.set_pc hf
  cases e2
  have hcF : t.frames.length ≤ cF := by
    obtain ⟨A9, cF', e9, hcF, _⟩ := ownsRow_shape h.fr.row
    injection e9 with q1 q2 q3
    omega
  have hneR2 : ¬ gF = R := fun e => by
    have := apart_types h.fr.row h.box (by decide)
    subst e
    rcases this with h | h
    · cases h
    · exact h rfl
  have hneR4 : ¬ R = gF := fun e => hneR2 e.symm
  have hneb : ¬ gF = b := fun e => by omega
  replace hlb := Nat.lt_of_lt_of_le hlb hu.size
  replace q0 := hu.cell q0
  replace q1 := hu.cell q1
  replace q2 := hu.cell q2
  replace q3 := hu.cell q3
  replace q4 := hu.cell q4
  replace q5 := hu.cell q5
  have hneb4 : ¬ b = gF := fun e => hneb e.symm
  have H := Lib.hid h
  have HT := Lib.hid hf
  have hpc1 := hg.pc
  have hlen2 := hgo.len
  have hwr : IntKind.i64.wrap (f.pc + 1) = f.pc + 1 := IntWalk.i64_in _ (by omega)
  have HPc : Hid (InR (f.pc + 1)) := ⟨by omega, by omega⟩
  have hle := hr.len
  have h8N : ¬ (8 : Int) ≤ (t.frames.length : Int) := by unfold plainN at h8; rw [hin] at h8; simp at h8; omega
  have HIA : Hid (InR x.a) := ⟨by omega, by omega⟩
  have HIB : Hid (InR x.b) := ⟨by omega, by omega⟩
  rw [hkb] at HIB ⊢
  rw [hkb] at HAr
  unfold tskL at R1 HH
  clear h hR hr hc hf hcl h8 hin hN hv ht hgo hko hg hx har hF e3 hk k0 k1 k2 hkb hN2 hu huB hal ha hp1 hp2 hp3 hfr hml i1 i2 i3 hlen2
  obtain ⟨N, hN⟩ : ∃ N, t.frames.length = N := ⟨_, rfl⟩
  have HN := Lib.hid hN
  rw [hN] at R1 m1 HH h8N hle c0 c1 c2 c3 c4 hpos z2 hcF
  clear hN
  go_enter Tryz.func141, Tryz.ntmps141
  go_wp2_with (first | ((first | ((with_reducible show Code.wp _ (Code.region _ (List.toArray ({ dst := _, op := Op.load 32 _, type := _, pos := _, after := _, guard := none } :: _)) false) _ _ _); refine wp_region_lit ?_) | (with_reducible show wpList _ _ _ ({ dst := _, op := Op.load 32 _, type := _, pos := _, after := _, guard := none } :: _) _ _)); refine wpList_load_mid rfl 32 _ rfl _ _ rfl _ _ (by exact rg) Tryz.underlying32 rfl (by exact infoTsk) ?_; dsimp only [dZ, dS]) | (go_at_call 65; refine (HH.out _ xt).mono ?_; rintro e w1 ⟨rfl, hb⟩; obtain ⟨hc, hf, hs, he⟩ := Ext.use (w := w) hb xt; clear hb; (try simp only [sA, sC, sD, sN] at hs)) | (go_at_call 162; refine (HAr.out _ xt).mono ?_; rintro e w2 ⟨ga, rfl, hga, hown, hb2⟩; have k1 := hb2.cell (p := ⟨w.heap.size, 1, none⟩) (v := Value.int .i64 x.a) (by simp [go_sem, *]); have k2 := hb2.cell (p := ⟨w.heap.size, 2, none⟩) (v := Value.int .i64 (kb : Int)) (by simp [go_sem, *]); have HO2 := Lib.hid hown; obtain ⟨hc2, hf2, hs2, he2⟩ := Ext.use (w := w) hb2 xt; clear hb2 hown; (try simp only [World.size_alloc] at hs2 hga); have R2 := range_ext R1 he2; have hgF2 : gF < w2.heap.size := (by omega)) | (go_at_call 75; refine (innermost_any _ _ _ _ _ _ _ _ _ _ _ _ _ gF 0 N cF _ hpos (by omega)).mono ?_; rintro e w3 ⟨rfl, hb3⟩; obtain ⟨hc3, hf3, hs3, he3⟩ := Ext.use (w := w2) hb3 xt; have he33 := Ext.trans he2 he3; have d1 := he33.cell c1; have dz : w3.frozen? ⟨gF, (N - 1) * 5 + 1, none⟩ = false := (by rw [Below.frozen he33 (show gF < w.heap.size from hgF)]; exact z2); clear hb3))
  refine wp_hid2 ?_
  intro W4 HW4
  have HE3 := Lib.hid he33
  have h3 := H.out.mono he33
  obtain ⟨h4, hB4⟩ := h3.jump HT.out rfl HPc.out
  rw [HN.out, ← HW4.out] at h4
  have HK4 : Hid (Kept B w W4) := by rw [Hid, HW4.out]; exact Kept.store (Kept.mono he33 hBW) hB4 _ (by rw [← HW4.out]; exact h4.hotF rfl)
  have hs4 : w3.heap.size = W4.heap.size := by rw [HW4.out, World.size_setCell]
  have far : ∀ {b o : Nat} {v : Value}, w3.cell? ⟨b, o, none⟩ = some v → ¬ gF = b → W4.cell? ⟨b, o, none⟩ = some v := fun {b o v} h1 h2 => by
    rw [HW4.out, cell?_setCell_if, if_neg (fun e => h2 e.1)]; exact h1
  have s0 := far (he33.cell m0) hneR2
  have s1 : W4.cell? ⟨R, 10, none⟩ = some (.slice (some ⟨gF, 0, none⟩) N cF) := far (he33.cell m1) hneR2
  have s2 := far (he3.cell k1) (by omega)
  have s3 := far (he3.cell k2) (by omega)
  have s4 := far (he33.cell q0) hneb
  have s5 := far (he33.cell q1) hneb
  have s6 := far (he33.cell q2) hneb
  have s7 := far (he33.cell q3) hneb
  have s8 := far (he33.cell q4) hneb
  have s9 := far (he33.cell q5) hneb
  have HO4 : Hid (W4.ownsRow (w1.heap.size + 1) 3 1 (.slice (some ⟨ga, 0, none⟩) m m) m ((argsOf f x.args).map (Value.int .i64))) := by
    rw [Hid, HW4.out]; exact own_setCell (ownsRow_ext HO2.out he3) (show gF < w1.heap.size + 1 by omega)
  have zR : R < W4.heap.size := lt_of_cell s0
  have zb : b < W4.heap.size := lt_of_cell s4
  have zw : w.heap.size < W4.heap.size := lt_of_cell s2
  have zF : gF < W4.heap.size := by omega
  have H4 := Lib.hid h4
  have hr4 := h4.frozen 10
  clear h3 h4 HW4 hc hf hs he hc2 hf2 hs2 he2 hc3 hf3 hs3 he3 he33 d1 dz far R1 R2 c0 c1 c2 c3 c4 m0 m1 q0 q1 q2 q3 q4 q5 k1 k2 z2 HO2
  have HRS := Lib.hid (RSl.of_row HO4.out HAL.out (by omega) HAI.out)
  refine wp_region_th 24 (fun W' => W'.cell? ⟨R, 0, none⟩ = some (.slice (some ⟨b, off, none⟩) nf cf) ∧ W'.cell? ⟨R, 10, none⟩ = some (.slice (some ⟨gF, 0, none⟩) N cF) ∧ W'.cell? ⟨w.heap.size, 1, none⟩ = some (Value.int .i64 x.a) ∧ W'.cell? ⟨w.heap.size, 2, none⟩ = some (Value.int .i64 (kb : Int)) ∧ W'.cell? ⟨b, off + kb * 6, none⟩ = some (.string kf.name) ∧ W'.cell? ⟨b, off + kb * 6 + 1, none⟩ = some (Value.int .i64 kf.params) ∧ W'.cell? ⟨b, off + kb * 6 + 2, none⟩ = some (Value.int .i64 (N2 : Int)) ∧ W'.cell? ⟨b, off + kb * 6 + 3, none⟩ = some (Value.int .i64 kf.prio) ∧ W'.cell? ⟨b, off + kb * 6 + 4, none⟩ = some (.bool kf.cleanup) ∧ W'.cell? ⟨b, off + kb * 6 + 5, none⟩ = some (.slice Ac nc cc)) (by kernel_rfl) (by kernel_rfl) (by kernel_rfl) (by kernel_rfl) (by decide) ?_ ?_
  · (repeat' (with_reducible apply And.intro)) <;> go_simp
  intro hT hHeld
  (refine tht 0 hT ?_; (try simp only [Act.put, aset, dZ, dS]); refine tht 1 hT ?_; (try simp only [Act.put, aset, dZ, dS]); refine tht 2 hT ?_; (try simp only [Act.put, aset, dZ, dS]); refine tht 3 hT ?_; (try simp only [Act.put, aset, dZ, dS]); refine tht 4 hT ?_; (try simp only [Act.put, aset, dZ, dS]); refine tht 5 hT ?_; (try simp only [Act.put, aset, dZ, dS]); refine tht 6 hT ?_; (try simp only [Act.put, aset, dZ, dS]); refine tht 7 hT ?_; (try simp only [Act.put, aset, dZ, dS]); refine tht 8 hT ?_; (try simp only [Act.put, aset, dZ, dS]); refine tht 9 hT ?_; (try simp only [Act.put, aset, dZ, dS]); refine tht 10 hT ?_; (try simp only [Act.put, aset, dZ, dS]); refine tht 11 hT ?_; (try simp only [Act.put, aset, dZ, dS]); refine tht 12 hT ?_; (try simp only [Act.put, aset, dZ, dS]); refine tht 13 hT ?_; (try simp only [Act.put, aset, dZ, dS]); refine tht 14 hT ?_; (try simp only [Act.put, aset, dZ, dS]); refine tht 15 hT ?_; (try simp only [Act.put, aset, dZ, dS]); refine tht 16 hT ?_; (try simp only [Act.put, aset, dZ, dS]); refine tht 17 hT ?_; (try simp only [Act.put, aset, dZ, dS]); refine tht 19 hT ?_; (try simp only [Act.put, aset, dZ, dS]); refine tht 20 hT ?_; (try simp only [Act.put, aset, dZ, dS]))
  refine tst 18 (fun K hK => ?_)
  go_simp
  go_at_call 60
  refine (registers_any _ _ _ _ _ N2 (argsOf f x.args) (some ⟨ga, 0, none⟩) m m _ (HRS.out.mono RInt.stays xt) HLe.out (by have := HL2.out; omega)).mono ?_
  rintro e w5 ⟨g5, rfl, hg5, hown5, hb5⟩
  obtain ⟨hc5, hf5, hs5, he5⟩ := Ext.use (w := W4) hb5 xt
  have hown55 : Hid (w5.ownsRow W4.heap.size 3 1 (.slice (some ⟨g5, 0, none⟩) N2 N2) N2 ((regsOf N2 (argsOf f x.args)).map (Value.int .i64))) := World.ownsRow.mono hown5 (by simp)
  clear hb5 hown5
  (try simp only [World.size_drew] at hs5)
  have zR5 : R < w5.heap.size := by omega
  have zb5 : b < w5.heap.size := by omega
  have zw5 : w.heap.size < w5.heap.size := by omega
  dsimp only
  refine hK.out _ _ ?_ (fun hHeld => ?_)
  · (repeat' (with_reducible apply And.intro)) <;> go_simp
  clear hK K
  (try simp only [Act.put, List.setIfInBounds_toArray, List.set_cons_zero, List.set_cons_succ])
  (refine tht 21 hT ?_; (try simp only [Act.put, aset, dZ, dS]))
  refine tst 22 (fun K hK => ?_)
  go_simp
  refine hK.out _ _ ?_ (fun hHeld => ?_)
  · (repeat' (with_reducible apply And.intro)) <;> go_simp
  clear hK K
  (try simp only [Act.put, List.setIfInBounds_toArray, List.set_cons_zero, List.set_cons_succ])
  refine tst 23 (fun K hK => ?_)
  have HROW : Hid ((w5.alloc (.cells #[Value.int .i64 (kb : Int), Value.int .i64 0, .slice (some ⟨g5, 0, none⟩) N2 N2, Value.int .i64 x.a, .bool false] 62)).ownsRow B 62 5 (.slice (some ⟨gF, 0, none⟩) N cF) N (rowOf frmCells (setTop t { f with pc := f.pc + 1 }).frames rs)) := by
    have h9 := ownsRow_ext H4.out.fr.row (he5.alloc (.cells #[Value.int .i64 (kb : Int), Value.int .i64 0, .slice (some ⟨g5, 0, none⟩) N2 N2, Value.int .i64 x.a, .bool false] 62))
    have hl9 : (setTop t { f with pc := f.pc + 1 }).frames.length = N := by show List.length (List.set ..) = N; rw [List.length_set]; exact HN.out
    rwa [hl9] at h9
  obtain ⟨i0, hi0, hz0, hz1, hz2⟩ := info_parts infoFrm
  refine step_append_lies _ (by rfl) (.tmp 41) (.tmp 58) _ (by rfl) B 62 i0 _ 5 56 Tryz.underlying29 hi0 hz0 hz1 hz2 rfl (by omega) _ N _ (by rfl) HROW.out ⟨w5.heap.size, 0, none⟩ 1 1 (frmCells ⟨kb, 0, regsOf N2 (argsOf f x.args), x.a, false⟩ (.slice (some ⟨g5, 0, none⟩) N2 N2)) (by rfl) rfl (fun j u hj => by rw [addr_add]; simpa [go_sem, frmCells] using hj) (frmCells_one _ _ rfl) (by omega) (by simp only [maxLen]; omega) (by omega) (by simp; omega) _ rfl ?_
  clear hi0 hz0 hz1 hz2
  intro g6 cap6 w6 hown6 hgr6 hat6 hlt6
  have far6 : ∀ {b o : Nat} {v : Value}, b < w5.heap.size → ¬ gF = b → w5.cell? ⟨b, o, none⟩ = some v → w6.cell? ⟨b, o, none⟩ = some v := fun {b o v} h1 h2 h3 => by
    rw [hgr6.cell_far ⟨b, o, none⟩ (by simp; omega) (by simpa [Value.ownBlock] using fun e => h2 (Eq.symm e)), World.cell?_alloc_lt _ _ _ h1]; exact h3
  have hr6 : w6.frozen? ⟨R, 10, none⟩ = false := by
    rw [hgr6.frozen_far ⟨R, 10, none⟩ (by simp; omega) (by simpa [Value.ownBlock] using fun e => hneR2 (Eq.symm e)), World.frozen?_alloc_past _ _ _ zR5, hf5, if_pos (by simpa using zR)]; exact hr4
  refine hK.out _ _ ?_ (fun hHeld => ?_)
  · obtain ⟨t0, t1, t2, t3, t4, t5, t6, t7, t8, t9⟩ : (fun W' => W'.cell? ⟨R, 0, none⟩ = some (.slice (some ⟨b, off, none⟩) nf cf) ∧ W'.cell? ⟨R, 10, none⟩ = some (.slice (some ⟨gF, 0, none⟩) N cF) ∧ W'.cell? ⟨w.heap.size, 1, none⟩ = some (Value.int .i64 x.a) ∧ W'.cell? ⟨w.heap.size, 2, none⟩ = some (Value.int .i64 (kb : Int)) ∧ W'.cell? ⟨b, off + kb * 6, none⟩ = some (.string kf.name) ∧ W'.cell? ⟨b, off + kb * 6 + 1, none⟩ = some (Value.int .i64 kf.params) ∧ W'.cell? ⟨b, off + kb * 6 + 2, none⟩ = some (Value.int .i64 (N2 : Int)) ∧ W'.cell? ⟨b, off + kb * 6 + 3, none⟩ = some (Value.int .i64 kf.prio) ∧ W'.cell? ⟨b, off + kb * 6 + 4, none⟩ = some (.bool kf.cleanup) ∧ W'.cell? ⟨b, off + kb * 6 + 5, none⟩ = some (.slice Ac nc cc)) w5 := by (repeat' (with_reducible apply And.intro)) <;> go_simp
    exact ⟨far6 zR5 hneR2 t0, far6 zR5 hneR2 t1, far6 zw5 (by omega) t2, far6 zw5 (by omega) t3, far6 zb5 hneb t4, far6 zb5 hneb t5, far6 zb5 hneb t6, far6 zb5 hneb t7, far6 zb5 hneb t8, far6 zb5 hneb t9⟩
  clear hK K
  (try simp only [Act.put, List.setIfInBounds_toArray, List.set_cons_zero, List.set_cons_succ])
  have m6 : w6.cell? ⟨R, 10, none⟩ = some (.slice (some ⟨gF, 0, none⟩) N cF) := hHeld.2.1
  refine th_done (by kernel_rfl) ?_
  simp only [List.drop_succ_cons, List.drop_zero]
  clear hHeld far6 hc5 hf5
  go_wp2
  go_end0
  have hE5 : Ext W4 (w5.alloc (.cells #[Value.int .i64 (kb : Int), Value.int .i64 0, .slice (some ⟨g5, 0, none⟩) N2 N2, Value.int .i64 x.a, .bool false] 62)) := he5.alloc _
  have hl9 : (setTop t { f with pc := f.pc + 1 }).frames.length = N := by show List.length (List.set ..) = N; rw [List.length_set]; exact HN.out
  have hp := H4.out.push (f := ⟨kb, 0, regsOf N2 (argsOf f x.args), x.a, false⟩) (v := .slice (some ⟨g5, 0, none⟩) N2 N2) (VF' := .slice (some ⟨g6, 0, none⟩) (N + 1) cap6) (W1 := w6) (g := gF) rfl hE5
    (by
      have h9 := ownsRow_ext hown55.out ((Ext.refl _).alloc (.cells #[Value.int .i64 (kb : Int), Value.int .i64 0, .slice (some ⟨g5, 0, none⟩) N2 N2, Value.int .i64 x.a, .bool false] 62))
      show World.ownsRow _ _ _ _ _ (regsOf N2 (argsOf f x.args)).length _
      rw [regsOf_length HLe.out]
      exact h9)
    (by rw [hl9]; exact hown6) hgr6 (hat6.imp (fun e => e.symm) (fun e => by rw [e]; rfl))
    ⟨HIB.out, (show InR 0 from ⟨by decide, by decide⟩), HIA.out, fun z hz => by
      unfold regsOf at hz
      rcases List.mem_append.1 hz with hz | hz
      · exact HAI.out z hz
      · rw [(List.mem_replicate.1 hz).2]; exact ⟨by decide, by decide⟩⟩
  have hB5 : B ≤ (w5.alloc (.cells #[Value.int .i64 (kb : Int), Value.int .i64 0, .slice (some ⟨g5, 0, none⟩) N2 N2, Value.int .i64 x.a, .bool false] 62)).heap.size := by simp; omega
  refine ⟨rfl, ⟨_, _, _, _, _, hp⟩, Kept.store (Kept.grown (Kept.trans HK4.out (Kept.mono hE5 (by omega))) hgr6 hB5 (fun k e => ?_)) hBR _ hp.hotR⟩
  have e' : gF = k := by simpa [Value.ownBlock] using e
  subst e'
  exact ⟨hB4, (H4.out.mono hE5).hotF rfl⟩
end Go.Proofs.YtcjjoabofecjmaaGreat

namespace Go.Proofs.YtcjjoabofecjmaaGreat
open Go.RowKit Go.Sort
set_option maxRecDepth 8000 in
set_option maxHeartbeats 4000000 in
theorem op_defer {p : Prg} {X : List Value} {B R : Nat} {P3 : List Value} {w : World} {t : Tsk} {n : Int} {VF VB : Value} {rs hs : List Value} {gs : List (List Value)} (h : RunSt X B R P3 w t n VF VB rs hs gs) (hr : RunOk p t) (hc : checkS p = 0) {f : Frm} {g : Fnc} (hf : topF t = some f) (hg : FrOk p f g) (hpc : f.pc < g.code.length)
    (x : Ins) (A : Option Addr) (m c : Nat) (hx : RSl 1 RInt w A m x.args) (hm : m ≤ 32) (har : ∀ a ∈ x.args, 0 ≤ a ∧ a < g.regs) (hxb : InR x.b) :
    Calls Tryz.prog 143 #[.pointer (some ⟨R, 0, none⟩), .agg #[Value.int .i64 x.op, Value.int .i64 x.a, Value.int .i64 x.b, Value.int .i64 x.c, .slice A m c]] w (OpPost X B R P3 w (deferS t f x) n) := by
  have ht := hr.topOk hc hf
  have hgo := fn_ok hc (fnAt_mem hg.fn)
  have hblk := hr.bl
  obtain ⟨bk, hb⟩ : ∃ b, lastB t = some b := ⟨_, List.getElem?_eq_getElem (show t.blocks.length - 1 < t.blocks.length by omega)⟩
  have hlR := h.lt.2
  have hBR := h.lt.1
  have hBW : B ≤ w.heap.size := by have := h.lt; omega
  have hml := hx.len
  have hfr := hg.regs
  have hp3 := hgo.reg
  have hAr := (fun W (hE : Ext w W) => arguments_any (h.mono hE) ht x A m c (hx.mono RInt.stays hE) (by omega) (fun a h1 => ⟨(har a h1).1, by have := (har a h1).2; omega⟩))
  have HAI : Hid (∀ z ∈ argsOf f x.args, InR z) := fun z hz => by
    unfold argsOf at hz
    obtain ⟨a, ha', rfl⟩ := List.mem_map.1 hz
    exact num_in (regS_num hg (har a ha'))
  have HAL : Hid (m = (argsOf f x.args).length) := by rw [Hid, hml]; simp [argsOf]
  have m3 : w.cell? ⟨R, 11, none⟩ = some VB := h.cellT (j := 8) rfl
  have hbu := hb
  unfold lastB at hbu
  obtain ⟨gB, cB, eB, hgB⟩ := own_form h.bl.row (by omega)
  obtain ⟨v4, hv4⟩ : ∃ v, hs[t.blocks.length - 1]? = some v := ⟨_, List.getElem?_eq_getElem (by rw [h.bl.len]; omega)⟩
  obtain ⟨a4, ha4⟩ : ∃ v, gs[t.blocks.length - 1]? = some v := ⟨_, List.getElem?_eq_getElem (by rw [h.bl.alen]; omega)⟩
  obtain ⟨hal4, hrow4⟩ := h.bl.hnd _ bk v4 a4 hbu hv4 ha4
  obtain ⟨A4, c4, e4, hc4, _⟩ := ownsRow_shape hrow4
  have m4 : w.cell? ⟨gB, (t.blocks.length - 1) * 5 + 4, none⟩ = some v4 := by
    have h9 := h.bl.row
    rw [eB] at h9
    rw [h9.cellAt _ (by omega), rowOf_get blkCells_len hbu hv4 (by omega)]; rfl
  have z4 : w.frozen? ⟨gB, (t.blocks.length - 1) * 5 + 4, none⟩ = false := by
    have h9 := h.bl.row
    rw [eB] at h9
    exact h9.frozenAt _
  have hlB : gB < w.heap.size := lt_of_cell m4
  have hsB : IntKind.i64.wrap ((t.blocks.length : Int) - 1) = ((t.blocks.length - 1 : Nat) : Int) := by rw [IntWalk.i64_in _ (by omega)]; omega
  have hs1B : ((t.blocks.length - 1 : Nat) : Int) < (t.blocks.length : Int) := by omega
  have hs2B : (0 : Int) ≤ ((t.blocks.length - 1 : Nat) : Int) := by omega
  have hn1 : ¬ v4.ownBlock = some gB := fun e => by
    have h9 := apart_types h.bl.row hrow4 (by decide)
    rw [eB] at h9
    rcases h9 with h9 | h9
    · cases h9
    · exact h9 e.symm
  have hn2 : ¬ v4.ownBlock = some w.heap.size := fun e => by have := (hrow4.lt _ e).2; omega
  have hpc1 := hg.pc
  have hlen2 := hgo.len
  have hwr : IntKind.i64.wrap (f.pc + 1) = f.pc + 1 := IntWalk.i64_in _ (by omega)
  have HPc : Hid (InR (f.pc + 1)) := ⟨by omega, by omega⟩
  have hle := hr.len
  have hpos := hr.pos
  have H := Lib.hid h
  have HT := Lib.hid hf
  have HHB := Lib.hid hbu
  have HV4 := Lib.hid hv4
  have HA4 := Lib.hid ha4
  have HROW := Lib.hid hrow4
  have HXB := Lib.hid hxb
  obtain ⟨gF, cF, v', rfl, hv, _, hgF, _, _, c1, _, _, _⟩ := h.top hf
  obtain ⟨g2, c2', e2, hB2, z2, _, _⟩ := h.set_pc hf
  cases e2
  obtain ⟨r, hr'⟩ : ∃ r, deferS t f x = r := ⟨_, rfl⟩
  have HR := Lib.hid hr'
  rw [hr']
  have HAr := Lib.hid hAr
  subst eB e4
  clear h hr hc hf hg hgo hb hbu hv4 ha4 hrow4 hal4 hx har hxb ht hfr hp3 hlen2 hv hAr hml hr'
  obtain ⟨mh, hmh⟩ : ∃ mh, bk.handlers.length = mh := ⟨_, rfl⟩
  have HMH := Lib.hid hmh
  rw [hmh] at m4 hc4 hn1 hn2 HROW HV4
  clear hmh
  obtain ⟨N, hN⟩ : ∃ N, t.frames.length = N := ⟨_, rfl⟩
  have HN := Lib.hid hN
  rw [hN] at hle hpos c1 z2
  clear hN
  obtain ⟨nb, hnb⟩ : ∃ nb, t.blocks.length = nb := ⟨_, rfl⟩
  have HNB := Lib.hid hnb
  rw [hnb] at m3 m4 z4 hsB hs1B hs2B hblk
  clear hnb
  by_cases h8 : (8 : Int) ≤ (mh : Int)
  · have hR : Hid (r = failT t 7) := by
      rw [Hid, ← HR.out]; unfold deferS lastB; rw [HHB.out]; dsimp only; rw [if_pos (by have := HMH.out; omega)]
    rw [hR.out]
    go_enter Tryz.func143, Tryz.ntmps143
    go_wp2
    (refine wp_region_quiet_below (by kernel_rfl) (by kernel_rfl) ?_; (repeat (go_big_quiet_step (fail))); refine wpQuiet_nil ?_; intro w1 hw1; obtain ⟨hc, hf, hs, he⟩ := Ext.use (w := w) (ext_of_regrown hw1) xt; clear hw1; (try simp only [sA, sC, sD, sN] at hs))
    go_wp2
    exact ⟨rfl, rfl, ⟨_, _, _, _, _, H.out.mono xt⟩, Kept.mono (show Ext w _ from xt) hBW⟩
  · have hR : Hid (r = ({ t with frames := t.frames.set (t.frames.length - 1) { f with pc := f.pc + 1 }, blocks := t.blocks.set (t.blocks.length - 1) { bk with handlers := bk.handlers ++ [⟨x.b, argsOf f x.args⟩] } }, goOn)) := by
      rw [Hid, ← HR.out]; unfold deferS lastB; rw [HHB.out]; dsimp only; rw [if_neg (by have := HMH.out; omega)]
    rw [hR.out]
    clear HR hR
    go_enter Tryz.func143, Tryz.ntmps143
    go_wp2
    (refine wp_region_quiet_below (by kernel_rfl) (by kernel_rfl) ?_; (repeat (go_big_quiet_step (fail))); refine wpQuiet_nil ?_; intro w1 hw1; obtain ⟨hc, hf, hs, he⟩ := Ext.use (w := w) (ext_of_regrown hw1) xt; clear hw1; (try simp only [sA, sC, sD, sN] at hs))
    go_wp2
    refine wp_hid2 ?_
    intro W4 HW4
    have HE4 : Hid (Ext w W4) := by rw [Hid, HW4.out]; exact he
    have s0 : W4.cell? ⟨gB, (nb - 1) * 5 + 4, none⟩ = some (.slice A4 mh c4) := HE4.out.cell m4
    have HIN : Hid (∀ o v, (#[Value.int .i64 x.op, Value.int .i64 x.a, Value.int .i64 x.b, Value.int .i64 x.c, .slice A m c] : Array Value)[o]? = some v → W4.cell? ⟨w.heap.size, o, none⟩ = some v) := fun o v h1 => by
      rw [HW4.out, hc, if_pos (by simp), cell?_alloc_if, if_neg (by omega), if_pos rfl]; exact h1
    have s1 := HIN.out 0 _ rfl
    have s2 := HIN.out 1 _ rfl
    have s3 := HIN.out 2 _ rfl
    have s4 := HIN.out 3 _ rfl
    have s5 := HIN.out 4 _ rfl
    have zz : W4.frozen? ⟨gB, (nb - 1) * 5 + 4, none⟩ = false := by rw [Below.frozen HE4.out (show gB < w.heap.size from hlB)]; exact z4
    have zB : gB < W4.heap.size := lt_of_cell s0
    have zw : w.heap.size < W4.heap.size := lt_of_cell s1
    have zR : R < W4.heap.size := Nat.lt_of_lt_of_le hlR HE4.out.size
    clear HW4 hc hf hs he HIN m3 m4
    refine wp_region_th 13 (fun W' => W'.cell? ⟨gB, (nb - 1) * 5 + 4, none⟩ = some (.slice A4 mh c4) ∧ W'.cell? ⟨w.heap.size, 0, none⟩ = some (Value.int .i64 x.op) ∧ W'.cell? ⟨w.heap.size, 1, none⟩ = some (Value.int .i64 x.a) ∧ W'.cell? ⟨w.heap.size, 2, none⟩ = some (Value.int .i64 x.b) ∧ W'.cell? ⟨w.heap.size, 3, none⟩ = some (Value.int .i64 x.c) ∧ W'.cell? ⟨w.heap.size, 4, none⟩ = some (.slice A m c)) (by kernel_rfl) (by kernel_rfl) (by kernel_rfl) (by kernel_rfl) (by decide) ?_ ?_
    · (repeat' (with_reducible apply And.intro)) <;> go_simp
    intro hT hHeld
    (refine tht 0 hT ?_; (try simp only [Act.put, aset, dZ, dS]); refine tht 1 hT ?_; (try simp only [Act.put, aset, dZ, dS]); refine tht 2 hT ?_; (try simp only [Act.put, aset, dZ, dS]); refine tht 3 hT ?_; (try simp only [Act.put, aset, dZ, dS]); refine tht 4 hT ?_; (try simp only [Act.put, aset, dZ, dS]); refine tht 5 hT ?_; (try simp only [Act.put, aset, dZ, dS]); refine tht 6 hT ?_; (try simp only [Act.put, aset, dZ, dS]); refine tht 7 hT ?_; (try simp only [Act.put, aset, dZ, dS]); refine tht 8 hT ?_; (try simp only [Act.put, aset, dZ, dS]))
    refine tst 9 (fun K hK => ?_)
    go_simp
    go_at_call 162
    refine (HAr.out _ (HE4.out.trans xt)).mono ?_
    rintro e w5 ⟨g5, rfl, hg5, hown5, hb5⟩
    obtain ⟨hc5, hf5, hs5, he5⟩ := Ext.use (w := W4) hb5 xt
    have hown55 : Hid (w5.ownsRow W4.heap.size 3 1 (.slice (some ⟨g5, 0, none⟩) m m) m ((argsOf f x.args).map (Value.int .i64))) := World.ownsRow.mono hown5 (by simp)
    clear hb5 hown5
    (try simp only [World.size_drew] at hs5)
    have zR5 : R < w5.heap.size := by omega
    have zB5 : gB < w5.heap.size := by omega
    have zw5 : w.heap.size < w5.heap.size := by omega
    dsimp only
    refine hK.out _ _ ?_ (fun hHeld => ?_)
    · (repeat' (with_reducible apply And.intro)) <;> go_simp
    clear hK K
    (try simp only [Act.put, List.setIfInBounds_toArray, List.set_cons_zero, List.set_cons_succ])
    (refine tht 10 hT ?_; (try simp only [Act.put, aset, dZ, dS]))
    refine tst 11 (fun K hK => ?_)
    go_simp
    refine hK.out _ _ ?_ (fun hHeld => ?_)
    · (repeat' (with_reducible apply And.intro)) <;> go_simp
    clear hK K
    (try simp only [Act.put, List.setIfInBounds_toArray, List.set_cons_zero, List.set_cons_succ])
    refine tst 12 (fun K hK => ?_)
    have hE5 : Ext W4 (w5.alloc (.cells #[Value.int .i64 x.b, .slice (some ⟨g5, 0, none⟩) m m] 58)) := he5.alloc _
    have hRW : Hid ((w5.alloc (.cells #[Value.int .i64 x.b, .slice (some ⟨g5, 0, none⟩) m m] 58)).ownsRow B 58 2 (.slice A4 mh c4) mh (rowOf hdlCells bk.handlers a4)) := ownsRow_ext HROW.out (HE4.out.trans hE5)
    obtain ⟨i0, hi0, hz0, hz1, hz2⟩ := info_parts infoHdl
    refine step_append_lies _ (by rfl) (.tmp 29) (.tmp 36) _ (by rfl) B 58 i0 _ 2 32 Tryz.underlying53 hi0 hz0 hz1 hz2 rfl (by omega) _ mh _ (by rfl) hRW.out ⟨w5.heap.size, 0, none⟩ 1 1 (hdlCells ⟨x.b, argsOf f x.args⟩ (.slice (some ⟨g5, 0, none⟩) m m)) (by rfl) rfl (fun j u hj => by rw [addr_add]; simpa [go_sem, hdlCells] using hj) (hdlCells_one _ _ rfl) (by omega) (by simp only [maxLen]; omega) (by omega) (by simp; omega) _ rfl ?_
    clear hi0 hz0 hz1 hz2
    intro g6 cap6 w6 hown6 hgr6 hat6 hlt6
    have far6 : ∀ {b o : Nat} {v : Value}, b < w5.heap.size → ¬ (Value.slice A4 mh c4).ownBlock = some b → w5.cell? ⟨b, o, none⟩ = some v → w6.cell? ⟨b, o, none⟩ = some v := fun {b o v} h1 h2 h3 => by
      rw [hgr6.cell_far ⟨b, o, none⟩ (by simp; omega) (fun e => h2 e.symm), World.cell?_alloc_lt _ _ _ h1]; exact h3
    have hr6 : w6.frozen? ⟨gB, (nb - 1) * 5 + 4, none⟩ = false := by
      rw [hgr6.frozen_far ⟨gB, (nb - 1) * 5 + 4, none⟩ (by simp; omega) (fun e => hn1 e.symm), World.frozen?_alloc_past _ _ _ zB5, hf5, if_pos (by simpa using zB)]; exact zz
    refine hK.out _ _ ?_ (fun hHeld => ?_)
    · obtain ⟨t0, t1, t2, t3, t4, t5⟩ : (fun W' => W'.cell? ⟨gB, (nb - 1) * 5 + 4, none⟩ = some (.slice A4 mh c4) ∧ W'.cell? ⟨w.heap.size, 0, none⟩ = some (Value.int .i64 x.op) ∧ W'.cell? ⟨w.heap.size, 1, none⟩ = some (Value.int .i64 x.a) ∧ W'.cell? ⟨w.heap.size, 2, none⟩ = some (Value.int .i64 x.b) ∧ W'.cell? ⟨w.heap.size, 3, none⟩ = some (Value.int .i64 x.c) ∧ W'.cell? ⟨w.heap.size, 4, none⟩ = some (.slice A m c)) w5 := by (repeat' (with_reducible apply And.intro)) <;> go_simp
      exact ⟨far6 zB5 hn1 t0, far6 zw5 hn2 t1, far6 zw5 hn2 t2, far6 zw5 hn2 t3, far6 zw5 hn2 t4, far6 zw5 hn2 t5⟩
    clear hK K
    (try simp only [Act.put, List.setIfInBounds_toArray, List.set_cons_zero, List.set_cons_succ])
    have m6 : w6.cell? ⟨gB, (nb - 1) * 5 + 4, none⟩ = some (.slice A4 mh c4) := hHeld.1
    have H4 := Lib.hid (H.out.mono HE4.out)
    have hp := H4.out.handler (k := t.blocks.length - 1) (y := ⟨x.b, argsOf f x.args⟩) (av := .slice (some ⟨g5, 0, none⟩) m m) (v' := .slice (some ⟨g6, 0, none⟩) (mh + 1) cap6) (W1 := w6) (gB := gB) HHB.out HV4.out HA4.out hE5
      (by
        have h9 := ownsRow_ext hown55.out ((Ext.refl _).alloc (.cells #[Value.int .i64 x.b, .slice (some ⟨g5, 0, none⟩) m m] 58))
        show World.ownsRow _ _ _ _ _ (argsOf f x.args).length _
        rw [← HAL.out]
        exact h9)
      (by show (argsOf f x.args).length ≤ 1000; rw [← HAL.out]; omega) ⟨HXB.out, HAI.out⟩ (by rw [HMH.out]; exact hown6) hgr6 (hat6.imp (fun e => e.symm) (fun e => by rw [e]; rfl)) rfl
    obtain ⟨T2, hT2⟩ : ∃ T2 : Tsk, T2 = { t with blocks := t.blocks.set (t.blocks.length - 1) { bk with handlers := bk.handlers ++ [⟨x.b, argsOf f x.args⟩] } } := ⟨_, rfl⟩
    rw [← hT2, HNB.out, HN.out] at hp
    have HT2 := Lib.hid hT2
    have HTF : Hid (T2.frames = t.frames) := by rw [Hid, hT2]
    have HTP : Hid (topF T2 = some f) := by unfold Hid topF; rw [HTF.out]; exact HT.out
    have HP := Lib.hid hp
    have R2 := hp.task
    have hK6 : Hid (Kept B w (w6.setCell ⟨gB, (nb - 1) * 5 + 4, none⟩ (.slice (some ⟨g6, 0, none⟩) (mh + 1) cap6))) := by
      have hB5 : B ≤ (w5.alloc (.cells #[Value.int .i64 x.b, .slice (some ⟨g5, 0, none⟩) m m] 58)).heap.size := by simp; omega
      refine Kept.store (Kept.grown (Kept.mono (HE4.out.trans hE5) hBW) hgr6 hB5 (fun k e => ?_)) hgB _ (hp.hotB rfl)
      exact ⟨(hRW.out.lt k e).1, hot_row hRW.out e (by decide)⟩
    unfold tskL at R2
    clear hT2 hp hHeld hc5 hf5 far6 s0 s1 s2 s3 s4 s5 z4
    refine th_done (by kernel_rfl) ?_
    simp only [List.drop_succ_cons, List.drop_zero]
    go_wp2_with (first | ((first | ((with_reducible show Code.wp _ (Code.region _ (List.toArray ({ dst := _, op := Op.load 32 _, type := _, pos := _, after := _, guard := none } :: _)) false) _ _ _); refine wp_region_lit ?_) | (with_reducible show wpList _ _ _ ({ dst := _, op := Op.load 32 _, type := _, pos := _, after := _, guard := none } :: _) _ _)); refine wpList_load_mid rfl 32 _ rfl _ _ rfl _ _ (by exact rg) Tryz.underlying32 rfl (by exact infoTsk) ?_; dsimp only [dZ, dS]) | (go_at_call 75; refine (innermost_any _ _ _ _ _ _ _ _ _ _ _ _ _ gF 0 N cF _ hpos (by omega)).mono ?_; rintro e w7 ⟨rfl, hb7⟩; have h1 := Lib.hid (HP.out.mono hb7); have hb77 := Lib.hid hb7; obtain ⟨g9, c9, e9, _, z9, p9, _⟩ := h1.out.set_pc (i := N - 1) (f := f) (by have h9 := HTP.out; unfold topF at h9; rw [HTF.out, HN.out] at h9; rw [HTF.out]; exact h9); injection e9 with q1 q2 q3; injection q1 with q1; injection q1 with q1; subst q1; clear hb7 q2 q3))
    go_end0
    obtain ⟨h2, hB⟩ := h1.out.jump HTP.out rfl HPc.out
    rw [HTF.out, HN.out] at h2
    have hk9 := Kept.store (Kept.trans hK6.out (Kept.mono hb77.out (Nat.le_trans hBW hK6.out.below.size))) hB (Value.int .i64 (f.pc + 1)) (p := ⟨gF, (N - 1) * 5 + 1, none⟩) (h2.hotF rfl)
    rw [HT2.out] at h2
    exact ⟨rfl, ⟨_, _, _, _, _, h2⟩, hk9⟩
end Go.Proofs.YtcjjoabofecjmaaGreat

namespace Go.Proofs.YtcjjoabofecjmaaGreat
open Go.RowKit Go.Sort Go.Maps
def selfR (v : Value) : Option (DataW Value × List MemPlace) := some (.held v, [])
theorem wpList_insert_own {P : Program} (w : World) {ops : Array Oper} {rest : List Oper} {o : Oper} {a : Act} {Q : Exit → Act → World → Prop}
    (hg : o.guard = none) (m x v : Operand) (t : TypeId) (hop : o.op = Op.insert t m x v)
    (k e : TypeId) (K : Keyed P k) (ht : P.underlying t = some (.map k e)) (b n : Nat) (D : DataW Value)
    (hm : a.eval m = .map (some b)) (hown : w.ownsMap P k selfR b n D) (hn : n < maxLen) (key val : Value) (kl : Lit) (hx : a.eval x = key) (hv : a.eval v = val) (hkey : keyOf P k key = some kl)
    (hK : ∀ w', w'.ownsMap P k selfR b (n + 1) (D.put kl (.held val)) → w.grownBy w' (some b) → wpList P ops Q rest (a.put o.dst undef) w') :
    wpList P ops Q (o :: rest) a w := by
  refine wpList_plain hg fun K' hK' => ?_
  obtain ⟨w', hrun, r1, r2⟩ := hown.update K ht hn hkey (d := .held val) (ps := []) rfl
  unfold Oper.wp
  simp [execOp, hop, hm, hx, hv, hrun, Result.andThen]
  exact hK' _ _ (hK w' r1 r2)
theorem law_int : Keyed Tryz.prog 3 := int_keyed Tryz.underlying3
theorem key_int {a : Int} (h : InR a) : keyOf Tryz.prog 3 (Value.int .i64 a) = some (.int .i64 a) := keyOf_int_mk Tryz.underlying3 (WalkArith.wf_i64 (by have := h.1; have := h.2; omega))
def Caps (w : World) (b : Nat) (l : List (Nat × Value)) : Prop := ∀ p ∈ l, Cold w p.1 ∧ w.cell? ⟨p.1, 0, none⟩ = some p.2 ∧ p.1 ≠ b
theorem Caps.nil (w : World) (b : Nat) : Caps w b [] := fun _ h => by cases h
theorem Caps.keep {B : Nat} {w W : World} {b : Nat} {l : List (Nat × Value)} (h : Caps w b l) (k : Kept B w W) : Caps W b l := fun p hp => by
  obtain ⟨h1, h2, h3⟩ := h p hp
  exact ⟨(h1.keep k).1, (h1.cell k 0).trans h2, h3⟩
theorem Caps.ext {w W : World} {b : Nat} {l : List (Nat × Value)} (h : Caps w b l) (k : Ext w W) : Caps W b l := h.keep (Kept.mono k (Nat.zero_le _))
theorem Caps.grown {w W : World} {b : Nat} {l : List (Nat × Value)} (h : Caps w b l) (k : w.grownBy W (some b)) : Caps W b l := fun p hp => by
  obtain ⟨⟨o, h0, h1⟩, h2, h3⟩ := h p hp
  have h4 := k.block p.1 (Array.getElem?_eq_some_iff.1 h0).1 (fun e => h3 (by injection e))
  exact ⟨⟨o, h4.trans h0, h1⟩, (World.cell?_of_block h4).trans h2, h3⟩
theorem Caps.cons {w : World} {b C : Nat} {F : Value} {l : List (Nat × Value)} (h : Caps w b l) (h1 : Cold w C) (h2 : w.cell? ⟨C, 0, none⟩ = some F) (h3 : C ≠ b) : Caps w b ((C, F) :: l) := fun p hp => by
  rcases List.mem_cons.1 hp with rfl | hp
  · exact ⟨h1, h2, h3⟩
  · exact h p hp
def fnV (k : Nat) : Value := .func (.func k) #[] #[]
def binV (C : Nat) : Value := .func (.func 160) #[] #[.pointer (some ⟨C, 0, none⟩)]
def tabD (C3 C4 C5 C6 C7 C8 C9 C10 C11 : Nat) : DataW Value :=
  ((((((((((((((((((((((DataW.map []).put (.int .i64 1) (.held (fnV 122))).put (.int .i64 2) (.held (fnV 124))).put (.int .i64 3) (.held (binV C3))).put (.int .i64 4) (.held (binV C4))).put (.int .i64 5) (.held (binV C5))).put (.int .i64 6) (.held (binV C6))).put (.int .i64 7) (.held (binV C7))).put (.int .i64 8) (.held (binV C8))).put (.int .i64 9) (.held (binV C9))).put (.int .i64 10) (.held (binV C10))).put (.int .i64 11) (.held (binV C11))).put (.int .i64 12) (.held (fnV 138))).put (.int .i64 13) (.held (fnV 139))).put (.int .i64 14) (.held (fnV 140))).put (.int .i64 15) (.held (fnV 141))).put (.int .i64 16) (.held (fnV 142))).put (.int .i64 17) (.held (fnV 143))).put (.int .i64 18) (.held (fnV 144))).put (.int .i64 19) (.held (fnV 145))).put (.int .i64 20) (.held (fnV 146))).put (.int .i64 21) (.held (fnV 147)))
structure TabOk (w : World) (b C3 C4 C5 C6 C7 C8 C9 C10 C11 D6 D7 : Nat) : Prop where
  map : w.ownsMap Tryz.prog 3 selfR b 21 (tabD C3 C4 C5 C6 C7 C8 C9 C10 C11)
  caps : Caps w b [(C11, fnV 137), (C10, fnV 136), (C9, fnV 135), (C8, fnV 133), (D7, fnV 132), (C7, .func (.func 161) #[] #[.pointer (some ⟨D7, 0, none⟩)]), (D6, fnV 131), (C6, .func (.func 161) #[] #[.pointer (some ⟨D6, 0, none⟩)]), (C5, fnV 129), (C4, fnV 128), (C3, fnV 127)]
theorem TabOk.keep {B : Nat} {w W : World} {b C3 C4 C5 C6 C7 C8 C9 C10 C11 D6 D7 : Nat} (h : TabOk w b C3 C4 C5 C6 C7 C8 C9 C10 C11 D6 D7) (k : Kept B w W) : TabOk W b C3 C4 C5 C6 C7 C8 C9 C10 C11 D6 D7 := by
  refine ⟨?_, h.caps.keep k⟩
  obtain ⟨es, clock, hb, F, hs, hD⟩ := h.map
  exact ⟨es, clock, k.cold b _ hb rfl, F, hs, hD⟩
def Tabs (w : World) (b : Nat) : Prop := ∃ C3 C4 C5 C6 C7 C8 C9 C10 C11 D6 D7, TabOk w b C3 C4 C5 C6 C7 C8 C9 C10 C11 D6 D7
set_option maxRecDepth 8000 in
set_option maxHeartbeats 4000000 in
theorem operations_any (w : World) :
    Calls Tryz.prog 92 #[] w fun e w' => ∃ b, e = .returned (.map (some b)) ∧ Tabs w' b ∧ Ext w w' := by
  have hmm := @run_makeMap Tryz.prog
  have hown := World.ownsMap_made w Tryz.prog 3 selfR
  have HC : Caps (w.alloc (.map #[] 0)) w.heap.size [] := Caps.nil _ _
  have HE : Ext w (w.alloc (.map #[] 0)) := (Ext.refl w).alloc _
  have hlt : w.heap.size < (w.alloc (.map #[] 0)).heap.size := by simp
  have HC := Lib.hid HC
  have hown := Lib.hid hown
  have HE := Lib.hid HE
  have hlt := Lib.hid hlt
  go_enter Tryz.func92, Tryz.ntmps92
  go_wp2_with (first
    | ((with_reducible show wpList _ _ _ ({ dst := _, op := Op.insert _ _ _ _, type := _, pos := _, after := _, guard := none } :: _) _ _); refine wpList_insert_own _ rfl _ _ _ 124 rfl 3 _ law_int Tryz.underlying124 w.heap.size _ _ rfl hown.out (by simp only [maxLen]; omega) _ _ _ rfl rfl (key_int ⟨by decide, by decide⟩) ?_; intro w1 hown1 hgr1; replace HC := Lib.hid (HC.out.grown hgr1); replace HE := Lib.hid (Below.grown HE.out hgr1 (Nat.le_of_lt hlt.out) (fun k e => by cases e; exact Nat.le_refl _)); replace hlt := Lib.hid (Nat.lt_of_lt_of_le hlt.out hgr1.size); clear hown; have hown := Lib.hid hown1; clear hown1 hgr1)
    | (go_at_call 126; refine (binary_mk _ rfl _).mono ?_; rintro e w1 ⟨C, rfl, hc, hC, hcd, hb⟩; replace HC := Lib.hid ((HC.out.ext hb).cons hcd hc (by have := hlt.out; omega)); replace HE := Lib.hid (Ext.trans HE.out hb); replace hlt := Lib.hid (Nat.lt_of_lt_of_le hlt.out hb.size); replace hown := Lib.hid (hown.out.kept (ext_grown hb none) (by simp)); clear hc hC hcd hb)
    | (go_at_call 130; refine (divided_mk _ _).mono ?_; rintro e w1 ⟨C, D, rfl, hc, hd, hC, hD, hcd, hdd, hb⟩; replace HC := Lib.hid (((HC.out.ext hb).cons hcd hc (by have := hlt.out; omega)).cons hdd hd (by have := hlt.out; omega)); replace HE := Lib.hid (Ext.trans HE.out hb); replace hlt := Lib.hid (Nat.lt_of_lt_of_le hlt.out hb.size); replace hown := Lib.hid (hown.out.kept (ext_grown hb none) (by simp)); clear hc hd hC hD hcd hdd hb))
  go_ret
  have hm := hown.out
  have hcs := HC.out
  exact ⟨w.heap.size, rfl, ⟨_, _, _, _, _, _, _, _, _, _, _, TabOk.mk hm hcs⟩, HE.out⟩
def opV (C3 C4 C5 C6 C7 C8 C9 C10 C11 : Nat) (k : Int) : Value :=
  if k = 1 then fnV 122 else if k = 2 then fnV 124 else if k = 3 then binV C3 else if k = 4 then binV C4 else if k = 5 then binV C5 else if k = 6 then binV C6 else if k = 7 then binV C7 else if k = 8 then binV C8
  else if k = 9 then binV C9 else if k = 10 then binV C10 else if k = 11 then binV C11 else if k = 12 then fnV 138 else if k = 13 then fnV 139 else if k = 14 then fnV 140 else if k = 15 then fnV 141
  else if k = 16 then fnV 142 else if k = 17 then fnV 143 else if k = 18 then fnV 144 else if k = 19 then fnV 145 else if k = 20 then fnV 146 else fnV 147
theorem tab_at1 (C3 C4 C5 C6 C7 C8 C9 C10 C11 : Nat) : (tabD C3 C4 C5 C6 C7 C8 C9 C10 C11).atKey (.int .i64 1) (.held .nilFunc) = .held (opV C3 C4 C5 C6 C7 C8 C9 C10 C11 1) := by kernel_rfl
theorem tab_at2 (C3 C4 C5 C6 C7 C8 C9 C10 C11 : Nat) : (tabD C3 C4 C5 C6 C7 C8 C9 C10 C11).atKey (.int .i64 2) (.held .nilFunc) = .held (opV C3 C4 C5 C6 C7 C8 C9 C10 C11 2) := by kernel_rfl
theorem tab_at3 (C3 C4 C5 C6 C7 C8 C9 C10 C11 : Nat) : (tabD C3 C4 C5 C6 C7 C8 C9 C10 C11).atKey (.int .i64 3) (.held .nilFunc) = .held (opV C3 C4 C5 C6 C7 C8 C9 C10 C11 3) := by kernel_rfl
theorem tab_at4 (C3 C4 C5 C6 C7 C8 C9 C10 C11 : Nat) : (tabD C3 C4 C5 C6 C7 C8 C9 C10 C11).atKey (.int .i64 4) (.held .nilFunc) = .held (opV C3 C4 C5 C6 C7 C8 C9 C10 C11 4) := by kernel_rfl
theorem tab_at5 (C3 C4 C5 C6 C7 C8 C9 C10 C11 : Nat) : (tabD C3 C4 C5 C6 C7 C8 C9 C10 C11).atKey (.int .i64 5) (.held .nilFunc) = .held (opV C3 C4 C5 C6 C7 C8 C9 C10 C11 5) := by kernel_rfl
theorem tab_at6 (C3 C4 C5 C6 C7 C8 C9 C10 C11 : Nat) : (tabD C3 C4 C5 C6 C7 C8 C9 C10 C11).atKey (.int .i64 6) (.held .nilFunc) = .held (opV C3 C4 C5 C6 C7 C8 C9 C10 C11 6) := by kernel_rfl
theorem tab_at7 (C3 C4 C5 C6 C7 C8 C9 C10 C11 : Nat) : (tabD C3 C4 C5 C6 C7 C8 C9 C10 C11).atKey (.int .i64 7) (.held .nilFunc) = .held (opV C3 C4 C5 C6 C7 C8 C9 C10 C11 7) := by kernel_rfl
theorem tab_at8 (C3 C4 C5 C6 C7 C8 C9 C10 C11 : Nat) : (tabD C3 C4 C5 C6 C7 C8 C9 C10 C11).atKey (.int .i64 8) (.held .nilFunc) = .held (opV C3 C4 C5 C6 C7 C8 C9 C10 C11 8) := by kernel_rfl
theorem tab_at9 (C3 C4 C5 C6 C7 C8 C9 C10 C11 : Nat) : (tabD C3 C4 C5 C6 C7 C8 C9 C10 C11).atKey (.int .i64 9) (.held .nilFunc) = .held (opV C3 C4 C5 C6 C7 C8 C9 C10 C11 9) := by kernel_rfl
theorem tab_at10 (C3 C4 C5 C6 C7 C8 C9 C10 C11 : Nat) : (tabD C3 C4 C5 C6 C7 C8 C9 C10 C11).atKey (.int .i64 10) (.held .nilFunc) = .held (opV C3 C4 C5 C6 C7 C8 C9 C10 C11 10) := by kernel_rfl
theorem tab_at11 (C3 C4 C5 C6 C7 C8 C9 C10 C11 : Nat) : (tabD C3 C4 C5 C6 C7 C8 C9 C10 C11).atKey (.int .i64 11) (.held .nilFunc) = .held (opV C3 C4 C5 C6 C7 C8 C9 C10 C11 11) := by kernel_rfl
theorem tab_at12 (C3 C4 C5 C6 C7 C8 C9 C10 C11 : Nat) : (tabD C3 C4 C5 C6 C7 C8 C9 C10 C11).atKey (.int .i64 12) (.held .nilFunc) = .held (opV C3 C4 C5 C6 C7 C8 C9 C10 C11 12) := by kernel_rfl
theorem tab_at13 (C3 C4 C5 C6 C7 C8 C9 C10 C11 : Nat) : (tabD C3 C4 C5 C6 C7 C8 C9 C10 C11).atKey (.int .i64 13) (.held .nilFunc) = .held (opV C3 C4 C5 C6 C7 C8 C9 C10 C11 13) := by kernel_rfl
theorem tab_at14 (C3 C4 C5 C6 C7 C8 C9 C10 C11 : Nat) : (tabD C3 C4 C5 C6 C7 C8 C9 C10 C11).atKey (.int .i64 14) (.held .nilFunc) = .held (opV C3 C4 C5 C6 C7 C8 C9 C10 C11 14) := by kernel_rfl
theorem tab_at15 (C3 C4 C5 C6 C7 C8 C9 C10 C11 : Nat) : (tabD C3 C4 C5 C6 C7 C8 C9 C10 C11).atKey (.int .i64 15) (.held .nilFunc) = .held (opV C3 C4 C5 C6 C7 C8 C9 C10 C11 15) := by kernel_rfl
theorem tab_at16 (C3 C4 C5 C6 C7 C8 C9 C10 C11 : Nat) : (tabD C3 C4 C5 C6 C7 C8 C9 C10 C11).atKey (.int .i64 16) (.held .nilFunc) = .held (opV C3 C4 C5 C6 C7 C8 C9 C10 C11 16) := by kernel_rfl
theorem tab_at17 (C3 C4 C5 C6 C7 C8 C9 C10 C11 : Nat) : (tabD C3 C4 C5 C6 C7 C8 C9 C10 C11).atKey (.int .i64 17) (.held .nilFunc) = .held (opV C3 C4 C5 C6 C7 C8 C9 C10 C11 17) := by kernel_rfl
theorem tab_at18 (C3 C4 C5 C6 C7 C8 C9 C10 C11 : Nat) : (tabD C3 C4 C5 C6 C7 C8 C9 C10 C11).atKey (.int .i64 18) (.held .nilFunc) = .held (opV C3 C4 C5 C6 C7 C8 C9 C10 C11 18) := by kernel_rfl
theorem tab_at19 (C3 C4 C5 C6 C7 C8 C9 C10 C11 : Nat) : (tabD C3 C4 C5 C6 C7 C8 C9 C10 C11).atKey (.int .i64 19) (.held .nilFunc) = .held (opV C3 C4 C5 C6 C7 C8 C9 C10 C11 19) := by kernel_rfl
theorem tab_at20 (C3 C4 C5 C6 C7 C8 C9 C10 C11 : Nat) : (tabD C3 C4 C5 C6 C7 C8 C9 C10 C11).atKey (.int .i64 20) (.held .nilFunc) = .held (opV C3 C4 C5 C6 C7 C8 C9 C10 C11 20) := by kernel_rfl
theorem tab_at21 (C3 C4 C5 C6 C7 C8 C9 C10 C11 : Nat) : (tabD C3 C4 C5 C6 C7 C8 C9 C10 C11).atKey (.int .i64 21) (.held .nilFunc) = .held (opV C3 C4 C5 C6 C7 C8 C9 C10 C11 21) := by kernel_rfl
theorem tab_at (C3 C4 C5 C6 C7 C8 C9 C10 C11 : Nat) (k : Int) (h : 1 ≤ k ∧ k ≤ 21) : (tabD C3 C4 C5 C6 C7 C8 C9 C10 C11).atKey (.int .i64 k) (.held .nilFunc) = .held (opV C3 C4 C5 C6 C7 C8 C9 C10 C11 k) := by
  have : k = 1 ∨ k = 2 ∨ k = 3 ∨ k = 4 ∨ k = 5 ∨ k = 6 ∨ k = 7 ∨ k = 8 ∨ k = 9 ∨ k = 10 ∨ k = 11 ∨ k = 12 ∨ k = 13 ∨ k = 14 ∨ k = 15 ∨ k = 16 ∨ k = 17 ∨ k = 18 ∨ k = 19 ∨ k = 20 ∨ k = 21 := by omega
  rcases this with rfl | rfl | rfl | rfl | rfl | rfl | rfl | rfl | rfl | rfl | rfl | rfl | rfl | rfl | rfl | rfl | rfl | rfl | rfl | rfl | rfl
  · exact tab_at1 ..
  · exact tab_at2 ..
  · exact tab_at3 ..
  · exact tab_at4 ..
  · exact tab_at5 ..
  · exact tab_at6 ..
  · exact tab_at7 ..
  · exact tab_at8 ..
  · exact tab_at9 ..
  · exact tab_at10 ..
  · exact tab_at11 ..
  · exact tab_at12 ..
  · exact tab_at13 ..
  · exact tab_at14 ..
  · exact tab_at15 ..
  · exact tab_at16 ..
  · exact tab_at17 ..
  · exact tab_at18 ..
  · exact tab_at19 ..
  · exact tab_at20 ..
  · exact tab_at21 ..
set_option maxRecDepth 8000 in
theorem tab_look {w : World} {b C3 C4 C5 C6 C7 C8 C9 C10 C11 D6 D7 : Nat} (h : TabOk w b C3 C4 C5 C6 C7 C8 C9 C10 C11 D6 D7) {k : Int} (hk : 1 ≤ k ∧ k ≤ 21) :
    (Instr.lookup 124 (.map (some b)) (Value.int .i64 k) false).run Tryz.prog w = .ok (opV C3 C4 C5 C6 C7 C8 C9 C10 C11 k) w := by
  obtain ⟨v, ps, h1, h2⟩ := h.map.lookup law_int Tryz.underlying124 (z := .nilFunc) (by kernel_rfl) rfl (key_int (a := k) ⟨by omega, by omega⟩)
  have hD := tab_at C3 C4 C5 C6 C7 C8 C9 C10 C11 k hk
  generalize tabD C3 C4 C5 C6 C7 C8 C9 C10 C11 = D at hD h2
  generalize opV C3 C4 C5 C6 C7 C8 C9 C10 C11 k = V at hD
  rw [hD] at h2
  simp only [selfR, Option.some.injEq, Prod.mk.injEq, DataW.held.injEq] at h2
  rw [h1, h2.1]
end Go.Proofs.YtcjjoabofecjmaaGreat

namespace Go.Proofs.YtcjjoabofecjmaaGreat
open Go.RowKit Go.Sort
def OpCall (X : List Value) (B R : Nat) (P3 : List Value) (w : World) (x : Ins) (VX : Value) (r : Tsk × Stp) (n : Int) (v : Value) : Prop :=
  ∃ gk lb, v = .func (.func gk) #[] lb ∧ Enters Tryz.prog gk ∧ Calls Tryz.prog gk (#[.pointer (some ⟨R, 0, none⟩), .agg #[Value.int .i64 x.op, Value.int .i64 x.a, Value.int .i64 x.b, Value.int .i64 x.c, VX]] ++ lb) w (OpPost X B R P3 w r n)
theorem opcall_fn {X : List Value} {B R : Nat} {P3 : List Value} {w : World} {x : Ins} {VX : Value} {r : Tsk × Stp} {n : Int} {k : Nat} (eg : Enters Tryz.prog k) (h : Calls Tryz.prog k #[.pointer (some ⟨R, 0, none⟩), .agg #[Value.int .i64 x.op, Value.int .i64 x.a, Value.int .i64 x.b, Value.int .i64 x.c, VX]] w (OpPost X B R P3 w r n)) : OpCall X B R P3 w x VX r n (fnV k) :=
  ⟨k, #[], rfl, eg, h⟩
theorem opcall_bin {X : List Value} {B R C : Nat} {P3 : List Value} {w : World} {x : Ins} {VX : Value} {r : Tsk × Stp} {n : Int} (eg : Enters Tryz.prog 160) (h : Calls Tryz.prog 160 #[.pointer (some ⟨R, 0, none⟩), .agg #[Value.int .i64 x.op, Value.int .i64 x.a, Value.int .i64 x.b, Value.int .i64 x.c, VX], .pointer (some ⟨C, 0, none⟩)] w (OpPost X B R P3 w r n)) : OpCall X B R P3 w x VX r n (binV C) :=
  ⟨_, #[.pointer (some ⟨C, 0, none⟩)], rfl, eg, h⟩
set_option maxRecDepth 8000 in
set_option maxHeartbeats 2000000 in
theorem exec_any {p : Prg} {X : List Value} {B R : Nat} {P3 : List Value} {w : World} {t : Tsk} {n : Int} {VF VB : Value} {rs hs : List Value} {gs : List (List Value)} (h : RunSt X B R P3 w t n VF VB rs hs gs) (hr : RunOk p t) (hc : checkS p = 0) (hN : NumIn t) (u : World) (hu : Ext u w) (huB : u.heap.size ≤ B) (hP : RPrg u p (.agg P3.toArray)) {f : Frm} {g : Fnc} (hf : topF t = some f) (hg : FrOk p f g)
    (x : Ins) (hx : g.code[f.pc.toNat]? = some x) (hv : visS x.op = false) (A : Option Addr) (m c : Nat) (hxa : RSl 1 RInt u A m x.args) (hib : InR x.b) {b C3 C4 C5 C6 C7 C8 C9 C10 C11 D6 D7 : Nat} (T : TabOk w b C3 C4 C5 C6 C7 C8 C9 C10 C11 D6 D7) :
    OpCall X B R P3 w x (.slice A m c) (execS p t f x) n (opV C3 C4 C5 C6 C7 C8 C9 C10 C11 x.op) := by
  have ht := hr.topOk hc hf
  have hfn := fn_ok hc (fnAt_mem hg.fn)
  have hi := ins_ok (hfn.ins x (List.mem_of_getElem? hx))
  have hpc : f.pc < g.code.length := by have := (List.getElem?_eq_some_iff.1 hx).1; have := hg.pc; omega
  have hop := local_op hi.shape hv
  have hpc0 := hg.pc
  have hfr := hg.regs
  have inf : ∀ {k : Int}, 0 ≤ k ∧ k < g.regs → InF f k := fun hk => ⟨hk.1, by omega⟩
  have cap := fun (q : Nat × Value) (hq : q ∈ _) => (T.caps q hq).2.1
  have bin : ∀ {C : Nat} {k : Nat} {lb : Array Value} (v : Int), 3 ≤ x.op → x.op ≤ 11 → Enters Tryz.prog k → w.cell? ⟨C, 0, none⟩ = some (.func (.func k) #[] lb) →
      (∀ W, Ext w W → numB (regS f x.b) = true → numB (regS f x.c) = true → Calls Tryz.prog k (#[Value.int .i64 (regS f x.b), Value.int .i64 (regS f x.c)] ++ lb) W fun e w' => e = .returned (Value.int .i64 v) ∧ Ext W w') → OpCall X B R P3 w x (.slice A m c) (writeS t f x.a v) n (binV C) := fun {C k lb} v h3 h11 eg hC hf' =>
    opcall_bin (enters_of Tryz.func160 (by kernel_rfl) rfl) (binary_ok h ht x _ (inf (need_a hi (by omega))) (inf (need_b hi (by omega))) (inf (need_c hi (by omega))) C k lb eg hC v (fun W hE => hf' W hE (regS_num hg (need_b hi (by omega))) (regS_num hg (need_c hi (by omega)))))
  have bad : ∀ {C D : Nat}, 3 ≤ x.op → x.op ≤ 11 → regS f x.c = 0 → w.cell? ⟨C, 0, none⟩ = some (.func (.func 161) #[] #[.pointer (some ⟨D, 0, none⟩)]) → OpCall X B R P3 w x (.slice A m c) (failT t 6) n (binV C) := fun {C D} h3 h11 hz hC =>
    opcall_bin (enters_of Tryz.func160 (by kernel_rfl) rfl) (binary_bad h ht x _ (inf (need_b hi (by omega))) (inf (need_c hi (by omega))) C _ _ (enters_of Tryz.func161 (by kernel_rfl) rfl) hC (fun W hE => by rw [hz]; exact divided_bad _ D W))
  obtain ⟨V, hV⟩ : ∃ V, opV C3 C4 C5 C6 C7 C8 C9 C10 C11 x.op = V := ⟨_, rfl⟩
  have val : ∀ {V' : Value}, opV C3 C4 C5 C6 C7 C8 C9 C10 C11 x.op = V' → V = V' := fun e => hV.symm.trans e
  rw [hV]
  refine exec_cases (motive := fun r => OpCall X B R P3 w x (.slice A m c) r n V) hop (fun e => ?_) (fun e => ?_) (fun e => ?_) (fun h3 h11 hz => ?_) (fun h3 h11 hz => ?_) (fun e => ?_) (fun e => ?_) (fun e => ?_) (fun e => ?_) (fun e => ?_) (fun e => ?_) (fun e => ?_) (fun e => ?_) (fun e => ?_)
  · rw [val (V' := fnV 122) (by rw [e]; rfl)]
    exact opcall_fn (enters_of Tryz.func122 (by kernel_rfl) rfl) (op_const h ht x _ (inf (need_a hi (by omega))))
  · rw [val (V' := fnV 124) (by rw [e]; rfl)]
    exact opcall_fn (enters_of Tryz.func124 (by kernel_rfl) rfl) (op_move h ht x _ (inf (need_a hi (by omega))) (inf (need_b hi (by omega))))
  · rw [val (V' := fnV 138) (by rw [e]; rfl)]
    exact opcall_fn (enters_of Tryz.func138 (by kernel_rfl) rfl) (op_not h ht x _ (inf (need_a hi (by omega))) (inf (need_b hi (by omega))))
  · rcases hz.1 with e | e
    · rw [val (V' := binV C6) (by rw [e]; rfl)]
      exact bad h3 h11 hz.2 (cap (C6, .func (.func 161) #[] #[.pointer (some ⟨D6, 0, none⟩)]) (by simp))
    · rw [val (V' := binV C7) (by rw [e]; rfl)]
      exact bad h3 h11 hz.2 (cap (C7, .func (.func 161) #[] #[.pointer (some ⟨D7, 0, none⟩)]) (by simp))
  · have hop3 : x.op = 3 ∨ x.op = 4 ∨ x.op = 5 ∨ x.op = 6 ∨ x.op = 7 ∨ x.op = 8 ∨ x.op = 9 ∨ x.op = 10 ∨ x.op = 11 := by omega
    rcases hop3 with e | e | e | e | e | e | e | e | e
    · rw [val (V' := binV C3) (by rw [e]; rfl)]
      rw [e]
      exact bin _ h3 h11 (enters_of Tryz.func127 (by kernel_rfl) rfl) (cap (C3, fnV 127) (by simp)) (fun W hE ha hb => f_add _ _ ha hb W)
    · rw [val (V' := binV C4) (by rw [e]; rfl)]
      rw [e]
      exact bin _ h3 h11 (enters_of Tryz.func128 (by kernel_rfl) rfl) (cap (C4, fnV 128) (by simp)) (fun W hE ha hb => f_sub _ _ ha hb W)
    · rw [val (V' := binV C5) (by rw [e]; rfl)]
      rw [e, show binS 5 (regS f x.b) (regS f x.c) = regS f x.b * regS f x.c from rfl, ← write_prod]
      exact bin _ h3 h11 (enters_of Tryz.func129 (by kernel_rfl) rfl) (cap (C5, fnV 129) (by simp)) (fun W hE ha hb => f_mul _ _ ha hb W)
    · rw [val (V' := binV C6) (by rw [e]; rfl)]
      have hz0 : ¬ regS f x.c = 0 := fun e0 => hz ⟨by omega, e0⟩
      rw [e]
      exact bin _ h3 h11 (enters_of Tryz.func161 (by kernel_rfl) rfl) (cap (C6, .func (.func 161) #[] #[.pointer (some ⟨D6, 0, none⟩)]) (by simp)) (fun W hE ha hb => divided_ok _ _ _ D6 _ W (enters_of Tryz.func131 (by kernel_rfl) rfl) (hE.cell (cap (D6, fnV 131) (by simp))) hz0 (fun W' hE' => f_div _ _ ha hz0 W'))
    · rw [val (V' := binV C7) (by rw [e]; rfl)]
      have hz0 : ¬ regS f x.c = 0 := fun e0 => hz ⟨by omega, e0⟩
      rw [e]
      exact bin _ h3 h11 (enters_of Tryz.func161 (by kernel_rfl) rfl) (cap (C7, .func (.func 161) #[] #[.pointer (some ⟨D7, 0, none⟩)]) (by simp)) (fun W hE ha hb => divided_ok _ _ _ D7 _ W (enters_of Tryz.func132 (by kernel_rfl) rfl) (hE.cell (cap (D7, fnV 132) (by simp))) hz0 (fun W' hE' => f_mod _ _ ha hz0 W'))
    · rw [val (V' := binV C8) (by rw [e]; rfl)]
      rw [e]
      exact bin _ h3 h11 (enters_of Tryz.func133 (by kernel_rfl) rfl) (cap (C8, fnV 133) (by simp)) (fun W hE ha hb => f_eq _ _ W)
    · rw [val (V' := binV C9) (by rw [e]; rfl)]
      rw [e]
      exact bin _ h3 h11 (enters_of Tryz.func135 (by kernel_rfl) rfl) (cap (C9, fnV 135) (by simp)) (fun W hE ha hb => f_lss _ _ W)
    · rw [val (V' := binV C10) (by rw [e]; rfl)]
      rw [e]
      exact bin _ h3 h11 (enters_of Tryz.func136 (by kernel_rfl) rfl) (cap (C10, fnV 136) (by simp)) (fun W hE ha hb => f_and _ _ W)
    · rw [val (V' := binV C11) (by rw [e]; rfl)]
      rw [e]
      exact bin _ h3 h11 (enters_of Tryz.func137 (by kernel_rfl) rfl) (cap (C11, fnV 137) (by simp)) (fun W hE ha hb => f_or _ _ W)
  · rw [val (V' := fnV 139) (by rw [e]; rfl)]
    exact opcall_fn (enters_of Tryz.func139 (by kernel_rfl) rfl) (op_jump h ht x _ (by have := (need_jump hi).1 e; have := hfn.len; exact ⟨by omega, by omega⟩))
  · rw [val (V' := fnV 140) (by rw [e]; rfl)]
    exact opcall_fn (enters_of Tryz.func140 (by kernel_rfl) rfl) (op_unless h ht x _ (inf (need_a hi (by omega))) hib)
  · rw [val (V' := fnV 141) (by rw [e]; rfl)]
    obtain ⟨k, hk, hkc, hkl, har⟩ := need_args hi (.inl e)
    have hfk := fn_ok hc (fnAt_mem hk)
    have hcl : f.cleanup = false := by
      cases hcf : f.cleanup with
      | false => rfl
      | true =>
        have := hi.forb (by rw [← hg.cl]; exact hcf)
        rw [e] at this; exact absurd this (by decide)
    have := hfk.par
    have := hfk.reg
    by_cases h8 : 8 ≤ plainN t
    · exact opcall_fn (enters_of Tryz.func141 (by kernel_rfl) rfl) (op_call_full h hr hc hN hf hcl x _ h8)
    · exact opcall_fn (enters_of Tryz.func141 (by kernel_rfl) rfl) (op_call_ok h hr hc hN u hu huB hP hf hg hpc hcl x A m c hxa (need_a hi (by omega)) k hk (by omega) har h8)
  · rw [val (V' := fnV 142) (by rw [e]; rfl)]
    exact opcall_fn (enters_of Tryz.func142 (by kernel_rfl) rfl) (op_return h hr hc hf x _ (inf (need_a hi (by omega))) (regS_num hg (need_a hi (by omega))))
  · rw [val (V' := fnV 143) (by rw [e]; rfl)]
    obtain ⟨k, hk, hkc, hkl, har⟩ := need_args hi (.inr e)
    have hfk := fn_ok hc (fnAt_mem hk)
    have := hfk.par
    have := hfk.reg
    have := hxa.len
    exact opcall_fn (enters_of Tryz.func143 (by kernel_rfl) rfl) (op_defer h hr hc hf hg hpc x A m c (hxa.mono RInt.stays hu) (by omega) har hib)
  · rw [val (V' := fnV 144) (by rw [e]; rfl)]
    exact opcall_fn (enters_of Tryz.func144 (by kernel_rfl) rfl) (op_mask h ht x _ (by have := hr.mask; omega))
  · rw [val (V' := fnV 145) (by rw [e]; rfl)]
    have hbl := hr.bl
    obtain ⟨bk, hb⟩ : ∃ b, lastB t = some b := ⟨_, List.getElem?_eq_getElem (show t.blocks.length - 1 < t.blocks.length by omega)⟩
    exact opcall_fn (enters_of Tryz.func145 (by kernel_rfl) rfl) (op_unmask h ht x _ (by have := hr.mask; omega) bk hb (by omega))
  · rw [val (V' := fnV 146) (by rw [e]; rfl)]
    exact opcall_fn (enters_of Tryz.func146 (by kernel_rfl) rfl) (op_assert h ht x _ (inf (need_a hi (by omega))))
  · rw [val (V' := fnV 147) (by rw [e]; rfl)]
    exact opcall_fn (enters_of Tryz.func147 (by kernel_rfl) rfl) (op_fail h ht x _ (inf (need_a hi (by omega))))
end Go.Proofs.YtcjjoabofecjmaaGreat
