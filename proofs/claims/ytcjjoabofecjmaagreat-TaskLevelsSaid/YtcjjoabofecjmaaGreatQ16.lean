/- A part of the proof: Start of package task where nothing is wrong; Start of package task; awake of nurserylaw28; The reference's comparisons of numbers, handlers, frames, blocks and tasks. -/
import Derived.Test.YtcjjoabofecjmaaGreatQ15
import Derived.Test.YtcjjoabofecjmaaGreatQ11
import Derived.Test.YtcjjoabofecjmaaGreatQ14
import Derived.Test.YtcjjoabofecjmaaGreatQ02
set_option linter.unusedVariables false
set_option linter.unusedSimpArgs false
namespace Go.Proofs.YtcjjoabofecjmaaGreat
open Go.RowKit
theorem chain14 (X : World) (b : Nat) (v0 v1 v2 v3 v4 v5 v6 v7 v8 v9 v10 v11 v12 v13 : Value) : ((((((((((((((X.setCell ⟨b, 0, none⟩ v0).setCell ⟨b, 1, none⟩ v1).setCell ⟨b, 2, none⟩ v2).setCell ⟨b, 3, none⟩ v3).setCell ⟨b, 4, none⟩ v4).setCell ⟨b, 5, none⟩ v5).setCell ⟨b, 6, none⟩ v6).setCell ⟨b, 7, none⟩ v7).setCell ⟨b, 8, none⟩ v8).setCell ⟨b, 9, none⟩ v9).setCell ⟨b, 10, none⟩ v10).setCell ⟨b, 11, none⟩ v11).setCell ⟨b, 12, none⟩ v12).setCell ⟨b, 13, none⟩ v13) = X.setCells b 0 [v0, v1, v2, v3, v4, v5, v6, v7, v8, v9, v10, v11, v12, v13] := rfl
theorem check_params {p : Prg} (h : checkS p = 0) : ∀ g : Fnc, g ∈ p.funcs → g.params ≤ g.regs := fun g hg => by
  obtain ⟨i, hi, rfl⟩ := List.getElem_of_mem hg
  have h1 := check_fn h hi
  unfold checkFnS at h1
  rw [List.getElem?_eq_getElem hi] at h1
  dsimp only at h1
  split at h1
  · cases h1
  · split at h1
    · cases h1
    · split at h1
      · cases h1
      · rename_i h2
        simp only [not_or, Bool.not_eq_false, inB_iff] at h2
        omega
set_option maxRecDepth 4000 in
set_option maxHeartbeats 4000000 in
theorem Start_ok (p : Prg) (k : Nat) (g : Fnc) (args : List Int) (scope : Int) (VP : Value) (A : Option Addr) (n c : Nat) (w : World) (hP : RPrg w p VP) (hA : RSl 1 RInt w A n args) (hf : InR (k : Int)) (hs : InR scope)
    (hc : checkS p = 0) (hfn : fnAt p k = some g) (hcl : g.cleanup = false) (hpm : (n : Int) = g.params) (hq : args.all numB = true) (hs0 : ¬ scope < 0) (hs1 : ¬ (32 : Int) ≤ scope) :
    Calls Tryz.prog 21 #[VP, Value.int .i64 k, .slice A n c, Value.int .i64 scope] w fun e w' => ∃ V', e = .returned (.tuple #[V', Value.int .i64 0]) ∧ RTsk w' (firstTsk k g args scope) V' ∧ Ext w w' := by
  have HC := Lib.hid (fun W h => Check_any p VP W (hP.mono h))
  obtain ⟨Af, nf, cf, Ao, no, co, Av, nv, cv, rfl, hF, hO, hVr, hcf, hco, hcv⟩ := hP
  clear hO hVr hcf hco hcv
  have hle := hF.le
  have hnl := hA.le
  have HL := Lib.hid hF.len
  have HN := Lib.hid hA.len
  have HA := Lib.hid hA
  have HFI := Lib.hid hf
  have HSI := Lib.hid hs
  have HF := Lib.hid hF
  have HPO := Lib.hid (check_regs hc)
  have HC0 := Lib.hid hc
  rw [hc] at HC
  obtain ⟨h0, h1, h2⟩ := fnAt_some hfn
  obtain ⟨b, off, Ac, nc, cc, rfl, hlb, hsz, i1, i2, i3, ⟨hCd, hcc⟩, c0, c1, c2, c3, c4, c5⟩ := HF.out.fnc h2
  have hlt : (k : Int) < (nf : Int) := by have := HL.out; omega
  have hf0 : ¬ (k : Int) < 0 := by omega
  have hf1 : ¬ (nf : Int) ≤ (k : Int) := by omega
  have hrg := HPO.out g (List.mem_of_getElem? h2)
  have HG2 := Lib.hid i3
  have HO : Hid (∀ W, Ext w W → Calls Tryz.prog 58 #[.slice A n c, .func (.func 59) #[] #[]] W fun e w' => e = .returned (.bool (!true)) ∧ Ext W w') := fun W hW => by
    have := outs_any A n c args W (HA.out.mono RInt.stays hW)
    rw [hq] at this
    exact this
  have e0 : ((n : Int) != g.params) = false := by simpa using hpm
  have HPR : Hid ((n : Int) = g.params ∧ g.params ≤ g.regs) := ⟨hpm, check_params hc g (List.mem_of_getElem? h2)⟩
  rw [hcl] at c4
  clear hF hA hf hs hc hfn h1 h2 i1 i2 i3 hCd hcl hpm hq
  rw [Int.toNat_natCast] at c0 c1 c2 c3 c4 c5
  go_enter Tryz.func21, Tryz.ntmps21
  go_wp2_with (first | ((with_reducible show wpList _ _ _ ({ dst := _, op := Op.store 32 _ _, type := _, pos := _, after := _, guard := none } :: _) _ _); refine wpList_store_mid rfl 32 _ _ rfl _ _ _ rfl rfl (by exact tr) infoTsk (all_oneCell_toArray (by simp [Value.oneCell'])) ?_; (try dsimp only [Act.put])) | (go_at_call 45; refine (HC.out _ xt).mono ?_; rintro e w1 ⟨rfl, hb⟩; have Z1 := range_ext (b := w.heap.size + 1) (o := 0) (cs := [Value.int .i64 0, Value.int .i64 0, Value.int .i64 0, Value.int .i64 0, Value.int .i64 0, Value.int .i64 0, .bool false, .slice none 0 0, .slice none 0 0, Value.int .i64 0, .bool false, Value.int .i64 0, Value.int .i64 0, Value.int .i64 0]) (by exact rg) hb; have T1 := there_ext (b := w.heap.size + 1) (o := 0) (n := 14) (by exact tr) hb; obtain ⟨hc, hf, hs, he⟩ := Ext.use (w := w) hb xt; clear hb; (try simp only [World.size_alloc] at hs)) | (go_at_call 58; refine (HO.out _ xt).mono ?_; rintro e w2 ⟨rfl, hb⟩; have Z2 := range_ext Z1 hb; have T2 := there_ext T1 hb; obtain ⟨hc2, hf2, hs2, he2⟩ := Ext.use (w := w) hb xt; clear hb))
  refine wp_hid2 ?_
  intro W4 HW4
  have HE4 : Ext w W4 := by rw [HW4.out]; exact he2
  have T4 : W4.there (w.heap.size + 1) 0 14 := by rw [HW4.out]; exact T2
  have k0 : W4.cell? ⟨w.heap.size, 0, none⟩ = some (.slice (some ⟨b, off, none⟩) nf cf) := by rw [HW4.out, hc2, if_pos (by omega), hc]; simp [go_sem]
  have hs4 : w.heap.size + 1 < W4.heap.size := by rw [HW4.out]; omega
  have F4 : ∀ o, W4.frozen? ⟨w.heap.size + 1, o, none⟩ = false := fun o => by rw [HW4.out, hf2, if_pos (by omega), hf, if_pos (by simp)]; simp [go_sem]
  have Z4 : W4.rangeAt (w.heap.size + 1) 0 [Value.int .i64 0, Value.int .i64 0, Value.int .i64 0, Value.int .i64 0, Value.int .i64 0, Value.int .i64 0, .bool false, .slice none 0 0, .slice none 0 0, Value.int .i64 0, .bool false, Value.int .i64 0, Value.int .i64 0, Value.int .i64 0] := by rw [HW4.out]; exact Z2
  have z0 : W4.cell? ⟨w.heap.size + 1, 0, none⟩ = some (Value.int .i64 0) := Z4 0 _ rfl
  have z1 : W4.cell? ⟨w.heap.size + 1, 1, none⟩ = some (Value.int .i64 0) := Z4 1 _ rfl
  have z2 : W4.cell? ⟨w.heap.size + 1, 2, none⟩ = some (Value.int .i64 0) := Z4 2 _ rfl
  have z3 : W4.cell? ⟨w.heap.size + 1, 3, none⟩ = some (Value.int .i64 0) := Z4 3 _ rfl
  have z4 : W4.cell? ⟨w.heap.size + 1, 4, none⟩ = some (Value.int .i64 0) := Z4 4 _ rfl
  have z5 : W4.cell? ⟨w.heap.size + 1, 5, none⟩ = some (Value.int .i64 0) := Z4 5 _ rfl
  have z6 : W4.cell? ⟨w.heap.size + 1, 6, none⟩ = some (.bool false) := Z4 6 _ rfl
  have z7 : W4.cell? ⟨w.heap.size + 1, 7, none⟩ = some (.slice none 0 0) := Z4 7 _ rfl
  have z8 : W4.cell? ⟨w.heap.size + 1, 8, none⟩ = some (.slice none 0 0) := Z4 8 _ rfl
  have z9 : W4.cell? ⟨w.heap.size + 1, 9, none⟩ = some (Value.int .i64 0) := Z4 9 _ rfl
  have z10 : W4.cell? ⟨w.heap.size + 1, 10, none⟩ = some (.bool false) := Z4 10 _ rfl
  have z11 : W4.cell? ⟨w.heap.size + 1, 11, none⟩ = some (Value.int .i64 0) := Z4 11 _ rfl
  have z12 : W4.cell? ⟨w.heap.size + 1, 12, none⟩ = some (Value.int .i64 0) := Z4 12 _ rfl
  have z13 : W4.cell? ⟨w.heap.size + 1, 13, none⟩ = some (Value.int .i64 0) := Z4 13 _ rfl
  clear HW4 hc hc2 hf hf2 T1 T2
  obtain ⟨N, hN⟩ : ∃ N : Nat, g.regs = (N : Int) := ⟨g.regs.toNat, by omega⟩
  have d0 := HE4.cell c0
  have d1 := HE4.cell c1
  have d2 := HE4.cell c2
  rw [hN] at d2
  have d3 := HE4.cell c3
  have d4 := HE4.cell c4
  have d5 := HE4.cell c5
  have hlb4 : b < W4.heap.size := Nat.lt_of_lt_of_le hlb HE4.size
  clear c0 c1 c2 c3 c4 c5
  have hs6 : w.heap.size < W4.heap.size := by omega
  have hbn1 : ¬ b = w.heap.size + 1 := by omega
  have hbn2 : ¬ w.heap.size + 1 = b := by omega
  have HNN := Lib.hid hN
  have HLE : Hid (args.length ≤ N) := by have h1 := HN.out; have h2 := HPR.out; rw [Hid]; omega
  go_region_held3 (fun W' => W'.cell? ⟨w.heap.size, 0, none⟩ = some (.slice (some ⟨b, off, none⟩) nf cf) ∧ W'.cell? ⟨b, off + k * 6, none⟩ = some (.string g.name) ∧ W'.cell? ⟨b, off + k * 6 + 1, none⟩ = some (Value.int .i64 g.params) ∧ W'.cell? ⟨b, off + k * 6 + 2, none⟩ = some (Value.int .i64 (N : Int)) ∧ W'.cell? ⟨b, off + k * 6 + 3, none⟩ = some (Value.int .i64 g.prio) ∧ W'.cell? ⟨b, off + k * 6 + 4, none⟩ = some (.bool false) ∧ W'.cell? ⟨b, off + k * 6 + 5, none⟩ = some (.slice Ac nc cc))
    ((repeat' (with_reducible apply And.intro)) <;> (go_simp; done))
    ((go_at_call 60; refine (registers_any _ _ _ _ _ N args A n c _ (HA.out.mono RInt.stays xt) HLE.out (by omega)).mono ?_; rintro e w5 ⟨g5, rfl, hg5, hown5, hb5⟩; have HB5 := Lib.hid hb5; obtain ⟨hc5, hf5, hs5, he5⟩ := Ext.use (w := W4) hb5 xt; clear hb5; (try simp only [World.size_drew, World.size_alloc] at hs5); have hs7 : w.heap.size < w5.heap.size := (by omega); have hlb5 : b < w5.heap.size := (by omega); have hs8 : w.heap.size + 1 < w5.heap.size := (by omega)))
  all_goals
    have HAI : Hid (∀ x ∈ args, InR x) := fun x hx => by
      obtain ⟨i, hi, rfl⟩ := List.getElem_of_mem hx
      exact (HA.out.int (List.getElem?_eq_getElem hi)).choose_spec.choose_spec.2.2.1
    have he45 := HE4.trans he5
    have T5 := there_ext T4 he5
    generalize hWF : World.setCell _ _ _ = WF
    have HWF := Lib.hid hWF
    clear hWF
    go_wp2
  · obtain ⟨B5, hB5, hown5⟩ : ∃ B, w.heap.size + 2 ≤ B ∧ w5.ownsRow B 3 1 (.slice (some ⟨g5, 0, none⟩) N N) N ((regsOf N args).map (Value.int .i64)) := ⟨_, by simp; omega, hown5⟩
    have hW2 := HWF.out
    rw [chain14] at hW2
    have RW : WF.rangeAt (w.heap.size + 1) 0 (startL k g scope (w5.heap.size) (w5.heap.size + 1)) := by
      rw [← hW2]
      exact World.rangeAt_setCells_same _ _ 0 _ (by show World.there _ _ 0 14; exact tr)
    have EW : Ext w WF := by rw [← hW2]; exact he45.setCells (by omega) 0 _
    have OW : WF.ownsRow B5 3 1 (.slice (some ⟨g5, 0, none⟩) N N) N ((regsOf N args).map (Value.int .i64)) := by rw [← hW2]; exact own_setCells hown5 (by omega)
    have SW : WF.heap.size = w5.heap.size := by rw [← hW2]; exact setCells_size _ _ _ _
    refine ret_range2 (b := w.heap.size + 1) (cs := startL k g scope (w5.heap.size) (w5.heap.size + 1)) Tryz.results21 rfl rfl rfl rfl (range_old (range_old RW _) _) ⟨_, rfl, start_fin2 (B := B5) (N := N) (g5 := g5) (g := g) (args := args) (w := w) HNN.out (by omega) ?_ ?_ (ownsRow_ext OW ?_) HAI.out HFI.out HSI.out HG2.out, ?_⟩
    · exact range_old (range_new (t := 62) SW.symm) _
    · exact range_new (by simp [SW])
    · exact xt
    · exact xt
  · obtain ⟨B5, hB5, hown5⟩ : ∃ B, w.heap.size + 2 ≤ B ∧ w5.ownsRow B 3 1 (.slice (some ⟨g5, 0, none⟩) N N) N ((regsOf N args).map (Value.int .i64)) := ⟨_, by simp; omega, hown5⟩
    have hW2 := HWF.out
    rw [chain14] at hW2
    have RW : WF.rangeAt (w.heap.size + 1) 0 (startL k g scope (w5.heap.size + 1) (w5.heap.size)) := by
      rw [← hW2]
      exact World.rangeAt_setCells_same _ _ 0 _ (by show World.there _ _ 0 14; exact tr)
    have EW : Ext w WF := by rw [← hW2]; exact he45.setCells (by omega) 0 _
    have OW : WF.ownsRow B5 3 1 (.slice (some ⟨g5, 0, none⟩) N N) N ((regsOf N args).map (Value.int .i64)) := by rw [← hW2]; exact own_setCells hown5 (by omega)
    have SW : WF.heap.size = w5.heap.size := by rw [← hW2]; exact setCells_size _ _ _ _
    refine ret_range2 (b := w.heap.size + 1) (cs := startL k g scope (w5.heap.size + 1) (w5.heap.size)) Tryz.results21 rfl rfl rfl rfl (range_old (range_old RW _) _) ⟨_, rfl, start_fin2 (B := B5) (N := N) (g5 := g5) (g := g) (args := args) (w := w) HNN.out (by omega) ?_ ?_ (ownsRow_ext OW ?_) HAI.out HFI.out HSI.out HG2.out, ?_⟩
    · exact range_new (by simp [SW])
    · exact range_old (range_new (t := 55) SW.symm) _
    · exact xt
    · exact xt
  · obtain ⟨B5, hB5, hown5⟩ : ∃ B, w.heap.size + 2 ≤ B ∧ w5.ownsRow B 3 1 (.slice (some ⟨g5, 0, none⟩) N N) N ((regsOf N args).map (Value.int .i64)) := ⟨_, by simp; omega, hown5⟩
    have RB5 := range_ext (b := W4.heap.size) (o := 0) (cs := [Value.int .i64 (-1), Value.int .i64 0, Value.int .i64 0, Value.int .i64 0, .slice none 0 0]) (by exact rg) HB5.out
    have hW2 := HWF.out
    rw [chain14] at hW2
    have RW : WF.rangeAt (w.heap.size + 1) 0 (startL k g scope (w5.heap.size) (W4.heap.size)) := by
      rw [← hW2]
      exact World.rangeAt_setCells_same _ _ 0 _ (by show World.there _ _ 0 14; exact tr)
    have EW : Ext w WF := by rw [← hW2]; exact he45.setCells (by omega) 0 _
    have OW : WF.ownsRow B5 3 1 (.slice (some ⟨g5, 0, none⟩) N N) N ((regsOf N args).map (Value.int .i64)) := by rw [← hW2]; exact own_setCells hown5 (by omega)
    have SW : WF.heap.size = w5.heap.size := by rw [← hW2]; exact setCells_size _ _ _ _
    have BW : WF.rangeAt W4.heap.size 0 [Value.int .i64 (-1), Value.int .i64 0, Value.int .i64 0, Value.int .i64 0, .slice none 0 0] := by rw [← hW2]; exact range_sets_other RB5 (by omega)
    refine ret_range2 (b := w.heap.size + 1) (cs := startL k g scope (w5.heap.size) (W4.heap.size)) Tryz.results21 rfl rfl rfl rfl (range_old RW _) ⟨_, rfl, start_fin2 (B := B5) (N := N) (g5 := g5) (g := g) (args := args) (w := w) HNN.out (by omega) ?_ ?_ (ownsRow_ext OW ?_) HAI.out HFI.out HSI.out HG2.out, ?_⟩
    · exact range_new SW.symm
    · exact range_old BW _
    · exact xt
    · exact xt
end Go.Proofs.YtcjjoabofecjmaaGreat

namespace Go.Proofs.YtcjjoabofecjmaaGreat
open Go.RowKit
set_option maxRecDepth 4000 in
set_option maxHeartbeats 4000000 in
theorem Start_any (p : Prg) (f : Int) (args : List Int) (scope : Int) (VP : Value) (A : Option Addr) (n c : Nat) (w : World) (hP : RPrg w p VP) (hA : RSl 1 RInt w A n args) (hf : InR f) (hs : InR scope) :
    Calls Tryz.prog 21 #[VP, Value.int .i64 f, .slice A n c, Value.int .i64 scope] w fun e w' => ∃ V', e = .returned (.tuple #[V', Value.int .i64 (startS p f args scope).2]) ∧ RTsk w' (startS p f args scope).1 V' ∧ Ext w w' := by
  have HC := Lib.hid (fun W h => Check_any p VP W (hP.mono h))
  have HPP := Lib.hid hP
  obtain ⟨Af, nf, cf, Ao, no, co, Av, nv, cv, rfl, hF, hO, hVr, hcf, hco, hcv⟩ := hP
  clear hO hVr hcf hco hcv
  have hle := hF.le
  have hnl := hA.le
  have HL := Lib.hid hF.len
  have HN := Lib.hid hA.len
  have HA := Lib.hid hA
  have HFI := Lib.hid hf
  have HSI := Lib.hid hs
  have HF := Lib.hid hF
  clear hF hA hf hs
  by_cases hc : checkS p = 0
  rotate_left
  · have HR : Hid (startS p f args scope = (zeroTsk, 1)) := by unfold Hid startS; rw [if_pos hc]
    have hcb : (checkS p != 0) = true := by simpa using hc
    clear hc
    go_enter Tryz.func21, Tryz.ntmps21
    go_wp2_with (first | ((with_reducible show wpList _ _ _ ({ dst := _, op := Op.store 32 _ _, type := _, pos := _, after := _, guard := none } :: _) _ _); refine wpList_store_mid rfl 32 _ _ rfl _ _ _ rfl rfl (by exact tr) infoTsk (all_oneCell_toArray (by simp [Value.oneCell'])) ?_; (try dsimp only [Act.put])) | (go_at_call 45; refine (HC.out _ xt).mono ?_; rintro e w1 ⟨rfl, hb⟩; have T1 := there_ext (b := w.heap.size + 1) (o := 0) (n := 14) (by exact tr) hb; obtain ⟨hc, hf, hs, he⟩ := Ext.use (w := w) hb xt; clear hb; (try simp only [World.size_alloc] at hs)))
    refine ret_range2 (b := w.heap.size + 1) Tryz.results21 rfl rfl rfl rfl (World.rangeAt_setCells_same _ _ 0 _ (by exact tr)) ?_
    rw [HR.out]
    exact ⟨_, rfl, zero_reads _, xts⟩
  have HPO := Lib.hid (check_regs hc)
  have HC0 := Lib.hid hc
  rw [hc] at HC
  cases hfn : fnAt p f with
  | none =>
    have HR : Hid (startS p f args scope = (zeroTsk, 2)) := by unfold Hid startS; rw [if_neg (by simpa using hc), hfn]
    have h0 : ¬ f < 0 → (nf : Int) ≤ f := by rcases fnAt_none hfn with h | h <;> have := HL.out <;> omega
    clear hc hfn
    by_cases hf0 : f < 0
    · clear h0
      go_enter Tryz.func21, Tryz.ntmps21
      go_wp2_with (first | ((with_reducible show wpList _ _ _ ({ dst := _, op := Op.store 32 _ _, type := _, pos := _, after := _, guard := none } :: _) _ _); refine wpList_store_mid rfl 32 _ _ rfl _ _ _ rfl rfl (by exact tr) infoTsk (all_oneCell_toArray (by simp [Value.oneCell'])) ?_; (try dsimp only [Act.put])) | (go_at_call 45; refine (HC.out _ xt).mono ?_; rintro e w1 ⟨rfl, hb⟩; have T1 := there_ext (b := w.heap.size + 1) (o := 0) (n := 14) (by exact tr) hb; obtain ⟨hc, hf, hs, he⟩ := Ext.use (w := w) hb xt; clear hb; (try simp only [World.size_alloc] at hs)))
      refine ret_range2 (b := w.heap.size + 1) Tryz.results21 rfl rfl rfl rfl (World.rangeAt_setCells_same _ _ 0 _ (by exact tr)) ?_
      rw [HR.out]
      exact ⟨_, rfl, zero_reads _, xts⟩
    · have h1 := h0 hf0
      clear h0
      go_enter Tryz.func21, Tryz.ntmps21
      go_wp2_with (first | ((with_reducible show wpList _ _ _ ({ dst := _, op := Op.store 32 _ _, type := _, pos := _, after := _, guard := none } :: _) _ _); refine wpList_store_mid rfl 32 _ _ rfl _ _ _ rfl rfl (by exact tr) infoTsk (all_oneCell_toArray (by simp [Value.oneCell'])) ?_; (try dsimp only [Act.put])) | (go_at_call 45; refine (HC.out _ xt).mono ?_; rintro e w1 ⟨rfl, hb⟩; have T1 := there_ext (b := w.heap.size + 1) (o := 0) (n := 14) (by exact tr) hb; obtain ⟨hc, hf, hs, he⟩ := Ext.use (w := w) hb xt; clear hb; (try simp only [World.size_alloc] at hs)))
      refine ret_range2 (b := w.heap.size + 1) Tryz.results21 rfl rfl rfl rfl (World.rangeAt_setCells_same _ _ 0 _ (by exact tr)) ?_
      rw [HR.out]
      exact ⟨_, rfl, zero_reads _, xts⟩
  | some g =>
  obtain ⟨h0, h1, h2⟩ := fnAt_some hfn
  have hfn' := hfn
  have HR : Hid (startS p f args scope = if g.cleanup = true then (zeroTsk, 16) else if (n : Int) ≠ g.params then (zeroTsk, 10) else if args.all numB = false ∨ scope < 0 ∨ 32 ≤ scope then (zeroTsk, 2) else (firstTsk f g args scope, 0)) := by
    unfold Hid startS; rw [if_neg (by simpa using hc), hfn, HN.out]
  obtain ⟨b, off, Ac, nc, cc, rfl, hlb, hsz, i1, i2, i3, ⟨hCd, hcc⟩, c0, c1, c2, c3, c4, c5⟩ := HF.out.fnc h2
  have hlt : f < (nf : Int) := by have := HL.out; omega
  have hf0 : ¬ f < 0 := by omega
  have hf1 : ¬ (nf : Int) ≤ f := by omega
  have hrg := HPO.out g (List.mem_of_getElem? h2)
  have HG2 := Lib.hid i3
  have HG0 := Lib.hid h2
  clear hc hfn h1 h2 i1 i2 i3 hCd
  have HO : Hid (∀ W, Ext w W → Calls Tryz.prog 58 #[.slice A n c, .func (.func 59) #[] #[]] W fun e w' => e = .returned (.bool (!args.all numB)) ∧ Ext W w') := fun W hW => outs_any A n c args W (HA.out.mono RInt.stays hW)
  obtain ⟨q, hq⟩ : ∃ q, args.all numB = q := ⟨_, rfl⟩
  rw [hq] at HR HO
  have HQA := Lib.hid hq
  have HFN := Lib.hid hfn'
  clear hq
  cases hcl : g.cleanup with
  | true =>
    rw [hcl] at c4
    have HR : Hid (startS p f args scope = (zeroTsk, 16)) := by rw [Hid, HR.out, if_pos hcl]
    clear hcl
    go_enter Tryz.func21, Tryz.ntmps21
    go_wp2_with (first | ((with_reducible show wpList _ _ _ ({ dst := _, op := Op.store 32 _ _, type := _, pos := _, after := _, guard := none } :: _) _ _); refine wpList_store_mid rfl 32 _ _ rfl _ _ _ rfl rfl (by exact tr) infoTsk (all_oneCell_toArray (by simp [Value.oneCell'])) ?_; (try dsimp only [Act.put])) | (go_at_call 45; refine (HC.out _ xt).mono ?_; rintro e w1 ⟨rfl, hb⟩; have T1 := there_ext (b := w.heap.size + 1) (o := 0) (n := 14) (by exact tr) hb; obtain ⟨hc, hf, hs, he⟩ := Ext.use (w := w) hb xt; clear hb; (try simp only [World.size_alloc] at hs)))
    refine ret_range2 (b := w.heap.size + 1) Tryz.results21 rfl rfl rfl rfl (World.rangeAt_setCells_same _ _ 0 _ (by exact tr)) ?_
    rw [HR.out]
    exact ⟨_, rfl, zero_reads _, xts⟩
  | false =>
  rw [hcl] at c4
  by_cases hpm : (n : Int) = g.params
  rotate_left
  · have e0 : ((n : Int) != g.params) = true := by simpa using hpm
    have HR : Hid (startS p f args scope = (zeroTsk, 10)) := by rw [Hid, HR.out, if_neg (by rw [hcl]; decide), if_pos hpm]
    clear hcl hpm
    go_enter Tryz.func21, Tryz.ntmps21
    go_wp2_with (first | ((with_reducible show wpList _ _ _ ({ dst := _, op := Op.store 32 _ _, type := _, pos := _, after := _, guard := none } :: _) _ _); refine wpList_store_mid rfl 32 _ _ rfl _ _ _ rfl rfl (by exact tr) infoTsk (all_oneCell_toArray (by simp [Value.oneCell'])) ?_; (try dsimp only [Act.put])) | (go_at_call 45; refine (HC.out _ xt).mono ?_; rintro e w1 ⟨rfl, hb⟩; have T1 := there_ext (b := w.heap.size + 1) (o := 0) (n := 14) (by exact tr) hb; obtain ⟨hc, hf, hs, he⟩ := Ext.use (w := w) hb xt; clear hb; (try simp only [World.size_alloc] at hs)))
    refine ret_range2 (b := w.heap.size + 1) Tryz.results21 rfl rfl rfl rfl (World.rangeAt_setCells_same _ _ 0 _ (by exact tr)) ?_
    rw [HR.out]
    exact ⟨_, rfl, zero_reads _, xts⟩
  have e0 : ((n : Int) != g.params) = false := by simpa using hpm
  have HR : Hid (startS p f args scope = if q = false ∨ scope < 0 ∨ 32 ≤ scope then (zeroTsk, 2) else (firstTsk f g args scope, 0)) := by
    rw [Hid, HR.out, if_neg (by rw [hcl]; decide), if_neg (by simpa using hpm)]
  by_cases hbad : q = false ∨ scope < 0 ∨ 32 ≤ scope
  · have HR : Hid (startS p f args scope = (zeroTsk, 2)) := by rw [Hid, HR.out, if_pos hbad]
    clear hcl hpm
    have hb3 : q = true → ¬ scope < 0 → (32 : Int) ≤ scope := by
      rintro rfl h
      rcases hbad with h' | h' | h'
      · cases h'
      · exact absurd h' h
      · exact h'
    clear hbad
    go_enter Tryz.func21, Tryz.ntmps21
    go_wp2_with (first | ((with_reducible show wpList _ _ _ ({ dst := _, op := Op.store 32 _ _, type := _, pos := _, after := _, guard := none } :: _) _ _); refine wpList_store_mid rfl 32 _ _ rfl _ _ _ rfl rfl (by exact tr) infoTsk (all_oneCell_toArray (by simp [Value.oneCell'])) ?_; (try dsimp only [Act.put])) | (go_at_call 45; refine (HC.out _ xt).mono ?_; rintro e w1 ⟨rfl, hb⟩; have T1 := there_ext (b := w.heap.size + 1) (o := 0) (n := 14) (by exact tr) hb; obtain ⟨hc, hf, hs, he⟩ := Ext.use (w := w) hb xt; clear hb; (try simp only [World.size_alloc] at hs)) | (go_at_call 58; refine (HO.out _ xt).mono ?_; rintro e w2 ⟨rfl, hb⟩; have T2 := there_ext T1 hb; obtain ⟨hc2, hf2, hs2, he2⟩ := Ext.use (w := w) hb xt; clear hb))
    all_goals first
      | (refine ret_range2 (b := w.heap.size + 1) Tryz.results21 rfl rfl rfl rfl (World.rangeAt_setCells_same _ _ 0 _ (by exact tr)) ?_; rw [HR.out]; exact ⟨_, rfl, zero_reads _, xts⟩)
      | (exfalso; simp_all; omega)
  · have HR9 : Hid (startS p f args scope = (firstTsk f g args scope, 0)) := by rw [Hid, HR.out, if_neg hbad]
    have hq1 : q = true := by cases q with | true => rfl | false => exact absurd (.inl rfl) hbad
    have hs0 : ¬ scope < 0 := fun h => hbad (.inr (.inl h))
    have hs1 : ¬ (32 : Int) ≤ scope := fun h => hbad (.inr (.inr h))
    subst hq1
    obtain ⟨k, rfl⟩ : ∃ k : Nat, f = (k : Int) := ⟨f.toNat, by omega⟩
    rw [HR9.out]
    exact Start_ok p k g args scope _ A n c w HPP.out HA.out HFI.out HSI.out HC0.out HFN.out hcl hpm HQA.out hs0 hs1
end Go.Proofs.YtcjjoabofecjmaaGreat

namespace Go.Proofs.YtcjjoabofecjmaaGreat
open Go.RowKit Go.Sort
def insRow (x : Ins) (v : Value) : List Value := [Value.int .i64 x.op, Value.int .i64 x.a, Value.int .i64 x.b, Value.int .i64 x.c, v]
def codeCells (xs : List Ins) : List Value := rowOf insRow xs (List.replicate xs.length (.slice none 0 0))
theorem rins_list {w : World} {C : Nat} {xs : List Ins} (h : w.rangeAt C 0 (codeCells xs)) (hx : ∀ x ∈ xs, x.args = [] ∧ InR x.op ∧ InR x.a ∧ InR x.b ∧ InR x.c) (hn : xs.length ≤ 1000) : RSl 5 RIns w (some ⟨C, 0, none⟩) xs.length xs := by
  refine ⟨rfl, by omega, fun k x hk => ?_⟩
  have hlt := (List.getElem?_eq_some_iff.1 hk).1
  obtain ⟨h1, h2, h3, h4, h5⟩ := hx x (List.mem_of_getElem? hk)
  refine ⟨C, 0, insRow x (.slice none 0 0), rfl, rfl, ⟨none, 0, 0, rfl, h2, h3, h4, h5, by rw [h1]; exact RSl.nil _, Nat.le_refl _⟩, fun j v hj => ?_⟩
  have hj5 : j < 5 := (List.getElem?_eq_some_iff.1 hj).1
  have h6 : (codeCells xs)[k * 5 + j]? = some v := by
    unfold codeCells
    rw [rowOf_get (k := 5) (fun _ _ => rfl) hk (List.getElem?_replicate_of_lt hlt) hj5]; exact hj
  have := h (k * 5 + j) v h6
  rw [Nat.add_assoc]
  exact this
theorem rprg_one {w : World} {name : ByteArray} {regs : Int} {xs : List Ins} {C F c : Nat} (hC : w.rangeAt C 0 (codeCells xs)) (hF : w.rangeAt F 0 [.string name, Value.int .i64 0, Value.int .i64 regs, Value.int .i64 0, .bool false, .slice (some ⟨C, 0, none⟩) xs.length c]) (hc : xs.length ≤ c) (hname : name.size ≤ 1000) (hr : InR regs)
    (hx : ∀ x ∈ xs, x.args = [] ∧ InR x.op ∧ InR x.a ∧ InR x.b ∧ InR x.c) (hn : xs.length ≤ 1000) : RPrg w ⟨[⟨name, 0, regs, 0, false, xs⟩], [], []⟩ (.agg #[.slice (some ⟨F, 0, none⟩) 1 1, .slice none 0 0, .slice none 0 0]) := by
  refine ⟨_, _, _, _, _, _, _, _, _, rfl, ⟨rfl, by decide, fun k x hk => ?_⟩, RSl.nil _, RSl.nil _, Nat.le_refl _, Nat.le_refl _, Nat.le_refl _⟩
  have hk0 : k = 0 := by have := (List.getElem?_eq_some_iff.1 hk).1; simpa using this
  subst hk0
  have hx0 : x = ⟨name, 0, regs, 0, false, xs⟩ := by simpa using hk.symm
  subst hx0
  refine ⟨F, 0, _, rfl, rfl, ⟨_, _, c, rfl, (show name.size ≤ 140737488355328 by omega), (show InR 0 from ⟨by decide, by decide⟩), hr, (show InR 0 from ⟨by decide, by decide⟩), rins_list hC hx hn, hc⟩, fun j v hj => ?_⟩
  have := hF j v hj
  simpa using this
def mainN : ByteArray := ⟨#[109, 97, 105, 110]⟩
def codeA : List Ins := [⟨1, 0, 6, 0, []⟩, ⟨1, 1, 7, 0, []⟩, ⟨5, 0, 0, 1, []⟩, ⟨41, 0, 0, 0, []⟩]
def codeB : List Ins := [⟨1, 0, 6, 0, []⟩, ⟨1, 1, 0, 0, []⟩, ⟨6, 0, 0, 1, []⟩, ⟨41, 0, 0, 0, []⟩]
def prgA : Prg := ⟨[⟨mainN, 0, 2, 0, false, codeA⟩], [], []⟩
def prgB : Prg := ⟨[⟨mainN, 0, 2, 0, false, codeB⟩], [], []⟩
def tskAt (pc a b : Int) : Tsk := ⟨0, 0, 0, 1, 0, 0, false, [⟨0, pc, [a, b], -1, false⟩], [⟨-1, 0, 0, 0, []⟩], 0, false, 0, 0, 0⟩
theorem codeA_in : ∀ x ∈ codeA, x.args = [] ∧ InR x.op ∧ InR x.a ∧ InR x.b ∧ InR x.c := fun x hx => by
  simp only [codeA, List.mem_cons, List.not_mem_nil, or_false] at hx
  rcases hx with rfl | rfl | rfl | rfl <;> simp [InR]
theorem codeB_in : ∀ x ∈ codeB, x.args = [] ∧ InR x.op ∧ InR x.a ∧ InR x.b ∧ InR x.c := fun x hx => by
  simp only [codeB, List.mem_cons, List.not_mem_nil, or_false] at hx
  rcases hx with rfl | rfl | rfl | rfl <;> simp [InR]
theorem codeA_one : ∀ u ∈ codeCells codeA, u.oneCell' = true := List.all_eq_true.1 (show (codeCells codeA).all (·.oneCell') = true by kernel_rfl)
theorem infoInsN : (Tryz.prog.info? 37).map (·.size) = some 5 := by kernel_rfl
theorem codeB_of : ((codeCells codeA).set 7 (Value.int .i64 0)).set 10 (Value.int .i64 6) = codeCells codeB := rfl
def tskCells (VF VB : Value) : List Value := [Value.int .i64 0, Value.int .i64 0, Value.int .i64 0, Value.int .i64 1, Value.int .i64 0, Value.int .i64 0, .bool false, VF, VB, Value.int .i64 0, .bool false, Value.int .i64 0, Value.int .i64 0, Value.int .i64 0]
theorem tsk_parts {w : World} {pc a b : Int} {V : Value} (h : RTsk w (tskAt pc a b) V) : ∃ gF oF cF Ab cb Ar cr, V = .agg (tskCells (.slice (some ⟨gF, oF, none⟩) 1 cF) (.slice Ab 1 cb)).toArray ∧ w.cell? ⟨gF, oF + 1, none⟩ = some (Value.int .i64 pc) ∧ w.cell? ⟨gF, oF + 2, none⟩ = some (.slice Ar 2 cr) ∧ RSl 1 RInt w Ar 2 [a, b] := by
  obtain ⟨Af, nf, cf, Ab, nb, cb, rfl, _, _, _, _, _, _, _, _, _, _, hF, hB, _, _⟩ := h
  have h1 : nf = 1 := hF.len
  have h2 : nb = 1 := hB.len
  subst h1 h2
  obtain ⟨b2, off, Ar, nr, cr, rfl, _, _, _, _, ⟨hR, _⟩, c0, c1, c2, _, _⟩ := hF.frm (k := 0) rfl
  have h3 : nr = 2 := hR.len
  subst h3
  exact ⟨b2, off, cf, Ab, cb, Ar, cr, rfl, by simpa using c1, by simpa using c2, hR⟩
theorem awk_start : startS prgA 0 [] 0 = (tskAt 0 0 0, 0) := by kernel_rfl
theorem awk_go : advanceS prgA (tskAt 0 0 0) = (tskAt 3 42 7, ⟨1, 0, 0⟩, 0) := by kernel_rfl
theorem awk_now : currentS prgA (tskAt 3 42 7) = (⟨41, 0, 0, 0, []⟩, true) := by kernel_rfl
theorem awk_div : advanceS prgB (tskAt 0 0 0) = (tskAt 2 6 0, ⟨3, 6, 0⟩, 0) := by kernel_rfl
end Go.Proofs.YtcjjoabofecjmaaGreat

namespace Go.Proofs.YtcjjoabofecjmaaGreat
open Go.RowKit
attribute [local go_sem] Oper.semAt_some
theorem drop_eq_iff {α : Type} [DecidableEq α] {xs ys : List α} {k : Nat} {x y : α} (hx : xs[k]? = some x) (hy : ys[k]? = some y) : decide (xs.drop k = ys.drop k) = (decide (x = y) && decide (xs.drop (k + 1) = ys.drop (k + 1))) := by
  rw [drop_cons hx, drop_cons hy]
  simp [Bool.decide_and]
set_option maxHeartbeats 1000000 in
theorem SameInts_any (A B : Option Addr) (n m c d : Nat) (xs ys : List Int) (w : World) (hx : RSl 1 RInt w A n xs) (hy : RSl 1 RInt w B m ys) :
    Calls Tryz.prog 19 #[.slice A n c, .slice B m d] w fun e w' => e = .returned (.bool (decide (xs = ys))) ∧ Ext w w' := by
  have hle := hx.le
  have hle2 := hy.le
  have HX := Lib.hid hx.len
  have HY := Lib.hid hy.len
  by_cases hnm : n = m
  · subst hnm
    go_enter Tryz.func19, Tryz.ntmps19
    go_wp2
    go_loopg [5] n (fun gg s5 wr => ∃ kk : Nat, kk ≤ n ∧ n - kk ≤ gg ∧ s5 = .int .i64 kk ∧ Hid (Ext w wr) ∧ Hid (decide (xs = ys) = decide (xs.drop kk = ys.drop kk)))
    case atStart => exact ⟨0, Nat.zero_le _, by omega, rfl, Ext.refl w, rfl⟩
    case round =>
      obtain ⟨kk, hkk, hg, rfl, HW, HI⟩ := hrel
      by_cases hlt : kk < n
      · have hltz : (kk : Int) < (n : Int) := by omega
        obtain ⟨x, hx0⟩ : ∃ x, xs[kk]? = some x := ⟨_, List.getElem?_eq_getElem (by have := HX.out; omega)⟩
        obtain ⟨y, hy0⟩ : ∃ y, ys[kk]? = some y := ⟨_, List.getElem?_eq_getElem (by have := HY.out; omega)⟩
        obtain ⟨b, off, rfl, hlb, _, h0⟩ := (hx.mono RInt.stays HW.out).int hx0
        obtain ⟨b2, off2, rfl, hlb2, _, h2⟩ := (hy.mono RInt.stays HW.out).int hy0
        have HD := Lib.hid (drop_eq_iff hx0 hy0)
        have hWr := HW.out
        clear hx hy hx0 hy0
        go_wp2
        (refine wp_region_quiet_below (by kernel_rfl) (by kernel_rfl) ?_; (repeat (go_big_quiet_step (fail))); refine wpQuiet_nil ?_; intro w1 hw1; obtain ⟨hc, hf, hs, he⟩ := Ext.use (w := w) (ext_of_regrown hw1) xt; clear hw1; (try simp only [sA, sC, sD, sN] at hs))
        go_wp2
        · go_ret
          exact ⟨ret_bool (by rw [HI.out, HD.out, decide_eq_false (by simpa using ‹(x != y) = true›)]; rfl), he⟩
        · go_roundg (n - (kk + 1))
          case measure => omega
          case rel => exact ⟨kk + 1, by omega, by omega, by go_num, he, by rw [Hid, HI.out, HD.out, decide_eq_true (by simpa using ‹(x != y) = false›)]; rfl⟩
      · have hltz : ¬ (kk : Int) < (n : Int) := by omega
        clear hx hy
        go_wp2
        go_ret
        exact ⟨ret_bool (by rw [HI.out, List.drop_eq_nil_of_le (by have := HX.out; omega), List.drop_eq_nil_of_le (by have := HY.out; omega)]; rfl), HW.out⟩
  · have hz : ((n : Int) != (m : Int)) = true := by simp; omega
    clear hx hy
    go_enter Tryz.func19, Tryz.ntmps19
    go_wp2
    go_ret
    exact ⟨ret_bool (by rw [decide_eq_false]; intro h; exact hnm (by rw [HX.out, HY.out, h])), xt⟩
theorem extHdl (x y : Hdl) : x = y ↔ x.fn = y.fn ∧ x.args = y.args := by cases x; cases y; simp; try (intros; constructor <;> (rintro ⟨h1, h2, h3⟩; simp_all))
set_option maxHeartbeats 4000000 in
theorem SameHdl_any (A B : Option Addr) (n m c d : Nat) (xs ys : List Hdl) (w : World) (hx : RSl 2 RHdl w A n xs) (hy : RSl 2 RHdl w B m ys) :
    Calls Tryz.prog 27 #[.slice A n c, .slice B m d] w fun e w' => e = .returned (.bool (decide (xs = ys))) ∧ Ext w w' := by
  have hle := hx.le
  have hle2 := hy.le
  have HX := Lib.hid hx.len
  have HY := Lib.hid hy.len
  by_cases hnm : n = m
  · subst hnm
    go_enter Tryz.func27, Tryz.ntmps27
    go_wp2
    go_loopg [5] n (fun gg s5 wr => ∃ kk : Nat, kk ≤ n ∧ n - kk ≤ gg ∧ s5 = .int .i64 kk ∧ Hid (Ext w wr) ∧ Hid (decide (xs = ys) = decide (xs.drop kk = ys.drop kk)))
    case atStart => exact ⟨0, Nat.zero_le _, by omega, rfl, Ext.refl w, rfl⟩
    case round =>
      obtain ⟨kk, hkk, hg, rfl, HW, HI⟩ := hrel
      by_cases hlt : kk < n
      · have hltz : (kk : Int) < (n : Int) := by omega
        obtain ⟨x, hx0⟩ : ∃ x, xs[kk]? = some x := ⟨_, List.getElem?_eq_getElem (by have := HX.out; omega)⟩
        obtain ⟨y, hy0⟩ : ∃ y, ys[kk]? = some y := ⟨_, List.getElem?_eq_getElem (by have := HY.out; omega)⟩
        obtain ⟨b, off, Aa, na, ca, rfl, hlb, _, ⟨hA, _⟩, c0, c1⟩ := (hx.mono RHdl.stays HW.out).hdl hx0
        obtain ⟨b2, off2, Ab, nb, cb, rfl, hlb2, _, ⟨hB, _⟩, d0, d1⟩ := (hy.mono RHdl.stays HW.out).hdl hy0
        have HD := Lib.hid (drop_eq_iff hx0 hy0)
        have HA := Lib.hid hA
        have HB := Lib.hid hB
        have hWr := HW.out
        clear hx hy hx0 hy0 hA hB
        by_cases h0 : x.fn = y.fn
        rotate_left
        · have e0 : (x.fn != y.fn) = true := by simpa using h0
          go_wp2
          (refine wp_region_quiet_below (by kernel_rfl) (by kernel_rfl) ?_; (repeat (go_big_quiet_step (fail))); refine wpQuiet_nil ?_; intro w1 hw1; obtain ⟨hc, hf, hs, he⟩ := Ext.use (w := w) (ext_of_regrown hw1) xt; clear hw1; (try simp only [sA, sC, sD, sN] at hs))
          go_wp2
          go_ret
          exact ⟨ret_bool (by rw [HI.out, HD.out, decide_eq_false (fun h => h0 (by rw [h]))]; rfl), he⟩
        have e0 : (x.fn != y.fn) = false := by simpa using h0
        have HE : Hid (decide (x = y) = decide (x.args = y.args)) := by unfold Hid; rw [decide_eq_decide, extHdl]; simp only [h0, true_and]
        clear h0
        obtain ⟨q, hq⟩ : ∃ q, decide (x.args = y.args) = q := ⟨_, rfl⟩
        rw [hq] at HE
        have HC : ∀ W, Ext wr W → Calls Tryz.prog 19 #[.slice Aa na ca, .slice Ab nb cb] W fun e w' => e = .returned (.bool q) ∧ Ext W w' := fun W hW => by rw [← hq]; exact SameInts_any Aa Ab na nb ca cb x.args y.args W (HA.out.mono RInt.stays hW) (HB.out.mono RInt.stays hW)
        clear hq
        cases q with
        | false =>
          go_wp2
          (refine wp_region_quiet_below (by kernel_rfl) (by kernel_rfl) ?_; (repeat (go_big_quiet_step ((go_at_call 19; exact quiet_ext (HC _ xt))))); refine wpQuiet_nil ?_; intro w1 hw1; obtain ⟨hc, hf, hs, he⟩ := Ext.use (w := w) (ext_of_regrown hw1) xt; clear hw1; (try simp only [sA, sC, sD, sN] at hs))
          go_wp2
          go_ret
          exact ⟨ret_bool (by rw [HI.out, HD.out, HE.out]; rfl), he⟩
        | true =>
          go_wp2
          (refine wp_region_quiet_below (by kernel_rfl) (by kernel_rfl) ?_; (repeat (go_big_quiet_step ((go_at_call 19; exact quiet_ext (HC _ xt))))); refine wpQuiet_nil ?_; intro w1 hw1; obtain ⟨hc, hf, hs, he⟩ := Ext.use (w := w) (ext_of_regrown hw1) xt; clear hw1; (try simp only [sA, sC, sD, sN] at hs))
          go_wp2
          go_roundg (n - (kk + 1))
          case measure => omega
          case rel => exact ⟨kk + 1, by omega, by omega, by go_num, he, by rw [Hid, HI.out, HD.out, HE.out]; rfl⟩
      · have hltz : ¬ (kk : Int) < (n : Int) := by omega
        clear hx hy
        go_wp2
        go_ret
        exact ⟨ret_bool (by rw [HI.out, List.drop_eq_nil_of_le (by have := HX.out; omega), List.drop_eq_nil_of_le (by have := HY.out; omega)]; rfl), HW.out⟩
  · have hz : ((n : Int) != (m : Int)) = true := by simp; omega
    clear hx hy
    go_enter Tryz.func27, Tryz.ntmps27
    go_wp2
    go_ret
    exact ⟨ret_bool (by rw [decide_eq_false]; intro h; exact hnm (by rw [HX.out, HY.out, h])), xt⟩
theorem extFrm (x y : Frm) : x = y ↔ x.fn = y.fn ∧ x.pc = y.pc ∧ x.result = y.result ∧ x.cleanup = y.cleanup ∧ x.regs = y.regs := by cases x; cases y; simp; try (intros; constructor <;> (rintro ⟨h1, h2, h3⟩; simp_all))
set_option maxHeartbeats 4000000 in
theorem SameFrm_any (A B : Option Addr) (n m c d : Nat) (xs ys : List Frm) (w : World) (hx : RSl 5 RFrm w A n xs) (hy : RSl 5 RFrm w B m ys) :
    Calls Tryz.prog 63 #[.slice A n c, .slice B m d] w fun e w' => e = .returned (.bool (decide (xs = ys))) ∧ Ext w w' := by
  have hle := hx.le
  have hle2 := hy.le
  have HX := Lib.hid hx.len
  have HY := Lib.hid hy.len
  by_cases hnm : n = m
  · subst hnm
    go_enter Tryz.func63, Tryz.ntmps63
    go_wp2
    go_loopg [5] n (fun gg s5 wr => ∃ kk : Nat, kk ≤ n ∧ n - kk ≤ gg ∧ s5 = .int .i64 kk ∧ Hid (Ext w wr) ∧ Hid (decide (xs = ys) = decide (xs.drop kk = ys.drop kk)))
    case atStart => exact ⟨0, Nat.zero_le _, by omega, rfl, Ext.refl w, rfl⟩
    case round =>
      obtain ⟨kk, hkk, hg, rfl, HW, HI⟩ := hrel
      by_cases hlt : kk < n
      · have hltz : (kk : Int) < (n : Int) := by omega
        obtain ⟨x, hx0⟩ : ∃ x, xs[kk]? = some x := ⟨_, List.getElem?_eq_getElem (by have := HX.out; omega)⟩
        obtain ⟨y, hy0⟩ : ∃ y, ys[kk]? = some y := ⟨_, List.getElem?_eq_getElem (by have := HY.out; omega)⟩
        obtain ⟨b, off, Aa, na, ca, rfl, hlb, _, _, _, ⟨hA, _⟩, c0, c1, c2, c3, c4⟩ := (hx.mono RFrm.stays HW.out).frm hx0
        obtain ⟨b2, off2, Ab, nb, cb, rfl, hlb2, _, _, _, ⟨hB, _⟩, d0, d1, d2, d3, d4⟩ := (hy.mono RFrm.stays HW.out).frm hy0
        have HD := Lib.hid (drop_eq_iff hx0 hy0)
        have HA := Lib.hid hA
        have HB := Lib.hid hB
        have hWr := HW.out
        clear hx hy hx0 hy0 hA hB
        by_cases h0 : x.fn = y.fn
        rotate_left
        · have e0 : (x.fn != y.fn) = true := by simpa using h0
          go_wp2
          (refine wp_region_quiet_below (by kernel_rfl) (by kernel_rfl) ?_; (repeat (go_big_quiet_step (fail))); refine wpQuiet_nil ?_; intro w1 hw1; obtain ⟨hc, hf, hs, he⟩ := Ext.use (w := w) (ext_of_regrown hw1) xt; clear hw1; (try simp only [sA, sC, sD, sN] at hs))
          go_wp2
          go_ret
          exact ⟨ret_bool (by rw [HI.out, HD.out, decide_eq_false (fun h => h0 (by rw [h]))]; rfl), he⟩
        have e0 : (x.fn != y.fn) = false := by simpa using h0
        by_cases h1 : x.pc = y.pc
        rotate_left
        · have e1 : (x.pc != y.pc) = true := by simpa using h1
          go_wp2
          (refine wp_region_quiet_below (by kernel_rfl) (by kernel_rfl) ?_; (repeat (go_big_quiet_step (fail))); refine wpQuiet_nil ?_; intro w1 hw1; obtain ⟨hc, hf, hs, he⟩ := Ext.use (w := w) (ext_of_regrown hw1) xt; clear hw1; (try simp only [sA, sC, sD, sN] at hs))
          go_wp2
          go_ret
          exact ⟨ret_bool (by rw [HI.out, HD.out, decide_eq_false (fun h => h1 (by rw [h]))]; rfl), he⟩
        have e1 : (x.pc != y.pc) = false := by simpa using h1
        by_cases h2 : x.result = y.result
        rotate_left
        · have e2 : (x.result != y.result) = true := by simpa using h2
          go_wp2
          (refine wp_region_quiet_below (by kernel_rfl) (by kernel_rfl) ?_; (repeat (go_big_quiet_step (fail))); refine wpQuiet_nil ?_; intro w1 hw1; obtain ⟨hc, hf, hs, he⟩ := Ext.use (w := w) (ext_of_regrown hw1) xt; clear hw1; (try simp only [sA, sC, sD, sN] at hs))
          go_wp2
          go_ret
          exact ⟨ret_bool (by rw [HI.out, HD.out, decide_eq_false (fun h => h2 (by rw [h]))]; rfl), he⟩
        have e2 : (x.result != y.result) = false := by simpa using h2
        by_cases h3 : x.cleanup = y.cleanup
        rotate_left
        · have e3 : (x.cleanup == y.cleanup) = false := by simpa using h3
          go_wp2
          (refine wp_region_quiet_below (by kernel_rfl) (by kernel_rfl) ?_; (repeat (go_big_quiet_step (fail))); refine wpQuiet_nil ?_; intro w1 hw1; obtain ⟨hc, hf, hs, he⟩ := Ext.use (w := w) (ext_of_regrown hw1) xt; clear hw1; (try simp only [sA, sC, sD, sN] at hs))
          go_wp2
          go_ret
          exact ⟨ret_bool (by rw [HI.out, HD.out, decide_eq_false (fun h => h3 (by rw [h]))]; rfl), he⟩
        have e3 : (x.cleanup == y.cleanup) = true := by simpa using h3
        have HE : Hid (decide (x = y) = decide (x.regs = y.regs)) := by unfold Hid; rw [decide_eq_decide, extFrm]; simp only [h0, h1, h2, h3, true_and]
        clear h0 h1 h2 h3
        obtain ⟨q, hq⟩ : ∃ q, decide (x.regs = y.regs) = q := ⟨_, rfl⟩
        rw [hq] at HE
        have HC : ∀ W, Ext wr W → Calls Tryz.prog 19 #[.slice Aa na ca, .slice Ab nb cb] W fun e w' => e = .returned (.bool q) ∧ Ext W w' := fun W hW => by rw [← hq]; exact SameInts_any Aa Ab na nb ca cb x.regs y.regs W (HA.out.mono RInt.stays hW) (HB.out.mono RInt.stays hW)
        clear hq
        cases q with
        | false =>
          go_wp2
          (refine wp_region_quiet_below (by kernel_rfl) (by kernel_rfl) ?_; (repeat (go_big_quiet_step ((go_at_call 19; exact quiet_ext (HC _ xt))))); refine wpQuiet_nil ?_; intro w1 hw1; obtain ⟨hc, hf, hs, he⟩ := Ext.use (w := w) (ext_of_regrown hw1) xt; clear hw1; (try simp only [sA, sC, sD, sN] at hs))
          go_wp2
          go_ret
          exact ⟨ret_bool (by rw [HI.out, HD.out, HE.out]; rfl), he⟩
        | true =>
          go_wp2
          (refine wp_region_quiet_below (by kernel_rfl) (by kernel_rfl) ?_; (repeat (go_big_quiet_step ((go_at_call 19; exact quiet_ext (HC _ xt))))); refine wpQuiet_nil ?_; intro w1 hw1; obtain ⟨hc, hf, hs, he⟩ := Ext.use (w := w) (ext_of_regrown hw1) xt; clear hw1; (try simp only [sA, sC, sD, sN] at hs))
          go_wp2
          go_roundg (n - (kk + 1))
          case measure => omega
          case rel => exact ⟨kk + 1, by omega, by omega, by go_num, he, by rw [Hid, HI.out, HD.out, HE.out]; rfl⟩
      · have hltz : ¬ (kk : Int) < (n : Int) := by omega
        clear hx hy
        go_wp2
        go_ret
        exact ⟨ret_bool (by rw [HI.out, List.drop_eq_nil_of_le (by have := HX.out; omega), List.drop_eq_nil_of_le (by have := HY.out; omega)]; rfl), HW.out⟩
  · have hz : ((n : Int) != (m : Int)) = true := by simp; omega
    clear hx hy
    go_enter Tryz.func63, Tryz.ntmps63
    go_wp2
    go_ret
    exact ⟨ret_bool (by rw [decide_eq_false]; intro h; exact hnm (by rw [HX.out, HY.out, h])), xt⟩
theorem extBlk (x y : Blk) : x = y ↔ x.scope = y.scope ∧ x.depth = y.depth ∧ x.exit = y.exit ∧ x.mask = y.mask ∧ x.handlers = y.handlers := by cases x; cases y; simp; try (intros; constructor <;> (rintro ⟨h1, h2, h3⟩; simp_all))
set_option maxHeartbeats 4000000 in
theorem SameBlk_any (A B : Option Addr) (n m c d : Nat) (xs ys : List Blk) (w : World) (hx : RSl 5 RBlk w A n xs) (hy : RSl 5 RBlk w B m ys) :
    Calls Tryz.prog 64 #[.slice A n c, .slice B m d] w fun e w' => e = .returned (.bool (decide (xs = ys))) ∧ Ext w w' := by
  have hle := hx.le
  have hle2 := hy.le
  have HX := Lib.hid hx.len
  have HY := Lib.hid hy.len
  by_cases hnm : n = m
  · subst hnm
    go_enter Tryz.func64, Tryz.ntmps64
    go_wp2
    go_loopg [5] n (fun gg s5 wr => ∃ kk : Nat, kk ≤ n ∧ n - kk ≤ gg ∧ s5 = .int .i64 kk ∧ Hid (Ext w wr) ∧ Hid (decide (xs = ys) = decide (xs.drop kk = ys.drop kk)))
    case atStart => exact ⟨0, Nat.zero_le _, by omega, rfl, Ext.refl w, rfl⟩
    case round =>
      obtain ⟨kk, hkk, hg, rfl, HW, HI⟩ := hrel
      by_cases hlt : kk < n
      · have hltz : (kk : Int) < (n : Int) := by omega
        obtain ⟨x, hx0⟩ : ∃ x, xs[kk]? = some x := ⟨_, List.getElem?_eq_getElem (by have := HX.out; omega)⟩
        obtain ⟨y, hy0⟩ : ∃ y, ys[kk]? = some y := ⟨_, List.getElem?_eq_getElem (by have := HY.out; omega)⟩
        obtain ⟨b, off, Aa, na, ca, rfl, hlb, _, _, _, _, ⟨hA, _⟩, c0, c1, c2, c3, c4⟩ := (hx.mono RBlk.stays HW.out).blk hx0
        obtain ⟨b2, off2, Ab, nb, cb, rfl, hlb2, _, _, _, _, ⟨hB, _⟩, d0, d1, d2, d3, d4⟩ := (hy.mono RBlk.stays HW.out).blk hy0
        have HD := Lib.hid (drop_eq_iff hx0 hy0)
        have HA := Lib.hid hA
        have HB := Lib.hid hB
        have hWr := HW.out
        clear hx hy hx0 hy0 hA hB
        by_cases h0 : x.scope = y.scope
        rotate_left
        · have e0 : (x.scope != y.scope) = true := by simpa using h0
          go_wp2
          (refine wp_region_quiet_below (by kernel_rfl) (by kernel_rfl) ?_; (repeat (go_big_quiet_step (fail))); refine wpQuiet_nil ?_; intro w1 hw1; obtain ⟨hc, hf, hs, he⟩ := Ext.use (w := w) (ext_of_regrown hw1) xt; clear hw1; (try simp only [sA, sC, sD, sN] at hs))
          go_wp2
          go_ret
          exact ⟨ret_bool (by rw [HI.out, HD.out, decide_eq_false (fun h => h0 (by rw [h]))]; rfl), he⟩
        have e0 : (x.scope != y.scope) = false := by simpa using h0
        by_cases h1 : x.depth = y.depth
        rotate_left
        · have e1 : (x.depth != y.depth) = true := by simpa using h1
          go_wp2
          (refine wp_region_quiet_below (by kernel_rfl) (by kernel_rfl) ?_; (repeat (go_big_quiet_step (fail))); refine wpQuiet_nil ?_; intro w1 hw1; obtain ⟨hc, hf, hs, he⟩ := Ext.use (w := w) (ext_of_regrown hw1) xt; clear hw1; (try simp only [sA, sC, sD, sN] at hs))
          go_wp2
          go_ret
          exact ⟨ret_bool (by rw [HI.out, HD.out, decide_eq_false (fun h => h1 (by rw [h]))]; rfl), he⟩
        have e1 : (x.depth != y.depth) = false := by simpa using h1
        by_cases h2 : x.exit = y.exit
        rotate_left
        · have e2 : (x.exit != y.exit) = true := by simpa using h2
          go_wp2
          (refine wp_region_quiet_below (by kernel_rfl) (by kernel_rfl) ?_; (repeat (go_big_quiet_step (fail))); refine wpQuiet_nil ?_; intro w1 hw1; obtain ⟨hc, hf, hs, he⟩ := Ext.use (w := w) (ext_of_regrown hw1) xt; clear hw1; (try simp only [sA, sC, sD, sN] at hs))
          go_wp2
          go_ret
          exact ⟨ret_bool (by rw [HI.out, HD.out, decide_eq_false (fun h => h2 (by rw [h]))]; rfl), he⟩
        have e2 : (x.exit != y.exit) = false := by simpa using h2
        by_cases h3 : x.mask = y.mask
        rotate_left
        · have e3 : (x.mask != y.mask) = true := by simpa using h3
          go_wp2
          (refine wp_region_quiet_below (by kernel_rfl) (by kernel_rfl) ?_; (repeat (go_big_quiet_step (fail))); refine wpQuiet_nil ?_; intro w1 hw1; obtain ⟨hc, hf, hs, he⟩ := Ext.use (w := w) (ext_of_regrown hw1) xt; clear hw1; (try simp only [sA, sC, sD, sN] at hs))
          go_wp2
          go_ret
          exact ⟨ret_bool (by rw [HI.out, HD.out, decide_eq_false (fun h => h3 (by rw [h]))]; rfl), he⟩
        have e3 : (x.mask != y.mask) = false := by simpa using h3
        have HE : Hid (decide (x = y) = decide (x.handlers = y.handlers)) := by unfold Hid; rw [decide_eq_decide, extBlk]; simp only [h0, h1, h2, h3, true_and]
        clear h0 h1 h2 h3
        obtain ⟨q, hq⟩ : ∃ q, decide (x.handlers = y.handlers) = q := ⟨_, rfl⟩
        rw [hq] at HE
        have HC : ∀ W, Ext wr W → Calls Tryz.prog 27 #[.slice Aa na ca, .slice Ab nb cb] W fun e w' => e = .returned (.bool q) ∧ Ext W w' := fun W hW => by rw [← hq]; exact SameHdl_any Aa Ab na nb ca cb x.handlers y.handlers W (HA.out.mono RHdl.stays hW) (HB.out.mono RHdl.stays hW)
        clear hq
        cases q with
        | false =>
          go_wp2
          (refine wp_region_quiet_below (by kernel_rfl) (by kernel_rfl) ?_; (repeat (go_big_quiet_step ((go_at_call 27; exact quiet_ext (HC _ xt))))); refine wpQuiet_nil ?_; intro w1 hw1; obtain ⟨hc, hf, hs, he⟩ := Ext.use (w := w) (ext_of_regrown hw1) xt; clear hw1; (try simp only [sA, sC, sD, sN] at hs))
          go_wp2
          go_ret
          exact ⟨ret_bool (by rw [HI.out, HD.out, HE.out]; rfl), he⟩
        | true =>
          go_wp2
          (refine wp_region_quiet_below (by kernel_rfl) (by kernel_rfl) ?_; (repeat (go_big_quiet_step ((go_at_call 27; exact quiet_ext (HC _ xt))))); refine wpQuiet_nil ?_; intro w1 hw1; obtain ⟨hc, hf, hs, he⟩ := Ext.use (w := w) (ext_of_regrown hw1) xt; clear hw1; (try simp only [sA, sC, sD, sN] at hs))
          go_wp2
          go_roundg (n - (kk + 1))
          case measure => omega
          case rel => exact ⟨kk + 1, by omega, by omega, by go_num, he, by rw [Hid, HI.out, HD.out, HE.out]; rfl⟩
      · have hltz : ¬ (kk : Int) < (n : Int) := by omega
        clear hx hy
        go_wp2
        go_ret
        exact ⟨ret_bool (by rw [HI.out, List.drop_eq_nil_of_le (by have := HX.out; omega), List.drop_eq_nil_of_le (by have := HY.out; omega)]; rfl), HW.out⟩
  · have hz : ((n : Int) != (m : Int)) = true := by simp; omega
    clear hx hy
    go_enter Tryz.func64, Tryz.ntmps64
    go_wp2
    go_ret
    exact ⟨ret_bool (by rw [decide_eq_false]; intro h; exact hnm (by rw [HX.out, HY.out, h])), xt⟩
end Go.Proofs.YtcjjoabofecjmaaGreat
