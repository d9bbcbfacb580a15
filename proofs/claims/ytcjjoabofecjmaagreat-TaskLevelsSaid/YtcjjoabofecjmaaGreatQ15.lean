/- A part of the proof: Advance of package task where nothing runs; slices.Clip; three results; The frames and blocks of a task that ran, while results are laid; Advance of package task where local instructions run; Advance of package task where a clean-up handler runs (made out of XAdvB by program); Advance, whatever it is given; A new task of one frame and one block, laid into cells of its own, reads as it should. -/
import Derived.Test.YtcjjoabofecjmaaGreatQ14
import Derived.Test.YtcjjoabofecjmaaGreatQ07
import Derived.Test.YtcjjoabofecjmaaGreatQ04
set_option linter.unusedVariables false
set_option linter.unusedSimpArgs false
namespace Go.Proofs.YtcjjoabofecjmaaGreat
open Go.RowKit Go.Sort
set_option maxRecDepth 4000 in
set_option maxHeartbeats 1000000 in
theorem clip_any (A : Option Addr) (n c : Nat) (w : World) (hn : n ≤ c) (hm : n ≤ 1000) :
    Calls Tryz.prog 68 #[.slice A n c] w fun e w' => e = .returned (.slice A n n) ∧ w' = w := by
  have h1 : (n : Int) ≤ (c : Int) := by omega
  have h0 : (0 : Int) ≤ (n : Int) := by omega
  go_enter Tryz.func68, Tryz.ntmps68
  go_wp2
  go_ret
  exact ⟨rfl, rfl⟩
theorem ret_range3 {fn : Func} {R : Ending → World → Prop} {a : Act} {w : World} {b b2 s s2 k : Nat} {cs cs2 : List Value} {v : Value} (hfn : fn.results = #[ResultVar.cell s 32, ResultVar.cell s2 49, ResultVar.tmp k]) (hs : a.tmps[s]? = some (.pointer (some ⟨b, 0, none⟩))) (hs2 : a.tmps[s2]? = some (.pointer (some ⟨b2, 0, none⟩))) (hk : a.tmps[k]? = some v) (hd : a.defers = []) (hl : cs.length = 14) (hl2 : cs2.length = 3) (hR : w.rangeAt b 0 cs) (hR2 : w.rangeAt b2 0 cs2)
    (h : R (.returned (.tuple #[.agg cs.toArray, .agg cs2.toArray, v])) w) : bodyPost Tryz.prog fn R .ret a w :=
  bodyPost_ret (by simp [results, hfn, hs, hs2, hk, asAddr, run_loadVar_mid w b 0 32 cs _ hR Tryz.underlying32 rfl (by rw [infoTsk, hl]), run_loadVar_mid w b2 0 49 cs2 _ hR2 Tryz.underlying49 rfl (by rw [infoStop, hl2])]) hd h
theorem ranges_two {w : World} {b b2 : Nat} {cs cs2 : List Value} (hb : b ≠ b2) (h : w.there b 0 cs.length) (h2 : w.there b2 0 cs2.length) : ((w.setCells b 0 cs).setCells b2 0 cs2).rangeAt b 0 cs ∧ ((w.setCells b 0 cs).setCells b2 0 cs2).rangeAt b2 0 cs2 :=
  ⟨fun j v hj => by rw [World.cell?_setCells_out b2 cs2 0 _ _ (fun e => absurd e hb)]; exact World.rangeAt_setCells_same _ _ 0 _ h j v hj, World.rangeAt_setCells_same _ _ 0 _ (there_sets h2)⟩
def AdvPost (p : Prg) (t : Tsk) (w : World) (e : Ending) (w' : World) : Prop := ∃ V', e = .returned (.tuple #[V', stopA (advanceS p t).2.1, Value.int .i64 (advanceS p t).2.2]) ∧ RTsk w' (advanceS p t).1 V' ∧ Ext w w'
set_option maxRecDepth 4000 in
set_option maxHeartbeats 4000000 in
theorem Advance_bad (p : Prg) (t : Tsk) (VP VT : Value) (w : World) (hP : RPrg w p VP) (hT : RTsk w t VT) (hc : tcheckS p t ≠ 0) : Calls Tryz.prog 24 #[VP, VT] w (AdvPost p t w) := by
  have HC := Lib.hid (fun W h => tCheck_any p t VP VT W (hP.mono h) (hT.mono h))
  obtain ⟨Af, nf, cf, Ao, no, co, Av, nv, cv, rfl, hF, hO, hVr, hcf, hco, hcv⟩ := hP
  obtain ⟨Bf, mf, df, Bb, mb, db, rfl, _, _, _, _, _, _, _, _, _, _, hF2, hB2, hdf, hdb⟩ := hT
  clear hO hVr hcf hco hcv hB2 hF hF2
  have HR : Hid (advanceS p t = (zeroTsk, goOn, 1)) := by unfold Hid advanceS; rw [if_pos hc]
  have hcb : (tcheckS p t != 0) = true := by simpa using hc
  clear hc
  unfold AdvPost
  go_enter Tryz.func24, Tryz.ntmps24
  go_wp2_with (first | ((first | ((with_reducible show Code.wp _ (Code.region _ (List.toArray ({ dst := _, op := Op.load 32 _, type := _, pos := _, after := _, guard := none } :: _)) false) _ _ _); refine wp_region_lit ?_) | (with_reducible show wpList _ _ _ ({ dst := _, op := Op.load 32 _, type := _, pos := _, after := _, guard := none } :: _) _ _)); refine wpList_load_mid rfl 32 _ rfl _ _ rfl _ _ (by exact rg) Tryz.underlying32 rfl (by exact infoTsk) ?_; dsimp only [dZ, dS]) | ((with_reducible show wpList _ _ _ ({ dst := _, op := Op.store 32 _ _, type := _, pos := _, after := _, guard := none } :: _) _ _); refine wpList_store_mid rfl 32 _ _ rfl _ _ _ rfl rfl (by exact tr) infoTsk (all_oneCell_toArray (by simp [Value.oneCell'])) ?_; (try dsimp only [Act.put])) | ((with_reducible show wpList _ _ _ ({ dst := _, op := Op.store 49 _ _, type := _, pos := _, after := _, guard := none } :: _) _ _); refine wpList_store_mid rfl 49 _ _ rfl _ _ _ rfl rfl (by exact tr) infoStop (all_oneCell_toArray (by simp [Value.oneCell'])) ?_; (try dsimp only [Act.put])) | (go_at_call 17; refine (HC.out _ xt).mono ?_; rintro e w1 ⟨rfl, hb⟩; have T1 := there_ext (b := w.heap.size + 1 + 1) (o := 0) (n := 14) (by exact tr) hb; have U1 := there_ext (b := w.heap.size + 1 + 1 + 1) (o := 0) (n := 3) (by exact tr) hb; have he0 := Lib.hid hb; obtain ⟨hc, hf, hs, he⟩ := Ext.use (w := w) hb xt; clear hb; (try simp only [World.size_alloc] at hs); have hz1 : w.heap.size + 1 + 1 + 1 < w1.heap.size := (by omega)))
  refine ret_range3 (b := w.heap.size + 1 + 1) (b2 := w.heap.size + 1 + 1 + 1) Tryz.results24 rfl rfl rfl rfl ?hl ?hl2 (ranges_two (by omega) ?t1 ?t2).1 (ranges_two (by omega) ?t3 ?t4).2 ?fin
  case hl => rfl
  case hl2 => rfl
  case t1 => exact tr
  case t2 => exact tr
  case t3 => exact tr
  case t4 => exact tr
  rw [HR.out]
  exact ⟨_, rfl, zero_reads _, xts⟩
set_option maxRecDepth 4000 in
set_option maxHeartbeats 4000000 in
theorem Advance_state (p : Prg) (t : Tsk) (VP VT : Value) (w : World) (hP : RPrg w p VP) (hT : RTsk w t VT) (hc : tcheckS p t = 0) (hst : t.status ≠ 1) : Calls Tryz.prog 24 #[VP, VT] w (AdvPost p t w) := by
  have HC := Lib.hid (fun W h => tCheck_any p t VP VT W (hP.mono h) (hT.mono h))
  rw [hc] at HC
  obtain ⟨Af, nf, cf, Ao, no, co, Av, nv, cv, rfl, hF, hO, hVr, hcf, hco, hcv⟩ := hP
  obtain ⟨Bf, mf, df, Bb, mb, db, rfl, _, _, _, _, _, _, _, _, _, _, hF2, hB2, hdf, hdb⟩ := hT
  clear hO hVr hcf hco hcv hB2 hF hF2
  have HR : Hid (advanceS p t = (zeroTsk, goOn, 17)) := by unfold Hid advanceS; rw [if_neg (by simpa using hc), if_pos hst]
  have hcb : (t.status != 1) = true := by simpa using hst
  clear hc hst
  unfold AdvPost
  go_enter Tryz.func24, Tryz.ntmps24
  go_wp2_with (first | ((first | ((with_reducible show Code.wp _ (Code.region _ (List.toArray ({ dst := _, op := Op.load 32 _, type := _, pos := _, after := _, guard := none } :: _)) false) _ _ _); refine wp_region_lit ?_) | (with_reducible show wpList _ _ _ ({ dst := _, op := Op.load 32 _, type := _, pos := _, after := _, guard := none } :: _) _ _)); refine wpList_load_mid rfl 32 _ rfl _ _ rfl _ _ (by exact rg) Tryz.underlying32 rfl (by exact infoTsk) ?_; dsimp only [dZ, dS]) | ((with_reducible show wpList _ _ _ ({ dst := _, op := Op.store 32 _ _, type := _, pos := _, after := _, guard := none } :: _) _ _); refine wpList_store_mid rfl 32 _ _ rfl _ _ _ rfl rfl (by exact tr) infoTsk (all_oneCell_toArray (by simp [Value.oneCell'])) ?_; (try dsimp only [Act.put])) | ((with_reducible show wpList _ _ _ ({ dst := _, op := Op.store 49 _ _, type := _, pos := _, after := _, guard := none } :: _) _ _); refine wpList_store_mid rfl 49 _ _ rfl _ _ _ rfl rfl (by exact tr) infoStop (all_oneCell_toArray (by simp [Value.oneCell'])) ?_; (try dsimp only [Act.put])) | (go_at_call 17; refine (HC.out _ xt).mono ?_; rintro e w1 ⟨rfl, hb⟩; have T1 := there_ext (b := w.heap.size + 1 + 1) (o := 0) (n := 14) (by exact tr) hb; have U1 := there_ext (b := w.heap.size + 1 + 1 + 1) (o := 0) (n := 3) (by exact tr) hb; have he0 := Lib.hid hb; obtain ⟨hc, hf, hs, he⟩ := Ext.use (w := w) hb xt; clear hb; (try simp only [World.size_alloc] at hs); have hz1 : w.heap.size + 1 + 1 + 1 < w1.heap.size := (by omega)))
  refine ret_range3 (b := w.heap.size + 1 + 1) (b2 := w.heap.size + 1 + 1 + 1) Tryz.results24 rfl rfl rfl rfl ?hl ?hl2 (ranges_two (by omega) ?t1 ?t2).1 (ranges_two (by omega) ?t3 ?t4).2 ?fin
  case hl => rfl
  case hl2 => rfl
  case t1 => exact tr
  case t2 => exact tr
  case t3 => exact tr
  case t4 => exact tr
  rw [HR.out]
  exact ⟨_, rfl, zero_reads _, xts⟩
set_option maxRecDepth 4000 in
set_option maxHeartbeats 4000000 in
theorem Advance_unwinding (p : Prg) (t : Tsk) (VP VT : Value) (w : World) (hP : RPrg w p VP) (hT : RTsk w t VT) (hc : tcheckS p t = 0) (hst : t.status = 1) (hu : t.unw = true) (hi : inHand t = false) : Calls Tryz.prog 24 #[VP, VT] w (AdvPost p t w) := by
  have HC := Lib.hid (fun W h => tCheck_any p t VP VT W (hP.mono h) (hT.mono h))
  rw [hc] at HC
  have HH := Lib.hid (fun W h => handles_any t VT W (hT.mono h))
  rw [hi] at HH
  have HT := Lib.hid hT
  have HR : Hid (advanceS p t = (t, ⟨5, 0, 0⟩, 0)) := by unfold Hid advanceS; rw [if_neg (by simpa using hc), if_neg (by simpa using hst), if_pos ⟨hu, hi⟩]
  obtain ⟨Af, nf, cf, Ao, no, co, Av, nv, cv, rfl, hF, hO, hVr, hcf, hco, hcv⟩ := hP
  obtain ⟨Bf, mf, df, Bb, mb, db, rfl, _, _, _, _, _, _, _, _, _, _, hF2, hB2, hdf, hdb⟩ := hT
  clear hO hVr hcf hco hcv hB2 hF hF2
  rw [hu, hst] at HT HC HH ⊢
  clear hc hst hu hi
  unfold AdvPost
  go_enter Tryz.func24, Tryz.ntmps24
  go_wp2_with (first | ((first | ((with_reducible show Code.wp _ (Code.region _ (List.toArray ({ dst := _, op := Op.load 32 _, type := _, pos := _, after := _, guard := none } :: _)) false) _ _ _); refine wp_region_lit ?_) | (with_reducible show wpList _ _ _ ({ dst := _, op := Op.load 32 _, type := _, pos := _, after := _, guard := none } :: _) _ _)); refine wpList_load_mid rfl 32 _ rfl _ _ rfl _ _ (by exact rg) Tryz.underlying32 rfl (by exact infoTsk) ?_; dsimp only [dZ, dS]) | ((with_reducible show wpList _ _ _ ({ dst := _, op := Op.load 32 _, type := _, pos := _, after := _, guard := some _ } :: _) _ _); refine wpList_load_mid_g (by rfl) 32 _ rfl _ _ rfl _ _ (by exact rg) Tryz.underlying32 rfl (by exact infoTsk) ?_; dsimp only [dZ, dS]) | ((with_reducible show wpList _ _ _ ({ dst := _, op := Op.store 32 _ _, type := _, pos := _, after := _, guard := none } :: _) _ _); refine wpList_store_mid rfl 32 _ _ rfl _ _ _ rfl rfl (by exact tr) infoTsk (all_oneCell_toArray (by simp [Value.oneCell'])) ?_; (try dsimp only [Act.put])) | ((with_reducible show wpList _ _ _ ({ dst := _, op := Op.store 49 _ _, type := _, pos := _, after := _, guard := none } :: _) _ _); refine wpList_store_mid rfl 49 _ _ rfl _ _ _ rfl rfl (by exact tr) infoStop (all_oneCell_toArray (by simp [Value.oneCell'])) ?_; (try dsimp only [Act.put])) | (go_at_call 17; refine (HC.out _ xt).mono ?_; rintro e w1 ⟨rfl, hb⟩; have T1 := there_ext (b := w.heap.size + 1 + 1) (o := 0) (n := 14) (by exact tr) hb; have U1 := there_ext (b := w.heap.size + 1 + 1 + 1) (o := 0) (n := 3) (by exact tr) hb; have R1 := range_ext (b := w.heap.size + 1) (o := 0) (by exact rg) hb; have he0 := Lib.hid hb; obtain ⟨hc, hf, hs, he⟩ := Ext.use (w := w) hb xt; clear hb; (try simp only [World.size_alloc] at hs); have hz1 : w.heap.size + 1 + 1 + 1 < w1.heap.size := (by omega)) | (go_at_call 65; refine (HH.out _ xt).mono ?_; rintro e w2 ⟨rfl, hb⟩; have T2 := there_ext T1 hb; have U2 := there_ext U1 hb; have R2 := range_ext R1 hb; have he0 := Lib.hid hb; obtain ⟨hc2, hf2, hs2, he2⟩ := Ext.use (w := w) hb xt; clear hb))
  refine ret_range3 (b := w.heap.size + 1 + 1) (b2 := w.heap.size + 1 + 1 + 1) Tryz.results24 rfl rfl rfl rfl ?hl ?hl2 (ranges_two (by omega) ?t1 ?t2).1 (ranges_two (by omega) ?t3 ?t4).2 ?fin
  case hl => rfl
  case hl2 => rfl
  case t1 => exact tr
  case t2 => exact tr
  case t3 => exact tr
  case t4 => exact tr
  rw [HR.out]
  exact ⟨_, rfl, HT.out.mono xts, xts⟩
end Go.Proofs.YtcjjoabofecjmaaGreat

namespace Go.Proofs.YtcjjoabofecjmaaGreat
open Go.RowKit Go.Sort
theorem wpList_name {P : Program} {ops : Array Oper} {rest : List Oper} {a : Act} {w : World} {Q : Exit → Act → World → Prop} (h : ∀ W, Hid (W = w) → wpList P ops Q rest a W) : wpList P ops Q rest a w := h w rfl
theorem range_out {w : World} {b b2 o o2 : Nat} {cs vs : List Value} (h : w.rangeAt b o cs) (hb : b ≠ b2) : (w.setCells b2 o2 vs).rangeAt b o cs := fun j v hj => by
  rw [World.cell?_setCells_out b2 vs o2 _ _ (fun e => absurd e hb)]; exact h j v hj
theorem Cold.grown {w W : World} {b c : Nat} (h : Cold w b) (hg : w.grownBy W (some c)) (hne : b ≠ c) : Cold W b := by
  obtain ⟨o, h1, h2⟩ := h
  exact ⟨o, (hg.block b (Array.getElem?_eq_some_iff.1 h1).1 (fun e => hne (by injection e))).trans h1, h2⟩
def TskSt (X : List Value) (B R : Nat) (w : World) (t : Tsk) (VF VB : Value) (rs hs : List Value) (gs : List (List Value)) : Prop := OFr B w t.frames VF rs ∧ OBl B w t.blocks VB hs gs (boxV R :: VF :: VB :: (rs ++ (hs ++ X)))
theorem row_cold {w : World} {B b : Nat} {e : TypeId} {sz : Nat} {v : Value} {n : Nat} {xs : List Value} (h : w.ownsRow B e sz v n xs) (he : hotO (.cells #[] e (0, 0)) = true) (hb : Cold w b) : v.ownBlock = none ∨ v.ownBlock ≠ some b := by
  cases hv : v.ownBlock with
  | none => exact .inl rfl
  | some x =>
    refine .inr fun e' => ?_
    injection e' with e'
    subst e'
    obtain ⟨o, h1, h2⟩ := hb
    have := hot_row h hv he o h1
    rw [h2] at this
    cases this
theorem TskSt.mono {X : List Value} {B R : Nat} {w W : World} {t : Tsk} {VF VB : Value} {rs hs : List Value} {gs : List (List Value)} (h : TskSt X B R w t VF VB rs hs gs) (hE : Ext w W) : TskSt X B R W t VF VB rs hs gs := ⟨h.1.mono hE, h.2.mono hE⟩
theorem fr_rows {B : Nat} {w : World} {fs : List Frm} {VF : Value} {rs : List Value} (h : OFr B w fs VF rs) {v : Value} (hv : v ∈ rs) : ∃ m xs, w.ownsRow B 3 1 v m xs := by
  obtain ⟨i, hi, rfl⟩ := List.getElem_of_mem hv
  exact ⟨_, _, h.reg i _ _ (List.getElem?_eq_getElem (by rw [← h.len]; exact hi)) (List.getElem?_eq_getElem hi)⟩
theorem bl_rows {B : Nat} {w : World} {bs : List Blk} {VB : Value} {hs : List Value} {gs : List (List Value)} {L : List Value} (h : OBl B w bs VB hs gs L) {v : Value} (hv : v ∈ hs) : ∃ m xs, w.ownsRow B 58 2 v m xs := by
  obtain ⟨i, hi, rfl⟩ := List.getElem_of_mem hv
  exact ⟨_, _, (h.hnd i _ _ _ (List.getElem?_eq_getElem (show i < bs.length by rw [← h.len]; exact hi)) (List.getElem?_eq_getElem hi) (List.getElem?_eq_getElem (show i < gs.length by rw [h.alen, ← h.len]; exact hi))).2⟩
theorem TskSt.cold {X : List Value} {B R b : Nat} {w W : World} {t : Tsk} {VF VB : Value} {rs hs : List Value} {gs : List (List Value)} (h : TskSt X B R w t VF VB rs hs gs) (hX : boxV b ∈ X) (hb : Cold w b) (hg : w.grownBy W (some b)) : TskSt X B R W t VF VB rs hs gs := by
  refine ⟨h.1.kept hg (row_cold h.1.row (by decide) hb) (fun u hu => by obtain ⟨m, xs, hh⟩ := fr_rows h.1 hu; exact row_cold hh (by decide) hb), h.2.wrote hg (row_cold h.2.row (by decide) hb) (fun u hu => by obtain ⟨m, xs, hh⟩ := bl_rows h.2 hu; exact row_cold hh (by decide) hb) (u := boxV b) ?_ rfl⟩
  exact List.mem_cons_of_mem _ (List.mem_cons_of_mem _ (List.mem_cons_of_mem _ (List.mem_append_right _ (List.mem_append_right _ hX))))
theorem RunSt.off_box {X : List Value} {B R : Nat} {P3 : List Value} {w : World} {t : Tsk} {n : Int} {VF VB : Value} {rs hs : List Value} {gs : List (List Value)} (h : RunSt X B R P3 w t n VF VB rs hs gs) (j : Nat) (v : Value) : TskSt X B R (w.setCell ⟨R, j, none⟩ v) t VF VB rs hs gs := by
  obtain ⟨_, h5⟩ := World.ownsRow.stored (g := R) (n := 1) (cap := 1) h.box j v
  exact ⟨h.fr.kept h5 (apart_ne (apart_types h.fr.row h.box (by decide)) rfl) (fun u hu => by obtain ⟨m, xs, hh⟩ := h.rs_row hu; exact apart_ne (apart_types hh h.box (by decide)) rfl),
    h.bl.wrote h5 (apart_ne (apart_types h.bl.row h.box (by decide)) rfl) (fun u hu => by obtain ⟨m, xs, hh⟩ := h.hs_row hu; exact apart_ne (apart_types hh h.box (by decide)) rfl) List.mem_cons_self rfl⟩
theorem TskSt.reads {X : List Value} {B R : Nat} {w : World} {t : Tsk} {VF VB : Value} {rs hs : List Value} {gs : List (List Value)} (h : TskSt X B R w t VF VB rs hs gs) (hn : NumIn t) (hw : RunWk t) : ∃ Af cf, VF = .slice Af t.frames.length cf ∧ RTsk w t (.agg (tskL t (.slice Af t.frames.length t.frames.length) VB).toArray) := by
  have := hw.len
  have := hw.bl
  obtain ⟨Af, cf, rfl, hcf, hF⟩ := h.1.reads (by omega) (fun f hf => by have := hw.regs f hf; omega)
  obtain ⟨Ab, cb, rfl, hcb, hB⟩ := h.2.reads (by omega) (fun b hb => by have := hw.hdl b hb; omega)
  exact ⟨Af, cf, rfl, rtsk_of ⟨hn.fn, hn.scope, hn.prio, hn.status, hn.wkind, hn.windex, ⟨by have := hw.mask; omega, by have := hw.mask; omega⟩, hn.level, hn.reason, hn.result⟩ hF (Nat.le_refl _) hB hcb⟩
theorem there_below {B : Nat} {w W : World} {b o n : Nat} (h : w.there b o n) (hb : b < B) (k : Below B w W) : W.there b o n := fun j hj => by
  obtain ⟨h1, h2⟩ := h j hj
  exact ⟨by rw [Below.cell k (show b < B from hb)]; exact h1, by rw [Below.frozen k (show b < B from hb)]; exact h2⟩
theorem run_first {B R : Nat} {X : List Value} {w0 w5 W6 : World} {t : Tsk} {V0 V1 V2 VF VB : Value} {rs hs : List Value} {gs : List (List Value)} (hB : w0.heap.size ≤ B) (hR : w5.heap.size = R) (hBR : B ≤ R) (hW : W6 = w5.alloc (.cells ([V0, V1, V2] ++ (tskL t VF VB ++ [Value.int .i64 0])).toArray 98))
    (hF : OFr B w5 t.frames VF rs) (hO : ∀ L, Low w0 L → OBl B w5 t.blocks VB hs gs L) (hX : ∀ r ∈ X, ∀ x, r.ownBlock = some x → w0.heap.size ≤ x ∧ x ≤ R + 1) :
    ∀ W, Ext W6 W → R + 1 < W.heap.size → RunSt X B R [V0, V1, V2] W t 0 VF VB rs hs gs := fun W hE hs1 => by
  subst hW hR
  have hE5 : Ext w5 (w5.alloc (.cells ([V0, V1, V2] ++ (tskL t VF VB ++ [Value.int .i64 0])).toArray 98)) := (Ext.refl _).alloc _
  have hE' := hE5.trans hE
  have hbx := World.ownsRow_lit (base := B) (e := 98) (size := 18) w5 ([V0, V1, V2] ++ (tskL t VF VB ++ [Value.int .i64 0])).toArray 1 hBR (by simp [maxLen]) rfl
  have hlow : Low w0 (boxV w5.heap.size :: VF :: VB :: (rs ++ (hs ++ X))) := fun r hr x hx => by
    have hO0 := hO [] (fun _ h => by cases h)
    rcases List.mem_cons.1 hr with rfl | hr
    · have hx2 : w5.heap.size = x := by injection hx
      omega
    rcases List.mem_cons.1 hr with rfl | hr
    · exact Nat.le_trans hB (hF.row.lt x hx).1
    rcases List.mem_cons.1 hr with rfl | hr
    · exact Nat.le_trans hB (hO0.row.lt x hx).1
    rcases List.mem_append.1 hr with hr | hr
    · obtain ⟨m, xs, hh⟩ := fr_rows hF hr; exact Nat.le_trans hB (hh.lt x hx).1
    rcases List.mem_append.1 hr with hr | hr
    · obtain ⟨m, xs, hh⟩ := bl_rows hO0 hr; exact Nat.le_trans hB (hh.lt x hx).1
    · exact (hX r hr x hx).1
  exact ⟨rfl, ownsRow_ext hbx hE, hF.mono hE', (hO _ hlow).mono hE', fun r hr x hx => by have := (hX r hr x hx).2; omega⟩
end Go.Proofs.YtcjjoabofecjmaaGreat

namespace Go.Proofs.YtcjjoabofecjmaaGreat
open Go.RowKit Go.Sort
theorem tcheck_check {p : Prg} {t : Tsk} (h : tcheckS p t = 0) : checkS p = 0 := by
  unfold tcheckS at h
  split at h
  · cases h
  · rename_i h1
    rcases Decidable.em (checkS p = 0) with h2 | h2
    · exact h2
    · exact absurd (.inl h2) h1
set_option maxRecDepth 8000 in
set_option maxHeartbeats 4000000 in
theorem Advance_go (p : Prg) (t : Tsk) (VP VT : Value) (w : World) (hP : RPrg w p VP) (hT : RTsk w t VT) (hc : tcheckS p t = 0) (hst : t.status = 1) (hu : t.unw = false) (hl : t.frames.length ≠ 0) : Calls Tryz.prog 24 #[VP, VT] w (AdvPost p t w) := by
  have HC := Lib.hid (fun W h => tCheck_any p t VP VT W (hP.mono h) (hT.mono h))
  rw [hc] at HC
  have HCk := Lib.hid (tcheck_check hc)
  have HRO := Lib.hid (run_ok hc hst hl)
  have HNum := Lib.hid hT.nums
  have hwk := HRO.out.wk HCk.out
  have HWK := Lib.hid hwk
  have HCo := Lib.hid (fun W h => copied_any t VT w W hT h (by have := hwk.len; omega) (by have := hwk.bl; omega) (fun f hf => by have := hwk.regs f hf; omega) (fun b hb => by have := hwk.hdl b hb; omega))
  have HP := Lib.hid hP
  have HT := Lib.hid hT
  have HR : Hid (advanceS p t = ((runS p 500 t 0).1, (runS p 500 t 0).2, 0)) := by unfold Hid advanceS; rw [if_neg (by simpa using hc), if_neg (by simpa using hst), if_neg (by rw [hu]; rintro ⟨h, _⟩; cases h)]
  obtain ⟨Af, nf, cf, Ao, no, co, Av, nv, cv, rfl, hF, hO, hVr, hcf, hco, hcv⟩ := hP
  obtain ⟨Bf, mf, df, Bb, mb, db, rfl, _, _, _, _, _, _, _, _, _, _, hF2, hB2, hdf, hdb⟩ := hT
  clear hO hVr hcf hco hcv hB2 hF hF2
  have HSt := Lib.hid hst
  have HUn := Lib.hid hu
  rw [hu, hst] at HT HC HCo ⊢
  clear hc hst hu hl hwk
  unfold AdvPost
  go_enter Tryz.func24, Tryz.ntmps24
  go_wp2_with (first | ((first | ((with_reducible show Code.wp _ (Code.region _ (List.toArray ({ dst := _, op := Op.load 32 _, type := _, pos := _, after := _, guard := none } :: _)) false) _ _ _); refine wp_region_lit ?_) | (with_reducible show wpList _ _ _ ({ dst := _, op := Op.load 32 _, type := _, pos := _, after := _, guard := none } :: _) _ _)); refine wpList_load_mid rfl 32 _ rfl _ _ rfl _ _ (by exact rg) Tryz.underlying32 rfl (by exact infoTsk) ?_; dsimp only [dZ, dS]) | ((with_reducible show wpList _ _ _ ({ dst := _, op := Op.load 32 _, type := _, pos := _, after := _, guard := some _ } :: _) _ _); refine wpList_load_mid_g (by rfl) 32 _ rfl _ _ rfl _ _ (by exact rg) Tryz.underlying32 rfl (by exact infoTsk) ?_; dsimp only [dZ, dS]) | (go_at_call 17; refine (HC.out _ xt).mono ?_; rintro e w1 ⟨rfl, hb⟩; have T1 := there_ext (b := w.heap.size + 1 + 1) (o := 0) (n := 14) (by exact tr) hb; have U1 := there_ext (b := w.heap.size + 1 + 1 + 1) (o := 0) (n := 3) (by exact tr) hb; have R1 := range_ext (b := w.heap.size + 1) (o := 0) (by exact rg) hb; have Q1 := range_ext (b := w.heap.size) (o := 0) (cs := [.slice Af nf cf, .slice Ao no co, .slice Av nv cv]) (by exact rg) hb; have he0 := Lib.hid hb; obtain ⟨hc, hf, hs, he⟩ := Ext.use (w := w) hb xt; clear hb; (try simp only [World.size_alloc] at hs); have hz1 : w.heap.size + 1 + 1 + 1 < w1.heap.size := (by omega)))
  have HE1 := Lib.hid he
  have HC4 : Hid (Cold w1 (w.heap.size + 1 + 1)) := by
    refine Cold.ext ?_ he0.out
    refine Cold.ext (w := ((w.alloc _).alloc _).alloc _) ?_ xt
    simpa using Cold.alloc (w := (w.alloc _).alloc _) rfl
  have HC5 : Hid (Cold w1 (w.heap.size + 1 + 1 + 1)) := by
    refine Cold.ext ?_ he0.out
    simpa using Cold.alloc (w := ((w.alloc _).alloc _).alloc _) rfl
  clear hc hf hs he
  refine wp_region_th 5 (fun W' => Ext w1 W') (by kernel_rfl) (by kernel_rfl) (by kernel_rfl) (by kernel_rfl) (by decide) ?_ ?_
  · exact xt
  intro hT hHeld
  (refine th_take (i := 0) (oi := ?oi0_1) (v := ?v0_1) hT ?hi0_1 (by decide) (by kernel_rfl) (by kernel_rfl) ?hq0_1 (Or.inl ⟨?hw0_1, ?hy0_1⟩) (by assumption) ?rest0_1; (case hi0_1 => (simp only [List.getElem?_toArray, List.getElem?_cons_zero, List.getElem?_cons_succ]; rfl)); (case hw0_1 => rfl); (case hy0_1 => (intro w' hSw; refine Eq.trans (exec_load_mid 26 _ (by rfl) w.heap.size 0 (by rfl) _ _ Tryz.underlying26 (by rfl) ?hiL0_1 w' (range_ext Q1 hSw)) ?eqL0_1; (case eqL0_1 => with_reducible rfl); exact infoPrg)); (case hq0_1 => (exact fun _ _ _ h => h)); (try simp only [Act.put, aset, dZ, dS]))
  (refine th_take (i := 1) (oi := ?oi1_2) (v := ?v1_2) hT ?hi1_2 (by decide) (by kernel_rfl) (by kernel_rfl) ?hq1_2 (Or.inl ⟨?hw1_2, ?hy1_2⟩) (by assumption) ?rest1_2; (case hi1_2 => (simp only [List.getElem?_toArray, List.getElem?_cons_zero, List.getElem?_cons_succ]; rfl)); (case hw1_2 => rfl); (case hy1_2 => (intro w' hSw; refine Eq.trans (exec_load_mid 32 _ (by rfl) (w.heap.size + 1) 0 (by rfl) _ _ Tryz.underlying32 (by rfl) ?hiL1_2 w' (range_ext R1 hSw)) ?eqL1_2; (case eqL1_2 => with_reducible rfl); exact infoTsk)); (case hq1_2 => (exact fun _ _ _ h => h)); (try simp only [Act.put, aset, dZ, dS]))
  refine tst 2 (fun K hK => ?_)
  go_simp
  go_at_call 66
  refine (HCo.out _ (Ext.trans HE1.out hHeld)).mono ?_
  rintro e w5 ⟨VF, VB, rs, hs, gs, rfl, hOF, hOB, hb5⟩
  have hE5 : Ext w1 w5 := Ext.trans hHeld hb5
  dsimp only
  refine hK.out _ _ hE5 (fun hHeld => ?_)
  clear hK K
  (try simp only [Act.put, List.setIfInBounds_toArray, List.set_cons_zero, List.set_cons_succ])
  (refine tht 3 hT ?_; (try simp only [Act.put, aset, dZ, dS]))
  refine tst 4 (fun K hK => ?_)
  go_simp
  refine hK.out _ _ (hE5.alloc _) (fun hHeld => ?_)
  clear hK K
  (try simp only [Act.put, List.setIfInBounds_toArray, List.set_cons_zero, List.set_cons_succ])
  refine th_done (by kernel_rfl) ?_
  simp only [List.drop_succ_cons, List.drop_zero]
  refine wpList_name ?_
  intro W6 HW6
  have hz1 : w.heap.size + 1 + 1 + 1 < w1.heap.size := hz1
  have hs5 := hE5.size
  have hs6 : W6.heap.size = w5.heap.size + 1 := by rw [HW6.out]; simp
  have HE6 : Hid (Ext w1 W6) := by rw [Hid, HW6.out]; exact hE5.alloc _
  have HFirst := Lib.hid (run_first (B := w1.heap.size) (R := w5.heap.size) (X := [boxV (w5.heap.size + 1), boxV (w.heap.size + 1 + 1), boxV (w.heap.size + 1 + 1 + 1)]) (w0 := w) (W6 := W6) (t := t) (V0 := .slice Af nf cf) (V1 := .slice Ao no co) (V2 := .slice Av nv cv) (VF := VF) (VB := VB) HE1.out.size rfl hs5 (by rw [HW6.out]; unfold tskL; rw [HSt.out, HUn.out]; rfl) hOF hOB (fun r hr x hx => by
    simp only [List.mem_cons, List.not_mem_nil, or_false] at hr
    have := HE1.out.size
    rcases hr with rfl | rfl | rfl
    · have h2 : w5.heap.size + 1 = x := by injection hx
      omega
    · have h2 : w.heap.size + 1 + 1 = x := by injection hx
      omega
    · have h2 : w.heap.size + 1 + 1 + 1 = x := by injection hx
      omega))
  have HRun := Lib.hid (run_any (X := [boxV (w5.heap.size + 1), boxV (w.heap.size + 1 + 1), boxV (w.heap.size + 1 + 1 + 1)]) (by simp) hs6 hs5 HFirst.out HRO.out HCk.out HNum.out w (HE1.out.trans HE6.out) HE1.out.size HP.out)
  obtain ⟨hwkG, hsame⟩ := runS_wk HCk.out 500 t 0 HRO.out
  have HWG := Lib.hid hwkG
  have HNG := Lib.hid (HNum.out.same hsame)
  clear hwkG hsame HFirst hOF hOB HW6 hE5 hHeld HCo
  obtain ⟨G, hG⟩ : ∃ G, runS p 500 t 0 = G := ⟨_, rfl⟩
  rw [hG] at HRun HWG HNG HR
  clear hG
  unfold RunPost stopA at HRun
  go_wp2_with (first | (go_at_call 67; refine HRun.out.mono ?_; rintro e w7 ⟨rfl, ⟨n7, VF7, VB7, rs7, hs7, gs7, hst7⟩, hk7⟩; obtain ⟨A7, c7, e7, hcF7, _⟩ := ownsRow_shape hst7.fr.row; subst e7; obtain ⟨Ab7, cb7, eb7, _⟩ := ownsRow_shape hst7.bl.row; subst eb7; have HS7 := Lib.hid hst7; have HK7 := Lib.hid hk7; obtain ⟨N7, hN7⟩ : ∃ N7, G.1.frames.length = N7 := ⟨_, rfl⟩; have HN7 := Lib.hid hN7; have m7 := hst7.cellT (j := 7) (v := .slice A7 N7 c7) (by rw [← hN7]; rfl); have f7 := hst7.frozen 10; have zR7 := hst7.lt.2; have hN9 : N7 ≤ 9 := (by have := HWG.out.len; omega); rw [hN7] at hcF7; clear hst7 hk7 hN7) | (go_at_call 68; refine (clip_any A7 N7 c7 _ hcF7 (by omega)).mono ?_; rintro e w8 ⟨rfl, rfl⟩))
  refine wp_hid2 ?_
  intro W9 HW9
  have hN77 := HN7.out
  have hsz7 := HK7.out.below.size
  have hX4 : w.heap.size + 1 + 1 < w1.heap.size := by omega
  have R9 : W9.rangeAt w5.heap.size 3 (tskL G.1 (.slice A7 N7 N7) (.slice Ab7 G.1.blocks.length cb7)) := by
    rw [HW9.out]
    exact range_old (range_at (HS7.out.task) (by omega)) _
  have S9 : W9.rangeAt w7.heap.size 0 [Value.int .i64 G.2.kind, Value.int .i64 G.2.reason, Value.int .i64 G.2.value] := by
    rw [HW9.out]; exact range_new (by simp)
  have T9 : W9.there (w.heap.size + 1 + 1) 0 14 := by
    rw [HW9.out]; exact there_old (there_set (there_below (there_ext T1 HE6.out) hX4 HK7.out.below)) _
  have U9 : W9.there (w.heap.size + 1 + 1 + 1) 0 3 := by
    rw [HW9.out]; exact there_old (there_set (there_below (there_ext U1 HE6.out) hz1 HK7.out.below)) _
  have TS9 : TskSt [boxV (w5.heap.size + 1), boxV (w.heap.size + 1 + 1), boxV (w.heap.size + 1 + 1 + 1)] w1.heap.size w5.heap.size W9 G.1 (.slice A7 G.1.frames.length c7) (.slice Ab7 G.1.blocks.length cb7) rs7 hs7 gs7 := by
    rw [HW9.out]; exact (HS7.out.off_box 10 _).mono ((Ext.refl _).alloc _)
  have C49 : Cold W9 (w.heap.size + 1 + 1) := by
    rw [HW9.out]; exact Cold.ext ((((HC4.out.ext HE6.out).keep HK7.out).1).setCell _ _) ((Ext.refl _).alloc _)
  have C59 : Cold W9 (w.heap.size + 1 + 1 + 1) := by
    rw [HW9.out]; exact Cold.ext ((((HC5.out.ext HE6.out).keep HK7.out).1).setCell _ _) ((Ext.refl _).alloc _)
  have E9 : Hid (Ext w W9) := by
    have h1 : Ext w w7 := Below.trans (HE1.out.trans HE6.out) (Below.mono HK7.out.below HE1.out.size)
    have h2 := HE1.out.size
    rw [Hid, HW9.out]
    exact (h1.setCell (show w.heap.size ≤ w5.heap.size by omega) _).alloc _
  have hsw7 : w7.heap.size < W9.heap.size := by rw [HW9.out]; simp
  have hw1 := HE1.out.size
  have TSH := Lib.hid TS9
  have C4H := Lib.hid C49
  have C5H := Lib.hid C59
  unfold tskL at R9
  clear TS9 C49 C59 HW9 m7 f7 HS7 HK7 R1 Q1 T1 U1
  refine wp_region_th 6 (fun W' => W'.rangeAt w5.heap.size 3 [Value.int .i64 G.1.fn, Value.int .i64 G.1.scope, Value.int .i64 G.1.prio, Value.int .i64 G.1.status, Value.int .i64 G.1.wkind, Value.int .i64 G.1.windex, .bool G.1.wagain, .slice A7 N7 N7, .slice Ab7 G.1.blocks.length cb7, Value.int .i64 G.1.mask, .bool G.1.unw, Value.int .i64 G.1.level, Value.int .i64 G.1.reason, Value.int .i64 G.1.result] ∧ W'.rangeAt w7.heap.size 0 [Value.int .i64 G.2.kind, Value.int .i64 G.2.reason, Value.int .i64 G.2.value]) (by kernel_rfl) (by kernel_rfl) (by kernel_rfl) (by kernel_rfl) (by decide) ?_ ?_
  · exact ⟨range_drew R9, range_drew S9⟩
  intro hT hHeld
  (refine tht 0 hT ?_; (try simp only [Act.put, aset, dZ, dS]); refine tht 1 hT ?_; (try simp only [Act.put, aset, dZ, dS]); refine tht 2 hT ?_; (try simp only [Act.put, aset, dZ, dS]))
  (refine th_take (i := 3) (oi := ?oi3_3) (v := ?v3_3) hT ?hi3_3 (by decide) (by kernel_rfl) (by kernel_rfl) ?hq3_3 (Or.inl ⟨?hw3_3, ?hy3_3⟩) (by assumption) ?rest3_3; (case hi3_3 => (simp only [List.getElem?_toArray, List.getElem?_cons_zero, List.getElem?_cons_succ]; rfl)); (case hw3_3 => rfl); (case hy3_3 => (intro w' hSw; refine Eq.trans (exec_load_mid 32 _ (by rfl) w5.heap.size 3 (by rfl) _ _ Tryz.underlying32 (by rfl) ?hiL3_3 w' (hSw.1)) ?eqL3_3; (case eqL3_3 => with_reducible rfl); exact infoTsk)); (case hq3_3 => (exact fun _ _ _ h => h)); (try simp only [Act.put, aset, dZ, dS]))
  (refine th_take (i := 4) (oi := ?oi4_4) (v := ?v4_4) hT ?hi4_4 (by decide) (by kernel_rfl) (by kernel_rfl) ?hq4_4 (Or.inl ⟨?hw4_4, ?hy4_4⟩) (by assumption) ?rest4_4; (case hi4_4 => (simp only [List.getElem?_toArray, List.getElem?_cons_zero, List.getElem?_cons_succ]; rfl)); (case hw4_4 => rfl); (case hy4_4 => (intro w' hSw; refine Eq.trans (exec_load_mid 49 _ (by rfl) w7.heap.size 0 (by rfl) _ _ Tryz.underlying49 (by rfl) ?hiL4_4 w' (hSw.2)) ?eqL4_4; (case eqL4_4 => with_reducible rfl); exact infoStop)); (case hq4_4 => (exact fun _ _ _ h => h)); (try simp only [Act.put, aset, dZ, dS]))
  refine tst 5 (fun K hK => ?_)
  have T10 : W9.drew.there (w.heap.size + 1 + 1) 0 14 := there_drew T9
  have U10 : W9.drew.there (w.heap.size + 1 + 1 + 1) 0 3 := there_drew U9
  rw [if_pos (by rfl)]
  refine wp_store_mid _ _ _ rfl _ _ (List.toArray _) rfl rfl T10 infoTsk (all_oneCell_toArray (by simp [Value.oneCell'])) ?_
  refine hK.out _ _ ⟨range_out hHeld.1 (by omega), range_out hHeld.2 (by omega)⟩ (fun hHeld => ?_)
  clear hK K
  (try simp only [Act.put, List.setIfInBounds_toArray, List.set_cons_zero, List.set_cons_succ])
  refine th_done (by kernel_rfl) ?_
  simp only [List.drop_succ_cons, List.drop_zero]
  go_wp2_with ((with_reducible show wpList _ _ _ ({ dst := _, op := Op.store 49 _ _, type := _, pos := _, after := _, guard := none } :: _) _ _); refine wpList_store_mid rfl 49 _ _ rfl _ _ _ rfl rfl (by exact tr) infoStop (all_oneCell_toArray (by simp [Value.oneCell'])) ?_; (try dsimp only [Act.put]))
  have hd : Ext W9 W9.drew := (Ext.refl _).drew
  have hfin := Lib.hid (fun (cs cs2 : List Value) => (((TSH.out.mono hd).cold (b := w.heap.size + 1 + 1) (by simp) (C4H.out.ext hd) (setCells_grown _ cs 0 _)).cold (b := w.heap.size + 1 + 1 + 1) (by simp) (((C5H.out.ext hd).grown (setCells_grown _ cs 0 _) (by omega))) (setCells_grown _ cs2 0 _)).reads HNG.out HWG.out)
  refine ret_range3 (b := w.heap.size + 1 + 1) (b2 := w.heap.size + 1 + 1 + 1) Tryz.results24 rfl rfl rfl rfl ?hl ?hl2 (ranges_two (by omega) ?t1 ?t2).1 (ranges_two (by omega) ?t3 ?t4).2 ?fin
  case hl => rfl
  case hl2 => rfl
  case t1 => exact T10
  case t2 => exact U10
  case t3 => exact T10
  case t4 => exact U10
  case fin =>
    rw [HR.out]
    refine ⟨_, rfl, ?_, ?_⟩
    · obtain ⟨Af7, cf7, ef7, hrt⟩ := hfin.out [Value.int .i64 G.1.fn, Value.int .i64 G.1.scope, Value.int .i64 G.1.prio, Value.int .i64 G.1.status, Value.int .i64 G.1.wkind, Value.int .i64 G.1.windex, .bool G.1.wagain, .slice A7 N7 N7, .slice Ab7 G.1.blocks.length cb7, Value.int .i64 G.1.mask, .bool G.1.unw, Value.int .i64 G.1.level, Value.int .i64 G.1.reason, Value.int .i64 G.1.result] [Value.int .i64 G.2.kind, Value.int .i64 G.2.reason, Value.int .i64 G.2.value]
      injection ef7 with q1 q2 q3
      rw [← q1, HN7.out] at hrt
      exact hrt
    · have h9 := E9.out
      exact xts
end Go.Proofs.YtcjjoabofecjmaaGreat

namespace Go.Proofs.YtcjjoabofecjmaaGreat
open Go.RowKit Go.Sort
set_option maxRecDepth 8000 in
set_option maxHeartbeats 4000000 in
theorem Advance_hand (p : Prg) (t : Tsk) (VP VT : Value) (w : World) (hP : RPrg w p VP) (hT : RTsk w t VT) (hc : tcheckS p t = 0) (hst : t.status = 1) (hu : t.unw = true) (hi : inHand t = true) (hl : t.frames.length ≠ 0) : Calls Tryz.prog 24 #[VP, VT] w (AdvPost p t w) := by
  have HC := Lib.hid (fun W h => tCheck_any p t VP VT W (hP.mono h) (hT.mono h))
  rw [hc] at HC
  have HH := Lib.hid (fun W h => handles_any t VT W (hT.mono h))
  rw [hi] at HH
  have HCk := Lib.hid (tcheck_check hc)
  have HRO := Lib.hid (run_ok hc hst hl)
  have HNum := Lib.hid hT.nums
  have hwk := HRO.out.wk HCk.out
  have HWK := Lib.hid hwk
  have HCo := Lib.hid (fun W h => copied_any t VT w W hT h (by have := hwk.len; omega) (by have := hwk.bl; omega) (fun f hf => by have := hwk.regs f hf; omega) (fun b hb => by have := hwk.hdl b hb; omega))
  have HP := Lib.hid hP
  have HT := Lib.hid hT
  have HR : Hid (advanceS p t = ((runS p 500 t 0).1, (runS p 500 t 0).2, 0)) := by unfold Hid advanceS; rw [if_neg (by simpa using hc), if_neg (by simpa using hst), if_neg (by rw [hi]; rintro ⟨_, h⟩; cases h)]
  obtain ⟨Af, nf, cf, Ao, no, co, Av, nv, cv, rfl, hF, hO, hVr, hcf, hco, hcv⟩ := hP
  obtain ⟨Bf, mf, df, Bb, mb, db, rfl, _, _, _, _, _, _, _, _, _, _, hF2, hB2, hdf, hdb⟩ := hT
  clear hO hVr hcf hco hcv hB2 hF hF2
  have HSt := Lib.hid hst
  have HUn := Lib.hid hu
  rw [hu, hst] at HT HC HCo HH ⊢
  clear hc hst hu hi hl hwk
  unfold AdvPost
  go_enter Tryz.func24, Tryz.ntmps24
  go_wp2_with (first | ((first | ((with_reducible show Code.wp _ (Code.region _ (List.toArray ({ dst := _, op := Op.load 32 _, type := _, pos := _, after := _, guard := none } :: _)) false) _ _ _); refine wp_region_lit ?_) | (with_reducible show wpList _ _ _ ({ dst := _, op := Op.load 32 _, type := _, pos := _, after := _, guard := none } :: _) _ _)); refine wpList_load_mid rfl 32 _ rfl _ _ rfl _ _ (by exact rg) Tryz.underlying32 rfl (by exact infoTsk) ?_; dsimp only [dZ, dS]) | ((with_reducible show wpList _ _ _ ({ dst := _, op := Op.load 32 _, type := _, pos := _, after := _, guard := some _ } :: _) _ _); refine wpList_load_mid_g (by rfl) 32 _ rfl _ _ rfl _ _ (by exact rg) Tryz.underlying32 rfl (by exact infoTsk) ?_; dsimp only [dZ, dS]) | (go_at_call 17; refine (HC.out _ xt).mono ?_; rintro e w1 ⟨rfl, hb⟩; have T1 := there_ext (b := w.heap.size + 1 + 1) (o := 0) (n := 14) (by exact tr) hb; have U1 := there_ext (b := w.heap.size + 1 + 1 + 1) (o := 0) (n := 3) (by exact tr) hb; have R1 := range_ext (b := w.heap.size + 1) (o := 0) (by exact rg) hb; have Q1 := range_ext (b := w.heap.size) (o := 0) (cs := [.slice Af nf cf, .slice Ao no co, .slice Av nv cv]) (by exact rg) hb; have he0 := Lib.hid hb; obtain ⟨hc, hf, hs, he⟩ := Ext.use (w := w) hb xt; clear hb; (try simp only [World.size_alloc] at hs); have hz1 : w.heap.size + 1 + 1 + 1 < w1.heap.size := (by omega)) | (go_at_call 65; refine (HH.out _ xt).mono ?_; rintro e w2 ⟨rfl, hb⟩; have T1 := there_ext T1 hb; have U1 := there_ext U1 hb; have R1 := range_ext R1 hb; have Q1 := range_ext Q1 hb; have he0 := Lib.hid (Ext.trans he0.out hb); have he := Ext.trans he hb; have hz1 := Nat.lt_of_lt_of_le hz1 hb.size; clear hb))
  have HE1 := Lib.hid he
  have HC4 : Hid (Cold w2 (w.heap.size + 1 + 1)) := by
    refine Cold.ext ?_ he0.out
    refine Cold.ext (w := ((w.alloc _).alloc _).alloc _) ?_ xt
    simpa using Cold.alloc (w := (w.alloc _).alloc _) rfl
  have HC5 : Hid (Cold w2 (w.heap.size + 1 + 1 + 1)) := by
    refine Cold.ext ?_ he0.out
    simpa using Cold.alloc (w := ((w.alloc _).alloc _).alloc _) rfl
  clear hc hf hs he
  refine wp_region_th 5 (fun W' => Ext w2 W') (by kernel_rfl) (by kernel_rfl) (by kernel_rfl) (by kernel_rfl) (by decide) ?_ ?_
  · exact xt
  intro hT hHeld
  (refine th_take (i := 0) (oi := ?oi0_1) (v := ?v0_1) hT ?hi0_1 (by decide) (by kernel_rfl) (by kernel_rfl) ?hq0_1 (Or.inl ⟨?hw0_1, ?hy0_1⟩) (by assumption) ?rest0_1; (case hi0_1 => (simp only [List.getElem?_toArray, List.getElem?_cons_zero, List.getElem?_cons_succ]; rfl)); (case hw0_1 => rfl); (case hy0_1 => (intro w' hSw; refine Eq.trans (exec_load_mid 26 _ (by rfl) w.heap.size 0 (by rfl) _ _ Tryz.underlying26 (by rfl) ?hiL0_1 w' (range_ext Q1 hSw)) ?eqL0_1; (case eqL0_1 => with_reducible rfl); exact infoPrg)); (case hq0_1 => (exact fun _ _ _ h => h)); (try simp only [Act.put, aset, dZ, dS]))
  (refine th_take (i := 1) (oi := ?oi1_2) (v := ?v1_2) hT ?hi1_2 (by decide) (by kernel_rfl) (by kernel_rfl) ?hq1_2 (Or.inl ⟨?hw1_2, ?hy1_2⟩) (by assumption) ?rest1_2; (case hi1_2 => (simp only [List.getElem?_toArray, List.getElem?_cons_zero, List.getElem?_cons_succ]; rfl)); (case hw1_2 => rfl); (case hy1_2 => (intro w' hSw; refine Eq.trans (exec_load_mid 32 _ (by rfl) (w.heap.size + 1) 0 (by rfl) _ _ Tryz.underlying32 (by rfl) ?hiL1_2 w' (range_ext R1 hSw)) ?eqL1_2; (case eqL1_2 => with_reducible rfl); exact infoTsk)); (case hq1_2 => (exact fun _ _ _ h => h)); (try simp only [Act.put, aset, dZ, dS]))
  refine tst 2 (fun K hK => ?_)
  go_simp
  go_at_call 66
  refine (HCo.out _ (Ext.trans HE1.out hHeld)).mono ?_
  rintro e w5 ⟨VF, VB, rs, hs, gs, rfl, hOF, hOB, hb5⟩
  have hE5 : Ext w2 w5 := Ext.trans hHeld hb5
  dsimp only
  refine hK.out _ _ hE5 (fun hHeld => ?_)
  clear hK K
  (try simp only [Act.put, List.setIfInBounds_toArray, List.set_cons_zero, List.set_cons_succ])
  (refine tht 3 hT ?_; (try simp only [Act.put, aset, dZ, dS]))
  refine tst 4 (fun K hK => ?_)
  go_simp
  refine hK.out _ _ (hE5.alloc _) (fun hHeld => ?_)
  clear hK K
  (try simp only [Act.put, List.setIfInBounds_toArray, List.set_cons_zero, List.set_cons_succ])
  refine th_done (by kernel_rfl) ?_
  simp only [List.drop_succ_cons, List.drop_zero]
  refine wpList_name ?_
  intro W6 HW6
  have hz1 : w.heap.size + 1 + 1 + 1 < w2.heap.size := hz1
  have hs5 := hE5.size
  have hs6 : W6.heap.size = w5.heap.size + 1 := by rw [HW6.out]; simp
  have HE6 : Hid (Ext w2 W6) := by rw [Hid, HW6.out]; exact hE5.alloc _
  have HFirst := Lib.hid (run_first (B := w2.heap.size) (R := w5.heap.size) (X := [boxV (w5.heap.size + 1), boxV (w.heap.size + 1 + 1), boxV (w.heap.size + 1 + 1 + 1)]) (w0 := w) (W6 := W6) (t := t) (V0 := .slice Af nf cf) (V1 := .slice Ao no co) (V2 := .slice Av nv cv) (VF := VF) (VB := VB) HE1.out.size rfl hs5 (by rw [HW6.out]; unfold tskL; rw [HSt.out, HUn.out]; rfl) hOF hOB (fun r hr x hx => by
    simp only [List.mem_cons, List.not_mem_nil, or_false] at hr
    have := HE1.out.size
    rcases hr with rfl | rfl | rfl
    · have h2 : w5.heap.size + 1 = x := by injection hx
      omega
    · have h2 : w.heap.size + 1 + 1 = x := by injection hx
      omega
    · have h2 : w.heap.size + 1 + 1 + 1 = x := by injection hx
      omega))
  have HRun := Lib.hid (run_any (X := [boxV (w5.heap.size + 1), boxV (w.heap.size + 1 + 1), boxV (w.heap.size + 1 + 1 + 1)]) (by simp) hs6 hs5 HFirst.out HRO.out HCk.out HNum.out w (HE1.out.trans HE6.out) HE1.out.size HP.out)
  obtain ⟨hwkG, hsame⟩ := runS_wk HCk.out 500 t 0 HRO.out
  have HWG := Lib.hid hwkG
  have HNG := Lib.hid (HNum.out.same hsame)
  clear hwkG hsame HFirst hOF hOB HW6 hE5 hHeld HCo
  obtain ⟨G, hG⟩ : ∃ G, runS p 500 t 0 = G := ⟨_, rfl⟩
  rw [hG] at HRun HWG HNG HR
  clear hG
  unfold RunPost stopA at HRun
  go_wp2_with (first | (go_at_call 67; refine HRun.out.mono ?_; rintro e w7 ⟨rfl, ⟨n7, VF7, VB7, rs7, hs7, gs7, hst7⟩, hk7⟩; obtain ⟨A7, c7, e7, hcF7, _⟩ := ownsRow_shape hst7.fr.row; subst e7; obtain ⟨Ab7, cb7, eb7, _⟩ := ownsRow_shape hst7.bl.row; subst eb7; have HS7 := Lib.hid hst7; have HK7 := Lib.hid hk7; obtain ⟨N7, hN7⟩ : ∃ N7, G.1.frames.length = N7 := ⟨_, rfl⟩; have HN7 := Lib.hid hN7; have m7 := hst7.cellT (j := 7) (v := .slice A7 N7 c7) (by rw [← hN7]; rfl); have f7 := hst7.frozen 10; have zR7 := hst7.lt.2; have hN9 : N7 ≤ 9 := (by have := HWG.out.len; omega); rw [hN7] at hcF7; clear hst7 hk7 hN7) | (go_at_call 68; refine (clip_any A7 N7 c7 _ hcF7 (by omega)).mono ?_; rintro e w8 ⟨rfl, rfl⟩))
  refine wp_hid2 ?_
  intro W9 HW9
  have hN77 := HN7.out
  have hsz7 := HK7.out.below.size
  have hX4 : w.heap.size + 1 + 1 < w2.heap.size := by omega
  have R9 : W9.rangeAt w5.heap.size 3 (tskL G.1 (.slice A7 N7 N7) (.slice Ab7 G.1.blocks.length cb7)) := by
    rw [HW9.out]
    exact range_old (range_at (HS7.out.task) (by omega)) _
  have S9 : W9.rangeAt w7.heap.size 0 [Value.int .i64 G.2.kind, Value.int .i64 G.2.reason, Value.int .i64 G.2.value] := by
    rw [HW9.out]; exact range_new (by simp)
  have T9 : W9.there (w.heap.size + 1 + 1) 0 14 := by
    rw [HW9.out]; exact there_old (there_set (there_below (there_ext T1 HE6.out) hX4 HK7.out.below)) _
  have U9 : W9.there (w.heap.size + 1 + 1 + 1) 0 3 := by
    rw [HW9.out]; exact there_old (there_set (there_below (there_ext U1 HE6.out) hz1 HK7.out.below)) _
  have TS9 : TskSt [boxV (w5.heap.size + 1), boxV (w.heap.size + 1 + 1), boxV (w.heap.size + 1 + 1 + 1)] w2.heap.size w5.heap.size W9 G.1 (.slice A7 G.1.frames.length c7) (.slice Ab7 G.1.blocks.length cb7) rs7 hs7 gs7 := by
    rw [HW9.out]; exact (HS7.out.off_box 10 _).mono ((Ext.refl _).alloc _)
  have C49 : Cold W9 (w.heap.size + 1 + 1) := by
    rw [HW9.out]; exact Cold.ext ((((HC4.out.ext HE6.out).keep HK7.out).1).setCell _ _) ((Ext.refl _).alloc _)
  have C59 : Cold W9 (w.heap.size + 1 + 1 + 1) := by
    rw [HW9.out]; exact Cold.ext ((((HC5.out.ext HE6.out).keep HK7.out).1).setCell _ _) ((Ext.refl _).alloc _)
  have E9 : Hid (Ext w W9) := by
    have h1 : Ext w w7 := Below.trans (HE1.out.trans HE6.out) (Below.mono HK7.out.below HE1.out.size)
    have h2 := HE1.out.size
    rw [Hid, HW9.out]
    exact (h1.setCell (show w.heap.size ≤ w5.heap.size by omega) _).alloc _
  have hsw7 : w7.heap.size < W9.heap.size := by rw [HW9.out]; simp
  have hw2 := HE1.out.size
  have TSH := Lib.hid TS9
  have C4H := Lib.hid C49
  have C5H := Lib.hid C59
  unfold tskL at R9
  clear TS9 C49 C59 HW9 m7 f7 HS7 HK7 R1 Q1 T1 U1
  refine wp_region_th 6 (fun W' => W'.rangeAt w5.heap.size 3 [Value.int .i64 G.1.fn, Value.int .i64 G.1.scope, Value.int .i64 G.1.prio, Value.int .i64 G.1.status, Value.int .i64 G.1.wkind, Value.int .i64 G.1.windex, .bool G.1.wagain, .slice A7 N7 N7, .slice Ab7 G.1.blocks.length cb7, Value.int .i64 G.1.mask, .bool G.1.unw, Value.int .i64 G.1.level, Value.int .i64 G.1.reason, Value.int .i64 G.1.result] ∧ W'.rangeAt w7.heap.size 0 [Value.int .i64 G.2.kind, Value.int .i64 G.2.reason, Value.int .i64 G.2.value]) (by kernel_rfl) (by kernel_rfl) (by kernel_rfl) (by kernel_rfl) (by decide) ?_ ?_
  · exact ⟨range_drew R9, range_drew S9⟩
  intro hT hHeld
  (refine tht 0 hT ?_; (try simp only [Act.put, aset, dZ, dS]); refine tht 1 hT ?_; (try simp only [Act.put, aset, dZ, dS]); refine tht 2 hT ?_; (try simp only [Act.put, aset, dZ, dS]))
  (refine th_take (i := 3) (oi := ?oi3_3) (v := ?v3_3) hT ?hi3_3 (by decide) (by kernel_rfl) (by kernel_rfl) ?hq3_3 (Or.inl ⟨?hw3_3, ?hy3_3⟩) (by assumption) ?rest3_3; (case hi3_3 => (simp only [List.getElem?_toArray, List.getElem?_cons_zero, List.getElem?_cons_succ]; rfl)); (case hw3_3 => rfl); (case hy3_3 => (intro w' hSw; refine Eq.trans (exec_load_mid 32 _ (by rfl) w5.heap.size 3 (by rfl) _ _ Tryz.underlying32 (by rfl) ?hiL3_3 w' (hSw.1)) ?eqL3_3; (case eqL3_3 => with_reducible rfl); exact infoTsk)); (case hq3_3 => (exact fun _ _ _ h => h)); (try simp only [Act.put, aset, dZ, dS]))
  (refine th_take (i := 4) (oi := ?oi4_4) (v := ?v4_4) hT ?hi4_4 (by decide) (by kernel_rfl) (by kernel_rfl) ?hq4_4 (Or.inl ⟨?hw4_4, ?hy4_4⟩) (by assumption) ?rest4_4; (case hi4_4 => (simp only [List.getElem?_toArray, List.getElem?_cons_zero, List.getElem?_cons_succ]; rfl)); (case hw4_4 => rfl); (case hy4_4 => (intro w' hSw; refine Eq.trans (exec_load_mid 49 _ (by rfl) w7.heap.size 0 (by rfl) _ _ Tryz.underlying49 (by rfl) ?hiL4_4 w' (hSw.2)) ?eqL4_4; (case eqL4_4 => with_reducible rfl); exact infoStop)); (case hq4_4 => (exact fun _ _ _ h => h)); (try simp only [Act.put, aset, dZ, dS]))
  refine tst 5 (fun K hK => ?_)
  have T10 : W9.drew.there (w.heap.size + 1 + 1) 0 14 := there_drew T9
  have U10 : W9.drew.there (w.heap.size + 1 + 1 + 1) 0 3 := there_drew U9
  rw [if_pos (by rfl)]
  refine wp_store_mid _ _ _ rfl _ _ (List.toArray _) rfl rfl T10 infoTsk (all_oneCell_toArray (by simp [Value.oneCell'])) ?_
  refine hK.out _ _ ⟨range_out hHeld.1 (by omega), range_out hHeld.2 (by omega)⟩ (fun hHeld => ?_)
  clear hK K
  (try simp only [Act.put, List.setIfInBounds_toArray, List.set_cons_zero, List.set_cons_succ])
  refine th_done (by kernel_rfl) ?_
  simp only [List.drop_succ_cons, List.drop_zero]
  go_wp2_with ((with_reducible show wpList _ _ _ ({ dst := _, op := Op.store 49 _ _, type := _, pos := _, after := _, guard := none } :: _) _ _); refine wpList_store_mid rfl 49 _ _ rfl _ _ _ rfl rfl (by exact tr) infoStop (all_oneCell_toArray (by simp [Value.oneCell'])) ?_; (try dsimp only [Act.put]))
  have hd : Ext W9 W9.drew := (Ext.refl _).drew
  have hfin := Lib.hid (fun (cs cs2 : List Value) => (((TSH.out.mono hd).cold (b := w.heap.size + 1 + 1) (by simp) (C4H.out.ext hd) (setCells_grown _ cs 0 _)).cold (b := w.heap.size + 1 + 1 + 1) (by simp) (((C5H.out.ext hd).grown (setCells_grown _ cs 0 _) (by omega))) (setCells_grown _ cs2 0 _)).reads HNG.out HWG.out)
  refine ret_range3 (b := w.heap.size + 1 + 1) (b2 := w.heap.size + 1 + 1 + 1) Tryz.results24 rfl rfl rfl rfl ?hl ?hl2 (ranges_two (by omega) ?t1 ?t2).1 (ranges_two (by omega) ?t3 ?t4).2 ?fin
  case hl => rfl
  case hl2 => rfl
  case t1 => exact T10
  case t2 => exact U10
  case t3 => exact T10
  case t4 => exact U10
  case fin =>
    rw [HR.out]
    refine ⟨_, rfl, ?_, ?_⟩
    · obtain ⟨Af7, cf7, ef7, hrt⟩ := hfin.out [Value.int .i64 G.1.fn, Value.int .i64 G.1.scope, Value.int .i64 G.1.prio, Value.int .i64 G.1.status, Value.int .i64 G.1.wkind, Value.int .i64 G.1.windex, .bool G.1.wagain, .slice A7 N7 N7, .slice Ab7 G.1.blocks.length cb7, Value.int .i64 G.1.mask, .bool G.1.unw, Value.int .i64 G.1.level, Value.int .i64 G.1.reason, Value.int .i64 G.1.result] [Value.int .i64 G.2.kind, Value.int .i64 G.2.reason, Value.int .i64 G.2.value]
      injection ef7 with q1 q2 q3
      rw [← q1, HN7.out] at hrt
      exact hrt
    · have h9 := E9.out
      exact xts
theorem frames_some {p : Prg} {t : Tsk} (h : tcheckS p t = 0) (hst : t.status = 1) (hu : ¬ (t.unw = true ∧ inHand t = false)) : t.frames.length ≠ 0 := fun h0 => by
  have hi : inHand t = false := inHand_nil (List.eq_nil_of_length_eq_zero h0)
  have hu' : t.unw = false := by
    cases hx : t.unw with
    | false => rfl
    | true => exact absurd ⟨hx, hi⟩ hu
  unfold tcheckS at h
  split at h
  · cases h
  rw [if_neg (by omega)] at h
  split at h
  · rename_i h1
    unfold livB at h1
    simp only [Bool.and_eq_true] at h1
    obtain ⟨⟨⟨⟨⟨⟨⟨_, _⟩, _⟩, h4⟩, _⟩, _⟩, _⟩, _⟩ := h1
    have hp : plainN t = 0 := by unfold plainN; rw [hi]; simpa using h0
    rw [hp, hu'] at h4
    simp at h4
  · cases h
theorem Advance_any (p : Prg) (t : Tsk) (VP VT : Value) (w : World) (hP : RPrg w p VP) (hT : RTsk w t VT) : Calls Tryz.prog 24 #[VP, VT] w (AdvPost p t w) := by
  by_cases hc : tcheckS p t = 0
  · by_cases hst : t.status = 1
    · by_cases hu : t.unw = true ∧ inHand t = false
      · exact Advance_unwinding p t VP VT w hP hT hc hst hu.1 hu.2
      · have hl := frames_some hc hst hu
        cases hx : t.unw with
        | false => exact Advance_go p t VP VT w hP hT hc hst hx hl
        | true =>
          cases hy : inHand t with
          | false => exact absurd ⟨hx, hy⟩ hu
          | true => exact Advance_hand p t VP VT w hP hT hc hst hx hy hl
    · exact Advance_state p t VP VT w hP hT hc hst
  · exact Advance_bad p t VP VT w hP hT hc
end Go.Proofs.YtcjjoabofecjmaaGreat

namespace Go.Proofs.YtcjjoabofecjmaaGreat
open Go.RowKit
theorem own_ints {w : World} {B : Nat} {A : Option Addr} {n c : Nat} {xs : List Int} (h : w.ownsRow B 3 1 (.slice A n c) n (xs.map (Value.int .i64))) (hn : n ≤ 1000) (hi : ∀ x ∈ xs, InR x) : RSl 1 RInt w A n xs ∧ n ≤ c := by
  obtain ⟨A', c', e, hc, _, hcs⟩ := ownsRow_shape h
  injection e with e1 e2 e3
  subst e1 e3
  have hl : n = xs.length := by have := hcs.1; rw [List.length_map] at this; omega
  refine ⟨⟨hl, by omega, fun q x hq => ?_⟩, hc⟩
  obtain ⟨b2, o2, rfl, hcell2⟩ := hcs.2 (by have := (List.getElem?_eq_some_iff.1 hq).1; omega)
  refine ⟨b2, o2, [Value.int .i64 x], rfl, rfl, ⟨rfl, hi x (List.mem_of_getElem? hq)⟩, fun j u hj => ?_⟩
  cases j with
  | zero =>
    simp only [List.getElem?_cons_zero, Option.some.injEq] at hj
    subst hj
    have := hcell2 q (Value.int .i64 x) (by rw [List.getElem?_map, hq]; rfl)
    simpa using this
  | succ j => simp at hj
theorem range_sets_other {w : World} {b o b' o' : Nat} {cs vs : List Value} (h : w.rangeAt b o cs) (hb : ¬ b = b') : (w.setCells b' o' vs).rangeAt b o cs := fun j v hj => by
  rw [World.cell?_setCells_out b' vs o' w _ (fun h1 _ => absurd h1 hb)]
  exact h j v hj
theorem one_frame {W : World} {bF g5 N : Nat} {fn result : Int} {cl : Bool} {xs : List Int} (h : W.rangeAt bF 0 [Value.int .i64 fn, Value.int .i64 0, .slice (some ⟨g5, 0, none⟩) N N, Value.int .i64 result, .bool cl]) (hr : RSl 1 RInt W (some ⟨g5, 0, none⟩) N xs) (h1 : InR fn) (h2 : InR result) :
    RSl 5 RFrm W (some ⟨bF, 0, none⟩) 1 [⟨fn, 0, xs, result, cl⟩] := by
  refine ⟨rfl, by omega, fun k x hk => ?_⟩
  cases k with
  | succ k => simp at hk
  | zero =>
    simp only [List.getElem?_cons_zero, Option.some.injEq] at hk
    subst hk
    exact ⟨bF, 0, _, rfl, rfl, ⟨_, _, _, rfl, h1, zero_in, h2, hr, Nat.le_refl _⟩, fun j v hj => by rw [Nat.zero_mul, Nat.add_zero]; exact h j v hj⟩
theorem one_block {W : World} {bB : Nat} (h : W.rangeAt bB 0 [Value.int .i64 (-1), Value.int .i64 0, Value.int .i64 0, Value.int .i64 0, .slice none 0 0]) : RSl 5 RBlk W (some ⟨bB, 0, none⟩) 1 [⟨-1, 0, 0, 0, []⟩] := by
  refine ⟨rfl, by omega, fun k x hk => ?_⟩
  cases k with
  | succ k => simp at hk
  | zero =>
    simp only [List.getElem?_cons_zero, Option.some.injEq] at hk
    subst hk
    exact ⟨bB, 0, _, rfl, rfl, ⟨_, _, _, rfl, by constructor <;> decide, zero_in, zero_in, zero_in, RSl.nil _, Nat.le_refl _⟩, fun j v hj => by rw [Nat.zero_mul, Nat.add_zero]; exact h j v hj⟩
theorem regsOf_in {N : Nat} {xs : List Int} (h : ∀ x ∈ xs, InR x) : ∀ x ∈ regsOf N xs, InR x := fun x hx => by
  rcases List.mem_append.1 hx with h1 | h1
  · exact h x h1
  · rw [List.eq_of_mem_replicate h1]; exact zero_in
def startL (k : Nat) (g : Fnc) (scope : Int) (bF bB : Nat) : List Value := [Value.int .i64 k, Value.int .i64 scope, Value.int .i64 g.prio, Value.int .i64 1, Value.int .i64 0, Value.int .i64 0, .bool false, .slice (some ⟨bF, 0, none⟩) 1 1, .slice (some ⟨bB, 0, none⟩) 1 1, Value.int .i64 0, .bool false, Value.int .i64 0, Value.int .i64 0, Value.int .i64 0]
theorem start_fin {w X : World} {k bF bB g5 N B : Nat} {g : Fnc} {args : List Int} {scope : Int} (hX : Ext w X) (hB : w.heap.size + 2 ≤ B) (hN : g.regs = (N : Int)) (hN2 : N ≤ 1000) (h1 : w.heap.size + 1 < bF) (h2 : w.heap.size + 1 < bB)
    (hF : X.rangeAt bF 0 [Value.int .i64 k, Value.int .i64 0, .slice (some ⟨g5, 0, none⟩) N N, Value.int .i64 (-1), .bool false]) (hBl : X.rangeAt bB 0 [Value.int .i64 (-1), Value.int .i64 0, Value.int .i64 0, Value.int .i64 0, .slice none 0 0]) (ho : X.ownsRow B 3 1 (.slice (some ⟨g5, 0, none⟩) N N) N ((regsOf N args).map (Value.int .i64)))
    (ha : ∀ x ∈ args, InR x) (hk : InR (k : Int)) (hs : InR scope) (hp : InR g.prio) :
    RTsk (X.setCells (w.heap.size + 1) 0 (startL k g scope bF bB)) (firstTsk k g args scope) (.agg (startL k g scope bF bB).toArray) ∧ Ext w (X.setCells (w.heap.size + 1) 0 (startL k g scope bF bB)) := by
  refine ⟨?_, hX.setCells (by omega) 0 _⟩
  have e : g.regs.toNat = N := by omega
  refine rtsk_of (t := firstTsk k g args scope) ⟨hk, hs, hp, by constructor <;> (show _ ≤ (_ : Int)) <;> simp [firstTsk], zero_in, zero_in, zero_in, zero_in, zero_in, zero_in⟩ ?_ (Nat.le_refl 1) ?_ (Nat.le_refl 1)
  · show RSl 5 RFrm _ _ _ [⟨(k : Int), 0, regsOf g.regs.toNat args, -1, false⟩]
    rw [e]
    exact one_frame (range_sets_other hF (by omega)) (own_ints (own_setCells ho (by omega)) hN2 (regsOf_in ha)).1 hk (by constructor <;> decide)
  · exact one_block (range_sets_other hBl (by omega))
theorem start_fin2 {w Y : World} {k bF bB g5 N B : Nat} {g : Fnc} {args : List Int} {scope : Int} (hN : g.regs = (N : Int)) (hN2 : N ≤ 1000)
    (hF : Y.rangeAt bF 0 [Value.int .i64 k, Value.int .i64 0, .slice (some ⟨g5, 0, none⟩) N N, Value.int .i64 (-1), .bool false]) (hBl : Y.rangeAt bB 0 [Value.int .i64 (-1), Value.int .i64 0, Value.int .i64 0, Value.int .i64 0, .slice none 0 0]) (ho : Y.ownsRow B 3 1 (.slice (some ⟨g5, 0, none⟩) N N) N ((regsOf N args).map (Value.int .i64)))
    (ha : ∀ x ∈ args, InR x) (hk : InR (k : Int)) (hs : InR scope) (hp : InR g.prio) :
    RTsk Y (firstTsk k g args scope) (.agg (startL k g scope bF bB).toArray) := by
  have e : g.regs.toNat = N := by omega
  refine rtsk_of (t := firstTsk k g args scope) ⟨hk, hs, hp, by constructor <;> (show _ ≤ (_ : Int)) <;> simp [firstTsk], zero_in, zero_in, zero_in, zero_in, zero_in, zero_in⟩ ?_ (Nat.le_refl 1) ?_ (Nat.le_refl 1)
  · show RSl 5 RFrm _ _ _ [⟨(k : Int), 0, regsOf g.regs.toNat args, -1, false⟩]
    rw [e]
    exact one_frame hF (own_ints ho hN2 (regsOf_in ha)).1 hk (by constructor <;> decide)
  · exact one_block hBl
end Go.Proofs.YtcjjoabofecjmaaGreat
