/- A part of the proof: Handle of package task where the task is ready and runs no handler; What holds between two rounds of TaskHandlers; From round to round of TaskHandlers. -/
import Derived.Test.YtcjjoabofecjmaaGreatQ18
import Derived.Test.YtcjjoabofecjmaaGreatQ13
import Derived.Test.YtcjjoabofecjmaaGreatQ04
import Derived.Test.YtcjjoabofecjmaaGreatQ16
set_option linter.unusedVariables false
set_option linter.unusedSimpArgs false
namespace Go.Proofs.YtcjjoabofecjmaaGreat
open Go.RowKit Go.Sort
theorem RSl.back {w W W' : World} {A : Option Addr} {n : Nat} {xs : List Int} (hE : Ext w W) (hE' : Ext w W') (h : RSl 1 RInt W A n xs) (hl : xs = [] ∨ ∀ b o s, A = some ⟨b, o, s⟩ → b < w.heap.size) : RSl 1 RInt W' A n xs := by
  refine ⟨h.1, h.2.1, fun k x hk => ?_⟩
  obtain ⟨b, off, cs, hA, h1, h2, h3⟩ := h.2.2 k x hk
  have hb : b < w.heap.size := by
    rcases hl with e | e
    · subst e; simp at hk
    · exact e _ _ _ hA
  refine ⟨b, off, cs, hA, h1, h2, fun j v hj => ?_⟩
  have := h3 j v hj
  rw [Below.cell hE (p := ⟨b, off + k * 1 + j, none⟩) hb] at this
  exact hE'.cell this
theorem low3 (w : World) {AF : Option Addr} {N cF gB NB cB z : Nat} (hF : ∀ x, (Value.slice AF N cF).ownBlock = some x → z ≤ x) (hB : z ≤ gB) (hz : w.heap.size ≤ z) :
    Low w [boxV (w.heap.size + 1), boxV (w.heap.size + 1 + 1), boxV (w.heap.size + 1 + 1 + 1), .slice AF N cF, .slice (some ⟨gB, 0, none⟩) NB cB] := by
  intro r hr y hy
  simp only [List.mem_cons, List.not_mem_nil, or_false] at hr
  rcases hr with rfl | rfl | rfl | rfl | rfl
  · have : w.heap.size + 1 = y := by injection hy
    omega
  · have : w.heap.size + 1 + 1 = y := by injection hy
    omega
  · have : w.heap.size + 1 + 1 + 1 = y := by injection hy
    omega
  · have := hF y hy; omega
  · have : gB = y := by injection hy
    omega
theorem ext_none {w W : World} (h : w.grownBy W none) : Ext w W := ⟨h.os, h.tape, h.output, h.size, fun i hi => h.block i hi (by simp)⟩
theorem OBl.grew {B B' : Nat} {w W : World} {bs : List Blk} {VB VF : Value} {hs : List Value} {gs : List (List Value)} {L : List Value} {sz n : Nat} {xs : List Value} (h : OBl B w bs VB hs gs L) (hg : w.grownBy W VF.ownBlock) (hF : w.ownsRow B' 62 sz VF n xs) (hm : VF ∈ L) : OBl B W bs VB hs gs L := by
  cases hv : VF.ownBlock with
  | none => rw [hv] at hg; exact h.mono (ext_none hg)
  | some r =>
    rw [hv] at hg
    exact h.wrote hg (apart_ne (apart_types h.row hF (by decide)) hv) (fun u hu => by obtain ⟨m, xs, hh⟩ := bl_rows h hu; exact apart_ne (apart_types hh hF (by decide)) hv) hm hv
def HandPostA (r : Tsk × Hdl × Int) (t : Tsk) (VT : Value) (w : World) (e : Ending) (w' : World) : Prop := ∃ VF VB rs hs gs A n c, e = .returned (.tuple #[tskV r.1 VF VB, .agg #[Value.int .i64 r.2.1.fn, .slice A n c], Value.int .i64 r.2.2]) ∧
  OFr w.heap.size w' r.1.frames VF rs ∧ (∀ L, Low w L → OBl w.heap.size w' r.1.blocks VB hs gs L) ∧ (∀ P, ArgsOk P w t VT → AllArgs P r.1.blocks gs ∧ P r.2.1 (.slice A n c)) ∧ RSl 1 RInt w' A n r.2.1.args ∧ n ≤ c ∧ InR r.2.1.fn ∧ Ext w w'
theorem hand_wk {p : Prg} {t : Tsk} (hc : tcheckS p t = 0) (hst : t.status = 1) (hi : inHand t = false) (hm : 0 ≤ t.mask ∧ t.mask ≤ 100) (hI : InR t.fn ∧ InR t.scope ∧ InR t.prio ∧ InR t.status ∧ InR t.wkind ∧ InR t.windex ∧ InR t.mask ∧ InR t.level ∧ InR t.reason ∧ InR t.result) (hwk : RunWk t) :
    ((handleS p t).1.frames.length ≤ 10 ∧ (∀ f ∈ (handleS p t).1.frames, f.regs.length ≤ 32) ∧ (handleS p t).1.blocks.length ≤ 8 ∧ ∀ b ∈ (handleS p t).1.blocks, b.handlers.length ≤ 8) ∧
      (InR (handleS p t).1.fn ∧ InR (handleS p t).1.scope ∧ InR (handleS p t).1.prio ∧ InR (handleS p t).1.status ∧ InR (handleS p t).1.wkind ∧ InR (handleS p t).1.windex ∧ InR (handleS p t).1.mask ∧ InR (handleS p t).1.level ∧ InR (handleS p t).1.reason ∧ InR (handleS p t).1.result) := by
  have z : ((zeroTsk.frames.length ≤ 10 ∧ (∀ f ∈ zeroTsk.frames, f.regs.length ≤ 32) ∧ zeroTsk.blocks.length ≤ 8 ∧ ∀ b ∈ zeroTsk.blocks, b.handlers.length ≤ 8) ∧
      (InR zeroTsk.fn ∧ InR zeroTsk.scope ∧ InR zeroTsk.prio ∧ InR zeroTsk.status ∧ InR zeroTsk.wkind ∧ InR zeroTsk.windex ∧ InR zeroTsk.mask ∧ InR zeroTsk.level ∧ InR zeroTsk.reason ∧ InR zeroTsk.result)) :=
    ⟨⟨by decide, (fun f h => by cases h), by decide, fun b h => by cases h⟩, zero_in, zero_in, zero_in, zero_in, zero_in, zero_in, zero_in, zero_in, zero_in, zero_in⟩
  have hlv := liv_ok (live_ok hc (by omega))
  unfold handleS
  rw [if_neg (by simpa using hc), if_neg (by rw [hi, hst]; simp)]
  split
  · exact z
  rename_i b hb
  split
  · exact z
  rename_i h hh
  obtain ⟨g, hg, _, hga, _⟩ := hlv.hdl hb (List.mem_of_getElem? hh)
  have hgo := fn_ok (tcheck_check hc) (fnAt_mem hg)
  rw [hg]
  unfold handleT
  dsimp only
  have hp1 := hgo.par
  have hp2 := hgo.reg
  refine ⟨⟨by have := hwk.len; simp; omega, fun f hf => ?_, by rw [List.length_set]; exact hwk.bl, fun x hx => ?_⟩, hI.1, hI.2.1, hI.2.2.1, hI.2.2.2.1, hI.2.2.2.2.1, hI.2.2.2.2.2.1, ⟨by omega, by omega⟩, hI.2.2.2.2.2.2.2⟩
  · rcases List.mem_append.1 hf with hf | hf
    · exact hwk.regs f hf
    · rw [List.mem_singleton.1 hf]
      show List.length (regsOf _ _) ≤ 32
      rw [regsOf_length (by omega)]; omega
  · rcases List.mem_or_eq_of_mem_set hx with hx | rfl
    · exact hwk.hdl x hx
    · have := hwk.hdl b (List.mem_of_getElem? hb)
      show List.length (List.take _ _) ≤ 8
      rw [List.length_take]; omega
set_option maxRecDepth 8000 in
set_option maxHeartbeats 8000000 in
theorem Handle_args (p : Prg) (t : Tsk) (VP VT : Value) (w : World) (hP : RPrg w p VP) (hT : RTsk w t VT) (hc : tcheckS p t = 0) (hst : t.status = 1) (hi : inHand t = false) : Calls Tryz.prog 28 #[VP, VT] w fun e w' => ((handleS p t).2.2 ≠ 0 ∧ HandPost (handleS p t) w e w') ∨ HandPostA (handleS p t) t VT w e w' := by
  have HAM := Lib.hid (fun P W h hE => ArgsOk.mono (P := P) (W := W) h hT hE)
  have HC := Lib.hid (fun W h => tCheck_any p t VP VT W (hP.mono h) (hT.mono h))
  rw [hc] at HC
  have HH := Lib.hid (fun W h => handles_any t VT W (hT.mono h))
  rw [hi] at HH
  have hlv := liv_ok (live_ok hc (by omega))
  have hck := tcheck_check hc
  have hwk := hlv.wk hck
  have hbl := blks_len hlv.blks
  have HWK := Lib.hid hwk
  have HNum := Lib.hid hT.nums
  have HIN := Lib.hid hT.inr
  have HCo := Lib.hid (fun W h => copied_args t VT w W hT h (by have := hwk.len; omega) (by have := hwk.bl; omega) (fun f hf => by have := hwk.regs f hf; omega) (fun b hb => by have := hwk.hdl b hb; omega))
  obtain ⟨b, hb⟩ : ∃ b, lastB t = some b := ⟨_, List.getElem?_eq_getElem (show t.blocks.length - 1 < t.blocks.length by omega)⟩
  have hm8 := hwk.hdl b (List.mem_of_getElem? hb)
  have HB := Lib.hid (show t.blocks[t.blocks.length - 1]? = some b from hb)
  have HHd : Hid (∀ h ∈ b.handlers, ∃ g, fnAt p h.fn = some g ∧ g.cleanup = true ∧ (h.args.length : Int) = g.params ∧ ∀ x ∈ h.args, numB x = true) := fun h hh => hlv.hdl hb hh
  have HFn : Hid (∀ h g, fnAt p h = some g → FnOk p g) := fun h g hg => fn_ok hck (fnAt_mem hg)
  have HR0 : Hid (b.handlers = [] → handleS p t = (zeroTsk, noHdl, 23)) := fun h0 => by
    unfold handleS
    rw [if_neg (by simpa using hc), if_neg (by rw [hi, hst]; simp), hb]
    dsimp only
    rw [h0]; rfl
  have HR1 : Hid (∀ h g, b.handlers[b.handlers.length - 1]? = some h → fnAt p h.fn = some g → handleS p t = (handleT t b h g, h, 0)) := fun h g h1 h2 => by
    unfold handleS
    rw [if_neg (by simpa using hc), if_neg (by rw [hi, hst]; simp), hb]
    dsimp only
    rw [h1]
    dsimp only
    rw [h2]
  obtain ⟨Af, nf, cf, Ao, no, co, Av, nv, cv, rfl, hF, _⟩ := hP
  have HF := Lib.hid hF
  obtain ⟨Bf, mf, df, Bb, mb, db, rfl, _⟩ := hT
  have hnb1 : (t.blocks.length : Int) ≤ 8 := by omega
  have hle2 : t.blocks.length ≤ 9223372036854775807 := by omega
  have HSt := Lib.hid hst
  rw [hst] at HC HH HCo HAM ⊢
  clear hF hc hst hi hlv hck hwk hb
  go_enter Tryz.func28, Tryz.ntmps28
  go_upto_region 6 with (first | ((first | ((with_reducible show Code.wp _ (Code.region _ (List.toArray ({ dst := _, op := Op.load 32 _, type := _, pos := _, after := _, guard := none } :: _)) false) _ _ _); refine wp_region_lit ?_) | (with_reducible show wpList _ _ _ ({ dst := _, op := Op.load 32 _, type := _, pos := _, after := _, guard := none } :: _) _ _)); refine wpList_load_mid rfl 32 _ rfl _ _ rfl _ _ (by exact rg) Tryz.underlying32 rfl (by exact infoTsk) ?_; dsimp only [dZ, dS]) | ((with_reducible show wpList _ _ _ ({ dst := _, op := Op.load 32 _, type := _, pos := _, after := _, guard := some _ } :: _) _ _); refine wpList_load_mid_g (by rfl) 32 _ rfl _ _ rfl _ _ (by exact rg) Tryz.underlying32 rfl (by exact infoTsk) ?_; dsimp only [dZ, dS]) | ((with_reducible show wpList _ _ _ ({ dst := _, op := Op.store 32 _ _, type := _, pos := _, after := _, guard := none } :: _) _ _); refine wpList_store_mid rfl 32 _ _ rfl _ _ _ rfl rfl (by exact tr) infoTsk (all_oneCell_toArray (by simp [Value.oneCell'])) ?_; (try dsimp only [Act.put])) | (go_at_call 17; refine (HC.out _ xt).mono ?_; rintro e w1 ⟨rfl, hb⟩; have T1 := there_ext (b := w.heap.size + 1 + 1) (o := 0) (n := 14) (by exact tr) hb; have U1 := there_ext (b := w.heap.size + 1 + 1 + 1) (o := 0) (n := 2) (by exact tr) hb; have S1 := there_ext (b := w.heap.size + 1) (o := 0) (n := 14) (by exact tr) hb; have R1 := range_ext (b := w.heap.size + 1) (o := 0) (by exact rg) hb; have Q1 := range_ext (b := w.heap.size) (o := 0) (cs := [.slice Af nf cf, .slice Ao no co, .slice Av nv cv]) (by exact rg) hb; have he0 := Lib.hid hb; obtain ⟨hc, hf, hs, he⟩ := Ext.use (w := w) hb xt; clear hb; (try simp only [World.size_alloc] at hs); have hz1 : w.heap.size + 1 + 1 + 1 < w1.heap.size := (by omega)) | (go_at_call 65; refine (HH.out _ xt).mono ?_; rintro e w2 ⟨rfl, hb⟩; have T1 := there_ext T1 hb; have U1 := there_ext U1 hb; have S1 := there_ext S1 hb; have R1 := range_ext R1 hb; have Q1 := range_ext Q1 hb; have he := Ext.trans he hb; have hz1 := Nat.lt_of_lt_of_le hz1 hb.size; clear hb) | (go_at_call 66; refine (HCo.out _ xt).mono ?_; rintro e w3 ⟨VF, VB, rs, hs0, gs, rfl, hOF, ⟨hOB, hOA⟩, hb3⟩; have HOA := Lib.hid (fun P h => hOA P (HAM.out P w2 h he)); obtain ⟨AF, cF, rfl, hcF, _⟩ := ownsRow_shape hOF.row; obtain ⟨gB, cB, rfl, hgB⟩ := own_form (hOB [] (low_nil _)).row (by omega); have T3 := there_ext T1 hb3; have U3 := there_ext U1 hb3; have S3 := there_ext S1 hb3; have Q3 := range_ext Q1 hb3; have HE3 : Hid (Ext w w3) := Ext.trans he hb3; have HOF := Lib.hid hOF; have HOB := Lib.hid hOB; have hz3 : w2.heap.size ≤ w3.heap.size := hb3.size; clear hOF hOB hOA hb3 hc hf hs he he0))
  refine wp_hid2 ?_
  intro W3 HW3
  have G3 : w3.grownBy W3 (some (w.heap.size + 1)) := by rw [HW3.out]; exact setCells_grown _ _ _ _
  have HE4 : Hid (Ext w W3) := by rw [Hid, HW3.out]; exact HE3.out.setCells (by omega) _ _
  have hz4 : w3.heap.size ≤ W3.heap.size := G3.size
  have R3 : W3.rangeAt (w.heap.size + 1) 0 [Value.int .i64 t.fn, Value.int .i64 t.scope, Value.int .i64 t.prio, Value.int .i64 1, Value.int .i64 t.wkind, Value.int .i64 t.windex, .bool t.wagain, .slice AF t.frames.length cF, .slice (some ⟨gB, 0, none⟩) t.blocks.length cB, Value.int .i64 t.mask, .bool t.unw, Value.int .i64 t.level, Value.int .i64 t.reason, Value.int .i64 t.result] := by
    rw [HW3.out]; exact World.rangeAt_setCells_same _ _ 0 _ S3
  have T4 : W3.there (w.heap.size + 1 + 1) 0 14 := by rw [HW3.out]; exact there_sets T3
  have U4 : W3.there (w.heap.size + 1 + 1 + 1) 0 2 := by rw [HW3.out]; exact there_sets U3
  have S4 : W3.there (w.heap.size + 1) 0 14 := by rw [HW3.out]; exact there_sets S3
  have Q4 : W3.rangeAt w.heap.size 0 [.slice Af nf cf, .slice Ao no co, .slice Av nv cv] := by rw [HW3.out]; exact range_out Q3 (by omega)
  have HOF4 := Lib.hid (HOF.out.far G3 (by omega))
  have hl3 := low3 w (fun x hx => (HOF.out.row.lt x hx).1) hgB (show w.heap.size ≤ w2.heap.size by omega) (N := t.frames.length) (cF := cF) (NB := t.blocks.length) (cB := cB)
  have HOB3 := HOB.out _ hl3
  have HOB4 := Lib.hid (HOB3.wrote G3 (own_ne HOB3.row (by omega)) (HOB3.hnds_far (by omega)) List.mem_cons_self rfl)
  obtain ⟨v4, hv4⟩ : ∃ v, hs0[t.blocks.length - 1]? = some v := ⟨_, List.getElem?_eq_getElem (by rw [HOB4.out.len]; omega)⟩
  obtain ⟨a4, ha4⟩ : ∃ v, gs[t.blocks.length - 1]? = some v := ⟨_, List.getElem?_eq_getElem (by rw [HOB4.out.alen]; omega)⟩
  obtain ⟨hal4, hrow4⟩ := HOB4.out.hnd _ b v4 a4 HB.out hv4 ha4
  obtain ⟨A4, c4, e4, hc4, _⟩ := ownsRow_shape hrow4
  subst e4
  have m4 : W3.cell? ⟨gB, (t.blocks.length - 1) * 5 + 4, none⟩ = some (.slice A4 b.handlers.length c4) := by
    have h9 := HOB4.out.row
    rw [h9.cellAt _ (by omega), rowOf_get blkCells_len HB.out hv4 (by omega)]; rfl
  have z4 : W3.frozen? ⟨gB, (t.blocks.length - 1) * 5 + 4, none⟩ = false := HOB4.out.row.frozenAt _
  have r8 : W3.cell? ⟨w.heap.size + 1, 8, none⟩ = some (.slice (some ⟨gB, 0, none⟩) t.blocks.length cB) := R3 8 _ rfl
  have r7 : W3.cell? ⟨w.heap.size + 1, 7, none⟩ = some (.slice AF t.frames.length cF) := R3 7 _ rfl
  have r9 : W3.cell? ⟨w.heap.size + 1, 9, none⟩ = some (Value.int .i64 t.mask) := R3 9 _ rfl
  have q0 : W3.cell? ⟨w.heap.size, 0, none⟩ = some (.slice Af nf cf) := Q4 0 _ rfl
  have hgl : gB < W3.heap.size := lt_of_cell m4
  have hsB : IntKind.i64.wrap ((t.blocks.length : Int) - 1) = ((t.blocks.length - 1 : Nat) : Int) := by rw [IntWalk.i64_in _ (by omega)]; omega
  have hs1B : ((t.blocks.length - 1 : Nat) : Int) < (t.blocks.length : Int) := by omega
  have hs2B : (0 : Int) ≤ ((t.blocks.length - 1 : Nat) : Int) := by omega
  have HV4 := Lib.hid hv4
  have HA4 := Lib.hid ha4
  have HRow := Lib.hid hrow4
  have HAL := Lib.hid hal4
  clear HW3 HOF G3 hl3 HOB3 hv4 ha4 hrow4 hal4 T3 U3 S3 Q3 R1 Q1 T1 U1 S1 HC HH HCo
  have hm64 : b.handlers.length ≤ 9223372036854775807 := by omega
  go_upto_region 8 with fail
  rcases Nat.eq_zero_or_pos b.handlers.length with h0 | h0
  · have hz : ((b.handlers.length : Int) == 0) = true := by simp [h0]
    have HR := HR0.out (List.eq_nil_of_length_eq_zero h0)
    clear m4 z4 r7 r9 q0 HRow
    go_wp2_with (first | ((with_reducible show wpList _ _ _ ({ dst := _, op := Op.store 32 _ _, type := _, pos := _, after := _, guard := none } :: _) _ _); refine wpList_store_mid rfl 32 _ _ rfl _ _ _ rfl rfl (by exact tr) infoTsk (all_oneCell_toArray (by simp [Value.oneCell'])) ?_; (try dsimp only [Act.put])) | ((with_reducible show wpList _ _ _ ({ dst := _, op := Op.store 58 _ _, type := _, pos := _, after := _, guard := none } :: _) _ _); refine wpList_store_mid rfl 58 _ _ rfl _ _ _ rfl rfl (by exact tr) infoHdl2 (all_oneCell_toArray (by simp [Value.oneCell'])) ?_; (try dsimp only [Act.put])))
    refine ret_range4 (b := w.heap.size + 1 + 1) (b2 := w.heap.size + 1 + 1 + 1) Tryz.results28 rfl rfl rfl rfl ?hl ?hl2 (ranges_two (by omega) ?t1 ?t2).1 (ranges_two (by omega) ?t3 ?t4).2 ?fin
    case hl => rfl
    case hl2 => rfl
    case t1 => exact tr
    case t2 => exact tr
    case t3 => exact tr
    case t4 => exact tr
    rw [HR]
    refine .inl ⟨by show (23 : Int) ≠ 0; decide, ?_⟩
    exact handPost_no (by have := HE4.out; exact xts)
  have hz : ((b.handlers.length : Int) == 0) = false := beq_eq_false_iff_ne.2 (by omega)
  obtain ⟨g4, c4', e4, hg4⟩ := own_form HRow.out h0
  injection e4 with e41 _ e43
  subst e41 e43
  obtain ⟨y, hy⟩ : ∃ y, b.handlers[b.handlers.length - 1]? = some y := ⟨_, List.getElem?_eq_getElem (by omega)⟩
  obtain ⟨av, hav⟩ : ∃ v, a4[b.handlers.length - 1]? = some v := ⟨_, List.getElem?_eq_getElem (by rw [HAL.out]; omega)⟩
  have n0 : W3.cell? ⟨g4, (b.handlers.length - 1) * 2, none⟩ = some (Value.int .i64 y.fn) := by
    have := HRow.out.cellAt ((b.handlers.length - 1) * 2) (by omega)
    rw [this, show (b.handlers.length - 1) * 2 = (b.handlers.length - 1) * 2 + 0 from rfl, rowOf_get hdlCells_len hy hav (by omega)]; rfl
  have n1 : W3.cell? ⟨g4, (b.handlers.length - 1) * 2 + 1, none⟩ = some av := by
    have := HRow.out.cellAt ((b.handlers.length - 1) * 2 + 1) (by omega)
    rw [this, rowOf_get hdlCells_len hy hav (by omega)]; rfl
  obtain ⟨hyin, ⟨Aa, na, ca, rfl, hRa, hnca⟩, _⟩ := HOB4.out.arg _ b a4 _ y av HB.out HA4.out hy hav
  have hlow : y.args = [] ∨ ∀ x o s, Aa = some ⟨x, o, s⟩ → x < w.heap.size := by
    by_cases hx : y.args = []
    · exact .inl hx
    refine .inr fun x o s e => ?_
    rcases Nat.lt_or_ge x w.heap.size with h9 | h9
    · exact h9
    rcases ((HOB.out [.slice (some ⟨x, 0, none⟩) 0 0] (fun r hr z hz => by
      rw [List.mem_singleton] at hr
      subst hr
      have : x = z := by injection hz
      omega)).arg _ b a4 _ y _ HB.out HA4.out hy hav).2.2 with e2 | e2
    · exact absurd e2 hx
    · have := e2 _ (List.mem_singleton.2 rfl)
      subst e
      rcases this with h | h
      · cases h
      · exact absurd rfl h
  obtain ⟨g, hg, hgc, hga, hgn⟩ := HHd.out y (List.mem_of_getElem? hy)
  have hgo := HFn.out _ _ hg
  have HR := Lib.hid (HR1.out y g hy hg)
  obtain ⟨k0, k1, k2⟩ := fnAt_some hg
  obtain ⟨bF, off, Ac, nc, cc, rfl, hlb, _, i1, i2, i3, ⟨_, _⟩, d0, d1, d2, d3, d4, d5⟩ := HF.out.fnc k2
  obtain ⟨kb, hkb⟩ : ∃ kb : Nat, y.fn = (kb : Int) := ⟨y.fn.toNat, by omega⟩
  obtain ⟨N2, hN2⟩ : ∃ N2 : Nat, g.regs = (N2 : Int) := ⟨g.regs.toNat, by have := hgo.par; have := hgo.reg; omega⟩
  have hkl : (kb : Int) < (nf : Int) := by have := HF.out.len; omega
  have hnfl := HF.out.le
  rw [hkb, Int.toNat_natCast] at d0 d1 d2 d3 d4 d5
  rw [hN2] at d2
  replace d0 := HE4.out.cell d0
  replace d1 := HE4.out.cell d1
  replace d2 := HE4.out.cell d2
  replace d3 := HE4.out.cell d3
  replace d4 := HE4.out.cell d4
  replace d5 := HE4.out.cell d5
  rw [hkb] at n0
  have hsM : IntKind.i64.wrap ((b.handlers.length : Int) - 1) = ((b.handlers.length - 1 : Nat) : Int) := by rw [IntWalk.i64_in _ (by omega)]; omega
  have hs1M : ((b.handlers.length - 1 : Nat) : Int) < (b.handlers.length : Int) := by omega
  have hs2M : (0 : Int) ≤ ((b.handlers.length - 1 : Nat) : Int) := by omega
  have hs3M : ((b.handlers.length - 1 : Nat) : Int) ≤ (c4 : Int) := by omega
  have hg4l : g4 < W3.heap.size := lt_of_cell n0
  have HLe : Hid (y.args.length ≤ N2 ∧ N2 ≤ 32) := by have := hgo.par; have := hgo.reg; refine ⟨?_, ?_⟩ <;> omega
  have HRa := Lib.hid hRa
  have HLow := Lib.hid hlow
  have HKb := Lib.hid hkb
  have HN2 := Lib.hid hN2
  have HYI := Lib.hid hyin
  have HYN : Hid (∀ x ∈ y.args, InR x) := fun x hx => num_in (hgn x hx)
  clear HR0 HR1 HHd HFn hlow hRa hkb hN2 hyin hgn hga hgc hg k0 k1 k2 i1 i2 i3 hgo
  have HY := Lib.hid hy
  have HAV := Lib.hid hav
  clear hy hav
  go_upto_region 12 with fail
  refine wp_hid2 ?_
  intro W5 HW5
  have hzw : w.heap.size + 1 + 1 + 1 < w2.heap.size := hz1
  have hneR : ¬ gB = w.heap.size + 1 := by omega
  obtain ⟨_, h5⟩ := World.ownsRow.stored (g := gB) (n := t.blocks.length) (cap := cB) HOB4.out.row ((t.blocks.length - 1) * 5 + 4) (.slice (some ⟨g4, 0, none⟩) (b.handlers.length - 1) c4)
  have hEa : Ext (W3.setCell ⟨gB, (t.blocks.length - 1) * 5 + 4, none⟩ (.slice (some ⟨g4, 0, none⟩) (b.handlers.length - 1) c4)) W5 := by rw [HW5.out]; exact (Ext.refl _).alloc _
  have HOF5 := Lib.hid ((HOF4.out.kept h5 (apart_ne (apart_types HOF4.out.row HOB4.out.row (by decide)) rfl) (fun u hu => by obtain ⟨m, xs, hh⟩ := fr_rows HOF4.out hu; exact apart_ne (apart_types hh HOB4.out.row (by decide)) rfl)).mono hEa)
  have HOB5 := Lib.hid ((HOB4.out.cut HB.out HV4.out HA4.out (Nat.sub_le b.handlers.length 1) rfl (List.mem_cons_of_mem _ (List.mem_cons_of_mem _ (List.mem_cons_of_mem _ (List.mem_cons_of_mem _ List.mem_cons_self))))).mono hEa)
  have HE5 : Hid (Ext w W5) := by rw [Hid, HW5.out]; exact (HE4.out.setCell (show w.heap.size ≤ gB by omega) _).alloc _
  have hs5 : W5.heap.size = W3.heap.size + 1 := by rw [HW5.out]; simp
  have far : ∀ {b o : Nat} {v : Value}, W3.cell? ⟨b, o, none⟩ = some v → ¬ gB = b → W5.cell? ⟨b, o, none⟩ = some v := fun {b o v} h1 h2 => by
    refine hEa.cell ?_
    rw [cell?_setCell_if, if_neg (fun e => h2 e.1)]; exact h1
  have R5 : W5.rangeAt (w.heap.size + 1) 0 [Value.int .i64 t.fn, Value.int .i64 t.scope, Value.int .i64 t.prio, Value.int .i64 1, Value.int .i64 t.wkind, Value.int .i64 t.windex, .bool t.wagain, .slice AF t.frames.length cF, .slice (some ⟨gB, 0, none⟩) t.blocks.length cB, Value.int .i64 t.mask, .bool t.unw, Value.int .i64 t.level, Value.int .i64 t.reason, Value.int .i64 t.result] := by rw [HW5.out]; exact range_old (range_other R3 hneR) _
  have T5 : W5.there (w.heap.size + 1 + 1) 0 14 := by rw [HW5.out]; exact there_old (there_set T4) _
  have U5 : W5.there (w.heap.size + 1 + 1 + 1) 0 2 := by rw [HW5.out]; exact there_old (there_set U4) _
  have S5 : W5.there (w.heap.size + 1) 0 14 := by rw [HW5.out]; exact there_old (there_set S4) _
  have H5 : W5.rangeAt W3.heap.size 0 [Value.int .i64 (kb : Int), .slice Aa na ca] := by rw [HW5.out]; exact range_new (by simp)
  have s0 : W5.cell? ⟨w.heap.size + 1, 7, none⟩ = some (.slice AF t.frames.length cF) := R5 7 _ rfl
  have s1 := far q0 (by omega)
  have s2 : W5.cell? ⟨W3.heap.size, 0, none⟩ = some (Value.int .i64 (kb : Int)) := H5 0 _ rfl
  have s3 : W5.cell? ⟨W3.heap.size, 1, none⟩ = some (.slice Aa na ca) := H5 1 _ rfl
  have s4 := far d0 (by omega)
  have s5 := far d1 (by omega)
  have s6 := far d2 (by omega)
  have s7 := far d3 (by omega)
  have s8 := far d4 (by omega)
  have s9 := far d5 (by omega)
  have HRS := Lib.hid (HRa.out.back HE4.out HE5.out HLow.out)
  have hBW5 : w2.heap.size ≤ W5.heap.size := by omega
  have zb5 : bF < W5.heap.size := by omega
  have zR5 : w.heap.size + 1 < W5.heap.size := by omega
  have zw5 : w.heap.size < W5.heap.size := by omega
  have zH5 : W3.heap.size < W5.heap.size := by omega
  have hVF : ∀ x, (Value.slice AF t.frames.length cF).ownBlock = some x → w2.heap.size ≤ x ∧ x < W3.heap.size := fun x hx => HOF4.out.row.lt x hx
  clear HW5 hEa h5 far R3 T4 U4 S4 Q4 HOF4 HOB4 m4 z4 r7 r8 r9 q0 n0 n1 d0 d1 d2 d3 d4 d5 HRa HV4 HRow HAL HF
  obtain ⟨N, hN⟩ : ∃ N, t.frames.length = N := ⟨_, rfl⟩
  have HN := Lib.hid hN
  have hN9 : N ≤ 9 := by have := HWK.out.len; omega
  rw [hN] at s0 hVF hcF
  rw [hN] at R5
  clear hN
  have HS5 := Lib.hid hs5
  clear hs5
  refine wp_region_th 17 (fun W' => W'.cell? ⟨w.heap.size + 1, 7, none⟩ = some (.slice AF N cF) ∧ W'.cell? ⟨w.heap.size, 0, none⟩ = some (.slice (some ⟨bF, off, none⟩) nf cf) ∧ W'.cell? ⟨W3.heap.size, 0, none⟩ = some (Value.int .i64 (kb : Int)) ∧ W'.cell? ⟨W3.heap.size, 1, none⟩ = some (.slice Aa na ca) ∧ W'.cell? ⟨bF, off + kb * 6, none⟩ = some (.string g.name) ∧ W'.cell? ⟨bF, off + kb * 6 + 1, none⟩ = some (Value.int .i64 g.params) ∧ W'.cell? ⟨bF, off + kb * 6 + 2, none⟩ = some (Value.int .i64 (N2 : Int)) ∧ W'.cell? ⟨bF, off + kb * 6 + 3, none⟩ = some (Value.int .i64 g.prio) ∧ W'.cell? ⟨bF, off + kb * 6 + 4, none⟩ = some (.bool g.cleanup) ∧ W'.cell? ⟨bF, off + kb * 6 + 5, none⟩ = some (.slice Ac nc cc)) (by kernel_rfl) (by kernel_rfl) (by kernel_rfl) (by kernel_rfl) (by decide) ?_ ?_
  · (repeat' (with_reducible apply And.intro)) <;> go_simp
  intro hT hHeld
  (refine tht 0 hT ?_; (try simp only [Act.put, aset, dZ, dS]); refine tht 1 hT ?_; (try simp only [Act.put, aset, dZ, dS]); refine tht 2 hT ?_; (try simp only [Act.put, aset, dZ, dS]); refine tht 3 hT ?_; (try simp only [Act.put, aset, dZ, dS]); refine tht 4 hT ?_; (try simp only [Act.put, aset, dZ, dS]); refine tht 5 hT ?_; (try simp only [Act.put, aset, dZ, dS]); refine tht 6 hT ?_; (try simp only [Act.put, aset, dZ, dS]); refine tht 7 hT ?_; (try simp only [Act.put, aset, dZ, dS]); refine tht 8 hT ?_; (try simp only [Act.put, aset, dZ, dS]); refine tht 9 hT ?_; (try simp only [Act.put, aset, dZ, dS]); refine tht 10 hT ?_; (try simp only [Act.put, aset, dZ, dS]); refine tht 11 hT ?_; (try simp only [Act.put, aset, dZ, dS]))
  refine tst 12 (fun K hK => ?_)
  go_simp
  go_at_call 60
  refine (registers_any _ _ _ _ _ N2 y.args Aa na ca _ (HRS.out.mono RInt.stays xt) HLe.out.1 (by have := HLe.out.2; omega)).mono ?_
  rintro e w6 ⟨g6, rfl, hg6, hown6, hb6⟩
  obtain ⟨hc6, hf6, hs6, he6⟩ := Ext.use (w := W5) hb6 xt
  have hown66 : Hid (w6.ownsRow W5.heap.size 3 1 (.slice (some ⟨g6, 0, none⟩) N2 N2) N2 ((regsOf N2 y.args).map (Value.int .i64))) := World.ownsRow.mono hown6 (by simp)
  clear hb6 hown6
  (try simp only [World.size_drew] at hs6 hg6)
  have zw6 : w.heap.size < w6.heap.size := by omega
  have zR6 : w.heap.size + 1 < w6.heap.size := by omega
  have zb6 : bF < w6.heap.size := by omega
  have zH6 : W3.heap.size < w6.heap.size := by omega
  dsimp only
  refine hK.out _ _ ?_ (fun hHeld => ?_)
  · (repeat' (with_reducible apply And.intro)) <;> go_simp
  clear hK K
  (try simp only [Act.put, List.setIfInBounds_toArray, List.set_cons_zero, List.set_cons_succ])
  (refine tht 13 hT ?_; (try simp only [Act.put, aset, dZ, dS]))
  refine tst 14 (fun K hK => ?_)
  go_simp
  refine hK.out _ _ ?_ (fun hHeld => ?_)
  · (repeat' (with_reducible apply And.intro)) <;> go_simp
  clear hK K
  (try simp only [Act.put, List.setIfInBounds_toArray, List.set_cons_zero, List.set_cons_succ])
  refine tst 15 (fun K hK => ?_)
  have hE6 : Ext W5 (w6.alloc (.cells #[Value.int .i64 (kb : Int), Value.int .i64 0, .slice (some ⟨g6, 0, none⟩) N2 N2, Value.int .i64 (-1), .bool true] 62)) := he6.alloc _
  have HROW : Hid ((w6.alloc (.cells #[Value.int .i64 (kb : Int), Value.int .i64 0, .slice (some ⟨g6, 0, none⟩) N2 N2, Value.int .i64 (-1), .bool true] 62)).ownsRow w2.heap.size 62 5 (.slice AF N cF) N (rowOf frmCells t.frames rs)) := by
    have h9 := ownsRow_ext HOF5.out.row hE6
    rwa [HN.out] at h9
  obtain ⟨i0, hi0, hz0, hz1, hz2⟩ := info_parts infoFrm
  refine step_append_lies _ (by rfl) (.tmp 62) (.tmp 75) _ (by rfl) w2.heap.size 62 i0 _ 5 56 Tryz.underlying29 hi0 hz0 hz1 hz2 rfl (by omega) _ N _ (by rfl) HROW.out ⟨w6.heap.size, 0, none⟩ 1 1 (frmCells ⟨kb, 0, regsOf N2 y.args, -1, true⟩ (.slice (some ⟨g6, 0, none⟩) N2 N2)) (by rfl) rfl (fun j u hj => by rw [addr_add]; simpa [go_sem, frmCells] using hj) (frmCells_one _ _ rfl) (by omega) (by simp only [maxLen]; omega) (by omega) (by simp; omega) _ rfl ?_
  clear hi0 hz0 hz1 hz2
  intro g7 cap7 w7 hown7 hgr7 hat7 hlt7
  have hneV : ∀ x, (x < w2.heap.size ∨ W3.heap.size ≤ x) → (Value.slice AF N cF).ownBlock ≠ some x := fun x h e => by have := hVF x e; omega
  have far7 : ∀ {b o : Nat} {v : Value}, b < w6.heap.size → (Value.slice AF N cF).ownBlock ≠ some b → w6.cell? ⟨b, o, none⟩ = some v → w7.cell? ⟨b, o, none⟩ = some v := fun {b o v} h1 h2 h3 => by
    rw [hgr7.cell_far ⟨b, o, none⟩ (by simp; omega) (fun e => h2 e.symm), World.cell?_alloc_lt _ _ _ h1]; exact h3
  have there7 : ∀ {b n : Nat}, W5.there b 0 n → b < w2.heap.size → w7.there b 0 n := fun {b n} h1 h2 j hj => by
    obtain ⟨a1, a2⟩ := there_old (there_ext h1 he6) (.cells #[Value.int .i64 (kb : Int), Value.int .i64 0, .slice (some ⟨g6, 0, none⟩) N2 N2, Value.int .i64 (-1), .bool true] 62) j hj
    refine ⟨?_, ?_⟩
    · rw [hgr7.cell_far ⟨b, 0 + j, none⟩ (by simp; omega) (fun e => hneV b (.inl h2) e.symm)]; exact a1
    · rw [hgr7.frozen_far ⟨b, 0 + j, none⟩ (by simp; omega) (fun e => hneV b (.inl h2) e.symm)]; exact a2
  have T7 := there7 T5 (by omega)
  have U7 := there7 U5 (by omega)
  have S7 := there7 S5 (by omega)
  have R7 : w7.rangeAt (w.heap.size + 1) 0 _ := fun j v hj => far7 zR6 (hneV _ (.inl (by omega))) (range_ext R5 he6 j v hj)
  have H7 : w7.rangeAt W3.heap.size 0 _ := fun j v hj => far7 zH6 (hneV _ (.inr (Nat.le_refl _))) (range_ext H5 he6 j v hj)
  have hE7 : Hid (Ext w w7) := Below.grown (Ext.trans HE5.out hE6) hgr7 (by have := hE6.size; omega) (fun k e => by have := hVF k e; omega)
  have HOF7 := Lib.hid (HOF5.out.push (f := ⟨kb, 0, regsOf N2 y.args, -1, true⟩) (v := .slice (some ⟨g6, 0, none⟩) N2 N2) (VF' := .slice (some ⟨g7, 0, none⟩) (N + 1) cap7) hE6 (by omega)
    (by
      have h9 := ownsRow_ext hown66.out ((Ext.refl _).alloc (.cells #[Value.int .i64 (kb : Int), Value.int .i64 0, .slice (some ⟨g6, 0, none⟩) N2 N2, Value.int .i64 (-1), .bool true] 62))
      show World.ownsRow _ _ _ _ _ (regsOf N2 y.args).length _
      rw [regsOf_length HLe.out.1]
      exact h9)
    (by rw [HN.out]; exact hown7) (by rw [HN.out]; exact hgr7)
    ⟨by have := HYI.out; rw [HKb.out] at this; exact this, zero_in, (show InR (-1) from ⟨by decide, by decide⟩), fun z hz => by
      unfold regsOf at hz
      rcases List.mem_append.1 hz with hz | hz
      · exact HYN.out z hz
      · rw [(List.mem_replicate.1 hz).2]; exact zero_in⟩)
  have HOB7 := Lib.hid ((HOB5.out.mono hE6).grew hgr7 HROW.out (by rw [← HN.out]; exact List.mem_cons_of_mem _ (List.mem_cons_of_mem _ (List.mem_cons_of_mem _ List.mem_cons_self))))
  have hmk := HWK.out.mask
  have hwr : IntKind.i64.wrap (t.mask + 1) = t.mask + 1 := IntWalk.i64_in _ (by omega)
  have m7 : w7.cell? ⟨w.heap.size + 1, 7, none⟩ = some (.slice AF N cF) := R7 7 _ rfl
  have m9 : w7.cell? ⟨w.heap.size + 1, 9, none⟩ = some (Value.int .i64 t.mask) := R7 9 _ rfl
  have f7 : w7.frozen? ⟨w.heap.size + 1, 7, none⟩ = false := (S7 7 (by omega)).2
  have f9 : w7.frozen? ⟨w.heap.size + 1, 9, none⟩ = false := (S7 9 (by omega)).2
  refine hK.out _ _ ?_ (fun hHeld => ?_)
  · exact ⟨m7, far7 zw6 (hneV _ (.inl (by omega))) (he6.cell s1), far7 zH6 (hneV _ (.inr (Nat.le_refl _))) (he6.cell s2), far7 zH6 (hneV _ (.inr (Nat.le_refl _))) (he6.cell s3), far7 zb6 (hneV _ (.inl (by omega))) (he6.cell s4), far7 zb6 (hneV _ (.inl (by omega))) (he6.cell s5), far7 zb6 (hneV _ (.inl (by omega))) (he6.cell s6), far7 zb6 (hneV _ (.inl (by omega))) (he6.cell s7), far7 zb6 (hneV _ (.inl (by omega))) (he6.cell s8), far7 zb6 (hneV _ (.inl (by omega))) (he6.cell s9)⟩
  clear hK K
  (try simp only [Act.put, List.setIfInBounds_toArray, List.set_cons_zero, List.set_cons_succ])
  (refine tht 16 hT ?_; (try simp only [Act.put, aset, dZ, dS]))
  refine th_done (by kernel_rfl) ?_
  simp only [List.drop_succ_cons, List.drop_zero]
  clear hHeld far7 there7 hc6 hf6 s0 s1 s2 s3 s4 s5 s6 s7 s8 s9 R5 T5 U5 S5 H5 HOF5 HOB5 hT HROW hown66
  go_upto_region 14 with fail
  refine wp_hid2 ?_
  intro W9 HW9
  have R9 : W9.rangeAt (w.heap.size + 1) 0 [Value.int .i64 t.fn, Value.int .i64 t.scope, Value.int .i64 t.prio, Value.int .i64 1, Value.int .i64 t.wkind, Value.int .i64 t.windex, .bool t.wagain, .slice (some ⟨g7, 0, none⟩) (N + 1) cap7, .slice (some ⟨gB, 0, none⟩) t.blocks.length cB, Value.int .i64 (t.mask + 1), .bool t.unw, Value.int .i64 t.level, Value.int .i64 t.reason, Value.int .i64 t.result] := by
    rw [HW9.out]; exact range_same (k := 9) (u := Value.int .i64 (t.mask + 1)) (range_same (k := 7) (u := .slice (some ⟨g7, 0, none⟩) (N + 1) cap7) R7)
  have H9 : W9.rangeAt W3.heap.size 0 [Value.int .i64 (kb : Int), .slice Aa na ca] := by rw [HW9.out]; exact range_other (range_other H7 (by show ¬ w.heap.size + 1 = W3.heap.size; omega)) (by show ¬ w.heap.size + 1 = W3.heap.size; omega)
  have T9 : W9.there (w.heap.size + 1 + 1) 0 14 := by rw [HW9.out]; exact there_set (there_set T7)
  have U9 : W9.there (w.heap.size + 1 + 1 + 1) 0 2 := by rw [HW9.out]; exact there_set (there_set U7)
  have G9 : w7.grownBy W9 (some (w.heap.size + 1)) := by rw [HW9.out]; exact World.grownBy.trans (grown_setCell w7 ⟨w.heap.size + 1, 7, none⟩ _) (grown_setCell _ ⟨w.heap.size + 1, 9, none⟩ _)
  have HE9 : Hid (Ext w W9) := by rw [Hid, HW9.out]; exact (hE7.out.setCell (Nat.le_succ _) _).setCell (Nat.le_succ _) _
  have HOF9 := Lib.hid (HOF7.out.far G9 (by omega))
  have HOB9 := Lib.hid (HOB7.out.wrote G9 (own_ne HOB7.out.row (by omega)) (HOB7.out.hnds_far (by omega)) List.mem_cons_self rfl)
  have hz9 : W3.heap.size < W9.heap.size := lt_of_cell (H9 0 _ rfl)
  have HRS9 := Lib.hid (HRS.out.back HE5.out HE9.out HLow.out)
  clear HW9 G9 HOF7 HOB7 R7 T7 U7 S7 H7 m7 m9 f7 f9 hown7 hgr7 hE7
  refine wp_region_th 3 (fun W' => W'.rangeAt (w.heap.size + 1) 0 [Value.int .i64 t.fn, Value.int .i64 t.scope, Value.int .i64 t.prio, Value.int .i64 1, Value.int .i64 t.wkind, Value.int .i64 t.windex, .bool t.wagain, .slice (some ⟨g7, 0, none⟩) (N + 1) cap7, .slice (some ⟨gB, 0, none⟩) t.blocks.length cB, Value.int .i64 (t.mask + 1), .bool t.unw, Value.int .i64 t.level, Value.int .i64 t.reason, Value.int .i64 t.result] ∧ W'.rangeAt W3.heap.size 0 [Value.int .i64 (kb : Int), .slice Aa na ca]) (by kernel_rfl) (by kernel_rfl) (by kernel_rfl) (by kernel_rfl) (by decide) ?_ ?_
  · exact ⟨range_drew R9, range_drew H9⟩
  intro hT hHeld
  (refine th_take (i := 0) (oi := ?oi0_1) (v := ?v0_1) hT ?hi0_1 (by decide) (by kernel_rfl) (by kernel_rfl) ?hq0_1 (Or.inl ⟨?hw0_1, ?hy0_1⟩) (by assumption) ?rest0_1; (case hi0_1 => (simp only [List.getElem?_toArray, List.getElem?_cons_zero, List.getElem?_cons_succ]; rfl)); (case hw0_1 => rfl); (case hy0_1 => (intro w' hSw; refine Eq.trans (exec_load_mid 32 _ (by rfl) (w.heap.size + 1) 0 (by rfl) _ _ Tryz.underlying32 (by rfl) ?hiL0_1 w' (hSw.1)) ?eqL0_1; (case eqL0_1 => with_reducible rfl); exact infoTsk)); (case hq0_1 => (exact fun _ _ _ h => h)); (try simp only [Act.put, aset, dZ, dS]))
  (refine th_take (i := 1) (oi := ?oi1_2) (v := ?v1_2) hT ?hi1_2 (by decide) (by kernel_rfl) (by kernel_rfl) ?hq1_2 (Or.inl ⟨?hw1_2, ?hy1_2⟩) (by assumption) ?rest1_2; (case hi1_2 => (simp only [List.getElem?_toArray, List.getElem?_cons_zero, List.getElem?_cons_succ]; rfl)); (case hw1_2 => rfl); (case hy1_2 => (intro w' hSw; refine Eq.trans (exec_load_mid 58 _ (by rfl) W3.heap.size 0 (by rfl) _ _ Tryz.underlying58 (by rfl) ?hiL1_2 w' (hSw.2)) ?eqL1_2; (case eqL1_2 => with_reducible rfl); exact infoHdl2)); (case hq1_2 => (exact fun _ _ _ h => h)); (try simp only [Act.put, aset, dZ, dS]))
  refine tst 2 (fun K hK => ?_)
  have T10 : W9.drew.there (w.heap.size + 1 + 1) 0 14 := there_drew T9
  have U10 : W9.drew.there (w.heap.size + 1 + 1 + 1) 0 2 := there_drew U9
  rw [if_pos (by rfl)]
  refine wp_store_mid _ _ _ rfl _ _ (List.toArray _) rfl rfl T10 infoTsk (all_oneCell_toArray (by simp [Value.oneCell'])) ?_
  refine hK.out _ _ ⟨range_out hHeld.1 (by omega), range_out hHeld.2 (by omega)⟩ (fun hHeld => ?_)
  clear hK K
  (try simp only [Act.put, List.setIfInBounds_toArray, List.set_cons_zero, List.set_cons_succ])
  refine th_done (by kernel_rfl) ?_
  simp only [List.drop_succ_cons, List.drop_zero]
  go_wp2_with ((with_reducible show wpList _ _ _ ({ dst := _, op := Op.store 58 _ _, type := _, pos := _, after := _, guard := none } :: _) _ _); refine wpList_store_mid rfl 58 _ _ rfl _ _ _ rfl rfl (by exact tr) infoHdl2 (all_oneCell_toArray (by simp [Value.oneCell'])) ?_; (try dsimp only [Act.put]))
  have hd : Ext W9 W9.drew := (Ext.refl _).drew
  have hfin : ∀ cs cs2 : List Value, OFr w.heap.size ((W9.drew.setCells (w.heap.size + 1 + 1) 0 cs).setCells (w.heap.size + 1 + 1 + 1) 0 cs2) (handleT t b y g).frames (.slice (some ⟨g7, 0, none⟩) (N + 1) cap7) (rs ++ [.slice (some ⟨g6, 0, none⟩) N2 N2]) ∧
      ∀ L, Low w L → OBl w.heap.size ((W9.drew.setCells (w.heap.size + 1 + 1) 0 cs).setCells (w.heap.size + 1 + 1 + 1) 0 cs2) (handleT t b y g).blocks (.slice (some ⟨gB, 0, none⟩) t.blocks.length cB) (hs0.set (t.blocks.length - 1) (.slice (some ⟨g4, 0, none⟩) (b.handlers.length - 1) c4)) (gs.set (t.blocks.length - 1) (a4.take (b.handlers.length - 1))) L := fun cs cs2 => by
    have hF := ((HOF9.out.mono hd).far (setCells_grown (w.heap.size + 1 + 1) cs 0 _) (by omega)).far (setCells_grown (w.heap.size + 1 + 1 + 1) cs2 0 _) (by omega)
    have hB1 := (HOB9.out.mono hd).wrote (setCells_grown (w.heap.size + 1 + 1) cs 0 _) (own_ne HOB9.out.row (by omega)) (HOB9.out.hnds_far (by omega)) (List.mem_cons_of_mem _ List.mem_cons_self) rfl
    have hB2 := hB1.wrote (setCells_grown (w.heap.size + 1 + 1 + 1) cs2 0 _) (own_ne hB1.row (by omega)) (hB1.hnds_far (by omega)) (List.mem_cons_of_mem _ (List.mem_cons_of_mem _ List.mem_cons_self)) rfl
    refine ⟨?_, fun L hL => (hB2.relist ((HOB.out L hL).allArgs.cut HB.out HA4.out)).base (by omega)⟩
    unfold handleT
    rw [HKb.out, HN2.out, Int.toNat_natCast]
    exact hF.base (by omega)
  have hEf : ∀ cs cs2 : List Value, Ext w ((W9.drew.setCells (w.heap.size + 1 + 1) 0 cs).setCells (w.heap.size + 1 + 1 + 1) 0 cs2) := fun cs cs2 => ((HE9.out.trans hd).setCells (by omega) 0 cs).setCells (by omega) 0 cs2
  refine ret_range4 (b := w.heap.size + 1 + 1) (b2 := w.heap.size + 1 + 1 + 1) Tryz.results28 rfl rfl rfl rfl ?hlb ?hl2b (ranges_two (by omega) ?t1b ?t2b).1 (ranges_two (by omega) ?t3b ?t4b).2 ?finb
  case hlb => rfl
  case hl2b => rfl
  case t1b => exact T10
  case t2b => exact U10
  case t3b => exact T10
  case t4b => exact U10
  case finb =>
    rw [HR.out]
    refine .inr ⟨_, _, _, _, _, Aa, na, ca, ?_, (hfin _ _).1, (hfin _ _).2, fun P hP => ⟨AllArgs.cut (HOA.out P hP) HB.out HA4.out, HOA.out P hP _ b a4 HB.out HA4.out _ y _ HY.out HAV.out⟩, HRS9.out.back HE9.out (hEf _ _) HLow.out, hnca, HYI.out, hEf _ _⟩
    rw [HKb.out]
    unfold tskV handleT
    dsimp only
    rw [HSt.out]
    rfl
theorem HandPostA.post {p : Prg} {t : Tsk} {VT : Value} {w w' : World} {e : Ending} (hc : tcheckS p t = 0) (hst : t.status = 1) (hi : inHand t = false) (hI : InR t.fn ∧ InR t.scope ∧ InR t.prio ∧ InR t.status ∧ InR t.wkind ∧ InR t.windex ∧ InR t.mask ∧ InR t.level ∧ InR t.reason ∧ InR t.result) (h : HandPostA (handleS p t) t VT w e w') : HandPost (handleS p t) w e w' := by
  obtain ⟨VF, VB, rs, hs, gs, A, n, c, h1, h2, h3, _, h5, h6, h7, h8⟩ := h
  have hlv := liv_ok (live_ok hc (by omega))
  have hwk := hlv.wk (tcheck_check hc)
  obtain ⟨hn, hI2⟩ := hand_wk hc hst hi (by have := hlv.mask; unfold leastI at this; unfold mostI at this; rw [hi] at this; exact this) hI hwk
  obtain ⟨Af, cf, rfl, hcf, hF⟩ := h2.reads (by have := hn.1; omega) (fun f hf => by have := hn.2.1 f hf; omega)
  obtain ⟨Ab, cb, rfl, hcb, hB⟩ := (h3 [] (low_nil _)).reads (by have := hn.2.2.1; omega) (fun b hb => by have := hn.2.2.2 b hb; omega)
  exact ⟨_, A, n, c, h1, rtsk_of hI2 hF hcf hB hcb, ⟨h5, h6⟩, h7, h8⟩
theorem Handle_go (p : Prg) (t : Tsk) (VP VT : Value) (w : World) (hP : RPrg w p VP) (hT : RTsk w t VT) (hc : tcheckS p t = 0) (hst : t.status = 1) (hi : inHand t = false) : Calls Tryz.prog 28 #[VP, VT] w (HandPost (handleS p t) w) :=
  (Handle_args p t VP VT w hP hT hc hst hi).mono fun e w' h => h.elim (fun h => h.2) (fun h => h.post hc hst hi hT.inr)
theorem Handle_any (p : Prg) (t : Tsk) (VP VT : Value) (w : World) (hP : RPrg w p VP) (hT : RTsk w t VT) : Calls Tryz.prog 28 #[VP, VT] w (HandPost (handleS p t) w) := by
  by_cases hc : tcheckS p t = 0
  · by_cases hst : t.status = 1
    · cases hi : inHand t with
      | false => exact Handle_go p t VP VT w hP hT hc hst hi
      | true => exact Handle_state p t VP VT w hP hT hc (.inr hi)
    · exact Handle_state p t VP VT w hP hT hc (.inl hst)
  · exact Handle_bad p t VP VT w hP hT hc
end Go.Proofs.YtcjjoabofecjmaaGreat

namespace Go.Proofs.YtcjjoabofecjmaaGreat
open Go.RowKit Go.Sort
def Pw (w : World) (h : Hdl) (v : Value) : Prop := h.args = [] ∨ ∀ x, v.ownBlock = some x → x < w.heap.size
theorem args_low {w : World} {t : Tsk} {V : Value} (hT : RTsk w t V) : ArgsOk (Pw w) w t V := fun cs A n c hV h8 i b hb x o hA Ah nh ch hc k hd hk y q hy v hv => by
  obtain ⟨Af, nf, cf, Ab, nb, cb, rfl, _, _, _, _, _, _, _, _, _, _, _, hB, _, _⟩ := hT
  have e8 : A = Ab := by
    have := congrArg (fun v => match v with | .agg a => a.toList[8]? | _ => none) hV
    dsimp only at this
    rw [h8] at this
    simp only [List.getElem?_cons_succ, List.getElem?_cons_zero, Option.some.injEq, Value.slice.injEq] at this
    exact this.1.symm
  subst e8
  obtain ⟨b2, off, Aa, na, ca, hA2, hlt, _, _, _, _, ⟨hH, _⟩, _, _, _, _, c4⟩ := hB.blk hb
  rw [hA] at hA2
  injection hA2 with hA2
  injection hA2 with e1 e2 _
  subst e1 e2
  rw [Nat.add_assoc, hc] at c4
  injection c4 with c4
  injection c4 with e1 e2 e3
  subst e1 e2 e3
  obtain ⟨b3, o3, Ag, ng, cg, hA3, hl3, _, ⟨hG, _⟩, _, d1⟩ := hH.hdl hk
  rw [hy] at hA3
  injection hA3 with hA3
  injection hA3 with e1 e2 _
  subst e1 e2
  rw [Nat.add_assoc, hv] at d1
  injection d1 with d1
  subst d1
  by_cases h0 : hd.args = []
  · exact .inl h0
  · refine .inr fun z hz => ?_
    obtain ⟨a, ha⟩ : ∃ a, hd.args[0]? = some a := ⟨_, List.getElem?_eq_getElem (List.length_pos_iff.2 h0)⟩
    obtain ⟨b4, o4, rfl, hl4, _⟩ := hG.int ha
    have : b4 = z := by injection hz
    omega
theorem argsOk_own {P : Hdl → Value → Prop} {B : Nat} {w : World} {t : Tsk} {VF VB : Value} {hs : List Value} {gs : List (List Value)} {L : List Value} (h : OBl B w t.blocks VB hs gs L) (hP : AllArgs P t.blocks gs) : ArgsOk P w t (.agg (tskL t VF VB).toArray) := fun cs A n c hV h8 i b hb x o hA Ah nh ch hc k hd hk y q hy v hv => by
  have e8 : VB = .slice A n c := by
    have := congrArg (fun v => match v with | .agg a => a.toList[8]? | _ => none) hV
    dsimp only at this
    rw [h8] at this
    simpa [tskL] using this
  subst e8
  obtain ⟨u, hu⟩ : ∃ u, hs[i]? = some u := ⟨_, List.getElem?_eq_getElem (by rw [h.len]; exact (List.getElem?_eq_some_iff.1 hb).1)⟩
  obtain ⟨a, ha⟩ : ∃ a, gs[i]? = some a := ⟨_, List.getElem?_eq_getElem (by rw [h.alen]; exact (List.getElem?_eq_some_iff.1 hb).1)⟩
  obtain ⟨h1, h2⟩ := h.hnd i b u a hb hu ha
  obtain ⟨z, hz⟩ : ∃ z, a[k]? = some z := ⟨_, List.getElem?_eq_getElem (by rw [h1]; exact (List.getElem?_eq_some_iff.1 hk).1)⟩
  obtain ⟨A1, c1, e1, _, _, hC⟩ := ownsRow_shape h.row
  injection e1 with e11 _ _
  subst e11
  obtain ⟨x', o', hA', hcell⟩ := hC.2 (by have := (List.getElem?_eq_some_iff.1 hb).1; omega)
  rw [hA] at hA'
  injection hA' with hA'
  injection hA' with e1 e2 _
  subst e1 e2
  have := hcell (i * 5 + 4) u (by rw [rowOf_get blkCells_len hb hu (by omega)]; rfl)
  rw [hc] at this
  injection this with this
  subst this
  obtain ⟨A2, c2, e2, _, _, hC2⟩ := ownsRow_shape h2
  injection e2 with e21 _ _
  subst e21
  obtain ⟨y', q', hy', hcell2⟩ := hC2.2 (by have := (List.getElem?_eq_some_iff.1 hk).1; omega)
  rw [hy] at hy'
  injection hy' with hy'
  injection hy' with e1 e2 _
  subst e1 e2
  have := hcell2 (k * 2 + 1) z (by rw [rowOf_get hdlCells_len hk hz (by omega)]; rfl)
  rw [hv] at this
  injection this with this
  subst this
  exact hP i b a hb ha k hd v hk hz
structure HandO (r : Tsk × Hdl × Int) (t : Tsk) (VT : Value) (w w' : World) (c : Cells14) (AF : Option Addr) (cF : Nat) (AB : Option Addr) (cB : Nat) (rs hs : List Value) (gs : List (List Value)) (Aa : Option Addr) (na ca : Nat) : Prop where
  cell : c.l = tskL r.1 (.slice AF r.1.frames.length cF) (.slice AB r.1.blocks.length cB)
  fr : OFr w.heap.size w' r.1.frames (.slice AF r.1.frames.length cF) rs
  bl : OBl w.heap.size w' r.1.blocks (.slice AB r.1.blocks.length cB) hs gs []
  args : ∀ P, ArgsOk P w t VT → AllArgs P r.1.blocks gs ∧ P r.2.1 (.slice Aa na ca)
  ra : RSl 1 RInt w' Aa na r.2.1.args
  le : na ≤ ca
  fn : InR r.2.1.fn
  ext : Ext w w'
theorem handA_open {r : Tsk × Hdl × Int} {t : Tsk} {VT : Value} {w w' : World} {e : Ending} (h : HandPostA r t VT w e w') : ∃ c AF cF AB cB rs hs gs Aa na ca, e = .returned (.tuple #[.agg (Cells14.l c).toArray, .agg #[Value.int .i64 r.2.1.fn, .slice Aa na ca], Value.int .i64 r.2.2]) ∧ HandO r t VT w w' c AF cF AB cB rs hs gs Aa na ca := by
  obtain ⟨VF, VB, rs, hs, gs, Aa, na, ca, rfl, hF, hB, hA, h5, h6, h7, h8⟩ := h
  obtain ⟨AF, cF, rfl, _⟩ := ownsRow_shape hF.row
  obtain ⟨AB, cB, rfl, _⟩ := ownsRow_shape (hB [] (low_nil _)).row
  exact ⟨⟨tskL r.1 (.slice AF r.1.frames.length cF) (.slice AB r.1.blocks.length cB), rfl, by simp [tskL, Value.oneCell']⟩, AF, cF, AB, cB, rs, hs, gs, Aa, na, ca, rfl, ⟨rfl, hF, hB _ (low_nil _), hA, h5, h6, h7, h8⟩⟩
structure HInv (w w6 : World) (t : Tsk) (b : Blk) (ps : List HC) (B5 : Nat) (A5 : Option Addr) (nh cp5 : Nat) (P3 : List Value) (k : Nat) (Ag : Option Addr) (cg : Nat) (c : Cells14) (AF : Option Addr) (cF : Nat) (VB : Value) (wr : World) : Prop where
  ext : Ext w wr
  size : w6.heap.size ≤ wr.heap.size
  prog : wr.rangeAt w.heap.size 0 P3
  cell : c.l = tskL (cutT t b k) (.slice AF t.frames.length cF) VB
  task : wr.rangeAt (w.heap.size + 1) 0 c.l
  there : wr.there (w.heap.size + 1) 0 14
  reads : RTsk wr (cutT t b k) (.agg c.l.toArray)
  args : ArgsOk (Pw w) wr (cutT t b k) (.agg c.l.toArray)
  want : wr.ownsRow B5 58 2 (.slice A5 nh cp5) nh (hcs ps.reverse)
  got : ∃ gs, HRds w gs (b.handlers.reverse.take k) ∧ wr.ownsRow w6.heap.size 58 2 (.slice Ag k cg) k (hcs gs)
theorem hinv_start {w w4 w5 w6 : World} {t : Tsk} {b : Blk} {ps : List HC} {A5 : Option Addr} {nh cp5 : Nat} {P3 : List Value} {c : Cells14} {AF : Option Addr} {cF : Nat} {VB : Value} (hb : lastB t = some b) (hE4 : Ext w w4) (h5 : Ext w4 w5) (hz : w.heap.size + 1 < w4.heap.size)
    (hO : w5.ownsRow w4.heap.size 58 2 (.slice A5 nh cp5) nh (hcs ps)) (hO6 : w6.ownsRow w4.heap.size 58 2 (.slice A5 nh cp5) nh (hcs ps.reverse)) (hg : w5.grownBy w6 (Value.slice A5 nh cp5).ownBlock)
    (hP : w4.rangeAt w.heap.size 0 P3) (hc : c.l = tskL t (.slice AF t.frames.length cF) VB) (hR : w4.rangeAt (w.heap.size + 1) 0 c.l) (hth : w4.there (w.heap.size + 1) 0 14) (hT : RTsk w t (.agg c.l.toArray)) :
    HInv w w6 t b ps w4.heap.size A5 nh cp5 P3 0 none 0 c AF cF VB w6 := by
  have h5s := h5.size
  have hlow : ∀ x, x < w4.heap.size → some x ≠ (Value.slice A5 nh cp5).ownBlock := fun x hx e => by have := (hO.lt x e.symm).1; omega
  have hE6 : Ext w w6 := Below.grown (hE4.trans h5) hg (by have := hE4.size; omega) (fun q e => by have := (hO.lt q e).1; have := hE4.size; omega)
  have hrange : ∀ {x : Nat} {cs : List Value}, w4.rangeAt x 0 cs → x < w4.heap.size → w6.rangeAt x 0 cs := fun {x cs} h hx j v hj => by
    rw [hg.cell_far ⟨x, 0 + j, none⟩ (show x < w5.heap.size by omega) (hlow x hx)]; exact h5.cell (h j v hj)
  rw [show t = cutT t b 0 from (cut_zero hb).symm] at hc
  refine ⟨hE6, Nat.le_refl _, hrange hP (by omega), hc, hrange hR hz, fun j hj => ?_, by rw [cut_zero hb]; exact hT.mono hE6, by rw [cut_zero hb]; exact (args_low hT).mono hT hE6, hO6, ⟨[], ⟨rfl, fun i p x h => by simp at h⟩, ⟨rfl, .inl ⟨rfl, rfl⟩⟩⟩⟩
  obtain ⟨a1, a2⟩ := hth j hj
  have hl : w.heap.size + 1 < w5.heap.size := by omega
  refine ⟨?_, ?_⟩
  · rw [hg.cell_far ⟨w.heap.size + 1, 0 + j, none⟩ hl (hlow _ hz)]
    have := (there_ext hth h5 j hj).1
    exact this
  · rw [hg.frozen_far ⟨w.heap.size + 1, 0 + j, none⟩ hl (hlow _ hz)]
    exact (there_ext hth h5 j hj).2
end Go.Proofs.YtcjjoabofecjmaaGreat

namespace Go.Proofs.YtcjjoabofecjmaaGreat
open Go.RowKit Go.Sort
theorem ne_row {v : Value} {row : Option Nat} (h : ∀ x, v.ownBlock = some x → row ≠ some x) : v.ownBlock = none ∨ v.ownBlock ≠ row := by
  cases hv : v.ownBlock with
  | none => exact .inl rfl
  | some x => exact .inr fun e => h x hv e.symm
theorem OFr.keptR {B : Nat} {w W : World} {fs : List Frm} {VF : Value} {rs : List Value} {row : Option Nat} (h : OFr B w fs VF rs) (hg : w.grownBy W row) (hr : ∀ x, row = some x → x < B) : OFr B W fs VF rs :=
  h.kept hg (ne_row fun x hx e => by have := (h.row.lt x hx).1; have := hr x e; omega) (fun v hv => ne_row fun x hx e => by obtain ⟨m, xs, hh⟩ := fr_rows h hv; have := (hh.lt x hx).1; have := hr x e; omega)
theorem OBl.keptR {B : Nat} {w W : World} {bs : List Blk} {VB : Value} {hs : List Value} {gs : List (List Value)} {row : Option Nat} (h : OBl B w bs VB hs gs []) (hg : w.grownBy W row) (hr : ∀ x, row = some x → x < B)
    (hA : AllArgs (fun h v => h.args = [] ∨ ∀ x, row = some x → v.ownBlock ≠ some x) bs gs) : OBl B W bs VB hs gs [] := by
  cases row with
  | none => exact h.mono (ext_none hg)
  | some r =>
    have h1 := h.relist (L' := [boxV r]) fun i b a e1 e2 k x v e3 e4 => (hA i b a e1 e2 k x v e3 e4).imp id fun h9 z hz => by
      rw [List.mem_singleton] at hz
      subst hz
      exact .inr fun e => h9 r rfl e.symm
    have hrB := hr r rfl
    refine (h1.wrote hg (own_ne h.row hrB) (h1.hnds_far hrB) List.mem_cons_self rfl).relist fun i b a _ _ k x v _ _ => .inr fun r hr => by cases hr
theorem there_row {w W : World} {b n : Nat} {row : Option Nat} (h : w.there b 0 n) (hb : b < w.heap.size) (hg : w.grownBy W row) (hne : row ≠ some b) : W.there b 0 n := fun j hj => by
  obtain ⟨a1, a2⟩ := h j hj
  refine ⟨?_, ?_⟩
  · rw [hg.cell_far ⟨b, 0 + j, none⟩ hb (fun e => hne e.symm)]; exact a1
  · rw [hg.frozen_far ⟨b, 0 + j, none⟩ hb (fun e => hne e.symm)]; exact a2
theorem range_row {w W : World} {b : Nat} {cs : List Value} {row : Option Nat} (h : w.rangeAt b 0 cs) (hb : b < w.heap.size) (hg : w.grownBy W row) (hne : row ≠ some b) : W.rangeAt b 0 cs := fun j v hj => by
  rw [hg.cell_far ⟨b, 0 + j, none⟩ hb (fun e => hne e.symm)]; exact h j v hj
abbrev upT (t : Tsk) (b : Blk) (k : Nat) (h : Hdl) (rg : List Int) : Tsk := { cutT t b (k + 1) with frames := t.frames ++ [⟨h.fn, 0, rg, -1, true⟩], mask := t.mask + 1 }
set_option maxHeartbeats 2000000 in
theorem hinv_step {w w6 wr w2 w1 w7 W8 : World} {t : Tsk} {b : Blk} {ps gs : List HC} {B5 : Nat} {A5 Ag : Option Addr} {nh cp5 k cg : Nat} {P3 : List Value} {ck c2 c3 : Cells14} {AF : Option Addr} {cF : Nat} {VB : Value} {h : Hdl} {rg : List Int} {gF cF2 : Nat} {AB2 : Option Addr} {cB2 : Nat} {rs2 hs2 : List Value} {gs2 : List (List Value)} {Aa : Option Addr} {na ca g7 cap7 : Nat} {o : Obj}
    (HV : HInv w w6 t b ps B5 A5 nh cp5 P3 k Ag cg ck AF cF VB wr) (HO : HandO (upT t b k h rg, h, 0) (cutT t b k) (.agg ck.l.toArray) wr w2 c2 (some ⟨gF, 0, none⟩) cF2 AB2 cB2 rs2 hs2 gs2 Aa na ca)
    (h6 : w6.ownsRow B5 58 2 (.slice A5 nh cp5) nh (hcs ps.reverse)) (hB5 : w.heap.size + 1 < B5) (h6z : w.heap.size + 1 < w6.heap.size) (hwk : RunWk t) (hI : NumIn t) (hh : b.handlers.reverse[k]? = some h) (hbl : b.handlers.length ≤ 8)
    (hgs : HRds w gs (b.handlers.reverse.take k)) (hgr : wr.ownsRow w6.heap.size 58 2 (.slice Ag k cg) k (hcs gs)) (hE : Ext w2 w1) (hu : w2.heap.size < w1.heap.size)
    (h7 : w7.ownsRow w6.heap.size 58 2 (.slice (some ⟨g7, 0, none⟩) (k + 1) cap7) (k + 1) (hcs gs ++ [Value.int .i64 h.fn, .slice Aa na ca])) (hg7 : (w1.alloc o).grownBy w7 (Value.slice Ag k cg).ownBlock) (hat : (Value.slice Ag k cg).ownBlock = some g7 ∨ g7 = w1.heap.size + 1)
    (hg8 : w7.grownBy W8 (some w2.heap.size)) (hc3 : c3.l = tskL (cutT t b (k + 1)) (.slice (some ⟨gF, 0, none⟩) t.frames.length cF2) (.slice AB2 (cutT t b (k + 1)).blocks.length cB2)) :
    HInv w w6 t b ps B5 A5 nh cp5 P3 (k + 1) (some ⟨g7, 0, none⟩) cap7 c3 (some ⟨gF, 0, none⟩) cF2 (.slice AB2 (cutT t b (k + 1)).blocks.length cB2) (W8.setCells (w.heap.size + 1) 0 c3.l) := by
  have hzw : w.heap.size + 1 < wr.heap.size := by
    obtain ⟨a1, _⟩ := HV.there 0 (by omega)
    cases hx : wr.cell? ⟨w.heap.size + 1, 0 + 0, none⟩ with
    | none => rw [hx] at a1; cases a1
    | some v => exact lt_of_cell hx
  have zz1 := HV.size
  have zz2 := HO.ext.size
  have zz3 := hE.size
  have zz4 : w1.heap.size + 1 ≤ w7.heap.size := by have := hg7.size; simpa using this
  have zz5 := hg8.size
  have h6l : w6.heap.size ≤ wr.heap.size := HV.size
  have hgot : ∀ x, (Value.slice Ag k cg).ownBlock = some x → w6.heap.size ≤ x ∧ x < wr.heap.size := fun x hx => hgr.lt x hx
  have hwant : ∀ x, (Value.slice A5 nh cp5).ownBlock = some x → B5 ≤ x ∧ x < w6.heap.size := fun x hx => h6.lt x hx
  have hkn : 0 < b.handlers.length := by have := (List.getElem?_eq_some_iff.1 hh).1; rw [List.length_reverse] at this; omega
  have hEr1 : Ext wr (w1.alloc o) := (HO.ext.trans hE).alloc o
  have hEw1 : Ext w (w1.alloc o) := HV.ext.trans hEr1
  have hal := HO.args (Pw w) HV.args
  have hsw : w.heap.size ≤ w6.heap.size := by omega
  have hE7 : Ext w w7 := Below.grown hEw1 hg7 (by have := hEw1.size; exact this) (fun q e => by have := hgot q e; omega)
  have hE8 : Ext w W8 := Below.grown hE7 hg8 hE7.size (fun q e => by injection e with e; omega)
  have hE9 : Ext w (W8.setCells (w.heap.size + 1) 0 c3.l) := hE8.setCells (Nat.le_succ _) 0 _
  have hneR : (Value.slice Ag k cg).ownBlock ≠ some (w.heap.size + 1) := fun e => by have := hgot _ e; omega
  have hsz1 : wr.heap.size ≤ (w1.alloc o).heap.size := hEr1.size
  have hth7 : w7.there (w.heap.size + 1) 0 14 := there_row (there_ext HV.there hEr1) (by omega) hg7 hneR
  have hth8 : W8.there (w.heap.size + 1) 0 14 := there_row hth7 (by omega) hg8 (fun e => by injection e with e; omega)
  have hPx : AllArgs (fun x v => x.args = [] ∨ ∀ z, (Value.slice Ag k cg).ownBlock = some z → v.ownBlock ≠ some z) (upT t b k h rg).blocks gs2 := fun i b' a e1 e2 q x v e3 e4 => (hal.1 i b' a e1 e2 q x v e3 e4).imp id fun h9 z hz e => by have := h9 z e; have := hgot z hz; omega
  have hPu : AllArgs (fun x v => x.args = [] ∨ ∀ z, some w2.heap.size = some z → v.ownBlock ≠ some z) (upT t b k h rg).blocks gs2 := fun i b' a e1 e2 q x v e3 e4 => (hal.1 i b' a e1 e2 q x v e3 e4).imp id fun h9 z hz e => by have := h9 z e; injection hz with hz; omega
  have hPr : AllArgs (fun x v => x.args = [] ∨ ∀ z, some (w.heap.size + 1) = some z → v.ownBlock ≠ some z) (upT t b k h rg).blocks gs2 := fun i b' a e1 e2 q x v e3 e4 => (hal.1 i b' a e1 e2 q x v e3 e4).imp id fun h9 z hz e => by have := h9 z e; injection hz with hz; omega
  have hfr2 := HO.fr
  have hbl2 := HO.bl
  have hF7 := (hfr2.mono (hE.alloc o)).keptR hg7 (fun x e => (hgot x e).2)
  have hB7 := (hbl2.mono (hE.alloc o)).keptR hg7 (fun x e => (hgot x e).2) hPx
  have hnF : ∀ {v : Value} {e : TypeId} {sz n : Nat} {xs : List Value}, w2.ownsRow wr.heap.size e sz v n xs → v.ownBlock = none ∨ v.ownBlock ≠ some w2.heap.size := fun hr => ne_row fun x hx e => by have := (hr.lt x hx).2; injection e with e; omega
  have hF8 := hF7.kept hg8 (hnF hfr2.row) (fun v hv => by obtain ⟨m, xs, hh⟩ := fr_rows hfr2 hv; exact hnF hh)
  have hB8 : OBl wr.heap.size W8 (upT t b k h rg).blocks (.slice AB2 (upT t b k h rg).blocks.length cB2) hs2 gs2 [] := by
    have h1 := hB7.relist (L' := [boxV w2.heap.size]) fun i b a e1 e2 k x v e3 e4 => (hPu i b a e1 e2 k x v e3 e4).imp id fun h9 z hz => by
      rw [List.mem_singleton] at hz
      subst hz
      exact .inr fun e => h9 _ rfl e.symm
    exact (h1.wrote hg8 (hnF hbl2.row) (fun v hv => by obtain ⟨m, xs, hh⟩ := bl_rows hbl2 hv; exact hnF hh) List.mem_cons_self rfl).relist fun i b a _ _ k x v _ _ => .inr fun r hr => by cases hr
  have hg9 : W8.grownBy (W8.setCells (w.heap.size + 1) 0 c3.l) (some (w.heap.size + 1)) := setCells_grown _ _ _ _
  have hF9 := hF8.keptR hg9 (fun x e => by injection e with e; omega)
  have hB9 := hB8.keptR hg9 (fun x e => by injection e with e; omega) hPr
  have hlen : (upT t b k h rg).frames.length = t.frames.length + 1 := by show List.length (_ ++ _) = _; simp
  have hF10 : OFr wr.heap.size (W8.setCells (w.heap.size + 1) 0 c3.l) t.frames (.slice (some ⟨gF, 0, none⟩) t.frames.length cF2) (rs2.take t.frames.length) := by
    have h1 := hF9.take (m := t.frames.length) (by rw [hlen]; omega)
    have h2 : (upT t b k h rg).frames.take t.frames.length = t.frames := by show (t.frames ++ [_]).take _ = _; rw [List.take_left']; rfl
    rw [h2] at h1
    exact h1
  obtain ⟨hcF, hRF⟩ := hF10.reads' (by have := hwk.len; omega) (fun f hf => by have := hwk.regs f hf; omega)
  obtain ⟨hcB, hRB⟩ := hB9.reads' (by show List.length (List.set ..) ≤ 1000; rw [List.length_set]; have := hwk.bl; omega) (fun x hx => by
    rcases List.mem_or_eq_of_mem_set (show x ∈ t.blocks.set (t.blocks.length - 1) { b with handlers := b.handlers.take (b.handlers.length - (k + 1)) } from hx) with hx | rfl
    · have := hwk.hdl x hx; omega
    · show List.length (List.take _ _) ≤ 1000
      rw [List.length_take]; omega)
  have hmk := hwk.mask
  have e9 : Value.agg c3.l.toArray = .agg (tskL (cutT t b (k + 1)) (.slice (some ⟨gF, 0, none⟩) t.frames.length cF2) (.slice AB2 (cutT t b (k + 1)).blocks.length cB2)).toArray := by rw [hc3]
  have hreads : RTsk (W8.setCells (w.heap.size + 1) 0 c3.l) (cutT t b (k + 1)) (.agg c3.l.toArray) := by
    rw [e9]
    exact rtsk_of (t := cutT t b (k + 1)) ⟨hI.fn, hI.scope, hI.prio, hI.status, hI.wkind, hI.windex, (show InR t.mask from ⟨by omega, by omega⟩), hI.level, hI.reason, hI.result⟩ hRF hcF hRB hcB
  have hwk9 : (W8.setCells (w.heap.size + 1) 0 c3.l).ownsRow B5 58 2 (.slice A5 nh cp5) nh (hcs ps.reverse) := by
    have h1 := (ownsRow_ext HV.want hEr1).kept hg7 (ne_row fun x hx e => by have := hwant x hx; have := hgot x e; omega)
    have h2 := h1.kept hg8 (ne_row fun x hx e => by have := hwant x hx; injection e with e; omega)
    exact h2.kept hg9 (ne_row fun x hx e => by have := hwant x hx; injection e with e; omega)
  have hg7x : g7 ≠ w2.heap.size ∧ w.heap.size + 1 ≠ g7 ∧ True := by
    rcases hat with e | e
    · have := hgot g7 e; exact ⟨by omega, by omega, trivial⟩
    · exact ⟨by omega, by omega, trivial⟩
  have hgt9 : (W8.setCells (w.heap.size + 1) 0 c3.l).ownsRow w6.heap.size 58 2 (.slice (some ⟨g7, 0, none⟩) (k + 1) cap7) (k + 1) (hcs (gs ++ [(h.fn, Aa, na, ca)])) := by
    rw [hcs_append]
    have h2 := h7.kept hg8 (.inr fun e => hg7x.1 (by simpa [Value.ownBlock] using e))
    exact h2.kept hg9 (.inr fun e => hg7x.2.1 (by simpa [Value.ownBlock] using e.symm))
  have hE2 : Ext w w2 := HV.ext.trans HO.ext
  have hlow := hal.2
  have hhr : HRd w (h.fn, Aa, na, ca) h := ⟨rfl, HO.fn, HO.ra.back hE2 (Ext.refl w) (hlow.imp id fun h9 x o s e => h9 x (by have e : Aa = some ⟨x, o, s⟩ := e; rw [e]; rfl)), HO.le⟩
  refine ⟨hE9, by have := hg9.size; omega, ?_, hc3, World.rangeAt_setCells_same _ _ 0 _ (c3.there' hth8), there_sets hth8, hreads, ?_, hwk9, ⟨_, hgs.snoc hh hhr, hgt9⟩⟩
  · have hw0 : w.heap.size < wr.heap.size := by omega
    have h1 := range_row (range_ext HV.prog hEr1) (by omega) hg7 (fun e => by have := hgot _ e; omega)
    exact range_out (range_row h1 (by omega) hg8 (fun e => by injection e with e; omega)) (by omega)
  · rw [e9]
    exact argsOk_own (t := cutT t b (k + 1)) hB9 hal.1
end Go.Proofs.YtcjjoabofecjmaaGreat
