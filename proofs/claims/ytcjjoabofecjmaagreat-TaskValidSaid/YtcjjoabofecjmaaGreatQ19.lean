/- A part of the proof: Visible of the reference of layer 13; Handle of package task; Handle of package task where no handler begins; Handle of package task where the task is ready and runs no handler. -/
import Derived.Test.YtcjjoabofecjmaaGreatQ18
import Derived.Test.YtcjjoabofecjmaaGreatQ07
import Derived.Test.YtcjjoabofecjmaaGreatQ12
import Derived.Test.YtcjjoabofecjmaaGreatQ08
import Derived.Test.YtcjjoabofecjmaaGreatQ17
import Derived.Test.YtcjjoabofecjmaaGreatQ15
import Derived.Test.YtcjjoabofecjmaaGreatQ13
import Derived.Test.YtcjjoabofecjmaaGreatQ04
set_option linter.unusedVariables false
set_option linter.unusedSimpArgs false
namespace Go.Proofs.YtcjjoabofecjmaaGreat
open Go.RowKit
set_option maxRecDepth 4000 in
set_option maxHeartbeats 1000000 in
theorem rvisible_any (op : Int) (w : World) :
    Calls Tryz.prog 41 #[Value.int .i64 op] w fun e w' => e = .returned (.bool (visS op)) ∧ Ext w w' := by
  have HS := Lib.hid (fun W => roles_any op W)
  obtain ⟨r, hr⟩ : ∃ r, rolesS op = r := ⟨_, rfl⟩
  have HR : Hid (visS op = (!decide (r.toList = []) && decide (30 ≤ op))) := by
    unfold Hid visS
    rw [← hr]
    unfold rolesS
    cases hsh : shapeS op with
    | none => rw [ByteArray.toList_eq]; rfl
    | some s => rw [ByteArray.toList_eq]; simp
  rw [hr] at HS
  clear hr
  by_cases h30 : (30 : Int) ≤ op
  · go_enter Tryz.func41, Tryz.ntmps41
    go_wp2_with (go_at_call 76; refine (HS.out _).mono ?_; rintro e w1 ⟨rfl, hb⟩; have he := Lib.hid hb; clear hb)
    go_ret
    rw [HR.out]
    have h9 : w = w1 := he.out
    subst h9
    exact ⟨by cases hl : r.toList <;> simp [h30, hl], xt⟩
  · go_enter Tryz.func41, Tryz.ntmps41
    go_wp2
    go_ret
    rw [HR.out]
    exact ⟨by simp [h30], xt⟩
end Go.Proofs.YtcjjoabofecjmaaGreat

namespace Go.Proofs.YtcjjoabofecjmaaGreat
open Go.RowKit Go.Sort
theorem OBl.cut {B k : Nat} {w : World} {bs : List Blk} {VB : Value} {hs : List Value} {gs : List (List Value)} {L : List Value} (h : OBl B w bs VB hs gs L) {b : Blk} {a : List Value} {g c m gB cB : Nat} (hb : bs[k]? = some b) (hv : hs[k]? = some (.slice (some ⟨g, 0, none⟩) b.handlers.length c)) (ha : gs[k]? = some a) (hm : m ≤ b.handlers.length)
    (hVB : VB = .slice (some ⟨gB, 0, none⟩) bs.length cB) (hL : VB ∈ L) :
    OBl B (w.setCell ⟨gB, k * 5 + 4, none⟩ (.slice (some ⟨g, 0, none⟩) m c)) (bs.set k { b with handlers := b.handlers.take m }) VB (hs.set k (.slice (some ⟨g, 0, none⟩) m c)) (gs.set k (a.take m)) L := by
  subst hVB
  have hkb : k < bs.length := (List.getElem?_eq_some_iff.1 hb).1
  obtain ⟨hal, hrow⟩ := h.hnd k b _ a hb hv ha
  obtain ⟨h4, h5⟩ := World.ownsRow.stored (g := gB) (n := bs.length) (cap := cB) h.row (k * 5 + 4) (.slice (some ⟨g, 0, none⟩) m c)
  refine ⟨by rw [List.length_set, List.length_set]; exact h.len, by rw [List.length_set, List.length_set]; exact h.alen, ?_, fun i b2 u a2 e1 e2 e3 => ?_, fun i b2 a2 q x u e1 e2 e3 e4 => ?_, fun i j u1 u2 hij e1 e2 => ?_, fun b2 hb2 => ?_⟩
  · rw [List.length_set, rowOf_same hb (List.getElem?_set_self (by rw [h.len]; exact hkb)) (by rfl), ← rowOf_put blkCells_len (j := 4) (u := .slice (some ⟨g, 0, none⟩) m c) (v' := .slice (some ⟨g, 0, none⟩) m c) hb hv (by omega) (by rfl)]
    exact h4
  · rcases set_cases e1 with ⟨rfl, rfl⟩ | ⟨hne, e1'⟩
    · rcases set_cases e2 with ⟨_, rfl⟩ | ⟨hne, _⟩
      · rcases set_cases e3 with ⟨_, rfl⟩ | ⟨hne, _⟩
        · have h9 := own_take (hrow.kept h5 (apart_ne (apart_types hrow h.row (by decide)) rfl)) hm
          refine ⟨by rw [List.length_take, List.length_take, hal], ?_⟩
          rw [List.length_take, Nat.min_eq_left hm, ← rowOf_take hdlCells_len hal]
          exact h9
        · exact absurd rfl hne
      · exact absurd rfl hne
    · rcases set_cases e2 with ⟨e, _⟩ | ⟨_, e2'⟩
      · exact absurd e hne
      · rcases set_cases e3 with ⟨e, _⟩ | ⟨_, e3'⟩
        · exact absurd e hne
        · obtain ⟨q1, q2⟩ := h.hnd i b2 u a2 e1' e2' e3'
          exact ⟨q1, q2.kept h5 (apart_ne (apart_types q2 h.row (by decide)) rfl)⟩
  · have old : ∀ (i : Nat) (b3 : Blk) (a3 : List Value), bs[i]? = some b3 → gs[i]? = some a3 → b3.handlers[q]? = some x → a3[q]? = some u →
        InR x.fn ∧ RArgs (w.setCell ⟨gB, k * 5 + 4, none⟩ (.slice (some ⟨g, 0, none⟩) m c)) x.args u ∧ (x.args = [] ∨ ∀ r ∈ L, Apart r u) := fun i b3 a3 e1 e2 e3 e4 => by
      obtain ⟨q1, q2, q3⟩ := h.arg i b3 a3 q x u e1 e2 e3 e4
      refine ⟨q1, ?_, q3⟩
      by_cases hx : x.args = []
      · rw [hx] at q2 ⊢
        obtain ⟨A, m, c, rfl, h3, h6⟩ := q2
        exact ⟨A, m, c, rfl, ⟨h3.1, h3.2.1, fun k x hk => by simp at hk⟩, h6⟩
      · rcases q3 with q3 | q3
        · exact absurd q3 hx
        · refine q2.kept h5 ?_
          rcases q3 _ hL with e | e
          · cases e
          · exact .inr fun e' => e e'.symm
    rcases set_cases e1 with ⟨rfl, rfl⟩ | ⟨hne, e1'⟩
    · rcases set_cases e2 with ⟨_, rfl⟩ | ⟨hne, _⟩
      · dsimp only at e3
        rw [List.getElem?_take] at e3 e4
        split at e3
        · rename_i hq
          rw [if_pos hq] at e4
          exact old i b a hb ha e3 e4
        · cases e3
      · exact absurd rfl hne
    · rcases set_cases e2 with ⟨e, _⟩ | ⟨_, e2'⟩
      · exact absurd e hne
      · exact old i b2 a2 e1' e2' e3 e4
  · rcases set_cases e1 with ⟨rfl, rfl⟩ | ⟨hne, e1'⟩ <;> rcases set_cases e2 with ⟨hjk, rfl⟩ | ⟨hne2, e2'⟩
    · exact absurd hjk.symm hij
    · have h9 := h.dis i j _ u2 hij hv e2'; exact h9
    · subst hjk; have h9 := h.dis i _ u1 _ hij e1' hv; exact h9
    · exact h.dis i j u1 u2 hij e1' e2'
  · rcases List.mem_or_eq_of_mem_set hb2 with hb2 | rfl
    · exact h.inr b2 hb2
    · exact h.inr b (List.mem_of_getElem? hb)
def AllArgs (P : Hdl → Value → Prop) (bs : List Blk) (gs : List (List Value)) : Prop := ∀ (i : Nat) (b : Blk) (a : List Value), bs[i]? = some b → gs[i]? = some a → ∀ (k : Nat) (h : Hdl) (v : Value), b.handlers[k]? = some h → a[k]? = some v → P h v
theorem AllArgs.cut {P : Hdl → Value → Prop} {bs : List Blk} {gs : List (List Value)} (h : AllArgs P bs gs) {k m : Nat} {b : Blk} {a : List Value} (hb : bs[k]? = some b) (ha : gs[k]? = some a) : AllArgs P (bs.set k { b with handlers := b.handlers.take m }) (gs.set k (a.take m)) := fun i b2 a2 e1 e2 q x v e3 e4 => by
  rcases set_cases e1 with ⟨rfl, rfl⟩ | ⟨hne, e1'⟩
  · rcases set_cases e2 with ⟨_, rfl⟩ | ⟨hne, _⟩
    · dsimp only at e3
      rw [List.getElem?_take] at e3 e4
      split at e3
      · rename_i hq
        rw [if_pos hq] at e4
        exact h i b a hb ha q x v e3 e4
      · cases e3
    · exact absurd rfl hne
  · rcases set_cases e2 with ⟨e, _⟩ | ⟨_, e2'⟩
    · exact absurd e hne
    · exact h i b2 a2 e1' e2' q x v e3 e4
theorem OBl.relist {B : Nat} {w : World} {bs : List Blk} {VB : Value} {hs : List Value} {gs : List (List Value)} {L L' : List Value} (h : OBl B w bs VB hs gs L) (hA : AllArgs (fun x v => x.args = [] ∨ ∀ r ∈ L', Apart r v) bs gs) : OBl B w bs VB hs gs L' :=
  ⟨h.len, h.alen, h.row, h.hnd, fun i b a k x v e1 e2 e3 e4 => ⟨(h.arg i b a k x v e1 e2 e3 e4).1, (h.arg i b a k x v e1 e2 e3 e4).2.1, hA i b a e1 e2 k x v e3 e4⟩, h.dis, h.inr⟩
theorem OBl.allArgs {B : Nat} {w : World} {bs : List Blk} {VB : Value} {hs : List Value} {gs : List (List Value)} {L : List Value} (h : OBl B w bs VB hs gs L) : AllArgs (fun x v => x.args = [] ∨ ∀ r ∈ L, Apart r v) bs gs := fun i b a e1 e2 k x v e3 e4 => (h.arg i b a k x v e1 e2 e3 e4).2.2
theorem ArgsOk.mono {P : Hdl → Value → Prop} {w W : World} {t : Tsk} {V : Value} (h : ArgsOk P w t V) (hT : RTsk w t V) (hE : Ext w W) : ArgsOk P W t V := fun cs A n c hV h8 i b hb x o hA Ah nh ch hc k hd hk y q hy v hv => by
  have h0 := h cs A n c hV h8
  obtain ⟨Af, nf, cf, Ab, nb, cb, rfl, _, _, _, _, _, _, _, _, _, _, _, hB, _, _⟩ := hT
  have e8 : A = Ab := by
    have := congrArg (fun v => match v with | .agg a => a.toList[8]? | _ => none) hV
    dsimp only at this
    rw [h8] at this
    simp only [List.getElem?_cons_succ, List.getElem?_cons_zero, Option.some.injEq, Value.slice.injEq] at this
    exact this.1.symm
  subst e8
  obtain ⟨b2, off, Aa, na, ca, hA2, hlt, _, _, _, _, ⟨hH, _⟩, _, _, _, _, c4⟩ := hB.blk hb
  rw [hA] at hA2
  injection hA2 with hA2
  injection hA2 with e1 e2 _
  subst e1 e2
  have c5 := hE.cell c4
  rw [Nat.add_assoc] at c4 c5
  rw [hc] at c5
  injection c5 with c5
  injection c5 with e1 e2 e3
  subst e1 e2 e3
  obtain ⟨b3, o3, Ag, ng, cg, hA3, hl3, _, _, _, d1⟩ := hH.hdl hk
  rw [hy] at hA3
  injection hA3 with hA3
  injection hA3 with e1 e2 _
  subst e1 e2
  have d2 := hE.cell d1
  rw [Nat.add_assoc] at d1 d2
  rw [hv] at d2
  injection d2 with d2
  subst d2
  exact h0 i b hb x o hA _ _ _ c4 k hd hk y q hy _ d1
end Go.Proofs.YtcjjoabofecjmaaGreat

namespace Go.Proofs.YtcjjoabofecjmaaGreat
open Go.RowKit Go.Sort
theorem infoHdl2 : (Tryz.prog.info? 58).map (·.size) = some 2 := by kernel_rfl
theorem ret_range4 {fn : Func} {R : Ending → World → Prop} {a : Act} {w : World} {b b2 s s2 k : Nat} {cs cs2 : List Value} {v : Value} (hfn : fn.results = #[ResultVar.cell s 32, ResultVar.cell s2 58, ResultVar.tmp k]) (hs : a.tmps[s]? = some (.pointer (some ⟨b, 0, none⟩))) (hs2 : a.tmps[s2]? = some (.pointer (some ⟨b2, 0, none⟩))) (hk : a.tmps[k]? = some v) (hd : a.defers = []) (hl : cs.length = 14) (hl2 : cs2.length = 2) (hR : w.rangeAt b 0 cs) (hR2 : w.rangeAt b2 0 cs2)
    (h : R (.returned (.tuple #[.agg cs.toArray, .agg cs2.toArray, v])) w) : bodyPost Tryz.prog fn R .ret a w :=
  bodyPost_ret (by simp [results, hfn, hs, hs2, hk, asAddr, run_loadVar_mid w b 0 32 cs _ hR Tryz.underlying32 rfl (by rw [infoTsk, hl]), run_loadVar_mid w b2 0 58 cs2 _ hR2 Tryz.underlying58 rfl (by rw [infoHdl2, hl2])]) hd h
def HandPost (r : Tsk × Hdl × Int) (w : World) (e : Ending) (w' : World) : Prop := ∃ V' A n c, e = .returned (.tuple #[V', .agg #[Value.int .i64 r.2.1.fn, .slice A n c], Value.int .i64 r.2.2]) ∧ RTsk w' r.1 V' ∧ (RSl 1 RInt w' A n r.2.1.args ∧ n ≤ c) ∧ InR r.2.1.fn ∧ Ext w w'
theorem handPost_no {w W : World} {n : Int} (h : Ext w W) : HandPost (zeroTsk, noHdl, n) w (.returned (.tuple #[zeroV, .agg #[Value.int .i64 0, .slice none 0 0], Value.int .i64 n])) W := ⟨_, none, 0, 0, rfl, zero_reads _, ⟨RSl.nil _, Nat.le_refl _⟩, zero_in, h⟩
set_option maxRecDepth 4000 in
set_option maxHeartbeats 4000000 in
theorem Handle_bad (p : Prg) (t : Tsk) (VP VT : Value) (w : World) (hP : RPrg w p VP) (hT : RTsk w t VT) (hc : tcheckS p t ≠ 0) : Calls Tryz.prog 28 #[VP, VT] w (HandPost (handleS p t) w) := by
  have HC := Lib.hid (fun W h => tCheck_any p t VP VT W (hP.mono h) (hT.mono h))
  obtain ⟨Af, nf, cf, Ao, no, co, Av, nv, cv, rfl, _⟩ := hP
  obtain ⟨Bf, mf, df, Bb, mb, db, rfl, _⟩ := hT
  have HR : Hid (handleS p t = (zeroTsk, noHdl, 1)) := by unfold Hid handleS; rw [if_pos hc]
  have hcb : (tcheckS p t != 0) = true := by simpa using hc
  clear hc
  go_enter Tryz.func28, Tryz.ntmps28
  go_wp2_with (first | ((first | ((with_reducible show Code.wp _ (Code.region _ (List.toArray ({ dst := _, op := Op.load 32 _, type := _, pos := _, after := _, guard := none } :: _)) false) _ _ _); refine wp_region_lit ?_) | (with_reducible show wpList _ _ _ ({ dst := _, op := Op.load 32 _, type := _, pos := _, after := _, guard := none } :: _) _ _)); refine wpList_load_mid rfl 32 _ rfl _ _ rfl _ _ (by exact rg) Tryz.underlying32 rfl (by exact infoTsk) ?_; dsimp only [dZ, dS]) | ((with_reducible show wpList _ _ _ ({ dst := _, op := Op.store 32 _ _, type := _, pos := _, after := _, guard := none } :: _) _ _); refine wpList_store_mid rfl 32 _ _ rfl _ _ _ rfl rfl (by exact tr) infoTsk (all_oneCell_toArray (by simp [Value.oneCell'])) ?_; (try dsimp only [Act.put])) | ((with_reducible show wpList _ _ _ ({ dst := _, op := Op.store 58 _ _, type := _, pos := _, after := _, guard := none } :: _) _ _); refine wpList_store_mid rfl 58 _ _ rfl _ _ _ rfl rfl (by exact tr) infoHdl2 (all_oneCell_toArray (by simp [Value.oneCell'])) ?_; (try dsimp only [Act.put])) | (go_at_call 17; refine (HC.out _ xt).mono ?_; rintro e w1 ⟨rfl, hb⟩; have T1 := there_ext (b := w.heap.size + 1 + 1) (o := 0) (n := 14) (by exact tr) hb; have U1 := there_ext (b := w.heap.size + 1 + 1 + 1) (o := 0) (n := 2) (by exact tr) hb; have he0 := Lib.hid hb; obtain ⟨hc, hf, hs, he⟩ := Ext.use (w := w) hb xt; clear hb; (try simp only [World.size_alloc] at hs); have hz1 : w.heap.size + 1 + 1 + 1 < w1.heap.size := (by omega)))
  refine ret_range4 (b := w.heap.size + 1 + 1) (b2 := w.heap.size + 1 + 1 + 1) Tryz.results28 rfl rfl rfl rfl ?hl ?hl2 (ranges_two (by omega) ?t1 ?t2).1 (ranges_two (by omega) ?t3 ?t4).2 ?fin
  case hl => rfl
  case hl2 => rfl
  case t1 => exact tr
  case t2 => exact tr
  case t3 => exact tr
  case t4 => exact tr
  rw [HR.out]
  exact handPost_no xts
set_option maxRecDepth 4000 in
set_option maxHeartbeats 4000000 in
theorem Handle_state (p : Prg) (t : Tsk) (VP VT : Value) (w : World) (hP : RPrg w p VP) (hT : RTsk w t VT) (hc : tcheckS p t = 0) (hst : t.status ≠ 1 ∨ inHand t = true) : Calls Tryz.prog 28 #[VP, VT] w (HandPost (handleS p t) w) := by
  have HC := Lib.hid (fun W h => tCheck_any p t VP VT W (hP.mono h) (hT.mono h))
  rw [hc] at HC
  have HH := Lib.hid (fun W h => handles_any t VT W (hT.mono h))
  obtain ⟨Af, nf, cf, Ao, no, co, Av, nv, cv, rfl, _⟩ := hP
  obtain ⟨Bf, mf, df, Bb, mb, db, rfl, _⟩ := hT
  have HR : Hid (handleS p t = (zeroTsk, noHdl, 17)) := by unfold Hid handleS; rw [if_neg (by simpa using hc), if_pos hst]
  clear hc
  by_cases h1 : t.status = 1
  · have hh : inHand t = true := hst.resolve_left (fun h => h h1)
    rw [hh] at HH
    rw [h1] at HC HH ⊢
    clear hst hh h1
    go_enter Tryz.func28, Tryz.ntmps28
    go_wp2_with (first | ((first | ((with_reducible show Code.wp _ (Code.region _ (List.toArray ({ dst := _, op := Op.load 32 _, type := _, pos := _, after := _, guard := none } :: _)) false) _ _ _); refine wp_region_lit ?_) | (with_reducible show wpList _ _ _ ({ dst := _, op := Op.load 32 _, type := _, pos := _, after := _, guard := none } :: _) _ _)); refine wpList_load_mid rfl 32 _ rfl _ _ rfl _ _ (by exact rg) Tryz.underlying32 rfl (by exact infoTsk) ?_; dsimp only [dZ, dS]) | ((with_reducible show wpList _ _ _ ({ dst := _, op := Op.load 32 _, type := _, pos := _, after := _, guard := some _ } :: _) _ _); refine wpList_load_mid_g (by rfl) 32 _ rfl _ _ rfl _ _ (by exact rg) Tryz.underlying32 rfl (by exact infoTsk) ?_; dsimp only [dZ, dS]) | ((with_reducible show wpList _ _ _ ({ dst := _, op := Op.store 32 _ _, type := _, pos := _, after := _, guard := none } :: _) _ _); refine wpList_store_mid rfl 32 _ _ rfl _ _ _ rfl rfl (by exact tr) infoTsk (all_oneCell_toArray (by simp [Value.oneCell'])) ?_; (try dsimp only [Act.put])) | ((with_reducible show wpList _ _ _ ({ dst := _, op := Op.store 58 _ _, type := _, pos := _, after := _, guard := none } :: _) _ _); refine wpList_store_mid rfl 58 _ _ rfl _ _ _ rfl rfl (by exact tr) infoHdl2 (all_oneCell_toArray (by simp [Value.oneCell'])) ?_; (try dsimp only [Act.put])) | (go_at_call 17; refine (HC.out _ xt).mono ?_; rintro e w1 ⟨rfl, hb⟩; have T1 := there_ext (b := w.heap.size + 1 + 1) (o := 0) (n := 14) (by exact tr) hb; have U1 := there_ext (b := w.heap.size + 1 + 1 + 1) (o := 0) (n := 2) (by exact tr) hb; have R1 := range_ext (b := w.heap.size + 1) (o := 0) (by exact rg) hb; have he0 := Lib.hid hb; obtain ⟨hc, hf, hs, he⟩ := Ext.use (w := w) hb xt; clear hb; (try simp only [World.size_alloc] at hs); have hz1 : w.heap.size + 1 + 1 + 1 < w1.heap.size := (by omega)) | (go_at_call 65; refine (HH.out _ xt).mono ?_; rintro e w2 ⟨rfl, hb⟩; have T2 := there_ext T1 hb; have U2 := there_ext U1 hb; have he0 := Lib.hid hb; obtain ⟨hc2, hf2, hs2, he2⟩ := Ext.use (w := w) hb xt; clear hb))
    refine ret_range4 (b := w.heap.size + 1 + 1) (b2 := w.heap.size + 1 + 1 + 1) Tryz.results28 rfl rfl rfl rfl ?hl ?hl2 (ranges_two (by omega) ?t1 ?t2).1 (ranges_two (by omega) ?t3 ?t4).2 ?fin
    case hl => rfl
    case hl2 => rfl
    case t1 => exact tr
    case t2 => exact tr
    case t3 => exact tr
    case t4 => exact tr
    rw [HR.out]
    exact handPost_no xts
  · have hcb : (t.status != 1) = true := by simpa using h1
    clear hst h1
    go_enter Tryz.func28, Tryz.ntmps28
    go_wp2_with (first | ((first | ((with_reducible show Code.wp _ (Code.region _ (List.toArray ({ dst := _, op := Op.load 32 _, type := _, pos := _, after := _, guard := none } :: _)) false) _ _ _); refine wp_region_lit ?_) | (with_reducible show wpList _ _ _ ({ dst := _, op := Op.load 32 _, type := _, pos := _, after := _, guard := none } :: _) _ _)); refine wpList_load_mid rfl 32 _ rfl _ _ rfl _ _ (by exact rg) Tryz.underlying32 rfl (by exact infoTsk) ?_; dsimp only [dZ, dS]) | ((with_reducible show wpList _ _ _ ({ dst := _, op := Op.store 32 _ _, type := _, pos := _, after := _, guard := none } :: _) _ _); refine wpList_store_mid rfl 32 _ _ rfl _ _ _ rfl rfl (by exact tr) infoTsk (all_oneCell_toArray (by simp [Value.oneCell'])) ?_; (try dsimp only [Act.put])) | ((with_reducible show wpList _ _ _ ({ dst := _, op := Op.store 58 _ _, type := _, pos := _, after := _, guard := none } :: _) _ _); refine wpList_store_mid rfl 58 _ _ rfl _ _ _ rfl rfl (by exact tr) infoHdl2 (all_oneCell_toArray (by simp [Value.oneCell'])) ?_; (try dsimp only [Act.put])) | (go_at_call 17; refine (HC.out _ xt).mono ?_; rintro e w1 ⟨rfl, hb⟩; have T1 := there_ext (b := w.heap.size + 1 + 1) (o := 0) (n := 14) (by exact tr) hb; have U1 := there_ext (b := w.heap.size + 1 + 1 + 1) (o := 0) (n := 2) (by exact tr) hb; have he0 := Lib.hid hb; obtain ⟨hc, hf, hs, he⟩ := Ext.use (w := w) hb xt; clear hb; (try simp only [World.size_alloc] at hs); have hz1 : w.heap.size + 1 + 1 + 1 < w1.heap.size := (by omega)))
    refine ret_range4 (b := w.heap.size + 1 + 1) (b2 := w.heap.size + 1 + 1 + 1) Tryz.results28 rfl rfl rfl rfl ?hlb ?hl2b (ranges_two (by omega) ?t1b ?t2b).1 (ranges_two (by omega) ?t3b ?t4b).2 ?finb
    case hlb => rfl
    case hl2b => rfl
    case t1b => exact tr
    case t2b => exact tr
    case t3b => exact tr
    case t4b => exact tr
    rw [HR.out]
    exact handPost_no xts
end Go.Proofs.YtcjjoabofecjmaaGreat

namespace Go.Proofs.YtcjjoabofecjmaaGreat
open Go.RowKit Go.Sort
theorem RSl.back {w W W' : World} {A : Option Addr} {n : Nat} {xs : List Int} (hE : Ext w W) (hE' : Ext w W') (h : RSl 1 RInt W A n xs) (hl : xs = [] ∨ ∀ b o s, A = some ⟨b, o, s⟩ → b < w.heap.size) : RSl 1 RInt W' A n xs := by
  refine ⟨h.1, h.2.1, fun k x hk => ?_⟩
  obtain ⟨b, off, cs, hA, h1, h2, h3⟩ := h.2.2 k x hk
  have hb : b < w.heap.size := by
    rcases hl with e | e
    · subst e; simp at hk
    · exact e _ _ _ hA
  refine ⟨b, off, cs, hA, h1, h2, fun j v hj => ?_⟩
  have := h3 j v hj
  rw [Below.cell hE (p := ⟨b, off + k * 1 + j, none⟩) hb] at this
  exact hE'.cell this
theorem low3 (w : World) {AF : Option Addr} {N cF gB NB cB z : Nat} (hF : ∀ x, (Value.slice AF N cF).ownBlock = some x → z ≤ x) (hB : z ≤ gB) (hz : w.heap.size ≤ z) :
    Low w [boxV (w.heap.size + 1), boxV (w.heap.size + 1 + 1), boxV (w.heap.size + 1 + 1 + 1), .slice AF N cF, .slice (some ⟨gB, 0, none⟩) NB cB] := by
  intro r hr y hy
  simp only [List.mem_cons, List.not_mem_nil, or_false] at hr
  rcases hr with rfl | rfl | rfl | rfl | rfl
  · have : w.heap.size + 1 = y := by injection hy
    omega
  · have : w.heap.size + 1 + 1 = y := by injection hy
    omega
  · have : w.heap.size + 1 + 1 + 1 = y := by injection hy
    omega
  · have := hF y hy; omega
  · have : gB = y := by injection hy
    omega
theorem ext_none {w W : World} (h : w.grownBy W none) : Ext w W := ⟨h.os, h.tape, h.output, h.size, fun i hi => h.block i hi (by simp)⟩
theorem OBl.grew {B B' : Nat} {w W : World} {bs : List Blk} {VB VF : Value} {hs : List Value} {gs : List (List Value)} {L : List Value} {sz n : Nat} {xs : List Value} (h : OBl B w bs VB hs gs L) (hg : w.grownBy W VF.ownBlock) (hF : w.ownsRow B' 62 sz VF n xs) (hm : VF ∈ L) : OBl B W bs VB hs gs L := by
  cases hv : VF.ownBlock with
  | none => rw [hv] at hg; exact h.mono (ext_none hg)
  | some r =>
    rw [hv] at hg
    exact h.wrote hg (apart_ne (apart_types h.row hF (by decide)) hv) (fun u hu => by obtain ⟨m, xs, hh⟩ := bl_rows h hu; exact apart_ne (apart_types hh hF (by decide)) hv) hm hv
def HandPostA (r : Tsk × Hdl × Int) (t : Tsk) (VT : Value) (w : World) (e : Ending) (w' : World) : Prop := ∃ VF VB rs hs gs A n c, e = .returned (.tuple #[tskV r.1 VF VB, .agg #[Value.int .i64 r.2.1.fn, .slice A n c], Value.int .i64 r.2.2]) ∧
  OFr w.heap.size w' r.1.frames VF rs ∧ (∀ L, Low w L → OBl w.heap.size w' r.1.blocks VB hs gs L) ∧ (∀ P, ArgsOk P w t VT → AllArgs P r.1.blocks gs ∧ P r.2.1 (.slice A n c)) ∧ RSl 1 RInt w' A n r.2.1.args ∧ n ≤ c ∧ InR r.2.1.fn ∧ Ext w w'
theorem hand_wk {p : Prg} {t : Tsk} (hc : tcheckS p t = 0) (hst : t.status = 1) (hi : inHand t = false) (hm : 0 ≤ t.mask ∧ t.mask ≤ 100) (hI : InR t.fn ∧ InR t.scope ∧ InR t.prio ∧ InR t.status ∧ InR t.wkind ∧ InR t.windex ∧ InR t.mask ∧ InR t.level ∧ InR t.reason ∧ InR t.result) (hwk : RunWk t) :
    ((handleS p t).1.frames.length ≤ 10 ∧ (∀ f ∈ (handleS p t).1.frames, f.regs.length ≤ 32) ∧ (handleS p t).1.blocks.length ≤ 8 ∧ ∀ b ∈ (handleS p t).1.blocks, b.handlers.length ≤ 8) ∧
      (InR (handleS p t).1.fn ∧ InR (handleS p t).1.scope ∧ InR (handleS p t).1.prio ∧ InR (handleS p t).1.status ∧ InR (handleS p t).1.wkind ∧ InR (handleS p t).1.windex ∧ InR (handleS p t).1.mask ∧ InR (handleS p t).1.level ∧ InR (handleS p t).1.reason ∧ InR (handleS p t).1.result) := by
  have z : ((zeroTsk.frames.length ≤ 10 ∧ (∀ f ∈ zeroTsk.frames, f.regs.length ≤ 32) ∧ zeroTsk.blocks.length ≤ 8 ∧ ∀ b ∈ zeroTsk.blocks, b.handlers.length ≤ 8) ∧
      (InR zeroTsk.fn ∧ InR zeroTsk.scope ∧ InR zeroTsk.prio ∧ InR zeroTsk.status ∧ InR zeroTsk.wkind ∧ InR zeroTsk.windex ∧ InR zeroTsk.mask ∧ InR zeroTsk.level ∧ InR zeroTsk.reason ∧ InR zeroTsk.result)) :=
    ⟨⟨by decide, (fun f h => by cases h), by decide, fun b h => by cases h⟩, zero_in, zero_in, zero_in, zero_in, zero_in, zero_in, zero_in, zero_in, zero_in, zero_in⟩
  have hlv := liv_ok (live_ok hc (by omega))
  unfold handleS
  rw [if_neg (by simpa using hc), if_neg (by rw [hi, hst]; simp)]
  split
  · exact z
  rename_i b hb
  split
  · exact z
  rename_i h hh
  obtain ⟨g, hg, _, hga, _⟩ := hlv.hdl hb (List.mem_of_getElem? hh)
  have hgo := fn_ok (tcheck_check hc) (fnAt_mem hg)
  rw [hg]
  unfold handleT
  dsimp only
  have hp1 := hgo.par
  have hp2 := hgo.reg
  refine ⟨⟨by have := hwk.len; simp; omega, fun f hf => ?_, by rw [List.length_set]; exact hwk.bl, fun x hx => ?_⟩, hI.1, hI.2.1, hI.2.2.1, hI.2.2.2.1, hI.2.2.2.2.1, hI.2.2.2.2.2.1, ⟨by omega, by omega⟩, hI.2.2.2.2.2.2.2⟩
  · rcases List.mem_append.1 hf with hf | hf
    · exact hwk.regs f hf
    · rw [List.mem_singleton.1 hf]
      show List.length (regsOf _ _) ≤ 32
      rw [regsOf_length (by omega)]; omega
  · rcases List.mem_or_eq_of_mem_set hx with hx | rfl
    · exact hwk.hdl x hx
    · have := hwk.hdl b (List.mem_of_getElem? hb)
      show List.length (List.take _ _) ≤ 8
      rw [List.length_take]; omega
set_option maxRecDepth 8000 in
set_option maxHeartbeats 8000000 in
theorem Handle_args (p : Prg) (t : Tsk) (VP VT : Value) (w : World) (hP : RPrg w p VP) (hT : RTsk w t VT) (hc : tcheckS p t = 0) (hst : t.status = 1) (hi : inHand t = false) : Calls Tryz.prog 28 #[VP, VT] w fun e w' => ((handleS p t).2.2 ≠ 0 ∧ HandPost (handleS p t) w e w') ∨ HandPostA (handleS p t) t VT w e w' := by
  have HAM := Lib.hid (fun P W h hE => ArgsOk.mono (P := P) (W := W) h hT hE)
  have HC := Lib.hid (fun W h => tCheck_any p t VP VT W (hP.mono h) (hT.mono h))
  rw [hc] at HC
  have HH := Lib.hid (fun W h => handles_any t VT W (hT.mono h))
  rw [hi] at HH
  have hlv := liv_ok (live_ok hc (by omega))
  have hck := tcheck_check hc
  have hwk := hlv.wk hck
  have hbl := blks_len hlv.blks
  have HWK := Lib.hid hwk
  have HNum := Lib.hid hT.nums
  have HIN := Lib.hid hT.inr
  have HCo := Lib.hid (fun W h => copied_args t VT w W hT h (by have := hwk.len; omega) (by have := hwk.bl; omega) (fun f hf => by have := hwk.regs f hf; omega) (fun b hb => by have := hwk.hdl b hb; omega))
  obtain ⟨b, hb⟩ : ∃ b, lastB t = some b := ⟨_, List.getElem?_eq_getElem (show t.blocks.length - 1 < t.blocks.length by omega)⟩
  have hm8 := hwk.hdl b (List.mem_of_getElem? hb)
  have HB := Lib.hid (show t.blocks[t.blocks.length - 1]? = some b from hb)
  have HHd : Hid (∀ h ∈ b.handlers, ∃ g, fnAt p h.fn = some g ∧ g.cleanup = true ∧ (h.args.length : Int) = g.params ∧ ∀ x ∈ h.args, numB x = true) := fun h hh => hlv.hdl hb hh
  have HFn : Hid (∀ h g, fnAt p h = some g → FnOk p g) := fun h g hg => fn_ok hck (fnAt_mem hg)
  have HR0 : Hid (b.handlers = [] → handleS p t = (zeroTsk, noHdl, 23)) := fun h0 => by
    unfold handleS
    rw [if_neg (by simpa using hc), if_neg (by rw [hi, hst]; simp), hb]
    dsimp only
    rw [h0]; rfl
  have HR1 : Hid (∀ h g, b.handlers[b.handlers.length - 1]? = some h → fnAt p h.fn = some g → handleS p t = (handleT t b h g, h, 0)) := fun h g h1 h2 => by
    unfold handleS
    rw [if_neg (by simpa using hc), if_neg (by rw [hi, hst]; simp), hb]
    dsimp only
    rw [h1]
    dsimp only
    rw [h2]
  obtain ⟨Af, nf, cf, Ao, no, co, Av, nv, cv, rfl, hF, _⟩ := hP
  have HF := Lib.hid hF
  obtain ⟨Bf, mf, df, Bb, mb, db, rfl, _⟩ := hT
  have hnb1 : (t.blocks.length : Int) ≤ 8 := by omega
  have hle2 : t.blocks.length ≤ 9223372036854775807 := by omega
  have HSt := Lib.hid hst
  rw [hst] at HC HH HCo HAM ⊢
  clear hF hc hst hi hlv hck hwk hb
  go_enter Tryz.func28, Tryz.ntmps28
  go_upto_region 6 with (first | ((first | ((with_reducible show Code.wp _ (Code.region _ (List.toArray ({ dst := _, op := Op.load 32 _, type := _, pos := _, after := _, guard := none } :: _)) false) _ _ _); refine wp_region_lit ?_) | (with_reducible show wpList _ _ _ ({ dst := _, op := Op.load 32 _, type := _, pos := _, after := _, guard := none } :: _) _ _)); refine wpList_load_mid rfl 32 _ rfl _ _ rfl _ _ (by exact rg) Tryz.underlying32 rfl (by exact infoTsk) ?_; dsimp only [dZ, dS]) | ((with_reducible show wpList _ _ _ ({ dst := _, op := Op.load 32 _, type := _, pos := _, after := _, guard := some _ } :: _) _ _); refine wpList_load_mid_g (by rfl) 32 _ rfl _ _ rfl _ _ (by exact rg) Tryz.underlying32 rfl (by exact infoTsk) ?_; dsimp only [dZ, dS]) | ((with_reducible show wpList _ _ _ ({ dst := _, op := Op.store 32 _ _, type := _, pos := _, after := _, guard := none } :: _) _ _); refine wpList_store_mid rfl 32 _ _ rfl _ _ _ rfl rfl (by exact tr) infoTsk (all_oneCell_toArray (by simp [Value.oneCell'])) ?_; (try dsimp only [Act.put])) | (go_at_call 17; refine (HC.out _ xt).mono ?_; rintro e w1 ⟨rfl, hb⟩; have T1 := there_ext (b := w.heap.size + 1 + 1) (o := 0) (n := 14) (by exact tr) hb; have U1 := there_ext (b := w.heap.size + 1 + 1 + 1) (o := 0) (n := 2) (by exact tr) hb; have S1 := there_ext (b := w.heap.size + 1) (o := 0) (n := 14) (by exact tr) hb; have R1 := range_ext (b := w.heap.size + 1) (o := 0) (by exact rg) hb; have Q1 := range_ext (b := w.heap.size) (o := 0) (cs := [.slice Af nf cf, .slice Ao no co, .slice Av nv cv]) (by exact rg) hb; have he0 := Lib.hid hb; obtain ⟨hc, hf, hs, he⟩ := Ext.use (w := w) hb xt; clear hb; (try simp only [World.size_alloc] at hs); have hz1 : w.heap.size + 1 + 1 + 1 < w1.heap.size := (by omega)) | (go_at_call 65; refine (HH.out _ xt).mono ?_; rintro e w2 ⟨rfl, hb⟩; have T1 := there_ext T1 hb; have U1 := there_ext U1 hb; have S1 := there_ext S1 hb; have R1 := range_ext R1 hb; have Q1 := range_ext Q1 hb; have he := Ext.trans he hb; have hz1 := Nat.lt_of_lt_of_le hz1 hb.size; clear hb) | (go_at_call 66; refine (HCo.out _ xt).mono ?_; rintro e w3 ⟨VF, VB, rs, hs0, gs, rfl, hOF, ⟨hOB, hOA⟩, hb3⟩; have HOA := Lib.hid (fun P h => hOA P (HAM.out P w2 h he)); obtain ⟨AF, cF, rfl, hcF, _⟩ := ownsRow_shape hOF.row; obtain ⟨gB, cB, rfl, hgB⟩ := own_form (hOB [] (low_nil _)).row (by omega); have T3 := there_ext T1 hb3; have U3 := there_ext U1 hb3; have S3 := there_ext S1 hb3; have Q3 := range_ext Q1 hb3; have HE3 : Hid (Ext w w3) := Ext.trans he hb3; have HOF := Lib.hid hOF; have HOB := Lib.hid hOB; have hz3 : w2.heap.size ≤ w3.heap.size := hb3.size; clear hOF hOB hOA hb3 hc hf hs he he0))
  refine wp_hid2 ?_
  intro W3 HW3
  have G3 : w3.grownBy W3 (some (w.heap.size + 1)) := by rw [HW3.out]; exact setCells_grown _ _ _ _
  have HE4 : Hid (Ext w W3) := by rw [Hid, HW3.out]; exact HE3.out.setCells (by omega) _ _
  have hz4 : w3.heap.size ≤ W3.heap.size := G3.size
  have R3 : W3.rangeAt (w.heap.size + 1) 0 [Value.int .i64 t.fn, Value.int .i64 t.scope, Value.int .i64 t.prio, Value.int .i64 1, Value.int .i64 t.wkind, Value.int .i64 t.windex, .bool t.wagain, .slice AF t.frames.length cF, .slice (some ⟨gB, 0, none⟩) t.blocks.length cB, Value.int .i64 t.mask, .bool t.unw, Value.int .i64 t.level, Value.int .i64 t.reason, Value.int .i64 t.result] := by
    rw [HW3.out]; exact World.rangeAt_setCells_same _ _ 0 _ S3
  have T4 : W3.there (w.heap.size + 1 + 1) 0 14 := by rw [HW3.out]; exact there_sets T3
  have U4 : W3.there (w.heap.size + 1 + 1 + 1) 0 2 := by rw [HW3.out]; exact there_sets U3
  have S4 : W3.there (w.heap.size + 1) 0 14 := by rw [HW3.out]; exact there_sets S3
  have Q4 : W3.rangeAt w.heap.size 0 [.slice Af nf cf, .slice Ao no co, .slice Av nv cv] := by rw [HW3.out]; exact range_out Q3 (by omega)
  have HOF4 := Lib.hid (HOF.out.far G3 (by omega))
  have hl3 := low3 w (fun x hx => (HOF.out.row.lt x hx).1) hgB (show w.heap.size ≤ w2.heap.size by omega) (N := t.frames.length) (cF := cF) (NB := t.blocks.length) (cB := cB)
  have HOB3 := HOB.out _ hl3
  have HOB4 := Lib.hid (HOB3.wrote G3 (own_ne HOB3.row (by omega)) (HOB3.hnds_far (by omega)) List.mem_cons_self rfl)
  obtain ⟨v4, hv4⟩ : ∃ v, hs0[t.blocks.length - 1]? = some v := ⟨_, List.getElem?_eq_getElem (by rw [HOB4.out.len]; omega)⟩
  obtain ⟨a4, ha4⟩ : ∃ v, gs[t.blocks.length - 1]? = some v := ⟨_, List.getElem?_eq_getElem (by rw [HOB4.out.alen]; omega)⟩
  obtain ⟨hal4, hrow4⟩ := HOB4.out.hnd _ b v4 a4 HB.out hv4 ha4
  obtain ⟨A4, c4, e4, hc4, _⟩ := ownsRow_shape hrow4
  subst e4
  have m4 : W3.cell? ⟨gB, (t.blocks.length - 1) * 5 + 4, none⟩ = some (.slice A4 b.handlers.length c4) := by
    have h9 := HOB4.out.row
    rw [h9.cellAt _ (by omega), rowOf_get blkCells_len HB.out hv4 (by omega)]; rfl
  have z4 : W3.frozen? ⟨gB, (t.blocks.length - 1) * 5 + 4, none⟩ = false := HOB4.out.row.frozenAt _
  have r8 : W3.cell? ⟨w.heap.size + 1, 8, none⟩ = some (.slice (some ⟨gB, 0, none⟩) t.blocks.length cB) := R3 8 _ rfl
  have r7 : W3.cell? ⟨w.heap.size + 1, 7, none⟩ = some (.slice AF t.frames.length cF) := R3 7 _ rfl
  have r9 : W3.cell? ⟨w.heap.size + 1, 9, none⟩ = some (Value.int .i64 t.mask) := R3 9 _ rfl
  have q0 : W3.cell? ⟨w.heap.size, 0, none⟩ = some (.slice Af nf cf) := Q4 0 _ rfl
  have hgl : gB < W3.heap.size := lt_of_cell m4
  have hsB : IntKind.i64.wrap ((t.blocks.length : Int) - 1) = ((t.blocks.length - 1 : Nat) : Int) := by rw [IntWalk.i64_in _ (by omega)]; omega
  have hs1B : ((t.blocks.length - 1 : Nat) : Int) < (t.blocks.length : Int) := by omega
  have hs2B : (0 : Int) ≤ ((t.blocks.length - 1 : Nat) : Int) := by omega
  have HV4 := Lib.hid hv4
  have HA4 := Lib.hid ha4
  have HRow := Lib.hid hrow4
  have HAL := Lib.hid hal4
  clear HW3 HOF G3 hl3 HOB3 hv4 ha4 hrow4 hal4 T3 U3 S3 Q3 R1 Q1 T1 U1 S1 HC HH HCo
  have hm64 : b.handlers.length ≤ 9223372036854775807 := by omega
  go_upto_region 8 with fail
  rcases Nat.eq_zero_or_pos b.handlers.length with h0 | h0
  · have hz : ((b.handlers.length : Int) == 0) = true := by simp [h0]
    have HR := HR0.out (List.eq_nil_of_length_eq_zero h0)
    clear m4 z4 r7 r9 q0 HRow
    go_wp2_with (first | ((with_reducible show wpList _ _ _ ({ dst := _, op := Op.store 32 _ _, type := _, pos := _, after := _, guard := none } :: _) _ _); refine wpList_store_mid rfl 32 _ _ rfl _ _ _ rfl rfl (by exact tr) infoTsk (all_oneCell_toArray (by simp [Value.oneCell'])) ?_; (try dsimp only [Act.put])) | ((with_reducible show wpList _ _ _ ({ dst := _, op := Op.store 58 _ _, type := _, pos := _, after := _, guard := none } :: _) _ _); refine wpList_store_mid rfl 58 _ _ rfl _ _ _ rfl rfl (by exact tr) infoHdl2 (all_oneCell_toArray (by simp [Value.oneCell'])) ?_; (try dsimp only [Act.put])))
    refine ret_range4 (b := w.heap.size + 1 + 1) (b2 := w.heap.size + 1 + 1 + 1) Tryz.results28 rfl rfl rfl rfl ?hl ?hl2 (ranges_two (by omega) ?t1 ?t2).1 (ranges_two (by omega) ?t3 ?t4).2 ?fin
    case hl => rfl
    case hl2 => rfl
    case t1 => exact tr
    case t2 => exact tr
    case t3 => exact tr
    case t4 => exact tr
    rw [HR]
    refine .inl ⟨by show (23 : Int) ≠ 0; decide, ?_⟩
    exact handPost_no (by have := HE4.out; exact xts)
  have hz : ((b.handlers.length : Int) == 0) = false := beq_eq_false_iff_ne.2 (by omega)
  obtain ⟨g4, c4', e4, hg4⟩ := own_form HRow.out h0
  injection e4 with e41 _ e43
  subst e41 e43
  obtain ⟨y, hy⟩ : ∃ y, b.handlers[b.handlers.length - 1]? = some y := ⟨_, List.getElem?_eq_getElem (by omega)⟩
  obtain ⟨av, hav⟩ : ∃ v, a4[b.handlers.length - 1]? = some v := ⟨_, List.getElem?_eq_getElem (by rw [HAL.out]; omega)⟩
  have n0 : W3.cell? ⟨g4, (b.handlers.length - 1) * 2, none⟩ = some (Value.int .i64 y.fn) := by
    have := HRow.out.cellAt ((b.handlers.length - 1) * 2) (by omega)
    rw [this, show (b.handlers.length - 1) * 2 = (b.handlers.length - 1) * 2 + 0 from rfl, rowOf_get hdlCells_len hy hav (by omega)]; rfl
  have n1 : W3.cell? ⟨g4, (b.handlers.length - 1) * 2 + 1, none⟩ = some av := by
    have := HRow.out.cellAt ((b.handlers.length - 1) * 2 + 1) (by omega)
    rw [this, rowOf_get hdlCells_len hy hav (by omega)]; rfl
  obtain ⟨hyin, ⟨Aa, na, ca, rfl, hRa, hnca⟩, _⟩ := HOB4.out.arg _ b a4 _ y av HB.out HA4.out hy hav
  have hlow : y.args = [] ∨ ∀ x o s, Aa = some ⟨x, o, s⟩ → x < w.heap.size := by
    by_cases hx : y.args = []
    · exact .inl hx
    refine .inr fun x o s e => ?_
    rcases Nat.lt_or_ge x w.heap.size with h9 | h9
    · exact h9
    rcases ((HOB.out [.slice (some ⟨x, 0, none⟩) 0 0] (fun r hr z hz => by
      rw [List.mem_singleton] at hr
      subst hr
      have : x = z := by injection hz
      omega)).arg _ b a4 _ y _ HB.out HA4.out hy hav).2.2 with e2 | e2
    · exact absurd e2 hx
    · have := e2 _ (List.mem_singleton.2 rfl)
      subst e
      rcases this with h | h
      · cases h
      · exact absurd rfl h
  obtain ⟨g, hg, hgc, hga, hgn⟩ := HHd.out y (List.mem_of_getElem? hy)
  have hgo := HFn.out _ _ hg
  have HR := Lib.hid (HR1.out y g hy hg)
  obtain ⟨k0, k1, k2⟩ := fnAt_some hg
  obtain ⟨bF, off, Ac, nc, cc, rfl, hlb, _, i1, i2, i3, ⟨_, _⟩, d0, d1, d2, d3, d4, d5⟩ := HF.out.fnc k2
  obtain ⟨kb, hkb⟩ : ∃ kb : Nat, y.fn = (kb : Int) := ⟨y.fn.toNat, by omega⟩
  obtain ⟨N2, hN2⟩ : ∃ N2 : Nat, g.regs = (N2 : Int) := ⟨g.regs.toNat, by have := hgo.par; have := hgo.reg; omega⟩
  have hkl : (kb : Int) < (nf : Int) := by have := HF.out.len; omega
  have hnfl := HF.out.le
  rw [hkb, Int.toNat_natCast] at d0 d1 d2 d3 d4 d5
  rw [hN2] at d2
  replace d0 := HE4.out.cell d0
  replace d1 := HE4.out.cell d1
  replace d2 := HE4.out.cell d2
  replace d3 := HE4.out.cell d3
  replace d4 := HE4.out.cell d4
  replace d5 := HE4.out.cell d5
  rw [hkb] at n0
  have hsM : IntKind.i64.wrap ((b.handlers.length : Int) - 1) = ((b.handlers.length - 1 : Nat) : Int) := by rw [IntWalk.i64_in _ (by omega)]; omega
  have hs1M : ((b.handlers.length - 1 : Nat) : Int) < (b.handlers.length : Int) := by omega
  have hs2M : (0 : Int) ≤ ((b.handlers.length - 1 : Nat) : Int) := by omega
  have hs3M : ((b.handlers.length - 1 : Nat) : Int) ≤ (c4 : Int) := by omega
  have hg4l : g4 < W3.heap.size := lt_of_cell n0
  have HLe : Hid (y.args.length ≤ N2 ∧ N2 ≤ 32) := by have := hgo.par; have := hgo.reg; refine ⟨?_, ?_⟩ <;> omega
  have HRa := Lib.hid hRa
  have HLow := Lib.hid hlow
  have HKb := Lib.hid hkb
  have HN2 := Lib.hid hN2
  have HYI := Lib.hid hyin
  have HYN : Hid (∀ x ∈ y.args, InR x) := fun x hx => num_in (hgn x hx)
  clear HR0 HR1 HHd HFn hlow hRa hkb hN2 hyin hgn hga hgc hg k0 k1 k2 i1 i2 i3 hgo
  have HY := Lib.hid hy
  have HAV := Lib.hid hav
  clear hy hav
  go_upto_region 12 with fail
  refine wp_hid2 ?_
  intro W5 HW5
  have hzw : w.heap.size + 1 + 1 + 1 < w2.heap.size := hz1
  have hneR : ¬ gB = w.heap.size + 1 := by omega
  obtain ⟨_, h5⟩ := World.ownsRow.stored (g := gB) (n := t.blocks.length) (cap := cB) HOB4.out.row ((t.blocks.length - 1) * 5 + 4) (.slice (some ⟨g4, 0, none⟩) (b.handlers.length - 1) c4)
  have hEa : Ext (W3.setCell ⟨gB, (t.blocks.length - 1) * 5 + 4, none⟩ (.slice (some ⟨g4, 0, none⟩) (b.handlers.length - 1) c4)) W5 := by rw [HW5.out]; exact (Ext.refl _).alloc _
  have HOF5 := Lib.hid ((HOF4.out.kept h5 (apart_ne (apart_types HOF4.out.row HOB4.out.row (by decide)) rfl) (fun u hu => by obtain ⟨m, xs, hh⟩ := fr_rows HOF4.out hu; exact apart_ne (apart_types hh HOB4.out.row (by decide)) rfl)).mono hEa)
  have HOB5 := Lib.hid ((HOB4.out.cut HB.out HV4.out HA4.out (Nat.sub_le b.handlers.length 1) rfl (List.mem_cons_of_mem _ (List.mem_cons_of_mem _ (List.mem_cons_of_mem _ (List.mem_cons_of_mem _ List.mem_cons_self))))).mono hEa)
  have HE5 : Hid (Ext w W5) := by rw [Hid, HW5.out]; exact (HE4.out.setCell (show w.heap.size ≤ gB by omega) _).alloc _
  have hs5 : W5.heap.size = W3.heap.size + 1 := by rw [HW5.out]; simp
  have far : ∀ {b o : Nat} {v : Value}, W3.cell? ⟨b, o, none⟩ = some v → ¬ gB = b → W5.cell? ⟨b, o, none⟩ = some v := fun {b o v} h1 h2 => by
    refine hEa.cell ?_
    rw [cell?_setCell_if, if_neg (fun e => h2 e.1)]; exact h1
  have R5 : W5.rangeAt (w.heap.size + 1) 0 [Value.int .i64 t.fn, Value.int .i64 t.scope, Value.int .i64 t.prio, Value.int .i64 1, Value.int .i64 t.wkind, Value.int .i64 t.windex, .bool t.wagain, .slice AF t.frames.length cF, .slice (some ⟨gB, 0, none⟩) t.blocks.length cB, Value.int .i64 t.mask, .bool t.unw, Value.int .i64 t.level, Value.int .i64 t.reason, Value.int .i64 t.result] := by rw [HW5.out]; exact range_old (range_other R3 hneR) _
  have T5 : W5.there (w.heap.size + 1 + 1) 0 14 := by rw [HW5.out]; exact there_old (there_set T4) _
  have U5 : W5.there (w.heap.size + 1 + 1 + 1) 0 2 := by rw [HW5.out]; exact there_old (there_set U4) _
  have S5 : W5.there (w.heap.size + 1) 0 14 := by rw [HW5.out]; exact there_old (there_set S4) _
  have H5 : W5.rangeAt W3.heap.size 0 [Value.int .i64 (kb : Int), .slice Aa na ca] := by rw [HW5.out]; exact range_new (by simp)
  have s0 : W5.cell? ⟨w.heap.size + 1, 7, none⟩ = some (.slice AF t.frames.length cF) := R5 7 _ rfl
  have s1 := far q0 (by omega)
  have s2 : W5.cell? ⟨W3.heap.size, 0, none⟩ = some (Value.int .i64 (kb : Int)) := H5 0 _ rfl
  have s3 : W5.cell? ⟨W3.heap.size, 1, none⟩ = some (.slice Aa na ca) := H5 1 _ rfl
  have s4 := far d0 (by omega)
  have s5 := far d1 (by omega)
  have s6 := far d2 (by omega)
  have s7 := far d3 (by omega)
  have s8 := far d4 (by omega)
  have s9 := far d5 (by omega)
  have HRS := Lib.hid (HRa.out.back HE4.out HE5.out HLow.out)
  have hBW5 : w2.heap.size ≤ W5.heap.size := by omega
  have zb5 : bF < W5.heap.size := by omega
  have zR5 : w.heap.size + 1 < W5.heap.size := by omega
  have zw5 : w.heap.size < W5.heap.size := by omega
  have zH5 : W3.heap.size < W5.heap.size := by omega
  have hVF : ∀ x, (Value.slice AF t.frames.length cF).ownBlock = some x → w2.heap.size ≤ x ∧ x < W3.heap.size := fun x hx => HOF4.out.row.lt x hx
  clear HW5 hEa h5 far R3 T4 U4 S4 Q4 HOF4 HOB4 m4 z4 r7 r8 r9 q0 n0 n1 d0 d1 d2 d3 d4 d5 HRa HV4 HRow HAL HF
  obtain ⟨N, hN⟩ : ∃ N, t.frames.length = N := ⟨_, rfl⟩
  have HN := Lib.hid hN
  have hN9 : N ≤ 9 := by have := HWK.out.len; omega
  rw [hN] at s0 hVF hcF
  rw [hN] at R5
  clear hN
  have HS5 := Lib.hid hs5
  clear hs5
  refine wp_region_th 17 (fun W' => W'.cell? ⟨w.heap.size + 1, 7, none⟩ = some (.slice AF N cF) ∧ W'.cell? ⟨w.heap.size, 0, none⟩ = some (.slice (some ⟨bF, off, none⟩) nf cf) ∧ W'.cell? ⟨W3.heap.size, 0, none⟩ = some (Value.int .i64 (kb : Int)) ∧ W'.cell? ⟨W3.heap.size, 1, none⟩ = some (.slice Aa na ca) ∧ W'.cell? ⟨bF, off + kb * 6, none⟩ = some (.string g.name) ∧ W'.cell? ⟨bF, off + kb * 6 + 1, none⟩ = some (Value.int .i64 g.params) ∧ W'.cell? ⟨bF, off + kb * 6 + 2, none⟩ = some (Value.int .i64 (N2 : Int)) ∧ W'.cell? ⟨bF, off + kb * 6 + 3, none⟩ = some (Value.int .i64 g.prio) ∧ W'.cell? ⟨bF, off + kb * 6 + 4, none⟩ = some (.bool g.cleanup) ∧ W'.cell? ⟨bF, off + kb * 6 + 5, none⟩ = some (.slice Ac nc cc)) (by kernel_rfl) (by kernel_rfl) (by kernel_rfl) (by kernel_rfl) (by decide) ?_ ?_
  · (repeat' (with_reducible apply And.intro)) <;> go_simp
  intro hT hHeld
  (refine tht 0 hT ?_; (try simp only [Act.put, aset, dZ, dS]); refine tht 1 hT ?_; (try simp only [Act.put, aset, dZ, dS]); refine tht 2 hT ?_; (try simp only [Act.put, aset, dZ, dS]); refine tht 3 hT ?_; (try simp only [Act.put, aset, dZ, dS]); refine tht 4 hT ?_; (try simp only [Act.put, aset, dZ, dS]); refine tht 5 hT ?_; (try simp only [Act.put, aset, dZ, dS]); refine tht 6 hT ?_; (try simp only [Act.put, aset, dZ, dS]); refine tht 7 hT ?_; (try simp only [Act.put, aset, dZ, dS]); refine tht 8 hT ?_; (try simp only [Act.put, aset, dZ, dS]); refine tht 9 hT ?_; (try simp only [Act.put, aset, dZ, dS]); refine tht 10 hT ?_; (try simp only [Act.put, aset, dZ, dS]); refine tht 11 hT ?_; (try simp only [Act.put, aset, dZ, dS]))
  refine tst 12 (fun K hK => ?_)
  go_simp
  go_at_call 60
  refine (registers_any _ _ _ _ _ N2 y.args Aa na ca _ (HRS.out.mono RInt.stays xt) HLe.out.1 (by have := HLe.out.2; omega)).mono ?_
  rintro e w6 ⟨g6, rfl, hg6, hown6, hb6⟩
  obtain ⟨hc6, hf6, hs6, he6⟩ := Ext.use (w := W5) hb6 xt
  have hown66 : Hid (w6.ownsRow W5.heap.size 3 1 (.slice (some ⟨g6, 0, none⟩) N2 N2) N2 ((regsOf N2 y.args).map (Value.int .i64))) := World.ownsRow.mono hown6 (by simp)
  clear hb6 hown6
  (try simp only [World.size_drew] at hs6 hg6)
  have zw6 : w.heap.size < w6.heap.size := by omega
  have zR6 : w.heap.size + 1 < w6.heap.size := by omega
  have zb6 : bF < w6.heap.size := by omega
  have zH6 : W3.heap.size < w6.heap.size := by omega
  dsimp only
  refine hK.out _ _ ?_ (fun hHeld => ?_)
  · (repeat' (with_reducible apply And.intro)) <;> go_simp
  clear hK K
  (try simp only [Act.put, List.setIfInBounds_toArray, List.set_cons_zero, List.set_cons_succ])
  (refine tht 13 hT ?_; (try simp only [Act.put, aset, dZ, dS]))
  refine tst 14 (fun K hK => ?_)
  go_simp
  refine hK.out _ _ ?_ (fun hHeld => ?_)
  · (repeat' (with_reducible apply And.intro)) <;> go_simp
  clear hK K
  (try simp only [Act.put, List.setIfInBounds_toArray, List.set_cons_zero, List.set_cons_succ])
  refine tst 15 (fun K hK => ?_)
  have hE6 : Ext W5 (w6.alloc (.cells #[Value.int .i64 (kb : Int), Value.int .i64 0, .slice (some ⟨g6, 0, none⟩) N2 N2, Value.int .i64 (-1), .bool true] 62)) := he6.alloc _
  have HROW : Hid ((w6.alloc (.cells #[Value.int .i64 (kb : Int), Value.int .i64 0, .slice (some ⟨g6, 0, none⟩) N2 N2, Value.int .i64 (-1), .bool true] 62)).ownsRow w2.heap.size 62 5 (.slice AF N cF) N (rowOf frmCells t.frames rs)) := by
    have h9 := ownsRow_ext HOF5.out.row hE6
    rwa [HN.out] at h9
  obtain ⟨i0, hi0, hz0, hz1, hz2⟩ := info_parts infoFrm
  refine step_append_lies _ (by rfl) (.tmp 62) (.tmp 75) _ (by rfl) w2.heap.size 62 i0 _ 5 56 Tryz.underlying29 hi0 hz0 hz1 hz2 rfl (by omega) _ N _ (by rfl) HROW.out ⟨w6.heap.size, 0, none⟩ 1 1 (frmCells ⟨kb, 0, regsOf N2 y.args, -1, true⟩ (.slice (some ⟨g6, 0, none⟩) N2 N2)) (by rfl) rfl (fun j u hj => by rw [addr_add]; simpa [go_sem, frmCells] using hj) (frmCells_one _ _ rfl) (by omega) (by simp only [maxLen]; omega) (by omega) (by simp; omega) _ rfl ?_
  clear hi0 hz0 hz1 hz2
  intro g7 cap7 w7 hown7 hgr7 hat7 hlt7
  have hneV : ∀ x, (x < w2.heap.size ∨ W3.heap.size ≤ x) → (Value.slice AF N cF).ownBlock ≠ some x := fun x h e => by have := hVF x e; omega
  have far7 : ∀ {b o : Nat} {v : Value}, b < w6.heap.size → (Value.slice AF N cF).ownBlock ≠ some b → w6.cell? ⟨b, o, none⟩ = some v → w7.cell? ⟨b, o, none⟩ = some v := fun {b o v} h1 h2 h3 => by
    rw [hgr7.cell_far ⟨b, o, none⟩ (by simp; omega) (fun e => h2 e.symm), World.cell?_alloc_lt _ _ _ h1]; exact h3
  have there7 : ∀ {b n : Nat}, W5.there b 0 n → b < w2.heap.size → w7.there b 0 n := fun {b n} h1 h2 j hj => by
    obtain ⟨a1, a2⟩ := there_old (there_ext h1 he6) (.cells #[Value.int .i64 (kb : Int), Value.int .i64 0, .slice (some ⟨g6, 0, none⟩) N2 N2, Value.int .i64 (-1), .bool true] 62) j hj
    refine ⟨?_, ?_⟩
    · rw [hgr7.cell_far ⟨b, 0 + j, none⟩ (by simp; omega) (fun e => hneV b (.inl h2) e.symm)]; exact a1
    · rw [hgr7.frozen_far ⟨b, 0 + j, none⟩ (by simp; omega) (fun e => hneV b (.inl h2) e.symm)]; exact a2
  have T7 := there7 T5 (by omega)
  have U7 := there7 U5 (by omega)
  have S7 := there7 S5 (by omega)
  have R7 : w7.rangeAt (w.heap.size + 1) 0 _ := fun j v hj => far7 zR6 (hneV _ (.inl (by omega))) (range_ext R5 he6 j v hj)
  have H7 : w7.rangeAt W3.heap.size 0 _ := fun j v hj => far7 zH6 (hneV _ (.inr (Nat.le_refl _))) (range_ext H5 he6 j v hj)
  have hE7 : Hid (Ext w w7) := Below.grown (Ext.trans HE5.out hE6) hgr7 (by have := hE6.size; omega) (fun k e => by have := hVF k e; omega)
  have HOF7 := Lib.hid (HOF5.out.push (f := ⟨kb, 0, regsOf N2 y.args, -1, true⟩) (v := .slice (some ⟨g6, 0, none⟩) N2 N2) (VF' := .slice (some ⟨g7, 0, none⟩) (N + 1) cap7) hE6 (by omega)
    (by
      have h9 := ownsRow_ext hown66.out ((Ext.refl _).alloc (.cells #[Value.int .i64 (kb : Int), Value.int .i64 0, .slice (some ⟨g6, 0, none⟩) N2 N2, Value.int .i64 (-1), .bool true] 62))
      show World.ownsRow _ _ _ _ _ (regsOf N2 y.args).length _
      rw [regsOf_length HLe.out.1]
      exact h9)
    (by rw [HN.out]; exact hown7) (by rw [HN.out]; exact hgr7)
    ⟨by have := HYI.out; rw [HKb.out] at this; exact this, zero_in, (show InR (-1) from ⟨by decide, by decide⟩), fun z hz => by
      unfold regsOf at hz
      rcases List.mem_append.1 hz with hz | hz
      · exact HYN.out z hz
      · rw [(List.mem_replicate.1 hz).2]; exact zero_in⟩)
  have HOB7 := Lib.hid ((HOB5.out.mono hE6).grew hgr7 HROW.out (by rw [← HN.out]; exact List.mem_cons_of_mem _ (List.mem_cons_of_mem _ (List.mem_cons_of_mem _ List.mem_cons_self))))
  have hmk := HWK.out.mask
  have hwr : IntKind.i64.wrap (t.mask + 1) = t.mask + 1 := IntWalk.i64_in _ (by omega)
  have m7 : w7.cell? ⟨w.heap.size + 1, 7, none⟩ = some (.slice AF N cF) := R7 7 _ rfl
  have m9 : w7.cell? ⟨w.heap.size + 1, 9, none⟩ = some (Value.int .i64 t.mask) := R7 9 _ rfl
  have f7 : w7.frozen? ⟨w.heap.size + 1, 7, none⟩ = false := (S7 7 (by omega)).2
  have f9 : w7.frozen? ⟨w.heap.size + 1, 9, none⟩ = false := (S7 9 (by omega)).2
  refine hK.out _ _ ?_ (fun hHeld => ?_)
  · exact ⟨m7, far7 zw6 (hneV _ (.inl (by omega))) (he6.cell s1), far7 zH6 (hneV _ (.inr (Nat.le_refl _))) (he6.cell s2), far7 zH6 (hneV _ (.inr (Nat.le_refl _))) (he6.cell s3), far7 zb6 (hneV _ (.inl (by omega))) (he6.cell s4), far7 zb6 (hneV _ (.inl (by omega))) (he6.cell s5), far7 zb6 (hneV _ (.inl (by omega))) (he6.cell s6), far7 zb6 (hneV _ (.inl (by omega))) (he6.cell s7), far7 zb6 (hneV _ (.inl (by omega))) (he6.cell s8), far7 zb6 (hneV _ (.inl (by omega))) (he6.cell s9)⟩
  clear hK K
  (try simp only [Act.put, List.setIfInBounds_toArray, List.set_cons_zero, List.set_cons_succ])
  (refine tht 16 hT ?_; (try simp only [Act.put, aset, dZ, dS]))
  refine th_done (by kernel_rfl) ?_
  simp only [List.drop_succ_cons, List.drop_zero]
  clear hHeld far7 there7 hc6 hf6 s0 s1 s2 s3 s4 s5 s6 s7 s8 s9 R5 T5 U5 S5 H5 HOF5 HOB5 hT HROW hown66
  go_upto_region 14 with fail
  refine wp_hid2 ?_
  intro W9 HW9
  have R9 : W9.rangeAt (w.heap.size + 1) 0 [Value.int .i64 t.fn, Value.int .i64 t.scope, Value.int .i64 t.prio, Value.int .i64 1, Value.int .i64 t.wkind, Value.int .i64 t.windex, .bool t.wagain, .slice (some ⟨g7, 0, none⟩) (N + 1) cap7, .slice (some ⟨gB, 0, none⟩) t.blocks.length cB, Value.int .i64 (t.mask + 1), .bool t.unw, Value.int .i64 t.level, Value.int .i64 t.reason, Value.int .i64 t.result] := by
    rw [HW9.out]; exact range_same (k := 9) (u := Value.int .i64 (t.mask + 1)) (range_same (k := 7) (u := .slice (some ⟨g7, 0, none⟩) (N + 1) cap7) R7)
  have H9 : W9.rangeAt W3.heap.size 0 [Value.int .i64 (kb : Int), .slice Aa na ca] := by rw [HW9.out]; exact range_other (range_other H7 (by show ¬ w.heap.size + 1 = W3.heap.size; omega)) (by show ¬ w.heap.size + 1 = W3.heap.size; omega)
  have T9 : W9.there (w.heap.size + 1 + 1) 0 14 := by rw [HW9.out]; exact there_set (there_set T7)
  have U9 : W9.there (w.heap.size + 1 + 1 + 1) 0 2 := by rw [HW9.out]; exact there_set (there_set U7)
  have G9 : w7.grownBy W9 (some (w.heap.size + 1)) := by rw [HW9.out]; exact World.grownBy.trans (grown_setCell w7 ⟨w.heap.size + 1, 7, none⟩ _) (grown_setCell _ ⟨w.heap.size + 1, 9, none⟩ _)
  have HE9 : Hid (Ext w W9) := by rw [Hid, HW9.out]; exact (hE7.out.setCell (Nat.le_succ _) _).setCell (Nat.le_succ _) _
  have HOF9 := Lib.hid (HOF7.out.far G9 (by omega))
  have HOB9 := Lib.hid (HOB7.out.wrote G9 (own_ne HOB7.out.row (by omega)) (HOB7.out.hnds_far (by omega)) List.mem_cons_self rfl)
  have hz9 : W3.heap.size < W9.heap.size := lt_of_cell (H9 0 _ rfl)
  have HRS9 := Lib.hid (HRS.out.back HE5.out HE9.out HLow.out)
  clear HW9 G9 HOF7 HOB7 R7 T7 U7 S7 H7 m7 m9 f7 f9 hown7 hgr7 hE7
  refine wp_region_th 3 (fun W' => W'.rangeAt (w.heap.size + 1) 0 [Value.int .i64 t.fn, Value.int .i64 t.scope, Value.int .i64 t.prio, Value.int .i64 1, Value.int .i64 t.wkind, Value.int .i64 t.windex, .bool t.wagain, .slice (some ⟨g7, 0, none⟩) (N + 1) cap7, .slice (some ⟨gB, 0, none⟩) t.blocks.length cB, Value.int .i64 (t.mask + 1), .bool t.unw, Value.int .i64 t.level, Value.int .i64 t.reason, Value.int .i64 t.result] ∧ W'.rangeAt W3.heap.size 0 [Value.int .i64 (kb : Int), .slice Aa na ca]) (by kernel_rfl) (by kernel_rfl) (by kernel_rfl) (by kernel_rfl) (by decide) ?_ ?_
  · exact ⟨range_drew R9, range_drew H9⟩
  intro hT hHeld
  (refine th_take (i := 0) (oi := ?oi0_1) (v := ?v0_1) hT ?hi0_1 (by decide) (by kernel_rfl) (by kernel_rfl) ?hq0_1 (Or.inl ⟨?hw0_1, ?hy0_1⟩) (by assumption) ?rest0_1; (case hi0_1 => (simp only [List.getElem?_toArray, List.getElem?_cons_zero, List.getElem?_cons_succ]; rfl)); (case hw0_1 => rfl); (case hy0_1 => (intro w' hSw; refine Eq.trans (exec_load_mid 32 _ (by rfl) (w.heap.size + 1) 0 (by rfl) _ _ Tryz.underlying32 (by rfl) ?hiL0_1 w' (hSw.1)) ?eqL0_1; (case eqL0_1 => with_reducible rfl); exact infoTsk)); (case hq0_1 => (exact fun _ _ _ h => h)); (try simp only [Act.put, aset, dZ, dS]))
  (refine th_take (i := 1) (oi := ?oi1_2) (v := ?v1_2) hT ?hi1_2 (by decide) (by kernel_rfl) (by kernel_rfl) ?hq1_2 (Or.inl ⟨?hw1_2, ?hy1_2⟩) (by assumption) ?rest1_2; (case hi1_2 => (simp only [List.getElem?_toArray, List.getElem?_cons_zero, List.getElem?_cons_succ]; rfl)); (case hw1_2 => rfl); (case hy1_2 => (intro w' hSw; refine Eq.trans (exec_load_mid 58 _ (by rfl) W3.heap.size 0 (by rfl) _ _ Tryz.underlying58 (by rfl) ?hiL1_2 w' (hSw.2)) ?eqL1_2; (case eqL1_2 => with_reducible rfl); exact infoHdl2)); (case hq1_2 => (exact fun _ _ _ h => h)); (try simp only [Act.put, aset, dZ, dS]))
  refine tst 2 (fun K hK => ?_)
  have T10 : W9.drew.there (w.heap.size + 1 + 1) 0 14 := there_drew T9
  have U10 : W9.drew.there (w.heap.size + 1 + 1 + 1) 0 2 := there_drew U9
  rw [if_pos (by rfl)]
  refine wp_store_mid _ _ _ rfl _ _ (List.toArray _) rfl rfl T10 infoTsk (all_oneCell_toArray (by simp [Value.oneCell'])) ?_
  refine hK.out _ _ ⟨range_out hHeld.1 (by omega), range_out hHeld.2 (by omega)⟩ (fun hHeld => ?_)
  clear hK K
  (try simp only [Act.put, List.setIfInBounds_toArray, List.set_cons_zero, List.set_cons_succ])
  refine th_done (by kernel_rfl) ?_
  simp only [List.drop_succ_cons, List.drop_zero]
  go_wp2_with ((with_reducible show wpList _ _ _ ({ dst := _, op := Op.store 58 _ _, type := _, pos := _, after := _, guard := none } :: _) _ _); refine wpList_store_mid rfl 58 _ _ rfl _ _ _ rfl rfl (by exact tr) infoHdl2 (all_oneCell_toArray (by simp [Value.oneCell'])) ?_; (try dsimp only [Act.put]))
  have hd : Ext W9 W9.drew := (Ext.refl _).drew
  have hfin : ∀ cs cs2 : List Value, OFr w.heap.size ((W9.drew.setCells (w.heap.size + 1 + 1) 0 cs).setCells (w.heap.size + 1 + 1 + 1) 0 cs2) (handleT t b y g).frames (.slice (some ⟨g7, 0, none⟩) (N + 1) cap7) (rs ++ [.slice (some ⟨g6, 0, none⟩) N2 N2]) ∧
      ∀ L, Low w L → OBl w.heap.size ((W9.drew.setCells (w.heap.size + 1 + 1) 0 cs).setCells (w.heap.size + 1 + 1 + 1) 0 cs2) (handleT t b y g).blocks (.slice (some ⟨gB, 0, none⟩) t.blocks.length cB) (hs0.set (t.blocks.length - 1) (.slice (some ⟨g4, 0, none⟩) (b.handlers.length - 1) c4)) (gs.set (t.blocks.length - 1) (a4.take (b.handlers.length - 1))) L := fun cs cs2 => by
    have hF := ((HOF9.out.mono hd).far (setCells_grown (w.heap.size + 1 + 1) cs 0 _) (by omega)).far (setCells_grown (w.heap.size + 1 + 1 + 1) cs2 0 _) (by omega)
    have hB1 := (HOB9.out.mono hd).wrote (setCells_grown (w.heap.size + 1 + 1) cs 0 _) (own_ne HOB9.out.row (by omega)) (HOB9.out.hnds_far (by omega)) (List.mem_cons_of_mem _ List.mem_cons_self) rfl
    have hB2 := hB1.wrote (setCells_grown (w.heap.size + 1 + 1 + 1) cs2 0 _) (own_ne hB1.row (by omega)) (hB1.hnds_far (by omega)) (List.mem_cons_of_mem _ (List.mem_cons_of_mem _ List.mem_cons_self)) rfl
    refine ⟨?_, fun L hL => (hB2.relist ((HOB.out L hL).allArgs.cut HB.out HA4.out)).base (by omega)⟩
    unfold handleT
    rw [HKb.out, HN2.out, Int.toNat_natCast]
    exact hF.base (by omega)
  have hEf : ∀ cs cs2 : List Value, Ext w ((W9.drew.setCells (w.heap.size + 1 + 1) 0 cs).setCells (w.heap.size + 1 + 1 + 1) 0 cs2) := fun cs cs2 => ((HE9.out.trans hd).setCells (by omega) 0 cs).setCells (by omega) 0 cs2
  refine ret_range4 (b := w.heap.size + 1 + 1) (b2 := w.heap.size + 1 + 1 + 1) Tryz.results28 rfl rfl rfl rfl ?hlb ?hl2b (ranges_two (by omega) ?t1b ?t2b).1 (ranges_two (by omega) ?t3b ?t4b).2 ?finb
  case hlb => rfl
  case hl2b => rfl
  case t1b => exact T10
  case t2b => exact U10
  case t3b => exact T10
  case t4b => exact U10
  case finb =>
    rw [HR.out]
    refine .inr ⟨_, _, _, _, _, Aa, na, ca, ?_, (hfin _ _).1, (hfin _ _).2, fun P hP => ⟨AllArgs.cut (HOA.out P hP) HB.out HA4.out, HOA.out P hP _ b a4 HB.out HA4.out _ y _ HY.out HAV.out⟩, HRS9.out.back HE9.out (hEf _ _) HLow.out, hnca, HYI.out, hEf _ _⟩
    rw [HKb.out]
    unfold tskV handleT
    dsimp only
    rw [HSt.out]
    rfl
theorem HandPostA.post {p : Prg} {t : Tsk} {VT : Value} {w w' : World} {e : Ending} (hc : tcheckS p t = 0) (hst : t.status = 1) (hi : inHand t = false) (hI : InR t.fn ∧ InR t.scope ∧ InR t.prio ∧ InR t.status ∧ InR t.wkind ∧ InR t.windex ∧ InR t.mask ∧ InR t.level ∧ InR t.reason ∧ InR t.result) (h : HandPostA (handleS p t) t VT w e w') : HandPost (handleS p t) w e w' := by
  obtain ⟨VF, VB, rs, hs, gs, A, n, c, h1, h2, h3, _, h5, h6, h7, h8⟩ := h
  have hlv := liv_ok (live_ok hc (by omega))
  have hwk := hlv.wk (tcheck_check hc)
  obtain ⟨hn, hI2⟩ := hand_wk hc hst hi (by have := hlv.mask; unfold leastI at this; unfold mostI at this; rw [hi] at this; exact this) hI hwk
  obtain ⟨Af, cf, rfl, hcf, hF⟩ := h2.reads (by have := hn.1; omega) (fun f hf => by have := hn.2.1 f hf; omega)
  obtain ⟨Ab, cb, rfl, hcb, hB⟩ := (h3 [] (low_nil _)).reads (by have := hn.2.2.1; omega) (fun b hb => by have := hn.2.2.2 b hb; omega)
  exact ⟨_, A, n, c, h1, rtsk_of hI2 hF hcf hB hcb, ⟨h5, h6⟩, h7, h8⟩
theorem Handle_go (p : Prg) (t : Tsk) (VP VT : Value) (w : World) (hP : RPrg w p VP) (hT : RTsk w t VT) (hc : tcheckS p t = 0) (hst : t.status = 1) (hi : inHand t = false) : Calls Tryz.prog 28 #[VP, VT] w (HandPost (handleS p t) w) :=
  (Handle_args p t VP VT w hP hT hc hst hi).mono fun e w' h => h.elim (fun h => h.2) (fun h => h.post hc hst hi hT.inr)
theorem Handle_any (p : Prg) (t : Tsk) (VP VT : Value) (w : World) (hP : RPrg w p VP) (hT : RTsk w t VT) : Calls Tryz.prog 28 #[VP, VT] w (HandPost (handleS p t) w) := by
  by_cases hc : tcheckS p t = 0
  · by_cases hst : t.status = 1
    · cases hi : inHand t with
      | false => exact Handle_go p t VP VT w hP hT hc hst hi
      | true => exact Handle_state p t VP VT w hP hT hc (.inr hi)
    · exact Handle_state p t VP VT w hP hT hc (.inl hst)
  · exact Handle_bad p t VP VT w hP hT hc
end Go.Proofs.YtcjjoabofecjmaaGreat
