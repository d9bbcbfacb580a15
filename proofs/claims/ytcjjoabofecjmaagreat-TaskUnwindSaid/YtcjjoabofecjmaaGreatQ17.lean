/- A part of the proof: How run ends; Visible of package program; run of a runner. -/
import Derived.Test.YtcjjoabofecjmaaGreatQ16
import Derived.Test.YtcjjoabofecjmaaGreatQ05
import Derived.Test.YtcjjoabofecjmaaGreatQ08
import Derived.Test.YtcjjoabofecjmaaGreatQ04
import Derived.Deep.CutRange
set_option linter.unusedVariables false
set_option linter.unusedSimpArgs false
namespace Go.Proofs.YtcjjoabofecjmaaGreat
open Go.RowKit Go.Sort
theorem infoStop : (Tryz.prog.info? 49).map (·.size) = some 3 := by kernel_rfl
theorem run_leaves {S : Nat} {tmps : Array Value} {w : World} {R : Ending → World → Prop} {a b c : Int} (h2 : tmps[2]? = some (.pointer (some ⟨S, 0, none⟩))) (hR : w.rangeAt S 0 [Value.int .i64 a, Value.int .i64 b, Value.int .i64 c]) (h : R (.returned (.agg #[Value.int .i64 a, Value.int .i64 b, Value.int .i64 c])) w) : Leaves Tryz.prog Tryz.f67 tmps R [] .returning w := by
  refine ⟨_, ?_, h⟩
  simp [results, Tryz.results67, h2, asAddr, run_loadVar_mid w S 0 49 _ _ hR Tryz.underlying49 rfl (by rw [infoStop]; rfl)]
theorem StopAt.some {w : World} {S : Nat} (h : StopAt w S) {o : Nat} (ho : o < 3) : (w.cell? ⟨S, o, none⟩).isSome := by rw [h.cell ho]; rfl
theorem range3 {w : World} {S : Nat} {a b c : Int} (h0 : w.cell? ⟨S, 0, none⟩ = some (Value.int .i64 a)) (h1 : w.cell? ⟨S, 1, none⟩ = some (Value.int .i64 b)) (h2 : w.cell? ⟨S, 2, none⟩ = some (Value.int .i64 c)) : w.rangeAt S 0 [Value.int .i64 a, Value.int .i64 b, Value.int .i64 c] := fun j v hj => by
  rw [Nat.zero_add]
  match j, hj with
  | 0, hj => rw [h0, ← hj]; rfl
  | 1, hj => rw [h1, ← hj]; rfl
  | 2, hj => rw [h2, ← hj]; rfl
theorem StopAt.set3 {w : World} {S : Nat} (h : StopAt w S) (a b c : Int) : (((w.setCell ⟨S, 0, none⟩ (Value.int .i64 a)).setCell ⟨S, 1, none⟩ (Value.int .i64 b)).setCell ⟨S, 2, none⟩ (Value.int .i64 c)).rangeAt S 0 [Value.int .i64 a, Value.int .i64 b, Value.int .i64 c] := by
  have c0 := h.cell (o := 0) (by omega)
  have c1 := h.cell (o := 1) (by omega)
  have c2 := h.cell (o := 2) (by omega)
  refine range3 ?_ ?_ ?_ <;> simp [cell?_setCell_if, c0, c1, c2]
theorem set3_kept {B S : Nat} {w0 w : World} (hk : Kept B w0 w) (hS : StopAt w S) (hn : w0.heap.size ≤ S) (hB : B ≤ S) (a b c : Int) : Kept B w0 (((w.setCell ⟨S, 0, none⟩ (Value.int .i64 a)).setCell ⟨S, 1, none⟩ (Value.int .i64 b)).setCell ⟨S, 2, none⟩ (Value.int .i64 c)) := by
  refine ⟨Below.setCell (Below.setCell (Below.setCell hk.below hB _) hB _) hB _, fun i o h1 h2 => ?_⟩
  have hi : i ≠ S := by have := (Array.getElem?_eq_some_iff.1 h1).1; omega
  rw [Below.heap_setCell _ _ _ _ hi, Below.heap_setCell _ _ _ _ hi, Below.heap_setCell _ _ _ _ hi]
  exact hk.cold i o h1 h2
def StopB (w : World) (S : Nat) : Prop := ∃ cur, w.heap[S]? = some (.cells cur 49 (0, 0))
theorem StopAt.b {w : World} {S : Nat} (h : StopAt w S) : StopB w S := ⟨_, h⟩
theorem StopB.setCell {w : World} {S : Nat} (h : StopB w S) (p : Addr) (v : Value) : StopB (w.setCell p v) S := by
  obtain ⟨cur, h⟩ := h
  by_cases hp : S = p.block
  · subst hp
    refine ⟨if p.spot.isSome then cur else cur.setIfInBounds p.off v, ?_⟩
    simp only [World.setCell, Array.getElem?_modify, if_true, h]
    rfl
  · exact ⟨cur, (Below.heap_setCell _ _ _ _ hp).trans h⟩
theorem row_ne_stop {w : World} {B S : Nat} {e : TypeId} {sz : Nat} {v : Value} {n : Nat} {xs : List Value} (h : w.ownsRow B e sz v n xs) (hS : StopB w S) (he : e ≠ 49) : v.ownBlock = none ∨ v.ownBlock ≠ some S := by
  cases hv : v.ownBlock with
  | none => exact .inl rfl
  | some x =>
    refine .inr fun e' => ?_
    injection e' with e'
    subst e'
    obtain ⟨cur, hc⟩ := ownsRow_type h hv
    obtain ⟨cur', hc'⟩ := hS
    rw [hc] at hc'
    injection hc' with hc'
    injection hc' with _ ht
    exact he ht
theorem RunSt.stop_set {X : List Value} {B R : Nat} {P3 : List Value} {w : World} {t : Tsk} {n : Int} {VF VB : Value} {rs hs : List Value} {gs : List (List Value)} (h : RunSt X B R P3 w t n VF VB rs hs gs) (hX : boxV (R + 1) ∈ X) (hS : StopB w (R + 1)) (o : Nat) (v : Value) : RunSt X B R P3 (w.setCell ⟨R + 1, o, none⟩ v) t n VF VB rs hs gs := by
  have hg : w.grownBy (w.setCell ⟨R + 1, o, none⟩ v) (some (R + 1)) := grown_setCell _ _ _
  refine ⟨h.three, h.box.kept hg (row_ne_stop h.box hS (by decide)), h.fr.kept hg (row_ne_stop h.fr.row hS (by decide)) (fun u hu => by obtain ⟨m, xs, hh⟩ := h.rs_row hu; exact row_ne_stop hh hS (by decide)), h.bl.wrote hg (row_ne_stop h.bl.row hS (by decide)) (fun u hu => by obtain ⟨m, xs, hh⟩ := h.hs_row hu; exact row_ne_stop hh hS (by decide)) (u := boxV (R + 1)) ?_ rfl, by rw [World.size_setCell]; exact h.lt1⟩
  exact List.mem_cons_of_mem _ (List.mem_cons_of_mem _ (List.mem_cons_of_mem _ (List.mem_append_right _ (List.mem_append_right _ hX))))
theorem RunSt.stop_set3 {X : List Value} {B R : Nat} {P3 : List Value} {w : World} {t : Tsk} {n : Int} {VF VB : Value} {rs hs : List Value} {gs : List (List Value)} (h : RunSt X B R P3 w t n VF VB rs hs gs) (hX : boxV (R + 1) ∈ X) (hS : StopAt w (R + 1)) (a b c : Int) : RunSt X B R P3 (((w.setCell ⟨R + 1, 0, none⟩ (Value.int .i64 a)).setCell ⟨R + 1, 1, none⟩ (Value.int .i64 b)).setCell ⟨R + 1, 2, none⟩ (Value.int .i64 c)) t n VF VB rs hs gs :=
  ((h.stop_set hX hS.b 0 _).stop_set hX (hS.b.setCell _ _) 1 _).stop_set hX ((hS.b.setCell _ _).setCell _ _) 2 _
def runDefers (R : Nat) : List Deferred := [{ target := Target.fn (Fn.func 91) #[.pointer (some ⟨R + 1, 0, none⟩)], args := #[] }]
theorem run_panics {X : List Value} {B R : Nat} {P3 : List Value} {w w' : World} {r : Tsk × Stp} {n : Int} {VF VB : Value} {rs hs : List Value} {gs : List (List Value)} {tmps : Array Value} {ch : List PanicEntry} (h2 : tmps[2]? = some (.pointer (some ⟨R + 1, 0, none⟩))) (hX : boxV (R + 1) ∈ X) (hst : RunSt X B R P3 w' r.1 n VF VB rs hs gs)
    (hk : Kept B w w') (hS : StopAt w' (R + 1)) (hw : w.heap.size ≤ R + 1) (hB : B ≤ R + 1) (he : Ending.panicked ch = endOf r.2) (hv : r.2.kind = 3 → r.2.value = 0) :
    bodyPostD Tryz.prog Tryz.f67 (RunPost X B R P3 w r) (Exit.panic ch) { tmps := tmps, defers := runDefers R } w' := by
  show Leaves _ _ _ _ _ _ _
  unfold endOf at he
  split at he
  · cases he
  split at he
  · rename_i h3
    injection he with he
    subst he
    refine leaves_cons (f := 91) (args := #[.pointer (some ⟨R + 1, 0, none⟩)]) (by simp) (by simp [go_sem]) ?_
    refine (catch_failure (R + 1) r.2.reason [] w' (hS.some (by omega)) (hS.some (by omega)) (hS.some (by omega)) hS.frozen).mono ?_
    rintro e u' w'' ⟨rfl, rfl, rfl⟩
    show Leaves _ _ _ _ [] .returning _
    refine run_leaves h2 (hS.set3 _ _ _) ⟨?_, ⟨_, _, _, _, _, _, hst.stop_set3 hX hS _ _ _⟩, set3_kept hk hS hw hB _ _ _⟩
    unfold stopA
    rw [h3, hv h3]
  · injection he with he
    subst he
    refine leaves_cons (f := 91) (args := #[.pointer (some ⟨R + 1, 0, none⟩)]) (by simp) (by simp [go_sem]) ?_
    refine (catch_stopped (R + 1) r.2.kind r.2.reason r.2.value [] w' (hS.some (by omega)) (hS.some (by omega)) (hS.some (by omega)) hS.frozen (hst.lt1 _ hX _ rfl)).mono ?_
    rintro e u' w'' ⟨rfl, rfl, rfl⟩
    show Leaves _ _ _ _ [] .returning _
    have hE := (Ext.refl (((w'.setCell ⟨R + 1, 0, none⟩ (Value.int .i64 r.2.kind)).setCell ⟨R + 1, 1, none⟩ (Value.int .i64 r.2.reason)).setCell ⟨R + 1, 2, none⟩ (Value.int .i64 r.2.value))).alloc (.cells #[Value.int .i64 r.2.kind, Value.int .i64 r.2.reason, Value.int .i64 r.2.value] 123)
    have hk3 := set3_kept hk hS hw hB r.2.kind r.2.reason r.2.value
    have hs0 := hst.lt1 _ hX _ rfl
    have hbx := hst.lt
    refine run_leaves h2 (range_ext (hS.set3 _ _ _) hE) ⟨rfl, ⟨_, _, _, _, _, _, (hst.stop_set3 hX hS _ _ _).mono hE⟩, Kept.trans hk3 (Kept.mono hE (by simp only [World.size_setCell]; omega))⟩
theorem run_returns {X : List Value} {B R : Nat} {P3 : List Value} {w w' : World} {r : Tsk × Stp} {n : Int} {VF VB : Value} {rs hs : List Value} {gs : List (List Value)} {tmps : Array Value} (h2 : tmps[2]? = some (.pointer (some ⟨R + 1, 0, none⟩))) (hX : boxV (R + 1) ∈ X) (hst : RunSt X B R P3 w' r.1 n VF VB rs hs gs)
    (hk : Kept B w w') (hS : StopAt w' (R + 1)) (hw : w.heap.size ≤ R + 1) (hB : B ≤ R + 1) :
    bodyPostD Tryz.prog Tryz.f67 (RunPost X B R P3 w r) Exit.ret { tmps := tmps, defers := runDefers R } (((w'.setCell ⟨R + 1, 0, none⟩ (Value.int .i64 r.2.kind)).setCell ⟨R + 1, 1, none⟩ (Value.int .i64 r.2.reason)).setCell ⟨R + 1, 2, none⟩ (Value.int .i64 r.2.value)) := by
  show Leaves _ _ _ _ _ _ _
  refine leaves_cons (f := 91) (args := #[.pointer (some ⟨R + 1, 0, none⟩)]) (by simp) (by simp [go_sem]) ?_
  refine (catch_idle (R + 1) _).mono ?_
  rintro e u' w'' ⟨rfl, rfl, rfl⟩
  show Leaves _ _ _ _ [] .returning _
  exact run_leaves h2 (hS.set3 _ _ _) ⟨rfl, ⟨_, _, _, _, _, _, hst.stop_set3 hX hS _ _ _⟩, set3_kept hk hS hw hB _ _ _⟩
theorem RPrg.ins_in {w : World} {p : Prg} {V : Value} (h : RPrg w p V) {i : Int} {g : Fnc} (hg : fnAt p i = some g) {k : Nat} {x : Ins} (hx : g.code[k]? = some x) : InR x.b := by
  obtain ⟨Af, nf, cf, Ao, no, co, Av, nv, cv, rfl, hF, _⟩ := h
  obtain ⟨b, off, Ac, nc, cc, _, _, _, _, _, _, ⟨hC, _⟩, _⟩ := hF.fnc (fnAt_some hg).2.2
  obtain ⟨b3, off3, Ax, nx, cx, _, _, _, _, i3, _⟩ := hC.ins hx
  exact i3
theorem end_zero {s : Stp} {v : Value} (h : Ending.returned v = endOf s) : s.kind = 0 := by
  unfold endOf at h
  split at h
  · assumption
  · split at h <;> cases h
theorem end_some {s : Stp} {ch : List PanicEntry} (h : Ending.panicked ch = endOf s) : ¬ s.kind = 0 := fun h0 => by
  unfold endOf at h
  rw [if_pos h0] at h
  cases h
def Bare (r : Tsk × Stp) : Prop := r.2.kind = 3 → r.2.value = 0
theorem bare_fail (t : Tsk) (r : Int) : Bare (failT t r) := fun _ => rfl
theorem bare_write (t : Tsk) (f : Frm) (i v : Int) : Bare (writeS t f i v) := by unfold writeS; split; exact fun _ => rfl; exact bare_fail _ _
theorem bare_give (t : Tsk) (f : Frm) (v : Int) : Bare (giveS t f v) := by
  unfold giveS
  split
  · exact fun _ => rfl
  split
  · exact fun h => absurd h (by show ¬ (2 : Int) = 3; decide)
  split
  · split
    · exact bare_fail _ _
    · exact fun _ => rfl
  · exact bare_fail _ _
theorem bare_exec (p : Prg) (t : Tsk) (f : Frm) (x : Ins) (hop : 1 ≤ x.op ∧ x.op ≤ 21) : Bare (execS p t f x) := by
  refine exec_cases (motive := Bare) hop (fun _ => bare_write _ _ _ _) (fun _ => bare_write _ _ _ _) (fun _ => bare_write _ _ _ _) (fun _ _ _ => bare_fail _ _) (fun _ _ _ => bare_write _ _ _ _) (fun _ _ => rfl) (fun _ _ => rfl) (fun _ => ?_) (fun _ => bare_give _ _ _) (fun _ => ?_) (fun _ => ?_) (fun _ => ?_) (fun _ => ?_) (fun _ => ?_)
  · unfold callS; split; exact bare_fail _ _; split; exact bare_fail _ _; exact fun _ => rfl
  · unfold deferS; split; exact bare_fail _ _; split; exact bare_fail _ _; exact fun _ => rfl
  · unfold maskS; split; exact bare_fail _ _; exact fun _ => rfl
  · unfold unmaskS; split; exact bare_fail _ _; split; exact bare_fail _ _; exact fun _ => rfl
  · split; exact bare_fail _ _; exact fun _ => rfl
  · split <;> exact bare_fail _ _
end Go.Proofs.YtcjjoabofecjmaaGreat

namespace Go.Proofs.YtcjjoabofecjmaaGreat
open Go.RowKit
set_option maxRecDepth 4000 in
set_option maxHeartbeats 1000000 in
theorem visible_any (op : Int) (w : World) :
    Calls Tryz.prog 26 #[Value.int .i64 op] w fun e w' => e = .returned (.bool (visS op)) ∧ Ext w w' := by
  obtain ⟨k, hk⟩ : ∃ k, (shapeS op).isSome = k := ⟨_, rfl⟩
  have HS := Lib.hid (fun W => shapeOf_any op W)
  rw [hk] at HS
  have HR : Hid (visS op = (k && decide (30 ≤ op))) := by unfold Hid visS; rw [hk]
  clear hk
  cases k with
  | false =>
    go_enter Tryz.func26, Tryz.ntmps26
    go_wp2_with (go_at_call 72; refine (HS.out _).mono ?_; rintro e w1 ⟨rfl, hb⟩; have he := Lib.hid hb; clear hb)
    go_ret
    exact ⟨ret_bool (by rw [HR.out]; rfl), by have := he.out; exact (by repeat' (first | with_reducible assumption | with_reducible exact Ext.refl _ | with_reducible refine Ext.alloc ?_ _ | with_reducible refine Ext.drew ?_ | with_reducible refine Ext.drewN ?_ _ | with_reducible refine Ext.regrown ?_ _ _ | with_reducible refine Ext.setCell ?_ (by first | (simp; done) | (simp; omega)) _))⟩
  | true =>
    by_cases h30 : (30 : Int) ≤ op
    · go_enter Tryz.func26, Tryz.ntmps26
      go_wp2_with (go_at_call 72; refine (HS.out _).mono ?_; rintro e w1 ⟨rfl, hb⟩; have he := Lib.hid hb; clear hb)
      go_ret
      exact ⟨ret_bool (by rw [HR.out]; simp [h30]), by have := he.out; exact (by repeat' (first | with_reducible assumption | with_reducible exact Ext.refl _ | with_reducible refine Ext.alloc ?_ _ | with_reducible refine Ext.drew ?_ | with_reducible refine Ext.drewN ?_ _ | with_reducible refine Ext.regrown ?_ _ _ | with_reducible refine Ext.setCell ?_ (by first | (simp; done) | (simp; omega)) _))⟩
    · go_enter Tryz.func26, Tryz.ntmps26
      go_wp2_with (go_at_call 72; refine (HS.out _).mono ?_; rintro e w1 ⟨rfl, hb⟩; have he := Lib.hid hb; clear hb)
      go_ret
      exact ⟨ret_bool (by rw [HR.out]; simp [h30]), by have := he.out; exact (by repeat' (first | with_reducible assumption | with_reducible exact Ext.refl _ | with_reducible refine Ext.alloc ?_ _ | with_reducible refine Ext.drew ?_ | with_reducible refine Ext.drewN ?_ _ | with_reducible refine Ext.regrown ?_ _ _ | with_reducible refine Ext.setCell ?_ (by first | (simp; done) | (simp; omega)) _))⟩
end Go.Proofs.YtcjjoabofecjmaaGreat

namespace Go.Proofs.YtcjjoabofecjmaaGreat
open Go.RowKit Go.Sort
set_option maxRecDepth 8000 in
set_option maxHeartbeats 4000000 in
theorem run_any {p : Prg} {X : List Value} {B R : Nat} {P3 : List Value} {w : World} {t : Tsk} {VF VB : Value} {rs hs : List Value} {gs : List (List Value)} (hX : boxV (R + 1) ∈ X) (hRS : w.heap.size = R + 1) (hBR : B ≤ R) (h : ∀ W, Ext w W → R + 1 < W.heap.size → RunSt X B R P3 W t 0 VF VB rs hs gs) (hr : RunOk p t) (hc : checkS p = 0) (hN : NumIn t) (u : World) (hu : Ext u w) (huB : u.heap.size ≤ B) (hP : RPrg u p (.agg P3.toArray)) :
    Calls Tryz.prog 67 #[.pointer (some ⟨R, 0, none⟩)] w (RunPost X B R P3 w (runS p 500 t 0)) := by
  have hmf : ∀ (fn : Fn) (first cap : Array Value) (w : World), (Instr.makeFunc fn first cap).run Tryz.prog w = .ok (.func fn first cap) w := fun _ _ _ _ => rfl
  obtain ⟨V0, V1, V2, rfl⟩ : ∃ V0 V1 V2, P3 = [V0, V1, V2] := by
    have h3 := (h (w.alloc (.cells #[] 0)) ((Ext.refl w).alloc _) (by simp; omega)).three
    match P3, h3 with
    | [a, b, c], _ => exact ⟨a, b, c, rfl⟩
  have hlR : R < w.heap.size := by omega
  have hBW : B ≤ w.heap.size := by omega
  have H := Lib.hid h
  have HRO := Lib.hid hr
  have hXX := Lib.hid hX
  have HN := Lib.hid hN
  have HC := Lib.hid hc
  have HU := Lib.hid hu
  have HUB := Lib.hid huB
  have HP := Lib.hid hP
  clear h hr hc hN hu huB hP hX
  obtain ⟨post, hpost⟩ : ∃ post, RunPost X B R [V0, V1, V2] w (runS p 500 t 0) = post := ⟨_, rfl⟩
  have HPost := Lib.hid hpost
  rw [hpost]
  clear hpost
  go_enter_defers Tryz.func67, Tryz.ntmps67
  go_wp2_with (go_at_call 92; refine (operations_any _).mono ?_; rintro e w1 ⟨b, rfl, hT, hb1⟩)
  have HTab := Lib.hid hT
  have HST : Hid (StopAt w1 w.heap.size) := (hb1.block _ (by simp)).trans (heap_alloc_new w _)
  have HE1 : Hid (Ext w w1) := Ext.trans (by repeat' (first | with_reducible assumption | with_reducible exact Ext.refl _ | with_reducible refine Ext.alloc ?_ _ | with_reducible refine Ext.drew ?_ | with_reducible refine Ext.drewN ?_ _ | with_reducible refine Ext.regrown ?_ _ _ | with_reducible refine Ext.setCell ?_ (by first | (simp; done) | (simp; omega)) _)) hb1
  clear hT hb1
  go_loopg [5] 500 (fun gg _ wr => ∃ (t' : Tsk) (n' : Nat) (VF' VB' : Value) (rs' hs' : List Value) (gs' : List (List Value)), Hid (RunSt X B R [V0, V1, V2] wr t' n' VF' VB' rs' hs' gs') ∧ Hid (RunOk p t') ∧ Hid (NumIn t') ∧ Hid (Tabs wr b) ∧ Hid (Kept B w wr) ∧ Hid (StopAt wr w.heap.size) ∧ Hid (runS p 500 t 0 = runS p gg t' n') ∧ Hid (2 * (200 - n') + t'.frames.length < gg ∧ n' ≤ 200))
  case atStart => exact ⟨t, 0, _, _, _, _, _, H.out _ HE1.out (by have := lt_of_cell (HST.out.cell (o := 0) (by omega)); rw [← hRS]; exact this), HRO.out, HN.out, HTab.out, Kept.mono HE1.out hBW, HST.out, rfl, ⟨by have := HRO.out.len; omega, by omega⟩⟩
  case round =>
    obtain ⟨t', n', VF', VB', rs', hs', gs', H', HR', HN', HT', HK', HS', HQ', HM'⟩ := hrel
    clear H HRO HN HTab HST HE1
    obtain ⟨f, hf⟩ := HR'.out.top
    obtain ⟨g, hg⟩ := HR'.out.fr _ f hf
    obtain ⟨kk, hkk⟩ : ∃ kk, gk = kk + 1 := ⟨gk - 1, by have := HM'.out.1; omega⟩
    subst hkk
    have HU' : Hid (Ext u wr) := Below.trans HU.out (Below.mono HK'.out.below HUB.out)
    have HCur := Lib.hid (fun W (hE : Ext wr W) => curr_any p t' f g _ _ u wr W HP.out (H'.out.rtsk HN'.out (HR'.out.wk HC.out)) (HU'.out.trans hE) hE hf hg.fn hg.pc.1)
    have HF := Lib.hid hf
    have HG := Lib.hid hg
    have R0 : Hid (wr.rangeAt R 0 [V0, V1, V2]) := fun j v hj => by rw [Nat.zero_add]; exact H'.out.cellP hj
    have R1 := Lib.hid H'.out.task
    have hlR' := H'.out.lt.2
    unfold insV at HCur
    unfold tskL at HCur R1
    clear hf hg
    go_upto_region 3 with fail
    go_cut [4, 5] from 8 to 50 (fun s4 s5 wx => ∃ (I : Nat) (A : Option Addr) (m c : Nat), s4 = .pointer (some ⟨I, 0, none⟩) ∧ s5 = .bool (nowI p t').2 ∧ Hid (Ext wr wx) ∧ Hid (wr.heap.size ≤ I) ∧ Hid (wx.rangeAt I 0 [Value.int .i64 (nowI p t').1.op, Value.int .i64 (nowI p t').1.a, Value.int .i64 (nowI p t').1.b, Value.int .i64 (nowI p t').1.c, .slice A m c]) ∧ Hid (RSl 1 RInt u A m (nowI p t').1.args))
    case first =>
      refine wp_region_noPanic ?_
      refine wp_region_th 14 (fun W' => Ext wr W') (by kernel_rfl) (by kernel_rfl) (by kernel_rfl) (by kernel_rfl) (by decide) ?_ ?_
      · exact (by repeat' (first | with_reducible assumption | with_reducible exact Ext.refl _ | with_reducible refine Ext.alloc ?_ _ | with_reducible refine Ext.drew ?_ | with_reducible refine Ext.drewN ?_ _ | with_reducible refine Ext.regrown ?_ _ _ | with_reducible refine Ext.setCell ?_ (by first | (simp; done) | (simp; omega)) _))
      intro hT hHeld
      ((refine th_take (i := 0) (oi := ?oi0_1) (v := ?v0_1) hT ?hi0_1 (by decide) (by kernel_rfl) (by kernel_rfl) ?hq0_1 (Or.inl ⟨?hw0_1, ?hy0_1⟩) (by assumption) ?rest0_1; (case hi0_1 => (simp only [List.getElem?_toArray, List.getElem?_cons_zero, List.getElem?_cons_succ]; rfl)); (case hw0_1 => rfl); (case hy0_1 => ((intro w hSw; (try dsimp only at hSw); go_simp) <;> (with_reducible rfl))); (case hq0_1 => (exact fun _ _ _ h => h)); (try simp only [Act.put, List.setIfInBounds_toArray, List.set_cons_zero, List.set_cons_succ])); (refine th_take (i := 1) (oi := ?oi1_1) (v := ?v1_1) hT ?hi1_1 (by decide) (by kernel_rfl) (by kernel_rfl) ?hq1_1 (Or.inl ⟨?hw1_1, ?hy1_1⟩) (by assumption) ?rest1_1; (case hi1_1 => (simp only [List.getElem?_toArray, List.getElem?_cons_zero, List.getElem?_cons_succ]; rfl)); (case hw1_1 => rfl); (case hy1_1 => ((intro w hSw; (try dsimp only at hSw); go_simp) <;> (with_reducible rfl))); (case hq1_1 => (exact fun _ _ _ h => h)); (try simp only [Act.put, List.setIfInBounds_toArray, List.set_cons_zero, List.set_cons_succ])); (refine th_take (i := 2) (oi := ?oi2_1) (v := ?v2_1) hT ?hi2_1 (by decide) (by kernel_rfl) (by kernel_rfl) ?hq2_1 (Or.inl ⟨?hw2_1, ?hy2_1⟩) (by assumption) ?rest2_1; (case hi2_1 => (simp only [List.getElem?_toArray, List.getElem?_cons_zero, List.getElem?_cons_succ]; rfl)); (case hw2_1 => rfl); (case hy2_1 => ((intro w hSw; (try dsimp only at hSw); go_simp) <;> (with_reducible rfl))); (case hq2_1 => (exact fun _ _ _ h => h)); (try simp only [Act.put, List.setIfInBounds_toArray, List.set_cons_zero, List.set_cons_succ])))
      (refine th_take (i := 3) (oi := ?oi3_2) (v := ?v3_2) hT ?hi3_2 (by decide) (by kernel_rfl) (by kernel_rfl) ?hq3_2 (Or.inl ⟨?hw3_2, ?hy3_2⟩) (by assumption) ?rest3_2; (case hi3_2 => (simp only [List.getElem?_toArray, List.getElem?_cons_zero, List.getElem?_cons_succ]; rfl)); (case hw3_2 => rfl); (case hy3_2 => (intro w' hSw; refine Eq.trans (exec_load_mid 26 _ (by rfl) R 0 (by rfl) _ _ Tryz.underlying26 (by rfl) ?hiL3_2 w' (range_ext R0.out hSw)) ?eqL3_2; (case eqL3_2 => with_reducible rfl); exact infoPrg)); (case hq3_2 => (exact fun _ _ _ h => h)); (try simp only [Act.put, List.setIfInBounds_toArray, List.set_cons_zero, List.set_cons_succ]))
      ((refine th_take (i := 4) (oi := ?oi4_3) (v := ?v4_3) hT ?hi4_3 (by decide) (by kernel_rfl) (by kernel_rfl) ?hq4_3 (Or.inl ⟨?hw4_3, ?hy4_3⟩) (by assumption) ?rest4_3; (case hi4_3 => (simp only [List.getElem?_toArray, List.getElem?_cons_zero, List.getElem?_cons_succ]; rfl)); (case hw4_3 => rfl); (case hy4_3 => ((intro w hSw; (try dsimp only at hSw); go_simp) <;> (with_reducible rfl))); (case hq4_3 => (exact fun _ _ _ h => h)); (try simp only [Act.put, List.setIfInBounds_toArray, List.set_cons_zero, List.set_cons_succ])); (refine th_take (i := 5) (oi := ?oi5_3) (v := ?v5_3) hT ?hi5_3 (by decide) (by kernel_rfl) (by kernel_rfl) ?hq5_3 (Or.inl ⟨?hw5_3, ?hy5_3⟩) (by assumption) ?rest5_3; (case hi5_3 => (simp only [List.getElem?_toArray, List.getElem?_cons_zero, List.getElem?_cons_succ]; rfl)); (case hw5_3 => rfl); (case hy5_3 => ((intro w hSw; (try dsimp only at hSw); go_simp) <;> (with_reducible rfl))); (case hq5_3 => (exact fun _ _ _ h => h)); (try simp only [Act.put, List.setIfInBounds_toArray, List.set_cons_zero, List.set_cons_succ])); (refine th_take (i := 6) (oi := ?oi6_3) (v := ?v6_3) hT ?hi6_3 (by decide) (by kernel_rfl) (by kernel_rfl) ?hq6_3 (Or.inl ⟨?hw6_3, ?hy6_3⟩) (by assumption) ?rest6_3; (case hi6_3 => (simp only [List.getElem?_toArray, List.getElem?_cons_zero, List.getElem?_cons_succ]; rfl)); (case hw6_3 => rfl); (case hy6_3 => ((intro w hSw; (try dsimp only at hSw); go_simp) <;> (with_reducible rfl))); (case hq6_3 => (exact fun _ _ _ h => h)); (try simp only [Act.put, List.setIfInBounds_toArray, List.set_cons_zero, List.set_cons_succ])))
      (refine th_take (i := 7) (oi := ?oi7_4) (v := ?v7_4) hT ?hi7_4 (by decide) (by kernel_rfl) (by kernel_rfl) ?hq7_4 (Or.inl ⟨?hw7_4, ?hy7_4⟩) (by assumption) ?rest7_4; (case hi7_4 => (simp only [List.getElem?_toArray, List.getElem?_cons_zero, List.getElem?_cons_succ]; rfl)); (case hw7_4 => rfl); (case hy7_4 => (intro w' hSw; refine Eq.trans (exec_load_mid 32 _ (by rfl) R 3 (by rfl) _ _ Tryz.underlying32 (by rfl) ?hiL7_4 w' (range_ext R1.out hSw)) ?eqL7_4; (case eqL7_4 => with_reducible rfl); exact infoTsk)); (case hq7_4 => (exact fun _ _ _ h => h)); (try simp only [Act.put, List.setIfInBounds_toArray, List.set_cons_zero, List.set_cons_succ]))
      (refine th_two (i := 8) (j := 12) (oi := ?oA8_5) (oj := ?oB8_5) ?hA8_5 ?hB8_5 (by decide) (by decide) (by kernel_rfl) (fun K hK => ?_) (fun K hK => ?_); (case hA8_5 => (simp only [List.getElem?_toArray, List.getElem?_cons_zero, List.getElem?_cons_succ]; rfl)); (case hB8_5 => (simp only [List.getElem?_toArray, List.getElem?_cons_zero, List.getElem?_cons_succ]; rfl)))
      · go_simp
        go_at_call 44
        refine (HCur.out _ hHeld).mono ?_
        rintro e w5 ⟨A, m, c, rfl, ⟨hX, _⟩, hb5⟩
        have HX := Lib.hid hX
        clear hX
        dsimp only
        have hE5 : Ext wr w5 := Ext.trans hHeld hb5
        have hz5 := hE5.size
        refine hK.out _ _ (Ext.trans hHeld hb5) (fun hHeld => ?_)
        clear hK K
        (try simp only [Act.put, List.setIfInBounds_toArray, List.set_cons_zero, List.set_cons_succ])
        ((refine th_take (i := 9) (oi := ?oi9_6) (v := ?v9_6) hT ?hi9_6 (by decide) (by kernel_rfl) (by kernel_rfl) ?hq9_6 (Or.inl ⟨?hw9_6, ?hy9_6⟩) (by assumption) ?rest9_6; (case hi9_6 => (simp only [List.getElem?_toArray, List.getElem?_cons_zero, List.getElem?_cons_succ]; rfl)); (case hw9_6 => rfl); (case hy9_6 => ((intro w hSw; (try dsimp only at hSw); go_simp) <;> (with_reducible rfl))); (case hq9_6 => (exact fun _ _ _ h => h)); (try simp only [Act.put, List.setIfInBounds_toArray, List.set_cons_zero, List.set_cons_succ])); (refine th_take (i := 10) (oi := ?oi10_6) (v := ?v10_6) hT ?hi10_6 (by decide) (by kernel_rfl) (by kernel_rfl) ?hq10_6 (Or.inl ⟨?hw10_6, ?hy10_6⟩) (by assumption) ?rest10_6; (case hi10_6 => (simp only [List.getElem?_toArray, List.getElem?_cons_zero, List.getElem?_cons_succ]; rfl)); (case hw10_6 => rfl); (case hy10_6 => ((intro w hSw; (try dsimp only at hSw); go_simp) <;> (with_reducible rfl))); (case hq10_6 => (exact fun _ _ _ h => h)); (try simp only [Act.put, List.setIfInBounds_toArray, List.set_cons_zero, List.set_cons_succ])); (refine th_take (i := 11) (oi := ?oi11_6) (v := ?v11_6) hT ?hi11_6 (by decide) (by kernel_rfl) (by kernel_rfl) ?hq11_6 (Or.inl ⟨?hw11_6, ?hy11_6⟩) (by assumption) ?rest11_6; (case hi11_6 => (simp only [List.getElem?_toArray, List.getElem?_cons_zero, List.getElem?_cons_succ]; rfl)); (case hw11_6 => rfl); (case hy11_6 => ((intro w hSw; (try dsimp only at hSw); go_simp) <;> (with_reducible rfl))); (case hq11_6 => (exact fun _ _ _ h => h)); (try simp only [Act.put, List.setIfInBounds_toArray, List.set_cons_zero, List.set_cons_succ])))
        (refine th_step (i := 12) (oi := ?oS12_7) ?hS12_7 (by decide) (by kernel_rfl) (fun K hK => ?_); (case hS12_7 => (simp only [List.getElem?_toArray, List.getElem?_cons_zero, List.getElem?_cons_succ]; rfl)))
        go_simp
        refine hK.out _ _ (hHeld.alloc _) (fun hHeld => ?_)
        clear hK K
        (try simp only [Act.put, List.setIfInBounds_toArray, List.set_cons_zero, List.set_cons_succ])
        (refine th_step (i := 13) (oi := ?oS13_8) ?hS13_8 (by decide) (by kernel_rfl) (fun K hK => ?_); (case hS13_8 => (simp only [List.getElem?_toArray, List.getElem?_cons_zero, List.getElem?_cons_succ]; rfl)))
        go_simp
        refine hK.out _ _ (hE5.alloc _) (fun hHeld => ?_)
        clear hK K
        (try simp only [Act.put, List.setIfInBounds_toArray, List.set_cons_zero, List.set_cons_succ])
        refine th_done (by kernel_rfl) ?_
        simp only [List.drop_succ_cons, List.drop_zero]
        go_wp2
        refine NoPanic.normal ?_
        go_wp2
        go_meet
        exact ⟨w5.heap.size, A, m, c, rfl, rfl, hE5.alloc _, hz5, (fun j v hj => by rw [Nat.zero_add, cell?_alloc_if, if_neg (Nat.lt_irrefl _), if_pos rfl]; simpa using hj), HX.out⟩
      · go_simp
        refine hK.out _ _ (hHeld.alloc _) (fun hHeld => ?_)
        clear hK K
        (try simp only [Act.put, List.setIfInBounds_toArray, List.set_cons_zero, List.set_cons_succ])
        (refine th_step (i := 8) (oi := ?oS8_9) ?hS8_9 (by decide) (by kernel_rfl) (fun K hK => ?_); (case hS8_9 => (simp only [List.getElem?_toArray, List.getElem?_cons_zero, List.getElem?_cons_succ]; rfl)))
        go_simp
        go_at_call 44
        refine (HCur.out _ (by repeat' (first | with_reducible assumption | with_reducible exact Ext.refl _ | with_reducible refine Ext.alloc ?_ _ | with_reducible refine Ext.drew ?_ | with_reducible refine Ext.drewN ?_ _ | with_reducible refine Ext.regrown ?_ _ _ | with_reducible refine Ext.setCell ?_ (by first | (simp; done) | (simp; omega)) _))).mono ?_
        rintro e w5 ⟨A, m, c, rfl, ⟨hX, _⟩, hb5⟩
        have HX := Lib.hid hX
        clear hX
        dsimp only
        have T5 := there_ext (b := wr.heap.size) (o := 0) (n := 5) (by (repeat' (first | with_reducible assumption | ((with_reducible apply there_new) <;> (simp; done)) | with_reducible apply there_old | with_reducible apply there_drew | with_reducible apply there_set | with_reducible apply there_sets | assumption))) hb5
        have F5 : ∀ o, w5.frozen? ⟨wr.heap.size, o, none⟩ = false := fun o => by rw [Below.frozen hb5 (by simp)]; simp [go_sem]
        have hE5 : Ext wr w5 := Ext.trans (by repeat' (first | with_reducible assumption | with_reducible exact Ext.refl _ | with_reducible refine Ext.alloc ?_ _ | with_reducible refine Ext.drew ?_ | with_reducible refine Ext.drewN ?_ _ | with_reducible refine Ext.regrown ?_ _ _ | with_reducible refine Ext.setCell ?_ (by first | (simp; done) | (simp; omega)) _)) hb5
        have k0 := Option.isSome_iff_exists.1 (T5 0 (by omega)).1
        have k1 := Option.isSome_iff_exists.1 (T5 1 (by omega)).1
        have k2 := Option.isSome_iff_exists.1 (T5 2 (by omega)).1
        have k3 := Option.isSome_iff_exists.1 (T5 3 (by omega)).1
        have k4 := Option.isSome_iff_exists.1 (T5 4 (by omega)).1
        simp only [Nat.zero_add] at k0 k1 k2 k3 k4
        obtain ⟨v0, k0⟩ := k0
        obtain ⟨v1, k1⟩ := k1
        obtain ⟨v2, k2⟩ := k2
        obtain ⟨v3, k3⟩ := k3
        obtain ⟨v4, k4⟩ := k4
        refine hK.out _ _ hE5 (fun hHeld => ?_)
        clear hK K
        (try simp only [Act.put, List.setIfInBounds_toArray, List.set_cons_zero, List.set_cons_succ])
        ((refine th_take (i := 9) (oi := ?oi9_10) (v := ?v9_10) hT ?hi9_10 (by decide) (by kernel_rfl) (by kernel_rfl) ?hq9_10 (Or.inl ⟨?hw9_10, ?hy9_10⟩) (by assumption) ?rest9_10; (case hi9_10 => (simp only [List.getElem?_toArray, List.getElem?_cons_zero, List.getElem?_cons_succ]; rfl)); (case hw9_10 => rfl); (case hy9_10 => ((intro w hSw; (try dsimp only at hSw); go_simp) <;> (with_reducible rfl))); (case hq9_10 => (exact fun _ _ _ h => h)); (try simp only [Act.put, List.setIfInBounds_toArray, List.set_cons_zero, List.set_cons_succ])); (refine th_take (i := 10) (oi := ?oi10_10) (v := ?v10_10) hT ?hi10_10 (by decide) (by kernel_rfl) (by kernel_rfl) ?hq10_10 (Or.inl ⟨?hw10_10, ?hy10_10⟩) (by assumption) ?rest10_10; (case hi10_10 => (simp only [List.getElem?_toArray, List.getElem?_cons_zero, List.getElem?_cons_succ]; rfl)); (case hw10_10 => rfl); (case hy10_10 => ((intro w hSw; (try dsimp only at hSw); go_simp) <;> (with_reducible rfl))); (case hq10_10 => (exact fun _ _ _ h => h)); (try simp only [Act.put, List.setIfInBounds_toArray, List.set_cons_zero, List.set_cons_succ])); (refine th_take (i := 11) (oi := ?oi11_10) (v := ?v11_10) hT ?hi11_10 (by decide) (by kernel_rfl) (by kernel_rfl) ?hq11_10 (Or.inl ⟨?hw11_10, ?hy11_10⟩) (by assumption) ?rest11_10; (case hi11_10 => (simp only [List.getElem?_toArray, List.getElem?_cons_zero, List.getElem?_cons_succ]; rfl)); (case hw11_10 => rfl); (case hy11_10 => ((intro w hSw; (try dsimp only at hSw); go_simp) <;> (with_reducible rfl))); (case hq11_10 => (exact fun _ _ _ h => h)); (try simp only [Act.put, List.setIfInBounds_toArray, List.set_cons_zero, List.set_cons_succ])))
        (refine th_step (i := 13) (oi := ?oS13_11) ?hS13_11 (by decide) (by kernel_rfl) (fun K hK => ?_); (case hS13_11 => (simp only [List.getElem?_toArray, List.getElem?_cons_zero, List.getElem?_cons_succ]; rfl)))
        go_simp
        have hF : Ext wr (w5.setCells wr.heap.size 0 [Value.int .i64 (nowI p t').1.op, Value.int .i64 (nowI p t').1.a, Value.int .i64 (nowI p t').1.b, Value.int .i64 (nowI p t').1.c, .slice A m c]) := Ext.setCells hE5 (Nat.le_refl _) 0 _
        have RF : (w5.setCells wr.heap.size 0 [Value.int .i64 (nowI p t').1.op, Value.int .i64 (nowI p t').1.a, Value.int .i64 (nowI p t').1.b, Value.int .i64 (nowI p t').1.c, .slice A m c]).rangeAt wr.heap.size 0 [Value.int .i64 (nowI p t').1.op, Value.int .i64 (nowI p t').1.a, Value.int .i64 (nowI p t').1.b, Value.int .i64 (nowI p t').1.c, .slice A m c] := World.rangeAt_setCells_same _ _ 0 _ T5
        refine hK.out _ _ hF (fun hHeld => ?_)
        clear hK K
        (try simp only [Act.put, List.setIfInBounds_toArray, List.set_cons_zero, List.set_cons_succ])
        refine th_done (by kernel_rfl) ?_
        simp only [List.drop_succ_cons, List.drop_zero]
        clear hHeld T5 F5 k0 k1 k2 k3 k4
        go_wp2
        refine NoPanic.normal ?_
        go_wp2
        go_meet
        exact ⟨wr.heap.size, A, m, c, rfl, rfl, hF, Nat.le_refl _, RF, HX.out⟩
    case rest =>
      obtain ⟨I, A, m, c, rfl, rfl, HE, HI, HR, HX⟩ := hcut
      have hnow : nowI p t' = match g.code[f.pc.toNat]? with | none => (zeroIns, false) | some x => (x, true) := by
        unfold nowI nowS
        have h1 := HF.out
        unfold topF at h1
        rw [h1]
        dsimp only
        rw [HG.out.fn]
        dsimp only
        rw [if_neg (by have := HG.out.pc.1; omega)]
        cases g.code[f.pc.toNat]? <;> rfl
      have HW : Hid (RunSt X B R [V0, V1, V2] wc t' n' VF' VB' rs' hs' gs') := H'.out.mono HE.out
      have HKc : Hid (Kept B w wc) := Kept.trans HK'.out (Kept.mono HE.out (by have := H'.out.lt; omega))
      have HSc : Hid (StopAt wc (R + 1)) := by rw [← hRS]; exact HS'.out.keep (Kept.mono HE.out (Nat.zero_le _))
      obtain ⟨C3, C4, C5, C6, C7, C8, C9, C10, C11, D6, D7, HTb0⟩ := HT'.out
      have HTb : Hid (TabOk wc b C3 C4 C5 C6 C7 C8 C9 C10 C11 D6 D7) := HTb0.keep (Kept.mono HE.out (Nat.zero_le _))
      clear HTb0
      have hrun : Hid (runS p (kk + 1) t' n' = match g.code[f.pc.toNat]? with
        | none => if (giveS t' f 0).2.kind = 0 then runS p kk (giveS t' f 0).1 n' else giveS t' f 0
        | some x => if visS x.op = true then (t', ⟨1, 0, 0⟩) else if n' = 200 then failT t' 7 else if (execS p t' f x).2.kind = 0 then runS p kk (execS p t' f x).1 (n' + 1) else execS p t' f x) := by
        unfold Hid
        conv => lhs; unfold runS
        rw [HF.out]
        dsimp only
        rw [HG.out.fn]
        dsimp only
        cases g.code[f.pc.toNat]? <;> rfl
      cases hx : g.code[f.pc.toNat]? with
      | none =>
        rw [hx] at hnow hrun
        dsimp only at hnow hrun
        have HL := Lib.hid (fun W (hE : Ext wc W) => (leave_any (HW.out.mono hE) HR'.out HC.out HF.out 0 (by decide)).mono fun e w' hp => OpPost.base hp (Kept.mono hE (by have := HW.out.lt; omega)))
        have hFt := Lib.hid (fate_give HR'.out HF.out (v := 0) (by decide))
        obtain ⟨G, hG⟩ : ∃ G, giveS t' f 0 = G := ⟨_, rfl⟩
        have hBare := Lib.hid (bare_give t' f 0)
        rw [hG] at HL hrun hFt hBare
        rw [hnow]
        clear hnow hG hx HCur R1
        dsimp only
        go_wp2_with (go_at_call 93; refine (HL.out _ (by repeat' (first | with_reducible assumption | with_reducible exact Ext.refl _ | with_reducible refine Ext.alloc ?_ _ | with_reducible refine Ext.drew ?_ | with_reducible refine Ext.drewN ?_ _ | with_reducible refine Ext.regrown ?_ _ _ | with_reducible refine Ext.setCell ?_ (by first | (simp; done) | (simp; omega)) _))).mono ?_; rintro e w5 HP5; have HPo := Lib.hid HP5; rcases HP5.ends with rfl | ⟨ch, rfl⟩; all_goals clear HP5)
        · obtain ⟨VF2, VB2, rs2, hs2, gs2, hst⟩ := HPo.out.2.1
          have h0 := end_zero HPo.out.1
          have HF2 : Hid (RunOk p G.1 ∧ G.1.frames.length ≤ t'.frames.length - 1) := by
            rcases hFt.out.2 with ⟨_, h1, h2⟩ | ⟨h1, _⟩
            · exact ⟨h1, h2⟩
            · exact absurd h0 h1
          have HST := Lib.hid hst
          clear hst
          go_roundg kk
          case measure => omega
          case rel => exact ⟨G.1, n', VF2, VB2, rs2, hs2, gs2, HST.out, HF2.out.1, HN'.out.same hFt.out.1, ⟨_, _, _, _, _, _, _, _, _, _, _, HTb.out.keep HPo.out.2.2⟩, Kept.trans HKc.out HPo.out.2.2, by rw [hRS]; exact HSc.out.keep HPo.out.2.2, HQ'.out.trans (hrun.out.trans (if_pos h0)), ⟨by have := HM'.out.1; have := HF2.out.2; have := HR'.out.pos; omega, HM'.out.2⟩⟩
        · obtain ⟨VF2, VB2, rs2, hs2, gs2, hst⟩ := HPo.out.2.1
          rw [← HPost.out, HQ'.out.trans (hrun.out.trans (if_neg (end_some HPo.out.1)))]
          exact run_panics rfl hXX.out hst (Kept.trans HKc.out HPo.out.2.2) (HSc.out.keep HPo.out.2.2) (by omega) (by omega) HPo.out.1 hBare.out
      | some x =>
        rw [hx] at hnow hrun
        dsimp only at hnow hrun
        rw [hnow] at HR HX ⊢
        dsimp only at HR HX ⊢
        have HIB := Lib.hid (HP.out.ins_in HG.out.fn hx)
        have HXX := Lib.hid hx
        have HV := Lib.hid (fun W => visible_any x.op W)
        have k0 : wc.cell? ⟨I, 0, none⟩ = some (Value.int .i64 x.op) := HR.out 0 _ rfl
        have k1 : wc.cell? ⟨I, 1, none⟩ = some (Value.int .i64 x.a) := HR.out 1 _ rfl
        have k2 : wc.cell? ⟨I, 2, none⟩ = some (Value.int .i64 x.b) := HR.out 2 _ rfl
        have k3 : wc.cell? ⟨I, 3, none⟩ = some (Value.int .i64 x.c) := HR.out 3 _ rfl
        have k4 : wc.cell? ⟨I, 4, none⟩ = some (.slice A m c) := HR.out 4 _ rfl
        have s0 := HSc.out.cell (o := 0) (by omega)
        have s1 := HSc.out.cell (o := 1) (by omega)
        have s2 := HSc.out.cell (o := 2) (by omega)
        have sf := HSc.out.frozen
        have kn := HW.out.cellN
        have kf := HW.out.frozen 17
        have zI : I < wc.heap.size := lt_of_cell k0
        have zS : R + 1 < wc.heap.size := lt_of_cell s0
        have zR : R < wc.heap.size := by omega
        clear hnow hx HCur R1
        cases hv : visS x.op with
        | true =>
          rw [hv, if_pos rfl] at hrun
          rw [hv] at HV
          go_wp2_with (go_at_call 26; refine (HV.out _).mono ?_; rintro e w5 ⟨rfl, hb5⟩; have HB5 := Lib.hid hb5; obtain ⟨hc5, hf5, hs5, he5⟩ := Ext.use (w := wc) hb5 (by repeat' (first | with_reducible assumption | with_reducible exact Ext.refl _ | with_reducible refine Ext.alloc ?_ _ | with_reducible refine Ext.drew ?_ | with_reducible refine Ext.drewN ?_ _ | with_reducible refine Ext.regrown ?_ _ _ | with_reducible refine Ext.setCell ?_ (by first | (simp; done) | (simp; omega)) _)); clear hb5)
          rw [← HPost.out, HQ'.out.trans hrun.out]
          exact run_returns (r := (t', ⟨1, 0, 0⟩)) rfl hXX.out (HW.out.mono HB5.out) (Kept.trans HKc.out (Kept.mono HB5.out (by have := HW.out.lt; omega))) (HSc.out.keep (Kept.mono HB5.out (Nat.zero_le _))) (by omega) (by omega)
        | false =>
          have hv0 : visS x.op = false := hv
          rw [hv, if_neg (by decide)] at hrun
          rw [hv] at HV
          by_cases h200 : n' = 200
          · rw [if_pos h200] at hrun
            have hn2 : ((n' : Int) == 200) = true := by rw [h200]; rfl
            clear h200 hv hv0
            go_wp2_with (go_at_call 26; refine (HV.out _).mono ?_; rintro e w5 ⟨rfl, hb5⟩; have HB5 := Lib.hid hb5; obtain ⟨hc5, hf5, hs5, he5⟩ := Ext.use (w := wc) hb5 (by repeat' (first | with_reducible assumption | with_reducible exact Ext.refl _ | with_reducible refine Ext.alloc ?_ _ | with_reducible refine Ext.drew ?_ | with_reducible refine Ext.drewN ?_ _ | with_reducible refine Ext.regrown ?_ _ _ | with_reducible refine Ext.setCell ?_ (by first | (simp; done) | (simp; omega)) _)); clear hb5)
            rw [← HPost.out, HQ'.out.trans hrun.out]
            exact run_returns (r := failT t' 7) rfl hXX.out (HW.out.mono HB5.out) (Kept.trans HKc.out (Kept.mono HB5.out (by have := HW.out.lt; omega))) (HSc.out.keep (Kept.mono HB5.out (Nat.zero_le _))) (by omega) (by omega)
          · rw [if_neg h200] at hrun
            have hn2 : ((n' : Int) == 200) = false := beq_eq_false_iff_ne.2 (by omega)
            have HL2 : Hid (n' < 200) := by have := HM'.out.2; rw [Hid]; omega
            have hn200 : n' ≤ 200 := HM'.out.2
            have hwn : IntKind.i64.wrap ((n' : Int) + 1) = (n' : Int) + 1 := IntWalk.i64_in _ (by omega)
            have hFt := Lib.hid (exec_fate HC.out HR'.out HF.out HG.out HXX.out hv0)
            have hop := local_op (ins_ok ((fn_ok HC.out (fnAt_mem HG.out.fn)).ins x (List.mem_of_getElem? HXX.out))).shape hv0
            have hBare := Lib.hid (bare_exec p t' f x hop)
            have HEX := Lib.hid (fun W (hS : RunSt X B R [V0, V1, V2] W t' ((n' : Int) + 1) VF' VB' rs' hs' gs') (hU : Ext u W) (hT : TabOk W b C3 C4 C5 C6 C7 C8 C9 C10 C11 D6 D7) => exec_any hS HR'.out HC.out HN'.out u hU HUB.out HP.out HF.out HG.out x HXX.out hv0 A m c HX.out HIB.out hT)
            have HOP := Lib.hid hop
            obtain ⟨G, hG⟩ : ∃ G, execS p t' f x = G := ⟨_, rfl⟩
            rw [hG] at hrun hFt hBare HEX
            clear hG h200 hv hv0 hop
            go_wp2_with (first | (go_at_call 26; refine (HV.out _).mono ?_; rintro e w5 ⟨rfl, hb5⟩; have HB5 := Lib.hid hb5; have HN5 := Lib.hid ((HW.out.mono hb5).set_n ((n' : Int) + 1)); have HU5 : Hid (Ext u (w5.setCell ⟨R, 17, none⟩ (Value.int .i64 ((n' : Int) + 1)))) := Ext.setCell (Ext.trans HU'.out (Ext.trans HE.out hb5)) (show u.heap.size ≤ R by have := HUB.out; rw [Hid] at *; omega) _; have HK5 : Hid (Kept B wc (w5.setCell ⟨R, 17, none⟩ (Value.int .i64 ((n' : Int) + 1)))) := Kept.store (Kept.mono hb5 (by have := HW.out.lt; omega)) hBR _ HN5.out.hotR; obtain ⟨gk, lb, eV, eg, hcall⟩ := HEX.out _ HN5.out HU5.out (HTb.out.keep HK5.out); have hlk := tab_look (HTb.out.keep HK5.out) HOP.out; rw [eV] at hlk; have HCALL := Lib.hid hcall; unfold Enters at eg; obtain ⟨hc5, hf5, hs5, he5⟩ := Ext.use (w := wc) hb5 (by repeat' (first | with_reducible assumption | with_reducible exact Ext.refl _ | with_reducible refine Ext.alloc ?_ _ | with_reducible refine Ext.drew ?_ | with_reducible refine Ext.drewN ?_ _ | with_reducible refine Ext.regrown ?_ _ _ | with_reducible refine Ext.setCell ?_ (by first | (simp; done) | (simp; omega)) _)); clear hb5 hcall eV) | (go_at_fn gk; refine HCALL.out.mono ?_; rintro e w6 HP6; have HPo := Lib.hid (OpPost.base HP6 HK5.out); rcases HP6.ends with rfl | ⟨ch, rfl⟩; all_goals clear HP6))
            · obtain ⟨VF2, VB2, rs2, hs2, gs2, hst⟩ := HPo.out.2.1
              have h0 := end_zero HPo.out.1
              have HF2 : Hid (RunOk p G.1 ∧ G.1.frames.length ≤ t'.frames.length + 1) := by
                rcases hFt.out.2 with ⟨_, h1, h2⟩ | ⟨h1, _⟩
                · exact ⟨h1, h2⟩
                · exact absurd h0 h1
              have HST := Lib.hid hst
              clear hst
              go_roundg kk
              case measure => omega
              case rel => exact ⟨G.1, n' + 1, VF2, VB2, rs2, hs2, gs2, HST.out, HF2.out.1, HN'.out.same hFt.out.1, ⟨_, _, _, _, _, _, _, _, _, _, _, HTb.out.keep HPo.out.2.2⟩, Kept.trans HKc.out HPo.out.2.2, by rw [hRS]; exact HSc.out.keep HPo.out.2.2, HQ'.out.trans (hrun.out.trans (if_pos h0)), ⟨by have := HM'.out.1; have := HF2.out.2; have := HL2.out; omega, by have := HL2.out; omega⟩⟩
            · obtain ⟨VF2, VB2, rs2, hs2, gs2, hst⟩ := HPo.out.2.1
              rw [← HPost.out, HQ'.out.trans (hrun.out.trans (if_neg (end_some HPo.out.1)))]
              exact run_panics rfl hXX.out hst (Kept.trans HKc.out HPo.out.2.2) (HSc.out.keep HPo.out.2.2) (by omega) (by omega) HPo.out.1 hBare.out
end Go.Proofs.YtcjjoabofecjmaaGreat
