/- A part of the proof: Frames taken off the end of a runner's task; leave of a runn. -/
import Derived.Test.YtcjjoabofecjmaaQ16
import Derived.Test.YtcjjoabofecjmaaQ18
set_option linter.unusedVariables false
set_option linter.unusedSimpArgs false
set_option maxHeartbeats 16000000
namespace Go.Proofs.Ytcjjoabofecjmaa
open Go.RowKit Go.Sort
open Go.Value (int)
theorem own_take {w : World} {B : Nat} {e : TypeId} {sz g n c m : Nat} {xs : List Value} (h : w.ownsRow B e sz (.slice (some ⟨g,0,none⟩) n c) n xs) (hm : m ≤ n) : w.ownsRow B e sz (.slice (some ⟨g,0,none⟩) m c) m (xs.take (m * sz)) := by
 rcases h.2 with ⟨h',_⟩ | ⟨g',cap,cur,h',hb,hg,hnc,hcm,hcs,htake⟩
 ·cases h'
 ·injection h' with q1 q2 q3
  injection q1 with q1
  injection q1 with q1
  subst q1 q3
  have hle : m * sz ≤ n * sz := Nat.mul_le_mul_right sz hm
  refine ⟨by rw [List.length_take,h.1];exact Nat.min_eq_left hle,.inr ⟨g,c,cur,rfl,hb,hg,Nat.le_trans hm hnc,hcm,hcs, ?_⟩⟩
  rw [← htake,List.take_take,Nat.min_eq_left hle]
theorem rowOf_take {α : Type} {f : α → Value → List Value} {k : Nat} (hf : ∀ x v,(f x v).length = k) : ∀ {xs : List α} {vs : List Value} {m : Nat},vs.length = xs.length → (rowOf f xs vs).take (m * k) = rowOf f (xs.take m) (vs.take m)
 | [],[],m,_ => by simp [rowOf]
 | [],_ :: _,m,h => by simp at h
 | _ :: _,[],m,h => by simp at h
 | x :: xs,v :: vs,0,h => by simp [rowOf]
 | x :: xs,v :: vs,m + 1,h => by
  have := rowOf_take hf (xs := xs) (vs := vs) (m := m) (by simpa using h)
  simp only [rowOf,List.zipWith_cons_cons,List.flatten_cons,List.take_succ_cons] at this ⊢
  rw [Nat.add_mul,Nat.one_mul,Nat.add_comm,List.take_append,hf,Nat.add_sub_cancel_left,this,List.take_of_length_le (by rw [hf];omega)]
theorem OFr.take {B : Nat} {w : World} {fs : List Frm} {g c m : Nat} {rs : List Value} (h : OFr B w fs (.slice (some ⟨g,0,none⟩) fs.length c) rs) (hm : m ≤ fs.length) : OFr B w (fs.take m) (.slice (some ⟨g,0,none⟩) m c) (rs.take m) := by
 have hl : (fs.take m).length = m := by rw [List.length_take];omega
 refine ⟨by rw [List.length_take,List.length_take,h.len], ?_,fun i f v h1 h2 => ?_,fun i j v u hij h1 h2 => ?_,fun f hf => h.inr f (List.mem_of_mem_take hf)⟩
 ·rw [hl,← rowOf_take frmCells_len h.len]
  exact own_take h.row hm
 ·rw [List.getElem?_take] at h1 h2
  split at h1
  ·rw [if_pos ‹_›] at h2;exact h.reg i f v h1 h2
  ·cases h1
 ·rw [List.getElem?_take] at h1 h2
  split at h1
  ·split at h2
   ·exact h.dis i j v u hij h1 h2
   ·cases h2
  ·cases h1
theorem OBl.list {B : Nat} {w : World} {bs : List Blk} {VB : Value} {hs : List Value} {gs : List (List Value)} {L L' : List Value} (h : OBl B w bs VB hs gs L) (hL : ∀ r' ∈ L',∃ r ∈ L,r'.ownBlock = r.ownBlock) : OBl B w bs VB hs gs L' :=
 ⟨h.len,h.alen,h.row,h.hnd,fun i b a k x v e1 e2 e3 e4 => by
  obtain ⟨a1,a2,a3⟩ := h.arg i b a k x v e1 e2 e3 e4
  refine ⟨a1,a2,a3.imp id fun hh r' hr' => ?_⟩
  obtain ⟨r,hr,e⟩ := hL r' hr'
  have := hh r hr
  unfold Apart at *
  rw [e]
  exact this,h.dis,h.inr⟩
theorem RunSt.pop {X : List Value} {B R : Nat} {P3 : List Value} {w : World} {t : Tsk} {n : Int} {VB : Value} {rs hs : List Value} {gs : List (List Value)} {g c m : Nat} (h : RunSt X B R P3 w t n (.slice (some ⟨g,0,none⟩) t.frames.length c) VB rs hs gs) (hm : m ≤ t.frames.length) :
  RunSt X B R P3 (w.setCell ⟨R,10,none⟩ (.slice (some ⟨g,0,none⟩) m c)) { t with frames := t.frames.take m } n (.slice (some ⟨g,0,none⟩) m c) VB (rs.take m) hs gs := by
 obtain ⟨h4,h5⟩ := World.ownsRow.stored (g := R) (n := 1) (cap := 1) h.box 10 (.slice (some ⟨g,0,none⟩) m c)
 have hc : (P3 ++ (tskL t (.slice (some ⟨g,0,none⟩) t.frames.length c) VB ++ [int .i64 n])).set 10 (.slice (some ⟨g,0,none⟩) m c) = P3 ++ (tskL { t with frames := t.frames.take m } (.slice (some ⟨g,0,none⟩) m c) VB ++ [int .i64 n]) := by
  rw [show 10 = P3.length + 7 by rw [h.three],set_right];rfl
 rw [hc] at h4
 have hf := h.fr.kept h5 (apart_ne (apart_types h.fr.row h.box (by decide)) rfl) (fun u hu => by obtain ⟨m,xs,hh⟩ := h.rs_row hu;exact apart_ne (apart_types hh h.box (by decide)) rfl)
 have hb := h.bl.wrote h5 (apart_ne (apart_types h.bl.row h.box (by decide)) rfl) (fun u hu => by obtain ⟨m,xs,hh⟩ := h.hs_row hu;exact apart_ne (apart_types hh h.box (by decide)) rfl) List.mem_cons_self rfl
 refine ⟨h.three,h4,hf.take hm,hb.list fun r' hr' => ?_,by rw [World.size_setCell];exact h.lt1⟩
 rcases List.mem_cons.1 hr' with rfl | hr'
 ·exact ⟨_,List.mem_cons_self,rfl⟩
 rcases List.mem_cons.1 hr' with rfl | hr'
 ·exact ⟨_,List.mem_cons_of_mem _ List.mem_cons_self,rfl⟩
 rcases List.mem_cons.1 hr' with rfl | hr'
 ·exact ⟨_,List.mem_cons_of_mem _ (List.mem_cons_of_mem _ List.mem_cons_self),rfl⟩
 rcases List.mem_append.1 hr' with hr' | hr'
 ·exact ⟨r',List.mem_cons_of_mem _ (List.mem_cons_of_mem _ (List.mem_cons_of_mem _ (List.mem_append_left _ (List.mem_of_mem_take hr')))),rfl⟩
 ·exact ⟨r',List.mem_cons_of_mem _ (List.mem_cons_of_mem _ (List.mem_cons_of_mem _ (List.mem_append_right _ hr'))),rfl⟩
set_option maxRecDepth 4000 in
theorem leave_clean {X : List Value} {B R : Nat} {P3 : List Value} {w : World} {t : Tsk} {n : Int} {VF VB : Value} {rs hs : List Value} {gs : List (List Value)} (h : RunSt X B R P3 w t n VF VB rs hs gs) {f : Frm} (ht : TopOk t f) (v : Int) (hcl : f.cleanup = true) (hm : -1000 ≤ t.mask ∧ t.mask ≤ 1000) :
  Calls Try.prog 36 #[.pointer (some ⟨R,0,none⟩),int .i64 v] w (OpPost X B R P3 w (giveS t f v) n) := by
 have hwr : wr64 (t.mask - 1) = t.mask - 1 := by have := hm.1;have := hm.2;unfold wr64 wrap64;omega
 have hR : giveS t f v = ({ t with frames := t.frames.take (t.frames.length - 1),mask := t.mask - 1 },⟨4,0,0⟩) := by unfold giveS;rw [if_pos hcl,hwr]
 rw [hR]
 have hlR := h.lt.2
 have hBR := h.lt.1
 have hBW : B ≤ w.heap.size := by have := h.lt;omega
 obtain ⟨gF,cF,v',rfl,hv,hpos,hgF,⟨Av,cv,rfl,hcv⟩,c0,c1,c2,c3,c4⟩ := h.top ht.top
 have hcF : t.frames.length ≤ cF := by
  obtain ⟨A9,cF',e9,hcF,_⟩ := ownsRow_shape h.fr.row
  injection e9 with q1 q2 q3
  omega
 have m1 : w.cell? ⟨R,10,none⟩ = some (.slice (some ⟨gF,0,none⟩) t.frames.length cF) := h.cellT (j := 7) rfl
 have m2 : w.cell? ⟨R,12,none⟩ = some (int .i64 t.mask) := h.cellT (j := 9) rfl
 have f1 := h.frozen 10
 have f2 := h.frozen 12
 have hwm : IntKind.i64.wrap (t.mask - 1) = t.mask - 1 := IntWalk.i64_in _ (by have := hm.1;have := hm.2;omega)
 have H := Lib.hid h
 have HH := Lib.hid ((h.pop (m := t.frames.length - 1) (Nat.sub_le _ _)).set_mask (t.mask - 1))
 have hl := ht.len
 rw [hcl] at c4
 clear h ht hv hcl hR hm hwr
 obtain ⟨N,hN⟩ : ∃ N,t.frames.length = N := ⟨_,rfl⟩
 rw [hN] at m1 c0 c1 c2 c3 c4 hpos hl HH hcF ⊢
 have hsF : IntKind.i64.wrap ((N : Int) - 1) = ((N - 1 : Nat) : Int) := by rw [IntWalk.i64_in _ (by omega)];omega
 have hs1F : ((N - 1 : Nat) : Int) < (N : Int) := by omega
 have hs2F : (0 : Int) ≤ ((N - 1 : Nat) : Int) := by omega
 have hs3F : ((N - 1 : Nat) : Int) ≤ (cF : Int) := by omega
 clear hN
 go_enter Try.func36,Try.ntmps36
 go_wp2
 refine ⟨rfl,rfl,⟨_,_,_,_,_,HH.out.mono ?_⟩, ?_⟩
 ·exact xt
 ·exact Kept.trans (Kept.store (Kept.store (Kept.refl _ _) hBR _ (H.out.hotR.setCell _ _)) hBR _ ((H.out.hotR.setCell _ _).setCell _ _)) (Kept.mono (show Ext _ _ from xt) (by simp only [World.size_setCell];exact hBW))
theorem OBl.list2 {B : Nat} {w : World} {bs : List Blk} {VB : Value} {hs : List Value} {gs : List (List Value)} {L L' : List Value} (h : OBl B w bs VB hs gs L) (hL : ∀ r' ∈ L',(∃ r ∈ L,r'.ownBlock = r.ownBlock) ∨ (∀ x,r'.ownBlock = some x → w.heap.size ≤ x)) : OBl B w bs VB hs gs L' :=
 ⟨h.len,h.alen,h.row,h.hnd,fun i b a k x v e1 e2 e3 e4 => by
  obtain ⟨a1,a2,a3⟩ := h.arg i b a k x v e1 e2 e3 e4
  rcases a3 with hh | hh
  ·exact ⟨a1,a2,.inl hh⟩
  by_cases hx : x.args = []
  ·exact ⟨a1,a2,.inl hx⟩
  refine ⟨a1,a2,.inr fun r' hr' => ?_⟩
  rcases hL r' hr' with ⟨r,hr,e⟩ | h9
  ·have := hh r hr
   unfold Apart at *
   rw [e]
   exact this
  ·rcases a2.low (rs := [r']) (fun r hr => by rw [List.mem_singleton] at hr;subst hr;exact h9) with h8 | h8
   ·exact absurd h8 hx
   ·exact h8 r' List.mem_cons_self,h.dis,h.inr⟩
theorem OFr.push {B : Nat} {w W W1 : World} {fs : List Frm} {VF VF' : Value} {rs : List Value} {f : Frm} {v : Value} (h : OFr B w fs VF rs) (hE : Ext w W) (hB : B ≤ w.heap.size)
  (hv : W.ownsRow w.heap.size 3 1 v f.regs.length (f.regs.map (int .i64))) (hap : W1.ownsRow B 57 5 VF' (fs.length + 1) (rowOf frmCells fs rs ++ frmCells f v)) (hg : W.grownBy W1 VF.ownBlock)
  (hi : InR f.fn ∧ InR f.pc ∧ InR f.result ∧ ∀ x ∈ f.regs,InR x) : OFr B W1 (fs ++ [f]) VF' (rs ++ [v]) := by
 have hlast : (fs ++ [f])[fs.length]? = some f := by rw [List.getElem?_append_right (Nat.le_refl _),Nat.sub_self];rfl
 have hC : Cp frmCells 57 3 1 (frmN (fs ++ [f])) (frmC (fs ++ [f])) B w fs VF rs rs fs.length :=
  ⟨h.len,h.row,fun _ _ => rfl,fun i u hi hu => by
   have hf : fs[i]? = some fs[i] := List.getElem?_eq_getElem hi
   have hf2 : (fs ++ [f])[i]? = some fs[i] := by rw [List.getElem?_append_left hi];exact hf
   have := h.reg i _ u hf hu
   unfold frmN frmC
   rw [hf2]
   exact this,fun i j u1 u2 _ _ hij e1 e2 => h.dis i j u1 u2 hij e1 e2⟩
 have h2 := Cp.push (f := f) (v := v) (by decide) hC hE hB (by unfold frmN frmC;rw [hlast];exact hv) hap hg
 refine CpF.done h2 fun x hx => ?_
 rcases List.mem_append.1 hx with hx | hx
 ·exact h.inr x hx
 ·rw [List.mem_singleton] at hx;subst hx;exact hi
theorem RunSt.L_low {X : List Value} {B R : Nat} {P3 : List Value} {w : World} {t : Tsk} {n : Int} {VF VB : Value} {rs hs : List Value} {gs : List (List Value)} (h : RunSt X B R P3 w t n VF VB rs hs gs) {r : Value} (hr : r ∈ boxV R :: VF :: VB :: (rs ++ (hs ++ X))) {x : Nat} (hx : r.ownBlock = some x) : x < w.heap.size := by
 rcases List.mem_cons.1 hr with rfl | hr
 ·exact (h.box.lt x hx).2
 rcases List.mem_cons.1 hr with rfl | hr
 ·exact (h.fr.row.lt x hx).2
 rcases List.mem_cons.1 hr with rfl | hr
 ·exact (h.bl.row.lt x hx).2
 rcases List.mem_append.1 hr with hr | hr
 ·obtain ⟨m,xs,hh⟩ := h.rs_row hr;exact (hh.lt x hx).2
 rcases List.mem_append.1 hr with hr | hr
 ·obtain ⟨m,xs,hh⟩ := h.hs_row hr;exact (hh.lt x hx).2
 ·exact h.lt1 r hr x hx
theorem RunSt.push {X : List Value} {B R : Nat} {P3 : List Value} {w W W1 : World} {t : Tsk} {n : Int} {VF VF' VB : Value} {rs hs : List Value} {gs : List (List Value)} (h : RunSt X B R P3 w t n VF VB rs hs gs) {f : Frm} {v : Value} {g : Nat} (hVF : VF.ownBlock = some g)
  (hE : Ext w W) (hv : W.ownsRow w.heap.size 3 1 v f.regs.length (f.regs.map (int .i64))) (hap : W1.ownsRow B 57 5 VF' (t.frames.length + 1) (rowOf frmCells t.frames rs ++ frmCells f v)) (hg : W.grownBy W1 VF.ownBlock)
  (hat : VF'.ownBlock = VF.ownBlock ∨ VF'.ownBlock = some W.heap.size) (hi : InR f.fn ∧ InR f.pc ∧ InR f.result ∧ ∀ x ∈ f.regs,InR x) :
  RunSt X B R P3 (W1.setCell ⟨R,10,none⟩ VF') { t with frames := t.frames ++ [f] } n VF' VB (rs ++ [v]) hs gs := by
 have hBw : B ≤ w.heap.size := by have := h.lt;omega
 have hf1 := h.fr.push hE hBw hv hap hg hi
 have hb1 : OBl B w t.blocks VB hs gs (VF :: boxV R :: VF' :: VB :: ((rs ++ [v]) ++ (hs ++ X))) := h.bl.list2 fun r' hr' => by
  rcases List.mem_cons.1 hr' with rfl | hr'
  ·exact .inl ⟨_,List.mem_cons_of_mem _ List.mem_cons_self,rfl⟩
  rcases List.mem_cons.1 hr' with rfl | hr'
  ·exact .inl ⟨_,List.mem_cons_self,rfl⟩
  rcases List.mem_cons.1 hr' with rfl | hr'
  ·rcases hat with e | e
   ·exact .inl ⟨_,List.mem_cons_of_mem _ List.mem_cons_self,e⟩
   ·exact .inr fun x hx => by rw [e] at hx;injection hx with hx;subst hx;exact hE.size
  rcases List.mem_cons.1 hr' with rfl | hr'
  ·exact .inl ⟨_,List.mem_cons_of_mem _ (List.mem_cons_of_mem _ List.mem_cons_self),rfl⟩
  rcases List.mem_append.1 hr' with hr' | hr'
  ·rcases List.mem_append.1 hr' with hr' | hr'
   ·exact .inl ⟨r',List.mem_cons_of_mem _ (List.mem_cons_of_mem _ (List.mem_cons_of_mem _ (List.mem_append_left _ hr'))),rfl⟩
   ·rw [List.mem_singleton] at hr'
    subst hr'
    exact .inr fun x hx => (hv.lt x hx).1
  ·exact .inl ⟨r',List.mem_cons_of_mem _ (List.mem_cons_of_mem _ (List.mem_cons_of_mem _ (List.mem_append_right _ hr'))),rfl⟩
 have hg' : W.grownBy W1 (some g) := by rw [← hVF];exact hg
 have hbx := h.box
 have hrows : ∀ u ∈ hs,u.ownBlock = none ∨ u.ownBlock ≠ some g := fun u hu => by obtain ⟨m,xs,hh⟩ := h.hs_row hu;exact apart_ne (apart_types hh h.fr.row (by decide)) hVF
 have hb2 := (hb1.mono hE).wrote hg' (apart_ne (apart_types h.bl.row h.fr.row (by decide)) hVF) hrows List.mem_cons_self hVF
 have hbx2 := (ownsRow_ext hbx hE).kept hg' (apart_ne (apart_types hbx h.fr.row (by decide)) hVF)
 obtain ⟨h4,h5⟩ := World.ownsRow.stored (g := R) (n := 1) (cap := 1) hbx2 10 VF'
 have hc : (P3 ++ (tskL t VF VB ++ [int .i64 n])).set 10 VF' = P3 ++ (tskL { t with frames := t.frames ++ [f] } VF' VB ++ [int .i64 n]) := by
  rw [show 10 = P3.length + 7 by rw [h.three],set_right];rfl
 rw [hc] at h4
 refine ⟨h.three,h4,hf1.kept h5 (apart_ne (apart_types hf1.row hbx2 (by decide)) rfl) (fun u hu => ?_), ?_,by rw [World.size_setCell];exact fun r hr x hx => Nat.lt_of_lt_of_le (h.lt1 r hr x hx) (Nat.le_trans hE.size hg.size)⟩
 ·obtain ⟨i,hil,rfl⟩ := List.getElem_of_mem hu
  exact apart_ne (apart_types (hf1.reg i _ _ (List.getElem?_eq_getElem (by rw [← hf1.len];exact hil)) (List.getElem?_eq_getElem hil)) hbx2 (by decide)) rfl
 ·have h6 := hb2.wrote h5 (apart_ne (apart_types hb2.row hbx2 (by decide)) rfl) (fun u hu => by
   obtain ⟨i,hi,rfl⟩ := List.getElem_of_mem hu
   exact apart_ne (apart_types (hb2.hnd i _ _ _ (List.getElem?_eq_getElem (show i < t.blocks.length by rw [← hb2.len];exact hi)) (List.getElem?_eq_getElem hi) (List.getElem?_eq_getElem (show i < gs.length by rw [hb2.alen,← hb2.len];exact hi))).2 hbx2 (by decide)) rfl)
   (List.mem_cons_of_mem _ List.mem_cons_self) rfl
  exact h6.list fun r' hr' => ⟨r',List.mem_cons_of_mem _ hr',rfl⟩
theorem RArgs.of_row {W : World} {C : Nat} {v : Value} {xs : List Int} (h : W.ownsRow C 3 1 v xs.length (xs.map (int .i64))) (hn : xs.length ≤ 1000) (hi : ∀ x ∈ xs,InR x) : RArgs W xs v := by
 obtain ⟨A2,c2,rfl,hc2,_,hcs2⟩ := ownsRow_shape h
 refine ⟨A2,_,c2,rfl,⟨rfl,by omega,fun q x hq => ?_⟩,hc2⟩
 obtain ⟨b2,o2,rfl,hcell2⟩ := hcs2.2 (by have := (List.getElem?_eq_some_iff.1 hq).1;omega)
 refine ⟨b2,o2,[int .i64 x],rfl,rfl,⟨rfl,hi x (List.mem_of_getElem? hq)⟩,fun j u hj => ?_⟩
 cases j with
 | zero =>
  simp only [List.getElem?_cons_zero,Option.some.injEq] at hj
  subst hj
  have := hcell2 q (int .i64 x) (by rw [List.getElem?_map,hq];rfl)
  simpa using this
 | succ j => simp at hj
theorem snoc_cases {α : Type} {l : List α} {x y : α} {q : Nat} (h : (l ++ [x])[q]? = some y) : (q < l.length ∧ l[q]? = some y) ∨ (q = l.length ∧ y = x) := by
 rw [List.getElem?_append] at h
 split at h
 ·exact .inl ⟨by assumption,h⟩
 ·rename_i hn
  have hz : q - l.length = 0 := by
   rcases Nat.eq_zero_or_pos (q - l.length) with h0 | h0
   ·exact h0
   ·rw [List.getElem?_eq_none (by simp;omega)] at h;cases h
  rw [hz] at h
  simp only [List.getElem?_cons_zero,Option.some.injEq] at h
  exact .inr ⟨by omega,h.symm⟩
theorem set_cases {α : Type} {l : List α} {x y : α} {k i : Nat} (h : (l.set k x)[i]? = some y) : (i = k ∧ y = x) ∨ (i ≠ k ∧ l[i]? = some y) := by
 rw [List.getElem?_set] at h
 split at h
 ·rename_i e
  split at h
  ·injection h with h;exact .inl ⟨e.symm,h.symm⟩
  ·cases h
 ·rename_i e;exact .inr ⟨fun e' => e e'.symm,h⟩
theorem high_apart {u v : Value} {m : Nat} (hu : ∀ x,u.ownBlock = some x → x < m) (hv : ∀ x,v.ownBlock = some x → m ≤ x) : Apart u v := by
 unfold Apart
 cases hx : u.ownBlock with
 | none => exact .inl rfl
 | some x => exact .inr fun e => by have := hu x hx;have := hv x e.symm;omega
theorem high_apart' {u v : Value} {m : Nat} (hu : ∀ x,u.ownBlock = some x → x < m) (hv : ∀ x,v.ownBlock = some x → m ≤ x) : Apart v u := by
 unfold Apart
 cases hx : v.ownBlock with
 | none => exact .inl rfl
 | some x => exact .inr fun e => by have := hv x hx;have := hu x e.symm;omega
theorem RunSt.handler {X : List Value} {B R k : Nat} {P3 : List Value} {w W W1 : World} {t : Tsk} {n : Int} {VF VB : Value} {rs hs : List Value} {gs : List (List Value)} (h : RunSt X B R P3 w t n VF VB rs hs gs) {b : Blk} {v : Value} {a : List Value} (hb : t.blocks[k]? = some b) (hv : hs[k]? = some v) (ha : gs[k]? = some a)
  {y : Hdl} {av v' : Value} (hE : Ext w W) (hav : W.ownsRow w.heap.size 3 1 av y.args.length (y.args.map (int .i64))) (hyn : y.args.length ≤ 1000) (hyi : InR y.fn ∧ ∀ x ∈ y.args,InR x)
  (hap : W1.ownsRow B 83 2 v' (b.handlers.length + 1) (rowOf hdlCells b.handlers a ++ hdlCells y av)) (hg : W.grownBy W1 v.ownBlock) (hat : v'.ownBlock = v.ownBlock ∨ v'.ownBlock = some W.heap.size)
  {gB cB : Nat} (hVB : VB = .slice (some ⟨gB,0,none⟩) t.blocks.length cB) :
  RunSt X B R P3 (W1.setCell ⟨gB,k * 5 + 4,none⟩ v') { t with blocks := t.blocks.set k { b with handlers := b.handlers ++ [y] } } n VF VB rs (hs.set k v') (gs.set k (a ++ [av])) := by
 subst hVB
 have hkb : k < t.blocks.length := (List.getElem?_eq_some_iff.1 hb).1
 obtain ⟨hal,hrow⟩ := h.bl.hnd k b v a hb hv ha
 have hvm : v ∈ boxV R :: VF :: .slice (some ⟨gB,0,none⟩) t.blocks.length cB :: (rs ++ (hs ++ X)) := List.mem_cons_of_mem _ (List.mem_cons_of_mem _ (List.mem_cons_of_mem _ (List.mem_append_right _ (List.mem_append_left _ (List.mem_of_getElem? hv)))))
 have hlow : ∀ r ∈ boxV R :: VF :: .slice (some ⟨gB,0,none⟩) t.blocks.length cB :: (rs ++ (hs ++ X)),∀ x,r.ownBlock = some x → x < w.heap.size := fun r hr x hx => h.L_low hr hx
 have hv'x : ∀ {u : Value},(∀ x,u.ownBlock = some x → x < w.heap.size) → Apart v u → Apart v' u := fun {u} hu hvu => by
  rcases hat with e | e
  ·unfold Apart at *;rw [e];exact hvu
  ·exact high_apart' hu fun x hx => by rw [e] at hx;injection hx with hx;subst hx;exact hE.size
 have hv'y : ∀ {u : Value},(∀ x,u.ownBlock = some x → x < w.heap.size) → Apart u v → Apart u v' := fun {u} hu hvu => by
  rcases hat with e | e
  ·unfold Apart at *;rw [e];exact hvu
  ·exact high_apart hu fun x hx => by rw [e] at hx;injection hx with hx;subst hx;exact hE.size
 have hb1 : OBl B w t.blocks _ hs gs (v' :: boxV R :: VF :: .slice (some ⟨gB,0,none⟩) t.blocks.length cB :: (rs ++ (hs ++ X))) := h.bl.list2 fun r' hr' => by
  rcases List.mem_cons.1 hr' with rfl | hr'
  ·rcases hat with e | e
   ·exact .inl ⟨v,hvm,e⟩
   ·exact .inr fun x hx => by rw [e] at hx;injection hx with hx;subst hx;exact hE.size
  ·exact .inl ⟨r',hr',rfl⟩
 have hbW := hb1.mono hE
 have hbx1 := (ownsRow_ext h.box hE).kept hg (apart_types h.box hrow (by decide))
 have hfr1 := (h.fr.mono hE).kept hg (apart_types h.fr.row hrow (by decide)) (fun u hu => by obtain ⟨m,xs,hh⟩ := h.rs_row hu;exact apart_types hh hrow (by decide))
 have hbr1 := hbW.row.kept hg (apart_types h.bl.row hrow (by decide))
 obtain ⟨h4,h5⟩ := hbr1.stored (k * 5 + 4) v'
 have hVBm : (.slice (some ⟨gB,0,none⟩) t.blocks.length cB : Value) ∈ boxV R :: VF :: .slice (some ⟨gB,0,none⟩) t.blocks.length cB :: (rs ++ (hs ++ X)) := List.mem_cons_of_mem _ (List.mem_cons_of_mem _ List.mem_cons_self)
 have hkeep : ∀ {u : Value} {xs : List Int},RArgs W xs u → (xs = [] ∨ (Apart v u ∧ Apart (.slice (some ⟨gB,0,none⟩) t.blocks.length cB) u)) → RArgs (W1.setCell ⟨gB,k * 5 + 4,none⟩ v') xs u := fun {u xs} h1 h2 => by
  by_cases hx : xs = []
  ·subst hx
   obtain ⟨A,m,c,rfl,h3,h6⟩ := h1
   exact ⟨A,m,c,rfl,⟨h3.1,h3.2.1,fun k x hk => by simp at hk⟩,h6⟩
  ·rcases h2 with h2 | ⟨h2,h3⟩
   ·exact absurd h2 hx
   ·refine (h1.kept hg ?_).kept h5 ?_
    ·rcases h2 with e | e
     ·cases hu : u.ownBlock with
      | none => exact .inl rfl
      | some x => rw [e];exact .inr (fun e => by cases e)
     ·exact .inr fun e' => e e'.symm
    ·rcases h3 with e | e
     ·cases e
     ·exact .inr fun e' => e e'.symm
 refine ⟨h.three,hbx1.kept h5 (apart_ne (apart_types hbx1 hbr1 (by decide)) rfl),hfr1.kept h5 (apart_ne (apart_types hfr1.row hbr1 (by decide)) rfl) (fun u hu => by
   obtain ⟨i,hil,rfl⟩ := List.getElem_of_mem hu
   exact apart_ne (apart_types (hfr1.reg i _ _ (List.getElem?_eq_getElem (by rw [← hfr1.len];exact hil)) (List.getElem?_eq_getElem hil)) hbr1 (by decide)) rfl), ?_,by rw [World.size_setCell];exact fun r hr x hx => Nat.lt_of_lt_of_le (h.lt1 r hr x hx) (Nat.le_trans hE.size hg.size)⟩
 refine ⟨by rw [List.length_set,List.length_set];exact h.bl.len,by rw [List.length_set,List.length_set];exact h.bl.alen, ?_,fun i b2 u a2 e1 e2 e3 => ?_,fun i b2 a2 q x u e1 e2 e3 e4 => ?_,fun i j u1 u2 hij e1 e2 => ?_,fun b2 hb2 => ?_⟩
 ·rw [List.length_set,rowOf_same hb (List.getElem?_set_self (by rw [h.bl.len];exact hkb)) (by rfl),← rowOf_put blkCells_len (j := 4) (u := v') (v' := v') hb hv (by omega) (by rfl)]
  exact h4
 ·rcases set_cases e1 with ⟨rfl,rfl⟩ | ⟨hne,e1'⟩
  ·rcases set_cases e2 with ⟨_,rfl⟩ | ⟨hne,_⟩
   ·rcases set_cases e3 with ⟨_,rfl⟩ | ⟨hne,_⟩
    ·refine ⟨by simp [hal], ?_⟩
     have h9 := hap.kept h5 (apart_ne (apart_types hap hbr1 (by decide)) rfl)
     have hsn : rowOf hdlCells (b.handlers ++ [y]) (a ++ [av]) = rowOf hdlCells b.handlers a ++ hdlCells y av := rowOf_snoc hal
     rw [List.length_append,List.length_singleton,hsn]
     exact h9
    ·exact absurd rfl hne
   ·exact absurd rfl hne
  ·rcases set_cases e2 with ⟨e,_⟩ | ⟨_,e2'⟩
   ·exact absurd e hne
   ·rcases set_cases e3 with ⟨e,_⟩ | ⟨_,e3'⟩
    ·exact absurd e hne
    ·obtain ⟨q1,q2⟩ := hbW.hnd i b2 u a2 e1' e2' e3'
     have q3 := q2.kept hg (h.bl.dis i k u v hne e2' hv)
     exact ⟨q1,q3.kept h5 (apart_ne (apart_types q3 hbr1 (by decide)) rfl)⟩
 ·have hL : ∀ {u : Value},(∀ r ∈ (v' :: boxV R :: VF :: .slice (some ⟨gB,0,none⟩) t.blocks.length cB :: (rs ++ (hs ++ X))),Apart r u) → ∀ r ∈ boxV R :: VF :: .slice (some ⟨gB,0,none⟩) t.blocks.length cB :: (rs ++ (hs.set k v' ++ X)),Apart r u := fun {u} hh r hr => by
   rcases List.mem_cons.1 hr with rfl | hr
   ·exact hh _ (List.mem_cons_of_mem _ List.mem_cons_self)
   rcases List.mem_cons.1 hr with rfl | hr
   ·exact hh _ (List.mem_cons_of_mem _ (List.mem_cons_of_mem _ List.mem_cons_self))
   rcases List.mem_cons.1 hr with rfl | hr
   ·exact hh _ (List.mem_cons_of_mem _ (List.mem_cons_of_mem _ (List.mem_cons_of_mem _ List.mem_cons_self)))
   rcases List.mem_append.1 hr with hr | hr
   ·exact hh _ (List.mem_cons_of_mem _ (List.mem_cons_of_mem _ (List.mem_cons_of_mem _ (List.mem_cons_of_mem _ (List.mem_append_left _ hr)))))
   rcases List.mem_append.1 hr with hr | hr
   ·rcases List.mem_or_eq_of_mem_set hr with hr | rfl
    ·exact hh _ (List.mem_cons_of_mem _ (List.mem_cons_of_mem _ (List.mem_cons_of_mem _ (List.mem_cons_of_mem _ (List.mem_append_right _ (List.mem_append_left _ hr))))))
    ·exact hh _ List.mem_cons_self
   ·exact hh _ (List.mem_cons_of_mem _ (List.mem_cons_of_mem _ (List.mem_cons_of_mem _ (List.mem_cons_of_mem _ (List.mem_append_right _ (List.mem_append_right _ hr))))))
  have old : ∀ (i : Nat) (b3 : Blk) (a3 : List Value),t.blocks[i]? = some b3 → gs[i]? = some a3 → b3.handlers[q]? = some x → a3[q]? = some u →
    InR x.fn ∧ RArgs (W1.setCell ⟨gB,k * 5 + 4,none⟩ v') x.args u ∧ (x.args = [] ∨ ∀ r ∈ boxV R :: VF :: .slice (some ⟨gB,0,none⟩) t.blocks.length cB :: (rs ++ (hs.set k v' ++ X)),Apart r u) := fun i b3 a3 e1 e2 e3 e4 => by
   obtain ⟨q1,q2,q3⟩ := hbW.arg i b3 a3 q x u e1 e2 e3 e4
   refine ⟨q1,hkeep q2 (q3.imp id fun hh => ⟨hh v (List.mem_cons_of_mem _ hvm),hh _ (List.mem_cons_of_mem _ hVBm)⟩),q3.imp id hL⟩
  rcases set_cases e1 with ⟨rfl,rfl⟩ | ⟨hne,e1'⟩
  ·rcases set_cases e2 with ⟨_,rfl⟩ | ⟨hne,_⟩
   ·rcases snoc_cases e4 with ⟨hq,e4'⟩ | ⟨hq,rfl⟩
    ·rcases snoc_cases e3 with ⟨_,e3'⟩ | ⟨hq',_⟩
     ·exact old i b a hb ha e3' e4'
     ·omega
    ·rcases snoc_cases e3 with ⟨hq',_⟩ | ⟨_,rfl⟩
     ·omega
     ·have hav2 : ∀ z,u.ownBlock = some z → w.heap.size ≤ z ∧ z < W.heap.size := fun z hz => hav.lt z hz
      have hRA := RArgs.of_row hav hyn hyi.2
      have hall : ∀ r ∈ (v' :: boxV R :: VF :: .slice (some ⟨gB,0,none⟩) t.blocks.length cB :: (rs ++ (hs ++ X))),Apart r u := fun r hr => by
       rcases List.mem_cons.1 hr with rfl | hr
       ·rcases hat with e | e
        ·have := high_apart (u := v) (v := u) (hlow v hvm) fun z hz => (hav2 z hz).1
         unfold Apart at *;rw [e];exact this
        ·unfold Apart;rw [e];exact .inr fun e' => by have := (hav2 _ e'.symm).2;omega
       ·exact high_apart (hlow r hr) fun z hz => (hav2 z hz).1
      exact ⟨hyi.1,hkeep hRA (.inr ⟨hall v (List.mem_cons_of_mem _ hvm),hall _ (List.mem_cons_of_mem _ hVBm)⟩),.inr (hL hall)⟩
   ·exact absurd rfl hne
  ·rcases set_cases e2 with ⟨e,_⟩ | ⟨_,e2'⟩
   ·exact absurd e hne
   ·exact old i b2 a2 e1' e2' e3 e4
 ·have hm : ∀ (i : Nat) (u : Value),hs[i]? = some u → ∀ x,u.ownBlock = some x → x < w.heap.size := fun i u hu => hlow u (List.mem_cons_of_mem _ (List.mem_cons_of_mem _ (List.mem_cons_of_mem _ (List.mem_append_right _ (List.mem_append_left _ (List.mem_of_getElem? hu))))))
  rcases set_cases e1 with ⟨rfl,rfl⟩ | ⟨hne,e1'⟩ <;> rcases set_cases e2 with ⟨hjk,rfl⟩ | ⟨hne2,e2'⟩
  ·exact absurd hjk.symm hij
  ·exact hv'x (hm j u2 e2') (h.bl.dis _ j v u2 hij hv e2')
  ·subst hjk;exact hv'y (hm i u1 e1') (h.bl.dis i _ u1 v hij e1' hv)
  ·exact h.bl.dis i j u1 u2 hij e1' e2'
 ·rcases List.mem_or_eq_of_mem_set hb2 with hb2 | rfl
  ·exact h.bl.inr b2 hb2
  ·exact h.bl.inr b (List.mem_of_getElem? hb)
end Go.Proofs.Ytcjjoabofecjmaa
namespace Go.Proofs.Ytcjjoabofecjmaa
open Go.RowKit
open Go.Value (int)
theorem code_zero {p : Prg} {f : Fnc} : ∀ {l : List Ins},codeS p f l = 0 → ∀ x ∈ l,instrS p f x = 0
 | [],_,x,hx => by cases hx
 | y :: l,h,x,hx => by
  unfold codeS at h
  split at h
  ·contradiction
  ·rename_i h1
   rcases List.mem_cons.1 hx with rfl | hx
   ·exact Decidable.not_not.1 h1
   ·exact code_zero h x hx
structure FnOk (p : Prg) (g : Fnc) : Prop where
 par : 0 ≤ g.params ∧ g.params ≤ 8
 reg : g.params ≤ g.regs ∧ g.regs ≤ 32
 len : g.code.length ≤ 200
 ins : ∀ x ∈ g.code,instrS p g x = 0
theorem fn_ok {p : Prg} (h : checkS p = 0) {g : Fnc} (hg : g ∈ p.funcs) : FnOk p g := by
 obtain ⟨i,hi,rfl⟩ := List.getElem_of_mem hg
 have h1 := check_fn h hi
 unfold checkFnS at h1
 rw [List.getElem?_eq_getElem hi] at h1
 dsimp only at h1
 split at h1
 ·cases h1
 ·split at h1
  ·cases h1
  ·split at h1
   ·cases h1
   ·rename_i h2
    simp only [not_or,Bool.not_eq_false,inB_iff] at h2
    split at h1
    ·cases h1
    ·split at h1
     ·cases h1
     ·exact ⟨by omega,by omega,by omega,code_zero h1⟩
theorem fnAt_mem {p : Prg} {i : Int} {g : Fnc} (h : fnAt p i = some g) : g ∈ p.funcs := List.mem_of_getElem? (fnAt_some h).2.2
structure InsOk (p : Prg) (g : Fnc) (x : Ins) : Prop where
 shape : (shapeS x.op).isSome = true
 forb : g.cleanup = true → forbS x.op = false
 a : operandS p g (sS x.op).a x.a = 0
 b : operandS p g (sS x.op).b x.b = 0
 c : operandS p g (sS x.op).c x.c = 0
 args : argsS p g (sS x.op).args x = 0
theorem ins_ok {p : Prg} {g : Fnc} {x : Ins} (h : instrS p g x = 0) : InsOk p g x := by
 unfold instrS at h
 split at h
 ·cases h
 rename_i h1
 split at h
 ·cases h
 rename_i h2
 split at h
 ·rename_i h3;exact absurd h h3
 rename_i h3
 split at h
 ·rename_i h4;exact absurd h h4
 rename_i h4
 have h3 := Decidable.not_not.1 h3
 have h5 := opsS_b h3
 unfold opsS at h3
 split at h3
 ·contradiction
 rename_i h6
 split at h3
 ·contradiction
 refine ⟨by cases hsh : (shapeS x.op).isSome with | true => rfl | false => exact absurd hsh h1,fun hc => ?_,Decidable.not_not.1 h6,h5,h3,Decidable.not_not.1 h4⟩
 cases hf : forbS x.op with
 | false => rfl
 | true => exact absurd ⟨hc,hf⟩ h2
theorem oper_reg {p : Prg} {g : Fnc} {o : Opd} {n : Int} (ho : o.what = 3 ∨ o.what = 4) (h : operandS p g o n = 0) : 0 ≤ n ∧ n < g.regs := by
 unfold operandS insideS at h
 rcases ho with ho | ho <;> simp [ho] at h <;> omega
theorem oper_jump {p : Prg} {g : Fnc} {o : Opd} {n : Int} (ho : o.what = 6) (h : operandS p g o n = 0) : 0 ≤ n ∧ n < (g.code.length : Int) := by
 unfold operandS insideS at h
 simp [ho] at h;omega
theorem oper_fn {p : Prg} {g : Fnc} {o : Opd} {n : Int} (ho : o.what = 8 ∨ o.what = 9) (h : operandS p g o n = 0) : ∃ k,fnAt p n = some k ∧ k.cleanup = decide (o.what = 9) := by
 have hr := operandS_fn ho h
 obtain ⟨k,hk⟩ := fnAt_in hr.1 hr.2
 refine ⟨k,hk, ?_⟩
 have h2 := (fnAt_some hk).2.2
 unfold operandS at h
 rw [if_neg (by omega),if_neg (by omega),if_neg (by omega),if_neg (by omega),if_neg (by omega),if_neg (by omega),if_neg (by omega),if_pos ho,if_pos hr.1,h2] at h
 dsimp only at h
 split at h
 ·assumption
 ·cases h
theorem args_regs {p : Prg} {g : Fnc} {what : Int} {x : Ins} (h : argsS p g what x = 0) (hw : what = 1) : (x.args.length : Int) = wantS p 1 x.b ∧ ∀ a ∈ x.args,0 ≤ a ∧ a < g.regs := by
 unfold argsS at h
 subst hw
 rw [if_neg (by decide),if_neg (by decide)] at h
 split at h
 ·cases h
 rename_i h1
 split at h
 ·cases h
 rename_i h2
 refine ⟨Decidable.not_not.1 h1,fun a ha => ?_⟩
 simp only [List.any_eq_true,Bool.not_eq_true',not_exists,not_and,Bool.not_eq_false] at h2
 have := h2 a ha
 unfold regB at this
 rw [inB_iff] at this
 omega
theorem local_op {op : Int} (h : (shapeS op).isSome = true) (hv : visS op = false) : 1 ≤ op ∧ op ≤ 21 := by
 have h30 : op < 30 := by
  unfold visS at hv
  rw [h] at hv
  simpa using hv
 rcases Int.lt_or_le op 1 with h1 | h1
 ·exfalso
  have : shapeS op = none := by
   unfold shapeS groupsS
   repeat rw [if_neg (by omega)]
  rw [this] at h;cases h
 ·rcases Int.lt_or_le 21 op with h2 | h2
  ·exfalso
   have : shapeS op = none := by
    unfold shapeS groupsS
    repeat rw [if_neg (by omega)]
   rw [this] at h;cases h
  ·exact ⟨h1,h2⟩
structure FrOk (p : Prg) (f : Frm) (g : Fnc) : Prop where
 fn : fnAt p f.fn = some g
 regs : (f.regs.length : Int) = g.regs
 num : ∀ x ∈ f.regs,numB x = true
 pc : 0 ≤ f.pc ∧ f.pc ≤ g.code.length
 cl : f.cleanup = g.cleanup
structure RunOk (p : Prg) (t : Tsk) : Prop where
 pos : 1 ≤ t.frames.length
 len : t.frames.length ≤ 9
 len8 : ∀ f,topF t = some f → f.cleanup = false → t.frames.length ≤ 8
 fr : ∀ (i : Nat) f,t.frames[i]? = some f → ∃ g,FrOk p f g
 res : ∀ (i : Nat) f h,t.frames[i + 1]? = some f → t.frames[i]? = some h → f.cleanup = false → InF h f.result
 cl : ∀ (i : Nat) f,t.frames[i]? = some f → f.cleanup = true → i + 1 = t.frames.length
 bl : 1 ≤ t.blocks.length ∧ t.blocks.length ≤ 8
 hdl : ∀ b ∈ t.blocks,b.handlers.length ≤ 8
 mask : 0 ≤ t.mask ∧ t.mask ≤ 101
theorem inHand_top {t : Tsk} {f : Frm} (h : topF t = some f) : inHand t = f.cleanup := by
 unfold inHand;unfold topF at h
 rw [List.getLast?_eq_getElem?,h]
theorem RunOk.top {p : Prg} {t : Tsk} (h : RunOk p t) : ∃ f,topF t = some f := ⟨_,List.getElem?_eq_getElem (show t.frames.length - 1 < t.frames.length by have := h.pos;omega)⟩
theorem RunOk.topOk {p : Prg} {t : Tsk} (h : RunOk p t) (hc : checkS p = 0) {f : Frm} (hf : topF t = some f) : TopOk t f := by
 obtain ⟨g,hg⟩ := h.fr _ _ hf
 have h1 := fn_ok hc (fnAt_mem hg.fn)
 have := hg.regs;have := h1.reg;have := hg.pc;have := h1.len;have := h.len
 exact ⟨hf,by omega,by omega,by omega⟩
theorem RunOk.setTop {p : Prg} {t : Tsk} (h : RunOk p t) {f f' : Frm} {g : Fnc} (hf : topF t = some f) (hg : FrOk p f' g) (hl : f'.regs.length = f.regs.length) (hc : f'.cleanup = f.cleanup) (hr : f'.result = f.result) : RunOk p (setTop t f') := by
 have hpos := h.pos
 unfold topF at hf
 have hset : ∀ (i : Nat) (x : Frm),(t.frames.set (t.frames.length - 1) f')[i]? = some x → (i = t.frames.length - 1 ∧ x = f') ∨ (i ≠ t.frames.length - 1 ∧ t.frames[i]? = some x) := fun i x hx => set_cases hx
 refine ⟨by simp [Go.Proofs.Ytcjjoabofecjmaa.setTop];exact hpos,by simp [Go.Proofs.Ytcjjoabofecjmaa.setTop];exact h.len,fun x hx hxc => ?_,fun i x hx => ?_,fun i x y hx hy hxc => ?_,fun i x hx hxc => ?_,h.bl,h.hdl,h.mask⟩
 ·unfold topF at hx
  simp only [Go.Proofs.Ytcjjoabofecjmaa.setTop,List.length_set] at hx ⊢
  rw [List.getElem?_set_self (by omega)] at hx
  injection hx with hx
  subst hx
  exact h.len8 f hf (hc ▸ hxc)
 ·rcases hset i x hx with ⟨_,rfl⟩ | ⟨_,hx⟩
  ·exact ⟨g,hg⟩
  ·exact h.fr i x hx
 ·have hy2 : ∃ y',t.frames[i]? = some y' ∧ y'.regs.length = y.regs.length := by
   rcases hset i y hy with ⟨rfl,rfl⟩ | ⟨_,hy⟩
   ·exact ⟨f,hf,hl.symm⟩
   ·exact ⟨y,hy,rfl⟩
  obtain ⟨y',hy',hyl⟩ := hy2
  unfold InF
  rw [← hyl]
  rcases hset (i + 1) x hx with ⟨he,rfl⟩ | ⟨_,hx⟩
  ·rw [hr];exact h.res i f y' (by rw [he];exact hf) hy' (hc ▸ hxc)
  ·exact h.res i x y' hx hy' hxc
 ·simp only [Go.Proofs.Ytcjjoabofecjmaa.setTop,List.length_set]
  rcases hset i x hx with ⟨rfl,rfl⟩ | ⟨_,hx⟩
  ·exact h.cl _ f hf (hc ▸ hxc)
  ·exact h.cl i x hx hxc
theorem regS_num {p : Prg} {f : Frm} {g : Fnc} (hg : FrOk p f g) {k : Int} (hk : 0 ≤ k ∧ k < g.regs) : numB (regS f k) = true := by
 have h2 := regS_get (f := f) (k := k) ⟨hk.1,by have := hg.regs;omega⟩
 exact hg.num _ (List.mem_of_getElem? h2)
theorem RunOk.write {p : Prg} {t : Tsk} (h : RunOk p t) {f : Frm} {g : Fnc} (hf : topF t = some f) (hg : FrOk p f g) (hpc : f.pc < g.code.length) {i v : Int} (hz : (writeS t f i v).2.kind = 0) : RunOk p (writeS t f i v).1 := by
 unfold writeS at hz ⊢
 split
 ·rename_i hv
  refine h.setTop hf (f' := { f with regs := f.regs.set i.toNat v,pc := f.pc + 1 }) (g := g) ⟨hg.fn,by rw [List.length_set];exact hg.regs,fun x hx => ?_,⟨by have := hg.pc;show 0 ≤ f.pc + 1;omega,by show f.pc + 1 ≤ _;omega⟩,hg.cl⟩ (List.length_set ..) rfl rfl
  rcases List.mem_or_eq_of_mem_set hx with hx | rfl
  ·exact hg.num x hx
  ·exact hv
 ·rename_i hv
  rw [if_neg hv] at hz
  cases hz
theorem RunOk.jump {p : Prg} {t : Tsk} (h : RunOk p t) {f : Frm} {g : Fnc} (hf : topF t = some f) (hg : FrOk p f g) {pc : Int} (hpc : 0 ≤ pc ∧ pc ≤ g.code.length) : RunOk p (jumpS t f pc).1 :=
 h.setTop hf (f' := { f with pc := pc }) (g := g) ⟨hg.fn,hg.regs,hg.num,hpc,hg.cl⟩ rfl rfl rfl
theorem RunOk.mask' {p : Prg} {t : Tsk} (h : RunOk p t) {m : Int} (hm : 0 ≤ m ∧ m ≤ 101) : RunOk p { t with mask := m } := ⟨h.pos,h.len,h.len8,h.fr,h.res,h.cl,h.bl,h.hdl,hm⟩
end Go.Proofs.Ytcjjoabofecjmaa

