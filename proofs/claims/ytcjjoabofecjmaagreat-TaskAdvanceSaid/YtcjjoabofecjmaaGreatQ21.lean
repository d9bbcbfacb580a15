/- A part of the proof: arguments of a runner; leave of a runner; Frames taken off t. -/
import Derived.Test.YtcjjoabofecjmaaGreatQ20
set_option linter.unusedVariables false
set_option linter.unusedSimpArgs false
set_option maxHeartbeats 16000000
namespace Go.Proofs.YtcjjoabofecjmaaGreat
open Go.RowKit Go.Sort
open Go.Value (int)
def argsTo (f : Frm) (l : List Int) (k : Nat) : List Int := (l.take k).map (regS f) ++ List.replicate (l.length - k) 0
theorem argsTo_length (f : Frm) (l : List Int) (k : Nat) (hk : k ≤ l.length) : (argsTo f l k).length = l.length := by simp [argsTo];omega
theorem argsTo_all (f : Frm) (l : List Int) : argsTo f l l.length = argsOf f l := by simp [argsTo,argsOf]
theorem argsTo_set (f : Frm) (l : List Int) (k : Nat) (a : Int) (h : l[k]? = some a) : (argsTo f l k).set k (regS f a) = argsTo f l (k + 1) := by
 have hk := (List.getElem?_eq_some_iff.1 h).1
 have ha := (List.getElem?_eq_some_iff.1 h).2
 unfold argsTo
 have hl : ((l.take k).map (regS f)).length = k := by simp;omega
 rw [List.set_append_right _ _ (by omega),hl,Nat.sub_self,show l.length - k = (l.length - (k + 1)) + 1 by omega,List.replicate_succ,List.set_cons_zero,List.take_add_one,List.map_append,List.append_assoc,h]
 rfl
set_option maxRecDepth 4000 in
theorem arguments_any {X : List Value} {B R : Nat} {P3 : List Value} {w : World} {t : Tsk} {n : Int} {VF VB : Value} {rs hs : List Value} {gs : List (List Value)} (h : RunSt X B R P3 w t n VF VB rs hs gs) {f : Frm} (ht : TopOk t f) (x : Ins) (A : Option Addr) (m c : Nat) (hx : RSl 1 RInt w A m x.args) (hm : m ≤ 1000) (ha : ∀ a ∈ x.args,InF f a) :
  Calls Tryz.prog 162 #[.pointer (some ⟨R,0,none⟩),.agg #[int .i64 x.op,int .i64 x.a,int .i64 x.b,int .i64 x.c,.slice A m c]] w fun e w' => ∃ g,e = .returned (.slice (some ⟨g,0,none⟩) m m) ∧ w.heap.size < g ∧ w'.ownsRow (w.heap.size + 1) 3 1 (.slice (some ⟨g,0,none⟩) m m) m ((argsOf f x.args).map (int .i64)) ∧ Ext w w' := by
 have hml := hx.len
 have HX := Lib.hid hx
 have HG := Lib.hid (fun (a : Int) (hm : a ∈ x.args) W (hE : Ext w W) => reg_is (h.mono hE) ht (ha a hm))
 have hmk := fun W => run_make_row' (P := Tryz.prog) 35 3 (.int .i64 0) 8 Tryz.underlying35 infoInt rfl .i64 .i64 m (by omega) (by omega) W
 have HML := Lib.hid hml
 clear h ht hx ha hml
 go_enter Tryz.func162,Tryz.ntmps162
 go_wp2
 refine wp_hid2 ?_
 intro W0 HW0
 have HE : Hid (Ext w W0) := by rw [HW0.out];exact Lib.hid xt
 have HO : Hid (W0.ownsRow (w.heap.size + 1) 3 1 (.slice (some ⟨w.heap.size + 1,0,none⟩) m m) m ((argsTo f x.args 0).map (int .i64))) := by
  rw [Hid,HW0.out,madeCells_one]
  have h1 := World.ownsRow_lit (base := w.heap.size + 1) (e := 3) (size := 1) (w.alloc (.cells #[int .i64 x.op,int .i64 x.a,int .i64 x.b,int .i64 x.c,.slice A m c] 37)) (List.replicate m (int .i64 0)).toArray m (by simp) (by simp only [maxLen];omega) (by simp)
  simpa [argsTo,HML.out] using h1
 clear HW0 hmk
 go_loopg [6,7,15] m (fun gg _ _ s15 wr => ∃ kk : Nat,kk ≤ m ∧ m - kk ≤ gg ∧ s15 = .int .i64 kk ∧ Hid (Ext w wr) ∧ Hid (wr.ownsRow (w.heap.size + 1) 3 1 (.slice (some ⟨w.heap.size + 1,0,none⟩) m m) m ((argsTo f x.args kk).map (int .i64))))
 case atStart => exact ⟨0,Nat.zero_le _,by omega,rfl,HE.out,HO⟩
 case round =>
  obtain ⟨kk,hkk,hg,rfl,HW,HR⟩ := hrel
  by_cases hlt : kk < m
  ·have hltz : (kk : Int) < (m : Int) := by omega
   obtain ⟨a,hak⟩ : ∃ a,x.args[kk]? = some a := ⟨_,List.getElem?_eq_getElem (by have := HML.out;omega)⟩
   obtain ⟨b,off,rfl,hlb,_,d0⟩ := HX.out.int hak
   have e0 := HW.out.cell d0
   have hlb2 := Nat.lt_of_lt_of_le hlb HW.out.size
   have HC := Lib.hid (HG.out a (List.mem_of_getElem? hak))
   have HS := Lib.hid (argsTo_set f x.args kk a hak)
   obtain ⟨y,hy⟩ : ∃ y,regS f a = y := ⟨_,rfl⟩
   rw [hy] at HC HS
   clear hy hak d0 hlb
   have HWE := HW.out
   obtain ⟨u,hu⟩ : ∃ u,((argsTo f x.args kk).map (int .i64))[kk]? = some u := ⟨_,List.getElem?_eq_getElem (by rw [List.length_map,argsTo_length f _ _ (by have := HML.out;omega)];have := HML.out;omega)⟩
   go_wp2_with (go_at_call 125;refine (HC.out _ xt).mono ?_;rintro e w3 ⟨rfl,hb3⟩;have HR3 := Lib.hid (ownsRow_ext HR.out hb3);have r1 := World.ownsRow.frozenAt (g := w.heap.size + 1) HR3.out kk;have r2 := World.ownsRow.cellAt (g := w.heap.size + 1) HR3.out kk (by omega);rw [hu] at r2)
   go_roundg (m - (kk + 1))
   case measure => omega
   case rel =>
    refine ⟨kk + 1,by omega,by omega,by go_num,(HWE.trans hb3).setCell (show w.heap.size ≤ w.heap.size + 1 by omega) _, ?_⟩
    have h9 := (World.ownsRow.stored (g := w.heap.size + 1) HR3.out kk (int .i64 y)).1
    rw [← List.map_set,HS.out] at h9
    exact h9
  ·have hltz : ¬ (kk : Int) < (m : Int) := by omega
   have hkm : kk = m := by omega
   go_wp2
   go_ret
   exact ⟨_,rfl,Nat.lt_succ_self _,by have h1 := HR.out;rw [hkm,HML.out,argsTo_all,← HML.out] at h1;exact h1,HW.out⟩
set_option maxRecDepth 4000 in
theorem leave_one {X : List Value} {B R : Nat} {P3 : List Value} {w : World} {t : Tsk} {n : Int} {VF VB : Value} {rs hs : List Value} {gs : List (List Value)} (h : RunSt X B R P3 w t n VF VB rs hs gs) {f : Frm} (ht : TopOk t f) (v : Int) (hcl : f.cleanup = false) (h1 : t.frames.length = 1) :
  Calls Tryz.prog 93 #[.pointer (some ⟨R,0,none⟩),int .i64 v] w (OpPost X B R P3 w (giveS t f v) n) := by
 have hR : giveS t f v = (t,⟨2,0,v⟩) := by unfold giveS;rw [if_neg (by rw [hcl];decide),if_pos h1]
 rw [hR]
 have hlR := h.lt.2
 have hBW : B ≤ w.heap.size := by have := h.lt;omega
 obtain ⟨gF,cF,v',rfl,hv,hpos,hgF,⟨Av,cv,rfl,hcv⟩,c0,c1,c2,c3,c4⟩ := h.top ht.top
 have m1 : w.cell? ⟨R,10,none⟩ = some (.slice (some ⟨gF,0,none⟩) t.frames.length cF) := h.cellT (j := 7) rfl
 have H := Lib.hid h
 rw [h1] at m1 c0 c1 c2 c3 c4
 rw [hcl] at c4
 clear h ht hv hcl hR
 go_enter Tryz.func93,Tryz.ntmps93
 go_wp2
 exact ⟨rfl,rfl,⟨_,_,_,_,_,H.out.mono xt⟩,Kept.mono (show Ext w _ from xt) hBW⟩
set_option maxRecDepth 4000 in
theorem leave_mis {X : List Value} {B R : Nat} {P3 : List Value} {w : World} {t : Tsk} {n : Int} {VF VB : Value} {rs hs : List Value} {gs : List (List Value)} (h : RunSt X B R P3 w t n VF VB rs hs gs) {f : Frm} (ht : TopOk t f) (v : Int) (hcl : f.cleanup = false) (h1 : 2 ≤ t.frames.length) (b : Blk) (hb : lastB t = some b) (hbl : t.blocks.length ≤ 1000) (hd : b.depth = (t.frames.length : Int)) :
  Calls Tryz.prog 93 #[.pointer (some ⟨R,0,none⟩),int .i64 v] w (OpPost X B R P3 w (giveS t f v) n) := by
 obtain ⟨y,hy⟩ : ∃ y,t.frames[t.frames.length - 2]? = some y := ⟨_,List.getElem?_eq_getElem (by omega)⟩
 have hR : giveS t f v = failT t 8 := by unfold giveS;rw [if_neg (by rw [hcl];decide),if_neg (by omega),hb,hy];dsimp only;rw [if_pos hd]
 rw [hR]
 have hlR := h.lt.2
 have hBW : B ≤ w.heap.size := by have := h.lt;omega
 obtain ⟨gF,cF,v',rfl,hv,hpos,hgF,⟨Av,cv,rfl,hcv⟩,c0,c1,c2,c3,c4⟩ := h.top ht.top
 have m1 : w.cell? ⟨R,10,none⟩ = some (.slice (some ⟨gF,0,none⟩) t.frames.length cF) := h.cellT (j := 7) rfl
 have m3 : w.cell? ⟨R,11,none⟩ = some VB := h.cellT (j := 8) rfl
 have H := Lib.hid h
 unfold lastB at hb
 have hbpos : 0 < t.blocks.length := by have := (List.getElem?_eq_some_iff.1 hb).1;omega
 obtain ⟨gB,cB,eB,hgB⟩ := own_form h.bl.row hbpos
 obtain ⟨v4,hv4⟩ : ∃ v,hs[t.blocks.length - 1]? = some v := ⟨_,List.getElem?_eq_getElem (by rw [h.bl.len];omega)⟩
 have m4 : w.cell? ⟨gB,(t.blocks.length - 1) * 5 + 1,none⟩ = some (int .i64 b.depth) := by
  have h9 := h.bl.row
  rw [eB] at h9
  rw [h9.cellAt _ (by omega),rowOf_get blkCells_len hb hv4 (by omega)];rfl
 have hlB : gB < w.heap.size := lt_of_cell m4
 have hsB : IntKind.i64.wrap ((t.blocks.length : Int) - 1) = ((t.blocks.length - 1 : Nat) : Int) := by rw [IntWalk.i64_in _ (by omega)];omega
 have hs1B : ((t.blocks.length - 1 : Nat) : Int) < (t.blocks.length : Int) := by omega
 have hs2B : (0 : Int) ≤ ((t.blocks.length - 1 : Nat) : Int) := by omega
 have hl := ht.len
 rw [hd] at m4
 rw [hcl] at c4
 subst eB
 clear h ht hv hcl hR hy hb hd hv4
 obtain ⟨N,hN⟩ : ∃ N,t.frames.length = N := ⟨_,rfl⟩
 rw [hN] at m1 c0 c1 c2 c3 c4 hpos hl h1 m4
 have hsF : IntKind.i64.wrap ((N : Int) - 1) = ((N - 1 : Nat) : Int) := by rw [IntWalk.i64_in _ (by omega)];omega
 have hs1F : ((N - 1 : Nat) : Int) < (N : Int) := by omega
 have hs2F : (0 : Int) ≤ ((N - 1 : Nat) : Int) := by omega
 have hN1 : ((N : Int) == 1) = false := beq_eq_false_iff_ne.2 (by omega)
 clear hN
 go_enter Tryz.func93,Tryz.ntmps93
 go_wp2
 (refine wp_region_quiet_below (by kernel_rfl) (by kernel_rfl) ?_;(repeat (go_big_quiet_step (fail)));refine wpQuiet_nil fun w1 h1 => ?_;obtain ⟨hc,hf,hs,he⟩ := eu (w := w) h1 xt;clear h1;(try simp only [sA,sC,sD,sN] at hs))
 go_wp2
 exact ⟨rfl,rfl,⟨_,_,_,_,_,H.out.mono xt⟩,Kept.mono (show Ext w _ from xt) hBW⟩
theorem own_take {w : World} {B : Nat} {e : TypeId} {sz g n c m : Nat} {xs : List Value} (h : w.ownsRow B e sz (.slice (some ⟨g,0,none⟩) n c) n xs) (hm : m ≤ n) : w.ownsRow B e sz (.slice (some ⟨g,0,none⟩) m c) m (xs.take (m * sz)) := by
 rcases h.2 with ⟨h',_⟩ | ⟨g',cap,cur,h',hb,hg,hnc,hcm,hcs,htake⟩
 ·cases h'
 ·injection h' with q1 q2 q3
  injection q1 with q1
  injection q1 with q1
  subst q1 q3
  have hle : m * sz ≤ n * sz := Nat.mul_le_mul_right sz hm
  refine ⟨by rw [List.length_take,h.1];exact Nat.min_eq_left hle,.inr ⟨g,c,cur,rfl,hb,hg,Nat.le_trans hm hnc,hcm,hcs, ?_⟩⟩
  rw [← htake,List.take_take,Nat.min_eq_left hle]
theorem rowOf_take {α : Type} {f : α → Value → List Value} {k : Nat} (hf : ∀ x v,(f x v).length = k) : ∀ {xs : List α} {vs : List Value} {m : Nat},vs.length = xs.length → (rowOf f xs vs).take (m * k) = rowOf f (xs.take m) (vs.take m)
 | [],[],m,_ => by simp [rowOf]
 | [],_ :: _,m,h => by simp at h
 | _ :: _,[],m,h => by simp at h
 | x :: xs,v :: vs,0,h => by simp [rowOf]
 | x :: xs,v :: vs,m + 1,h => by
  have := rowOf_take hf (xs := xs) (vs := vs) (m := m) (by simpa using h)
  simp only [rowOf,List.zipWith_cons_cons,List.flatten_cons,List.take_succ_cons] at this ⊢
  rw [Nat.add_mul,Nat.one_mul,Nat.add_comm,List.take_append,hf,Nat.add_sub_cancel_left,this,List.take_of_length_le (by rw [hf];omega)]
theorem OFr.take {B : Nat} {w : World} {fs : List Frm} {g c m : Nat} {rs : List Value} (h : OFr B w fs (.slice (some ⟨g,0,none⟩) fs.length c) rs) (hm : m ≤ fs.length) : OFr B w (fs.take m) (.slice (some ⟨g,0,none⟩) m c) (rs.take m) := by
 have hl : (fs.take m).length = m := by rw [List.length_take];omega
 refine ⟨by rw [List.length_take,List.length_take,h.len], ?_,fun i f v h1 h2 => ?_,fun i j v u hij h1 h2 => ?_,fun f hf => h.inr f (List.mem_of_mem_take hf)⟩
 ·rw [hl,← rowOf_take frmCells_len h.len]
  exact own_take h.row hm
 ·rw [List.getElem?_take] at h1 h2
  split at h1
  ·rw [if_pos ‹_›] at h2;exact h.reg i f v h1 h2
  ·cases h1
 ·rw [List.getElem?_take] at h1 h2
  split at h1
  ·split at h2
   ·exact h.dis i j v u hij h1 h2
   ·cases h2
  ·cases h1
theorem OBl.list {B : Nat} {w : World} {bs : List Blk} {VB : Value} {hs : List Value} {gs : List (List Value)} {L L' : List Value} (h : OBl B w bs VB hs gs L) (hL : ∀ r' ∈ L',∃ r ∈ L,r'.ownBlock = r.ownBlock) : OBl B w bs VB hs gs L' :=
 ⟨h.len,h.alen,h.row,h.hnd,fun i b a k x v e1 e2 e3 e4 => by
  obtain ⟨a1,a2,a3⟩ := h.arg i b a k x v e1 e2 e3 e4
  refine ⟨a1,a2,a3.imp id fun hh r' hr' => ?_⟩
  obtain ⟨r,hr,e⟩ := hL r' hr'
  have := hh r hr
  unfold Apart at *
  rw [e]
  exact this,h.dis,h.inr⟩
theorem RunSt.pop {X : List Value} {B R : Nat} {P3 : List Value} {w : World} {t : Tsk} {n : Int} {VB : Value} {rs hs : List Value} {gs : List (List Value)} {g c m : Nat} (h : RunSt X B R P3 w t n (.slice (some ⟨g,0,none⟩) t.frames.length c) VB rs hs gs) (hm : m ≤ t.frames.length) :
  RunSt X B R P3 (w.setCell ⟨R,10,none⟩ (.slice (some ⟨g,0,none⟩) m c)) { t with frames := t.frames.take m } n (.slice (some ⟨g,0,none⟩) m c) VB (rs.take m) hs gs := by
 obtain ⟨h4,h5⟩ := World.ownsRow.stored (g := R) (n := 1) (cap := 1) h.box 10 (.slice (some ⟨g,0,none⟩) m c)
 have hc : (P3 ++ (tskL t (.slice (some ⟨g,0,none⟩) t.frames.length c) VB ++ [int .i64 n])).set 10 (.slice (some ⟨g,0,none⟩) m c) = P3 ++ (tskL { t with frames := t.frames.take m } (.slice (some ⟨g,0,none⟩) m c) VB ++ [int .i64 n]) := by
  rw [show 10 = P3.length + 7 by rw [h.three],set_right];rfl
 rw [hc] at h4
 have hf := h.fr.kept h5 (apart_ne (apart_types h.fr.row h.box (by decide)) rfl) (fun u hu => by obtain ⟨m,xs,hh⟩ := h.rs_row hu;exact apart_ne (apart_types hh h.box (by decide)) rfl)
 have hb := h.bl.wrote h5 (apart_ne (apart_types h.bl.row h.box (by decide)) rfl) (fun u hu => by obtain ⟨m,xs,hh⟩ := h.hs_row hu;exact apart_ne (apart_types hh h.box (by decide)) rfl) List.mem_cons_self rfl
 refine ⟨h.three,h4,hf.take hm,hb.list fun r' hr' => ?_,by rw [World.size_setCell];exact h.lt1⟩
 rcases List.mem_cons.1 hr' with rfl | hr'
 ·exact ⟨_,List.mem_cons_self,rfl⟩
 rcases List.mem_cons.1 hr' with rfl | hr'
 ·exact ⟨_,List.mem_cons_of_mem _ List.mem_cons_self,rfl⟩
 rcases List.mem_cons.1 hr' with rfl | hr'
 ·exact ⟨_,List.mem_cons_of_mem _ (List.mem_cons_of_mem _ List.mem_cons_self),rfl⟩
 rcases List.mem_append.1 hr' with hr' | hr'
 ·exact ⟨r',List.mem_cons_of_mem _ (List.mem_cons_of_mem _ (List.mem_cons_of_mem _ (List.mem_append_left _ (List.mem_of_mem_take hr')))),rfl⟩
 ·exact ⟨r',List.mem_cons_of_mem _ (List.mem_cons_of_mem _ (List.mem_cons_of_mem _ (List.mem_append_right _ hr'))),rfl⟩
set_option maxRecDepth 4000 in
theorem leave_clean {X : List Value} {B R : Nat} {P3 : List Value} {w : World} {t : Tsk} {n : Int} {VF VB : Value} {rs hs : List Value} {gs : List (List Value)} (h : RunSt X B R P3 w t n VF VB rs hs gs) {f : Frm} (ht : TopOk t f) (v : Int) (hcl : f.cleanup = true) (hm : -1000 ≤ t.mask ∧ t.mask ≤ 1000) :
  Calls Tryz.prog 93 #[.pointer (some ⟨R,0,none⟩),int .i64 v] w (OpPost X B R P3 w (giveS t f v) n) := by
 have hwr : wr64 (t.mask - 1) = t.mask - 1 := by have := hm.1;have := hm.2;unfold wr64 wrap64;omega
 have hR : giveS t f v = ({ t with frames := t.frames.take (t.frames.length - 1),mask := t.mask - 1 },⟨4,0,0⟩) := by unfold giveS;rw [if_pos hcl,hwr]
 rw [hR]
 have hlR := h.lt.2
 have hBR := h.lt.1
 have hBW : B ≤ w.heap.size := by have := h.lt;omega
 obtain ⟨gF,cF,v',rfl,hv,hpos,hgF,⟨Av,cv,rfl,hcv⟩,c0,c1,c2,c3,c4⟩ := h.top ht.top
 have hcF : t.frames.length ≤ cF := by
  obtain ⟨A9,cF',e9,hcF,_⟩ := ownsRow_shape h.fr.row
  injection e9 with q1 q2 q3
  omega
 have m1 : w.cell? ⟨R,10,none⟩ = some (.slice (some ⟨gF,0,none⟩) t.frames.length cF) := h.cellT (j := 7) rfl
 have m2 : w.cell? ⟨R,12,none⟩ = some (int .i64 t.mask) := h.cellT (j := 9) rfl
 have f1 := h.frozen 10
 have f2 := h.frozen 12
 have hwm : IntKind.i64.wrap (t.mask - 1) = t.mask - 1 := IntWalk.i64_in _ (by have := hm.1;have := hm.2;omega)
 have H := Lib.hid h
 have HH := Lib.hid ((h.pop (m := t.frames.length - 1) (Nat.sub_le _ _)).set_mask (t.mask - 1))
 have hl := ht.len
 rw [hcl] at c4
 clear h ht hv hcl hR hm hwr
 obtain ⟨N,hN⟩ : ∃ N,t.frames.length = N := ⟨_,rfl⟩
 rw [hN] at m1 c0 c1 c2 c3 c4 hpos hl HH hcF ⊢
 have hsF : IntKind.i64.wrap ((N : Int) - 1) = ((N - 1 : Nat) : Int) := by rw [IntWalk.i64_in _ (by omega)];omega
 have hs1F : ((N - 1 : Nat) : Int) < (N : Int) := by omega
 have hs2F : (0 : Int) ≤ ((N - 1 : Nat) : Int) := by omega
 have hs3F : ((N - 1 : Nat) : Int) ≤ (cF : Int) := by omega
 clear hN
 go_enter Tryz.func93,Tryz.ntmps93
 go_wp2
 refine ⟨rfl,rfl,⟨_,_,_,_,_,HH.out.mono ?_⟩, ?_⟩
 ·exact xt
 ·exact Kept.trans (Kept.store (Kept.store (Kept.refl _ _) hBR _ (H.out.hotR.setCell _ _)) hBR _ ((H.out.hotR.setCell _ _).setCell _ _)) (Kept.mono (show Ext _ _ from xt) (by simp only [World.size_setCell];exact hBW))
theorem OBl.list2 {B : Nat} {w : World} {bs : List Blk} {VB : Value} {hs : List Value} {gs : List (List Value)} {L L' : List Value} (h : OBl B w bs VB hs gs L) (hL : ∀ r' ∈ L',(∃ r ∈ L,r'.ownBlock = r.ownBlock) ∨ (∀ x,r'.ownBlock = some x → w.heap.size ≤ x)) : OBl B w bs VB hs gs L' :=
 ⟨h.len,h.alen,h.row,h.hnd,fun i b a k x v e1 e2 e3 e4 => by
  obtain ⟨a1,a2,a3⟩ := h.arg i b a k x v e1 e2 e3 e4
  rcases a3 with hh | hh
  ·exact ⟨a1,a2,.inl hh⟩
  by_cases hx : x.args = []
  ·exact ⟨a1,a2,.inl hx⟩
  refine ⟨a1,a2,.inr fun r' hr' => ?_⟩
  rcases hL r' hr' with ⟨r,hr,e⟩ | h9
  ·have := hh r hr
   unfold Apart at *
   rw [e]
   exact this
  ·rcases a2.low (rs := [r']) (fun r hr => by rw [List.mem_singleton] at hr;subst hr;exact h9) with h8 | h8
   ·exact absurd h8 hx
   ·exact h8 r' List.mem_cons_self,h.dis,h.inr⟩
theorem OFr.push {B : Nat} {w W W1 : World} {fs : List Frm} {VF VF' : Value} {rs : List Value} {f : Frm} {v : Value} (h : OFr B w fs VF rs) (hE : Ext w W) (hB : B ≤ w.heap.size)
  (hv : W.ownsRow w.heap.size 3 1 v f.regs.length (f.regs.map (int .i64))) (hap : W1.ownsRow B 62 5 VF' (fs.length + 1) (rowOf frmCells fs rs ++ frmCells f v)) (hg : W.grownBy W1 VF.ownBlock)
  (hi : InR f.fn ∧ InR f.pc ∧ InR f.result ∧ ∀ x ∈ f.regs,InR x) : OFr B W1 (fs ++ [f]) VF' (rs ++ [v]) := by
 have hlast : (fs ++ [f])[fs.length]? = some f := by rw [List.getElem?_append_right (Nat.le_refl _),Nat.sub_self];rfl
 have hC : Cp frmCells 62 3 1 (frmN (fs ++ [f])) (frmC (fs ++ [f])) B w fs VF rs rs fs.length :=
  ⟨h.len,h.row,fun _ _ => rfl,fun i u hi hu => by
   have hf : fs[i]? = some fs[i] := List.getElem?_eq_getElem hi
   have hf2 : (fs ++ [f])[i]? = some fs[i] := by rw [List.getElem?_append_left hi];exact hf
   have := h.reg i _ u hf hu
   unfold frmN frmC
   rw [hf2]
   exact this,fun i j u1 u2 _ _ hij e1 e2 => h.dis i j u1 u2 hij e1 e2⟩
 have h2 := Cp.push (f := f) (v := v) (by decide) hC hE hB (by unfold frmN frmC;rw [hlast];exact hv) hap hg
 refine CpF.done h2 fun x hx => ?_
 rcases List.mem_append.1 hx with hx | hx
 ·exact h.inr x hx
 ·rw [List.mem_singleton] at hx;subst hx;exact hi
theorem RunSt.L_low {X : List Value} {B R : Nat} {P3 : List Value} {w : World} {t : Tsk} {n : Int} {VF VB : Value} {rs hs : List Value} {gs : List (List Value)} (h : RunSt X B R P3 w t n VF VB rs hs gs) {r : Value} (hr : r ∈ boxV R :: VF :: VB :: (rs ++ (hs ++ X))) {x : Nat} (hx : r.ownBlock = some x) : x < w.heap.size := by
 rcases List.mem_cons.1 hr with rfl | hr
 ·exact (h.box.lt x hx).2
 rcases List.mem_cons.1 hr with rfl | hr
 ·exact (h.fr.row.lt x hx).2
 rcases List.mem_cons.1 hr with rfl | hr
 ·exact (h.bl.row.lt x hx).2
 rcases List.mem_append.1 hr with hr | hr
 ·obtain ⟨m,xs,hh⟩ := h.rs_row hr;exact (hh.lt x hx).2
 rcases List.mem_append.1 hr with hr | hr
 ·obtain ⟨m,xs,hh⟩ := h.hs_row hr;exact (hh.lt x hx).2
 ·exact h.lt1 r hr x hx
theorem RunSt.push {X : List Value} {B R : Nat} {P3 : List Value} {w W W1 : World} {t : Tsk} {n : Int} {VF VF' VB : Value} {rs hs : List Value} {gs : List (List Value)} (h : RunSt X B R P3 w t n VF VB rs hs gs) {f : Frm} {v : Value} {g : Nat} (hVF : VF.ownBlock = some g)
  (hE : Ext w W) (hv : W.ownsRow w.heap.size 3 1 v f.regs.length (f.regs.map (int .i64))) (hap : W1.ownsRow B 62 5 VF' (t.frames.length + 1) (rowOf frmCells t.frames rs ++ frmCells f v)) (hg : W.grownBy W1 VF.ownBlock)
  (hat : VF'.ownBlock = VF.ownBlock ∨ VF'.ownBlock = some W.heap.size) (hi : InR f.fn ∧ InR f.pc ∧ InR f.result ∧ ∀ x ∈ f.regs,InR x) :
  RunSt X B R P3 (W1.setCell ⟨R,10,none⟩ VF') { t with frames := t.frames ++ [f] } n VF' VB (rs ++ [v]) hs gs := by
 have hBw : B ≤ w.heap.size := by have := h.lt;omega
 have hf1 := h.fr.push hE hBw hv hap hg hi
 have hb1 : OBl B w t.blocks VB hs gs (VF :: boxV R :: VF' :: VB :: ((rs ++ [v]) ++ (hs ++ X))) := h.bl.list2 fun r' hr' => by
  rcases List.mem_cons.1 hr' with rfl | hr'
  ·exact .inl ⟨_,List.mem_cons_of_mem _ List.mem_cons_self,rfl⟩
  rcases List.mem_cons.1 hr' with rfl | hr'
  ·exact .inl ⟨_,List.mem_cons_self,rfl⟩
  rcases List.mem_cons.1 hr' with rfl | hr'
  ·rcases hat with e | e
   ·exact .inl ⟨_,List.mem_cons_of_mem _ List.mem_cons_self,e⟩
   ·exact .inr fun x hx => by rw [e] at hx;injection hx with hx;subst hx;exact hE.size
  rcases List.mem_cons.1 hr' with rfl | hr'
  ·exact .inl ⟨_,List.mem_cons_of_mem _ (List.mem_cons_of_mem _ List.mem_cons_self),rfl⟩
  rcases List.mem_append.1 hr' with hr' | hr'
  ·rcases List.mem_append.1 hr' with hr' | hr'
   ·exact .inl ⟨r',List.mem_cons_of_mem _ (List.mem_cons_of_mem _ (List.mem_cons_of_mem _ (List.mem_append_left _ hr'))),rfl⟩
   ·rw [List.mem_singleton] at hr'
    subst hr'
    exact .inr fun x hx => (hv.lt x hx).1
  ·exact .inl ⟨r',List.mem_cons_of_mem _ (List.mem_cons_of_mem _ (List.mem_cons_of_mem _ (List.mem_append_right _ hr'))),rfl⟩
 have hg' : W.grownBy W1 (some g) := by rw [← hVF];exact hg
 have hbx := h.box
 have hrows : ∀ u ∈ hs,u.ownBlock = none ∨ u.ownBlock ≠ some g := fun u hu => by obtain ⟨m,xs,hh⟩ := h.hs_row hu;exact apart_ne (apart_types hh h.fr.row (by decide)) hVF
 have hb2 := (hb1.mono hE).wrote hg' (apart_ne (apart_types h.bl.row h.fr.row (by decide)) hVF) hrows List.mem_cons_self hVF
 have hbx2 := (ownsRow_ext hbx hE).kept hg' (apart_ne (apart_types hbx h.fr.row (by decide)) hVF)
 obtain ⟨h4,h5⟩ := World.ownsRow.stored (g := R) (n := 1) (cap := 1) hbx2 10 VF'
 have hc : (P3 ++ (tskL t VF VB ++ [int .i64 n])).set 10 VF' = P3 ++ (tskL { t with frames := t.frames ++ [f] } VF' VB ++ [int .i64 n]) := by
  rw [show 10 = P3.length + 7 by rw [h.three],set_right];rfl
 rw [hc] at h4
 refine ⟨h.three,h4,hf1.kept h5 (apart_ne (apart_types hf1.row hbx2 (by decide)) rfl) (fun u hu => ?_), ?_,by rw [World.size_setCell];exact fun r hr x hx => Nat.lt_of_lt_of_le (h.lt1 r hr x hx) (Nat.le_trans hE.size hg.size)⟩
 ·obtain ⟨i,hil,rfl⟩ := List.getElem_of_mem hu
  exact apart_ne (apart_types (hf1.reg i _ _ (List.getElem?_eq_getElem (by rw [← hf1.len];exact hil)) (List.getElem?_eq_getElem hil)) hbx2 (by decide)) rfl
 ·have h6 := hb2.wrote h5 (apart_ne (apart_types hb2.row hbx2 (by decide)) rfl) (fun u hu => by
   obtain ⟨i,hi,rfl⟩ := List.getElem_of_mem hu
   exact apart_ne (apart_types (hb2.hnd i _ _ _ (List.getElem?_eq_getElem (show i < t.blocks.length by rw [← hb2.len];exact hi)) (List.getElem?_eq_getElem hi) (List.getElem?_eq_getElem (show i < gs.length by rw [hb2.alen,← hb2.len];exact hi))).2 hbx2 (by decide)) rfl)
   (List.mem_cons_of_mem _ List.mem_cons_self) rfl
  exact h6.list fun r' hr' => ⟨r',List.mem_cons_of_mem _ hr',rfl⟩
theorem RArgs.of_row {W : World} {C : Nat} {v : Value} {xs : List Int} (h : W.ownsRow C 3 1 v xs.length (xs.map (int .i64))) (hn : xs.length ≤ 1000) (hi : ∀ x ∈ xs,InR x) : RArgs W xs v := by
 obtain ⟨A2,c2,rfl,hc2,_,hcs2⟩ := ownsRow_shape h
 refine ⟨A2,_,c2,rfl,⟨rfl,by omega,fun q x hq => ?_⟩,hc2⟩
 obtain ⟨b2,o2,rfl,hcell2⟩ := hcs2.2 (by have := (List.getElem?_eq_some_iff.1 hq).1;omega)
 refine ⟨b2,o2,[int .i64 x],rfl,rfl,⟨rfl,hi x (List.mem_of_getElem? hq)⟩,fun j u hj => ?_⟩
 cases j with
 | zero =>
  simp only [List.getElem?_cons_zero,Option.some.injEq] at hj
  subst hj
  have := hcell2 q (int .i64 x) (by rw [List.getElem?_map,hq];rfl)
  simpa using this
 | succ j => simp at hj
theorem snoc_cases {α : Type} {l : List α} {x y : α} {q : Nat} (h : (l ++ [x])[q]? = some y) : (q < l.length ∧ l[q]? = some y) ∨ (q = l.length ∧ y = x) := by
 rw [List.getElem?_append] at h
 split at h
 ·exact .inl ⟨by assumption,h⟩
 ·rename_i hn
  have hz : q - l.length = 0 := by
   rcases Nat.eq_zero_or_pos (q - l.length) with h0 | h0
   ·exact h0
   ·rw [List.getElem?_eq_none (by simp;omega)] at h;cases h
  rw [hz] at h
  simp only [List.getElem?_cons_zero,Option.some.injEq] at h
  exact .inr ⟨by omega,h.symm⟩
theorem set_cases {α : Type} {l : List α} {x y : α} {k i : Nat} (h : (l.set k x)[i]? = some y) : (i = k ∧ y = x) ∨ (i ≠ k ∧ l[i]? = some y) := by
 rw [List.getElem?_set] at h
 split at h
 ·rename_i e
  split at h
  ·injection h with h;exact .inl ⟨e.symm,h.symm⟩
  ·cases h
 ·rename_i e;exact .inr ⟨fun e' => e e'.symm,h⟩
theorem high_apart {u v : Value} {m : Nat} (hu : ∀ x,u.ownBlock = some x → x < m) (hv : ∀ x,v.ownBlock = some x → m ≤ x) : Apart u v := by
 unfold Apart
 cases hx : u.ownBlock with
 | none => exact .inl rfl
 | some x => exact .inr fun e => by have := hu x hx;have := hv x e.symm;omega
theorem high_apart' {u v : Value} {m : Nat} (hu : ∀ x,u.ownBlock = some x → x < m) (hv : ∀ x,v.ownBlock = some x → m ≤ x) : Apart v u := by
 unfold Apart
 cases hx : v.ownBlock with
 | none => exact .inl rfl
 | some x => exact .inr fun e => by have := hv x hx;have := hu x e.symm;omega
theorem RunSt.handler {X : List Value} {B R k : Nat} {P3 : List Value} {w W W1 : World} {t : Tsk} {n : Int} {VF VB : Value} {rs hs : List Value} {gs : List (List Value)} (h : RunSt X B R P3 w t n VF VB rs hs gs) {b : Blk} {v : Value} {a : List Value} (hb : t.blocks[k]? = some b) (hv : hs[k]? = some v) (ha : gs[k]? = some a)
  {y : Hdl} {av v' : Value} (hE : Ext w W) (hav : W.ownsRow w.heap.size 3 1 av y.args.length (y.args.map (int .i64))) (hyn : y.args.length ≤ 1000) (hyi : InR y.fn ∧ ∀ x ∈ y.args,InR x)
  (hap : W1.ownsRow B 58 2 v' (b.handlers.length + 1) (rowOf hdlCells b.handlers a ++ hdlCells y av)) (hg : W.grownBy W1 v.ownBlock) (hat : v'.ownBlock = v.ownBlock ∨ v'.ownBlock = some W.heap.size)
  {gB cB : Nat} (hVB : VB = .slice (some ⟨gB,0,none⟩) t.blocks.length cB) :
  RunSt X B R P3 (W1.setCell ⟨gB,k * 5 + 4,none⟩ v') { t with blocks := t.blocks.set k { b with handlers := b.handlers ++ [y] } } n VF VB rs (hs.set k v') (gs.set k (a ++ [av])) := by
 subst hVB
 have hkb : k < t.blocks.length := (List.getElem?_eq_some_iff.1 hb).1
 obtain ⟨hal,hrow⟩ := h.bl.hnd k b v a hb hv ha
 have hvm : v ∈ boxV R :: VF :: .slice (some ⟨gB,0,none⟩) t.blocks.length cB :: (rs ++ (hs ++ X)) := List.mem_cons_of_mem _ (List.mem_cons_of_mem _ (List.mem_cons_of_mem _ (List.mem_append_right _ (List.mem_append_left _ (List.mem_of_getElem? hv)))))
 have hlow : ∀ r ∈ boxV R :: VF :: .slice (some ⟨gB,0,none⟩) t.blocks.length cB :: (rs ++ (hs ++ X)),∀ x,r.ownBlock = some x → x < w.heap.size := fun r hr x hx => h.L_low hr hx
 have hv'x : ∀ {u : Value},(∀ x,u.ownBlock = some x → x < w.heap.size) → Apart v u → Apart v' u := fun {u} hu hvu => by
  rcases hat with e | e
  ·unfold Apart at *;rw [e];exact hvu
  ·exact high_apart' hu fun x hx => by rw [e] at hx;injection hx with hx;subst hx;exact hE.size
 have hv'y : ∀ {u : Value},(∀ x,u.ownBlock = some x → x < w.heap.size) → Apart u v → Apart u v' := fun {u} hu hvu => by
  rcases hat with e | e
  ·unfold Apart at *;rw [e];exact hvu
  ·exact high_apart hu fun x hx => by rw [e] at hx;injection hx with hx;subst hx;exact hE.size
 have hb1 : OBl B w t.blocks _ hs gs (v' :: boxV R :: VF :: .slice (some ⟨gB,0,none⟩) t.blocks.length cB :: (rs ++ (hs ++ X))) := h.bl.list2 fun r' hr' => by
  rcases List.mem_cons.1 hr' with rfl | hr'
  ·rcases hat with e | e
   ·exact .inl ⟨v,hvm,e⟩
   ·exact .inr fun x hx => by rw [e] at hx;injection hx with hx;subst hx;exact hE.size
  ·exact .inl ⟨r',hr',rfl⟩
 have hbW := hb1.mono hE
 have hbx1 := (ownsRow_ext h.box hE).kept hg (apart_types h.box hrow (by decide))
 have hfr1 := (h.fr.mono hE).kept hg (apart_types h.fr.row hrow (by decide)) (fun u hu => by obtain ⟨m,xs,hh⟩ := h.rs_row hu;exact apart_types hh hrow (by decide))
 have hbr1 := hbW.row.kept hg (apart_types h.bl.row hrow (by decide))
 obtain ⟨h4,h5⟩ := hbr1.stored (k * 5 + 4) v'
 have hVBm : (.slice (some ⟨gB,0,none⟩) t.blocks.length cB : Value) ∈ boxV R :: VF :: .slice (some ⟨gB,0,none⟩) t.blocks.length cB :: (rs ++ (hs ++ X)) := List.mem_cons_of_mem _ (List.mem_cons_of_mem _ List.mem_cons_self)
 have hkeep : ∀ {u : Value} {xs : List Int},RArgs W xs u → (xs = [] ∨ (Apart v u ∧ Apart (.slice (some ⟨gB,0,none⟩) t.blocks.length cB) u)) → RArgs (W1.setCell ⟨gB,k * 5 + 4,none⟩ v') xs u := fun {u xs} h1 h2 => by
  by_cases hx : xs = []
  ·subst hx
   obtain ⟨A,m,c,rfl,h3,h6⟩ := h1
   exact ⟨A,m,c,rfl,⟨h3.1,h3.2.1,fun k x hk => by simp at hk⟩,h6⟩
  ·rcases h2 with h2 | ⟨h2,h3⟩
   ·exact absurd h2 hx
   ·refine (h1.kept hg ?_).kept h5 ?_
    ·rcases h2 with e | e
     ·cases hu : u.ownBlock with
      | none => exact .inl rfl
      | some x => rw [e];exact .inr (fun e => by cases e)
     ·exact .inr fun e' => e e'.symm
    ·rcases h3 with e | e
     ·cases e
     ·exact .inr fun e' => e e'.symm
 refine ⟨h.three,hbx1.kept h5 (apart_ne (apart_types hbx1 hbr1 (by decide)) rfl),hfr1.kept h5 (apart_ne (apart_types hfr1.row hbr1 (by decide)) rfl) (fun u hu => by
   obtain ⟨i,hil,rfl⟩ := List.getElem_of_mem hu
   exact apart_ne (apart_types (hfr1.reg i _ _ (List.getElem?_eq_getElem (by rw [← hfr1.len];exact hil)) (List.getElem?_eq_getElem hil)) hbr1 (by decide)) rfl), ?_,by rw [World.size_setCell];exact fun r hr x hx => Nat.lt_of_lt_of_le (h.lt1 r hr x hx) (Nat.le_trans hE.size hg.size)⟩
 refine ⟨by rw [List.length_set,List.length_set];exact h.bl.len,by rw [List.length_set,List.length_set];exact h.bl.alen, ?_,fun i b2 u a2 e1 e2 e3 => ?_,fun i b2 a2 q x u e1 e2 e3 e4 => ?_,fun i j u1 u2 hij e1 e2 => ?_,fun b2 hb2 => ?_⟩
 ·rw [List.length_set,rowOf_same hb (List.getElem?_set_self (by rw [h.bl.len];exact hkb)) (by rfl),← rowOf_put blkCells_len (j := 4) (u := v') (v' := v') hb hv (by omega) (by rfl)]
  exact h4
 ·rcases set_cases e1 with ⟨rfl,rfl⟩ | ⟨hne,e1'⟩
  ·rcases set_cases e2 with ⟨_,rfl⟩ | ⟨hne,_⟩
   ·rcases set_cases e3 with ⟨_,rfl⟩ | ⟨hne,_⟩
    ·refine ⟨by simp [hal], ?_⟩
     have h9 := hap.kept h5 (apart_ne (apart_types hap hbr1 (by decide)) rfl)
     have hsn : rowOf hdlCells (b.handlers ++ [y]) (a ++ [av]) = rowOf hdlCells b.handlers a ++ hdlCells y av := rowOf_snoc hal
     rw [List.length_append,List.length_singleton,hsn]
     exact h9
    ·exact absurd rfl hne
   ·exact absurd rfl hne
  ·rcases set_cases e2 with ⟨e,_⟩ | ⟨_,e2'⟩
   ·exact absurd e hne
   ·rcases set_cases e3 with ⟨e,_⟩ | ⟨_,e3'⟩
    ·exact absurd e hne
    ·obtain ⟨q1,q2⟩ := hbW.hnd i b2 u a2 e1' e2' e3'
     have q3 := q2.kept hg (h.bl.dis i k u v hne e2' hv)
     exact ⟨q1,q3.kept h5 (apart_ne (apart_types q3 hbr1 (by decide)) rfl)⟩
 ·have hL : ∀ {u : Value},(∀ r ∈ (v' :: boxV R :: VF :: .slice (some ⟨gB,0,none⟩) t.blocks.length cB :: (rs ++ (hs ++ X))),Apart r u) → ∀ r ∈ boxV R :: VF :: .slice (some ⟨gB,0,none⟩) t.blocks.length cB :: (rs ++ (hs.set k v' ++ X)),Apart r u := fun {u} hh r hr => by
   rcases List.mem_cons.1 hr with rfl | hr
   ·exact hh _ (List.mem_cons_of_mem _ List.mem_cons_self)
   rcases List.mem_cons.1 hr with rfl | hr
   ·exact hh _ (List.mem_cons_of_mem _ (List.mem_cons_of_mem _ List.mem_cons_self))
   rcases List.mem_cons.1 hr with rfl | hr
   ·exact hh _ (List.mem_cons_of_mem _ (List.mem_cons_of_mem _ (List.mem_cons_of_mem _ List.mem_cons_self)))
   rcases List.mem_append.1 hr with hr | hr
   ·exact hh _ (List.mem_cons_of_mem _ (List.mem_cons_of_mem _ (List.mem_cons_of_mem _ (List.mem_cons_of_mem _ (List.mem_append_left _ hr)))))
   rcases List.mem_append.1 hr with hr | hr
   ·rcases List.mem_or_eq_of_mem_set hr with hr | rfl
    ·exact hh _ (List.mem_cons_of_mem _ (List.mem_cons_of_mem _ (List.mem_cons_of_mem _ (List.mem_cons_of_mem _ (List.mem_append_right _ (List.mem_append_left _ hr))))))
    ·exact hh _ List.mem_cons_self
   ·exact hh _ (List.mem_cons_of_mem _ (List.mem_cons_of_mem _ (List.mem_cons_of_mem _ (List.mem_cons_of_mem _ (List.mem_append_right _ (List.mem_append_right _ hr))))))
  have old : ∀ (i : Nat) (b3 : Blk) (a3 : List Value),t.blocks[i]? = some b3 → gs[i]? = some a3 → b3.handlers[q]? = some x → a3[q]? = some u →
    InR x.fn ∧ RArgs (W1.setCell ⟨gB,k * 5 + 4,none⟩ v') x.args u ∧ (x.args = [] ∨ ∀ r ∈ boxV R :: VF :: .slice (some ⟨gB,0,none⟩) t.blocks.length cB :: (rs ++ (hs.set k v' ++ X)),Apart r u) := fun i b3 a3 e1 e2 e3 e4 => by
   obtain ⟨q1,q2,q3⟩ := hbW.arg i b3 a3 q x u e1 e2 e3 e4
   refine ⟨q1,hkeep q2 (q3.imp id fun hh => ⟨hh v (List.mem_cons_of_mem _ hvm),hh _ (List.mem_cons_of_mem _ hVBm)⟩),q3.imp id hL⟩
  rcases set_cases e1 with ⟨rfl,rfl⟩ | ⟨hne,e1'⟩
  ·rcases set_cases e2 with ⟨_,rfl⟩ | ⟨hne,_⟩
   ·rcases snoc_cases e4 with ⟨hq,e4'⟩ | ⟨hq,rfl⟩
    ·rcases snoc_cases e3 with ⟨_,e3'⟩ | ⟨hq',_⟩
     ·exact old i b a hb ha e3' e4'
     ·omega
    ·rcases snoc_cases e3 with ⟨hq',_⟩ | ⟨_,rfl⟩
     ·omega
     ·have hav2 : ∀ z,u.ownBlock = some z → w.heap.size ≤ z ∧ z < W.heap.size := fun z hz => hav.lt z hz
      have hRA := RArgs.of_row hav hyn hyi.2
      have hall : ∀ r ∈ (v' :: boxV R :: VF :: .slice (some ⟨gB,0,none⟩) t.blocks.length cB :: (rs ++ (hs ++ X))),Apart r u := fun r hr => by
       rcases List.mem_cons.1 hr with rfl | hr
       ·rcases hat with e | e
        ·have := high_apart (u := v) (v := u) (hlow v hvm) fun z hz => (hav2 z hz).1
         unfold Apart at *;rw [e];exact this
        ·unfold Apart;rw [e];exact .inr fun e' => by have := (hav2 _ e'.symm).2;omega
       ·exact high_apart (hlow r hr) fun z hz => (hav2 z hz).1
      exact ⟨hyi.1,hkeep hRA (.inr ⟨hall v (List.mem_cons_of_mem _ hvm),hall _ (List.mem_cons_of_mem _ hVBm)⟩),.inr (hL hall)⟩
   ·exact absurd rfl hne
  ·rcases set_cases e2 with ⟨e,_⟩ | ⟨_,e2'⟩
   ·exact absurd e hne
   ·exact old i b2 a2 e1' e2' e3 e4
 ·have hm : ∀ (i : Nat) (u : Value),hs[i]? = some u → ∀ x,u.ownBlock = some x → x < w.heap.size := fun i u hu => hlow u (List.mem_cons_of_mem _ (List.mem_cons_of_mem _ (List.mem_cons_of_mem _ (List.mem_append_right _ (List.mem_append_left _ (List.mem_of_getElem? hu))))))
  rcases set_cases e1 with ⟨rfl,rfl⟩ | ⟨hne,e1'⟩ <;> rcases set_cases e2 with ⟨hjk,rfl⟩ | ⟨hne2,e2'⟩
  ·exact absurd hjk.symm hij
  ·exact hv'x (hm j u2 e2') (h.bl.dis _ j v u2 hij hv e2')
  ·subst hjk;exact hv'y (hm i u1 e1') (h.bl.dis i _ u1 v hij e1' hv)
  ·exact h.bl.dis i j u1 u2 hij e1' e2'
 ·rcases List.mem_or_eq_of_mem_set hb2 with hb2 | rfl
  ·exact h.bl.inr b2 hb2
  ·exact h.bl.inr b (List.mem_of_getElem? hb)
end Go.Proofs.YtcjjoabofecjmaaGreat

