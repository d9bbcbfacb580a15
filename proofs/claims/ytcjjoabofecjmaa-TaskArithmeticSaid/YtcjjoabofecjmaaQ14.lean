/- A part of the proof: copied of package task. -/
import Derived.Test.YtcjjoabofecjmaaQ10
set_option linter.unusedVariables false
set_option linter.unusedSimpArgs false
set_option maxHeartbeats 16000000
namespace Go.Proofs.Ytcjjoabofecjmaa
open Go.RowKit
open Go.Value (int)
attribute [local go_sem] Oper.semAt_some
theorem wp_hid2 {P : Program} {c : Code} {Q : Exit → Act → World → Prop} {a : Act} {w : World} (h : ∀ W,Hid (W = w) → c.wp P Q a W) : c.wp P Q a w := h w rfl
theorem grown_setCell (w : World) (p : Addr) (v : Value) : w.grownBy (w.setCell p v) (some p.block) :=
 ⟨rfl,rfl,rfl,by simp,fun i hi hne => by
  simp only [World.setCell,Array.getElem?_modify]
  rw [if_neg (fun e => hne (by rw [e]))]⟩
theorem own_ne {w : World} {B : Nat} {e : TypeId} {sz : Nat} {v : Value} {n : Nat} {xs : List Value} (h : w.ownsRow B e sz v n xs) {b : Nat} (hb : b < B) : v.ownBlock = none ∨ v.ownBlock ≠ some b := by
 cases hv : v.ownBlock with
 | none => exact .inl rfl
 | some g => exact .inr (fun e => by have := (h.lt g hv).1;injection e with e;omega)
theorem ext_grown {w W : World} (h : Ext w W) (row : Option Nat) : w.grownBy W row := ⟨h.os,h.tape,h.output,h.size,fun i hi _ => h.block i hi⟩
theorem frmN_at {fs : List Frm} {k : Nat} {f : Frm} (h : fs[k]? = some f) : frmN fs k = f.regs.length := by simp [frmN,h]
theorem frmC_at {fs : List Frm} {k : Nat} {f : Frm} (h : fs[k]? = some f) : frmC fs k = f.regs.map (int .i64) := by simp [frmC,h]
theorem blkN_at {bs : List Blk} {k : Nat} {b : Blk} (h : bs[k]? = some b) : blkN bs k = b.handlers.length := by simp [blkN,h]
theorem blkC_at {bs : List Blk} {gs : List (List Value)} {k : Nat} {b : Blk} {g : List Value} (h : bs[k]? = some b) (hg : gs[k]? = some g) : blkC bs gs k = rowOf hdlCells b.handlers g := by simp [blkC,h,hg]
theorem RSl.int_in {w : World} {A : Option Addr} {n : Nat} {xs : List Int} (h : RSl 1 RInt w A n xs) : ∀ x ∈ xs,InR x := fun x hx => by
 obtain ⟨i,hi,rfl⟩ := List.getElem_of_mem hx
 obtain ⟨_,_,_,_,h1,_⟩ := h.int (List.getElem?_eq_getElem hi)
 exact h1
theorem RSl.frm_in {w : World} {A : Option Addr} {n : Nat} {fs : List Frm} (h : RSl 5 RFrm w A n fs) : ∀ f : Frm,f ∈ fs → InR f.fn ∧ InR f.pc ∧ InR f.result ∧ ∀ x ∈ f.regs,InR x := fun f hf => by
 obtain ⟨i,hi,rfl⟩ := List.getElem_of_mem hf
 obtain ⟨_,_,_,_,_,_,_,h1,h2,h3,h4,_⟩ := h.frm (List.getElem?_eq_getElem hi)
 exact ⟨h1,h2,h3,h4.1.int_in⟩
theorem RSl.blk_in {w : World} {A : Option Addr} {n : Nat} {bs : List Blk} (h : RSl 5 RBlk w A n bs) : ∀ b : Blk,b ∈ bs → InR b.scope ∧ InR b.depth ∧ InR b.exit ∧ InR b.mask := fun f hf => by
 obtain ⟨i,hi,rfl⟩ := List.getElem_of_mem hf
 obtain ⟨_,_,_,_,_,_,_,h1,h2,h3,h4,_⟩ := h.blk (List.getElem?_eq_getElem hi)
 exact ⟨h1,h2,h3,h4⟩
def Low (w : World) (L : List Value) : Prop := ∀ r ∈ L,∀ x,r.ownBlock = some x → w.heap.size ≤ x
theorem RArgs.low {w : World} {xs : List Int} {v : Value} (h : RArgs w xs v) {rs : List Value} (hr : ∀ r ∈ rs,∀ x,r.ownBlock = some x → w.heap.size ≤ x) : xs = [] ∨ ∀ r ∈ rs,Apart r v := by
 obtain ⟨A,n,c,rfl,h1,_⟩ := h
 cases xs with
 | nil => exact .inl rfl
 | cons x xs =>
  refine .inr fun r hm => ?_
  obtain ⟨b,o,rfl,hb,_⟩ := h1.int (k := 0) rfl
  unfold Apart
  cases hx : r.ownBlock with
  | none => exact .inl rfl
  | some y => refine .inr fun e => ?_;have := hr r hm y hx;simp [Value.ownBlock] at e;omega
theorem Cp.kept {α : Type} {fc : α → Value → List Value} {e e2 : TypeId} {sz2 : Nat} {cn : Nat → Nat} {cc : Nat → List Value} {B r : Nat} {w W : World} {fs : List α} {VF : Value} {rs0 rs : List Value} {k : Nat} (h : Cp fc e e2 sz2 cn cc B w fs VF rs0 rs k) (hg : w.grownBy W (some r)) (hr : r < B) : Cp fc e e2 sz2 cn cc B W fs VF rs0 rs k :=
 ⟨h.len,h.row.kept hg (own_ne h.row hr),h.old,fun i v hi h1 => (h.reg i v hi h1).kept hg (own_ne (h.reg i v hi h1) hr),h.dis⟩
theorem OFr.base {B B' : Nat} {w : World} {fs : List Frm} {VF : Value} {rs : List Value} (h : OFr B w fs VF rs) (hb : B' ≤ B) : OFr B' w fs VF rs := ⟨h.len,World.ownsRow.mono h.row hb,fun i f v a b => World.ownsRow.mono (h.reg i f v a b) hb,h.dis,h.inr⟩
theorem OBl.base {B B' : Nat} {w : World} {bs : List Blk} {VB : Value} {hs : List Value} {gs : List (List Value)} {rs : List Value} (h : OBl B w bs VB hs gs rs) (hb : B' ≤ B) : OBl B' w bs VB hs gs rs :=
 ⟨h.len,h.alen,World.ownsRow.mono h.row hb,fun i b v a e1 e2 e3 => ⟨(h.hnd i b v a e1 e2 e3).1,World.ownsRow.mono (h.hnd i b v a e1 e2 e3).2 hb⟩,h.arg,h.dis,h.inr⟩
theorem OFr.far {B r : Nat} {w W : World} {fs : List Frm} {VF : Value} {rs : List Value} (h : OFr B w fs VF rs) (hg : w.grownBy W (some r)) (hr : r < B) : OFr B W fs VF rs :=
 h.kept hg (own_ne h.row hr) (fun v hv => by
  obtain ⟨i,hi,rfl⟩ := List.getElem_of_mem hv
  exact own_ne (h.reg i _ _ (List.getElem?_eq_getElem (by rw [← h.len];exact hi)) (List.getElem?_eq_getElem hi)) hr)
theorem OBl.wrote {B r : Nat} {w W : World} {bs : List Blk} {VB u : Value} {hs : List Value} {gs : List (List Value)} {rs : List Value} (h : OBl B w bs VB hs gs rs) (hg : w.grownBy W (some r)) (h1 : VB.ownBlock = none ∨ VB.ownBlock ≠ some r)
  (h2 : ∀ v ∈ hs,v.ownBlock = none ∨ v.ownBlock ≠ some r) (hu : u ∈ rs) (hur : u.ownBlock = some r) : OBl B W bs VB hs gs rs :=
 ⟨h.len,h.alen,h.row.kept hg h1,fun i b v a e1 e2 e3 => ⟨(h.hnd i b v a e1 e2 e3).1,(h.hnd i b v a e1 e2 e3).2.kept hg (h2 v (List.mem_of_getElem? e2))⟩,
  fun i b a k x v e1 e2 e3 e4 => by
   obtain ⟨a1,a2,a3⟩ := h.arg i b a k x v e1 e2 e3 e4
   refine ⟨a1, ?_,a3⟩
   rcases a3 with e | e
   ·rw [e] at a2 ⊢
    obtain ⟨A,n,c,rfl,h3,h4⟩ := a2
    exact ⟨A,n,c,rfl,⟨h3.1,h3.2.1,fun k x hk => by simp at hk⟩,h4⟩
   ·refine a2.kept hg ?_
    rcases e u hu with e5 | e5
    ·rw [hur] at e5;cases e5
    ·exact .inr (fun e6 => e5 (by rw [hur,e6])),h.dis,h.inr⟩
def HArgs (P : Hdl → Value → Prop) (w : World) (A : Option Addr) (bs : List Blk) : Prop := ∀ (i : Nat) (b : Blk),bs[i]? = some b → ∀ x o,A = some ⟨x,o,none⟩ → ∀ Ah nh ch,w.cell? ⟨x,o + (i * 5 + 4),none⟩ = some (.slice Ah nh ch) → ∀ (k : Nat) (h : Hdl),b.handlers[k]? = some h → ∀ y q,Ah = some ⟨y,q,none⟩ → ∀ v,w.cell? ⟨y,q + (k * 2 + 1),none⟩ = some v → P h v
def ArgsOk (P : Hdl → Value → Prop) (w : World) (t : Tsk) (V : Value) : Prop := ∀ (cs : List Value) (A : Option Addr) (n c : Nat),V = .agg cs.toArray → cs[8]? = some (.slice A n c) → HArgs P w A t.blocks
def OBlW (w0 w1 : World) (t : Tsk) (V : Value) (B : Nat) (w : World) (VB : Value) (hs : List Value) (gs : List (List Value)) : Prop := (∀ L,Low w0 L → OBl B w t.blocks VB hs gs L) ∧
 ∀ P,ArgsOk P w1 t V → ∀ (i : Nat) (b : Blk) (a : List Value),t.blocks[i]? = some b → gs[i]? = some a → ∀ (k : Nat) (h : Hdl) (v : Value),b.handlers[k]? = some h → a[k]? = some v → P h v
theorem copied_args (t : Tsk) (V : Value) (w0 w : World) (hV0 : RTsk w0 t V) (h0 : Ext w0 w) (hnf : t.frames.length ≤ 1000) (hnb : t.blocks.length ≤ 1000) (hnr : ∀ f : Frm,f ∈ t.frames → f.regs.length ≤ 1000) (hnh : ∀ b : Blk,b ∈ t.blocks → b.handlers.length ≤ 1000) :
  Calls Try.prog 18 #[V] w fun e w' => ∃ VF VB rs hs gs,e = .returned (.agg #[int .i64 t.fn,int .i64 t.scope,int .i64 t.prio,int .i64 t.status,int .i64 t.wkind,int .i64 t.windex,.bool t.wagain,VF,VB,int .i64 t.mask,.bool t.unw,int .i64 t.level,int .i64 t.reason,int .i64 t.result]) ∧
   OFr w.heap.size w' t.frames VF rs ∧ OBlW w0 w t V w.heap.size w' VB hs gs ∧ Ext w w' := by
 have hV := hV0.mono h0
 obtain ⟨Af,nf,cf,Ab,nb,cb,rfl,_,_,_,_,_,_,_,_,_,_,hF,hB,hcf,hcb⟩ := hV
 have hB0 : RSl 5 RBlk w0 Ab nb t.blocks := by
  obtain ⟨_,_,_,Ab',nb',cb',e,_,_,_,_,_,_,_,_,_,_,_,hB0,_,_⟩ := hV0
  simp only [Value.agg.injEq,Array.mk.injEq,List.cons.injEq,Value.slice.injEq] at e
  obtain ⟨_,_,_,_,_,_,_,_,⟨e1,e2,_⟩,_⟩ := e
  rw [e1,e2];exact hB0
 clear hV0
 obtain ⟨rs0,hrl,hrc,hrp⟩ := frames_cells hF
 obtain ⟨hs0,hhl,hhc0,hhp⟩ := blocks_cells hB0
 have hhc := hhc0.mono h0
 have H0 := Lib.hid h0
 have HF := Lib.hid hF
 have HB := Lib.hid hB
 have LF := Lib.hid hF.len
 have LB := Lib.hid hB.len
 have hle := hF.le
 have hle2 := hB.le
 have hnf' : nf ≤ 1000 := by have := hF.len;omega
 have hnb' : nb ≤ 1000 := by have := hB.len;omega
 have HRP := Lib.hid hrp
 have HHP := Lib.hid hhp
 have HRC := Lib.hid hrc
 have HHC := Lib.hid hhc
 have HNR := Lib.hid hnr
 have HNH := Lib.hid hnh
 have HRL := Lib.hid hrl
 have HHL := Lib.hid hhl
 have HR1 : Hid (∀ u ∈ rowOf frmCells t.frames rs0,u.oneCell' = true) := rowOf_one frmCells_one (fun v hv => by
  obtain ⟨i,hi,rfl⟩ := List.getElem_of_mem hv
  obtain ⟨⟨A,c,e,_⟩,_⟩ := hrp i _ _ (List.getElem?_eq_getElem (by omega)) (List.getElem?_eq_getElem hi)
  rw [e];rfl)
 have HH1 : Hid (∀ u ∈ rowOf blkCells t.blocks hs0,u.oneCell' = true) := rowOf_one blkCells_one (fun v hv => by
  obtain ⟨i,hi,rfl⟩ := List.getElem_of_mem hv
  obtain ⟨⟨A,c,e,_⟩,_⟩ := hhp i _ _ (List.getElem?_eq_getElem (by omega)) (List.getElem?_eq_getElem hi)
  rw [e];rfl)
 have HIF := Lib.hid hF.frm_in
 have HIB := Lib.hid hB.blk_in
 clear hF hB hB0 hhc0 h0 hrp hhp hrc hhc hnr hnh hrl hhl hnf hnb hcf hcb
 obtain ⟨gs,hgl,hgp⟩ := exists_list' (P := fun i (g : List Value) => ∀ b : Blk,t.blocks[i]? = some b → ∀ v,hs0[i]? = some v → ∃ A c,v = .slice A b.handlers.length c ∧ (A = none → b.handlers.length = 0) ∧ b.handlers.length ≤ c ∧ g.length = b.handlers.length ∧ CSl w A b.handlers.length 2 (rowOf hdlCells b.handlers g) ∧
   ∀ (k : Nat) (x : Hdl) (u : Value),b.handlers[k]? = some x → g[k]? = some u → InR x.fn ∧ RArgs w0 x.args u) t.blocks.length (fun i hi => by
  have hv := List.getElem?_eq_getElem (show i < hs0.length by rw [HHL.out];exact hi)
  obtain ⟨⟨A,c,e,hr,hc⟩,_⟩ := HHP.out i _ _ (List.getElem?_eq_getElem hi) hv
  obtain ⟨g,g1,g2,g3⟩ := handlers_cells hr
  refine ⟨g,fun b hb v hv' => ?_⟩
  rw [List.getElem?_eq_getElem hi] at hb
  rw [hv] at hv'
  cases hb;cases hv'
  exact ⟨A,c,e,hr.nil_of_none,hc,g1,g2.mono H0.out,g3⟩)
 have HGL := Lib.hid hgl
 have HGP := Lib.hid hgp
 clear hgl hgp
 go_enter Try.func18,Try.ntmps18
 go_wp2_with (go_at_call 30;refine (cloneFrm Af nf cf _ _ HF.out.nil_of_none (HRC.out.mono xt) HR1.out hnf').mono ?_;rintro e w1 ⟨v1,rfl,hown1,hb⟩;obtain ⟨hc,hf,hs,he⟩ := Ext.use (w := w) hb xt;have HO1 := Lib.hid hown1;obtain ⟨A1,c1,rfl,hc1,_⟩ := ownsRow_shape hown1;clear hb hown1;(try simp only [World.size_alloc] at hs))
 refine wp_hid2 ?_
 intro W0 HW0
 have hwsz : w.heap.size + 1 + 1 ≤ W0.heap.size := by rw [HW0.out];simpa using hs
 have HE0 : Hid (Ext w W0) := by rw [Hid,HW0.out];exact xt
 have HO0 : Hid (W0.ownsRow (w.heap.size + 1 + 1) 57 5 (.slice A1 nf c1) nf (rowOf frmCells t.frames rs0)) := by
  rw [Hid,HW0.out]
  have h0 := HO1.out
  simp only [World.size_alloc] at h0
  exact h0.kept (grown_setCell _ _ _) (own_ne h0 (b := w.heap.size) (by omega))
 have HB0 : Hid (∀ o,W0.cell? ⟨w.heap.size,o,none⟩ = if o = 7 then some (.slice A1 nf c1) else (#[int .i64 t.fn,int .i64 t.scope,int .i64 t.prio,int .i64 t.status,int .i64 t.wkind,int .i64 t.windex,.bool t.wagain,.slice Af nf cf,.slice Ab nb cb,int .i64 t.mask,.bool t.unw,int .i64 t.level,int .i64 t.reason,int .i64 t.result] : Array Value)[o]?) := by
  rw [Hid];intro o;rw [HW0.out]
  by_cases h7 : o = 7
  ·subst h7;simp [go_sem,hc]
  ·have h7' : ¬ 7 = o := fun h => h7 h.symm
   simp [go_sem,hc,h7,h7']
 have HF0 : Hid (∀ o,W0.frozen? ⟨w.heap.size,o,none⟩ = false ∧ W0.frozen? ⟨w.heap.size + 1,o,none⟩ = false) := by
  rw [Hid];intro o;rw [HW0.out];constructor <;> simp [go_sem,hf]
 have HR0 : Hid (∀ o,W0.cell? ⟨w.heap.size + 1,o,none⟩ = (#[int .i64 0,int .i64 0,int .i64 0,int .i64 0,int .i64 0,int .i64 0,.bool false,.slice none 0 0,.slice none 0 0,int .i64 0,.bool false,int .i64 0,int .i64 0,int .i64 0] : Array Value)[o]?) := by
  rw [Hid];intro o;rw [HW0.out];simp [go_sem,hc]
 clear HW0 hc hf he hs HO1
 go_loopg [3,4,14] nf (fun gg _ _ s14 wr => ∃ (k : Nat) (rs : List Value),k ≤ nf ∧ nf - k ≤ gg ∧ s14 = .int .i64 k ∧ Hid (Ext w wr) ∧ Hid (W0.grownBy wr (Value.ownBlock (.slice A1 nf c1))) ∧ Hid (CpF (w.heap.size + 1 + 1) wr t.frames (.slice A1 nf c1) rs0 rs k))
 case atStart => exact ⟨0,rs0,Nat.zero_le _,by omega,rfl,HE0,World.grownBy.refl _ _,Cp.start HRL.out (by rw [← LF.out];exact HO0.out)⟩
 case round =>
  obtain ⟨k,rs,hk,hgk,rfl,HE,HG,HC⟩ := hrel
  have HE' := HE.out
  have hwr := HE.out.size
  have hwr0 := HG.out.size
  have hnlow : ∀ b,b < w.heap.size + 1 + 1 → some b ≠ Value.ownBlock (.slice A1 nf c1) := fun b hb => by
   rcases own_ne HO0.out hb with h1 | h1
   ·rw [h1];simp
   ·exact fun e => h1 e.symm
  by_cases hlt : k < nf
  ·have hltz : (k : Int) < (nf : Int) := by omega
   obtain ⟨f,hf⟩ : ∃ f,t.frames[k]? = some f := ⟨_,List.getElem?_eq_getElem (by have := LF.out;omega)⟩
   obtain ⟨v0,hv0⟩ : ∃ v,rs[k]? = some v := ⟨_,List.getElem?_eq_getElem (by rw [HC.out.len];have := LF.out;omega)⟩
   have hv00 : rs0[k]? = some v0 := by rw [← HC.out.old k (Nat.le_refl _)];exact hv0
   obtain ⟨⟨Aa,ca,rfl,hA,hca⟩,_,_,_⟩ := HRP.out k f v0 hf hv00
   obtain ⟨g,cc,eA,hg⟩ := own_form HC.out.row (by have := LF.out;omega)
   injection eA with eA1 eA2 eA3
   subst eA1 eA3
   clear eA2
   have k7 : wr.cell? ⟨w.heap.size,7,none⟩ = some (.slice (some ⟨g,0,none⟩) nf c1) := by
    rw [HG.out.cell_far _ (show w.heap.size < _ by omega) (hnlow w.heap.size (by omega)),HB0.out 7];rfl
   have HRow := HC.out.row
   rw [← LF.out] at HRow
   have hcell : ∀ j,j < 5 → wr.cell? ⟨g,k * 5 + j,none⟩ = (frmCells f (.slice Aa f.regs.length ca))[j]? := fun j hj => by
    rw [HRow.cellAt _ (by omega),rowOf_get frmCells_len hf hv0 hj]
   have c0 : wr.cell? ⟨g,k * 5,none⟩ = some (int .i64 f.fn) := hcell 0 (by omega)
   have c1' : wr.cell? ⟨g,k * 5 + 1,none⟩ = some (int .i64 f.pc) := hcell 1 (by omega)
   have c2 : wr.cell? ⟨g,k * 5 + 2,none⟩ = some (.slice Aa f.regs.length ca) := hcell 2 (by omega)
   have c3 : wr.cell? ⟨g,k * 5 + 3,none⟩ = some (int .i64 f.result) := hcell 3 (by omega)
   have c4 : wr.cell? ⟨g,k * 5 + 4,none⟩ = some (.bool f.cleanup) := hcell 4 (by omega)
   have fz : wr.frozen? ⟨g,k * 5 + 2,none⟩ = false := HRow.frozenAt _
   have hglt : g < wr.heap.size := lt_of_cell c0
   have HA := Lib.hid hA
   have HCA := Lib.hid (ints_csl hA)
   have HN : Hid (f.regs.length ≤ 1000) := HNR.out f (List.mem_of_getElem? hf)
   have HFk := Lib.hid hf
   have HRow := Lib.hid HRow
   have hbx : w.heap.size < wr.heap.size := by omega
   have hbx2 : ¬ g = w.heap.size := by omega
   have hbx3 : ¬ g = wr.heap.size := by omega
   clear hA hcell hf hv0 hv00
   go_wp2
   go_region_held3 (fun W' => W'.cell? ⟨w.heap.size,7,none⟩ = some (.slice (some ⟨g,0,none⟩) nf c1) ∧ W'.cell? ⟨wr.heap.size,2,none⟩ = some (.slice Aa f.regs.length ca))
    (go_simp)
    ((go_at_call 31;refine (cloneInt Aa _ ca _ _ HA.out.nil_of_none (HCA.out.mono xt) (int_one _) HN.out).mono ?_;rintro e w5 ⟨v5,rfl,hown5,hb5⟩;obtain ⟨hc5,hf5,hs5,he5⟩ := Ext.use (w := wr) hb5 xt;have HO5 := Lib.hid hown5;obtain ⟨A5,c5,rfl,hcl5,_⟩ := ownsRow_shape hown5;have q1 := he5.cell c2;have q2 : w5.frozen? ⟨g,k * 5 + 2,none⟩ = false := (Below.frozen he5 hglt).trans fz;clear hb5 hown5;(try simp only [World.size_alloc,World.size_setCell,World.size_drew] at hs5)))
   have hv5 : w5.ownsRow wr.heap.size 3 1 (.slice A5 f.regs.length c5) (frmN t.frames k) (frmC t.frames k) := by
    rw [frmN_at HFk.out,frmC_at HFk.out]
    exact World.ownsRow.mono HO5.out (by simp)
   obtain ⟨g',c',e1,_,_,_,hcp,hgr⟩ := Cp.step frmCells_len 2 (by omega) (fun _ _ _ => rfl) (fun _ _ => rfl) (by decide) HC.out HFk.out he5 (by omega) hv5
   injection e1 with e1 e2 e3
   injection e1 with e1
   injection e1 with e1
   subst e1
   have HE2 : Hid (Ext w (w5.setCell ⟨g,k * 5 + 2,none⟩ (.slice A5 f.regs.length c5))) := (HE'.trans he5).setCell (by show w.heap.size ≤ g;omega) _
   have HG2 : Hid (W0.grownBy (w5.setCell ⟨g,k * 5 + 2,none⟩ (.slice A5 f.regs.length c5)) (some g)) := (HG.out.trans (ext_grown he5 _)).trans hgr
   have HC2 := Lib.hid hcp
   clear hcp hgr hc5 hf5 HC HG e2 e3
   go_wp2
   go_roundg (nf - (k + 1))
   case measure => omega
   case rel => exact ⟨k + 1,_,by omega,by omega,by go_num,HE2,HG2,HC2⟩
  ·have hltz : ¬ (k : Int) < (nf : Int) := by omega
   obtain rfl : k = nf := by omega
   have HOF : Hid (OFr (w.heap.size + 1 + 1) wr t.frames (.slice A1 k c1) rs) := CpF.done (by have h0 := HC.out;rw [LF.out] at h0 ⊢;exact h0) HIF.out
   have HBr : Hid (∀ o,wr.cell? ⟨w.heap.size,o,none⟩ = if o = 7 then some (.slice A1 k c1) else (#[int .i64 t.fn,int .i64 t.scope,int .i64 t.prio,int .i64 t.status,int .i64 t.wkind,int .i64 t.windex,.bool t.wagain,.slice Af k cf,.slice Ab nb cb,int .i64 t.mask,.bool t.unw,int .i64 t.level,int .i64 t.reason,int .i64 t.result] : Array Value)[o]?) := fun o => by
    rw [HG.out.cell_far _ (show w.heap.size < _ by omega) (hnlow w.heap.size (by omega)),HB0.out o]
   have HFr : Hid (∀ o,wr.frozen? ⟨w.heap.size,o,none⟩ = false ∧ wr.frozen? ⟨w.heap.size + 1,o,none⟩ = false) := fun o => by
    rw [HG.out.frozen_far _ (show w.heap.size < _ by omega) (hnlow w.heap.size (by omega)),HG.out.frozen_far _ (show w.heap.size + 1 < _ by omega) (hnlow (w.heap.size + 1) (by omega))];exact HF0.out o
   have HRr : Hid (∀ o,wr.cell? ⟨w.heap.size + 1,o,none⟩ = (#[int .i64 0,int .i64 0,int .i64 0,int .i64 0,int .i64 0,int .i64 0,.bool false,.slice none 0 0,.slice none 0 0,int .i64 0,.bool false,int .i64 0,int .i64 0,int .i64 0] : Array Value)[o]?) := fun o => by
    rw [HG.out.cell_far _ (show w.heap.size + 1 < _ by omega) (hnlow (w.heap.size + 1) (by omega)),HR0.out o]
   have k8 : wr.cell? ⟨w.heap.size,8,none⟩ = some (.slice Ab nb cb) := HBr.out 8
   have f8 : wr.frozen? ⟨w.heap.size,8,none⟩ = false := (HFr.out 8).1
   have hbx : w.heap.size < wr.heap.size := by omega
   clear HB0 HF0 HR0 HC HG HO0 HE0 hnlow
   go_wp2_with (go_at_call 32;refine (cloneBlk Ab nb cb _ _ HB.out.nil_of_none (HHC.out.mono xt) HH1.out hnb').mono ?_;rintro e w2 ⟨v2,rfl,hown2,hb⟩;obtain ⟨hc2,hf2,hs2,he2⟩ := Ext.use (w := wr) hb xt;have HO2 := Lib.hid hown2;obtain ⟨A2,c2,rfl,hcc2,_⟩ := ownsRow_shape hown2;clear hb hown2;(try simp only [World.size_alloc] at hs2))
   refine wp_hid2 ?_
   intro W1 HW1
   have hwsz1 : wr.heap.size ≤ W1.heap.size := by rw [HW1.out];simpa using hs2
   have HE1 : Hid (Ext w W1) := by rw [Hid,HW1.out];exact (HE'.trans he2).setCell (Nat.le_refl _) _
   have HO1 : Hid (W1.ownsRow wr.heap.size 65 5 (.slice A2 nb c2) nb (rowOf blkCells t.blocks hs0)) := by
    rw [Hid,HW1.out]
    exact HO2.out.kept (grown_setCell _ _ _) (own_ne HO2.out (b := w.heap.size) (by omega))
   have HB1 : Hid (∀ o,W1.cell? ⟨w.heap.size,o,none⟩ = if o = 8 then some (.slice A2 nb c2) else if o = 7 then some (.slice A1 k c1) else (#[int .i64 t.fn,int .i64 t.scope,int .i64 t.prio,int .i64 t.status,int .i64 t.wkind,int .i64 t.windex,.bool t.wagain,.slice Af k cf,.slice Ab nb cb,int .i64 t.mask,.bool t.unw,int .i64 t.level,int .i64 t.reason,int .i64 t.result] : Array Value)[o]?) := by
    rw [Hid];intro o;rw [HW1.out]
    by_cases h8 : o = 8
    ·subst h8;simp [go_sem,hc2,hbx,k8]
    ·have h8' : ¬ 8 = o := fun h => h8 h.symm
     simp [go_sem,hc2,hbx,h8,h8',HBr.out o]
   have HF1 : Hid (∀ o,W1.frozen? ⟨w.heap.size,o,none⟩ = false ∧ W1.frozen? ⟨w.heap.size + 1,o,none⟩ = false) := by
    have h1 : w.heap.size + 1 < wr.heap.size := by omega
    rw [Hid];intro o;rw [HW1.out];constructor <;> simp [go_sem,hf2,hbx,h1,HFr.out o]
   have HR1 : Hid (∀ o,W1.cell? ⟨w.heap.size + 1,o,none⟩ = (#[int .i64 0,int .i64 0,int .i64 0,int .i64 0,int .i64 0,int .i64 0,.bool false,.slice none 0 0,.slice none 0 0,int .i64 0,.bool false,int .i64 0,int .i64 0,int .i64 0] : Array Value)[o]?) := by
    have h1 : w.heap.size + 1 < wr.heap.size := by omega
    rw [Hid];intro o;rw [HW1.out];simp [go_sem,hc2,h1,HRr.out o]
   have HOF1 : Hid (OFr (w.heap.size + 1 + 1) W1 t.frames (.slice A1 k c1) rs) := by
    rw [Hid,HW1.out]
    exact (HOF.out.mono he2).far (grown_setCell _ _ _) (show w.heap.size < _ by omega)
   clear HW1 hc2 hf2 he2 HO2 HBr HFr HRr HOF k8 f8
   obtain ⟨WA,eWA⟩ : ∃ W,W = wr := ⟨_,rfl⟩
   subst eWA
   go_loopg [5,6,35] nb (fun gg _ _ s35 wr2 => ∃ (j : Nat) (hs : List Value),j ≤ nb ∧ nb - j ≤ gg ∧ s35 = .int .i64 j ∧ Hid (Ext w wr2) ∧ Hid (W1.grownBy wr2 (Value.ownBlock (.slice A2 nb c2))) ∧ Hid (CpB gs WA.heap.size wr2 t.blocks (.slice A2 nb c2) hs0 hs j))
   case atStart => exact ⟨0,hs0,Nat.zero_le _,by omega,rfl,HE1,World.grownBy.refl _ _,Cp.start HHL.out (by rw [← LB.out];exact HO1.out)⟩
   case round =>
    obtain ⟨j,hs,hj,hgj,rfl,HEb,HGb,HCb⟩ := hrel
    have HEb' := HEb.out
    have hwrb := HEb.out.size
    have hwrb0 := HGb.out.size
    have hnlow : ∀ b,b < WA.heap.size → some b ≠ Value.ownBlock (.slice A2 nb c2) := fun b hb => by
     rcases own_ne HO1.out hb with h1 | h1
     ·rw [h1];simp
     ·exact fun e => h1 e.symm
    by_cases hlt : j < nb
    ·have hltz : (j : Int) < (nb : Int) := by omega
     obtain ⟨f,hf⟩ : ∃ f,t.blocks[j]? = some f := ⟨_,List.getElem?_eq_getElem (by have := LB.out;omega)⟩
     obtain ⟨v0,hv0⟩ : ∃ v,hs[j]? = some v := ⟨_,List.getElem?_eq_getElem (by rw [HCb.out.len];have := LB.out;omega)⟩
     obtain ⟨ga,hga⟩ : ∃ v,gs[j]? = some v := ⟨_,List.getElem?_eq_getElem (by rw [HGL.out];have := LB.out;omega)⟩
     have hv00 : hs0[j]? = some v0 := by rw [← HCb.out.old j (Nat.le_refl _)];exact hv0
     obtain ⟨Aa,ca,rfl,hAn,hca,hgal,hAc,hAp⟩ := HGP.out j ga hga f hf v0 hv00
     obtain ⟨g,cc,eA,hg⟩ := own_form HCb.out.row (by have := LB.out;omega)
     injection eA with eA1 eA2 eA3
     subst eA1 eA3
     clear eA2
     have k8 : wr.cell? ⟨w.heap.size,8,none⟩ = some (.slice (some ⟨g,0,none⟩) nb c2) := by
      rw [HGb.out.cell_far _ (show w.heap.size < _ by omega) (hnlow w.heap.size (by omega)),HB1.out 8];rfl
     have HRow := HCb.out.row
     rw [← LB.out] at HRow
     have hcell : ∀ q,q < 5 → wr.cell? ⟨g,j * 5 + q,none⟩ = (blkCells f (.slice Aa f.handlers.length ca))[q]? := fun q hq => by
      rw [HRow.cellAt _ (by omega),rowOf_get blkCells_len hf hv0 hq]
     have c0 : wr.cell? ⟨g,j * 5,none⟩ = some (int .i64 f.scope) := hcell 0 (by omega)
     have c1' : wr.cell? ⟨g,j * 5 + 1,none⟩ = some (int .i64 f.depth) := hcell 1 (by omega)
     have c2' : wr.cell? ⟨g,j * 5 + 2,none⟩ = some (int .i64 f.exit) := hcell 2 (by omega)
     have c3 : wr.cell? ⟨g,j * 5 + 3,none⟩ = some (int .i64 f.mask) := hcell 3 (by omega)
     have c4 : wr.cell? ⟨g,j * 5 + 4,none⟩ = some (.slice Aa f.handlers.length ca) := hcell 4 (by omega)
     have fz : wr.frozen? ⟨g,j * 5 + 4,none⟩ = false := HRow.frozenAt _
     have hglt : g < wr.heap.size := lt_of_cell c0
     have HCA := Lib.hid hAc
     have HAN := Lib.hid hAn
     have HH1 : Hid (∀ u ∈ rowOf hdlCells f.handlers ga,u.oneCell' = true) := rowOf_one hdlCells_one (fun v hv => by
      obtain ⟨i,hi,rfl⟩ := List.getElem_of_mem hv
      obtain ⟨_,A,n,c,e,_⟩ := hAp i _ _ (List.getElem?_eq_getElem (by omega)) (List.getElem?_eq_getElem hi)
      rw [e];rfl)
     have HN : Hid (f.handlers.length ≤ 1000) := HNH.out f (List.mem_of_getElem? hf)
     have HFk := Lib.hid hf
     have HGk := Lib.hid hga
     have HRow := Lib.hid HRow
     have hbx : w.heap.size < wr.heap.size := by omega
     have hbx2 : ¬ g = w.heap.size := by omega
     have hbx3 : ¬ g = wr.heap.size := by omega
     clear hAn hAc hAp hgal hcell hf hv0 hv00 hga
     go_wp2
     go_region_held3 (fun W' => W'.cell? ⟨w.heap.size,8,none⟩ = some (.slice (some ⟨g,0,none⟩) nb c2) ∧ W'.cell? ⟨wr.heap.size,4,none⟩ = some (.slice Aa f.handlers.length ca))
      (go_simp)
      ((go_at_call 33;refine (cloneHdl Aa _ ca _ _ HAN.out (HCA.out.mono xt) HH1.out HN.out).mono ?_;rintro e w5 ⟨v5,rfl,hown5,hb5⟩;obtain ⟨hc5,hf5,hs5,he5⟩ := Ext.use (w := wr) hb5 xt;have HO5 := Lib.hid hown5;obtain ⟨A5,c5,rfl,hcl5,_⟩ := ownsRow_shape hown5;have q1 := he5.cell c4;have q2 : w5.frozen? ⟨g,j * 5 + 4,none⟩ = false := (Below.frozen he5 hglt).trans fz;clear hb5 hown5;(try simp only [World.size_alloc,World.size_setCell,World.size_drew] at hs5)))
     have hv5 : w5.ownsRow wr.heap.size 83 2 (.slice A5 f.handlers.length c5) (blkN t.blocks j) (blkC t.blocks gs j) := by
      rw [blkN_at HFk.out,blkC_at HFk.out HGk.out]
      exact World.ownsRow.mono HO5.out (by simp)
     obtain ⟨g',c',e1,_,_,_,hcp,hgr⟩ := Cp.step blkCells_len 4 (by omega) (fun _ _ _ => rfl) (fun _ _ => rfl) (by decide) HCb.out HFk.out he5 (by omega) hv5
     injection e1 with e1 e2 e3
     injection e1 with e1
     injection e1 with e1
     subst e1
     have HE2 : Hid (Ext w (w5.setCell ⟨g,j * 5 + 4,none⟩ (.slice A5 f.handlers.length c5))) := (HEb'.trans he5).setCell (by show w.heap.size ≤ g;omega) _
     have HG2 : Hid (W1.grownBy (w5.setCell ⟨g,j * 5 + 4,none⟩ (.slice A5 f.handlers.length c5)) (some g)) := (HGb.out.trans (ext_grown he5 _)).trans hgr
     have HC2 := Lib.hid hcp
     clear hcp hgr hc5 hf5 HCb HGb e2 e3
     go_wp2
     go_roundg (nb - (j + 1))
     case measure => omega
     case rel => exact ⟨j + 1,_,by omega,by omega,by go_num,HE2,HG2,HC2⟩
    ·have hltz : ¬ (j : Int) < (nb : Int) := by omega
     obtain rfl : j = nb := by omega
     obtain ⟨b0,b1,b2,b3,b4,b5,b6⟩ : wr.cell? ⟨w.heap.size,0,none⟩ = some (int .i64 t.fn) ∧ wr.cell? ⟨w.heap.size,1,none⟩ = some (int .i64 t.scope) ∧ wr.cell? ⟨w.heap.size,2,none⟩ = some (int .i64 t.prio) ∧ wr.cell? ⟨w.heap.size,3,none⟩ = some (int .i64 t.status) ∧ wr.cell? ⟨w.heap.size,4,none⟩ = some (int .i64 t.wkind) ∧ wr.cell? ⟨w.heap.size,5,none⟩ = some (int .i64 t.windex) ∧ wr.cell? ⟨w.heap.size,6,none⟩ = some (.bool t.wagain) := by
      refine ⟨?_, ?_, ?_, ?_, ?_, ?_, ?_⟩ <;> (rw [HGb.out.cell_far _ (show w.heap.size < _ by omega) (hnlow w.heap.size (by omega)),HB1.out];rfl)
     obtain ⟨b7,b8,b9,b10,b11,b12,b13⟩ : wr.cell? ⟨w.heap.size,7,none⟩ = some (.slice A1 k c1) ∧ wr.cell? ⟨w.heap.size,8,none⟩ = some (.slice A2 j c2) ∧ wr.cell? ⟨w.heap.size,9,none⟩ = some (int .i64 t.mask) ∧ wr.cell? ⟨w.heap.size,10,none⟩ = some (.bool t.unw) ∧ wr.cell? ⟨w.heap.size,11,none⟩ = some (int .i64 t.level) ∧ wr.cell? ⟨w.heap.size,12,none⟩ = some (int .i64 t.reason) ∧ wr.cell? ⟨w.heap.size,13,none⟩ = some (int .i64 t.result) := by
      refine ⟨?_, ?_, ?_, ?_, ?_, ?_, ?_⟩ <;> (rw [HGb.out.cell_far _ (show w.heap.size < _ by omega) (hnlow w.heap.size (by omega)),HB1.out];rfl)
     have hrr : ∀ o,wr.cell? ⟨w.heap.size + 1,o,none⟩ = (#[int .i64 0,int .i64 0,int .i64 0,int .i64 0,int .i64 0,int .i64 0,.bool false,.slice none 0 0,.slice none 0 0,int .i64 0,.bool false,int .i64 0,int .i64 0,int .i64 0] : Array Value)[o]? := fun o => by
      rw [HGb.out.cell_far _ (show w.heap.size + 1 < _ by omega) (hnlow (w.heap.size + 1) (by omega)),HR1.out]
     have hff : ∀ o,wr.frozen? ⟨w.heap.size + 1,o,none⟩ = false := fun o => by
      rw [HGb.out.frozen_far _ (show w.heap.size + 1 < _ by omega) (hnlow (w.heap.size + 1) (by omega))];exact (HF1.out o).2
     have HOF2 : Hid (OFr (w.heap.size + 1 + 1) wr t.frames (.slice A1 k c1) rs) := by
      refine HOF1.out.kept HGb.out (by rcases apart_types HOF1.out.row HO1.out (by decide) with e | e;exact .inl e;exact .inr e) (fun v hv => ?_)
      obtain ⟨i,hi,rfl⟩ := List.getElem_of_mem hv
      rcases apart_types (HOF1.out.reg i _ _ (List.getElem?_eq_getElem (by rw [← HOF1.out.len];exact hi)) (List.getElem?_eq_getElem hi)) HO1.out (by decide) with e | e
      ·exact .inl e
      ·exact .inr e
     have HG3 : Hid (∀ L,Low w0 L → ∀ W,Ext w W → ∀ (i : Nat) (b : Blk) (a : List Value),t.blocks[i]? = some b → gs[i]? = some a → a.length = b.handlers.length ∧ ∀ (q : Nat) (x : Hdl) (v : Value),b.handlers[q]? = some x → a[q]? = some v → InR x.fn ∧ RArgs W x.args v ∧ (x.args = [] ∨ ∀ r ∈ L,Apart r v)) := by
      intro L hL W hW i b a hb ha
      obtain ⟨v,hv⟩ : ∃ v,hs0[i]? = some v := ⟨_,List.getElem?_eq_getElem (by rw [HHL.out];exact (List.getElem?_eq_some_iff.1 hb).1)⟩
      obtain ⟨A,c,_,_,_,h1,_,h2⟩ := HGP.out i a ha b hb v hv
      exact ⟨h1,fun q x v hx hv => ⟨(h2 q x v hx hv).1,(h2 q x v hx hv).2.mono (H0.out.trans hW),(h2 q x v hx hv).2.low hL⟩⟩
     have HAV : Hid (∀ P,ArgsOk P w t (.agg #[int .i64 t.fn,int .i64 t.scope,int .i64 t.prio,int .i64 t.status,int .i64 t.wkind,int .i64 t.windex,.bool t.wagain,.slice Af k cf,.slice Ab j cb,int .i64 t.mask,.bool t.unw,int .i64 t.level,int .i64 t.reason,int .i64 t.result]) → ∀ (i : Nat) (b : Blk) (a : List Value),t.blocks[i]? = some b → gs[i]? = some a → ∀ (q : Nat) (h : Hdl) (v : Value),b.handlers[q]? = some h → a[q]? = some v → P h v) := by
      intro P hA i b a e1 e2 q h v e3 e4
      obtain ⟨v0,hv0⟩ : ∃ v,hs0[i]? = some v := ⟨_,List.getElem?_eq_getElem (by rw [HHL.out];exact (List.getElem?_eq_some_iff.1 e1).1)⟩
      obtain ⟨A,c,e,_,_,h1,h2,_⟩ := HGP.out i a e2 b e1 v0 hv0
      obtain ⟨x,o,hx,hxc⟩ := HHC.out.2 (by have := (List.getElem?_eq_some_iff.1 e1).1;have := LB.out;omega)
      obtain ⟨y,z,hy,hyc⟩ := h2.2 (by have := (List.getElem?_eq_some_iff.1 e3).1;omega)
      exact hA _ Ab j cb rfl rfl i b e1 x o hx A _ c (by rw [hxc (i * 5 + 4) v0 (by rw [rowOf_get blkCells_len e1 hv0 (by omega)];rfl),e]) q h e3 y z hy v (hyc (q * 2 + 1) v (by rw [rowOf_get hdlCells_len e3 e4 (by omega)];rfl))
     have HCb' : Hid (CpB gs WA.heap.size wr t.blocks (.slice A2 j c2) hs0 hs t.blocks.length) := by have h0 := HCb.out;rw [LB.out] at h0 ⊢;exact h0
     have HWA : Hid (w.heap.size + 1 < WA.heap.size) := by show _ < _;omega
     have HEb := HEb
     clear HCb HGb HB1 HO1 HOF1 hnlow HR1 HF1
     go_wp2
     refine bodyPost_ret (v := .agg #[int .i64 t.fn,int .i64 t.scope,int .i64 t.prio,int .i64 t.status,int .i64 t.wkind,int .i64 t.windex,.bool t.wagain,.slice A1 k c1,.slice A2 j c2,int .i64 t.mask,.bool t.unw,int .i64 t.level,int .i64 t.reason,int .i64 t.result]) (by simp [results,Try.results18,go_sem,hrr]) rfl ?_
     have fin : ∀ W',wr.grownBy W' (some (w.heap.size + 1)) → Ext w W' → (∃ rs,OFr w.heap.size W' t.frames (.slice A1 k c1) rs) ∧ (∃ hs gs,OBlW w0 w t _ w.heap.size W' (.slice A2 j c2) hs gs) ∧ Ext w W' := fun W' hg he =>
      ⟨⟨rs,(HOF2.out.far hg (by omega)).base (by omega)⟩,⟨hs,gs,fun L hL => (CpB.done (HCb'.out.kept hg HWA.out) HGL.out (HG3.out L hL W' he) HIB.out).base (by omega),HAV.out⟩,he⟩
     refine ⟨_,_,rfl, ?_⟩
     refine fin _ ?_ ?_
     ·iterate 14 (refine World.grownBy.trans ?_ (grown_setCell _ _ _))
      exact World.grownBy.refl _ _
     ·iterate 14 (refine Ext.setCell ?_ (Nat.le_succ _) _)
      exact HEb'
theorem copied_any (t : Tsk) (V : Value) (w0 w : World) (hV0 : RTsk w0 t V) (h0 : Ext w0 w) (hnf : t.frames.length ≤ 1000) (hnb : t.blocks.length ≤ 1000) (hnr : ∀ f : Frm,f ∈ t.frames → f.regs.length ≤ 1000) (hnh : ∀ b : Blk,b ∈ t.blocks → b.handlers.length ≤ 1000) :
  Calls Try.prog 18 #[V] w fun e w' => ∃ VF VB rs hs gs,e = .returned (.agg #[int .i64 t.fn,int .i64 t.scope,int .i64 t.prio,int .i64 t.status,int .i64 t.wkind,int .i64 t.windex,.bool t.wagain,VF,VB,int .i64 t.mask,.bool t.unw,int .i64 t.level,int .i64 t.reason,int .i64 t.result]) ∧
   OFr w.heap.size w' t.frames VF rs ∧ (∀ L,Low w0 L → OBl w.heap.size w' t.blocks VB hs gs L) ∧ Ext w w' :=
 (copied_args t V w0 w hV0 h0 hnf hnb hnr hnh).mono fun e w' ⟨VF,VB,rs,hs,gs,h1,h2,h3,h4⟩ => ⟨VF,VB,rs,hs,gs,h1,h2,h3.1,h4⟩
end Go.Proofs.Ytcjjoabofecjmaa

