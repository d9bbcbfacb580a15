/- A part of the proof: A task that own laid, with a handler more, whose arguments l. -/
import Derived.Test.YtcjjoabofecjmaaGreatQ45
set_option linter.unusedVariables false
set_option linter.unusedSimpArgs false
set_option maxHeartbeats 16000000
namespace Go.Proofs.YtcjjoabofecjmaaGreat
open Go.RowKit Go.Sort
open Go.Value (int)
structure Ownh (w0 : Bs) (w : World) (b : Nat) (W : World) (t : Tsk) (VF VB : Value) (rs hs : List Value) (gs : List (List Value)) (av : Value) : Prop where
 fr : OFr w.heap.size W t.frames VF rs
 bl : ∀ L,BLow w0 L → (∀ r ∈ L,Apart r av) → OBl w.heap.size W t.blocks VB hs gs L
 box : W.rangeAt b 0 (tskL t VF VB)
 ext : Ext w W
 e0 : BExt w0 w
 lo : ∀ x,av.ownBlock = some x → w.heap.size ≤ x ∧ VF.ownBlock ≠ some x
theorem Ownh.mono {w0 : Bs} {w W2 : World} {b : Nat} {W : World} {t : Tsk} {VF VB av : Value} {rs hs : List Value} {gs : List (List Value)} (h : Ownh w0 w b W t VF VB rs hs gs av) (he : Ext W W2) : Ownh w0 w b W2 t VF VB rs hs gs av :=
 ⟨h.fr.mono he,fun L hL hA => (h.bl L hL hA).mono he,range_ext h.box he,h.ext.trans he,h.e0,h.lo⟩
theorem apart_of {r av : Value} {g : Nat} (hr : r.ownBlock = some g) (h : av.ownBlock ≠ some g) : Apart r av := .inr fun e => h (by rw [← e];exact hr)
theorem Ownh.pc {w0 : Bs} {w : World} {b : Nat} {W : World} {t : Tsk} {VF VB av : Value} {rs hs : List Value} {gs : List (List Value)} (h : Ownh w0 w b W t VF VB rs hs gs av) {f : Frm} {gF cF : Nat} (hVF : VF = .slice (some ⟨gF,0,none⟩) t.frames.length cF) (hf : topF t = some f) (hgb : ¬ gF = b) (hwF : w.heap.size ≤ gF) :
  W.cell? ⟨gF,(t.frames.length - 1) * 5 + 1,none⟩ = some (int .i64 f.pc) ∧ W.frozen? ⟨gF,(t.frames.length - 1) * 5 + 1,none⟩ = false ∧
   ∀ x : Int,InR x → Ownh w0 w b (W.setCell ⟨gF,(t.frames.length - 1) * 5 + 1,none⟩ (int .i64 x)) (setTop t { f with pc := x }) VF VB rs hs gs av := by
 subst hVF
 have hO := h.bl
 have he0 := h.e0.size
 obtain ⟨g',c',e',_,fz,pc,hset⟩ := h.fr.set_pc (i := t.frames.length - 1) hf
 injection e' with e1 e2 e3
 injection e1 with e1
 injection e1 with e1 _ _
 subst e1 e3
 refine ⟨pc,fz,fun x hx => ?_⟩
 obtain ⟨h1,h2⟩ := hset x hx
 refine ⟨h1,fun L hL hA => ?_,range_other h.box hgb,h.ext.setCell (show w.heap.size ≤ gF from hwF) _,h.e0,h.lo⟩
 have hL2 : BLow w0 (.slice (some ⟨gF,0,none⟩) 0 0 :: L) := by
  intro r hr y hy
  rcases List.mem_cons.1 hr with rfl | hr
  ·simp only [Value.ownBlock,Option.some.injEq] at hy;exact .inl (by omega)
  ·exact hL r hr y hy
 have hB := hO _ hL2 (fun r hr => by
  rcases List.mem_cons.1 hr with rfl | hr
  ·exact apart_of (g := gF) rfl fun e => (h.lo gF e).2 rfl
  ·exact hA r hr)
 exact (hB.wrote h2 (apart_ne (apart_types hB.row h.fr.row (by decide)) rfl) (fun u hu => by obtain ⟨m,xs,hh⟩ := bl_rows hB hu;exact apart_ne (apart_types hh h.fr.row (by decide)) rfl) List.mem_cons_self rfl).list fun r' hr' => ⟨r',List.mem_cons_of_mem _ hr',rfl⟩
theorem RSl.keepK {w w' W' : World} {A : Option Addr} {n : Nat} {xs : List Int} (k : Keep w w' W') (h : RSl 1 RInt w' A n xs) (hl : ∀ b o s,A = some ⟨b,o,s⟩ → w.heap.size ≤ b) : RSl 1 RInt W' A n xs := by
 refine ⟨h.1,h.2.1,fun i x hi => ?_⟩
 obtain ⟨b,off,cs,hA,h1,h2,h3⟩ := h.2.2 i x hi
 refine ⟨b,off,cs,hA,h1,h2,fun j v hj => ?_⟩
 have h4 := h3 j v hj
 rw [World.cell?_of_block (k.2 b (hl _ _ _ hA) (lt_of_cell h4))]
 exact h4
theorem OBl.keepH {w0 : Bs} {w w' W' : World} {bs : List Blk} {VB av : Value} {hs : List Value} {gs : List (List Value)} (h : ∀ L,BLow w0 L → (∀ r ∈ L,Apart r av) → OBl w.heap.size w' bs VB hs gs L) (hlo : ∀ x,av.ownBlock = some x → w.heap.size ≤ x) (h1 : BExt w0 w') (h2 : BExt w0 W') (k : Keep w w' W') : OBl w.heap.size W' bs VB hs gs [] := by
 have h0 := h [] (blow_nil _) (fun r hr => by cases hr)
 refine ⟨h0.len,h0.alen,own_keep h0.row k,fun i b v a e1 e2 e3 => ⟨(h0.hnd i b v a e1 e2 e3).1,own_keep (h0.hnd i b v a e1 e2 e3).2 k⟩,fun i b a q x u e1 e2 e3 e4 => ?_,h0.dis,h0.inr⟩
 obtain ⟨p1,⟨A,n,c,rfl,hR,hc⟩,_⟩ := h0.arg i b a q x u e1 e2 e3 e4
 refine ⟨p1,⟨A,n,c,rfl, ?_,hc⟩,.inr fun r hr => by cases hr⟩
 by_cases hx : x.args = []
 ·exact hR.backB h1 h2 (.inl hx)
 cases hA : A with
 | none => subst hA;exact hR.backB h1 h2 (.inr fun y o s e => by cases e)
 | some p =>
  obtain ⟨y,o,s⟩ := p
  subst hA
  by_cases h9 : y < w0.heap.size ∧ y ∉ w0.S
  ·exact hR.backB h1 h2 (.inr fun y' o' s' e => by cases e;exact h9)
  by_cases hav : av.ownBlock = some y
  ·exact hR.keepK k fun b' o' s' e => by cases e;exact hlo _ hav
  refine absurd ?_ hx
  rcases ((h [.slice (some ⟨y,0,none⟩) 0 0] (fun r hr z hz => by
   rw [List.mem_singleton] at hr
   subst hr
   have : y = z := by injection hz
   subst this
   by_cases h8 : y ∈ w0.S
   ·exact .inr h8
   ·exact .inl (Nat.le_of_not_lt fun h7 => h9 ⟨h7,h8⟩)) (fun r hr => by
   rw [List.mem_singleton] at hr
   subst hr
   exact apart_of (g := y) rfl hav)).arg i b a q x _ e1 e2 e3 e4).2.2 with e5 | e5
  ·exact e5
  ·have := e5 _ (List.mem_singleton.2 rfl)
   rcases this with h | h
   ·cases h
   ·exact absurd rfl h
theorem Ownh.fin {w0 : Bs} {w : World} {b r : Nat} {W : World} {t : Tsk} {VF VB av : Value} {rs hs : List Value} {gs : List (List Value)} {s : Stp} (h : Ownh w0 w b W t VF VB rs hs gs av) (hz : Siz t) (hi : InR t.fn ∧ InR t.scope ∧ InR t.prio ∧ InR t.status ∧ InR t.wkind ∧ InR t.windex ∧ InR t.mask ∧ InR t.level ∧ InR t.reason ∧ InR t.result) (hr : w.heap.size ≤ r) (hra : av.ownBlock ≠ some r) (hc : Cold W r) (vs : List Value) :
  ResPost (t,s) w0 w (.returned (resV t VF VB s)) (W.setCells r 0 vs) := by
 have hG := setCells_grown r vs 0 W
 have he0 := h.e0.size
 have hF := h.fr.kept hG (row_cold h.fr.row (by decide) hc) (fun u hu => by obtain ⟨m,xs,hh⟩ := fr_rows h.fr hu;exact row_cold hh (by decide) hc)
 have hB : ∀ L,BLow w0 L → (∀ r ∈ L,Apart r av) → OBl w.heap.size (W.setCells r 0 vs) t.blocks VB hs gs L := fun L hL hA => by
  have hB1 := h.bl (.slice (some ⟨r,0,none⟩) 0 0 :: L) (fun x hx y hy => by
   rcases List.mem_cons.1 hx with rfl | hx
   ·simp only [Value.ownBlock,Option.some.injEq] at hy;exact .inl (by omega)
   ·exact hL x hx y hy) (fun x hx => by
   rcases List.mem_cons.1 hx with rfl | hx
   ·exact apart_of (g := r) rfl hra
   ·exact hA x hx)
  exact (hB1.wrote hG (row_cold hB1.row (by decide) hc) (fun u hu => by obtain ⟨m,xs,hh⟩ := bl_rows hB1 hu;exact row_cold hh (by decide) hc) List.mem_cons_self rfl).list fun r' hr' => ⟨r',List.mem_cons_of_mem _ hr',rfl⟩
 have hX : Ext w (W.setCells r 0 vs) := h.ext.setCells hr 0 _
 obtain ⟨Af,cf,e1,hcf,_⟩ := hF.reads (by have := hz.1;omega) (fun f hf => by have := hz.2.2.1 f hf;omega)
 obtain ⟨Ab,cb,e2,hcb,_⟩ := (hB [] (blow_nil _) (fun r hr => by cases hr)).reads (by have := hz.2.1;omega) (fun b hb => by have := hz.2.2.2 b hb;omega)
 subst e1 e2
 refine ⟨Af,cf,Ab,cb,rfl,fun W' h0 k => ?_,hX⟩
 obtain ⟨Af',cf',e1,hcf',hRF⟩ := (hF.keep k).reads (by have := hz.1;omega) (fun f hf => by have := hz.2.2.1 f hf;omega)
 obtain ⟨Ab',cb',e2,hcb',hRB⟩ := (OBl.keepH hB (fun x e => (h.lo x e).1) (h.e0.trans hX) h0 k).reads (by have := hz.2.1;omega) (fun b hb => by have := hz.2.2.2 b hb;omega)
 injection e1 with e11 _ e13
 injection e2 with e21 _ e23
 subst e11 e13 e21 e23
 refine ⟨rtsk_of hi hRF hcf' hRB hcb',argsOk_own (OBl.keepH hB (fun x e => (h.lo x e).1) (h.e0.trans hX) h0 k) fun i b a e1 e2 q x v e3 e4 => ?_⟩
 by_cases hx : x.args = []
 ·exact .inl hx
 ·refine .inr fun y hy hS => ?_
  have hyl := w0.lt y hS
  rcases ((hB [.slice (some ⟨y,0,none⟩) 0 0] (fun r hr z hz => by
   rw [List.mem_singleton] at hr
   subst hr
   injection hz with hz
   subst hz
   exact .inr hS) (fun r hr => by
   rw [List.mem_singleton] at hr
   subst hr
   exact apart_of (g := y) rfl fun e => by have := (h.lo y e).1;have : w0.w.heap.size ≤ w.heap.size := he0;omega)).arg i b a q x v e1 e2 e3 e4).2.2 with h | h
  ·exact hx h
  ·rcases h _ (List.mem_singleton.2 rfl) with h | h
   ·cases h
   ·exact h (by rw [hy];rfl)
set_option maxRecDepth 8000 in
theorem register_go (t : Tsk) (f : Frm) (x : Ins) (b : Blk) (VF VB : Value) (A : Option Addr) (m c : Nat) (w0 : Bs) (w : World) (hT : BTsk w0 t (.agg (tskL t VF VB).toArray)) (h0 : BExt w0 w) (hf : topF t = some f) (hz : Siz t) (hpc : 0 ≤ f.pc ∧ f.pc ≤ 1000)
  (hx : BInts w0 A m x.args) (hxb : InR x.b) (hxl : x.args.length ≤ 900) (ha : ∀ a ∈ x.args,0 ≤ a ∧ a < f.regs.length) (hb : lastB t = some b) (h8 : b.handlers.length < 8) :
  Calls Tryz.prog 99 #[.agg (tskL t VF VB).toArray,.agg #[int .i64 x.op,int .i64 x.a,int .i64 x.b,int .i64 x.c,.slice A m c]] w (ResPost ({ t with frames := t.frames.set (t.frames.length - 1) { f with pc := f.pc + 1 },blocks := t.blocks.set (t.blocks.length - 1) { b with handlers := b.handlers ++ [⟨x.b,argsOf f x.args⟩] } },goOn) w0 w) := by
 obtain ⟨Af,cf,Ab,cb,rfl,rfl,_,hBB,_,_⟩ := (hT.mono h0).two
 have HT := Lib.hid hT
 have HI := Lib.hid (hT.mono h0).inr
 have H0 := Lib.hid h0
 have HSZ := Lib.hid hz
 have hFk : t.frames[t.frames.length - 1]? = some f := hf
 have hBk : t.blocks[t.blocks.length - 1]? = some b := hb
 have HFk := Lib.hid hf
 have HBk := Lib.hid hBk
 have hpos : 0 < t.frames.length := by
  have := (List.getElem?_eq_some_iff.1 hFk).1;omega
 have hle : t.frames.length ≤ 9223372036854775807 := by have := hz.1;omega
 have hbpos : 0 < t.blocks.length := by
  have := (List.getElem?_eq_some_iff.1 hBk).1;omega
 have hble : t.blocks.length ≤ 9223372036854775807 := by have := hz.2.1;omega
 obtain ⟨bb,ob,Ah,nh,ch,rfl,hlb,_,_,_,_,⟨hHH,_⟩,_,_,_,_,d4⟩ := hBB.blk hBk
 obtain rfl : nh = b.handlers.length := hHH.len
 obtain ⟨mh,hmh⟩ : ∃ mh,b.handlers.length = mh := ⟨_,rfl⟩
 have HMH := Lib.hid hmh
 rw [hmh] at d4 h8
 have dd := d4
 have zb := lt_of_cell dd
 have hge : ¬ (8 : Int) ≤ (mh : Int) := by omega
 have hnh : mh ≤ 9223372036854775807 := by omega
 have hsB : IntKind.i64.wrap ((t.blocks.length : Int) - 1) = ((t.blocks.length - 1 : Nat) : Int) := by rw [IntWalk.i64_in _ (by omega)];omega
 have hs1B : ((t.blocks.length - 1 : Nat) : Int) < (t.blocks.length : Int) := by omega
 have hs2B : (0 : Int) ≤ ((t.blocks.length - 1 : Nat) : Int) := by omega
 have hsN : IntKind.i64.wrap ((t.frames.length : Int) - 1) = ((t.frames.length - 1 : Nat) : Int) := by rw [IntWalk.i64_in _ (by omega)];omega
 have hs1N : ((t.frames.length - 1 : Nat) : Int) < (t.frames.length : Int) := by omega
 have hs2N : (0 : Int) ≤ ((t.frames.length - 1 : Nat) : Int) := by omega
 have hwp : wrap64 (f.pc + 1) = f.pc + 1 := by unfold wrap64;omega
 have HX := Lib.hid hx
 have HXB := Lib.hid hxb
 have HA := Lib.hid ha
 have hml := hx.len
 have HML : Hid (m = x.args.length) := hml
 have hmz : m ≤ 900 := by omega
 unfold Siz at hz
 have HZ := Lib.hid hz
 clear hT hf hz h0 hFk hBk hb hHH hlb d4 hBB h8 hx hxb ha hml hmh hxl
 unfold tskL at HT ⊢
 go_enter Tryz.func99,Tryz.ntmps99
 go_upto_region 1 with fail
 refine wp_hid2 ?_
 intro W1 HW1
 have hX1 : Hid (Ext w W1) := by rw [Hid,HW1.out];exact xt
 have U1 : W1.there (w.heap.size + 1 + 1) 0 17 := by rw [HW1.out];exact tr
 have C1 : Cold W1 (w.heap.size + 1 + 1) := by rw [HW1.out];exact cold_new (by simp) rfl
 have R1 : W1.rangeAt w.heap.size 0 [int .i64 t.fn,int .i64 t.scope,int .i64 t.prio,int .i64 t.status,int .i64 t.wkind,int .i64 t.windex,.bool t.wagain,.slice Af t.frames.length cf,.slice (some ⟨bb,ob,none⟩) t.blocks.length cb,int .i64 t.mask,.bool t.unw,int .i64 t.level,int .i64 t.reason,int .i64 t.result] := by rw [HW1.out];exact rg
 have I1 : W1.rangeAt (w.heap.size + 1) 0 [int .i64 x.op,int .i64 x.a,int .i64 x.b,int .i64 x.c,.slice A m c] := by rw [HW1.out];exact rg
 have hz1 : w.heap.size + 1 + 1 < W1.heap.size := by rw [HW1.out];simp
 have m8 : W1.cell? ⟨w.heap.size,8,none⟩ = some (.slice (some ⟨bb,ob,none⟩) t.blocks.length cb) := R1 8 _ rfl
 have zz := lt_of_cell m8
 have dd1 := hX1.out.cell dd
 have zb1 := lt_of_cell dd1
 clear HW1 dd zb
 go_upto_region 5 with (first | ((first | (with_reducible refine jl 32 ?_) | (with_reducible refine il 32 ?_));refine ldm Tryz.underlying32 rfl rfl rfl (by exact rg) rfl (by exact infoTsk) ?_;dsimp only [dZ,dS]) | ((with_reducible refine ik 32 ?_);refine stm rfl rfl rfl rfl (by exact tr) infoTsk (all_oneCell_toArray (by simp [Value.oneCell'])) ?_;(try dsimp only [Act.put])) | (go_at_call 73;(with_reducible refine (ownB_any t _ w0 _ HT.out (H0.out.trans hX1.out) HZ.out.1 HZ.out.2.1 HZ.out.2.2.1 HZ.out.2.2.2).mono ?_);rintro e w3 ⟨VF,VB,rs,hs,gs,rfl,hOF,hOB,hb⟩;have U3 := there_ext U1 hb;have I3 := range_ext I1 hb;have HX3 : Hid (Ext w w3) := Ext.trans hX1.out hb;have HCD3 : Hid (Cold w3 (w.heap.size + 1 + 1)) := C1.ext hb;have HOF := Lib.hid (hOF.base (B' := w.heap.size) (by omega));have HOB := Lib.hid (fun L hL => (hOB L hL).base (B' := w.heap.size) (by omega));have hz3 : w.heap.size + 1 + 1 < w3.heap.size := (by have := hb.size;omega);obtain ⟨gF,cF,rfl,hgF⟩ := own_form HOF.out.row hpos;obtain ⟨gB,cB,rfl,hgB⟩ := own_form (HOB.out [] (blow_nil _)).row hbpos;have hgF2 : W1.heap.size ≤ gF := (hOF.row.lt gF rfl).1;have hgB2 : W1.heap.size ≤ gB := ((hOB [] (blow_nil _)).row.lt gB rfl).1;have HW13 : Hid (∀ u ∈ hs,∀ y,u.ownBlock = some y → W1.heap.size ≤ y) := (fun u hu y hy => by obtain ⟨m,xs,hh⟩ := bl_rows (hOB [] (blow_nil _)) hu;exact (hh.lt y hy).1);clear hOF hOB hb))
 refine wp_hid2 ?_
 intro W4 HW4
 obtain ⟨HO,hX4⟩ := ownd_new H0.out HOF.out HOB.out HX3.out rfl HW4.out
 have U4 := there_ext U3 hX4
 have I4 := range_ext I3 hX4
 have HE4 : Hid (Ext w W4) := HX3.out.trans hX4
 have hc4 : Cold W4 (w.heap.size + 1 + 1) := HCD3.out.ext hX4
 have hb4 : Cold W4 w3.heap.size := by rw [HW4.out];exact cold_sets _ (Cold.alloc rfl) _ _
 obtain ⟨vr,hvr⟩ : ∃ u,rs[t.frames.length - 1]? = some u := ⟨_,List.getElem?_eq_getElem (by rw [HO.fr.len];omega)⟩
 obtain ⟨Ar,cr,rfl,hcr,_⟩ := ownsRow_shape (HO.fr.reg _ f vr HFk.out hvr)
 have C4 := HO.cells HFk.out hvr
 have HFI := Lib.hid (HO.fr.inr f (List.mem_of_getElem? HFk.out))
 have HRI := Lib.hid ((own_ints (HO.fr.reg _ f _ HFk.out hvr) (HZ.out.2.2.1 f (List.mem_of_getElem? HFk.out)) HFI.out.2.2.2).1)
 have h9b := HO.bl [] (blow_nil _)
 obtain ⟨v4,hv4⟩ : ∃ v,hs[t.blocks.length - 1]? = some v := ⟨_,List.getElem?_eq_getElem (by rw [h9b.len];omega)⟩
 obtain ⟨a4,ha4⟩ : ∃ v,gs[t.blocks.length - 1]? = some v := ⟨_,List.getElem?_eq_getElem (by rw [h9b.alen];omega)⟩
 obtain ⟨hal4,hrow4⟩ := h9b.hnd _ b v4 a4 HBk.out hv4 ha4
 obtain ⟨A4,c4,rfl,hc44,_⟩ := ownsRow_shape hrow4
 have m4 : W4.cell? ⟨gB,(t.blocks.length - 1) * 5 + 4,none⟩ = some (.slice A4 b.handlers.length c4) := by
  rw [h9b.row.cellAt _ (by omega),rowOf_get blkCells_len HBk.out hv4 (by omega)];rfl
 have z4 : W4.frozen? ⟨gB,(t.blocks.length - 1) * 5 + 4,none⟩ = false := h9b.row.frozenAt _
 rw [HMH.out] at m4 hv4 hrow4 hc44
 have hlo4 : ∀ y,(Value.slice A4 mh c4).ownBlock = some y → W1.heap.size ≤ y ∧ y < w3.heap.size := fun y hy => ⟨HW13.out _ (List.mem_of_getElem? hv4) y hy,by
  have h8 := (HOB.out [] (blow_nil _)).hnd _ b _ a4 HBk.out hv4 ha4
  exact (h8.2.lt y hy).2⟩
 have hgF3 : gF < w3.heap.size := (HOF.out.row.lt gF rfl).2
 have hgB3 : gB < w3.heap.size := ((HOB.out [] (blow_nil _)).row.lt gB rfl).2
 have hn1 : ¬ (Value.slice A4 mh c4).ownBlock = some gB := fun e => by
  rcases apart_types h9b.row hrow4 (by decide) with h9 | h9
  ·cases h9
  ·exact h9 e.symm
 have hn2 : ¬ (Value.slice A4 mh c4).ownBlock = some gF := fun e => by
  rcases apart_types HO.fr.row hrow4 (by decide) with h9 | h9
  ·cases h9
  ·exact h9 e.symm
 have b7 : W4.cell? ⟨w3.heap.size,7,none⟩ = some (.slice (some ⟨gF,0,none⟩) t.frames.length cF) := HO.box 7 _ rfl
 have b8 : W4.cell? ⟨w3.heap.size,8,none⟩ = some (.slice (some ⟨gB,0,none⟩) t.blocks.length cB) := HO.box 8 _ rfl
 have i4 : W4.cell? ⟨w.heap.size + 1,4,none⟩ = some (.slice A m c) := I4 4 _ rfl
 have i2 : W4.cell? ⟨w.heap.size + 1,2,none⟩ = some (int .i64 x.b) := I4 2 _ rfl
 have zB := lt_of_cell b7
 have zI := lt_of_cell i4
 have zg := lt_of_cell m4
 have HO4 := Lib.hid HO
 have HROW := Lib.hid hrow4
 have HV4 := Lib.hid hv4
 have HA4 := Lib.hid ha4
 clear HW4 hX4 U3 I3 R1 U1 I1 C1 HO h9b hv4 ha4 hrow4 hal4 m8 zz dd1 zb1
 go_upto_region 6 with fail
 have hzz : W1.heap.size ≤ w3.heap.size ∧ w3.heap.size < W4.heap.size := ⟨by omega,zB⟩
 refine wp_region_th 24 (fun W' => W'.cell? ⟨w3.heap.size,7,none⟩ = some (.slice (some ⟨gF,0,none⟩) t.frames.length cF) ∧ W'.cell? ⟨w3.heap.size,8,none⟩ = some (.slice (some ⟨gB,0,none⟩) t.blocks.length cB) ∧ W'.cell? ⟨w.heap.size + 1,4,none⟩ = some (.slice A m c) ∧ W'.cell? ⟨w.heap.size + 1,2,none⟩ = some (int .i64 x.b) ∧ W'.cell? ⟨gB,(t.blocks.length - 1) * 5 + 4,none⟩ = some (.slice A4 mh c4) ∧ W'.rangeAt gF ((t.frames.length - 1) * 5) [int .i64 f.fn,int .i64 f.pc,.slice Ar f.regs.length cr,int .i64 f.result,.bool f.cleanup]) (by kernel_rfl) (by kernel_rfl) (by kernel_rfl) (by kernel_rfl) (by decide) ?_ ?_
 ·exact ⟨by go_simp,by go_simp,by go_simp,by go_simp,by go_simp,range_drew C4⟩
 intro hT hHeld
 (refine tht 0 hT ?_;(try simp only [Act.put,aset,dZ,dS]);refine tht 1 hT ?_;(try simp only [Act.put,aset,dZ,dS]);refine tht 2 hT ?_;(try simp only [Act.put,aset,dZ,dS]);refine tht 3 hT ?_;(try simp only [Act.put,aset,dZ,dS]);refine tht 4 hT ?_;(try simp only [Act.put,aset,dZ,dS]);refine tht 5 hT ?_;(try simp only [Act.put,aset,dZ,dS]);refine tht 6 hT ?_;(try simp only [Act.put,aset,dZ,dS]);refine tht 7 hT ?_;(try simp only [Act.put,aset,dZ,dS]);refine tht 8 hT ?_;(try simp only [Act.put,aset,dZ,dS]);refine tht 9 hT ?_;(try simp only [Act.put,aset,dZ,dS]);refine tht 10 hT ?_;(try simp only [Act.put,aset,dZ,dS]);refine tht 11 hT ?_;(try simp only [Act.put,aset,dZ,dS]);refine tht 12 hT ?_;(try simp only [Act.put,aset,dZ,dS]);refine tht 13 hT ?_;(try simp only [Act.put,aset,dZ,dS]);refine tht 14 hT ?_;(try simp only [Act.put,aset,dZ,dS]))
 (refine th_take (i := 15) (oi := ?oi15_19) (v := ?v15_19) hT ?hi15_19 (by decide) (by kernel_rfl) (by kernel_rfl) ?hq15_19 (Or.inl ⟨?hw15_19, ?hy15_19⟩) (by assumption) ?rest15_19;(case hi15_19 => (simp only [List.getElem?_toArray,List.getElem?_cons_zero,List.getElem?_cons_succ];rfl));(case hw15_19 => rfl);(case hy15_19 => (intro w' hSw;refine Eq.trans (exec_load_mid 62 _ (by rfl) gF ((t.frames.length - 1) * 5) (by rfl) _ _ Tryz.underlying62 (by rfl) ?hiL15_19 w' (hSw.2.2.2.2.2)) ?eqL15_19;(case eqL15_19 => with_reducible rfl);exact infoFrm5));(case hq15_19 => (exact fun _ _ _ h => h));(try simp only [Act.put,aset,dZ,dS]))
 (refine tht 16 hT ?_;(try simp only [Act.put,aset,dZ,dS]);refine tht 17 hT ?_;(try simp only [Act.put,aset,dZ,dS]))
 refine tst 18 (fun K hK => ?_)
 go_simp
 go_at_call 149
 refine (rarguments_any f x.args A Ar m c f.regs.length cr f.fn f.pc f.result f.cleanup _ ((HX.out.mono RInt.stays H0.out).mono RInt.stays (HE4.out.trans xt)) (by omega) (HRI.out.mono RInt.stays xt) HA.out).mono ?_
 rintro e w5 ⟨va,rfl,hva,hb5⟩
 obtain ⟨hc5,hf5,hs5,he5⟩ := Ext.use (w := W4) hb5 xt
 obtain ⟨Av,cv,rfl,hcv,_⟩ := ownsRow_shape hva
 have hva5 : Hid (w5.ownsRow W4.heap.size 3 1 (.slice Av m cv) m ((argsOf f x.args).map (int .i64))) := World.ownsRow.mono hva (by simp)
 clear hb5 hva
 (try simp only [World.size_drew] at hs5)
 have zR5 : w3.heap.size < w5.heap.size := by omega
 have zB5 : gB < w5.heap.size := by omega
 have zF5 : gF < w5.heap.size := by omega
 have zw5 : w.heap.size + 1 < w5.heap.size := by omega
 dsimp only
 refine hK.out _ _ ?_ (fun hHeld => ?_)
 ·exact ⟨by go_simp,by go_simp,by go_simp,by go_simp,by go_simp,range_ext C4 he5⟩
 clear hK K
 (try simp only [Act.put,aset,dZ,dS])
 (refine tht 19 hT ?_;(try simp only [Act.put,aset,dZ,dS]))
 refine tst 20 (fun K hK => ?_)
 go_simp
 refine hK.out _ _ ?_ (fun hHeld => ?_)
 ·exact ⟨by go_simp,by go_simp,by go_simp,by go_simp,by go_simp,range_ext C4 (he5.alloc _)⟩
 clear hK K
 (try simp only [Act.put,aset,dZ,dS])
 refine tst 21 (fun K hK => ?_)
 have hE5 : Ext W4 (w5.alloc (.cells #[int .i64 x.b,.slice Av m cv] 58)) := he5.alloc _
 have hRW : Hid ((w5.alloc (.cells #[int .i64 x.b,.slice Av m cv] 58)).ownsRow w.heap.size 58 2 (.slice A4 mh c4) mh (rowOf hdlCells b.handlers a4)) := ownsRow_ext HROW.out hE5
 obtain ⟨i0,hi0,hz0,hz1,hz2⟩ := info_parts infoHdl
 refine step_append_lies _ (by rfl) (.tmp 36) (.tmp 48) _ (by rfl) w.heap.size 58 i0 _ 2 32 Tryz.underlying53 hi0 hz0 hz1 hz2 rfl (by omega) _ mh _ (by rfl) hRW.out ⟨w5.heap.size,0,none⟩ 1 1 (hdlCells ⟨x.b,argsOf f x.args⟩ (.slice Av m cv)) (by rfl) rfl (fun j u hj => by rw [addr_add];simpa [go_sem,hdlCells] using hj) (hdlCells_one _ _ rfl) (by omega) (by simp only [maxLen];omega) (by omega) (by simp;omega) _ rfl ?_
 clear hi0 hz0 hz1 hz2
 intro g6 cap6 w6 hown6 hgr6 hat6 hlt6
 have hn3 : ∀ y,y < W1.heap.size ∨ w3.heap.size ≤ y → ¬ (Value.slice A4 mh c4).ownBlock = some y := fun y h e => by have := hlo4 y e;omega
 have far6 : ∀ {b o : Nat} {v : Value},b < w5.heap.size → ¬ (Value.slice A4 mh c4).ownBlock = some b → w5.cell? ⟨b,o,none⟩ = some v → w6.cell? ⟨b,o,none⟩ = some v := fun {b o v} h1 h2 h3 => by
  rw [hgr6.cell_far ⟨b,o,none⟩ (by simp;omega) (fun e => h2 e.symm),World.cell?_alloc_lt _ _ _ h1];exact h3
 have there6 : ∀ {b n : Nat},W4.there b 0 n → b < W4.heap.size → ¬ (Value.slice A4 mh c4).ownBlock = some b → w6.there b 0 n := fun {b n} h1 h3 h2 j hj => by
  have h4 := he5.size
  obtain ⟨a1,a2⟩ := there_old (there_ext h1 he5) (.cells #[int .i64 x.b,.slice Av m cv] 58) j hj
  refine ⟨?_, ?_⟩
  ·rw [hgr6.cell_far ⟨b,0 + j,none⟩ (by simp;omega) (fun e => h2 e.symm)];exact a1
  ·rw [hgr6.frozen_far ⟨b,0 + j,none⟩ (by simp;omega) (fun e => h2 e.symm)];exact a2
 have hW45 : W4.heap.size ≤ w5.heap.size := he5.size
 have hr6 : w6.frozen? ⟨gB,(t.blocks.length - 1) * 5 + 4,none⟩ = false := by
  rw [hgr6.frozen_far ⟨gB,(t.blocks.length - 1) * 5 + 4,none⟩ (by simp;omega) (fun e => hn1 e.symm),Below.frozen hE5 (show gB < W4.heap.size from zg)];exact z4
 have U6 := there6 U4 (by omega) (hn3 _ (.inl (by omega)))
 have R6 : w6.rangeAt w3.heap.size 0 (tskL t (.slice (some ⟨gF,0,none⟩) t.frames.length cF) (.slice (some ⟨gB,0,none⟩) t.blocks.length cB)) := fun j v hj => far6 zR5 (hn3 _ (.inr (Nat.le_refl _))) (range_ext HO4.out.box he5 j v hj)
 have hcdA : ∀ b,Cold W4 b → ¬ (Value.slice A4 mh c4).ownBlock = some b → Cold w6 b := fun b hb h2 => by
  obtain ⟨o,h1,h3⟩ := hb.ext hE5
  exact ⟨o,(hgr6.block _ (Array.getElem?_eq_some_iff.1 h1).1 (fun e => h2 e.symm)).trans h1,h3⟩
 have hc6 := hcdA _ hc4 (hn3 _ (.inl (by omega)))
 have hb6 := hcdA _ hb4 (hn3 _ (.inr (Nat.le_refl _)))
 have hE6 : Hid (Ext w w6) := Below.grown (Ext.trans HE4.out hE5) hgr6 (by have := HE4.out.size;have := hE5.size;omega) (fun k e => by have := (hRW.out.lt k e).1;omega)
 have m6 : w6.cell? ⟨gB,(t.blocks.length - 1) * 5 + 4,none⟩ = some (.slice A4 mh c4) := far6 zB5 hn1 (he5.cell m4)
 have HAI : Hid (∀ z ∈ argsOf f x.args,InR z) := fun z hz => by
  unfold argsOf at hz
  obtain ⟨a,ha',rfl⟩ := List.mem_map.1 hz
  exact regS_inR HFI.out.2.2.2 _
 have HAL : Hid ((argsOf f x.args).length = m) := by rw [Hid,HML.out];unfold argsOf;exact List.length_map ..
 have HFR9 : Hid (OFr w.heap.size (w6.setCell ⟨gB,(t.blocks.length - 1) * 5 + 4,none⟩ (.slice (some ⟨g6,0,none⟩) (mh + 1) cap6)) t.frames (.slice (some ⟨gF,0,none⟩) t.frames.length cF) rs) := by
  have h1 := (HO4.out.fr.mono hE5).kept hgr6 (apart_types (HO4.out.fr.mono hE5).row hRW.out (by decide)) (fun u hu => by obtain ⟨m,xs,hh⟩ := fr_rows (HO4.out.fr.mono hE5) hu;exact apart_types hh hRW.out (by decide))
  have h2 := ((HO4.out.bl [] (blow_nil _)).mono hE5).row.kept hgr6 (apart_types ((HO4.out.bl [] (blow_nil _)).mono hE5).row hRW.out (by decide))
  exact h1.kept (grown_setCell w6 ⟨gB,(t.blocks.length - 1) * 5 + 4,none⟩ _) (apart_ne (apart_types h1.row h2 (by decide)) rfl) (fun u hu => by obtain ⟨m,xs,hh⟩ := fr_rows h1 hu;exact apart_ne (apart_types hh h2 (by decide)) rfl)
 have HBL9 : Hid (∀ L,BLow w0 L → (∀ r ∈ L,Apart r (.slice Av m cv)) → OBl w.heap.size (w6.setCell ⟨gB,(t.blocks.length - 1) * 5 + 4,none⟩ (.slice (some ⟨g6,0,none⟩) (mh + 1) cap6)) (t.blocks.set (t.blocks.length - 1) { b with handlers := b.handlers ++ [⟨x.b,argsOf f x.args⟩] }) (.slice (some ⟨gB,0,none⟩) t.blocks.length cB) (hs.set (t.blocks.length - 1) (.slice (some ⟨g6,0,none⟩) (mh + 1) cap6)) (gs.set (t.blocks.length - 1) (a4 ++ [.slice Av m cv])) L) := fun L hL hA =>
  obl_handler (y := ⟨x.b,argsOf f x.args⟩) HO4.out.bl H0.out.size HBk.out HV4.out HA4.out hE5 (by
   have h9 := ownsRow_ext hva5.out ((Ext.refl _).alloc (.cells #[int .i64 x.b,.slice Av m cv] 58))
   show World.ownsRow _ _ _ _ _ (argsOf f x.args).length _
   rw [HAL.out]
   exact h9) (by show (argsOf f x.args).length ≤ 1000;rw [HAL.out];omega) ⟨HXB.out,HAI.out⟩ (by rw [HMH.out];exact hown6) hgr6 (hat6.imp (fun e => e.symm) (fun e => by rw [e];rfl)) rfl L hL hA
 refine hK.out _ _ ?_ (fun hHeld => ?_)
 ·exact ⟨R6 7 _ rfl,R6 8 _ rfl,far6 zw5 (hn3 _ (.inl (by omega))) (he5.cell i4),far6 zw5 (hn3 _ (.inl (by omega))) (he5.cell i2),m6,fun j v hj => far6 zF5 hn2 (range_ext C4 he5 j v hj)⟩
 clear hK K
 (try simp only [Act.put,aset,dZ,dS])
 (refine tht 22 hT ?_;(try simp only [Act.put,aset,dZ,dS]);refine tht 23 hT ?_;(try simp only [Act.put,aset,dZ,dS]))
 refine th_done (by kernel_rfl) ?_
 simp only [List.drop_succ_cons,List.drop_zero]
 clear hHeld far6 there6 hcdA hc5 hf5 b7 b8 i4 i2 m4 z4 C4 hT hgr6 hown6
 go_upto_region 7 with fail
 refine wp_hid2 ?_
 intro W9 HW9
 have HO9 : Hid (Ownh w0 w w3.heap.size W9 { t with blocks := t.blocks.set (t.blocks.length - 1) { b with handlers := b.handlers ++ [⟨x.b,argsOf f x.args⟩] } } (.slice (some ⟨gF,0,none⟩) t.frames.length cF) (.slice (some ⟨gB,0,none⟩) t.blocks.length cB) rs (hs.set (t.blocks.length - 1) (.slice (some ⟨g6,0,none⟩) (mh + 1) cap6)) (gs.set (t.blocks.length - 1) (a4 ++ [.slice Av m cv])) (.slice Av m cv)) := by
  rw [Hid,HW9.out]
  refine ⟨HFR9.out,HBL9.out,range_other R6 (show ¬ gB = w3.heap.size by omega),hE6.out.setCell (show w.heap.size ≤ gB from hgB) _,H0.out,fun y hy => ?_⟩
  have h1 := (hva5.out.lt y hy).1
  have h2 := HE4.out.size
  refine ⟨by omega,fun e => ?_⟩
  have h3 : gF = y := by
   simp only [Value.ownBlock,Option.some.injEq] at e
   exact e
  omega
 have U9 : W9.there (w.heap.size + 1 + 1) 0 17 := by rw [HW9.out];exact there_set U6
 have hc9 : Cold W9 (w.heap.size + 1 + 1) := by rw [HW9.out];exact hc6.setCell _ _
 have hgFb : ¬ gF = w3.heap.size := by omega
 obtain ⟨q1,q2,_⟩ := HO9.out.pc (gF := gF) (cF := cF) rfl HFk.out hgFb (by omega)
 have b75 : W9.cell? ⟨w3.heap.size,7,none⟩ = some (.slice (some ⟨gF,0,none⟩) t.frames.length cF) := HO9.out.box 7 _ rfl
 replace q1 : W9.cell? ⟨gF,(t.frames.length - 1) * 5 + 1,none⟩ = some (int .i64 f.pc) := q1
 replace q2 : W9.frozen? ⟨gF,(t.frames.length - 1) * 5 + 1,none⟩ = false := q2
 have zF5 := lt_of_cell q1
 have zB5 := lt_of_cell b75
 have hra : ¬ (Value.slice Av m cv).ownBlock = some (w.heap.size + 1 + 1) := fun e => by have := (hva5.out.lt _ e).1;omega
 clear HW9 HO4 U6 R6 hc6 hb6 m6 hr6 HFR9 HBL9 hE6 HROW hRW
 go_upto_region 7 with fail
 (refine wp_region_quiet_tail 12 (by kernel_rfl) (by kernel_rfl) ?_;(try simp only [List.take_succ_cons,List.take_zero,List.drop_succ_cons,List.drop_zero]);(repeat (go_big_quiet_step (fail)));refine wpQuiet_nil fun w1 h1 => ?_;obtain ⟨hc,hf,hs,he⟩ := eu (w := W9) h1 xt;clear h1;(try simp only [sA,sC,sD,sN] at hs))
 have HO10 := Lib.hid (HO9.out.mono he)
 have U10 := there_ext U9 he
 have hc10 := hc9.ext he
 obtain ⟨q4,q5,q6⟩ := HO10.out.pc (gF := gF) (cF := cF) rfl HFk.out hgFb (by omega)
 replace q4 : w1.cell? ⟨gF,(t.frames.length - 1) * 5 + 1,none⟩ = some (int .i64 f.pc) := q4
 replace q5 : w1.frozen? ⟨gF,(t.frames.length - 1) * 5 + 1,none⟩ = false := q5
 have HQ2 := Lib.hid (q6 (f.pc + 1) ⟨by omega,by omega⟩)
 clear q6 hc hf hs he HO9 q1 q2 b75 U9 hc9 zF5 zB5
 go_upto_region 8 with fail
 refine wp_hid2 ?_
 intro W11 HW11
 have HO11 : Hid (Ownh w0 w w3.heap.size W11 { t with frames := t.frames.set (t.frames.length - 1) { f with pc := f.pc + 1 },blocks := t.blocks.set (t.blocks.length - 1) { b with handlers := b.handlers ++ [⟨x.b,argsOf f x.args⟩] } } (.slice (some ⟨gF,0,none⟩) t.frames.length cF) (.slice (some ⟨gB,0,none⟩) t.blocks.length cB) rs (hs.set (t.blocks.length - 1) (.slice (some ⟨g6,0,none⟩) (mh + 1) cap6)) (gs.set (t.blocks.length - 1) (a4 ++ [.slice Av m cv])) (.slice Av m cv)) := by rw [Hid,HW11.out];exact HQ2.out
 have U11 : W11.there (w.heap.size + 1 + 1) 0 17 := by rw [HW11.out];exact there_set U10
 have hc11 : Cold W11 (w.heap.size + 1 + 1) := by rw [HW11.out];exact hc10.setCell _ _
 have R11 : W11.rangeAt w3.heap.size 0 [int .i64 t.fn,int .i64 t.scope,int .i64 t.prio,int .i64 t.status,int .i64 t.wkind,int .i64 t.windex,.bool t.wagain,.slice (some ⟨gF,0,none⟩) t.frames.length cF,.slice (some ⟨gB,0,none⟩) t.blocks.length cB,int .i64 t.mask,.bool t.unw,int .i64 t.level,int .i64 t.reason,int .i64 t.result] := HO11.out.box
 clear HW11 HQ2 U10 hc10 q4 q5 HO10
 go_wp2_with (first | ((first | (with_reducible refine jl 32 ?_) | (with_reducible refine il 32 ?_));refine ldm Tryz.underlying32 rfl rfl rfl (by exact rg) rfl (by exact infoTsk) ?_;dsimp only [dZ,dS]) | ((first | (with_reducible refine jk 102 ?_) | (with_reducible refine ik 102 ?_));refine stm rfl rfl rfl rfl (by exact tr) infoRes (all_oneCell_toArray (by simp [Value.oneCell'])) ?_;(try dsimp only [Act.put])))
 refine ret_rangeR (b := w.heap.size + 1 + 1) Tryz.results99 rfl rfl ?hl2 (World.rangeAt_setCells_same _ _ 0 _ ?ht2) ?hf2
 case hl2 => rfl
 case ht2 => exact U11
 case hf2 =>
  refine HO11.out.fin (s := goOn) ⟨by show (List.set _ _ _).length ≤ 1000;rw [List.length_set];exact HZ.out.1,by show (List.set _ _ _).length ≤ 1000;rw [List.length_set];exact HZ.out.2.1,fun y hy => ?_,fun y hy => ?_⟩ HI.out (by omega) hra hc11 _
  ·rcases List.mem_or_eq_of_mem_set hy with h | rfl
   ·exact HZ.out.2.2.1 y h
   ·exact HZ.out.2.2.1 f (List.mem_of_getElem? HFk.out)
  ·rcases List.mem_or_eq_of_mem_set hy with h | rfl
   ·exact HZ.out.2.2.2 y h
   ·show (b.handlers ++ [_]).length ≤ 1000
    rw [List.length_append,HMH.out];simp;omega
end Go.Proofs.YtcjjoabofecjmaaGreat

