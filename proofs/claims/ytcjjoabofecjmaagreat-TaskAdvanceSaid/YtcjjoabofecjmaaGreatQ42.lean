/- A part of the proof: failed of the reference of layer 28; what an instruction's r. -/
import Derived.Test.YtcjjoabofecjmaaGreatQ41
set_option linter.unusedVariables false
set_option linter.unusedSimpArgs false
set_option maxHeartbeats 16000000
namespace Go.Proofs.YtcjjoabofecjmaaGreat
open Go.RowKit Go.Sort
open Go.Value (int)
def resV (t : Tsk) (VF VB : Value) (s : Stp) : Value := .agg #[int .i64 t.fn,int .i64 t.scope,int .i64 t.prio,int .i64 t.status,int .i64 t.wkind,int .i64 t.windex,.bool t.wagain,VF,VB,int .i64 t.mask,.bool t.unw,int .i64 t.level,int .i64 t.reason,int .i64 t.result,int .i64 s.kind,int .i64 s.reason,int .i64 s.value]
theorem infoRes : (Tryz.prog.info? 102).map (·.size) = some 17 := by kernel_rfl
theorem ret_rangeR {fn : Func} {R : Ending → World → Prop} {a : Act} {w : World} {b s : Nat} {cs : List Value} (hfn : fn.results = #[ResultVar.cell s 102]) (hs : a.tmps[s]? = some (.pointer (some ⟨b,0,none⟩))) (hd : a.defers = []) (hl : cs.length = 17) (hR : w.rangeAt b 0 cs)
  (h : R (.returned (.agg cs.toArray)) w) : bodyPost Tryz.prog fn R .ret a w :=
 bodyPost_ret (by simp [results,hfn,hs,asAddr,run_loadVar_mid w b 0 102 cs _ hR Tryz.underlying102 rfl (by rw [infoRes,hl])]) hd h
theorem RTsk.two {w : World} {t : Tsk} {VF VB : Value} (hT : RTsk w t (.agg (tskL t VF VB).toArray)) : ∃ Af cf Ab cb,VF = .slice Af t.frames.length cf ∧ VB = .slice Ab t.blocks.length cb ∧ RSl 5 RFrm w Af t.frames.length t.frames ∧ RSl 5 RBlk w Ab t.blocks.length t.blocks ∧ t.frames.length ≤ cf ∧ t.blocks.length ≤ cb := by
 obtain ⟨Af,nf,cf,Ab,nb,cb,e0,_,_,_,_,_,_,_,_,_,_,hF,hB,hcf,hcb⟩ := hT
 have e1 : VF = .slice Af nf cf := by
  have := congrArg (fun v => match v with | .agg a => a.toList[7]? | _ => none) e0
  simpa [tskL] using this
 have e2 : VB = .slice Ab nb cb := by
  have := congrArg (fun v => match v with | .agg a => a.toList[8]? | _ => none) e0
  simpa [tskL] using this
 obtain rfl : nf = t.frames.length := hF.len
 obtain rfl : nb = t.blocks.length := hB.len
 exact ⟨Af,cf,Ab,cb,e1,e2,hF,hB,hcf,hcb⟩
def Keep (w w' W' : World) : Prop := w'.heap.size ≤ W'.heap.size ∧ ∀ k,w.heap.size ≤ k → k < w'.heap.size → W'.heap[k]? = w'.heap[k]?
theorem Keep.refl (w w' : World) : Keep w w' w' := ⟨Nat.le_refl _,fun _ _ _ => rfl⟩
theorem Keep.ext {w w' W' : World} (h : Ext w' W') : Keep w w' W' := ⟨h.size,fun k _ h2 => h.block k h2⟩
theorem Keep.setCells {w w' W : World} (h : Keep w w' W) {b : Nat} (hb : b < w.heap.size) (o : Nat) (vs : List Value) : Keep w w' (W.setCells b o vs) := by
 have hg := setCells_grown b vs o W
 refine ⟨Nat.le_trans h.1 hg.size,fun k h1 h2 => ?_⟩
 rw [hg.block k (Nat.lt_of_lt_of_le h2 h.1) (fun e => by injection e with e;omega)]
 exact h.2 k h1 h2
theorem Keep.trans {u w w1 w2 W' : World} (h : Keep w w1 w2) (k : Keep u w2 W') (hs : u.heap.size ≤ w.heap.size) : Keep w w1 W' :=
 ⟨Nat.le_trans h.1 k.1,fun i h1 h2 => (k.2 i (by omega) (Nat.lt_of_lt_of_le h2 h.1)).trans (h.2 i h1 h2)⟩
def ResPost (r : Tsk × Stp) (w0 : Bs) (w : World) (e : Ending) (w' : World) : Prop := ∃ Af cf Ab cb,e = .returned (resV r.1 (.slice Af r.1.frames.length cf) (.slice Ab r.1.blocks.length cb) r.2) ∧
 (∀ W',BExt w0 W' → Keep w w' W' → BRd w0 W' r.1 (.agg (tskL r.1 (.slice Af r.1.frames.length cf) (.slice Ab r.1.blocks.length cb)).toArray)) ∧ Ext w w'
set_option maxRecDepth 4000 in
theorem failed_any (t : Tsk) (VF VB : Value) (r : Int) (w0 : Bs) (w : World) (hT : BTsk w0 t (.agg (tskL t VF VB).toArray)) (h0 : BExt w0 w) :
  Calls Tryz.prog 70 #[.agg (tskL t VF VB).toArray,int .i64 r] w (ResPost (failT t r) w0 w) := by
 obtain ⟨Af,cf,Ab,cb,rfl,rfl,_,_,_,_⟩ := (hT.mono h0).two
 have HT := Lib.hid hT
 clear hT h0
 unfold tskL
 go_enter Tryz.func70,Tryz.ntmps70
 go_wp2_with (first | ((first | (with_reducible refine jl 32 ?_) | (with_reducible refine il 32 ?_));refine ldm Tryz.underlying32 rfl rfl rfl (by exact rg) rfl (by exact infoTsk) ?_;dsimp only [dZ,dS]) | ((first | (with_reducible refine jk 102 ?_) | (with_reducible refine ik 102 ?_));refine stm rfl rfl rfl rfl (by exact tr) infoRes (all_oneCell_toArray (by simp [Value.oneCell'])) ?_;(try dsimp only [Act.put])))
 refine ret_rangeR (b := w.heap.size + 1) Tryz.results70 rfl rfl ?hl (World.rangeAt_setCells_same _ _ 0 _ ?ht) ?hf
 case hl => rfl
 case ht => show World.there _ _ 0 17;exact tr
 case hf => exact ⟨_,_,_,_,rfl,fun W' h _ => HT.out W' h,xts⟩
def Siz (t : Tsk) : Prop := t.frames.length ≤ 1000 ∧ t.blocks.length ≤ 1000 ∧ (∀ f : Frm,f ∈ t.frames → f.regs.length ≤ 1000) ∧ ∀ b : Blk,b ∈ t.blocks → b.handlers.length ≤ 1000
structure Ownd (w0 : Bs) (w : World) (b : Nat) (W : World) (t : Tsk) (VF VB : Value) (rs hs : List Value) (gs : List (List Value)) : Prop where
 fr : OFr w.heap.size W t.frames VF rs
 bl : ∀ L,BLow w0 L → OBl w.heap.size W t.blocks VB hs gs L
 box : W.rangeAt b 0 (tskL t VF VB)
 thr : W.there b 0 14
 ext : Ext w W
 e0 : BExt w0 w
theorem ownd_new {w0 : Bs} {w w3 : World} {t : Tsk} {VF VB : Value} {rs hs : List Value} {gs : List (List Value)} {W : World} {cs : List Value} (h0 : BExt w0 w) (hF : OFr w.heap.size w3 t.frames VF rs) (hB : ∀ L,BLow w0 L → OBl w.heap.size w3 t.blocks VB hs gs L) (hE : Ext w w3) (hcs : cs.length = 14)
  (hW : W = (w3.alloc (.cells cs.toArray 32)).setCells w3.heap.size 0 (tskL t VF VB)) : Ownd w0 w w3.heap.size W t VF VB rs hs gs ∧ Ext w3 W := by
 have hX : Ext w3 W := by rw [hW];exact ((Ext.refl _).alloc _).setCells (Nat.le_refl _) _ _
 refine ⟨⟨hF.mono hX,fun L hL => (hB L hL).mono hX, ?_, ?_,hE.trans hX,h0⟩,hX⟩
 ·rw [hW]
  exact World.rangeAt_setCells_same _ _ 0 _ (there_new rfl (by rw [List.size_toArray,hcs];rfl))
 ·rw [hW]
  exact there_sets (there_new rfl (by rw [List.size_toArray,hcs]))
theorem Ownd.mono {w0 : Bs} {w W2 : World} {b : Nat} {W : World} {t : Tsk} {VF VB : Value} {rs hs : List Value} {gs : List (List Value)} (h : Ownd w0 w b W t VF VB rs hs gs) (he : Ext W W2) : Ownd w0 w b W2 t VF VB rs hs gs :=
 ⟨h.fr.mono he,fun L hL => (h.bl L hL).mono he,range_ext h.box he,there_ext h.thr he,h.ext.trans he,h.e0⟩
theorem own_keep {w w' W' : World} {e : TypeId} {sz : Nat} {v : Value} {n : Nat} {xs : List Value} (h : w'.ownsRow w.heap.size e sz v n xs) (k : Keep w w' W') : W'.ownsRow w.heap.size e sz v n xs := by
 obtain ⟨h1,h2⟩ := h
 refine ⟨h1, ?_⟩
 rcases h2 with h2 | ⟨g,cap,cur,e1,hb,hg,h3⟩
 ·exact .inl h2
 ·exact .inr ⟨g,cap,cur,e1,hb,(k.2 g hb (Array.getElem?_eq_some_iff.1 hg).1).trans hg,h3⟩
theorem OFr.keep {w w' W' : World} {fs : List Frm} {VF : Value} {rs : List Value} (h : OFr w.heap.size w' fs VF rs) (k : Keep w w' W') : OFr w.heap.size W' fs VF rs :=
 ⟨h.len,own_keep h.row k,fun i f v a b => own_keep (h.reg i f v a b) k,h.dis,h.inr⟩
theorem OBl.keep {w0 : Bs} {w w' W' : World} {bs : List Blk} {VB : Value} {hs : List Value} {gs : List (List Value)} (h : ∀ L,BLow w0 L → OBl w.heap.size w' bs VB hs gs L) (h1 : BExt w0 w') (h2 : BExt w0 W') (k : Keep w w' W') : OBl w.heap.size W' bs VB hs gs [] := by
 have h0 := h [] (blow_nil _)
 refine ⟨h0.len,h0.alen,own_keep h0.row k,fun i b v a e1 e2 e3 => ⟨(h0.hnd i b v a e1 e2 e3).1,own_keep (h0.hnd i b v a e1 e2 e3).2 k⟩,fun i b a q x u e1 e2 e3 e4 => ?_,h0.dis,h0.inr⟩
 obtain ⟨p1,⟨A,n,c,rfl,hR,hc⟩,_⟩ := h0.arg i b a q x u e1 e2 e3 e4
 refine ⟨p1,⟨A,n,c,rfl,hR.backB h1 h2 ?_,hc⟩,.inr fun r hr => by cases hr⟩
 by_cases hx : x.args = []
 ·exact .inl hx
 refine .inr fun y o s e => ?_
 by_cases h9 : y < w0.heap.size ∧ y ∉ w0.S
 ·exact h9
 rcases ((h [.slice (some ⟨y,0,none⟩) 0 0] (fun r hr z hz => by
  rw [List.mem_singleton] at hr
  subst hr
  have : y = z := by injection hz
  subst this
  by_cases h8 : y ∈ w0.S
  ·exact .inr h8
  ·exact .inl (Nat.le_of_not_lt fun h7 => h9 ⟨h7,h8⟩))).arg i b a q x _ e1 e2 e3 e4).2.2 with e5 | e5
 ·exact absurd e5 hx
 ·have := e5 _ (List.mem_singleton.2 rfl)
  subst e
  rcases this with h | h
  ·cases h
  ·exact absurd rfl h
theorem cold_new {w : World} {o : Obj} {b : Nat} (hb : b = w.heap.size) (h : hotO o = false) : Cold (w.alloc o) b := by subst hb;exact Cold.alloc h
theorem Ownd.pc {w0 : Bs} {w : World} {b : Nat} {W : World} {t : Tsk} {VF VB : Value} {rs hs : List Value} {gs : List (List Value)} (h : Ownd w0 w b W t VF VB rs hs gs) {f : Frm} {gF cF : Nat} (hVF : VF = .slice (some ⟨gF,0,none⟩) t.frames.length cF) (hf : topF t = some f) (hgb : ¬ gF = b) (hwF : w.heap.size ≤ gF) :
  W.cell? ⟨gF,(t.frames.length - 1) * 5 + 1,none⟩ = some (int .i64 f.pc) ∧ W.frozen? ⟨gF,(t.frames.length - 1) * 5 + 1,none⟩ = false ∧
   ∀ x : Int,InR x → Ownd w0 w b (W.setCell ⟨gF,(t.frames.length - 1) * 5 + 1,none⟩ (int .i64 x)) (setTop t { f with pc := x }) VF VB rs hs gs := by
 subst hVF
 have hO := h.bl
 have he0 := h.e0.size
 obtain ⟨g',c',e',_,fz,pc,hset⟩ := h.fr.set_pc (i := t.frames.length - 1) hf
 injection e' with e1 e2 e3
 injection e1 with e1
 injection e1 with e1 _ _
 subst e1 e3
 refine ⟨pc,fz,fun x hx => ?_⟩
 obtain ⟨h1,h2⟩ := hset x hx
 refine ⟨h1,fun L hL => ?_,range_other h.box hgb,there_set h.thr,h.ext.setCell (show w.heap.size ≤ gF from hwF) _,h.e0⟩
 have hL2 : BLow w0 (.slice (some ⟨gF,0,none⟩) 0 0 :: L) := by
  intro r hr y hy
  rcases List.mem_cons.1 hr with rfl | hr
  ·simp only [Value.ownBlock,Option.some.injEq] at hy;exact .inl (by omega)
  ·exact hL r hr y hy
 have hB := hO _ hL2
 exact (hB.wrote h2 (apart_ne (apart_types hB.row h.fr.row (by decide)) rfl) (fun u hu => by obtain ⟨m,xs,hh⟩ := bl_rows hB hu;exact apart_ne (apart_types hh h.fr.row (by decide)) rfl) List.mem_cons_self rfl).list fun r' hr' => ⟨r',List.mem_cons_of_mem _ hr',rfl⟩
theorem Ownd.fin {w0 : Bs} {w : World} {b r : Nat} {W : World} {t : Tsk} {VF VB : Value} {rs hs : List Value} {gs : List (List Value)} {s : Stp} (h : Ownd w0 w b W t VF VB rs hs gs) (hz : Siz t) (hi : InR t.fn ∧ InR t.scope ∧ InR t.prio ∧ InR t.status ∧ InR t.wkind ∧ InR t.windex ∧ InR t.mask ∧ InR t.level ∧ InR t.reason ∧ InR t.result) (hr : w.heap.size ≤ r) (hc : Cold W r) (vs : List Value) :
  ResPost (t,s) w0 w (.returned (resV t VF VB s)) (W.setCells r 0 vs) := by
 have hG := setCells_grown r vs 0 W
 have he0 := h.e0.size
 have hF := h.fr.kept hG (row_cold h.fr.row (by decide) hc) (fun u hu => by obtain ⟨m,xs,hh⟩ := fr_rows h.fr hu;exact row_cold hh (by decide) hc)
 have hB : ∀ L,BLow w0 L → OBl w.heap.size (W.setCells r 0 vs) t.blocks VB hs gs L := fun L hL => by
  have hB1 := h.bl (.slice (some ⟨r,0,none⟩) 0 0 :: L) (fun x hx y hy => by
   rcases List.mem_cons.1 hx with rfl | hx
   ·simp only [Value.ownBlock,Option.some.injEq] at hy;exact .inl (by omega)
   ·exact hL x hx y hy)
  exact (hB1.wrote hG (row_cold hB1.row (by decide) hc) (fun u hu => by obtain ⟨m,xs,hh⟩ := bl_rows hB1 hu;exact row_cold hh (by decide) hc) List.mem_cons_self rfl).list fun r' hr' => ⟨r',List.mem_cons_of_mem _ hr',rfl⟩
 have hX : Ext w (W.setCells r 0 vs) := h.ext.setCells hr 0 _
 obtain ⟨Af,cf,e1,hcf,_⟩ := hF.reads (by have := hz.1;omega) (fun f hf => by have := hz.2.2.1 f hf;omega)
 obtain ⟨Ab,cb,e2,hcb,_⟩ := (hB [] (blow_nil _)).reads (by have := hz.2.1;omega) (fun b hb => by have := hz.2.2.2 b hb;omega)
 subst e1 e2
 refine ⟨Af,cf,Ab,cb,rfl,fun W' h0 k => ?_,hX⟩
 obtain ⟨Af',cf',e1,hcf',hRF⟩ := (hF.keep k).reads (by have := hz.1;omega) (fun f hf => by have := hz.2.2.1 f hf;omega)
 obtain ⟨Ab',cb',e2,hcb',hRB⟩ := (OBl.keep hB (h.e0.trans hX) h0 k).reads (by have := hz.2.1;omega) (fun b hb => by have := hz.2.2.2 b hb;omega)
 injection e1 with e11 _ e13
 injection e2 with e21 _ e23
 subst e11 e13 e21 e23
 exact ⟨rtsk_of hi hRF hcf' hRB hcb',argsOk_own (OBl.keep hB (h.e0.trans hX) h0 k) (bl_args hB)⟩
set_option maxRecDepth 4000 in
theorem jump_any (t : Tsk) (f : Frm) (VF VB : Value) (pc : Int) (w0 : Bs) (w : World) (hT : BTsk w0 t (.agg (tskL t VF VB).toArray)) (h0 : BExt w0 w) (hf : topF t = some f) (hz : Siz t) (hpc : InR pc) :
  Calls Tryz.prog 97 #[.agg (tskL t VF VB).toArray,int .i64 pc] w (ResPost (jumpS t f pc) w0 w) := by
 obtain ⟨Af,cf,Ab,cb,rfl,rfl,_,_,_,_⟩ := (hT.mono h0).two
 have HT := Lib.hid hT
 have HI := Lib.hid (hT.mono h0).inr
 unfold Siz at hz
 have HZ := Lib.hid hz
 have HFk : Hid (t.frames[t.frames.length - 1]? = some f) := hf
 have hpos : 0 < t.frames.length := by
  have := (List.getElem?_eq_some_iff.1 (show t.frames[t.frames.length - 1]? = some f from hf)).1;omega
 have hle : t.frames.length ≤ 9223372036854775807 := by have := hz.1;omega
 have HPC := Lib.hid hpc
 have H0 := Lib.hid h0
 clear hT hf hz hpc h0
 unfold tskL at HT ⊢
 go_enter Tryz.func97,Tryz.ntmps97
 go_upto_region 2 with (first | ((first | (with_reducible refine jl 32 ?_) | (with_reducible refine il 32 ?_));refine ldm Tryz.underlying32 rfl rfl rfl (by exact rg) rfl (by exact infoTsk) ?_;dsimp only [dZ,dS]) | ((with_reducible refine ik 32 ?_);refine stm rfl rfl rfl rfl (by exact tr) infoTsk (all_oneCell_toArray (by simp [Value.oneCell'])) ?_;(try dsimp only [Act.put])) | (go_at_call 73;(with_reducible refine (ownB_any t _ w0 _ HT.out (H0.out.trans xt) HZ.out.1 HZ.out.2.1 HZ.out.2.2.1 HZ.out.2.2.2).mono ?_);rintro e w3 ⟨VF,VB,rs,hs,gs,rfl,hOF,hOB,hb⟩;have U3 := there_ext (b := w.heap.size + 1) (o := 0) (n := 17) (by exact tr) hb;have HX3 : Hid (Ext w w3) := Ext.trans xt hb;have HCD : Hid (Cold w3 (w.heap.size + 1)) := (cold_new (b := w.heap.size + 1) (by simp) rfl).ext hb;have HOF := Lib.hid (hOF.base (B' := w.heap.size) (by simp;omega));have HOB := Lib.hid (fun L hL => (hOB L hL).base (B' := w.heap.size) (by simp;omega));have hz3 : w.heap.size + 1 + 1 ≤ w3.heap.size := (by have := hb.size;simpa using this);obtain ⟨gF,cF,rfl,hgF⟩ := own_form HOF.out.row hpos;obtain ⟨AB,cB,rfl,hcB,_⟩ := ownsRow_shape (HOB.out [] (blow_nil _)).row;clear hOF hOB hb))
 refine wp_hid2 ?_
 intro W4 HW4
 obtain ⟨HO,hX4⟩ := ownd_new H0.out HOF.out HOB.out HX3.out rfl HW4.out
 have U4 := there_ext U3 hX4
 have hc4 : Cold W4 (w.heap.size + 1) := (HCD.out).ext hX4
 obtain ⟨q1,q2,q3⟩ := HO.pc rfl HFk.out (by have := (HOF.out.row.lt gF rfl).2;omega) (by omega)
 have HQ := Lib.hid (q3 pc HPC.out)
 have b5 : W4.cell? ⟨w3.heap.size,7,none⟩ = some (.slice (some ⟨gF,0,none⟩) t.frames.length cF) := HO.box 7 _ rfl
 have zF := lt_of_cell q1
 have zB := lt_of_cell b5
 clear q3 HW4 hX4 U3 HO
 go_upto_region 3 with fail
 refine wp_hid2 ?_
 intro W5 HW5
 have HO5 : Hid (Ownd w0 w w3.heap.size W5 (setTop t { f with pc := pc }) (.slice (some ⟨gF,0,none⟩) t.frames.length cF) (.slice AB t.blocks.length cB) rs hs gs) := by rw [Hid,HW5.out];exact HQ.out
 have U5 : W5.there (w.heap.size + 1) 0 17 := by rw [HW5.out];exact there_set U4
 have hc5 : Cold W5 (w.heap.size + 1) := by rw [HW5.out];exact hc4.setCell _ _
 have R5 : W5.rangeAt w3.heap.size 0 [int .i64 t.fn,int .i64 t.scope,int .i64 t.prio,int .i64 t.status,int .i64 t.wkind,int .i64 t.windex,.bool t.wagain,.slice (some ⟨gF,0,none⟩) t.frames.length cF,.slice AB t.blocks.length cB,int .i64 t.mask,.bool t.unw,int .i64 t.level,int .i64 t.reason,int .i64 t.result] := HO5.out.box
 clear HW5 HQ U4 hc4 q1 q2 b5
 go_wp2_with (first | ((first | (with_reducible refine jl 32 ?_) | (with_reducible refine il 32 ?_));refine ldm Tryz.underlying32 rfl rfl rfl (by exact rg) rfl (by exact infoTsk) ?_;dsimp only [dZ,dS]) | ((first | (with_reducible refine jk 102 ?_) | (with_reducible refine ik 102 ?_));refine stm rfl rfl rfl rfl (by exact tr) infoRes (all_oneCell_toArray (by simp [Value.oneCell'])) ?_;(try dsimp only [Act.put])))
 refine ret_rangeR (b := w.heap.size + 1) Tryz.results97 rfl rfl ?hl (World.rangeAt_setCells_same _ _ 0 _ ?ht) ?hf
 case hl => rfl
 case ht => exact U5
 case hf => exact HO5.out.fin (s := goOn) ⟨by show (List.set _ _ _).length ≤ 1000;rw [List.length_set];exact HZ.out.1,HZ.out.2.1,fun y hy => by
   rcases List.mem_or_eq_of_mem_set hy with h | rfl
   ·exact HZ.out.2.2.1 y h
   ·exact HZ.out.2.2.1 f (List.mem_of_getElem? HFk.out),HZ.out.2.2.2⟩ HI.out (by omega) hc5 _
theorem setTop_top {t : Tsk} {f g : Frm} (h : topF t = some f) : topF (setTop t g) = some g := by
 have hl := (List.getElem?_eq_some_iff.1 (show t.frames[t.frames.length - 1]? = some f from h)).1
 show (t.frames.set (t.frames.length - 1) g)[(t.frames.set (t.frames.length - 1) g).length - 1]? = some g
 rw [List.length_set]
 exact List.getElem?_set_self (by omega)
theorem setTop_two (t : Tsk) (f g : Frm) : setTop (setTop t f) g = setTop t g := by
 unfold setTop
 dsimp only
 rw [List.length_set,List.set_set]
theorem siz_top {t : Tsk} (hz : Siz t) {f g : Frm} (hf : topF t = some f) (hg : g.regs.length = f.regs.length) : Siz (setTop t g) := by
 refine ⟨by show (List.set _ _ _).length ≤ 1000;rw [List.length_set];exact hz.1,hz.2.1,fun y hy => ?_,hz.2.2.2⟩
 rcases List.mem_or_eq_of_mem_set hy with h | rfl
 ·exact hz.2.2.1 y h
 ·rw [hg];exact hz.2.2.1 f (List.mem_of_getElem? hf)
theorem Ownd.reg {w0 : Bs} {w : World} {b : Nat} {W : World} {t : Tsk} {VF VB : Value} {rs hs : List Value} {gs : List (List Value)} (h : Ownd w0 w b W t VF VB rs hs gs) {f : Frm} {k : Nat} {v : Value} (hf : topF t = some f) (hv : rs[t.frames.length - 1]? = some v) (hk : k < f.regs.length) (hvb : v.ownBlock ≠ some b) :
  ∃ g c,v = .slice (some ⟨g,0,none⟩) f.regs.length c ∧ w.heap.size ≤ g ∧ W.frozen? ⟨g,k,none⟩ = false ∧ (∃ u,W.cell? ⟨g,k,none⟩ = some u) ∧
   ∀ x : Int,InR x → Ownd w0 w b (W.setCell ⟨g,k,none⟩ (int .i64 x)) (setTop t { f with regs := f.regs.set k x }) VF VB rs hs gs := by
 obtain ⟨g,c,rfl,hB,fz,hc,hset⟩ := h.fr.set_reg (i := t.frames.length - 1) hf hv hk
 have hgb : ¬ g = b := fun e => hvb (by rw [← e];rfl)
 refine ⟨g,c,rfl,hB,fz,hc,fun x hx => ?_⟩
 obtain ⟨h1,h2⟩ := hset x hx
 refine ⟨h1,fun L hL => ?_,range_other h.box hgb,there_set h.thr,h.ext.setCell (show w.heap.size ≤ g from hB) _,h.e0⟩
 have he0 := h.e0.size
 have hL2 : BLow w0 (.slice (some ⟨g,0,none⟩) 0 0 :: L) := by
  intro r hr y hy
  rcases List.mem_cons.1 hr with rfl | hr
  ·simp only [Value.ownBlock,Option.some.injEq] at hy;exact .inl (by omega)
  ·exact hL r hr y hy
 have hBB := h.bl _ hL2
 have hrow := h.fr.reg _ f _ hf hv
 exact (hBB.wrote h2 (apart_ne (apart_types hBB.row hrow (by decide)) rfl) (fun u hu => by obtain ⟨m,xs,hh⟩ := bl_rows hBB hu;exact apart_ne (apart_types hh hrow (by decide)) rfl) List.mem_cons_self rfl).list fun r' hr' => ⟨r',List.mem_cons_of_mem _ hr',rfl⟩
theorem Ownd.head {w0 : Bs} {w : World} {b : Nat} {W : World} {t : Tsk} {VF VB : Value} {rs hs : List Value} {gs : List (List Value)} (h : Ownd w0 w b W t VF VB rs hs gs) {f : Frm} {v : Value} {gF cF : Nat} (hVF : VF = .slice (some ⟨gF,0,none⟩) t.frames.length cF) (hf : topF t = some f) (hv : rs[t.frames.length - 1]? = some v) : W.cell? ⟨gF,(t.frames.length - 1) * 5 + 2,none⟩ = some v := by
 subst hVF
 have hl := (List.getElem?_eq_some_iff.1 (show t.frames[t.frames.length - 1]? = some f from hf)).1
 rw [h.fr.row.cellAt _ (by omega),rowOf_get frmCells_len hf hv (by omega)];rfl
def wrS (t : Tsk) (f : Frm) (i v r : Int) : Tsk × Stp := if r ≠ 0 then failT t r else (setTop t { f with regs := f.regs.set i.toNat v,pc := f.pc + 1 },goOn)
set_option maxRecDepth 4000 in
theorem written_any (t : Tsk) (f : Frm) (VF VB : Value) (i v r : Int) (w0 : Bs) (w : World) (hT : BTsk w0 t (.agg (tskL t VF VB).toArray)) (h0 : BExt w0 w) (hf : topF t = some f) (hz : Siz t) (hi : r = 0 → 0 ≤ i ∧ i < f.regs.length) (hv : InR v) (hpc : 0 ≤ f.pc ∧ f.pc ≤ 1000) :
  Calls Tryz.prog 94 #[.agg (tskL t VF VB).toArray,int .i64 i,int .i64 v,int .i64 r] w (ResPost (wrS t f i v r) w0 w) := by
 obtain ⟨Af,cf,Ab,cb,rfl,rfl,_,_,_,_⟩ := (hT.mono h0).two
 have HT := Lib.hid hT
 have HI := Lib.hid (hT.mono h0).inr
 have H0 := Lib.hid h0
 have HSZ := Lib.hid hz
 by_cases hr : r = 0
 rotate_left
 ·have HR : Hid (wrS t f i v r = failT t r) := by unfold Hid wrS;rw [if_pos hr]
  have hne : (r != 0) = true := by simpa using hr
  have HFA : Hid (∀ W,Ext w W → Calls Tryz.prog 70 #[.agg (tskL t (.slice Af t.frames.length cf) (.slice Ab t.blocks.length cb)).toArray,int .i64 r] W (ResPost (failT t r) w0 W)) := fun W hW => failed_any t _ _ r w0 W hT (h0.trans hW)
  rw [HR.out]
  clear hT hf hz hi hv hpc hr HR h0
  unfold tskL at HFA ⊢
  go_enter Tryz.func94,Tryz.ntmps94
  go_wp2_with (first | ((first | (with_reducible refine jl 32 ?_) | (with_reducible refine il 32 ?_));refine ldm Tryz.underlying32 rfl rfl rfl (by exact rg) rfl (by exact infoTsk) ?_;dsimp only [dZ,dS]) | ((first | (with_reducible refine jk 102 ?_) | (with_reducible refine ik 102 ?_));refine stm rfl rfl rfl rfl (by exact tr) infoRes (all_oneCell_toArray (by simp [Value.oneCell'])) ?_;(try dsimp only [Act.put])) | (go_at_call 70;refine (HFA.out _ xt).mono ?_;rintro e w1 ⟨A1,c1,A2,c2,rfl,hR,hb⟩;have HR := Lib.hid hR;unfold resV;have U1 := there_ext (b := w.heap.size + 1) (o := 0) (n := 17) (by exact tr) hb;have HE1 : Hid (Ext w w1) := Ext.trans xt hb;clear hR hb))
  refine ret_rangeR (b := w.heap.size + 1) Tryz.results94 rfl rfl ?hl (World.rangeAt_setCells_same _ _ 0 _ ?ht) ?hf
  case hl => rfl
  case ht => exact U1
  case hf => exact ⟨A1,c1,A2,c2,rfl,fun W' h k => HR.out W' h (((Keep.refl _ _).setCells (by simp) 0 _).trans k (by simp;omega)),HE1.out.setCells (by omega) 0 _⟩
 ·have HR : Hid (wrS t f i v r = (setTop t { f with regs := f.regs.set i.toNat v,pc := f.pc + 1 },goOn)) := by unfold Hid wrS;rw [if_neg (by simpa using hr)]
  have hFk : t.frames[t.frames.length - 1]? = some f := hf
  have hpos : 0 < t.frames.length := by
   have := (List.getElem?_eq_some_iff.1 hFk).1;omega
  have hle : t.frames.length ≤ 9223372036854775807 := by have := hz.1;omega
  have hrl : f.regs.length ≤ 9223372036854775807 := by have := hz.2.2.1 f (List.mem_of_getElem? hFk);omega
  have hii := hi hr
  have hi0 := hii.1
  have hi1 := hii.2
  have HFk := Lib.hid hf
  have HV := Lib.hid hv
  have hwp : wrap64 (f.pc + 1) = f.pc + 1 := by unfold wrap64;omega
  unfold Siz at hz
  have HZ := Lib.hid hz
  rw [HR.out]
  subst hr
  clear hT hf hz hi hv h0 hFk HR hii
  unfold tskL at HT ⊢
  go_enter Tryz.func94,Tryz.ntmps94
  go_upto_region 4 with (first | ((first | (with_reducible refine jl 32 ?_) | (with_reducible refine il 32 ?_));refine ldm Tryz.underlying32 rfl rfl rfl (by exact rg) rfl (by exact infoTsk) ?_;dsimp only [dZ,dS]) | ((with_reducible refine ik 32 ?_);refine stm rfl rfl rfl rfl (by exact tr) infoTsk (all_oneCell_toArray (by simp [Value.oneCell'])) ?_;(try dsimp only [Act.put])) | (go_at_call 73;(with_reducible refine (ownB_any t _ w0 _ HT.out (H0.out.trans xt) HZ.out.1 HZ.out.2.1 HZ.out.2.2.1 HZ.out.2.2.2).mono ?_);rintro e w3 ⟨VF,VB,rs,hs,gs,rfl,hOF,hOB,hb⟩;have U3 := there_ext (b := w.heap.size + 1) (o := 0) (n := 17) (by exact tr) hb;have HX3 : Hid (Ext w w3) := Ext.trans xt hb;have HCD : Hid (Cold w3 (w.heap.size + 1)) := (cold_new (b := w.heap.size + 1) (by simp) rfl).ext hb;have HOF := Lib.hid (hOF.base (B' := w.heap.size) (by simp;omega));have HOB := Lib.hid (fun L hL => (hOB L hL).base (B' := w.heap.size) (by simp;omega));have hz3 : w.heap.size + 1 + 1 ≤ w3.heap.size := (by have := hb.size;simpa using this);obtain ⟨gF,cF,rfl,hgF⟩ := own_form HOF.out.row hpos;obtain ⟨AB,cB,rfl,hcB,_⟩ := ownsRow_shape (HOB.out [] (blow_nil _)).row;clear hOF hOB hb))
  refine wp_hid2 ?_
  intro W4 HW4
  obtain ⟨HO,hX4⟩ := ownd_new H0.out HOF.out HOB.out HX3.out rfl HW4.out
  have U4 := there_ext U3 hX4
  have hc4 : Cold W4 (w.heap.size + 1) := (HCD.out).ext hX4
  obtain ⟨vr,hvr⟩ : ∃ u,rs[t.frames.length - 1]? = some u := ⟨_,List.getElem?_eq_getElem (by rw [HO.fr.len];omega)⟩
  have hvb : vr.ownBlock ≠ some w3.heap.size := fun e => by have := ((HOF.out.reg _ f vr HFk.out hvr).lt _ e).2;omega
  have hhd := HO.head rfl HFk.out hvr
  obtain ⟨gR,cR,rfl,hgR,fzR,⟨u5,hu5⟩,hset⟩ := HO.reg HFk.out hvr (k := i.toNat) (by omega) hvb
  have HQ := Lib.hid (hset v HV.out)
  have b5 : W4.cell? ⟨w3.heap.size,7,none⟩ = some (.slice (some ⟨gF,0,none⟩) t.frames.length cF) := HO.box 7 _ rfl
  have zF := lt_of_cell hhd
  have zB := lt_of_cell b5
  have zR := lt_of_cell hu5
  have hgFb : ¬ gF = w3.heap.size := by have := (HOF.out.row.lt gF rfl).2;omega
  clear hset HW4 hX4 U3 HO hvr hvb
  go_upto_region 6 with fail
  refine wp_hid2 ?_
  intro W5 HW5
  have HO5 : Hid (Ownd w0 w w3.heap.size W5 (setTop t { f with regs := f.regs.set i.toNat v }) (.slice (some ⟨gF,0,none⟩) t.frames.length cF) (.slice AB t.blocks.length cB) rs hs gs) := by rw [Hid,HW5.out];exact HQ.out
  have U5 : W5.there (w.heap.size + 1) 0 17 := by rw [HW5.out];exact there_set U4
  have hc5 : Cold W5 (w.heap.size + 1) := by rw [HW5.out];exact hc4.setCell _ _
  have hl5 : (setTop t { f with regs := f.regs.set i.toNat v }).frames.length = t.frames.length := List.length_set ..
  obtain ⟨q1,q2,q3⟩ := HO5.out.pc (gF := gF) (cF := cF) (by rw [hl5]) (setTop_top HFk.out) hgFb (by omega)
  rw [hl5] at q1 q2 q3
  have b5 : W5.cell? ⟨w3.heap.size,7,none⟩ = some (.slice (some ⟨gF,0,none⟩) t.frames.length cF) := HO5.out.box 7 _ rfl
  replace q1 : W5.cell? ⟨gF,(t.frames.length - 1) * 5 + 1,none⟩ = some (int .i64 f.pc) := q1
  have zF := lt_of_cell q1
  have zB := lt_of_cell b5
  clear q3 HW5 HQ U4 hc4 hhd hu5 fzR
  have HL5 := Lib.hid hl5
  clear hl5
  go_upto_region 6 with fail
  (refine wp_region_quiet_tail 12 (by kernel_rfl) (by kernel_rfl) ?_;(try simp only [List.take_succ_cons,List.take_zero,List.drop_succ_cons,List.drop_zero]);(repeat (go_big_quiet_step (fail)));refine wpQuiet_nil fun w1 h1 => ?_;obtain ⟨hc,hf,hs,he⟩ := eu (w := W5) h1 xt;clear h1;(try simp only [sA,sC,sD,sN] at hs))
  have HO6 := Lib.hid (HO5.out.mono he)
  have U6 := there_ext U5 he
  have hc6 := hc5.ext he
  obtain ⟨q4,q5,q6⟩ := HO6.out.pc (gF := gF) (cF := cF) (by rw [HL5.out]) (setTop_top HFk.out) hgFb (by omega)
  rw [HL5.out] at q4 q5 q6
  replace q4 : w1.cell? ⟨gF,(t.frames.length - 1) * 5 + 1,none⟩ = some (int .i64 f.pc) := q4
  have HQ2 := Lib.hid (q6 (f.pc + 1) ⟨by omega,by omega⟩)
  clear q6 hc hf hs he HO5 q1 q2 b5 U5 hc5
  go_upto_region 7 with fail
  refine wp_hid2 ?_
  intro W7 HW7
  have HO7 : Hid (Ownd w0 w w3.heap.size W7 (setTop t { f with regs := f.regs.set i.toNat v,pc := f.pc + 1 }) (.slice (some ⟨gF,0,none⟩) t.frames.length cF) (.slice AB t.blocks.length cB) rs hs gs) := by
   have h9 := HQ2.out
   rw [setTop_two] at h9
   rw [Hid,HW7.out];exact h9
  have U7 : W7.there (w.heap.size + 1) 0 17 := by rw [HW7.out];exact there_set U6
  have hc7 : Cold W7 (w.heap.size + 1) := by rw [HW7.out];exact hc6.setCell _ _
  have R7 : W7.rangeAt w3.heap.size 0 [int .i64 t.fn,int .i64 t.scope,int .i64 t.prio,int .i64 t.status,int .i64 t.wkind,int .i64 t.windex,.bool t.wagain,.slice (some ⟨gF,0,none⟩) t.frames.length cF,.slice AB t.blocks.length cB,int .i64 t.mask,.bool t.unw,int .i64 t.level,int .i64 t.reason,int .i64 t.result] := HO7.out.box
  clear HW7 HQ2 U6 hc6 q4 q5
  go_wp2_with (first | ((first | (with_reducible refine jl 32 ?_) | (with_reducible refine il 32 ?_));refine ldm Tryz.underlying32 rfl rfl rfl (by exact rg) rfl (by exact infoTsk) ?_;dsimp only [dZ,dS]) | ((first | (with_reducible refine jk 102 ?_) | (with_reducible refine ik 102 ?_));refine stm rfl rfl rfl rfl (by exact tr) infoRes (all_oneCell_toArray (by simp [Value.oneCell'])) ?_;(try dsimp only [Act.put])))
  refine ret_rangeR (b := w.heap.size + 1) Tryz.results94 rfl rfl ?hl2 (World.rangeAt_setCells_same _ _ 0 _ ?ht2) ?hf2
  case hl2 => rfl
  case ht2 => exact U7
  case hf2 => exact HO7.out.fin (s := goOn) (siz_top HSZ.out HFk.out (by show (List.set _ _ _).length = _;rw [List.length_set])) HI.out (by omega) hc7 _
end Go.Proofs.YtcjjoabofecjmaaGreat

