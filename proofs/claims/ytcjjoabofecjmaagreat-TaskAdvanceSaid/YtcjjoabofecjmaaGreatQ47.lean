/- A part of the proof: execute of the reference of layer 28; execute of the referen. -/
import Derived.Test.YtcjjoabofecjmaaGreatQ46
set_option linter.unusedVariables false
set_option linter.unusedSimpArgs false
set_option maxHeartbeats 16000000
namespace Go.Proofs.YtcjjoabofecjmaaGreat
open Go.RowKit Go.Sort
open Go.Value (int)
structure RxIn (p : Prg) (t : Tsk) (f : Frm) (g : Fnc) (x : Ins) (VP VF VB : Value) (A : Option Addr) (m : Nat) (w0 : Bs) (w : World) : Prop where
 run : RunOk p t
 ck : checkS p = 0
 top : topF t = some f
 fr : FrOk p f g
 pcl : f.pc < g.code.length
 ins : InsOk p g x
 prg : BPrg w0 p VP
 tsk : BTsk w0 t (.agg (tskL t VF VB).toArray)
 ext : BExt w0 w
 args : BInts w0 A m x.args
 inr : InR x.a ∧ InR x.b ∧ InR x.c
theorem run_siz {p : Prg} {t : Tsk} (h : RunOk p t) (hc : checkS p = 0) : Siz t := by
 refine ⟨by have := h.len;omega,by have := h.bl;omega,fun f hf => ?_,fun b hb => by have := h.hdl b hb;omega⟩
 obtain ⟨i,hi,rfl⟩ := List.getElem_of_mem hf
 obtain ⟨g,hg⟩ := h.fr i _ (List.getElem?_eq_getElem hi)
 have := hg.regs
 have := (fn_ok hc (fnAt_mem hg.fn)).reg
 omega
theorem RxIn.pc {p : Prg} {t : Tsk} {f : Frm} {g : Fnc} {x : Ins} {VP VF VB : Value} {A : Option Addr} {m : Nat} {w0 : Bs} {w : World} (h : RxIn p t f g x VP VF VB A m w0 w) : 0 ≤ f.pc ∧ f.pc ≤ 1000 := by
 have := h.fr.pc;have := (fn_ok h.ck (fnAt_mem h.fr.fn)).len;omega
theorem RxIn.siz {p : Prg} {t : Tsk} {f : Frm} {g : Fnc} {x : Ins} {VP VF VB : Value} {A : Option Addr} {m : Nat} {w0 : Bs} {w : World} (h : RxIn p t f g x VP VF VB A m w0 w) : Siz t := run_siz h.run h.ck
theorem RxIn.regAt {p : Prg} {t : Tsk} {f : Frm} {g : Fnc} {x : Ins} {VP VF VB : Value} {A : Option Addr} {m : Nat} {w0 : Bs} {w : World} (h : RxIn p t f g x VP VF VB A m w0 w) {k : Int} (hk : 0 ≤ k ∧ k < g.regs) {Ar : Option Addr} {nr : Nat} (hr : RSl 1 RInt w Ar nr f.regs) :
  ∃ (n b o : Nat),k = (n : Int) ∧ Ar = some ⟨b,o,none⟩ ∧ w.cell? ⟨b,o + n,none⟩ = some (int .i64 (regS f k)) ∧ (n : Int) < (nr : Int) ∧ numB (regS f k) = true ∧ InR (regS f k) := by
 obtain ⟨n,rfl⟩ : ∃ n : Nat,k = (n : Int) := ⟨k.toNat,by omega⟩
 have hn := h.fr.regs
 have hl := hr.len
 obtain ⟨y,hy⟩ : ∃ y,f.regs[n]? = some y := ⟨_,List.getElem?_eq_getElem (by omega)⟩
 have hR : regS f n = y := by unfold regS;rw [Int.toNat_natCast,List.getD_eq_getElem?_getD,hy];rfl
 obtain ⟨b,o,rfl,hb,hi,hc⟩ := hr.int hy
 rw [hR]
 exact ⟨n,b,o,rfl,rfl,hc,by omega,h.fr.num y (List.mem_of_getElem? hy),hi⟩
theorem wrS_write (t : Tsk) (f : Frm) (i v : Int) (h : numB v = true) : wrS t f i v 0 = writeS t f i v := by
 unfold wrS writeS;rw [if_neg (by simp),if_pos h]
theorem wrS_oper (t : Tsk) (f : Frm) (i op a b : Int) : wrS t f i (operS op a b).1 (operS op a b).2 = if (op = 6 ∨ op = 7) ∧ b = 0 then failT t 6 else writeS t f i (binS op a b) := by
 unfold operS
 split
 ·unfold wrS;rw [if_pos (by decide)]
 ·split
  ·rename_i h;rw [wrS_write _ _ _ _ h]
  ·rename_i h;unfold wrS writeS;rw [if_pos (by decide),if_neg h]
theorem operS_in (op a b : Int) : InR (operS op a b).1 := by
 unfold operS
 split
 ·exact zero_in
 ·split
  ·rename_i h;exact num_in h
  ·exact zero_in
theorem RxIn.write {p : Prg} {t : Tsk} {f : Frm} {g : Fnc} {x : Ins} {VP VF VB : Value} {A : Option Addr} {m : Nat} {w0 : Bs} {w : World} (h : RxIn p t f g x VP VF VB A m w0 w) (ha : 0 ≤ x.a ∧ x.a < g.regs) {v r : Int} (hv : InR v) (W : World) (hW : Ext w W) :
  Calls Tryz.prog 94 #[.agg (tskL t VF VB).toArray,int .i64 x.a,int .i64 v,int .i64 r] W (ResPost (wrS t f x.a v r) w0 W) :=
 written_any t f VF VB x.a v r w0 W h.tsk (h.ext.trans hW) h.top h.siz (fun _ => ⟨ha.1,by have := h.fr.regs;omega⟩) hv h.pc
theorem infoPrgR : (Tryz.prog.info? 26).map (·.size) = some 3 := by kernel_rfl
theorem frm_range {w : World} {b o : Nat} {a1 a2 a3 a4 a5 : Value} (h0 : w.cell? ⟨b,o,none⟩ = some a1) (h1 : w.cell? ⟨b,o + 1,none⟩ = some a2) (h2 : w.cell? ⟨b,o + 2,none⟩ = some a3) (h3 : w.cell? ⟨b,o + 3,none⟩ = some a4) (h4 : w.cell? ⟨b,o + 4,none⟩ = some a5) : w.rangeAt b o [a1,a2,a3,a4,a5] := fun j v hj => by
 rcases j with _ | _ | _ | _ | _ | j
 ·simp only [List.getElem?_cons_zero,Option.some.injEq] at hj;subst hj;exact h0
 ·simp only [List.getElem?_cons_zero,List.getElem?_cons_succ,Option.some.injEq] at hj;subst hj;exact h1
 ·simp only [List.getElem?_cons_zero,List.getElem?_cons_succ,Option.some.injEq] at hj;subst hj;exact h2
 ·simp only [List.getElem?_cons_zero,List.getElem?_cons_succ,Option.some.injEq] at hj;subst hj;exact h3
 ·simp only [List.getElem?_cons_zero,List.getElem?_cons_succ,Option.some.injEq] at hj;subst hj;exact h4
 ·simp at hj
set_option maxRecDepth 8000 in
theorem rexec_const {p : Prg} {t : Tsk} {f : Frm} {g : Fnc} {x : Ins} {VP VF VB : Value} {A : Option Addr} {m c : Nat} {w0 : Bs} {w : World} (h : RxIn p t f g x VP VF VB A m w0 w) (hop : x.op = 1) (ha : 0 ≤ x.a ∧ x.a < g.regs) :
  Calls Tryz.prog 71 #[VP,.agg (tskL t VF VB).toArray,.agg #[int .i64 x.op,int .i64 x.a,int .i64 x.b,int .i64 x.c,.slice A m c]] w (ResPost (wrS t f x.a x.b 0) w0 w) := by
 obtain ⟨Pf,nf,kf,Po,no,ko,Pv,nv,kv,rfl,_⟩ := h.prg.mono h.ext
 obtain ⟨Af,cf,Ab,cb,rfl,rfl,hFF,_,_,_⟩ := (h.tsk.mono h.ext).two
 have hpos : 0 < t.frames.length := by have := h.run.pos;omega
 have hle : t.frames.length ≤ 9223372036854775807 := by have := h.run.len;omega
 obtain ⟨bf,off,Ar,nr,cr,rfl,hlf,_,_,_,⟨hRR,_⟩,e0,e1,e2,e3,e4⟩ := hFF.frm (show t.frames[t.frames.length - 1]? = some f from h.top)
 rw [hop]
 have HC := Lib.hid (fun W (hW : Ext w W) => h.write ha (v := x.b) (r := 0) h.inr.2.1 W hW)
 have HF : Hid (w.rangeAt bf (off + (t.frames.length - 1) * 5) [int .i64 f.fn,int .i64 f.pc,.slice Ar nr cr,int .i64 f.result,.bool f.cleanup]) := frm_range e0 e1 e2 e3 e4
 have hlf' : bf < w.heap.size := hlf
 have hnr : nr ≤ 9223372036854775807 := hRR.le
 have hsN : IntKind.i64.wrap ((t.frames.length : Int) - 1) = ((t.frames.length - 1 : Nat) : Int) := by rw [IntWalk.i64_in _ (by omega)];omega
 have hs1N : ((t.frames.length - 1 : Nat) : Int) < (t.frames.length : Int) := by omega
 have hs2N : (0 : Int) ≤ ((t.frames.length - 1 : Nat) : Int) := by omega
 clear h hFF hlf hRR e0 e1 e2 e3 e4 hop ha
 unfold tskL at HC ⊢
 go_enter Tryz.func71,Tryz.ntmps71
 go_upto_region 1 with fail
 refine wp_hid2 ?_
 intro W0 HW0
 have X0 : Hid (Ext w W0) := by rw [Hid,HW0.out];exact xt
 have T0 : W0.there (w.heap.size + 1 + 1 + 1) 0 17 := by rw [HW0.out];exact tr
 have R0 : W0.rangeAt (w.heap.size + 1) 0 [int .i64 t.fn,int .i64 t.scope,int .i64 t.prio,int .i64 t.status,int .i64 t.wkind,int .i64 t.windex,.bool t.wagain,.slice (some ⟨bf,off,none⟩) t.frames.length cf,.slice Ab t.blocks.length cb,int .i64 t.mask,.bool t.unw,int .i64 t.level,int .i64 t.reason,int .i64 t.result] := by rw [HW0.out];exact rg
 have I0 : W0.rangeAt (w.heap.size + 1 + 1) 0 [int .i64 1,int .i64 x.a,int .i64 x.b,int .i64 x.c,.slice A m c] := by rw [HW0.out];exact rg
 have P0 : W0.rangeAt w.heap.size 0 [.slice Pf nf kf,.slice Po no ko,.slice Pv nv kv] := by rw [HW0.out];exact rg
 have F0 : W0.rangeAt bf (off + (t.frames.length - 1) * 5) [int .i64 f.fn,int .i64 f.pc,.slice Ar nr cr,int .i64 f.result,.bool f.cleanup] := range_ext HF.out X0.out
 have hz0 : w.heap.size + 1 + 1 + 1 < W0.heap.size := by rw [HW0.out];simp
 have b7 : W0.cell? ⟨w.heap.size + 1,7,none⟩ = some (.slice (some ⟨bf,off,none⟩) t.frames.length cf) := R0 7 _ rfl
 have zb7 := lt_of_cell b7
 clear HW0
 go_upto_region 2 with (first | ((first | (with_reducible refine jl 62 ?_) | (with_reducible refine il 62 ?_));refine ldm Tryz.underlying62 rfl rfl rfl (by exact rg) rfl (by exact infoFrm5) ?_;dsimp only [dZ,dS]) | ((first | (with_reducible refine jk 62 ?_) | (with_reducible refine ik 62 ?_));refine stm rfl rfl rfl rfl (by exact tr) infoFrm5 (all_oneCell_toArray (by simp [Value.oneCell'])) ?_;(try dsimp only [Act.put])))
 refine wp_hid2 ?_
 intro W1 HW1
 have X1 : Hid (Ext W0 W1) := by rw [Hid,HW1.out];exact xts
 have G1 : W1.rangeAt W0.heap.size 0 [int .i64 f.fn,int .i64 f.pc,.slice Ar nr cr,int .i64 f.result,.bool f.cleanup] := by rw [HW1.out];exact World.rangeAt_setCells_same _ _ 0 _ (by show World.there _ _ 0 5;exact tr)
 have T1 := there_ext T0 X1.out
 have R1 := range_ext R0 X1.out
 have I1 := range_ext I0 X1.out
 have P1 := range_ext P0 X1.out
 have E1 : Hid (Ext w W1) := X0.out.trans X1.out
 have hz1 : w.heap.size + 1 + 1 + 1 < W1.heap.size := Nat.lt_of_lt_of_le hz0 X1.out.size
 have i0 : W1.cell? ⟨w.heap.size + 1 + 1,0,none⟩ = some (int .i64 1) := I1 0 _ rfl
 have i1 : W1.cell? ⟨w.heap.size + 1 + 1,1,none⟩ = some (int .i64 x.a) := I1 1 _ rfl
 have i2 : W1.cell? ⟨w.heap.size + 1 + 1,2,none⟩ = some (int .i64 x.b) := I1 2 _ rfl
 have i3 : W1.cell? ⟨w.heap.size + 1 + 1,3,none⟩ = some (int .i64 x.c) := I1 3 _ rfl
 have g1 : W1.cell? ⟨W0.heap.size,1,none⟩ = some (int .i64 f.pc) := G1 1 _ rfl
 have g2 : W1.cell? ⟨W0.heap.size,2,none⟩ = some (.slice Ar nr cr) := G1 2 _ rfl
 have zi1 := lt_of_cell i0
 have zg1 := lt_of_cell g2
 clear HW1 T0 R0 I0 P0 F0 b7 zb7 hz0
 go_wp2_with (first | ((first | (with_reducible refine jl 32 ?_) | (with_reducible refine il 32 ?_));refine ldm Tryz.underlying32 rfl rfl rfl (by exact rg) rfl (by exact infoTsk) ?_;dsimp only [dZ,dS]) | ((first | (with_reducible refine jl 37 ?_) | (with_reducible refine il 37 ?_));refine ldm Tryz.underlying37 rfl rfl rfl (by exact rg) rfl (by exact infoInsR) ?_;dsimp only [dZ,dS]) | ((first | (with_reducible refine jl 26 ?_) | (with_reducible refine il 26 ?_));refine ldm Tryz.underlying26 rfl rfl rfl (by exact rg) rfl (by exact infoPrgR) ?_;dsimp only [dZ,dS]) | ((first | (with_reducible refine jk 102 ?_) | (with_reducible refine ik 102 ?_));refine stm rfl rfl rfl rfl (by exact tr) infoRes (all_oneCell_toArray (by simp [Value.oneCell'])) ?_;(try dsimp only [Act.put])) | (go_at_call 94;refine (HC.out _ E1.out).mono ?_;rintro e w3 ⟨A1,c1,A2,c2,rfl,hR,hb⟩;have HR := Lib.hid hR;unfold resV;have U3 := there_ext T1 hb;have HE3 : Hid (Ext w w3) := Ext.trans E1.out hb;have HS3 : Hid (W1.heap.size ≤ w3.heap.size) := hb.size;clear hR hb))
 refine ret_rangeR (b := w.heap.size + 1 + 1 + 1) Tryz.results71 rfl rfl ?hl (World.rangeAt_setCells_same _ _ 0 _ ?ht) ?hf
 case hl => rfl
 case ht => exact U3
 case hf => exact ⟨A1,c1,A2,c2,rfl,fun W' h k => HR.out W' h (((Keep.refl _ _).setCells (by omega) 0 _).trans k (by omega)),HE3.out.setCells (by omega) 0 _⟩
set_option maxRecDepth 8000 in
theorem rexec_jump {p : Prg} {t : Tsk} {f : Frm} {g : Fnc} {x : Ins} {VP VF VB : Value} {A : Option Addr} {m c : Nat} {w0 : Bs} {w : World} (h : RxIn p t f g x VP VF VB A m w0 w) (hop : x.op = 13) :
  Calls Tryz.prog 71 #[VP,.agg (tskL t VF VB).toArray,.agg #[int .i64 x.op,int .i64 x.a,int .i64 x.b,int .i64 x.c,.slice A m c]] w (ResPost (jumpS t f x.a) w0 w) := by
 obtain ⟨Pf,nf,kf,Po,no,ko,Pv,nv,kv,rfl,_⟩ := h.prg.mono h.ext
 obtain ⟨Af,cf,Ab,cb,rfl,rfl,hFF,_,_,_⟩ := (h.tsk.mono h.ext).two
 have hpos : 0 < t.frames.length := by have := h.run.pos;omega
 have hle : t.frames.length ≤ 9223372036854775807 := by have := h.run.len;omega
 obtain ⟨bf,off,Ar,nr,cr,rfl,hlf,_,_,_,⟨hRR,_⟩,e0,e1,e2,e3,e4⟩ := hFF.frm (show t.frames[t.frames.length - 1]? = some f from h.top)
 rw [hop]
 have HC := Lib.hid (fun W (hW : Ext w W) => jump_any t f _ _ x.a w0 W h.tsk (h.ext.trans hW) h.top h.siz h.inr.1)
 have HF : Hid (w.rangeAt bf (off + (t.frames.length - 1) * 5) [int .i64 f.fn,int .i64 f.pc,.slice Ar nr cr,int .i64 f.result,.bool f.cleanup]) := frm_range e0 e1 e2 e3 e4
 have hlf' : bf < w.heap.size := hlf
 have hnr : nr ≤ 9223372036854775807 := hRR.le
 have hsN : IntKind.i64.wrap ((t.frames.length : Int) - 1) = ((t.frames.length - 1 : Nat) : Int) := by rw [IntWalk.i64_in _ (by omega)];omega
 have hs1N : ((t.frames.length - 1 : Nat) : Int) < (t.frames.length : Int) := by omega
 have hs2N : (0 : Int) ≤ ((t.frames.length - 1 : Nat) : Int) := by omega
 clear h hFF hlf hRR e0 e1 e2 e3 e4 hop
 unfold tskL at HC ⊢
 go_enter Tryz.func71,Tryz.ntmps71
 go_upto_region 1 with fail
 refine wp_hid2 ?_
 intro W0 HW0
 have X0 : Hid (Ext w W0) := by rw [Hid,HW0.out];exact xt
 have T0 : W0.there (w.heap.size + 1 + 1 + 1) 0 17 := by rw [HW0.out];exact tr
 have R0 : W0.rangeAt (w.heap.size + 1) 0 [int .i64 t.fn,int .i64 t.scope,int .i64 t.prio,int .i64 t.status,int .i64 t.wkind,int .i64 t.windex,.bool t.wagain,.slice (some ⟨bf,off,none⟩) t.frames.length cf,.slice Ab t.blocks.length cb,int .i64 t.mask,.bool t.unw,int .i64 t.level,int .i64 t.reason,int .i64 t.result] := by rw [HW0.out];exact rg
 have I0 : W0.rangeAt (w.heap.size + 1 + 1) 0 [int .i64 13,int .i64 x.a,int .i64 x.b,int .i64 x.c,.slice A m c] := by rw [HW0.out];exact rg
 have P0 : W0.rangeAt w.heap.size 0 [.slice Pf nf kf,.slice Po no ko,.slice Pv nv kv] := by rw [HW0.out];exact rg
 have F0 : W0.rangeAt bf (off + (t.frames.length - 1) * 5) [int .i64 f.fn,int .i64 f.pc,.slice Ar nr cr,int .i64 f.result,.bool f.cleanup] := range_ext HF.out X0.out
 have hz0 : w.heap.size + 1 + 1 + 1 < W0.heap.size := by rw [HW0.out];simp
 have b7 : W0.cell? ⟨w.heap.size + 1,7,none⟩ = some (.slice (some ⟨bf,off,none⟩) t.frames.length cf) := R0 7 _ rfl
 have zb7 := lt_of_cell b7
 clear HW0
 go_upto_region 2 with (first | ((first | (with_reducible refine jl 62 ?_) | (with_reducible refine il 62 ?_));refine ldm Tryz.underlying62 rfl rfl rfl (by exact rg) rfl (by exact infoFrm5) ?_;dsimp only [dZ,dS]) | ((first | (with_reducible refine jk 62 ?_) | (with_reducible refine ik 62 ?_));refine stm rfl rfl rfl rfl (by exact tr) infoFrm5 (all_oneCell_toArray (by simp [Value.oneCell'])) ?_;(try dsimp only [Act.put])))
 refine wp_hid2 ?_
 intro W1 HW1
 have X1 : Hid (Ext W0 W1) := by rw [Hid,HW1.out];exact xts
 have G1 : W1.rangeAt W0.heap.size 0 [int .i64 f.fn,int .i64 f.pc,.slice Ar nr cr,int .i64 f.result,.bool f.cleanup] := by rw [HW1.out];exact World.rangeAt_setCells_same _ _ 0 _ (by show World.there _ _ 0 5;exact tr)
 have T1 := there_ext T0 X1.out
 have R1 := range_ext R0 X1.out
 have I1 := range_ext I0 X1.out
 have P1 := range_ext P0 X1.out
 have E1 : Hid (Ext w W1) := X0.out.trans X1.out
 have hz1 : w.heap.size + 1 + 1 + 1 < W1.heap.size := Nat.lt_of_lt_of_le hz0 X1.out.size
 have i0 : W1.cell? ⟨w.heap.size + 1 + 1,0,none⟩ = some (int .i64 13) := I1 0 _ rfl
 have i1 : W1.cell? ⟨w.heap.size + 1 + 1,1,none⟩ = some (int .i64 x.a) := I1 1 _ rfl
 have i2 : W1.cell? ⟨w.heap.size + 1 + 1,2,none⟩ = some (int .i64 x.b) := I1 2 _ rfl
 have i3 : W1.cell? ⟨w.heap.size + 1 + 1,3,none⟩ = some (int .i64 x.c) := I1 3 _ rfl
 have g1 : W1.cell? ⟨W0.heap.size,1,none⟩ = some (int .i64 f.pc) := G1 1 _ rfl
 have g2 : W1.cell? ⟨W0.heap.size,2,none⟩ = some (.slice Ar nr cr) := G1 2 _ rfl
 have zi1 := lt_of_cell i0
 have zg1 := lt_of_cell g2
 clear HW1 T0 R0 I0 P0 F0 b7 zb7 hz0
 go_wp2_with (first | ((first | (with_reducible refine jl 32 ?_) | (with_reducible refine il 32 ?_));refine ldm Tryz.underlying32 rfl rfl rfl (by exact rg) rfl (by exact infoTsk) ?_;dsimp only [dZ,dS]) | ((first | (with_reducible refine jl 37 ?_) | (with_reducible refine il 37 ?_));refine ldm Tryz.underlying37 rfl rfl rfl (by exact rg) rfl (by exact infoInsR) ?_;dsimp only [dZ,dS]) | ((first | (with_reducible refine jl 26 ?_) | (with_reducible refine il 26 ?_));refine ldm Tryz.underlying26 rfl rfl rfl (by exact rg) rfl (by exact infoPrgR) ?_;dsimp only [dZ,dS]) | ((first | (with_reducible refine jk 102 ?_) | (with_reducible refine ik 102 ?_));refine stm rfl rfl rfl rfl (by exact tr) infoRes (all_oneCell_toArray (by simp [Value.oneCell'])) ?_;(try dsimp only [Act.put])) | (go_at_call 97;refine (HC.out _ E1.out).mono ?_;rintro e w3 ⟨A1,c1,A2,c2,rfl,hR,hb⟩;have HR := Lib.hid hR;unfold resV;have U3 := there_ext T1 hb;have HE3 : Hid (Ext w w3) := Ext.trans E1.out hb;have HS3 : Hid (W1.heap.size ≤ w3.heap.size) := hb.size;clear hR hb))
 refine ret_rangeR (b := w.heap.size + 1 + 1 + 1) Tryz.results71 rfl rfl ?hl (World.rangeAt_setCells_same _ _ 0 _ ?ht) ?hf
 case hl => rfl
 case ht => exact U3
 case hf => exact ⟨A1,c1,A2,c2,rfl,fun W' h k => HR.out W' h (((Keep.refl _ _).setCells (by omega) 0 _).trans k (by omega)),HE3.out.setCells (by omega) 0 _⟩
theorem rgive_any {p : Prg} {t : Tsk} (hr : RunOk p t) (hc : checkS p = 0) {f : Frm} (hf : topF t = some f) {v : Int} (hv : numB v = true) (VF VB : Value) (w0 : Bs) (w : World) (hT : BTsk w0 t (.agg (tskL t VF VB).toArray)) (h0 : BExt w0 w) :
  Calls Tryz.prog 69 #[.agg (tskL t VF VB).toArray,int .i64 v] w (ResPost (giveS t f v) w0 w) := by
 have hz := run_siz hr hc
 have hpos := hr.pos
 have hm := hr.mask
 by_cases hcl : f.cleanup = true
 ·exact give_hand t f VF VB v w0 w hT h0 hf hz ⟨hm.1,by omega⟩ hcl
 have hcf : f.cleanup = false := by simpa using hcl
 by_cases h1 : t.frames.length = 1
 ·have : giveS t f v = (t,⟨2,0,v⟩) := by unfold giveS;rw [if_neg hcl,if_pos h1]
  rw [this]
  exact give_one t f VF VB v w0 w hT h0 hf h1 hcf
 ·obtain ⟨b,hb⟩ : ∃ b,lastB t = some b := ⟨_,List.getElem?_eq_getElem (show t.blocks.length - 1 < t.blocks.length by have := hr.bl;omega)⟩
  obtain ⟨y,hy⟩ : ∃ y,t.frames[t.frames.length - 2]? = some y := ⟨_,List.getElem?_eq_getElem (by omega)⟩
  have hres := hr.res (t.frames.length - 2) f y (by rw [show t.frames.length - 2 + 1 = t.frames.length - 1 by omega];exact hf) hy hcf
  exact give_two t f y b VF VB v w0 w hT h0 hf hz hcf (by omega) hy hb hres (num_in hv)
theorem RxIn.cl {p : Prg} {t : Tsk} {f : Frm} {g : Fnc} {x : Ins} {VP VF VB : Value} {A : Option Addr} {m : Nat} {w0 : Bs} {w : World} (h : RxIn p t f g x VP VF VB A m w0 w) (hfb : forbS x.op = true) : f.cleanup = false := by
 cases hcf : f.cleanup with
 | false => rfl
 | true =>
  have := h.ins.forb (by rw [← h.fr.cl];exact hcf)
  rw [this] at hfb;cases hfb
theorem RxIn.call {p : Prg} {t : Tsk} {f : Frm} {g : Fnc} {x : Ins} {VP VF VB : Value} {A : Option Addr} {m : Nat} {w0 : Bs} {w : World} (h : RxIn p t f g x VP VF VB A m w0 w) (hop : x.op = 15) (c : Nat) (W : World) (hW : Ext w W) :
  Calls Tryz.prog 98 #[VP,.agg (tskL t VF VB).toArray,.agg #[int .i64 x.op,int .i64 x.a,int .i64 x.b,int .i64 x.c,.slice A m c]] W (ResPost (callS p t f x) w0 W) := by
 have hi := h.ins
 obtain ⟨k,hk,hkc,hkl,har⟩ := need_args hi (.inl hop)
 have hfk := fn_ok h.ck (fnAt_mem hk)
 have h1 := hfk.par
 have h2 := hfk.reg
 have hln := h.run.len
 have hr := h.fr.regs
 obtain ⟨N2,hN2⟩ : ∃ N : Nat,k.regs = (N : Int) := ⟨k.regs.toNat,by omega⟩
 unfold callS
 split
 ·rename_i h8
  exact call_fail p t x VF VB VP A m c w0 W h.prg h.tsk (h.ext.trans hW) h8
 ·rename_i h8
  rw [hk]
  dsimp only
  rw [hN2,Int.toNat_natCast]
  exact call_go p t f x k N2 VF VB VP A m c w0 W h.prg h.tsk (h.ext.trans hW) h.top h.siz h.pc (by omega) (by omega) h.args ⟨h.inr.1,h.inr.2.1⟩ (fun a ha => by have := har a ha;exact ⟨this.1,by omega⟩) hk hN2 ⟨by omega,by omega⟩
theorem RxIn.register {p : Prg} {t : Tsk} {f : Frm} {g : Fnc} {x : Ins} {VP VF VB : Value} {A : Option Addr} {m : Nat} {w0 : Bs} {w : World} (h : RxIn p t f g x VP VF VB A m w0 w) (hop : x.op = 17) (c : Nat) (W : World) (hW : Ext w W) :
  Calls Tryz.prog 99 #[.agg (tskL t VF VB).toArray,.agg #[int .i64 x.op,int .i64 x.a,int .i64 x.b,int .i64 x.c,.slice A m c]] W (ResPost (deferS t f x) w0 W) := by
 have hi := h.ins
 obtain ⟨k,hk,hkc,hkl,har⟩ := need_args hi (.inr hop)
 have hfk := fn_ok h.ck (fnAt_mem hk)
 have h1 := hfk.par
 have h2 := hfk.reg
 have hr := h.fr.regs
 obtain ⟨b,hb⟩ : ∃ b,lastB t = some b := ⟨_,List.getElem?_eq_getElem (show t.blocks.length - 1 < t.blocks.length by have := h.run.bl;omega)⟩
 unfold deferS
 rw [hb]
 dsimp only
 split
 ·rename_i h8
  exact register_fail t x b VF VB A m c w0 W h.tsk (h.ext.trans hW) h.siz hb h8
 ·rename_i h8
  exact register_go t f x b VF VB A m c w0 W h.tsk (h.ext.trans hW) h.top h.siz h.pc h.args h.inr.2.1 (by omega) (fun a ha => by have := har a ha;exact ⟨this.1,by omega⟩) hb (by omega)
theorem RxIn.masked {p : Prg} {t : Tsk} {f : Frm} {g : Fnc} {x : Ins} {VP VF VB : Value} {A : Option Addr} {m : Nat} {w0 : Bs} {w : World} (h : RxIn p t f g x VP VF VB A m w0 w) {op : Int} (hop : op = 18 ∨ op = 19) (W : World) (hW : Ext w W) :
  Calls Tryz.prog 100 #[.agg (tskL t VF VB).toArray,int .i64 op] W (ResPost (if op = 18 then maskS t f else unmaskS t f) w0 W) := by
 obtain ⟨b,hb⟩ : ∃ b,lastB t = some b := ⟨_,List.getElem?_eq_getElem (show t.blocks.length - 1 < t.blocks.length by have := h.run.bl;omega)⟩
 have hm := h.run.mask
 exact masked_any t f VF VB op w0 W h.tsk (h.ext.trans hW) h.top h.siz h.pc ⟨hm.1,by omega⟩ b hb hop
theorem RxIn.check {p : Prg} {t : Tsk} {f : Frm} {g : Fnc} {x : Ins} {VP VF VB : Value} {A : Option Addr} {m : Nat} {w0 : Bs} {w : World} (h : RxIn p t f g x VP VF VB A m w0 w) {v : Int} (hv : numB v = true) (c : Nat) (W : World) (hW : Ext w W) :
  Calls Tryz.prog 101 #[.agg (tskL t VF VB).toArray,.agg #[int .i64 x.op,int .i64 x.a,int .i64 x.b,int .i64 x.c,.slice A m c],int .i64 v] W (ResPost (chkS t f x.op v) w0 W) :=
 check_any t f VF VB (.slice A m c) x.op x.a x.b x.c v w0 W h.tsk (h.ext.trans hW) h.top h.siz h.pc hv ⟨A,m,c,rfl⟩
set_option maxRecDepth 8000 in
theorem rexec_move {p : Prg} {t : Tsk} {f : Frm} {g : Fnc} {x : Ins} {VP VF VB : Value} {A : Option Addr} {m c : Nat} {w0 : Bs} {w : World} (h : RxIn p t f g x VP VF VB A m w0 w) (hop : x.op = 2) (ha : 0 ≤ x.a ∧ x.a < g.regs) (hb : 0 ≤ x.b ∧ x.b < g.regs) :
  Calls Tryz.prog 71 #[VP,.agg (tskL t VF VB).toArray,.agg #[int .i64 x.op,int .i64 x.a,int .i64 x.b,int .i64 x.c,.slice A m c]] w (ResPost (wrS t f x.a (regS f x.b) 0) w0 w) := by
 obtain ⟨Pf,nf,kf,Po,no,ko,Pv,nv,kv,rfl,_⟩ := h.prg.mono h.ext
 obtain ⟨Af,cf,Ab,cb,rfl,rfl,hFF,_,_,_⟩ := (h.tsk.mono h.ext).two
 have hpos : 0 < t.frames.length := by have := h.run.pos;omega
 have hle : t.frames.length ≤ 9223372036854775807 := by have := h.run.len;omega
 obtain ⟨bf,off,Ar,nr,cr,rfl,hlf,_,_,_,⟨hRR,_⟩,e0,e1,e2,e3,e4⟩ := hFF.frm (show t.frames[t.frames.length - 1]? = some f from h.top)
 obtain ⟨nb,br,orr,hxb,rfl,rb,hlb,hnb,hib⟩ := h.regAt (k := x.b) hb hRR
 obtain ⟨vb,hvb⟩ : ∃ v,regS f x.b = v := ⟨_,rfl⟩
 rw [hvb] at rb hnb hib ⊢
 rw [hop]
 rw [hxb]
 have HC := Lib.hid (fun W (hW : Ext w W) => h.write ha (v := vb) (r := 0) hib W hW)
 have HF : Hid (w.rangeAt bf (off + (t.frames.length - 1) * 5) [int .i64 f.fn,int .i64 f.pc,.slice (some ⟨br,orr,none⟩) nr cr,int .i64 f.result,.bool f.cleanup]) := frm_range e0 e1 e2 e3 e4
 have hlf' : bf < w.heap.size := hlf
 have hnr : nr ≤ 9223372036854775807 := hRR.le
 have hsN : IntKind.i64.wrap ((t.frames.length : Int) - 1) = ((t.frames.length - 1 : Nat) : Int) := by rw [IntWalk.i64_in _ (by omega)];omega
 have hs1N : ((t.frames.length - 1 : Nat) : Int) < (t.frames.length : Int) := by omega
 have hs2N : (0 : Int) ≤ ((t.frames.length - 1 : Nat) : Int) := by omega
 clear h hFF hlf hRR e0 e1 e2 e3 e4 hop ha hb hib hvb hnb hxb
 unfold tskL at HC ⊢
 go_enter Tryz.func71,Tryz.ntmps71
 go_upto_region 1 with fail
 refine wp_hid2 ?_
 intro W0 HW0
 have X0 : Hid (Ext w W0) := by rw [Hid,HW0.out];exact xt
 have T0 : W0.there (w.heap.size + 1 + 1 + 1) 0 17 := by rw [HW0.out];exact tr
 have R0 : W0.rangeAt (w.heap.size + 1) 0 [int .i64 t.fn,int .i64 t.scope,int .i64 t.prio,int .i64 t.status,int .i64 t.wkind,int .i64 t.windex,.bool t.wagain,.slice (some ⟨bf,off,none⟩) t.frames.length cf,.slice Ab t.blocks.length cb,int .i64 t.mask,.bool t.unw,int .i64 t.level,int .i64 t.reason,int .i64 t.result] := by rw [HW0.out];exact rg
 have I0 : W0.rangeAt (w.heap.size + 1 + 1) 0 [int .i64 2,int .i64 x.a,int .i64 (nb : Int),int .i64 x.c,.slice A m c] := by rw [HW0.out];exact rg
 have P0 : W0.rangeAt w.heap.size 0 [.slice Pf nf kf,.slice Po no ko,.slice Pv nv kv] := by rw [HW0.out];exact rg
 have F0 : W0.rangeAt bf (off + (t.frames.length - 1) * 5) [int .i64 f.fn,int .i64 f.pc,.slice (some ⟨br,orr,none⟩) nr cr,int .i64 f.result,.bool f.cleanup] := range_ext HF.out X0.out
 have hz0 : w.heap.size + 1 + 1 + 1 < W0.heap.size := by rw [HW0.out];simp
 have b7 : W0.cell? ⟨w.heap.size + 1,7,none⟩ = some (.slice (some ⟨bf,off,none⟩) t.frames.length cf) := R0 7 _ rfl
 have zb7 := lt_of_cell b7
 clear HW0
 go_upto_region 2 with (first | ((first | (with_reducible refine jl 62 ?_) | (with_reducible refine il 62 ?_));refine ldm Tryz.underlying62 rfl rfl rfl (by exact rg) rfl (by exact infoFrm5) ?_;dsimp only [dZ,dS]) | ((first | (with_reducible refine jk 62 ?_) | (with_reducible refine ik 62 ?_));refine stm rfl rfl rfl rfl (by exact tr) infoFrm5 (all_oneCell_toArray (by simp [Value.oneCell'])) ?_;(try dsimp only [Act.put])))
 refine wp_hid2 ?_
 intro W1 HW1
 have X1 : Hid (Ext W0 W1) := by rw [Hid,HW1.out];exact xts
 have G1 : W1.rangeAt W0.heap.size 0 [int .i64 f.fn,int .i64 f.pc,.slice (some ⟨br,orr,none⟩) nr cr,int .i64 f.result,.bool f.cleanup] := by rw [HW1.out];exact World.rangeAt_setCells_same _ _ 0 _ (by show World.there _ _ 0 5;exact tr)
 have T1 := there_ext T0 X1.out
 have R1 := range_ext R0 X1.out
 have I1 := range_ext I0 X1.out
 have P1 := range_ext P0 X1.out
 have E1 : Hid (Ext w W1) := X0.out.trans X1.out
 have hz1 : w.heap.size + 1 + 1 + 1 < W1.heap.size := Nat.lt_of_lt_of_le hz0 X1.out.size
 have i0 : W1.cell? ⟨w.heap.size + 1 + 1,0,none⟩ = some (int .i64 2) := I1 0 _ rfl
 have i1 : W1.cell? ⟨w.heap.size + 1 + 1,1,none⟩ = some (int .i64 x.a) := I1 1 _ rfl
 have i2 : W1.cell? ⟨w.heap.size + 1 + 1,2,none⟩ = some (int .i64 (nb : Int)) := I1 2 _ rfl
 have i3 : W1.cell? ⟨w.heap.size + 1 + 1,3,none⟩ = some (int .i64 x.c) := I1 3 _ rfl
 have g1 : W1.cell? ⟨W0.heap.size,1,none⟩ = some (int .i64 f.pc) := G1 1 _ rfl
 have g2 : W1.cell? ⟨W0.heap.size,2,none⟩ = some (.slice (some ⟨br,orr,none⟩) nr cr) := G1 2 _ rfl
 have zi1 := lt_of_cell i0
 have zg1 := lt_of_cell g2
 have qb : W1.cell? ⟨br,orr + nb,none⟩ = some (int .i64 vb) := E1.out.cell rb
 have zqb := lt_of_cell qb
 clear HW1 T0 R0 I0 P0 F0 b7 zb7 hz0
 go_upto_region 5 with fail
 refine wp_region_th 10 (fun W' => Ext W1 W' ∧ W'.cell? ⟨w.heap.size + 1 + 1,1,none⟩ = some (int .i64 x.a) ∧ W'.cell? ⟨w.heap.size + 1 + 1,2,none⟩ = some (int .i64 (nb : Int)) ∧ W'.cell? ⟨W0.heap.size,2,none⟩ = some (.slice (some ⟨br,orr,none⟩) nr cr) ∧ W'.cell? ⟨br,orr + nb,none⟩ = some (int .i64 vb)) (by kernel_rfl) (by kernel_rfl) (by kernel_rfl) (by kernel_rfl) (by decide) ?_ ?_
 ·exact ⟨xt,by go_simp,by go_simp,by go_simp,by go_simp⟩
 intro hT hHeld
 (refine th_take (i := 0) (oi := ?oi0_17) (v := ?v0_17) hT ?hi0_17 (by decide) (by kernel_rfl) (by kernel_rfl) ?hq0_17 (Or.inl ⟨?hw0_17, ?hy0_17⟩) (by assumption) ?rest0_17;(case hi0_17 => (simp only [List.getElem?_toArray,List.getElem?_cons_zero,List.getElem?_cons_succ];rfl));(case hw0_17 => rfl);(case hy0_17 => (intro w' hSw;refine Eq.trans (exec_load_mid 32 _ (by rfl) (w.heap.size + 1) 0 (by rfl) _ _ Tryz.underlying32 (by rfl) ?hiL0_17 w' (range_ext R1 hSw.1)) ?eqL0_17;(case eqL0_17 => with_reducible rfl);exact infoTsk));(case hq0_17 => (exact fun _ _ _ h => h));(try simp only [Act.put,aset,dZ,dS]))
 (refine tht 1 hT ?_;(try simp only [Act.put,aset,dZ,dS]);refine tht 2 hT ?_;(try simp only [Act.put,aset,dZ,dS]);refine tht 3 hT ?_;(try simp only [Act.put,aset,dZ,dS]);refine tht 4 hT ?_;(try simp only [Act.put,aset,dZ,dS]);refine tht 5 hT ?_;(try simp only [Act.put,aset,dZ,dS]);refine tht 6 hT ?_;(try simp only [Act.put,aset,dZ,dS]);refine tht 7 hT ?_;(try simp only [Act.put,aset,dZ,dS]);refine tht 8 hT ?_;(try simp only [Act.put,aset,dZ,dS]))
 refine tst 9 (fun K hK => ?_)
 go_simp
 have HSd := Lib.hid hHeld.1.size
 have Ed : Hid (Ext w W1.drew) := E1.out.trans ((Ext.refl _).drew)
 go_at_call 94
 refine (HC.out _ (E1.out.trans hHeld.1)).mono ?_
 rintro e w3 ⟨A1,c1,A2,c2,rfl,hR,hb⟩
 have HR := Lib.hid hR
 unfold resV
 have U3 := there_ext (there_ext T1 hHeld.1) hb
 have HE3 : Hid (Ext w w3) := Ext.trans (E1.out.trans hHeld.1) hb
 have hsz := hb.size
 dsimp only
 refine hK.out _ _ ⟨hHeld.1.trans hb,hb.cell hHeld.2.1,hb.cell hHeld.2.2.1,hb.cell hHeld.2.2.2.1,hb.cell hHeld.2.2.2.2⟩ (fun hHeld2 => ?_)
 clear hR hb hHeld hHeld2
 clear hK K
 (try simp only [Act.put,aset,dZ,dS])
 refine th_done (by kernel_rfl) ?_
 simp only [List.drop_succ_cons,List.drop_zero]
 go_wp2_with ((first | (with_reducible refine jk 102 ?_) | (with_reducible refine ik 102 ?_));refine stm rfl rfl rfl rfl (by exact tr) infoRes (all_oneCell_toArray (by simp [Value.oneCell'])) ?_;(try dsimp only [Act.put]))
 refine ret_rangeR (b := w.heap.size + 1 + 1 + 1) Tryz.results71 rfl rfl ?hl (World.rangeAt_setCells_same _ _ 0 _ ?ht) ?hf
 case hl => rfl
 case ht => exact U3
 case hf => exact ⟨A1,c1,A2,c2,rfl,fun W' h k => HR.out W' h (((Keep.refl _ _).setCells (by have := HSd.out;omega) 0 _).trans k (by have := HSd.out;omega)),HE3.out.setCells (by omega) 0 _⟩
set_option maxRecDepth 8000 in
theorem rexec_not {p : Prg} {t : Tsk} {f : Frm} {g : Fnc} {x : Ins} {VP VF VB : Value} {A : Option Addr} {m c : Nat} {w0 : Bs} {w : World} (h : RxIn p t f g x VP VF VB A m w0 w) (hop : x.op = 12) (ha : 0 ≤ x.a ∧ x.a < g.regs) (hb : 0 ≤ x.b ∧ x.b < g.regs) :
  Calls Tryz.prog 71 #[VP,.agg (tskL t VF VB).toArray,.agg #[int .i64 x.op,int .i64 x.a,int .i64 x.b,int .i64 x.c,.slice A m c]] w (ResPost (wrS t f x.a (bitS (regS f x.b == 0)) 0) w0 w) := by
 obtain ⟨Pf,nf,kf,Po,no,ko,Pv,nv,kv,rfl,_⟩ := h.prg.mono h.ext
 obtain ⟨Af,cf,Ab,cb,rfl,rfl,hFF,_,_,_⟩ := (h.tsk.mono h.ext).two
 have hpos : 0 < t.frames.length := by have := h.run.pos;omega
 have hle : t.frames.length ≤ 9223372036854775807 := by have := h.run.len;omega
 obtain ⟨bf,off,Ar,nr,cr,rfl,hlf,_,_,_,⟨hRR,_⟩,e0,e1,e2,e3,e4⟩ := hFF.frm (show t.frames[t.frames.length - 1]? = some f from h.top)
 obtain ⟨nb,br,orr,hxb,rfl,rb,hlb,hnb,hib⟩ := h.regAt (k := x.b) hb hRR
 obtain ⟨vb,hvb⟩ : ∃ v,regS f x.b = v := ⟨_,rfl⟩
 rw [hvb] at rb hnb hib ⊢
 rw [hop]
 rw [hxb]
 have HC := Lib.hid (fun W (hW : Ext w W) => h.write ha (v := bitS (vb == 0)) (r := 0) (num_in (bit_num _)) W hW)
 have HF : Hid (w.rangeAt bf (off + (t.frames.length - 1) * 5) [int .i64 f.fn,int .i64 f.pc,.slice (some ⟨br,orr,none⟩) nr cr,int .i64 f.result,.bool f.cleanup]) := frm_range e0 e1 e2 e3 e4
 have hlf' : bf < w.heap.size := hlf
 have hnr : nr ≤ 9223372036854775807 := hRR.le
 have hsN : IntKind.i64.wrap ((t.frames.length : Int) - 1) = ((t.frames.length - 1 : Nat) : Int) := by rw [IntWalk.i64_in _ (by omega)];omega
 have hs1N : ((t.frames.length - 1 : Nat) : Int) < (t.frames.length : Int) := by omega
 have hs2N : (0 : Int) ≤ ((t.frames.length - 1 : Nat) : Int) := by omega
 clear h hFF hlf hRR e0 e1 e2 e3 e4 hop ha hb hib hvb hnb hxb
 unfold tskL at HC ⊢
 go_enter Tryz.func71,Tryz.ntmps71
 go_upto_region 1 with fail
 refine wp_hid2 ?_
 intro W0 HW0
 have X0 : Hid (Ext w W0) := by rw [Hid,HW0.out];exact xt
 have T0 : W0.there (w.heap.size + 1 + 1 + 1) 0 17 := by rw [HW0.out];exact tr
 have R0 : W0.rangeAt (w.heap.size + 1) 0 [int .i64 t.fn,int .i64 t.scope,int .i64 t.prio,int .i64 t.status,int .i64 t.wkind,int .i64 t.windex,.bool t.wagain,.slice (some ⟨bf,off,none⟩) t.frames.length cf,.slice Ab t.blocks.length cb,int .i64 t.mask,.bool t.unw,int .i64 t.level,int .i64 t.reason,int .i64 t.result] := by rw [HW0.out];exact rg
 have I0 : W0.rangeAt (w.heap.size + 1 + 1) 0 [int .i64 12,int .i64 x.a,int .i64 (nb : Int),int .i64 x.c,.slice A m c] := by rw [HW0.out];exact rg
 have P0 : W0.rangeAt w.heap.size 0 [.slice Pf nf kf,.slice Po no ko,.slice Pv nv kv] := by rw [HW0.out];exact rg
 have F0 : W0.rangeAt bf (off + (t.frames.length - 1) * 5) [int .i64 f.fn,int .i64 f.pc,.slice (some ⟨br,orr,none⟩) nr cr,int .i64 f.result,.bool f.cleanup] := range_ext HF.out X0.out
 have hz0 : w.heap.size + 1 + 1 + 1 < W0.heap.size := by rw [HW0.out];simp
 have b7 : W0.cell? ⟨w.heap.size + 1,7,none⟩ = some (.slice (some ⟨bf,off,none⟩) t.frames.length cf) := R0 7 _ rfl
 have zb7 := lt_of_cell b7
 clear HW0
 go_upto_region 2 with (first | ((first | (with_reducible refine jl 62 ?_) | (with_reducible refine il 62 ?_));refine ldm Tryz.underlying62 rfl rfl rfl (by exact rg) rfl (by exact infoFrm5) ?_;dsimp only [dZ,dS]) | ((first | (with_reducible refine jk 62 ?_) | (with_reducible refine ik 62 ?_));refine stm rfl rfl rfl rfl (by exact tr) infoFrm5 (all_oneCell_toArray (by simp [Value.oneCell'])) ?_;(try dsimp only [Act.put])))
 refine wp_hid2 ?_
 intro W1 HW1
 have X1 : Hid (Ext W0 W1) := by rw [Hid,HW1.out];exact xts
 have G1 : W1.rangeAt W0.heap.size 0 [int .i64 f.fn,int .i64 f.pc,.slice (some ⟨br,orr,none⟩) nr cr,int .i64 f.result,.bool f.cleanup] := by rw [HW1.out];exact World.rangeAt_setCells_same _ _ 0 _ (by show World.there _ _ 0 5;exact tr)
 have T1 := there_ext T0 X1.out
 have R1 := range_ext R0 X1.out
 have I1 := range_ext I0 X1.out
 have P1 := range_ext P0 X1.out
 have E1 : Hid (Ext w W1) := X0.out.trans X1.out
 have hz1 : w.heap.size + 1 + 1 + 1 < W1.heap.size := Nat.lt_of_lt_of_le hz0 X1.out.size
 have i0 : W1.cell? ⟨w.heap.size + 1 + 1,0,none⟩ = some (int .i64 12) := I1 0 _ rfl
 have i1 : W1.cell? ⟨w.heap.size + 1 + 1,1,none⟩ = some (int .i64 x.a) := I1 1 _ rfl
 have i2 : W1.cell? ⟨w.heap.size + 1 + 1,2,none⟩ = some (int .i64 (nb : Int)) := I1 2 _ rfl
 have i3 : W1.cell? ⟨w.heap.size + 1 + 1,3,none⟩ = some (int .i64 x.c) := I1 3 _ rfl
 have g1 : W1.cell? ⟨W0.heap.size,1,none⟩ = some (int .i64 f.pc) := G1 1 _ rfl
 have g2 : W1.cell? ⟨W0.heap.size,2,none⟩ = some (.slice (some ⟨br,orr,none⟩) nr cr) := G1 2 _ rfl
 have zi1 := lt_of_cell i0
 have zg1 := lt_of_cell g2
 have qb : W1.cell? ⟨br,orr + nb,none⟩ = some (int .i64 vb) := E1.out.cell rb
 have zqb := lt_of_cell qb
 clear HW1 T0 R0 I0 P0 F0 b7 zb7 hz0
 go_upto_region 7 with fail
 refine wp_region_th 12 (fun W' => Ext W1 W' ∧ W'.cell? ⟨w.heap.size + 1 + 1,1,none⟩ = some (int .i64 x.a) ∧ W'.cell? ⟨w.heap.size + 1 + 1,2,none⟩ = some (int .i64 (nb : Int)) ∧ W'.cell? ⟨W0.heap.size,2,none⟩ = some (.slice (some ⟨br,orr,none⟩) nr cr) ∧ W'.cell? ⟨br,orr + nb,none⟩ = some (int .i64 vb)) (by kernel_rfl) (by kernel_rfl) (by kernel_rfl) (by kernel_rfl) (by decide) ?_ ?_
 ·exact ⟨xt,by go_simp,by go_simp,by go_simp,by go_simp⟩
 intro hT hHeld
 (refine th_take (i := 0) (oi := ?oi0_18) (v := ?v0_18) hT ?hi0_18 (by decide) (by kernel_rfl) (by kernel_rfl) ?hq0_18 (Or.inl ⟨?hw0_18, ?hy0_18⟩) (by assumption) ?rest0_18;(case hi0_18 => (simp only [List.getElem?_toArray,List.getElem?_cons_zero,List.getElem?_cons_succ];rfl));(case hw0_18 => rfl);(case hy0_18 => (intro w' hSw;refine Eq.trans (exec_load_mid 32 _ (by rfl) (w.heap.size + 1) 0 (by rfl) _ _ Tryz.underlying32 (by rfl) ?hiL0_18 w' (range_ext R1 hSw.1)) ?eqL0_18;(case eqL0_18 => with_reducible rfl);exact infoTsk));(case hq0_18 => (exact fun _ _ _ h => h));(try simp only [Act.put,aset,dZ,dS]))
 (refine tht 1 hT ?_;(try simp only [Act.put,aset,dZ,dS]);refine tht 2 hT ?_;(try simp only [Act.put,aset,dZ,dS]);refine tht 3 hT ?_;(try simp only [Act.put,aset,dZ,dS]);refine tht 4 hT ?_;(try simp only [Act.put,aset,dZ,dS]);refine tht 5 hT ?_;(try simp only [Act.put,aset,dZ,dS]);refine tht 6 hT ?_;(try simp only [Act.put,aset,dZ,dS]);refine tht 7 hT ?_;(try simp only [Act.put,aset,dZ,dS]);refine tht 8 hT ?_;(try simp only [Act.put,aset,dZ,dS]);refine tht 9 hT ?_;(try simp only [Act.put,aset,dZ,dS]))
 refine tst 10 (fun K hK => ?_)
 go_simp
 go_at_call 95
 refine (rtruth_any _ _).mono ?_
 rintro e w2 ⟨rfl,hb2⟩
 dsimp only
 have hHd := hHeld
 refine hK.out _ _ ⟨hHeld.1.trans hb2,hb2.cell hHeld.2.1,hb2.cell hHeld.2.2.1,hb2.cell hHeld.2.2.2.1,hb2.cell hHeld.2.2.2.2⟩ (fun hHeld2 => ?_)
 clear hK K
 (try simp only [Act.put,aset,dZ,dS])
 clear hHeld
 have hHeld := hHeld2
 refine tst 11 (fun K hK => ?_)
 go_simp
 have HSd := Lib.hid hHeld.1.size
 have Ed : Hid (Ext w W1.drew) := E1.out.trans ((Ext.refl _).drew)
 go_at_call 94
 refine (HC.out _ (E1.out.trans hHeld.1)).mono ?_
 rintro e w3 ⟨A1,c1,A2,c2,rfl,hR,hb⟩
 have HR := Lib.hid hR
 unfold resV
 have U3 := there_ext (there_ext T1 hHeld.1) hb
 have HE3 : Hid (Ext w w3) := Ext.trans (E1.out.trans hHeld.1) hb
 have hsz := hb.size
 dsimp only
 refine hK.out _ _ ⟨hHeld.1.trans hb,hb.cell hHeld.2.1,hb.cell hHeld.2.2.1,hb.cell hHeld.2.2.2.1,hb.cell hHeld.2.2.2.2⟩ (fun hHeld2 => ?_)
 clear hR hb hHeld hHeld2
 clear hK K
 (try simp only [Act.put,aset,dZ,dS])
 refine th_done (by kernel_rfl) ?_
 simp only [List.drop_succ_cons,List.drop_zero]
 go_wp2_with ((first | (with_reducible refine jk 102 ?_) | (with_reducible refine ik 102 ?_));refine stm rfl rfl rfl rfl (by exact tr) infoRes (all_oneCell_toArray (by simp [Value.oneCell'])) ?_;(try dsimp only [Act.put]))
 refine ret_rangeR (b := w.heap.size + 1 + 1 + 1) Tryz.results71 rfl rfl ?hl (World.rangeAt_setCells_same _ _ 0 _ ?ht) ?hf
 case hl => rfl
 case ht => exact U3
 case hf => exact ⟨A1,c1,A2,c2,rfl,fun W' h k => HR.out W' h (((Keep.refl _ _).setCells (by have := HSd.out;omega) 0 _).trans k (by have := HSd.out;omega)),HE3.out.setCells (by omega) 0 _⟩
end Go.Proofs.YtcjjoabofecjmaaGreat

