/- A part of the proof: execute of the reference of layer 28; execute of the referen. -/
import Derived.Test.YtcjjoabofecjmaaGreatQ48
set_option linter.unusedVariables false
set_option linter.unusedSimpArgs false
set_option maxHeartbeats 16000000
namespace Go.Proofs.YtcjjoabofecjmaaGreat
open Go.RowKit Go.Sort
open Go.Value (int)
set_option maxRecDepth 8000 in
theorem rexec_unless0 {p : Prg} {t : Tsk} {f : Frm} {g : Fnc} {x : Ins} {VP VF VB : Value} {A : Option Addr} {m c : Nat} {w0 : Bs} {w : World} (h : RxIn p t f g x VP VF VB A m w0 w) (hop : x.op = 14) (ha : 0 ≤ x.a ∧ x.a < g.regs) (h00 : regS f x.a = 0) :
  Calls Tryz.prog 71 #[VP,.agg (tskL t VF VB).toArray,.agg #[int .i64 x.op,int .i64 x.a,int .i64 x.b,int .i64 x.c,.slice A m c]] w (ResPost (jumpS t f x.b) w0 w) := by
 obtain ⟨Pf,nf,kf,Po,no,ko,Pv,nv,kv,rfl,_⟩ := h.prg.mono h.ext
 obtain ⟨Af,cf,Ab,cb,rfl,rfl,hFF,_,_,_⟩ := (h.tsk.mono h.ext).two
 have hpos : 0 < t.frames.length := by have := h.run.pos;omega
 have hle : t.frames.length ≤ 9223372036854775807 := by have := h.run.len;omega
 obtain ⟨bf,off,Ar,nr,cr,rfl,hlf,_,_,_,⟨hRR,_⟩,e0,e1,e2,e3,e4⟩ := hFF.frm (show t.frames[t.frames.length - 1]? = some f from h.top)
 obtain ⟨na,br,orr,hxa,rfl,ra,hla,hna,hia⟩ := h.regAt (k := x.a) ha hRR
 rw [h00] at ra
 rw [hop]
 rw [hxa]
 have HC := Lib.hid (fun W (hW : Ext w W) => jump_any t f _ _ x.b w0 W h.tsk (h.ext.trans hW) h.top h.siz h.inr.2.1)
 have HF : Hid (w.rangeAt bf (off + (t.frames.length - 1) * 5) [int .i64 f.fn,int .i64 f.pc,.slice (some ⟨br,orr,none⟩) nr cr,int .i64 f.result,.bool f.cleanup]) := frm_range e0 e1 e2 e3 e4
 have hlf' : bf < w.heap.size := hlf
 have hnr : nr ≤ 9223372036854775807 := hRR.le
 have hsN : IntKind.i64.wrap ((t.frames.length : Int) - 1) = ((t.frames.length - 1 : Nat) : Int) := by rw [IntWalk.i64_in _ (by omega)];omega
 have hs1N : ((t.frames.length - 1 : Nat) : Int) < (t.frames.length : Int) := by omega
 have hs2N : (0 : Int) ≤ ((t.frames.length - 1 : Nat) : Int) := by omega
 clear h hFF hlf hRR e0 e1 e2 e3 e4 hop ha hia hna hxa h00
 unfold tskL at HC ⊢
 go_enter Tryz.func71,Tryz.ntmps71
 go_upto_region 1 with fail
 refine wp_hid2 ?_
 intro W0 HW0
 have X0 : Hid (Ext w W0) := by rw [Hid,HW0.out];exact xt
 have T0 : W0.there (w.heap.size + 1 + 1 + 1) 0 17 := by rw [HW0.out];exact tr
 have R0 : W0.rangeAt (w.heap.size + 1) 0 [int .i64 t.fn,int .i64 t.scope,int .i64 t.prio,int .i64 t.status,int .i64 t.wkind,int .i64 t.windex,.bool t.wagain,.slice (some ⟨bf,off,none⟩) t.frames.length cf,.slice Ab t.blocks.length cb,int .i64 t.mask,.bool t.unw,int .i64 t.level,int .i64 t.reason,int .i64 t.result] := by rw [HW0.out];exact rg
 have I0 : W0.rangeAt (w.heap.size + 1 + 1) 0 [int .i64 14,int .i64 (na : Int),int .i64 x.b,int .i64 x.c,.slice A m c] := by rw [HW0.out];exact rg
 have P0 : W0.rangeAt w.heap.size 0 [.slice Pf nf kf,.slice Po no ko,.slice Pv nv kv] := by rw [HW0.out];exact rg
 have F0 : W0.rangeAt bf (off + (t.frames.length - 1) * 5) [int .i64 f.fn,int .i64 f.pc,.slice (some ⟨br,orr,none⟩) nr cr,int .i64 f.result,.bool f.cleanup] := range_ext HF.out X0.out
 have hz0 : w.heap.size + 1 + 1 + 1 < W0.heap.size := by rw [HW0.out];simp
 have b7 : W0.cell? ⟨w.heap.size + 1,7,none⟩ = some (.slice (some ⟨bf,off,none⟩) t.frames.length cf) := R0 7 _ rfl
 have zb7 := lt_of_cell b7
 clear HW0
 go_upto_region 2 with (first | ((first | (with_reducible refine jl 62 ?_) | (with_reducible refine il 62 ?_));refine ldm Tryz.underlying62 rfl rfl rfl (by exact rg) rfl (by exact infoFrm5) ?_;dsimp only [dZ,dS]) | ((first | (with_reducible refine jk 62 ?_) | (with_reducible refine ik 62 ?_));refine stm rfl rfl rfl rfl (by exact tr) infoFrm5 (all_oneCell_toArray (by simp [Value.oneCell'])) ?_;(try dsimp only [Act.put])))
 refine wp_hid2 ?_
 intro W1 HW1
 have X1 : Hid (Ext W0 W1) := by rw [Hid,HW1.out];exact xts
 have G1 : W1.rangeAt W0.heap.size 0 [int .i64 f.fn,int .i64 f.pc,.slice (some ⟨br,orr,none⟩) nr cr,int .i64 f.result,.bool f.cleanup] := by rw [HW1.out];exact World.rangeAt_setCells_same _ _ 0 _ (by show World.there _ _ 0 5;exact tr)
 have T1 := there_ext T0 X1.out
 have R1 := range_ext R0 X1.out
 have I1 := range_ext I0 X1.out
 have P1 := range_ext P0 X1.out
 have E1 : Hid (Ext w W1) := X0.out.trans X1.out
 have hz1 : w.heap.size + 1 + 1 + 1 < W1.heap.size := Nat.lt_of_lt_of_le hz0 X1.out.size
 have i0 : W1.cell? ⟨w.heap.size + 1 + 1,0,none⟩ = some (int .i64 14) := I1 0 _ rfl
 have i1 : W1.cell? ⟨w.heap.size + 1 + 1,1,none⟩ = some (int .i64 (na : Int)) := I1 1 _ rfl
 have i2 : W1.cell? ⟨w.heap.size + 1 + 1,2,none⟩ = some (int .i64 x.b) := I1 2 _ rfl
 have i3 : W1.cell? ⟨w.heap.size + 1 + 1,3,none⟩ = some (int .i64 x.c) := I1 3 _ rfl
 have g1 : W1.cell? ⟨W0.heap.size,1,none⟩ = some (int .i64 f.pc) := G1 1 _ rfl
 have g2 : W1.cell? ⟨W0.heap.size,2,none⟩ = some (.slice (some ⟨br,orr,none⟩) nr cr) := G1 2 _ rfl
 have zi1 := lt_of_cell i0
 have zg1 := lt_of_cell g2
 have qa : W1.cell? ⟨br,orr + na,none⟩ = some (int .i64 0) := E1.out.cell ra
 have zqa := lt_of_cell qa
 clear HW1 T0 R0 I0 P0 F0 b7 zb7 hz0
 go_wp2_with (first | ((first | (with_reducible refine jl 32 ?_) | (with_reducible refine il 32 ?_));refine ldm Tryz.underlying32 rfl rfl rfl (by exact rg) rfl (by exact infoTsk) ?_;dsimp only [dZ,dS]) | ((first | (with_reducible refine jl 37 ?_) | (with_reducible refine il 37 ?_));refine ldm Tryz.underlying37 rfl rfl rfl (by exact rg) rfl (by exact infoInsR) ?_;dsimp only [dZ,dS]) | ((first | (with_reducible refine jl 26 ?_) | (with_reducible refine il 26 ?_));refine ldm Tryz.underlying26 rfl rfl rfl (by exact rg) rfl (by exact infoPrgR) ?_;dsimp only [dZ,dS]) | ((first | (with_reducible refine jk 102 ?_) | (with_reducible refine ik 102 ?_));refine stm rfl rfl rfl rfl (by exact tr) infoRes (all_oneCell_toArray (by simp [Value.oneCell'])) ?_;(try dsimp only [Act.put])) | (go_at_call 97;refine (HC.out _ E1.out).mono ?_;rintro e w3 ⟨A1,c1,A2,c2,rfl,hR,hb⟩;have HR := Lib.hid hR;unfold resV;have U3 := there_ext T1 hb;have HE3 : Hid (Ext w w3) := Ext.trans E1.out hb;have HS3 : Hid (W1.heap.size ≤ w3.heap.size) := hb.size;clear hR hb))
 refine ret_rangeR (b := w.heap.size + 1 + 1 + 1) Tryz.results71 rfl rfl ?hl (World.rangeAt_setCells_same _ _ 0 _ ?ht) ?hf
 case hl => rfl
 case ht => exact U3
 case hf => exact ⟨A1,c1,A2,c2,rfl,fun W' h k => HR.out W' h (((Keep.refl _ _).setCells (by omega) 0 _).trans k (by omega)),HE3.out.setCells (by omega) 0 _⟩
set_option maxRecDepth 8000 in
theorem rexec_unless1 {p : Prg} {t : Tsk} {f : Frm} {g : Fnc} {x : Ins} {VP VF VB : Value} {A : Option Addr} {m c : Nat} {w0 : Bs} {w : World} (h : RxIn p t f g x VP VF VB A m w0 w) (hop : x.op = 14) (ha : 0 ≤ x.a ∧ x.a < g.regs) (h00 : ¬ regS f x.a = 0) :
  Calls Tryz.prog 71 #[VP,.agg (tskL t VF VB).toArray,.agg #[int .i64 x.op,int .i64 x.a,int .i64 x.b,int .i64 x.c,.slice A m c]] w (ResPost (jumpS t f (f.pc + 1)) w0 w) := by
 obtain ⟨Pf,nf,kf,Po,no,ko,Pv,nv,kv,rfl,_⟩ := h.prg.mono h.ext
 obtain ⟨Af,cf,Ab,cb,rfl,rfl,hFF,_,_,_⟩ := (h.tsk.mono h.ext).two
 have hpos : 0 < t.frames.length := by have := h.run.pos;omega
 have hle : t.frames.length ≤ 9223372036854775807 := by have := h.run.len;omega
 obtain ⟨bf,off,Ar,nr,cr,rfl,hlf,_,_,_,⟨hRR,_⟩,e0,e1,e2,e3,e4⟩ := hFF.frm (show t.frames[t.frames.length - 1]? = some f from h.top)
 obtain ⟨na,br,orr,hxa,rfl,ra,hla,hna,hia⟩ := h.regAt (k := x.a) ha hRR
 obtain ⟨va,hva⟩ : ∃ v,regS f x.a = v := ⟨_,rfl⟩
 rw [hva] at ra h00
 have hva0 : (va == 0) = false := by simpa using h00
 have hpc := h.pc
 have hwp : wrap64 (f.pc + 1) = f.pc + 1 := by unfold wrap64;omega
 have hwp2 : IntKind.i64.wrap (f.pc + 1) = f.pc + 1 := IntWalk.i64_in _ (by omega)
 rw [hop]
 rw [hxa]
 have HC := Lib.hid (fun W (hW : Ext w W) => jump_any t f _ _ (f.pc + 1) w0 W h.tsk (h.ext.trans hW) h.top h.siz (by have := h.pc;exact ⟨by omega,by omega⟩))
 have HF : Hid (w.rangeAt bf (off + (t.frames.length - 1) * 5) [int .i64 f.fn,int .i64 f.pc,.slice (some ⟨br,orr,none⟩) nr cr,int .i64 f.result,.bool f.cleanup]) := frm_range e0 e1 e2 e3 e4
 have hlf' : bf < w.heap.size := hlf
 have hnr : nr ≤ 9223372036854775807 := hRR.le
 have hsN : IntKind.i64.wrap ((t.frames.length : Int) - 1) = ((t.frames.length - 1 : Nat) : Int) := by rw [IntWalk.i64_in _ (by omega)];omega
 have hs1N : ((t.frames.length - 1 : Nat) : Int) < (t.frames.length : Int) := by omega
 have hs2N : (0 : Int) ≤ ((t.frames.length - 1 : Nat) : Int) := by omega
 clear h hFF hlf hRR e0 e1 e2 e3 e4 hop ha hia hna hxa h00 hva hpc
 unfold tskL at HC ⊢
 go_enter Tryz.func71,Tryz.ntmps71
 go_upto_region 1 with fail
 refine wp_hid2 ?_
 intro W0 HW0
 have X0 : Hid (Ext w W0) := by rw [Hid,HW0.out];exact xt
 have T0 : W0.there (w.heap.size + 1 + 1 + 1) 0 17 := by rw [HW0.out];exact tr
 have R0 : W0.rangeAt (w.heap.size + 1) 0 [int .i64 t.fn,int .i64 t.scope,int .i64 t.prio,int .i64 t.status,int .i64 t.wkind,int .i64 t.windex,.bool t.wagain,.slice (some ⟨bf,off,none⟩) t.frames.length cf,.slice Ab t.blocks.length cb,int .i64 t.mask,.bool t.unw,int .i64 t.level,int .i64 t.reason,int .i64 t.result] := by rw [HW0.out];exact rg
 have I0 : W0.rangeAt (w.heap.size + 1 + 1) 0 [int .i64 14,int .i64 (na : Int),int .i64 x.b,int .i64 x.c,.slice A m c] := by rw [HW0.out];exact rg
 have P0 : W0.rangeAt w.heap.size 0 [.slice Pf nf kf,.slice Po no ko,.slice Pv nv kv] := by rw [HW0.out];exact rg
 have F0 : W0.rangeAt bf (off + (t.frames.length - 1) * 5) [int .i64 f.fn,int .i64 f.pc,.slice (some ⟨br,orr,none⟩) nr cr,int .i64 f.result,.bool f.cleanup] := range_ext HF.out X0.out
 have hz0 : w.heap.size + 1 + 1 + 1 < W0.heap.size := by rw [HW0.out];simp
 have b7 : W0.cell? ⟨w.heap.size + 1,7,none⟩ = some (.slice (some ⟨bf,off,none⟩) t.frames.length cf) := R0 7 _ rfl
 have zb7 := lt_of_cell b7
 clear HW0
 go_upto_region 2 with (first | ((first | (with_reducible refine jl 62 ?_) | (with_reducible refine il 62 ?_));refine ldm Tryz.underlying62 rfl rfl rfl (by exact rg) rfl (by exact infoFrm5) ?_;dsimp only [dZ,dS]) | ((first | (with_reducible refine jk 62 ?_) | (with_reducible refine ik 62 ?_));refine stm rfl rfl rfl rfl (by exact tr) infoFrm5 (all_oneCell_toArray (by simp [Value.oneCell'])) ?_;(try dsimp only [Act.put])))
 refine wp_hid2 ?_
 intro W1 HW1
 have X1 : Hid (Ext W0 W1) := by rw [Hid,HW1.out];exact xts
 have G1 : W1.rangeAt W0.heap.size 0 [int .i64 f.fn,int .i64 f.pc,.slice (some ⟨br,orr,none⟩) nr cr,int .i64 f.result,.bool f.cleanup] := by rw [HW1.out];exact World.rangeAt_setCells_same _ _ 0 _ (by show World.there _ _ 0 5;exact tr)
 have T1 := there_ext T0 X1.out
 have R1 := range_ext R0 X1.out
 have I1 := range_ext I0 X1.out
 have P1 := range_ext P0 X1.out
 have E1 : Hid (Ext w W1) := X0.out.trans X1.out
 have hz1 : w.heap.size + 1 + 1 + 1 < W1.heap.size := Nat.lt_of_lt_of_le hz0 X1.out.size
 have i0 : W1.cell? ⟨w.heap.size + 1 + 1,0,none⟩ = some (int .i64 14) := I1 0 _ rfl
 have i1 : W1.cell? ⟨w.heap.size + 1 + 1,1,none⟩ = some (int .i64 (na : Int)) := I1 1 _ rfl
 have i2 : W1.cell? ⟨w.heap.size + 1 + 1,2,none⟩ = some (int .i64 x.b) := I1 2 _ rfl
 have i3 : W1.cell? ⟨w.heap.size + 1 + 1,3,none⟩ = some (int .i64 x.c) := I1 3 _ rfl
 have g1 : W1.cell? ⟨W0.heap.size,1,none⟩ = some (int .i64 f.pc) := G1 1 _ rfl
 have g2 : W1.cell? ⟨W0.heap.size,2,none⟩ = some (.slice (some ⟨br,orr,none⟩) nr cr) := G1 2 _ rfl
 have zi1 := lt_of_cell i0
 have zg1 := lt_of_cell g2
 have qa : W1.cell? ⟨br,orr + na,none⟩ = some (int .i64 va) := E1.out.cell ra
 have zqa := lt_of_cell qa
 clear HW1 T0 R0 I0 P0 F0 b7 zb7 hz0
 go_wp2_with (first | ((first | (with_reducible refine jl 32 ?_) | (with_reducible refine il 32 ?_));refine ldm Tryz.underlying32 rfl rfl rfl (by exact rg) rfl (by exact infoTsk) ?_;dsimp only [dZ,dS]) | ((first | (with_reducible refine jl 37 ?_) | (with_reducible refine il 37 ?_));refine ldm Tryz.underlying37 rfl rfl rfl (by exact rg) rfl (by exact infoInsR) ?_;dsimp only [dZ,dS]) | ((first | (with_reducible refine jl 26 ?_) | (with_reducible refine il 26 ?_));refine ldm Tryz.underlying26 rfl rfl rfl (by exact rg) rfl (by exact infoPrgR) ?_;dsimp only [dZ,dS]) | ((first | (with_reducible refine jk 102 ?_) | (with_reducible refine ik 102 ?_));refine stm rfl rfl rfl rfl (by exact tr) infoRes (all_oneCell_toArray (by simp [Value.oneCell'])) ?_;(try dsimp only [Act.put])) | (go_at_call 97;refine (HC.out _ E1.out).mono ?_;rintro e w3 ⟨A1,c1,A2,c2,rfl,hR,hb⟩;have HR := Lib.hid hR;unfold resV;have U3 := there_ext T1 hb;have HE3 : Hid (Ext w w3) := Ext.trans E1.out hb;have HS3 : Hid (W1.heap.size ≤ w3.heap.size) := hb.size;clear hR hb))
 refine ret_rangeR (b := w.heap.size + 1 + 1 + 1) Tryz.results71 rfl rfl ?hl (World.rangeAt_setCells_same _ _ 0 _ ?ht) ?hf
 case hl => rfl
 case ht => exact U3
 case hf => exact ⟨A1,c1,A2,c2,rfl,fun W' h k => HR.out W' h (((Keep.refl _ _).setCells (by omega) 0 _).trans k (by omega)),HE3.out.setCells (by omega) 0 _⟩
set_option maxRecDepth 8000 in
theorem rexec_call {p : Prg} {t : Tsk} {f : Frm} {g : Fnc} {x : Ins} {VP VF VB : Value} {A : Option Addr} {m c : Nat} {w0 : Bs} {w : World} (h : RxIn p t f g x VP VF VB A m w0 w) (hop : x.op = 15) :
  Calls Tryz.prog 71 #[VP,.agg (tskL t VF VB).toArray,.agg #[int .i64 x.op,int .i64 x.a,int .i64 x.b,int .i64 x.c,.slice A m c]] w (ResPost (callS p t f x) w0 w) := by
 obtain ⟨Pf,nf,kf,Po,no,ko,Pv,nv,kv,rfl,_⟩ := h.prg.mono h.ext
 obtain ⟨Af,cf,Ab,cb,rfl,rfl,hFF,_,_,_⟩ := (h.tsk.mono h.ext).two
 have hpos : 0 < t.frames.length := by have := h.run.pos;omega
 have hle : t.frames.length ≤ 9223372036854775807 := by have := h.run.len;omega
 obtain ⟨bf,off,Ar,nr,cr,rfl,hlf,_,_,_,⟨hRR,_⟩,e0,e1,e2,e3,e4⟩ := hFF.frm (show t.frames[t.frames.length - 1]? = some f from h.top)
 have hcl := fun W (hW : Ext w W) => h.call hop c W hW
 rw [hop] at hcl
 rw [hop]
 have HC := Lib.hid (hcl)
 have HF : Hid (w.rangeAt bf (off + (t.frames.length - 1) * 5) [int .i64 f.fn,int .i64 f.pc,.slice Ar nr cr,int .i64 f.result,.bool f.cleanup]) := frm_range e0 e1 e2 e3 e4
 have hlf' : bf < w.heap.size := hlf
 have hnr : nr ≤ 9223372036854775807 := hRR.le
 have hsN : IntKind.i64.wrap ((t.frames.length : Int) - 1) = ((t.frames.length - 1 : Nat) : Int) := by rw [IntWalk.i64_in _ (by omega)];omega
 have hs1N : ((t.frames.length - 1 : Nat) : Int) < (t.frames.length : Int) := by omega
 have hs2N : (0 : Int) ≤ ((t.frames.length - 1 : Nat) : Int) := by omega
 clear h hFF hlf hRR e0 e1 e2 e3 e4 hop hcl
 unfold tskL at HC ⊢
 go_enter Tryz.func71,Tryz.ntmps71
 go_upto_region 1 with fail
 refine wp_hid2 ?_
 intro W0 HW0
 have X0 : Hid (Ext w W0) := by rw [Hid,HW0.out];exact xt
 have T0 : W0.there (w.heap.size + 1 + 1 + 1) 0 17 := by rw [HW0.out];exact tr
 have R0 : W0.rangeAt (w.heap.size + 1) 0 [int .i64 t.fn,int .i64 t.scope,int .i64 t.prio,int .i64 t.status,int .i64 t.wkind,int .i64 t.windex,.bool t.wagain,.slice (some ⟨bf,off,none⟩) t.frames.length cf,.slice Ab t.blocks.length cb,int .i64 t.mask,.bool t.unw,int .i64 t.level,int .i64 t.reason,int .i64 t.result] := by rw [HW0.out];exact rg
 have I0 : W0.rangeAt (w.heap.size + 1 + 1) 0 [int .i64 15,int .i64 x.a,int .i64 x.b,int .i64 x.c,.slice A m c] := by rw [HW0.out];exact rg
 have P0 : W0.rangeAt w.heap.size 0 [.slice Pf nf kf,.slice Po no ko,.slice Pv nv kv] := by rw [HW0.out];exact rg
 have F0 : W0.rangeAt bf (off + (t.frames.length - 1) * 5) [int .i64 f.fn,int .i64 f.pc,.slice Ar nr cr,int .i64 f.result,.bool f.cleanup] := range_ext HF.out X0.out
 have hz0 : w.heap.size + 1 + 1 + 1 < W0.heap.size := by rw [HW0.out];simp
 have b7 : W0.cell? ⟨w.heap.size + 1,7,none⟩ = some (.slice (some ⟨bf,off,none⟩) t.frames.length cf) := R0 7 _ rfl
 have zb7 := lt_of_cell b7
 clear HW0
 go_upto_region 2 with (first | ((first | (with_reducible refine jl 62 ?_) | (with_reducible refine il 62 ?_));refine ldm Tryz.underlying62 rfl rfl rfl (by exact rg) rfl (by exact infoFrm5) ?_;dsimp only [dZ,dS]) | ((first | (with_reducible refine jk 62 ?_) | (with_reducible refine ik 62 ?_));refine stm rfl rfl rfl rfl (by exact tr) infoFrm5 (all_oneCell_toArray (by simp [Value.oneCell'])) ?_;(try dsimp only [Act.put])))
 refine wp_hid2 ?_
 intro W1 HW1
 have X1 : Hid (Ext W0 W1) := by rw [Hid,HW1.out];exact xts
 have G1 : W1.rangeAt W0.heap.size 0 [int .i64 f.fn,int .i64 f.pc,.slice Ar nr cr,int .i64 f.result,.bool f.cleanup] := by rw [HW1.out];exact World.rangeAt_setCells_same _ _ 0 _ (by show World.there _ _ 0 5;exact tr)
 have T1 := there_ext T0 X1.out
 have R1 := range_ext R0 X1.out
 have I1 := range_ext I0 X1.out
 have P1 := range_ext P0 X1.out
 have E1 : Hid (Ext w W1) := X0.out.trans X1.out
 have hz1 : w.heap.size + 1 + 1 + 1 < W1.heap.size := Nat.lt_of_lt_of_le hz0 X1.out.size
 have i0 : W1.cell? ⟨w.heap.size + 1 + 1,0,none⟩ = some (int .i64 15) := I1 0 _ rfl
 have i1 : W1.cell? ⟨w.heap.size + 1 + 1,1,none⟩ = some (int .i64 x.a) := I1 1 _ rfl
 have i2 : W1.cell? ⟨w.heap.size + 1 + 1,2,none⟩ = some (int .i64 x.b) := I1 2 _ rfl
 have i3 : W1.cell? ⟨w.heap.size + 1 + 1,3,none⟩ = some (int .i64 x.c) := I1 3 _ rfl
 have g1 : W1.cell? ⟨W0.heap.size,1,none⟩ = some (int .i64 f.pc) := G1 1 _ rfl
 have g2 : W1.cell? ⟨W0.heap.size,2,none⟩ = some (.slice Ar nr cr) := G1 2 _ rfl
 have zi1 := lt_of_cell i0
 have zg1 := lt_of_cell g2
 clear HW1 T0 R0 I0 P0 F0 b7 zb7 hz0
 go_wp2_with (first | ((first | (with_reducible refine jl 32 ?_) | (with_reducible refine il 32 ?_));refine ldm Tryz.underlying32 rfl rfl rfl (by exact rg) rfl (by exact infoTsk) ?_;dsimp only [dZ,dS]) | ((first | (with_reducible refine jl 37 ?_) | (with_reducible refine il 37 ?_));refine ldm Tryz.underlying37 rfl rfl rfl (by exact rg) rfl (by exact infoInsR) ?_;dsimp only [dZ,dS]) | ((first | (with_reducible refine jl 26 ?_) | (with_reducible refine il 26 ?_));refine ldm Tryz.underlying26 rfl rfl rfl (by exact rg) rfl (by exact infoPrgR) ?_;dsimp only [dZ,dS]) | ((first | (with_reducible refine jk 102 ?_) | (with_reducible refine ik 102 ?_));refine stm rfl rfl rfl rfl (by exact tr) infoRes (all_oneCell_toArray (by simp [Value.oneCell'])) ?_;(try dsimp only [Act.put])) | (go_at_call 98;refine (HC.out _ E1.out).mono ?_;rintro e w3 ⟨A1,c1,A2,c2,rfl,hR,hb⟩;have HR := Lib.hid hR;unfold resV;have U3 := there_ext T1 hb;have HE3 : Hid (Ext w w3) := Ext.trans E1.out hb;have HS3 : Hid (W1.heap.size ≤ w3.heap.size) := hb.size;clear hR hb))
 refine ret_rangeR (b := w.heap.size + 1 + 1 + 1) Tryz.results71 rfl rfl ?hl (World.rangeAt_setCells_same _ _ 0 _ ?ht) ?hf
 case hl => rfl
 case ht => exact U3
 case hf => exact ⟨A1,c1,A2,c2,rfl,fun W' h k => HR.out W' h (((Keep.refl _ _).setCells (by omega) 0 _).trans k (by omega)),HE3.out.setCells (by omega) 0 _⟩
set_option maxRecDepth 8000 in
theorem rexec_defer {p : Prg} {t : Tsk} {f : Frm} {g : Fnc} {x : Ins} {VP VF VB : Value} {A : Option Addr} {m c : Nat} {w0 : Bs} {w : World} (h : RxIn p t f g x VP VF VB A m w0 w) (hop : x.op = 17) :
  Calls Tryz.prog 71 #[VP,.agg (tskL t VF VB).toArray,.agg #[int .i64 x.op,int .i64 x.a,int .i64 x.b,int .i64 x.c,.slice A m c]] w (ResPost (deferS t f x) w0 w) := by
 obtain ⟨Pf,nf,kf,Po,no,ko,Pv,nv,kv,rfl,_⟩ := h.prg.mono h.ext
 obtain ⟨Af,cf,Ab,cb,rfl,rfl,hFF,_,_,_⟩ := (h.tsk.mono h.ext).two
 have hpos : 0 < t.frames.length := by have := h.run.pos;omega
 have hle : t.frames.length ≤ 9223372036854775807 := by have := h.run.len;omega
 obtain ⟨bf,off,Ar,nr,cr,rfl,hlf,_,_,_,⟨hRR,_⟩,e0,e1,e2,e3,e4⟩ := hFF.frm (show t.frames[t.frames.length - 1]? = some f from h.top)
 have hcl := fun W (hW : Ext w W) => h.register hop c W hW
 rw [hop] at hcl
 rw [hop]
 have HC := Lib.hid (hcl)
 have HF : Hid (w.rangeAt bf (off + (t.frames.length - 1) * 5) [int .i64 f.fn,int .i64 f.pc,.slice Ar nr cr,int .i64 f.result,.bool f.cleanup]) := frm_range e0 e1 e2 e3 e4
 have hlf' : bf < w.heap.size := hlf
 have hnr : nr ≤ 9223372036854775807 := hRR.le
 have hsN : IntKind.i64.wrap ((t.frames.length : Int) - 1) = ((t.frames.length - 1 : Nat) : Int) := by rw [IntWalk.i64_in _ (by omega)];omega
 have hs1N : ((t.frames.length - 1 : Nat) : Int) < (t.frames.length : Int) := by omega
 have hs2N : (0 : Int) ≤ ((t.frames.length - 1 : Nat) : Int) := by omega
 clear h hFF hlf hRR e0 e1 e2 e3 e4 hop hcl
 unfold tskL at HC ⊢
 go_enter Tryz.func71,Tryz.ntmps71
 go_upto_region 1 with fail
 refine wp_hid2 ?_
 intro W0 HW0
 have X0 : Hid (Ext w W0) := by rw [Hid,HW0.out];exact xt
 have T0 : W0.there (w.heap.size + 1 + 1 + 1) 0 17 := by rw [HW0.out];exact tr
 have R0 : W0.rangeAt (w.heap.size + 1) 0 [int .i64 t.fn,int .i64 t.scope,int .i64 t.prio,int .i64 t.status,int .i64 t.wkind,int .i64 t.windex,.bool t.wagain,.slice (some ⟨bf,off,none⟩) t.frames.length cf,.slice Ab t.blocks.length cb,int .i64 t.mask,.bool t.unw,int .i64 t.level,int .i64 t.reason,int .i64 t.result] := by rw [HW0.out];exact rg
 have I0 : W0.rangeAt (w.heap.size + 1 + 1) 0 [int .i64 17,int .i64 x.a,int .i64 x.b,int .i64 x.c,.slice A m c] := by rw [HW0.out];exact rg
 have P0 : W0.rangeAt w.heap.size 0 [.slice Pf nf kf,.slice Po no ko,.slice Pv nv kv] := by rw [HW0.out];exact rg
 have F0 : W0.rangeAt bf (off + (t.frames.length - 1) * 5) [int .i64 f.fn,int .i64 f.pc,.slice Ar nr cr,int .i64 f.result,.bool f.cleanup] := range_ext HF.out X0.out
 have hz0 : w.heap.size + 1 + 1 + 1 < W0.heap.size := by rw [HW0.out];simp
 have b7 : W0.cell? ⟨w.heap.size + 1,7,none⟩ = some (.slice (some ⟨bf,off,none⟩) t.frames.length cf) := R0 7 _ rfl
 have zb7 := lt_of_cell b7
 clear HW0
 go_upto_region 2 with (first | ((first | (with_reducible refine jl 62 ?_) | (with_reducible refine il 62 ?_));refine ldm Tryz.underlying62 rfl rfl rfl (by exact rg) rfl (by exact infoFrm5) ?_;dsimp only [dZ,dS]) | ((first | (with_reducible refine jk 62 ?_) | (with_reducible refine ik 62 ?_));refine stm rfl rfl rfl rfl (by exact tr) infoFrm5 (all_oneCell_toArray (by simp [Value.oneCell'])) ?_;(try dsimp only [Act.put])))
 refine wp_hid2 ?_
 intro W1 HW1
 have X1 : Hid (Ext W0 W1) := by rw [Hid,HW1.out];exact xts
 have G1 : W1.rangeAt W0.heap.size 0 [int .i64 f.fn,int .i64 f.pc,.slice Ar nr cr,int .i64 f.result,.bool f.cleanup] := by rw [HW1.out];exact World.rangeAt_setCells_same _ _ 0 _ (by show World.there _ _ 0 5;exact tr)
 have T1 := there_ext T0 X1.out
 have R1 := range_ext R0 X1.out
 have I1 := range_ext I0 X1.out
 have P1 := range_ext P0 X1.out
 have E1 : Hid (Ext w W1) := X0.out.trans X1.out
 have hz1 : w.heap.size + 1 + 1 + 1 < W1.heap.size := Nat.lt_of_lt_of_le hz0 X1.out.size
 have i0 : W1.cell? ⟨w.heap.size + 1 + 1,0,none⟩ = some (int .i64 17) := I1 0 _ rfl
 have i1 : W1.cell? ⟨w.heap.size + 1 + 1,1,none⟩ = some (int .i64 x.a) := I1 1 _ rfl
 have i2 : W1.cell? ⟨w.heap.size + 1 + 1,2,none⟩ = some (int .i64 x.b) := I1 2 _ rfl
 have i3 : W1.cell? ⟨w.heap.size + 1 + 1,3,none⟩ = some (int .i64 x.c) := I1 3 _ rfl
 have g1 : W1.cell? ⟨W0.heap.size,1,none⟩ = some (int .i64 f.pc) := G1 1 _ rfl
 have g2 : W1.cell? ⟨W0.heap.size,2,none⟩ = some (.slice Ar nr cr) := G1 2 _ rfl
 have zi1 := lt_of_cell i0
 have zg1 := lt_of_cell g2
 clear HW1 T0 R0 I0 P0 F0 b7 zb7 hz0
 go_wp2_with (first | ((first | (with_reducible refine jl 32 ?_) | (with_reducible refine il 32 ?_));refine ldm Tryz.underlying32 rfl rfl rfl (by exact rg) rfl (by exact infoTsk) ?_;dsimp only [dZ,dS]) | ((first | (with_reducible refine jl 37 ?_) | (with_reducible refine il 37 ?_));refine ldm Tryz.underlying37 rfl rfl rfl (by exact rg) rfl (by exact infoInsR) ?_;dsimp only [dZ,dS]) | ((first | (with_reducible refine jl 26 ?_) | (with_reducible refine il 26 ?_));refine ldm Tryz.underlying26 rfl rfl rfl (by exact rg) rfl (by exact infoPrgR) ?_;dsimp only [dZ,dS]) | ((first | (with_reducible refine jk 102 ?_) | (with_reducible refine ik 102 ?_));refine stm rfl rfl rfl rfl (by exact tr) infoRes (all_oneCell_toArray (by simp [Value.oneCell'])) ?_;(try dsimp only [Act.put])) | (go_at_call 99;refine (HC.out _ E1.out).mono ?_;rintro e w3 ⟨A1,c1,A2,c2,rfl,hR,hb⟩;have HR := Lib.hid hR;unfold resV;have U3 := there_ext T1 hb;have HE3 : Hid (Ext w w3) := Ext.trans E1.out hb;have HS3 : Hid (W1.heap.size ≤ w3.heap.size) := hb.size;clear hR hb))
 refine ret_rangeR (b := w.heap.size + 1 + 1 + 1) Tryz.results71 rfl rfl ?hl (World.rangeAt_setCells_same _ _ 0 _ ?ht) ?hf
 case hl => rfl
 case ht => exact U3
 case hf => exact ⟨A1,c1,A2,c2,rfl,fun W' h k => HR.out W' h (((Keep.refl _ _).setCells (by omega) 0 _).trans k (by omega)),HE3.out.setCells (by omega) 0 _⟩
set_option maxRecDepth 8000 in
theorem rexec_mask {p : Prg} {t : Tsk} {f : Frm} {g : Fnc} {x : Ins} {VP VF VB : Value} {A : Option Addr} {m c : Nat} {w0 : Bs} {w : World} (h : RxIn p t f g x VP VF VB A m w0 w) (hop : x.op = 18) :
  Calls Tryz.prog 71 #[VP,.agg (tskL t VF VB).toArray,.agg #[int .i64 x.op,int .i64 x.a,int .i64 x.b,int .i64 x.c,.slice A m c]] w (ResPost (maskS t f) w0 w) := by
 obtain ⟨Pf,nf,kf,Po,no,ko,Pv,nv,kv,rfl,_⟩ := h.prg.mono h.ext
 obtain ⟨Af,cf,Ab,cb,rfl,rfl,hFF,_,_,_⟩ := (h.tsk.mono h.ext).two
 have hpos : 0 < t.frames.length := by have := h.run.pos;omega
 have hle : t.frames.length ≤ 9223372036854775807 := by have := h.run.len;omega
 obtain ⟨bf,off,Ar,nr,cr,rfl,hlf,_,_,_,⟨hRR,_⟩,e0,e1,e2,e3,e4⟩ := hFF.frm (show t.frames[t.frames.length - 1]? = some f from h.top)
 rw [hop]
 have HC := Lib.hid (fun W (hW : Ext w W) => (show Calls Tryz.prog 100 _ W (ResPost (maskS t f) w0 W) from h.masked (op := 18) (by decide) W hW))
 have HF : Hid (w.rangeAt bf (off + (t.frames.length - 1) * 5) [int .i64 f.fn,int .i64 f.pc,.slice Ar nr cr,int .i64 f.result,.bool f.cleanup]) := frm_range e0 e1 e2 e3 e4
 have hlf' : bf < w.heap.size := hlf
 have hnr : nr ≤ 9223372036854775807 := hRR.le
 have hsN : IntKind.i64.wrap ((t.frames.length : Int) - 1) = ((t.frames.length - 1 : Nat) : Int) := by rw [IntWalk.i64_in _ (by omega)];omega
 have hs1N : ((t.frames.length - 1 : Nat) : Int) < (t.frames.length : Int) := by omega
 have hs2N : (0 : Int) ≤ ((t.frames.length - 1 : Nat) : Int) := by omega
 clear h hFF hlf hRR e0 e1 e2 e3 e4 hop
 unfold tskL at HC ⊢
 go_enter Tryz.func71,Tryz.ntmps71
 go_upto_region 1 with fail
 refine wp_hid2 ?_
 intro W0 HW0
 have X0 : Hid (Ext w W0) := by rw [Hid,HW0.out];exact xt
 have T0 : W0.there (w.heap.size + 1 + 1 + 1) 0 17 := by rw [HW0.out];exact tr
 have R0 : W0.rangeAt (w.heap.size + 1) 0 [int .i64 t.fn,int .i64 t.scope,int .i64 t.prio,int .i64 t.status,int .i64 t.wkind,int .i64 t.windex,.bool t.wagain,.slice (some ⟨bf,off,none⟩) t.frames.length cf,.slice Ab t.blocks.length cb,int .i64 t.mask,.bool t.unw,int .i64 t.level,int .i64 t.reason,int .i64 t.result] := by rw [HW0.out];exact rg
 have I0 : W0.rangeAt (w.heap.size + 1 + 1) 0 [int .i64 18,int .i64 x.a,int .i64 x.b,int .i64 x.c,.slice A m c] := by rw [HW0.out];exact rg
 have P0 : W0.rangeAt w.heap.size 0 [.slice Pf nf kf,.slice Po no ko,.slice Pv nv kv] := by rw [HW0.out];exact rg
 have F0 : W0.rangeAt bf (off + (t.frames.length - 1) * 5) [int .i64 f.fn,int .i64 f.pc,.slice Ar nr cr,int .i64 f.result,.bool f.cleanup] := range_ext HF.out X0.out
 have hz0 : w.heap.size + 1 + 1 + 1 < W0.heap.size := by rw [HW0.out];simp
 have b7 : W0.cell? ⟨w.heap.size + 1,7,none⟩ = some (.slice (some ⟨bf,off,none⟩) t.frames.length cf) := R0 7 _ rfl
 have zb7 := lt_of_cell b7
 clear HW0
 go_upto_region 2 with (first | ((first | (with_reducible refine jl 62 ?_) | (with_reducible refine il 62 ?_));refine ldm Tryz.underlying62 rfl rfl rfl (by exact rg) rfl (by exact infoFrm5) ?_;dsimp only [dZ,dS]) | ((first | (with_reducible refine jk 62 ?_) | (with_reducible refine ik 62 ?_));refine stm rfl rfl rfl rfl (by exact tr) infoFrm5 (all_oneCell_toArray (by simp [Value.oneCell'])) ?_;(try dsimp only [Act.put])))
 refine wp_hid2 ?_
 intro W1 HW1
 have X1 : Hid (Ext W0 W1) := by rw [Hid,HW1.out];exact xts
 have G1 : W1.rangeAt W0.heap.size 0 [int .i64 f.fn,int .i64 f.pc,.slice Ar nr cr,int .i64 f.result,.bool f.cleanup] := by rw [HW1.out];exact World.rangeAt_setCells_same _ _ 0 _ (by show World.there _ _ 0 5;exact tr)
 have T1 := there_ext T0 X1.out
 have R1 := range_ext R0 X1.out
 have I1 := range_ext I0 X1.out
 have P1 := range_ext P0 X1.out
 have E1 : Hid (Ext w W1) := X0.out.trans X1.out
 have hz1 : w.heap.size + 1 + 1 + 1 < W1.heap.size := Nat.lt_of_lt_of_le hz0 X1.out.size
 have i0 : W1.cell? ⟨w.heap.size + 1 + 1,0,none⟩ = some (int .i64 18) := I1 0 _ rfl
 have i1 : W1.cell? ⟨w.heap.size + 1 + 1,1,none⟩ = some (int .i64 x.a) := I1 1 _ rfl
 have i2 : W1.cell? ⟨w.heap.size + 1 + 1,2,none⟩ = some (int .i64 x.b) := I1 2 _ rfl
 have i3 : W1.cell? ⟨w.heap.size + 1 + 1,3,none⟩ = some (int .i64 x.c) := I1 3 _ rfl
 have g1 : W1.cell? ⟨W0.heap.size,1,none⟩ = some (int .i64 f.pc) := G1 1 _ rfl
 have g2 : W1.cell? ⟨W0.heap.size,2,none⟩ = some (.slice Ar nr cr) := G1 2 _ rfl
 have zi1 := lt_of_cell i0
 have zg1 := lt_of_cell g2
 clear HW1 T0 R0 I0 P0 F0 b7 zb7 hz0
 go_wp2_with (first | ((first | (with_reducible refine jl 32 ?_) | (with_reducible refine il 32 ?_));refine ldm Tryz.underlying32 rfl rfl rfl (by exact rg) rfl (by exact infoTsk) ?_;dsimp only [dZ,dS]) | ((first | (with_reducible refine jl 37 ?_) | (with_reducible refine il 37 ?_));refine ldm Tryz.underlying37 rfl rfl rfl (by exact rg) rfl (by exact infoInsR) ?_;dsimp only [dZ,dS]) | ((first | (with_reducible refine jl 26 ?_) | (with_reducible refine il 26 ?_));refine ldm Tryz.underlying26 rfl rfl rfl (by exact rg) rfl (by exact infoPrgR) ?_;dsimp only [dZ,dS]) | ((first | (with_reducible refine jk 102 ?_) | (with_reducible refine ik 102 ?_));refine stm rfl rfl rfl rfl (by exact tr) infoRes (all_oneCell_toArray (by simp [Value.oneCell'])) ?_;(try dsimp only [Act.put])) | (go_at_call 100;refine (HC.out _ E1.out).mono ?_;rintro e w3 ⟨A1,c1,A2,c2,rfl,hR,hb⟩;have HR := Lib.hid hR;unfold resV;have U3 := there_ext T1 hb;have HE3 : Hid (Ext w w3) := Ext.trans E1.out hb;have HS3 : Hid (W1.heap.size ≤ w3.heap.size) := hb.size;clear hR hb))
 refine ret_rangeR (b := w.heap.size + 1 + 1 + 1) Tryz.results71 rfl rfl ?hl (World.rangeAt_setCells_same _ _ 0 _ ?ht) ?hf
 case hl => rfl
 case ht => exact U3
 case hf => exact ⟨A1,c1,A2,c2,rfl,fun W' h k => HR.out W' h (((Keep.refl _ _).setCells (by omega) 0 _).trans k (by omega)),HE3.out.setCells (by omega) 0 _⟩
set_option maxRecDepth 8000 in
theorem rexec_unmask {p : Prg} {t : Tsk} {f : Frm} {g : Fnc} {x : Ins} {VP VF VB : Value} {A : Option Addr} {m c : Nat} {w0 : Bs} {w : World} (h : RxIn p t f g x VP VF VB A m w0 w) (hop : x.op = 19) :
  Calls Tryz.prog 71 #[VP,.agg (tskL t VF VB).toArray,.agg #[int .i64 x.op,int .i64 x.a,int .i64 x.b,int .i64 x.c,.slice A m c]] w (ResPost (unmaskS t f) w0 w) := by
 obtain ⟨Pf,nf,kf,Po,no,ko,Pv,nv,kv,rfl,_⟩ := h.prg.mono h.ext
 obtain ⟨Af,cf,Ab,cb,rfl,rfl,hFF,_,_,_⟩ := (h.tsk.mono h.ext).two
 have hpos : 0 < t.frames.length := by have := h.run.pos;omega
 have hle : t.frames.length ≤ 9223372036854775807 := by have := h.run.len;omega
 obtain ⟨bf,off,Ar,nr,cr,rfl,hlf,_,_,_,⟨hRR,_⟩,e0,e1,e2,e3,e4⟩ := hFF.frm (show t.frames[t.frames.length - 1]? = some f from h.top)
 rw [hop]
 have HC := Lib.hid (fun W (hW : Ext w W) => (show Calls Tryz.prog 100 _ W (ResPost (unmaskS t f) w0 W) from h.masked (op := 19) (by decide) W hW))
 have HF : Hid (w.rangeAt bf (off + (t.frames.length - 1) * 5) [int .i64 f.fn,int .i64 f.pc,.slice Ar nr cr,int .i64 f.result,.bool f.cleanup]) := frm_range e0 e1 e2 e3 e4
 have hlf' : bf < w.heap.size := hlf
 have hnr : nr ≤ 9223372036854775807 := hRR.le
 have hsN : IntKind.i64.wrap ((t.frames.length : Int) - 1) = ((t.frames.length - 1 : Nat) : Int) := by rw [IntWalk.i64_in _ (by omega)];omega
 have hs1N : ((t.frames.length - 1 : Nat) : Int) < (t.frames.length : Int) := by omega
 have hs2N : (0 : Int) ≤ ((t.frames.length - 1 : Nat) : Int) := by omega
 clear h hFF hlf hRR e0 e1 e2 e3 e4 hop
 unfold tskL at HC ⊢
 go_enter Tryz.func71,Tryz.ntmps71
 go_upto_region 1 with fail
 refine wp_hid2 ?_
 intro W0 HW0
 have X0 : Hid (Ext w W0) := by rw [Hid,HW0.out];exact xt
 have T0 : W0.there (w.heap.size + 1 + 1 + 1) 0 17 := by rw [HW0.out];exact tr
 have R0 : W0.rangeAt (w.heap.size + 1) 0 [int .i64 t.fn,int .i64 t.scope,int .i64 t.prio,int .i64 t.status,int .i64 t.wkind,int .i64 t.windex,.bool t.wagain,.slice (some ⟨bf,off,none⟩) t.frames.length cf,.slice Ab t.blocks.length cb,int .i64 t.mask,.bool t.unw,int .i64 t.level,int .i64 t.reason,int .i64 t.result] := by rw [HW0.out];exact rg
 have I0 : W0.rangeAt (w.heap.size + 1 + 1) 0 [int .i64 19,int .i64 x.a,int .i64 x.b,int .i64 x.c,.slice A m c] := by rw [HW0.out];exact rg
 have P0 : W0.rangeAt w.heap.size 0 [.slice Pf nf kf,.slice Po no ko,.slice Pv nv kv] := by rw [HW0.out];exact rg
 have F0 : W0.rangeAt bf (off + (t.frames.length - 1) * 5) [int .i64 f.fn,int .i64 f.pc,.slice Ar nr cr,int .i64 f.result,.bool f.cleanup] := range_ext HF.out X0.out
 have hz0 : w.heap.size + 1 + 1 + 1 < W0.heap.size := by rw [HW0.out];simp
 have b7 : W0.cell? ⟨w.heap.size + 1,7,none⟩ = some (.slice (some ⟨bf,off,none⟩) t.frames.length cf) := R0 7 _ rfl
 have zb7 := lt_of_cell b7
 clear HW0
 go_upto_region 2 with (first | ((first | (with_reducible refine jl 62 ?_) | (with_reducible refine il 62 ?_));refine ldm Tryz.underlying62 rfl rfl rfl (by exact rg) rfl (by exact infoFrm5) ?_;dsimp only [dZ,dS]) | ((first | (with_reducible refine jk 62 ?_) | (with_reducible refine ik 62 ?_));refine stm rfl rfl rfl rfl (by exact tr) infoFrm5 (all_oneCell_toArray (by simp [Value.oneCell'])) ?_;(try dsimp only [Act.put])))
 refine wp_hid2 ?_
 intro W1 HW1
 have X1 : Hid (Ext W0 W1) := by rw [Hid,HW1.out];exact xts
 have G1 : W1.rangeAt W0.heap.size 0 [int .i64 f.fn,int .i64 f.pc,.slice Ar nr cr,int .i64 f.result,.bool f.cleanup] := by rw [HW1.out];exact World.rangeAt_setCells_same _ _ 0 _ (by show World.there _ _ 0 5;exact tr)
 have T1 := there_ext T0 X1.out
 have R1 := range_ext R0 X1.out
 have I1 := range_ext I0 X1.out
 have P1 := range_ext P0 X1.out
 have E1 : Hid (Ext w W1) := X0.out.trans X1.out
 have hz1 : w.heap.size + 1 + 1 + 1 < W1.heap.size := Nat.lt_of_lt_of_le hz0 X1.out.size
 have i0 : W1.cell? ⟨w.heap.size + 1 + 1,0,none⟩ = some (int .i64 19) := I1 0 _ rfl
 have i1 : W1.cell? ⟨w.heap.size + 1 + 1,1,none⟩ = some (int .i64 x.a) := I1 1 _ rfl
 have i2 : W1.cell? ⟨w.heap.size + 1 + 1,2,none⟩ = some (int .i64 x.b) := I1 2 _ rfl
 have i3 : W1.cell? ⟨w.heap.size + 1 + 1,3,none⟩ = some (int .i64 x.c) := I1 3 _ rfl
 have g1 : W1.cell? ⟨W0.heap.size,1,none⟩ = some (int .i64 f.pc) := G1 1 _ rfl
 have g2 : W1.cell? ⟨W0.heap.size,2,none⟩ = some (.slice Ar nr cr) := G1 2 _ rfl
 have zi1 := lt_of_cell i0
 have zg1 := lt_of_cell g2
 clear HW1 T0 R0 I0 P0 F0 b7 zb7 hz0
 go_wp2_with (first | ((first | (with_reducible refine jl 32 ?_) | (with_reducible refine il 32 ?_));refine ldm Tryz.underlying32 rfl rfl rfl (by exact rg) rfl (by exact infoTsk) ?_;dsimp only [dZ,dS]) | ((first | (with_reducible refine jl 37 ?_) | (with_reducible refine il 37 ?_));refine ldm Tryz.underlying37 rfl rfl rfl (by exact rg) rfl (by exact infoInsR) ?_;dsimp only [dZ,dS]) | ((first | (with_reducible refine jl 26 ?_) | (with_reducible refine il 26 ?_));refine ldm Tryz.underlying26 rfl rfl rfl (by exact rg) rfl (by exact infoPrgR) ?_;dsimp only [dZ,dS]) | ((first | (with_reducible refine jk 102 ?_) | (with_reducible refine ik 102 ?_));refine stm rfl rfl rfl rfl (by exact tr) infoRes (all_oneCell_toArray (by simp [Value.oneCell'])) ?_;(try dsimp only [Act.put])) | (go_at_call 100;refine (HC.out _ E1.out).mono ?_;rintro e w3 ⟨A1,c1,A2,c2,rfl,hR,hb⟩;have HR := Lib.hid hR;unfold resV;have U3 := there_ext T1 hb;have HE3 : Hid (Ext w w3) := Ext.trans E1.out hb;have HS3 : Hid (W1.heap.size ≤ w3.heap.size) := hb.size;clear hR hb))
 refine ret_rangeR (b := w.heap.size + 1 + 1 + 1) Tryz.results71 rfl rfl ?hl (World.rangeAt_setCells_same _ _ 0 _ ?ht) ?hf
 case hl => rfl
 case ht => exact U3
 case hf => exact ⟨A1,c1,A2,c2,rfl,fun W' h k => HR.out W' h (((Keep.refl _ _).setCells (by omega) 0 _).trans k (by omega)),HE3.out.setCells (by omega) 0 _⟩
theorem rexec_any {p : Prg} {t : Tsk} {f : Frm} {g : Fnc} {x : Ins} {VP VF VB : Value} {A : Option Addr} {m c : Nat} {w0 : Bs} {w : World} (h : RxIn p t f g x VP VF VB A m w0 w) (hv : visS x.op = false) :
  Calls Tryz.prog 71 #[VP,.agg (tskL t VF VB).toArray,.agg #[int .i64 x.op,int .i64 x.a,int .i64 x.b,int .i64 x.c,.slice A m c]] w (ResPost (execS p t f x) w0 w) := by
 have hi := h.ins
 have hop := local_op hi.shape hv
 refine exec_cases (motive := fun r => Calls Tryz.prog 71 #[VP,.agg (tskL t VF VB).toArray,.agg #[int .i64 x.op,int .i64 x.a,int .i64 x.b,int .i64 x.c,.slice A m c]] w (ResPost r w0 w)) hop (fun e => ?_) (fun e => ?_) (fun e => ?_) (fun h3 h11 hz => ?_) (fun h3 h11 hz => ?_) (fun e => ?_) (fun e => ?_) (fun e => ?_) (fun e => ?_) (fun e => ?_) (fun e => ?_) (fun e => ?_) (fun e => ?_) (fun e => ?_)
 ·rw [← wrS_write t f x.a x.b (oper_num (by rw [e];rfl) hi.b)]
  exact rexec_const h e (need_a hi (by omega))
 ·rw [← wrS_write t f x.a _ (regS_num h.fr (need_b hi (by omega)))]
  exact rexec_move h e (need_a hi (by omega)) (need_b hi (by omega))
 ·rw [← wrS_write t f x.a _ (bit_num _)]
  exact rexec_not h e (need_a hi (by omega)) (need_b hi (by omega))
 ·have := rexec_bin (c := c) h ⟨h3,h11⟩ (need_a hi (by omega)) (need_b hi (by omega)) (need_c hi (by omega))
  rw [wrS_oper,if_pos hz] at this
  exact this
 ·have := rexec_bin (c := c) h ⟨h3,h11⟩ (need_a hi (by omega)) (need_b hi (by omega)) (need_c hi (by omega))
  rw [wrS_oper,if_neg hz] at this
  exact this
 ·exact rexec_jump h e
 ·by_cases h0 : regS f x.a = 0
  ·rw [if_pos h0];exact rexec_unless0 h e (need_a hi (by omega)) h0
  ·rw [if_neg h0];exact rexec_unless1 h e (need_a hi (by omega)) h0
 ·exact rexec_call h e
 ·exact rexec_give h e (need_a hi (by omega))
 ·exact rexec_defer h e
 ·exact rexec_mask h e
 ·exact rexec_unmask h e
 ·exact rexec_assert h e (need_a hi (by omega))
 ·exact rexec_fail h e (need_a hi (by omega))
end Go.Proofs.YtcjjoabofecjmaaGreat

