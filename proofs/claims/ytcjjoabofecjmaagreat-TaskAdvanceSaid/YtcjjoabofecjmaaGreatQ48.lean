/- A part of the proof: execute of the reference of layer 28; execute of the referen. -/
import Derived.Test.YtcjjoabofecjmaaGreatQ47
set_option linter.unusedVariables false
set_option linter.unusedSimpArgs false
set_option maxHeartbeats 16000000
namespace Go.Proofs.YtcjjoabofecjmaaGreat
open Go.RowKit Go.Sort
open Go.Value (int)
set_option maxRecDepth 8000 in
theorem rexec_bin {p : Prg} {t : Tsk} {f : Frm} {g : Fnc} {x : Ins} {VP VF VB : Value} {A : Option Addr} {m c : Nat} {w0 : Bs} {w : World} (h : RxIn p t f g x VP VF VB A m w0 w) (hop : 3 ≤ x.op ∧ x.op ≤ 11) (ha : 0 ≤ x.a ∧ x.a < g.regs) (hb : 0 ≤ x.b ∧ x.b < g.regs) (hc : 0 ≤ x.c ∧ x.c < g.regs) :
  Calls Tryz.prog 71 #[VP,.agg (tskL t VF VB).toArray,.agg #[int .i64 x.op,int .i64 x.a,int .i64 x.b,int .i64 x.c,.slice A m c]] w (ResPost (wrS t f x.a (operS x.op (regS f x.b) (regS f x.c)).1 (operS x.op (regS f x.b) (regS f x.c)).2) w0 w) := by
 obtain ⟨Pf,nf,kf,Po,no,ko,Pv,nv,kv,rfl,_⟩ := h.prg.mono h.ext
 obtain ⟨Af,cf,Ab,cb,rfl,rfl,hFF,_,_,_⟩ := (h.tsk.mono h.ext).two
 have hpos : 0 < t.frames.length := by have := h.run.pos;omega
 have hle : t.frames.length ≤ 9223372036854775807 := by have := h.run.len;omega
 obtain ⟨bf,off,Ar,nr,cr,rfl,hlf,_,_,_,⟨hRR,_⟩,e0,e1,e2,e3,e4⟩ := hFF.frm (show t.frames[t.frames.length - 1]? = some f from h.top)
 obtain ⟨nb,br,orr,hxb,rfl,rb,hlb,hnb,hib⟩ := h.regAt (k := x.b) hb hRR
 obtain ⟨vb,hvb⟩ : ∃ v,regS f x.b = v := ⟨_,rfl⟩
 rw [hvb] at rb hnb hib ⊢
 obtain ⟨nc,br2,orr2,hxc,hbr,rc,hlc,hnc,hic⟩ := h.regAt (k := x.c) hc hRR
 obtain ⟨vc,hvc⟩ : ∃ v,regS f x.c = v := ⟨_,rfl⟩
 rw [hvc] at rc hnc hic ⊢
 injection hbr with hbr
 injection hbr with hb1 hb2 _
 subst hb1 hb2
 have HOP := Lib.hid hop
 have HNB := Lib.hid hnb
 have HNC := Lib.hid hnc
 have o1 : (x.op == 1) = false := beq_eq_false_iff_ne.2 (by omega)
 have o2 : (x.op == 2) = false := beq_eq_false_iff_ne.2 (by omega)
 have o3 : (x.op == 12) = false := beq_eq_false_iff_ne.2 (by omega)
 have o4 := hop.1
 have o5 := hop.2
 rw [hxb]
 rw [hxc]
 have HC := Lib.hid (fun W (hW : Ext w W) => h.write ha (v := (operS x.op vb vc).1) (r := (operS x.op vb vc).2) (operS_in _ _ _) W hW)
 have HF : Hid (w.rangeAt bf (off + (t.frames.length - 1) * 5) [int .i64 f.fn,int .i64 f.pc,.slice (some ⟨br,orr,none⟩) nr cr,int .i64 f.result,.bool f.cleanup]) := frm_range e0 e1 e2 e3 e4
 have hlf' : bf < w.heap.size := hlf
 have hnr : nr ≤ 9223372036854775807 := hRR.le
 have hsN : IntKind.i64.wrap ((t.frames.length : Int) - 1) = ((t.frames.length - 1 : Nat) : Int) := by rw [IntWalk.i64_in _ (by omega)];omega
 have hs1N : ((t.frames.length - 1 : Nat) : Int) < (t.frames.length : Int) := by omega
 have hs2N : (0 : Int) ≤ ((t.frames.length - 1 : Nat) : Int) := by omega
 clear h hFF hlf hRR e0 e1 e2 e3 e4 hop ha hb hc hib hic hvb hvc hnb hnc hxb hxc
 unfold tskL at HC ⊢
 go_enter Tryz.func71,Tryz.ntmps71
 go_upto_region 1 with fail
 refine wp_hid2 ?_
 intro W0 HW0
 have X0 : Hid (Ext w W0) := by rw [Hid,HW0.out];exact xt
 have T0 : W0.there (w.heap.size + 1 + 1 + 1) 0 17 := by rw [HW0.out];exact tr
 have R0 : W0.rangeAt (w.heap.size + 1) 0 [int .i64 t.fn,int .i64 t.scope,int .i64 t.prio,int .i64 t.status,int .i64 t.wkind,int .i64 t.windex,.bool t.wagain,.slice (some ⟨bf,off,none⟩) t.frames.length cf,.slice Ab t.blocks.length cb,int .i64 t.mask,.bool t.unw,int .i64 t.level,int .i64 t.reason,int .i64 t.result] := by rw [HW0.out];exact rg
 have I0 : W0.rangeAt (w.heap.size + 1 + 1) 0 [int .i64 x.op,int .i64 x.a,int .i64 (nb : Int),int .i64 (nc : Int),.slice A m c] := by rw [HW0.out];exact rg
 have P0 : W0.rangeAt w.heap.size 0 [.slice Pf nf kf,.slice Po no ko,.slice Pv nv kv] := by rw [HW0.out];exact rg
 have F0 : W0.rangeAt bf (off + (t.frames.length - 1) * 5) [int .i64 f.fn,int .i64 f.pc,.slice (some ⟨br,orr,none⟩) nr cr,int .i64 f.result,.bool f.cleanup] := range_ext HF.out X0.out
 have hz0 : w.heap.size + 1 + 1 + 1 < W0.heap.size := by rw [HW0.out];simp
 have b7 : W0.cell? ⟨w.heap.size + 1,7,none⟩ = some (.slice (some ⟨bf,off,none⟩) t.frames.length cf) := R0 7 _ rfl
 have zb7 := lt_of_cell b7
 clear HW0
 go_upto_region 2 with (first | ((first | (with_reducible refine jl 62 ?_) | (with_reducible refine il 62 ?_));refine ldm Tryz.underlying62 rfl rfl rfl (by exact rg) rfl (by exact infoFrm5) ?_;dsimp only [dZ,dS]) | ((first | (with_reducible refine jk 62 ?_) | (with_reducible refine ik 62 ?_));refine stm rfl rfl rfl rfl (by exact tr) infoFrm5 (all_oneCell_toArray (by simp [Value.oneCell'])) ?_;(try dsimp only [Act.put])))
 refine wp_hid2 ?_
 intro W1 HW1
 have X1 : Hid (Ext W0 W1) := by rw [Hid,HW1.out];exact xts
 have G1 : W1.rangeAt W0.heap.size 0 [int .i64 f.fn,int .i64 f.pc,.slice (some ⟨br,orr,none⟩) nr cr,int .i64 f.result,.bool f.cleanup] := by rw [HW1.out];exact World.rangeAt_setCells_same _ _ 0 _ (by show World.there _ _ 0 5;exact tr)
 have T1 := there_ext T0 X1.out
 have R1 := range_ext R0 X1.out
 have I1 := range_ext I0 X1.out
 have P1 := range_ext P0 X1.out
 have E1 : Hid (Ext w W1) := X0.out.trans X1.out
 have hz1 : w.heap.size + 1 + 1 + 1 < W1.heap.size := Nat.lt_of_lt_of_le hz0 X1.out.size
 have i0 : W1.cell? ⟨w.heap.size + 1 + 1,0,none⟩ = some (int .i64 x.op) := I1 0 _ rfl
 have i1 : W1.cell? ⟨w.heap.size + 1 + 1,1,none⟩ = some (int .i64 x.a) := I1 1 _ rfl
 have i2 : W1.cell? ⟨w.heap.size + 1 + 1,2,none⟩ = some (int .i64 (nb : Int)) := I1 2 _ rfl
 have i3 : W1.cell? ⟨w.heap.size + 1 + 1,3,none⟩ = some (int .i64 (nc : Int)) := I1 3 _ rfl
 have g1 : W1.cell? ⟨W0.heap.size,1,none⟩ = some (int .i64 f.pc) := G1 1 _ rfl
 have g2 : W1.cell? ⟨W0.heap.size,2,none⟩ = some (.slice (some ⟨br,orr,none⟩) nr cr) := G1 2 _ rfl
 have zi1 := lt_of_cell i0
 have zg1 := lt_of_cell g2
 have qb : W1.cell? ⟨br,orr + nb,none⟩ = some (int .i64 vb) := E1.out.cell rb
 have zqb := lt_of_cell qb
 have qc : W1.cell? ⟨br,orr + nc,none⟩ = some (int .i64 vc) := E1.out.cell rc
 have zqc := lt_of_cell qc
 have HZ1 := Lib.hid hz1
 clear HW1 T0 R0 I0 P0 F0 b7 zb7 hz0
 go_upto_region 9 with fail
 refine wp_region_th 19 (fun W' => Ext W1 W' ∧ W'.cell? ⟨w.heap.size + 1 + 1,0,none⟩ = some (int .i64 x.op) ∧ W'.cell? ⟨w.heap.size + 1 + 1,2,none⟩ = some (int .i64 (nb : Int)) ∧ W'.cell? ⟨w.heap.size + 1 + 1,3,none⟩ = some (int .i64 (nc : Int)) ∧ W'.cell? ⟨W0.heap.size,2,none⟩ = some (.slice (some ⟨br,orr,none⟩) nr cr) ∧ W'.cell? ⟨br,orr + nb,none⟩ = some (int .i64 vb) ∧ W'.cell? ⟨br,orr + nc,none⟩ = some (int .i64 vc)) (by kernel_rfl) (by kernel_rfl) (by kernel_rfl) (by kernel_rfl) (by decide) ?_ ?_
 ·exact ⟨xt,by go_simp,by go_simp,by go_simp,by go_simp,by go_simp,by go_simp⟩
 intro hT hHeld
 (refine tht 0 hT ?_;(try simp only [Act.put,aset,dZ,dS]);refine tht 1 hT ?_;(try simp only [Act.put,aset,dZ,dS]);refine tht 2 hT ?_;(try simp only [Act.put,aset,dZ,dS]);refine tht 3 hT ?_;(try simp only [Act.put,aset,dZ,dS]);refine tht 4 hT ?_;(try simp only [Act.put,aset,dZ,dS]);refine tht 5 hT ?_;(try simp only [Act.put,aset,dZ,dS]);refine tht 6 hT ?_;(try simp only [Act.put,aset,dZ,dS]);refine tht 7 hT ?_;(try simp only [Act.put,aset,dZ,dS]);refine tht 8 hT ?_;(try simp only [Act.put,aset,dZ,dS]);refine tht 9 hT ?_;(try simp only [Act.put,aset,dZ,dS]);refine tht 10 hT ?_;(try simp only [Act.put,aset,dZ,dS]);refine tht 11 hT ?_;(try simp only [Act.put,aset,dZ,dS]);refine tht 12 hT ?_;(try simp only [Act.put,aset,dZ,dS]);refine tht 13 hT ?_;(try simp only [Act.put,aset,dZ,dS]))
 refine tst 14 (fun K hK => ?_)
 go_simp
 go_at_call 96
 refine (operate_any x.op vb vc HOP.out HNB.out HNC.out _).mono ?_
 rintro e w2 ⟨rfl,hb2⟩
 dsimp only
 have X2 := Lib.hid (hHeld.1.trans hb2)
 refine hK.out _ _ ⟨hHeld.1.trans hb2,hb2.cell hHeld.2.1,hb2.cell hHeld.2.2.1,hb2.cell hHeld.2.2.2.1,hb2.cell hHeld.2.2.2.2.1,hb2.cell hHeld.2.2.2.2.2.1,hb2.cell hHeld.2.2.2.2.2.2⟩ (fun hHeld2 => ?_)
 clear hK K
 (try simp only [Act.put,aset,dZ,dS])
 clear hHeld
 have hHeld := hHeld2
 (refine tht 15 hT ?_;(try simp only [Act.put,aset,dZ,dS]);refine tht 16 hT ?_;(try simp only [Act.put,aset,dZ,dS]);refine tht 17 hT ?_;(try simp only [Act.put,aset,dZ,dS]);refine tht 18 hT ?_;(try simp only [Act.put,aset,dZ,dS]))
 refine th_done (by kernel_rfl) ?_
 simp only [List.drop_succ_cons,List.drop_zero]
 go_upto_region 10 with fail
 clear hHeld hHeld2 hT hb2
 have T2 := there_ext T1 X2.out
 have R2 := range_ext R1 X2.out
 have E2 : Hid (Ext w w2) := E1.out.trans X2.out
 have j1 : w2.cell? ⟨w.heap.size + 1 + 1,1,none⟩ = some (int .i64 x.a) := X2.out.cell i1
 have zj1 := lt_of_cell j1
 clear T1 R1 I1 P1 i0 i1 i2 i3 g1 g2 zi1 zg1 qb qc zqb zqc G1 hz1
 have hz1 : w.heap.size + 1 + 1 + 1 < w2.heap.size := by have := X2.out.size;have := HZ1.out;omega
 go_wp2_with (first | ((first | (with_reducible refine jl 32 ?_) | (with_reducible refine il 32 ?_));refine ldm Tryz.underlying32 rfl rfl rfl (by exact rg) rfl (by exact infoTsk) ?_;dsimp only [dZ,dS]) | ((first | (with_reducible refine jk 102 ?_) | (with_reducible refine ik 102 ?_));refine stm rfl rfl rfl rfl (by exact tr) infoRes (all_oneCell_toArray (by simp [Value.oneCell'])) ?_;(try dsimp only [Act.put])) | (go_at_call 94;refine (HC.out _ E2.out).mono ?_;rintro e w3 ⟨A1,c1,A2,c2,rfl,hR,hb⟩;have HR := Lib.hid hR;unfold resV;have U3 := there_ext T2 hb;have HE3 : Hid (Ext w w3) := Ext.trans E2.out hb;have HS3 : Hid (w2.heap.size ≤ w3.heap.size) := hb.size;clear hR hb))
 refine ret_rangeR (b := w.heap.size + 1 + 1 + 1) Tryz.results71 rfl rfl ?hl (World.rangeAt_setCells_same _ _ 0 _ ?ht) ?hf
 case hl => rfl
 case ht => exact U3
 case hf => exact ⟨A1,c1,A2,c2,rfl,fun W' h k => HR.out W' h (((Keep.refl _ _).setCells (by omega) 0 _).trans k (by omega)),HE3.out.setCells (by omega) 0 _⟩
set_option maxRecDepth 8000 in
theorem rexec_give {p : Prg} {t : Tsk} {f : Frm} {g : Fnc} {x : Ins} {VP VF VB : Value} {A : Option Addr} {m c : Nat} {w0 : Bs} {w : World} (h : RxIn p t f g x VP VF VB A m w0 w) (hop : x.op = 16) (ha : 0 ≤ x.a ∧ x.a < g.regs) :
  Calls Tryz.prog 71 #[VP,.agg (tskL t VF VB).toArray,.agg #[int .i64 x.op,int .i64 x.a,int .i64 x.b,int .i64 x.c,.slice A m c]] w (ResPost (giveS t f (regS f x.a)) w0 w) := by
 obtain ⟨Pf,nf,kf,Po,no,ko,Pv,nv,kv,rfl,_⟩ := h.prg.mono h.ext
 obtain ⟨Af,cf,Ab,cb,rfl,rfl,hFF,_,_,_⟩ := (h.tsk.mono h.ext).two
 have hpos : 0 < t.frames.length := by have := h.run.pos;omega
 have hle : t.frames.length ≤ 9223372036854775807 := by have := h.run.len;omega
 obtain ⟨bf,off,Ar,nr,cr,rfl,hlf,_,_,_,⟨hRR,_⟩,e0,e1,e2,e3,e4⟩ := hFF.frm (show t.frames[t.frames.length - 1]? = some f from h.top)
 obtain ⟨na,br,orr,hxa,rfl,ra,hla,hna,hia⟩ := h.regAt (k := x.a) ha hRR
 obtain ⟨va,hva⟩ : ∃ v,regS f x.a = v := ⟨_,rfl⟩
 rw [hva] at ra hna hia ⊢
 rw [hop]
 rw [hxa]
 have HC := Lib.hid (fun W (hW : Ext w W) => rgive_any h.run h.ck h.top hna _ _ w0 W h.tsk (h.ext.trans hW))
 have HF : Hid (w.rangeAt bf (off + (t.frames.length - 1) * 5) [int .i64 f.fn,int .i64 f.pc,.slice (some ⟨br,orr,none⟩) nr cr,int .i64 f.result,.bool f.cleanup]) := frm_range e0 e1 e2 e3 e4
 have hlf' : bf < w.heap.size := hlf
 have hnr : nr ≤ 9223372036854775807 := hRR.le
 have hsN : IntKind.i64.wrap ((t.frames.length : Int) - 1) = ((t.frames.length - 1 : Nat) : Int) := by rw [IntWalk.i64_in _ (by omega)];omega
 have hs1N : ((t.frames.length - 1 : Nat) : Int) < (t.frames.length : Int) := by omega
 have hs2N : (0 : Int) ≤ ((t.frames.length - 1 : Nat) : Int) := by omega
 clear h hFF hlf hRR e0 e1 e2 e3 e4 hop ha hia hva hna hxa
 unfold tskL at HC ⊢
 go_enter Tryz.func71,Tryz.ntmps71
 go_upto_region 1 with fail
 refine wp_hid2 ?_
 intro W0 HW0
 have X0 : Hid (Ext w W0) := by rw [Hid,HW0.out];exact xt
 have T0 : W0.there (w.heap.size + 1 + 1 + 1) 0 17 := by rw [HW0.out];exact tr
 have R0 : W0.rangeAt (w.heap.size + 1) 0 [int .i64 t.fn,int .i64 t.scope,int .i64 t.prio,int .i64 t.status,int .i64 t.wkind,int .i64 t.windex,.bool t.wagain,.slice (some ⟨bf,off,none⟩) t.frames.length cf,.slice Ab t.blocks.length cb,int .i64 t.mask,.bool t.unw,int .i64 t.level,int .i64 t.reason,int .i64 t.result] := by rw [HW0.out];exact rg
 have I0 : W0.rangeAt (w.heap.size + 1 + 1) 0 [int .i64 16,int .i64 (na : Int),int .i64 x.b,int .i64 x.c,.slice A m c] := by rw [HW0.out];exact rg
 have P0 : W0.rangeAt w.heap.size 0 [.slice Pf nf kf,.slice Po no ko,.slice Pv nv kv] := by rw [HW0.out];exact rg
 have F0 : W0.rangeAt bf (off + (t.frames.length - 1) * 5) [int .i64 f.fn,int .i64 f.pc,.slice (some ⟨br,orr,none⟩) nr cr,int .i64 f.result,.bool f.cleanup] := range_ext HF.out X0.out
 have hz0 : w.heap.size + 1 + 1 + 1 < W0.heap.size := by rw [HW0.out];simp
 have b7 : W0.cell? ⟨w.heap.size + 1,7,none⟩ = some (.slice (some ⟨bf,off,none⟩) t.frames.length cf) := R0 7 _ rfl
 have zb7 := lt_of_cell b7
 clear HW0
 go_upto_region 2 with (first | ((first | (with_reducible refine jl 62 ?_) | (with_reducible refine il 62 ?_));refine ldm Tryz.underlying62 rfl rfl rfl (by exact rg) rfl (by exact infoFrm5) ?_;dsimp only [dZ,dS]) | ((first | (with_reducible refine jk 62 ?_) | (with_reducible refine ik 62 ?_));refine stm rfl rfl rfl rfl (by exact tr) infoFrm5 (all_oneCell_toArray (by simp [Value.oneCell'])) ?_;(try dsimp only [Act.put])))
 refine wp_hid2 ?_
 intro W1 HW1
 have X1 : Hid (Ext W0 W1) := by rw [Hid,HW1.out];exact xts
 have G1 : W1.rangeAt W0.heap.size 0 [int .i64 f.fn,int .i64 f.pc,.slice (some ⟨br,orr,none⟩) nr cr,int .i64 f.result,.bool f.cleanup] := by rw [HW1.out];exact World.rangeAt_setCells_same _ _ 0 _ (by show World.there _ _ 0 5;exact tr)
 have T1 := there_ext T0 X1.out
 have R1 := range_ext R0 X1.out
 have I1 := range_ext I0 X1.out
 have P1 := range_ext P0 X1.out
 have E1 : Hid (Ext w W1) := X0.out.trans X1.out
 have hz1 : w.heap.size + 1 + 1 + 1 < W1.heap.size := Nat.lt_of_lt_of_le hz0 X1.out.size
 have i0 : W1.cell? ⟨w.heap.size + 1 + 1,0,none⟩ = some (int .i64 16) := I1 0 _ rfl
 have i1 : W1.cell? ⟨w.heap.size + 1 + 1,1,none⟩ = some (int .i64 (na : Int)) := I1 1 _ rfl
 have i2 : W1.cell? ⟨w.heap.size + 1 + 1,2,none⟩ = some (int .i64 x.b) := I1 2 _ rfl
 have i3 : W1.cell? ⟨w.heap.size + 1 + 1,3,none⟩ = some (int .i64 x.c) := I1 3 _ rfl
 have g1 : W1.cell? ⟨W0.heap.size,1,none⟩ = some (int .i64 f.pc) := G1 1 _ rfl
 have g2 : W1.cell? ⟨W0.heap.size,2,none⟩ = some (.slice (some ⟨br,orr,none⟩) nr cr) := G1 2 _ rfl
 have zi1 := lt_of_cell i0
 have zg1 := lt_of_cell g2
 have qa : W1.cell? ⟨br,orr + na,none⟩ = some (int .i64 va) := E1.out.cell ra
 have zqa := lt_of_cell qa
 clear HW1 T0 R0 I0 P0 F0 b7 zb7 hz0
 go_upto_region 20 with fail
 refine wp_region_th 8 (fun W' => Ext W1 W' ∧ W'.cell? ⟨w.heap.size + 1 + 1,1,none⟩ = some (int .i64 (na : Int)) ∧ W'.cell? ⟨W0.heap.size,2,none⟩ = some (.slice (some ⟨br,orr,none⟩) nr cr) ∧ W'.cell? ⟨br,orr + na,none⟩ = some (int .i64 va)) (by kernel_rfl) (by kernel_rfl) (by kernel_rfl) (by kernel_rfl) (by decide) ?_ ?_
 ·exact ⟨xt,by go_simp,by go_simp,by go_simp⟩
 intro hT hHeld
 (refine th_take (i := 0) (oi := ?oi0_24) (v := ?v0_24) hT ?hi0_24 (by decide) (by kernel_rfl) (by kernel_rfl) ?hq0_24 (Or.inl ⟨?hw0_24, ?hy0_24⟩) (by assumption) ?rest0_24;(case hi0_24 => (simp only [List.getElem?_toArray,List.getElem?_cons_zero,List.getElem?_cons_succ];rfl));(case hw0_24 => rfl);(case hy0_24 => (intro w' hSw;refine Eq.trans (exec_load_mid 32 _ (by rfl) (w.heap.size + 1) 0 (by rfl) _ _ Tryz.underlying32 (by rfl) ?hiL0_24 w' (range_ext R1 hSw.1)) ?eqL0_24;(case eqL0_24 => with_reducible rfl);exact infoTsk));(case hq0_24 => (exact fun _ _ _ h => h));(try simp only [Act.put,aset,dZ,dS]))
 (refine tht 1 hT ?_;(try simp only [Act.put,aset,dZ,dS]);refine tht 2 hT ?_;(try simp only [Act.put,aset,dZ,dS]);refine tht 3 hT ?_;(try simp only [Act.put,aset,dZ,dS]);refine tht 4 hT ?_;(try simp only [Act.put,aset,dZ,dS]);refine tht 5 hT ?_;(try simp only [Act.put,aset,dZ,dS]);refine tht 6 hT ?_;(try simp only [Act.put,aset,dZ,dS]))
 refine tst 7 (fun K hK => ?_)
 go_simp
 have HSd := Lib.hid hHeld.1.size
 have Ed : Hid (Ext w W1.drew) := E1.out.trans ((Ext.refl _).drew)
 go_at_call 69
 refine (HC.out _ (E1.out.trans hHeld.1)).mono ?_
 rintro e w3 ⟨A1,c1,A2,c2,rfl,hR,hb⟩
 have HR := Lib.hid hR
 unfold resV
 have U3 := there_ext (there_ext T1 hHeld.1) hb
 have HE3 : Hid (Ext w w3) := Ext.trans (E1.out.trans hHeld.1) hb
 have hsz := hb.size
 dsimp only
 refine hK.out _ _ ⟨hHeld.1.trans hb,hb.cell hHeld.2.1,hb.cell hHeld.2.2.1,hb.cell hHeld.2.2.2⟩ (fun hHeld2 => ?_)
 clear hR hb hHeld hHeld2
 clear hK K
 (try simp only [Act.put,aset,dZ,dS])
 refine th_done (by kernel_rfl) ?_
 simp only [List.drop_succ_cons,List.drop_zero]
 go_wp2_with ((first | (with_reducible refine jk 102 ?_) | (with_reducible refine ik 102 ?_));refine stm rfl rfl rfl rfl (by exact tr) infoRes (all_oneCell_toArray (by simp [Value.oneCell'])) ?_;(try dsimp only [Act.put]))
 refine ret_rangeR (b := w.heap.size + 1 + 1 + 1) Tryz.results71 rfl rfl ?hl (World.rangeAt_setCells_same _ _ 0 _ ?ht) ?hf
 case hl => rfl
 case ht => exact U3
 case hf => exact ⟨A1,c1,A2,c2,rfl,fun W' h k => HR.out W' h (((Keep.refl _ _).setCells (by have := HSd.out;omega) 0 _).trans k (by have := HSd.out;omega)),HE3.out.setCells (by omega) 0 _⟩
set_option maxRecDepth 8000 in
theorem rexec_assert {p : Prg} {t : Tsk} {f : Frm} {g : Fnc} {x : Ins} {VP VF VB : Value} {A : Option Addr} {m c : Nat} {w0 : Bs} {w : World} (h : RxIn p t f g x VP VF VB A m w0 w) (hop : x.op = 20) (ha : 0 ≤ x.a ∧ x.a < g.regs) :
  Calls Tryz.prog 71 #[VP,.agg (tskL t VF VB).toArray,.agg #[int .i64 x.op,int .i64 x.a,int .i64 x.b,int .i64 x.c,.slice A m c]] w (ResPost (chkS t f 20 (regS f x.a)) w0 w) := by
 obtain ⟨Pf,nf,kf,Po,no,ko,Pv,nv,kv,rfl,_⟩ := h.prg.mono h.ext
 obtain ⟨Af,cf,Ab,cb,rfl,rfl,hFF,_,_,_⟩ := (h.tsk.mono h.ext).two
 have hpos : 0 < t.frames.length := by have := h.run.pos;omega
 have hle : t.frames.length ≤ 9223372036854775807 := by have := h.run.len;omega
 obtain ⟨bf,off,Ar,nr,cr,rfl,hlf,_,_,_,⟨hRR,_⟩,e0,e1,e2,e3,e4⟩ := hFF.frm (show t.frames[t.frames.length - 1]? = some f from h.top)
 obtain ⟨na,br,orr,hxa,rfl,ra,hla,hna,hia⟩ := h.regAt (k := x.a) ha hRR
 obtain ⟨va,hva⟩ : ∃ v,regS f x.a = v := ⟨_,rfl⟩
 rw [hva] at ra hna hia ⊢
 have hck := fun W (hW : Ext w W) => h.check hna c W hW
 rw [hop,hxa] at hck
 rw [hop]
 rw [hxa]
 have HC := Lib.hid (hck)
 have HF : Hid (w.rangeAt bf (off + (t.frames.length - 1) * 5) [int .i64 f.fn,int .i64 f.pc,.slice (some ⟨br,orr,none⟩) nr cr,int .i64 f.result,.bool f.cleanup]) := frm_range e0 e1 e2 e3 e4
 have hlf' : bf < w.heap.size := hlf
 have hnr : nr ≤ 9223372036854775807 := hRR.le
 have hsN : IntKind.i64.wrap ((t.frames.length : Int) - 1) = ((t.frames.length - 1 : Nat) : Int) := by rw [IntWalk.i64_in _ (by omega)];omega
 have hs1N : ((t.frames.length - 1 : Nat) : Int) < (t.frames.length : Int) := by omega
 have hs2N : (0 : Int) ≤ ((t.frames.length - 1 : Nat) : Int) := by omega
 clear h hFF hlf hRR e0 e1 e2 e3 e4 hop ha hia hva hna hxa hck
 unfold tskL at HC ⊢
 go_enter Tryz.func71,Tryz.ntmps71
 go_upto_region 1 with fail
 refine wp_hid2 ?_
 intro W0 HW0
 have X0 : Hid (Ext w W0) := by rw [Hid,HW0.out];exact xt
 have T0 : W0.there (w.heap.size + 1 + 1 + 1) 0 17 := by rw [HW0.out];exact tr
 have R0 : W0.rangeAt (w.heap.size + 1) 0 [int .i64 t.fn,int .i64 t.scope,int .i64 t.prio,int .i64 t.status,int .i64 t.wkind,int .i64 t.windex,.bool t.wagain,.slice (some ⟨bf,off,none⟩) t.frames.length cf,.slice Ab t.blocks.length cb,int .i64 t.mask,.bool t.unw,int .i64 t.level,int .i64 t.reason,int .i64 t.result] := by rw [HW0.out];exact rg
 have I0 : W0.rangeAt (w.heap.size + 1 + 1) 0 [int .i64 20,int .i64 (na : Int),int .i64 x.b,int .i64 x.c,.slice A m c] := by rw [HW0.out];exact rg
 have P0 : W0.rangeAt w.heap.size 0 [.slice Pf nf kf,.slice Po no ko,.slice Pv nv kv] := by rw [HW0.out];exact rg
 have F0 : W0.rangeAt bf (off + (t.frames.length - 1) * 5) [int .i64 f.fn,int .i64 f.pc,.slice (some ⟨br,orr,none⟩) nr cr,int .i64 f.result,.bool f.cleanup] := range_ext HF.out X0.out
 have hz0 : w.heap.size + 1 + 1 + 1 < W0.heap.size := by rw [HW0.out];simp
 have b7 : W0.cell? ⟨w.heap.size + 1,7,none⟩ = some (.slice (some ⟨bf,off,none⟩) t.frames.length cf) := R0 7 _ rfl
 have zb7 := lt_of_cell b7
 clear HW0
 go_upto_region 2 with (first | ((first | (with_reducible refine jl 62 ?_) | (with_reducible refine il 62 ?_));refine ldm Tryz.underlying62 rfl rfl rfl (by exact rg) rfl (by exact infoFrm5) ?_;dsimp only [dZ,dS]) | ((first | (with_reducible refine jk 62 ?_) | (with_reducible refine ik 62 ?_));refine stm rfl rfl rfl rfl (by exact tr) infoFrm5 (all_oneCell_toArray (by simp [Value.oneCell'])) ?_;(try dsimp only [Act.put])))
 refine wp_hid2 ?_
 intro W1 HW1
 have X1 : Hid (Ext W0 W1) := by rw [Hid,HW1.out];exact xts
 have G1 : W1.rangeAt W0.heap.size 0 [int .i64 f.fn,int .i64 f.pc,.slice (some ⟨br,orr,none⟩) nr cr,int .i64 f.result,.bool f.cleanup] := by rw [HW1.out];exact World.rangeAt_setCells_same _ _ 0 _ (by show World.there _ _ 0 5;exact tr)
 have T1 := there_ext T0 X1.out
 have R1 := range_ext R0 X1.out
 have I1 := range_ext I0 X1.out
 have P1 := range_ext P0 X1.out
 have E1 : Hid (Ext w W1) := X0.out.trans X1.out
 have hz1 : w.heap.size + 1 + 1 + 1 < W1.heap.size := Nat.lt_of_lt_of_le hz0 X1.out.size
 have i0 : W1.cell? ⟨w.heap.size + 1 + 1,0,none⟩ = some (int .i64 20) := I1 0 _ rfl
 have i1 : W1.cell? ⟨w.heap.size + 1 + 1,1,none⟩ = some (int .i64 (na : Int)) := I1 1 _ rfl
 have i2 : W1.cell? ⟨w.heap.size + 1 + 1,2,none⟩ = some (int .i64 x.b) := I1 2 _ rfl
 have i3 : W1.cell? ⟨w.heap.size + 1 + 1,3,none⟩ = some (int .i64 x.c) := I1 3 _ rfl
 have g1 : W1.cell? ⟨W0.heap.size,1,none⟩ = some (int .i64 f.pc) := G1 1 _ rfl
 have g2 : W1.cell? ⟨W0.heap.size,2,none⟩ = some (.slice (some ⟨br,orr,none⟩) nr cr) := G1 2 _ rfl
 have zi1 := lt_of_cell i0
 have zg1 := lt_of_cell g2
 have qa : W1.cell? ⟨br,orr + na,none⟩ = some (int .i64 va) := E1.out.cell ra
 have zqa := lt_of_cell qa
 clear HW1 T0 R0 I0 P0 F0 b7 zb7 hz0
 go_upto_region 25 with fail
 refine wp_region_th 9 (fun W' => Ext W1 W' ∧ W'.cell? ⟨w.heap.size + 1 + 1,1,none⟩ = some (int .i64 (na : Int)) ∧ W'.cell? ⟨W0.heap.size,2,none⟩ = some (.slice (some ⟨br,orr,none⟩) nr cr) ∧ W'.cell? ⟨br,orr + na,none⟩ = some (int .i64 va)) (by kernel_rfl) (by kernel_rfl) (by kernel_rfl) (by kernel_rfl) (by decide) ?_ ?_
 ·exact ⟨xt,by go_simp,by go_simp,by go_simp⟩
 intro hT hHeld
 (refine th_take (i := 0) (oi := ?oi0_25) (v := ?v0_25) hT ?hi0_25 (by decide) (by kernel_rfl) (by kernel_rfl) ?hq0_25 (Or.inl ⟨?hw0_25, ?hy0_25⟩) (by assumption) ?rest0_25;(case hi0_25 => (simp only [List.getElem?_toArray,List.getElem?_cons_zero,List.getElem?_cons_succ];rfl));(case hw0_25 => rfl);(case hy0_25 => (intro w' hSw;refine Eq.trans (exec_load_mid 32 _ (by rfl) (w.heap.size + 1) 0 (by rfl) _ _ Tryz.underlying32 (by rfl) ?hiL0_25 w' (range_ext R1 hSw.1)) ?eqL0_25;(case eqL0_25 => with_reducible rfl);exact infoTsk));(case hq0_25 => (exact fun _ _ _ h => h));(try simp only [Act.put,aset,dZ,dS]))
 (refine th_take (i := 1) (oi := ?oi1_26) (v := ?v1_26) hT ?hi1_26 (by decide) (by kernel_rfl) (by kernel_rfl) ?hq1_26 (Or.inl ⟨?hw1_26, ?hy1_26⟩) (by assumption) ?rest1_26;(case hi1_26 => (simp only [List.getElem?_toArray,List.getElem?_cons_zero,List.getElem?_cons_succ];rfl));(case hw1_26 => rfl);(case hy1_26 => (intro w' hSw;refine Eq.trans (exec_load_mid 37 _ (by rfl) (w.heap.size + 1 + 1) 0 (by rfl) _ _ Tryz.underlying37 (by rfl) ?hiL1_26 w' (range_ext I1 hSw.1)) ?eqL1_26;(case eqL1_26 => with_reducible rfl);exact infoInsR));(case hq1_26 => (exact fun _ _ _ h => h));(try simp only [Act.put,aset,dZ,dS]))
 (refine tht 2 hT ?_;(try simp only [Act.put,aset,dZ,dS]);refine tht 3 hT ?_;(try simp only [Act.put,aset,dZ,dS]);refine tht 4 hT ?_;(try simp only [Act.put,aset,dZ,dS]);refine tht 5 hT ?_;(try simp only [Act.put,aset,dZ,dS]);refine tht 6 hT ?_;(try simp only [Act.put,aset,dZ,dS]);refine tht 7 hT ?_;(try simp only [Act.put,aset,dZ,dS]))
 refine tst 8 (fun K hK => ?_)
 go_simp
 have HSd := Lib.hid hHeld.1.size
 have Ed : Hid (Ext w W1.drew) := E1.out.trans ((Ext.refl _).drew)
 go_at_call 101
 refine (HC.out _ (E1.out.trans hHeld.1)).mono ?_
 rintro e w3 ⟨A1,c1,A2,c2,rfl,hR,hb⟩
 have HR := Lib.hid hR
 unfold resV
 have U3 := there_ext (there_ext T1 hHeld.1) hb
 have HE3 : Hid (Ext w w3) := Ext.trans (E1.out.trans hHeld.1) hb
 have hsz := hb.size
 dsimp only
 refine hK.out _ _ ⟨hHeld.1.trans hb,hb.cell hHeld.2.1,hb.cell hHeld.2.2.1,hb.cell hHeld.2.2.2⟩ (fun hHeld2 => ?_)
 clear hR hb hHeld hHeld2
 clear hK K
 (try simp only [Act.put,aset,dZ,dS])
 refine th_done (by kernel_rfl) ?_
 simp only [List.drop_succ_cons,List.drop_zero]
 go_wp2_with ((first | (with_reducible refine jk 102 ?_) | (with_reducible refine ik 102 ?_));refine stm rfl rfl rfl rfl (by exact tr) infoRes (all_oneCell_toArray (by simp [Value.oneCell'])) ?_;(try dsimp only [Act.put]))
 refine ret_rangeR (b := w.heap.size + 1 + 1 + 1) Tryz.results71 rfl rfl ?hl (World.rangeAt_setCells_same _ _ 0 _ ?ht) ?hf
 case hl => rfl
 case ht => exact U3
 case hf => exact ⟨A1,c1,A2,c2,rfl,fun W' h k => HR.out W' h (((Keep.refl _ _).setCells (by have := HSd.out;omega) 0 _).trans k (by have := HSd.out;omega)),HE3.out.setCells (by omega) 0 _⟩
set_option maxRecDepth 8000 in
theorem rexec_fail {p : Prg} {t : Tsk} {f : Frm} {g : Fnc} {x : Ins} {VP VF VB : Value} {A : Option Addr} {m c : Nat} {w0 : Bs} {w : World} (h : RxIn p t f g x VP VF VB A m w0 w) (hop : x.op = 21) (ha : 0 ≤ x.a ∧ x.a < g.regs) :
  Calls Tryz.prog 71 #[VP,.agg (tskL t VF VB).toArray,.agg #[int .i64 x.op,int .i64 x.a,int .i64 x.b,int .i64 x.c,.slice A m c]] w (ResPost (chkS t f 21 (regS f x.a)) w0 w) := by
 obtain ⟨Pf,nf,kf,Po,no,ko,Pv,nv,kv,rfl,_⟩ := h.prg.mono h.ext
 obtain ⟨Af,cf,Ab,cb,rfl,rfl,hFF,_,_,_⟩ := (h.tsk.mono h.ext).two
 have hpos : 0 < t.frames.length := by have := h.run.pos;omega
 have hle : t.frames.length ≤ 9223372036854775807 := by have := h.run.len;omega
 obtain ⟨bf,off,Ar,nr,cr,rfl,hlf,_,_,_,⟨hRR,_⟩,e0,e1,e2,e3,e4⟩ := hFF.frm (show t.frames[t.frames.length - 1]? = some f from h.top)
 obtain ⟨na,br,orr,hxa,rfl,ra,hla,hna,hia⟩ := h.regAt (k := x.a) ha hRR
 obtain ⟨va,hva⟩ : ∃ v,regS f x.a = v := ⟨_,rfl⟩
 rw [hva] at ra hna hia ⊢
 have hck := fun W (hW : Ext w W) => h.check hna c W hW
 rw [hop,hxa] at hck
 rw [hop]
 rw [hxa]
 have HC := Lib.hid (hck)
 have HF : Hid (w.rangeAt bf (off + (t.frames.length - 1) * 5) [int .i64 f.fn,int .i64 f.pc,.slice (some ⟨br,orr,none⟩) nr cr,int .i64 f.result,.bool f.cleanup]) := frm_range e0 e1 e2 e3 e4
 have hlf' : bf < w.heap.size := hlf
 have hnr : nr ≤ 9223372036854775807 := hRR.le
 have hsN : IntKind.i64.wrap ((t.frames.length : Int) - 1) = ((t.frames.length - 1 : Nat) : Int) := by rw [IntWalk.i64_in _ (by omega)];omega
 have hs1N : ((t.frames.length - 1 : Nat) : Int) < (t.frames.length : Int) := by omega
 have hs2N : (0 : Int) ≤ ((t.frames.length - 1 : Nat) : Int) := by omega
 clear h hFF hlf hRR e0 e1 e2 e3 e4 hop ha hia hva hna hxa hck
 unfold tskL at HC ⊢
 go_enter Tryz.func71,Tryz.ntmps71
 go_upto_region 1 with fail
 refine wp_hid2 ?_
 intro W0 HW0
 have X0 : Hid (Ext w W0) := by rw [Hid,HW0.out];exact xt
 have T0 : W0.there (w.heap.size + 1 + 1 + 1) 0 17 := by rw [HW0.out];exact tr
 have R0 : W0.rangeAt (w.heap.size + 1) 0 [int .i64 t.fn,int .i64 t.scope,int .i64 t.prio,int .i64 t.status,int .i64 t.wkind,int .i64 t.windex,.bool t.wagain,.slice (some ⟨bf,off,none⟩) t.frames.length cf,.slice Ab t.blocks.length cb,int .i64 t.mask,.bool t.unw,int .i64 t.level,int .i64 t.reason,int .i64 t.result] := by rw [HW0.out];exact rg
 have I0 : W0.rangeAt (w.heap.size + 1 + 1) 0 [int .i64 21,int .i64 (na : Int),int .i64 x.b,int .i64 x.c,.slice A m c] := by rw [HW0.out];exact rg
 have P0 : W0.rangeAt w.heap.size 0 [.slice Pf nf kf,.slice Po no ko,.slice Pv nv kv] := by rw [HW0.out];exact rg
 have F0 : W0.rangeAt bf (off + (t.frames.length - 1) * 5) [int .i64 f.fn,int .i64 f.pc,.slice (some ⟨br,orr,none⟩) nr cr,int .i64 f.result,.bool f.cleanup] := range_ext HF.out X0.out
 have hz0 : w.heap.size + 1 + 1 + 1 < W0.heap.size := by rw [HW0.out];simp
 have b7 : W0.cell? ⟨w.heap.size + 1,7,none⟩ = some (.slice (some ⟨bf,off,none⟩) t.frames.length cf) := R0 7 _ rfl
 have zb7 := lt_of_cell b7
 clear HW0
 go_upto_region 2 with (first | ((first | (with_reducible refine jl 62 ?_) | (with_reducible refine il 62 ?_));refine ldm Tryz.underlying62 rfl rfl rfl (by exact rg) rfl (by exact infoFrm5) ?_;dsimp only [dZ,dS]) | ((first | (with_reducible refine jk 62 ?_) | (with_reducible refine ik 62 ?_));refine stm rfl rfl rfl rfl (by exact tr) infoFrm5 (all_oneCell_toArray (by simp [Value.oneCell'])) ?_;(try dsimp only [Act.put])))
 refine wp_hid2 ?_
 intro W1 HW1
 have X1 : Hid (Ext W0 W1) := by rw [Hid,HW1.out];exact xts
 have G1 : W1.rangeAt W0.heap.size 0 [int .i64 f.fn,int .i64 f.pc,.slice (some ⟨br,orr,none⟩) nr cr,int .i64 f.result,.bool f.cleanup] := by rw [HW1.out];exact World.rangeAt_setCells_same _ _ 0 _ (by show World.there _ _ 0 5;exact tr)
 have T1 := there_ext T0 X1.out
 have R1 := range_ext R0 X1.out
 have I1 := range_ext I0 X1.out
 have P1 := range_ext P0 X1.out
 have E1 : Hid (Ext w W1) := X0.out.trans X1.out
 have hz1 : w.heap.size + 1 + 1 + 1 < W1.heap.size := Nat.lt_of_lt_of_le hz0 X1.out.size
 have i0 : W1.cell? ⟨w.heap.size + 1 + 1,0,none⟩ = some (int .i64 21) := I1 0 _ rfl
 have i1 : W1.cell? ⟨w.heap.size + 1 + 1,1,none⟩ = some (int .i64 (na : Int)) := I1 1 _ rfl
 have i2 : W1.cell? ⟨w.heap.size + 1 + 1,2,none⟩ = some (int .i64 x.b) := I1 2 _ rfl
 have i3 : W1.cell? ⟨w.heap.size + 1 + 1,3,none⟩ = some (int .i64 x.c) := I1 3 _ rfl
 have g1 : W1.cell? ⟨W0.heap.size,1,none⟩ = some (int .i64 f.pc) := G1 1 _ rfl
 have g2 : W1.cell? ⟨W0.heap.size,2,none⟩ = some (.slice (some ⟨br,orr,none⟩) nr cr) := G1 2 _ rfl
 have zi1 := lt_of_cell i0
 have zg1 := lt_of_cell g2
 have qa : W1.cell? ⟨br,orr + na,none⟩ = some (int .i64 va) := E1.out.cell ra
 have zqa := lt_of_cell qa
 clear HW1 T0 R0 I0 P0 F0 b7 zb7 hz0
 go_upto_region 25 with fail
 refine wp_region_th 9 (fun W' => Ext W1 W' ∧ W'.cell? ⟨w.heap.size + 1 + 1,1,none⟩ = some (int .i64 (na : Int)) ∧ W'.cell? ⟨W0.heap.size,2,none⟩ = some (.slice (some ⟨br,orr,none⟩) nr cr) ∧ W'.cell? ⟨br,orr + na,none⟩ = some (int .i64 va)) (by kernel_rfl) (by kernel_rfl) (by kernel_rfl) (by kernel_rfl) (by decide) ?_ ?_
 ·exact ⟨xt,by go_simp,by go_simp,by go_simp⟩
 intro hT hHeld
 (refine th_take (i := 0) (oi := ?oi0_27) (v := ?v0_27) hT ?hi0_27 (by decide) (by kernel_rfl) (by kernel_rfl) ?hq0_27 (Or.inl ⟨?hw0_27, ?hy0_27⟩) (by assumption) ?rest0_27;(case hi0_27 => (simp only [List.getElem?_toArray,List.getElem?_cons_zero,List.getElem?_cons_succ];rfl));(case hw0_27 => rfl);(case hy0_27 => (intro w' hSw;refine Eq.trans (exec_load_mid 32 _ (by rfl) (w.heap.size + 1) 0 (by rfl) _ _ Tryz.underlying32 (by rfl) ?hiL0_27 w' (range_ext R1 hSw.1)) ?eqL0_27;(case eqL0_27 => with_reducible rfl);exact infoTsk));(case hq0_27 => (exact fun _ _ _ h => h));(try simp only [Act.put,aset,dZ,dS]))
 (refine th_take (i := 1) (oi := ?oi1_28) (v := ?v1_28) hT ?hi1_28 (by decide) (by kernel_rfl) (by kernel_rfl) ?hq1_28 (Or.inl ⟨?hw1_28, ?hy1_28⟩) (by assumption) ?rest1_28;(case hi1_28 => (simp only [List.getElem?_toArray,List.getElem?_cons_zero,List.getElem?_cons_succ];rfl));(case hw1_28 => rfl);(case hy1_28 => (intro w' hSw;refine Eq.trans (exec_load_mid 37 _ (by rfl) (w.heap.size + 1 + 1) 0 (by rfl) _ _ Tryz.underlying37 (by rfl) ?hiL1_28 w' (range_ext I1 hSw.1)) ?eqL1_28;(case eqL1_28 => with_reducible rfl);exact infoInsR));(case hq1_28 => (exact fun _ _ _ h => h));(try simp only [Act.put,aset,dZ,dS]))
 (refine tht 2 hT ?_;(try simp only [Act.put,aset,dZ,dS]);refine tht 3 hT ?_;(try simp only [Act.put,aset,dZ,dS]);refine tht 4 hT ?_;(try simp only [Act.put,aset,dZ,dS]);refine tht 5 hT ?_;(try simp only [Act.put,aset,dZ,dS]);refine tht 6 hT ?_;(try simp only [Act.put,aset,dZ,dS]);refine tht 7 hT ?_;(try simp only [Act.put,aset,dZ,dS]))
 refine tst 8 (fun K hK => ?_)
 go_simp
 have HSd := Lib.hid hHeld.1.size
 have Ed : Hid (Ext w W1.drew) := E1.out.trans ((Ext.refl _).drew)
 go_at_call 101
 refine (HC.out _ (E1.out.trans hHeld.1)).mono ?_
 rintro e w3 ⟨A1,c1,A2,c2,rfl,hR,hb⟩
 have HR := Lib.hid hR
 unfold resV
 have U3 := there_ext (there_ext T1 hHeld.1) hb
 have HE3 : Hid (Ext w w3) := Ext.trans (E1.out.trans hHeld.1) hb
 have hsz := hb.size
 dsimp only
 refine hK.out _ _ ⟨hHeld.1.trans hb,hb.cell hHeld.2.1,hb.cell hHeld.2.2.1,hb.cell hHeld.2.2.2⟩ (fun hHeld2 => ?_)
 clear hR hb hHeld hHeld2
 clear hK K
 (try simp only [Act.put,aset,dZ,dS])
 refine th_done (by kernel_rfl) ?_
 simp only [List.drop_succ_cons,List.drop_zero]
 go_wp2_with ((first | (with_reducible refine jk 102 ?_) | (with_reducible refine ik 102 ?_));refine stm rfl rfl rfl rfl (by exact tr) infoRes (all_oneCell_toArray (by simp [Value.oneCell'])) ?_;(try dsimp only [Act.put]))
 refine ret_rangeR (b := w.heap.size + 1 + 1 + 1) Tryz.results71 rfl rfl ?hl (World.rangeAt_setCells_same _ _ 0 _ ?ht) ?hf
 case hl => rfl
 case ht => exact U3
 case hf => exact ⟨A1,c1,A2,c2,rfl,fun W' h k => HR.out W' h (((Keep.refl _ _).setCells (by have := HSd.out;omega) 0 _).trans k (by have := HSd.out;omega)),HE3.out.setCells (by omega) 0 _⟩
end Go.Proofs.YtcjjoabofecjmaaGreat

