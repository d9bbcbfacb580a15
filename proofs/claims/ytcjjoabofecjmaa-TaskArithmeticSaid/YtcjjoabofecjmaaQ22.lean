/- A part of the proof: The operation that calls, where there is room; The operation. -/
import Derived.Test.YtcjjoabofecjmaaQ20
set_option linter.unusedVariables false
set_option linter.unusedSimpArgs false
set_option maxHeartbeats 16000000
namespace Go.Proofs.Ytcjjoabofecjmaa
open Go.RowKit Go.Sort
open Go.Value (int)
theorem RSl.of_row {W : World} {C : Nat} {A : Option Addr} {n c : Nat} {xs : List Int} (h : W.ownsRow C 3 1 (.slice A n c) n (xs.map (Value.int .i64))) (hl : n = xs.length) (hn : n ≤ 1000) (hi : ∀ x ∈ xs,InR x) : RSl 1 RInt W A n xs := by
 subst hl
 obtain ⟨A2,n2,c2,e,h2,_⟩ := RArgs.of_row h hn hi
 injection e with q1 q2 q3
 subst q1 q2
 exact h2
set_option maxRecDepth 8000 in
theorem op_call_ok {p : Prg} {X : List Value} {B R : Nat} {P3 : List Value} {w : World} {t : Tsk} {n : Int} {VF VB : Value} {rs hs : List Value} {gs : List (List Value)} (h : RunSt X B R P3 w t n VF VB rs hs gs) (hr : RunOk p t) (hc : checkS p = 0) (hN : NumIn t) (u : World) (hu : Ext u w) (huB : u.heap.size ≤ B) (hP : RPrg u p (.agg P3.toArray)) {f : Frm} {g : Fnc} (hf : topF t = some f) (hg : FrOk p f g) (hpc : f.pc < g.code.length) (hcl : f.cleanup = false)
  (x : Ins) (A : Option Addr) (m c : Nat) (hx : RSl 1 RInt u A m x.args) (ha : 0 ≤ x.a ∧ x.a < g.regs) (kf : Fnc) (hk : fnAt p x.b = some kf) (hal : (x.args.length : Int) ≤ kf.regs) (har : ∀ a ∈ x.args,0 ≤ a ∧ a < g.regs) (h8 : ¬ 8 ≤ plainN t) :
  Calls Try.prog 72 #[.pointer (some ⟨R,0,none⟩),.agg #[int .i64 x.op,int .i64 x.a,int .i64 x.b,int .i64 x.c,.slice A m c]] w (OpPost X B R P3 w (callS p t f x) n) := by
 have ht := hr.topOk hc hf
 have hgo := fn_ok hc (fnAt_mem hg.fn)
 have hko := fn_ok hc (fnAt_mem hk)
 have hR : callS p t f x = ({ t with frames := t.frames.set (t.frames.length - 1) { f with pc := f.pc + 1 } ++ [⟨x.b,0,regsOf kf.regs.toNat (argsOf f x.args),x.a,false⟩] },goOn) := by unfold callS;rw [if_neg h8,hk]
 rw [hR]
 have hlR := h.lt.2
 have hBR := h.lt.1
 have hBW : B ≤ w.heap.size := by have := h.lt;omega
 have hin := inHand_top hf
 rw [hcl] at hin
 have HH := Lib.hid (fun W (hE : Ext w W) => handles_any t _ W ((h.mono hE).rtsk hN (hr.wk hc)))
 rw [hin] at HH
 have hml := hx.len
 have hp1 := hko.par
 have hp2 := hko.reg
 have hp3 := hgo.reg
 have hfr := hg.regs
 have hm : m ≤ 32 := by omega
 have HAr := Lib.hid (fun W (hE : Ext w W) => arguments_any (h.mono hE) ht x A m c (hx.mono RInt.stays (hu.trans hE)) (by omega) (fun a h1 => ⟨(har a h1).1,by have := (har a h1).2;omega⟩))
 have HAI : Hid (∀ z ∈ argsOf f x.args,InR z) := fun z hz => by
  unfold argsOf at hz
  obtain ⟨a,ha',rfl⟩ := List.mem_map.1 hz
  exact num_in (regS_num hg (har a ha'))
 have HAL : Hid (m = (argsOf f x.args).length) := by rw [Hid,hml];simp [argsOf]
 obtain ⟨Af,nf,cf,Ao,no,co,Av,nv,cv,e3,hF,_⟩ := hP
 have eP : P3 = [.slice Af nf cf,.slice Ao no co,.slice Av nv cv] := by
  injection e3 with e3
  have := congrArg Array.toList e3
  simpa using this
 subst eP
 obtain ⟨k0,k1,k2⟩ := fnAt_some hk
 obtain ⟨b,off,Ac,nc,cc,rfl,hlb,_,i1,i2,i3,⟨_,_⟩,q0,q1,q2,q3,q4,q5⟩ := hF.fnc k2
 obtain ⟨kb,hkb⟩ : ∃ kb : Nat,x.b = (kb : Int) := ⟨x.b.toNat,by omega⟩
 obtain ⟨N2,hN2⟩ : ∃ N2 : Nat,kf.regs = (N2 : Int) := ⟨kf.regs.toNat,by omega⟩
 have hkl : (kb : Int) < (nf : Int) := by have := hF.len;omega
 have hnfl := hF.le
 rw [hkb,Int.toNat_natCast] at q0 q1 q2 q3 q4 q5
 rw [hN2] at q2 ⊢
 rw [Int.toNat_natCast]
 have HL2 : Hid (N2 ≤ 32) := by rw [Hid];omega
 have HLe : Hid ((argsOf f x.args).length ≤ N2) := by rw [Hid,← HAL.out];omega
 have R1 := h.task
 have m0 : w.cell? ⟨R,0,none⟩ = some (.slice (some ⟨b,off,none⟩) nf cf) := h.cellP (j := 0) rfl
 have m1 : w.cell? ⟨R,10,none⟩ = some VF := h.cellT (j := 7) rfl
 obtain ⟨gF,cF,v',rfl,hv,hpos,hgF,⟨Av',cv',rfl,hcv⟩,c0,c1,c2,c3,c4⟩ := h.top hf
 obtain ⟨g2,c2',e2,hB2,z2,_,_⟩ := h.set_pc hf
 cases e2
 have hcF : t.frames.length ≤ cF := by
  obtain ⟨A9,cF',e9,hcF,_⟩ := ownsRow_shape h.fr.row
  injection e9 with q1 q2 q3
  omega
 have hneR2 : ¬ gF = R := fun e => by
  have := apart_types h.fr.row h.box (by decide)
  subst e
  rcases this with h | h
  ·cases h
  ·exact h rfl
 have hneR4 : ¬ R = gF := fun e => hneR2 e.symm
 have hneb : ¬ gF = b := fun e => by omega
 replace hlb := Nat.lt_of_lt_of_le hlb hu.size
 replace q0 := hu.cell q0
 replace q1 := hu.cell q1
 replace q2 := hu.cell q2
 replace q3 := hu.cell q3
 replace q4 := hu.cell q4
 replace q5 := hu.cell q5
 have hneb4 : ¬ b = gF := fun e => hneb e.symm
 have H := Lib.hid h
 have HT := Lib.hid hf
 have hpc1 := hg.pc
 have hlen2 := hgo.len
 have hwr : IntKind.i64.wrap (f.pc + 1) = f.pc + 1 := IntWalk.i64_in _ (by omega)
 have HPc : Hid (InR (f.pc + 1)) := ⟨by omega,by omega⟩
 have hle := hr.len
 have h8N : ¬ (8 : Int) ≤ (t.frames.length : Int) := by unfold plainN at h8;rw [hin] at h8;simp at h8;omega
 have HIA : Hid (InR x.a) := ⟨by omega,by omega⟩
 have HIB : Hid (InR x.b) := ⟨by omega,by omega⟩
 rw [hkb] at HIB ⊢
 rw [hkb] at HAr
 unfold tskL at R1 HH
 clear h hR hr hc hf hcl h8 hin hN hv ht hgo hko hg hx har hF e3 hk k0 k1 k2 hkb hN2 hu huB hal ha hp1 hp2 hp3 hfr hml i1 i2 i3 hlen2
 obtain ⟨N,hN⟩ : ∃ N,t.frames.length = N := ⟨_,rfl⟩
 have HN := Lib.hid hN
 rw [hN] at R1 m1 HH h8N hle c0 c1 c2 c3 c4 hpos z2 hcF
 clear hN
 go_enter Try.func72,Try.ntmps72
 go_wp2_with (first | ((first | (with_reducible refine jl 44 ?_) | (with_reducible refine il 44 ?_));refine ldm Try.underlying44 rfl rfl rfl (by exact rg) rfl (by exact infoTsk) ?_;dsimp only [dZ,dS]) | (go_at_call 17;refine (HH.out _ xt).mono ?_;rintro e w1 ⟨rfl,hb⟩;obtain ⟨hc,hf,hs,he⟩ := Ext.use (w := w) hb xt;clear hb;(try simp only [sA,sC,sD,sN] at hs)) | (go_at_call 91;refine (HAr.out _ xt).mono ?_;rintro e w2 ⟨ga,rfl,hga,hown,hb2⟩;have k1 := hb2.cell (p := ⟨w.heap.size,1,none⟩) (v := int .i64 x.a) (by simp [go_sem, *]);have k2 := hb2.cell (p := ⟨w.heap.size,2,none⟩) (v := int .i64 (kb : Int)) (by simp [go_sem, *]);have HO2 := Lib.hid hown;obtain ⟨hc2,hf2,hs2,he2⟩ := Ext.use (w := w) hb2 xt;clear hb2 hown;(try simp only [World.size_alloc] at hs2 hga);have R2 := range_ext R1 he2;have hgF2 : gF < w2.heap.size := (by omega)) | (go_at_call 29;refine (innermost_any _ _ _ _ _ _ _ _ _ _ _ _ _ gF 0 N cF _ hpos (by omega)).mono ?_;rintro e w3 ⟨rfl,hb3⟩;obtain ⟨hc3,hf3,hs3,he3⟩ := Ext.use (w := w2) hb3 xt;have he33 := Ext.trans he2 he3;have d1 := he33.cell c1;have dz : w3.frozen? ⟨gF,(N - 1) * 5 + 1,none⟩ = false := (by rw [Below.frozen he33 (show gF < w.heap.size from hgF)];exact z2);clear hb3))
 refine wp_hid2 ?_
 intro W4 HW4
 have HE3 := Lib.hid he33
 have h3 := H.out.mono he33
 obtain ⟨h4,hB4⟩ := h3.jump HT.out rfl HPc.out
 rw [HN.out,← HW4.out] at h4
 have HK4 : Hid (Kept B w W4) := by rw [Hid,HW4.out];exact Kept.store (Kept.mono he33 hBW) hB4 _ (by rw [← HW4.out];exact h4.hotF rfl)
 have hs4 : w3.heap.size = W4.heap.size := by rw [HW4.out,World.size_setCell]
 have far : ∀ {b o : Nat} {v : Value},w3.cell? ⟨b,o,none⟩ = some v → ¬ gF = b → W4.cell? ⟨b,o,none⟩ = some v := fun {b o v} h1 h2 => by
  rw [HW4.out,cell?_setCell_if,if_neg (fun e => h2 e.1)];exact h1
 have s0 := far (he33.cell m0) hneR2
 have s1 : W4.cell? ⟨R,10,none⟩ = some (.slice (some ⟨gF,0,none⟩) N cF) := far (he33.cell m1) hneR2
 have s2 := far (he3.cell k1) (by omega)
 have s3 := far (he3.cell k2) (by omega)
 have s4 := far (he33.cell q0) hneb
 have s5 := far (he33.cell q1) hneb
 have s6 := far (he33.cell q2) hneb
 have s7 := far (he33.cell q3) hneb
 have s8 := far (he33.cell q4) hneb
 have s9 := far (he33.cell q5) hneb
 have HO4 : Hid (W4.ownsRow (w1.heap.size + 1) 3 1 (.slice (some ⟨ga,0,none⟩) m m) m ((argsOf f x.args).map (int .i64))) := by
  rw [Hid,HW4.out];exact own_setCell (ownsRow_ext HO2.out he3) (show gF < w1.heap.size + 1 by omega)
 have zR : R < W4.heap.size := lt_of_cell s0
 have zb : b < W4.heap.size := lt_of_cell s4
 have zw : w.heap.size < W4.heap.size := lt_of_cell s2
 have zF : gF < W4.heap.size := by omega
 have H4 := Lib.hid h4
 have hr4 := h4.frozen 10
 clear h3 h4 HW4 hc hf hs he hc2 hf2 hs2 he2 hc3 hf3 hs3 he3 he33 d1 dz far R1 R2 c0 c1 c2 c3 c4 m0 m1 q0 q1 q2 q3 q4 q5 k1 k2 z2 HO2
 have HRS := Lib.hid (RSl.of_row HO4.out HAL.out (by omega) HAI.out)
 refine wp_region_th 24 (fun W' => W'.cell? ⟨R,0,none⟩ = some (.slice (some ⟨b,off,none⟩) nf cf) ∧ W'.cell? ⟨R,10,none⟩ = some (.slice (some ⟨gF,0,none⟩) N cF) ∧ W'.cell? ⟨w.heap.size,1,none⟩ = some (int .i64 x.a) ∧ W'.cell? ⟨w.heap.size,2,none⟩ = some (int .i64 (kb : Int)) ∧ W'.cell? ⟨b,off + kb * 6,none⟩ = some (.string kf.name) ∧ W'.cell? ⟨b,off + kb * 6 + 1,none⟩ = some (int .i64 kf.params) ∧ W'.cell? ⟨b,off + kb * 6 + 2,none⟩ = some (int .i64 (N2 : Int)) ∧ W'.cell? ⟨b,off + kb * 6 + 3,none⟩ = some (int .i64 kf.prio) ∧ W'.cell? ⟨b,off + kb * 6 + 4,none⟩ = some (.bool kf.cleanup) ∧ W'.cell? ⟨b,off + kb * 6 + 5,none⟩ = some (.slice Ac nc cc)) (by kernel_rfl) (by kernel_rfl) (by kernel_rfl) (by kernel_rfl) (by decide) ?_ ?_
 ·(repeat' (with_reducible apply And.intro)) <;> go_simp
 intro hT hHeld
 (refine tht 0 hT ?_;(try simp only [Act.put,aset,dZ,dS]);refine tht 1 hT ?_;(try simp only [Act.put,aset,dZ,dS]);refine tht 2 hT ?_;(try simp only [Act.put,aset,dZ,dS]);refine tht 3 hT ?_;(try simp only [Act.put,aset,dZ,dS]);refine tht 4 hT ?_;(try simp only [Act.put,aset,dZ,dS]);refine tht 5 hT ?_;(try simp only [Act.put,aset,dZ,dS]);refine tht 6 hT ?_;(try simp only [Act.put,aset,dZ,dS]);refine tht 7 hT ?_;(try simp only [Act.put,aset,dZ,dS]);refine tht 8 hT ?_;(try simp only [Act.put,aset,dZ,dS]);refine tht 9 hT ?_;(try simp only [Act.put,aset,dZ,dS]);refine tht 10 hT ?_;(try simp only [Act.put,aset,dZ,dS]);refine tht 11 hT ?_;(try simp only [Act.put,aset,dZ,dS]);refine tht 12 hT ?_;(try simp only [Act.put,aset,dZ,dS]);refine tht 13 hT ?_;(try simp only [Act.put,aset,dZ,dS]);refine tht 14 hT ?_;(try simp only [Act.put,aset,dZ,dS]);refine tht 15 hT ?_;(try simp only [Act.put,aset,dZ,dS]);refine tht 16 hT ?_;(try simp only [Act.put,aset,dZ,dS]);refine tht 17 hT ?_;(try simp only [Act.put,aset,dZ,dS]);refine tht 19 hT ?_;(try simp only [Act.put,aset,dZ,dS]);refine tht 20 hT ?_;(try simp only [Act.put,aset,dZ,dS]))
 refine tst 18 (fun K hK => ?_)
 go_simp
 go_at_call 15
 refine (registers_any _ _ _ _ _ N2 (argsOf f x.args) (some ⟨ga,0,none⟩) m m _ (HRS.out.mono RInt.stays xt) HLe.out (by have := HL2.out;omega)).mono ?_
 rintro e w5 ⟨g5,rfl,hg5,hown5,hb5⟩
 obtain ⟨hc5,hf5,hs5,he5⟩ := Ext.use (w := W4) hb5 xt
 have hown55 : Hid (w5.ownsRow W4.heap.size 3 1 (.slice (some ⟨g5,0,none⟩) N2 N2) N2 ((regsOf N2 (argsOf f x.args)).map (int .i64))) := World.ownsRow.mono hown5 (by simp)
 clear hb5 hown5
 (try simp only [World.size_drew] at hs5)
 have zR5 : R < w5.heap.size := by omega
 have zb5 : b < w5.heap.size := by omega
 have zw5 : w.heap.size < w5.heap.size := by omega
 dsimp only
 refine hK.out _ _ ?_ (fun hHeld => ?_)
 ·(repeat' (with_reducible apply And.intro)) <;> go_simp
 clear hK K
 (try simp only [Act.put,aset,dZ,dS])
 (refine tht 21 hT ?_;(try simp only [Act.put,aset,dZ,dS]))
 refine tst 22 (fun K hK => ?_)
 go_simp
 refine hK.out _ _ ?_ (fun hHeld => ?_)
 ·(repeat' (with_reducible apply And.intro)) <;> go_simp
 clear hK K
 (try simp only [Act.put,aset,dZ,dS])
 refine tst 23 (fun K hK => ?_)
 have HROW : Hid ((w5.alloc (.cells #[int .i64 (kb : Int),int .i64 0,.slice (some ⟨g5,0,none⟩) N2 N2,int .i64 x.a,.bool false] 57)).ownsRow B 57 5 (.slice (some ⟨gF,0,none⟩) N cF) N (rowOf frmCells (setTop t { f with pc := f.pc + 1 }).frames rs)) := by
  have h9 := ownsRow_ext H4.out.fr.row (he5.alloc (.cells #[int .i64 (kb : Int),int .i64 0,.slice (some ⟨g5,0,none⟩) N2 N2,int .i64 x.a,.bool false] 57))
  have hl9 : (setTop t { f with pc := f.pc + 1 }).frames.length = N := by show List.length (List.set ..) = N;rw [List.length_set];exact HN.out
  rwa [hl9] at h9
 obtain ⟨i0,hi0,hz0,hz1,hz2⟩ := info_parts infoFrm
 refine step_append_lies _ (by rfl) (.tmp 41) (.tmp 58) _ (by rfl) B 57 i0 _ 5 56 Try.underlying41 hi0 hz0 hz1 hz2 rfl (by omega) _ N _ (by rfl) HROW.out ⟨w5.heap.size,0,none⟩ 1 1 (frmCells ⟨kb,0,regsOf N2 (argsOf f x.args),x.a,false⟩ (.slice (some ⟨g5,0,none⟩) N2 N2)) (by rfl) rfl (fun j u hj => by rw [addr_add];simpa [go_sem,frmCells] using hj) (frmCells_one _ _ rfl) (by omega) (by simp only [maxLen];omega) (by omega) (by simp;omega) _ rfl ?_
 clear hi0 hz0 hz1 hz2
 intro g6 cap6 w6 hown6 hgr6 hat6 hlt6
 have far6 : ∀ {b o : Nat} {v : Value},b < w5.heap.size → ¬ gF = b → w5.cell? ⟨b,o,none⟩ = some v → w6.cell? ⟨b,o,none⟩ = some v := fun {b o v} h1 h2 h3 => by
  rw [hgr6.cell_far ⟨b,o,none⟩ (by simp;omega) (by simpa [Value.ownBlock] using fun e => h2 (Eq.symm e)),World.cell?_alloc_lt _ _ _ h1];exact h3
 have hr6 : w6.frozen? ⟨R,10,none⟩ = false := by
  rw [hgr6.frozen_far ⟨R,10,none⟩ (by simp;omega) (by simpa [Value.ownBlock] using fun e => hneR2 (Eq.symm e)),World.frozen?_alloc_past _ _ _ zR5,hf5,if_pos (by simpa using zR)];exact hr4
 refine hK.out _ _ ?_ (fun hHeld => ?_)
 ·obtain ⟨t0,t1,t2,t3,t4,t5,t6,t7,t8,t9⟩ : (fun W' => W'.cell? ⟨R,0,none⟩ = some (.slice (some ⟨b,off,none⟩) nf cf) ∧ W'.cell? ⟨R,10,none⟩ = some (.slice (some ⟨gF,0,none⟩) N cF) ∧ W'.cell? ⟨w.heap.size,1,none⟩ = some (int .i64 x.a) ∧ W'.cell? ⟨w.heap.size,2,none⟩ = some (int .i64 (kb : Int)) ∧ W'.cell? ⟨b,off + kb * 6,none⟩ = some (.string kf.name) ∧ W'.cell? ⟨b,off + kb * 6 + 1,none⟩ = some (int .i64 kf.params) ∧ W'.cell? ⟨b,off + kb * 6 + 2,none⟩ = some (int .i64 (N2 : Int)) ∧ W'.cell? ⟨b,off + kb * 6 + 3,none⟩ = some (int .i64 kf.prio) ∧ W'.cell? ⟨b,off + kb * 6 + 4,none⟩ = some (.bool kf.cleanup) ∧ W'.cell? ⟨b,off + kb * 6 + 5,none⟩ = some (.slice Ac nc cc)) w5 := by (repeat' (with_reducible apply And.intro)) <;> go_simp
  exact ⟨far6 zR5 hneR2 t0,far6 zR5 hneR2 t1,far6 zw5 (by omega) t2,far6 zw5 (by omega) t3,far6 zb5 hneb t4,far6 zb5 hneb t5,far6 zb5 hneb t6,far6 zb5 hneb t7,far6 zb5 hneb t8,far6 zb5 hneb t9⟩
 clear hK K
 (try simp only [Act.put,aset,dZ,dS])
 have m6 : w6.cell? ⟨R,10,none⟩ = some (.slice (some ⟨gF,0,none⟩) N cF) := hHeld.2.1
 refine th_done (by kernel_rfl) ?_
 simp only [List.drop_succ_cons,List.drop_zero]
 clear hHeld far6 hc5 hf5
 go_wp2
 go_end0
 have hE5 : Ext W4 (w5.alloc (.cells #[int .i64 (kb : Int),int .i64 0,.slice (some ⟨g5,0,none⟩) N2 N2,int .i64 x.a,.bool false] 57)) := he5.alloc _
 have hl9 : (setTop t { f with pc := f.pc + 1 }).frames.length = N := by show List.length (List.set ..) = N;rw [List.length_set];exact HN.out
 have hp := H4.out.push (f := ⟨kb,0,regsOf N2 (argsOf f x.args),x.a,false⟩) (v := .slice (some ⟨g5,0,none⟩) N2 N2) (VF' := .slice (some ⟨g6,0,none⟩) (N + 1) cap6) (W1 := w6) (g := gF) rfl hE5
  (by
   have h9 := ownsRow_ext hown55.out ((Ext.refl _).alloc (.cells #[int .i64 (kb : Int),int .i64 0,.slice (some ⟨g5,0,none⟩) N2 N2,int .i64 x.a,.bool false] 57))
   show World.ownsRow _ _ _ _ _ (regsOf N2 (argsOf f x.args)).length _
   rw [regsOf_length HLe.out]
   exact h9)
  (by rw [hl9];exact hown6) hgr6 (hat6.imp (fun e => e.symm) (fun e => by rw [e];rfl))
  ⟨HIB.out,(show InR 0 from ⟨by decide,by decide⟩),HIA.out,fun z hz => by
   unfold regsOf at hz
   rcases List.mem_append.1 hz with hz | hz
   ·exact HAI.out z hz
   ·rw [(List.mem_replicate.1 hz).2];exact ⟨by decide,by decide⟩⟩
 have hB5 : B ≤ (w5.alloc (.cells #[int .i64 (kb : Int),int .i64 0,.slice (some ⟨g5,0,none⟩) N2 N2,int .i64 x.a,.bool false] 57)).heap.size := by simp;omega
 refine ⟨rfl,⟨_,_,_,_,_,hp⟩,Kept.store (Kept.grown (Kept.trans HK4.out (Kept.mono hE5 (by omega))) hgr6 hB5 (fun k e => ?_)) hBR _ hp.hotR⟩
 have e' : gF = k := by simpa [Value.ownBlock] using e
 subst e'
 exact ⟨hB4,(H4.out.mono hE5).hotF rfl⟩
set_option maxRecDepth 8000 in
theorem op_defer {p : Prg} {X : List Value} {B R : Nat} {P3 : List Value} {w : World} {t : Tsk} {n : Int} {VF VB : Value} {rs hs : List Value} {gs : List (List Value)} (h : RunSt X B R P3 w t n VF VB rs hs gs) (hr : RunOk p t) (hc : checkS p = 0) {f : Frm} {g : Fnc} (hf : topF t = some f) (hg : FrOk p f g) (hpc : f.pc < g.code.length)
  (x : Ins) (A : Option Addr) (m c : Nat) (hx : RSl 1 RInt w A m x.args) (hm : m ≤ 32) (har : ∀ a ∈ x.args,0 ≤ a ∧ a < g.regs) (hxb : InR x.b) :
  Calls Try.prog 74 #[.pointer (some ⟨R,0,none⟩),.agg #[int .i64 x.op,int .i64 x.a,int .i64 x.b,int .i64 x.c,.slice A m c]] w (OpPost X B R P3 w (deferS t f x) n) := by
 have ht := hr.topOk hc hf
 have hgo := fn_ok hc (fnAt_mem hg.fn)
 have hblk := hr.bl
 obtain ⟨bk,hb⟩ : ∃ b,lastB t = some b := ⟨_,List.getElem?_eq_getElem (show t.blocks.length - 1 < t.blocks.length by omega)⟩
 have hlR := h.lt.2
 have hBR := h.lt.1
 have hBW : B ≤ w.heap.size := by have := h.lt;omega
 have hml := hx.len
 have hfr := hg.regs
 have hp3 := hgo.reg
 have hAr := (fun W (hE : Ext w W) => arguments_any (h.mono hE) ht x A m c (hx.mono RInt.stays hE) (by omega) (fun a h1 => ⟨(har a h1).1,by have := (har a h1).2;omega⟩))
 have HAI : Hid (∀ z ∈ argsOf f x.args,InR z) := fun z hz => by
  unfold argsOf at hz
  obtain ⟨a,ha',rfl⟩ := List.mem_map.1 hz
  exact num_in (regS_num hg (har a ha'))
 have HAL : Hid (m = (argsOf f x.args).length) := by rw [Hid,hml];simp [argsOf]
 have m3 : w.cell? ⟨R,11,none⟩ = some VB := h.cellT (j := 8) rfl
 have hbu := hb
 unfold lastB at hbu
 obtain ⟨gB,cB,eB,hgB⟩ := own_form h.bl.row (by omega)
 obtain ⟨v4,hv4⟩ : ∃ v,hs[t.blocks.length - 1]? = some v := ⟨_,List.getElem?_eq_getElem (by rw [h.bl.len];omega)⟩
 obtain ⟨a4,ha4⟩ : ∃ v,gs[t.blocks.length - 1]? = some v := ⟨_,List.getElem?_eq_getElem (by rw [h.bl.alen];omega)⟩
 obtain ⟨hal4,hrow4⟩ := h.bl.hnd _ bk v4 a4 hbu hv4 ha4
 obtain ⟨A4,c4,e4,hc4,_⟩ := ownsRow_shape hrow4
 have m4 : w.cell? ⟨gB,(t.blocks.length - 1) * 5 + 4,none⟩ = some v4 := by
  have h9 := h.bl.row
  rw [eB] at h9
  rw [h9.cellAt _ (by omega),rowOf_get blkCells_len hbu hv4 (by omega)];rfl
 have z4 : w.frozen? ⟨gB,(t.blocks.length - 1) * 5 + 4,none⟩ = false := by
  have h9 := h.bl.row
  rw [eB] at h9
  exact h9.frozenAt _
 have hlB : gB < w.heap.size := lt_of_cell m4
 have hsB : IntKind.i64.wrap ((t.blocks.length : Int) - 1) = ((t.blocks.length - 1 : Nat) : Int) := by rw [IntWalk.i64_in _ (by omega)];omega
 have hs1B : ((t.blocks.length - 1 : Nat) : Int) < (t.blocks.length : Int) := by omega
 have hs2B : (0 : Int) ≤ ((t.blocks.length - 1 : Nat) : Int) := by omega
 have hn1 : ¬ v4.ownBlock = some gB := fun e => by
  have h9 := apart_types h.bl.row hrow4 (by decide)
  rw [eB] at h9
  rcases h9 with h9 | h9
  ·cases h9
  ·exact h9 e.symm
 have hn2 : ¬ v4.ownBlock = some w.heap.size := fun e => by have := (hrow4.lt _ e).2;omega
 have hpc1 := hg.pc
 have hlen2 := hgo.len
 have hwr : IntKind.i64.wrap (f.pc + 1) = f.pc + 1 := IntWalk.i64_in _ (by omega)
 have HPc : Hid (InR (f.pc + 1)) := ⟨by omega,by omega⟩
 have hle := hr.len
 have hpos := hr.pos
 have H := Lib.hid h
 have HT := Lib.hid hf
 have HHB := Lib.hid hbu
 have HV4 := Lib.hid hv4
 have HA4 := Lib.hid ha4
 have HROW := Lib.hid hrow4
 have HXB := Lib.hid hxb
 obtain ⟨gF,cF,v',rfl,hv,_,hgF,_,_,c1,_,_,_⟩ := h.top hf
 obtain ⟨g2,c2',e2,hB2,z2,_,_⟩ := h.set_pc hf
 cases e2
 obtain ⟨r,hr'⟩ : ∃ r,deferS t f x = r := ⟨_,rfl⟩
 have HR := Lib.hid hr'
 rw [hr']
 have HAr := Lib.hid hAr
 subst eB e4
 clear h hr hc hf hg hgo hb hbu hv4 ha4 hrow4 hal4 hx har hxb ht hfr hp3 hlen2 hv hAr hml hr'
 obtain ⟨mh,hmh⟩ : ∃ mh,bk.handlers.length = mh := ⟨_,rfl⟩
 have HMH := Lib.hid hmh
 rw [hmh] at m4 hc4 hn1 hn2 HROW HV4
 clear hmh
 obtain ⟨N,hN⟩ : ∃ N,t.frames.length = N := ⟨_,rfl⟩
 have HN := Lib.hid hN
 rw [hN] at hle hpos c1 z2
 clear hN
 obtain ⟨nb,hnb⟩ : ∃ nb,t.blocks.length = nb := ⟨_,rfl⟩
 have HNB := Lib.hid hnb
 rw [hnb] at m3 m4 z4 hsB hs1B hs2B hblk
 clear hnb
 by_cases h8 : (8 : Int) ≤ (mh : Int)
 ·have hR : Hid (r = failT t 7) := by
   rw [Hid,← HR.out];unfold deferS lastB;rw [HHB.out];dsimp only;rw [if_pos (by have := HMH.out;omega)]
  rw [hR.out]
  go_enter Try.func74,Try.ntmps74
  go_wp2
  (refine wp_region_quiet_below (by kernel_rfl) (by kernel_rfl) ?_;(repeat (go_big_quiet_step (fail)));refine wpQuiet_nil fun w1 h1 => ?_;obtain ⟨hc,hf,hs,he⟩ := eu (w := w) h1 xt;clear h1;(try simp only [sA,sC,sD,sN] at hs))
  go_wp2
  exact ⟨rfl,rfl,⟨_,_,_,_,_,H.out.mono xt⟩,Kept.mono (show Ext w _ from xt) hBW⟩
 ·have hR : Hid (r = ({ t with frames := t.frames.set (t.frames.length - 1) { f with pc := f.pc + 1 },blocks := t.blocks.set (t.blocks.length - 1) { bk with handlers := bk.handlers ++ [⟨x.b,argsOf f x.args⟩] } },goOn)) := by
   rw [Hid,← HR.out];unfold deferS lastB;rw [HHB.out];dsimp only;rw [if_neg (by have := HMH.out;omega)]
  rw [hR.out]
  clear HR hR
  go_enter Try.func74,Try.ntmps74
  go_wp2
  (refine wp_region_quiet_below (by kernel_rfl) (by kernel_rfl) ?_;(repeat (go_big_quiet_step (fail)));refine wpQuiet_nil fun w1 h1 => ?_;obtain ⟨hc,hf,hs,he⟩ := eu (w := w) h1 xt;clear h1;(try simp only [sA,sC,sD,sN] at hs))
  go_wp2
  refine wp_hid2 ?_
  intro W4 HW4
  have HE4 : Hid (Ext w W4) := by rw [Hid,HW4.out];exact he
  have s0 : W4.cell? ⟨gB,(nb - 1) * 5 + 4,none⟩ = some (.slice A4 mh c4) := HE4.out.cell m4
  have HIN : Hid (∀ o v,(#[int .i64 x.op,int .i64 x.a,int .i64 x.b,int .i64 x.c,.slice A m c] : Array Value)[o]? = some v → W4.cell? ⟨w.heap.size,o,none⟩ = some v) := fun o v h1 => by
   rw [HW4.out,hc,if_pos (by simp),cell?_alloc_if,if_neg (by omega),if_pos rfl];exact h1
  have s1 := HIN.out 0 _ rfl
  have s2 := HIN.out 1 _ rfl
  have s3 := HIN.out 2 _ rfl
  have s4 := HIN.out 3 _ rfl
  have s5 := HIN.out 4 _ rfl
  have zz : W4.frozen? ⟨gB,(nb - 1) * 5 + 4,none⟩ = false := by rw [Below.frozen HE4.out (show gB < w.heap.size from hlB)];exact z4
  have zB : gB < W4.heap.size := lt_of_cell s0
  have zw : w.heap.size < W4.heap.size := lt_of_cell s1
  have zR : R < W4.heap.size := Nat.lt_of_lt_of_le hlR HE4.out.size
  clear HW4 hc hf hs he HIN m3 m4
  refine wp_region_th 13 (fun W' => W'.cell? ⟨gB,(nb - 1) * 5 + 4,none⟩ = some (.slice A4 mh c4) ∧ W'.cell? ⟨w.heap.size,0,none⟩ = some (int .i64 x.op) ∧ W'.cell? ⟨w.heap.size,1,none⟩ = some (int .i64 x.a) ∧ W'.cell? ⟨w.heap.size,2,none⟩ = some (int .i64 x.b) ∧ W'.cell? ⟨w.heap.size,3,none⟩ = some (int .i64 x.c) ∧ W'.cell? ⟨w.heap.size,4,none⟩ = some (.slice A m c)) (by kernel_rfl) (by kernel_rfl) (by kernel_rfl) (by kernel_rfl) (by decide) ?_ ?_
  ·(repeat' (with_reducible apply And.intro)) <;> go_simp
  intro hT hHeld
  (refine tht 0 hT ?_;(try simp only [Act.put,aset,dZ,dS]);refine tht 1 hT ?_;(try simp only [Act.put,aset,dZ,dS]);refine tht 2 hT ?_;(try simp only [Act.put,aset,dZ,dS]);refine tht 3 hT ?_;(try simp only [Act.put,aset,dZ,dS]);refine tht 4 hT ?_;(try simp only [Act.put,aset,dZ,dS]);refine tht 5 hT ?_;(try simp only [Act.put,aset,dZ,dS]);refine tht 6 hT ?_;(try simp only [Act.put,aset,dZ,dS]);refine tht 7 hT ?_;(try simp only [Act.put,aset,dZ,dS]);refine tht 8 hT ?_;(try simp only [Act.put,aset,dZ,dS]))
  refine tst 9 (fun K hK => ?_)
  go_simp
  go_at_call 91
  refine (HAr.out _ (HE4.out.trans xt)).mono ?_
  rintro e w5 ⟨g5,rfl,hg5,hown5,hb5⟩
  obtain ⟨hc5,hf5,hs5,he5⟩ := Ext.use (w := W4) hb5 xt
  have hown55 : Hid (w5.ownsRow W4.heap.size 3 1 (.slice (some ⟨g5,0,none⟩) m m) m ((argsOf f x.args).map (int .i64))) := World.ownsRow.mono hown5 (by simp)
  clear hb5 hown5
  (try simp only [World.size_drew] at hs5)
  have zR5 : R < w5.heap.size := by omega
  have zB5 : gB < w5.heap.size := by omega
  have zw5 : w.heap.size < w5.heap.size := by omega
  dsimp only
  refine hK.out _ _ ?_ (fun hHeld => ?_)
  ·(repeat' (with_reducible apply And.intro)) <;> go_simp
  clear hK K
  (try simp only [Act.put,aset,dZ,dS])
  (refine tht 10 hT ?_;(try simp only [Act.put,aset,dZ,dS]))
  refine tst 11 (fun K hK => ?_)
  go_simp
  refine hK.out _ _ ?_ (fun hHeld => ?_)
  ·(repeat' (with_reducible apply And.intro)) <;> go_simp
  clear hK K
  (try simp only [Act.put,aset,dZ,dS])
  refine tst 12 (fun K hK => ?_)
  have hE5 : Ext W4 (w5.alloc (.cells #[int .i64 x.b,.slice (some ⟨g5,0,none⟩) m m] 83)) := he5.alloc _
  have hRW : Hid ((w5.alloc (.cells #[int .i64 x.b,.slice (some ⟨g5,0,none⟩) m m] 83)).ownsRow B 83 2 (.slice A4 mh c4) mh (rowOf hdlCells bk.handlers a4)) := ownsRow_ext HROW.out (HE4.out.trans hE5)
  obtain ⟨i0,hi0,hz0,hz1,hz2⟩ := info_parts infoHdl
  refine step_append_lies _ (by rfl) (.tmp 29) (.tmp 36) _ (by rfl) B 83 i0 _ 2 32 Try.underlying63 hi0 hz0 hz1 hz2 rfl (by omega) _ mh _ (by rfl) hRW.out ⟨w5.heap.size,0,none⟩ 1 1 (hdlCells ⟨x.b,argsOf f x.args⟩ (.slice (some ⟨g5,0,none⟩) m m)) (by rfl) rfl (fun j u hj => by rw [addr_add];simpa [go_sem,hdlCells] using hj) (hdlCells_one _ _ rfl) (by omega) (by simp only [maxLen];omega) (by omega) (by simp;omega) _ rfl ?_
  clear hi0 hz0 hz1 hz2
  intro g6 cap6 w6 hown6 hgr6 hat6 hlt6
  have far6 : ∀ {b o : Nat} {v : Value},b < w5.heap.size → ¬ (Value.slice A4 mh c4).ownBlock = some b → w5.cell? ⟨b,o,none⟩ = some v → w6.cell? ⟨b,o,none⟩ = some v := fun {b o v} h1 h2 h3 => by
   rw [hgr6.cell_far ⟨b,o,none⟩ (by simp;omega) (fun e => h2 e.symm),World.cell?_alloc_lt _ _ _ h1];exact h3
  have hr6 : w6.frozen? ⟨gB,(nb - 1) * 5 + 4,none⟩ = false := by
   rw [hgr6.frozen_far ⟨gB,(nb - 1) * 5 + 4,none⟩ (by simp;omega) (fun e => hn1 e.symm),World.frozen?_alloc_past _ _ _ zB5,hf5,if_pos (by simpa using zB)];exact zz
  refine hK.out _ _ ?_ (fun hHeld => ?_)
  ·obtain ⟨t0,t1,t2,t3,t4,t5⟩ : (fun W' => W'.cell? ⟨gB,(nb - 1) * 5 + 4,none⟩ = some (.slice A4 mh c4) ∧ W'.cell? ⟨w.heap.size,0,none⟩ = some (int .i64 x.op) ∧ W'.cell? ⟨w.heap.size,1,none⟩ = some (int .i64 x.a) ∧ W'.cell? ⟨w.heap.size,2,none⟩ = some (int .i64 x.b) ∧ W'.cell? ⟨w.heap.size,3,none⟩ = some (int .i64 x.c) ∧ W'.cell? ⟨w.heap.size,4,none⟩ = some (.slice A m c)) w5 := by (repeat' (with_reducible apply And.intro)) <;> go_simp
   exact ⟨far6 zB5 hn1 t0,far6 zw5 hn2 t1,far6 zw5 hn2 t2,far6 zw5 hn2 t3,far6 zw5 hn2 t4,far6 zw5 hn2 t5⟩
  clear hK K
  (try simp only [Act.put,aset,dZ,dS])
  have m6 : w6.cell? ⟨gB,(nb - 1) * 5 + 4,none⟩ = some (.slice A4 mh c4) := hHeld.1
  have H4 := Lib.hid (H.out.mono HE4.out)
  have hp := H4.out.handler (k := t.blocks.length - 1) (y := ⟨x.b,argsOf f x.args⟩) (av := .slice (some ⟨g5,0,none⟩) m m) (v' := .slice (some ⟨g6,0,none⟩) (mh + 1) cap6) (W1 := w6) (gB := gB) HHB.out HV4.out HA4.out hE5
   (by
    have h9 := ownsRow_ext hown55.out ((Ext.refl _).alloc (.cells #[int .i64 x.b,.slice (some ⟨g5,0,none⟩) m m] 83))
    show World.ownsRow _ _ _ _ _ (argsOf f x.args).length _
    rw [← HAL.out]
    exact h9)
   (by show (argsOf f x.args).length ≤ 1000;rw [← HAL.out];omega) ⟨HXB.out,HAI.out⟩ (by rw [HMH.out];exact hown6) hgr6 (hat6.imp (fun e => e.symm) (fun e => by rw [e];rfl)) rfl
  obtain ⟨T2,hT2⟩ : ∃ T2 : Tsk,T2 = { t with blocks := t.blocks.set (t.blocks.length - 1) { bk with handlers := bk.handlers ++ [⟨x.b,argsOf f x.args⟩] } } := ⟨_,rfl⟩
  rw [← hT2,HNB.out,HN.out] at hp
  have HT2 := Lib.hid hT2
  have HTF : Hid (T2.frames = t.frames) := by rw [Hid,hT2]
  have HTP : Hid (topF T2 = some f) := by unfold Hid topF;rw [HTF.out];exact HT.out
  have HP := Lib.hid hp
  have R2 := hp.task
  have hK6 : Hid (Kept B w (w6.setCell ⟨gB,(nb - 1) * 5 + 4,none⟩ (.slice (some ⟨g6,0,none⟩) (mh + 1) cap6))) := by
   have hB5 : B ≤ (w5.alloc (.cells #[int .i64 x.b,.slice (some ⟨g5,0,none⟩) m m] 83)).heap.size := by simp;omega
   refine Kept.store (Kept.grown (Kept.mono (HE4.out.trans hE5) hBW) hgr6 hB5 (fun k e => ?_)) hgB _ (hp.hotB rfl)
   exact ⟨(hRW.out.lt k e).1,hot_row hRW.out e (by decide)⟩
  unfold tskL at R2
  clear hT2 hp hHeld hc5 hf5 far6 s0 s1 s2 s3 s4 s5 z4
  refine th_done (by kernel_rfl) ?_
  simp only [List.drop_succ_cons,List.drop_zero]
  go_wp2_with (first | ((first | (with_reducible refine jl 44 ?_) | (with_reducible refine il 44 ?_));refine ldm Try.underlying44 rfl rfl rfl (by exact rg) rfl (by exact infoTsk) ?_;dsimp only [dZ,dS]) | (go_at_call 29;refine (innermost_any _ _ _ _ _ _ _ _ _ _ _ _ _ gF 0 N cF _ hpos (by omega)).mono ?_;rintro e w7 ⟨rfl,hb7⟩;have h1 := Lib.hid (HP.out.mono hb7);have hb77 := Lib.hid hb7;obtain ⟨g9,c9,e9,_,z9,p9,_⟩ := h1.out.set_pc (i := N - 1) (f := f) (by have h9 := HTP.out;unfold topF at h9;rw [HTF.out,HN.out] at h9;rw [HTF.out];exact h9);injection e9 with q1 q2 q3;injection q1 with q1;injection q1 with q1;subst q1;clear hb7 q2 q3))
  go_end0
  obtain ⟨h2,hB⟩ := h1.out.jump HTP.out rfl HPc.out
  rw [HTF.out,HN.out] at h2
  have hk9 := Kept.store (Kept.trans hK6.out (Kept.mono hb77.out (Nat.le_trans hBW hK6.out.below.size))) hB (int .i64 (f.pc + 1)) (p := ⟨gF,(N - 1) * 5 + 1,none⟩) (h2.hotF rfl)
  rw [HT2.out] at h2
  exact ⟨rfl,⟨_,_,_,_,_,h2⟩,hk9⟩
end Go.Proofs.Ytcjjoabofecjmaa

