/- A part of the proof: What the law's form reads as data, is a task of this proof; . -/
import Derived.Test.YtcjjoabofecjmaaGreatProg
import Derived.Test.YtcjjoabofecjmaaGreatQ01
import Derived.ProofKit
import Derived.OpenShut
import Derived.ChangeOld
import Derived.Deep.Slices
import Derived.SizedLaws
set_option linter.unusedVariables false
set_option linter.unusedSimpArgs false
set_option maxHeartbeats 16000000
namespace Go.Proofs.YtcjjoabofecjmaaGreat
open Go.RowKit Go.ChangeShapes Go.WideShapes Go.Deep
open Go.Value (int)
section
variable {H : Type} {enc : TypeId × Value → H} {W : World} {base : Nat} {spare : Nat → Bool} {held : Bool}
def Small (t : TypeId) (d : DataW H) : Prop := ∀ n ∈ d.weights Tryz.prog t,n ≤ reachBytes
theorem small_field {t : TypeId} {fs : Array Field} (ht : Tryz.prog.underlying t = some (.struct fs)) {xs : List (DataW H × List MemPlace)} (h : Small t (.agg (xs.map (·.1)))) {i : Nat} {f : Field} {y : DataW H × List MemPlace} (hf : fs[i]? = some f) (hy : xs[i]? = some y) : Small f.type y.1 := fun n hn => by
 refine h n ?_
 unfold DataW.weights
 rw [ht]
 exact DataW.weights_mem_each (j := i) (t := f.type) (d := y.1) (by simp [hf]) (by simp [hy]) n hn
theorem weightsAll_mem {e : TypeId} : ∀ {ds : List (DataW H)} {i : Nat} {d : DataW H},ds[i]? = some d → ∀ n ∈ d.weights Tryz.prog e,n ∈ DataW.weightsAll Tryz.prog e ds
 | [],i,d,h,_,_ => by simp at h
 | d0 :: ds,0,d,h,n,hn => by
  simp only [List.getElem?_cons_zero,Option.some.injEq] at h
  subst h
  unfold DataW.weightsAll
  exact List.mem_append_left _ hn
 | d0 :: ds,i + 1,d,h,n,hn => by
  unfold DataW.weightsAll
  exact List.mem_append_right _ (weightsAll_mem (by simpa using h) n hn)
theorem small_elem {t e : TypeId} (ht : Tryz.prog.underlying t = some (.slice e)) {elems rest : List (DataW H)} (h : Small t (.slice elems rest)) {i : Nat} {d : DataW H} (hd : elems[i]? = some d) : Small e d := fun n hn => by
 refine h n ?_
 unfold DataW.weights
 rw [ht]
 exact List.mem_cons_of_mem _ (List.mem_append_left _ (weightsAll_mem hd n hn))
theorem small_len {t e : TypeId} (ht : Tryz.prog.underlying t = some (.slice e)) (hb : 1 ≤ Tryz.prog.bytesOf e) {elems rest : List (DataW H)} (h : Small t (.slice elems rest)) : elems.length ≤ 140737488355328 := by
 have h1 := h ((elems.length + rest.length) * Tryz.prog.bytesOf e) (by unfold DataW.weights;rw [ht];exact List.mem_cons_self)
 have h2 : elems.length + rest.length ≤ (elems.length + rest.length) * Tryz.prog.bytesOf e := Nat.le_mul_of_pos_right _ hb
 unfold reachBytes at h1
 omega
theorem rsl_of {α : Type} {sz : Nat} {R : World → α → List Value → Prop} {t e : TypeId} (ht : Tryz.prog.underlying t = some (.slice e)) (hsz : Tryz.prog.cellsOf e = sz) (hpos : 0 < sz) (hb : 1 ≤ Tryz.prog.bytesOf e)
  (one : ∀ (n : Nat) (cs : List Value) (y : DataW H × List MemPlace),DataW.trod enc Tryz.prog W base spare held n e cs = some y → Small e y.1 → cs.length = sz ∧ ∃ x,R W x cs) {fuel : Nat} {cs : List Value} {y : DataW H × List MemPlace} (h : DataW.trod enc Tryz.prog W base spare held fuel t cs = some y) (hs : Small t y.1) :
  ∃ A n c xs,cs = [.slice A n c] ∧ RSl sz R W A n xs ∧ n ≤ c := by
 rcases open_slice ht h with ⟨rfl,rfl⟩ | ⟨a,len,cap,m,n,D,Pl,rfl,hbase,hl,hm,hmm,rfl,hx⟩
 ·exact ⟨none,0,0,[],rfl,⟨rfl,by omega,fun k x hk => by simp at hk⟩,Nat.le_refl _⟩
 have hlm : len ≤ m := by rw [hmm];split <;> omega
 have hel : ∀ i,i < len → ∃ cs',(cs'.length = sz ∧ ∃ x,R W x cs') ∧ ∀ j v,cs'[j]? = some v → W.cell? ((a.add (i * sz)).add j) = some v := fun i hi => by
  obtain ⟨cs',h1,h2⟩ := hx i (by omega)
  have h3 := one n cs' _ h2 (small_elem ht hs (i := i) (by rw [List.getElem?_map,List.getElem?_range hi];rfl))
  rw [hsz] at h1
  exact ⟨cs',h3,fun j v hj => ((World.cells?_some h1).2.2 j (by have := (List.getElem?_eq_some_iff.1 hj).1;omega)).trans hj⟩
 have hlen : len ≤ 140737488355328 := by
  have := small_len ht hb hs
  simpa using this
 rcases Nat.eq_zero_or_pos len with h0 | h0
 ·subst h0
  exact ⟨_,_,_,[],rfl,⟨rfl,by omega,fun k x hk => by simp at hk⟩,hl⟩
 obtain ⟨b,off,spot⟩ := a
 have hspot : spot = none := by
  obtain ⟨cs',⟨hl',_⟩,hc⟩ := hel 0 h0
  have := hc 0 _ (List.getElem?_eq_getElem (by omega))
  simpa [Addr.add] using World.cell?_spot this
 subst hspot
 have hel2 := hel
 classical
 refine ⟨_,_,_,(List.range len).map (fun i => if hi : i < len then Classical.choose (Classical.choose_spec (hel i hi)).1.2 else Classical.choose (Classical.choose_spec (hel 0 h0)).1.2),rfl,⟨by simp,hlen,fun k x hk => ?_⟩,hl⟩
 have hkl : k < len := by have := (List.getElem?_eq_some_iff.1 hk).1;simpa using this
 rw [List.getElem?_map,List.getElem?_range hkl] at hk
 simp only [Option.map_some,Option.some.injEq,dif_pos hkl] at hk
 subst hk
 refine ⟨b,off,Classical.choose (hel k hkl),rfl,(Classical.choose_spec (hel k hkl)).1.1,Classical.choose_spec (Classical.choose_spec (hel k hkl)).1.2,fun j v hj => ?_⟩
 have := (Classical.choose_spec (hel k hkl)).2 j v hj
 rw [add_add] at this
 have e : (⟨b,off,none⟩ : Addr).add (k * sz + j) = ⟨b,off + k * sz + j,none⟩ := by unfold Addr.add;split <;> simp_all [Nat.add_assoc]
 rw [e] at this
 exact this
end
end Go.Proofs.YtcjjoabofecjmaaGreat
namespace Go.Proofs.YtcjjoabofecjmaaGreat
open Go.RowKit Go.ChangeShapes Go.WideShapes Go.Deep
open Go.Value (int)
theorem cellsI : Tryz.prog.cellsOf 3 = 1 := by kernel_rfl
theorem cellsBo : Tryz.prog.cellsOf 4 = 1 := by kernel_rfl
theorem cellsSl : Tryz.prog.cellsOf 35 = 1 := by kernel_rfl
theorem cellsSF : Tryz.prog.cellsOf 29 = 1 := by kernel_rfl
theorem cellsSB : Tryz.prog.cellsOf 30 = 1 := by kernel_rfl
theorem cellsSH : Tryz.prog.cellsOf 53 = 1 := by kernel_rfl
theorem cellsF : Tryz.prog.cellsOf 62 = 5 := by kernel_rfl
theorem cellsB : Tryz.prog.cellsOf 55 = 5 := by kernel_rfl
theorem cellsH : Tryz.prog.cellsOf 58 = 2 := by kernel_rfl
theorem cellsW : Tryz.prog.cellsOf 28 = 3 := by kernel_rfl
theorem cellsT : Tryz.prog.cellsOf 32 = 14 := by kernel_rfl
theorem bytesI : 1 ≤ Tryz.prog.bytesOf 3 := of_decide_eq_true (by kernel_rfl)
theorem bytesF : 1 ≤ Tryz.prog.bytesOf 62 := of_decide_eq_true (by kernel_rfl)
theorem bytesB : 1 ≤ Tryz.prog.bytesOf 55 := of_decide_eq_true (by kernel_rfl)
theorem bytesH : 1 ≤ Tryz.prog.bytesOf 58 := of_decide_eq_true (by kernel_rfl)
theorem inr_wf {n : Int} (h : (Lit.int .i64 n).wf = true) : InR n := by
 simp [Lit.wf,IntKind.min,IntKind.max,IntKind.signed,IntKind.bits] at h
 exact ⟨by omega,by omega⟩
theorem list2 {α : Type} {cs : List α} (h : cs.length = 2) : ∃ a b,cs = [a,b] := by
 match cs,h with
 | [a,b],_ => exact ⟨a,b,rfl⟩
theorem list5 {α : Type} {cs : List α} (h : cs.length = 5) : ∃ a b c d e,cs = [a,b,c,d,e] := by
 match cs,h with
 | [a,b,c,d,e],_ => exact ⟨a,b,c,d,e,rfl⟩
theorem list3 {α : Type} {cs : List α} (h : cs.length = 3) : ∃ a b c,cs = [a,b,c] := by
 match cs,h with
 | [a,b,c],_ => exact ⟨a,b,c,rfl⟩
theorem list14 {α : Type} {cs : List α} (h : cs.length = 14) : ∃ a b c d e f g i j k l m n o,cs = [a,b,c,d,e,f,g,i,j,k,l,m,n,o] := by
 match cs,h with
 | [a,b,c,d,e,f,g,i,j,k,l,m,n,o],_ => exact ⟨a,b,c,d,e,f,g,i,j,k,l,m,n,o,rfl⟩
section
variable {H : Type} {enc : TypeId × Value → H} {W : World} {base : Nat} {spare : Nat → Bool} {held : Bool}
theorem fld {t : TypeId} {fs : Array Field} {fuel : Nat} {cs : List Value} {y : DataW H × List MemPlace} (ht : Tryz.prog.underlying t = some (.struct fs)) (h : DataW.trod enc Tryz.prog W base spare held fuel t cs = some y) (hs : Small t y.1) :
  ∃ n,cs.length = Tryz.prog.cellsOf t ∧ ∀ (i : Nat) (T : TypeId) (o k : Nat) (f : Field),fs[i]? = some f → f.type = T → f.offset = o → Tryz.prog.cellsOf T = k → ∃ z,DataW.trod enc Tryz.prog W base spare held n T ((cs.drop o).take k) = some z ∧ Small T z.1 := by
 obtain ⟨xs,n,rfl,rfl,hl,hxl,hf⟩ := DataW.trod_struct ht h
 refine ⟨n,hl,fun i T o k f hi h1 h2 h3 => ?_⟩
 subst h1 h2 h3
 obtain ⟨z,hz⟩ : ∃ z,xs[i]? = some z := ⟨_,List.getElem?_eq_getElem (by rw [hxl];exact (Array.getElem?_eq_some_iff.1 hi).1)⟩
 exact ⟨z,(hf i f hi).trans hz,small_field ht hs hi hz⟩
theorem one_i {n : Nat} {c : Value} {y : DataW H × List MemPlace} (h : DataW.trod enc Tryz.prog W base spare held n 3 [c] = some y) : ∃ a,c = int .i64 a ∧ InR a := by
 obtain ⟨a,e,_,hw⟩ := DataW.trod_int Tryz.underlying3 h
 exact ⟨a,by simpa using e,inr_wf hw⟩
theorem one_b {n : Nat} {c : Value} {y : DataW H × List MemPlace} (h : DataW.trod enc Tryz.prog W base spare held n 4 [c] = some y) : ∃ a,c = .bool a := by
 obtain ⟨a,e,_⟩ := DataW.trod_bool Tryz.underlying4 h
 exact ⟨a,by simpa using e⟩
theorem one_int (n : Nat) (cs : List Value) (y : DataW H × List MemPlace) (h : DataW.trod enc Tryz.prog W base spare held n 3 cs = some y) (_ : Small 3 y.1) : cs.length = 1 ∧ ∃ x,RInt W x cs := by
 obtain ⟨a,rfl,_,hw⟩ := DataW.trod_int Tryz.underlying3 h
 exact ⟨rfl,a,rfl,inr_wf hw⟩
theorem sl_int {n : Nat} {c : Value} {y : DataW H × List MemPlace} (h : DataW.trod enc Tryz.prog W base spare held n 35 [c] = some y) (hs : Small 35 y.1) : ∃ A m k xs,c = .slice A m k ∧ RSl 1 RInt W A m xs ∧ m ≤ k := by
 obtain ⟨A,m,k,xs,e,h1,h2⟩ := rsl_of Tryz.underlying35 cellsI (by decide) bytesI one_int h hs
 exact ⟨A,m,k,xs,by simpa using e,h1,h2⟩
theorem one_hdl (n : Nat) (cs : List Value) (y : DataW H × List MemPlace) (h : DataW.trod enc Tryz.prog W base spare held n 58 cs = some y) (hs : Small 58 y.1) : cs.length = 2 ∧ ∃ x,RHdl W x cs := by
 obtain ⟨m,hl,hf⟩ := fld Tryz.underlying58 h hs
 rw [cellsH] at hl
 obtain ⟨c0,c1,rfl⟩ := list2 hl
 obtain ⟨z0,t0,_⟩ := hf 0 3 0 1 _ rfl rfl rfl cellsI
 obtain ⟨z1,t1,s1⟩ := hf 1 35 1 1 _ rfl rfl rfl cellsSl
 simp only [List.drop_zero,List.drop_succ_cons,List.take_succ_cons,List.take_zero] at t0 t1
 obtain ⟨a,rfl,ia⟩ := one_i t0
 obtain ⟨A,m,k,xs,rfl,h1,h2⟩ := sl_int t1 s1
 exact ⟨rfl,⟨a,xs⟩,A,m,k,rfl,ia,h1,h2⟩
theorem one_frm (n : Nat) (cs : List Value) (y : DataW H × List MemPlace) (h : DataW.trod enc Tryz.prog W base spare held n 62 cs = some y) (hs : Small 62 y.1) : cs.length = 5 ∧ ∃ x,RFrm W x cs := by
 obtain ⟨m,hl,hf⟩ := fld Tryz.underlying62 h hs
 rw [cellsF] at hl
 obtain ⟨c0,c1,c2,c3,c4,rfl⟩ := list5 hl
 obtain ⟨z0,t0,_⟩ := hf 0 3 0 1 _ rfl rfl rfl cellsI
 obtain ⟨z1,t1,_⟩ := hf 1 3 1 1 _ rfl rfl rfl cellsI
 obtain ⟨z2,t2,s2⟩ := hf 2 35 2 1 _ rfl rfl rfl cellsSl
 obtain ⟨z3,t3,_⟩ := hf 3 3 3 1 _ rfl rfl rfl cellsI
 obtain ⟨z4,t4,_⟩ := hf 4 4 4 1 _ rfl rfl rfl cellsBo
 simp only [List.drop_zero,List.drop_succ_cons,List.take_succ_cons,List.take_zero] at t0 t1 t2 t3 t4
 obtain ⟨a,rfl,ia⟩ := one_i t0
 obtain ⟨b,rfl,ib⟩ := one_i t1
 obtain ⟨A,m,k,xs,rfl,h1,h2⟩ := sl_int t2 s2
 obtain ⟨d,rfl,id⟩ := one_i t3
 obtain ⟨e,rfl⟩ := one_b t4
 exact ⟨rfl,⟨a,b,xs,d,e⟩,A,m,k,rfl,ia,ib,id,h1,h2⟩
theorem one_blk (n : Nat) (cs : List Value) (y : DataW H × List MemPlace) (h : DataW.trod enc Tryz.prog W base spare held n 55 cs = some y) (hs : Small 55 y.1) : cs.length = 5 ∧ ∃ x,RBlk W x cs := by
 obtain ⟨m,hl,hf⟩ := fld Tryz.underlying55 h hs
 rw [cellsB] at hl
 obtain ⟨c0,c1,c2,c3,c4,rfl⟩ := list5 hl
 obtain ⟨z0,t0,_⟩ := hf 0 3 0 1 _ rfl rfl rfl cellsI
 obtain ⟨z1,t1,_⟩ := hf 1 3 1 1 _ rfl rfl rfl cellsI
 obtain ⟨z2,t2,_⟩ := hf 2 3 2 1 _ rfl rfl rfl cellsI
 obtain ⟨z3,t3,_⟩ := hf 3 3 3 1 _ rfl rfl rfl cellsI
 obtain ⟨z4,t4,s4⟩ := hf 4 53 4 1 _ rfl rfl rfl cellsSH
 simp only [List.drop_zero,List.drop_succ_cons,List.take_succ_cons,List.take_zero] at t0 t1 t2 t3 t4
 obtain ⟨a,rfl,ia⟩ := one_i t0
 obtain ⟨b,rfl,ib⟩ := one_i t1
 obtain ⟨c,rfl,ic⟩ := one_i t2
 obtain ⟨d,rfl,id⟩ := one_i t3
 obtain ⟨A,m,k,xs,e,h1,h2⟩ := rsl_of Tryz.underlying53 cellsH (by decide) bytesH one_hdl t4 s4
 obtain rfl : c4 = .slice A m k := by simpa using e
 exact ⟨rfl,⟨a,b,c,d,xs⟩,A,m,k,rfl,ia,ib,ic,id,h1,h2⟩
theorem one_tsk (n : Nat) (cs : List Value) (y : DataW H × List MemPlace) (h : DataW.trod enc Tryz.prog W base spare held n 32 cs = some y) (hs : Small 32 y.1) : ∃ t,RTsk W t (.agg cs.toArray) := by
 obtain ⟨m,hl,hf⟩ := fld Tryz.underlying32 h hs
 rw [cellsT] at hl
 obtain ⟨c0,c1,c2,c3,c4,c5,c6,c7,c8,c9,c10,c11,c12,c13,rfl⟩ := list14 hl
 obtain ⟨z0,t0,_⟩ := hf 0 3 0 1 _ rfl rfl rfl cellsI
 obtain ⟨z1,t1,_⟩ := hf 1 3 1 1 _ rfl rfl rfl cellsI
 obtain ⟨z2,t2,_⟩ := hf 2 3 2 1 _ rfl rfl rfl cellsI
 obtain ⟨z3,t3,_⟩ := hf 3 3 3 1 _ rfl rfl rfl cellsI
 obtain ⟨z4,t4,s4⟩ := hf 4 28 4 3 _ rfl rfl rfl cellsW
 obtain ⟨z5,t5,s5⟩ := hf 5 29 7 1 _ rfl rfl rfl cellsSF
 obtain ⟨z6,t6,s6⟩ := hf 6 30 8 1 _ rfl rfl rfl cellsSB
 obtain ⟨z7,t7,_⟩ := hf 7 3 9 1 _ rfl rfl rfl cellsI
 obtain ⟨z8,t8,_⟩ := hf 8 4 10 1 _ rfl rfl rfl cellsBo
 obtain ⟨z9,t9,_⟩ := hf 9 3 11 1 _ rfl rfl rfl cellsI
 obtain ⟨z10,t10,_⟩ := hf 10 3 12 1 _ rfl rfl rfl cellsI
 obtain ⟨z11,t11,_⟩ := hf 11 3 13 1 _ rfl rfl rfl cellsI
 simp only [List.drop_zero,List.drop_succ_cons,List.take_succ_cons,List.take_zero] at t0 t1 t2 t3 t4 t5 t6 t7 t8 t9 t10 t11
 obtain ⟨m2,_,hw⟩ := fld Tryz.underlying28 t4 s4
 obtain ⟨w0,u0,_⟩ := hw 0 3 0 1 _ rfl rfl rfl cellsI
 obtain ⟨w1,u1,_⟩ := hw 1 3 1 1 _ rfl rfl rfl cellsI
 obtain ⟨w2,u2,_⟩ := hw 2 4 2 1 _ rfl rfl rfl cellsBo
 simp only [List.drop_zero,List.drop_succ_cons,List.take_succ_cons,List.take_zero] at u0 u1 u2
 obtain ⟨a0,rfl,i0⟩ := one_i t0
 obtain ⟨a1,rfl,i1⟩ := one_i t1
 obtain ⟨a2,rfl,i2⟩ := one_i t2
 obtain ⟨a3,rfl,i3⟩ := one_i t3
 obtain ⟨a4,rfl,i4⟩ := one_i u0
 obtain ⟨a5,rfl,i5⟩ := one_i u1
 obtain ⟨a6,rfl⟩ := one_b u2
 obtain ⟨A7,m7,k7,x7,e7,h7,l7⟩ := rsl_of Tryz.underlying29 cellsF (by decide) bytesF one_frm t5 s5
 obtain rfl : c7 = .slice A7 m7 k7 := by simpa using e7
 obtain ⟨A8,m8,k8,x8,e8,h8,l8⟩ := rsl_of Tryz.underlying30 cellsB (by decide) bytesB one_blk t6 s6
 obtain rfl : c8 = .slice A8 m8 k8 := by simpa using e8
 obtain ⟨a9,rfl,i9⟩ := one_i t7
 obtain ⟨a10,rfl⟩ := one_b t8
 obtain ⟨a11,rfl,i11⟩ := one_i t9
 obtain ⟨a12,rfl,i12⟩ := one_i t10
 obtain ⟨a13,rfl,i13⟩ := one_i t11
 exact ⟨⟨a0,a1,a2,a3,a4,a5,a6,x7,x8,a9,a10,a11,a12,a13⟩,_,_,_,_,_,_,rfl,i0,i1,i2,i3,i4,i5,i9,i11,i12,i13,h7,h8,l7,l8⟩
set_option maxRecDepth 8000 in
theorem tsk_in {r : Reach} {base2 : Nat} {v : Value} {d : DataW H} {ps : List MemPlace} (hv : Value.okWide Tryz.prog W r base2 32 v) (h : DataW.Trod enc Tryz.prog W base spare held 32 v d ps) (hs : Small 32 d) : ∃ t,RTsk W t v := by
 obtain ⟨cs,rfl,hsz⟩ := okWide_struct Tryz.underlying32 hv
 obtain ⟨fuel,hf⟩ := h
 obtain ⟨t,ht⟩ := one_tsk fuel cs.toList (d,ps) hf hs
 have e : cs.toList.toArray = cs := Array.toArray_toList
 rw [e] at ht
 exact ⟨t,ht⟩
end
end Go.Proofs.YtcjjoabofecjmaaGreat
namespace Go.Proofs.YtcjjoabofecjmaaGreat
open Go.RowKit Go.ChangeShapes Go.WideShapes Go.Deep
open Go.Value (int)
theorem cellsSt : Tryz.prog.cellsOf 9 = 1 := by kernel_rfl
theorem cellsSI : Tryz.prog.cellsOf 74 = 1 := by kernel_rfl
theorem cellsSFn : Tryz.prog.cellsOf 22 = 1 := by kernel_rfl
theorem cellsSO : Tryz.prog.cellsOf 23 = 1 := by kernel_rfl
theorem cellsSV : Tryz.prog.cellsOf 24 = 1 := by kernel_rfl
theorem cellsIn : Tryz.prog.cellsOf 37 = 5 := by kernel_rfl
theorem cellsFn : Tryz.prog.cellsOf 76 = 6 := by kernel_rfl
theorem cellsOb : Tryz.prog.cellsOf 86 = 4 := by kernel_rfl
theorem cellsVr : Tryz.prog.cellsOf 88 = 3 := by kernel_rfl
theorem cellsP : Tryz.prog.cellsOf 26 = 3 := by kernel_rfl
theorem bytesIn : 1 ≤ Tryz.prog.bytesOf 37 := of_decide_eq_true (by kernel_rfl)
theorem bytesFn : 1 ≤ Tryz.prog.bytesOf 76 := of_decide_eq_true (by kernel_rfl)
theorem bytesOb : 1 ≤ Tryz.prog.bytesOf 86 := of_decide_eq_true (by kernel_rfl)
theorem bytesVr : 1 ≤ Tryz.prog.bytesOf 88 := of_decide_eq_true (by kernel_rfl)
theorem list4 {α : Type} {cs : List α} (h : cs.length = 4) : ∃ a b c d,cs = [a,b,c,d] := by
 match cs,h with
 | [a,b,c,d],_ => exact ⟨a,b,c,d,rfl⟩
theorem list6 {α : Type} {cs : List α} (h : cs.length = 6) : ∃ a b c d e f,cs = [a,b,c,d,e,f] := by
 match cs,h with
 | [a,b,c,d,e,f],_ => exact ⟨a,b,c,d,e,f,rfl⟩
section
variable {H : Type} {enc : TypeId × Value → H} {W : World} {base : Nat} {spare : Nat → Bool} {held : Bool}
theorem one_s {n : Nat} {c : Value} {y : DataW H × List MemPlace} (h : DataW.trod enc Tryz.prog W base spare held n 9 [c] = some y) (hs : Small 9 y.1) : ∃ a : ByteArray,c = .string a ∧ a.size ≤ 140737488355328 := by
 obtain ⟨a,e,rfl,_⟩ := DataW.trod_string Tryz.underlying9 h
 have h1 := hs a.data.toList.length (by unfold DataW.weights;exact List.mem_singleton_self _)
 refine ⟨a,List.head_eq_of_cons_eq e, ?_⟩
 have h2 : a.data.toList.length = a.size := by rw [Array.length_toList];rfl
 rw [h2] at h1
 unfold reachBytes at h1
 omega
theorem one_ins (n : Nat) (cs : List Value) (y : DataW H × List MemPlace) (h : DataW.trod enc Tryz.prog W base spare held n 37 cs = some y) (hs : Small 37 y.1) : cs.length = 5 ∧ ∃ x,RIns W x cs := by
 obtain ⟨m,hl,hf⟩ := fld Tryz.underlying37 h hs
 rw [cellsIn] at hl
 obtain ⟨c0,c1,c2,c3,c4,rfl⟩ := list5 hl
 obtain ⟨z0,t0,s0⟩ := hf 0 3 0 1 _ rfl rfl rfl cellsI
 obtain ⟨z1,t1,s1⟩ := hf 1 3 1 1 _ rfl rfl rfl cellsI
 obtain ⟨z2,t2,s2⟩ := hf 2 3 2 1 _ rfl rfl rfl cellsI
 obtain ⟨z3,t3,s3⟩ := hf 3 3 3 1 _ rfl rfl rfl cellsI
 obtain ⟨z4,t4,s4⟩ := hf 4 35 4 1 _ rfl rfl rfl cellsSl
 simp only [List.drop_zero,List.drop_succ_cons,List.take_succ_cons,List.take_zero] at t0 t1 t2 t3 t4
 obtain ⟨a,rfl,ia⟩ := one_i t0
 obtain ⟨b,rfl,ib⟩ := one_i t1
 obtain ⟨c,rfl,ic⟩ := one_i t2
 obtain ⟨d,rfl,id⟩ := one_i t3
 obtain ⟨A,m,k,xs,rfl,h1,h2⟩ := sl_int t4 s4
 exact ⟨rfl,⟨a,b,c,d,xs⟩,A,m,k,rfl,ia,ib,ic,id,h1,h2⟩
theorem one_fnc (n : Nat) (cs : List Value) (y : DataW H × List MemPlace) (h : DataW.trod enc Tryz.prog W base spare held n 76 cs = some y) (hs : Small 76 y.1) : cs.length = 6 ∧ ∃ x,RFnc W x cs := by
 obtain ⟨m,hl,hf⟩ := fld Tryz.underlying76 h hs
 rw [cellsFn] at hl
 obtain ⟨c0,c1,c2,c3,c4,c5,rfl⟩ := list6 hl
 obtain ⟨z0,t0,s0⟩ := hf 0 9 0 1 _ rfl rfl rfl cellsSt
 obtain ⟨z1,t1,s1⟩ := hf 1 3 1 1 _ rfl rfl rfl cellsI
 obtain ⟨z2,t2,s2⟩ := hf 2 3 2 1 _ rfl rfl rfl cellsI
 obtain ⟨z3,t3,s3⟩ := hf 3 3 3 1 _ rfl rfl rfl cellsI
 obtain ⟨z4,t4,s4⟩ := hf 4 4 4 1 _ rfl rfl rfl cellsBo
 obtain ⟨z5,t5,s5⟩ := hf 5 74 5 1 _ rfl rfl rfl cellsSI
 simp only [List.drop_zero,List.drop_succ_cons,List.take_succ_cons,List.take_zero] at t0 t1 t2 t3 t4 t5
 obtain ⟨a,rfl,ia⟩ := one_s t0 s0
 obtain ⟨b,rfl,ib⟩ := one_i t1
 obtain ⟨c,rfl,ic⟩ := one_i t2
 obtain ⟨d,rfl,id⟩ := one_i t3
 obtain ⟨e,rfl⟩ := one_b t4
 obtain ⟨A,m,k,xs,e5,h1,h2⟩ := rsl_of Tryz.underlying74 cellsIn (by decide) bytesIn one_ins t5 s5
 obtain rfl : c5 = .slice A m k := by simpa using e5
 exact ⟨rfl,⟨a,b,c,d,e,xs⟩,A,m,k,rfl,ia,ib,ic,id,h1,h2⟩
theorem one_ob (n : Nat) (cs : List Value) (y : DataW H × List MemPlace) (h : DataW.trod enc Tryz.prog W base spare held n 86 cs = some y) (hs : Small 86 y.1) : cs.length = 4 ∧ ∃ x,ROb W x cs := by
 obtain ⟨m,hl,hf⟩ := fld Tryz.underlying86 h hs
 rw [cellsOb] at hl
 obtain ⟨c0,c1,c2,c3,rfl⟩ := list4 hl
 obtain ⟨z0,t0,s0⟩ := hf 0 9 0 1 _ rfl rfl rfl cellsSt
 obtain ⟨z1,t1,s1⟩ := hf 1 3 1 1 _ rfl rfl rfl cellsI
 obtain ⟨z2,t2,s2⟩ := hf 2 3 2 1 _ rfl rfl rfl cellsI
 obtain ⟨z3,t3,s3⟩ := hf 3 3 3 1 _ rfl rfl rfl cellsI
 simp only [List.drop_zero,List.drop_succ_cons,List.take_succ_cons,List.take_zero] at t0 t1 t2 t3
 obtain ⟨a,rfl,ia⟩ := one_s t0 s0
 obtain ⟨b,rfl,ib⟩ := one_i t1
 obtain ⟨c,rfl,ic⟩ := one_i t2
 obtain ⟨d,rfl,id⟩ := one_i t3
 exact ⟨rfl,⟨a,b,c,d⟩,rfl,ia,ib,ic,id⟩
theorem one_vr (n : Nat) (cs : List Value) (y : DataW H × List MemPlace) (h : DataW.trod enc Tryz.prog W base spare held n 88 cs = some y) (hs : Small 88 y.1) : cs.length = 3 ∧ ∃ x,RVr W x cs := by
 obtain ⟨m,hl,hf⟩ := fld Tryz.underlying88 h hs
 rw [cellsVr] at hl
 obtain ⟨c0,c1,c2,rfl⟩ := list3 hl
 obtain ⟨z0,t0,s0⟩ := hf 0 9 0 1 _ rfl rfl rfl cellsSt
 obtain ⟨z1,t1,s1⟩ := hf 1 3 1 1 _ rfl rfl rfl cellsI
 obtain ⟨z2,t2,s2⟩ := hf 2 4 2 1 _ rfl rfl rfl cellsBo
 simp only [List.drop_zero,List.drop_succ_cons,List.take_succ_cons,List.take_zero] at t0 t1 t2
 obtain ⟨a,rfl,ia⟩ := one_s t0 s0
 obtain ⟨b,rfl,ib⟩ := one_i t1
 obtain ⟨c,rfl⟩ := one_b t2
 exact ⟨rfl,⟨a,b,c⟩,rfl,ia,ib⟩
theorem one_prg (n : Nat) (cs : List Value) (y : DataW H × List MemPlace) (h : DataW.trod enc Tryz.prog W base spare held n 26 cs = some y) (hs : Small 26 y.1) : ∃ p,RPrg W p (.agg cs.toArray) := by
 obtain ⟨m,hl,hf⟩ := fld Tryz.underlying26 h hs
 rw [cellsP] at hl
 obtain ⟨c0,c1,c2,rfl⟩ := list3 hl
 obtain ⟨z0,t0,s0⟩ := hf 0 22 0 1 _ rfl rfl rfl cellsSFn
 obtain ⟨z1,t1,s1⟩ := hf 1 23 1 1 _ rfl rfl rfl cellsSO
 obtain ⟨z2,t2,s2⟩ := hf 2 24 2 1 _ rfl rfl rfl cellsSV
 simp only [List.drop_zero,List.drop_succ_cons,List.take_succ_cons,List.take_zero] at t0 t1 t2
 obtain ⟨A0,m0,k0,x0,e0,h0,l0⟩ := rsl_of Tryz.underlying22 cellsFn (by decide) bytesFn one_fnc t0 s0
 obtain rfl : c0 = .slice A0 m0 k0 := by simpa using e0
 obtain ⟨A1,m1,k1,x1,e1,h1,l1⟩ := rsl_of Tryz.underlying23 cellsOb (by decide) bytesOb one_ob t1 s1
 obtain rfl : c1 = .slice A1 m1 k1 := by simpa using e1
 obtain ⟨A2,m2,k2,x2,e2,h2,l2⟩ := rsl_of Tryz.underlying24 cellsVr (by decide) bytesVr one_vr t2 s2
 obtain rfl : c2 = .slice A2 m2 k2 := by simpa using e2
 exact ⟨⟨x0,x1,x2⟩,_,_,_,_,_,_,_,_,_,rfl,h0,h1,h2,l0,l1,l2⟩
set_option maxRecDepth 8000 in
theorem prg_in {r : Reach} {base2 : Nat} {v : Value} {d : DataW H} {ps : List MemPlace} (hv : Value.okWide Tryz.prog W r base2 26 v) (h : DataW.Trod enc Tryz.prog W base spare held 26 v d ps) (hs : Small 26 d) : ∃ p,RPrg W p v := by
 obtain ⟨cs,rfl,hsz⟩ := okWide_struct Tryz.underlying26 hv
 obtain ⟨fuel,hf⟩ := h
 obtain ⟨t,ht⟩ := one_prg fuel cs.toList (d,ps) hf hs
 have e : cs.toList.toArray = cs := Array.toArray_toList
 rw [e] at ht
 exact ⟨t,ht⟩
end
end Go.Proofs.YtcjjoabofecjmaaGreat

