/- A part of the proof: What Start and Current of chapter 28 return, in plain logic;. -/
import Derived.Test.YtcjjoabofecjmaaQ19
set_option linter.unusedVariables false
set_option linter.unusedSimpArgs false
set_option maxHeartbeats 16000000
namespace Go.Proofs.Ytcjjoabofecjmaa
open Go.RowKit
open Go.Value (int)
def firstTsk (f : Int) (g : Fnc) (args : List Int) (scope : Int) : Tsk :=
 { zeroTsk with fn := f,scope := scope,prio := g.prio,status := 1,frames := [⟨f,0,regsOf g.regs.toNat args,-1,false⟩],blocks := [⟨-1,0,0,0,[]⟩] }
def startS (p : Prg) (f : Int) (args : List Int) (scope : Int) : Tsk × Int :=
 if checkS p ≠ 0 then (zeroTsk,1)
 else match fnAt p f with
  | none => (zeroTsk,2)
  | some g => if g.cleanup = true then (zeroTsk,16)
   else if (args.length : Int) ≠ g.params then (zeroTsk,10)
   else if args.all numB = false ∨ scope < 0 ∨ 32 ≤ scope then (zeroTsk,2)
   else (firstTsk f g args scope,0)
def zeroIns : Ins := ⟨0,0,0,0,[]⟩
def nowS (p : Prg) (t : Tsk) : Option Ins := match t.frames[t.frames.length - 1]? with
 | none => none
 | some f => match fnAt p f.fn with
  | none => none
  | some g => if f.pc < 0 then none else g.code[f.pc.toNat]?
def currentS (p : Prg) (t : Tsk) : Ins × Bool :=
 if tcheckS p t ≠ 0 ∨ t.frames.length = 0 then (zeroIns,false) else match nowS p t with | none => (zeroIns,false) | some x => (x,true)
theorem own_ints {w : World} {B : Nat} {A : Option Addr} {n c : Nat} {xs : List Int} (h : w.ownsRow B 3 1 (.slice A n c) n (xs.map (int .i64))) (hn : n ≤ 1000) (hi : ∀ x ∈ xs,InR x) : RSl 1 RInt w A n xs ∧ n ≤ c := by
 obtain ⟨A',c',e,hc,_,hcs⟩ := ownsRow_shape h
 injection e with e1 e2 e3
 subst e1 e3
 have hl : n = xs.length := by have := hcs.1;rw [List.length_map] at this;omega
 refine ⟨⟨hl,by omega,fun q x hq => ?_⟩,hc⟩
 obtain ⟨b2,o2,rfl,hcell2⟩ := hcs.2 (by have := (List.getElem?_eq_some_iff.1 hq).1;omega)
 refine ⟨b2,o2,[int .i64 x],rfl,rfl,⟨rfl,hi x (List.mem_of_getElem? hq)⟩,fun j u hj => ?_⟩
 cases j with
 | zero =>
  simp only [List.getElem?_cons_zero,Option.some.injEq] at hj
  subst hj
  have := hcell2 q (int .i64 x) (by rw [List.getElem?_map,hq];rfl)
  simpa using this
 | succ j => simp at hj
theorem range_sets_other {w : World} {b o b' o' : Nat} {cs vs : List Value} (h : w.rangeAt b o cs) (hb : ¬ b = b') : (w.setCells b' o' vs).rangeAt b o cs := fun j v hj => by
 rw [World.cell?_setCells_out b' vs o' w _ (fun h1 _ => absurd h1 hb)]
 exact h j v hj
theorem one_frame {W : World} {bF g5 N : Nat} {fn result : Int} {cl : Bool} {xs : List Int} (h : W.rangeAt bF 0 [int .i64 fn,int .i64 0,.slice (some ⟨g5,0,none⟩) N N,int .i64 result,.bool cl]) (hr : RSl 1 RInt W (some ⟨g5,0,none⟩) N xs) (h1 : InR fn) (h2 : InR result) :
  RSl 5 RFrm W (some ⟨bF,0,none⟩) 1 [⟨fn,0,xs,result,cl⟩] := by
 refine ⟨rfl,by omega,fun k x hk => ?_⟩
 cases k with
 | succ k => simp at hk
 | zero =>
  simp only [List.getElem?_cons_zero,Option.some.injEq] at hk
  subst hk
  exact ⟨bF,0,_,rfl,rfl,⟨_,_,_,rfl,h1,zero_in,h2,hr,Nat.le_refl _⟩,fun j v hj => by rw [Nat.zero_mul,Nat.add_zero];exact h j v hj⟩
theorem one_block {W : World} {bB : Nat} (h : W.rangeAt bB 0 [int .i64 (-1),int .i64 0,int .i64 0,int .i64 0,.slice none 0 0]) : RSl 5 RBlk W (some ⟨bB,0,none⟩) 1 [⟨-1,0,0,0,[]⟩] := by
 refine ⟨rfl,by omega,fun k x hk => ?_⟩
 cases k with
 | succ k => simp at hk
 | zero =>
  simp only [List.getElem?_cons_zero,Option.some.injEq] at hk
  subst hk
  exact ⟨bB,0,_,rfl,rfl,⟨_,_,_,rfl,by constructor <;> decide,zero_in,zero_in,zero_in,RSl.nil _,Nat.le_refl _⟩,fun j v hj => by rw [Nat.zero_mul,Nat.add_zero];exact h j v hj⟩
theorem regsOf_in {N : Nat} {xs : List Int} (h : ∀ x ∈ xs,InR x) : ∀ x ∈ regsOf N xs,InR x := fun x hx => by
 rcases List.mem_append.1 hx with h1 | h1
 ·exact h x h1
 ·rw [List.eq_of_mem_replicate h1];exact zero_in
def startL (k : Nat) (g : Fnc) (scope : Int) (bF bB : Nat) : List Value := [int .i64 k,int .i64 scope,int .i64 g.prio,int .i64 1,int .i64 0,int .i64 0,.bool false,.slice (some ⟨bF,0,none⟩) 1 1,.slice (some ⟨bB,0,none⟩) 1 1,int .i64 0,.bool false,int .i64 0,int .i64 0,int .i64 0]
theorem start_fin2 {w Y : World} {k bF bB g5 N B : Nat} {g : Fnc} {args : List Int} {scope : Int} (hN : g.regs = (N : Int)) (hN2 : N ≤ 1000)
  (hF : Y.rangeAt bF 0 [int .i64 k,int .i64 0,.slice (some ⟨g5,0,none⟩) N N,int .i64 (-1),.bool false]) (hBl : Y.rangeAt bB 0 [int .i64 (-1),int .i64 0,int .i64 0,int .i64 0,.slice none 0 0]) (ho : Y.ownsRow B 3 1 (.slice (some ⟨g5,0,none⟩) N N) N ((regsOf N args).map (int .i64)))
  (ha : ∀ x ∈ args,InR x) (hk : InR (k : Int)) (hs : InR scope) (hp : InR g.prio) :
  RTsk Y (firstTsk k g args scope) (.agg (startL k g scope bF bB).toArray) := by
 have e : g.regs.toNat = N := by omega
 refine rtsk_of (t := firstTsk k g args scope) ⟨hk,hs,hp,by constructor <;> (show _ ≤ (_ : Int)) <;> simp [firstTsk],zero_in,zero_in,zero_in,zero_in,zero_in,zero_in⟩ ?_ (Nat.le_refl 1) ?_ (Nat.le_refl 1)
 ·show RSl 5 RFrm _ _ _ [⟨(k : Int),0,regsOf g.regs.toNat args,-1,false⟩]
  rw [e]
  exact one_frame hF (own_ints ho hN2 (regsOf_in ha)).1 hk (by constructor <;> decide)
 ·exact one_block hBl
theorem chain14 (X : World) (b : Nat) (v0 v1 v2 v3 v4 v5 v6 v7 v8 v9 v10 v11 v12 v13 : Value) : ((((((((((((((X.setCell ⟨b,0,none⟩ v0).setCell ⟨b,1,none⟩ v1).setCell ⟨b,2,none⟩ v2).setCell ⟨b,3,none⟩ v3).setCell ⟨b,4,none⟩ v4).setCell ⟨b,5,none⟩ v5).setCell ⟨b,6,none⟩ v6).setCell ⟨b,7,none⟩ v7).setCell ⟨b,8,none⟩ v8).setCell ⟨b,9,none⟩ v9).setCell ⟨b,10,none⟩ v10).setCell ⟨b,11,none⟩ v11).setCell ⟨b,12,none⟩ v12).setCell ⟨b,13,none⟩ v13) = X.setCells b 0 [v0,v1,v2,v3,v4,v5,v6,v7,v8,v9,v10,v11,v12,v13] := rfl
theorem check_params {p : Prg} (h : checkS p = 0) : ∀ g : Fnc,g ∈ p.funcs → g.params ≤ g.regs := fun g hg => by
 obtain ⟨i,hi,rfl⟩ := List.getElem_of_mem hg
 have h1 := check_fn h hi
 unfold checkFnS at h1
 rw [List.getElem?_eq_getElem hi] at h1
 dsimp only at h1
 split at h1
 ·cases h1
 ·split at h1
  ·cases h1
  ·split at h1
   ·cases h1
   ·rename_i h2
    simp only [not_or,Bool.not_eq_false,inB_iff] at h2
    omega
set_option maxRecDepth 4000 in
theorem Start_ok (p : Prg) (k : Nat) (g : Fnc) (args : List Int) (scope : Int) (VP : Value) (A : Option Addr) (n c : Nat) (w : World) (hP : RPrg w p VP) (hA : RSl 1 RInt w A n args) (hf : InR (k : Int)) (hs : InR scope)
  (hc : checkS p = 0) (hfn : fnAt p k = some g) (hcl : g.cleanup = false) (hpm : (n : Int) = g.params) (hq : args.all numB = true) (hs0 : ¬ scope < 0) (hs1 : ¬ (32 : Int) ≤ scope) :
  Calls Try.prog 6 #[VP,int .i64 k,.slice A n c,int .i64 scope] w fun e w' => ∃ V',e = .returned (.tuple #[V',int .i64 0]) ∧ RTsk w' (firstTsk k g args scope) V' ∧ Ext w w' := by
 have HC := Lib.hid (fun W h => Check_any p VP W (hP.mono h))
 obtain ⟨Af,nf,cf,Ao,no,co,Av,nv,cv,rfl,hF,hO,hVr,hcf,hco,hcv⟩ := hP
 clear hO hVr hcf hco hcv
 have hle := hF.le
 have hnl := hA.le
 have HL := Lib.hid hF.len
 have HN := Lib.hid hA.len
 have HA := Lib.hid hA
 have HFI := Lib.hid hf
 have HSI := Lib.hid hs
 have HF := Lib.hid hF
 have HPO := Lib.hid (check_regs hc)
 have HC0 := Lib.hid hc
 rw [hc] at HC
 obtain ⟨h0,h1,h2⟩ := fnAt_some hfn
 obtain ⟨b,off,Ac,nc,cc,rfl,hlb,hsz,i1,i2,i3,⟨hCd,hcc⟩,c0,c1,c2,c3,c4,c5⟩ := HF.out.fnc h2
 have hlt : (k : Int) < (nf : Int) := by have := HL.out;omega
 have hf0 : ¬ (k : Int) < 0 := by omega
 have hf1 : ¬ (nf : Int) ≤ (k : Int) := by omega
 have hrg := HPO.out g (List.mem_of_getElem? h2)
 have HG2 := Lib.hid i3
 have HO : Hid (∀ W,Ext w W → Calls Try.prog 13 #[.slice A n c,.func (.func 14) #[] #[]] W fun e w' => e = .returned (.bool (!true)) ∧ Ext W w') := fun W hW => by
  have := outs_any A n c args W (HA.out.mono RInt.stays hW)
  rw [hq] at this
  exact this
 have e0 : ((n : Int) != g.params) = false := by simpa using hpm
 have HPR : Hid ((n : Int) = g.params ∧ g.params ≤ g.regs) := ⟨hpm,check_params hc g (List.mem_of_getElem? h2)⟩
 rw [hcl] at c4
 clear hF hA hf hs hc hfn h1 h2 i1 i2 i3 hCd hcl hpm hq
 rw [Int.toNat_natCast] at c0 c1 c2 c3 c4 c5
 go_enter Try.func6,Try.ntmps6
 go_wp2_with (first | ((with_reducible refine ik 44 ?_);refine stm rfl rfl rfl rfl (by exact tr) infoTsk (all_oneCell_toArray (by simp [Value.oneCell'])) ?_;(try dsimp only [Act.put])) | (go_at_call 12;refine (HC.out _ xt).mono ?_;rintro e w1 ⟨rfl,hb⟩;have Z1 := range_ext (b := w.heap.size + 1) (o := 0) (cs := [int .i64 0,int .i64 0,int .i64 0,int .i64 0,int .i64 0,int .i64 0,.bool false,.slice none 0 0,.slice none 0 0,int .i64 0,.bool false,int .i64 0,int .i64 0,int .i64 0]) (by exact rg) hb;have T1 := there_ext (b := w.heap.size + 1) (o := 0) (n := 14) (by exact tr) hb;obtain ⟨hc,hf,hs,he⟩ := Ext.use (w := w) hb xt;clear hb;(try simp only [World.size_alloc] at hs)) | (go_at_call 13;refine (HO.out _ xt).mono ?_;rintro e w2 ⟨rfl,hb⟩;have Z2 := range_ext Z1 hb;have T2 := there_ext T1 hb;obtain ⟨hc2,hf2,hs2,he2⟩ := Ext.use (w := w) hb xt;clear hb))
 refine wp_hid2 ?_
 intro W4 HW4
 have HE4 : Ext w W4 := by rw [HW4.out];exact he2
 have T4 : W4.there (w.heap.size + 1) 0 14 := by rw [HW4.out];exact T2
 have k0 : W4.cell? ⟨w.heap.size,0,none⟩ = some (.slice (some ⟨b,off,none⟩) nf cf) := by rw [HW4.out,hc2,if_pos (by omega),hc];simp [go_sem]
 have hs4 : w.heap.size + 1 < W4.heap.size := by rw [HW4.out];omega
 have F4 : ∀ o,W4.frozen? ⟨w.heap.size + 1,o,none⟩ = false := fun o => by rw [HW4.out,hf2,if_pos (by omega),hf,if_pos (by simp)];simp [go_sem]
 have Z4 : W4.rangeAt (w.heap.size + 1) 0 [int .i64 0,int .i64 0,int .i64 0,int .i64 0,int .i64 0,int .i64 0,.bool false,.slice none 0 0,.slice none 0 0,int .i64 0,.bool false,int .i64 0,int .i64 0,int .i64 0] := by rw [HW4.out];exact Z2
 have z0 : W4.cell? ⟨w.heap.size + 1,0,none⟩ = some (int .i64 0) := Z4 0 _ rfl
 have z1 : W4.cell? ⟨w.heap.size + 1,1,none⟩ = some (int .i64 0) := Z4 1 _ rfl
 have z2 : W4.cell? ⟨w.heap.size + 1,2,none⟩ = some (int .i64 0) := Z4 2 _ rfl
 have z3 : W4.cell? ⟨w.heap.size + 1,3,none⟩ = some (int .i64 0) := Z4 3 _ rfl
 have z4 : W4.cell? ⟨w.heap.size + 1,4,none⟩ = some (int .i64 0) := Z4 4 _ rfl
 have z5 : W4.cell? ⟨w.heap.size + 1,5,none⟩ = some (int .i64 0) := Z4 5 _ rfl
 have z6 : W4.cell? ⟨w.heap.size + 1,6,none⟩ = some (.bool false) := Z4 6 _ rfl
 have z7 : W4.cell? ⟨w.heap.size + 1,7,none⟩ = some (.slice none 0 0) := Z4 7 _ rfl
 have z8 : W4.cell? ⟨w.heap.size + 1,8,none⟩ = some (.slice none 0 0) := Z4 8 _ rfl
 have z9 : W4.cell? ⟨w.heap.size + 1,9,none⟩ = some (int .i64 0) := Z4 9 _ rfl
 have z10 : W4.cell? ⟨w.heap.size + 1,10,none⟩ = some (.bool false) := Z4 10 _ rfl
 have z11 : W4.cell? ⟨w.heap.size + 1,11,none⟩ = some (int .i64 0) := Z4 11 _ rfl
 have z12 : W4.cell? ⟨w.heap.size + 1,12,none⟩ = some (int .i64 0) := Z4 12 _ rfl
 have z13 : W4.cell? ⟨w.heap.size + 1,13,none⟩ = some (int .i64 0) := Z4 13 _ rfl
 clear HW4 hc hc2 hf hf2 T1 T2
 obtain ⟨N,hN⟩ : ∃ N : Nat,g.regs = (N : Int) := ⟨g.regs.toNat,by omega⟩
 have d0 := HE4.cell c0
 have d1 := HE4.cell c1
 have d2 := HE4.cell c2
 rw [hN] at d2
 have d3 := HE4.cell c3
 have d4 := HE4.cell c4
 have d5 := HE4.cell c5
 have hlb4 : b < W4.heap.size := Nat.lt_of_lt_of_le hlb HE4.size
 clear c0 c1 c2 c3 c4 c5
 have hs6 : w.heap.size < W4.heap.size := by omega
 have hbn1 : ¬ b = w.heap.size + 1 := by omega
 have hbn2 : ¬ w.heap.size + 1 = b := by omega
 have HNN := Lib.hid hN
 have HLE : Hid (args.length ≤ N) := by have h1 := HN.out;have h2 := HPR.out;rw [Hid];omega
 go_region_held3 (fun W' => W'.cell? ⟨w.heap.size,0,none⟩ = some (.slice (some ⟨b,off,none⟩) nf cf) ∧ W'.cell? ⟨b,off + k * 6,none⟩ = some (.string g.name) ∧ W'.cell? ⟨b,off + k * 6 + 1,none⟩ = some (int .i64 g.params) ∧ W'.cell? ⟨b,off + k * 6 + 2,none⟩ = some (int .i64 (N : Int)) ∧ W'.cell? ⟨b,off + k * 6 + 3,none⟩ = some (int .i64 g.prio) ∧ W'.cell? ⟨b,off + k * 6 + 4,none⟩ = some (.bool false) ∧ W'.cell? ⟨b,off + k * 6 + 5,none⟩ = some (.slice Ac nc cc))
  ((repeat' (with_reducible apply And.intro)) <;> (go_simp;done))
  ((go_at_call 15;refine (registers_any _ _ _ _ _ N args A n c _ (HA.out.mono RInt.stays xt) HLE.out (by omega)).mono ?_;rintro e w5 ⟨g5,rfl,hg5,hown5,hb5⟩;have HB5 := Lib.hid hb5;obtain ⟨hc5,hf5,hs5,he5⟩ := Ext.use (w := W4) hb5 xt;clear hb5;(try simp only [World.size_drew,World.size_alloc] at hs5);have hs7 : w.heap.size < w5.heap.size := (by omega);have hlb5 : b < w5.heap.size := (by omega);have hs8 : w.heap.size + 1 < w5.heap.size := (by omega)))
 all_goals
  have HAI : Hid (∀ x ∈ args,InR x) := fun x hx => by
   obtain ⟨i,hi,rfl⟩ := List.getElem_of_mem hx
   exact (HA.out.int (List.getElem?_eq_getElem hi)).choose_spec.choose_spec.2.2.1
  have he45 := HE4.trans he5
  have T5 := there_ext T4 he5
  generalize hWF : World.setCell _ _ _ = WF
  have HWF := Lib.hid hWF
  clear hWF
  go_wp2
 ·obtain ⟨B5,hB5,hown5⟩ : ∃ B,w.heap.size + 2 ≤ B ∧ w5.ownsRow B 3 1 (.slice (some ⟨g5,0,none⟩) N N) N ((regsOf N args).map (int .i64)) := ⟨_,by simp;omega,hown5⟩
  have hW2 := HWF.out
  rw [chain14] at hW2
  have RW : WF.rangeAt (w.heap.size + 1) 0 (startL k g scope (w5.heap.size) (w5.heap.size + 1)) := by
   rw [← hW2]
   exact World.rangeAt_setCells_same _ _ 0 _ (by show World.there _ _ 0 14;exact tr)
  have EW : Ext w WF := by rw [← hW2];exact he45.setCells (by omega) 0 _
  have OW : WF.ownsRow B5 3 1 (.slice (some ⟨g5,0,none⟩) N N) N ((regsOf N args).map (int .i64)) := by rw [← hW2];exact own_setCells hown5 (by omega)
  have SW : WF.heap.size = w5.heap.size := by rw [← hW2];exact setCells_size _ _ _ _
  refine ret_range2 (b := w.heap.size + 1) (cs := startL k g scope (w5.heap.size) (w5.heap.size + 1)) Try.results6 rfl rfl rfl rfl (range_old (range_old RW _) _) ⟨_,rfl,start_fin2 (B := B5) (N := N) (g5 := g5) (g := g) (args := args) (w := w) HNN.out (by omega) ?_ ?_ (ownsRow_ext OW ?_) HAI.out HFI.out HSI.out HG2.out, ?_⟩
  ·exact range_old (range_new (t := 57) SW.symm) _
  ·exact range_new (by simp [SW])
  ·exact xt
  ·exact xt
 ·obtain ⟨B5,hB5,hown5⟩ : ∃ B,w.heap.size + 2 ≤ B ∧ w5.ownsRow B 3 1 (.slice (some ⟨g5,0,none⟩) N N) N ((regsOf N args).map (int .i64)) := ⟨_,by simp;omega,hown5⟩
  have hW2 := HWF.out
  rw [chain14] at hW2
  have RW : WF.rangeAt (w.heap.size + 1) 0 (startL k g scope (w5.heap.size + 1) (w5.heap.size)) := by
   rw [← hW2]
   exact World.rangeAt_setCells_same _ _ 0 _ (by show World.there _ _ 0 14;exact tr)
  have EW : Ext w WF := by rw [← hW2];exact he45.setCells (by omega) 0 _
  have OW : WF.ownsRow B5 3 1 (.slice (some ⟨g5,0,none⟩) N N) N ((regsOf N args).map (int .i64)) := by rw [← hW2];exact own_setCells hown5 (by omega)
  have SW : WF.heap.size = w5.heap.size := by rw [← hW2];exact setCells_size _ _ _ _
  refine ret_range2 (b := w.heap.size + 1) (cs := startL k g scope (w5.heap.size + 1) (w5.heap.size)) Try.results6 rfl rfl rfl rfl (range_old (range_old RW _) _) ⟨_,rfl,start_fin2 (B := B5) (N := N) (g5 := g5) (g := g) (args := args) (w := w) HNN.out (by omega) ?_ ?_ (ownsRow_ext OW ?_) HAI.out HFI.out HSI.out HG2.out, ?_⟩
  ·exact range_new (by simp [SW])
  ·exact range_old (range_new (t := 65) SW.symm) _
  ·exact xt
  ·exact xt
 ·obtain ⟨B5,hB5,hown5⟩ : ∃ B,w.heap.size + 2 ≤ B ∧ w5.ownsRow B 3 1 (.slice (some ⟨g5,0,none⟩) N N) N ((regsOf N args).map (int .i64)) := ⟨_,by simp;omega,hown5⟩
  have RB5 := range_ext (b := W4.heap.size) (o := 0) (cs := [int .i64 (-1),int .i64 0,int .i64 0,int .i64 0,.slice none 0 0]) (by exact rg) HB5.out
  have hW2 := HWF.out
  rw [chain14] at hW2
  have RW : WF.rangeAt (w.heap.size + 1) 0 (startL k g scope (w5.heap.size) (W4.heap.size)) := by
   rw [← hW2]
   exact World.rangeAt_setCells_same _ _ 0 _ (by show World.there _ _ 0 14;exact tr)
  have EW : Ext w WF := by rw [← hW2];exact he45.setCells (by omega) 0 _
  have OW : WF.ownsRow B5 3 1 (.slice (some ⟨g5,0,none⟩) N N) N ((regsOf N args).map (int .i64)) := by rw [← hW2];exact own_setCells hown5 (by omega)
  have SW : WF.heap.size = w5.heap.size := by rw [← hW2];exact setCells_size _ _ _ _
  have BW : WF.rangeAt W4.heap.size 0 [int .i64 (-1),int .i64 0,int .i64 0,int .i64 0,.slice none 0 0] := by rw [← hW2];exact range_sets_other RB5 (by omega)
  refine ret_range2 (b := w.heap.size + 1) (cs := startL k g scope (w5.heap.size) (W4.heap.size)) Try.results6 rfl rfl rfl rfl (range_old RW _) ⟨_,rfl,start_fin2 (B := B5) (N := N) (g5 := g5) (g := g) (args := args) (w := w) HNN.out (by omega) ?_ ?_ (ownsRow_ext OW ?_) HAI.out HFI.out HSI.out HG2.out, ?_⟩
  ·exact range_new SW.symm
  ·exact range_old BW _
  ·exact xt
  ·exact xt
set_option maxRecDepth 4000 in
theorem Start_any (p : Prg) (f : Int) (args : List Int) (scope : Int) (VP : Value) (A : Option Addr) (n c : Nat) (w : World) (hP : RPrg w p VP) (hA : RSl 1 RInt w A n args) (hf : InR f) (hs : InR scope) :
  Calls Try.prog 6 #[VP,int .i64 f,.slice A n c,int .i64 scope] w fun e w' => ∃ V',e = .returned (.tuple #[V',int .i64 (startS p f args scope).2]) ∧ RTsk w' (startS p f args scope).1 V' ∧ Ext w w' := by
 have HC := Lib.hid (fun W h => Check_any p VP W (hP.mono h))
 have HPP := Lib.hid hP
 obtain ⟨Af,nf,cf,Ao,no,co,Av,nv,cv,rfl,hF,hO,hVr,hcf,hco,hcv⟩ := hP
 clear hO hVr hcf hco hcv
 have hle := hF.le
 have hnl := hA.le
 have HL := Lib.hid hF.len
 have HN := Lib.hid hA.len
 have HA := Lib.hid hA
 have HFI := Lib.hid hf
 have HSI := Lib.hid hs
 have HF := Lib.hid hF
 clear hF hA hf hs
 by_cases hc : checkS p = 0
 rotate_left
 ·have HR : Hid (startS p f args scope = (zeroTsk,1)) := by unfold Hid startS;rw [if_pos hc]
  have hcb : (checkS p != 0) = true := by simpa using hc
  clear hc
  go_enter Try.func6,Try.ntmps6
  go_wp2_with (first | ((with_reducible refine ik 44 ?_);refine stm rfl rfl rfl rfl (by exact tr) infoTsk (all_oneCell_toArray (by simp [Value.oneCell'])) ?_;(try dsimp only [Act.put])) | (go_at_call 12;refine (HC.out _ xt).mono ?_;rintro e w1 ⟨rfl,hb⟩;have T1 := there_ext (b := w.heap.size + 1) (o := 0) (n := 14) (by exact tr) hb;obtain ⟨hc,hf,hs,he⟩ := Ext.use (w := w) hb xt;clear hb;(try simp only [World.size_alloc] at hs)))
  refine ret_range2 (b := w.heap.size + 1) Try.results6 rfl rfl rfl rfl (World.rangeAt_setCells_same _ _ 0 _ (by exact tr)) ?_
  rw [HR.out]
  exact ⟨_,rfl,zero_reads _,xts⟩
 have HPO := Lib.hid (check_regs hc)
 have HC0 := Lib.hid hc
 rw [hc] at HC
 cases hfn : fnAt p f with
 | none =>
  have HR : Hid (startS p f args scope = (zeroTsk,2)) := by unfold Hid startS;rw [if_neg (by simpa using hc),hfn]
  have h0 : ¬ f < 0 → (nf : Int) ≤ f := by rcases fnAt_none hfn with h | h <;> have := HL.out <;> omega
  clear hc hfn
  by_cases hf0 : f < 0
  ·clear h0
   go_enter Try.func6,Try.ntmps6
   go_wp2_with (first | ((with_reducible refine ik 44 ?_);refine stm rfl rfl rfl rfl (by exact tr) infoTsk (all_oneCell_toArray (by simp [Value.oneCell'])) ?_;(try dsimp only [Act.put])) | (go_at_call 12;refine (HC.out _ xt).mono ?_;rintro e w1 ⟨rfl,hb⟩;have T1 := there_ext (b := w.heap.size + 1) (o := 0) (n := 14) (by exact tr) hb;obtain ⟨hc,hf,hs,he⟩ := Ext.use (w := w) hb xt;clear hb;(try simp only [World.size_alloc] at hs)))
   refine ret_range2 (b := w.heap.size + 1) Try.results6 rfl rfl rfl rfl (World.rangeAt_setCells_same _ _ 0 _ (by exact tr)) ?_
   rw [HR.out]
   exact ⟨_,rfl,zero_reads _,xts⟩
  ·have h1 := h0 hf0
   clear h0
   go_enter Try.func6,Try.ntmps6
   go_wp2_with (first | ((with_reducible refine ik 44 ?_);refine stm rfl rfl rfl rfl (by exact tr) infoTsk (all_oneCell_toArray (by simp [Value.oneCell'])) ?_;(try dsimp only [Act.put])) | (go_at_call 12;refine (HC.out _ xt).mono ?_;rintro e w1 ⟨rfl,hb⟩;have T1 := there_ext (b := w.heap.size + 1) (o := 0) (n := 14) (by exact tr) hb;obtain ⟨hc,hf,hs,he⟩ := Ext.use (w := w) hb xt;clear hb;(try simp only [World.size_alloc] at hs)))
   refine ret_range2 (b := w.heap.size + 1) Try.results6 rfl rfl rfl rfl (World.rangeAt_setCells_same _ _ 0 _ (by exact tr)) ?_
   rw [HR.out]
   exact ⟨_,rfl,zero_reads _,xts⟩
 | some g =>
 obtain ⟨h0,h1,h2⟩ := fnAt_some hfn
 have hfn' := hfn
 have HR : Hid (startS p f args scope = if g.cleanup = true then (zeroTsk,16) else if (n : Int) ≠ g.params then (zeroTsk,10) else if args.all numB = false ∨ scope < 0 ∨ 32 ≤ scope then (zeroTsk,2) else (firstTsk f g args scope,0)) := by
  unfold Hid startS;rw [if_neg (by simpa using hc),hfn,HN.out]
 obtain ⟨b,off,Ac,nc,cc,rfl,hlb,hsz,i1,i2,i3,⟨hCd,hcc⟩,c0,c1,c2,c3,c4,c5⟩ := HF.out.fnc h2
 have hlt : f < (nf : Int) := by have := HL.out;omega
 have hf0 : ¬ f < 0 := by omega
 have hf1 : ¬ (nf : Int) ≤ f := by omega
 have hrg := HPO.out g (List.mem_of_getElem? h2)
 have HG2 := Lib.hid i3
 have HG0 := Lib.hid h2
 clear hc hfn h1 h2 i1 i2 i3 hCd
 have HO : Hid (∀ W,Ext w W → Calls Try.prog 13 #[.slice A n c,.func (.func 14) #[] #[]] W fun e w' => e = .returned (.bool (!args.all numB)) ∧ Ext W w') := fun W hW => outs_any A n c args W (HA.out.mono RInt.stays hW)
 obtain ⟨q,hq⟩ : ∃ q,args.all numB = q := ⟨_,rfl⟩
 rw [hq] at HR HO
 have HQA := Lib.hid hq
 have HFN := Lib.hid hfn'
 clear hq
 cases hcl : g.cleanup with
 | true =>
  rw [hcl] at c4
  have HR : Hid (startS p f args scope = (zeroTsk,16)) := by rw [Hid,HR.out,if_pos hcl]
  clear hcl
  go_enter Try.func6,Try.ntmps6
  go_wp2_with (first | ((with_reducible refine ik 44 ?_);refine stm rfl rfl rfl rfl (by exact tr) infoTsk (all_oneCell_toArray (by simp [Value.oneCell'])) ?_;(try dsimp only [Act.put])) | (go_at_call 12;refine (HC.out _ xt).mono ?_;rintro e w1 ⟨rfl,hb⟩;have T1 := there_ext (b := w.heap.size + 1) (o := 0) (n := 14) (by exact tr) hb;obtain ⟨hc,hf,hs,he⟩ := Ext.use (w := w) hb xt;clear hb;(try simp only [World.size_alloc] at hs)))
  refine ret_range2 (b := w.heap.size + 1) Try.results6 rfl rfl rfl rfl (World.rangeAt_setCells_same _ _ 0 _ (by exact tr)) ?_
  rw [HR.out]
  exact ⟨_,rfl,zero_reads _,xts⟩
 | false =>
 rw [hcl] at c4
 by_cases hpm : (n : Int) = g.params
 rotate_left
 ·have e0 : ((n : Int) != g.params) = true := by simpa using hpm
  have HR : Hid (startS p f args scope = (zeroTsk,10)) := by rw [Hid,HR.out,if_neg (by rw [hcl];decide),if_pos hpm]
  clear hcl hpm
  go_enter Try.func6,Try.ntmps6
  go_wp2_with (first | ((with_reducible refine ik 44 ?_);refine stm rfl rfl rfl rfl (by exact tr) infoTsk (all_oneCell_toArray (by simp [Value.oneCell'])) ?_;(try dsimp only [Act.put])) | (go_at_call 12;refine (HC.out _ xt).mono ?_;rintro e w1 ⟨rfl,hb⟩;have T1 := there_ext (b := w.heap.size + 1) (o := 0) (n := 14) (by exact tr) hb;obtain ⟨hc,hf,hs,he⟩ := Ext.use (w := w) hb xt;clear hb;(try simp only [World.size_alloc] at hs)))
  refine ret_range2 (b := w.heap.size + 1) Try.results6 rfl rfl rfl rfl (World.rangeAt_setCells_same _ _ 0 _ (by exact tr)) ?_
  rw [HR.out]
  exact ⟨_,rfl,zero_reads _,xts⟩
 have e0 : ((n : Int) != g.params) = false := by simpa using hpm
 have HR : Hid (startS p f args scope = if q = false ∨ scope < 0 ∨ 32 ≤ scope then (zeroTsk,2) else (firstTsk f g args scope,0)) := by
  rw [Hid,HR.out,if_neg (by rw [hcl];decide),if_neg (by simpa using hpm)]
 by_cases hbad : q = false ∨ scope < 0 ∨ 32 ≤ scope
 ·have HR : Hid (startS p f args scope = (zeroTsk,2)) := by rw [Hid,HR.out,if_pos hbad]
  clear hcl hpm
  have hb3 : q = true → ¬ scope < 0 → (32 : Int) ≤ scope := by
   rintro rfl h
   rcases hbad with h' | h' | h'
   ·cases h'
   ·exact absurd h' h
   ·exact h'
  clear hbad
  go_enter Try.func6,Try.ntmps6
  go_wp2_with (first | ((with_reducible refine ik 44 ?_);refine stm rfl rfl rfl rfl (by exact tr) infoTsk (all_oneCell_toArray (by simp [Value.oneCell'])) ?_;(try dsimp only [Act.put])) | (go_at_call 12;refine (HC.out _ xt).mono ?_;rintro e w1 ⟨rfl,hb⟩;have T1 := there_ext (b := w.heap.size + 1) (o := 0) (n := 14) (by exact tr) hb;obtain ⟨hc,hf,hs,he⟩ := Ext.use (w := w) hb xt;clear hb;(try simp only [World.size_alloc] at hs)) | (go_at_call 13;refine (HO.out _ xt).mono ?_;rintro e w2 ⟨rfl,hb⟩;have T2 := there_ext T1 hb;obtain ⟨hc2,hf2,hs2,he2⟩ := Ext.use (w := w) hb xt;clear hb))
  all_goals first
   | (refine ret_range2 (b := w.heap.size + 1) Try.results6 rfl rfl rfl rfl (World.rangeAt_setCells_same _ _ 0 _ (by exact tr)) ?_;rw [HR.out];exact ⟨_,rfl,zero_reads _,xts⟩)
   | (exfalso;simp_all;omega)
 ·have HR9 : Hid (startS p f args scope = (firstTsk f g args scope,0)) := by rw [Hid,HR.out,if_neg hbad]
  have hq1 : q = true := by cases q with | true => rfl | false => exact absurd (.inl rfl) hbad
  have hs0 : ¬ scope < 0 := fun h => hbad (.inr (.inl h))
  have hs1 : ¬ (32 : Int) ≤ scope := fun h => hbad (.inr (.inr h))
  subst hq1
  obtain ⟨k,rfl⟩ : ∃ k : Nat,f = (k : Int) := ⟨f.toNat,by omega⟩
  rw [HR9.out]
  exact Start_ok p k g args scope _ A n c w HPP.out HA.out HFI.out HSI.out HC0.out HFN.out hcl hpm HQA.out hs0 hs1
end Go.Proofs.Ytcjjoabofecjmaa

