/- A part of the proof: awake of nurserylaw28; awake of nurserylaw28 answers true. -/
import Derived.Test.YtcjjoabofecjmaaQ26
import Derived.Test.YtcjjoabofecjmaaQ30
set_option linter.unusedVariables false
set_option linter.unusedSimpArgs false
set_option maxHeartbeats 16000000
namespace Go.Proofs.Ytcjjoabofecjmaa
open Go.RowKit Go.Sort
open Go.Value (int)
def insRow (x : Ins) (v : Value) : List Value := [int .i64 x.op,int .i64 x.a,int .i64 x.b,int .i64 x.c,v]
def codeCells (xs : List Ins) : List Value := rowOf insRow xs (List.replicate xs.length (.slice none 0 0))
theorem rins_list {w : World} {C : Nat} {xs : List Ins} (h : w.rangeAt C 0 (codeCells xs)) (hx : ∀ x ∈ xs,x.args = [] ∧ InR x.op ∧ InR x.a ∧ InR x.b ∧ InR x.c) (hn : xs.length ≤ 1000) : RSl 5 RIns w (some ⟨C,0,none⟩) xs.length xs := by
 refine ⟨rfl,by omega,fun k x hk => ?_⟩
 have hlt := (List.getElem?_eq_some_iff.1 hk).1
 obtain ⟨h1,h2,h3,h4,h5⟩ := hx x (List.mem_of_getElem? hk)
 refine ⟨C,0,insRow x (.slice none 0 0),rfl,rfl,⟨none,0,0,rfl,h2,h3,h4,h5,by rw [h1];exact RSl.nil _,Nat.le_refl _⟩,fun j v hj => ?_⟩
 have hj5 : j < 5 := (List.getElem?_eq_some_iff.1 hj).1
 have h6 : (codeCells xs)[k * 5 + j]? = some v := by
  unfold codeCells
  rw [rowOf_get (k := 5) (fun _ _ => rfl) hk (List.getElem?_replicate_of_lt hlt) hj5];exact hj
 have := h (k * 5 + j) v h6
 rw [Nat.add_assoc]
 exact this
theorem rprg_one {w : World} {name : ByteArray} {regs : Int} {xs : List Ins} {C F c : Nat} (hC : w.rangeAt C 0 (codeCells xs)) (hF : w.rangeAt F 0 [.string name,int .i64 0,int .i64 regs,int .i64 0,.bool false,.slice (some ⟨C,0,none⟩) xs.length c]) (hc : xs.length ≤ c) (hname : name.size ≤ 1000) (hr : InR regs)
  (hx : ∀ x ∈ xs,x.args = [] ∧ InR x.op ∧ InR x.a ∧ InR x.b ∧ InR x.c) (hn : xs.length ≤ 1000) : RPrg w ⟨[⟨name,0,regs,0,false,xs⟩],[],[]⟩ (.agg #[.slice (some ⟨F,0,none⟩) 1 1,.slice none 0 0,.slice none 0 0]) := by
 refine ⟨_,_,_,_,_,_,_,_,_,rfl,⟨rfl,by decide,fun k x hk => ?_⟩,RSl.nil _,RSl.nil _,Nat.le_refl _,Nat.le_refl _,Nat.le_refl _⟩
 have hk0 : k = 0 := by have := (List.getElem?_eq_some_iff.1 hk).1;simpa using this
 subst hk0
 have hx0 : x = ⟨name,0,regs,0,false,xs⟩ := by simpa using hk.symm
 subst hx0
 refine ⟨F,0,_,rfl,rfl,⟨_,_,c,rfl,(show name.size ≤ 140737488355328 by omega),(show InR 0 from ⟨by decide,by decide⟩),hr,(show InR 0 from ⟨by decide,by decide⟩),rins_list hC hx hn,hc⟩,fun j v hj => ?_⟩
 have := hF j v hj
 simpa using this
def mainN : ByteArray := ⟨#[109,97,105,110]⟩
def codeA : List Ins := [⟨1,0,6,0,[]⟩,⟨1,1,7,0,[]⟩,⟨5,0,0,1,[]⟩,⟨41,0,0,0,[]⟩]
def codeB : List Ins := [⟨1,0,6,0,[]⟩,⟨1,1,0,0,[]⟩,⟨6,0,0,1,[]⟩,⟨41,0,0,0,[]⟩]
def prgA : Prg := ⟨[⟨mainN,0,2,0,false,codeA⟩],[],[]⟩
def prgB : Prg := ⟨[⟨mainN,0,2,0,false,codeB⟩],[],[]⟩
def tskAt (pc a b : Int) : Tsk := ⟨0,0,0,1,0,0,false,[⟨0,pc,[a,b],-1,false⟩],[⟨-1,0,0,0,[]⟩],0,false,0,0,0⟩
theorem codeA_in : ∀ x ∈ codeA,x.args = [] ∧ InR x.op ∧ InR x.a ∧ InR x.b ∧ InR x.c := fun x hx => by
 simp only [codeA,List.mem_cons,List.not_mem_nil,or_false] at hx
 rcases hx with rfl | rfl | rfl | rfl <;> simp [InR]
theorem codeB_in : ∀ x ∈ codeB,x.args = [] ∧ InR x.op ∧ InR x.a ∧ InR x.b ∧ InR x.c := fun x hx => by
 simp only [codeB,List.mem_cons,List.not_mem_nil,or_false] at hx
 rcases hx with rfl | rfl | rfl | rfl <;> simp [InR]
theorem codeA_one : ∀ u ∈ codeCells codeA,u.oneCell' = true := List.all_eq_true.1 (show (codeCells codeA).all (·.oneCell') = true by kernel_rfl)
theorem infoInsN : (Try.prog.info? 30).map (·.size) = some 5 := by kernel_rfl
theorem codeB_of : ((codeCells codeA).set 7 (int .i64 0)).set 10 (int .i64 6) = codeCells codeB := rfl
def tskCells (VF VB : Value) : List Value := [int .i64 0,int .i64 0,int .i64 0,int .i64 1,int .i64 0,int .i64 0,.bool false,VF,VB,int .i64 0,.bool false,int .i64 0,int .i64 0,int .i64 0]
theorem tsk_parts {w : World} {pc a b : Int} {V : Value} (h : RTsk w (tskAt pc a b) V) : ∃ gF oF cF Ab cb Ar cr,V = .agg (tskCells (.slice (some ⟨gF,oF,none⟩) 1 cF) (.slice Ab 1 cb)).toArray ∧ w.cell? ⟨gF,oF + 1,none⟩ = some (int .i64 pc) ∧ w.cell? ⟨gF,oF + 2,none⟩ = some (.slice Ar 2 cr) ∧ RSl 1 RInt w Ar 2 [a,b] := by
 obtain ⟨Af,nf,cf,Ab,nb,cb,rfl,_,_,_,_,_,_,_,_,_,_,hF,hB,_,_⟩ := h
 have h1 : nf = 1 := hF.len
 have h2 : nb = 1 := hB.len
 subst h1 h2
 obtain ⟨b2,off,Ar,nr,cr,rfl,_,_,_,_,⟨hR,_⟩,c0,c1,c2,_,_⟩ := hF.frm (k := 0) rfl
 have h3 : nr = 2 := hR.len
 subst h3
 exact ⟨b2,off,cf,Ab,cb,Ar,cr,rfl,by simpa using c1,by simpa using c2,hR⟩
theorem awk_start : startS prgA 0 [] 0 = (tskAt 0 0 0,0) := by kernel_rfl
theorem awk_go : advanceS prgA (tskAt 0 0 0) = (tskAt 3 42 7,⟨1,0,0⟩,0) := by kernel_rfl
theorem awk_now : currentS prgA (tskAt 3 42 7) = (⟨41,0,0,0,[]⟩,true) := by kernel_rfl
theorem awk_div : advanceS prgB (tskAt 0 0 0) = (tskAt 2 6 0,⟨3,6,0⟩,0) := by kernel_rfl
set_option maxRecDepth 8000 in
theorem awake_any (w : World) : Calls Try.prog 4 #[] w fun e w' => e = .returned (.bool true) ∧ Ext w w' := by
 go_enter Try.func4,Try.ntmps4
 go_upto_region 3 with fail
 refine wp_hid2 ?_
 intro W2 HW2
 have HE2 : Hid (Ext w W2) := by rw [Hid,HW2.out];exact xt
 have C2 : W2.rangeAt w.heap.size 0 (codeCells codeA) := by rw [HW2.out];exact range_old (range_old (range_new rfl) _) _
 have F2 : W2.rangeAt (w.heap.size + 1) 0 [.string mainN,int .i64 0,int .i64 2,int .i64 0,.bool false,.slice (some ⟨w.heap.size,0,none⟩) 4 4] := by rw [HW2.out];exact range_old (range_new (by simp)) _
 have P2 : W2.rangeAt (w.heap.size + 1 + 1) 0 [.slice (some ⟨w.heap.size + 1,0,none⟩) 1 1,.slice none 0 0,.slice none 0 0] := by rw [HW2.out];exact range_new (by simp)
 have HCs := Lib.hid C2
 have HPA := Lib.hid (rprg_one (xs := codeA) (regs := 2) (c := 4) C2 F2 (by decide) (by decide) ⟨by decide,by decide⟩ codeA_in (by decide))
 have HPR := Lib.hid P2
 have p0 : W2.cell? ⟨w.heap.size + 1 + 1,0,none⟩ = some (.slice (some ⟨w.heap.size + 1,0,none⟩) 1 1) := P2 0 _ rfl
 have p1 : W2.cell? ⟨w.heap.size + 1 + 1,1,none⟩ = some (.slice none 0 0) := P2 1 _ rfl
 have p2 : W2.cell? ⟨w.heap.size + 1 + 1,2,none⟩ = some (.slice none 0 0) := P2 2 _ rfl
 have HS := Lib.hid (Start_any prgA 0 [] 0 _ none 0 0 W2 HPA.out (RSl.nil _) ⟨by decide,by decide⟩ ⟨by decide,by decide⟩)
 rw [awk_start] at HS
 clear C2 F2 P2 HW2
 go_upto_region 4 with (first | ((with_reducible refine ik 44 ?_);refine stm rfl rfl rfl rfl (by exact tr) infoTsk (all_oneCell_toArray (by simp [Value.oneCell'])) ?_;(try dsimp only [Act.put])) | (go_at_call 6;refine HS.out.mono ?_;rintro e w3 ⟨V3,rfl,hT3,hb3⟩;have HT3 := Lib.hid hT3;have HB3 := Lib.hid hb3;obtain ⟨gF3,oF3,cF3,Ab3,cb3,Ar3,cr3,rfl,_⟩ := tsk_parts hT3;unfold tskCells at HT3 ⊢;clear hT3 hb3))
 refine wp_hid2 ?_
 intro W3 HW3
 have HE3 : Hid (Ext W2 W3) := by have h := HB3.out;have h2 := h.size;rw [Hid,HW3.out];exact xts
 have T3 : W3.rangeAt w3.heap.size 0 [int .i64 0,int .i64 0,int .i64 0,int .i64 1,int .i64 0,int .i64 0,.bool false,.slice (some ⟨gF3,oF3,none⟩) 1 cF3,.slice Ab3 1 cb3,int .i64 0,.bool false,int .i64 0,int .i64 0,int .i64 0] := by
  rw [HW3.out];exact World.rangeAt_setCells_same _ _ 0 _ (by show World.there _ _ 0 14;exact there_new rfl rfl)
 have HT33 := Lib.hid (show RTsk W3 (tskAt 0 0 0) _ from HT3.out.mono (by rw [HW3.out];exact xts))
 have HR3 := Lib.hid T3
 have p30 := HE3.out.cell p0
 have p31 := HE3.out.cell p1
 have p32 := HE3.out.cell p2
 have HA := Lib.hid (Advance_any prgA (tskAt 0 0 0) _ _ W3 (HPA.out.mono HE3.out) HT33.out)
 unfold AdvPost stopA at HA
 rw [awk_go] at HA
 dsimp only at HA
 clear HW3 p0 p1 p2 HT3 HS HB3
 go_upto_region 5 with (first | ((first | (with_reducible refine jl 44 ?_) | (with_reducible refine il 44 ?_));refine ldm Try.underlying44 rfl rfl rfl (by exact rg) rfl (by exact infoTsk) ?_;dsimp only [dZ,dS]) | ((with_reducible refine ik 44 ?_);refine stm rfl rfl rfl rfl (by exact tr) infoTsk (all_oneCell_toArray (by simp [Value.oneCell'])) ?_;(try dsimp only [Act.put])) | ((with_reducible refine ik 49 ?_);refine stm rfl rfl rfl rfl (by exact tr) infoStop (all_oneCell_toArray (by simp [Value.oneCell'])) ?_;(try dsimp only [Act.put])) | (go_at_call 7;refine HA.out.mono ?_;rintro e w4 ⟨V4,rfl,hT4,hb4⟩;have HT4 := Lib.hid hT4;have HB4 := Lib.hid hb4;obtain ⟨gF4,oF4,cF4,Ab4,cb4,Ar4,cr4,rfl,hc41,hc42,hR4⟩ := tsk_parts hT4;have HC41 := Lib.hid hc41;have HC42 := Lib.hid hc42;have HR4 := Lib.hid hR4;unfold tskCells at HT4 ⊢;clear hT4 hb4 hc41 hc42 hR4))
 refine wp_hid2 ?_
 intro W4 HW4
 have HE4 : Hid (Ext W3 W4) := by have h := HB4.out;have h2 := h.size;rw [Hid,HW4.out];exact xts
 have E44 : Ext w4 W4 := by rw [HW4.out];exact xts
 have TU : W4.rangeAt w4.heap.size 0 [int .i64 0,int .i64 0,int .i64 0,int .i64 1,int .i64 0,int .i64 0,.bool false,.slice (some ⟨gF4,oF4,none⟩) 1 cF4,.slice Ab4 1 cb4,int .i64 0,.bool false,int .i64 0,int .i64 0,int .i64 0] := by
  rw [HW4.out];exact (ranges_two (by omega) (by show World.there _ _ 0 14;exact there_old (there_new rfl rfl) _) (by show World.there _ _ 0 3;exact there_new (by simp) rfl)).1
 have TS : W4.rangeAt (w4.heap.size + 1) 0 [int .i64 1,int .i64 0,int .i64 0] := by
  rw [HW4.out];exact (ranges_two (by omega) (by show World.there _ _ 0 14;exact there_old (there_new rfl rfl) _) (by show World.there _ _ 0 3;exact there_new (by simp) rfl)).2
 have HT44 := Lib.hid (show RTsk W4 (tskAt 3 42 7) _ from HT4.out.mono E44)
 have HRU := Lib.hid TU
 have HRS := Lib.hid TS
 have HC41 := Lib.hid (E44.cell HC41.out)
 have HC42 := Lib.hid (E44.cell HC42.out)
 have HR4 := Lib.hid (HR4.out.mono RInt.stays E44)
 have p40 := HE4.out.cell p30
 have p41 := HE4.out.cell p31
 have p42 := HE4.out.cell p32
 have HCu := Lib.hid (Current_any prgA (tskAt 3 42 7) _ _ W4 (HPA.out.mono (HE3.out.trans HE4.out)) HT44.out)
 unfold insV at HCu
 rw [awk_now] at HCu
 dsimp only at HCu
 clear HW4 p30 p31 p32 HT4 HA HB4 E44 TS T3
 go_upto_region 6 with (first | ((first | (with_reducible refine jl 44 ?_) | (with_reducible refine il 44 ?_));refine ldm Try.underlying44 rfl rfl rfl (by exact rg) rfl (by exact infoTsk) ?_;dsimp only [dZ,dS]) | ((with_reducible refine ik 30 ?_);refine stm rfl rfl rfl rfl (by exact tr) infoInsN (all_oneCell_toArray (by simp [Value.oneCell'])) ?_;(try dsimp only [Act.put])) | (go_at_call 8;refine HCu.out.mono ?_;rintro e w5 ⟨A5,n5,c5,rfl,_,hb5⟩;have HB5 := Lib.hid hb5;clear hb5))
 refine wp_hid2 ?_
 intro W5 HW5
 have HE5 : Hid (Ext W4 W5) := by have h := HB5.out;have h2 := h.size;rw [Hid,HW5.out];exact xts
 have TI : W5.rangeAt w5.heap.size 0 [int .i64 41,int .i64 0,int .i64 0,int .i64 0,.slice A5 n5 c5] := by
  rw [HW5.out];exact World.rangeAt_setCells_same _ _ 0 _ (by show World.there _ _ 0 5;exact there_new rfl rfl)
 have HRI := Lib.hid TI
 have HCl := Lib.hid (cloneIns (some ⟨w.heap.size,0,none⟩) 4 4 (codeCells codeA) W5 (fun h => by cases h) ⟨rfl,fun _ => ⟨_,_,rfl,fun j u hj => by have := ((HE3.out.trans HE4.out).trans HE5.out).cell (HCs.out j u hj);exact this⟩⟩ codeA_one (by decide))
 clear HW5 TI TU p40 p41 p42 HCu HB5
 go_upto_region 7 with (go_at_call 9;refine HCl.out.mono ?_;rintro e w6 ⟨v6,rfl,hown6,hb6⟩;obtain ⟨g6,c6,rfl,hg6⟩ := own_form hown6 (by decide);have HO6 := Lib.hid hown6;have HB6 := Lib.hid hb6;have m1 : w6.cell? ⟨g6,7,none⟩ = some (int .i64 7) := hown6.cellAt 7 (by decide);have m2 : w6.cell? ⟨g6,10,none⟩ = some (int .i64 5) := hown6.cellAt 10 (by decide);have z1 := hown6.frozenAt 7;have z2 := hown6.frozenAt 10;clear hown6 hb6)
 go_upto_region 9 with fail
 refine wp_hid2 ?_
 intro W8 HW8
 have hg6W : W5.heap.size ≤ g6 := (HO6.out.lt g6 rfl).1
 have hg6l : g6 < w6.heap.size := (HO6.out.lt g6 rfl).2
 have HE8 : Hid (Ext W5 W8) := by have h := HB6.out;have h2 := h.size;rw [Hid,HW8.out];exact xt
 obtain ⟨b1,b2⟩ := HO6.out.stored 7 (int .i64 0)
 obtain ⟨b3,b4⟩ := b1.stored 10 (int .i64 6)
 rw [codeB_of] at b3
 have C8 : W8.rangeAt g6 0 (codeCells codeB) := fun j v hj => by
  have h1 := b3.cellAt j (by have := (List.getElem?_eq_some_iff.1 hj).1;exact this)
  rw [HW8.out,Nat.zero_add,World.cell?_alloc_lt,World.cell?_alloc_lt,h1,hj]
  ·simpa using hg6l
  ·simp;omega
 have hc6 : 4 ≤ c6 := by
  obtain ⟨A9,c9,e9,h9,_⟩ := ownsRow_shape HO6.out
  injection e9 with q1 q2 q3
  omega
 have F8 : W8.rangeAt w6.heap.size 0 [.string mainN,int .i64 0,int .i64 2,int .i64 0,.bool false,.slice (some ⟨g6,0,none⟩) 4 c6] := by rw [HW8.out];exact range_old (range_new (by simp)) _
 have Q8 : W8.rangeAt (w6.heap.size + 1) 0 [.slice (some ⟨w6.heap.size,0,none⟩) 1 1,.slice none 0 0,.slice none 0 0] := by rw [HW8.out];exact range_new (by simp)
 have q0 : W8.cell? ⟨w6.heap.size + 1,0,none⟩ = some (.slice (some ⟨w6.heap.size,0,none⟩) 1 1) := Q8 0 _ rfl
 have q1 : W8.cell? ⟨w6.heap.size + 1,1,none⟩ = some (.slice none 0 0) := Q8 1 _ rfl
 have q2 : W8.cell? ⟨w6.heap.size + 1,2,none⟩ = some (.slice none 0 0) := Q8 2 _ rfl
 have HPB := Lib.hid (rprg_one (xs := codeB) (regs := 2) (c := c6) C8 F8 hc6 (by decide) ⟨by decide,by decide⟩ codeB_in (by decide))
 have HE38 : Hid (Ext W3 W8) := (HE4.out.trans HE5.out).trans HE8.out
 have T8 := range_ext HR3.out HE38.out
 have HA2 := Lib.hid (Advance_any prgB (tskAt 0 0 0) _ _ W8 HPB.out (HT33.out.mono HE38.out))
 unfold AdvPost stopA at HA2
 rw [awk_div] at HA2
 dsimp only at HA2
 clear HW8 b1 b2 b3 b4 C8 F8 Q8 m1 m2 z1 z2 hg6W hg6l hc6 HCl HO6 HB6
 go_upto_region 10 with (first | ((first | (with_reducible refine jl 44 ?_) | (with_reducible refine il 44 ?_));refine ldm Try.underlying44 rfl rfl rfl (by exact rg) rfl (by exact infoTsk) ?_;dsimp only [dZ,dS]) | ((with_reducible refine ik 44 ?_);refine stm rfl rfl rfl rfl (by exact tr) infoTsk (all_oneCell_toArray (by simp [Value.oneCell'])) ?_;(try dsimp only [Act.put])) | ((with_reducible refine ik 49 ?_);refine stm rfl rfl rfl rfl (by exact tr) infoStop (all_oneCell_toArray (by simp [Value.oneCell'])) ?_;(try dsimp only [Act.put])) | (go_at_call 7;refine HA2.out.mono ?_;rintro e w9 ⟨V9,rfl,hT9,hb9⟩;have HB9 := Lib.hid hb9;obtain ⟨gF9,oF9,cF9,Ab9,cb9,Ar9,cr9,rfl,hc91,_,_⟩ := tsk_parts hT9;have HC91 := Lib.hid hc91;unfold tskCells;clear hT9 hb9 hc91))
 refine wp_hid2 ?_
 intro W9 HW9
 have HE9 : Hid (Ext W8 W9) := by have h := HB9.out;have h2 := h.size;rw [Hid,HW9.out];exact xts
 have E99 : Ext w9 W9 := by rw [HW9.out];exact xts
 have TV : W9.rangeAt w9.heap.size 0 [int .i64 0,int .i64 0,int .i64 0,int .i64 1,int .i64 0,int .i64 0,.bool false,.slice (some ⟨gF9,oF9,none⟩) 1 cF9,.slice Ab9 1 cb9,int .i64 0,.bool false,int .i64 0,int .i64 0,int .i64 0] := by
  rw [HW9.out];exact (ranges_two (by omega) (by show World.there _ _ 0 14;exact there_old (there_new rfl rfl) _) (by show World.there _ _ 0 3;exact there_new (by simp) rfl)).1
 have TS9 : W9.rangeAt (w9.heap.size + 1) 0 [int .i64 3,int .i64 6,int .i64 0] := by
  rw [HW9.out];exact (ranges_two (by omega) (by show World.there _ _ 0 14;exact there_old (there_new rfl rfl) _) (by show World.there _ _ 0 3;exact there_new (by simp) rfl)).2
 have HE49 : Hid (Ext W4 W9) := (HE5.out.trans HE8.out).trans HE9.out
 have HE59 : Hid (Ext W5 W9) := HE8.out.trans HE9.out
 have u7 : W9.cell? ⟨w4.heap.size,7,none⟩ = some (.slice (some ⟨gF4,oF4,none⟩) 1 cF4) := HE49.out.cell (HRU.out 7 _ rfl)
 have v7 : W9.cell? ⟨w9.heap.size,7,none⟩ = some (.slice (some ⟨gF9,oF9,none⟩) 1 cF9) := TV 7 _ rfl
 have i0 : W9.cell? ⟨w5.heap.size,0,none⟩ = some (int .i64 41) := HE59.out.cell (HRI.out 0 _ rfl)
 have s0 : W9.cell? ⟨w4.heap.size + 1,0,none⟩ = some (int .i64 1) := HE49.out.cell (HRS.out 0 _ rfl)
 have s1 : W9.cell? ⟨w4.heap.size + 1,1,none⟩ = some (int .i64 0) := HE49.out.cell (HRS.out 1 _ rfl)
 have s2 : W9.cell? ⟨w4.heap.size + 1,2,none⟩ = some (int .i64 0) := HE49.out.cell (HRS.out 2 _ rfl)
 have r0 : W9.cell? ⟨w9.heap.size + 1,0,none⟩ = some (int .i64 3) := TS9 0 _ rfl
 have r1 : W9.cell? ⟨w9.heap.size + 1,1,none⟩ = some (int .i64 6) := TS9 1 _ rfl
 have r2 : W9.cell? ⟨w9.heap.size + 1,2,none⟩ = some (int .i64 0) := TS9 2 _ rfl
 have f1 : W9.cell? ⟨gF4,oF4 + 1,none⟩ = some (int .i64 3) := HE49.out.cell HC41.out
 have f2 : W9.cell? ⟨gF4,oF4 + 2,none⟩ = some (.slice Ar4 2 cr4) := HE49.out.cell HC42.out
 have f3 : W9.cell? ⟨gF9,oF9 + 1,none⟩ = some (int .i64 2) := E99.cell HC91.out
 have HSI := Lib.hid (SameInts_any Ar4 (some ⟨W9.heap.size,0,none⟩) 2 2 cr4 2 [42,7] [42,7] (W9.alloc (.cells #[int .i64 42,int .i64 7] 3)) (HR4.out.mono RInt.stays (HE49.out.trans ((Ext.refl W9).alloc _))) (RSl.newInts W9 [42,7] 3 (by decide) (by intro x hx;simp at hx;rcases hx with rfl | rfl <;> exact ⟨by decide,by decide⟩)))
 have heq1 : ∀ w : World,(binOp BinOp.eql 49 (.agg #[int .i64 1,int .i64 0,int .i64 0]) (.agg #[int .i64 1,int .i64 0,int .i64 0])).run Try.prog w = .ok (.bool true) w := fun _ => by kernel_rfl
 have heq2 : ∀ w : World,(binOp BinOp.eql 49 (.agg #[int .i64 3,int .i64 6,int .i64 0]) (.agg #[int .i64 3,int .i64 6,int .i64 0])).run Try.prog w = .ok (.bool true) w := fun _ => by kernel_rfl
 have HE09 : Hid (Ext w W9) := (HE2.out.trans HE3.out).trans (HE4.out.trans HE49.out)
 have zf4 : gF4 < W9.heap.size := lt_of_cell f1
 have zf9 : gF9 < W9.heap.size := lt_of_cell f3
 have zu : w4.heap.size < W9.heap.size := lt_of_cell u7
 have zs : w4.heap.size + 1 < W9.heap.size := lt_of_cell s0
 have zv : w9.heap.size < W9.heap.size := lt_of_cell v7
 have zr : w9.heap.size + 1 < W9.heap.size := lt_of_cell r0
 clear HW9 TV TS9 T8 q0 q1 q2 HA2 HB9 E99
 go_wp2_with (go_at_call 10;refine HSI.out.mono ?_;rintro e w10 ⟨rfl,hb10⟩;obtain ⟨hc10,hf10,hs10,he10⟩ := Ext.use (w := W9) hb10 xt;clear hb10)
 go_ret
 exact ⟨rfl,HE09.out.trans he10⟩
end Go.Proofs.Ytcjjoabofecjmaa

