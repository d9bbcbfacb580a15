/- A part of the proof: slices.IndexFunc and slices.ContainsFunc at the five element. -/
import Derived.Test.YtcjjoabofecjmaaGreatProg
import Derived.Test.YtcjjoabofecjmaaGreatQ01
import Derived.Shelf.Abstract
import Derived.Deep.LoopGhost
set_option linter.unusedVariables false
set_option linter.unusedSimpArgs false
set_option maxHeartbeats 16000000
namespace Go.Proofs.YtcjjoabofecjmaaGreat
open Go.RowKit
open Go.Value (int)
def PredOn {α : Type} (P : Program) (g : FuncId) (lb : Array Value) (arg : List Value → Value) (R : World → α → List Value → Prop) (w : World) (xs : List α) (p : α → Bool) : Prop :=
 ∀ (W : World) (k : Nat) (x : α) (cs : List Value),Ext w W → xs[k]? = some x → R w x cs → Calls P g (#[arg cs] ++ lb) W fun e W' => e = .returned (.bool (p x)) ∧ Ext W W'
def idxFrom {α : Type} (p : α → Bool) : List α → Nat → Int
 | [],_ => -1
 | x :: xs,k => if p x then (k : Int) else idxFrom p xs (k + 1)
theorem idxFrom_nonneg {α : Type} (p : α → Bool) : ∀ (xs : List α) (k : Nat),decide (0 ≤ idxFrom p xs k) = xs.any p
 | [],_ => by simp [idxFrom]
 | x :: xs,k => by
  unfold idxFrom
  by_cases h : p x
  ·simp [h]
  ·simp only [h,Bool.false_eq_true,if_false,List.any_cons,Bool.false_or]
   exact idxFrom_nonneg p xs (k + 1)
theorem drop_cons {α : Type} {xs : List α} {k : Nat} {x : α} (h : xs[k]? = some x) : xs.drop k = x :: xs.drop (k + 1) := by
 obtain ⟨hk,rfl⟩ := List.getElem?_eq_some_iff.1 h
 exact List.drop_eq_getElem_cons hk
theorem indexFuncOb (g : FuncId) (lb : Array Value) (eg : Enters Tryz.prog g) (p : Ob → Bool) (A : Option Addr) (n c : Nat) (xs : List Ob) (w : World)
  (hs : RSl 4 ROb w A n xs) (hp : PredOn Tryz.prog g lb (fun cs => .agg cs.toArray) ROb w xs p) :
  Calls Tryz.prog 150 #[.slice A n c,.func (.func g) #[] lb] w fun e w' => e = .returned (int .i64 (idxFrom p xs 0)) ∧ Ext w w' := by
 have hle := hs.le
 have HL : Hid (n = xs.length) := hs.len
 unfold Enters at eg
 go_enter Tryz.func150,Tryz.ntmps150
 go_wp2
 go_loopg [5,8] n (fun gg _ s8 wr => ∃ kk : Nat,kk ≤ n ∧ n - kk ≤ gg ∧ s8 = .int .i64 kk ∧ Hid (Ext w wr) ∧ Hid (idxFrom p xs 0 = idxFrom p (xs.drop kk) kk))
 case atStart => exact ⟨0,Nat.zero_le _,by omega,rfl,Ext.refl w,rfl⟩
 case round =>
  obtain ⟨kk,hkk,hg,rfl,HW,HI⟩ := hrel
  have hW := HW.out
  by_cases hlt : kk < n
  ·have hltz : (kk : Int) < (n : Int) := by omega
   have hx : ∃ x,xs[kk]? = some x := ⟨_,List.getElem?_eq_getElem (by have := HL.out;omega)⟩
   obtain ⟨x,hx⟩ := hx
   obtain ⟨b,off,rfl,hlb,h1,h2,h3,h4,c0,c1,c2,c3⟩ := hs.ob hx
   have hcall := hp wr kk x [.string x.name,int .i64 x.kind,int .i64 x.size,int .i64 x.other] hW hx ⟨rfl,h1,h2,h3,h4⟩
   replace c0 := hW.cell c0
   replace c1 := hW.cell c1
   replace c2 := hW.cell c2
   replace c3 := hW.cell c3
   clear hlb h1 h2 h3 h4
   have HD : Hid (xs.drop kk = x :: xs.drop (kk + 1)) := drop_cons hx
   clear hx hs hp hW
   cases hq : p x with
   | true =>
    rw [hq] at hcall
    have HQ : Hid (p x = true) := hq
    clear hq
    go_wp2_with (go_at_fn g;refine hcall.mono ?_;rintro e w' ⟨rfl,hb'⟩)
    go_ret
    exact ⟨ret_int (by rw [HI.out,HD.out,idxFrom,if_pos HQ.out]),HW.out.trans hb'⟩
   | false =>
    rw [hq] at hcall
    have HQ : Hid (p x = false) := hq
    clear hq
    go_wp2_with (go_at_fn g;refine hcall.mono ?_;rintro e w' ⟨rfl,hb'⟩)
    go_roundg (n - (kk + 1))
    case measure => omega
    case rel => exact ⟨kk + 1,by omega,by omega,by go_num,HW.out.trans hb',by rw [Hid,HI.out,HD.out,idxFrom,if_neg (by rw [HQ.out];decide)]⟩
  ·have hltz : ¬ (kk : Int) < (n : Int) := by omega
   clear hs hp hW
   go_wp2
   go_ret
   exact ⟨ret_int (by rw [HI.out,List.drop_eq_nil_of_le (by have := HL.out;omega)];rfl),HW.out⟩
theorem containsFuncOb (g : FuncId) (lb : Array Value) (eg : Enters Tryz.prog g) (p : Ob → Bool) (A : Option Addr) (n c : Nat) (xs : List Ob) (w : World)
  (hs : RSl 4 ROb w A n xs) (hp : PredOn Tryz.prog g lb (fun cs => .agg cs.toArray) ROb w xs p) :
  Calls Tryz.prog 108 #[.slice A n c,.func (.func g) #[] lb] w fun e w' => e = .returned (.bool (xs.any p)) ∧ Ext w w' := by
 rw [← idxFrom_nonneg p xs 0]
 go_enter Tryz.func108,Tryz.ntmps108
 go_wp2_with (go_at_call 150;refine (indexFuncOb g lb eg p A n c xs _ hs hp).mono ?_;rintro e w1 ⟨rfl,hb⟩;obtain ⟨hc,hf,hs,he⟩ := Ext.use (w := w) hb xt;clear hb;(try simp only [sA,sC,sD,sN] at hs))
 go_ret
 exact ⟨rfl,xt⟩
theorem indexFuncVr (g : FuncId) (lb : Array Value) (eg : Enters Tryz.prog g) (p : Vr → Bool) (A : Option Addr) (n c : Nat) (xs : List Vr) (w : World)
  (hs : RSl 3 RVr w A n xs) (hp : PredOn Tryz.prog g lb (fun cs => .agg cs.toArray) RVr w xs p) :
  Calls Tryz.prog 151 #[.slice A n c,.func (.func g) #[] lb] w fun e w' => e = .returned (int .i64 (idxFrom p xs 0)) ∧ Ext w w' := by
 have hle := hs.le
 have HL : Hid (n = xs.length) := hs.len
 unfold Enters at eg
 go_enter Tryz.func151,Tryz.ntmps151
 go_wp2
 go_loopg [5,8] n (fun gg _ s8 wr => ∃ kk : Nat,kk ≤ n ∧ n - kk ≤ gg ∧ s8 = .int .i64 kk ∧ Hid (Ext w wr) ∧ Hid (idxFrom p xs 0 = idxFrom p (xs.drop kk) kk))
 case atStart => exact ⟨0,Nat.zero_le _,by omega,rfl,Ext.refl w,rfl⟩
 case round =>
  obtain ⟨kk,hkk,hg,rfl,HW,HI⟩ := hrel
  have hW := HW.out
  by_cases hlt : kk < n
  ·have hltz : (kk : Int) < (n : Int) := by omega
   have hx : ∃ x,xs[kk]? = some x := ⟨_,List.getElem?_eq_getElem (by have := HL.out;omega)⟩
   obtain ⟨x,hx⟩ := hx
   obtain ⟨b,off,rfl,hlb,h1,h2,c0,c1,c2⟩ := hs.vr hx
   have hcall := hp wr kk x [.string x.name,int .i64 x.init,.bool x.atomic] hW hx ⟨rfl,h1,h2⟩
   replace c0 := hW.cell c0
   replace c1 := hW.cell c1
   replace c2 := hW.cell c2
   clear hlb h1 h2
   have HD : Hid (xs.drop kk = x :: xs.drop (kk + 1)) := drop_cons hx
   clear hx hs hp hW
   cases hq : p x with
   | true =>
    rw [hq] at hcall
    have HQ : Hid (p x = true) := hq
    clear hq
    go_wp2_with (go_at_fn g;refine hcall.mono ?_;rintro e w' ⟨rfl,hb'⟩)
    go_ret
    exact ⟨ret_int (by rw [HI.out,HD.out,idxFrom,if_pos HQ.out]),HW.out.trans hb'⟩
   | false =>
    rw [hq] at hcall
    have HQ : Hid (p x = false) := hq
    clear hq
    go_wp2_with (go_at_fn g;refine hcall.mono ?_;rintro e w' ⟨rfl,hb'⟩)
    go_roundg (n - (kk + 1))
    case measure => omega
    case rel => exact ⟨kk + 1,by omega,by omega,by go_num,HW.out.trans hb',by rw [Hid,HI.out,HD.out,idxFrom,if_neg (by rw [HQ.out];decide)]⟩
  ·have hltz : ¬ (kk : Int) < (n : Int) := by omega
   clear hs hp hW
   go_wp2
   go_ret
   exact ⟨ret_int (by rw [HI.out,List.drop_eq_nil_of_le (by have := HL.out;omega)];rfl),HW.out⟩
theorem containsFuncVr (g : FuncId) (lb : Array Value) (eg : Enters Tryz.prog g) (p : Vr → Bool) (A : Option Addr) (n c : Nat) (xs : List Vr) (w : World)
  (hs : RSl 3 RVr w A n xs) (hp : PredOn Tryz.prog g lb (fun cs => .agg cs.toArray) RVr w xs p) :
  Calls Tryz.prog 111 #[.slice A n c,.func (.func g) #[] lb] w fun e w' => e = .returned (.bool (xs.any p)) ∧ Ext w w' := by
 rw [← idxFrom_nonneg p xs 0]
 go_enter Tryz.func111,Tryz.ntmps111
 go_wp2_with (go_at_call 151;refine (indexFuncVr g lb eg p A n c xs _ hs hp).mono ?_;rintro e w1 ⟨rfl,hb⟩;obtain ⟨hc,hf,hs,he⟩ := Ext.use (w := w) hb xt;clear hb;(try simp only [sA,sC,sD,sN] at hs))
 go_ret
 exact ⟨rfl,xt⟩
theorem indexFuncFnc (g : FuncId) (lb : Array Value) (eg : Enters Tryz.prog g) (p : Fnc → Bool) (A : Option Addr) (n c : Nat) (xs : List Fnc) (w : World)
  (hs : RSl 6 RFnc w A n xs) (hp : PredOn Tryz.prog g lb (fun cs => .agg cs.toArray) RFnc w xs p) :
  Calls Tryz.prog 152 #[.slice A n c,.func (.func g) #[] lb] w fun e w' => e = .returned (int .i64 (idxFrom p xs 0)) ∧ Ext w w' := by
 have hle := hs.le
 have HL : Hid (n = xs.length) := hs.len
 unfold Enters at eg
 go_enter Tryz.func152,Tryz.ntmps152
 go_wp2
 go_loopg [5,8] n (fun gg _ s8 wr => ∃ kk : Nat,kk ≤ n ∧ n - kk ≤ gg ∧ s8 = .int .i64 kk ∧ Hid (Ext w wr) ∧ Hid (idxFrom p xs 0 = idxFrom p (xs.drop kk) kk))
 case atStart => exact ⟨0,Nat.zero_le _,by omega,rfl,Ext.refl w,rfl⟩
 case round =>
  obtain ⟨kk,hkk,hg,rfl,HW,HI⟩ := hrel
  have hW := HW.out
  by_cases hlt : kk < n
  ·have hltz : (kk : Int) < (n : Int) := by omega
   have hx : ∃ x,xs[kk]? = some x := ⟨_,List.getElem?_eq_getElem (by have := HL.out;omega)⟩
   obtain ⟨x,hx⟩ := hx
   obtain ⟨b,off,Ac,nc,cc,rfl,hlb,h1,h2,h3,h4,h5,c0,c1,c2,c3,c4,c5⟩ := hs.fnc hx
   have hcall := hp wr kk x [.string x.name,int .i64 x.params,int .i64 x.regs,int .i64 x.prio,.bool x.cleanup,.slice Ac nc cc] hW hx ⟨_,_,_,rfl,h1,h2,h3,h4,h5⟩
   replace c0 := hW.cell c0
   replace c1 := hW.cell c1
   replace c2 := hW.cell c2
   replace c3 := hW.cell c3
   replace c4 := hW.cell c4
   replace c5 := hW.cell c5
   clear hlb h1 h2 h3 h4 h5
   have HD : Hid (xs.drop kk = x :: xs.drop (kk + 1)) := drop_cons hx
   clear hx hs hp hW
   cases hq : p x with
   | true =>
    rw [hq] at hcall
    have HQ : Hid (p x = true) := hq
    clear hq
    go_wp2_with (go_at_fn g;refine hcall.mono ?_;rintro e w' ⟨rfl,hb'⟩)
    go_ret
    exact ⟨ret_int (by rw [HI.out,HD.out,idxFrom,if_pos HQ.out]),HW.out.trans hb'⟩
   | false =>
    rw [hq] at hcall
    have HQ : Hid (p x = false) := hq
    clear hq
    go_wp2_with (go_at_fn g;refine hcall.mono ?_;rintro e w' ⟨rfl,hb'⟩)
    go_roundg (n - (kk + 1))
    case measure => omega
    case rel => exact ⟨kk + 1,by omega,by omega,by go_num,HW.out.trans hb',by rw [Hid,HI.out,HD.out,idxFrom,if_neg (by rw [HQ.out];decide)]⟩
  ·have hltz : ¬ (kk : Int) < (n : Int) := by omega
   clear hs hp hW
   go_wp2
   go_ret
   exact ⟨ret_int (by rw [HI.out,List.drop_eq_nil_of_le (by have := HL.out;omega)];rfl),HW.out⟩
theorem containsFuncFnc (g : FuncId) (lb : Array Value) (eg : Enters Tryz.prog g) (p : Fnc → Bool) (A : Option Addr) (n c : Nat) (xs : List Fnc) (w : World)
  (hs : RSl 6 RFnc w A n xs) (hp : PredOn Tryz.prog g lb (fun cs => .agg cs.toArray) RFnc w xs p) :
  Calls Tryz.prog 113 #[.slice A n c,.func (.func g) #[] lb] w fun e w' => e = .returned (.bool (xs.any p)) ∧ Ext w w' := by
 rw [← idxFrom_nonneg p xs 0]
 go_enter Tryz.func113,Tryz.ntmps113
 go_wp2_with (go_at_call 152;refine (indexFuncFnc g lb eg p A n c xs _ hs hp).mono ?_;rintro e w1 ⟨rfl,hb⟩;obtain ⟨hc,hf,hs,he⟩ := Ext.use (w := w) hb xt;clear hb;(try simp only [sA,sC,sD,sN] at hs))
 go_ret
 exact ⟨rfl,xt⟩
theorem indexFuncHdl (g : FuncId) (lb : Array Value) (eg : Enters Tryz.prog g) (p : Hdl → Bool) (A : Option Addr) (n c : Nat) (xs : List Hdl) (w : World)
  (hs : RSl 2 RHdl w A n xs) (hp : PredOn Tryz.prog g lb (fun cs => .agg cs.toArray) RHdl w xs p) :
  Calls Tryz.prog 156 #[.slice A n c,.func (.func g) #[] lb] w fun e w' => e = .returned (int .i64 (idxFrom p xs 0)) ∧ Ext w w' := by
 have hle := hs.le
 have HL : Hid (n = xs.length) := hs.len
 unfold Enters at eg
 go_enter Tryz.func156,Tryz.ntmps156
 go_wp2
 go_loopg [5,8] n (fun gg _ s8 wr => ∃ kk : Nat,kk ≤ n ∧ n - kk ≤ gg ∧ s8 = .int .i64 kk ∧ Hid (Ext w wr) ∧ Hid (idxFrom p xs 0 = idxFrom p (xs.drop kk) kk))
 case atStart => exact ⟨0,Nat.zero_le _,by omega,rfl,Ext.refl w,rfl⟩
 case round =>
  obtain ⟨kk,hkk,hg,rfl,HW,HI⟩ := hrel
  have hW := HW.out
  by_cases hlt : kk < n
  ·have hltz : (kk : Int) < (n : Int) := by omega
   have hx : ∃ x,xs[kk]? = some x := ⟨_,List.getElem?_eq_getElem (by have := HL.out;omega)⟩
   obtain ⟨x,hx⟩ := hx
   obtain ⟨b,off,Ac,nc,cc,rfl,hlb,h1,h2,c0,c1⟩ := hs.hdl hx
   have hcall := hp wr kk x [int .i64 x.fn,.slice Ac nc cc] hW hx ⟨_,_,_,rfl,h1,h2⟩
   replace c0 := hW.cell c0
   replace c1 := hW.cell c1
   clear hlb h1 h2
   have HD : Hid (xs.drop kk = x :: xs.drop (kk + 1)) := drop_cons hx
   clear hx hs hp hW
   cases hq : p x with
   | true =>
    rw [hq] at hcall
    have HQ : Hid (p x = true) := hq
    clear hq
    go_wp2_with (go_at_fn g;refine hcall.mono ?_;rintro e w' ⟨rfl,hb'⟩)
    go_ret
    exact ⟨ret_int (by rw [HI.out,HD.out,idxFrom,if_pos HQ.out]),HW.out.trans hb'⟩
   | false =>
    rw [hq] at hcall
    have HQ : Hid (p x = false) := hq
    clear hq
    go_wp2_with (go_at_fn g;refine hcall.mono ?_;rintro e w' ⟨rfl,hb'⟩)
    go_roundg (n - (kk + 1))
    case measure => omega
    case rel => exact ⟨kk + 1,by omega,by omega,by go_num,HW.out.trans hb',by rw [Hid,HI.out,HD.out,idxFrom,if_neg (by rw [HQ.out];decide)]⟩
  ·have hltz : ¬ (kk : Int) < (n : Int) := by omega
   clear hs hp hW
   go_wp2
   go_ret
   exact ⟨ret_int (by rw [HI.out,List.drop_eq_nil_of_le (by have := HL.out;omega)];rfl),HW.out⟩
theorem containsFuncHdl (g : FuncId) (lb : Array Value) (eg : Enters Tryz.prog g) (p : Hdl → Bool) (A : Option Addr) (n c : Nat) (xs : List Hdl) (w : World)
  (hs : RSl 2 RHdl w A n xs) (hp : PredOn Tryz.prog g lb (fun cs => .agg cs.toArray) RHdl w xs p) :
  Calls Tryz.prog 116 #[.slice A n c,.func (.func g) #[] lb] w fun e w' => e = .returned (.bool (xs.any p)) ∧ Ext w w' := by
 rw [← idxFrom_nonneg p xs 0]
 go_enter Tryz.func116,Tryz.ntmps116
 go_wp2_with (go_at_call 156;refine (indexFuncHdl g lb eg p A n c xs _ hs hp).mono ?_;rintro e w1 ⟨rfl,hb⟩;obtain ⟨hc,hf,hs,he⟩ := Ext.use (w := w) hb xt;clear hb;(try simp only [sA,sC,sD,sN] at hs))
 go_ret
 exact ⟨rfl,xt⟩
theorem indexFuncInt (g : FuncId) (lb : Array Value) (eg : Enters Tryz.prog g) (p : Int → Bool) (A : Option Addr) (n c : Nat) (xs : List Int) (w : World)
  (hs : RSl 1 RInt w A n xs) (hp : PredOn Tryz.prog g lb (fun cs => cs.headD undef) RInt w xs p) :
  Calls Tryz.prog 89 #[.slice A n c,.func (.func g) #[] lb] w fun e w' => e = .returned (int .i64 (idxFrom p xs 0)) ∧ Ext w w' := by
 have hle := hs.le
 have HL : Hid (n = xs.length) := hs.len
 unfold Enters at eg
 go_enter Tryz.func89,Tryz.ntmps89
 go_wp2
 go_loopg [5,8] n (fun gg _ s8 wr => ∃ kk : Nat,kk ≤ n ∧ n - kk ≤ gg ∧ s8 = .int .i64 kk ∧ Hid (Ext w wr) ∧ Hid (idxFrom p xs 0 = idxFrom p (xs.drop kk) kk))
 case atStart => exact ⟨0,Nat.zero_le _,by omega,rfl,Ext.refl w,rfl⟩
 case round =>
  obtain ⟨kk,hkk,hg,rfl,HW,HI⟩ := hrel
  have hW := HW.out
  by_cases hlt : kk < n
  ·have hltz : (kk : Int) < (n : Int) := by omega
   have hx : ∃ x,xs[kk]? = some x := ⟨_,List.getElem?_eq_getElem (by have := HL.out;omega)⟩
   obtain ⟨x,hx⟩ := hx
   obtain ⟨b,off,rfl,hlb,hin,h0⟩ := hs.int hx
   replace h0 := hW.cell h0
   have hcall := hp wr kk x [int .i64 x] hW hx ⟨rfl,hin⟩
   simp only [List.headD_cons] at hcall
   clear hlb hin
   have HD : Hid (xs.drop kk = x :: xs.drop (kk + 1)) := drop_cons hx
   clear hx hs hp hW
   cases hq : p x with
   | true =>
    rw [hq] at hcall
    have HQ : Hid (p x = true) := hq
    clear hq
    go_wp2_with (go_at_fn g;refine hcall.mono ?_;rintro e w' ⟨rfl,hb'⟩)
    go_ret
    exact ⟨ret_int (by rw [HI.out,HD.out,idxFrom,if_pos HQ.out]),HW.out.trans hb'⟩
   | false =>
    rw [hq] at hcall
    have HQ : Hid (p x = false) := hq
    clear hq
    go_wp2_with (go_at_fn g;refine hcall.mono ?_;rintro e w' ⟨rfl,hb'⟩)
    go_roundg (n - (kk + 1))
    case measure => omega
    case rel => exact ⟨kk + 1,by omega,by omega,by go_num,HW.out.trans hb',by rw [Hid,HI.out,HD.out,idxFrom,if_neg (by rw [HQ.out];decide)]⟩
  ·have hltz : ¬ (kk : Int) < (n : Int) := by omega
   clear hs hp hW
   go_wp2
   go_ret
   exact ⟨ret_int (by rw [HI.out,List.drop_eq_nil_of_le (by have := HL.out;omega)];rfl),HW.out⟩
theorem containsFuncInt (g : FuncId) (lb : Array Value) (eg : Enters Tryz.prog g) (p : Int → Bool) (A : Option Addr) (n c : Nat) (xs : List Int) (w : World)
  (hs : RSl 1 RInt w A n xs) (hp : PredOn Tryz.prog g lb (fun cs => cs.headD undef) RInt w xs p) :
  Calls Tryz.prog 58 #[.slice A n c,.func (.func g) #[] lb] w fun e w' => e = .returned (.bool (xs.any p)) ∧ Ext w w' := by
 rw [← idxFrom_nonneg p xs 0]
 go_enter Tryz.func58,Tryz.ntmps58
 go_wp2_with (go_at_call 89;refine (indexFuncInt g lb eg p A n c xs _ hs hp).mono ?_;rintro e w1 ⟨rfl,hb⟩;obtain ⟨hc,hf,hs,he⟩ := Ext.use (w := w) hb xt;clear hb;(try simp only [sA,sC,sD,sN] at hs))
 go_ret
 exact ⟨rfl,xt⟩
end Go.Proofs.YtcjjoabofecjmaaGreat

