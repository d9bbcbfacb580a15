/- A part of the proof: slices.IndexFunc and slices.ContainsFunc at the five element. -/
import Derived.Test.YtcjjoabofecjmaaQ01
import Derived.Shelf.Abstract
import Derived.Deep.LoopGhost
import Derived.Lib.ConvBytes
import Derived.RangeFuncNested
import Derived.RangeFuncBound
import Derived.RangeFuncCalls
import Derived.RangeFuncLeaves
import Derived.Shelf.RegionOpen
import Derived.OwnWalkIn
import Derived.TacticsInMore
import Derived.LoopNIn
import Derived.LoopIn
import Derived.Sort.LoopGhostIn
import Derived.Sort.QuietIn
set_option linter.unusedVariables false
set_option linter.unusedSimpArgs false
set_option maxHeartbeats 16000000
namespace Go.Proofs.Ytcjjoabofecjmaa
open Go.RowKit
open Go.Value (int)
def PredOn {α : Type} (P : Program) (g : FuncId) (lb : Array Value) (arg : List Value → Value) (R : World → α → List Value → Prop) (w : World) (xs : List α) (p : α → Bool) : Prop :=
 ∀ (W : World) (k : Nat) (x : α) (cs : List Value),Ext w W → xs[k]? = some x → R w x cs → Calls P g (#[arg cs] ++ lb) W fun e W' => e = .returned (.bool (p x)) ∧ Ext W W'
def idxFrom {α : Type} (p : α → Bool) : List α → Nat → Int
 | [],_ => -1
 | x :: xs,k => if p x then (k : Int) else idxFrom p xs (k + 1)
theorem idxFrom_nonneg {α : Type} (p : α → Bool) : ∀ (xs : List α) (k : Nat),decide (0 ≤ idxFrom p xs k) = xs.any p
 | [],_ => by simp [idxFrom]
 | x :: xs,k => by
  unfold idxFrom
  by_cases h : p x
  ·simp [h]
  ·simp only [h,Bool.false_eq_true,if_false,List.any_cons,Bool.false_or]
   exact idxFrom_nonneg p xs (k + 1)
theorem drop_cons {α : Type} {xs : List α} {k : Nat} {x : α} (h : xs[k]? = some x) : xs.drop k = x :: xs.drop (k + 1) := by
 obtain ⟨hk,rfl⟩ := List.getElem?_eq_some_iff.1 h
 exact List.drop_eq_getElem_cons hk
theorem indexFuncOb (g : FuncId) (lb : Array Value) (eg : Enters Try.prog g) (p : Ob → Bool) (A : Option Addr) (n c : Nat) (xs : List Ob) (w : World)
  (hs : RSl 4 ROb w A n xs) (hp : PredOn Try.prog g lb (fun cs => .agg cs.toArray) ROb w xs p) :
  Calls Try.prog 80 #[.slice A n c,.func (.func g) #[] lb] w fun e w' => e = .returned (int .i64 (idxFrom p xs 0)) ∧ Ext w w' := by
 have hle := hs.le
 have HL : Hid (n = xs.length) := hs.len
 unfold Enters at eg
 go_enter Try.func80,Try.ntmps80
 go_wp2
 go_loopg [5,8] n (fun gg _ s8 wr => ∃ kk : Nat,kk ≤ n ∧ n - kk ≤ gg ∧ s8 = .int .i64 kk ∧ Hid (Ext w wr) ∧ Hid (idxFrom p xs 0 = idxFrom p (xs.drop kk) kk))
 case atStart => exact ⟨0,Nat.zero_le _,by omega,rfl,Ext.refl w,rfl⟩
 case round =>
  obtain ⟨kk,hkk,hg,rfl,HW,HI⟩ := hrel
  have hW := HW.out
  by_cases hlt : kk < n
  ·have hltz : (kk : Int) < (n : Int) := by omega
   have hx : ∃ x,xs[kk]? = some x := ⟨_,List.getElem?_eq_getElem (by have := HL.out;omega)⟩
   obtain ⟨x,hx⟩ := hx
   obtain ⟨b,off,rfl,hlb,h1,h2,h3,h4,c0,c1,c2,c3⟩ := hs.ob hx
   have hcall := hp wr kk x [.string x.name,int .i64 x.kind,int .i64 x.size,int .i64 x.other] hW hx ⟨rfl,h1,h2,h3,h4⟩
   replace c0 := hW.cell c0
   replace c1 := hW.cell c1
   replace c2 := hW.cell c2
   replace c3 := hW.cell c3
   clear hlb h1 h2 h3 h4
   have HD : Hid (xs.drop kk = x :: xs.drop (kk + 1)) := drop_cons hx
   clear hx hs hp hW
   cases hq : p x with
   | true =>
    rw [hq] at hcall
    have HQ : Hid (p x = true) := hq
    clear hq
    go_wp2_with (go_at_fn g;refine hcall.mono ?_;rintro e w' ⟨rfl,hb'⟩)
    go_ret
    exact ⟨ret_int (by rw [HI.out,HD.out,idxFrom,if_pos HQ.out]),HW.out.trans hb'⟩
   | false =>
    rw [hq] at hcall
    have HQ : Hid (p x = false) := hq
    clear hq
    go_wp2_with (go_at_fn g;refine hcall.mono ?_;rintro e w' ⟨rfl,hb'⟩)
    go_roundg (n - (kk + 1))
    case measure => omega
    case rel => exact ⟨kk + 1,by omega,by omega,by go_num,HW.out.trans hb',by rw [Hid,HI.out,HD.out,idxFrom,if_neg (by rw [HQ.out];decide)]⟩
  ·have hltz : ¬ (kk : Int) < (n : Int) := by omega
   clear hs hp hW
   go_wp2
   go_ret
   exact ⟨ret_int (by rw [HI.out,List.drop_eq_nil_of_le (by have := HL.out;omega)];rfl),HW.out⟩
theorem containsFuncOb (g : FuncId) (lb : Array Value) (eg : Enters Try.prog g) (p : Ob → Bool) (A : Option Addr) (n c : Nat) (xs : List Ob) (w : World)
  (hs : RSl 4 ROb w A n xs) (hp : PredOn Try.prog g lb (fun cs => .agg cs.toArray) ROb w xs p) :
  Calls Try.prog 42 #[.slice A n c,.func (.func g) #[] lb] w fun e w' => e = .returned (.bool (xs.any p)) ∧ Ext w w' := by
 rw [← idxFrom_nonneg p xs 0]
 go_enter Try.func42,Try.ntmps42
 go_wp2_with (go_at_call 80;refine (indexFuncOb g lb eg p A n c xs _ hs hp).mono ?_;rintro e w1 ⟨rfl,hb⟩;obtain ⟨hc,hf,hs,he⟩ := Ext.use (w := w) hb xt;clear hb;(try simp only [sA,sC,sD,sN] at hs))
 go_ret
 exact ⟨rfl,xt⟩
theorem indexFuncVr (g : FuncId) (lb : Array Value) (eg : Enters Try.prog g) (p : Vr → Bool) (A : Option Addr) (n c : Nat) (xs : List Vr) (w : World)
  (hs : RSl 3 RVr w A n xs) (hp : PredOn Try.prog g lb (fun cs => .agg cs.toArray) RVr w xs p) :
  Calls Try.prog 81 #[.slice A n c,.func (.func g) #[] lb] w fun e w' => e = .returned (int .i64 (idxFrom p xs 0)) ∧ Ext w w' := by
 have hle := hs.le
 have HL : Hid (n = xs.length) := hs.len
 unfold Enters at eg
 go_enter Try.func81,Try.ntmps81
 go_wp2
 go_loopg [5,8] n (fun gg _ s8 wr => ∃ kk : Nat,kk ≤ n ∧ n - kk ≤ gg ∧ s8 = .int .i64 kk ∧ Hid (Ext w wr) ∧ Hid (idxFrom p xs 0 = idxFrom p (xs.drop kk) kk))
 case atStart => exact ⟨0,Nat.zero_le _,by omega,rfl,Ext.refl w,rfl⟩
 case round =>
  obtain ⟨kk,hkk,hg,rfl,HW,HI⟩ := hrel
  have hW := HW.out
  by_cases hlt : kk < n
  ·have hltz : (kk : Int) < (n : Int) := by omega
   have hx : ∃ x,xs[kk]? = some x := ⟨_,List.getElem?_eq_getElem (by have := HL.out;omega)⟩
   obtain ⟨x,hx⟩ := hx
   obtain ⟨b,off,rfl,hlb,h1,h2,c0,c1,c2⟩ := hs.vr hx
   have hcall := hp wr kk x [.string x.name,int .i64 x.init,.bool x.atomic] hW hx ⟨rfl,h1,h2⟩
   replace c0 := hW.cell c0
   replace c1 := hW.cell c1
   replace c2 := hW.cell c2
   clear hlb h1 h2
   have HD : Hid (xs.drop kk = x :: xs.drop (kk + 1)) := drop_cons hx
   clear hx hs hp hW
   cases hq : p x with
   | true =>
    rw [hq] at hcall
    have HQ : Hid (p x = true) := hq
    clear hq
    go_wp2_with (go_at_fn g;refine hcall.mono ?_;rintro e w' ⟨rfl,hb'⟩)
    go_ret
    exact ⟨ret_int (by rw [HI.out,HD.out,idxFrom,if_pos HQ.out]),HW.out.trans hb'⟩
   | false =>
    rw [hq] at hcall
    have HQ : Hid (p x = false) := hq
    clear hq
    go_wp2_with (go_at_fn g;refine hcall.mono ?_;rintro e w' ⟨rfl,hb'⟩)
    go_roundg (n - (kk + 1))
    case measure => omega
    case rel => exact ⟨kk + 1,by omega,by omega,by go_num,HW.out.trans hb',by rw [Hid,HI.out,HD.out,idxFrom,if_neg (by rw [HQ.out];decide)]⟩
  ·have hltz : ¬ (kk : Int) < (n : Int) := by omega
   clear hs hp hW
   go_wp2
   go_ret
   exact ⟨ret_int (by rw [HI.out,List.drop_eq_nil_of_le (by have := HL.out;omega)];rfl),HW.out⟩
theorem containsFuncVr (g : FuncId) (lb : Array Value) (eg : Enters Try.prog g) (p : Vr → Bool) (A : Option Addr) (n c : Nat) (xs : List Vr) (w : World)
  (hs : RSl 3 RVr w A n xs) (hp : PredOn Try.prog g lb (fun cs => .agg cs.toArray) RVr w xs p) :
  Calls Try.prog 45 #[.slice A n c,.func (.func g) #[] lb] w fun e w' => e = .returned (.bool (xs.any p)) ∧ Ext w w' := by
 rw [← idxFrom_nonneg p xs 0]
 go_enter Try.func45,Try.ntmps45
 go_wp2_with (go_at_call 81;refine (indexFuncVr g lb eg p A n c xs _ hs hp).mono ?_;rintro e w1 ⟨rfl,hb⟩;obtain ⟨hc,hf,hs,he⟩ := Ext.use (w := w) hb xt;clear hb;(try simp only [sA,sC,sD,sN] at hs))
 go_ret
 exact ⟨rfl,xt⟩
theorem indexFuncFnc (g : FuncId) (lb : Array Value) (eg : Enters Try.prog g) (p : Fnc → Bool) (A : Option Addr) (n c : Nat) (xs : List Fnc) (w : World)
  (hs : RSl 6 RFnc w A n xs) (hp : PredOn Try.prog g lb (fun cs => .agg cs.toArray) RFnc w xs p) :
  Calls Try.prog 82 #[.slice A n c,.func (.func g) #[] lb] w fun e w' => e = .returned (int .i64 (idxFrom p xs 0)) ∧ Ext w w' := by
 have hle := hs.le
 have HL : Hid (n = xs.length) := hs.len
 unfold Enters at eg
 go_enter Try.func82,Try.ntmps82
 go_wp2
 go_loopg [5,8] n (fun gg _ s8 wr => ∃ kk : Nat,kk ≤ n ∧ n - kk ≤ gg ∧ s8 = .int .i64 kk ∧ Hid (Ext w wr) ∧ Hid (idxFrom p xs 0 = idxFrom p (xs.drop kk) kk))
 case atStart => exact ⟨0,Nat.zero_le _,by omega,rfl,Ext.refl w,rfl⟩
 case round =>
  obtain ⟨kk,hkk,hg,rfl,HW,HI⟩ := hrel
  have hW := HW.out
  by_cases hlt : kk < n
  ·have hltz : (kk : Int) < (n : Int) := by omega
   have hx : ∃ x,xs[kk]? = some x := ⟨_,List.getElem?_eq_getElem (by have := HL.out;omega)⟩
   obtain ⟨x,hx⟩ := hx
   obtain ⟨b,off,Ac,nc,cc,rfl,hlb,h1,h2,h3,h4,h5,c0,c1,c2,c3,c4,c5⟩ := hs.fnc hx
   have hcall := hp wr kk x [.string x.name,int .i64 x.params,int .i64 x.regs,int .i64 x.prio,.bool x.cleanup,.slice Ac nc cc] hW hx ⟨_,_,_,rfl,h1,h2,h3,h4,h5⟩
   replace c0 := hW.cell c0
   replace c1 := hW.cell c1
   replace c2 := hW.cell c2
   replace c3 := hW.cell c3
   replace c4 := hW.cell c4
   replace c5 := hW.cell c5
   clear hlb h1 h2 h3 h4 h5
   have HD : Hid (xs.drop kk = x :: xs.drop (kk + 1)) := drop_cons hx
   clear hx hs hp hW
   cases hq : p x with
   | true =>
    rw [hq] at hcall
    have HQ : Hid (p x = true) := hq
    clear hq
    go_wp2_with (go_at_fn g;refine hcall.mono ?_;rintro e w' ⟨rfl,hb'⟩)
    go_ret
    exact ⟨ret_int (by rw [HI.out,HD.out,idxFrom,if_pos HQ.out]),HW.out.trans hb'⟩
   | false =>
    rw [hq] at hcall
    have HQ : Hid (p x = false) := hq
    clear hq
    go_wp2_with (go_at_fn g;refine hcall.mono ?_;rintro e w' ⟨rfl,hb'⟩)
    go_roundg (n - (kk + 1))
    case measure => omega
    case rel => exact ⟨kk + 1,by omega,by omega,by go_num,HW.out.trans hb',by rw [Hid,HI.out,HD.out,idxFrom,if_neg (by rw [HQ.out];decide)]⟩
  ·have hltz : ¬ (kk : Int) < (n : Int) := by omega
   clear hs hp hW
   go_wp2
   go_ret
   exact ⟨ret_int (by rw [HI.out,List.drop_eq_nil_of_le (by have := HL.out;omega)];rfl),HW.out⟩
theorem containsFuncFnc (g : FuncId) (lb : Array Value) (eg : Enters Try.prog g) (p : Fnc → Bool) (A : Option Addr) (n c : Nat) (xs : List Fnc) (w : World)
  (hs : RSl 6 RFnc w A n xs) (hp : PredOn Try.prog g lb (fun cs => .agg cs.toArray) RFnc w xs p) :
  Calls Try.prog 47 #[.slice A n c,.func (.func g) #[] lb] w fun e w' => e = .returned (.bool (xs.any p)) ∧ Ext w w' := by
 rw [← idxFrom_nonneg p xs 0]
 go_enter Try.func47,Try.ntmps47
 go_wp2_with (go_at_call 82;refine (indexFuncFnc g lb eg p A n c xs _ hs hp).mono ?_;rintro e w1 ⟨rfl,hb⟩;obtain ⟨hc,hf,hs,he⟩ := Ext.use (w := w) hb xt;clear hb;(try simp only [sA,sC,sD,sN] at hs))
 go_ret
 exact ⟨rfl,xt⟩
theorem indexFuncHdl (g : FuncId) (lb : Array Value) (eg : Enters Try.prog g) (p : Hdl → Bool) (A : Option Addr) (n c : Nat) (xs : List Hdl) (w : World)
  (hs : RSl 2 RHdl w A n xs) (hp : PredOn Try.prog g lb (fun cs => .agg cs.toArray) RHdl w xs p) :
  Calls Try.prog 99 #[.slice A n c,.func (.func g) #[] lb] w fun e w' => e = .returned (int .i64 (idxFrom p xs 0)) ∧ Ext w w' := by
 have hle := hs.le
 have HL : Hid (n = xs.length) := hs.len
 unfold Enters at eg
 go_enter Try.func99,Try.ntmps99
 go_wp2
 go_loopg [5,8] n (fun gg _ s8 wr => ∃ kk : Nat,kk ≤ n ∧ n - kk ≤ gg ∧ s8 = .int .i64 kk ∧ Hid (Ext w wr) ∧ Hid (idxFrom p xs 0 = idxFrom p (xs.drop kk) kk))
 case atStart => exact ⟨0,Nat.zero_le _,by omega,rfl,Ext.refl w,rfl⟩
 case round =>
  obtain ⟨kk,hkk,hg,rfl,HW,HI⟩ := hrel
  have hW := HW.out
  by_cases hlt : kk < n
  ·have hltz : (kk : Int) < (n : Int) := by omega
   have hx : ∃ x,xs[kk]? = some x := ⟨_,List.getElem?_eq_getElem (by have := HL.out;omega)⟩
   obtain ⟨x,hx⟩ := hx
   obtain ⟨b,off,Ac,nc,cc,rfl,hlb,h1,h2,c0,c1⟩ := hs.hdl hx
   have hcall := hp wr kk x [int .i64 x.fn,.slice Ac nc cc] hW hx ⟨_,_,_,rfl,h1,h2⟩
   replace c0 := hW.cell c0
   replace c1 := hW.cell c1
   clear hlb h1 h2
   have HD : Hid (xs.drop kk = x :: xs.drop (kk + 1)) := drop_cons hx
   clear hx hs hp hW
   cases hq : p x with
   | true =>
    rw [hq] at hcall
    have HQ : Hid (p x = true) := hq
    clear hq
    go_wp2_with (go_at_fn g;refine hcall.mono ?_;rintro e w' ⟨rfl,hb'⟩)
    go_ret
    exact ⟨ret_int (by rw [HI.out,HD.out,idxFrom,if_pos HQ.out]),HW.out.trans hb'⟩
   | false =>
    rw [hq] at hcall
    have HQ : Hid (p x = false) := hq
    clear hq
    go_wp2_with (go_at_fn g;refine hcall.mono ?_;rintro e w' ⟨rfl,hb'⟩)
    go_roundg (n - (kk + 1))
    case measure => omega
    case rel => exact ⟨kk + 1,by omega,by omega,by go_num,HW.out.trans hb',by rw [Hid,HI.out,HD.out,idxFrom,if_neg (by rw [HQ.out];decide)]⟩
  ·have hltz : ¬ (kk : Int) < (n : Int) := by omega
   clear hs hp hW
   go_wp2
   go_ret
   exact ⟨ret_int (by rw [HI.out,List.drop_eq_nil_of_le (by have := HL.out;omega)];rfl),HW.out⟩
theorem containsFuncHdl (g : FuncId) (lb : Array Value) (eg : Enters Try.prog g) (p : Hdl → Bool) (A : Option Addr) (n c : Nat) (xs : List Hdl) (w : World)
  (hs : RSl 2 RHdl w A n xs) (hp : PredOn Try.prog g lb (fun cs => .agg cs.toArray) RHdl w xs p) :
  Calls Try.prog 86 #[.slice A n c,.func (.func g) #[] lb] w fun e w' => e = .returned (.bool (xs.any p)) ∧ Ext w w' := by
 rw [← idxFrom_nonneg p xs 0]
 go_enter Try.func86,Try.ntmps86
 go_wp2_with (go_at_call 99;refine (indexFuncHdl g lb eg p A n c xs _ hs hp).mono ?_;rintro e w1 ⟨rfl,hb⟩;obtain ⟨hc,hf,hs,he⟩ := Ext.use (w := w) hb xt;clear hb;(try simp only [sA,sC,sD,sN] at hs))
 go_ret
 exact ⟨rfl,xt⟩
theorem indexFuncInt (g : FuncId) (lb : Array Value) (eg : Enters Try.prog g) (p : Int → Bool) (A : Option Addr) (n c : Nat) (xs : List Int) (w : World)
  (hs : RSl 1 RInt w A n xs) (hp : PredOn Try.prog g lb (fun cs => cs.headD undef) RInt w xs p) :
  Calls Try.prog 25 #[.slice A n c,.func (.func g) #[] lb] w fun e w' => e = .returned (int .i64 (idxFrom p xs 0)) ∧ Ext w w' := by
 have hle := hs.le
 have HL : Hid (n = xs.length) := hs.len
 unfold Enters at eg
 go_enter Try.func25,Try.ntmps25
 go_wp2
 go_loopg [5,8] n (fun gg _ s8 wr => ∃ kk : Nat,kk ≤ n ∧ n - kk ≤ gg ∧ s8 = .int .i64 kk ∧ Hid (Ext w wr) ∧ Hid (idxFrom p xs 0 = idxFrom p (xs.drop kk) kk))
 case atStart => exact ⟨0,Nat.zero_le _,by omega,rfl,Ext.refl w,rfl⟩
 case round =>
  obtain ⟨kk,hkk,hg,rfl,HW,HI⟩ := hrel
  have hW := HW.out
  by_cases hlt : kk < n
  ·have hltz : (kk : Int) < (n : Int) := by omega
   have hx : ∃ x,xs[kk]? = some x := ⟨_,List.getElem?_eq_getElem (by have := HL.out;omega)⟩
   obtain ⟨x,hx⟩ := hx
   obtain ⟨b,off,rfl,hlb,hin,h0⟩ := hs.int hx
   replace h0 := hW.cell h0
   have hcall := hp wr kk x [int .i64 x] hW hx ⟨rfl,hin⟩
   simp only [List.headD_cons] at hcall
   clear hlb hin
   have HD : Hid (xs.drop kk = x :: xs.drop (kk + 1)) := drop_cons hx
   clear hx hs hp hW
   cases hq : p x with
   | true =>
    rw [hq] at hcall
    have HQ : Hid (p x = true) := hq
    clear hq
    go_wp2_with (go_at_fn g;refine hcall.mono ?_;rintro e w' ⟨rfl,hb'⟩)
    go_ret
    exact ⟨ret_int (by rw [HI.out,HD.out,idxFrom,if_pos HQ.out]),HW.out.trans hb'⟩
   | false =>
    rw [hq] at hcall
    have HQ : Hid (p x = false) := hq
    clear hq
    go_wp2_with (go_at_fn g;refine hcall.mono ?_;rintro e w' ⟨rfl,hb'⟩)
    go_roundg (n - (kk + 1))
    case measure => omega
    case rel => exact ⟨kk + 1,by omega,by omega,by go_num,HW.out.trans hb',by rw [Hid,HI.out,HD.out,idxFrom,if_neg (by rw [HQ.out];decide)]⟩
  ·have hltz : ¬ (kk : Int) < (n : Int) := by omega
   clear hs hp hW
   go_wp2
   go_ret
   exact ⟨ret_int (by rw [HI.out,List.drop_eq_nil_of_le (by have := HL.out;omega)];rfl),HW.out⟩
theorem containsFuncInt (g : FuncId) (lb : Array Value) (eg : Enters Try.prog g) (p : Int → Bool) (A : Option Addr) (n c : Nat) (xs : List Int) (w : World)
  (hs : RSl 1 RInt w A n xs) (hp : PredOn Try.prog g lb (fun cs => cs.headD undef) RInt w xs p) :
  Calls Try.prog 13 #[.slice A n c,.func (.func g) #[] lb] w fun e w' => e = .returned (.bool (xs.any p)) ∧ Ext w w' := by
 rw [← idxFrom_nonneg p xs 0]
 go_enter Try.func13,Try.ntmps13
 go_wp2_with (go_at_call 25;refine (indexFuncInt g lb eg p A n c xs _ hs hp).mono ?_;rintro e w1 ⟨rfl,hb⟩;obtain ⟨hc,hf,hs,he⟩ := Ext.use (w := w) hb xt;clear hb;(try simp only [sA,sC,sD,sN] at hs))
 go_ret
 exact ⟨rfl,xt⟩
def RCk (w : World) (p : Prg) (f : Fnc) (V : Value) : Prop := ∃ Af nf cf Ao no co Av nv cv Ac nc cc,V = .agg #[.slice Af nf cf,.slice Ao no co,.slice Av nv cv,.string f.name,int .i64 f.params,int .i64 f.regs,int .i64 f.prio,.bool f.cleanup,.slice Ac nc cc] ∧
 RSl 6 RFnc w Af nf p.funcs ∧ RSl 4 ROb w Ao no p.objs ∧ RSl 3 RVr w Av nv p.vars ∧ RSl 5 RIns w Ac nc f.code
theorem RCk.mono {w W : World} {p : Prg} {f : Fnc} {V : Value} (h : RCk w p f V) (hw : Ext w W) : RCk W p f V := by
 obtain ⟨Af,nf,cf,Ao,no,co,Av,nv,cv,Ac,nc,cc,h1,h2,h3,h4,h5⟩ := h
 exact ⟨Af,nf,cf,Ao,no,co,Av,nv,cv,Ac,nc,cc,h1,h2.mono RFnc.stays hw,h3.mono ROb.stays hw,h4.mono RVr.stays hw,h5.mono RIns.stays hw⟩
def operandS (p : Prg) (f : Fnc) (o : Opd) (n : Int) : Int :=
 if o.what = 0 then (if n = 0 then 0 else 1)
 else if o.what = 1 then (if inB n (-1099511627776) 1099511627776 then 0 else 2)
 else if o.what = 2 then insideS n 100
 else if o.what = 3 ∨ o.what = 4 then insideS n f.regs
 else if o.what = 5 then (if -1 ≤ n ∧ n < f.regs then 0 else 2)
 else if o.what = 6 then insideS n f.code.length
 else if o.what = 7 then (if 0 ≤ n then match f.code[n.toNat]? with | some x => if x.op = 36 then 0 else 8 | none => 2 else 2)
 else if o.what = 8 ∨ o.what = 9 then (if 0 ≤ n then match p.funcs[n.toNat]? with | some g => if g.cleanup = decide (o.what = 9) then 0 else 16 | none => 2 else 2)
 else if o.what = 10 ∨ o.what = 11 then (if 0 ≤ n then match p.vars[n.toNat]? with | some v => if o.what = 11 ∧ v.atomic = false then 16 else 0 | none => 2 else 2)
 else (if 0 ≤ n then match p.objs[n.toNat]? with | some x => if x.kind = o.kind then 0 else 8 | none => 2 else 2)
theorem insideS_in {n len : Int} (h : 0 ≤ n ∧ n < len) : insideS n len = 0 := if_pos h
theorem insideS_out {n len : Int} (h : ¬ (0 ≤ n ∧ n < len)) : insideS n len = 2 := if_neg h
theorem operand_low (p : Prg) (f : Fnc) (o : Opd) (n : Int) (V : Value) (w : World) (hV : RCk w p f V) (ho : o.what = 0 ∨ o.what = 1 ∨ o.what = 2) :
  Calls Try.prog 84 #[V,.agg #[.int .i64 o.what,.int .i64 o.kind],.int .i64 n] w fun e w' => e = .returned (.int .i64 (operandS p f o n)) ∧ Ext w w' := by
 obtain ⟨Af,nf,cf,Ao,no,co,Av,nv,cv,Ac,nc,cc,rfl,_,_,_,_⟩ := hV
 obtain ⟨wh,kd⟩ := o
 dsimp only at ho ⊢
 rcases ho with rfl | rfl | rfl
 all_goals
  go_enter Try.func84,Try.ntmps84
  go_wp2_with (first | (go_at_call 41;refine (within_any _ _ _ _).mono ?_;rintro e w' ⟨rfl,rfl⟩) | (go_at_call 95;refine (inside_any _ _ _ (by omega) (by omega)).mono ?_;rintro e w' ⟨rfl,rfl⟩))
  all_goals (go_ret;exact ⟨ret_int (by simp_all [operandS]),xt⟩)
theorem operand_regs (p : Prg) (f : Fnc) (o : Opd) (n : Int) (V : Value) (w : World) (hV : RCk w p f V) (hr : 0 ≤ f.regs ∧ f.regs ≤ 32) (ho : o.what = 3 ∨ o.what = 4 ∨ o.what = 6) :
  Calls Try.prog 84 #[V,.agg #[.int .i64 o.what,.int .i64 o.kind],.int .i64 n] w fun e w' => e = .returned (.int .i64 (operandS p f o n)) ∧ Ext w w' := by
 obtain ⟨Af,nf,cf,Ao,no,co,Av,nv,cv,Ac,nc,cc,rfl,_,_,_,hC⟩ := hV
 have hCl := hC.le
 have HL := Lib.hid hC.len
 obtain ⟨wh,kd⟩ := o
 dsimp only at ho ⊢
 rcases ho with rfl | rfl | rfl
 all_goals
  go_enter Try.func84,Try.ntmps84
  go_wp2_with (first | (go_at_call 95;refine (inside_any _ _ _ (by omega) (by omega)).mono ?_;rintro e w' ⟨rfl,rfl⟩))
  all_goals (go_ret;exact ⟨ret_int (by have := HL.out;simp_all [operandS]),xt⟩)
theorem inside_opt (n reg : Int) (hn : InR n) (hr : 0 ≤ reg ∧ reg ≤ 32) : insideS (wrap64 (n + 1)) (reg + 1) = if -1 ≤ n ∧ n < reg then 0 else 2 := by
 unfold InR at hn
 unfold insideS wrap64
 split <;> split <;> first | rfl | omega
theorem operand_opt (p : Prg) (f : Fnc) (o : Opd) (n : Int) (V : Value) (w : World) (hV : RCk w p f V) (hn : InR n) (hr : 0 ≤ f.regs ∧ f.regs ≤ 32) (ho : o.what = 5) :
  Calls Try.prog 84 #[V,.agg #[.int .i64 o.what,.int .i64 o.kind],.int .i64 n] w fun e w' => e = .returned (.int .i64 (operandS p f o n)) ∧ Ext w w' := by
 obtain ⟨Af,nf,cf,Ao,no,co,Av,nv,cv,Ac,nc,cc,rfl,_,_,_,_⟩ := hV
 obtain ⟨wh,kd⟩ := o
 dsimp only at ho ⊢
 subst ho
 have HI := Lib.hid (inside_opt n f.regs hn hr)
 clear hn
 go_enter Try.func84,Try.ntmps84
 go_wp2_with (first | (go_at_call 95;refine (inside_any _ _ _ (by omega) (by omega)).mono ?_;rintro e w' ⟨rfl,rfl⟩))
 go_ret
 exact ⟨ret_int (by rw [HI.out];simp [operandS]),xt⟩
theorem operand_close (p : Prg) (f : Fnc) (o : Opd) (n : Int) (V : Value) (w : World) (hV : RCk w p f V) (ho : o.what = 7) :
  Calls Try.prog 84 #[V,.agg #[.int .i64 o.what,.int .i64 o.kind],.int .i64 n] w fun e w' => e = .returned (.int .i64 (operandS p f o n)) ∧ Ext w w' := by
 obtain ⟨Af,nf,cf,Ao,no,co,Av,nv,cv,Ac,nc,cc,rfl,_,_,_,hC⟩ := hV
 have hCl := hC.le
 have HL := Lib.hid hC.len
 obtain ⟨wh,kd⟩ := o
 dsimp only at ho ⊢
 subst ho
 by_cases h : 0 ≤ n ∧ n < (nc : Int)
 ·have hin : insideS n (nc : Int) = 0 := insideS_in h
  obtain ⟨x,hx⟩ : ∃ x,f.code[n.toNat]? = some x := ⟨_,List.getElem?_eq_getElem (by have := HL.out;omega)⟩
  obtain ⟨b,off,Aa,na,ca,rfl,hlb,i1,i2,i3,i4,hA,c0,c1,c2,c3,c4⟩ := hC.ins hx
  have HX := Lib.hid hx
  clear hx c1 c2 c3 c4 hA i1 i2 i3 i4 hC
  obtain ⟨h1,h2⟩ := h
  go_enter Try.func84,Try.ntmps84
  go_wp2_with (first | (go_at_call 95;refine (inside_any _ _ _ (by omega) (by omega)).mono ?_;rintro e w' ⟨rfl,rfl⟩))
  all_goals (go_ret;exact ⟨ret_int (by have := HX.out;simp_all [operandS]),xt⟩)
 ·have hin : insideS n (nc : Int) = 2 := insideS_out h
  have HS : Hid (operandS p f ⟨7,kd⟩ n = 2) := by
   unfold Hid operandS
   have := HL.out
   by_cases h0 : 0 ≤ n
   ·rw [List.getElem?_eq_none (by omega)];simp
   ·simp [h0]
  clear hC h
  go_enter Try.func84,Try.ntmps84
  go_wp2_with (first | (go_at_call 95;refine (inside_any _ _ _ (by omega) (by omega)).mono ?_;rintro e w' ⟨rfl,rfl⟩))
  all_goals (go_ret;exact ⟨ret_int (by rw [HS.out]),xt⟩)
theorem operand_funcs (p : Prg) (f : Fnc) (o : Opd) (n : Int) (V : Value) (w : World) (hV : RCk w p f V) (ho : o.what = 8 ∨ o.what = 9) :
  Calls Try.prog 84 #[V,.agg #[.int .i64 o.what,.int .i64 o.kind],.int .i64 n] w fun e w' => e = .returned (.int .i64 (operandS p f o n)) ∧ Ext w w' := by
 obtain ⟨Af,nf,cf,Ao,no,co,Av,nv,cv,Ac,nc,cc,rfl,hF,_,_,_⟩ := hV
 have hFl := hF.le
 have HL := Lib.hid hF.len
 obtain ⟨wh,kd⟩ := o
 dsimp only at ho ⊢
 by_cases h : 0 ≤ n ∧ n < (nf : Int)
 ·have hin : insideS n (nf : Int) = 0 := insideS_in h
  obtain ⟨x,hx⟩ : ∃ x,p.funcs[n.toNat]? = some x := ⟨_,List.getElem?_eq_getElem (by have := HL.out;omega)⟩
  obtain ⟨b,off,Aa,na,ca,rfl,hlb,i1,i2,i3,i4,hA,c0,c1,c2,c3,c4,c5⟩ := hF.fnc hx
  have HX := Lib.hid hx
  clear hx c0 c1 c2 c3 c5 hA i1 i2 i3 i4 hF
  obtain ⟨h1,h2⟩ := h
  rcases ho with rfl | rfl
  all_goals
   go_enter Try.func84,Try.ntmps84
   go_wp2_with (first | (go_at_call 95;refine (inside_any _ _ _ (by omega) (by omega)).mono ?_;rintro e w' ⟨rfl,rfl⟩))
   go_quiet (fail)
   go_wp2
   all_goals (go_ret;exact ⟨ret_int (by have := HX.out;simp_all [operandS]),xt⟩)
 ·have hin : insideS n (nf : Int) = 2 := insideS_out h
  have HS : Hid (operandS p f ⟨wh,kd⟩ n = 2) := by
   unfold Hid operandS
   have := HL.out
   by_cases h0 : 0 ≤ n
   ·rw [show p.funcs[n.toNat]? = none from List.getElem?_eq_none (by omega)];rcases ho with rfl | rfl <;> simp
   ·rcases ho with rfl | rfl <;> simp [h0]
  clear hF h
  rcases ho with rfl | rfl
  all_goals
   go_enter Try.func84,Try.ntmps84
   go_wp2_with (first | (go_at_call 95;refine (inside_any _ _ _ (by omega) (by omega)).mono ?_;rintro e w' ⟨rfl,rfl⟩))
   go_quiet (fail)
   go_wp2
   all_goals (go_ret;exact ⟨ret_int (by rw [HS.out]),xt⟩)
theorem operand_vars (p : Prg) (f : Fnc) (o : Opd) (n : Int) (V : Value) (w : World) (hV : RCk w p f V) (ho : o.what = 10 ∨ o.what = 11) :
  Calls Try.prog 84 #[V,.agg #[.int .i64 o.what,.int .i64 o.kind],.int .i64 n] w fun e w' => e = .returned (.int .i64 (operandS p f o n)) ∧ Ext w w' := by
 obtain ⟨Af,nf,cf,Ao,no,co,Av,nv,cv,Ac,nc,cc,rfl,_,_,hF,_⟩ := hV
 have hFl := hF.le
 have HL := Lib.hid hF.len
 obtain ⟨wh,kd⟩ := o
 dsimp only at ho ⊢
 by_cases h : 0 ≤ n ∧ n < (nv : Int)
 ·have hin : insideS n (nv : Int) = 0 := insideS_in h
  obtain ⟨x,hx⟩ : ∃ x,p.vars[n.toNat]? = some x := ⟨_,List.getElem?_eq_getElem (by have := HL.out;omega)⟩
  obtain ⟨b,off,rfl,hlb,i1,i2,c0,c1,c2⟩ := hF.vr hx
  have HX := Lib.hid hx
  clear hx c0 c1 i1 i2 hF
  obtain ⟨h1,h2⟩ := h
  rcases ho with rfl | rfl
  all_goals
   go_enter Try.func84,Try.ntmps84
   go_wp2_with (first | (go_at_call 95;refine (inside_any _ _ _ (by omega) (by omega)).mono ?_;rintro e w' ⟨rfl,rfl⟩))
   all_goals (go_ret;exact ⟨ret_int (by have := HX.out;simp_all [operandS]),xt⟩)
 ·have hin : insideS n (nv : Int) = 2 := insideS_out h
  have HS : Hid (operandS p f ⟨wh,kd⟩ n = 2) := by
   unfold Hid operandS
   have := HL.out
   by_cases h0 : 0 ≤ n
   ·rw [show p.vars[n.toNat]? = none from List.getElem?_eq_none (by omega)];rcases ho with rfl | rfl <;> simp
   ·rcases ho with rfl | rfl <;> simp [h0]
  clear hF h
  rcases ho with rfl | rfl
  all_goals
   go_enter Try.func84,Try.ntmps84
   go_wp2_with (first | (go_at_call 95;refine (inside_any _ _ _ (by omega) (by omega)).mono ?_;rintro e w' ⟨rfl,rfl⟩))
   all_goals (go_ret;exact ⟨ret_int (by rw [HS.out]),xt⟩)
theorem operand_objs (p : Prg) (f : Fnc) (o : Opd) (n : Int) (V : Value) (w : World) (hV : RCk w p f V) (ho : o.what = 12) :
  Calls Try.prog 84 #[V,.agg #[.int .i64 o.what,.int .i64 o.kind],.int .i64 n] w fun e w' => e = .returned (.int .i64 (operandS p f o n)) ∧ Ext w w' := by
 obtain ⟨Af,nf,cf,Ao,no,co,Av,nv,cv,Ac,nc,cc,rfl,_,hF,_,_⟩ := hV
 have hFl := hF.le
 have HL := Lib.hid hF.len
 obtain ⟨wh,kd⟩ := o
 dsimp only at ho ⊢
 subst ho
 by_cases h : 0 ≤ n ∧ n < (no : Int)
 ·have hin : insideS n (no : Int) = 0 := insideS_in h
  obtain ⟨x,hx⟩ : ∃ x,p.objs[n.toNat]? = some x := ⟨_,List.getElem?_eq_getElem (by have := HL.out;omega)⟩
  obtain ⟨b,off,rfl,hlb,i1,i2,i3,i4,c0,c1,c2,c3⟩ := hF.ob hx
  have HX := Lib.hid hx
  clear hx c0 c2 c3 i1 i2 i3 i4 hF
  obtain ⟨h1,h2⟩ := h
  go_enter Try.func84,Try.ntmps84
  go_wp2_with (first | (go_at_call 95;refine (inside_any _ _ _ (by omega) (by omega)).mono ?_;rintro e w' ⟨rfl,rfl⟩))
  go_quiet (fail)
  go_wp2
  all_goals (go_ret;exact ⟨ret_int (by have := HX.out;simp_all [operandS]),xt⟩)
 ·have hin : insideS n (no : Int) = 2 := insideS_out h
  have HS : Hid (operandS p f ⟨12,kd⟩ n = 2) := by
   unfold Hid operandS
   have := HL.out
   by_cases h0 : 0 ≤ n
   ·rw [show p.objs[n.toNat]? = none from List.getElem?_eq_none (by omega)];simp
   ·simp [h0]
  clear hF h
  go_enter Try.func84,Try.ntmps84
  go_wp2_with (first | (go_at_call 95;refine (inside_any _ _ _ (by omega) (by omega)).mono ?_;rintro e w' ⟨rfl,rfl⟩))
  go_quiet (fail)
  go_wp2
  all_goals (go_ret;exact ⟨ret_int (by rw [HS.out]),xt⟩)
theorem operand_any (p : Prg) (f : Fnc) (o : Opd) (n : Int) (V : Value) (w : World) (hV : RCk w p f V) (hn : InR n) (hr : 0 ≤ f.regs ∧ f.regs ≤ 32) (ho : 0 ≤ o.what ∧ o.what ≤ 12) :
  Calls Try.prog 84 #[V,.agg #[.int .i64 o.what,.int .i64 o.kind],.int .i64 n] w fun e w' => e = .returned (.int .i64 (operandS p f o n)) ∧ Ext w w' := by
 have h : (o.what = 0 ∨ o.what = 1 ∨ o.what = 2) ∨ (o.what = 3 ∨ o.what = 4 ∨ o.what = 6) ∨ o.what = 5 ∨ o.what = 7 ∨ (o.what = 8 ∨ o.what = 9) ∨ (o.what = 10 ∨ o.what = 11) ∨ o.what = 12 := by omega
 rcases h with h | h | h | h | h | h | h
 ·exact operand_low p f o n V w hV h
 ·exact operand_regs p f o n V w hV hr h
 ·exact operand_opt p f o n V w hV hn hr h
 ·exact operand_close p f o n V w hV h
 ·exact operand_funcs p f o n V w hV h
 ·exact operand_vars p f o n V w hV h
 ·exact operand_objs p f o n V w hV h
def nmOk (i : Nat) (c : Int) : Prop := (97 ≤ c ∧ c ≤ 122) ∨ (i ≠ 0 ∧ ((48 ≤ c ∧ c ≤ 57) ∨ c = 95))
instance (i : Nat) (c : Int) : Decidable (nmOk i c) := by unfold nmOk;infer_instance
def nmAt (s : ByteArray) (i : Nat) : Prop := nmOk i (s.data.toList.getD i 0).toNat
instance (s : ByteArray) (i : Nat) : Decidable (nmAt s i) := by unfold nmAt;infer_instance
def nmB (s : ByteArray) : Bool := decide (1 ≤ (s.size : Int)) && decide ((s.size : Int) ≤ 30) && (List.range s.size).all fun i => decide (nmAt s i)
theorem nmB_false {s : ByteArray} {k : Nat} (hk : k < s.size) (h : ¬ nmAt s k) : nmB s = false := by
 unfold nmB
 rw [show ((List.range s.size).all fun i => decide (nmAt s i)) = false from List.all_eq_false.2 ⟨k,List.mem_range.2 hk,by simp [h]⟩]
 simp
theorem nmB_end {s : ByteArray} (h : ∀ j,j < s.size → nmAt s j) : nmB s = (decide (1 ≤ (s.size : Int)) && decide ((s.size : Int) ≤ 30)) := by
 unfold nmB
 rw [List.all_eq_true.2 fun j hj => by simpa using h j (List.mem_range.1 hj)]
 simp
theorem run_convert_program {w : World} {s : ByteArray} : (convert 9 122 (.string s)).run Try.prog w = .ok (.slice (some ⟨w.heap.size,0,none⟩) s.size (grownCap w s.size 0 5)) (Lib.bytesWorld w 5 s) :=
 Lib.run_convert_string_bytes w _ _ _ s Try.underlying9 Try.underlying122 Try.underlying5
theorem Ext.bytesWorld (w : World) (e : TypeId) (s : ByteArray) : Ext w (Lib.bytesWorld w e s) :=
 ⟨rfl,rfl,rfl,by rw [Lib.bytesWorld_size];omega,fun k hk => Lib.bytesWorld_at_old w e s k hk⟩
theorem isName_any (s : ByteArray) (w : World) (hs : s.size ≤ 140737488355328) :
  Calls Try.prog 40 #[.string s] w fun e w' => e = .returned (.bool (nmB s)) ∧ Ext w w' := by
 have hconv := fun w => run_convert_program (w := w) (s := s)
 have hcell := fun k (h : k < s.size) => Lib.bytesWorld_cell w 5 s k h
 have HX : Hid (Ext w (Lib.bytesWorld w 5 s)) := Ext.bytesWorld w _ s
 generalize grownCap w s.size 0 5 = cp at hconv
 go_enter Try.func40,Try.ntmps40
 go_wp2
 generalize Lib.bytesWorld w 5 s = wb at hcell HX ⊢
 go_loop [9] (fun i => ∃ k : Nat,k ≤ s.size ∧ i = .int .i64 k ∧ Hid (∀ j,j < k → nmAt s j)) (fun i => s.size - (intOf i).toNat)
 case atStart => exact ⟨0,Nat.zero_le _,rfl,fun j hj => absurd hj (Nat.not_lt_zero _)⟩
 case round =>
  obtain ⟨k,hk,rfl,HP⟩ := hrel
  by_cases hlt : k < s.size
  ·have hltz : (k : Int) < (s.size : Int) := by omega
   have hck := hcell k hlt
   have HT : Hid (nmAt s k = nmOk k (s.data.toList.getD k 0).toNat) := rfl
   generalize (s.data.toList.getD k 0).toNat = c at hck HT
   clear hcell hconv
   have hkb : (((k : Int) == 0) = true ∧ Hid (k = 0)) ∨ (((k : Int) == 0) = false ∧ Hid (k ≠ 0)) := by
    by_cases h : k = 0
    ·exact .inl ⟨by simp [h],h⟩
    ·exact .inr ⟨by simp [h],h⟩
   rcases hkb with ⟨hkb,HK⟩ | ⟨hkb,HK⟩
   all_goals
    go_wp2
    all_goals try (go_ret;exact ⟨ret_bool (by rw [nmB_false hlt (by rw [HT.out];have := HK.out;unfold nmOk;(try simp at *);omega)]),HX.out⟩)
    all_goals go_round
    all_goals first | (simp [intOf];omega) | skip
    all_goals
     refine ⟨k + 1,by omega,by go_num,fun j hj => ?_⟩
     rcases Nat.lt_succ_iff_lt_or_eq.1 hj with h | rfl
     ·exact HP.out j h
     ·rw [HT.out];have := HK.out;unfold nmOk;(try simp at *);omega
  ·have hke : k = s.size := by omega
   subst hke
   clear hcell hconv
   go_wp2
   all_goals (go_ret;exact ⟨ret_bool (by rw [nmB_end HP.out];simp [*] <;> omega),HX.out⟩)
theorem indexInts (x : Int) (A : Option Addr) (n c : Nat) (xs : List Int) (w : World) (hs : RSl 1 RInt w A n xs) :
  Calls Try.prog 100 #[.slice A n c,.int .i64 x] w fun e w' => e = .returned (.int .i64 (idxFrom (fun y => x == y) xs 0)) ∧ w = w' := by
 have hle := hs.le
 have HL : Hid (n = xs.length) := hs.len
 go_enter Try.func100,Try.ntmps100
 go_wp2
 go_loopg [5,8] n (fun gg _ s8 wr => ∃ kk : Nat,kk ≤ n ∧ n - kk ≤ gg ∧ s8 = .int .i64 kk ∧ Hid (w = wr) ∧ Hid (idxFrom (fun y => x == y) xs 0 = idxFrom (fun y => x == y) (xs.drop kk) kk))
 case atStart => exact ⟨0,Nat.zero_le _,by omega,rfl,rfl,rfl⟩
 case round =>
  obtain ⟨kk,hkk,hg,rfl,HW,HI⟩ := hrel
  by_cases hlt : kk < n
  ·have hltz : (kk : Int) < (n : Int) := by omega
   have hx : ∃ y,xs[kk]? = some y := ⟨_,List.getElem?_eq_getElem (by have := HL.out;omega)⟩
   obtain ⟨y,hx⟩ := hx
   obtain ⟨b,off,rfl,hlb,hin,h0⟩ := hs.int hx
   rw [HW.out] at h0
   have HD : Hid (xs.drop kk = y :: xs.drop (kk + 1)) := drop_cons hx
   clear hlb hin hx hs
   cases hq : (x == y) with
   | true =>
    have HQ : Hid ((x == y) = true) := hq
    go_wp2
    go_ret
    exact ⟨ret_int (by rw [HI.out,HD.out,idxFrom,if_pos HQ.out]),HW.out⟩
   | false =>
    have HQ : Hid ((x == y) = false) := hq
    go_wp2
    go_roundg (n - (kk + 1))
    case measure => omega
    case rel => exact ⟨kk + 1,by omega,by omega,by go_num,HW.out,by rw [Hid,HI.out,HD.out,idxFrom,if_neg (by rw [HQ.out];decide)]⟩
  ·have hltz : ¬ (kk : Int) < (n : Int) := by omega
   clear hs
   go_wp2
   go_ret
   exact ⟨ret_int (by rw [HI.out,List.drop_eq_nil_of_le (by have := HL.out;omega)];rfl),HW.out⟩
theorem containsInts (x : Int) (A : Option Addr) (n c : Nat) (xs : List Int) (w : World) (hs : RSl 1 RInt w A n xs) :
  Calls Try.prog 94 #[.slice A n c,.int .i64 x] w fun e w' => e = .returned (.bool (xs.any fun y => x == y)) ∧ w = w' := by
 rw [← idxFrom_nonneg (fun y => x == y) xs 0]
 go_enter Try.func94,Try.ntmps94
 go_wp2_with (go_at_call 100;refine (indexInts x A n c xs _ hs).mono ?_;rintro e w' ⟨rfl,rfl⟩)
 go_ret
 exact ⟨rfl,rfl⟩
theorem RSl.newInts (w : World) (xs : List Int) (t : TypeId) (hn : xs.length ≤ 1000000) (hi : ∀ x ∈ xs,InR x) : RSl 1 RInt (w.alloc (.cells (xs.map (Value.int .i64)).toArray t)) (some ⟨w.heap.size,0,none⟩) xs.length xs := by
 refine ⟨rfl,by omega,fun k x hk => ⟨_,_,[.int .i64 x],rfl,rfl,⟨rfl,hi x (List.mem_of_getElem? hk)⟩,fun j v hj => ?_⟩⟩
 cases j with
 | zero =>
  simp only [List.getElem?_cons_zero,Option.some.injEq] at hj
  subst hj
  simp [World.cell?,World.alloc,hk,-World.alloc_eq]
 | succ j => simp at hj
def forbS (op : Int) : Bool := [15,17,18,19,34,35,36,37,42,43].any fun y => op == y
theorem forbidden_any (op : Int) (w : World) :
  Calls Try.prog 83 #[.int .i64 op] w fun e w' => e = .returned (.bool (forbS op)) ∧ Ext w w' := by
 have hs := RSl.newInts w [15,17,18,19,34,35,36,37,42,43] 3 (by simp) (by intro x hx;simp at hx;unfold InR;omega)
 have HS := Lib.hid hs
 clear hs
 go_enter Try.func83,Try.ntmps83
 go_wp2_with fail
 refine (containsInts op _ _ _ _ _ HS.out).mono ?_
 rintro e w' ⟨rfl,rfl⟩
 go_wp2
 go_ret
 exact ⟨ret_bool (by simp [forbS]),xt⟩
end Go.Proofs.Ytcjjoabofecjmaa
namespace Go.Proofs.Ytcjjoabofecjmaa
open Go.RowKit Go.Shelf
open Go.Value (int)
attribute [local go_sem] Oper.semAt_some
def chunkV (b off : Nat) {m : Nat} (k : Fin m) : Array Value := #[.slice (some ⟨b,off + k.1 * 3,none⟩) 3 3]
def ChunkKeeps (B2 B3 : Nat) (W W' : World) : Prop := W'.heap[B2]? = W.heap[B2]? ∧ W'.heap[B3]? = W.heap[B3]?
theorem chunk1_in (m B2 B3 b off cap : Nat) (l : Nat) (J Jx : List (Fin m) → World → Prop) (hm : m * 3 ≤ 140737488355328) (hcap : m * 3 ≤ cap)
  (hY : ∀ pre x W,J pre W → pre.length < m → YieldAt Fence.wide 4 Try.prog l (chunkV b off x) W fun e W' =>
   (e = .returned (.bool true) ∧ J (pre ++ [x]) W' ∧ ChunkKeeps B2 B3 W W') ∨ (e = .returned (.bool false) ∧ Jx (pre ++ [x]) W'))
  (W : World) (h2 : W.cell? ⟨B2,0,none⟩ = some (.slice (some ⟨b,off,none⟩) (m * 3) cap)) (h3 : W.cell? ⟨B3,0,none⟩ = some (.int .i64 3)) (h0 : J [] W) (hJd : ∀ pre W n,J pre W → J pre (W.drewN n)) :
  CallsIn Fence.wide 5 Try.prog 102 #[.func (.yield l) #[] #[],.pointer (some ⟨B2,0,none⟩),.pointer (some ⟨B3,0,none⟩)] W fun e W' => (∃ v,e = .returned v) ∧
   ((∃ ys,ys = List.finRange m ∧ J ys W') ∨ (∃ pre,pre <+: List.finRange m ∧ Jx pre W')) := by
 have hro : Fence.wide.round = none := rfl
 have h6 : Fence.wide.fn 102 := trivial
 refine callsIn_of_wp Try.func102 rfl h6 ?_ hro
 simp only [Try.ntmps102,List.size_toArray,List.length_cons,List.length_nil,Nat.reduceAdd,Nat.reduceSub,Array.replicate_succ,Array.replicate_zero,List.push_toArray,List.append_toArray,List.nil_append,List.cons_append]
 gi_wp2
 gi_loopw [4] (fun i wr => ∃ k : Nat,k ≤ m ∧ i = .int .i64 (↑(k * 3) : Int) ∧ wr.cell? ⟨B2,0,none⟩ = some (.slice (some ⟨b,off,none⟩) (m * 3) cap) ∧ wr.cell? ⟨B3,0,none⟩ = some (.int .i64 3) ∧ J ((List.finRange m).take k) wr)
  (fun i _ => m * 3 - (intOf i).toNat)
 case atStart => exact ⟨0,Nat.zero_le _,rfl,h2,h3,by simpa using h0⟩
 case round =>
  obtain ⟨k,hk,rfl,hc2,hc3,hJs⟩ := hrel
  clear h0 h2 h3
  by_cases hlt : k < m
  ·have hltz : ((k * 3 : Nat) : Int) < ((m * 3 : Nat) : Int) := by omega
   have hsl : (k : Int) * 3 ≤ (m : Int) * 3 := by omega
   gi_wp2
   refine wpIn_wide.2 ?_
   go_quiet (fail)
   obtain ⟨fn,tmps,assign,body,hy,hR⟩ := hY ((List.finRange m).take k) ⟨k,hlt⟩ (wr.drewN nq) (hJd _ _ _ hJs) (by rw [List.length_take,List.length_finRange];omega)
   unfold chunkV at hy
   dsimp only at hy
   clear hY
   have HT : Hid ((List.finRange m).take k ++ [⟨k,hlt⟩] = (List.finRange m).take (k + 1)) := by
    unfold Hid
    rw [List.take_succ_eq_append_getElem (by rw [List.length_finRange];exact hlt),List.getElem_finRange];rfl
   gi_wp2
   refine hR.mono ?_
   rintro e W3 (⟨rfl,hJ3,hK2,hK3⟩ | ⟨rfl,hJx3⟩)
   ·have hc2' : W3.cell? ⟨B2,0,none⟩ = some (.slice (some ⟨b,off,none⟩) (m * 3) cap) := (World.cell?_of_block (w := wr.drewN nq) hK2).trans hc2
    have hc3' : W3.cell? ⟨B3,0,none⟩ = some (.int .i64 3) := (World.cell?_of_block (w := wr.drewN nq) hK3).trans hc3
    rw [HT.out] at hJ3
    have HJ := Lib.hid hJ3
    clear hJ3 hK2 hK3 hJs hy hc2 hc3 hJd
    gi_wp2
    exact ⟨⟨k + 1,by omega,by congr 1;omega,hc2',hc3',HJ.out⟩,by simp [intOf];omega⟩
   ·rw [HT.out] at hJx3
    have HJ := Lib.hid hJx3
    clear hJx3 hJs hy hc2 hc3 hJd
    gi_wp2
    refine bodyPost_ret (results_none rfl _ _ _) rfl ?_
    exact ⟨⟨_,rfl⟩,.inr ⟨_,List.take_prefix _ _,HJ.out⟩⟩
  ·have hke : k = m := by omega
   subst hke
   gi_wp2
   go_end0
   exact ⟨⟨_,rfl⟩,.inl ⟨_,rfl,by simpa [List.take_of_length_le] using hJs⟩⟩
end Go.Proofs.Ytcjjoabofecjmaa

