/- A part of the proof: slices.Clone at the five element types of this program. -/
import Derived.Test.YtcjjoabofecjmaaQ01
import Derived.Maps.AppendAt
import Derived.Laws.OwnMore
import Derived.Deep.AppendLies
import Derived.OwnWalk
import Derived.Lib.LazyBuf
import Derived.Shelf.Abstract
import Derived.Deep.LoopGhost
set_option linter.unusedVariables false
set_option linter.unusedSimpArgs false
set_option maxHeartbeats 16000000
namespace Go.Proofs.Ytcjjoabofecjmaa
open Go.RowKit
open Go.Value (int)
def CSl (w : World) (A : Option Addr) (n sz : Nat) (cs : List Value) : Prop :=
 cs.length = n * sz ∧ (0 < n → ∃ b o,A = some ⟨b,o,none⟩ ∧ ∀ j u,cs[j]? = some u → w.cell? ⟨b,o + j,none⟩ = some u)
theorem addr_add (b o j : Nat) : (⟨b,o,none⟩ : Addr).add j = ⟨b,o + j,none⟩ := by unfold Addr.add;split <;> simp_all
theorem CSl.mono {w W : World} {A : Option Addr} {n sz : Nat} {cs : List Value} (h : CSl w A n sz cs) (hw : Ext w W) : CSl W A n sz cs :=
 ⟨h.1,fun hn => by obtain ⟨b,o,hA,hc⟩ := h.2 hn;exact ⟨b,o,hA,fun j u hj => hw.cell (hc j u hj)⟩⟩
theorem CSl.news {w : World} {ad : Addr} {n sz : Nat} {cs : List Value} (h : CSl w (some ad) n sz cs) : ∀ j u,cs[j]? = some u → w.cell? (ad.add j) = some u := by
 intro j u hj
 have hn : 0 < n := by
  rcases Nat.eq_zero_or_pos n with h0 | h0
  ·subst h0
   have : cs = [] := List.eq_nil_of_length_eq_zero (by simpa using h.1)
   subst this
   simp at hj
  ·exact h0
 obtain ⟨b,o,hA,hc⟩ := h.2 hn
 cases hA
 rw [addr_add]
 exact hc j u hj
theorem infoInt : (Try.prog.info? 3).map (fun i => (i.zero,i.size,i.bytes)) = some (some (.int .i64 0),1,8) := by kernel_rfl
theorem cloneInt (A : Option Addr) (n c : Nat) (cs : List Value) (w : World) (hA : A = none → n = 0) (hs : CSl w A n 1 cs) (h1 : ∀ u ∈ cs,u.oneCell' = true) (hn : n ≤ 1000) :
  Calls Try.prog 31 #[.slice A n c] w fun e w' => ∃ v,e = .returned v ∧ w'.ownsRow w.heap.size 3 1 v n cs ∧ Ext w w' := by
 have HS := Lib.hid hs
 have H1 := Lib.hid h1
 clear hs h1
 rcases A with _ | ⟨b,o,f⟩
 ·obtain rfl := hA rfl
  clear hA hn
  have he : ∀ w : World,(binOp .eql 23 (.slice none 0 c) (.slice none 0 0)).run Try.prog w = .ok (.bool true) w := fun w => Lib.run_eql_slice_nil w 23 3 none 0 c 0 0 Try.underlying23
  go_enter Try.func31,Try.ntmps31
  go_wp2
  go_ret
  have : cs = [] := List.eq_nil_of_length_eq_zero (by simpa using HS.out.1)
  subst this
  exact ⟨_,rfl,World.ownsRow_nil _ _ _ _,xt⟩
 ·clear hA
  have he : ∀ w : World,(binOp .eql 23 (.slice (some ⟨b,o,f⟩) n c) (.slice none 0 0)).run Try.prog w = .ok (.bool false) w := fun w => Lib.run_eql_slice_nil w 23 3 (some ⟨b,o,f⟩) n c 0 0 Try.underlying23
  go_enter Try.func31,Try.ntmps31
  go_wp2_with (at_builtin;obtain ⟨i0,hi0,hz0,hz1,hz2⟩ := info_parts infoInt;refine wpList_append_own_at _ rfl (.tmp 5) (.tmp 6) _ rfl w.heap.size 3 i0 _ 1 8 Try.underlying23 hi0 hz0 hz1 hz2 rfl (by omega) _ 0 [] rfl (World.ownsRow_lit w #[] 0 (Nat.le_refl _) (by simp [maxLen]) (by simp)) ⟨b,o,f⟩ n c cs rfl HS.out.1 (CSl.news (HS.out.mono xt)) H1.out (by simp only [maxLen];omega) (by omega) (by simp) ?_;clear hi0 hz0 hz1 hz2;intro v' w' hown hgr hnil hat;have HO := Lib.hid hown;have HG := Lib.hid hgr;clear hown hgr hnil hat)
  go_ret
  exact ⟨_,rfl,by simpa using HO.out,((Below.refl _ w).alloc (Nat.le_refl _) _).grown HG.out (by simp) (fun k e => by cases e;exact Nat.le_refl _)⟩
theorem infoFrm : (Try.prog.info? 57).map (fun i => (i.zero,i.size,i.bytes)) = some (some (.agg #[.int .i64 0,.int .i64 0,.slice none 0 0,.int .i64 0,.bool false]),5,56) := by kernel_rfl
theorem cloneFrm (A : Option Addr) (n c : Nat) (cs : List Value) (w : World) (hA : A = none → n = 0) (hs : CSl w A n 5 cs) (h1 : ∀ u ∈ cs,u.oneCell' = true) (hn : n ≤ 1000) :
  Calls Try.prog 30 #[.slice A n c] w fun e w' => ∃ v,e = .returned v ∧ w'.ownsRow w.heap.size 57 5 v n cs ∧ Ext w w' := by
 have HS := Lib.hid hs
 have H1 := Lib.hid h1
 clear hs h1
 rcases A with _ | ⟨b,o,f⟩
 ·obtain rfl := hA rfl
  clear hA hn
  have he : ∀ w : World,(binOp .eql 41 (.slice none 0 c) (.slice none 0 0)).run Try.prog w = .ok (.bool true) w := fun w => Lib.run_eql_slice_nil w 41 57 none 0 c 0 0 Try.underlying41
  go_enter Try.func30,Try.ntmps30
  go_wp2
  go_ret
  have : cs = [] := List.eq_nil_of_length_eq_zero (by simpa using HS.out.1)
  subst this
  exact ⟨_,rfl,World.ownsRow_nil _ _ _ _,xt⟩
 ·clear hA
  have he : ∀ w : World,(binOp .eql 41 (.slice (some ⟨b,o,f⟩) n c) (.slice none 0 0)).run Try.prog w = .ok (.bool false) w := fun w => Lib.run_eql_slice_nil w 41 57 (some ⟨b,o,f⟩) n c 0 0 Try.underlying41
  go_enter Try.func30,Try.ntmps30
  go_wp2_with (at_builtin;obtain ⟨i0,hi0,hz0,hz1,hz2⟩ := info_parts infoFrm;refine wpList_append_own_at _ rfl (.tmp 5) (.tmp 6) _ rfl w.heap.size 57 i0 _ 5 56 Try.underlying41 hi0 hz0 hz1 hz2 rfl (by omega) _ 0 [] rfl (World.ownsRow_lit w #[] 0 (Nat.le_refl _) (by simp [maxLen]) (by simp)) ⟨b,o,f⟩ n c cs rfl HS.out.1 (CSl.news (HS.out.mono xt)) H1.out (by simp only [maxLen];omega) (by omega) (by simp) ?_;clear hi0 hz0 hz1 hz2;intro v' w' hown hgr hnil hat;have HO := Lib.hid hown;have HG := Lib.hid hgr;clear hown hgr hnil hat)
  go_ret
  exact ⟨_,rfl,by simpa using HO.out,((Below.refl _ w).alloc (Nat.le_refl _) _).grown HG.out (by simp) (fun k e => by cases e;exact Nat.le_refl _)⟩
theorem infoBlk : (Try.prog.info? 65).map (fun i => (i.zero,i.size,i.bytes)) = some (some (.agg #[.int .i64 0,.int .i64 0,.int .i64 0,.int .i64 0,.slice none 0 0]),5,56) := by kernel_rfl
theorem cloneBlk (A : Option Addr) (n c : Nat) (cs : List Value) (w : World) (hA : A = none → n = 0) (hs : CSl w A n 5 cs) (h1 : ∀ u ∈ cs,u.oneCell' = true) (hn : n ≤ 1000) :
  Calls Try.prog 32 #[.slice A n c] w fun e w' => ∃ v,e = .returned v ∧ w'.ownsRow w.heap.size 65 5 v n cs ∧ Ext w w' := by
 have HS := Lib.hid hs
 have H1 := Lib.hid h1
 clear hs h1
 rcases A with _ | ⟨b,o,f⟩
 ·obtain rfl := hA rfl
  clear hA hn
  have he : ∀ w : World,(binOp .eql 42 (.slice none 0 c) (.slice none 0 0)).run Try.prog w = .ok (.bool true) w := fun w => Lib.run_eql_slice_nil w 42 65 none 0 c 0 0 Try.underlying42
  go_enter Try.func32,Try.ntmps32
  go_wp2
  go_ret
  have : cs = [] := List.eq_nil_of_length_eq_zero (by simpa using HS.out.1)
  subst this
  exact ⟨_,rfl,World.ownsRow_nil _ _ _ _,xt⟩
 ·clear hA
  have he : ∀ w : World,(binOp .eql 42 (.slice (some ⟨b,o,f⟩) n c) (.slice none 0 0)).run Try.prog w = .ok (.bool false) w := fun w => Lib.run_eql_slice_nil w 42 65 (some ⟨b,o,f⟩) n c 0 0 Try.underlying42
  go_enter Try.func32,Try.ntmps32
  go_wp2_with (at_builtin;obtain ⟨i0,hi0,hz0,hz1,hz2⟩ := info_parts infoBlk;refine wpList_append_own_at _ rfl (.tmp 5) (.tmp 6) _ rfl w.heap.size 65 i0 _ 5 56 Try.underlying42 hi0 hz0 hz1 hz2 rfl (by omega) _ 0 [] rfl (World.ownsRow_lit w #[] 0 (Nat.le_refl _) (by simp [maxLen]) (by simp)) ⟨b,o,f⟩ n c cs rfl HS.out.1 (CSl.news (HS.out.mono xt)) H1.out (by simp only [maxLen];omega) (by omega) (by simp) ?_;clear hi0 hz0 hz1 hz2;intro v' w' hown hgr hnil hat;have HO := Lib.hid hown;have HG := Lib.hid hgr;clear hown hgr hnil hat)
  go_ret
  exact ⟨_,rfl,by simpa using HO.out,((Below.refl _ w).alloc (Nat.le_refl _) _).grown HG.out (by simp) (fun k e => by cases e;exact Nat.le_refl _)⟩
theorem infoHdl : (Try.prog.info? 83).map (fun i => (i.zero,i.size,i.bytes)) = some (some (.agg #[.int .i64 0,.slice none 0 0]),2,32) := by kernel_rfl
theorem cloneHdl (A : Option Addr) (n c : Nat) (cs : List Value) (w : World) (hA : A = none → n = 0) (hs : CSl w A n 2 cs) (h1 : ∀ u ∈ cs,u.oneCell' = true) (hn : n ≤ 1000) :
  Calls Try.prog 33 #[.slice A n c] w fun e w' => ∃ v,e = .returned v ∧ w'.ownsRow w.heap.size 83 2 v n cs ∧ Ext w w' := by
 have HS := Lib.hid hs
 have H1 := Lib.hid h1
 clear hs h1
 rcases A with _ | ⟨b,o,f⟩
 ·obtain rfl := hA rfl
  clear hA hn
  have he : ∀ w : World,(binOp .eql 63 (.slice none 0 c) (.slice none 0 0)).run Try.prog w = .ok (.bool true) w := fun w => Lib.run_eql_slice_nil w 63 83 none 0 c 0 0 Try.underlying63
  go_enter Try.func33,Try.ntmps33
  go_wp2
  go_ret
  have : cs = [] := List.eq_nil_of_length_eq_zero (by simpa using HS.out.1)
  subst this
  exact ⟨_,rfl,World.ownsRow_nil _ _ _ _,xt⟩
 ·clear hA
  have he : ∀ w : World,(binOp .eql 63 (.slice (some ⟨b,o,f⟩) n c) (.slice none 0 0)).run Try.prog w = .ok (.bool false) w := fun w => Lib.run_eql_slice_nil w 63 83 (some ⟨b,o,f⟩) n c 0 0 Try.underlying63
  go_enter Try.func33,Try.ntmps33
  go_wp2_with (at_builtin;obtain ⟨i0,hi0,hz0,hz1,hz2⟩ := info_parts infoHdl;refine wpList_append_own_at _ rfl (.tmp 5) (.tmp 6) _ rfl w.heap.size 83 i0 _ 2 32 Try.underlying63 hi0 hz0 hz1 hz2 rfl (by omega) _ 0 [] rfl (World.ownsRow_lit w #[] 0 (Nat.le_refl _) (by simp [maxLen]) (by simp)) ⟨b,o,f⟩ n c cs rfl HS.out.1 (CSl.news (HS.out.mono xt)) H1.out (by simp only [maxLen];omega) (by omega) (by simp) ?_;clear hi0 hz0 hz1 hz2;intro v' w' hown hgr hnil hat;have HO := Lib.hid hown;have HG := Lib.hid hgr;clear hown hgr hnil hat)
  go_ret
  exact ⟨_,rfl,by simpa using HO.out,((Below.refl _ w).alloc (Nat.le_refl _) _).grown HG.out (by simp) (fun k e => by cases e;exact Nat.le_refl _)⟩
theorem infoIns : (Try.prog.info? 30).map (fun i => (i.zero,i.size,i.bytes)) = some (some (.agg #[.int .i64 0,.int .i64 0,.int .i64 0,.int .i64 0,.slice none 0 0]),5,56) := by kernel_rfl
theorem cloneIns (A : Option Addr) (n c : Nat) (cs : List Value) (w : World) (hA : A = none → n = 0) (hs : CSl w A n 5 cs) (h1 : ∀ u ∈ cs,u.oneCell' = true) (hn : n ≤ 1000) :
  Calls Try.prog 9 #[.slice A n c] w fun e w' => ∃ v,e = .returned v ∧ w'.ownsRow w.heap.size 30 5 v n cs ∧ Ext w w' := by
 have HS := Lib.hid hs
 have H1 := Lib.hid h1
 clear hs h1
 rcases A with _ | ⟨b,o,f⟩
 ·obtain rfl := hA rfl
  clear hA hn
  have he : ∀ w : World,(binOp .eql 31 (.slice none 0 c) (.slice none 0 0)).run Try.prog w = .ok (.bool true) w := fun w => Lib.run_eql_slice_nil w 31 30 none 0 c 0 0 Try.underlying31
  go_enter Try.func9,Try.ntmps9
  go_wp2
  go_ret
  have : cs = [] := List.eq_nil_of_length_eq_zero (by simpa using HS.out.1)
  subst this
  exact ⟨_,rfl,World.ownsRow_nil _ _ _ _,xt⟩
 ·clear hA
  have he : ∀ w : World,(binOp .eql 31 (.slice (some ⟨b,o,f⟩) n c) (.slice none 0 0)).run Try.prog w = .ok (.bool false) w := fun w => Lib.run_eql_slice_nil w 31 30 (some ⟨b,o,f⟩) n c 0 0 Try.underlying31
  go_enter Try.func9,Try.ntmps9
  go_wp2_with (at_builtin;obtain ⟨i0,hi0,hz0,hz1,hz2⟩ := info_parts infoIns;refine wpList_append_own_at _ rfl (.tmp 5) (.tmp 6) _ rfl w.heap.size 30 i0 _ 5 56 Try.underlying31 hi0 hz0 hz1 hz2 rfl (by omega) _ 0 [] rfl (World.ownsRow_lit w #[] 0 (Nat.le_refl _) (by simp [maxLen]) (by simp)) ⟨b,o,f⟩ n c cs rfl HS.out.1 (CSl.news (HS.out.mono xt)) H1.out (by simp only [maxLen];omega) (by omega) (by simp) ?_;clear hi0 hz0 hz1 hz2;intro v' w' hown hgr hnil hat;have HO := Lib.hid hown;have HG := Lib.hid hgr;clear hown hgr hnil hat)
  go_ret
  exact ⟨_,rfl,by simpa using HO.out,((Below.refl _ w).alloc (Nat.le_refl _) _).grown HG.out (by simp) (fun k e => by cases e;exact Nat.le_refl _)⟩
end Go.Proofs.Ytcjjoabofecjmaa

