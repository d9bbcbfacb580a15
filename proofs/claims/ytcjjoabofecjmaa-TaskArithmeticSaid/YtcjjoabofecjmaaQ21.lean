/- A part of the proof: A task that runs stays valid; A task that runs stays valid u. -/
import Derived.Test.YtcjjoabofecjmaaQ26
set_option linter.unusedVariables false
set_option linter.unusedSimpArgs false
set_option maxHeartbeats 16000000
namespace Go.Proofs.Ytcjjoabofecjmaa
open Go.RowKit
open Go.Value (int)
def skF (f : Frm) : Int × Int × Bool := (f.fn,f.result,f.cleanup)
def skB (b : Blk) : Int × Int × Int × Int := (b.scope,b.depth,b.exit,b.mask)
structure Live (p : Prg) (t : Tsk) : Prop where
 fst : ∀ f,t.frames[0]? = some f → f.cleanup = false → f.fn = t.fn ∧ f.result = -1
 cres : ∀ (i : Nat) f,t.frames[i]? = some f → f.cleanup = true → f.result = -1
 blks : blksB p t.blocks = true
 mask : leastI t ≤ t.mask ∧ t.mask ≤ mostI t
 zero : plainN t = 0 → t.unw = true ∧ t.level = 0
 lvl : t.level ≠ 0 → t.unw = true ∧ 2 ≤ t.level ∧ t.level ≤ t.blocks.length
 unw : t.unw = true → (t.level = 0 → plainN t = 0) ∧ (0 < t.level → (plainN t : Int) = depthAt t (t.level - 1))
 keep : ∀ i,1 ≤ i → i < keepsN t → keepB p t i = true
 hand : t.unw = true → inHand t = true
theorem sk_get {α β : Type} {g : α → β} {l l' : List α} (h : l'.map g = l.map g) {i : Nat} {x' : α} (hx : l'[i]? = some x') : ∃ x,l[i]? = some x ∧ g x' = g x := by
 have h1 : (l'.map g)[i]? = (l.map g)[i]? := by rw [h]
 rw [List.getElem?_map,List.getElem?_map,hx] at h1
 cases hl : l[i]? with
 | none => rw [hl] at h1;cases h1
 | some x => rw [hl] at h1;injection h1 with h1;exact ⟨x,rfl,h1⟩
theorem sk_len {α β : Type} {g : α → β} {l l' : List α} (h : l'.map g = l.map g) : l'.length = l.length := by
 have := congrArg List.length h
 simpa using this
theorem map_set_same {α β : Type} {g : α → β} {l : List α} {k : Nat} {x y : α} (hx : l[k]? = some x) (hg : g y = g x) : (l.set k y).map g = l.map g := by
 apply List.ext_getElem?
 intro i
 rw [List.getElem?_map,List.getElem?_map,List.getElem?_set]
 split
 ·rename_i e
  subst e
  rw [if_pos (List.getElem?_eq_some_iff.1 hx).1,hx]
  simp [hg]
 ·rfl
theorem inHand_sk {t t' : Tsk} (h : t'.frames.map skF = t.frames.map skF) : inHand t' = inHand t := by
 have hh : ∀ u : Tsk,inHand u = (match (u.frames.map skF).getLast? with | some s => s.2.2 | none => false) := fun u => by
  unfold inHand
  rw [List.getLast?_map]
  cases u.frames.getLast? <;> rfl
 rw [hh,hh,h]
theorem plainN_sk {t t' : Tsk} (h : t'.frames.map skF = t.frames.map skF) : plainN t' = plainN t := by
 unfold plainN
 rw [inHand_sk h,sk_len h]
theorem keepB_iff {p : Prg} {t : Tsk} {i : Nat} : keepB p t i = true ↔ ∃ b f g x,t.blocks[i]? = some b ∧ b.depth ≤ (plainN t : Int) ∧ t.frames[(b.depth - 1).toNat]? = some f ∧ fnAt p f.fn = some g ∧ (0 ≤ b.exit ∧ b.exit ≤ (g.code.length : Int) - 1) ∧ g.code[b.exit.toNat]? = some x ∧ x.op = 36 := by
 constructor
 ·intro h
  unfold keepB at h
  cases hb : t.blocks[i]? with
  | none => rw [hb] at h;cases h
  | some b =>
   rw [hb] at h
   simp only [Bool.and_eq_true,decide_eq_true_eq] at h
   obtain ⟨h1,h2⟩ := h
   cases hf : t.frames[(b.depth - 1).toNat]? with
   | none => rw [hf] at h2;cases h2
   | some f =>
    rw [hf] at h2
    dsimp only at h2
    cases hg : fnAt p f.fn with
    | none => rw [hg] at h2;cases h2
    | some g =>
     rw [hg] at h2
     simp only [Bool.and_eq_true,inB_iff] at h2
     obtain ⟨h3,h4⟩ := h2
     cases hx : g.code[b.exit.toNat]? with
     | none => rw [hx] at h4;cases h4
     | some x => rw [hx] at h4;exact ⟨b,f,g,x,rfl,h1,hf,hg,h3,hx,by simpa using h4⟩
 ·rintro ⟨b,f,g,x,hb,h1,hf,hg,h3,hx,h4⟩
  unfold keepB
  rw [hb]
  dsimp only
  rw [hf]
  dsimp only
  rw [hg]
  dsimp only
  rw [hx]
  simp only [Bool.and_eq_true,decide_eq_true_eq,inB_iff]
  exact ⟨h1,h3,by simpa using h4⟩
theorem keepB_mono {p : Prg} {t t' : Tsk} {i : Nat} (h : keepB p t i = true) (hB : t'.blocks.map skB = t.blocks.map skB) (hd : ∀ b,t.blocks[i]? = some b → b.depth ≤ (plainN t' : Int))
  (hF : ∀ b f,t.blocks[i]? = some b → t.frames[(b.depth - 1).toNat]? = some f → ∃ f',t'.frames[(b.depth - 1).toNat]? = some f' ∧ f'.fn = f.fn) : keepB p t' i = true := by
 obtain ⟨b,f,g,x,hb,_,hf,hg,h3,hx,h4⟩ := keepB_iff.1 h
 obtain ⟨b',hb',he⟩ := sk_get hB.symm hb
 obtain ⟨f',hf',hfn⟩ := hF b f hb hf
 simp only [skB,Prod.mk.injEq] at he
 obtain ⟨e1,e2,e3,e4⟩ := he
 exact keepB_iff.2 ⟨b',f',g,x,hb',by rw [← e2];exact hd b hb,by rw [← e2];exact hf',by rw [hfn];exact hg,by rw [← e3];exact h3,by rw [← e3];exact hx,h4⟩
theorem depthAt_sk {t t' : Tsk} (h : t'.blocks.map skB = t.blocks.map skB) (k : Int) : depthAt t' k = depthAt t k := by
 unfold depthAt
 cases hb : t'.blocks[k.toNat]? with
 | none =>
  cases hc : t.blocks[k.toNat]? with
  | none => rfl
  | some c => obtain ⟨b,e,_⟩ := sk_get h.symm hc;rw [hb] at e;cases e
 | some b =>
  obtain ⟨c,e,e2⟩ := sk_get h hb
  rw [e]
  simp only [skB,Prod.mk.injEq] at e2
  exact e2.2.1
theorem Live.same {p : Prg} {t t' : Tsk} (l : Live p t) (hF : t'.frames.map skF = t.frames.map skF) (hB : t'.blocks.map skB = t.blocks.map skB) (hb : blksB p t'.blocks = true) (hfn : t'.fn = t.fn) (hu : t'.unw = t.unw) (hl : t'.level = t.level) (hm : leastI t ≤ t'.mask ∧ t'.mask ≤ mostI t) : Live p t' := by
 have e1 := inHand_sk hF
 have e2 := plainN_sk hF
 have e3 : keepsN t' = keepsN t := by unfold keepsN;rw [hu,hl,sk_len hB]
 refine ⟨fun f hf hc => ?_,fun i f hf hc => ?_,hb,by unfold leastI mostI at *;rw [e1];exact hm,by rw [e2,hu,hl];exact l.zero,by rw [hu,hl,sk_len hB];exact l.lvl, ?_,fun i h1 h2 => ?_,by rw [hu,e1];exact l.hand⟩
 ·obtain ⟨x,hx,e⟩ := sk_get hF hf
  simp only [skF,Prod.mk.injEq] at e
  rw [e.1,e.2.1,hfn]
  exact l.fst x hx (by rw [← e.2.2];exact hc)
 ·obtain ⟨x,hx,e⟩ := sk_get hF hf
  simp only [skF,Prod.mk.injEq] at e
  rw [e.2.1]
  exact l.cres i x hx (by rw [← e.2.2];exact hc)
 ·rw [hu,hl,e2,depthAt_sk hB];exact l.unw
 ·have hk := l.keep i h1 (by omega)
  refine keepB_mono hk hB (fun b hb => ?_) (fun b f hb hf => ?_)
  ·obtain ⟨b',_,_,_,hb',hd,_⟩ := keepB_iff.1 hk
   rw [hb] at hb';injection hb' with hb';subst hb'
   rw [e2];exact hd
  ·obtain ⟨x,hx,e⟩ := sk_get hF.symm hf
   simp only [skF,Prod.mk.injEq] at e
   exact ⟨x,hx,e.1.symm⟩
theorem blk_at {p : Prg} {bs : List Blk} (h : blksB p bs = true) {i : Nat} {b : Blk} (hb : bs[i]? = some b) : b.handlers.length ≤ 8 ∧ (∀ x ∈ b.handlers,hdlB p x = true) ∧ (i = 0 → b.scope = -1 ∧ b.depth = 0 ∧ b.exit = 0 ∧ b.mask = 0) ∧
  (1 ≤ i → ∃ a,bs[i - 1]? = some a ∧ (0 ≤ b.scope ∧ b.scope ≤ 31) ∧ (1 ≤ b.depth ∧ b.depth ≤ 8) ∧ (0 ≤ b.mask ∧ b.mask ≤ 100) ∧ a.scope < b.scope ∧ a.depth ≤ b.depth) := by
 unfold blksB at h
 simp only [Bool.and_eq_true,inB_iff] at h
 have hi := (List.getElem?_eq_some_iff.1 hb).1
 have h2 := allB_iff.1 h.2 i (Nat.zero_le _) (by omega)
 unfold blkB at h2
 rw [hb] at h2
 simp only [Bool.and_eq_true,decide_eq_true_eq,List.all_eq_true] at h2
 obtain ⟨⟨h3,h4⟩,h5⟩ := h2
 refine ⟨h3,h4,fun h0 => ?_,fun h1 => ?_⟩
 ·rw [if_pos h0] at h5
  simp only [Bool.and_eq_true,beq_iff_eq] at h5
  exact ⟨h5.1.1.1,h5.1.1.2,h5.1.2,h5.2⟩
 ·rw [if_neg (by omega)] at h5
  cases ha : bs[i - 1]? with
  | none => rw [ha] at h5;cases h5
  | some a =>
   rw [ha] at h5
   simp only [Bool.and_eq_true,decide_eq_true_eq,inB_iff] at h5
   exact ⟨a,rfl,h5.1.1.1.1,h5.1.1.1.2,h5.1.1.2,h5.1.2,h5.2⟩
theorem blks_len {p : Prg} {bs : List Blk} (h : blksB p bs = true) : 1 ≤ bs.length ∧ bs.length ≤ 8 := by
 unfold blksB at h
 simp only [Bool.and_eq_true,inB_iff] at h
 omega
theorem depth_mono {p : Prg} {bs : List Blk} (h : blksB p bs = true) {i : Nat} {a : Blk} (ha : bs[i]? = some a) : ∀ (k : Nat) (b : Blk),bs[i + k]? = some b → a.depth ≤ b.depth
 | 0,b,hb => by rw [Nat.add_zero,ha] at hb;injection hb with hb;subst hb;exact Int.le_refl _
 | k + 1,b,hb => by
  obtain ⟨_,_,_,h4⟩ := blk_at h hb
  obtain ⟨c,hc,_,_,_,_,h5⟩ := h4 (by omega)
  have := depth_mono h ha k c hc
  omega
theorem Live.off {p : Prg} {t : Tsk} (l : Live p t) (hi : inHand t = false) : t.unw = false ∧ t.level = 0 := by
 have hu : t.unw = false := by
  cases h : t.unw with
  | false => rfl
  | true => rw [l.hand h] at hi;cases hi
 refine ⟨hu, ?_⟩
 rcases Decidable.em (t.level = 0) with h | h
 ·exact h
 ·have := (l.lvl h).1;rw [hu] at this;cases this
theorem inHand_snoc {t : Tsk} {l : List Frm} {x : Frm} (h : t.frames = l ++ [x]) : inHand t = x.cleanup := by
 unfold inHand;rw [h,List.getLast?_concat]
theorem Live.push {p : Prg} {t : Tsk} (l : Live p t) (hi : inHand t = false) (hpos : 1 ≤ t.frames.length) {nw : Frm} (hc : nw.cleanup = false) : Live p { t with frames := t.frames ++ [nw] } := by
 obtain ⟨hu,hl⟩ := l.off hi
 have e1 : inHand { t with frames := t.frames ++ [nw] } = false := by rw [inHand_snoc rfl,hc]
 have e2 : plainN { t with frames := t.frames ++ [nw] } = t.frames.length + 1 := by unfold plainN;rw [e1];simp
 have e3 : plainN t = t.frames.length := by unfold plainN;rw [hi];rfl
 have hm := l.mask
 refine ⟨fun f hf hfc => ?_,fun i f hf hfc => ?_,l.blks,by unfold leastI mostI at *;rw [e1];rw [hi] at hm;exact hm,fun h0 => by rw [e2] at h0;omega,l.lvl,fun h => by exact absurd (show t.unw = true from h) (by rw [hu];decide),fun i h1 h2 => ?_,fun h => by exact absurd (show t.unw = true from h) (by rw [hu];decide)⟩
 ·rcases snoc_cases hf with ⟨_,hf⟩ | ⟨h0,rfl⟩
  ·exact l.fst f hf hfc
  ·omega
 ·rcases snoc_cases hf with ⟨_,hf⟩ | ⟨h0,rfl⟩
  ·exact l.cres i f hf hfc
  ·rw [hc] at hfc;cases hfc
 ·have hk := l.keep i h1 h2
  refine keepB_mono hk rfl (fun b hb => ?_) (fun b f hb hf => ?_)
  ·obtain ⟨b',_,_,_,hb',hd,_⟩ := keepB_iff.1 hk
   rw [hb] at hb';injection hb' with hb';subst hb'
   rw [e2];omega
  ·have hlt := (List.getElem?_eq_some_iff.1 hf).1
   exact ⟨f,by show (t.frames ++ [nw])[_]? = _;rw [List.getElem?_append_left hlt];exact hf,rfl⟩
theorem pop_index {d z : Int} {N : Nat} (h1 : 1 ≤ d) (h2 : d ≤ z) (h3 : z ≤ (N : Int)) (h4 : z ≠ (N : Int)) : (d - 1).toNat < N - 1 := by omega
theorem Live.pop {p : Prg} {t : Tsk} (l : Live p t) (hr : RunOk p t) (hi : inHand t = false) (h2 : 2 ≤ t.frames.length) (hb : ∀ b,lastB t = some b → b.depth ≠ t.frames.length) : Live p { t with frames := t.frames.take (t.frames.length - 1) } := by
 obtain ⟨hu,hl⟩ := l.off hi
 have hlen : (t.frames.take (t.frames.length - 1)).length = t.frames.length - 1 := by rw [List.length_take];omega
 have hget : ∀ (i : Nat) (x : Frm),(t.frames.take (t.frames.length - 1))[i]? = some x → i < t.frames.length - 1 ∧ t.frames[i]? = some x := fun i x hx => by
  rw [List.getElem?_take] at hx
  split at hx
  ·exact ⟨by assumption,hx⟩
  ·cases hx
 have e1 : inHand { t with frames := t.frames.take (t.frames.length - 1) } = false := by
  obtain ⟨x,hx⟩ : ∃ x,(t.frames.take (t.frames.length - 1))[(t.frames.take (t.frames.length - 1)).length - 1]? = some x := ⟨_,List.getElem?_eq_getElem (by omega)⟩
  rw [inHand_last (t := { t with frames := t.frames.take (t.frames.length - 1) }) hx]
  obtain ⟨h3,h4⟩ := hget _ _ hx
  cases hc : x.cleanup with
  | false => rfl
  | true => have := hr.cl _ x h4 hc;omega
 have e2 : plainN { t with frames := t.frames.take (t.frames.length - 1) } = t.frames.length - 1 := by unfold plainN;rw [e1];exact hlen
 have e3 : plainN t = t.frames.length := by unfold plainN;rw [hi];rfl
 have hm := l.mask
 refine ⟨fun f hf hfc => l.fst f (hget _ _ hf).2 hfc,fun i f hf hfc => l.cres i f (hget _ _ hf).2 hfc,l.blks,by unfold leastI mostI at *;rw [e1];rw [hi] at hm;exact hm,fun h0 => by rw [e2] at h0;omega,l.lvl,fun h => by exact absurd (show t.unw = true from h) (by rw [hu];decide),fun i h1 h3 => ?_,fun h => by exact absurd (show t.unw = true from h) (by rw [hu];decide)⟩
 have hkn : keepsN t = t.blocks.length := by unfold keepsN;rw [hu];rfl
 have h3' : i < t.blocks.length := by rw [← hkn];exact h3
 clear h3
 have hk := l.keep i h1 (by rw [hkn];exact h3')
 obtain ⟨b,hbi⟩ : ∃ b,t.blocks[i]? = some b := ⟨_,List.getElem?_eq_getElem h3'⟩
 obtain ⟨z,hz⟩ : ∃ z,t.blocks[t.blocks.length - 1]? = some z := ⟨_,List.getElem?_eq_getElem (by omega)⟩
 have hne := hb z hz
 obtain ⟨z',_,_,_,hz',hdz,_⟩ := keepB_iff.1 (l.keep (t.blocks.length - 1) (by clear hm e2;omega) (by rw [hkn];clear hm e2;omega))
 rw [hz] at hz';injection hz' with hz';subst hz'
 have hdm := depth_mono l.blks hbi (t.blocks.length - 1 - i) z (by rw [Nat.add_sub_cancel' (Nat.le_sub_one_of_lt h3')];exact hz)
 obtain ⟨_,_,_,hb4⟩ := blk_at l.blks hbi
 obtain ⟨_,_,_,hbd,_⟩ := hb4 h1
 refine keepB_mono hk rfl (fun b' hb' => ?_) (fun b' f hb' hf => ?_)
 ·rw [hbi] at hb';injection hb' with hb';subst hb'
  rw [e2];omega
 ·rw [hbi] at hb';injection hb' with hb';subst hb'
  refine ⟨f, ?_,rfl⟩
  show (t.frames.take (t.frames.length - 1))[_]? = _
  rw [List.getElem?_take,if_pos (pop_index hbd.1 hdm (by rw [e3] at hdz;exact hdz) hne)]
  exact hf
def BlkExt (t t' : Tsk) : Prop := t'.blocks.length = t.blocks.length ∧ ∀ (i : Nat) b,t.blocks[i]? = some b → ∃ c,t'.blocks[i]? = some c ∧ skB c = skB b ∧ (∃ l,c.handlers = b.handlers ++ l) ∧ (i + 1 < t.blocks.length → c.handlers = b.handlers)
theorem BlkExt.trans {a b c : Tsk} (h : BlkExt a b) (k : BlkExt b c) : BlkExt a c := by
 refine ⟨k.1.trans h.1,fun i x hx => ?_⟩
 obtain ⟨y,hy,e1,⟨l,e2⟩,e3⟩ := h.2 i x hx
 obtain ⟨z,hz,d1,⟨m,d2⟩,d3⟩ := k.2 i y hy
 exact ⟨z,hz,d1.trans e1,⟨l ++ m,by rw [d2,e2,List.append_assoc]⟩,fun hi => (d3 (by rw [h.1];exact hi)).trans (e3 hi)⟩
theorem valid_of {p : Prg} {t : Tsk} (hst : t.status ≠ 3) (hc : checkS p = 0) (hn : numsB p t = true) (hw : waitB p t = true) (hl : livB p t = true) : tcheckS p t = 0 := by
 unfold tcheckS
 rw [if_neg (by rw [hc,hn,hw];simp),if_neg hst,if_pos hl]
theorem frm_fn {p : Prg} {t : Tsk} (h : allB (frmB p t) t.frames.length 0 = true) {i : Nat} {f : Frm} (hf : t.frames[i]? = some f) : ∃ g,FrOk p f g := by
 have h2 := allB_iff.1 h i (Nat.zero_le _) (by have := (List.getElem?_eq_some_iff.1 hf).1;omega)
 unfold frmB at h2
 rw [hf] at h2
 dsimp only at h2
 cases hfn : fnAt p f.fn with
 | none => rw [hfn] at h2;cases h2
 | some g =>
  rw [hfn] at h2
  simp only [Bool.and_eq_true,inB_iff,beq_iff_eq,List.all_eq_true] at h2
  obtain ⟨⟨⟨⟨a1,a2⟩,a3⟩,a4⟩,_⟩ := h2
  exact ⟨g,⟨hfn,a1,a2,a3,a4⟩⟩
structure LivOk (p : Prg) (t : Tsk) : Prop where
 blks : blksB p t.blocks = true
 mask : leastI t ≤ t.mask ∧ t.mask ≤ mostI t
 plain : plainN t ≤ 8
 fr : allB (frmB p t) t.frames.length 0 = true
theorem LivOk.frames9 {p : Prg} {t : Tsk} (l : LivOk p t) : t.frames.length ≤ 9 := by
 have := l.plain
 unfold plainN at this
 split at this <;> omega
theorem LivOk.wk {p : Prg} {t : Tsk} (l : LivOk p t) (hc : checkS p = 0) : RunWk t := by
 have hbl := blks_len l.blks
 refine ⟨l.frames9,fun f hf => ?_,hbl.2,fun b hb => ?_, ?_⟩
 ·obtain ⟨i,hi,rfl⟩ := List.getElem_of_mem hf
  obtain ⟨g,hg⟩ := frm_fn l.fr (List.getElem?_eq_getElem hi)
  have := (fn_ok hc (fnAt_mem hg.fn)).reg
  have := hg.regs
  omega
 ·obtain ⟨i,hi,rfl⟩ := List.getElem_of_mem hb
  exact (blk_at l.blks (List.getElem?_eq_getElem hi)).1
 ·have := l.mask
  unfold leastI mostI at this
  split at this <;> omega
theorem hdl_ok {p : Prg} {h : Hdl} (hh : hdlB p h = true) : ∃ g,fnAt p h.fn = some g ∧ g.cleanup = true ∧ (h.args.length : Int) = g.params ∧ ∀ x ∈ h.args,numB x = true := by
 unfold hdlB at hh
 cases hg : fnAt p h.fn with
 | none => rw [hg] at hh;cases hh
 | some g =>
  rw [hg] at hh
  simp only [Bool.and_eq_true,beq_iff_eq,List.all_eq_true] at hh
  exact ⟨g,rfl,hh.1.1,hh.1.2,hh.2⟩
theorem LivOk.hdl {p : Prg} {t : Tsk} (l : LivOk p t) {b : Blk} (hb : lastB t = some b) {h : Hdl} (hh : h ∈ b.handlers) : ∃ g,fnAt p h.fn = some g ∧ g.cleanup = true ∧ (h.args.length : Int) = g.params ∧ ∀ x ∈ h.args,numB x = true :=
 hdl_ok ((blk_at l.blks (show t.blocks[t.blocks.length - 1]? = some b from hb)).2.1 h hh)
end Go.Proofs.Ytcjjoabofecjmaa

