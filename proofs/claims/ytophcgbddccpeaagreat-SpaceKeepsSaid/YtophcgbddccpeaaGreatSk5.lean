/- Merged texts: WalkJ, TabA, TabB, TabC. -/
import Derived.Test.YtophcgbddccpeaaGreatSk4
import Derived.Test.YtophcgbddccpeaaGreatWide
import Derived.DeepKeys
import Derived.Deep.CutBlock
/- Leaves as structs of twelve cells. -/
namespace Go.Proofs.YtophcgbddccpeaaGreat
open Go.RowKit Go.ChangeShapes

structure Lf where
  (v r w x u g a d : Bool)
  (rsw ppn lev pos : Int)
def Lf.vs (l : Lf) : List Value := [.bool l.v, .bool l.r, .bool l.w, .bool l.x, .bool l.u, .bool l.g, .bool l.a, .bool l.d, .int .i64 l.rsw, .int .u64 l.ppn, .int .i64 l.lev, .int .u64 l.pos]
def Lf.val (l : Lf) : Value := .agg #[.bool l.v, .bool l.r, .bool l.w, .bool l.x, .bool l.u, .bool l.g, .bool l.a, .bool l.d, .int .i64 l.rsw, .int .u64 l.ppn, .int .i64 l.lev, .int .u64 l.pos]
def lf0 : Lf := ⟨false, false, false, false, false, false, false, false, 0, 0, 0, 0⟩
def LfWf (l : Lf) : Prop := (Lit.int .i64 l.rsw).wf = true ∧ (Lit.int .u64 l.ppn).wf = true ∧ (Lit.int .i64 l.lev).wf = true ∧ (Lit.int .u64 l.pos).wf = true
def Lf.cs (l : Lf) : Array Value := #[.bool l.v, .bool l.r, .bool l.w, .bool l.x, .bool l.u, .bool l.g, .bool l.a, .bool l.d, .int .i64 l.rsw, .int .u64 l.ppn, .int .i64 l.lev, .int .u64 l.pos]
theorem lcs_size (l : Lf) : l.cs.size = 12 := rfl
theorem lcs_toList (l : Lf) : l.cs.toList = l.vs := rfl
theorem lval_cs (l : Lf) : l.val = .agg l.cs := rfl
theorem one_lf (x : Lf) : ∀ u ∈ x.vs, u.oneCell' = true := by
  intro u hu
  simp [Lf.vs] at hu
  rcases hu with rfl | rfl | rfl | rfl | rfl | rfl | rfl | rfl | rfl | rfl | rfl | rfl <;> rfl
theorem lcs_one (l : Lf) : l.cs.all (·.oneCell') = true := Array.all_eq_true_iff_forall_mem.2 fun u hu => one_lf l u (by rw [← lcs_toList]; simpa using hu)
theorem lrow (l : Lf) : rowT Tryz.prog 98 l.cs.size = true := by rw [lcs_size]; kernel_rfl
def Lf.lits (l : Lf) : List Lit := [.bool l.v, .bool l.r, .bool l.w, .bool l.x, .bool l.u, .bool l.g, .bool l.a, .bool l.d, .int .i64 l.rsw, .int .u64 l.ppn, .int .i64 l.lev, .int .u64 l.pos]
theorem lits_inj (a b : Lf) : a.lits = b.lits ↔ a = b := by
  constructor
  · intro h
    cases a; cases b
    simp only [Lf.lits, List.cons.injEq, Lit.bool.injEq, Lit.int.injEq, true_and, and_true] at h
    obtain ⟨h1, h2, h3, h4, h5, h6, h7, h8, h9, h10, h11, h12⟩ := h
    simp only [Lf.mk.injEq]
    exact ⟨h1, h2, h3, h4, h5, h6, h7, h8, h9, by omega, h11, by omega⟩
  · rintro rfl; rfl
theorem key_int (d : Nat) (n : Int) (h : (Lit.int .i64 n).wf = true) : Tryz.prog.keyLits (d + 1) 3 [.int .i64 n] = some [.int .i64 n] := by
  unfold Program.keyLits
  simp [Tryz.underlying3, h]
theorem key_u64 (d : Nat) (n : Int) (h : (Lit.int .u64 n).wf = true) : Tryz.prog.keyLits (d + 1) 23 [.int .u64 n] = some [.int .u64 n] := by
  unfold Program.keyLits
  simp [Tryz.underlying23, h]
theorem key_bool (d : Nat) (b : Bool) : Tryz.prog.keyLits (d + 1) 4 [.bool b] = some [.bool b] := by
  unfold Program.keyLits
  simp [Tryz.underlying4]
theorem c_int : Tryz.prog.cellsOf 3 = 1 := by kernel_rfl
theorem c_u64 : Tryz.prog.cellsOf 23 = 1 := by kernel_rfl
theorem c_bool : Tryz.prog.cellsOf 4 = 1 := by kernel_rfl
theorem c_pte : Tryz.prog.cellsOf 96 = 10 := by kernel_rfl
theorem c_leaf : Tryz.prog.cellsOf 98 = 12 := by kernel_rfl
theorem key_pte (d : Nat) (l : Lf) (h : LfWf l) : Tryz.prog.keyLits (d + 2) 96 [.bool l.v, .bool l.r, .bool l.w, .bool l.x, .bool l.u, .bool l.g, .bool l.a, .bool l.d, .int .i64 l.rsw, .int .u64 l.ppn] = some [.bool l.v, .bool l.r, .bool l.w, .bool l.x, .bool l.u, .bool l.g, .bool l.a, .bool l.d, .int .i64 l.rsw, .int .u64 l.ppn] := by
  obtain ⟨h1, h2, h3, h4⟩ := h
  unfold Program.keyLits
  simp [Tryz.underlying96, c_pte, c_int, c_u64, c_bool, key_int, key_u64, key_bool, h1, h2]
theorem key_leaf (d : Nat) (l : Lf) (h : LfWf l) : Tryz.prog.keyLits (d + 3) 98 l.vs = some l.lits := by
  have hp := key_pte d l h
  obtain ⟨h1, h2, h3, h4⟩ := h
  unfold Program.keyLits Lf.vs Lf.lits
  simp [Tryz.underlying98, c_leaf, c_pte, c_int, c_u64, key_int, key_u64, hp, h3, h4]
theorem leaf_eq (W : World) (a b : Lf) (ha : LfWf a) (hb : LfWf b) : ∃ r : Bool, (Op.equalIn 10000 98 (.agg a.cs) (.agg b.cs)).run Tryz.prog W = .ok r W ∧ (r = true ↔ a = b) := by
  have h := run_equalIn_deep (P := Tryz.prog) 9995 5 98 (by kernel_rfl)
  obtain ⟨r, hr, hi⟩ := h W 5 5 _ _ _ _ (by kernel_rfl : (Value.agg a.cs).formed Tryz.prog 98 = true) (by kernel_rfl : (Value.agg b.cs).formed Tryz.prog 98 = true) (key_leaf 2 a ha) (key_leaf 2 b hb)
  exact ⟨r, hr, hi.trans (lits_inj a b)⟩
theorem leaf_same (W : World) (a : Lf) (ha : LfWf a) : (Op.equalIn 10000 98 (.agg a.cs) (.agg a.cs)).run Tryz.prog W = .ok true W := by
  obtain ⟨r, hr, hi⟩ := leaf_eq W a a ha ha
  rw [hi.2 rfl] at hr
  exact hr
def fdL : Fd → Lf
  | .err _ => lf0
  | .leaf x l a => ⟨bitB x 0, bitB x 1, bitB x 2, bitB x 3, bitB x 4, bitB x 5, bitB x 6, bitB x 7, (x : Int) / 256 % 4, (x : Int) / 1024 % 17592186044416, (l : Int), (a : Int)⟩
theorem fdV_cs (fd : Fd) : fdV fd = .agg (fdL fd).cs := by cases fd <;> rfl
theorem leafZ_cs : leafZ = .agg lf0.cs := rfl
theorem lf0_wf : LfWf lf0 := by unfold LfWf; decide
theorem wf64 {n : Int} (h : 0 ≤ n) (h2 : n < 9223372036854775808) : (Lit.int .i64 n).wf = true := by simp [Lit.wf, IntKind.min, IntKind.max, IntKind.signed, IntKind.bits]; omega
theorem wfu {n : Int} (h : 0 ≤ n) (h2 : n < 18446744073709551616) : (Lit.int .u64 n).wf = true := by simp [Lit.wf, IntKind.min, IntKind.max, IntKind.signed, IntKind.bits]; omega
theorem fdL_wf {x l a : Nat} (hl : l ≤ 2) (ha : a < 18446744073709551616) : LfWf (fdL (.leaf x l a)) :=
  ⟨wf64 (by simp only [fdL]; omega) (by simp only [fdL]; omega), wfu (by simp only [fdL]; omega) (by simp only [fdL]; omega), wf64 (by simp only [fdL]; omega) (by simp only [fdL]; omega), wfu (by simp only [fdL]; omega) (by simp only [fdL]; omega)⟩
theorem lcs_10 (l : Lf) : l.cs[10]? = some (.int .i64 l.lev) := rfl
theorem lcs_11 (l : Lf) : l.cs[11]? = some (.int .u64 l.pos) := rfl
end Go.Proofs.YtophcgbddccpeaaGreat

/- Tables in memory: the object, and what it takes of its stock. -/
namespace Go.Proofs.YtophcgbddccpeaaGreat
open Go.RowKit

/-- What of tables stays: where they, their memory and their stock lie; frames of the memory; the stock's first frame and how many; the root's frame. -/
structure TC where
  tb : Nat
  gm : Nat
  sb : Nat
  n : Nat
  first : Nat
  N : Nat
  root : Nat
/-- What of tables changes: the memory's bytes, frames taken of the stock, frames of their own. -/
structure TS where
  S : Nat → List Nat
  k : Nat
  u : Nat
structure StkOK (c : TC) (k : Nat) (s : SV) : Prop where
  end_ : s.end_ = ((c.first + c.N : Nat) : Int)
  len : s.taken.length = k
  all : ∀ f ∈ s.taken, 0 ≤ f ∧ f < ((c.first + k : Nat) : Int)
  at_ : (s.given = [] ∧ s.next = ((c.first + k : Nat) : Int) ∧ k ≤ c.N) ∨ (s.given = [((c.first + k : Nat) : Int)] ∧ s.next = ((c.first + k : Nat) : Int) + 1 ∧ c.n ≤ c.first + k ∧ k < c.N)
  big : c.first + c.N ≤ 1048576
structure TabAt (w : World) (c : TC) (σ : TS) (Fm Fs : Nat → Prop) : Prop where
  hd : Blk w c.tb 117 #[.pointer (some ⟨c.gm, 0, none⟩), .pointer (some ⟨c.sb, 0, none⟩), .int .i64 (c.root : Int), .int .i64 (σ.u : Int)]
  mem : Mem w c.gm Fm c.n σ.S
  stk : ∃ s, StockAt w c.sb Fs s ∧ StkOK c σ.k s
  dis : ∀ b, Fm b → ¬ Fs b
  tm : ¬ Fm c.tb
  ts : ¬ Fs c.tb
  ml : ∀ b, Fm b → b < w.heap.size
  ul : σ.u ≤ σ.k
  rl : c.root < 1048576
def TabF (c : TC) (Fm Fs : Nat → Prop) : Nat → Prop := fun b => Fm b ∨ Fs b ∨ b = c.tb
def TabTo (W : World) (c : TC) (σ : TS) (Fm Fs : Nat → Prop) (w' : World) : Prop :=
  ∃ Fm' Fs', TabAt w' c σ Fm' Fs' ∧ (∀ b, Fm' b → Fm b ∨ W.heap.size ≤ b) ∧ (∀ b, Fs' b → Fs b ∨ W.heap.size ≤ b) ∧ Keeps (TabF c Fm Fs) W w'
section
variable {w w' W : World} {c : TC} {σ σ' : TS} {Fm Fs Fm' Fs' : Nat → Prop}
theorem TabAt.lt (h : TabAt w c σ Fm Fs) {b : Nat} (hb : TabF c Fm Fs b) : b < w.heap.size := by
  obtain ⟨s, hs, _⟩ := h.stk
  rcases hb with hb | hb | rfl
  · exact h.ml b hb
  · exact hs.bound hb
  · exact h.hd.lt
theorem TabAt.keeps {G : Nat → Prop} (h : TabAt w c σ Fm Fs) (k : Keeps G w w') (hd : ∀ b, TabF c Fm Fs b → ¬ G b) : TabAt w' c σ Fm Fs := by
  obtain ⟨s, hs, ho⟩ := h.stk
  exact ⟨k.blk h.hd (hd _ (.inr (.inr rfl))), h.mem.keeps k (fun b hb => hd b (.inl hb)), ⟨s, hs.keeps k (fun b hb => hd b (.inr (.inl hb))), ho⟩, h.dis, h.tm, h.ts, fun b hb => Nat.lt_of_lt_of_le (h.ml b hb) k.size, h.ul, h.rl⟩
theorem TabAt.below (h : TabAt w c σ Fm Fs) (hb : Below w.heap.size w w') : TabAt w' c σ Fm Fs := h.keeps (G := fun _ => False) (Keeps.of_below hb) (fun _ _ h => h)
theorem TabAt.self (h : TabAt w c σ Fm Fs) : TabTo w c σ Fm Fs w := ⟨Fm, Fs, h, fun _ h => .inl h, fun _ h => .inl h, Keeps.refl _ _⟩
theorem TabAt.to_below (h : TabAt w c σ Fm Fs) (hb : Below w.heap.size w w') : TabTo w c σ Fm Fs w' := ⟨Fm, Fs, h.below hb, fun _ h => .inl h, fun _ h => .inl h, Keeps.of_below hb⟩
theorem TabTo.size (h : TabTo W c σ Fm Fs w) : W.heap.size ≤ w.heap.size := by obtain ⟨_, _, _, _, _, k⟩ := h; exact k.size
/-- Further on, from where the footprint stands. -/
theorem tab_trans {σ'' : TS} {Fm1 Fs1 : Nat → Prop} {w1 w2 : World} (h1 : ∀ b, Fm1 b → Fm b ∨ W.heap.size ≤ b) (h2 : ∀ b, Fs1 b → Fs b ∨ W.heap.size ≤ b) (k : Keeps (TabF c Fm Fs) W w1) (h : TabTo w1 c σ'' Fm1 Fs1 w2) : TabTo W c σ'' Fm Fs w2 := by
  obtain ⟨Fm2, Fs2, h3, h4, h5, k2⟩ := h
  refine ⟨Fm2, Fs2, h3, fun b hb => ?_, fun b hb => ?_, k.trans k2 (fun b hb => ?_)⟩
  · rcases h4 b hb with h | h
    · exact h1 b h
    · exact .inr (Nat.le_trans k.size h)
  · rcases h5 b hb with h | h
    · exact h2 b h
    · exact .inr (Nat.le_trans k.size h)
  · rcases hb with h | h | h
    · exact (h1 b h).imp .inl id
    · exact (h2 b h).imp (fun x => .inr (.inl x)) id
    · exact .inl (.inr (.inr h))
theorem TabTo.trans {σ'' : TS} {w1 w2 : World} (h : TabTo W c σ Fm Fs w1) (g : ∀ Fm1 Fs1, TabAt w1 c σ Fm1 Fs1 → TabTo w1 c σ'' Fm1 Fs1 w2) : TabTo W c σ'' Fm Fs w2 := by
  obtain ⟨Fm1, Fs1, h1, h2, h3, k⟩ := h
  exact tab_trans h2 h3 k (g Fm1 Fs1 h1)
theorem TabTo.below {w1 w2 : World} (h : TabTo W c σ Fm Fs w1) (hb : Below w1.heap.size w1 w2) : TabTo W c σ Fm Fs w2 := h.trans fun _ _ h1 => h1.to_below hb
/-- The stock has turned. -/
theorem TabAt.st {s' : SV} {k' : Nat} (h : TabAt w c σ Fm Fs) (hs : StockAt w' c.sb Fs' s') (ho : StkOK c k' s') (hu : σ.u ≤ k') (hF : ∀ b, Fs' b → Fs b ∨ w.heap.size ≤ b) (k : Keeps Fs w w') : TabTo w c ⟨σ.S, k', σ.u⟩ Fm Fs w' := by
  refine ⟨Fm, Fs', ⟨k.blk h.hd h.ts, h.mem.keeps k h.dis, ⟨s', hs, ho⟩, fun b hb hb' => ?_, h.tm, fun hb' => ?_, fun b hb => Nat.lt_of_lt_of_le (h.ml b hb) k.size, hu, h.rl⟩, fun _ h => .inl h, hF, k.mono fun _ h => .inr (.inl h)⟩
  · rcases hF b hb' with h1 | h1
    · exact h.dis b hb h1
    · have := h.ml b hb; omega
  · rcases hF _ hb' with h1 | h1
    · exact h.ts h1
    · have := h.hd.lt; omega
/-- The memory has turned. -/
theorem TabAt.mm {S' : Nat → List Nat} (h : TabAt w c σ Fm Fs) (hm : MemTo w c.gm Fm c.n S' w') : TabTo w c ⟨S', σ.k, σ.u⟩ Fm Fs w' := by
  obtain ⟨Fm', hM, hF, k⟩ := hm
  obtain ⟨s, hs, ho⟩ := h.stk
  refine ⟨fun b => Fm' b ∧ b < w'.heap.size, Fs, ⟨k.blk h.hd h.tm, hM.tight, ⟨s, hs.keeps k (fun b hb hb' => h.dis b hb' hb), ho⟩, fun b hb hb' => ?_, fun hb => ?_, h.ts, fun b hb => hb.2, h.ul, h.rl⟩, fun b hb => hF b hb.1, fun _ h => .inl h, k.mono fun _ h => .inl h⟩
  · rcases hF b hb.1 with h1 | h1
    · exact h.dis b h1 hb'
    · have := hs.bound hb'; omega
  · rcases hF _ hb.1 with h1 | h1
    · exact h.tm h1
    · have := h.hd.lt; omega
/-- The count of frames has turned. -/
theorem TabAt.used (h : TabAt w c σ Fm Fs) (u : Nat) (hu : u ≤ σ.k) : TabTo w c ⟨σ.S, σ.k, u⟩ Fm Fs (w.setCell ⟨c.tb, 3, none⟩ (.int .i64 (u : Int))) := by
  obtain ⟨s, hs, ho⟩ := h.stk
  have k : Keeps (fun b => b = c.tb) w (w.setCell ⟨c.tb, 3, none⟩ (.int .i64 (u : Int))) := (Keeps.refl (fun b => b = c.tb) w).setCell (p := ⟨c.tb, 3, none⟩) (.inl rfl) _
  exact ⟨Fm, Fs, ⟨h.hd.set_ 3 _, h.mem.keeps k (fun b hb e => h.tm (e ▸ hb)), ⟨s, hs.keeps k (fun b hb e => h.ts (e ▸ hb)), ho⟩, h.dis, h.tm, h.ts, fun b hb => Nat.lt_of_lt_of_le (h.ml b hb) k.size, hu, h.rl⟩, fun _ h => .inl h, fun _ h => .inl h, k.mono fun _ h => .inr (.inr h)⟩
end
/-- What is taken: the frame, the error, and what becomes of the state. -/
def takeF (c : TC) (σ : TS) : Int := if σ.k = c.N then -1 else if c.n ≤ c.first + σ.k then -1 else ((c.first + σ.k : Nat) : Int)
def takeE (c : TC) (σ : TS) : Int := if σ.k = c.N then 50 else if c.n ≤ c.first + σ.k then 61 else 0
def takeS (c : TC) (σ : TS) : TS := if σ.k = c.N then σ else if c.n ≤ c.first + σ.k then σ else ⟨updS σ.S (c.first + σ.k) zeroL, σ.k + 1, σ.u + 1⟩
theorem stk_next {c : TC} {k : Nat} {s : SV} (h : StkOK c k s) (h2 : s.next = ((c.first + k : Nat) : Int)) (h1 : s.given = []) (hk : k < c.N) : StkOK c (k + 1) s.fresh := by
  refine ⟨h.end_, by show s.taken.length + 1 = k + 1; rw [h.len], fun f hf => ?_, .inl ⟨h1, by show s.next + 1 = _; rw [h2]; omega, hk⟩, h.big⟩
  rcases List.mem_cons.1 hf with e | hf
  · rw [e, h2]; omega
  · have := h.all f hf; omega
theorem stk_back {c : TC} {k f : Nat} {s : SV} (h : StkOK c k s) (h2 : s.next = ((c.first + k : Nat) : Int)) (h1 : s.given = []) (hf : f = c.first + k) (hn : c.n ≤ c.first + k) (hk : k < c.N) : StkOK c k (s.fresh.back (f : Int)) := by
  subst hf
  have e : s.fresh.taken.erase (((c.first + k : Nat) : Int)) = s.taken := by
    show (s.next :: s.taken).erase _ = _
    rw [h2, List.erase_cons_head]
  refine ⟨h.end_, by show (s.fresh.taken.erase _).length = k; rw [e, h.len], fun f hf => ?_, .inr ⟨by show s.given ++ [_] = _; rw [h1]; rfl, by show s.next + 1 = _; rw [h2], hn, hk⟩, h.big⟩
  have hf' : f ∈ s.fresh.taken.erase (((c.first + k : Nat) : Int)) := hf
  rw [e] at hf'
  exact h.all f hf'
theorem headL_nil : headL [] = zeroL := rfl
set_option maxHeartbeats 2000000 in
theorem take_any (c : TC) (σ : TS) (Fm Fs : Nat → Prop) (W : World) (h : TabAt W c σ Fm Fs) :
    Calls Tryz.prog 41 #[.pointer (some ⟨c.tb, 0, none⟩)] W fun e w' => e = .returned (.tuple #[.int .i64 (takeF c σ), .int .i64 (takeE c σ)]) ∧ TabTo W c (takeS c σ) Fm Fs w' := by
  obtain ⟨s, hs, ho⟩ := h.stk
  have HT := Lib.hid h
  have HS := Lib.hid hs
  have HO := Lib.hid ho
  have t0 := h.hd.cell 0
  have t1 := h.hd.cell 1
  have tl := h.hd.lt
  simp only [List.getElem?_toArray, List.getElem?_cons_zero, List.getElem?_cons_succ] at t0 t1
  have hmx : s.taken.length ≤ 1048576 := by
    have h1 := ho.len
    have h2 := ho.big
    rcases ho.at_ with h3 | h3 <;> omega
  have HMX := Lib.hid hmx
  have hnot : ((c.first + σ.k : Nat) : Int) ∉ s.taken := fun hm => by have := (ho.all _ hm).2; omega
  have HNT := Lib.hid hnot
  rcases ho.at_ with ⟨h1, h2, h3⟩ | ⟨h1, h2, h3, h4⟩
  · by_cases hk : σ.k = c.N
    · have HR : Hid (takeF c σ = -1 ∧ takeE c σ = 50 ∧ takeS c σ = σ) := Lib.hid ⟨if_pos hk, if_pos hk, if_pos hk⟩
      rw [HR.out.1, HR.out.2.1, HR.out.2.2]
      have HF := Lib.hid (take_full c.sb Fs s W hs h1 (by rw [h2, ho.end_]; omega))
      clear h hs ho h1 h2 h3 hk hmx hnot
      go_enter Tryz.func41, Tryz.ntmps41
      go_wp2_with fail
      refine HF.out.mono ?_
      rintro e w1 ⟨rfl, hs1, k1⟩
      have H1 := Lib.hid (HT.out.st hs1 HO.out HT.out.ul (fun _ h => .inl h) k1)
      clear hs1 k1
      go_wp2_with fail
      go_ret2
      exact ⟨rfl, H1.out⟩
    · have hkN : σ.k < c.N := by omega
      have hbig := ho.big
      have HTK := Lib.hid (take_next c.sb Fs s W hs h1 (by omega) (by rw [h2, ho.end_]; omega) (by rw [ho.end_]; omega) (by rw [h2]; exact hnot) hmx)
      rw [h2] at HTK
      have HN2 := Lib.hid h2
      have HG1 := Lib.hid h1
      obtain ⟨f, hf⟩ : ∃ f, f = c.first + σ.k := ⟨_, rfl⟩
      rw [← hf] at HTK
      have HFF := Lib.hid hf
      have HFB : Hid (f ≤ 1048576) := Lib.hid (by omega)
      by_cases hn : c.n ≤ f
      · have HR : Hid (takeF c σ = -1 ∧ takeE c σ = 61 ∧ takeS c σ = σ) := Lib.hid ⟨by unfold takeF; rw [if_neg hk, if_pos (by omega)], by unfold takeE; rw [if_neg hk, if_pos (by omega)], by unfold takeS; rw [if_neg hk, if_pos (by omega)]⟩
        rw [HR.out.1, HR.out.2.1, HR.out.2.2]
        have HFE : Hid (frE c.n (f : Int) = 61) := Lib.hid (by unfold frE; rw [if_pos (by omega)])
        have HNN := Lib.hid hn
        have HKN := Lib.hid hkN
        clear h hs ho h1 h2 h3 hk hmx hnot hf hn hkN
        go_enter Tryz.func41, Tryz.ntmps41
        go_wp2_with fail
        refine HTK.out.mono ?_
        rintro e w1 ⟨rfl, hs1, k1⟩
        have HS1 := Lib.hid hs1
        have K1 := Lib.hid k1
        have T1 := Lib.hid (k1.blk HT.out.hd HT.out.ts)
        have M1 := Lib.hid (HT.out.mem.keeps k1 HT.out.dis)
        clear hs1 k1 t0 t1 tl HTK
        have t0 := T1.out.cell 0
        have t1 := T1.out.cell 1
        have tl := T1.out.lt
        simp only [List.getElem?_toArray, List.getElem?_cons_zero, List.getElem?_cons_succ] at t0 t1
        go_wp2_with fail
        obtain ⟨mb, loc, K, hm1, _⟩ := M1.out
        refine (SetPage_no c.gm c.n (f : Int) _ _ w1 hm1.head HFE.out).mono ?_
        rintro e w2 ⟨rfl, rfl⟩
        clear hm1
        go_wp2_with fail
        refine (give_ok c.sb Fs s.fresh (f : Int) w1 HS1.out (wfN (by have := HFB.out; omega)) (by rw [SV.fresh, HN2.out, HFF.out]; simp) (by rw [SV.fresh, HG1.out]; simp)).mono ?_
        rintro e w3 ⟨rfl, Fs3, hs3, hF3, k3⟩
        have H3 : Hid (TabTo W c σ Fm Fs w3) := Lib.hid (HT.out.st (k' := σ.k) hs3 (stk_back HO.out HN2.out HG1.out HFF.out (by have := HNN.out; have := HFF.out; omega) HKN.out) HT.out.ul (fun b hb => (hF3 b hb).imp id (fun h => Nat.le_trans K1.out.size h)) (K1.out.same k3))
        clear hs3 hF3 k3 t0 t1 tl
        go_wp2_with fail
        go_ret2
        exact ⟨rfl, H3.out⟩
      · have HR : Hid (takeF c σ = (f : Int) ∧ takeE c σ = 0 ∧ takeS c σ = ⟨updS σ.S f zeroL, σ.k + 1, σ.u + 1⟩) := Lib.hid ⟨by unfold takeF; rw [if_neg hk, if_neg (by omega), hf], by unfold takeE; rw [if_neg hk, if_neg (by omega)], by unfold takeS; rw [if_neg hk, if_neg (by omega), hf]⟩
        rw [HR.out.1, HR.out.2.1, HR.out.2.2]
        have hu : σ.u ≤ 1048576 := by have := h.ul; omega
        have i5 : wrap64 ((σ.u : Int) + 1) = ((σ.u + 1 : Nat) : Int) := by unfold wrap64; omega
        have i6 : (σ.u : Int) + 1 = ((σ.u + 1 : Nat) : Int) := by omega
        have HNN := Lib.hid hn
        have HKN := Lib.hid hkN
        clear h hs ho h1 h2 h3 hk hmx hnot hf hn hkN
        have I6 := Lib.hid i6
        clear i5 i6
        go_enter Tryz.func41, Tryz.ntmps41
        go_wp2_with fail
        refine HTK.out.mono ?_
        rintro e w1 ⟨rfl, hs1, k1⟩
        have T1 := Lib.hid (HT.out.st (k' := σ.k + 1) hs1 (stk_next HO.out HN2.out HG1.out HKN.out) (by have := HT.out.ul; omega) (fun _ h => .inl h) k1)
        clear hs1 k1 t0 t1 tl HTK
        obtain ⟨Fm1, Fs1, h1, hF1, hG1, k1⟩ := T1.out
        have H1 := Lib.hid h1
        have HX1 : Hid (TabTo w1 c ⟨updS σ.S f zeroL, σ.k + 1, σ.u + 1⟩ Fm1 Fs1 w1 → True) := Lib.hid (fun _ => trivial)
        have t0 := h1.hd.cell 0
        have tl := h1.hd.lt
        simp only [List.getElem?_toArray, List.getElem?_cons_zero, List.getElem?_cons_succ] at t0
        have HC : Hid (∀ w2, TabTo w1 c ⟨updS σ.S f zeroL, σ.k + 1, σ.u⟩ Fm1 Fs1 w2 → TabTo W c ⟨updS σ.S f zeroL, σ.k + 1, σ.u⟩ Fm Fs w2) := Lib.hid (fun w2 h2 => tab_trans hF1 hG1 k1 h2)
        clear h1 hF1 hG1 k1 HX1
        go_wp2_with fail
        refine (SetPage_any c.gm c.n f none [] 0 Fm1 σ.S w1 H1.out.mem (by have := HNN.out; omega) ⟨fun i => by simp, fun h => by simp at h⟩ (by simp)).mono ?_
        rintro e w2 ⟨rfl, hm2⟩
        rw [headL_nil] at hm2
        have T2 := Lib.hid (HC.out _ (H1.out.mm hm2))
        clear hm2 t0 tl HC
        obtain ⟨Fm2, Fs2, h2, hF2, hG2, k2⟩ := T2.out
        have H2 := Lib.hid h2
        have t3 := h2.hd.cell 3
        have tl := h2.hd.lt
        have z3 := Blk.frozen h2.hd 3
        simp only [List.getElem?_toArray, List.getElem?_cons_zero, List.getElem?_cons_succ] at t3
        have hu2 : (σ.u : Int) ≤ 1048576 := by omega
        have T3 := Lib.hid (tab_trans hF2 hG2 k2 (h2.used (σ.u + 1) (by have := HT.out.ul; show _ ≤ σ.k + 1; omega)))
        clear h2 hF2 hG2 k2
        go_wp2_with fail
        go_ret2
        refine ⟨rfl, ?_⟩
        rw [I6.out]
        exact T3.out
  · have hk : σ.k ≠ c.N := by omega
    have hbig := ho.big
    have HR : Hid (takeF c σ = -1 ∧ takeE c σ = 61 ∧ takeS c σ = σ) := Lib.hid ⟨by unfold takeF; rw [if_neg hk, if_pos h3], by unfold takeE; rw [if_neg hk, if_pos h3], by unfold takeS; rw [if_neg hk, if_pos h3]⟩
    rw [HR.out.1, HR.out.2.1, HR.out.2.2]
    obtain ⟨f, hf⟩ : ∃ f, f = c.first + σ.k := ⟨_, rfl⟩
    rw [← hf] at h1 h3 hnot
    have HFF := Lib.hid hf
    have HFB : Hid (f ≤ 1048576) := Lib.hid (by omega)
    have HTK := Lib.hid (take_given c.sb Fs s [] (f : Int) W hs h1 (wfN (by omega)) hnot hmx (by simp))
    have HFE : Hid (frE c.n (f : Int) = 61) := Lib.hid (by unfold frE; rw [if_pos (by omega)])
    have HSB : Hid (StkOK c σ.k ((s.pop [] (f : Int)).back (f : Int))) := Lib.hid (by
      have e : (s.pop [] (f : Int)).back (f : Int) = s := by
        unfold SV.pop SV.back
        simp only [List.nil_append, List.erase_cons_head]
        rw [← h1]
      rw [e]; exact ho)
    clear h hs ho h1 h2 h3 h4 hk hmx hnot hf hbig
    go_enter Tryz.func41, Tryz.ntmps41
    go_wp2_with fail
    refine HTK.out.mono ?_
    rintro e w1 ⟨rfl, hs1, k1⟩
    have HS1 := Lib.hid hs1
    have K1 := Lib.hid k1
    have T1 := Lib.hid (k1.blk HT.out.hd HT.out.ts)
    have M1 := Lib.hid (HT.out.mem.keeps k1 HT.out.dis)
    clear hs1 k1 t0 t1 tl HTK
    have t0 := T1.out.cell 0
    have t1 := T1.out.cell 1
    have tl := T1.out.lt
    simp only [List.getElem?_toArray, List.getElem?_cons_zero, List.getElem?_cons_succ] at t0 t1
    go_wp2_with fail
    obtain ⟨mb, loc, K, hm1, _⟩ := M1.out
    refine (SetPage_no c.gm c.n (f : Int) _ _ w1 hm1.head HFE.out).mono ?_
    rintro e w2 ⟨rfl, rfl⟩
    clear hm1
    go_wp2_with fail
    refine (give_ok c.sb Fs (s.pop [] (f : Int)) (f : Int) w1 HS1.out (wfN (by have := HFB.out; omega)) (by rw [SV.pop]; simp) (by rw [SV.pop]; simp)).mono ?_
    rintro e w3 ⟨rfl, Fs3, hs3, hF3, k3⟩
    have H3 : Hid (TabTo W c σ Fm Fs w3) := Lib.hid (HT.out.st (k' := σ.k) hs3 HSB.out HT.out.ul (fun b hb => (hF3 b hb).imp id (fun h => Nat.le_trans K1.out.size h)) (K1.out.same k3))
    clear hs3 hF3 k3 t0 t1 tl
    go_wp2_with fail
    go_ret2
    exact ⟨rfl, H3.out⟩
end Go.Proofs.YtophcgbddccpeaaGreat

/- Entries: their words, which ones may stand at a level. -/
namespace Go.Proofs.YtophcgbddccpeaaGreat
open Go.RowKit

def Pte.cs (p : Pte) : Array Value := #[.bool p.v, .bool p.r, .bool p.w, .bool p.x, .bool p.u, .bool p.g, .bool p.a, .bool p.d, .int .i64 p.rsw, .int .u64 p.ppn]
theorem pcs_size (p : Pte) : p.cs.size = 10 := rfl
theorem prow (p : Pte) : rowT Tryz.prog 96 p.cs.size = true := by rw [pcs_size]; exact pte_row
theorem pcs_one (p : Pte) : p.cs.all (·.oneCell') = true := by simp [Pte.cs, Value.oneCell']
def PteWf (p : Pte) : Prop := (Lit.int .i64 p.rsw).wf = true ∧ (Lit.int .u64 p.ppn).wf = true
def Pte.word (p : Pte) : Nat := putV p.v p.r p.w p.x p.u p.g p.a p.d p.rsw p.ppn
def entP (x : Nat) : Pte := ⟨bitB x 0, bitB x 1, bitB x 2, bitB x 3, bitB x 4, bitB x 5, bitB x 6, bitB x 7, ((x / 256 % 4 : Nat) : Int), ((x / 1024 % 17592186044416 : Nat) : Int)⟩
theorem entP_v (x : Nat) : entryV x = .agg (entP x).cs := rfl
def Pte.norm (p : Pte) : Pte := ⟨p.v, p.r, p.w, p.x, p.u, p.g, p.a, p.d, p.rsw % 4, ((p.ppn.toNat % 17592186044416 : Nat) : Int)⟩
theorem bt_eq (b : Bool) : (bt b == 1) = b := by cases b <;> rfl
theorem ent_put (p : Pte) : entP p.word = p.norm := by
  obtain ⟨v, r, w, x, u, g, a, d, rsw, ppn⟩ := p
  have h0 := bt_le v
  have h1 := bt_le r
  have h2 := bt_le w
  have h3 := bt_le x
  have h4 := bt_le u
  have h5 := bt_le g
  have h6 := bt_le a
  have h7 := bt_le d
  have e0 := bt_eq v
  have e1 := bt_eq r
  have e2 := bt_eq w
  have e3 := bt_eq x
  have e4 := bt_eq u
  have e5 := bt_eq g
  have e6 := bt_eq a
  have e7 := bt_eq d
  obtain ⟨q, hq⟩ : ∃ q : Nat, (q : Int) = rsw % 4 ∧ q < 4 := ⟨(rsw % 4).toNat, by omega, by omega⟩
  obtain ⟨m, hm⟩ : ∃ m : Nat, m = ppn.toNat % 17592186044416 := ⟨_, rfl⟩
  have hw : putV v r w x u g a d rsw ppn = bt v + 2 * bt r + 4 * bt w + 8 * bt x + 16 * bt u + 32 * bt g + 64 * bt a + 128 * bt d + 256 * q + 1024 * m := by
    unfold putV
    omega
  unfold entP Pte.word Pte.norm
  simp only
  rw [hw, ← hm, ← hq.1]
  generalize bt v = b0 at *
  generalize bt r = b1 at *
  generalize bt w = b2 at *
  generalize bt x = b3 at *
  generalize bt u = b4 at *
  generalize bt g = b5 at *
  generalize bt a = b6 at *
  generalize bt d = b7 at *
  unfold bitB
  rw [show (b0 + 2 * b1 + 4 * b2 + 8 * b3 + 16 * b4 + 32 * b5 + 64 * b6 + 128 * b7 + 256 * q + 1024 * m) / 2 ^ 0 % 2 = b0 by omega,
    show (b0 + 2 * b1 + 4 * b2 + 8 * b3 + 16 * b4 + 32 * b5 + 64 * b6 + 128 * b7 + 256 * q + 1024 * m) / 2 ^ 1 % 2 = b1 by omega,
    show (b0 + 2 * b1 + 4 * b2 + 8 * b3 + 16 * b4 + 32 * b5 + 64 * b6 + 128 * b7 + 256 * q + 1024 * m) / 2 ^ 2 % 2 = b2 by omega,
    show (b0 + 2 * b1 + 4 * b2 + 8 * b3 + 16 * b4 + 32 * b5 + 64 * b6 + 128 * b7 + 256 * q + 1024 * m) / 2 ^ 3 % 2 = b3 by omega,
    show (b0 + 2 * b1 + 4 * b2 + 8 * b3 + 16 * b4 + 32 * b5 + 64 * b6 + 128 * b7 + 256 * q + 1024 * m) / 2 ^ 4 % 2 = b4 by omega,
    show (b0 + 2 * b1 + 4 * b2 + 8 * b3 + 16 * b4 + 32 * b5 + 64 * b6 + 128 * b7 + 256 * q + 1024 * m) / 2 ^ 5 % 2 = b5 by omega,
    show (b0 + 2 * b1 + 4 * b2 + 8 * b3 + 16 * b4 + 32 * b5 + 64 * b6 + 128 * b7 + 256 * q + 1024 * m) / 2 ^ 6 % 2 = b6 by omega,
    show (b0 + 2 * b1 + 4 * b2 + 8 * b3 + 16 * b4 + 32 * b5 + 64 * b6 + 128 * b7 + 256 * q + 1024 * m) / 2 ^ 7 % 2 = b7 by omega,
    show (b0 + 2 * b1 + 4 * b2 + 8 * b3 + 16 * b4 + 32 * b5 + 64 * b6 + 128 * b7 + 256 * q + 1024 * m) / 256 % 4 = q by omega,
    show (b0 + 2 * b1 + 4 * b2 + 8 * b3 + 16 * b4 + 32 * b5 + 64 * b6 + 128 * b7 + 256 * q + 1024 * m) / 1024 % 17592186044416 = m by omega,
    e0, e1, e2, e3, e4, e5, e6, e7]
/-- Nothing of it is cut off in its word. -/
def Pte.fits (p : Pte) : Bool := decide (0 ≤ p.rsw) && (decide (p.rsw < 4) && decide (p.ppn < 17592186044416))
theorem norm_fits (p : Pte) (hp : 0 ≤ p.ppn) : p.norm = p ↔ p.fits = true := by
  obtain ⟨v, r, w, x, u, g, a, d, rsw, ppn⟩ := p
  simp only at hp
  simp only [Pte.norm, Pte.fits, Pte.mk.injEq, true_and, Bool.and_eq_true, decide_eq_true_eq]
  omega
def Pte.right (p : Pte) : Bool := p.v && (p.r || !p.w)
def Pte.leafB (p : Pte) : Bool := p.r || p.x
def lowB (p : Pte) (l : Int) : Bool := decide (p.ppn.toNat % 2 ^ (9 * l).toNat = 0)
/-- Which entries may stand at a level. -/
def mayB (p : Pte) (l : Int) : Bool := levelB l && (p.fits && (p.right && (p.leafB && lowB p l)))
def Pte.lits (p : Pte) : List Lit := [.bool p.v, .bool p.r, .bool p.w, .bool p.x, .bool p.u, .bool p.g, .bool p.a, .bool p.d, .int .i64 p.rsw, .int .u64 p.ppn]
theorem plits_inj (a b : Pte) : a.lits = b.lits ↔ a = b := by
  constructor
  · intro h
    cases a; cases b
    simp only [Pte.lits, List.cons.injEq, Lit.bool.injEq, Lit.int.injEq, true_and, and_true] at h
    obtain ⟨h1, h2, h3, h4, h5, h6, h7, h8, h9, h10⟩ := h
    simp only [Pte.mk.injEq]
    exact ⟨h1, h2, h3, h4, h5, h6, h7, h8, h9, h10⟩
  · rintro rfl; rfl
theorem key_pte' (d : Nat) (p : Pte) (h : PteWf p) : Tryz.prog.keyLits (d + 2) 96 p.cs.toList = some p.lits := by
  obtain ⟨h1, h2⟩ := h
  unfold Program.keyLits Pte.cs Pte.lits
  simp [Tryz.underlying96, c_pte, c_int, c_u64, c_bool, key_int, key_u64, key_bool, h1, h2]
theorem pte_eq (W : World) (a b : Pte) (ha : PteWf a) (hb : PteWf b) : ∃ r : Bool, (Op.equalIn 10000 96 (.agg a.cs) (.agg b.cs)).run Tryz.prog W = .ok r W ∧ (r = true ↔ a = b) := by
  have h := run_equalIn_deep (P := Tryz.prog) 9995 5 96 (by kernel_rfl)
  obtain ⟨r, hr, hi⟩ := h W 5 5 _ _ _ _ (by kernel_rfl : (Value.agg a.cs).formed Tryz.prog 96 = true) (by kernel_rfl : (Value.agg b.cs).formed Tryz.prog 96 = true) (key_pte' 3 a ha) (key_pte' 3 b hb)
  exact ⟨r, hr, hi.trans (plits_inj a b)⟩
theorem pte_dec (a b : Pte) (ha : PteWf a) (hb : PteWf b) (c : Bool) (hc : c = true ↔ a = b) (W : World) : (Op.equalIn 10000 96 (.agg a.cs) (.agg b.cs)).run Tryz.prog W = .ok c W := by
  obtain ⟨r, hr, hi⟩ := pte_eq W a b ha hb
  have e : r = c := by
    cases r <;> cases c
    · rfl
    · exact absurd (hi.2 (hc.1 rfl)) (by decide)
    · exact absurd (hc.2 (hi.1 rfl)) (by decide)
    · rfl
  rw [hr, e]
end Go.Proofs.YtophcgbddccpeaaGreat

/- Which entries may stand at a level: the program's may. -/
namespace Go.Proofs.YtophcgbddccpeaaGreat
open Go.RowKit

theorem low_eq (ppn k : Nat) (m : Int) (hk : k ≤ 63) (hm : m = ((2 ^ k - 1 : Nat) : Int)) (hv : ppn < 18446744073709551616) : (bits .and .u64 (ppn : Int) m == 0) = decide (ppn % 2 ^ k = 0) := by
  rw [and_mask ppn k m hk hm hv]
  generalize ppn % 2 ^ k = z
  by_cases h : z = 0
  · subst h; rfl
  · rw [decide_eq_false h]; simp; omega
set_option maxRecDepth 100000 in
set_option maxHeartbeats 4000000 in
theorem may_any (v r w x u g a d : Bool) (rsw : Int) (ppn : Nat) (l : Int) (W : World) (hr : (Lit.int .i64 rsw).wf = true) (hp : ppn < 18446744073709551616) :
    Calls Tryz.prog 68 #[.agg #[.bool v, .bool r, .bool w, .bool x, .bool u, .bool g, .bool a, .bool d, .int .i64 rsw, .int .u64 (ppn : Int)], .int .i64 l] W fun e w' => e = .returned (.bool (mayB (⟨v, r, w, x, u, g, a, d, rsw, (ppn : Int)⟩ : Pte) l)) ∧ Below W.heap.size W w' := by
  have HE : Hid (Below W.heap.size W (W.alloc (.cells #[.bool v, .bool r, .bool w, .bool x, .bool u, .bool g, .bool a, .bool d, .int .i64 rsw, .int .u64 (ppn : Int)] 96))) := Lib.hid ((Below.refl _ W).alloc (Nat.le_refl _) _)
  have HB : Hid (Blk (W.alloc (.cells #[.bool v, .bool r, .bool w, .bool x, .bool u, .bool g, .bool a, .bool d, .int .i64 rsw, .int .u64 (ppn : Int)] 96)) W.heap.size 96 #[.bool v, .bool r, .bool w, .bool x, .bool u, .bool g, .bool a, .bool d, .int .i64 rsw, .int .u64 (ppn : Int)]) := Lib.hid (Blkf.new_at _ _ _ _ rfl)
  have HP := Lib.hid hp
  obtain ⟨rq, hrq⟩ : ∃ q, q = rsw % 4 := ⟨_, rfl⟩
  obtain ⟨pq, hpq⟩ : ∃ q, q = ppn % 17592186044416 := ⟨_, rfl⟩
  have hnorm : (⟨v, r, w, x, u, g, a, d, rsw, (ppn : Int)⟩ : Pte).norm = (⟨v, r, w, x, u, g, a, d, rq, (pq : Int)⟩ : Pte) := by
    simp only [Pte.norm, hrq, hpq, Int.toNat_natCast]
  have HQ : Hid (∀ W', (Op.equalIn 10000 96 (.agg #[.bool v, .bool r, .bool w, .bool x, .bool u, .bool g, .bool a, .bool d, .int .i64 rq, .int .u64 (pq : Int)]) (.agg #[.bool v, .bool r, .bool w, .bool x, .bool u, .bool g, .bool a, .bool d, .int .i64 rsw, .int .u64 (ppn : Int)])).run Tryz.prog W' = .ok ((⟨v, r, w, x, u, g, a, d, rsw, (ppn : Int)⟩ : Pte).fits) W') := Lib.hid (fun W' =>
    pte_dec (⟨v, r, w, x, u, g, a, d, rq, (pq : Int)⟩ : Pte) (⟨v, r, w, x, u, g, a, d, rsw, (ppn : Int)⟩ : Pte) ⟨wf64 (by simp only; omega) (by simp only; omega), wfu (by simp only; omega) (by simp only; omega)⟩ ⟨hr, wfu (by simp only; omega) (by simp only; omega)⟩ _ (by rw [← hnorm]; exact (norm_fits _ (by simp only; omega)).symm) W')
  obtain ⟨wd, hwd⟩ : ∃ q, q = putV v r w x u g a d rsw (ppn : Int) := ⟨_, rfl⟩
  have HW : Hid (entryV wd = .agg #[.bool v, .bool r, .bool w, .bool x, .bool u, .bool g, .bool a, .bool d, .int .i64 rq, .int .u64 (pq : Int)] ∧ wd < 18446744073709551616) := Lib.hid ⟨by
    rw [entP_v, hwd]
    have h1 := ent_put (⟨v, r, w, x, u, g, a, d, rsw, (ppn : Int)⟩ : Pte)
    unfold Pte.word at h1
    rw [h1, hnorm]
    rfl, by
    rw [hwd]
    have h0 := bt_le v
    have h1 := bt_le r
    have h2 := bt_le w
    have h3 := bt_le x
    have h4 := bt_le u
    have h5 := bt_le g
    have h6 := bt_le a
    have h7 := bt_le d
    unfold putV
    omega⟩
  have HPUT : Hid (∀ w', Calls Tryz.prog 71 #[.agg #[.bool v, .bool r, .bool w, .bool x, .bool u, .bool g, .bool a, .bool d, .int .i64 rsw, .int .u64 (ppn : Int)]] w' fun e w'' => e = .returned (.int .u64 (wd : Int)) ∧ Below w'.heap.size w' w'') := Lib.hid (fun w' => by
    rw [hwd]; exact put_any v r w x u g a d rsw (ppn : Int) w' (by omega))
  have HMAY : Hid (mayB (⟨v, r, w, x, u, g, a, d, rsw, (ppn : Int)⟩ : Pte) l = (levelB l && ((⟨v, r, w, x, u, g, a, d, rsw, (ppn : Int)⟩ : Pte).fits && ((v && (r || !w)) && ((r || x) && lowB (⟨v, r, w, x, u, g, a, d, rsw, (ppn : Int)⟩ : Pte) l))))) := Lib.hid rfl
  obtain ⟨res, hres⟩ : ∃ q, q = mayB (⟨v, r, w, x, u, g, a, d, rsw, (ppn : Int)⟩ : Pte) l := ⟨_, rfl⟩
  rw [HMAY.out] at hres
  rw [HMAY.out, ← hres]
  clear hr hp hrq hpq hnorm hwd HMAY
  generalize hfit : (⟨v, r, w, x, u, g, a, d, rsw, (ppn : Int)⟩ : Pte).fits = fit at *
  have HRES := Lib.hid hres
  clear hfit hres
  go_enter Tryz.func68, Tryz.ntmps68
  go_upto_region 1 with fail
  obtain ⟨pb, hpb⟩ : ∃ q, q = W.heap.size := ⟨_, rfl⟩
  rw [← hpb] at HB ⊢
  clear hpb
  generalize W.alloc (.cells #[.bool v, .bool r, .bool w, .bool x, .bool u, .bool g, .bool a, .bool d, .int .i64 rsw, .int .u64 (ppn : Int)] 96) = w0 at *
  have xl := HB.out.lt
  have x0 := HB.out.cell 0
  have x1 := HB.out.cell 1
  have x2 := HB.out.cell 2
  have x3 := HB.out.cell 3
  have x4 := HB.out.cell 4
  have x5 := HB.out.cell 5
  have x6 := HB.out.cell 6
  have x7 := HB.out.cell 7
  have x8 := HB.out.cell 8
  have x9 := HB.out.cell 9
  simp only [List.getElem?_toArray, List.getElem?_cons_zero, List.getElem?_cons_succ] at x0 x1 x2 x3 x4 x5 x6 x7 x8 x9
  go_wp2_with fail
  refine (HPUT.out _).mono ?_
  rintro e w1 ⟨rfl, hb1⟩
  have E1 := Lib.hid (HE.out.trans (hb1.mono HE.out.size))
  have B1 := Lib.hid (HB.out.below hb1 HB.out.lt)
  clear hb1 HE HB HPUT x0 x1 x2 x3 x4 x5 x6 x7 x8 x9 xl
  go_wp2_with fail
  refine (get_any wd _ HW.out.2).mono ?_
  rintro e w2 ⟨rfl, hb2⟩
  rw [HW.out.1]
  have E2 := Lib.hid (E1.out.trans (hb2.mono E1.out.size))
  have B2 := Lib.hid (B1.out.below hb2 B1.out.lt)
  clear hb2 E1 B1 HW
  go_upto_region 2 with fail
  have E3 : Hid (Below W.heap.size W (w2.alloc (.cells #[.bool v, .bool r, .bool w, .bool x, .bool u, .bool g, .bool a, .bool d, .int .i64 rq, .int .u64 (pq : Int)] 96))) := Lib.hid (E2.out.alloc E2.out.size _)
  have B3 := Lib.hid (B2.out.alloc (.cells #[.bool v, .bool r, .bool w, .bool x, .bool u, .bool g, .bool a, .bool d, .int .i64 rq, .int .u64 (pq : Int)] 96))
  have Q3 : Hid (Blk (w2.alloc (.cells #[.bool v, .bool r, .bool w, .bool x, .bool u, .bool g, .bool a, .bool d, .int .i64 rq, .int .u64 (pq : Int)] 96)) w2.heap.size 96 #[.bool v, .bool r, .bool w, .bool x, .bool u, .bool g, .bool a, .bool d, .int .i64 rq, .int .u64 (pq : Int)]) := Lib.hid (Blkf.new_at _ _ _ _ rfl)
  generalize w2.alloc (.cells #[.bool v, .bool r, .bool w, .bool x, .bool u, .bool g, .bool a, .bool d, .int .i64 rq, .int .u64 (pq : Int)] 96) = w3 at *
  generalize w2.heap.size = qb at *
  clear E2 B2
  have E4 := Lib.hid E3.out.drew
  have B4 := Lib.hid B3.out.drew
  have Q4 := Lib.hid Q3.out.drew
  clear E3 B3 Q3
  have HQ' := HQ.out
  by_cases l0 : l < 0
  · have HR : Hid (levelB l = false) := Lib.hid (by unfold levelB; simp; omega)
    have i0 : ¬ 0 ≤ l := by omega
    have d0 : decide (0 ≤ l) = false := decide_eq_false i0
    clear HQ'
    refine wp_region_plan [(0, false), (1, false), (2, false), (3, false), (4, false), (5, false), (6, false), (7, false), (8, false), (9, false), (10, false), (11, false), (12, false), (13, false), (14, false), (15, false), (16, false), (17, false), (18, false), (19, false), (20, false), (21, false), (22, false), (23, false), (24, false), (25, false), (26, false), (27, false), (28, false), (29, false)] (by kernel_rfl) (by kernel_rfl) (fun _ d _ _ _ h => by cases d <;> exact h) ?_
    iterate 3 (refine plan_take (v := ?_) rfl (by kernel_rfl) ?_ ?_; rotate_left; (focus (intro w' hw'; try go_simp; try with_reducible rfl)); simp only [Act.put, List.setIfInBounds_toArray, List.set_cons_zero, List.set_cons_succ])
    iterate 2 (refine plan_skip rfl (by kernel_rfl) ?_; simp only [Act.put, List.setIfInBounds_toArray, List.set_cons_zero, List.set_cons_succ])
    iterate 2 (refine plan_take (v := ?_) rfl (by kernel_rfl) ?_ ?_; rotate_left; (focus (intro w' hw'; try go_simp; try with_reducible rfl)); simp only [Act.put, List.setIfInBounds_toArray, List.set_cons_zero, List.set_cons_succ])
    iterate 3 (refine plan_skip rfl (by kernel_rfl) ?_; simp only [Act.put, List.setIfInBounds_toArray, List.set_cons_zero, List.set_cons_succ])
    iterate 2 (refine plan_take (v := ?_) rfl (by kernel_rfl) ?_ ?_; rotate_left; (focus (intro w' hw'; try go_simp; try with_reducible rfl)); simp only [Act.put, List.setIfInBounds_toArray, List.set_cons_zero, List.set_cons_succ])
    iterate 2 (refine plan_skip rfl (by kernel_rfl) ?_; simp only [Act.put, List.setIfInBounds_toArray, List.set_cons_zero, List.set_cons_succ])
    iterate 2 (refine plan_take (v := ?_) rfl (by kernel_rfl) ?_ ?_; rotate_left; (focus (intro w' hw'; try go_simp; try with_reducible rfl)); simp only [Act.put, List.setIfInBounds_toArray, List.set_cons_zero, List.set_cons_succ])
    iterate 2 (refine plan_skip rfl (by kernel_rfl) ?_; simp only [Act.put, List.setIfInBounds_toArray, List.set_cons_zero, List.set_cons_succ])
    iterate 2 (refine plan_take (v := ?_) rfl (by kernel_rfl) ?_ ?_; rotate_left; (focus (intro w' hw'; try go_simp; try with_reducible rfl)); simp only [Act.put, List.setIfInBounds_toArray, List.set_cons_zero, List.set_cons_succ])
    iterate 8 (refine plan_skip rfl (by kernel_rfl) ?_; simp only [Act.put, List.setIfInBounds_toArray, List.set_cons_zero, List.set_cons_succ])
    iterate 2 (refine plan_take (v := ?_) rfl (by kernel_rfl) ?_ ?_; rotate_left; (focus (intro w' hw'; try go_simp; try with_reducible rfl)); simp only [Act.put, List.setIfInBounds_toArray, List.set_cons_zero, List.set_cons_succ])
    refine plan_end ?_
    go_wp2_with fail
    go_ret
    exact ⟨congrArg (fun q => Ending.returned (Value.bool q)) (by rw [HRES.out, HR.out]; simp), E4.out⟩
  by_cases l2 : 2 < l
  · have HR : Hid (levelB l = false) := Lib.hid (by unfold levelB; simp; omega)
    have i0 : 0 ≤ l := by omega
    have i2 : ¬ l ≤ 2 := by omega
    have d0 : decide (0 ≤ l) = true := decide_eq_true i0
    have d2 : decide (l ≤ 2) = false := decide_eq_false i2
    clear HQ'
    refine wp_region_plan [(0, false), (1, false), (2, false), (3, false), (4, false), (5, false), (6, false), (7, false), (8, false), (9, false), (10, false), (11, false), (12, false), (13, false), (14, false), (15, false), (16, false), (17, false), (18, false), (19, false), (20, false), (21, false), (22, false), (23, false), (24, false), (25, false), (26, false), (27, false), (28, false), (29, false)] (by kernel_rfl) (by kernel_rfl) (fun _ d _ _ _ h => by cases d <;> exact h) ?_
    iterate 7 (refine plan_take (v := ?_) rfl (by kernel_rfl) ?_ ?_; rotate_left; (focus (intro w' hw'; try go_simp; try with_reducible rfl)); simp only [Act.put, List.setIfInBounds_toArray, List.set_cons_zero, List.set_cons_succ])
    iterate 3 (refine plan_skip rfl (by kernel_rfl) ?_; simp only [Act.put, List.setIfInBounds_toArray, List.set_cons_zero, List.set_cons_succ])
    iterate 2 (refine plan_take (v := ?_) rfl (by kernel_rfl) ?_ ?_; rotate_left; (focus (intro w' hw'; try go_simp; try with_reducible rfl)); simp only [Act.put, List.setIfInBounds_toArray, List.set_cons_zero, List.set_cons_succ])
    iterate 2 (refine plan_skip rfl (by kernel_rfl) ?_; simp only [Act.put, List.setIfInBounds_toArray, List.set_cons_zero, List.set_cons_succ])
    iterate 2 (refine plan_take (v := ?_) rfl (by kernel_rfl) ?_ ?_; rotate_left; (focus (intro w' hw'; try go_simp; try with_reducible rfl)); simp only [Act.put, List.setIfInBounds_toArray, List.set_cons_zero, List.set_cons_succ])
    iterate 2 (refine plan_skip rfl (by kernel_rfl) ?_; simp only [Act.put, List.setIfInBounds_toArray, List.set_cons_zero, List.set_cons_succ])
    iterate 2 (refine plan_take (v := ?_) rfl (by kernel_rfl) ?_ ?_; rotate_left; (focus (intro w' hw'; try go_simp; try with_reducible rfl)); simp only [Act.put, List.setIfInBounds_toArray, List.set_cons_zero, List.set_cons_succ])
    iterate 8 (refine plan_skip rfl (by kernel_rfl) ?_; simp only [Act.put, List.setIfInBounds_toArray, List.set_cons_zero, List.set_cons_succ])
    iterate 2 (refine plan_take (v := ?_) rfl (by kernel_rfl) ?_ ?_; rotate_left; (focus (intro w' hw'; try go_simp; try with_reducible rfl)); simp only [Act.put, List.setIfInBounds_toArray, List.set_cons_zero, List.set_cons_succ])
    refine plan_end ?_
    go_wp2_with fail
    go_ret
    exact ⟨congrArg (fun q => Ending.returned (Value.bool q)) (by rw [HRES.out, HR.out]; simp), E4.out⟩
  have HR : Hid (levelB l = true) := Lib.hid (by unfold levelB; simp; omega)
  have i0 : 0 ≤ l := by omega
  have i2 : l ≤ 2 := by omega
  have d0 : decide (0 ≤ l) = true := decide_eq_true i0
  have d2 : decide (l ≤ 2) = true := decide_eq_true i2
  have bl := B4.out.lt
  have b0 := fun (W' : World) (h : Ext w3.drew W') => (h.cell (p := ⟨pb, 0, none⟩) bl).trans (B4.out.cell 0)
  have b1 := fun (W' : World) (h : Ext w3.drew W') => (h.cell (p := ⟨pb, 1, none⟩) bl).trans (B4.out.cell 1)
  have b2 := fun (W' : World) (h : Ext w3.drew W') => (h.cell (p := ⟨pb, 2, none⟩) bl).trans (B4.out.cell 2)
  have b3 := fun (W' : World) (h : Ext w3.drew W') => (h.cell (p := ⟨pb, 3, none⟩) bl).trans (B4.out.cell 3)
  have b4 := fun (W' : World) (h : Ext w3.drew W') => (h.cell (p := ⟨pb, 4, none⟩) bl).trans (B4.out.cell 4)
  have b5 := fun (W' : World) (h : Ext w3.drew W') => (h.cell (p := ⟨pb, 5, none⟩) bl).trans (B4.out.cell 5)
  have b6 := fun (W' : World) (h : Ext w3.drew W') => (h.cell (p := ⟨pb, 6, none⟩) bl).trans (B4.out.cell 6)
  have b7 := fun (W' : World) (h : Ext w3.drew W') => (h.cell (p := ⟨pb, 7, none⟩) bl).trans (B4.out.cell 7)
  have b8 := fun (W' : World) (h : Ext w3.drew W') => (h.cell (p := ⟨pb, 8, none⟩) bl).trans (B4.out.cell 8)
  have b9 := fun (W' : World) (h : Ext w3.drew W') => (h.cell (p := ⟨pb, 9, none⟩) bl).trans (B4.out.cell 9)
  simp only [List.getElem?_toArray, List.getElem?_cons_zero, List.getElem?_cons_succ] at b0 b1 b2 b3 b4 b5 b6 b7 b8 b9
  have ql := Q4.out.lt
  have q0 := fun (W' : World) (h : Ext w3.drew W') => (h.cell (p := ⟨qb, 0, none⟩) ql).trans (Q4.out.cell 0)
  have q1 := fun (W' : World) (h : Ext w3.drew W') => (h.cell (p := ⟨qb, 1, none⟩) ql).trans (Q4.out.cell 1)
  have q2 := fun (W' : World) (h : Ext w3.drew W') => (h.cell (p := ⟨qb, 2, none⟩) ql).trans (Q4.out.cell 2)
  have q3 := fun (W' : World) (h : Ext w3.drew W') => (h.cell (p := ⟨qb, 3, none⟩) ql).trans (Q4.out.cell 3)
  have q4 := fun (W' : World) (h : Ext w3.drew W') => (h.cell (p := ⟨qb, 4, none⟩) ql).trans (Q4.out.cell 4)
  have q5 := fun (W' : World) (h : Ext w3.drew W') => (h.cell (p := ⟨qb, 5, none⟩) ql).trans (Q4.out.cell 5)
  have q6 := fun (W' : World) (h : Ext w3.drew W') => (h.cell (p := ⟨qb, 6, none⟩) ql).trans (Q4.out.cell 6)
  have q7 := fun (W' : World) (h : Ext w3.drew W') => (h.cell (p := ⟨qb, 7, none⟩) ql).trans (Q4.out.cell 7)
  have q8 := fun (W' : World) (h : Ext w3.drew W') => (h.cell (p := ⟨qb, 8, none⟩) ql).trans (Q4.out.cell 8)
  have q9 := fun (W' : World) (h : Ext w3.drew W') => (h.cell (p := ⟨qb, 9, none⟩) ql).trans (Q4.out.cell 9)
  simp only [List.getElem?_toArray, List.getElem?_cons_zero, List.getElem?_cons_succ] at q0 q1 q2 q3 q4 q5 q6 q7 q8 q9
  cases fit with
  | false =>
    refine wp_region_plan [(0, false), (1, false), (2, false), (3, false), (4, false), (5, false), (6, false), (7, false), (8, false), (9, false), (10, false), (11, false), (12, false), (13, false), (14, false), (15, false), (16, false), (17, false), (18, false), (19, false), (20, false), (21, false), (22, false), (23, false), (24, false), (25, false), (26, false), (27, false), (28, false), (29, false)] (by kernel_rfl) (by kernel_rfl) (fun _ d _ _ _ h => by cases d <;> exact h) ?_
    iterate 12 (refine plan_take (v := ?_) rfl (by kernel_rfl) ?_ ?_; rotate_left; (focus (intro w' hw'; try go_simp; try with_reducible rfl)); simp only [Act.put, List.setIfInBounds_toArray, List.set_cons_zero, List.set_cons_succ])
    iterate 2 (refine plan_skip rfl (by kernel_rfl) ?_; simp only [Act.put, List.setIfInBounds_toArray, List.set_cons_zero, List.set_cons_succ])
    iterate 2 (refine plan_take (v := ?_) rfl (by kernel_rfl) ?_ ?_; rotate_left; (focus (intro w' hw'; try go_simp; try with_reducible rfl)); simp only [Act.put, List.setIfInBounds_toArray, List.set_cons_zero, List.set_cons_succ])
    iterate 2 (refine plan_skip rfl (by kernel_rfl) ?_; simp only [Act.put, List.setIfInBounds_toArray, List.set_cons_zero, List.set_cons_succ])
    iterate 2 (refine plan_take (v := ?_) rfl (by kernel_rfl) ?_ ?_; rotate_left; (focus (intro w' hw'; try go_simp; try with_reducible rfl)); simp only [Act.put, List.setIfInBounds_toArray, List.set_cons_zero, List.set_cons_succ])
    iterate 8 (refine plan_skip rfl (by kernel_rfl) ?_; simp only [Act.put, List.setIfInBounds_toArray, List.set_cons_zero, List.set_cons_succ])
    iterate 2 (refine plan_take (v := ?_) rfl (by kernel_rfl) ?_ ?_; rotate_left; (focus (intro w' hw'; try go_simp; try with_reducible rfl)); simp only [Act.put, List.setIfInBounds_toArray, List.set_cons_zero, List.set_cons_succ])
    refine plan_end ?_
    clear b0 b1 b2 b3 b4 b5 b6 b7 b8 b9 bl q0 q1 q2 q3 q4 q5 q6 q7 q8 q9 ql
    go_wp2_with fail
    go_ret
    exact ⟨congrArg (fun q => Ending.returned (Value.bool q)) (by rw [HRES.out, HR.out]; simp), E4.out⟩
  | true =>
    cases hrt : (v && (r || !w)) with
    | false =>
      refine wp_region_plan [(0, false), (1, false), (2, false), (3, false), (4, false), (5, false), (6, false), (7, false), (8, false), (9, false), (10, false), (11, false), (12, false), (13, true), (14, false), (15, false), (16, false), (17, false), (18, false), (19, false), (20, false), (21, false), (22, false), (23, false), (24, false), (25, false), (26, false), (27, false), (28, false), (29, false)] (by kernel_rfl) (by kernel_rfl) (fun _ d _ _ _ h => by cases d <;> exact h) ?_
      iterate 13 (refine plan_take (v := ?_) rfl (by kernel_rfl) ?_ ?_; rotate_left; (focus (intro w' hw'; try go_simp; try with_reducible rfl)); simp only [Act.put, List.setIfInBounds_toArray, List.set_cons_zero, List.set_cons_succ])
      clear b0 b1 b2 b3 b4 b5 b6 b7 b8 b9 bl q0 q1 q2 q3 q4 q5 q6 q7 q8 q9 ql
      refine plan_call rfl (by kernel_rfl) (by go_simp; exact ⟨rfl, rfl⟩) ?_
      refine (right_any v r w x u g a d rsw (ppn : Int) _).mono ?_
      rintro e w5 ⟨rfl, hb⟩
      rw [hrt]
      have HRT := Lib.hid hrt
      refine ⟨_, rfl, hb, ?_⟩
      simp only [Act.put, List.setIfInBounds_toArray, List.set_cons_zero, List.set_cons_succ]
      have E5 := Lib.hid (E4.out.trans (hb.mono E4.out.size))
      clear hb hrt
      iterate 2 (refine plan_take (v := ?_) rfl (by kernel_rfl) ?_ ?_; rotate_left; (focus (intro w' hw'; try go_simp; try with_reducible rfl)); simp only [Act.put, List.setIfInBounds_toArray, List.set_cons_zero, List.set_cons_succ])
      iterate 2 (refine plan_skip rfl (by kernel_rfl) ?_; simp only [Act.put, List.setIfInBounds_toArray, List.set_cons_zero, List.set_cons_succ])
      iterate 2 (refine plan_take (v := ?_) rfl (by kernel_rfl) ?_ ?_; rotate_left; (focus (intro w' hw'; try go_simp; try with_reducible rfl)); simp only [Act.put, List.setIfInBounds_toArray, List.set_cons_zero, List.set_cons_succ])
      iterate 8 (refine plan_skip rfl (by kernel_rfl) ?_; simp only [Act.put, List.setIfInBounds_toArray, List.set_cons_zero, List.set_cons_succ])
      iterate 2 (refine plan_take (v := ?_) rfl (by kernel_rfl) ?_ ?_; rotate_left; (focus (intro w' hw'; try go_simp; try with_reducible rfl)); simp only [Act.put, List.setIfInBounds_toArray, List.set_cons_zero, List.set_cons_succ])
      refine plan_end ?_
      go_wp2_with fail
      go_ret
      exact ⟨congrArg (fun q => Ending.returned (Value.bool q)) (by rw [HRES.out, HR.out, HRT.out]; simp), E5.out⟩
    | true =>
      cases hlf : (r || x) with
      | false =>
        refine wp_region_plan [(0, false), (1, false), (2, false), (3, false), (4, false), (5, false), (6, false), (7, false), (8, false), (9, false), (10, false), (11, false), (12, false), (13, true), (14, false), (15, false), (16, false), (17, true), (18, false), (19, false), (20, false), (21, false), (22, false), (23, false), (24, false), (25, false), (26, false), (27, false), (28, false), (29, false)] (by kernel_rfl) (by kernel_rfl) (fun _ d _ _ _ h => by cases d <;> exact h) ?_
        iterate 13 (refine plan_take (v := ?_) rfl (by kernel_rfl) ?_ ?_; rotate_left; (focus (intro w' hw'; try go_simp; try with_reducible rfl)); simp only [Act.put, List.setIfInBounds_toArray, List.set_cons_zero, List.set_cons_succ])
        clear b0 b1 b2 b3 b4 b5 b6 b7 b8 b9 bl q0 q1 q2 q3 q4 q5 q6 q7 q8 q9 ql
        refine plan_call rfl (by kernel_rfl) (by go_simp; exact ⟨rfl, rfl⟩) ?_
        refine (right_any v r w x u g a d rsw (ppn : Int) _).mono ?_
        rintro e w5 ⟨rfl, hb⟩
        rw [hrt]
        have HRT := Lib.hid hrt
        refine ⟨_, rfl, hb, ?_⟩
        simp only [Act.put, List.setIfInBounds_toArray, List.set_cons_zero, List.set_cons_succ]
        have E5 := Lib.hid (E4.out.trans (hb.mono E4.out.size))
        have B5 := Lib.hid (B4.out.below hb B4.out.lt)
        clear hb hrt
        have bl := B5.out.lt
        have b0 := fun (W' : World) (h : Ext w5 W') => (h.cell (p := ⟨pb, 0, none⟩) bl).trans (B5.out.cell 0)
        have b1 := fun (W' : World) (h : Ext w5 W') => (h.cell (p := ⟨pb, 1, none⟩) bl).trans (B5.out.cell 1)
        have b2 := fun (W' : World) (h : Ext w5 W') => (h.cell (p := ⟨pb, 2, none⟩) bl).trans (B5.out.cell 2)
        have b3 := fun (W' : World) (h : Ext w5 W') => (h.cell (p := ⟨pb, 3, none⟩) bl).trans (B5.out.cell 3)
        have b4 := fun (W' : World) (h : Ext w5 W') => (h.cell (p := ⟨pb, 4, none⟩) bl).trans (B5.out.cell 4)
        have b5 := fun (W' : World) (h : Ext w5 W') => (h.cell (p := ⟨pb, 5, none⟩) bl).trans (B5.out.cell 5)
        have b6 := fun (W' : World) (h : Ext w5 W') => (h.cell (p := ⟨pb, 6, none⟩) bl).trans (B5.out.cell 6)
        have b7 := fun (W' : World) (h : Ext w5 W') => (h.cell (p := ⟨pb, 7, none⟩) bl).trans (B5.out.cell 7)
        have b8 := fun (W' : World) (h : Ext w5 W') => (h.cell (p := ⟨pb, 8, none⟩) bl).trans (B5.out.cell 8)
        have b9 := fun (W' : World) (h : Ext w5 W') => (h.cell (p := ⟨pb, 9, none⟩) bl).trans (B5.out.cell 9)
        simp only [List.getElem?_toArray, List.getElem?_cons_zero, List.getElem?_cons_succ] at b0 b1 b2 b3 b4 b5 b6 b7 b8 b9
        iterate 3 (refine plan_take (v := ?_) rfl (by kernel_rfl) ?_ ?_; rotate_left; (focus (intro w' hw'; try go_simp; try with_reducible rfl)); simp only [Act.put, List.setIfInBounds_toArray, List.set_cons_zero, List.set_cons_succ])
        clear b0 b1 b2 b3 b4 b5 b6 b7 b8 b9 bl
        refine plan_call rfl (by kernel_rfl) (by go_simp; exact ⟨rfl, rfl⟩) ?_
        refine (leaf_any v r w x u g a d rsw (ppn : Int) _).mono ?_
        rintro e w6 ⟨rfl, hb⟩
        rw [hlf]
        have HLF := Lib.hid hlf
        refine ⟨_, rfl, hb, ?_⟩
        simp only [Act.put, List.setIfInBounds_toArray, List.set_cons_zero, List.set_cons_succ]
        have E6 := Lib.hid (E5.out.trans (hb.mono E5.out.size))
        clear hb hlf
        iterate 2 (refine plan_take (v := ?_) rfl (by kernel_rfl) ?_ ?_; rotate_left; (focus (intro w' hw'; try go_simp; try with_reducible rfl)); simp only [Act.put, List.setIfInBounds_toArray, List.set_cons_zero, List.set_cons_succ])
        iterate 8 (refine plan_skip rfl (by kernel_rfl) ?_; simp only [Act.put, List.setIfInBounds_toArray, List.set_cons_zero, List.set_cons_succ])
        iterate 2 (refine plan_take (v := ?_) rfl (by kernel_rfl) ?_ ?_; rotate_left; (focus (intro w' hw'; try go_simp; try with_reducible rfl)); simp only [Act.put, List.setIfInBounds_toArray, List.set_cons_zero, List.set_cons_succ])
        refine plan_end ?_
        go_wp2_with fail
        go_ret
        exact ⟨congrArg (fun q => Ending.returned (Value.bool q)) (by rw [HRES.out, HR.out, HRT.out, HLF.out]; simp), E6.out⟩
      | true =>
        refine wp_region_plan [(0, false), (1, false), (2, false), (3, false), (4, false), (5, false), (6, false), (7, false), (8, false), (9, false), (10, false), (11, false), (12, false), (13, true), (14, false), (15, false), (16, false), (17, true), (18, false), (19, false), (20, false), (21, false), (22, false), (23, false), (24, false), (25, false), (26, false), (27, false), (28, false), (29, false)] (by kernel_rfl) (by kernel_rfl) (fun _ d _ _ _ h => by cases d <;> exact h) ?_
        iterate 13 (refine plan_take (v := ?_) rfl (by kernel_rfl) ?_ ?_; rotate_left; (focus (intro w' hw'; try go_simp; try with_reducible rfl)); simp only [Act.put, List.setIfInBounds_toArray, List.set_cons_zero, List.set_cons_succ])
        clear b0 b1 b2 b3 b4 b5 b6 b7 b8 b9 bl q0 q1 q2 q3 q4 q5 q6 q7 q8 q9 ql
        refine plan_call rfl (by kernel_rfl) (by go_simp; exact ⟨rfl, rfl⟩) ?_
        refine (right_any v r w x u g a d rsw (ppn : Int) _).mono ?_
        rintro e w5 ⟨rfl, hb⟩
        rw [hrt]
        have HRT := Lib.hid hrt
        refine ⟨_, rfl, hb, ?_⟩
        simp only [Act.put, List.setIfInBounds_toArray, List.set_cons_zero, List.set_cons_succ]
        have E5 := Lib.hid (E4.out.trans (hb.mono E4.out.size))
        have B5 := Lib.hid (B4.out.below hb B4.out.lt)
        clear hb hrt
        have bl := B5.out.lt
        have b0 := fun (W' : World) (h : Ext w5 W') => (h.cell (p := ⟨pb, 0, none⟩) bl).trans (B5.out.cell 0)
        have b1 := fun (W' : World) (h : Ext w5 W') => (h.cell (p := ⟨pb, 1, none⟩) bl).trans (B5.out.cell 1)
        have b2 := fun (W' : World) (h : Ext w5 W') => (h.cell (p := ⟨pb, 2, none⟩) bl).trans (B5.out.cell 2)
        have b3 := fun (W' : World) (h : Ext w5 W') => (h.cell (p := ⟨pb, 3, none⟩) bl).trans (B5.out.cell 3)
        have b4 := fun (W' : World) (h : Ext w5 W') => (h.cell (p := ⟨pb, 4, none⟩) bl).trans (B5.out.cell 4)
        have b5 := fun (W' : World) (h : Ext w5 W') => (h.cell (p := ⟨pb, 5, none⟩) bl).trans (B5.out.cell 5)
        have b6 := fun (W' : World) (h : Ext w5 W') => (h.cell (p := ⟨pb, 6, none⟩) bl).trans (B5.out.cell 6)
        have b7 := fun (W' : World) (h : Ext w5 W') => (h.cell (p := ⟨pb, 7, none⟩) bl).trans (B5.out.cell 7)
        have b8 := fun (W' : World) (h : Ext w5 W') => (h.cell (p := ⟨pb, 8, none⟩) bl).trans (B5.out.cell 8)
        have b9 := fun (W' : World) (h : Ext w5 W') => (h.cell (p := ⟨pb, 9, none⟩) bl).trans (B5.out.cell 9)
        simp only [List.getElem?_toArray, List.getElem?_cons_zero, List.getElem?_cons_succ] at b0 b1 b2 b3 b4 b5 b6 b7 b8 b9
        iterate 3 (refine plan_take (v := ?_) rfl (by kernel_rfl) ?_ ?_; rotate_left; (focus (intro w' hw'; try go_simp; try with_reducible rfl)); simp only [Act.put, List.setIfInBounds_toArray, List.set_cons_zero, List.set_cons_succ])
        clear b0 b1 b2 b3 b4 b5 b6 b7 b8 b9 bl
        refine plan_call rfl (by kernel_rfl) (by go_simp; exact ⟨rfl, rfl⟩) ?_
        refine (leaf_any v r w x u g a d rsw (ppn : Int) _).mono ?_
        rintro e w6 ⟨rfl, hb⟩
        rw [hlf]
        have HLF := Lib.hid hlf
        refine ⟨_, rfl, hb, ?_⟩
        simp only [Act.put, List.setIfInBounds_toArray, List.set_cons_zero, List.set_cons_succ]
        have E6 := Lib.hid (E5.out.trans (hb.mono E5.out.size))
        have B6 := Lib.hid (B5.out.below hb B5.out.lt)
        clear hb hlf
        have bl := B6.out.lt
        have b0 := fun (W' : World) (h : Ext w6 W') => (h.cell (p := ⟨pb, 0, none⟩) bl).trans (B6.out.cell 0)
        have b1 := fun (W' : World) (h : Ext w6 W') => (h.cell (p := ⟨pb, 1, none⟩) bl).trans (B6.out.cell 1)
        have b2 := fun (W' : World) (h : Ext w6 W') => (h.cell (p := ⟨pb, 2, none⟩) bl).trans (B6.out.cell 2)
        have b3 := fun (W' : World) (h : Ext w6 W') => (h.cell (p := ⟨pb, 3, none⟩) bl).trans (B6.out.cell 3)
        have b4 := fun (W' : World) (h : Ext w6 W') => (h.cell (p := ⟨pb, 4, none⟩) bl).trans (B6.out.cell 4)
        have b5 := fun (W' : World) (h : Ext w6 W') => (h.cell (p := ⟨pb, 5, none⟩) bl).trans (B6.out.cell 5)
        have b6 := fun (W' : World) (h : Ext w6 W') => (h.cell (p := ⟨pb, 6, none⟩) bl).trans (B6.out.cell 6)
        have b7 := fun (W' : World) (h : Ext w6 W') => (h.cell (p := ⟨pb, 7, none⟩) bl).trans (B6.out.cell 7)
        have b8 := fun (W' : World) (h : Ext w6 W') => (h.cell (p := ⟨pb, 8, none⟩) bl).trans (B6.out.cell 8)
        have b9 := fun (W' : World) (h : Ext w6 W') => (h.cell (p := ⟨pb, 9, none⟩) bl).trans (B6.out.cell 9)
        simp only [List.getElem?_toArray, List.getElem?_cons_zero, List.getElem?_cons_succ] at b0 b1 b2 b3 b4 b5 b6 b7 b8 b9
        rcases (show l = 0 ∨ l = 1 ∨ l = 2 by omega) with e | e | e
        · have HLO : Hid (lowB (⟨v, r, w, x, u, g, a, d, rsw, (ppn : Int)⟩ : Pte) l = decide (ppn % 2 ^ 0 = 0)) := Lib.hid (by rw [e]; rfl)
          have lo := low_eq ppn 0 0 (by decide) rfl HP.out
          have c3 : ∀ w' : World, (Op.shift BinOp.shl IntKind.u64 1 IntKind.i64 (IntKind.i64.wrap 0)).run Tryz.prog w' = .ok (.int .u64 1) w' := fun _ => by kernel_rfl
          iterate 12 (refine plan_take (v := ?_) rfl (by kernel_rfl) ?_ ?_; rotate_left; (focus (intro w' hw'; try go_simp; try with_reducible rfl)); simp only [Act.put, List.setIfInBounds_toArray, List.set_cons_zero, List.set_cons_succ])
          refine plan_end ?_
          clear b0 b1 b2 b3 b4 b5 b6 b7 b8 b9 bl c3
          go_wp2_with fail
          go_ret
          exact ⟨congrArg (fun q => Ending.returned (Value.bool q)) (by rw [HRES.out, HR.out, HRT.out, HLF.out, HLO.out, ← lo]; rfl), E6.out⟩
        · have HLO : Hid (lowB (⟨v, r, w, x, u, g, a, d, rsw, (ppn : Int)⟩ : Pte) l = decide (ppn % 2 ^ 9 = 0)) := Lib.hid (by rw [e]; rfl)
          have lo := low_eq ppn 9 511 (by decide) rfl HP.out
          have c3 : ∀ w' : World, (Op.shift BinOp.shl IntKind.u64 1 IntKind.i64 (IntKind.i64.wrap 9)).run Tryz.prog w' = .ok (.int .u64 512) w' := fun _ => by kernel_rfl
          iterate 12 (refine plan_take (v := ?_) rfl (by kernel_rfl) ?_ ?_; rotate_left; (focus (intro w' hw'; try go_simp; try with_reducible rfl)); simp only [Act.put, List.setIfInBounds_toArray, List.set_cons_zero, List.set_cons_succ])
          refine plan_end ?_
          clear b0 b1 b2 b3 b4 b5 b6 b7 b8 b9 bl c3
          go_wp2_with fail
          go_ret
          exact ⟨congrArg (fun q => Ending.returned (Value.bool q)) (by rw [HRES.out, HR.out, HRT.out, HLF.out, HLO.out, ← lo]; rfl), E6.out⟩
        · have HLO : Hid (lowB (⟨v, r, w, x, u, g, a, d, rsw, (ppn : Int)⟩ : Pte) l = decide (ppn % 2 ^ 18 = 0)) := Lib.hid (by rw [e]; rfl)
          have lo := low_eq ppn 18 262143 (by decide) rfl HP.out
          have c3 : ∀ w' : World, (Op.shift BinOp.shl IntKind.u64 1 IntKind.i64 (IntKind.i64.wrap 18)).run Tryz.prog w' = .ok (.int .u64 262144) w' := fun _ => by kernel_rfl
          iterate 12 (refine plan_take (v := ?_) rfl (by kernel_rfl) ?_ ?_; rotate_left; (focus (intro w' hw'; try go_simp; try with_reducible rfl)); simp only [Act.put, List.setIfInBounds_toArray, List.set_cons_zero, List.set_cons_succ])
          refine plan_end ?_
          clear b0 b1 b2 b3 b4 b5 b6 b7 b8 b9 bl c3
          go_wp2_with fail
          go_ret
          exact ⟨congrArg (fun q => Ending.returned (Value.bool q)) (by rw [HRES.out, HR.out, HRT.out, HLF.out, HLO.out, ← lo]; rfl), E6.out⟩
end Go.Proofs.YtophcgbddccpeaaGreat
