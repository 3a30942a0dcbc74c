/- Two leaves, two slots: the same? -/
import Derived.Test.YtnjoobggcejgkaaTlbPa
import Derived.Test.YtnjoobggcejgkaaWide
import Derived.DeepKeys
namespace Go.Proofs.Ytnjoobggcejgkaa
open Go.RowKit Go.ChangeShapes

def LfWf (l : Lf) : Prop := (Lit.int .i64 l.rsw).wf = true ∧ (Lit.int .u64 l.ppn).wf = true ∧ (Lit.int .i64 l.lev).wf = true ∧ (Lit.int .u64 l.pos).wf = true
def Lf.cs (l : Lf) : Array Value := #[.bool l.v, .bool l.r, .bool l.w, .bool l.x, .bool l.u, .bool l.g, .bool l.a, .bool l.d, .int .i64 l.rsw, .int .u64 l.ppn, .int .i64 l.lev, .int .u64 l.pos]
theorem lcs_size (l : Lf) : l.cs.size = 12 := rfl
theorem lcs_toList (l : Lf) : l.cs.toList = l.vs := rfl
theorem lval_cs (l : Lf) : l.val = .agg l.cs := rfl
theorem one_lf (x : Lf) : ∀ u ∈ x.vs, u.oneCell' = true := by
  intro u hu
  simp [Lf.vs] at hu
  rcases hu with rfl | rfl | rfl | rfl | rfl | rfl | rfl | rfl | rfl | rfl | rfl | rfl <;> rfl
theorem lcs_one (l : Lf) : l.cs.all (·.oneCell') = true := Array.all_eq_true_iff_forall_mem.2 fun u hu => one_lf l u (by rw [← lcs_toList]; simpa using hu)
theorem leaf_row (l : Lf) : rowT Try.prog 33 l.cs.size = true := by rw [lcs_size]; kernel_rfl
def Lf.lits (l : Lf) : List Lit := [.bool l.v, .bool l.r, .bool l.w, .bool l.x, .bool l.u, .bool l.g, .bool l.a, .bool l.d, .int .i64 l.rsw, .int .u64 l.ppn, .int .i64 l.lev, .int .u64 l.pos]
theorem lits_inj (a b : Lf) : a.lits = b.lits ↔ a = b := by
  constructor
  · intro h
    cases a; cases b
    simp only [Lf.lits, List.cons.injEq, Lit.bool.injEq, Lit.int.injEq, true_and, and_true] at h
    obtain ⟨h1, h2, h3, h4, h5, h6, h7, h8, h9, h10, h11, h12⟩ := h
    simp only [Lf.mk.injEq]
    exact ⟨h1, h2, h3, h4, h5, h6, h7, h8, h9, by omega, h11, by omega⟩
  · rintro rfl; rfl
theorem key_int (d : Nat) (n : Int) (h : (Lit.int .i64 n).wf = true) : Try.prog.keyLits (d + 1) 3 [.int .i64 n] = some [.int .i64 n] := by
  unfold Program.keyLits
  simp [Try.underlying3, h]
theorem key_u64 (d : Nat) (n : Int) (h : (Lit.int .u64 n).wf = true) : Try.prog.keyLits (d + 1) 29 [.int .u64 n] = some [.int .u64 n] := by
  unfold Program.keyLits
  simp [Try.underlying29, h]
theorem key_bool (d : Nat) (b : Bool) : Try.prog.keyLits (d + 1) 4 [.bool b] = some [.bool b] := by
  unfold Program.keyLits
  simp [Try.underlying4]
theorem c_int : Try.prog.cellsOf 3 = 1 := by kernel_rfl
theorem c_u64 : Try.prog.cellsOf 29 = 1 := by kernel_rfl
theorem c_bool : Try.prog.cellsOf 4 = 1 := by kernel_rfl
theorem c_pte : Try.prog.cellsOf 31 = 10 := by kernel_rfl
theorem c_leaf : Try.prog.cellsOf 33 = 12 := by kernel_rfl
theorem key_pte (d : Nat) (l : Lf) (h : LfWf l) : Try.prog.keyLits (d + 2) 31 [.bool l.v, .bool l.r, .bool l.w, .bool l.x, .bool l.u, .bool l.g, .bool l.a, .bool l.d, .int .i64 l.rsw, .int .u64 l.ppn] = some [.bool l.v, .bool l.r, .bool l.w, .bool l.x, .bool l.u, .bool l.g, .bool l.a, .bool l.d, .int .i64 l.rsw, .int .u64 l.ppn] := by
  obtain ⟨h1, h2, h3, h4⟩ := h
  unfold Program.keyLits
  simp [Try.underlying31, c_pte, c_int, c_u64, c_bool, key_int, key_u64, key_bool, h1, h2]
theorem key_leaf (d : Nat) (l : Lf) (h : LfWf l) : Try.prog.keyLits (d + 3) 33 l.vs = some l.lits := by
  have hp := key_pte d l h
  obtain ⟨h1, h2, h3, h4⟩ := h
  unfold Program.keyLits Lf.vs Lf.lits
  simp [Try.underlying33, c_leaf, c_pte, c_int, c_u64, key_int, key_u64, hp, h3, h4]
theorem leaf_eq (W : World) (a b : Lf) (ha : LfWf a) (hb : LfWf b) : ∃ r : Bool, (Op.equalIn 10000 33 (.agg a.cs) (.agg b.cs)).run Try.prog W = .ok r W ∧ (r = true ↔ a = b) := by
  have h := run_equalIn_deep (P := Try.prog) 9995 5 33 (by kernel_rfl)
  obtain ⟨r, hr, hi⟩ := h W 5 5 _ _ _ _ (by kernel_rfl : (Value.agg a.cs).formed Try.prog 33 = true) (by kernel_rfl : (Value.agg b.cs).formed Try.prog 33 = true) (key_leaf 2 a ha) (key_leaf 2 b hb)
  exact ⟨r, hr, hi.trans (lits_inj a b)⟩
theorem leaf_same (W : World) (a : Lf) (ha : LfWf a) : (Op.equalIn 10000 33 (.agg a.cs) (.agg a.cs)).run Try.prog W = .ok true W := by
  obtain ⟨r, hr, hi⟩ := leaf_eq W a a ha ha
  rw [hi.2 rfl] at hr
  exact hr
end Go.Proofs.Ytnjoobggcejgkaa
