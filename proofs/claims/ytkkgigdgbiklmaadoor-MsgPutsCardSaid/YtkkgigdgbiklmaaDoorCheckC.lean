/- Contracts: slices.Clone, Seal. -/
import Derived.Test.YtkkgigdgbiklmaaDoorWordF
import Derived.Laws.AppendOwn
namespace Go.Proofs.YtkkgigdgbiklmaaDoor
open Go.RowKit

/-- The bytes are handed back in a row of the call's own (or nil). -/
def OwnB (l : List Nat) (w : World) (v : Value) (w' : World) : Prop := w'.ownsRow w.heap.size 5 1 v l.length (l.map bv) ∧ Below w.heap.size w w'
theorem clone_nil (c : Nat) (W : World) :
    Calls Tryd.prog 20 #[.slice none 0 c] W (RetOwn [] W) := by
  have hnil := fun (W : World) (a : Option Addr) (l c : Nat) => slice_eq_nil (P := Tryd.prog) W 22 5 a l c Tryd.underlying22
  go_enter Tryd.func20, Tryd.ntmps20
  go_wp2
  go_ret
  exact ⟨_, rfl, World.ownsRow_nil _ _ _ _, Below.refl _ _⟩
theorem clone_some (a : Addr) (l : List Nat) (c : Nat) (W : World) (hn : l.length ≤ 140737488355328) (hB : Bts W (some a) l) :
    Calls Tryd.prog 20 #[.slice (some a) l.length c] W (RetOwn l W) := by
  obtain ⟨i0, hi0, hz0, hz1, hz2⟩ := info_parts info5
  have HR := Lib.hid (reads_bts hB)
  clear hB
  have hnil := fun (W : World) (l c : Nat) => slice_eq_nil (P := Tryd.prog) W 22 5 (some a) l c Tryd.underlying22
  go_enter Tryd.func20, Tryd.ntmps20
  go_wp2_with (at_builtin; refine wpList_append_any _ rfl (.tmp 5) (.tmp 6) _ rfl W.heap.size 5 i0 _ 1 1 Tryd.underlying22 hi0 hz0 hz1 hz2 rfl (by decide) _ 0 [] rfl (World.ownsRow_made W #[] 0 (Nat.le_refl _) (by unfold maxLen; omega) rfl) W.heap.size (some a) l.length c (l.map bv) rfl (HR.out.alloc (Nat.le_refl _) _) (one_bv l) (by unfold maxLen; omega) (by omega) (by simp) ?_; intro v2 w2 hown hgrow hat; have HO := Lib.hid hown; have HG := Lib.hid hgrow; clear hown hgrow hat)
  go_ret
  have ho := HO.out
  rw [Nat.zero_add, List.nil_append] at ho
  exact ⟨v2, rfl, ho, ((Below.refl _ W).alloc (Nat.le_refl _) _).grown HG.out (by simp) (fun k hk => by cases hk; exact Nat.le_refl _)⟩
theorem clone_any (A : Option Addr) (l : List Nat) (c : Nat) (W : World) (hn : l.length ≤ 140737488355328) (hB : Bts W A l) :
    Calls Tryd.prog 20 #[.slice A l.length c] W (RetOwn l W) := by
  cases A with
  | none =>
    have : l = [] := by
      rcases Nat.eq_zero_or_pos l.length with h | h
      · exact List.eq_nil_of_length_eq_zero h
      · obtain ⟨b, o, e, _⟩ := hB.2 h
        cases e
    subst this
    exact clone_nil c W
  | some a => exact clone_some a l c W hn hB

theorem bytes4 (v : Nat) : (bytesOf v 4).length = 4 := bytesOf_length v 4 rfl
end Go.Proofs.YtkkgigdgbiklmaaDoor
