/- Contracts: slices.Clone, Seal. -/
import Derived.Test.YtnnajaomajgoeaaCheckB
import Derived.Laws.AppendOwn
namespace Go.Proofs.Ytnnajaomajgoeaa
open Go.RowKit

/-- The bytes are handed back in a row of the call's own (or nil). -/
def OwnB (l : List Nat) (w : World) (v : Value) (w' : World) : Prop := w'.ownsRow w.heap.size 5 1 v l.length (l.map bv) ∧ Below w.heap.size w w'
theorem clone_nil (c : Nat) (W : World) :
    Calls Try.prog 25 #[.slice none 0 c] W (RetOwn [] W) := by
  have hnil := fun (W : World) (a : Option Addr) (l c : Nat) => slice_eq_nil (P := Try.prog) W 30 5 a l c Try.underlying30
  go_enter Try.func25, Try.ntmps25
  go_wp2
  go_ret
  exact ⟨_, rfl, World.ownsRow_nil _ _ _ _, Below.refl _ _⟩
theorem clone_some (a : Addr) (l : List Nat) (c : Nat) (W : World) (hn : l.length ≤ 140737488355328) (hB : Bts W (some a) l) :
    Calls Try.prog 25 #[.slice (some a) l.length c] W (RetOwn l W) := by
  obtain ⟨i0, hi0, hz0, hz1, hz2⟩ := info_parts info5
  have HR := Lib.hid (reads_bts hB)
  clear hB
  have hnil := fun (W : World) (l c : Nat) => slice_eq_nil (P := Try.prog) W 30 5 (some a) l c Try.underlying30
  go_enter Try.func25, Try.ntmps25
  go_wp2_with (at_builtin; refine wpList_append_any _ rfl (.tmp 5) (.tmp 6) _ rfl W.heap.size 5 i0 _ 1 1 Try.underlying30 hi0 hz0 hz1 hz2 rfl (by decide) _ 0 [] rfl (World.ownsRow_made W #[] 0 (Nat.le_refl _) (by unfold maxLen; omega) rfl) W.heap.size (some a) l.length c (l.map bv) rfl (HR.out.alloc (Nat.le_refl _) _) (one_bv l) (by unfold maxLen; omega) (by omega) (by simp) ?_; intro v2 w2 hown hgrow hat; have HO := Lib.hid hown; have HG := Lib.hid hgrow; clear hown hgrow hat)
  go_ret
  have ho := HO.out
  rw [Nat.zero_add, List.nil_append] at ho
  exact ⟨v2, rfl, ho, ((Below.refl _ W).alloc (Nat.le_refl _) _).grown HG.out (by simp) (fun k hk => by cases hk; exact Nat.le_refl _)⟩
theorem clone_any (A : Option Addr) (l : List Nat) (c : Nat) (W : World) (hn : l.length ≤ 140737488355328) (hB : Bts W A l) :
    Calls Try.prog 25 #[.slice A l.length c] W (RetOwn l W) := by
  cases A with
  | none =>
    have : l = [] := by
      rcases Nat.eq_zero_or_pos l.length with h | h
      · exact List.eq_nil_of_length_eq_zero h
      · obtain ⟨b, o, e, _⟩ := hB.2 h
        cases e
    subst this
    exact clone_nil c W
  | some a => exact clone_some a l c W hn hB

theorem bytes4 (v : Nat) : (bytesOf v 4).length = 4 := bytesOf_length v 4 rfl
theorem seal_any (A : Option Addr) (l : List Nat) (c : Nat) (W : World) (hn : l.length ≤ 140737488355000) (hB : Bts W A l) :
    Calls Try.prog 37 #[.slice A l.length c] W (RetOwn (l ++ bytesOf (sumV l) 4) W) := by
  obtain ⟨i0, hi0, hz0, hz1, hz2⟩ := info_parts info5
  have HB := Lib.hid hB
  clear hB
  have HS := Lib.hid (sum_lt l)
  go_enter Try.func37, Try.ntmps37
  go_wp2_with fail
  refine (clone_any A l c _ (by omega) HB.out).mono ?_
  rintro e w1 ⟨v1, rfl, hown1, hb1⟩
  have HO1 := Lib.hid hown1
  have HB1 := Lib.hid hb1
  clear hown1 hb1
  go_wp2_with fail
  refine (sum_any A l c _ (by omega) (bts_below HB.out HB1.out)).mono ?_
  rintro e w' ⟨rfl, rfl⟩
  have hs := HS.out
  go_wp2_with fail
  refine (bytes_any (sumV l) 4 _ (by omega)).mono ?_
  rintro e w2 ⟨A2, c2, rfl, hB2, hA2, hb2⟩
  rw [bytes4]
  have HB2 := Lib.hid hB2
  have HW2 := Lib.hid hb2
  have HO2 := Lib.hid (own_below HO1.out hb2)
  have hz := Nat.le_trans HB1.out.size hb2.size
  have HR2 := Lib.hid (reads_bts hB2)
  rw [bytes4] at HR2
  clear hB2 hA2 hb2 hs
  go_wp2_with (at_builtin; refine wpList_append_any _ rfl (.tmp 4) (.tmp 8) _ rfl W.heap.size 5 i0 _ 1 1 Try.underlying30 hi0 hz0 hz1 hz2 rfl (by decide) _ l.length (l.map bv) rfl HO2.out w2.heap.size A2 4 c2 ((bytesOf (sumV l) 4).map bv) rfl HR2.out (one_bv _) (by unfold maxLen; omega) (by omega) hz ?_; intro v3 w3 hown hgrow hat; have HO := Lib.hid hown; have HG := Lib.hid hgrow; clear hown hgrow hat)
  go_ret
  refine ⟨v3, rfl, ?_, below_grown HO2.out (HB1.out.trans (HW2.out.mono HB1.out.size)) HG.out hz⟩
  have ho := HO.out
  rw [List.length_append, bytes4, List.map_append]
  exact ho
end Go.Proofs.Ytnnajaomajgoeaa
