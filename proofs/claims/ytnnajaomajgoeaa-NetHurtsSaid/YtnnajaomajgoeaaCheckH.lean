/- The laws' own first function; CheckSums, CheckOpens. -/
import Derived.Test.YtnnajaomajgoeaaCheckG
import Derived.Lib.SmallJoins
namespace Go.Proofs.Ytnnajaomajgoeaa
open Go.RowKit

theorem bts_lit (w : World) (fr : Nat × Nat) (l : List Nat) (hl : ∀ i : Nat, l.getD i 0 < 256) (n : Nat) (hn : n = w.heap.size) : Bts (w.alloc (.cells (l.map bv).toArray 5 fr)) (some ⟨n, 0, none⟩) l := by
  subst hn
  refine ⟨hl, fun _ => ⟨_, _, rfl, fun i hi => ?_⟩⟩
  rw [Nat.zero_add, World.cell?_alloc_mark, List.getElem?_toArray, List.getElem?_map, List.getD_eq_getElem?_getD, List.getElem?_eq_getElem hi]
  rfl
theorem bytes_lt {l : List Nat} (h : l.all (· < 256) = true) (i : Nat) : l.getD i 0 < 256 := by
  rw [List.getD_eq_getElem?_getD]
  cases hi : l[i]? with
  | none => decide
  | some x => simpa using List.all_eq_true.1 h x (List.mem_of_getElem? hi)
theorem sealed_take (l : List Nat) : (l ++ bytesOf (sumV l) 4).take ((l ++ bytesOf (sumV l) 4).length - 4) = l := by
  rw [List.length_append, bytes4, Nat.add_sub_cancel, List.take_left]
theorem sealed_drop (l : List Nat) : (l ++ bytesOf (sumV l) 4).drop ((l ++ bytesOf (sumV l) 4).length - 4) = bytesOf (sumV l) 4 := by
  rw [List.length_append, bytes4, Nat.add_sub_cancel, List.drop_left]
theorem append_lt {a b : List Nat} (ha : ∀ i : Nat, a.getD i 0 < 256) (hb : ∀ i : Nat, b.getD i 0 < 256) (i : Nat) : (a ++ b).getD i 0 < 256 := by
  rw [List.getD_eq_getElem?_getD]
  rcases Nat.lt_or_ge i a.length with h | h
  · rw [List.getElem?_append_left h, ← List.getD_eq_getElem?_getD]; exact ha i
  · rw [List.getElem?_append_right h, ← List.getD_eq_getElem?_getD]; exact hb _
theorem sealed_open (l : List Nat) (hl : ∀ i : Nat, l.getD i 0 < 256) : openB (l ++ bytesOf (sumV l) 4) = true := by
  rw [openB_eq _ (append_lt hl (bytesOf_lt _ _)) (by rw [List.length_append, bytes4]; omega), sealed_take, sealed_drop]
  simp
theorem open_yes (A : Option Addr) (l : List Nat) (n c : Nat) (W : World) (hl : l.length = n) (hn : n ≤ 140737488355000) (hc : n ≤ c) (hB : Bts W A l) (ho : openB l = true) :
    Calls Try.prog 38 #[.slice A n c] W fun e w' => ∃ v, e = .returned (.tuple #[v, .bool true]) ∧ w'.ownsRow W.heap.size 5 1 v (n - 4) ((l.take (n - 4)).map bv) ∧ Below W.heap.size W w' := by
  subst hl
  refine (open_any A l c W hn hc hB).mono ?_
  intro e w' h
  unfold OpenR at h
  rw [ho, if_pos rfl] at h
  exact h
theorem open_no (A : Option Addr) (l : List Nat) (n c : Nat) (W : World) (hl : l.length = n) (hn : n ≤ 140737488355000) (hc : n ≤ c) (hB : Bts W A l) (ho : openB l = false) :
    Calls Try.prog 38 #[.slice A n c] W fun e w' => e = .returned (.tuple #[.slice none 0 0, .bool false]) ∧ Below W.heap.size W w' := by
  subst hl
  refine (open_any A l c W hn hc hB).mono ?_
  intro e w' h
  unfold OpenR at h
  rw [ho, if_neg (by decide)] at h
  exact h
theorem seal_at (A : Option Addr) (l : List Nat) (n c : Nat) (W : World) (hl : l.length = n) (hn : n ≤ 140737488355000) (hB : Bts W A l) :
    Calls Try.prog 37 #[.slice A n c] W (RetOwn (l ++ bytesOf (sumV l) 4) W) := by
  subst hl; exact seal_any A l c W hn hB

theorem sum_check : sumV [49, 50, 51, 52, 53, 54, 55, 56, 57] = 3421780262 := by decide +kernel

/-- An argument's bytes. -/
theorem row_nil {w : World} {l : List Nat} (h : Bts w none l) : l = [] := by
  rcases Nat.eq_zero_or_pos l.length with h0 | h0
  · exact List.eq_nil_of_length_eq_zero h0
  · obtain ⟨b, o, e, _⟩ := h.2 h0
    cases e
theorem row_cap {k : IntKind} {w : World} {a : Option Addr} {len cap : Nat} {zs : List Int} (h : IsRow k w a len cap zs) : len ≤ cap := by
  rcases h with ⟨_, rfl, rfl, _⟩ | ⟨_, _, h, _⟩ <;> omega
namespace Law
end Law
end Go.Proofs.Ytnnajaomajgoeaa
