/- CheckTurns. -/
import Derived.Test.YtnnajaomajgoeaaCheckH
namespace Go.Proofs.Ytnnajaomajgoeaa
open Go.RowKit

theorem turnL_length (l : List Nat) (n : Int) : (turnL l n).length = l.length := by
  unfold turnL; split <;> simp
theorem turnL_lt {l : List Nat} (h : ∀ i : Nat, l.getD i 0 < 256) (n : Int) (i : Nat) : (turnL l n).getD i 0 < 256 := by
  unfold turnL
  split
  · rename_i hn
    rw [List.getD_eq_getElem?_getD, List.getElem?_set]
    split
    · split
      · have h8 : (n % 8).toNat < 8 := by omega
        have h2 : 2 ^ (n % 8).toNat < 256 := Nat.lt_of_lt_of_le (Nat.pow_lt_pow_right (by decide) h8) (by decide)
        exact Nat.xor_lt_two_pow (n := 8) (h _) h2
      · decide
    · rw [← List.getD_eq_getElem?_getD]; exact h i
  · exact h i
theorem getD_set_self (l : List Nat) (k v : Nat) (h : k < l.length) : (l.set k v).getD k 0 = v := by
  rw [List.getD_eq_getElem?_getD, List.getElem?_set_self h]; rfl
theorem turnL_twice (l : List Nat) (n : Int) : turnL (turnL l n) n = l := by
  by_cases hn : 0 ≤ n ∧ n / 8 < l.length
  · have hk : (n / 8).toNat < l.length := by omega
    have e : turnL l n = l.set (n / 8).toNat (l.getD (n / 8).toNat 0 ^^^ 2 ^ (n % 8).toNat) := if_pos hn
    have h2 : turnL (turnL l n) n = (turnL l n).set (n / 8).toNat ((turnL l n).getD (n / 8).toNat 0 ^^^ 2 ^ (n % 8).toNat) := if_pos (by rw [turnL_length]; exact hn)
    rw [h2, e, List.set_set, getD_set_self _ _ _ hk]
    rw [Nat.xor_assoc, Nat.xor_self, Nat.xor_zero]
    apply List.ext_getElem?
    intro i
    rw [List.getElem?_set]
    split
    · rename_i hi
      subst hi
      rw [List.getD_eq_getElem?_getD, List.getElem?_eq_getElem hk]; rfl
    · rfl
  · have e : turnL l n = l := if_neg hn
    rw [e, e]
theorem xor_ne (x p : Nat) (hp : 0 < p) : x ^^^ p ≠ x := by
  intro h
  have : x ^^^ (x ^^^ p) = x ^^^ x := by rw [h]
  rw [← Nat.xor_assoc, Nat.xor_self, Nat.zero_xor] at this
  omega
/-- Of sealed bytes of which one bit is turned nothing is opened. -/
theorem turned_open (l : List Nat) (hl : ∀ i : Nat, l.getD i 0 < 256) (n : Int) (hn : 0 ≤ n ∧ n / 8 < (l ++ bytesOf (sumV l) 4).length) : openB (turnL (l ++ bytesOf (sumV l) 4) n) = false := by
  have hs : ∀ i : Nat, (l ++ bytesOf (sumV l) 4).getD i 0 < 256 := append_lt hl (bytesOf_lt _ _)
  have hlen : (l ++ bytesOf (sumV l) 4).length = l.length + 4 := by rw [List.length_append, bytes4]
  have e : turnL (l ++ bytesOf (sumV l) 4) n = (l ++ bytesOf (sumV l) 4).set (n / 8).toNat ((l ++ bytesOf (sumV l) 4).getD (n / 8).toNat 0 ^^^ 2 ^ (n % 8).toNat) := if_pos hn
  have ht := turnL_lt hs n
  have htl := turnL_length (l ++ bytesOf (sumV l) 4) n
  rw [openB_eq _ ht (by rw [htl, hlen]; omega), htl, hlen, Nat.add_sub_cancel]
  rw [decide_eq_false_iff_not]
  intro h
  have hp : 0 < 2 ^ (n % 8).toNat := Nat.two_pow_pos _
  rw [e] at h
  have hx : ∀ k, (l ++ bytesOf (sumV l) 4).getD k 0 ^^^ 2 ^ (n % 8).toNat ≠ (l ++ bytesOf (sumV l) 4).getD k 0 := fun k => xor_ne _ _ hp
  have htk := ht (n / 8).toNat
  rw [e, getD_set_self _ _ _ (by omega)] at htk
  generalize hv : (l ++ bytesOf (sumV l) 4).getD (n / 8).toNat 0 ^^^ 2 ^ (n % 8).toNat = v at h htk
  rcases Nat.lt_or_ge (n / 8).toNat l.length with hk | hk
  · -- among the bytes themselves
    rw [List.set_append_left _ _ hk] at h
    rw [List.take_left' (by simp), List.drop_left' (by simp)] at h
    have h1 : sumV (l.set (n / 8).toNat v) = sumV l := by
      have := congrArg leNat h
      rwa [leNat_bytes4 _ (sum_lt _), leNat_bytes4 _ (sum_lt _)] at this
    have hg : l.getD (n / 8).toNat 0 = (l ++ bytesOf (sumV l) 4).getD (n / 8).toNat 0 := by
      rw [List.getD_eq_getElem?_getD, List.getD_eq_getElem?_getD, List.getElem?_append_left hk]
    have hset : ∀ i : Nat, (l.set (n / 8).toNat v).getD i 0 < 256 := fun i => by
      rw [List.getD_eq_getElem?_getD, List.getElem?_set]
      split
      · exact htk
      · rw [← List.getD_eq_getElem?_getD]; exact hl i
    have hst : stateV (l.set (n / 8).toNat v) = stateV l := by
      have a1 := state_lt _ hset
      have a2 := state_lt l hl
      unfold sumV at h1
      omega
    have s1 : l.set (n / 8).toNat v = l.take (n / 8).toNat ++ v :: l.drop ((n / 8).toNat + 1) := List.set_eq_take_append_cons_drop.trans (if_pos hk)
    have s2 : l = l.take (n / 8).toNat ++ l.getD (n / 8).toNat 0 :: l.drop ((n / 8).toNat + 1) := by
      rw [List.getD_eq_getElem?_getD, List.getElem?_eq_getElem hk]
      simp
    rw [s1] at hst
    have s3 : stateV l = stateV (l.take (n / 8).toNat ++ l.getD (n / 8).toNat 0 :: l.drop ((n / 8).toNat + 1)) := congrArg stateV s2
    rw [s3] at hst
    have := state_turn _ _ _ _ (fun i => getD_take_lt l _ i hl) (fun i => getD_drop_lt l _ hl i) htk (hl _) hst
    rw [← hv, hg] at this
    exact hx _ this
  · -- in the sum
    rw [List.set_append_right _ _ hk] at h
    rw [List.take_left' rfl, List.drop_left' rfl] at h
    have hk4 : (n / 8).toNat - l.length < 4 := by omega
    have h1 := congrArg (fun q => q.getD ((n / 8).toNat - l.length) 0) h
    rw [getD_set_self _ _ _ (by rw [bytes4]; exact hk4)] at h1
    have hg : (l ++ bytesOf (sumV l) 4).getD (n / 8).toNat 0 = (bytesOf (sumV l) 4).getD ((n / 8).toNat - l.length) 0 := by
      rw [List.getD_eq_getElem?_getD, List.getD_eq_getElem?_getD, List.getElem?_append_right hk]
    have := hx (n / 8).toNat
    rw [hv, hg, h1] at this
    exact this rfl

theorem turn_at (A : Option Addr) (l : List Nat) (m c : Nat) (n : Int) (W : World) (hl : l.length = m) (hn : m ≤ 140737488355328) (hB : Bts W A l) (hw : -9223372036854775808 ≤ n ∧ n < 9223372036854775808) :
    Calls Try.prog 31 #[.slice A m c, .int .i64 n] W (RetOwn (turnL l n) W) := by
  subst hl; exact turn_any A l c n W hn hB hw
theorem rturn_at (A : Option Addr) (l : List Nat) (m c : Nat) (n : Int) (W : World) (hl : l.length = m) (hn : m ≤ 140737488355328) (hB : Bts W A l) (hw : -9223372036854775808 ≤ n ∧ n < 9223372036854775808) :
    Calls Try.prog 32 #[.slice A m c, .int .i64 n] W (RetOwn (turnL l n) W) := by
  subst hl; exact rturn_any A l c n W hn hB hw
theorem own_cap {w : World} {base n : Nat} {e : TypeId} {A : Option Addr} {m c : Nat} {xs : List Value} (h : w.ownsRow base e 1 (.slice A m c) n xs) : n ≤ c := by
  rcases h.2 with ⟨_, h2⟩ | ⟨g, cap, cur, h, _, _, h3, _⟩
  · omega
  · injection h with _ _ h; omega
theorem i64_bounds {n : Int} (h : (Lit.int .i64 n).wf = true) : -9223372036854775808 ≤ n ∧ n < 9223372036854775808 := i64_of_wf h
namespace Law
end Law
end Go.Proofs.Ytnnajaomajgoeaa
