/- What the walk finds: the model, and its plain laws. -/
import Derived.Test.YtmnpakfihfjfiaaWalkB
namespace Go.Proofs.Ytmnpakfihfjfiaa
open Go.RowKit

inductive Fd where
  | err (e : Int)
  | leaf (x l a : Nat)
def atX (va t l : Nat) : Nat := (t * 4096 + 8 * indexV va (l : Int)) % 18446744073709551616
def fdAt (n : Nat) (S : Nat → List Nat) (va l t : Nat) (k : Fd) : Fd :=
  if chkE n (atX va t l) 8 = 0 then
    if goodX (ldR n S (atX va t l) 8) then
      if leafX (ldR n S (atX va t l) 8) then (if evenB (ppnX (ldR n S (atX va t l) 8)) l then .leaf (ldR n S (atX va t l) 8) l (atX va t l) else .err 51)
      else if leadX (ldR n S (atX va t l) 8) l then k else .err 51
    else .err 51
  else .err 61
def findF (n : Nat) (S : Nat → List Nat) (va : Nat) : Nat → Nat → Fd
  | 0, t => fdAt n S va 0 t (.err 51)
  | l + 1, t => fdAt n S va (l + 1) t (findF n S va l (ppnX (ldR n S (atX va t (l + 1)) 8)))
theorem atX_lt (va t l : Nat) : atX va t l < 18446744073709551616 := Nat.mod_lt _ (by decide)
theorem fdAt_leaf {n : Nat} {S : Nat → List Nat} {va L t x l a : Nat} {k : Fd} (h : fdAt n S va L t k = .leaf x l a) :
    (l = L ∧ a = atX va t L ∧ chkE n a 8 = 0 ∧ x = ldR n S a 8) ∨ k = .leaf x l a := by
  unfold fdAt at h
  split at h
  · rename_i h1
    split at h
    · split at h
      · split at h
        · injection h with h2 h3 h4
          subst h3; subst h4
          exact .inl ⟨rfl, rfl, h1, h2.symm⟩
        · cases h
      · split at h
        · exact .inr h
        · cases h
    · cases h
  · cases h
theorem fdAt_congr {n : Nat} {S : Nat → List Nat} {va b L t : Nat} {k : Fd} (h : atX va t L = atX b t L) : fdAt n S va L t k = fdAt n S b L t k := by
  unfold fdAt
  rw [h]
theorem chk_at {n a : Nat} (h : chkE n a 8 = 0) : a % 8 = 0 ∧ a < 4096 * n := by
  unfold chkE at h
  split at h
  · cases h
  · split at h
    · cases h
    · rename_i h1
      split at h
      · cases h
      · rename_i h2
        refine ⟨?_, by omega⟩
        have : alignedB a 8 = true := by simpa using h1
        simpa [alignedB, sizeB] using this
theorem find_leaf {n : Nat} {S : Nat → List Nat} {va x l a : Nat} : ∀ {L t : Nat}, findF n S va L t = .leaf x l a → l ≤ L ∧ a % 8 = 0 ∧ a < 4096 * n ∧ x = ldR n S a 8
  | 0, t, h => by
    rcases fdAt_leaf h with ⟨h1, _, h3, h4⟩ | h1
    · exact ⟨by omega, (chk_at h3).1, (chk_at h3).2, h4⟩
    · cases h1
  | L + 1, t, h => by
    rcases fdAt_leaf h with ⟨h1, _, h3, h4⟩ | h1
    · exact ⟨by omega, (chk_at h3).1, (chk_at h3).2, h4⟩
    · have := find_leaf h1
      exact ⟨by omega, this.2⟩
theorem find_page {n : Nat} {S : Nat → List Nat} {va b x l a : Nat} (hi : ∀ k : Nat, l ≤ k → indexV va (k : Int) = indexV b (k : Int)) : ∀ {L t : Nat}, findF n S va L t = .leaf x l a → findF n S b L t = .leaf x l a
  | 0, t, h => by
    have h1 := (find_leaf h).1
    unfold findF at h ⊢
    rw [← fdAt_congr (by unfold atX; rw [hi 0 h1])]
    exact h
  | L + 1, t, h => by
    have h1 := (find_leaf h).1
    have e : atX va t (L + 1) = atX b t (L + 1) := by unfold atX; rw [hi (L + 1) h1]
    unfold findF at h ⊢
    rw [← fdAt_congr e, ← e]
    have hk := @find_page (t := ppnX (ldR n S (atX va t (L + 1)) 8)) n S va b x l a hi L
    unfold fdAt at h ⊢
    split at h
    · rename_i h2
      rw [if_pos h2]
      split at h
      · rename_i h3
        rw [if_pos h3]
        split at h
        · rename_i h4
          rw [if_pos h4]
          exact h
        · rename_i h4
          rw [if_neg h4]
          split at h
          · rename_i h5
            rw [if_pos h5]
            exact hk h
          · cases h
      · cases h
    · cases h
end Go.Proofs.Ytmnpakfihfjfiaa
