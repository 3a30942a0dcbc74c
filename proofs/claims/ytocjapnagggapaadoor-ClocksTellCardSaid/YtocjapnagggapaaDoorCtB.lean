/- The reference's rows: the plain law. -/
import Derived.Test.YtocjapnagggapaaDoorCtA
namespace Go.Proofs.YtocjapnagggapaaDoor

def predB (a b : Fc) : Bool := b.ok && (b.node == a.node || meetB a b)
theorem predB_iff {a b : Fc} (ha : a.ok = true) : predB a b = true ↔ Pred a b := by
  unfold predB Pred
  rw [Bool.and_eq_true, Bool.or_eq_true, beq_iff_eq, meetB_iff]
  exact ⟨fun h => ⟨ha, h.1, h.2⟩, fun h => ⟨h.2.1, h.2.2⟩⟩
/-- Fact i's row when the facts ahead of k have been gone over; g: the rows that are there. -/
def ancK (f : Nat → Fc) (i : Nat) (g : Nat → Nat → Bool) : Nat → Nat → Bool
  | 0 => fun _ => false
  | k + 1 => if predB (f i) (f k) then fun j => if j = k then true else if j < k then ancK f i g k j || g k j else ancK f i g k j else ancK f i g k
def ancG (f : Nat → Fc) : Nat → Nat → Nat → Bool
  | 0 => fun _ _ => false
  | i + 1 => fun j => if j = i then (if (f i).ok then ancK f i (ancG f i) i else fun _ => false) else ancG f i j
theorem ancK_iff {f : Nat → Fc} {i : Nat} {g : Nat → Nat → Bool} (hi : (f i).ok = true) (hg : ∀ k, k < i → ∀ j, g k j = true ↔ Anc f k j) : ∀ m, m ≤ i → ∀ j, ancK f i g m j = true ↔ ∃ k, k < m ∧ Pred (f i) (f k) ∧ (j = k ∨ Anc f k j)
  | 0, _, j => ⟨fun h => by simp [ancK] at h, fun ⟨k, hk, _⟩ => by omega⟩
  | m + 1, hm, j => by
    have ih := ancK_iff hi hg m (by omega)
    unfold ancK
    cases hp : predB (f i) (f m) with
    | false =>
      rw [if_neg (by decide)]
      rw [ih j]
      constructor
      · rintro ⟨k, hk, h1, h2⟩; exact ⟨k, by omega, h1, h2⟩
      · rintro ⟨k, hk, h1, h2⟩
        rcases Nat.lt_or_ge k m with h | h
        · exact ⟨k, h, h1, h2⟩
        · have : k = m := by omega
          subst this
          rw [(predB_iff hi).2 h1] at hp
          cases hp
    | true =>
      rw [if_pos rfl]
      have hP := (predB_iff hi).1 hp
      by_cases e : j = m
      · simp only [if_pos e]
        exact ⟨fun _ => ⟨m, by omega, hP, .inl e⟩, fun _ => trivial⟩
      · simp only [if_neg e]
        by_cases hl : j < m
        · rw [if_pos hl, Bool.or_eq_true, ih j, hg m (by omega) j]
          constructor
          · rintro (⟨k, hk, h1, h2⟩ | h)
            · exact ⟨k, by omega, h1, h2⟩
            · exact ⟨m, by omega, hP, .inr h⟩
          · rintro ⟨k, hk, h1, h2⟩
            rcases Nat.lt_or_ge k m with h | h
            · exact .inl ⟨k, h, h1, h2⟩
            · have : k = m := by omega
              subst this
              rcases h2 with h2 | h2
              · exact absurd h2 e
              · exact .inr h2
        · rw [if_neg hl, ih j]
          constructor
          · rintro ⟨k, hk, h1, h2⟩; exact ⟨k, by omega, h1, h2⟩
          · rintro ⟨k, hk, h1, h2⟩
            rcases Nat.lt_or_ge k m with h | h
            · exact ⟨k, h, h1, h2⟩
            · have : k = m := by omega
              subst this
              rcases h2 with h2 | h2
              · exact absurd h2 e
              · have := h2.lt; omega
theorem ancG_iff {f : Nat → Fc} : ∀ (n i : Nat), i < n → ∀ j, ancG f n i j = true ↔ Anc f i j
  | n + 1, i, hi, j => by
    unfold ancG
    by_cases e : i = n
    · subst e
      simp only [if_true]
      cases ho : (f i).ok with
      | false =>
        rw [if_neg (by decide)]
        exact ⟨fun h => (by cases h), fun h => by have := h.ok.1; rw [ho] at this; cases this⟩
      | true =>
        rw [if_pos rfl, ancK_iff ho (fun k hk j => ancG_iff i k hk j) i (Nat.le_refl _) j]
        constructor
        · rintro ⟨k, hk, h1, rfl | h2⟩
          · exact .base hk h1
          · exact .step hk h1 h2
        · exact fun h => h.via
    · simp only [if_neg e]
      exact ancG_iff n i (by omega) j
end Go.Proofs.YtocjapnagggapaaDoor
