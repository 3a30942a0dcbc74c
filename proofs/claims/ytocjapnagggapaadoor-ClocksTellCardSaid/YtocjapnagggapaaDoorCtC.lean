/- The program's answers are the reference's: the plain law. -/
import Derived.Test.YtocjapnagggapaaDoorCtB
namespace Go.Proofs.YtocjapnagggapaaDoor

section
variable {f : Nat → Fc} {i k n : Nat}
theorem tell_ok (hi : (f i).ok = true) (j : Nat) : tellC f i j = clk f i j := by rw [tell_clk hi]
theorem ahead_anc (hk : k < i) (hi : (f i).ok = true) (ho : (f k).ok = true) : aheadB (ciN (tellC f k)) (ciN (tellC f i)) = true ↔ Anc f i k := by
  have hown := clk_own hk hi ho
  have hni := (Fc.ok_lt hi).1
  have hnk := (Fc.ok_lt ho).1
  unfold aheadB
  rw [Bool.and_eq_true, Bool.not_eq_true']
  constructor
  · rintro ⟨h1, _⟩
    have h := allLe_iff.1 h1 (f k).nd hnk
    by_cases hA : Anc f i k
    · exact hA
    · have h2 := clk_not hk hi ho hA
      simp only [ciN, tell_ok hi, tell_ok ho] at h
      omega
  · intro hA
    refine ⟨allLe_iff.2 (fun j _ => ?_), ?_⟩
    · simp only [ciN, tell_ok hi, tell_ok ho]
      have := (clk_anc hA).1 j
      omega
    · cases he : allEq (ciN (tellC f k)) (ciN (tellC f i)) with
      | false => rfl
      | true =>
        have h := allEq_iff.1 he (f i).nd hni
        simp only [ciN, tell_ok hi, tell_ok ho] at h
        omega
theorem ahead_back (hk : k < i) (hi : (f i).ok = true) (ho : (f k).ok = true) : aheadB (ciN (tellC f i)) (ciN (tellC f k)) = false := by
  have hown := clk_own hk hi ho
  have hni := (Fc.ok_lt hi).1
  unfold aheadB
  cases hl : allLe (ciN (tellC f i)) (ciN (tellC f k)) with
  | false => rfl
  | true =>
    have h := allLe_iff.1 hl (f i).nd hni
    simp only [ciN, tell_ok hi, tell_ok ho] at h
    omega
theorem tell_ne (hk : k < i) (hi : (f i).ok = true) (ho : (f k).ok = true) : allEq (ciN (tellC f i)) (ciN (tellC f k)) = false := by
  have hown := clk_own hk hi ho
  have hni := (Fc.ok_lt hi).1
  cases he : allEq (ciN (tellC f i)) (ciN (tellC f k)) with
  | false => rfl
  | true =>
    have h := allEq_iff.1 he (f i).nd hni
    simp only [ciN, tell_ok hi, tell_ok ho] at h
    omega
theorem besB_anc (hk : k < i) (hn : i < n) : besB f i k = ((f i).ok && (f k).ok && !ancG f n i k) := by
  unfold besB
  cases hi : (f i).ok with
  | false => rfl
  | true =>
    cases ho : (f k).ok with
    | false => rfl
    | true =>
      rw [tell_ne hk hi ho, ahead_back hk hi ho]
      have h1 := ahead_anc hk hi ho
      have h2 := ancG_iff (f := f) n i hn k
      cases ha : aheadB (ciN (tellC f k)) (ciN (tellC f i)) with
      | true =>
        rw [h2.2 (h1.1 ha)]; rfl
      | false =>
        cases hg : ancG f n i k with
        | false => rfl
        | true => rw [h1.2 (h2.1 hg)] at ha; cases ha
theorem chain_anc (hk : k < i) (hn : i < n) (hi : (f i).ok = true) : ((f k).ok && aheadB (ciN (tellC f k)) (ciN (tellC f i))) = ancG f n i k := by
  have h2 := ancG_iff (f := f) n i hn k
  cases hg : ancG f n i k with
  | true =>
    have hA := h2.1 hg
    rw [hA.ok.2, (ahead_anc hk hi hA.ok.2).2 hA]; rfl
  | false =>
    cases ho : (f k).ok with
    | false => rfl
    | true =>
      cases ha : aheadB (ciN (tellC f k)) (ciN (tellC f i)) with
      | false => rfl
      | true => rw [h2.2 ((ahead_anc hk hi ho).1 ha)] at hg; cases hg
end
/-- What the reference counts in a row. -/
def rowN (f : Nat → Fc) (r : Nat → Bool) (i : Nat) (n : Nat) : Nat → Nat
  | 0 => if (f i).ok then one (decide ((f i).nd = n)) else 0
  | k + 1 => rowN f r i n k + (if r k then one (decide ((f k).nd = n)) else 0)
theorem rowN_cnt (f : Nat → Fc) (r : Nat → Bool) (i n : Nat) : ∀ k, rowN f r i n k = (if (f i).ok then one (decide ((f i).nd = n)) else 0) + cnt (fun j => r j && decide ((f j).nd = n)) k
  | 0 => rfl
  | k + 1 => by
    rw [rowN, rowN_cnt f r i n k, cnt]
    cases r k <;> cases decide ((f k).nd = n) <;> simp [one] <;> omega
theorem rowN_tell {f : Nat → Fc} {i n : Nat} (hn : i < n) (m : Nat) : rowN f (ancG f n i) i m n = tellC f i m := by
  have hA := ancG_iff (f := f) n i hn
  rw [rowN_cnt]
  have hfar : cnt (fun j => ancG f n i j && decide ((f j).nd = m)) n = cnt (fun j => ancG f n i j && decide ((f j).nd = m)) i := by
    obtain ⟨d, rfl⟩ : ∃ d, n = i + d := ⟨n - i, by omega⟩
    exact cnt_far d (fun j hj => by
      cases h : ancG f (i + d) i j with
      | false => rfl
      | true => have := ((hA j).1 h).lt; omega)
  rw [hfar]
  cases ho : (f i).ok with
  | true =>
    rw [tell_ok ho, if_pos rfl]
    unfold clk
    rw [Nat.add_comm]
    congr 1
    exact cnt_congr i (fun j _ => bool_ext (by
      rw [ancN_iff, Bool.and_eq_true, hA j, decide_eq_true_iff]))
  | false =>
    rw [if_neg (by decide), Nat.zero_add]
    unfold tellC
    rw [if_neg (by rw [ho]; decide)]
    have : ∀ j, j < i → (ancG f n i j && decide ((f j).nd = m)) = false := fun j _ => by
      cases h : ancG f n i j with
      | false => rfl
      | true => have := ((hA j).1 h).ok.1; rw [ho] at this; cases this
    have h0 := cnt_congr (Q := fun _ => false) i this
    rw [h0]
    have : ∀ k, cnt (fun _ => false) k = 0 := fun k => by
      induction k with
      | zero => rfl
      | succ k ih => rw [cnt, ih]; rfl
    exact this i
end Go.Proofs.YtocjapnagggapaaDoor
