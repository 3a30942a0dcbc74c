/- The plain law: the reference's list says what the pages hold. -/
import Derived.Test.YtmnpakfihfjfiaaPhyM
namespace Go.Proofs.Ytmnpakfihfjfiaa
open Go.RowKit

structure Rel (n : Nat) (L : List (Nat × Nat)) (S : Nat → List Nat) : Prop where
  nd : (L.map (·.1)).Nodup
  lt : ∀ x ∈ L, x.1 < 4096 * n
  b : ∀ x ∈ L, x.2 < 256
  eq : ∀ k, k < n → ∀ i, i < 4096 → getB L (4096 * k + i) = (S k).getD i 0
  len : ∀ k, (S k).length = 4096
theorem Rel.empty (n : Nat) : Rel n [] emptyS := ⟨by simp, fun x h => by simp at h, fun x h => by simp at h, fun k _ i _ => by show 0 = zeroL.getD i 0; rw [zeroL_get], fun _ => zero_len⟩
theorem Rel.short {n : Nat} {L : List (Nat × Nat)} {S : Nat → List Nat} (h : Rel n L S) : L.length ≤ 4096 * n := by
  have := nodup_len (4096 * n) (L.map (·.1)) h.nd (fun k hk => by
    obtain ⟨x, hx, rfl⟩ := List.mem_map.1 hk
    exact h.lt x hx)
  simpa using this
theorem getB_nil (a : Nat) : getB [] a = 0 := rfl
theorem getB_cons (x : Nat × Nat) (r : List (Nat × Nat)) (a : Nat) : getB (x :: r) a = if x.1 = a then x.2 else getB r a := by
  unfold getB
  rw [List.find?_cons]
  by_cases h : x.1 = a
  · rw [if_pos h, show (x.1 == a) = true by simp [h]]
  · rw [if_neg h, show (x.1 == a) = false by simp [h]]
theorem getB_out {L : List (Nat × Nat)} {a : Nat} (h : a ∉ L.map (·.1)) : getB L a = 0 := by
  induction L with
  | nil => rfl
  | cons x r ih =>
    simp only [List.map_cons, List.mem_cons, not_or] at h
    rw [getB_cons, if_neg (fun e => h.1 e.symm), ih h.2]
theorem getB_append (L M : List (Nat × Nat)) (a : Nat) : getB (L ++ M) a = if a ∈ L.map (·.1) then getB L a else getB M a := by
  induction L with
  | nil => simp
  | cons x r ih =>
    rw [List.cons_append, getB_cons, getB_cons, ih]
    by_cases h : x.1 = a
    · simp [h]
    · rw [if_neg h, if_neg h]
      by_cases h2 : a ∈ r.map (·.1)
      · rw [if_pos h2, if_pos (show a ∈ List.map (fun x => x.1) (x :: r) from List.mem_cons_of_mem _ h2)]
      · rw [if_neg h2, if_neg (by simp only [List.map_cons, List.mem_cons, not_or]; exact ⟨fun e => h e.symm, h2⟩)]
theorem getB_filter (p : Nat → Bool) (L : List (Nat × Nat)) (a : Nat) : getB (L.filter (fun x => p x.1)) a = if p a then getB L a else 0 := by
  induction L with
  | nil => simp [getB_nil]
  | cons x r ih =>
    rw [List.filter_cons, getB_cons]
    by_cases hp : p x.1 = true
    · rw [if_pos hp, getB_cons, ih]
      by_cases h : x.1 = a
      · subst h; rw [if_pos rfl, if_pos rfl, if_pos hp]
      · rw [if_neg h, if_neg h]
    · rw [if_neg hp, ih]
      by_cases h : x.1 = a
      · subst h; rw [if_neg hp, if_neg hp]
      · rw [if_neg h]
theorem keys_filter (p : Nat → Bool) (L : List (Nat × Nat)) : (L.filter (fun x => p x.1)).map (·.1) = (L.map (·.1)).filter p := by
  induction L with
  | nil => rfl
  | cons x r ih =>
    rw [List.filter_cons, List.map_cons, List.filter_cons]
    split <;> simp_all
theorem outB_keys (L : List (Nat × Nat)) (a : Nat) : (outB L a).map (·.1) = (L.map (·.1)).filter (fun k => k != a) := keys_filter (fun k => k != a) L
theorem outB_get (L : List (Nat × Nat)) (a a' : Nat) : getB (outB L a) a' = if (a' != a) = true then getB L a' else 0 := getB_filter (fun k => k != a) L a'
theorem getB_put (L : List (Nat × Nat)) (a b a' : Nat) : getB (putB L a b) a' = if a' = a then b else getB L a' := by
  unfold putB
  rw [getB_append, outB_keys, outB_get]
  by_cases h : a' = a
  · subst h
    rw [if_pos rfl, if_neg (by simp)]
    split
    · rename_i h0; rw [h0]; rfl
    · rw [getB_cons, if_pos rfl]
  · rw [if_neg h, if_pos (show (a' != a) = true by simp [h])]
    by_cases hm : a' ∈ L.map (·.1)
    · rw [if_pos (List.mem_filter.2 ⟨hm, by simp [h]⟩)]
    · rw [if_neg (fun hx => hm (List.mem_filter.1 hx).1), getB_out hm]
      split
      · rfl
      · rw [getB_cons, if_neg (fun e => h e.symm)]; rfl
theorem put_keys {L : List (Nat × Nat)} {a b : Nat} (h : (L.map (·.1)).Nodup) : ((putB L a b).map (·.1)).Nodup := by
  unfold putB
  rw [List.map_append, outB_keys]
  refine List.nodup_append.2 ⟨h.filter _, by split <;> simp, fun x hx y hy e => ?_⟩
  subst e
  have := (List.mem_filter.1 hx).2
  split at hy
  · simp at hy
  · simp at hy; subst hy; simp at this
theorem put_mem {L : List (Nat × Nat)} {a b : Nat} {x : Nat × Nat} (h : x ∈ putB L a b) : x ∈ L ∨ x = (a, b) := by
  unfold putB at h
  rcases List.mem_append.1 h with h | h
  · exact .inl (List.mem_filter.1 h).1
  · split at h
    · simp at h
    · simp at h; exact .inr h
theorem stB_all (L : List (Nat × Nat)) (a v n : Nat) (h : (L.map (·.1)).Nodup) (hl : ∀ x ∈ L, x.1 < 4096 * n) (hb : ∀ x ∈ L, x.2 < 256) : ∀ k, a + k ≤ 4096 * n →
    ((stB L a v k).map (·.1)).Nodup ∧ (∀ x ∈ stB L a v k, x.1 < 4096 * n ∧ x.2 < 256) ∧ ∀ a', getB (stB L a v k) a' = if a ≤ a' ∧ a' < a + k then byteOf v (a' - a) else getB L a'
  | 0, _ => ⟨h, fun x hx => ⟨hl x hx, hb x hx⟩, fun a' => by rw [if_neg (by omega)]; rfl⟩
  | k + 1, hk => by
    obtain ⟨i1, i2, i3⟩ := stB_all L a v n h hl hb k (by omega)
    refine ⟨put_keys i1, fun x hx => ?_, fun a' => ?_⟩
    · rcases put_mem hx with hx | rfl
      · exact i2 x hx
      · exact ⟨by show a + k < _; omega, Nat.mod_lt _ (by decide)⟩
    · show getB (putB (stB L a v k) (a + k) (byteOf v k)) a' = _
      rw [getB_put, i3]
      by_cases e : a' = a + k
      · rw [if_pos e, if_pos (by omega), e, Nat.add_sub_cancel_left]
      · rw [if_neg e]
        by_cases e2 : a ≤ a' ∧ a' < a + k
        · rw [if_pos e2, if_pos (by omega)]
        · rw [if_neg e2, if_neg (by omega)]
theorem Rel.store {n : Nat} {L : List (Nat × Nat)} {S : Nat → List Nat} (h : Rel n L S) (a : Nat) (s : Int) (v : Nat) : Rel n (stE n L a s v) (stR n S a s v) := by
  unfold stE stR
  by_cases h0 : chkE n a s = 0
  · rw [if_pos h0, if_pos h0]
    obtain ⟨o1, o2⟩ := chk_ok h0
    obtain ⟨hs, ht⟩ := in_pg o1
    have hq := there_of ht
    have hfit : a % 4096 + s.toNat ≤ 4096 := by
      have h3 := hq.2.2.2
      have := size_cases hq.1
      omega
    have hdm := Nat.div_add_mod a 4096
    obtain ⟨i1, i2, i3⟩ := stB_all L a v n h.nd h.lt h.b s.toNat (by
      have : 4096 * (a / 4096 + 1) ≤ 4096 * n := Nat.mul_le_mul_left _ o2
      omega)
    refine ⟨i1, fun x hx => (i2 x hx).1, fun x hx => (i2 x hx).2, fun k hk i hi => ?_, fun k => ?_⟩
    · rw [i3]
      unfold stS updS
      by_cases e : k = a / 4096
      · rw [if_pos e, putL_get _ _ _ _ _ hi]
        by_cases e2 : a % 4096 ≤ i ∧ i < a % 4096 + s.toNat
        · rw [if_pos e2, if_pos (by omega), show 4096 * k + i - a = i - a % 4096 by omega]
        · rw [if_neg e2, if_neg (by omega), h.eq k hk i hi, e]
      · rw [if_neg e, if_neg (by
          intro h1
          apply e
          omega), h.eq k hk i hi]
    · unfold stS updS
      split
      · exact putL_length _ _ _ _
      · exact h.len k
  · rw [if_neg h0, if_neg h0]
    exact h
end Go.Proofs.Ytmnpakfihfjfiaa
