/- The plain law: pages set and read, words read. -/
import Derived.Test.YtgdebfpepbomiaaPhyP
namespace Go.Proofs.Ytgdebfpepbomiaa
open Go.RowKit

theorem adP_all (L : List (Nat × Nat)) (f n : Nat) (l : List Nat) (hf : f < n) (hl : l.length ≤ 4096) (hb : ∀ i, l.getD i 0 < 256) (h : (L.map (·.1)).Nodup) (h1 : ∀ x ∈ L, x.1 < 4096 * n) (h2 : ∀ x ∈ L, x.2 < 256) : ∀ j, j ≤ 4096 →
    ((adP f l (outP L f) j).map (·.1)).Nodup ∧ (∀ x ∈ adP f l (outP L f) j, x.1 < 4096 * n ∧ x.2 < 256) ∧ (∀ x ∈ adP f l (outP L f) j, x.1 / 4096 = f → x.1 % 4096 < j) ∧
    ∀ a', getB (adP f l (outP L f) j) a' = if a' / 4096 = f then (if a' % 4096 < j then l.getD (a' % 4096) 0 else 0) else getB L a'
  | 0, _ => by
    refine ⟨by rw [adP, outP_keys]; exact h.filter _, fun x hx => ⟨h1 x (List.mem_filter.1 hx).1, h2 x (List.mem_filter.1 hx).1⟩, fun x hx e => ?_, fun a' => ?_⟩
    · have := (List.mem_filter.1 hx).2
      simp [e] at this
    · rw [adP, outP_get]
      by_cases e : a' / 4096 = f
      · rw [if_pos e, if_neg (by simp [e]), if_neg (by omega)]
      · rw [if_neg e, if_pos (by simp [e])]
  | j + 1, hj => by
    obtain ⟨i1, i2, i4, i3⟩ := adP_all L f n l hf hl hb h h1 h2 j (by omega)
    have hfn : 4096 * (f + 1) ≤ 4096 * n := Nat.mul_le_mul_left _ hf
    rw [adP]
    generalize adP f l (outP L f) j = M at *
    by_cases h0 : l.getD j 0 = 0
    · rw [if_pos h0, List.append_nil]
      refine ⟨i1, i2, fun x hx e => by have := i4 x hx e; omega, fun a' => ?_⟩
      rw [i3]
      by_cases e : a' / 4096 = f
      · rw [if_pos e, if_pos e]
        by_cases e2 : a' % 4096 < j
        · rw [if_pos e2, if_pos (by omega)]
        · rw [if_neg e2]
          by_cases e3 : a' % 4096 = j
          · rw [if_pos (by omega), e3, h0]
          · rw [if_neg (by omega)]
      · rw [if_neg e, if_neg e]
    · rw [if_neg h0]
      have hnew : 4096 * f + j ∉ M.map (·.1) := fun hx => by
        obtain ⟨x, hx, e⟩ := List.mem_map.1 hx
        have := i4 x hx (by omega)
        omega
      refine ⟨?_, fun x hx => ?_, fun x hx e => ?_, fun a' => ?_⟩
      · rw [List.map_append]
        refine List.nodup_append.2 ⟨i1, by simp, fun x hx y hy e => ?_⟩
        subst e
        simp at hy
        subst hy
        exact hnew hx
      · rcases List.mem_append.1 hx with hx | hx
        · exact i2 x hx
        · simp at hx
          subst hx
          exact ⟨by show 4096 * f + j < _; omega, hb j⟩
      · rcases List.mem_append.1 hx with hx | hx
        · have := i4 x hx e; omega
        · simp at hx
          subst hx
          show (4096 * f + j) % 4096 < _
          omega
      · rw [getB_append, i3]
        by_cases e0 : a' = 4096 * f + j
        · subst e0
          rw [if_neg hnew, getB_cons, if_pos rfl, if_pos (by omega), if_pos (by omega), show (4096 * f + j) % 4096 = j by omega]
        · by_cases hm : a' ∈ M.map (·.1)
          · rw [if_pos hm]
            by_cases e : a' / 4096 = f
            · rw [if_pos e, if_pos e]
              by_cases e2 : a' % 4096 < j
              · rw [if_pos e2, if_pos (by omega)]
              · rw [if_neg e2, if_neg (by omega)]
            · rw [if_neg e, if_neg e]
          · have hz := i3 a'
            rw [getB_out hm] at hz
            rw [if_neg hm, getB_cons, if_neg (fun e => e0 e.symm), getB_nil]
            by_cases e : a' / 4096 = f
            · rw [if_pos e] at hz ⊢
              by_cases e2 : a' % 4096 < j
              · rw [if_pos e2] at hz; rw [if_pos (by omega)]; exact hz
              · rw [if_neg (by omega)]
            · rw [if_neg e] at hz ⊢; exact hz
theorem headL_get (l : List Nat) (i : Nat) : (headL l).getD i 0 = if i < l.length then l.getD i 0 else 0 := by
  unfold headL
  rw [List.getD_eq_getElem?_getD]
  by_cases hi : i < l.length
  · rw [List.getElem?_append_left hi, if_pos hi, ← List.getD_eq_getElem?_getD]
  · rw [List.getElem?_append_right (by omega), List.getElem?_drop, ← List.getD_eq_getElem?_getD, zeroL_get, if_neg hi]
theorem Rel.set {n : Nat} {L : List (Nat × Nat)} {S : Nat → List Nat} (h : Rel n L S) (f : Nat) (l : List Nat) (hf : f < n) (hl : l.length ≤ 4096) (hb : ∀ i, l.getD i 0 < 256) : Rel n (setE L f l) (updS S f (headL l)) := by
  obtain ⟨i1, i2, _, i3⟩ := adP_all L f n l hf hl hb h.nd h.lt h.b l.length hl
  refine ⟨i1, fun x hx => (i2 x hx).1, fun x hx => (i2 x hx).2, fun k hk i hi => ?_, fun k => ?_⟩
  · show getB (adP f l (outP L f) l.length) _ = _
    rw [i3]
    unfold updS
    by_cases e : k = f
    · rw [if_pos e, if_pos (by omega), headL_get, show (4096 * k + i) % 4096 = i by omega]
    · rw [if_neg e, if_neg (by omega), h.eq k hk i hi]
  · unfold updS
    split
    · exact headL_length hl
    · exact h.len k
theorem getD_set (l : List Nat) (j y i : Nat) (hi : i < l.length) : (l.set j y).getD i 0 = if j = i then y else l.getD i 0 := by
  rw [List.getD_eq_getElem?_getD, List.getElem?_set]
  by_cases e : j = i
  · rw [if_pos e, if_pos e, if_pos (by omega)]; rfl
  · rw [if_neg e, if_neg e, List.getD_eq_getElem?_getD]
theorem pgF_get (f : Nat) : ∀ (L : List (Nat × Nat)) (l : List Nat), (L.map (·.1)).Nodup → l.length = 4096 → ∀ i, i < 4096 → (pgF f l L).getD i 0 = if 4096 * f + i ∈ L.map (·.1) then getB L (4096 * f + i) else l.getD i 0
  | [], l, _, _, i, _ => by rw [if_neg (by simp)]; rfl
  | x :: r, l, h, hl, i, hi => by
    have hn := List.nodup_cons.1 (show (x.1 :: r.map (·.1)).Nodup from h)
    rw [pgF, pgF_get f r _ hn.2 (by split; rw [List.length_set]; exact hl; exact hl) i hi, getB_cons]
    by_cases e : x.1 = 4096 * f + i
    · rw [if_neg (by rw [← e]; exact hn.1), if_pos (show 4096 * f + i ∈ List.map (fun x => x.1) (x :: r) by rw [← e]; exact List.mem_cons_self), if_pos e, if_pos (by omega), getD_set _ _ _ _ (by omega), if_pos (by omega)]
    · rw [if_neg e]
      by_cases hm : 4096 * f + i ∈ r.map (·.1)
      · rw [if_pos hm, if_pos (show 4096 * f + i ∈ List.map (fun x => x.1) (x :: r) from List.mem_cons_of_mem _ hm)]
      · rw [if_neg hm, if_neg (show 4096 * f + i ∉ List.map (fun x => x.1) (x :: r) from fun hx => by
          rcases List.mem_cons.1 (show 4096 * f + i ∈ x.1 :: r.map (·.1) from hx) with hx | hx
          · exact e hx.symm
          · exact hm hx)]
        split
        · rw [getD_set _ _ _ _ (by omega), if_neg (by omega)]
        · rfl
theorem list_ext_getD {l m : List Nat} (h : l.length = m.length) (he : ∀ i, i < l.length → l.getD i 0 = m.getD i 0) : l = m := by
  apply List.ext_getElem h
  intro i h1 h2
  have := he i h1
  rwa [List.getD_eq_getElem?_getD, List.getD_eq_getElem?_getD, List.getElem?_eq_getElem h1, List.getElem?_eq_getElem h2] at this
theorem Rel.page {n : Nat} {L : List (Nat × Nat)} {S : Nat → List Nat} (h : Rel n L S) (f : Nat) (hf : f < n) : pgF f zeroL L = S f := by
  apply list_ext_getD
  · rw [pgF_length, zero_len, h.len]
  · intro i hi
    rw [pgF_length, zero_len] at hi
    rw [pgF_get f L zeroL h.nd zero_len i hi, ← h.eq f hf i hi]
    split
    · rfl
    · rename_i hm
      rw [zeroL_get, getB_out hm]
theorem Rel.load {n : Nat} {L : List (Nat × Nat)} {S : Nat → List Nat} (h : Rel n L S) (a : Nat) (s : Int) : ldE n L a s = ldR n S a s := by
  unfold ldE ldR
  by_cases h0 : chkE n a s = 0
  · rw [if_pos h0, if_pos h0]
    obtain ⟨o1, o2⟩ := chk_ok h0
    obtain ⟨hs, ht⟩ := in_pg o1
    have hq := there_of ht
    have hfit : a % 4096 + s.toNat ≤ 4096 := by
      have h3 := hq.2.2.2
      have := size_cases hq.1
      omega
    have hdm := Nat.div_add_mod a 4096
    unfold rdV ldV getV
    congr 1
    apply list_ext_getD
    · rw [List.length_map, List.length_range, List.length_take, List.length_drop, h.len, Int.toNat_natCast]
      omega
    · intro i hi
      rw [List.length_map, List.length_range] at hi
      rw [List.getD_eq_getElem?_getD, List.getElem?_map, List.getElem?_range hi, List.getD_eq_getElem?_getD, List.getElem?_take, if_pos (by omega), List.getElem?_drop, Int.toNat_natCast, ← List.getD_eq_getElem?_getD]
      show getB L (a + 0 + i) = _
      rw [show a + 0 + i = 4096 * (a / 4096) + (a % 4096 + i) by omega]
      exact h.eq _ o2 _ (by omega)
  · rw [if_neg h0, if_neg h0]
end Go.Proofs.Ytgdebfpepbomiaa
