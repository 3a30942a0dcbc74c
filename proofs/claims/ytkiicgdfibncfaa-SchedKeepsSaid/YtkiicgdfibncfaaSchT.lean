/- What is split and woven again; plain law. -/
import Derived.Test.YtkiicgdfibncfaaSchM
import Derived.Test.YtkiicgdfibncfaaSchN
namespace Go.Proofs.Ytkiicgdfibncfaa
open Go.RowKit

theorem tot_append (a b : List Nat) : tot (a ++ b) = tot a + tot b := by
  induction a with
  | nil => simp [tot]
  | cons x a ih => simp only [List.cons_append, tot, ih]; omega
theorem tot_ite (a b : Nat) (f : Nat → Nat) : ∀ n, tot ((List.range n).map (fun i => f i + if a = i then b else 0)) = tot ((List.range n).map f) + if a < n then b else 0
  | 0 => by simp [tot]
  | n + 1 => by
    rw [List.range_succ, List.map_append, List.map_append, tot_append, tot_append, tot_ite a b f n]
    simp only [List.map_cons, List.map_nil, tot]
    by_cases h1 : a < n
    · rw [if_pos h1, if_neg (by omega), if_pos (by omega)]; omega
    · by_cases h2 : a = n
      · rw [if_neg h1, if_pos h2, if_pos (by omega)]; omega
      · rw [if_neg h1, if_neg h2, if_neg (by omega)]; omega
theorem snoc_ind {α : Type} (P : List α → Prop) (h0 : P []) (h1 : ∀ l x, P l → P (l ++ [x])) : ∀ l, P l := fun l => by
  have : ∀ n (l : List α), l.length = n → P l := by
    intro n
    induction n with
    | zero => intro l hl; rw [List.eq_nil_of_length_eq_zero hl]; exact h0
    | succ n ih =>
      intro l hl
      rcases List.eq_nil_or_concat l with rfl | ⟨m, x, rfl⟩
      · simp at hl
      · rw [List.concat_eq_append] at hl ⊢
        exact h1 m x (ih m (by simpa using hl))
  exact this _ l rfl
theorem lens_split (n : Nat) (l : List A3) : lens (splitL n l) = (List.range (n + 1)).map (fun i => (part n l i).length) := by simp [lens, splitL]
theorem tot_split (n : Nat) : ∀ l, tot (lens (splitL n l)) = l.length := by
  refine snoc_ind _ ?_ ?_
  · rw [lens_split]
    have : ∀ m, tot ((List.range m).map (fun i => (part n [] i).length)) = 0 := by
      intro m
      induction m with
      | zero => rfl
      | succ m ih => rw [List.range_succ, List.map_append, tot_append, ih]; simp [part, tot]
    exact this _
  · intro l x ih
    rw [lens_split] at ih ⊢
    have e : (fun i => (part n (l ++ [x]) i).length) = fun i => (part n l i).length + if idx n x = i then 1 else 0 := by
      funext i
      rw [part_snoc]
      split <;> simp
    rw [e, tot_ite, ih, if_pos (by have := idx_le n x; omega)]
    simp
/-- How many of a kind in all lists. -/
def cntL (r : List (List A3)) (k : Nat) : Nat := tot (r.map (fun l => cnt l k))
theorem cnt_cons (x : A3) (l : List A3) (k : Nat) : cnt (x :: l) k = (if x.1 = (k : Int) then 1 else 0) + cnt l k := by
  unfold cnt
  by_cases h : x.1 = (k : Int)
  · simp [h]; omega
  · simp [h]
theorem cntL_split (n k : Nat) : ∀ l, cntL (splitL n l) k = cnt l k := by
  refine snoc_ind _ ?_ ?_
  · unfold cntL splitL
    rw [List.map_map]
    have : ∀ m, tot ((List.range m).map ((fun l => cnt l k) ∘ part n [])) = 0 := by
      intro m
      induction m with
      | zero => rfl
      | succ m ih => rw [List.range_succ, List.map_append, tot_append, ih]; simp [part, tot, cnt]
    exact this _
  · intro l x ih
    unfold cntL splitL at ih ⊢
    rw [List.map_map] at ih ⊢
    have e : ((fun l => cnt l k) ∘ part n (l ++ [x])) = fun i => ((fun l => cnt l k) ∘ part n l) i + if idx n x = i then (if x.1 = (k : Int) then 1 else 0) else 0 := by
      funext i
      simp only [Function.comp]
      rw [part_snoc]
      by_cases h : idx n x = i
      · rw [if_pos h, if_pos h, cnt_snoc]
      · rw [if_neg h, if_neg h]; rfl
    rw [e, tot_ite, ih, cnt_snoc, if_pos (by have := idx_le n x; omega)]
theorem cntL_set (k : Nat) : ∀ (r : List (List A3)) (i : Nat) (x : A3) (t : List A3), subs r i = x :: t → cntL (r.set i t) k + (if x.1 = (k : Int) then 1 else 0) = cntL r k
  | [], i, x, t, h => by simp [subs] at h
  | a :: r, 0, x, t, h => by
    simp [subs] at h
    subst h
    simp only [List.set_cons_zero, cntL, List.map_cons, tot, cnt_cons]
    omega
  | a :: r, i + 1, x, t, h => by
    have := cntL_set k r i x t (by simpa [subs] using h)
    simp only [List.set_cons_succ, cntL, List.map_cons, tot] at this ⊢
    omega
theorem cntL_zero (k : Nat) : ∀ r, tot (lens r) = 0 → cntL r k = 0
  | [], _ => rfl
  | a :: r, h => by
    simp only [lens, List.map_cons, tot] at h
    have := cntL_zero k r (by simp only [lens]; omega)
    simp only [cntL, List.map_cons, tot] at this ⊢
    have := cnt_le a k
    omega
theorem weave_cnt (k : Nat) : ∀ (n : Nat) (r : List (List A3)) (s : Int), tot (lens r) = n → cnt (weave n r s) k = cntL r k
  | 0, r, s, h => by rw [cntL_zero k r h]; rfl
  | n + 1, r, s, h => by
    obtain ⟨x, t, hx, _, he, ht⟩ := weave_step n r s h
    rw [he, cnt_cons, weave_cnt k n _ _ ht, ← cntL_set k r _ x t hx]
    omega
theorem cntA_weave (n : Nat) (l : List A3) (s : Int) : cntA (weave l.length (splitL n l) s) = cntA l := by
  unfold cntA
  have e : ∀ k, cnt (weave l.length (splitL n l) s) k = cnt l k := fun k => by rw [weave_cnt k _ _ _ (tot_split n l), cntL_split]
  rw [e, e, e, e, e, e, e]
theorem subs_set (r : List (List A3)) (i j : Nat) (t : List A3) (hi : i < r.length) : subs (r.set i t) j = if i = j then t else subs r j := by
  unfold subs
  by_cases h : i = j
  · subst h
    rw [if_pos rfl, List.getD_eq_getElem?_getD, List.getElem?_set_self hi]; rfl
  · rw [if_neg h, List.getD_eq_getElem?_getD, List.getElem?_set_ne h, ← List.getD_eq_getElem?_getD]
theorem sub_tot : ∀ (r : List (List A3)) (k : Nat), (subs r k).length ≤ tot (lens r)
  | [], k => by simp [subs]
  | a :: r, 0 => by simp [subs, lens, tot]
  | a :: r, k + 1 => by
    have := sub_tot r k
    have e : subs (a :: r) (k + 1) = subs r k := rfl
    rw [e]
    simp only [lens, List.map_cons, tot] at this ⊢
    omega
theorem part_cons (m : Nat) (x : A3) (l : List A3) (i : Nat) : part m (x :: l) i = if idx m x = i then x :: part m l i else part m l i := by
  unfold part
  by_cases h : idx m x = i
  · simp [h]
  · simp [h]
theorem part_weave (m : Nat) : ∀ (n : Nat) (r : List (List A3)) (s : Int), tot (lens r) = n → (∀ i x, x ∈ subs r i → idx m x = i) → ∀ i, part m (weave n r s) i = subs r i
  | 0, r, s, h, _, i => by
    have := sub_tot r i
    rw [List.eq_nil_of_length_eq_zero (show (subs r i).length = 0 by omega)]
    rfl
  | n + 1, r, s, h, hi, i => by
    obtain ⟨x, t, hx, hI, he, ht⟩ := weave_step n r s h
    generalize pick (lens r) (intS s (n + 1 : Nat)).toNat = I at *
    have hxi : idx m x = I := hi I x (by rw [hx]; exact List.mem_cons_self ..)
    rw [he, part_cons, part_weave m n _ _ ht (fun j y hy => ?_) i, hxi, subs_set _ _ _ _ hI]
    · by_cases hII : I = i
      · subst hII
        rw [if_pos rfl, if_pos rfl, hx]
      · rw [if_neg hII, if_neg hII]
    · rw [subs_set _ _ _ _ hI] at hy
      by_cases hIj : I = j
      · subst hIj
        rw [if_pos rfl] at hy
        exact hi I y (by rw [hx]; exact List.mem_cons_of_mem _ hy)
      · rw [if_neg hIj] at hy
        exact hi j y hy
theorem subs_out (n : Nat) (l : List A3) (i : Nat) (hi : n < i) : subs (splitL n l) i = [] := by
  unfold subs splitL
  rw [List.getD_eq_getElem?_getD, List.getElem?_eq_none (by simp; omega)]
  rfl
theorem part_mem (n : Nat) (l : List A3) (i : Nat) (x : A3) (h : x ∈ part n l i) : idx n x = i := by
  unfold part at h
  have := (List.mem_filter.1 h).2
  simpa using this
theorem part_again (n : Nat) (l : List A3) (s : Int) (i : Nat) (hi : i ≤ n) : part n (weave l.length (splitL n l) s) i = part n l i := by
  rw [part_weave n _ _ _ (tot_split n l) (fun j x hx => ?_) i, subs_split n l i hi]
  rcases Nat.lt_or_ge n j with h | h
  · rw [subs_out n l j h] at hx
    cases hx
  · rw [subs_split n l j h] at hx
    exact part_mem n l j x hx
theorem part_has (n : Nat) (l : List A3) (i : Nat) (hi : i < n) (x : A3) (h : x ∈ part n l i) : x.1 = 0 ∧ x.2.1 = (i : Int) := by
  have := part_mem n l i x h
  unfold idx at this
  split at this
  · rename_i h2; exact ⟨h2.1, by omega⟩
  · omega
end Go.Proofs.Ytkiicgdfibncfaa
