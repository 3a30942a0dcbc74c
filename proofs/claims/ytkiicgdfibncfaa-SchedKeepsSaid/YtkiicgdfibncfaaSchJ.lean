/- Lists of lists of acts: how they are woven; plain law. -/
import Derived.Test.YtkiicgdfibncfaaSchH
namespace Go.Proofs.Ytkiicgdfibncfaa
open Go.RowKit

def lens (r : List (List A3)) : List Nat := r.map List.length
def tot : List Nat → Nat
  | [] => 0
  | x :: l => x + tot l
/-- In which list a number falls. -/
def pick : List Nat → Nat → Nat
  | [], _ => 0
  | x :: r, n => if n < x then 0 else pick r (n - x) + 1
theorem pick_lt : ∀ (l : List Nat) (n : Nat), n < tot l → pick l n < l.length
  | [], n, h => by simp [tot] at h
  | x :: l, n, h => by
    unfold pick
    split
    · simp
    · have := pick_lt l (n - x) (by simp [tot] at h; omega)
      simp; omega
theorem pick_step (l : List Nat) (k n : Nat) (hk : k < l.length) (h : ¬ n < l.getD k 0) : pick (l.drop k) n = pick (l.drop (k + 1)) (n - l.getD k 0) + 1 := by
  rw [List.drop_eq_getElem_cons hk]
  have : l.getD k 0 = l[k] := by rw [List.getD_eq_getElem?_getD, List.getElem?_eq_getElem hk]; rfl
  rw [this] at h ⊢
  rw [pick, if_neg h]
theorem pick_hit (l : List Nat) (k n : Nat) (hk : k < l.length) (h : n < l.getD k 0) : pick (l.drop k) n = 0 := by
  rw [List.drop_eq_getElem_cons hk]
  have : l.getD k 0 = l[k] := by rw [List.getD_eq_getElem?_getD, List.getElem?_eq_getElem hk]; rfl
  rw [this] at h
  rw [pick, if_pos h]
theorem pick_pos : ∀ (l : List Nat) (n : Nat), n < tot l → 0 < l.getD (pick l n) 0
  | [], n, h => by simp [tot] at h
  | x :: l, n, h => by
    unfold pick
    split
    · rename_i h2
      simpa using (by omega : 0 < x)
    · have := pick_pos l (n - x) (by simp [tot] at h; omega)
      simpa using this
theorem tot_drop (l : List Nat) (k : Nat) (hk : k < l.length) : tot (l.drop k) = l.getD k 0 + tot (l.drop (k + 1)) := by
  rw [List.drop_eq_getElem_cons hk, tot]
  congr 1
  rw [List.getD_eq_getElem?_getD, List.getElem?_eq_getElem hk]; rfl
def subs (r : List (List A3)) (i : Nat) : List A3 := r.getD i []
theorem lens_getD (r : List (List A3)) (i : Nat) : (lens r).getD i 0 = (subs r i).length := by
  unfold lens subs
  rw [List.getD_eq_getElem?_getD, List.getD_eq_getElem?_getD, List.getElem?_map]
  cases r[i]? <;> rfl
theorem tot_set : ∀ (r : List (List A3)) (i : Nat) (x : A3) (t : List A3), subs r i = x :: t → tot (lens (r.set i t)) + 1 = tot (lens r)
  | [], i, x, t, h => by simp [subs] at h
  | a :: r, 0, x, t, h => by
    simp [subs] at h
    subst h
    simp [lens, tot]
    omega
  | a :: r, i + 1, x, t, h => by
    have := tot_set r i x t (by simpa [subs] using h)
    simp only [List.set_cons_succ, lens, List.map_cons, tot] at this ⊢
    omega
/-- The first acts of a list of lists, as the numbers fall. -/
def weave : Nat → List (List A3) → Int → List A3
  | 0, _, _ => []
  | n + 1, r, s =>
    let i := pick (lens r) (intS s (n + 1 : Nat)).toNat
    match subs r i with
    | [] => []
    | x :: t => x :: weave n (r.set i t) (stS s (n + 1 : Nat))
theorem intS_lt (s : Int) (n : Nat) (h : 0 < n) : 0 ≤ intS s n ∧ intS s n < n := by
  unfold intS
  rw [if_neg (by omega)]
  exact ⟨Int.emod_nonneg _ (by omega), Int.emod_lt_of_pos _ (by omega)⟩
theorem weave_step (n : Nat) (r : List (List A3)) (s : Int) (h : tot (lens r) = n + 1) : ∃ x t, subs r (pick (lens r) (intS s (n + 1 : Nat)).toNat) = x :: t ∧
    pick (lens r) (intS s (n + 1 : Nat)).toNat < r.length ∧ weave (n + 1) r s = x :: weave n (r.set (pick (lens r) (intS s (n + 1 : Nat)).toNat) t) (stS s (n + 1 : Nat)) ∧
    tot (lens (r.set (pick (lens r) (intS s (n + 1 : Nat)).toNat) t)) = n := by
  have h1 := intS_lt s (n + 1) (by omega)
  have h2 : (intS s (n + 1 : Nat)).toNat < tot (lens r) := by omega
  have h3 := pick_pos _ _ h2
  have h4 := pick_lt _ _ h2
  rw [lens_getD] at h3
  rw [weave]
  generalize pick (lens r) (intS s (n + 1 : Nat)).toNat = i at *
  cases hx : subs r i with
  | nil => rw [hx] at h3; simp at h3
  | cons x t =>
    have := tot_set r i x t hx
    exact ⟨x, t, rfl, by simpa [lens] using h4, rfl, by omega⟩
theorem weave_len : ∀ (n : Nat) (r : List (List A3)) (s : Int), tot (lens r) = n → (weave n r s).length = n
  | 0, _, _, _ => rfl
  | n + 1, r, s, h => by
    obtain ⟨x, t, _, _, he, ht⟩ := weave_step n r s h
    rw [he, List.length_cons, weave_len n _ _ ht]
end Go.Proofs.Ytkiicgdfibncfaa
