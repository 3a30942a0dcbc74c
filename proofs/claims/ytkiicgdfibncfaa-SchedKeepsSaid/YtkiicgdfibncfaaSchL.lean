/- The reference's Weave; plain law. -/
import Derived.Test.YtkiicgdfibncfaaSchK
namespace Go.Proofs.Ytkiicgdfibncfaa
open Go.RowKit

def ofR : List Nat → Nat → List Nat
  | [], _ => []
  | x :: r, b => List.replicate x b ++ ofR r (b + 1)
theorem ofR_len : ∀ (l : List Nat) (b : Nat), (ofR l b).length = tot l
  | [], _ => rfl
  | x :: r, b => by simp [ofR, tot, ofR_len r (b + 1)]
theorem ofR_get : ∀ (l : List Nat) (b n : Nat), n < tot l → (ofR l b)[n]? = some (b + pick l n)
  | [], b, n, h => by simp [tot] at h
  | x :: r, b, n, h => by
    unfold ofR pick
    split
    · rename_i hx
      rw [List.getElem?_append_left (by simpa using hx), List.getElem?_replicate, if_pos hx]
      rfl
    · rename_i hx
      rw [List.getElem?_append_right (by simp; omega), List.length_replicate, ofR_get r (b + 1) (n - x) (by simp [tot] at h; omega)]
      congr 1
      omega
theorem ofR_drop (l : List Nat) (k : Nat) (hk : k < l.length) : ofR (l.drop k) k = List.replicate (l.getD k 0) k ++ ofR (l.drop (k + 1)) (k + 1) := by
  rw [List.drop_eq_getElem_cons hk, ofR]
  congr 2
  rw [List.getD_eq_getElem?_getD, List.getElem?_eq_getElem hk]; rfl
/-- What is left of lists from numbers on. -/
def remL (Ls : List (List A3)) (nx : List Nat) : List (List A3) := (List.range Ls.length).map (fun i => (subs Ls i).drop (nx.getD i 0))
theorem remL_length (Ls : List (List A3)) (nx : List Nat) : (remL Ls nx).length = Ls.length := by simp [remL]
theorem remL_subs (Ls : List (List A3)) (nx : List Nat) (i : Nat) (hi : i < Ls.length) : subs (remL Ls nx) i = (subs Ls i).drop (nx.getD i 0) := by
  conv => lhs; unfold subs remL
  rw [List.getD_eq_getElem?_getD, List.getElem?_map, List.getElem?_range hi]
  rfl
theorem remL_zero (Ls : List (List A3)) : remL Ls (List.replicate Ls.length 0) = Ls := by
  apply List.ext_getElem (by simp [remL])
  intro i h1 h2
  have : (List.replicate Ls.length 0).getD i 0 = 0 := by rw [List.getD_eq_getElem?_getD, List.getElem?_replicate, if_pos h2]; rfl
  simp only [remL, List.getElem_map, List.getElem_range, this, List.drop_zero]
  unfold subs
  rw [List.getD_eq_getElem?_getD, List.getElem?_eq_getElem h2]
  rfl
theorem remL_set (Ls : List (List A3)) (nx : List Nat) (i : Nat) (x : A3) (t : List A3) (hi : i < Ls.length) (hn : nx.length = Ls.length) (h : subs (remL Ls nx) i = x :: t) :
    remL Ls (nx.set i (nx.getD i 0 + 1)) = (remL Ls nx).set i t := by
  rw [remL_subs Ls nx i hi] at h
  apply List.ext_getElem (by simp [remL])
  intro j h1 h2
  have hj : j < Ls.length := by simpa [remL] using h1
  by_cases hij : i = j
  · subst hij
    have e : (nx.set i (nx.getD i 0 + 1)).getD i 0 = nx.getD i 0 + 1 := by rw [List.getD_eq_getElem?_getD, List.getElem?_set_self (by omega)]; rfl
    rw [List.getElem_set_self]
    simp only [remL, List.getElem_map, List.getElem_range, e]
    rw [← List.drop_drop, h]
    rfl
  · have e : (nx.set i (nx.getD i 0 + 1)).getD j 0 = nx.getD j 0 := by rw [List.getD_eq_getElem?_getD, List.getElem?_set_ne hij, ← List.getD_eq_getElem?_getD]
    rw [List.getElem_set_ne hij]
    simp only [remL, List.getElem_map, List.getElem_range, e]
end Go.Proofs.Ytkiicgdfibncfaa
