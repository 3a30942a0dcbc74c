/- Fence. -/
import Derived.Test.YtnjoobggcejgkaaTlbG
namespace Go.Proofs.Ytnjoobggcejgkaa
open Go.RowKit

/-- What a fence leaves of an entry. -/
def fen (vo : Option Nat) (ao : Option Int) (e : En) : En := if goesB e vo ao then en0 else e
def fenW (vo : Option Nat) (ao : Option Int) (l : List En) (k : Nat) : List En := (l.take k).map (fen vo ao) ++ l.drop k
def cntW (vo : Option Nat) (ao : Option Int) (l : List En) : Nat := l.countP (fun e => goesB e vo ao)
def fenceS (T : List (List En)) (vo : Option Nat) (ao : Option Int) : List (List En) := T.map (fun s => s.map (fen vo ao))
def fenceN (T : List (List En)) (vo : Option Nat) (ao : Option Int) : Nat := (T.map (cntW vo ao)).sum
theorem fenW_zero (vo : Option Nat) (ao : Option Int) (l : List En) : fenW vo ao l 0 = l := by simp [fenW]
theorem fenW_all (vo : Option Nat) (ao : Option Int) (l : List En) (k : Nat) (h : l.length ≤ k) : fenW vo ao l k = l.map (fen vo ao) := by
  simp [fenW, List.take_of_length_le h, List.drop_of_length_le h]
theorem fenW_length (vo : Option Nat) (ao : Option Int) (l : List En) (k : Nat) : (fenW vo ao l k).length = l.length := by
  simp [fenW]; omega
theorem fenW_get (vo : Option Nat) (ao : Option Int) (l : List En) (k : Nat) (e : En) (h : l[k]? = some e) : (fenW vo ao l k)[k]? = some e := by
  have hk : k < l.length := by
    rcases Nat.lt_or_ge k l.length with h1 | h1
    · exact h1
    · rw [List.getElem?_eq_none h1] at h; cases h
  unfold fenW
  rw [List.getElem?_append_right (by simp; omega)]
  simp
  rw [show k - min k l.length = 0 by omega, Nat.add_zero]
  exact h
theorem fenW_step (vo : Option Nat) (ao : Option Int) (l : List En) (k : Nat) (e : En) (h : l[k]? = some e) : fenW vo ao l (k + 1) = (fenW vo ao l k).set k (fen vo ao e) := by
  have hk : k < l.length := by
    rcases Nat.lt_or_ge k l.length with h1 | h1
    · exact h1
    · rw [List.getElem?_eq_none h1] at h; cases h
  unfold fenW
  rw [take_snoc h, List.map_append, List.set_append_right _ _ (by simp; omega)]
  have hd : l.drop k = e :: l.drop (k + 1) := by
    rw [List.drop_eq_getElem_cons hk]
    rw [List.getElem?_eq_getElem hk] at h
    injection h with h
    rw [h]
  rw [hd, show k - ((l.take k).map (fen vo ao)).length = 0 by simp; omega]
  simp
theorem fenW_keep (vo : Option Nat) (ao : Option Int) (l : List En) (k : Nat) (e : En) (h : l[k]? = some e) (hg : goesB e vo ao = false) : fenW vo ao l (k + 1) = fenW vo ao l k := by
  rw [fenW_step vo ao l k e h]
  have e1 : fen vo ao e = e := by unfold fen; rw [hg]; rfl
  rw [e1]
  apply List.ext_getElem?
  intro i
  by_cases hi : k = i
  · subst hi
    have := fenW_get vo ao l k e h
    rw [List.getElem?_set_self (by
      rcases Nat.lt_or_ge k (fenW vo ao l k).length with h1 | h1
      · exact h1
      · rw [List.getElem?_eq_none h1] at this; cases this), this]
  · rw [List.getElem?_set_ne hi]
theorem cnt_snoc (vo : Option Nat) (ao : Option Int) (l : List En) (k : Nat) (e : En) (h : l[k]? = some e) : cntW vo ao (l.take (k + 1)) = cntW vo ao (l.take k) + (if goesB e vo ao then 1 else 0) := by
  unfold cntW
  rw [take_snoc h, List.countP_append, List.countP_singleton]
/-- The first i sets fenced, of set i the first k ways. -/
def midT (T : List (List En)) (vo : Option Nat) (ao : Option Int) (i k : Nat) : List (List En) := (fenceS (T.take i) vo ao) ++ (match T[i]? with | some s => fenW vo ao s k :: T.drop (i + 1) | none => [])
theorem midT_length (T : List (List En)) (vo : Option Nat) (ao : Option Int) (i k : Nat) (hi : i ≤ T.length) : (midT T vo ao i k).length = T.length := by
  unfold midT fenceS
  rcases Nat.lt_or_ge i T.length with h | h
  · rw [List.getElem?_eq_getElem h]
    simp
    omega
  · rw [List.getElem?_eq_none h]
    simp
    omega
theorem midT_self (T : List (List En)) (vo : Option Nat) (ao : Option Int) (i k : Nat) (hi : i < T.length) : (midT T vo ao i k).getD i [] = fenW vo ao (T.getD i []) k := by
  unfold midT fenceS
  rw [List.getElem?_eq_getElem hi, List.getD_eq_getElem?_getD, List.getElem?_append_right (by simp; omega)]
  simp
  rw [show i - min i T.length = 0 by omega]
  simp [hi]
theorem midT_set (T : List (List En)) (vo : Option Nat) (ao : Option Int) (i k : Nat) (hi : i < T.length) : (midT T vo ao i k).set i (fenW vo ao (T.getD i []) (k + 1)) = midT T vo ao i (k + 1) := by
  unfold midT fenceS
  rw [List.getElem?_eq_getElem hi, List.set_append_right _ _ (by simp; omega)]
  simp
  rw [show i - min i T.length = 0 by omega]
  simp [hi]
theorem midT_next (T : List (List En)) (vo : Option Nat) (ao : Option Int) (i k : Nat) (hi : i < T.length) (hk : (T.getD i []).length ≤ k) : midT T vo ao i k = midT T vo ao (i + 1) 0 := by
  have hs : T.getD i [] = T[i] := by rw [List.getD_eq_getElem?_getD, List.getElem?_eq_getElem hi]; rfl
  rw [hs] at hk
  unfold midT fenceS
  rw [List.getElem?_eq_getElem hi]
  simp only
  rw [fenW_all _ _ _ _ hk, List.take_add_one, List.getElem?_eq_getElem hi, List.map_append]
  rcases Nat.lt_or_ge (i + 1) T.length with h | h
  · rw [List.getElem?_eq_getElem h]
    simp only [fenW_zero]
    rw [← List.drop_eq_getElem_cons h]
    simp
  · rw [List.getElem?_eq_none h, List.drop_of_length_le h]
    simp
theorem midT_zero (T : List (List En)) (vo : Option Nat) (ao : Option Int) : midT T vo ao 0 0 = T := by
  unfold midT fenceS
  cases T with
  | nil => rfl
  | cons s r => simp [fenW_zero]
theorem midT_end (T : List (List En)) (vo : Option Nat) (ao : Option Int) : midT T vo ao T.length 0 = fenceS T vo ao := by
  unfold midT
  rw [List.getElem?_eq_none (Nat.le_refl _), List.take_length, List.append_nil]
def cntT (T : List (List En)) (vo : Option Nat) (ao : Option Int) (i : Nat) : Nat := fenceN (T.take i) vo ao
theorem cntT_next (T : List (List En)) (vo : Option Nat) (ao : Option Int) (i k : Nat) (hi : i < T.length) (hk : (T.getD i []).length ≤ k) : cntT T vo ao i + cntW vo ao ((T.getD i []).take k) = cntT T vo ao (i + 1) := by
  unfold cntT fenceN
  rw [List.take_of_length_le hk, List.take_add_one, List.getElem?_eq_getElem hi, List.map_append, List.sum_append, List.getD_eq_getElem?_getD, List.getElem?_eq_getElem hi]
  simp
theorem keeps_cell0 {F : Nat → Prop} {w w' : World} {p : Addr} {v : Value} (h : Keeps F w w') (hc : w.cell? p = some v) (hF : ¬ F p.block) : w'.cell? p = some v := by
  rw [World.cell?_of_block (h.block p.block (cell_lt hc) hF)]
  exact hc
theorem OneU.far {w w' : World} {vo : Option Nat} {V : Value} {g gs : Nat} {G : Nat → Nat} {T : List (List En)} {m : Nat} (h : OneU w vo V) (hB : BufAt w g gs G T m) (hm : 0 < m) (hn : 0 < T.length) (hk : Keeps (bufF g gs G T.length) w w') : OneU w' vo V := by
  refine h.keep fun gv x hc => keeps_cell0 hk hc ?_
  rintro (e | e | ⟨i, hi, e⟩)
  · have e' : gv = g := e
    obtain ⟨c, hh⟩ := hB.head
    rw [e', hh.cell 0] at hc
    simp at hc
  · have e' : gv = gs := e
    obtain ⟨cur, ho, hcur⟩ := hB.outer
    rw [e', ho.cell 0] at hc
    rcases Nat.eq_zero_or_pos T.length with h0 | h0
    · exact absurd h0 (by omega)
    · rw [hcur 0 h0] at hc; simp at hc
  · have e' : gv = G i := e
    obtain ⟨x0, hx0⟩ : ∃ x0, (T.getD i [])[0]? = some x0 := ⟨_, List.getElem?_eq_getElem (by rw [hB.ways i hi]; exact hm)⟩
    have h1 := hB.cell hi 0 0 x0 hx0 (by decide)
    rw [e'] at hc
    rw [show (0 * 15 + 0 : Nat) = 0 from rfl, hc] at h1
    simp [En.vs] at h1
theorem OneI.far {w w' : World} {ao : Option Int} {V : Value} {g gs : Nat} {G : Nat → Nat} {T : List (List En)} {m : Nat} (h : OneI w ao V) (hB : BufAt w g gs G T m) (hm : 0 < m) (hn : 0 < T.length) (hk : Keeps (bufF g gs G T.length) w w') : OneI w' ao V := by
  refine h.keep fun gv x hc => keeps_cell0 hk hc ?_
  rintro (e | e | ⟨i, hi, e⟩)
  · have e' : gv = g := e
    obtain ⟨c, hh⟩ := hB.head
    rw [e', hh.cell 0] at hc
    simp at hc
  · have e' : gv = gs := e
    obtain ⟨cur, ho, hcur⟩ := hB.outer
    rw [e', ho.cell 0] at hc
    rcases Nat.eq_zero_or_pos T.length with h0 | h0
    · exact absurd h0 (by omega)
    · rw [hcur 0 h0] at hc; simp at hc
  · have e' : gv = G i := e
    obtain ⟨x0, hx0⟩ : ∃ x0, (T.getD i [])[0]? = some x0 := ⟨_, List.getElem?_eq_getElem (by rw [hB.ways i hi]; exact hm)⟩
    have h1 := hB.cell hi 0 0 x0 hx0 (by decide)
    rw [e'] at hc
    rw [show (0 * 15 + 0 : Nat) = 0 from rfl, hc] at h1
    simp [En.vs] at h1
end Go.Proofs.Ytnjoobggcejgkaa
