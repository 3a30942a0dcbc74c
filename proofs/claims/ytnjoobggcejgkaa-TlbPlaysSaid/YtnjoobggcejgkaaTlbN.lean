/- The reference's slots and the buffer's sets: the plain law. -/
import Derived.Test.YtnjoobggcejgkaaTlbM
import Derived.Test.YtnjoobggcejgkaaTlbPa
namespace Go.Proofs.Ytnjoobggcejgkaa
open Go.RowKit

def entSl (i y : Nat) (e : En) : Option Sl := if e.full then some ⟨i, y, e.asid, e.page, e.lf⟩ else none
def atT (T : List (List En)) (s y : Nat) : Option Sl := ((T.getD s [])[y]?).bind (entSl s y)
theorem atB_self (s y : Nat) (a : Int) (p : Nat) (l : Lf) : atB (s : Int) (y : Int) ⟨s, y, a, p, l⟩ = true := by simp [atB]
theorem atB_mk (s y s' y' : Nat) (a : Int) (p : Nat) (l : Lf) (h : ¬ (s' = s ∧ y' = y)) : atB (s : Int) (y : Int) ⟨s', y', a, p, l⟩ = false := by
  simp only [atB]
  rw [Bool.eq_false_iff]
  intro h2
  simp only [Bool.and_eq_true, beq_iff_eq] at h2
  exact h ⟨by omega, by omega⟩
theorem mem_listW {i : Nat} {x : Sl} : ∀ {l : List En} {k : Nat}, x ∈ listW i k l → ∃ j, x.set = (i : Int) ∧ x.way = ((k + j : Nat) : Int) ∧ (l[j]?).bind (entSl i (k + j)) = some x
  | [], k, h => by simp [listW] at h
  | e :: r, k, h => by
    rcases List.mem_append.1 h with h | h
    · by_cases hf : e.full = true
      · rw [if_pos hf] at h
        simp at h
        subst h
        exact ⟨0, rfl, rfl, by simp [entSl, hf]⟩
      · rw [if_neg hf] at h
        simp at h
    · obtain ⟨j, h1, h2, h3⟩ := mem_listW h
      exact ⟨j + 1, h1, by rw [h2]; congr 1; omega, by rw [show k + (j + 1) = k + 1 + j by omega]; simpa using h3⟩
theorem mem_listT {x : Sl} : ∀ {T : List (List En)} {i : Nat}, x ∈ listT i T → ∃ s y : Nat, x.set = ((i + s : Nat) : Int) ∧ x.way = (y : Int) ∧ ((T.getD s [])[y]?).bind (entSl (i + s) y) = some x
  | [], i, h => by simp [listT] at h
  | l :: r, i, h => by
    rcases List.mem_append.1 h with h | h
    · obtain ⟨j, h1, h2, h3⟩ := mem_listW h
      exact ⟨0, j, by simpa using h1, by simpa using h2, by simpa using h3⟩
    · obtain ⟨s, y, h1, h2, h3⟩ := mem_listT h
      exact ⟨s + 1, y, by rw [h1]; congr 1; omega, h2, by rw [show i + (s + 1) = i + 1 + s by omega]; simpa using h3⟩
theorem in_listW {i j : Nat} {x : Sl} : ∀ {l : List En} {k : Nat}, (l[j]?).bind (entSl i (k + j)) = some x → x ∈ listW i k l := by
  intro l
  induction l generalizing j with
  | nil => intro k h; simp at h
  | cons e r ih =>
    intro k h
    apply List.mem_append.2
    cases j with
    | zero =>
      simp only [List.getElem?_cons_zero, Option.bind_some, Nat.add_zero] at h
      unfold entSl at h
      split at h
      · rename_i hf
        injection h with h
        subst h
        left
        simp [hf]
      · cases h
    | succ j =>
      right
      exact ih (j := j) (by rw [show k + 1 + j = k + (j + 1) by omega]; simpa using h)
theorem in_listT {s y : Nat} {x : Sl} : ∀ {T : List (List En)} {i : Nat}, ((T.getD s [])[y]?).bind (entSl (i + s) y) = some x → x ∈ listT i T := by
  intro T
  induction T generalizing s with
  | nil => intro i h; simp at h
  | cons l r ih =>
    intro i h
    apply List.mem_append.2
    cases s with
    | zero => left; exact in_listW (j := y) (by simpa using h)
    | succ s => right; exact ih (s := s) (by rw [show i + 1 + s = i + (s + 1) by omega]; simpa using h)
theorem ent_key {s y : Nat} {e : En} {x : Sl} (h : entSl s y e = some x) : x.set = (s : Int) ∧ x.way = (y : Int) ∧ e.full = true ∧ x = ⟨s, y, e.asid, e.page, e.lf⟩ := by
  unfold entSl at h
  split at h
  · rename_i hf
    injection h with h
    subst h
    exact ⟨rfl, rfl, hf, rfl⟩
  · cases h
/-- What stands in a way. -/
theorem at_perm {L : List Sl} {T : List (List En)} (h : L.Perm (listT 0 T)) (s y : Nat) : atS L s y = atT T s y := by
  unfold atS
  cases hx : L.find? (atB s y) with
  | some x =>
    have h1 := List.find?_some hx
    have h2 := h.mem_iff.1 (List.mem_of_find?_eq_some hx)
    obtain ⟨s', y', e1, e2, e3⟩ := mem_listT h2
    simp only [atB, Bool.and_eq_true, beq_iff_eq] at h1
    obtain rfl : s' = s := by omega
    obtain rfl : y' = y := by omega
    rw [Nat.zero_add] at e3
    exact e3.symm
  | none =>
    cases ha : atT T s y with
    | none => rfl
    | some x =>
      have hm := h.mem_iff.2 (in_listT (i := 0) (by rw [Nat.zero_add]; exact ha))
      have := List.find?_eq_none.1 hx x hm
      unfold atT at ha
      cases hT : (T.getD s [])[y]? with
      | none => rw [hT] at ha; simp at ha
      | some e =>
        rw [hT] at ha
        obtain ⟨k1, k2, _, _⟩ := ent_key (e := e) (by simpa using ha)
        exact absurd (by simp [atB, k1, k2]) this
theorem keep_listW {i s y : Nat} {l : List En} {k : Nat} (h : s ≠ i ∨ y < k) : (listW i k l).filter (fun x => !atB s y x) = listW i k l := by
  rw [List.filter_eq_self]
  intro x hx
  obtain ⟨j, h1, h2, _⟩ := mem_listW hx
  rw [Bool.not_eq_true', Bool.eq_false_iff]
  intro h3
  simp only [atB, Bool.and_eq_true, beq_iff_eq] at h3
  omega
theorem keep_listT {i s y : Nat} {T : List (List En)} (h : s < i) : (listT i T).filter (fun x => !atB s y x) = listT i T := by
  rw [List.filter_eq_self]
  intro x hx
  obtain ⟨s', y', h1, h2, _⟩ := mem_listT hx
  rw [Bool.not_eq_true', Bool.eq_false_iff]
  intro h3
  simp only [atB, Bool.and_eq_true, beq_iff_eq] at h3
  omega
theorem opt_keep {s y i k : Nat} {e : En} (h : ¬ (i = s ∧ k = y)) : (if e.full then [(⟨i, k, e.asid, e.page, e.lf⟩ : Sl)] else []).filter (fun x => !atB s y x) = if e.full then [⟨i, k, e.asid, e.page, e.lf⟩] else [] := by
  split
  · rw [List.filter_cons, atB_mk _ _ _ _ _ _ _ h]; rfl
  · rfl
theorem opt_drop {s y : Nat} {e : En} : (if e.full then [(⟨s, y, e.asid, e.page, e.lf⟩ : Sl)] else []).filter (fun x => !atB s y x) = [] := by
  split
  · rw [List.filter_cons, atB_self]; rfl
  · rfl
theorem fill_listW {i : Nat} {e : En} (he : e.full = true) : ∀ (l : List En) (k v : Nat), v < l.length → ((listW i k l).filter (fun x => !atB i ((k + v : Nat) : Int) x) ++ [(⟨i, (k + v : Nat), e.asid, e.page, e.lf⟩ : Sl)]).Perm (listW i k (l.set v e))
  | [], k, v, h => by simp at h
  | a :: r, k, 0, h => by
    show (((if a.full then [(⟨i, k, a.asid, a.page, a.lf⟩ : Sl)] else []) ++ listW i (k + 1) r).filter _ ++ _).Perm ((if e.full then [(⟨i, k, e.asid, e.page, e.lf⟩ : Sl)] else []) ++ listW i (k + 1) r)
    rw [List.filter_append, Nat.add_zero, opt_drop, keep_listW (.inr (Nat.lt_succ_self _)), if_pos he, List.nil_append]
    exact List.perm_append_comm
  | a :: r, k, v + 1, h => by
    show (((if a.full then [(⟨i, k, a.asid, a.page, a.lf⟩ : Sl)] else []) ++ listW i (k + 1) r).filter _ ++ _).Perm ((if a.full then [(⟨i, k, a.asid, a.page, a.lf⟩ : Sl)] else []) ++ listW i (k + 1) (r.set v e))
    rw [List.filter_append, opt_keep (by omega), List.append_assoc]
    have := fill_listW (i := i) he r (k + 1) v (by simpa using h)
    rw [show k + 1 + v = k + (v + 1) by omega] at this
    exact this.append_left _
theorem fill_listT {e : En} {v : Nat} (he : e.full = true) : ∀ (T : List (List En)) (i q : Nat), q < T.length → v < (T.getD q []).length →
    ((listT i T).filter (fun x => !atB ((i + q : Nat) : Int) v x) ++ [(⟨(i + q : Nat), v, e.asid, e.page, e.lf⟩ : Sl)]).Perm (listT i (T.set q ((T.getD q []).set v e)))
  | [], i, q, h, _ => by simp at h
  | l :: r, i, 0, h, hv => by
    show ((listW i 0 l ++ listT (i + 1) r).filter _ ++ _).Perm (listW i 0 (l.set v e) ++ listT (i + 1) r)
    rw [List.filter_append, Nat.add_zero, keep_listT (Nat.lt_succ_self _)]
    have := fill_listW (i := i) he l 0 v (by simpa using hv)
    rw [Nat.zero_add] at this
    rw [List.append_assoc]
    refine (List.Perm.append_left _ List.perm_append_comm).trans ?_
    rw [← List.append_assoc]
    exact this.append_right _
  | l :: r, i, q + 1, h, hv => by
    show ((listW i 0 l ++ listT (i + 1) r).filter _ ++ _).Perm (listW i 0 l ++ listT (i + 1) (r.set q ((r.getD q []).set v e)))
    rw [List.filter_append, keep_listW (.inl (by omega)), List.append_assoc]
    have := fill_listT (v := v) he r (i + 1) q (by simpa using h) (by simpa using hv)
    rw [show i + 1 + q = i + (q + 1) by omega] at this
    exact this.append_left _
/-- Does a fence take a slot? -/
def goesL (vo : Option Nat) (ao : Option Int) (x : Sl) : Bool := goesB ⟨true, x.asid, x.page, x.lf⟩ vo ao
theorem fence_listW (vo : Option Nat) (ao : Option Int) (i : Nat) : ∀ (l : List En) (k : Nat), (listW i k l).filter (fun x => !goesL vo ao x) = listW i k (l.map (fen vo ao)) ∧ (listW i k l).countP (goesL vo ao) = cntW vo ao l
  | [], k => ⟨rfl, rfl⟩
  | e :: r, k => by
    obtain ⟨h1, h2⟩ := fence_listW vo ao i r (k + 1)
    constructor
    · show ((if e.full then [(⟨i, k, e.asid, e.page, e.lf⟩ : Sl)] else []) ++ listW i (k + 1) r).filter _ = (if (fen vo ao e).full then [(⟨i, k, (fen vo ao e).asid, (fen vo ao e).page, (fen vo ao e).lf⟩ : Sl)] else []) ++ listW i (k + 1) (r.map (fen vo ao))
      rw [List.filter_append, h1]
      congr 1
      cases hf : e.full with
      | false =>
        have : fen vo ao e = e := by unfold fen goesB; rw [hf]; simp
        rw [this, hf]; rfl
      | true =>
        have ee : (⟨true, e.asid, e.page, e.lf⟩ : En) = e := by cases e; simp_all
        rw [if_pos rfl, List.filter_cons]
        unfold goesL fen
        simp only [ee]
        cases hg : goesB e vo ao with
        | true => rfl
        | false => simp [hf]
    · show ((if e.full then [(⟨i, k, e.asid, e.page, e.lf⟩ : Sl)] else []) ++ listW i (k + 1) r).countP _ = (e :: r).countP _
      rw [List.countP_append, h2, List.countP_cons]
      show _ + cntW vo ao r = cntW vo ao r + _
      rw [Nat.add_comm]
      congr 1
      cases hf : e.full with
      | false =>
        have : goesB e vo ao = false := by unfold goesB; rw [hf]; simp
        rw [this]; rfl
      | true =>
        have ee : (⟨true, e.asid, e.page, e.lf⟩ : En) = e := by cases e; simp_all
        rw [if_pos rfl, List.countP_singleton]
        unfold goesL
        simp only [ee]
theorem fence_listT (vo : Option Nat) (ao : Option Int) : ∀ (T : List (List En)) (i : Nat), (listT i T).filter (fun x => !goesL vo ao x) = listT i (fenceS T vo ao) ∧ (listT i T).countP (goesL vo ao) = fenceN T vo ao
  | [], i => ⟨rfl, rfl⟩
  | l :: r, i => by
    obtain ⟨h1, h2⟩ := fence_listT vo ao r (i + 1)
    obtain ⟨h3, h4⟩ := fence_listW vo ao i l 0
    constructor
    · show (listW i 0 l ++ listT (i + 1) r).filter _ = listW i 0 (l.map (fen vo ao)) ++ listT (i + 1) (fenceS r vo ao)
      rw [List.filter_append, h1, h3]
    · show (listW i 0 l ++ listT (i + 1) r).countP _ = cntW vo ao l + fenceN r vo ao
      rw [List.countP_append, h2, h4]
theorem fence_perm {L : List Sl} {T : List (List En)} (h : L.Perm (listT 0 T)) (vo : Option Nat) (ao : Option Int) : (L.filter (fun x => !goesL vo ao x)).Perm (listT 0 (fenceS T vo ao)) ∧ (L.length : Int) - ((L.filter (fun x => !goesL vo ao x)).length : Int) = ((fenceN T vo ao : Nat) : Int) := by
  obtain ⟨h1, h2⟩ := fence_listT vo ao T 0
  constructor
  · rw [← h1]
    exact h.filter _
  · have h3 : L.countP (goesL vo ao) = fenceN T vo ao := by rw [h.countP_eq, h2]
    have h4 := L.length_eq_countP_add_countP (p := goesL vo ao)
    have h5 : (L.filter (fun x => !goesL vo ao x)).length = L.countP (fun x => !goesL vo ao x) := List.countP_eq_length_filter.symm
    have h6 : L.countP (fun x => !goesL vo ao x) = L.countP (fun a => decide ¬goesL vo ao a = true) := by
      congr 1
      funext a
      cases goesL vo ao a <;> rfl
    omega
theorem fill_perm {L : List Sl} {T : List (List En)} (h : L.Perm (listT 0 T)) {q v : Nat} {e : En} (he : e.full = true) (hq : q < T.length) (hv : v < (T.getD q []).length) :
    (L.filter (fun x => !atB q v x) ++ [(⟨q, v, e.asid, e.page, e.lf⟩ : Sl)]).Perm (listT 0 (T.set q ((T.getD q []).set v e))) := by
  have := fill_listT (v := v) he T 0 q hq hv
  rw [Nat.zero_add] at this
  exact ((h.filter _).append_right _).trans this
end Go.Proofs.Ytnjoobggcejgkaa
