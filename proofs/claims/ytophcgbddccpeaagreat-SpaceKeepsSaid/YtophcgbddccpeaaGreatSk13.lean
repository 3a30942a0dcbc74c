/- Merged texts: TlbN, TlbO, TlbU, TlbV, TlbW, PermA, PermB, PermC, PermD. -/
import Derived.Test.YtophcgbddccpeaaGreatSk12
import Derived.Test.YtophcgbddccpeaaGreatPlanT
import Derived.DeepKeys
import Derived.Test.YtophcgbddccpeaaGreatPlan
import Derived.Test.YtophcgbddccpeaaGreatOpen
import Derived.BigRegion
/- The reference's slots and the buffer's sets: the plain law. -/
namespace Go.Proofs.YtophcgbddccpeaaGreat
open Go.RowKit

def entSl (i y : Nat) (e : En) : Option Sl := if e.full then some ⟨i, y, e.asid, e.page, e.lf⟩ else none
def atT (T : List (List En)) (s y : Nat) : Option Sl := ((T.getD s [])[y]?).bind (entSl s y)
theorem atB_self (s y : Nat) (a : Int) (p : Nat) (l : Tf) : atB (s : Int) (y : Int) ⟨s, y, a, p, l⟩ = true := by simp [atB]
theorem atB_mk (s y s' y' : Nat) (a : Int) (p : Nat) (l : Tf) (h : ¬ (s' = s ∧ y' = y)) : atB (s : Int) (y : Int) ⟨s', y', a, p, l⟩ = false := by
  simp only [atB]
  rw [Bool.eq_false_iff]
  intro h2
  simp only [Bool.and_eq_true, beq_iff_eq] at h2
  exact h ⟨by omega, by omega⟩
theorem mem_listW {i : Nat} {x : Sl} : ∀ {l : List En} {k : Nat}, x ∈ listW i k l → ∃ j, x.set = (i : Int) ∧ x.way = ((k + j : Nat) : Int) ∧ (l[j]?).bind (entSl i (k + j)) = some x
  | [], k, h => by simp [listW] at h
  | e :: r, k, h => by
    rcases List.mem_append.1 h with h | h
    · by_cases hf : e.full = true
      · rw [if_pos hf] at h
        simp at h
        subst h
        exact ⟨0, rfl, rfl, by simp [entSl, hf]⟩
      · rw [if_neg hf] at h
        simp at h
    · obtain ⟨j, h1, h2, h3⟩ := mem_listW h
      exact ⟨j + 1, h1, by rw [h2]; congr 1; omega, by rw [show k + (j + 1) = k + 1 + j by omega]; simpa using h3⟩
theorem mem_listT {x : Sl} : ∀ {T : List (List En)} {i : Nat}, x ∈ listT i T → ∃ s y : Nat, x.set = ((i + s : Nat) : Int) ∧ x.way = (y : Int) ∧ ((T.getD s [])[y]?).bind (entSl (i + s) y) = some x
  | [], i, h => by simp [listT] at h
  | l :: r, i, h => by
    rcases List.mem_append.1 h with h | h
    · obtain ⟨j, h1, h2, h3⟩ := mem_listW h
      exact ⟨0, j, by simpa using h1, by simpa using h2, by simpa using h3⟩
    · obtain ⟨s, y, h1, h2, h3⟩ := mem_listT h
      exact ⟨s + 1, y, by rw [h1]; congr 1; omega, h2, by rw [show i + (s + 1) = i + 1 + s by omega]; simpa using h3⟩
theorem in_listW {i j : Nat} {x : Sl} : ∀ {l : List En} {k : Nat}, (l[j]?).bind (entSl i (k + j)) = some x → x ∈ listW i k l := by
  intro l
  induction l generalizing j with
  | nil => intro k h; simp at h
  | cons e r ih =>
    intro k h
    apply List.mem_append.2
    cases j with
    | zero =>
      simp only [List.getElem?_cons_zero, Option.bind_some, Nat.add_zero] at h
      unfold entSl at h
      split at h
      · rename_i hf
        injection h with h
        subst h
        left
        simp [hf]
      · cases h
    | succ j =>
      right
      exact ih (j := j) (by rw [show k + 1 + j = k + (j + 1) by omega]; simpa using h)
theorem in_listT {s y : Nat} {x : Sl} : ∀ {T : List (List En)} {i : Nat}, ((T.getD s [])[y]?).bind (entSl (i + s) y) = some x → x ∈ listT i T := by
  intro T
  induction T generalizing s with
  | nil => intro i h; simp at h
  | cons l r ih =>
    intro i h
    apply List.mem_append.2
    cases s with
    | zero => left; exact in_listW (j := y) (by simpa using h)
    | succ s => right; exact ih (s := s) (by rw [show i + 1 + s = i + (s + 1) by omega]; simpa using h)
theorem ent_key {s y : Nat} {e : En} {x : Sl} (h : entSl s y e = some x) : x.set = (s : Int) ∧ x.way = (y : Int) ∧ e.full = true ∧ x = ⟨s, y, e.asid, e.page, e.lf⟩ := by
  unfold entSl at h
  split at h
  · rename_i hf
    injection h with h
    subst h
    exact ⟨rfl, rfl, hf, rfl⟩
  · cases h
/-- What stands in a way. -/
theorem at_perm {L : List Sl} {T : List (List En)} (h : L.Perm (listT 0 T)) (s y : Nat) : atS L s y = atT T s y := by
  unfold atS
  cases hx : L.find? (atB s y) with
  | some x =>
    have h1 := List.find?_some hx
    have h2 := h.mem_iff.1 (List.mem_of_find?_eq_some hx)
    obtain ⟨s', y', e1, e2, e3⟩ := mem_listT h2
    simp only [atB, Bool.and_eq_true, beq_iff_eq] at h1
    obtain rfl : s' = s := by omega
    obtain rfl : y' = y := by omega
    rw [Nat.zero_add] at e3
    exact e3.symm
  | none =>
    cases ha : atT T s y with
    | none => rfl
    | some x =>
      have hm := h.mem_iff.2 (in_listT (i := 0) (by rw [Nat.zero_add]; exact ha))
      have := List.find?_eq_none.1 hx x hm
      unfold atT at ha
      cases hT : (T.getD s [])[y]? with
      | none => rw [hT] at ha; simp at ha
      | some e =>
        rw [hT] at ha
        obtain ⟨k1, k2, _, _⟩ := ent_key (e := e) (by simpa using ha)
        exact absurd (by simp [atB, k1, k2]) this
theorem keep_listW {i s y : Nat} {l : List En} {k : Nat} (h : s ≠ i ∨ y < k) : (listW i k l).filter (fun x => !atB s y x) = listW i k l := by
  rw [List.filter_eq_self]
  intro x hx
  obtain ⟨j, h1, h2, _⟩ := mem_listW hx
  rw [Bool.not_eq_true', Bool.eq_false_iff]
  intro h3
  simp only [atB, Bool.and_eq_true, beq_iff_eq] at h3
  omega
theorem keep_listT {i s y : Nat} {T : List (List En)} (h : s < i) : (listT i T).filter (fun x => !atB s y x) = listT i T := by
  rw [List.filter_eq_self]
  intro x hx
  obtain ⟨s', y', h1, h2, _⟩ := mem_listT hx
  rw [Bool.not_eq_true', Bool.eq_false_iff]
  intro h3
  simp only [atB, Bool.and_eq_true, beq_iff_eq] at h3
  omega
theorem opt_keep {s y i k : Nat} {e : En} (h : ¬ (i = s ∧ k = y)) : (if e.full then [(⟨i, k, e.asid, e.page, e.lf⟩ : Sl)] else []).filter (fun x => !atB s y x) = if e.full then [⟨i, k, e.asid, e.page, e.lf⟩] else [] := by
  split
  · rw [List.filter_cons, atB_mk _ _ _ _ _ _ _ h]; rfl
  · rfl
theorem opt_drop {s y : Nat} {e : En} : (if e.full then [(⟨s, y, e.asid, e.page, e.lf⟩ : Sl)] else []).filter (fun x => !atB s y x) = [] := by
  split
  · rw [List.filter_cons, atB_self]; rfl
  · rfl
theorem fill_listW {i : Nat} {e : En} (he : e.full = true) : ∀ (l : List En) (k v : Nat), v < l.length → ((listW i k l).filter (fun x => !atB i ((k + v : Nat) : Int) x) ++ [(⟨i, (k + v : Nat), e.asid, e.page, e.lf⟩ : Sl)]).Perm (listW i k (l.set v e))
  | [], k, v, h => by simp at h
  | a :: r, k, 0, h => by
    show (((if a.full then [(⟨i, k, a.asid, a.page, a.lf⟩ : Sl)] else []) ++ listW i (k + 1) r).filter _ ++ _).Perm ((if e.full then [(⟨i, k, e.asid, e.page, e.lf⟩ : Sl)] else []) ++ listW i (k + 1) r)
    rw [List.filter_append, Nat.add_zero, opt_drop, keep_listW (.inr (Nat.lt_succ_self _)), if_pos he, List.nil_append]
    exact List.perm_append_comm
  | a :: r, k, v + 1, h => by
    show (((if a.full then [(⟨i, k, a.asid, a.page, a.lf⟩ : Sl)] else []) ++ listW i (k + 1) r).filter _ ++ _).Perm ((if a.full then [(⟨i, k, a.asid, a.page, a.lf⟩ : Sl)] else []) ++ listW i (k + 1) (r.set v e))
    rw [List.filter_append, opt_keep (by omega), List.append_assoc]
    have := fill_listW (i := i) he r (k + 1) v (by simpa using h)
    rw [show k + 1 + v = k + (v + 1) by omega] at this
    exact this.append_left _
theorem fill_listT {e : En} {v : Nat} (he : e.full = true) : ∀ (T : List (List En)) (i q : Nat), q < T.length → v < (T.getD q []).length →
    ((listT i T).filter (fun x => !atB ((i + q : Nat) : Int) v x) ++ [(⟨(i + q : Nat), v, e.asid, e.page, e.lf⟩ : Sl)]).Perm (listT i (T.set q ((T.getD q []).set v e)))
  | [], i, q, h, _ => by simp at h
  | l :: r, i, 0, h, hv => by
    show ((listW i 0 l ++ listT (i + 1) r).filter _ ++ _).Perm (listW i 0 (l.set v e) ++ listT (i + 1) r)
    rw [List.filter_append, Nat.add_zero, keep_listT (Nat.lt_succ_self _)]
    have := fill_listW (i := i) he l 0 v (by simpa using hv)
    rw [Nat.zero_add] at this
    rw [List.append_assoc]
    refine (List.Perm.append_left _ List.perm_append_comm).trans ?_
    rw [← List.append_assoc]
    exact this.append_right _
  | l :: r, i, q + 1, h, hv => by
    show ((listW i 0 l ++ listT (i + 1) r).filter _ ++ _).Perm (listW i 0 l ++ listT (i + 1) (r.set q ((r.getD q []).set v e)))
    rw [List.filter_append, keep_listW (.inl (by omega)), List.append_assoc]
    have := fill_listT (v := v) he r (i + 1) q (by simpa using h) (by simpa using hv)
    rw [show i + 1 + q = i + (q + 1) by omega] at this
    exact this.append_left _
/-- Does a fence take a slot? -/
def goesL (vo : Option Nat) (ao : Option Int) (x : Sl) : Bool := goesB ⟨true, x.asid, x.page, x.lf⟩ vo ao
theorem fence_listW (vo : Option Nat) (ao : Option Int) (i : Nat) : ∀ (l : List En) (k : Nat), (listW i k l).filter (fun x => !goesL vo ao x) = listW i k (l.map (fen vo ao)) ∧ (listW i k l).countP (goesL vo ao) = cntW vo ao l
  | [], k => ⟨rfl, rfl⟩
  | e :: r, k => by
    obtain ⟨h1, h2⟩ := fence_listW vo ao i r (k + 1)
    constructor
    · show ((if e.full then [(⟨i, k, e.asid, e.page, e.lf⟩ : Sl)] else []) ++ listW i (k + 1) r).filter _ = (if (fen vo ao e).full then [(⟨i, k, (fen vo ao e).asid, (fen vo ao e).page, (fen vo ao e).lf⟩ : Sl)] else []) ++ listW i (k + 1) (r.map (fen vo ao))
      rw [List.filter_append, h1]
      congr 1
      cases hf : e.full with
      | false =>
        have : fen vo ao e = e := by unfold fen goesB; rw [hf]; simp
        rw [this, hf]; rfl
      | true =>
        have ee : (⟨true, e.asid, e.page, e.lf⟩ : En) = e := by cases e; simp_all
        rw [if_pos rfl, List.filter_cons]
        unfold goesL fen
        simp only [ee]
        cases hg : goesB e vo ao with
        | true => rfl
        | false => simp [hf]
    · show ((if e.full then [(⟨i, k, e.asid, e.page, e.lf⟩ : Sl)] else []) ++ listW i (k + 1) r).countP _ = (e :: r).countP _
      rw [List.countP_append, h2, List.countP_cons]
      show _ + cntW vo ao r = cntW vo ao r + _
      rw [Nat.add_comm]
      congr 1
      cases hf : e.full with
      | false =>
        have : goesB e vo ao = false := by unfold goesB; rw [hf]; simp
        rw [this]; rfl
      | true =>
        have ee : (⟨true, e.asid, e.page, e.lf⟩ : En) = e := by cases e; simp_all
        rw [if_pos rfl, List.countP_singleton]
        unfold goesL
        simp only [ee]
theorem fence_listT (vo : Option Nat) (ao : Option Int) : ∀ (T : List (List En)) (i : Nat), (listT i T).filter (fun x => !goesL vo ao x) = listT i (fenceS T vo ao) ∧ (listT i T).countP (goesL vo ao) = fenceN T vo ao
  | [], i => ⟨rfl, rfl⟩
  | l :: r, i => by
    obtain ⟨h1, h2⟩ := fence_listT vo ao r (i + 1)
    obtain ⟨h3, h4⟩ := fence_listW vo ao i l 0
    constructor
    · show (listW i 0 l ++ listT (i + 1) r).filter _ = listW i 0 (l.map (fen vo ao)) ++ listT (i + 1) (fenceS r vo ao)
      rw [List.filter_append, h1, h3]
    · show (listW i 0 l ++ listT (i + 1) r).countP _ = cntW vo ao l + fenceN r vo ao
      rw [List.countP_append, h2, h4]
theorem fence_perm {L : List Sl} {T : List (List En)} (h : L.Perm (listT 0 T)) (vo : Option Nat) (ao : Option Int) : (L.filter (fun x => !goesL vo ao x)).Perm (listT 0 (fenceS T vo ao)) ∧ (L.length : Int) - ((L.filter (fun x => !goesL vo ao x)).length : Int) = ((fenceN T vo ao : Nat) : Int) := by
  obtain ⟨h1, h2⟩ := fence_listT vo ao T 0
  constructor
  · rw [← h1]
    exact h.filter _
  · have h3 : L.countP (goesL vo ao) = fenceN T vo ao := by rw [h.countP_eq, h2]
    have h4 := L.length_eq_countP_add_countP (p := goesL vo ao)
    have h5 : (L.filter (fun x => !goesL vo ao x)).length = L.countP (fun x => !goesL vo ao x) := List.countP_eq_length_filter.symm
    have h6 : L.countP (fun x => !goesL vo ao x) = L.countP (fun a => decide ¬goesL vo ao a = true) := by
      congr 1
      funext a
      cases goesL vo ao a <;> rfl
    omega
theorem fill_perm {L : List Sl} {T : List (List En)} (h : L.Perm (listT 0 T)) {q v : Nat} {e : En} (he : e.full = true) (hq : q < T.length) (hv : v < (T.getD q []).length) :
    (L.filter (fun x => !atB q v x) ++ [(⟨q, v, e.asid, e.page, e.lf⟩ : Sl)]).Perm (listT 0 (T.set q ((T.getD q []).set v e))) := by
  have := fill_listT (v := v) he T 0 q hq hv
  rw [Nat.zero_add] at this
  exact ((h.filter _).append_right _).trans this
end Go.Proofs.YtophcgbddccpeaaGreat

/- The reference's buffer with its rows; Find. -/
namespace Go.Proofs.YtophcgbddccpeaaGreat
open Go.RowKit

/-- A buffer of so many sets and ways. -/
structure TOk (T : List (List En)) (n m : Nat) : Prop where
  len : T.length = n
  n0 : 0 < n
  n64 : n ≤ 64
  m0 : 0 < m
  m8 : m ≤ 8
  ways : ∀ i, i < n → (T.getD i []).length = m
  val : Valid T
theorem TOk.slots {T : List (List En)} {n m : Nat} (h : TOk T n m) {L : List Sl} (hp : L.Perm (listT 0 T)) : L.length ≤ 512 := by
  rw [hp.length_eq]
  have h1 := listT_le m T 0 (fun s hs => by
    obtain ⟨i, hi, rfl⟩ := List.mem_iff_getElem.1 hs
    have := h.ways i (by rw [← h.len]; exact hi)
    rw [List.getD_eq_getElem?_getD, List.getElem?_eq_getElem hi] at this
    exact this)
  have h2 : T.length * m ≤ 64 * 8 := Nat.mul_le_mul (by rw [h.len]; exact h.n64) h.m8
  omega
theorem TOk.lev {T : List (List En)} {n m : Nat} (h : TOk T n m) {i k : Nat} {e : En} (hi : i < n) (he : (T.getD i [])[k]? = some e) (hf : e.full = true) : levOK e.lf.lev = true := by
  have hmem : (T.getD i []) ∈ T := by rw [List.getD_eq_getElem?_getD, List.getElem?_eq_getElem (by rw [h.len]; exact hi)]; exact List.getElem_mem _
  exact h.val _ hmem e (List.mem_of_getElem? he) hf
section
variable {w w' : World} {gx : Nat} {G F : Nat → Prop} {n m : Int} {L : List Sl}
theorem RdS.keeps {v : Value} (h : RdS w v L) (k : Keeps F w w') (hd : ∀ a l c, v = .slice (some a) l c → ¬ F a.block) : RdS w' v L := by
  obtain ⟨A, c, e, h⟩ := h
  refine ⟨A, c, e, fun hne => ?_⟩
  obtain ⟨b, hA, hc⟩ := h hne
  refine ⟨b, hA, fun i x hx j hj => ?_⟩
  have h1 := hc i x hx j hj
  have h2 : x.vs[j]? = some (x.vs[j]'hj) := List.getElem?_eq_getElem hj
  rw [h2] at h1 ⊢
  have h3 := k.block b (cell_lt h1) (hd ⟨b, 0, none⟩ _ _ (by rw [e, hA]))
  simp only [World.cell?] at h1 ⊢
  rw [h3]
  exact h1
end
theorem at_yes {T : List (List En)} {q k : Nat} {e : En} (he : (T.getD q [])[k]? = some e) (hf : e.full = true) : atT T q k = some ⟨q, k, e.asid, e.page, e.lf⟩ := by
  unfold atT
  rw [he]
  simp [entSl, hf]
theorem at_not {T : List (List En)} {q k : Nat} {e : En} (he : (T.getD q [])[k]? = some e) (hf : e.full = false) : atT T q k = none := by
  unfold atT
  rw [he]
  simp [entSl, hf]
theorem set_eq (p n : Nat) (h : 0 < n) (h2 : n ≤ 64) : IntKind.i64.wrap ((p : Int).tmod (n : Int)) = ((p % n : Nat) : Int) := by
  rw [Int.tmod_eq_emod_of_nonneg (by omega), ← Int.natCast_emod]
  have := Nat.mod_lt p h
  exact IntWalk.i64_in _ (by omega)
theorem slot_at (x : Sl) : x.cs[2]? = some (.int .i64 x.asid) ∧ x.cs[3]? = some (.int .u64 (x.page : Int)) ∧ x.cs[9]? = some (.bool x.lf.g) ∧ x.cs[14]? = some (.int .i64 x.lf.lev) := ⟨rfl, rfl, rfl, rfl⟩
theorem slot_leaf {w : World} {b : Nat} {x : Sl} (h : Blk w b 100 x.cs) : w.rangeAt b 4 x.lf.cs.toList := World.rangeAt_of_block h 4 12
end Go.Proofs.YtophcgbddccpeaaGreat

/- Right; Same. -/
namespace Go.Proofs.YtophcgbddccpeaaGreat
open Go.RowKit Go.ChangeShapes

def powL : List Int := [1, 2, 4, 8, 16, 32, 64]
theorem pow_mem {s : Int} {k : Nat} {v : Int} (h : powL[k]? = some v) (e : v = s) : powB s = true := by
  subst e
  have hk : k < 7 := (List.getElem?_eq_some_iff.1 h).1
  rcases (show k = 0 ∨ k = 1 ∨ k = 2 ∨ k = 3 ∨ k = 4 ∨ k = 5 ∨ k = 6 by omega) with rfl | rfl | rfl | rfl | rfl | rfl | rfl <;> (simp [powL] at h; subst h; rfl)
theorem pow_none {s : Int} (h : ∀ j v, j < 7 → powL[j]? = some v → v ≠ s) : powB s = false := by
  have h0 := h 0 1 (by decide) rfl
  have h1 := h 1 2 (by decide) rfl
  have h2 := h 2 4 (by decide) rfl
  have h3 := h 3 8 (by decide) rfl
  have h4 := h 4 16 (by decide) rfl
  have h5 := h 5 32 (by decide) rfl
  have h6 := h 6 64 (by decide) rfl
  unfold powB
  simp
  omega
/-- Entries whose numbers are in range. -/
def EnWf (e : En) : Prop := tlb_LfWf e.lf ∧ (Lit.int .i64 e.asid).wf = true ∧ e.page < 18446744073709551616
def WfT (T : List (List En)) : Prop := ∀ s ∈ T, ∀ e ∈ s, e.full = true → EnWf e
def SlWf (x : Sl) : Prop := tlb_LfWf x.lf ∧ (Lit.int .i64 x.asid).wf = true ∧ x.page < 18446744073709551616 ∧ (Lit.int .i64 x.set).wf = true ∧ (Lit.int .i64 x.way).wf = true
def Sl.lits (x : Sl) : List Lit := [.int .i64 x.set, .int .i64 x.way, .int .i64 x.asid, .int .u64 x.page] ++ x.lf.lits
theorem c_slot : Tryz.prog.cellsOf 100 = 16 := by kernel_rfl
theorem page_wf {n : Nat} (h : n < 18446744073709551616) : (Lit.int .u64 (n : Int)).wf = true := by
  simp [Lit.wf, IntKind.min, IntKind.max, IntKind.signed, IntKind.bits]; omega
theorem key_slot (d : Nat) (x : Sl) (h : SlWf x) : Tryz.prog.keyLits (d + 4) 100 x.vs = some x.lits := by
  obtain ⟨h1, h2, h3, h4, h5⟩ := h
  have hp := tlb_key_leaf d x.lf h1
  have hpg := page_wf h3
  unfold Tf.vs at hp
  unfold Program.keyLits Sl.vs Sl.lits
  simp [Tryz.underlying100, c_slot, c_leaf, c_int, c_u64, key_int, key_u64, hp, h2, hpg, h4, h5]
theorem slot_same (W : World) (x : Sl) (h : SlWf x) : (Op.equalIn 10000 100 (.agg x.cs) (.agg x.cs)).run Tryz.prog W = .ok true W := by
  have hd := run_equalIn_deep (P := Tryz.prog) 9994 6 100 (by kernel_rfl)
  obtain ⟨r, hr, hi⟩ := hd W 6 6 _ _ _ _ (by kernel_rfl : (Value.agg x.cs).formed Tryz.prog 100 = true) (by kernel_rfl : (Value.agg x.cs).formed Tryz.prog 100 = true) (key_slot 2 x h) (key_slot 2 x h)
  rw [hi.2 rfl] at hr
  exact hr
theorem range_drew {w : World} {b o : Nat} {l : List Value} (h : w.rangeAt b o l) : w.drew.rangeAt b o l := h
end Go.Proofs.YtophcgbddccpeaaGreat

/- Both buffers in one world. -/
namespace Go.Proofs.YtophcgbddccpeaaGreat
open Go.RowKit

theorem TOk.fill {T : List (List En)} {n m va : Nat} {asid pick : Int} {lf : Tf} (h : TOk T n m) (hl : levOK lf.lev = true) : TOk (fillS T va asid lf pick) n m := by
  refine ⟨by rw [fillS_length, h.len], h.n0, h.n64, h.m0, h.m8, fun i hi => ?_, valid_fill h.val _ _ _ _ hl⟩
  unfold fillS
  by_cases hiq : i = fillQ T va lf
  · subst hiq
    rw [List.getD_eq_getElem?_getD, List.getElem?_set_self (by rw [h.len]; exact hi)]
    show (List.set _ _ _).length = m
    rw [List.length_set]
    exact h.ways _ hi
  · rw [List.getD_eq_getElem?_getD, List.getElem?_set_ne (Ne.symm hiq), ← List.getD_eq_getElem?_getD]
    exact h.ways i hi
theorem TOk.fence {T : List (List En)} {n m : Nat} (h : TOk T n m) (vo : Option Nat) (ao : Option Int) : TOk (fenceS T vo ao) n m := by
  refine ⟨by rw [fenceS_length, h.len], h.n0, h.n64, h.m0, h.m8, fun i hi => ?_, valid_fence h.val _ _⟩
  unfold fenceS
  have hw := h.ways i hi
  rw [List.getD_eq_getElem?_getD, List.getElem?_eq_getElem (by rw [h.len]; exact hi)] at hw
  rw [List.getD_eq_getElem?_getD, List.getElem?_map, List.getElem?_eq_getElem (by rw [h.len]; exact hi)]
  show (List.map _ _).length = m
  rw [List.length_map]
  exact hw
theorem TOk.empty {n m : Nat} (h : rightS n m = true) : TOk (emptyT n m) n m := by
  have hb : 1 ≤ n ∧ n ≤ 64 ∧ 1 ≤ m ∧ m ≤ 8 := by
    unfold rightS at h
    simp only [Bool.and_eq_true, decide_eq_true_eq] at h
    obtain ⟨h1, h2, h3⟩ := h
    have : ¬ ((n : Int) < 1 ∨ 64 < (n : Int)) := fun h4 => by rw [pow_not h4] at h1; cases h1
    omega
  refine ⟨by simp [emptyT], by omega, by omega, by omega, by omega, fun i hi => ?_, empty_valid n m⟩
  unfold emptyT
  rw [List.getD_eq_getElem?_getD, List.getElem?_replicate, if_pos hi]
  show (List.replicate m en0).length = m
  simp
theorem WfT.fill {T : List (List En)} {va : Nat} {asid pick : Int} {lf : Tf} (h : WfT T) (hl : tlb_LfWf lf) (ha : (Lit.int .i64 asid).wf = true) : WfT (fillS T va asid lf pick) := by
  intro s hs e he hf
  unfold fillS at hs
  rcases List.mem_or_eq_of_mem_set hs with h1 | h1
  · exact h s h1 e he hf
  · subst h1
    rcases List.mem_or_eq_of_mem_set he with h2 | h2
    · by_cases hq : fillQ T va lf < T.length
      · have hm : T.getD (fillQ T va lf) [] ∈ T := by rw [List.getD_eq_getElem?_getD, List.getElem?_eq_getElem hq]; exact List.getElem_mem _
        exact h _ hm e h2 hf
      · rw [List.getD_eq_getElem?_getD, List.getElem?_eq_none (by omega)] at h2
        simp at h2
    · subst h2
      exact ⟨hl, ha, Nat.lt_trans (pgN_lt va lf.lev) (by decide)⟩
theorem WfT.fence {T : List (List En)} (h : WfT T) (vo : Option Nat) (ao : Option Int) : WfT (fenceS T vo ao) := by
  intro s hs e he hf
  unfold fenceS at hs
  obtain ⟨s0, hs0, rfl⟩ := List.mem_map.1 hs
  obtain ⟨e0, he0, rfl⟩ := List.mem_map.1 he
  unfold fen at hf ⊢
  split at hf
  · simp [en0] at hf
  · rename_i hg
    rw [if_neg hg]
    exact h s0 hs0 e0 he0 hf
theorem WfT.empty (n m : Nat) : WfT (emptyT n m) := by
  intro s hs e he hf
  unfold emptyT at hs
  have h1 := List.eq_of_mem_replicate hs
  subst h1
  have h2 := List.eq_of_mem_replicate he
  subst h2
  simp [en0] at hf
theorem way_wf {l : List En} {lev : Int} {va : Nat} {asid : Int} {lf : Tf} (h : ∀ e ∈ l, e.full = true → EnWf e) (hf : wayFind l lev va asid = some lf) : tlb_LfWf lf := by
  unfold wayFind at hf
  cases hx : l.find? (hitB lev va asid) with
  | none => rw [hx] at hf; simp at hf
  | some e =>
    rw [hx] at hf
    have h1 := List.find?_some hx
    have h2 := List.mem_of_find?_eq_some hx
    simp at hf
    subst hf
    unfold hitB matchB hasB at h1
    simp only [Bool.and_eq_true] at h1
    exact (h e h2 h1.2.1.1).1
theorem getD_wf {T : List (List En)} (h : WfT T) (i : Nat) : ∀ e ∈ T.getD i [], e.full = true → EnWf e := by
  intro e he hf
  by_cases hi : i < T.length
  · have hm : T.getD i [] ∈ T := by rw [List.getD_eq_getElem?_getD, List.getElem?_eq_getElem hi]; exact List.getElem_mem _
    exact h _ hm e he hf
  · rw [List.getD_eq_getElem?_getD, List.getElem?_eq_none (by omega)] at he
    simp at he
theorem find_wf {T : List (List En)} {va : Nat} {asid : Int} (h : WfT T) : tlb_LfWf ((findS T va asid).getD tlb_lf0) := by
  cases hf : findS T va asid with
  | none => unfold tlb_LfWf; decide
  | some lf =>
    unfold findS at hf
    simp only [Option.or_eq_some_iff] at hf
    rcases hf with hf | ⟨_, hf | ⟨_, hf⟩⟩
    · exact way_wf (getD_wf h _) hf
    · exact way_wf (getD_wf h _) hf
    · exact way_wf (getD_wf h _) hf
theorem small_wf {k : Nat} (h : k < 1000) : (Lit.int .i64 (k : Int)).wf = true := by
  simp [Lit.wf, IntKind.min, IntKind.max, IntKind.signed, IntKind.bits]; omega
theorem slots_wf {T : List (List En)} {n m : Nat} (hK : TOk T n m) (h : WfT T) : ∀ x ∈ listT 0 T, SlWf x := by
  intro x hx
  obtain ⟨s, y, h1, h2, h3⟩ := mem_listT hx
  cases hT : (T.getD s [])[y]? with
  | none => rw [hT] at h3; simp at h3
  | some e =>
    rw [hT] at h3
    obtain ⟨_, _, hf, hxe⟩ := ent_key (e := e) (by simpa using h3)
    have hs : s < n := by
      rcases Nat.lt_or_ge s n with h | h
      · exact h
      · have e0 : T[s]? = none := List.getElem?_eq_none (by rw [hK.len]; exact h)
        rw [List.getD_eq_getElem?_getD, e0] at hT
        simp at hT
    have hy : y < m := by
      have := (List.getElem?_eq_some_iff.1 hT).1
      rw [hK.ways s hs] at this
      exact this
    have hw := getD_wf h s e (List.mem_of_getElem? hT) hf
    have := hK.n64
    have := hK.m8
    rw [hxe]
    exact ⟨hw.1, hw.2.1, hw.2.2, small_wf (by omega), small_wf (by omega)⟩
section
variable {W w w' : World} {g gs gx n m : Nat} {Gb : Nat → Nat} {G : Nat → Prop} {T T2 T' : List (List En)} {L L' : List Sl} {loc loc' : List (Nat × TypeId × Array Value)}
end
end Go.Proofs.YtophcgbddccpeaaGreat

/- The methods of both buffers, in one world. -/
namespace Go.Proofs.YtophcgbddccpeaaGreat
open Go.RowKit

def fillT (T : List (List En)) (va : Nat) (asid : Int) (lf : Tf) (pick : Int) : List (List En) := if levOK lf.lev then fillS T va asid lf pick else T
section
variable {W w w' : World} {g gs gx n m : Nat} {Gb : Nat → Nat} {G : Nat → Prop} {T T2 : List (List En)} {L : List Sl} {loc : List (Nat × TypeId × Array Value)}
end
end Go.Proofs.YtophcgbddccpeaaGreat

/- Contracts: Leaf, Right, allows, Check, of both sides. -/
namespace Go.Proofs.YtophcgbddccpeaaGreat
open Go.RowKit

def rightB (v r w : Bool) : Bool := v && (r || !w)
def leafB (r x : Bool) : Bool := r || x
def allowsB (r w x d : Bool) (acc : Int) (mxr : Bool) : Bool := if acc == 0 then x else if acc == 1 then r || (mxr && x) else if acc == 2 then w && d else false
def checkB (v r w x u a d : Bool) (acc : Int) (user sum mxr : Bool) : Bool :=
  rightB v r w && leafB r x && a && !(user && !u) && !(!user && u && (acc == 0 || !sum)) && allowsB r w x d acc mxr
def pteO (v r w x u g a d : Bool) (rsw ppn : Int) : Obj := .cells #[.bool v, .bool r, .bool w, .bool x, .bool u, .bool g, .bool a, .bool d, .int .i64 rsw, .int .u64 ppn] 96

theorem perm_leaf_any (v r w x u g a d : Bool) (rsw ppn : Int) (W : World) :
    Calls Tryz.prog 81 #[.agg #[.bool v, .bool r, .bool w, .bool x, .bool u, .bool g, .bool a, .bool d, .int .i64 rsw, .int .u64 ppn]] W fun e w' => e = .returned (.bool (leafB r x)) ∧ W.alloc (.cells #[.bool v, .bool r, .bool w, .bool x, .bool u, .bool g, .bool a, .bool d, .int .i64 rsw, .int .u64 ppn] 96) = w' := by
  cases r
  all_goals
    go_enter Tryz.func81, Tryz.ntmps81
    go_wp2
    go_ret
    exact ⟨rfl, rfl⟩
theorem perm_right_any (v r w x u g a d : Bool) (rsw ppn : Int) (W : World) :
    Calls Tryz.prog 80 #[.agg #[.bool v, .bool r, .bool w, .bool x, .bool u, .bool g, .bool a, .bool d, .int .i64 rsw, .int .u64 ppn]] W fun e w' => e = .returned (.bool (rightB v r w)) ∧ W.alloc (.cells #[.bool v, .bool r, .bool w, .bool x, .bool u, .bool g, .bool a, .bool d, .int .i64 rsw, .int .u64 ppn] 96) = w' := by
  cases v <;> cases r
  all_goals
    go_enter Tryz.func80, Tryz.ntmps80
    go_wp2
    go_ret
    exact ⟨rfl, rfl⟩

theorem allows_any (v r w x u g a d : Bool) (rsw ppn acc : Int) (mxr : Bool) (W : World) :
    Calls Tryz.prog 82 #[.agg #[.bool v, .bool r, .bool w, .bool x, .bool u, .bool g, .bool a, .bool d, .int .i64 rsw, .int .u64 ppn], .int .i64 acc, .bool mxr] W fun e w' => e = .returned (.bool (allowsB r w x d acc mxr)) ∧ W.alloc (.cells #[.bool v, .bool r, .bool w, .bool x, .bool u, .bool g, .bool a, .bool d, .int .i64 rsw, .int .u64 ppn] 96) = w' := by
  by_cases h0 : acc = 0
  · subst h0
    go_enter Tryz.func82, Tryz.ntmps82
    go_wp2
    go_ret
    exact ⟨rfl, rfl⟩
  · by_cases h1 : acc = 1
    · subst h1
      cases r <;> cases mxr
      all_goals
        go_enter Tryz.func82, Tryz.ntmps82
        go_wp2
        go_ret
        exact ⟨rfl, rfl⟩
    · by_cases h2 : acc = 2
      · subst h2
        cases w
        all_goals
          go_enter Tryz.func82, Tryz.ntmps82
          go_wp2
          go_ret
          exact ⟨rfl, rfl⟩
      · have e0 : (acc == 0) = false := by rw [beq_eq_false_iff_ne]; exact h0
        have e1 : (acc == 1) = false := by rw [beq_eq_false_iff_ne]; exact h1
        have e2 : (acc == 2) = false := by rw [beq_eq_false_iff_ne]; exact h2
        clear h0 h1 h2
        go_enter Tryz.func82, Tryz.ntmps82
        go_wp2
        go_ret
        exact ⟨by simp [allowsB, e0, e1, e2], rfl⟩
end Go.Proofs.YtophcgbddccpeaaGreat

/- Contracts: Check, of both sides. -/
namespace Go.Proofs.YtophcgbddccpeaaGreat
open Go.RowKit

set_option maxHeartbeats 8000000 in
theorem perm_check_any (v r w x u g a d : Bool) (rsw ppn acc : Int) (user sum mxr : Bool) (W : World) :
    Calls Tryz.prog 53 #[.agg #[.bool v, .bool r, .bool w, .bool x, .bool u, .bool g, .bool a, .bool d, .int .i64 rsw, .int .u64 ppn], .int .i64 acc, .agg #[.bool user, .bool sum, .bool mxr]] W fun e w' => e = .returned (.bool (checkB v r w x u a d acc user sum mxr)) ∧ Below W.heap.size W w' := by
  have key : ∀ R L E A : Bool, rightB v r w = R → leafB r x = L → (acc == 0) = E → allowsB r w x d acc mxr = A →
      Calls Tryz.prog 53 #[.agg #[.bool v, .bool r, .bool w, .bool x, .bool u, .bool g, .bool a, .bool d, .int .i64 rsw, .int .u64 ppn], .int .i64 acc, .agg #[.bool user, .bool sum, .bool mxr]] W fun e w' => e = .returned (.bool (R && L && a && !(user && !u) && !(!user && u && (E || !sum)) && A)) ∧ Below W.heap.size W w' := by
    intro R L E A hR hL hE hA
    have HR := Lib.hid hR
    have HL := Lib.hid hL
    have HA := Lib.hid hA
    clear hR hL hA
    cases R
    · go_enter Tryz.func53, Tryz.ntmps53
      go_wp2_with (go_at_call 80; refine (perm_right_any _ _ _ _ _ _ _ _ _ _ _).mono ?_; rintro e w' ⟨rfl, rfl⟩; rw [HR.out])
      go_ret
      exact ⟨rfl, by go_grown⟩
    cases L
    · go_enter Tryz.func53, Tryz.ntmps53
      go_wp2_with (first | (go_at_call 80; refine (perm_right_any _ _ _ _ _ _ _ _ _ _ _).mono ?_; rintro e w' ⟨rfl, rfl⟩; rw [HR.out]) | (go_at_call 81; refine (perm_leaf_any _ _ _ _ _ _ _ _ _ _ _).mono ?_; rintro e w' ⟨rfl, rfl⟩; rw [HL.out]))
      go_ret
      exact ⟨rfl, by go_grown⟩
    cases a
    · go_enter Tryz.func53, Tryz.ntmps53
      go_wp2_with (first | (go_at_call 80; refine (perm_right_any _ _ _ _ _ _ _ _ _ _ _).mono ?_; rintro e w' ⟨rfl, rfl⟩; rw [HR.out]) | (go_at_call 81; refine (perm_leaf_any _ _ _ _ _ _ _ _ _ _ _).mono ?_; rintro e w' ⟨rfl, rfl⟩; rw [HL.out]))
      go_ret
      exact ⟨rfl, by go_grown⟩
    cases user <;> cases u <;> cases E <;> cases sum
    all_goals
      go_enter Tryz.func53, Tryz.ntmps53
      go_wp2_with (first | (go_at_call 80; refine (perm_right_any _ _ _ _ _ _ _ _ _ _ _).mono ?_; rintro e w' ⟨rfl, rfl⟩; rw [HR.out]) | (go_at_call 81; refine (perm_leaf_any _ _ _ _ _ _ _ _ _ _ _).mono ?_; rintro e w' ⟨rfl, rfl⟩; rw [HL.out]) | (go_at_call 82; refine (allows_any _ _ _ _ _ _ _ _ _ _ _ _ _).mono ?_; rintro e w' ⟨rfl, rfl⟩; rw [HA.out]))
      go_ret
      exact ⟨rfl, by go_grown⟩
  exact key _ _ _ _ rfl rfl rfl rfl
end Go.Proofs.YtophcgbddccpeaaGreat

/- Contract: the reference's Check. -/
namespace Go.Proofs.YtophcgbddccpeaaGreat
open Go.RowKit

/-- The reference's answer, as it is spelled there. -/
def rcheckB (v r w x u a d : Bool) (acc : Int) (user sum mxr : Bool) : Bool :=
  if !v || (w && !r) || (!r && !x) || !a then false
  else if (user != u) && (user || acc == 0 || !sum) then false
  else if acc == 0 then x else if acc == 1 then r || mxr else acc == 2 && w && d

theorem rcheckB_eq (v r w x u a d : Bool) (acc : Int) (user sum mxr : Bool) : rcheckB v r w x u a d acc user sum mxr = checkB v r w x u a d acc user sum mxr := by
  unfold rcheckB checkB rightB leafB allowsB
  generalize (acc == 0) = e0
  generalize (acc == 1) = e1
  generalize (acc == 2) = e2
  cases v <;> cases r <;> cases w <;> cases x <;> cases a <;> cases u <;> cases user <;> simp <;> (cases sum <;> cases mxr <;> cases e0 <;> cases e1 <;> cases e2 <;> simp)

end Go.Proofs.YtophcgbddccpeaaGreat

/- Contract of perm.places: the eight flags' addresses. -/
namespace Go.Proofs.YtophcgbddccpeaaGreat
open Go.RowKit

theorem perm_save_alloc (W : World) (o o' : Obj) : Save W.heap.size (W.alloc o) (W.alloc o') := fun p hp => by
  rcases Nat.lt_or_ge p.block W.heap.size with h | h
  · rw [World.cell?_alloc_lt _ _ _ h, World.cell?_alloc_lt _ _ _ h]
  · have h1 : ∀ q : Obj, (W.alloc q).heap[p.block]? = none := fun q => Array.getElem?_eq_none (by simp; omega)
    simp [World.cell?, h1]
theorem places_any (g : Nat) (W : World) :
    Calls Tryz.prog 90 #[.pointer (some ⟨g, 0, none⟩)] W fun e w' => e = .returned (.agg #[.pointer (some ⟨g, 0, none⟩), .pointer (some ⟨g, 1, none⟩), .pointer (some ⟨g, 2, none⟩), .pointer (some ⟨g, 3, none⟩), .pointer (some ⟨g, 4, none⟩), .pointer (some ⟨g, 5, none⟩), .pointer (some ⟨g, 6, none⟩), .pointer (some ⟨g, 7, none⟩)]) ∧ (W.alloc (.cells #[.pointer (some ⟨g, 0, none⟩), .pointer (some ⟨g, 1, none⟩), .pointer (some ⟨g, 2, none⟩), .pointer (some ⟨g, 3, none⟩), .pointer (some ⟨g, 4, none⟩), .pointer (some ⟨g, 5, none⟩), .pointer (some ⟨g, 6, none⟩), .pointer (some ⟨g, 7, none⟩)] 170)).drew = w' := by
  go_enter Tryz.func90, Tryz.ntmps90
  go_wp2
  refine wp_region_plan_by (Save W.heap.size) (later_save _) [(0, false), (1, false), (2, false), (3, false), (4, false), (5, false), (6, false), (7, false), (8, false), (9, false), (10, false), (11, false), (12, false), (13, false), (14, false), (15, false), (16, false), (17, false), (18, false), (19, false), (20, false), (21, false), (22, false), (23, false), (24, false), (25, true)] (by kernel_rfl) (by kernel_rfl) (fun _ d _ _ _ h => by cases d <;> exact h) ?_
  iterate 25 (refine plan_take (v := ?_) rfl (by kernel_rfl) ?_ ?_; rotate_left; (focus (intro w' hw'; try go_simp; try with_reducible rfl)); simp only [Act.put, List.setIfInBounds_toArray, List.set_cons_zero, List.set_cons_succ])
  refine plan_turn rfl (by kernel_rfl) (fun K hK => ?_)
  go_simp
  refine hK _ _ ⟨perm_save_alloc _ _ _, ?_⟩
  refine plan_end ?_
  go_wp2
  exact bodyPost_ret (v := .agg #[.pointer (some ⟨g, 0, none⟩), .pointer (some ⟨g, 1, none⟩), .pointer (some ⟨g, 2, none⟩), .pointer (some ⟨g, 3, none⟩), .pointer (some ⟨g, 4, none⟩), .pointer (some ⟨g, 5, none⟩), .pointer (some ⟨g, 6, none⟩), .pointer (some ⟨g, 7, none⟩)]) (by simp [results, Tryz.results90, go_sem]) rfl ⟨rfl, rfl⟩
end Go.Proofs.YtophcgbddccpeaaGreat
