/- The rest of a region that draws its order, whatever the order: each operation, once those that it waits for have done their part, does its own. -/
import Derived.Test.YtophcgbddccpeaaGreatPlanT
namespace Go.Proofs.YtophcgbddccpeaaGreat
open Go.RowKit

/-- The slots of the operations that are left, filled. -/
def fill (a : Act) (x : Nat → Value) : List (Nat × Option Tmp) → Act
  | [] => a
  | p :: r => fill (a.put p.2 (x p.1)) x r
def upd (x : Nat → Value) (i : Nat) (v : Value) : Nat → Value := fun j => if j = i then v else x j
def clashes (p q : Nat × Option Tmp) : Bool := q.1 == p.1 || (p.2.isSome && q.2 == p.2)
def apartL : List (Nat × Option Tmp) → Bool
  | [] => true
  | p :: r => r.all (fun q => !clashes p q) && apartL r
/-- Listed already. -/
def doneL (n : Nat) (l : List Nat) : Array Bool := l.foldl (fun a i => a.setIfInBounds i true) (Array.replicate n false)

theorem put_put (a : Act) (d : Option Tmp) (u v : Value) : (a.put d u).put d v = a.put d v := by
  cases d with
  | none => rfl
  | some d => simp [Act.put]
theorem put_fill (x : Nat → Value) (d : Option Tmp) (v : Value) : ∀ (r : List (Nat × Option Tmp)) (a : Act), (∀ q ∈ r, d.isSome = true → q.2 ≠ d) → (fill a x r).put d v = fill (a.put d v) x r
  | [], _, _ => rfl
  | q :: r, a, h => by
    have h1 := h q (by simp)
    show (fill (a.put q.2 (x q.1)) x r).put d v = fill ((a.put d v).put q.2 (x q.1)) x r
    rw [put_fill x d v r _ (fun q hq => h q (by simp [hq]))]
    congr 1
    refine Act.put_comm a _ _ fun e he hd => ?_
    exact h1 (by rw [hd]; rfl) (by rw [he, hd])
theorem fill_upd (x : Nat → Value) (i : Nat) (v : Value) : ∀ (r : List (Nat × Option Tmp)) (a : Act), (∀ q ∈ r, q.1 ≠ i) → fill a (upd x i v) r = fill a x r
  | [], _, _ => rfl
  | q :: r, a, h => by
    show fill (a.put q.2 (upd x i v q.1)) (upd x i v) r = fill (a.put q.2 (x q.1)) x r
    rw [fill_upd x i v r _ (fun q hq => h q (by simp [hq])), show upd x i v q.1 = x q.1 from if_neg (h q (by simp))]
theorem fill_put (x : Nat → Value) (i : Nat) (d : Option Tmp) (v : Value) : ∀ (r : List (Nat × Option Tmp)) (a : Act), apartL r = true → (i, d) ∈ r → (fill a x r).put d v = fill a (upd x i v) r
  | [], _, _, h => by simp at h
  | p :: r, a, hp, h => by
    simp only [apartL, Bool.and_eq_true, List.all_eq_true, Bool.not_eq_true'] at hp
    have hc := hp.1
    rcases List.mem_cons.1 h with rfl | h
    · show (fill (a.put d (x i)) x r).put d v = fill (a.put d (upd x i v i)) (upd x i v) r
      rw [put_fill x d v r _ (fun q hq hd => by
        have := hc q hq
        simp only [clashes, hd, Bool.true_and, Bool.or_eq_false_iff, beq_eq_false_iff_ne] at this
        exact this.2), put_put, fill_upd x i v r _ (fun q hq => by
        have := hc q hq
        simp only [clashes, Bool.or_eq_false_iff, beq_eq_false_iff_ne] at this
        exact this.1), show upd x i v i = v from if_pos rfl]
    · show (fill (a.put p.2 (x p.1)) x r).put d v = fill (a.put p.2 (upd x i v p.1)) (upd x i v) r
      have := hc _ h
      simp only [clashes, Bool.or_eq_false_iff, beq_eq_false_iff_ne] at this
      rw [fill_put x i d v r _ hp.2 h, show upd x i v p.1 = x p.1 from if_neg (fun e => this.1 e.symm)]
/-- What stands in the slots. -/
def slotsOf (a : Act) (ds : List (Nat × Option Tmp)) (i : Nat) : Value :=
  match ds.find? (fun p => p.1 == i) with
  | some (_, some d) => a.tmps.getD d undef
  | _ => undef
theorem set_getD (t : Array Value) (d : Nat) : t.setIfInBounds d (t.getD d undef) = t := by
  apply Array.ext_getElem?
  intro i
  rw [Array.getElem?_setIfInBounds]
  by_cases h : d = i
  · subst h
    rw [if_pos rfl]
    by_cases hd : d < t.size
    · simp [hd]
    · simp [hd]
  · rw [if_neg h]
theorem put_self (a : Act) (d : Nat) : a.put (some d) (a.tmps.getD d undef) = a := by
  show ({ a with tmps := a.tmps.setIfInBounds d (a.tmps.getD d undef) } : Act) = a
  rw [set_getD]
theorem fill_self (ds : List (Nat × Option Tmp)) (a : Act) : ∀ (r : List (Nat × Option Tmp)), (∀ p ∈ r, ds.find? (fun q => q.1 == p.1) = some p) → fill a (slotsOf a ds) r = a
  | [], _ => rfl
  | p :: r, h => by
    have h1 := h p (by simp)
    show fill (a.put p.2 (slotsOf a ds p.1)) (slotsOf a ds) r = a
    have e : a.put p.2 (slotsOf a ds p.1) = a := by
      unfold slotsOf
      rw [h1]
      cases hp : p.2 with
      | none => rfl
      | some d =>
        obtain ⟨i, d'⟩ := p
        simp only at hp
        subst hp
        exact put_self a d
    rw [e]
    exact fill_self ds a r (fun q hq => h q (by simp [hq]))

section
variable {P : Program} {ls : List Oper} {Q : Exit → Act → World → Prop} {R : World → World → Prop}
/-- What one operation owes. -/
def InvStep (R : World → World → Prop) (P : Program) (ls : List Oper) (Q : Exit → Act → World → Prop) (ds : List (Nat × Option Tmp)) (Pr : Nat → Value → World → Prop) (a0 : Act) (w0 : World) (p : Nat × Option Tmp) : Prop :=
  ∃ o, opAt ls p.1 = some o ∧ ∀ x w, R w0 w → (∀ j, (o.after.any (fun e => Region.binds .any e && e.on == j) && ds.any (fun q => q.1 == j)) = true → Pr j (x j) w) →
    wpOp P ls.toArray Q p.1 (fun a' w' => R w w' ∧ ∃ v, a' = (fill a0 x ds).put p.2 v ∧ Pr p.1 v w') (fill a0 x ds) w
def allP {α : Type} (f : α → Prop) : List α → Prop
  | [] => True
  | a :: r => f a ∧ allP f r
theorem allP_mem {α : Type} {f : α → Prop} : ∀ {l : List α}, allP f l → ∀ a ∈ l, f a
  | [], _, _, h => by simp at h
  | b :: r, h, a, ha => by
    rcases List.mem_cons.1 ha with rfl | ha
    · exact h.1
    · exact allP_mem h.2 a ha
/-- The checks: which operations are taken in any order; each waits for earlier ones alone, of these or listed ones; all others wait for these. -/
def restOK (ls : List Oper) (ds : List (Nat × Option Tmp)) (L : Array Bool) : Bool :=
  apartL ds && ds.all (fun p => ds.find? (fun q => q.1 == p.1) == some p && L.getD p.1 true == false && (match opAt ls p.1 with | some o => o.dst == p.2 && o.after.all (fun e => !Region.binds .any e || (Nat.blt e.on p.1 && (L.getD e.on false || ds.any (fun q => q.1 == e.on)))) | none => false)) &&
  (List.range L.size).all (fun i => L.getD i true || ds.any (fun q => q.1 == i) || ds.all (fun p => (match opAt ls i with | some o => o.after.any (fun e => Region.binds .any e && e.on == p.1) | none => false)))
/-- These listed too. -/
def alsoL (L : Array Bool) (ds : List (Nat × Option Tmp)) : Array Bool := ds.foldl (fun a p => a.setIfInBounds p.1 true) L
theorem alsoL_size (ds : List (Nat × Option Tmp)) : ∀ (L : Array Bool), (alsoL L ds).size = L.size := by
  induction ds with
  | nil => intro L; rfl
  | cons p r ih => intro L; show (alsoL (L.setIfInBounds p.1 true) r).size = _; rw [ih, Array.size_setIfInBounds]
theorem alsoL_get (ds : List (Nat × Option Tmp)) : ∀ (L : Array Bool) (i : Nat), (alsoL L ds).getD i true = (L.getD i true || ds.any (fun p => p.1 == i)) := by
  induction ds with
  | nil => intro L i; simp [alsoL]
  | cons p r ih =>
    intro L i
    show (alsoL (L.setIfInBounds p.1 true) r).getD i true = _
    rw [ih, List.any_cons]
    by_cases h : p.1 = i
    · subst h
      have : (L.setIfInBounds p.1 true).getD p.1 true = true := by simp [Array.getD]
      rw [this]
      simp
    · rw [getD_set_ne true h, beq_eq_false_iff_ne.2 h, Bool.false_or]
theorem bools_ext {a b : Array Bool} (hs : a.size = b.size) (h : ∀ i, a.getD i true = b.getD i true) : a = b := by
  apply Array.ext hs
  intro i h1 h2
  have := h i
  simpa [Array.getD, h1, h2] using this

theorem anyE_inv {R' : World → World → Prop} (hsub : ∀ w w', R w w' → R' w w') (hR : Later R) {ds : List (Nat × Option Tmp)} {Pr : Nat → Value → World → Prop} {a0 : Act} {w0 : World} {L : Array Bool} {k2 : Nat} (hok : restOK ls ds L = true)
    (hst : ∀ i v w w', R w w' → Pr i v w → Pr i v w') (hstep : allP (InvStep R P ls Q ds Pr a0 w0) ds)
    (hend : ∀ x w, R w0 w → (∀ p ∈ ds, Pr p.1 (x p.1) w) → ∀ n, k2 ≤ n → AnyE R' P .any ls.toArray Q n (alsoL L ds) (fill a0 x ds) w) :
    ∀ (n : Nat) (listed : Array Bool) (x : Nat → Value) (w : World), R w0 w → listed.size = L.size → (∀ i, listed.getD i true = false → L.getD i true = false) → (∀ i, listed.getD i true = true → L.getD i true = true ∨ ds.any (fun q => q.1 == i) = true) → (∀ i, L.getD i true = true → listed.getD i true = true) →
      (∀ p ∈ ds, listed.getD p.1 true = true → Pr p.1 (x p.1) w) → (ds.filter (fun p => !listed.getD p.1 true)).length + k2 ≤ n → AnyE R' P .any ls.toArray Q n listed (fill a0 x ds) w := by
  simp only [restOK, Bool.and_eq_true, List.all_eq_true, beq_iff_eq] at hok
  obtain ⟨⟨hap, hds⟩, hcov⟩ := hok
  have hop : ∀ p ∈ ds, ∃ o, opAt ls p.1 = some o ∧ o.dst = p.2 ∧ ∀ e ∈ o.after, Region.binds .any e = true → e.on < p.1 ∧ (L.getD e.on false = true ∨ ds.any (fun q => q.1 == e.on) = true) := fun p hp => by
    have := (hds p hp).2
    split at this
    · rename_i o ho
      simp only [Bool.and_eq_true, beq_iff_eq] at this
      refine ⟨o, ho, this.1, fun e he hb => ?_⟩
      have := Array.all_eq_true'.1 this.2 e he
      rw [hb] at this
      simp only [Bool.not_true, Bool.false_or, Bool.and_eq_true, Bool.or_eq_true] at this
      exact ⟨by simpa using this.1, this.2⟩
    · cases this
  have hltof : ∀ (listed : Array Bool) (i : Nat), listed.getD i true = false → i < listed.size := fun listed i hi => by
    rcases Nat.lt_or_ge i listed.size with h | h
    · exact h
    · simp [Array.getD, Nat.not_lt.2 h] at hi
  have hfalse : ∀ (listed : Array Bool) (i : Nat), listed.getD i false = true → listed.getD i true = true := fun listed i hi => by
    rcases Nat.lt_or_ge i listed.size with h | h
    · simpa [Array.getD, h] using hi
    · simp [Array.getD, Nat.not_lt.2 h]
  -- nothing is ready: all of these are listed
  have hfin : ∀ (listed : Array Bool), listed.size = L.size → (∀ i, L.getD i true = true → listed.getD i true = true) → Region.ready .any ls.toArray listed = [] → ∀ i, ds.any (fun q => q.1 == i) = true → listed.getD i true = true := fun listed hsz hl2 hr i => by
    induction i using Nat.strongRecOn with
    | _ i ih =>
      intro hi0
      cases hi : listed.getD i true with
      | true => rfl
      | false =>
        obtain ⟨q, hq, hqe⟩ := List.any_eq_true.1 hi0
        simp only [beq_iff_eq] at hqe
        subst hqe
        obtain ⟨o, ho, _, hlt⟩ := hop _ hq
        have hilt := hltof listed _ hi
        have : q.1 ∈ Region.ready .any ls.toArray listed := mem_ready.2 ⟨hi, o, by rw [← opAt_eq]; exact ho, fun e he hb => by
          obtain ⟨h1, h4⟩ := hlt e he hb
          have h2 : listed.getD e.on true = true := by
            rcases h4 with h4 | h4
            · exact hl2 _ (hfalse L _ h4)
            · exact ih _ h1 h4
          have h3 : e.on < listed.size := by omega
          simpa [Array.getD, h3] using h2⟩
        rw [hr] at this
        cases this
  have heq : ∀ (listed : Array Bool), listed.size = L.size → (∀ i, listed.getD i true = true → L.getD i true = true ∨ ds.any (fun q => q.1 == i) = true) → (∀ i, L.getD i true = true → listed.getD i true = true) → (∀ i, ds.any (fun q => q.1 == i) = true → listed.getD i true = true) → listed = alsoL L ds := fun listed hsz hl3 hl2 hall => by
    apply bools_ext (by rw [alsoL_size, hsz])
    intro i
    rw [alsoL_get, Bool.eq_iff_iff]
    simp only [Bool.or_eq_true]
    exact ⟨hl3 i, fun h => h.elim (hl2 i) (hall i)⟩
  have hanyof : ∀ p ∈ ds, ds.any (fun q => q.1 == p.1) = true := fun p hp => List.any_eq_true.2 ⟨p, hp, by simp⟩
  intro n
  induction n with
  | zero =>
    intro listed x w hw hsz hl hl3 hl2 hp hn
    have hall : ∀ p ∈ ds, listed.getD p.1 true = true := fun p hp' => by
      cases hi : listed.getD p.1 true with
      | true => rfl
      | false =>
        have : p ∈ ds.filter (fun p => !listed.getD p.1 true) := List.mem_filter.2 ⟨hp', by rw [hi]; rfl⟩
        have h0 : ds.filter (fun p => !listed.getD p.1 true) = [] := List.eq_nil_of_length_eq_zero (by omega)
        rw [h0] at this
        cases this
    have e := heq listed hsz hl3 hl2 (fun i hi => by
      obtain ⟨q, hq, hqe⟩ := List.any_eq_true.1 hi
      simp only [beq_iff_eq] at hqe
      subst hqe
      exact hall q hq)
    rw [e]
    exact hend x w hw (fun p hp' => hp p hp' (hall p hp')) 0 (by omega)
  | succ n ih =>
    intro listed x w hw hsz hl hl3 hl2 hp hn
    by_cases hdone : ∀ i, ds.any (fun q => q.1 == i) = true → listed.getD i true = true
    · have e := heq listed hsz hl3 hl2 hdone
      rw [e]
      exact hend x w hw (fun p hp' => hp p hp' (hdone p.1 (hanyof p hp'))) (n + 1) (by omega)
    refine ⟨fun hr => absurd (hfin listed hsz hl2 hr) hdone, fun i hi => ?_⟩
    obtain ⟨h0, oi, hoi, hall⟩ := mem_ready.1 hi
    have hlst : ∀ e ∈ oi.after, Region.binds .any e = true → listed.getD e.on true = true := fun e he hb => hfalse _ _ (hall e he hb)
    have hin : ds.any (fun q => q.1 == i) = true := by
      have hc := hcov i (List.mem_range.2 (by have := hltof listed i h0; omega))
      rw [hl i h0, Bool.false_or, Bool.or_eq_true] at hc
      rcases hc with hc | hc
      · exact hc
      · exfalso
        apply hdone
        intro j hj
        obtain ⟨q, hq, hqe⟩ := List.any_eq_true.1 hj
        simp only [beq_iff_eq] at hqe
        subst hqe
        have h1 := List.all_eq_true.1 hc q hq
        have ho : opAt ls i = some oi := by rw [opAt_eq]; exact hoi
        rw [ho] at h1
        obtain ⟨e, he, hb⟩ := Array.any_eq_true'.1 h1
        simp only [Bool.and_eq_true, beq_iff_eq] at hb
        rw [← hb.2]
        exact hlst e he hb.1
    obtain ⟨q, hd, hqe⟩ := List.any_eq_true.1 hin
    simp only [beq_iff_eq] at hqe
    obtain ⟨i', d⟩ := q
    simp only at hqe
    subst hqe
    obtain ⟨o, ho, hs⟩ := allP_mem hstep _ hd
    have hoo : oi = o := by
      rw [← opAt_eq] at hoi
      exact Option.some.inj (hoi.symm.trans ho)
    subst hoo
    refine wpOp_mono ?_ (hs x w hw fun j hj => ?_)
    · rintro a' w' ⟨hww, v, rfl, hv⟩
      refine ⟨.inr (hsub _ _ hww), ?_⟩
      rw [fill_put x i' d v ds a0 hap hd]
      have hset : ∀ j, (listed.setIfInBounds i' true).getD j true = if j = i' then true else listed.getD j true := fun j => by
        by_cases hji : j = i'
        · subst hji
          rw [if_pos rfl]
          simp [Array.getD]
        · rw [if_neg hji, getD_set_ne true (Ne.symm hji)]
      refine ih _ _ _ (hR.trans hw hww) (by rw [Array.size_setIfInBounds]; exact hsz) (fun j hj => ?_) (fun j hj => ?_) (fun j hj => ?_) (fun p hp' hlp => ?_) ?_
      · rw [hset] at hj
        by_cases hji : j = i'
        · rw [if_pos hji] at hj; cases hj
        · rw [if_neg hji] at hj; exact hl j hj
      · rw [hset] at hj
        by_cases hji : j = i'
        · subst hji; exact .inr hin
        · rw [if_neg hji] at hj; exact hl3 j hj
      · rw [hset]
        split
        · rfl
        · exact hl2 j hj
      · rw [hset] at hlp
        by_cases hji : p.1 = i'
        · have hfi := (hds p hp').1.1
          have hfi2 := (hds _ hd).1.1
          simp only [hji] at hfi hfi2
          rw [hfi2] at hfi
          injection hfi with hfi
          subst hfi
          rw [show upd x i' v i' = v from if_pos rfl]
          exact hv
        · rw [if_neg hji] at hlp
          rw [show upd x i' v p.1 = x p.1 from if_neg hji]
          exact hst _ _ _ _ hww (hp p hp' hlp)
      · have hmem : (i', d) ∈ ds.filter (fun p => !listed.getD p.1 true) := List.mem_filter.2 ⟨hd, by simp only [h0]; rfl⟩
        have hsub : ∀ (r : List (Nat × Option Tmp)), (r.filter (fun p => !(listed.setIfInBounds i' true).getD p.1 true)).length ≤ (r.filter (fun p => !listed.getD p.1 true)).length ∧
            ((i', d) ∈ r.filter (fun p => !listed.getD p.1 true) → (r.filter (fun p => !(listed.setIfInBounds i' true).getD p.1 true)).length < (r.filter (fun p => !listed.getD p.1 true)).length) := by
          intro r
          induction r with
          | nil => exact ⟨by simp, fun h => by simp at h⟩
          | cons q r ihr =>
            rw [List.filter_cons, List.filter_cons, hset]
            by_cases hq : q.1 = i'
            · rw [if_pos hq, hq, h0]
              simp only [Bool.not_true, Bool.not_false, if_true, Bool.false_eq_true, if_false, List.length_cons]
              exact ⟨by omega, fun _ => by omega⟩
            · rw [if_neg hq]
              cases hlq : listed.getD q.1 true
              · simp only [Bool.not_false, if_true, List.length_cons, List.mem_cons]
                refine ⟨by omega, fun h => ?_⟩
                rcases h with h | h
                · exact absurd (by rw [← h]) hq
                · have := ihr.2 h; omega
              · simp only [Bool.not_true, Bool.false_eq_true, if_false]
                exact ihr
        have := (hsub ds).2 hmem
        omega
    · simp only [Bool.and_eq_true] at hj
      obtain ⟨e, he, hb⟩ := Array.any_eq_true'.1 hj.1
      simp only [Bool.and_eq_true, beq_iff_eq] at hb
      obtain ⟨q, hq, hqe⟩ := List.any_eq_true.1 hj.2
      simp only [beq_iff_eq] at hqe
      have h2 : listed.getD j true = true := by
        rw [← hb.2]
        exact hlst e he hb.1
      subst hqe
      exact hp q hq h2
/-- Some, in any order; then a plan for those that wait for all of them. -/
theorem pt_mid {R' : World → World → Prop} (hsub : ∀ w w', R w w' → R' w w') (hR' : Later R') (hR : Later R) {ds : List (Nat × Option Tmp)} (Pr : Nat → Value → World → Prop) (t : PT) {a : Act} {w : World} {k : Nat} {L : Array Bool} (hs : Region.noSelect ls.toArray = true) (hQ : ∀ c d v a w, Q (.panic c) (a.put d v) w → Q (.panic c) a w)
    (hk : ds.length + t.depth = k) (hok : restOK ls ds L = true) (hto : (ptOK .any ls.toArray t (alsoL L ds) && closedB .any ls.toArray (alsoL L ds)) = true)
    (hst : ∀ i v w w', R w w' → Pr i v w → Pr i v w') (hstep : allP (InvStep R P ls Q ds Pr a w) ds)
    (hend : ∀ x w', R w w' → (∀ p ∈ ds, Pr p.1 (x p.1) w') → wpPT R' P ls.toArray Q t (fill a x ds) w') : wpPT R' P ls.toArray Q (.rest k L) a w := by
  intro n hn
  rw [Bool.and_eq_true] at hto
  obtain ⟨hto, hcb⟩ := hto
  have hcl := closedB_spec hcb
  have hds := hok
  simp only [restOK, Bool.and_eq_true, List.all_eq_true, beq_iff_eq] at hds
  have h0 := anyE_inv (k2 := t.depth) hsub hR hok hst hstep (fun x w' hw hp m hm => anyE_of_pt hR' hs hQ t m _ _ _ hcl hm hto (hend x w' hw hp)) n L (slotsOf a ds) w (hR.refl w) rfl (fun _ h => h) (fun _ h => .inl h) (fun _ h => h) (fun p hp h => by
    have := (hds.1.2 p hp).1.2
    rw [this] at h
    cases h) (by have := List.length_filter_le (fun p => !L.getD p.1 true) ds; omega)
  rw [fill_self ds a ds (fun p hp => (hds.1.2 p hp).1.1)] at h0
  exact h0
/-- The rest, in any order. -/
theorem pt_rest (hR : Later R) {ds : List (Nat × Option Tmp)} (Pr : Nat → Value → World → Prop) {a : Act} {w : World} {k : Nat} {L : Array Bool} (hk : ds.length = k) (hok : (restOK ls ds L && (Region.ready .any ls.toArray (alsoL L ds)).isEmpty) = true)
    (hst : ∀ i v w w', R w w' → Pr i v w → Pr i v w') (hstep : allP (InvStep R P ls Q ds Pr a w) ds)
    (hend : ∀ x w', R w w' → (∀ p ∈ ds, Pr p.1 (x p.1) w') → Q .normal (fill a x ds) w') : wpPT R P ls.toArray Q (.rest k L) a w := by
  rw [Bool.and_eq_true] at hok
  obtain ⟨hok, hem⟩ := hok
  rw [List.isEmpty_iff] at hem
  intro n hn
  have hds := hok
  simp only [restOK, Bool.and_eq_true, List.all_eq_true, beq_iff_eq] at hds
  have h0 := anyE_inv (k2 := 0) (R' := R) (fun _ _ h => h) hR hok hst hstep (fun x w' hw hp m _ => by
    have hq := hend x w' hw hp
    cases m with
    | zero => exact ⟨hem, hq⟩
    | succ m => exact ⟨fun _ => hq, fun i hi => by rw [hem] at hi; cases hi⟩) n L (slotsOf a ds) w (hR.refl w) rfl (fun _ h => h) (fun _ h => .inl h) (fun _ h => h) (fun p hp h => by
    have := (hds.1.2 p hp).1.2
    rw [this] at h
    cases h) (by have := List.length_filter_le (fun p => !L.getD p.1 true) ds; omega)
  rw [fill_self ds a ds (fun p hp => (hds.1.2 p hp).1.1)] at h0
  exact h0
theorem inv_op {ds : List (Nat × Option Tmp)} {Pr : Nat → Value → World → Prop} {a0 : Act} {w0 : World} {i : Nat} {d : Option Tmp} {o : Oper} (ho : opAt ls i = some o)
    (h : ∀ x w, R w0 w → (∀ j, (o.after.any (fun e => Region.binds .any e && e.on == j) && ds.any (fun q => q.1 == j)) = true → Pr j (x j) w) →
      Region.wanted o (yielded ls.toArray (fill a0 x ds).tmps) = true ∧ ∀ K : Act → World → Prop, (∀ v w', R w w' → Pr i v w' → K ((fill a0 x ds).put o.dst v) w') → o.wp P (fill a0 x ds) w K Q)
    (hd : o.dst = d) : InvStep R P ls Q ds Pr a0 w0 (i, d) := by
  subst hd
  refine ⟨o, ho, fun x w hw hp => ?_⟩
  obtain ⟨h1, h2⟩ := h x w hw hp
  unfold wpOp
  simp only [← opAt_eq, ho, h1, if_true]
  exact .inl (h2 _ fun v w' hr hv => ⟨hr, v, rfl, hv⟩)
/-- An operation that yields a value and leaves the world alone. -/
theorem inv_pure (hR : Later R) {ds : List (Nat × Option Tmp)} {Pr : Nat → Value → World → Prop} {a0 : Act} {w0 : World} {i : Nat} {d : Option Tmp} {o : Oper} (ho : opAt ls i = some o)
    (h : ∀ x w, R w0 w → (∀ j, (o.after.any (fun e => Region.binds .any e && e.on == j) && ds.any (fun q => q.1 == j)) = true → Pr j (x j) w) →
      Region.wanted o (yielded ls.toArray (fill a0 x ds).tmps) = true ∧ ∃ v, (execOp (fill a0 x ds).eval o).run P w = .ok (.value v) w ∧ Pr i v w)
    (hd : o.dst = d) : InvStep R P ls Q ds Pr a0 w0 (i, d) := by
  refine inv_op ho (fun x w hw hp => ?_) hd
  obtain ⟨h1, v, h2, h3⟩ := h x w hw hp
  refine ⟨h1, fun K hK => ?_⟩
  unfold Oper.wp
  rw [h2]
  exact hK v w (hR.refl w) h3
/-- A call of a Go function. -/
theorem inv_call {ds : List (Nat × Option Tmp)} {Pr : Nat → Value → World → Prop} {a0 : Act} {w0 : World} {i : Nat} {d : Option Tmp} {o : Oper} (ho : opAt ls i = some o)
    (h : ∀ x w, R w0 w → (∀ j, (o.after.any (fun e => Region.binds .any e && e.on == j) && ds.any (fun q => q.1 == j)) = true → Pr j (x j) w) →
      Region.wanted o (yielded ls.toArray (fill a0 x ds).tmps) = true ∧ ∃ f args, (execOp (fill a0 x ds).eval o).run P w = .ok (.enter f args) w ∧ Calls P f args w fun e w' => ∃ v, e = .returned v ∧ R w w' ∧ Pr i v w')
    (hd : o.dst = d) : InvStep R P ls Q ds Pr a0 w0 (i, d) := by
  refine inv_op ho (fun x w hw hp => ?_) hd
  obtain ⟨h1, f, args, h2, h3⟩ := h x w hw hp
  refine ⟨h1, fun K hK => ?_⟩
  unfold Oper.wp
  rw [h2]
  refine h3.mono ?_
  rintro e w' ⟨v, rfl, hr, hv⟩
  exact hK v w' hr hv
/-- An operation whose guard says no. -/
theorem inv_skip (hR : Later R) {ds : List (Nat × Option Tmp)} {Pr : Nat → Value → World → Prop} {a0 : Act} {w0 : World} {i : Nat} {d : Option Tmp} {o : Oper} (ho : opAt ls i = some o)
    (h : ∀ x w, R w0 w → (∀ j, (o.after.any (fun e => Region.binds .any e && e.on == j) && ds.any (fun q => q.1 == j)) = true → Pr j (x j) w) →
      Region.wanted o (yielded ls.toArray (fill a0 x ds).tmps) = false ∧ Pr i undef w)
    (hd : o.dst = d) : InvStep R P ls Q ds Pr a0 w0 (i, d) := by
  subst hd
  refine ⟨o, ho, fun x w hw hp => ?_⟩
  obtain ⟨h1, h2⟩ := h x w hw hp
  unfold wpOp
  simp only [← opAt_eq, ho, h1]
  exact ⟨hR.refl w, undef, rfl, h2⟩
end
end Go.Proofs.YtophcgbddccpeaaGreat
