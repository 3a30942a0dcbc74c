/- Plans that fork: where two operations that turn the world wait for nothing of one another, both ways are walked. -/
import Derived.Test.YtophcgbddccpeaaGreatPlan
namespace Go.Proofs.YtophcgbddccpeaaGreat
open Go.RowKit

/-- A plan: 'step': yields the same in every later world; 'turn': alone; 'fork': one of two. -/
inductive PT where
  | done
  | step (i : Nat) (r : PT)
  | turn (i : Nat) (r : PT)
  | fork (i : Nat) (ri : PT) (j : Nat) (rj : PT)
  | fork3 (i : Nat) (ri : PT) (j : Nat) (rj : PT) (k : Nat) (rk : PT)
  | rest (k : Nat) (L : Array Bool)
def PT.steps : List Nat → PT → PT
  | [], r => r
  | i :: l, r => .step i (PT.steps l r)
def PT.depth : PT → Nat
  | .done => 0
  | .step _ r => r.depth + 1
  | .turn _ r => r.depth + 1
  | .fork _ ri _ rj => max ri.depth rj.depth + 1
  | .fork3 _ ri _ rj _ rk => max (max ri.depth rj.depth) rk.depth + 1
  | .rest k _ => k

section
variable {P : Program} {ops : Array Oper} {Q : Exit → Act → World → Prop} {md : Region.Mode} {R : World → World → Prop}
def wpPT (R : World → World → Prop) (P : Program) (ops : Array Oper) (Q : Exit → Act → World → Prop) : PT → Act → World → Prop
  | .done, a, w => Q .normal a w
  | .step i r, a, w => ∃ o v, ops[i]? = some o ∧ YieldsQ P ops (R w) o v a ∧ wpPT R P ops Q r (a.put o.dst v) w
  | .turn i r, a, w => wpOp P ops Q i (fun a' w' => (waitsAll .any ops i = true ∨ R w w') ∧ wpPT R P ops Q r a' w') a w
  | .fork i ri j rj, a, w => wpOp P ops Q i (fun a' w' => (waitsAll .any ops i = true ∨ R w w') ∧ wpPT R P ops Q ri a' w') a w ∧
      wpOp P ops Q j (fun a' w' => (waitsAll .any ops j = true ∨ R w w') ∧ wpPT R P ops Q rj a' w') a w
  | .fork3 i ri j rj k rk, a, w => wpOp P ops Q i (fun a' w' => (waitsAll .any ops i = true ∨ R w w') ∧ wpPT R P ops Q ri a' w') a w ∧
      wpOp P ops Q j (fun a' w' => (waitsAll .any ops j = true ∨ R w w') ∧ wpPT R P ops Q rj a' w') a w ∧
      wpOp P ops Q k (fun a' w' => (waitsAll .any ops k = true ∨ R w w') ∧ wpPT R P ops Q rk a' w') a w
  | .rest k L, a, w => ∀ n, k ≤ n → AnyE R P .any ops Q n L a w
def ptOK (md : Region.Mode) (ops : Array Oper) : PT → Array Bool → Bool
  | .done, listed => (Region.ready md ops listed).isEmpty
  | .step i r, listed => Region.free md ops listed i && (Region.ready md ops listed).contains i && ptOK md ops r (listed.setIfInBounds i true)
  | .turn i r, listed => Region.ready md ops listed == [i] && ptOK md ops r (listed.setIfInBounds i true)
  | .fork i ri j rj, listed => Region.ready md ops listed == [i, j] && ptOK md ops ri (listed.setIfInBounds i true) && ptOK md ops rj (listed.setIfInBounds j true)
  | .fork3 i ri j rj k rk, listed => Region.ready md ops listed == [i, j, k] && ptOK md ops ri (listed.setIfInBounds i true) && ptOK md ops rj (listed.setIfInBounds j true) && ptOK md ops rk (listed.setIfInBounds k true)
  | .rest _ L, listed => L == listed
theorem anyE_of_pt (hR : Later R) (hs : Region.noSelect ops = true) (hQ : ∀ c d v a w, Q (.panic c) (a.put d v) w → Q (.panic c) a w) :
    ∀ (l : PT) (n : Nat) (listed : Array Bool) (a : Act) (w : World), ClosedL .any ops listed → l.depth ≤ n → ptOK .any ops l listed = true → wpPT R P ops Q l a w → AnyE R P .any ops Q n listed a w
  | .done, n, listed, a, w, hcl, _, hp, h => by
    simp only [ptOK, List.isEmpty_iff] at hp
    cases n with
    | zero => exact ⟨hp, h⟩
    | succ n => exact ⟨fun _ => h, fun i hi => by rw [hp] at hi; cases hi⟩
  | .step i r, n, listed, a, w, hcl, hn, hp, h => by
    simp only [ptOK, Bool.and_eq_true] at hp
    obtain ⟨o, v, ho, hy, h⟩ := h
    obtain ⟨n, rfl⟩ : ∃ k, n = k + 1 := ⟨n - 1, by simp only [PT.depth] at hn; omega⟩
    exact anyE_first hR ho (Region.noSelect_spec hs) (fun c a w => hQ c o.dst v a w) n listed a w hcl (Region.free_spec ho hp.1.1) (by simpa using hp.1.2) hy
      (anyE_of_pt hR hs hQ r n _ _ _ (closed_set hcl (by simpa using hp.1.2)) (by simp only [PT.depth] at hn; omega) hp.2 h)
  | .turn i r, n, listed, a, w, hcl, hn, hp, h => by
    simp only [ptOK, Bool.and_eq_true, beq_iff_eq] at hp
    obtain ⟨n, rfl⟩ : ∃ k, n = k + 1 := ⟨n - 1, by simp only [PT.depth] at hn; omega⟩
    refine ⟨fun h0 => (by rw [hp.1] at h0; cases h0), fun j hj => ?_⟩
    rw [hp.1] at hj
    obtain rfl : j = i := by simpa using hj
    exact wpOp_mono (fun a' w' h' => ⟨h'.1, anyE_of_pt hR hs hQ r n _ _ _ (closed_set hcl (by rw [hp.1]; simp)) (by simp only [PT.depth] at hn; omega) hp.2 h'.2⟩) h
  | .fork i ri j rj, n, listed, a, w, hcl, hn, hp, h => by
    simp only [ptOK, Bool.and_eq_true, beq_iff_eq] at hp
    obtain ⟨n, rfl⟩ : ∃ k, n = k + 1 := ⟨n - 1, by simp only [PT.depth] at hn; omega⟩
    refine ⟨fun h0 => (by rw [hp.1.1] at h0; cases h0), fun k hk => ?_⟩
    rw [hp.1.1] at hk
    rcases (show k = i ∨ k = j by simpa using hk) with rfl | rfl
    · exact wpOp_mono (fun a' w' h' => ⟨h'.1, anyE_of_pt hR hs hQ ri n _ _ _ (closed_set hcl (by rw [hp.1.1]; simp)) (by simp only [PT.depth] at hn; omega) hp.1.2 h'.2⟩) h.1
    · exact wpOp_mono (fun a' w' h' => ⟨h'.1, anyE_of_pt hR hs hQ rj n _ _ _ (closed_set hcl (by rw [hp.1.1]; simp)) (by simp only [PT.depth] at hn; omega) hp.2 h'.2⟩) h.2
  | .fork3 i ri j rj k rk, n, listed, a, w, hcl, hn, hp, h => by
    simp only [ptOK, Bool.and_eq_true, beq_iff_eq] at hp
    obtain ⟨n, rfl⟩ : ∃ k, n = k + 1 := ⟨n - 1, by simp only [PT.depth] at hn; omega⟩
    refine ⟨fun h0 => (by rw [hp.1.1.1] at h0; cases h0), fun m hm => ?_⟩
    rw [hp.1.1.1] at hm
    rcases (show m = i ∨ m = j ∨ m = k by simpa using hm) with rfl | rfl | rfl
    · exact wpOp_mono (fun a' w' h' => ⟨h'.1, anyE_of_pt hR hs hQ ri n _ _ _ (closed_set hcl (by rw [hp.1.1.1]; simp)) (by simp only [PT.depth] at hn; omega) hp.1.1.2 h'.2⟩) h.1
    · exact wpOp_mono (fun a' w' h' => ⟨h'.1, anyE_of_pt hR hs hQ rj n _ _ _ (closed_set hcl (by rw [hp.1.1.1]; simp)) (by simp only [PT.depth] at hn; omega) hp.1.2 h'.2⟩) h.2.1
    · exact wpOp_mono (fun a' w' h' => ⟨h'.1, anyE_of_pt hR hs hQ rk n _ _ _ (closed_set hcl (by rw [hp.1.1.1]; simp)) (by simp only [PT.depth] at hn; omega) hp.2 h'.2⟩) h.2.2
  | .rest k L, n, listed, a, w, hcl, hn, hp, h => by
    simp only [ptOK, beq_iff_eq] at hp
    subst hp
    exact h n hn
/-- THE BEGINNING. -/
theorem wp_region_pt (R : World → World → Prop) (hR : Later R) {id : Nat} {a : Act} {w : World} (l : PT) (hm : P.follows .mixedOrders = true)
    (hl : (Region.noSelect ops && decide (l.depth ≤ ops.size) && ptOK .any ops l (Array.replicate ops.size false)) = true)
    (hQ : ∀ c d v a w, Q (.panic c) (a.put d v) w → Q (.panic c) a w)
    (h : wpPT R P ops Q l a w.drew) : (Code.region id ops true).wp P Q a w := by
  simp only [Bool.and_eq_true, decide_eq_true_eq] at hl
  exact wp_region_any hm (any_of_E (R := R) _ _ _ _ (anyE_of_pt hR hl.1.1 hQ l ops.size _ a w.drew (closed_none _) hl.1.2 hl.2 h))
variable {ls : List Oper}
theorem pt_take {i : Nat} {o : Oper} {v : Value} {r : PT} {a : Act} {w : World} (ho : opAt ls i = some o) (hw : Region.wanted o (yielded ls.toArray a.tmps) = true)
    (hy : ∀ w', R w w' → (execOp a.eval o).run P w' = .ok (.value v) w') (h : wpPT R P ls.toArray Q r (a.put o.dst v) w) : wpPT R P ls.toArray Q (.step i r) a w :=
  ⟨o, v, by rw [← opAt_eq]; exact ho, .inl ⟨hw, fun w' h' => .inl (hy w' h')⟩, h⟩
theorem pt_skip {i : Nat} {o : Oper} {r : PT} {a : Act} {w : World} (ho : opAt ls i = some o) (hw : Region.wanted o (yielded ls.toArray a.tmps) = false)
    (h : wpPT R P ls.toArray Q r (a.put o.dst undef) w) : wpPT R P ls.toArray Q (.step i r) a w :=
  ⟨o, undef, by rw [← opAt_eq]; exact ho, .inr ⟨hw, rfl⟩, h⟩
theorem pt_op {i : Nat} {o : Oper} {r : PT} {a : Act} {w : World} (ho : opAt ls i = some o) (hw : Region.wanted o (yielded ls.toArray a.tmps) = true)
    (h : ∀ K : Act → World → Prop, (∀ a' w', R w w' ∧ wpPT R P ls.toArray Q r a' w' → K a' w') → o.wp P a w K Q) :
    wpOp P ls.toArray Q i (fun a' w' => (waitsAll .any ls.toArray i = true ∨ R w w') ∧ wpPT R P ls.toArray Q r a' w') a w := by
  unfold wpOp
  simp only [← opAt_eq, ho, hw, if_true]
  exact .inl (h _ fun _ _ h => ⟨.inr h.1, h.2⟩)
theorem pt_opcall {i : Nat} {o : Oper} {r : PT} {a : Act} {w : World} {f : FuncId} {args : Array Value} (ho : opAt ls i = some o) (hw : Region.wanted o (yielded ls.toArray a.tmps) = true)
    (hx : (execOp a.eval o).run P w = .ok (.enter f args) w)
    (h : Calls P f args w fun e w' => ∃ v, e = .returned v ∧ R w w' ∧ wpPT R P ls.toArray Q r (a.put o.dst v) w') :
    wpOp P ls.toArray Q i (fun a' w' => (waitsAll .any ls.toArray i = true ∨ R w w') ∧ wpPT R P ls.toArray Q r a' w') a w := by
  refine pt_op ho hw fun K hK => ?_
  unfold Oper.wp
  rw [hx]
  refine h.mono ?_
  rintro e w' ⟨v, rfl, h1, h2⟩
  exact hK _ _ ⟨h1, h2⟩
theorem pt_fork {i j : Nat} {ri rj : PT} {a : Act} {w : World} (h1 : wpOp P ops Q i (fun a' w' => (waitsAll .any ops i = true ∨ R w w') ∧ wpPT R P ops Q ri a' w') a w)
    (h2 : wpOp P ops Q j (fun a' w' => (waitsAll .any ops j = true ∨ R w w') ∧ wpPT R P ops Q rj a' w') a w) : wpPT R P ops Q (.fork i ri j rj) a w := ⟨h1, h2⟩
theorem pt_fork3 {i j k : Nat} {ri rj rk : PT} {a : Act} {w : World} (h1 : wpOp P ops Q i (fun a' w' => (waitsAll .any ops i = true ∨ R w w') ∧ wpPT R P ops Q ri a' w') a w)
    (h2 : wpOp P ops Q j (fun a' w' => (waitsAll .any ops j = true ∨ R w w') ∧ wpPT R P ops Q rj a' w') a w)
    (h3 : wpOp P ops Q k (fun a' w' => (waitsAll .any ops k = true ∨ R w w') ∧ wpPT R P ops Q rk a' w') a w) : wpPT R P ops Q (.fork3 i ri j rj k rk) a w := ⟨h1, h2, h3⟩
theorem pt_turn {i : Nat} {r : PT} {a : Act} {w : World} (h1 : wpOp P ops Q i (fun a' w' => (waitsAll .any ops i = true ∨ R w w') ∧ wpPT R P ops Q r a' w') a w) : wpPT R P ops Q (.turn i r) a w := h1
theorem pt_end {a : Act} {w : World} (h : Q .normal a w) : wpPT R P ops Q .done a w := h
end
end Go.Proofs.YtophcgbddccpeaaGreat
