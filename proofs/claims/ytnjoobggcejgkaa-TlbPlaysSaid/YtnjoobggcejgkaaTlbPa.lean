/- Plain laws: what a buffer keeps; a buffer of one entry. -/
import Derived.Test.YtnjoobggcejgkaaTlbL
namespace Go.Proofs.Ytnjoobggcejgkaa
open Go.RowKit

theorem fillS_length (T : List (List En)) (va : Nat) (asid : Int) (lf : Lf) (pick : Int) : (fillS T va asid lf pick).length = T.length := by simp [fillS]
theorem fenceS_length (T : List (List En)) (vo : Option Nat) (ao : Option Int) : (fenceS T vo ao).length = T.length := by simp [fenceS]
theorem valid_fill {T : List (List En)} (h : Valid T) (va : Nat) (asid : Int) (lf : Lf) (pick : Int) (hl : levOK lf.lev = true) : Valid (fillS T va asid lf pick) := by
  intro s hs e he hf
  unfold fillS at hs
  rcases List.mem_or_eq_of_mem_set hs with hs | rfl
  · exact h s hs e he hf
  · rcases List.mem_or_eq_of_mem_set he with he | rfl
    · rw [List.getD_eq_getElem?_getD] at he
      cases hg : T[fillQ T va lf]? with
      | none => rw [hg] at he; simp at he
      | some s =>
        rw [hg] at he
        exact h s (List.mem_of_getElem? hg) e he hf
    · exact hl
theorem valid_fence {T : List (List En)} (h : Valid T) (vo : Option Nat) (ao : Option Int) : Valid (fenceS T vo ao) := by
  intro s hs e he hf
  unfold fenceS at hs
  obtain ⟨s0, hs0, rfl⟩ := List.mem_map.1 hs
  obtain ⟨e0, he0, rfl⟩ := List.mem_map.1 he
  unfold fen at hf ⊢
  split
  · rename_i hg; rw [if_pos hg] at hf; exact absurd hf (by decide)
  · rename_i hg; rw [if_neg hg] at hf; exact h s0 hs0 e0 he0 hf
def oneT (q : Nat) (e : En) : List (List En) := (emptyT 4 2).set q [e, en0]
theorem four {q : Nat} (h : q < 4) : q = 0 ∨ q = 1 ∨ q = 2 ∨ q = 3 := by omega
theorem fill_one (va : Nat) (asid : Int) (lf : Lf) (pick : Int) : fillS (emptyT 4 2) va asid lf pick = oneT (pgN va lf.lev % 4) (fillE va asid lf) := by
  have hq : pgN va lf.lev % 4 < 4 := Nat.mod_lt _ (by decide)
  have e : fillQ (emptyT 4 2) va lf = pgN va lf.lev % 4 := rfl
  unfold fillS
  rw [e]
  generalize pgN va lf.lev % 4 = q at *
  rcases four hq with rfl | rfl | rfl | rfl <;> rfl
theorem hit_en0 (l : Int) (va : Nat) (a : Int) : hitB l va a en0 = false := by simp [hitB, matchB, hasB, en0]
theorem way_one (q : Nat) (e : En) (hq : q < 4) (i : Nat) (hi : i < 4) (l : Int) (va : Nat) (a : Int) : wayFind ((oneT q e).getD i []) l va a = if i = q ∧ hitB l va a e = true then some e.lf else none := by
  have h0 : wayFind [en0, en0] l va a = none := by simp [wayFind, List.find?, hit_en0]
  have h1 : wayFind [e, en0] l va a = if hitB l va a e = true then some e.lf else none := by
    unfold wayFind
    cases h : hitB l va a e <;> simp [List.find?, h, hit_en0]
  have h2 : (oneT q e).getD i [] = if i = q then [e, en0] else [en0, en0] := by
    rcases four hq with rfl | rfl | rfl | rfl <;> rcases four hi with rfl | rfl | rfl | rfl <;> rfl
  rw [h2]
  by_cases hiq : i = q
  · rw [if_pos hiq, h1]; simp [hiq]
  · rw [if_neg hiq, h0]; simp [hiq]
theorem oneT_length (q : Nat) (e : En) : (oneT q e).length = 4 := by simp [oneT, emptyT]
theorem find_one (e : En) (va : Nat) (a : Int) (hl : levOK e.lf.lev = true) (hf : e.full = true) : findS (oneT (e.page % 4) e) va a = if e.page = pgN va e.lf.lev ∧ (e.asid == a || e.lf.g) = true then some e.lf else none := by
  have hq : e.page % 4 < 4 := Nat.mod_lt _ (by decide)
  have hw : ∀ l : Int, wayFind ((oneT (e.page % 4) e).getD (pgN va l % 4) []) l va a = if pgN va l % 4 = e.page % 4 ∧ hitB l va a e = true then some e.lf else none := fun l => way_one _ _ hq _ (Nat.mod_lt _ (by decide)) _ _ _
  have hh : ∀ l : Int, (pgN va l % 4 = e.page % 4 ∧ hitB l va a e = true) ↔ (e.lf.lev = l ∧ e.page = pgN va e.lf.lev ∧ (e.asid == a || e.lf.g) = true) := fun l => by
    simp only [hitB, matchB, hasB, hf, Bool.true_and, Bool.and_eq_true, beq_iff_eq]
    constructor
    · rintro ⟨_, h1, h2, h3⟩; exact ⟨h1, h2, h3⟩
    · rintro ⟨h1, h2, h3⟩; exact ⟨by rw [← h1, ← h2], h1, h2, h3⟩
  unfold findS
  rw [oneT_length, hw, hw, hw]
  simp only [hh]
  by_cases hc : e.page = pgN va e.lf.lev ∧ (e.asid == a || e.lf.g) = true
  · rw [if_pos hc]
    simp only [eq_true hc, and_true]
    rcases lev_cases hl with h | h | h <;> simp [h]
  · rw [if_neg hc]
    simp only [eq_false hc, and_false, if_false]
    rfl
theorem fen_en0 (vo : Option Nat) (ao : Option Int) : fen vo ao en0 = en0 := by unfold fen; split <;> rfl
theorem goes_en0 (vo : Option Nat) (ao : Option Int) : goesB en0 vo ao = false := by simp [goesB, en0]
theorem fence_one (q : Nat) (e : En) (hq : q < 4) (vo : Option Nat) (ao : Option Int) : fenceS (oneT q e) vo ao = oneT q (fen vo ao e) := by
  rcases four hq with rfl | rfl | rfl | rfl <;> simp [fenceS, oneT, emptyT, List.replicate, fen_en0]
theorem count_one (q : Nat) (e : En) (hq : q < 4) (vo : Option Nat) (ao : Option Int) : fenceN (oneT q e) vo ao = if goesB e vo ao then 1 else 0 := by
  rcases four hq with rfl | rfl | rfl | rfl <;> simp [fenceN, cntW, oneT, emptyT, List.replicate, List.countP_cons, goes_en0]
theorem one_en0 (q : Nat) : oneT q en0 = emptyT 4 2 := by
  unfold oneT
  rcases Nat.lt_or_ge q 4 with h | h
  · rcases four h with rfl | rfl | rfl | rfl <;> rfl
  · exact List.set_eq_of_length_le (by simpa [emptyT] using h)
theorem find_empty (va : Nat) (a : Int) : findS (emptyT 4 2) va a = none := by
  refine find_all fun l _ => ?_
  have h : ∀ i, i < 4 → (emptyT 4 2).getD i [] = [en0, en0] := fun i hi => by rcases four hi with rfl | rfl | rfl | rfl <;> rfl
  rw [show (emptyT 4 2).length = 4 from rfl, h _ (Nat.mod_lt _ (by decide))]
  simp [wayFind, List.find?, hit_en0]
theorem list_empty : listT 0 (emptyT 4 2) = [] := rfl
theorem i64_xor1 (a : Int) (h : -9223372036854775808 ≤ a ∧ a < 9223372036854775808) : bits .xor .i64 a 1 ≠ a := by
  show IntKind.i64.wrap ((BitVec.ofInt 64 a ^^^ BitVec.ofInt 64 1).toNat : Int) ≠ a
  intro e
  have h1 : (BitVec.ofInt 64 a ^^^ BitVec.ofInt 64 1).toNat % 18446744073709551616 = (a % 18446744073709551616).toNat := by
    have hlt := (BitVec.ofInt 64 a ^^^ BitVec.ofInt 64 1).isLt
    rw [IntKind.wrap_i64] at e
    omega
  have h2 : BitVec.ofInt 64 a ^^^ BitVec.ofInt 64 1 = BitVec.ofInt 64 a := by
    apply BitVec.eq_of_toNat_eq
    have hlt := (BitVec.ofInt 64 a ^^^ BitVec.ofInt 64 1).isLt
    rw [BitVec.toNat_ofInt]
    rw [Nat.mod_eq_of_lt hlt] at h1
    exact h1
  have h3 : BitVec.ofInt 64 1 = 0#64 := by
    have := congrArg (BitVec.ofInt 64 a ^^^ ·) h2
    simp only [← BitVec.xor_assoc, BitVec.xor_self, BitVec.zero_xor] at this
    exact this
  exact absurd h3 (by decide)
theorem i64_xor_lt (a : Int) : -9223372036854775808 ≤ bits .xor .i64 a 1 ∧ bits .xor .i64 a 1 < 9223372036854775808 := by
  show -9223372036854775808 ≤ IntKind.i64.wrap ((BitVec.ofInt 64 a ^^^ BitVec.ofInt 64 1).toNat : Int) ∧ IntKind.i64.wrap ((BitVec.ofInt 64 a ^^^ BitVec.ofInt 64 1).toNat : Int) < 9223372036854775808
  rw [IntKind.wrap_i64]
  omega
/-- The bytes of a page of a level. -/
def spanN (lev : Int) : Nat := 4096 * 2 ^ (9 * lev.toNat)
def inN (va other : Nat) (lev : Int) : Nat := va - va % spanN lev + other % spanN lev
theorem in_page (va other : Nat) (lev : Int) (hv : va < 18446744073709551616) (hl : levOK lev = true) : pgN (inN va other lev) lev = pgN va lev ∧ inN va other lev < 18446744073709551616 := by
  rcases lev_cases hl with rfl | rfl | rfl
  · simp [inN, spanN, pgN, vpnV]; omega
  · simp [inN, spanN, pgN, vpnV]; omega
  · simp [inN, spanN, pgN, vpnV]; omega
/-- What holds of a buffer of one entry. -/
structure Held (inn : Nat) (asid a' : Int) (l : Lf) (T : List (List En)) : Prop where
  len : T.length = 4
  val : Valid T
  f2 : findS T inn asid = some l
  f3 : findS T inn a' = if l.g then some l else none
  n1 : fenceN T (some inn) (some a') = 0
  t1 : fenceS T (some inn) (some a') = T
  n2 : fenceN T (some inn) none = 1
  t2 : fenceS T (some inn) none = emptyT 4 2
theorem held_fill (va other : Nat) (asid a' : Int) (l : Lf) (pick : Int) (hv : va < 18446744073709551616) (hl : levOK l.lev = true) (ha : a' ≠ asid) : Held (inN va other l.lev) asid a' l (fillS (emptyT 4 2) va asid l pick) := by
  obtain ⟨hp, _⟩ := in_page va other l.lev hv hl
  have hval : Valid (fillS (emptyT 4 2) va asid l pick) := valid_fill (empty_valid 4 2) _ _ _ _ hl
  have hq : pgN va l.lev % 4 < 4 := Nat.mod_lt _ (by decide)
  rw [fill_one] at hval ⊢
  have g1 : goesB (fillE va asid l) (some (inN va other l.lev)) (some a') = false := by
    have : (asid == a') = false := beq_eq_false_iff_ne.2 (fun h => ha h.symm)
    simp [goesB, asOK, fillE, this]
  have g2 : goesB (fillE va asid l) (some (inN va other l.lev)) none = true := by simp [goesB, vaOK, asOK, hasB, fillE, hp]
  refine ⟨oneT_length _ _, hval, ?_, ?_, ?_, ?_, ?_, ?_⟩
  · have := find_one (fillE va asid l) (inN va other l.lev) asid hl rfl
    rw [show (fillE va asid l).page = pgN va l.lev from rfl] at this
    rw [this, if_pos ⟨by rw [show (fillE va asid l).lf.lev = l.lev from rfl, hp], by simp [fillE]⟩]
    rfl
  · have := find_one (fillE va asid l) (inN va other l.lev) a' hl rfl
    rw [show (fillE va asid l).page = pgN va l.lev from rfl] at this
    rw [this]
    have h1 : (asid == a') = false := beq_eq_false_iff_ne.2 (fun h => ha h.symm)
    simp [fillE, hp, h1]
  · rw [count_one _ _ hq, g1]; rfl
  · rw [fence_one _ _ hq]
    unfold fen
    rw [g1]; rfl
  · rw [count_one _ _ hq, g2]; rfl
  · rw [fence_one _ _ hq]
    unfold fen
    rw [g2, if_pos rfl, one_en0]
/-- The address, as the walk reckons it. -/
theorem in_steps (va other : Nat) (lev : Int) (hv : va < 18446744073709551616) (hl : levOK lev = true) : ∃ sp p q s : Nat, 0 < sp ∧ IntKind.u64.wrap (4096 * 2 ^ (9 * lev).toNat) = (sp : Int) ∧ (va : Int).tmod (sp : Int) = (p : Int) ∧ (other : Int).tmod (sp : Int) = (q : Int) ∧ IntKind.u64.wrap ((va : Int) - p) = (s : Int) ∧ IntKind.u64.wrap ((s : Int) + q) = (inN va other lev : Int) := by
  have hi := (in_page va other lev hv hl).2
  unfold inN at hi ⊢
  refine ⟨spanN lev, va % spanN lev, other % spanN lev, va - va % spanN lev, ?_, ?_, ?_, ?_, ?_, ?_⟩
  · rcases lev_cases hl with rfl | rfl | rfl <;> decide
  · rcases lev_cases hl with rfl | rfl | rfl <;> rfl
  · rw [Int.tmod_eq_emod_of_nonneg (by omega)]; simp
  · rw [Int.tmod_eq_emod_of_nonneg (by omega)]; simp
  · have := Nat.mod_le va (spanN lev)
    rw [IntKind.wrap_u64]; omega
  · rw [IntKind.wrap_u64]; omega
end Go.Proofs.Ytnjoobggcejgkaa
