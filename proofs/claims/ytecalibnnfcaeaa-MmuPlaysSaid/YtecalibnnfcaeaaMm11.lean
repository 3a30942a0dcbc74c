/- Merged texts: TlbPa, TlbPb, TlbPc, TlbN, TlbO. -/
import Derived.Test.YtecalibnnfcaeaaMm10
import Derived.Test.YtecalibnnfcaeaaWide
import Derived.DeepKeys
import Derived.Test.YtecalibnnfcaeaaPlanT
/- Plain laws: what a buffer keeps; a buffer of one entry. -/
namespace Go.Proofs.Ytecalibnnfcaeaa
open Go.RowKit

theorem fillS_length (T : List (List En)) (va : Nat) (asid : Int) (lf : Tf) (pick : Int) : (fillS T va asid lf pick).length = T.length := by simp [fillS]
theorem fenceS_length (T : List (List En)) (vo : Option Nat) (ao : Option Int) : (fenceS T vo ao).length = T.length := by simp [fenceS]
theorem valid_fill {T : List (List En)} (h : Valid T) (va : Nat) (asid : Int) (lf : Tf) (pick : Int) (hl : levOK lf.lev = true) : Valid (fillS T va asid lf pick) := by
  intro s hs e he hf
  unfold fillS at hs
  rcases List.mem_or_eq_of_mem_set hs with hs | rfl
  · exact h s hs e he hf
  · rcases List.mem_or_eq_of_mem_set he with he | rfl
    · rw [List.getD_eq_getElem?_getD] at he
      cases hg : T[fillQ T va lf]? with
      | none => rw [hg] at he; simp at he
      | some s =>
        rw [hg] at he
        exact h s (List.mem_of_getElem? hg) e he hf
    · exact hl
theorem valid_fence {T : List (List En)} (h : Valid T) (vo : Option Nat) (ao : Option Int) : Valid (fenceS T vo ao) := by
  intro s hs e he hf
  unfold fenceS at hs
  obtain ⟨s0, hs0, rfl⟩ := List.mem_map.1 hs
  obtain ⟨e0, he0, rfl⟩ := List.mem_map.1 he
  unfold fen at hf ⊢
  split
  · rename_i hg; rw [if_pos hg] at hf; exact absurd hf (by decide)
  · rename_i hg; rw [if_neg hg] at hf; exact h s0 hs0 e0 he0 hf
def oneT (q : Nat) (e : En) : List (List En) := (emptyT 4 2).set q [e, en0]
theorem four {q : Nat} (h : q < 4) : q = 0 ∨ q = 1 ∨ q = 2 ∨ q = 3 := by omega
theorem fill_one (va : Nat) (asid : Int) (lf : Tf) (pick : Int) : fillS (emptyT 4 2) va asid lf pick = oneT (pgN va lf.lev % 4) (fillE va asid lf) := by
  have hq : pgN va lf.lev % 4 < 4 := Nat.mod_lt _ (by decide)
  have e : fillQ (emptyT 4 2) va lf = pgN va lf.lev % 4 := rfl
  unfold fillS
  rw [e]
  generalize pgN va lf.lev % 4 = q at *
  rcases four hq with rfl | rfl | rfl | rfl <;> rfl
theorem hit_en0 (l : Int) (va : Nat) (a : Int) : hitB l va a en0 = false := by simp [hitB, matchB, hasB, en0]
theorem way_one (q : Nat) (e : En) (hq : q < 4) (i : Nat) (hi : i < 4) (l : Int) (va : Nat) (a : Int) : wayFind ((oneT q e).getD i []) l va a = if i = q ∧ hitB l va a e = true then some e.lf else none := by
  have h0 : wayFind [en0, en0] l va a = none := by simp [wayFind, List.find?, hit_en0]
  have h1 : wayFind [e, en0] l va a = if hitB l va a e = true then some e.lf else none := by
    unfold wayFind
    cases h : hitB l va a e <;> simp [List.find?, h, hit_en0]
  have h2 : (oneT q e).getD i [] = if i = q then [e, en0] else [en0, en0] := by
    rcases four hq with rfl | rfl | rfl | rfl <;> rcases four hi with rfl | rfl | rfl | rfl <;> rfl
  rw [h2]
  by_cases hiq : i = q
  · rw [if_pos hiq, h1]; simp [hiq]
  · rw [if_neg hiq, h0]; simp [hiq]
theorem oneT_length (q : Nat) (e : En) : (oneT q e).length = 4 := by simp [oneT, emptyT]
theorem find_one (e : En) (va : Nat) (a : Int) (hl : levOK e.lf.lev = true) (hf : e.full = true) : findS (oneT (e.page % 4) e) va a = if e.page = pgN va e.lf.lev ∧ (e.asid == a || e.lf.g) = true then some e.lf else none := by
  have hq : e.page % 4 < 4 := Nat.mod_lt _ (by decide)
  have hw : ∀ l : Int, wayFind ((oneT (e.page % 4) e).getD (pgN va l % 4) []) l va a = if pgN va l % 4 = e.page % 4 ∧ hitB l va a e = true then some e.lf else none := fun l => way_one _ _ hq _ (Nat.mod_lt _ (by decide)) _ _ _
  have hh : ∀ l : Int, (pgN va l % 4 = e.page % 4 ∧ hitB l va a e = true) ↔ (e.lf.lev = l ∧ e.page = pgN va e.lf.lev ∧ (e.asid == a || e.lf.g) = true) := fun l => by
    simp only [hitB, matchB, hasB, hf, Bool.true_and, Bool.and_eq_true, beq_iff_eq]
    constructor
    · rintro ⟨_, h1, h2, h3⟩; exact ⟨h1, h2, h3⟩
    · rintro ⟨h1, h2, h3⟩; exact ⟨by rw [← h1, ← h2], h1, h2, h3⟩
  unfold findS
  rw [oneT_length, hw, hw, hw]
  simp only [hh]
  by_cases hc : e.page = pgN va e.lf.lev ∧ (e.asid == a || e.lf.g) = true
  · rw [if_pos hc]
    simp only [eq_true hc, and_true]
    rcases lev_cases hl with h | h | h <;> simp [h]
  · rw [if_neg hc]
    simp only [eq_false hc, and_false, if_false]
    rfl
theorem fen_en0 (vo : Option Nat) (ao : Option Int) : fen vo ao en0 = en0 := by unfold fen; split <;> rfl
theorem goes_en0 (vo : Option Nat) (ao : Option Int) : goesB en0 vo ao = false := by simp [goesB, en0]
theorem fence_one (q : Nat) (e : En) (hq : q < 4) (vo : Option Nat) (ao : Option Int) : fenceS (oneT q e) vo ao = oneT q (fen vo ao e) := by
  rcases four hq with rfl | rfl | rfl | rfl <;> simp [fenceS, oneT, emptyT, List.replicate, fen_en0]
theorem count_one (q : Nat) (e : En) (hq : q < 4) (vo : Option Nat) (ao : Option Int) : fenceN (oneT q e) vo ao = if goesB e vo ao then 1 else 0 := by
  rcases four hq with rfl | rfl | rfl | rfl <;> simp [fenceN, cntW, oneT, emptyT, List.replicate, List.countP_cons, goes_en0]
theorem one_en0 (q : Nat) : oneT q en0 = emptyT 4 2 := by
  unfold oneT
  rcases Nat.lt_or_ge q 4 with h | h
  · rcases four h with rfl | rfl | rfl | rfl <;> rfl
  · exact List.set_eq_of_length_le (by simpa [emptyT] using h)
theorem find_empty (va : Nat) (a : Int) : findS (emptyT 4 2) va a = none := by
  refine find_all fun l _ => ?_
  have h : ∀ i, i < 4 → (emptyT 4 2).getD i [] = [en0, en0] := fun i hi => by rcases four hi with rfl | rfl | rfl | rfl <;> rfl
  rw [show (emptyT 4 2).length = 4 from rfl, h _ (Nat.mod_lt _ (by decide))]
  simp [wayFind, List.find?, hit_en0]
theorem list_empty : listT 0 (emptyT 4 2) = [] := rfl
theorem i64_xor1 (a : Int) (h : -9223372036854775808 ≤ a ∧ a < 9223372036854775808) : bits .xor .i64 a 1 ≠ a := by
  show IntKind.i64.wrap ((BitVec.ofInt 64 a ^^^ BitVec.ofInt 64 1).toNat : Int) ≠ a
  intro e
  have h1 : (BitVec.ofInt 64 a ^^^ BitVec.ofInt 64 1).toNat % 18446744073709551616 = (a % 18446744073709551616).toNat := by
    have hlt := (BitVec.ofInt 64 a ^^^ BitVec.ofInt 64 1).isLt
    rw [IntKind.wrap_i64] at e
    omega
  have h2 : BitVec.ofInt 64 a ^^^ BitVec.ofInt 64 1 = BitVec.ofInt 64 a := by
    apply BitVec.eq_of_toNat_eq
    have hlt := (BitVec.ofInt 64 a ^^^ BitVec.ofInt 64 1).isLt
    rw [BitVec.toNat_ofInt]
    rw [Nat.mod_eq_of_lt hlt] at h1
    exact h1
  have h3 : BitVec.ofInt 64 1 = 0#64 := by
    have := congrArg (BitVec.ofInt 64 a ^^^ ·) h2
    simp only [← BitVec.xor_assoc, BitVec.xor_self, BitVec.zero_xor] at this
    exact this
  exact absurd h3 (by decide)
theorem i64_xor_lt (a : Int) : -9223372036854775808 ≤ bits .xor .i64 a 1 ∧ bits .xor .i64 a 1 < 9223372036854775808 := by
  show -9223372036854775808 ≤ IntKind.i64.wrap ((BitVec.ofInt 64 a ^^^ BitVec.ofInt 64 1).toNat : Int) ∧ IntKind.i64.wrap ((BitVec.ofInt 64 a ^^^ BitVec.ofInt 64 1).toNat : Int) < 9223372036854775808
  rw [IntKind.wrap_i64]
  omega
/-- The bytes of a page of a level. -/
def spanN (lev : Int) : Nat := 4096 * 2 ^ (9 * lev.toNat)
def inN (va other : Nat) (lev : Int) : Nat := va - va % spanN lev + other % spanN lev
theorem in_page (va other : Nat) (lev : Int) (hv : va < 18446744073709551616) (hl : levOK lev = true) : pgN (inN va other lev) lev = pgN va lev ∧ inN va other lev < 18446744073709551616 := by
  rcases lev_cases hl with rfl | rfl | rfl
  · simp [inN, spanN, pgN, vpnV]; omega
  · simp [inN, spanN, pgN, vpnV]; omega
  · simp [inN, spanN, pgN, vpnV]; omega
/-- What holds of a buffer of one entry. -/
structure Held (inn : Nat) (asid a' : Int) (l : Tf) (T : List (List En)) : Prop where
  len : T.length = 4
  val : Valid T
  f2 : findS T inn asid = some l
  f3 : findS T inn a' = if l.g then some l else none
  n1 : fenceN T (some inn) (some a') = 0
  t1 : fenceS T (some inn) (some a') = T
  n2 : fenceN T (some inn) none = 1
  t2 : fenceS T (some inn) none = emptyT 4 2
theorem held_fill (va other : Nat) (asid a' : Int) (l : Tf) (pick : Int) (hv : va < 18446744073709551616) (hl : levOK l.lev = true) (ha : a' ≠ asid) : Held (inN va other l.lev) asid a' l (fillS (emptyT 4 2) va asid l pick) := by
  obtain ⟨hp, _⟩ := in_page va other l.lev hv hl
  have hval : Valid (fillS (emptyT 4 2) va asid l pick) := valid_fill (empty_valid 4 2) _ _ _ _ hl
  have hq : pgN va l.lev % 4 < 4 := Nat.mod_lt _ (by decide)
  rw [fill_one] at hval ⊢
  have g1 : goesB (fillE va asid l) (some (inN va other l.lev)) (some a') = false := by
    have : (asid == a') = false := beq_eq_false_iff_ne.2 (fun h => ha h.symm)
    simp [goesB, asOK, fillE, this]
  have g2 : goesB (fillE va asid l) (some (inN va other l.lev)) none = true := by simp [goesB, vaOK, asOK, hasB, fillE, hp]
  refine ⟨oneT_length _ _, hval, ?_, ?_, ?_, ?_, ?_, ?_⟩
  · have := find_one (fillE va asid l) (inN va other l.lev) asid hl rfl
    rw [show (fillE va asid l).page = pgN va l.lev from rfl] at this
    rw [this, if_pos ⟨by rw [show (fillE va asid l).lf.lev = l.lev from rfl, hp], by simp [fillE]⟩]
    rfl
  · have := find_one (fillE va asid l) (inN va other l.lev) a' hl rfl
    rw [show (fillE va asid l).page = pgN va l.lev from rfl] at this
    rw [this]
    have h1 : (asid == a') = false := beq_eq_false_iff_ne.2 (fun h => ha h.symm)
    simp [fillE, hp, h1]
  · rw [count_one _ _ hq, g1]; rfl
  · rw [fence_one _ _ hq]
    unfold fen
    rw [g1]; rfl
  · rw [count_one _ _ hq, g2]; rfl
  · rw [fence_one _ _ hq]
    unfold fen
    rw [g2, if_pos rfl, one_en0]
/-- The address, as the walk reckons it. -/
theorem in_steps (va other : Nat) (lev : Int) (hv : va < 18446744073709551616) (hl : levOK lev = true) : ∃ sp p q s : Nat, 0 < sp ∧ IntKind.u64.wrap (4096 * 2 ^ (9 * lev).toNat) = (sp : Int) ∧ (va : Int).tmod (sp : Int) = (p : Int) ∧ (other : Int).tmod (sp : Int) = (q : Int) ∧ IntKind.u64.wrap ((va : Int) - p) = (s : Int) ∧ IntKind.u64.wrap ((s : Int) + q) = (inN va other lev : Int) := by
  have hi := (in_page va other lev hv hl).2
  unfold inN at hi ⊢
  refine ⟨spanN lev, va % spanN lev, other % spanN lev, va - va % spanN lev, ?_, ?_, ?_, ?_, ?_, ?_⟩
  · rcases lev_cases hl with rfl | rfl | rfl <;> decide
  · rcases lev_cases hl with rfl | rfl | rfl <;> rfl
  · rw [Int.tmod_eq_emod_of_nonneg (by omega)]; simp
  · rw [Int.tmod_eq_emod_of_nonneg (by omega)]; simp
  · have := Nat.mod_le va (spanN lev)
    rw [IntKind.wrap_u64]; omega
  · rw [IntKind.wrap_u64]; omega
end Go.Proofs.Ytecalibnnfcaeaa

/- Two leaves, two slots: the same? -/
namespace Go.Proofs.Ytecalibnnfcaeaa
open Go.RowKit Go.ChangeShapes

def tlb_LfWf (l : Tf) : Prop := (Lit.int .i64 l.rsw).wf = true ∧ (Lit.int .u64 l.ppn).wf = true ∧ (Lit.int .i64 l.lev).wf = true ∧ (Lit.int .u64 l.pos).wf = true
def Tf.cs (l : Tf) : Array Value := #[.bool l.v, .bool l.r, .bool l.w, .bool l.x, .bool l.u, .bool l.g, .bool l.a, .bool l.d, .int .i64 l.rsw, .int .u64 l.ppn, .int .i64 l.lev, .int .u64 l.pos]
theorem tlb_lcs_size (l : Tf) : l.cs.size = 12 := rfl
theorem tlb_lcs_toList (l : Tf) : l.cs.toList = l.vs := rfl
theorem tlb_lval_cs (l : Tf) : l.val = .agg l.cs := rfl
theorem tlb_one_lf (x : Tf) : ∀ u ∈ x.vs, u.oneCell' = true := by
  intro u hu
  simp [Tf.vs] at hu
  rcases hu with rfl | rfl | rfl | rfl | rfl | rfl | rfl | rfl | rfl | rfl | rfl | rfl <;> rfl
theorem tlb_lcs_one (l : Tf) : l.cs.all (·.oneCell') = true := Array.all_eq_true_iff_forall_mem.2 fun u hu => tlb_one_lf l u (by rw [← tlb_lcs_toList]; simpa using hu)
theorem tlb_leaf_row (l : Tf) : rowT Try.prog 97 l.cs.size = true := by rw [tlb_lcs_size]; kernel_rfl
def Tf.lits (l : Tf) : List Lit := [.bool l.v, .bool l.r, .bool l.w, .bool l.x, .bool l.u, .bool l.g, .bool l.a, .bool l.d, .int .i64 l.rsw, .int .u64 l.ppn, .int .i64 l.lev, .int .u64 l.pos]
theorem tlb_lits_inj (a b : Tf) : a.lits = b.lits ↔ a = b := by
  constructor
  · intro h
    cases a; cases b
    simp only [Tf.lits, List.cons.injEq, Lit.bool.injEq, Lit.int.injEq, true_and, and_true] at h
    obtain ⟨h1, h2, h3, h4, h5, h6, h7, h8, h9, h10, h11, h12⟩ := h
    simp only [Tf.mk.injEq]
    exact ⟨h1, h2, h3, h4, h5, h6, h7, h8, h9, by omega, h11, by omega⟩
  · rintro rfl; rfl
theorem tlb_key_pte (d : Nat) (l : Tf) (h : tlb_LfWf l) : Try.prog.keyLits (d + 2) 95 [.bool l.v, .bool l.r, .bool l.w, .bool l.x, .bool l.u, .bool l.g, .bool l.a, .bool l.d, .int .i64 l.rsw, .int .u64 l.ppn] = some [.bool l.v, .bool l.r, .bool l.w, .bool l.x, .bool l.u, .bool l.g, .bool l.a, .bool l.d, .int .i64 l.rsw, .int .u64 l.ppn] := by
  obtain ⟨h1, h2, h3, h4⟩ := h
  unfold Program.keyLits
  simp [Try.underlying95, c_pte, c_int, c_u64, c_bool, key_int, key_u64, key_bool, h1, h2]
theorem tlb_key_leaf (d : Nat) (l : Tf) (h : tlb_LfWf l) : Try.prog.keyLits (d + 3) 97 l.vs = some l.lits := by
  have hp := tlb_key_pte d l h
  obtain ⟨h1, h2, h3, h4⟩ := h
  unfold Program.keyLits Tf.vs Tf.lits
  simp [Try.underlying97, c_leaf, c_pte, c_int, c_u64, key_int, key_u64, hp, h3, h4]
theorem tlb_leaf_eq (W : World) (a b : Tf) (ha : tlb_LfWf a) (hb : tlb_LfWf b) : ∃ r : Bool, (Op.equalIn 10000 97 (.agg a.cs) (.agg b.cs)).run Try.prog W = .ok r W ∧ (r = true ↔ a = b) := by
  have h := run_equalIn_deep (P := Try.prog) 9995 5 97 (by kernel_rfl)
  obtain ⟨r, hr, hi⟩ := h W 5 5 _ _ _ _ (by kernel_rfl : (Value.agg a.cs).formed Try.prog 97 = true) (by kernel_rfl : (Value.agg b.cs).formed Try.prog 97 = true) (tlb_key_leaf 2 a ha) (tlb_key_leaf 2 b hb)
  exact ⟨r, hr, hi.trans (tlb_lits_inj a b)⟩
theorem tlb_leaf_same (W : World) (a : Tf) (ha : tlb_LfWf a) : (Op.equalIn 10000 97 (.agg a.cs) (.agg a.cs)).run Try.prog W = .ok true W := by
  obtain ⟨r, hr, hi⟩ := tlb_leaf_eq W a a ha ha
  rw [hi.2 rfl] at hr
  exact hr
end Go.Proofs.Ytecalibnnfcaeaa

/- What must be answered ahead of everything else. -/
namespace Go.Proofs.Ytecalibnnfcaeaa
open Go.RowKit

theorem BufAt.lt {w : World} {g gs : Nat} {G : Nat → Nat} {T : List (List En)} {m : Nat} (h : BufAt w g gs G T m) : ∀ k, bufF g gs G T.length k → k < w.heap.size := by
  rintro k (rfl | rfl | ⟨i, hi, rfl⟩)
  · obtain ⟨c, hc⟩ := h.head; exact hc.lt
  · obtain ⟨cur, ho, _⟩ := h.outer; exact ho.lt
  · exact (h.inner i hi).lt
/-- A buffer of the call's own, and locals that are leaves. -/
structure FS (W : World) (g gs : Nat) (G : Nat → Nat) (T : List (List En)) (m : Nat) (L : List (Nat × TypeId × Array Value)) (w : World) : Prop where
  buf : BufAt w g gs G T m
  low : ∀ k, bufF g gs G T.length k → W.heap.size ≤ k
  below : Below W.heap.size W w
  loc : ∀ p ∈ L, Blk w p.1 p.2.1 p.2.2 ∧ ¬ bufF g gs G T.length p.1
section
variable {W w w' : World} {g gs : Nat} {G : Nat → Nat} {T T' : List (List En)} {m : Nat} {L : List (Nat × TypeId × Array Value)}
theorem FS.start (hB : BufAt w g gs G T m) (hF : ∀ k, bufF g gs G T.length k → W.heap.size ≤ k) (hE : Below W.heap.size W w) : FS W g gs G T m [] w := ⟨hB, hF, hE, fun p hp => by simp at hp⟩
theorem FS.step (h : FS W g gs G T m L w) (hb : Below w.heap.size w w') : FS W g gs G T m L w' :=
  ⟨h.buf.below hb, h.low, h.below.trans (hb.mono h.below.size), fun p hp => ⟨(h.loc p hp).1.below hb (h.loc p hp).1.lt, (h.loc p hp).2⟩⟩
theorem FS.turn (h : FS W g gs G T m L w) (hB : BufAt w' g gs G T' m) (hk : Keeps (bufF g gs G T.length) w w') (hl : T'.length = T.length) : FS W g gs G T' m L w' :=
  ⟨hB, by rw [hl]; exact h.low, below_step h.below hk h.low h.below.size, fun p hp => ⟨hk.blk (h.loc p hp).1 (h.loc p hp).2, by rw [hl]; exact (h.loc p hp).2⟩⟩
theorem FS.push (h : FS W g gs G T m L w) (cs : Array Value) {n : Nat} (hn : n = w.heap.size) (t : TypeId := 97) : FS W g gs G T m ((n, t, cs) :: L) (w.alloc (.cells cs t)) := by
  subst hn
  refine ⟨(h.step ((Below.refl _ _).alloc (Nat.le_refl _) _)).buf, h.low, h.below.alloc h.below.size _, fun p hp => ?_⟩
  rcases List.mem_cons.1 hp with rfl | hp
  · exact ⟨Blkf.new_at _ _ _ _ rfl, fun hf => absurd (h.buf.lt _ hf) (Nat.lt_irrefl _)⟩
  · exact (h.step ((Below.refl _ _).alloc (Nat.le_refl _) _)).loc p hp
theorem FS.range (h : FS W g gs G T m L w) (i : Nat) (p : Nat × TypeId × Array Value) (hp : L[i]? = some p) : w.rangeAt p.1 0 p.2.2.toList := (h.loc p (List.mem_of_getElem? hp)).1.range
theorem FS.add (h : FS W g gs G T m L w) {b : Nat} {t : TypeId} {cs : Array Value} (hb : Blk w b t cs) (hne : ¬ bufF g gs G T.length b) : FS W g gs G T m ((b, t, cs) :: L) w :=
  ⟨h.buf, h.low, h.below, fun p hp => by
    rcases List.mem_cons.1 hp with rfl | hp
    · exact ⟨hb, hne⟩
    · exact h.loc p hp⟩
theorem FS.at_ (h : FS W g gs G T m L w) (i : Nat) (p : Nat × TypeId × Array Value) (hp : L[i]? = some p) : Blk w p.1 p.2.1 p.2.2 := (h.loc p (List.mem_of_getElem? hp)).1
end
theorem find_yes (g gs : Nat) (G : Nat → Nat) (T : List (List En)) (m : Nat) (va : Nat) (asid : Int) (l : Tf) (W : World) (hv : va < 18446744073709551616) (hn : 0 < T.length) (hn2 : T.length ≤ 64) (hm : m ≤ 8) (hB : BufAt W g gs G T m) (hval : Valid T) (hf : findS T va asid = some l) :
    Calls Try.prog 73 #[.pointer (some ⟨g, 0, none⟩), .int .u64 va, .int .i64 asid] W fun e w' => e = .returned (.tuple #[.agg l.cs, .bool true]) ∧ Below W.heap.size W w' :=
  (tlb_find_any g gs G T m va asid W hv hn hn2 hm hB hval).mono fun e w' ⟨h1, h2⟩ => ⟨by rw [h1, hf]; rfl, h2⟩
theorem find_not (g gs : Nat) (G : Nat → Nat) (T : List (List En)) (m : Nat) (va : Nat) (asid : Int) (W : World) (hv : va < 18446744073709551616) (hn : 0 < T.length) (hn2 : T.length ≤ 64) (hm : m ≤ 8) (hB : BufAt W g gs G T m) (hval : Valid T) (hf : findS T va asid = none) :
    Calls Try.prog 73 #[.pointer (some ⟨g, 0, none⟩), .int .u64 va, .int .i64 asid] W fun e w' => e = .returned (.tuple #[.agg tlb_lf0.cs, .bool false]) ∧ Below W.heap.size W w' :=
  (tlb_find_any g gs G T m va asid W hv hn hn2 hm hB hval).mono fun e w' ⟨h1, h2⟩ => ⟨by rw [h1, hf]; rfl, h2⟩
def x1 : Tf := ⟨true, true, false, false, false, false, false, false, 0, 7, 0, 0⟩
def y1 : Tf := ⟨true, true, false, false, false, false, false, false, 0, 512, 1, 0⟩
theorem x1_wf : tlb_LfWf x1 := by unfold tlb_LfWf; decide
theorem y1_wf : tlb_LfWf y1 := by unfold tlb_LfWf; decide
def T1 : List (List En) := fillS (emptyT 2 1) 4096 3 x1 0
def T2 : List (List En) := fillS T1 1073741824 3 y1 0
def T3 : List (List En) := fenceS T2 (some 1074934870) none
def T4 : List (List En) := fenceS T3 none none
theorem v1 : Valid T1 := valid_fill (empty_valid 2 1) _ _ _ _ (by decide)
theorem v2 : Valid T2 := valid_fill v1 _ _ _ _ (by decide)
theorem v3 : Valid T3 := valid_fence v2 _ _
theorem f1 : findS T2 8191 3 = some x1 := by rfl
theorem f2 : findS T2 1075838975 3 = some y1 := by rfl
theorem f3 : findS T2 4096 4 = none := by rfl
theorem f4 : (listT 0 T2).length = 2 := by rfl
theorem f5 : fenceN T2 (some 1074934870) none = 1 := by rfl
theorem f6 : fenceN T3 none none = 1 := by rfl
theorem len1 (T : List (List En)) (n : Nat) (h : (listT 0 T).length = n) (g gs : Nat) (G : Nat → Nat) (m : Nat) (W : World) (hn2 : T.length ≤ 64) (hm : m ≤ 8) (hB : BufAt W g gs G T m) :
    Calls Try.prog 26 #[.pointer (some ⟨g, 0, none⟩)] W fun e w' => e = .returned (.int .i64 n) ∧ Below W.heap.size W w' := by subst h; exact len_any g gs G T m W hn2 hm hB
end Go.Proofs.Ytecalibnnfcaeaa

/- The reference's slots and the buffer's sets: the plain law. -/
namespace Go.Proofs.Ytecalibnnfcaeaa
open Go.RowKit

def entSl (i y : Nat) (e : En) : Option Sl := if e.full then some ⟨i, y, e.asid, e.page, e.lf⟩ else none
def atT (T : List (List En)) (s y : Nat) : Option Sl := ((T.getD s [])[y]?).bind (entSl s y)
theorem atB_self (s y : Nat) (a : Int) (p : Nat) (l : Tf) : atB (s : Int) (y : Int) ⟨s, y, a, p, l⟩ = true := by simp [atB]
theorem atB_mk (s y s' y' : Nat) (a : Int) (p : Nat) (l : Tf) (h : ¬ (s' = s ∧ y' = y)) : atB (s : Int) (y : Int) ⟨s', y', a, p, l⟩ = false := by
  simp only [atB]
  rw [Bool.eq_false_iff]
  intro h2
  simp only [Bool.and_eq_true, beq_iff_eq] at h2
  exact h ⟨by omega, by omega⟩
theorem mem_listW {i : Nat} {x : Sl} : ∀ {l : List En} {k : Nat}, x ∈ listW i k l → ∃ j, x.set = (i : Int) ∧ x.way = ((k + j : Nat) : Int) ∧ (l[j]?).bind (entSl i (k + j)) = some x
  | [], k, h => by simp [listW] at h
  | e :: r, k, h => by
    rcases List.mem_append.1 h with h | h
    · by_cases hf : e.full = true
      · rw [if_pos hf] at h
        simp at h
        subst h
        exact ⟨0, rfl, rfl, by simp [entSl, hf]⟩
      · rw [if_neg hf] at h
        simp at h
    · obtain ⟨j, h1, h2, h3⟩ := mem_listW h
      exact ⟨j + 1, h1, by rw [h2]; congr 1; omega, by rw [show k + (j + 1) = k + 1 + j by omega]; simpa using h3⟩
theorem mem_listT {x : Sl} : ∀ {T : List (List En)} {i : Nat}, x ∈ listT i T → ∃ s y : Nat, x.set = ((i + s : Nat) : Int) ∧ x.way = (y : Int) ∧ ((T.getD s [])[y]?).bind (entSl (i + s) y) = some x
  | [], i, h => by simp [listT] at h
  | l :: r, i, h => by
    rcases List.mem_append.1 h with h | h
    · obtain ⟨j, h1, h2, h3⟩ := mem_listW h
      exact ⟨0, j, by simpa using h1, by simpa using h2, by simpa using h3⟩
    · obtain ⟨s, y, h1, h2, h3⟩ := mem_listT h
      exact ⟨s + 1, y, by rw [h1]; congr 1; omega, h2, by rw [show i + (s + 1) = i + 1 + s by omega]; simpa using h3⟩
theorem in_listW {i j : Nat} {x : Sl} : ∀ {l : List En} {k : Nat}, (l[j]?).bind (entSl i (k + j)) = some x → x ∈ listW i k l := by
  intro l
  induction l generalizing j with
  | nil => intro k h; simp at h
  | cons e r ih =>
    intro k h
    apply List.mem_append.2
    cases j with
    | zero =>
      simp only [List.getElem?_cons_zero, Option.bind_some, Nat.add_zero] at h
      unfold entSl at h
      split at h
      · rename_i hf
        injection h with h
        subst h
        left
        simp [hf]
      · cases h
    | succ j =>
      right
      exact ih (j := j) (by rw [show k + 1 + j = k + (j + 1) by omega]; simpa using h)
theorem in_listT {s y : Nat} {x : Sl} : ∀ {T : List (List En)} {i : Nat}, ((T.getD s [])[y]?).bind (entSl (i + s) y) = some x → x ∈ listT i T := by
  intro T
  induction T generalizing s with
  | nil => intro i h; simp at h
  | cons l r ih =>
    intro i h
    apply List.mem_append.2
    cases s with
    | zero => left; exact in_listW (j := y) (by simpa using h)
    | succ s => right; exact ih (s := s) (by rw [show i + 1 + s = i + (s + 1) by omega]; simpa using h)
theorem ent_key {s y : Nat} {e : En} {x : Sl} (h : entSl s y e = some x) : x.set = (s : Int) ∧ x.way = (y : Int) ∧ e.full = true ∧ x = ⟨s, y, e.asid, e.page, e.lf⟩ := by
  unfold entSl at h
  split at h
  · rename_i hf
    injection h with h
    subst h
    exact ⟨rfl, rfl, hf, rfl⟩
  · cases h
/-- What stands in a way. -/
theorem at_perm {L : List Sl} {T : List (List En)} (h : L.Perm (listT 0 T)) (s y : Nat) : atS L s y = atT T s y := by
  unfold atS
  cases hx : L.find? (atB s y) with
  | some x =>
    have h1 := List.find?_some hx
    have h2 := h.mem_iff.1 (List.mem_of_find?_eq_some hx)
    obtain ⟨s', y', e1, e2, e3⟩ := mem_listT h2
    simp only [atB, Bool.and_eq_true, beq_iff_eq] at h1
    obtain rfl : s' = s := by omega
    obtain rfl : y' = y := by omega
    rw [Nat.zero_add] at e3
    exact e3.symm
  | none =>
    cases ha : atT T s y with
    | none => rfl
    | some x =>
      have hm := h.mem_iff.2 (in_listT (i := 0) (by rw [Nat.zero_add]; exact ha))
      have := List.find?_eq_none.1 hx x hm
      unfold atT at ha
      cases hT : (T.getD s [])[y]? with
      | none => rw [hT] at ha; simp at ha
      | some e =>
        rw [hT] at ha
        obtain ⟨k1, k2, _, _⟩ := ent_key (e := e) (by simpa using ha)
        exact absurd (by simp [atB, k1, k2]) this
theorem keep_listW {i s y : Nat} {l : List En} {k : Nat} (h : s ≠ i ∨ y < k) : (listW i k l).filter (fun x => !atB s y x) = listW i k l := by
  rw [List.filter_eq_self]
  intro x hx
  obtain ⟨j, h1, h2, _⟩ := mem_listW hx
  rw [Bool.not_eq_true', Bool.eq_false_iff]
  intro h3
  simp only [atB, Bool.and_eq_true, beq_iff_eq] at h3
  omega
theorem keep_listT {i s y : Nat} {T : List (List En)} (h : s < i) : (listT i T).filter (fun x => !atB s y x) = listT i T := by
  rw [List.filter_eq_self]
  intro x hx
  obtain ⟨s', y', h1, h2, _⟩ := mem_listT hx
  rw [Bool.not_eq_true', Bool.eq_false_iff]
  intro h3
  simp only [atB, Bool.and_eq_true, beq_iff_eq] at h3
  omega
theorem opt_keep {s y i k : Nat} {e : En} (h : ¬ (i = s ∧ k = y)) : (if e.full then [(⟨i, k, e.asid, e.page, e.lf⟩ : Sl)] else []).filter (fun x => !atB s y x) = if e.full then [⟨i, k, e.asid, e.page, e.lf⟩] else [] := by
  split
  · rw [List.filter_cons, atB_mk _ _ _ _ _ _ _ h]; rfl
  · rfl
theorem opt_drop {s y : Nat} {e : En} : (if e.full then [(⟨s, y, e.asid, e.page, e.lf⟩ : Sl)] else []).filter (fun x => !atB s y x) = [] := by
  split
  · rw [List.filter_cons, atB_self]; rfl
  · rfl
theorem fill_listW {i : Nat} {e : En} (he : e.full = true) : ∀ (l : List En) (k v : Nat), v < l.length → ((listW i k l).filter (fun x => !atB i ((k + v : Nat) : Int) x) ++ [(⟨i, (k + v : Nat), e.asid, e.page, e.lf⟩ : Sl)]).Perm (listW i k (l.set v e))
  | [], k, v, h => by simp at h
  | a :: r, k, 0, h => by
    show (((if a.full then [(⟨i, k, a.asid, a.page, a.lf⟩ : Sl)] else []) ++ listW i (k + 1) r).filter _ ++ _).Perm ((if e.full then [(⟨i, k, e.asid, e.page, e.lf⟩ : Sl)] else []) ++ listW i (k + 1) r)
    rw [List.filter_append, Nat.add_zero, opt_drop, keep_listW (.inr (Nat.lt_succ_self _)), if_pos he, List.nil_append]
    exact List.perm_append_comm
  | a :: r, k, v + 1, h => by
    show (((if a.full then [(⟨i, k, a.asid, a.page, a.lf⟩ : Sl)] else []) ++ listW i (k + 1) r).filter _ ++ _).Perm ((if a.full then [(⟨i, k, a.asid, a.page, a.lf⟩ : Sl)] else []) ++ listW i (k + 1) (r.set v e))
    rw [List.filter_append, opt_keep (by omega), List.append_assoc]
    have := fill_listW (i := i) he r (k + 1) v (by simpa using h)
    rw [show k + 1 + v = k + (v + 1) by omega] at this
    exact this.append_left _
theorem fill_listT {e : En} {v : Nat} (he : e.full = true) : ∀ (T : List (List En)) (i q : Nat), q < T.length → v < (T.getD q []).length →
    ((listT i T).filter (fun x => !atB ((i + q : Nat) : Int) v x) ++ [(⟨(i + q : Nat), v, e.asid, e.page, e.lf⟩ : Sl)]).Perm (listT i (T.set q ((T.getD q []).set v e)))
  | [], i, q, h, _ => by simp at h
  | l :: r, i, 0, h, hv => by
    show ((listW i 0 l ++ listT (i + 1) r).filter _ ++ _).Perm (listW i 0 (l.set v e) ++ listT (i + 1) r)
    rw [List.filter_append, Nat.add_zero, keep_listT (Nat.lt_succ_self _)]
    have := fill_listW (i := i) he l 0 v (by simpa using hv)
    rw [Nat.zero_add] at this
    rw [List.append_assoc]
    refine (List.Perm.append_left _ List.perm_append_comm).trans ?_
    rw [← List.append_assoc]
    exact this.append_right _
  | l :: r, i, q + 1, h, hv => by
    show ((listW i 0 l ++ listT (i + 1) r).filter _ ++ _).Perm (listW i 0 l ++ listT (i + 1) (r.set q ((r.getD q []).set v e)))
    rw [List.filter_append, keep_listW (.inl (by omega)), List.append_assoc]
    have := fill_listT (v := v) he r (i + 1) q (by simpa using h) (by simpa using hv)
    rw [show i + 1 + q = i + (q + 1) by omega] at this
    exact this.append_left _
/-- Does a fence take a slot? -/
def goesL (vo : Option Nat) (ao : Option Int) (x : Sl) : Bool := goesB ⟨true, x.asid, x.page, x.lf⟩ vo ao
theorem fence_listW (vo : Option Nat) (ao : Option Int) (i : Nat) : ∀ (l : List En) (k : Nat), (listW i k l).filter (fun x => !goesL vo ao x) = listW i k (l.map (fen vo ao)) ∧ (listW i k l).countP (goesL vo ao) = cntW vo ao l
  | [], k => ⟨rfl, rfl⟩
  | e :: r, k => by
    obtain ⟨h1, h2⟩ := fence_listW vo ao i r (k + 1)
    constructor
    · show ((if e.full then [(⟨i, k, e.asid, e.page, e.lf⟩ : Sl)] else []) ++ listW i (k + 1) r).filter _ = (if (fen vo ao e).full then [(⟨i, k, (fen vo ao e).asid, (fen vo ao e).page, (fen vo ao e).lf⟩ : Sl)] else []) ++ listW i (k + 1) (r.map (fen vo ao))
      rw [List.filter_append, h1]
      congr 1
      cases hf : e.full with
      | false =>
        have : fen vo ao e = e := by unfold fen goesB; rw [hf]; simp
        rw [this, hf]; rfl
      | true =>
        have ee : (⟨true, e.asid, e.page, e.lf⟩ : En) = e := by cases e; simp_all
        rw [if_pos rfl, List.filter_cons]
        unfold goesL fen
        simp only [ee]
        cases hg : goesB e vo ao with
        | true => rfl
        | false => simp [hf]
    · show ((if e.full then [(⟨i, k, e.asid, e.page, e.lf⟩ : Sl)] else []) ++ listW i (k + 1) r).countP _ = (e :: r).countP _
      rw [List.countP_append, h2, List.countP_cons]
      show _ + cntW vo ao r = cntW vo ao r + _
      rw [Nat.add_comm]
      congr 1
      cases hf : e.full with
      | false =>
        have : goesB e vo ao = false := by unfold goesB; rw [hf]; simp
        rw [this]; rfl
      | true =>
        have ee : (⟨true, e.asid, e.page, e.lf⟩ : En) = e := by cases e; simp_all
        rw [if_pos rfl, List.countP_singleton]
        unfold goesL
        simp only [ee]
theorem fence_listT (vo : Option Nat) (ao : Option Int) : ∀ (T : List (List En)) (i : Nat), (listT i T).filter (fun x => !goesL vo ao x) = listT i (fenceS T vo ao) ∧ (listT i T).countP (goesL vo ao) = fenceN T vo ao
  | [], i => ⟨rfl, rfl⟩
  | l :: r, i => by
    obtain ⟨h1, h2⟩ := fence_listT vo ao r (i + 1)
    obtain ⟨h3, h4⟩ := fence_listW vo ao i l 0
    constructor
    · show (listW i 0 l ++ listT (i + 1) r).filter _ = listW i 0 (l.map (fen vo ao)) ++ listT (i + 1) (fenceS r vo ao)
      rw [List.filter_append, h1, h3]
    · show (listW i 0 l ++ listT (i + 1) r).countP _ = cntW vo ao l + fenceN r vo ao
      rw [List.countP_append, h2, h4]
theorem fence_perm {L : List Sl} {T : List (List En)} (h : L.Perm (listT 0 T)) (vo : Option Nat) (ao : Option Int) : (L.filter (fun x => !goesL vo ao x)).Perm (listT 0 (fenceS T vo ao)) ∧ (L.length : Int) - ((L.filter (fun x => !goesL vo ao x)).length : Int) = ((fenceN T vo ao : Nat) : Int) := by
  obtain ⟨h1, h2⟩ := fence_listT vo ao T 0
  constructor
  · rw [← h1]
    exact h.filter _
  · have h3 : L.countP (goesL vo ao) = fenceN T vo ao := by rw [h.countP_eq, h2]
    have h4 := L.length_eq_countP_add_countP (p := goesL vo ao)
    have h5 : (L.filter (fun x => !goesL vo ao x)).length = L.countP (fun x => !goesL vo ao x) := List.countP_eq_length_filter.symm
    have h6 : L.countP (fun x => !goesL vo ao x) = L.countP (fun a => decide ¬goesL vo ao a = true) := by
      congr 1
      funext a
      cases goesL vo ao a <;> rfl
    omega
theorem fill_perm {L : List Sl} {T : List (List En)} (h : L.Perm (listT 0 T)) {q v : Nat} {e : En} (he : e.full = true) (hq : q < T.length) (hv : v < (T.getD q []).length) :
    (L.filter (fun x => !atB q v x) ++ [(⟨q, v, e.asid, e.page, e.lf⟩ : Sl)]).Perm (listT 0 (T.set q ((T.getD q []).set v e))) := by
  have := fill_listT (v := v) he T 0 q hq hv
  rw [Nat.zero_add] at this
  exact ((h.filter _).append_right _).trans this
end Go.Proofs.Ytecalibnnfcaeaa

/- The reference's buffer with its rows; Find. -/
namespace Go.Proofs.Ytecalibnnfcaeaa
open Go.RowKit

/-- A buffer of so many sets and ways. -/
structure TOk (T : List (List En)) (n m : Nat) : Prop where
  len : T.length = n
  n0 : 0 < n
  n64 : n ≤ 64
  m0 : 0 < m
  m8 : m ≤ 8
  ways : ∀ i, i < n → (T.getD i []).length = m
  val : Valid T
theorem TOk.slots {T : List (List En)} {n m : Nat} (h : TOk T n m) {L : List Sl} (hp : L.Perm (listT 0 T)) : L.length ≤ 512 := by
  rw [hp.length_eq]
  have h1 := listT_le m T 0 (fun s hs => by
    obtain ⟨i, hi, rfl⟩ := List.mem_iff_getElem.1 hs
    have := h.ways i (by rw [← h.len]; exact hi)
    rw [List.getD_eq_getElem?_getD, List.getElem?_eq_getElem hi] at this
    exact this)
  have h2 : T.length * m ≤ 64 * 8 := Nat.mul_le_mul (by rw [h.len]; exact h.n64) h.m8
  omega
theorem TOk.lev {T : List (List En)} {n m : Nat} (h : TOk T n m) {i k : Nat} {e : En} (hi : i < n) (he : (T.getD i [])[k]? = some e) (hf : e.full = true) : levOK e.lf.lev = true := by
  have hmem : (T.getD i []) ∈ T := by rw [List.getD_eq_getElem?_getD, List.getElem?_eq_getElem (by rw [h.len]; exact hi)]; exact List.getElem_mem _
  exact h.val _ hmem e (List.mem_of_getElem? he) hf
/-- The reference's buffer, its blocks all in G. -/
def RefG (w : World) (gx : Nat) (G : Nat → Prop) (n m : Int) (L : List Sl) : Prop :=
  ∃ A c, Blk w gx 40 #[.int .i64 n, .int .i64 m, .slice A L.length c] ∧ RdS w (.slice A L.length c) L ∧ G gx ∧ (∀ a, A = some a → G a.block) ∧ ∀ b, G b → b < w.heap.size
section
variable {w w' : World} {gx : Nat} {G F : Nat → Prop} {n m : Int} {L : List Sl}
theorem RefG.ref (h : RefG w gx G n m L) : tlb_RefAt w gx n m L := by
  obtain ⟨A, c, h1, h2, _⟩ := h
  exact ⟨_, h1, h2⟩
theorem RdS.keeps {v : Value} (h : RdS w v L) (k : Keeps F w w') (hd : ∀ a l c, v = .slice (some a) l c → ¬ F a.block) : RdS w' v L := by
  obtain ⟨A, c, e, h⟩ := h
  refine ⟨A, c, e, fun hne => ?_⟩
  obtain ⟨b, hA, hc⟩ := h hne
  refine ⟨b, hA, fun i x hx j hj => ?_⟩
  have h1 := hc i x hx j hj
  have h2 : x.vs[j]? = some (x.vs[j]'hj) := List.getElem?_eq_getElem hj
  rw [h2] at h1 ⊢
  have h3 := k.block b (cell_lt h1) (hd ⟨b, 0, none⟩ _ _ (by rw [e, hA]))
  simp only [World.cell?] at h1 ⊢
  rw [h3]
  exact h1
theorem RefG.keeps (h : RefG w gx G n m L) (k : Keeps F w w') (hd : ∀ g, G g → ¬ F g) : RefG w' gx G n m L := by
  obtain ⟨A, c, h1, h2, h3, h4, h5⟩ := h
  exact ⟨A, c, k.blk h1 (hd _ h3), h2.keeps k (fun a l c e => by injection e with e1; exact hd _ (h4 a e1)), h3, h4, fun g hg => Nat.lt_of_lt_of_le (h5 g hg) k.size⟩
theorem RefG.below (h : RefG w gx G n m L) (hb : Below w.heap.size w w') : RefG w' gx G n m L := h.keeps (F := fun _ => False) (Keeps.of_below hb) (fun _ _ h => h)
theorem RefG.lt (h : RefG w gx G n m L) : ∀ b, G b → b < w.heap.size := by
  obtain ⟨_, _, _, _, _, _, h⟩ := h
  exact h
theorem RefG.at0 (h : RefG w gx G n m L) : G gx := by
  obtain ⟨_, _, _, _, h, _⟩ := h
  exact h
end
theorem rat_T (gx n m : Nat) (nn mm : Int) (L : List Sl) (T : List (List En)) (s y : Nat) (W : World) (hK : TOk T n m) (hR : tlb_RefAt W gx nn mm L) (hP : L.Perm (listT 0 T)) :
    Calls Try.prog 43 #[.pointer (some ⟨gx, 0, none⟩), .int .i64 (s : Int), .int .i64 (y : Int)] W fun e w' =>
      e = .returned (.tuple #[.agg ((atT T s y).getD sl0).cs, .bool (atT T s y).isSome]) ∧ Below W.heap.size W w' :=
  (at_any gx nn mm L s y W (by have := hK.slots hP; omega) hR).mono fun e w' ⟨h1, h2⟩ => ⟨by rw [h1, at_perm hP]; rfl, h2⟩
theorem at_yes {T : List (List En)} {q k : Nat} {e : En} (he : (T.getD q [])[k]? = some e) (hf : e.full = true) : atT T q k = some ⟨q, k, e.asid, e.page, e.lf⟩ := by
  unfold atT
  rw [he]
  simp [entSl, hf]
theorem at_not {T : List (List En)} {q k : Nat} {e : En} (he : (T.getD q [])[k]? = some e) (hf : e.full = false) : atT T q k = none := by
  unfold atT
  rw [he]
  simp [entSl, hf]
theorem set_eq (p n : Nat) (h : 0 < n) (h2 : n ≤ 64) : IntKind.i64.wrap ((p : Int).tmod (n : Int)) = ((p % n : Nat) : Int) := by
  rw [Int.tmod_eq_emod_of_nonneg (by omega), ← Int.natCast_emod]
  have := Nat.mod_lt p h
  exact IntWalk.i64_in _ (by omega)
theorem slot_at (x : Sl) : x.cs[2]? = some (.int .i64 x.asid) ∧ x.cs[3]? = some (.int .u64 (x.page : Int)) ∧ x.cs[9]? = some (.bool x.lf.g) ∧ x.cs[14]? = some (.int .i64 x.lf.lev) := ⟨rfl, rfl, rfl, rfl⟩
theorem slot_leaf {w : World} {b : Nat} {x : Sl} (h : Blk w b 99 x.cs) : w.rangeAt b 4 x.lf.cs.toList := World.rangeAt_of_block h 4 12
set_option maxRecDepth 100000 in
set_option maxHeartbeats 4000000 in
theorem rfind_any (gx n m va : Nat) (asid : Int) (G : Nat → Prop) (L : List Sl) (T : List (List En)) (W : World) (hv : va < 18446744073709551616) (hK : TOk T n m) (hR : RefG W gx G n m L) (hP : L.Perm (listT 0 T)) :
    Calls Try.prog 46 #[.pointer (some ⟨gx, 0, none⟩), .int .u64 (va : Int), .int .i64 asid] W (FindR (findS T va asid) W) := by
  have HV := Lib.hid hv
  have HK := Lib.hid hK
  have HR := Lib.hid hR
  have HP := Lib.hid hP
  have hc := (Below.refl W.heap.size W).alloc (Nat.le_refl _) (.cells #[.bool false, .bool false, .bool false, .bool false, .bool false, .bool false, .bool false, .bool false, .int .i64 0, .int .u64 0, .int .i64 0, .int .u64 0] 97)
  have hX : Blk (W.alloc (.cells #[.bool false, .bool false, .bool false, .bool false, .bool false, .bool false, .bool false, .bool false, .int .i64 0, .int .u64 0, .int .i64 0, .int .u64 0] 97)) W.heap.size 97 #[.bool false, .bool false, .bool false, .bool false, .bool false, .bool false, .bool false, .bool false, .int .i64 0, .int .u64 0, .int .i64 0, .int .u64 0] := Blkf.new_at _ _ _ _ rfl
  have HC0 := Lib.hid hc
  have HX0 := Lib.hid hX
  have HN := Lib.hid hK.n0
  have HM := Lib.hid hK.m8
  have HNB := Lib.hid hK.n64
  clear hv hK hR hP hc hX
  go_enter Try.func46, Try.ntmps46
  go_wp2_with fail
  generalize W.alloc (.cells #[.bool false, .bool false, .bool false, .bool false, .bool false, .bool false, .bool false, .bool false, .int .i64 0, .int .u64 0, .int .i64 0, .int .u64 0] 97) = W0 at *
  go_loopw [8] (fun i wr => ∃ l : Nat, l ≤ 3 ∧ i = .int .i64 l ∧ Below W.heap.size W wr ∧ Blk wr W.heap.size 97 #[.bool false, .bool false, .bool false, .bool false, .bool false, .bool false, .bool false, .bool false, .int .i64 0, .int .u64 0, .int .i64 0, .int .u64 0] ∧ ∀ l' : Nat, l' < l → wayFind (T.getD (pgN va l' % n) []) l' va asid = none) (fun i _ => 3 - (intOf i).toNat)
  case atStart => exact ⟨0, by omega, rfl, HC0.out, HX0.out, fun l hl => absurd hl (by omega)⟩
  clear HC0 HX0
  case round =>
    obtain ⟨l, hl, rfl, hbl, hX, hN⟩ := hrel
    have HB1 := Lib.hid hbl
    have HX1 := Lib.hid hX
    have HN1 := Lib.hid hN
    clear hbl hX hN
    by_cases hl3 : l < 3
    · have HLO : Hid (levOK (l : Int) = true) := Lib.hid (by unfold levOK; rw [decide_eq_true (by omega), decide_eq_true (by omega)]; rfl)
      have hR1 := HR.out.below HB1.out
      obtain ⟨A, c, hg, _⟩ := id hR1
      have HG0 := Lib.hid hg
      have hs0 : ∀ W', Ext wr.drew W' → W'.cell? ⟨gx, 0, none⟩ = some (.int .i64 (n : Int)) := fun W' h => (h.cell HG0.out.drew.lt).trans (HG0.out.cell 0)
      have hs0' : ∀ W' w1, Below wr.drew.heap.size wr.drew w1 → Ext w1 W' → W'.cell? ⟨gx, 0, none⟩ = some (.int .i64 (n : Int)) := fun W' w1 hb h => hs0 W' (hb.trans (h.mono hb.size))
      clear hg hR1
      have hz : ¬ (n = 0) := by have := HN.out; omega
      have hwn : IntKind.u64.wrap (n : Int) = (n : Int) := IntWalk.u64_in _ (by have := HNB.out; omega)
      go_wp2_with fail
      refine wp_region_plan [(0, false), (1, false), (3, false), (4, false), (5, false), (6, false), (7, false), (2, true), (8, false), (9, false), (10, false)] (by kernel_rfl) (by kernel_rfl) (fun _ d _ _ _ h => by cases d <;> exact h) ?_
      iterate 7 (refine plan_take (v := ?_) rfl (by kernel_rfl) ?_ ?_; rotate_left; (focus (intro w' hw'; try go_simp; try with_reducible rfl)); simp only [Act.put, List.setIfInBounds_toArray, List.set_cons_zero, List.set_cons_succ])
      refine plan_call rfl (by kernel_rfl) (by go_simp; exact ⟨rfl, rfl⟩) ?_
      refine (rpage_any va (l : Int) _ HV.out HLO.out).mono ?_
      rintro e w1 ⟨rfl, hb1⟩
      have hs1 := fun W' h => hs0' W' w1 hb1 h
      refine ⟨_, rfl, hb1, ?_⟩
      simp only [Act.put, List.setIfInBounds_toArray, List.set_cons_zero, List.set_cons_succ]
      iterate 3 (refine plan_take (v := ?_) rfl (by kernel_rfl) ?_ ?_; rotate_left; (focus (intro w' hw'; try go_simp; try with_reducible rfl)); simp only [Act.put, List.setIfInBounds_toArray, List.set_cons_zero, List.set_cons_succ])
      refine plan_end ?_
      clear hs0 hs0' hs1 hz hwn
      rw [set_eq (pgN va l) n HN.out HNB.out, show ((pgN va l : Nat) : Int).tmod (n : Int) = ((pgN va l : Nat) : Int) % (n : Int) from Int.tmod_eq_emod_of_nonneg (by omega), show decide ((l : Int) < 3) = true from decide_eq_true (by omega)]
      obtain ⟨q, hq⟩ : ∃ q, q = pgN va l % n := ⟨_, rfl⟩
      have HQL : Hid (q < n) := Lib.hid (by rw [hq]; exact Nat.mod_lt _ HN.out)
      rw [← hq]
      have HQ := Lib.hid hq
      have HX2 := Lib.hid (HX1.out.drew.below hb1 HX1.out.drew.lt)
      have HB2 := Lib.hid (HB1.out.drew.trans (hb1.mono HB1.out.drew.size))
      clear hq hb1 HX1 HB1 HG0
      go_wp2_with fail
      go_loopw [10] (fun i wr => ∃ k : Nat, k ≤ m ∧ i = .int .i64 k ∧ Below W.heap.size W wr ∧ Blk wr W.heap.size 97 #[.bool false, .bool false, .bool false, .bool false, .bool false, .bool false, .bool false, .bool false, .int .i64 0, .int .u64 0, .int .i64 0, .int .u64 0] ∧ ∀ y ∈ (T.getD q []).take k, hitB l va asid y = false) (fun i _ => m - (intOf i).toNat)
      case atStart => exact ⟨0, by omega, rfl, HB2.out, HX2.out, fun y hy => by simp at hy⟩
      clear HX2 HB2
      case round =>
        obtain ⟨k, hk, rfl, hbl, hX, hno⟩ := hrel
        rename World => w2
        have HBE := Lib.hid hbl
        have HXE := Lib.hid hX
        have HNO := Lib.hid hno
        clear hbl hX hno
        obtain ⟨A, c, hg, _⟩ := HR.out.below HBE.out
        have hm1 := hg.cell 1
        simp at hm1
        clear hg
        by_cases hkl : k < m
        · obtain ⟨e, he⟩ : ∃ e, (T.getD q [])[k]? = some e := ⟨_, List.getElem?_eq_getElem (by rw [HK.out.ways q HQL.out]; exact hkl)⟩
          have HE := Lib.hid he
          clear he
          go_wp2_with fail
          refine (rat_T gx n m n m L T q k _ HK.out (HR.out.below HBE.out).ref HP.out).mono ?_
          rintro _ w3 ⟨rfl, hb3⟩
          clear hm1
          have HX3 := Lib.hid (HXE.out.below hb3 HXE.out.lt)
          have HB3 := Lib.hid (HBE.out.trans (hb3.mono HBE.out.size))
          clear hb3 HBE HXE
          cases hf : e.full
          · rw [at_not HE.out hf]
            have HNX := Lib.hid (take_more HE.out HNO.out (show hitB l va asid e = false by unfold hitB matchB hasB; rw [hf]; simp))
            have hal := (Below.refl w3.heap.size w3).alloc (Nat.le_refl _) (.cells sl0.cs 99)
            have HX4 := Lib.hid (HX3.out.below hal HX3.out.lt)
            have HB4 := Lib.hid (HB3.out.trans (hal.mono HB3.out.size))
            clear hal hf
            go_wp2_with (first | ((with_reducible refine wl_store_new 99 (.tmp 11) (.tmp 40) rfl ?_ w3 (World.heap w3).size 99 #[.int .i64 0, .int .i64 0, .int .i64 0, .int .u64 0, .bool false, .bool false, .bool false, .bool false, .bool false, .bool false, .bool false, .bool false, .int .i64 0, .int .u64 0, .int .i64 0, .int .u64 0] sl0.cs ?_ ?_ ?_ ?_ ?_ ?_ ?_ ?_); exact rfl; exact rfl; exact rfl; exact rfl; exact rfl; exact rfl; exact slot_row sl0; exact cs_one sl0))
            generalize w3.alloc (.cells sl0.cs 99) = w4 at *
            refine wp_region_plan [(0, false), (1, false), (2, false), (3, false), (4, false), (5, false), (6, false), (7, false), (8, false), (9, false), (10, false), (11, false), (12, false), (13, false), (14, false), (15, false), (16, false), (17, false), (18, false), (19, false), (20, false), (21, false), (22, false), (23, false), (24, false), (25, false), (26, false), (27, false)] (by kernel_rfl) (by kernel_rfl) (fun _ d _ _ _ h => by cases d <;> exact h) ?_
            iterate 2 (refine plan_take (v := ?_) rfl (by kernel_rfl) ?_ ?_; rotate_left; (focus (intro w' hw'; try go_simp; try with_reducible rfl)); simp only [Act.put, List.setIfInBounds_toArray, List.set_cons_zero, List.set_cons_succ])
            iterate 5 (refine plan_skip rfl (by kernel_rfl) ?_; simp only [Act.put, List.setIfInBounds_toArray, List.set_cons_zero, List.set_cons_succ])
            iterate 2 (refine plan_take (v := ?_) rfl (by kernel_rfl) ?_ ?_; rotate_left; (focus (intro w' hw'; try go_simp; try with_reducible rfl)); simp only [Act.put, List.setIfInBounds_toArray, List.set_cons_zero, List.set_cons_succ])
            iterate 6 (refine plan_skip rfl (by kernel_rfl) ?_; simp only [Act.put, List.setIfInBounds_toArray, List.set_cons_zero, List.set_cons_succ])
            iterate 2 (refine plan_take (v := ?_) rfl (by kernel_rfl) ?_ ?_; rotate_left; (focus (intro w' hw'; try go_simp; try with_reducible rfl)); simp only [Act.put, List.setIfInBounds_toArray, List.set_cons_zero, List.set_cons_succ])
            iterate 10 (refine plan_skip rfl (by kernel_rfl) ?_; simp only [Act.put, List.setIfInBounds_toArray, List.set_cons_zero, List.set_cons_succ])
            iterate 1 (refine plan_take (v := ?_) rfl (by kernel_rfl) ?_ ?_; rotate_left; (focus (intro w' hw'; try go_simp; try with_reducible rfl)); simp only [Act.put, List.setIfInBounds_toArray, List.set_cons_zero, List.set_cons_succ])
            refine plan_end ?_
            go_wp2_with fail
            have hw1 : wrap64 ((k : Int) + 1) = (k : Int) + 1 := IntWalk.wrap64_in _ (by have := HM.out; omega)
            rw [hw1]
            go_roundw
            case rel => exact ⟨k + 1, hkl, rfl, HB4.out.drew, HX4.out.drew, HNX.out⟩
            case measure => show m - ((k : Int) + 1).toNat < m - (k : Int).toNat; omega
          · rw [at_yes HE.out hf]
            obtain ⟨x, hx⟩ : ∃ x : Sl, x = ⟨q, k, e.asid, e.page, e.lf⟩ := ⟨_, rfl⟩
            have hxa : x.asid = e.asid := by rw [hx]
            have hxp : x.page = e.page := by rw [hx]
            have hxl : x.lf = e.lf := by rw [hx]
            have HLV : Hid (levOK e.lf.lev = true) := Lib.hid (HK.out.lev HQL.out HE.out hf)
            rw [← hx, show ((some x).getD sl0).cs = x.cs from rfl, show (some x).isSome = true from rfl]
            have hal := (Below.refl w3.heap.size w3).alloc (Nat.le_refl _) (.cells x.cs 99)
            have HX4 := Lib.hid (HX3.out.below hal HX3.out.lt)
            have HB4 := Lib.hid (HB3.out.trans (hal.mono HB3.out.size))
            have HL4 := Lib.hid (Blkf.new_at w3 99 (0, 0) x.cs rfl)
            have HHB : Hid (hitB l va asid e = ((x.lf.lev == (l : Int)) && ((x.page == pgN va e.lf.lev) && (x.asid == asid || x.lf.g)))) := Lib.hid (by unfold hitB matchB hasB; rw [hf, hxa, hxp, hxl]; rfl)
            have HXL := Lib.hid hxl
            clear hal hf hx hxa hxp hxl HX3 HB3
            have hv2 : ∀ W', Ext (w3.alloc (.cells x.cs 99)).drew W' → W'.cell? ⟨w3.heap.size, 2, none⟩ = some (.int .i64 x.asid) := fun W' h => (h.cell HL4.out.drew.lt).trans (HL4.out.cell 2)
            have hv3 : ∀ W', Ext (w3.alloc (.cells x.cs 99)).drew W' → W'.cell? ⟨w3.heap.size, 3, none⟩ = some (.int .u64 (x.page : Int)) := fun W' h => (h.cell HL4.out.drew.lt).trans (HL4.out.cell 3)
            have hv9 : ∀ W', Ext (w3.alloc (.cells x.cs 99)).drew W' → W'.cell? ⟨w3.heap.size, 9, none⟩ = some (.bool x.lf.g) := fun W' h => (h.cell HL4.out.drew.lt).trans (HL4.out.cell 9)
            have hv14 : ∀ W', Ext (w3.alloc (.cells x.cs 99)).drew W' → W'.cell? ⟨w3.heap.size, 14, none⟩ = some (.int .i64 x.lf.lev) := fun W' h => (h.cell HL4.out.drew.lt).trans (HL4.out.cell 14)
            cases h1 : (x.lf.lev == (l : Int))
            · have HNX := Lib.hid (take_more HE.out HNO.out (show hitB l va asid e = false by rw [HHB.out, h1]; rfl))
              clear HHB
              go_wp2_with (first | ((with_reducible refine wl_store_new 99 (.tmp 11) (.tmp 40) rfl ?_ w3 (World.heap w3).size 99 #[.int .i64 0, .int .i64 0, .int .i64 0, .int .u64 0, .bool false, .bool false, .bool false, .bool false, .bool false, .bool false, .bool false, .bool false, .int .i64 0, .int .u64 0, .int .i64 0, .int .u64 0] x.cs ?_ ?_ ?_ ?_ ?_ ?_ ?_ ?_); exact rfl; exact rfl; exact rfl; exact rfl; exact rfl; exact rfl; exact slot_row x; exact cs_one x))
              refine wp_region_plan [(0, false), (1, false), (2, false), (3, false), (4, false), (5, false), (6, false), (7, false), (8, false), (9, false), (10, false), (11, false), (12, false), (13, false), (14, false), (15, false), (16, false), (17, false), (18, false), (19, false), (20, false), (21, false), (22, false), (23, false), (24, false), (25, false), (26, false), (27, false)] (by kernel_rfl) (by kernel_rfl) (fun _ d _ _ _ h => by cases d <;> exact h) ?_
              iterate 9 (refine plan_take (v := ?_) rfl (by kernel_rfl) ?_ ?_; rotate_left; (focus (intro w' hw'; try go_simp; try with_reducible rfl)); simp only [Act.put, List.setIfInBounds_toArray, List.set_cons_zero, List.set_cons_succ])
              iterate 6 (refine plan_skip rfl (by kernel_rfl) ?_; simp only [Act.put, List.setIfInBounds_toArray, List.set_cons_zero, List.set_cons_succ])
              iterate 2 (refine plan_take (v := ?_) rfl (by kernel_rfl) ?_ ?_; rotate_left; (focus (intro w' hw'; try go_simp; try with_reducible rfl)); simp only [Act.put, List.setIfInBounds_toArray, List.set_cons_zero, List.set_cons_succ])
              iterate 10 (refine plan_skip rfl (by kernel_rfl) ?_; simp only [Act.put, List.setIfInBounds_toArray, List.set_cons_zero, List.set_cons_succ])
              iterate 1 (refine plan_take (v := ?_) rfl (by kernel_rfl) ?_ ?_; rotate_left; (focus (intro w' hw'; try go_simp; try with_reducible rfl)); simp only [Act.put, List.setIfInBounds_toArray, List.set_cons_zero, List.set_cons_succ])
              refine plan_end ?_
              clear hv2 hv3 hv9 hv14 h1
              go_wp2_with fail
              have hw1 : wrap64 ((k : Int) + 1) = (k : Int) + 1 := IntWalk.wrap64_in _ (by have := HM.out; omega)
              rw [hw1]
              go_roundw
              case rel => exact ⟨k + 1, hkl, rfl, HB4.out.drew, HX4.out.drew, HNX.out⟩
              case measure => show m - ((k : Int) + 1).toNat < m - (k : Int).toNat; omega
            · have hle : x.lf.lev = (l : Int) := by simpa using h1
              have HPN : Hid (pgN va e.lf.lev = pgN va l) := Lib.hid (by rw [← HXL.out, hle])
              have HLO2 : Hid (levOK (l : Int) = true) := Lib.hid (by rw [← hle, HXL.out]; exact HLV.out)
              clear hle
              go_wp2_with (first | ((with_reducible refine wl_store_new 99 (.tmp 11) (.tmp 40) rfl ?_ w3 (World.heap w3).size 99 #[.int .i64 0, .int .i64 0, .int .i64 0, .int .u64 0, .bool false, .bool false, .bool false, .bool false, .bool false, .bool false, .bool false, .bool false, .int .i64 0, .int .u64 0, .int .i64 0, .int .u64 0] x.cs ?_ ?_ ?_ ?_ ?_ ?_ ?_ ?_); exact rfl; exact rfl; exact rfl; exact rfl; exact rfl; exact rfl; exact slot_row x; exact cs_one x))
              refine wp_region_plan [(0, false), (1, false), (2, false), (3, false), (4, false), (5, false), (6, false), (7, false), (8, false), (9, false), (10, false), (11, false), (12, false), (13, true), (14, false), (15, false), (16, false), (17, false), (18, false), (19, false), (20, false), (21, false), (22, false), (23, false), (24, false), (25, false), (26, false), (27, false)] (by kernel_rfl) (by kernel_rfl) (fun _ d _ _ _ h => by cases d <;> exact h) ?_
              iterate 13 (refine plan_take (v := ?_) rfl (by kernel_rfl) ?_ ?_; rotate_left; (focus (intro w' hw'; try go_simp; try with_reducible rfl)); simp only [Act.put, List.setIfInBounds_toArray, List.set_cons_zero, List.set_cons_succ])
              refine plan_call rfl (by kernel_rfl) (by go_simp; exact ⟨rfl, rfl⟩) ?_
              refine (rpage_any va (l : Int) _ HV.out HLO2.out).mono ?_
              rintro _ w5 ⟨rfl, hb5⟩
              have HX5 := Lib.hid (HX4.out.drew.below hb5 HX4.out.drew.lt)
              have HB5 := Lib.hid (HB4.out.drew.trans (hb5.mono HB4.out.drew.size))
              have HL5 := Lib.hid (HL4.out.drew.below hb5 HL4.out.drew.lt)
              clear hv2 hv3 hv9 hv14 HX4 HB4 HL4
              have hv2 : ∀ W', Ext w5 W' → W'.cell? ⟨w3.heap.size, 2, none⟩ = some (.int .i64 x.asid) := fun W' h => (h.cell HL5.out.lt).trans (HL5.out.cell 2)
              have hv3 : ∀ W', Ext w5 W' → W'.cell? ⟨w3.heap.size, 3, none⟩ = some (.int .u64 (x.page : Int)) := fun W' h => (h.cell HL5.out.lt).trans (HL5.out.cell 3)
              refine ⟨_, rfl, hb5, ?_⟩
              simp only [Act.put, List.setIfInBounds_toArray, List.set_cons_zero, List.set_cons_succ]
              cases h2 : (((x.page : Nat) : Int) == ((pgN va l : Nat) : Int))
              · have HNX := Lib.hid (take_more HE.out HNO.out (show hitB l va asid e = false by rw [HHB.out, h1, HPN.out, ← nat_beq, h2]; rfl))
                iterate 3 (refine plan_take (v := ?_) rfl (by kernel_rfl) ?_ ?_; rotate_left; (focus (intro w' hw'; try go_simp; try with_reducible rfl)); simp only [Act.put, List.setIfInBounds_toArray, List.set_cons_zero, List.set_cons_succ])
                iterate 10 (refine plan_skip rfl (by kernel_rfl) ?_; simp only [Act.put, List.setIfInBounds_toArray, List.set_cons_zero, List.set_cons_succ])
                iterate 1 (refine plan_take (v := ?_) rfl (by kernel_rfl) ?_ ?_; rotate_left; (focus (intro w' hw'; try go_simp; try with_reducible rfl)); simp only [Act.put, List.setIfInBounds_toArray, List.set_cons_zero, List.set_cons_succ])
                refine plan_end ?_
                clear hv2 hv3 h1 h2 HHB
                go_wp2_with fail
                have hw1 : wrap64 ((k : Int) + 1) = (k : Int) + 1 := IntWalk.wrap64_in _ (by have := HM.out; omega)
                rw [hw1]
                go_roundw
                case rel => exact ⟨k + 1, hkl, rfl, HB5.out, HX5.out, HNX.out⟩
                case measure => show m - ((k : Int) + 1).toNat < m - (k : Int).toNat; omega
              · cases h3 : (x.asid == asid)
                · cases h4 : x.lf.g
                  · have HNX := Lib.hid (take_more HE.out HNO.out (show hitB l va asid e = false by rw [HHB.out, h1, HPN.out, ← nat_beq, h2, h3, h4]; rfl))
                    have hv9 : ∀ W', Ext w5 W' → W'.cell? ⟨w3.heap.size, 9, none⟩ = some (.bool false) := fun W' h => by rw [← h4]; exact (h.cell HL5.out.lt).trans (HL5.out.cell 9)
                    iterate 14 (refine plan_take (v := ?_) rfl (by kernel_rfl) ?_ ?_; rotate_left; (focus (intro w' hw'; try go_simp; try with_reducible rfl)); simp only [Act.put, List.setIfInBounds_toArray, List.set_cons_zero, List.set_cons_succ])
                    refine plan_end ?_
                    clear hv2 hv3 hv9 h1 h2 h3 HHB
                    go_wp2_with fail
                    have hw1 : wrap64 ((k : Int) + 1) = (k : Int) + 1 := IntWalk.wrap64_in _ (by have := HM.out; omega)
                    rw [hw1]
                    go_roundw
                    case rel => exact ⟨k + 1, hkl, rfl, HB5.out, HX5.out, HNX.out⟩
                    case measure => show m - ((k : Int) + 1).toNat < m - (k : Int).toNat; omega
                  · have HHT : Hid (hitB l va asid e = true) := Lib.hid (by rw [HHB.out, h1, HPN.out, ← nat_beq, h2, h3, h4]; rfl)
                    have hv9 : ∀ W', Ext w5 W' → W'.cell? ⟨w3.heap.size, 9, none⟩ = some (.bool true) := fun W' h => by rw [← h4]; exact (h.cell HL5.out.lt).trans (HL5.out.cell 9)
                    iterate 14 (refine plan_take (v := ?_) rfl (by kernel_rfl) ?_ ?_; rotate_left; (focus (intro w' hw'; try go_simp; try with_reducible rfl)); simp only [Act.put, List.setIfInBounds_toArray, List.set_cons_zero, List.set_cons_succ])
                    refine plan_end ?_
                    clear hv2 hv3 hv9 h1 h2 h3 HHB h4
                    go_wp2_with (first | ((with_reducible refine wl_load 97 (.tmp 70) rfl ?_ w3.heap.size 4 x.lf.cs ?_ (slot_leaf HL5.out) ?_ ?_); exact rfl; exact rfl; exact tlb_leaf_row x.lf) | ((with_reducible refine wl_store 97 (.tmp 6) (.tmp 71) rfl ?_ W.heap.size 97 #[.bool false, .bool false, .bool false, .bool false, .bool false, .bool false, .bool false, .bool false, .int .i64 0, .int .u64 0, .int .i64 0, .int .u64 0] x.lf.cs ?_ ?_ HX5.out ?_ ?_ ?_ ?_); exact rfl; exact rfl; exact rfl; exact rfl; exact tlb_leaf_row x.lf; exact tlb_lcs_one x.lf))
                    refine bodyPost_ret (res_cell_slot (cs := x.lf.cs) (v := .bool true) rfl _ _ W.heap.size 97 rfl rfl (HX5.out.setRow _) (tlb_leaf_row x.lf)) rfl ?_
                    unfold FindR
                    rw [find_hit hl3 (fun l' h' => by rw [HK.out.len]; exact HN1.out l' h') (x := e.lf) (by rw [HK.out.len, ← HQ.out]; unfold wayFind; rw [tlb_find_step HE.out HNO.out HHT.out]; rfl), HXL.out]
                    exact ⟨rfl, below_setRow HB5.out (Nat.le_refl _) _⟩
                · have HHT : Hid (hitB l va asid e = true) := Lib.hid (by rw [HHB.out, h1, HPN.out, ← nat_beq, h2, h3]; rfl)
                  iterate 8 (refine plan_take (v := ?_) rfl (by kernel_rfl) ?_ ?_; rotate_left; (focus (intro w' hw'; try go_simp; try with_reducible rfl)); simp only [Act.put, List.setIfInBounds_toArray, List.set_cons_zero, List.set_cons_succ])
                  iterate 4 (refine plan_skip rfl (by kernel_rfl) ?_; simp only [Act.put, List.setIfInBounds_toArray, List.set_cons_zero, List.set_cons_succ])
                  iterate 2 (refine plan_take (v := ?_) rfl (by kernel_rfl) ?_ ?_; rotate_left; (focus (intro w' hw'; try go_simp; try with_reducible rfl)); simp only [Act.put, List.setIfInBounds_toArray, List.set_cons_zero, List.set_cons_succ])
                  refine plan_end ?_
                  clear hv2 hv3 h1 h2 h3 HHB
                  go_wp2_with (first | ((with_reducible refine wl_load 97 (.tmp 70) rfl ?_ w3.heap.size 4 x.lf.cs ?_ (slot_leaf HL5.out) ?_ ?_); exact rfl; exact rfl; exact tlb_leaf_row x.lf) | ((with_reducible refine wl_store 97 (.tmp 6) (.tmp 71) rfl ?_ W.heap.size 97 #[.bool false, .bool false, .bool false, .bool false, .bool false, .bool false, .bool false, .bool false, .int .i64 0, .int .u64 0, .int .i64 0, .int .u64 0] x.lf.cs ?_ ?_ HX5.out ?_ ?_ ?_ ?_); exact rfl; exact rfl; exact rfl; exact rfl; exact tlb_leaf_row x.lf; exact tlb_lcs_one x.lf))
                  refine bodyPost_ret (res_cell_slot (cs := x.lf.cs) (v := .bool true) rfl _ _ W.heap.size 97 rfl rfl (HX5.out.setRow _) (tlb_leaf_row x.lf)) rfl ?_
                  unfold FindR
                  rw [find_hit hl3 (fun l' h' => by rw [HK.out.len]; exact HN1.out l' h') (x := e.lf) (by rw [HK.out.len, ← HQ.out]; unfold wayFind; rw [tlb_find_step HE.out HNO.out HHT.out]; rfl), HXL.out]
                  exact ⟨rfl, below_setRow HB5.out (Nat.le_refl _) _⟩
        · obtain rfl : m = k := by omega
          have HNX : Hid (∀ l' : Nat, l' < l + 1 → wayFind (T.getD (pgN va l' % n) []) l' va asid = none) := Lib.hid (fun l' h' => by
            rcases Nat.lt_or_ge l' l with h | h
            · exact HN1.out l' h
            · obtain rfl : l' = l := by omega
              rw [← HQ.out]
              unfold wayFind
              rw [find_none (k := m) (by rw [HK.out.ways q HQL.out]; exact Nat.le_refl _) HNO.out]
              rfl)
          go_wp2_with fail
          go_roundw
          case rel => exact ⟨l + 1, hl3, rfl, HBE.out, HXE.out, HNX.out⟩
          case measure => show 3 - ((l : Int) + 1).toNat < 3 - (l : Int).toNat; omega
    · obtain rfl : l = 3 := by omega
      have HF : Hid (findS T va asid = none) := Lib.hid (find_all (fun l' h' => by rw [HK.out.len]; exact HN1.out l' h'))
      go_wp2_with (first | ((with_reducible refine wl_store 97 (.tmp 6) (.tmp 72) rfl ?_ W.heap.size 97 #[.bool false, .bool false, .bool false, .bool false, .bool false, .bool false, .bool false, .bool false, .int .i64 0, .int .u64 0, .int .i64 0, .int .u64 0] #[.bool false, .bool false, .bool false, .bool false, .bool false, .bool false, .bool false, .bool false, .int .i64 0, .int .u64 0, .int .i64 0, .int .u64 0] ?_ ?_ HX1.out ?_ ?_ ?_ ?_); exact rfl; exact rfl; exact rfl; exact rfl; exact tlb_leaf_row tlb_lf0; exact tlb_lcs_one tlb_lf0))
      refine bodyPost_ret (res_cell_slot (cs := #[.bool false, .bool false, .bool false, .bool false, .bool false, .bool false, .bool false, .bool false, .int .i64 0, .int .u64 0, .int .i64 0, .int .u64 0]) (v := .bool false) rfl _ _ W.heap.size 97 rfl rfl (HX1.out.setRow _) (tlb_leaf_row tlb_lf0)) rfl ?_
      unfold FindR
      rw [HF.out]
      exact ⟨rfl, below_setRow HB1.out (Nat.le_refl _) _⟩
end Go.Proofs.Ytecalibnnfcaeaa
