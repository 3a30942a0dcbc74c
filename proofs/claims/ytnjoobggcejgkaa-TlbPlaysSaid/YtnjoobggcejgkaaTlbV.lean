/- Both buffers in one world. -/
import Derived.Test.YtnjoobggcejgkaaTlbU
namespace Go.Proofs.Ytnjoobggcejgkaa
open Go.RowKit

theorem TOk.fill {T : List (List En)} {n m va : Nat} {asid pick : Int} {lf : Lf} (h : TOk T n m) (hl : levOK lf.lev = true) : TOk (fillS T va asid lf pick) n m := by
  refine ⟨by rw [fillS_length, h.len], h.n0, h.n64, h.m0, h.m8, fun i hi => ?_, valid_fill h.val _ _ _ _ hl⟩
  unfold fillS
  by_cases hiq : i = fillQ T va lf
  · subst hiq
    rw [List.getD_eq_getElem?_getD, List.getElem?_set_self (by rw [h.len]; exact hi)]
    show (List.set _ _ _).length = m
    rw [List.length_set]
    exact h.ways _ hi
  · rw [List.getD_eq_getElem?_getD, List.getElem?_set_ne (Ne.symm hiq), ← List.getD_eq_getElem?_getD]
    exact h.ways i hi
theorem TOk.fence {T : List (List En)} {n m : Nat} (h : TOk T n m) (vo : Option Nat) (ao : Option Int) : TOk (fenceS T vo ao) n m := by
  refine ⟨by rw [fenceS_length, h.len], h.n0, h.n64, h.m0, h.m8, fun i hi => ?_, valid_fence h.val _ _⟩
  unfold fenceS
  have hw := h.ways i hi
  rw [List.getD_eq_getElem?_getD, List.getElem?_eq_getElem (by rw [h.len]; exact hi)] at hw
  rw [List.getD_eq_getElem?_getD, List.getElem?_map, List.getElem?_eq_getElem (by rw [h.len]; exact hi)]
  show (List.map _ _).length = m
  rw [List.length_map]
  exact hw
theorem TOk.empty {n m : Nat} (h : rightS n m = true) : TOk (emptyT n m) n m := by
  have hb : 1 ≤ n ∧ n ≤ 64 ∧ 1 ≤ m ∧ m ≤ 8 := by
    unfold rightS at h
    simp only [Bool.and_eq_true, decide_eq_true_eq] at h
    obtain ⟨h1, h2, h3⟩ := h
    have : ¬ ((n : Int) < 1 ∨ 64 < (n : Int)) := fun h4 => by rw [pow_not h4] at h1; cases h1
    omega
  refine ⟨by simp [emptyT], by omega, by omega, by omega, by omega, fun i hi => ?_, empty_valid n m⟩
  unfold emptyT
  rw [List.getD_eq_getElem?_getD, List.getElem?_replicate, if_pos hi]
  show (List.replicate m en0).length = m
  simp
theorem WfT.fill {T : List (List En)} {va : Nat} {asid pick : Int} {lf : Lf} (h : WfT T) (hl : LfWf lf) (ha : (Lit.int .i64 asid).wf = true) : WfT (fillS T va asid lf pick) := by
  intro s hs e he hf
  unfold fillS at hs
  rcases List.mem_or_eq_of_mem_set hs with h1 | h1
  · exact h s h1 e he hf
  · subst h1
    rcases List.mem_or_eq_of_mem_set he with h2 | h2
    · by_cases hq : fillQ T va lf < T.length
      · have hm : T.getD (fillQ T va lf) [] ∈ T := by rw [List.getD_eq_getElem?_getD, List.getElem?_eq_getElem hq]; exact List.getElem_mem _
        exact h _ hm e h2 hf
      · rw [List.getD_eq_getElem?_getD, List.getElem?_eq_none (by omega)] at h2
        simp at h2
    · subst h2
      exact ⟨hl, ha, Nat.lt_trans (pgN_lt va lf.lev) (by decide)⟩
theorem WfT.fence {T : List (List En)} (h : WfT T) (vo : Option Nat) (ao : Option Int) : WfT (fenceS T vo ao) := by
  intro s hs e he hf
  unfold fenceS at hs
  obtain ⟨s0, hs0, rfl⟩ := List.mem_map.1 hs
  obtain ⟨e0, he0, rfl⟩ := List.mem_map.1 he
  unfold fen at hf ⊢
  split at hf
  · simp [en0] at hf
  · rename_i hg
    rw [if_neg hg]
    exact h s0 hs0 e0 he0 hf
theorem WfT.empty (n m : Nat) : WfT (emptyT n m) := by
  intro s hs e he hf
  unfold emptyT at hs
  have h1 := List.eq_of_mem_replicate hs
  subst h1
  have h2 := List.eq_of_mem_replicate he
  subst h2
  simp [en0] at hf
theorem way_wf {l : List En} {lev : Int} {va : Nat} {asid : Int} {lf : Lf} (h : ∀ e ∈ l, e.full = true → EnWf e) (hf : wayFind l lev va asid = some lf) : LfWf lf := by
  unfold wayFind at hf
  cases hx : l.find? (hitB lev va asid) with
  | none => rw [hx] at hf; simp at hf
  | some e =>
    rw [hx] at hf
    have h1 := List.find?_some hx
    have h2 := List.mem_of_find?_eq_some hx
    simp at hf
    subst hf
    unfold hitB matchB hasB at h1
    simp only [Bool.and_eq_true] at h1
    exact (h e h2 h1.2.1.1).1
theorem getD_wf {T : List (List En)} (h : WfT T) (i : Nat) : ∀ e ∈ T.getD i [], e.full = true → EnWf e := by
  intro e he hf
  by_cases hi : i < T.length
  · have hm : T.getD i [] ∈ T := by rw [List.getD_eq_getElem?_getD, List.getElem?_eq_getElem hi]; exact List.getElem_mem _
    exact h _ hm e he hf
  · rw [List.getD_eq_getElem?_getD, List.getElem?_eq_none (by omega)] at he
    simp at he
theorem find_wf {T : List (List En)} {va : Nat} {asid : Int} (h : WfT T) : LfWf ((findS T va asid).getD lf0) := by
  cases hf : findS T va asid with
  | none => unfold LfWf; decide
  | some lf =>
    unfold findS at hf
    simp only [Option.or_eq_some_iff] at hf
    rcases hf with hf | ⟨_, hf | ⟨_, hf⟩⟩
    · exact way_wf (getD_wf h _) hf
    · exact way_wf (getD_wf h _) hf
    · exact way_wf (getD_wf h _) hf
theorem small_wf {k : Nat} (h : k < 1000) : (Lit.int .i64 (k : Int)).wf = true := by
  simp [Lit.wf, IntKind.min, IntKind.max, IntKind.signed, IntKind.bits]; omega
theorem slots_wf {T : List (List En)} {n m : Nat} (hK : TOk T n m) (h : WfT T) : ∀ x ∈ listT 0 T, SlWf x := by
  intro x hx
  obtain ⟨s, y, h1, h2, h3⟩ := mem_listT hx
  cases hT : (T.getD s [])[y]? with
  | none => rw [hT] at h3; simp at h3
  | some e =>
    rw [hT] at h3
    obtain ⟨_, _, hf, hxe⟩ := ent_key (e := e) (by simpa using h3)
    have hs : s < n := by
      rcases Nat.lt_or_ge s n with h | h
      · exact h
      · have e0 : T[s]? = none := List.getElem?_eq_none (by rw [hK.len]; exact h)
        rw [List.getD_eq_getElem?_getD, e0] at hT
        simp at hT
    have hy : y < m := by
      have := (List.getElem?_eq_some_iff.1 hT).1
      rw [hK.ways s hs] at this
      exact this
    have hw := getD_wf h s e (List.mem_of_getElem? hT) hf
    have := hK.n64
    have := hK.m8
    rw [hxe]
    exact ⟨hw.1, hw.2.1, hw.2.2, small_wf (by omega), small_wf (by omega)⟩
/-- A buffer of sets T, and the reference's of sets T2, and locals. -/
structure TP (W : World) (g gs : Nat) (Gb : Nat → Nat) (gx : Nat) (G : Nat → Prop) (n m : Nat) (T T2 : List (List En)) (L : List Sl) (loc : List (Nat × TypeId × Array Value)) (w : World) : Prop where
  buf : BufAt w g gs Gb T m
  ref : RefG w gx G n m L
  ok : TOk T n m
  ok2 : TOk T2 n m
  perm : L.Perm (listT 0 T2)
  wf : WfT T
  wf2 : WfT T2
  low : ∀ k, bufF g gs Gb n k → W.heap.size ≤ k
  lowG : ∀ k, G k → W.heap.size ≤ k
  apart : ∀ k, bufF g gs Gb n k → ¬ G k
  bel : Below W.heap.size W w
  loc : ∀ p ∈ loc, Blk w p.1 p.2.1 p.2.2 ∧ ¬ bufF g gs Gb n p.1 ∧ ¬ G p.1
section
variable {W w w' : World} {g gs gx n m : Nat} {Gb : Nat → Nat} {G : Nat → Prop} {T T2 T' : List (List En)} {L L' : List Sl} {loc loc' : List (Nat × TypeId × Array Value)}
theorem TP.ltB (h : TP W g gs Gb gx G n m T T2 L loc w) {k : Nat} (hk : bufF g gs Gb n k) : k < w.heap.size := h.buf.lt k (by rw [h.ok.len]; exact hk)
theorem TP.step (h : TP W g gs Gb gx G n m T T2 L loc w) (hb : Below w.heap.size w w') : TP W g gs Gb gx G n m T T2 L loc w' :=
  ⟨h.buf.below hb, h.ref.below hb, h.ok, h.ok2, h.perm, h.wf, h.wf2, h.low, h.lowG, h.apart, h.bel.trans (hb.mono h.bel.size), fun p hp => ⟨(h.loc p hp).1.below hb (h.loc p hp).1.lt, (h.loc p hp).2⟩⟩
theorem TP.push (h : TP W g gs Gb gx G n m T T2 L loc w) (cs : Array Value) (t : TypeId) {b : Nat} (hb : b = w.heap.size) : TP W g gs Gb gx G n m T T2 L ((b, t, cs) :: loc) (w.alloc (.cells cs t)) := by
  subst hb
  have h1 := h.step ((Below.refl w.heap.size w).alloc (Nat.le_refl _) (.cells cs t))
  refine ⟨h1.buf, h1.ref, h1.ok, h1.ok2, h1.perm, h1.wf, h1.wf2, h1.low, h1.lowG, h1.apart, h1.bel, fun p hp => ?_⟩
  rcases List.mem_cons.1 hp with rfl | hp
  · exact ⟨Blkf.new_at _ _ _ _ rfl, fun hf => absurd (h.ltB hf) (Nat.lt_irrefl _), fun hg => absurd (h.ref.lt _ hg) (Nat.lt_irrefl _)⟩
  · exact h1.loc p hp
theorem TP.only (h : TP W g gs Gb gx G n m T T2 L loc w) (hl : ∀ p ∈ loc', p ∈ loc) : TP W g gs Gb gx G n m T T2 L loc' w :=
  ⟨h.buf, h.ref, h.ok, h.ok2, h.perm, h.wf, h.wf2, h.low, h.lowG, h.apart, h.bel, fun p hp => h.loc p (hl p hp)⟩
theorem TP.at_ (h : TP W g gs Gb gx G n m T T2 L loc w) (i : Nat) (p : Nat × TypeId × Array Value) (hp : loc[i]? = some p) : Blk w p.1 p.2.1 p.2.2 := (h.loc p (List.mem_of_getElem? hp)).1
theorem TP.range (h : TP W g gs Gb gx G n m T T2 L loc w) (i : Nat) (p : Nat × TypeId × Array Value) (hp : loc[i]? = some p) : w.rangeAt p.1 0 p.2.2.toList := (h.at_ i p hp).range
theorem TP.turnB (h : TP W g gs Gb gx G n m T T2 L loc w) (hB : BufAt w' g gs Gb T' m) (hk : Keeps (bufF g gs Gb n) w w') (hok : TOk T' n m) (hwf : WfT T') : TP W g gs Gb gx G n m T' T2 L loc w' :=
  ⟨hB, h.ref.keeps hk (fun b hg hf => h.apart b hf hg), hok, h.ok2, h.perm, hwf, h.wf2, h.low, h.lowG, h.apart, below_step h.bel hk h.low h.bel.size, fun p hp => ⟨hk.blk (h.loc p hp).1 (h.loc p hp).2.1, (h.loc p hp).2⟩⟩
theorem TP.turnR (h : TP W g gs Gb gx G n m T T2 L loc w) (hp : PutG w gx G n m L' w') (hpm : L'.Perm (listT 0 T')) (hok : TOk T' n m) (hwf : WfT T') : ∃ G', TP W g gs Gb gx G' n m T T' L' loc w' := by
  obtain ⟨G', h1, h2, h3⟩ := hp
  have hx := h.ref.at0
  refine ⟨G', h.buf.move fun k hk hf => h3.block k hk (fun e => h.apart k (by rw [← h.ok.len]; exact hf) (e ▸ hx)), h1, h.ok, hok, hpm, h.wf, hwf, h.low, fun k hk => ?_, fun k hk hg => ?_, below_step h.bel h3 (fun k e => e ▸ h.lowG _ hx) h.bel.size, fun p hp => ?_⟩
  · rcases h2 k hk with h4 | h4
    · exact h.lowG k h4
    · exact Nat.le_trans h.bel.size h4
  · rcases h2 k hg with h4 | h4
    · exact h.apart k hk h4
    · exact absurd (h.ltB hk) (by omega)
  · obtain ⟨b1, b2, b3⟩ := h.loc p hp
    refine ⟨h3.blk b1 (fun e => b3 (e ▸ hx)), b2, fun hg => ?_⟩
    rcases h2 _ hg with h4 | h4
    · exact b3 h4
    · exact absurd b1.lt (by omega)
end
end Go.Proofs.Ytnjoobggcejgkaa
