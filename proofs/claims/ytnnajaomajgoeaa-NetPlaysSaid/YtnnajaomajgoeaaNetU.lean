/- The reference's bag by the model's functions; both bags in one world. -/
import Derived.Test.YtnnajaomajgoeaaNetT
namespace Go.Proofs.Ytnnajaomajgoeaa
open Go.RowKit Go.ChangeShapes

theorem q_get {Q : List Pc} {k : Nat} (hk : k < Q.length) : Q[k]? = some (Q.getD k pc0) := by
  rw [List.getD_eq_getElem?_getD, List.getElem?_eq_getElem hk]
  rfl
section
variable (xb : Nat) (Q : List Pc) (F : Nat → Prop) (W : World)
theorem rsend_any (s d : Int) (l : List Nat) (h : RAt W xb Q 0 F) (hf : Q.length < 4096) :
    Calls Try.prog 9 #[.pointer (some ⟨xb, 0, none⟩), .int .i64 s, .int .i64 d, .string (strB l)] W fun e w' => e = .returned (.bool true) ∧ ∃ F', RAt w' xb (sendP Q s d l) 0 F' ∧ Moved F F' W w' := by
  unfold sendP
  rw [if_pos hf]
  exact rsend_yes xb Q 0 F W s d l h hf
theorem rtake_any (i : Int) (h : RAt W xb Q 0 F) (hf : Q.length < 4096) :
    Calls Try.prog 11 #[.pointer (some ⟨xb, 0, none⟩), .int .i64 i] W fun e w' => e = .returned (.tuple #[.agg #[.int .i64 (gotP Q i).src, .int .i64 (gotP Q i).dst, .string (strB (gotP Q i).byt), .bool (gotP Q i).hurt], .bool (hereB i Q.length)]) ∧ ∃ F', RAt w' xb (takeP Q i) 0 F' ∧ Moved F F' W w' := by
  unfold gotP takeP
  by_cases hh : hereB i Q.length = true
  · obtain ⟨k, rfl, hk⟩ := here_nat hh
    rw [hh, if_pos rfl, if_pos rfl, Int.toNat_natCast]
    exact rtake_yes xb Q 0 F W k _ h (by omega) (q_get hk)
  · have hh : hereB i Q.length = false := by simpa using hh
    rw [hh]
    refine (rtake_no xb Q 0 F W i h hh).mono ?_
    rintro e w' ⟨rfl, hb⟩
    exact ⟨rfl, F, h.below hb, Moved.of_below hb⟩
theorem rdouble_any (i : Int) (h : RAt W xb Q 0 F) (hf : Q.length < 4096) :
    Calls Try.prog 15 #[.pointer (some ⟨xb, 0, none⟩), .int .i64 i] W fun e w' => e = .returned (.bool (mayD Q i)) ∧ ∃ F', RAt w' xb (doubleP Q i) 0 F' ∧ Moved F F' W w' := by
  unfold doubleP mayD
  by_cases hh : hereB i Q.length = true
  · obtain ⟨k, rfl, hk⟩ := here_nat hh
    rw [hh, decide_eq_true hf, Int.toNat_natCast]
    exact rdouble_yes xb Q 0 F W k _ h hf (q_get hk)
  · have hh : hereB i Q.length = false := by simpa using hh
    rw [hh]
    refine (rdouble_no xb Q 0 F W i h hh).mono ?_
    rintro e w' ⟨rfl, rfl⟩
    exact ⟨rfl, F, h, Moved.rfl'⟩
theorem rturnP_any (i n : Int) (h : RAt W xb Q 0 F) (hf : Q.length < 4096) (hok : ∀ p ∈ Q, (∀ i : Nat, p.byt.getD i 0 < 256) ∧ p.byt.length ≤ 300) (hw : -9223372036854775808 ≤ n ∧ n < 9223372036854775808) :
    Calls Try.prog 17 #[.pointer (some ⟨xb, 0, none⟩), .int .i64 i, .int .i64 n, .bool false] W fun e w' => e = .returned (.bool (mayT Q i n)) ∧ ∃ F', RAt w' xb (turnP Q i n) 0 F' ∧ Moved F F' W w' := by
  unfold turnP
  by_cases hh : hereB i Q.length = true
  · obtain ⟨k, rfl, hk⟩ := here_nat hh
    have hx := q_get hk
    have hpo := hok _ (List.mem_of_getElem? hx)
    by_cases hm : mayT Q (k : Int) n = true
    · rw [if_pos hm]
      have hm2 := hm
      unfold mayT at hm2
      rw [Int.toNat_natCast] at hm2
      simp only [Bool.and_eq_true, decide_eq_true_eq, Bool.not_eq_true'] at hm2
      refine (rhurt_turn xb Q 0 F W k n _ h (by omega) hx hm2.1.1.2 hm2.1.2 hm2.2 hpo.1 (by omega) hw).mono ?_
      rintro e w' ⟨rfl, h2⟩
      exact ⟨by rw [hm], by rw [hurtP, Int.toNat_natCast]; exact h2⟩
    · have hm : mayT Q (k : Int) n = false := by simpa using hm
      refine (rhurt_no xb Q 0 F W k n false _ h hx ?_ hw).mono ?_
      · unfold mayT at hm
        rw [Int.toNat_natCast, hh] at hm
        simp only [Bool.and_eq_false_iff, decide_eq_false_iff_not, Bool.not_eq_false', Bool.true_and] at hm
        rcases hm with (hm | hm) | hm
        · exact .inl hm
        · exact .inr (.inl (by omega))
        · exact .inr (.inr (.inr ⟨rfl, by omega⟩))
      · rintro e w' ⟨rfl, hb⟩
        rw [hm]
        exact ⟨rfl, F, h.below hb, Moved.of_below hb⟩
  · have hh : hereB i Q.length = false := by simpa using hh
    have hm : mayT Q i n = false := by unfold mayT; rw [hh]; rfl
    refine (rhurt_no0 xb Q 0 F W i n false h hh).mono ?_
    rintro e w' ⟨rfl, rfl⟩
    rw [hm]
    exact ⟨rfl, F, h, Moved.rfl'⟩
theorem rcutP_any (i n : Int) (h : RAt W xb Q 0 F) (hf : Q.length < 4096) (hw : -9223372036854775808 ≤ n ∧ n < 9223372036854775808) :
    Calls Try.prog 17 #[.pointer (some ⟨xb, 0, none⟩), .int .i64 i, .int .i64 n, .bool true] W fun e w' => e = .returned (.bool (mayC Q i n)) ∧ ∃ F', RAt w' xb (cutP Q i n) 0 F' ∧ Moved F F' W w' := by
  unfold cutP
  by_cases hh : hereB i Q.length = true
  · obtain ⟨k, rfl, hk⟩ := here_nat hh
    have hx := q_get hk
    by_cases hm : mayC Q (k : Int) n = true
    · rw [if_pos hm]
      have hm2 := hm
      unfold mayC at hm2
      rw [Int.toNat_natCast] at hm2
      simp only [Bool.and_eq_true, decide_eq_true_eq, Bool.not_eq_true'] at hm2
      obtain ⟨b, rfl⟩ := Int.eq_ofNat_of_zero_le hm2.1.2
      refine (rhurt_cut xb Q 0 F W k b _ h (by omega) hx hm2.1.1.2 (by omega)).mono ?_
      rintro e w' ⟨rfl, h2⟩
      exact ⟨by rw [hm], by rw [hurtP, Int.toNat_natCast, Int.toNat_natCast]; exact h2⟩
    · have hm : mayC Q (k : Int) n = false := by simpa using hm
      refine (rhurt_no xb Q 0 F W k n true _ h hx ?_ hw).mono ?_
      · unfold mayC at hm
        rw [Int.toNat_natCast, hh] at hm
        simp only [Bool.and_eq_false_iff, decide_eq_false_iff_not, Bool.not_eq_false', Bool.true_and] at hm
        rcases hm with (hm | hm) | hm
        · exact .inl hm
        · exact .inr (.inl (by omega))
        · exact .inr (.inr (.inl ⟨rfl, by omega⟩))
      · rintro e w' ⟨rfl, hb⟩
        rw [hm]
        exact ⟨rfl, F, h.below hb, Moved.of_below hb⟩
  · have hh : hereB i Q.length = false := by simpa using hh
    have hm : mayC Q i n = false := by unfold mayC; rw [hh]; rfl
    refine (rhurt_no0 xb Q 0 F W i n true h hh).mono ?_
    rintro e w' ⟨rfl, rfl⟩
    rw [hm]
    exact ⟨rfl, F, h, Moved.rfl'⟩
end
/-- Parcels of a script. -/
def PcsOk (P : List Pc) : Prop := ∀ p ∈ P, (∀ i : Nat, p.byt.getD i 0 < 256) ∧ p.byt.length ≤ 300
theorem Bag.lt {w : World} {gb : Nat} {P : List Pc} {lost : Int} {F : Nat → Prop} (h : Bag w gb P lost F) : ∀ b, F b → b < w.heap.size := by
  obtain ⟨L, _, h⟩ := h
  exact h.lt
/-- Both bags and locals in one world. -/
structure NP (W : World) (gb xb : Nat) (P Q : List Pc) (loc : List (Nat × TypeId × Array Value)) (w : World) : Prop where
  ex : ∃ FB FX, Bag w gb P 0 FB ∧ RAt w xb Q 0 FX ∧ (∀ b, FB b → ¬ FX b) ∧ (∀ b, FB b → W.heap.size ≤ b) ∧ (∀ b, FX b → W.heap.size ≤ b) ∧ ∀ p ∈ loc, Blk w p.1 p.2.1 p.2.2 ∧ W.heap.size ≤ p.1 ∧ ¬ FB p.1 ∧ ¬ FX p.1
  bel : Below W.heap.size W w
section
variable {W w w' : World} {gb xb : Nat} {P P' Q Q' : List Pc} {loc loc' : List (Nat × TypeId × Array Value)}
theorem NP.step (h : NP W gb xb P Q loc w) (hb : Below w.heap.size w w') : NP W gb xb P Q loc w' := by
  obtain ⟨FB, FX, h1, h2, h3, h4, h5, h6⟩ := h.ex
  exact ⟨⟨FB, FX, h1.below hb, h2.below hb, h3, h4, h5, fun p hp => ⟨(h6 p hp).1.below hb (h6 p hp).1.lt, (h6 p hp).2⟩⟩, h.bel.trans (hb.mono h.bel.size)⟩
theorem NP.drew (h : NP W gb xb P Q loc w) : NP W gb xb P Q loc w.drew := h.step (Below.refl _ _).drew
theorem NP.push (h : NP W gb xb P Q loc w) (cs : Array Value) (t : TypeId) {b : Nat} (hb : b = w.heap.size) : NP W gb xb P Q ((b, t, cs) :: loc) (w.alloc (.cells cs t)) := by
  subst hb
  have h' := h.step ((Below.refl w.heap.size w).alloc (Nat.le_refl _) (.cells cs t))
  obtain ⟨FB, FX, h1, h2, h3, h4, h5, h6⟩ := h.ex
  have hb : Below w.heap.size w (w.alloc (.cells cs t)) := (Below.refl w.heap.size w).alloc (Nat.le_refl _) (.cells cs t)
  refine ⟨⟨FB, FX, h1.below hb, h2.below hb, h3, h4, h5, fun p hp => ?_⟩, h'.bel⟩
  rcases List.mem_cons.1 hp with rfl | hp
  · exact ⟨Blkf.new_at _ _ _ _ rfl, h.bel.size, fun e => absurd (h1.lt _ e) (Nat.lt_irrefl _), fun e => absurd (h2.lt _ e) (Nat.lt_irrefl _)⟩
  · exact ⟨(h6 p hp).1.below hb (h6 p hp).1.lt, (h6 p hp).2⟩
theorem NP.add {b : Nat} {t : TypeId} {cs : Array Value} {w0 : World} (h : NP W gb xb P Q loc w0) (hs : Below w0.heap.size w0 w) (hb : Blk w b t cs) (hw : w0.heap.size ≤ b) : NP W gb xb P Q ((b, t, cs) :: loc) w := by
  obtain ⟨FB, FX, h1, h2, h3, h4, h5, h6⟩ := h.ex
  refine ⟨⟨FB, FX, h1.below hs, h2.below hs, h3, h4, h5, fun p hp => ?_⟩, h.bel.trans (hs.mono h.bel.size)⟩
  rcases List.mem_cons.1 hp with rfl | hp
  · exact ⟨hb, Nat.le_trans h.bel.size hw, fun e => absurd (h1.lt _ e) (by omega), fun e => absurd (h2.lt _ e) (by omega)⟩
  · exact ⟨(h6 p hp).1.below hs (h6 p hp).1.lt, (h6 p hp).2⟩
theorem NP.only (h : NP W gb xb P Q loc w) (hl : ∀ p ∈ loc', p ∈ loc) : NP W gb xb P Q loc' w := by
  obtain ⟨FB, FX, h1, h2, h3, h4, h5, h6⟩ := h.ex
  exact ⟨⟨FB, FX, h1, h2, h3, h4, h5, fun p hp => h6 p (hl p hp)⟩, h.bel⟩
theorem NP.at_ (h : NP W gb xb P Q loc w) (i : Nat) (p : Nat × TypeId × Array Value) (hp : loc[i]? = some p) : Blk w p.1 p.2.1 p.2.2 := by
  obtain ⟨FB, FX, h1, h2, h3, h4, h5, h6⟩ := h.ex
  exact (h6 p (List.mem_of_getElem? hp)).1
/-- A local's block is written, and others made. -/
theorem NP.side (h : NP W gb xb P Q loc w) (i : Nat) (p : Nat × TypeId × Array Value) (hp : loc[i]? = some p) (k : Keeps (fun b => b = p.1) w w') : NP W gb xb P Q [] w' ∧ Below W.heap.size w w' := by
  obtain ⟨FB, FX, h1, h2, h3, h4, h5, h6⟩ := h.ex
  obtain ⟨q1, q2, q3, q4⟩ := h6 p (List.mem_of_getElem? hp)
  have hb := k.below (B := W.heap.size) (fun i e => by rw [e]; exact q2) h.bel.size
  exact ⟨⟨⟨FB, FX, h1.keeps k (fun b hb e => q3 (e ▸ hb)), h2.keeps k (fun b hb e => q4 (e ▸ hb)), h3, h4, h5, fun p hp => by simp at hp⟩, h.bel.trans hb⟩, hb⟩
theorem NP.turnB {f : FuncId} {args : Array Value} {r : Value} (h : NP W gb xb P Q loc w) (hc : ∀ F, Bag w gb P 0 F → Calls Try.prog f args w fun e w' => e = .returned r ∧ ∃ F', Bag w' gb P' 0 F' ∧ Moved F F' w w') :
    Calls Try.prog f args w fun e w' => e = .returned r ∧ NP W gb xb P' Q loc w' ∧ Below W.heap.size w w' := by
  obtain ⟨FB, FX, h1, h2, h3, h4, h5, h6⟩ := h.ex
  refine (hc FB h1).mono ?_
  rintro e w' ⟨rfl, F', k1, k2, k3⟩
  have hb := k3.below (B := W.heap.size) h4 h.bel.size
  refine ⟨rfl, ⟨⟨F', FX, k1, h2.keeps k3 (fun b hx hb => h3 b hb hx), fun b hb hx => ?_, fun b hb => ?_, h5, fun p hp => ?_⟩, h.bel.trans hb⟩, hb⟩
  · rcases k2 b hb with h7 | h7
    · exact h3 b h7 hx
    · have := h2.lt b hx; omega
  · rcases k2 b hb with h7 | h7
    · exact h4 b h7
    · exact Nat.le_trans h.bel.size h7
  · obtain ⟨q1, q2, q3, q4⟩ := h6 p hp
    refine ⟨k3.blk q1 q3, q2, fun e => ?_, q4⟩
    rcases k2 _ e with h7 | h7
    · exact q3 h7
    · exact absurd q1.lt (by omega)
theorem NP.turnR {f : FuncId} {args : Array Value} {r : Value} (h : NP W gb xb P Q loc w) (hc : ∀ F, RAt w xb Q 0 F → Calls Try.prog f args w fun e w' => e = .returned r ∧ ∃ F', RAt w' xb Q' 0 F' ∧ Moved F F' w w') :
    Calls Try.prog f args w fun e w' => e = .returned r ∧ NP W gb xb P Q' loc w' ∧ Below W.heap.size w w' := by
  obtain ⟨FB, FX, h1, h2, h3, h4, h5, h6⟩ := h.ex
  refine (hc FX h2).mono ?_
  rintro e w' ⟨rfl, F', k1, k2, k3⟩
  have hb := k3.below (B := W.heap.size) h5 h.bel.size
  refine ⟨rfl, ⟨⟨FB, F', h1.keeps k3 h3, k1, fun b hb hx => ?_, h4, fun b hb => ?_, fun p hp => ?_⟩, h.bel.trans hb⟩, hb⟩
  · rcases k2 b hx with h7 | h7
    · exact h3 b hb h7
    · have := h1.lt b hb; omega
  · rcases k2 b hb with h7 | h7
    · exact h5 b h7
    · exact Nat.le_trans h.bel.size h7
  · obtain ⟨q1, q2, q3, q4⟩ := h6 p hp
    refine ⟨k3.blk q1 q4, q2, q3, fun e => ?_⟩
    rcases k2 _ e with h7 | h7
    · exact q4 h7
    · exact absurd q1.lt (by omega)
theorem NP.same (h : NP W gb xb P Q loc w) (h' : NP W gb xb P' Q' loc w') (i : Nat) (p : Nat × TypeId × Array Value) (hp : loc[i]? = some p) : w'.heap[p.1]? = w.heap[p.1]? := (h'.at_ i p hp).trans (h.at_ i p hp).symm
end
/-- Where the bytes of a parcel lie: a local of their own, if there are any. -/
def TakenAt (W : World) (gb xb : Nat) (P Q : List Pc) (loc : List (Nat × TypeId × Array Value)) (w : World) (A : Option Addr) (l : List Nat) : Prop :=
  NP W gb xb P Q loc w ∧ Bts w A l ∧ (l ≠ [] → ∃ g o cs, A = some ⟨g, o, none⟩ ∧ NP W gb xb P Q ((g, 5, cs) :: loc) w)
section
variable {W w : World} {gb xb : Nat} {P Q : List Pc} {loc : List (Nat × TypeId × Array Value)}
theorem np_deliver (h : NP W gb xb P Q loc w) (i : Int) :
    Calls Try.prog 10 #[.pointer (some ⟨gb, 0, none⟩), .int .i64 i] w fun e w' => ∃ A c, e = .returned (.tuple #[.agg #[.int .i64 (gotP P i).src, .int .i64 (gotP P i).dst, .slice A (gotP P i).byt.length c, .bool (gotP P i).hurt], .bool (hereB i P.length)]) ∧ TakenAt W gb xb (takeP P i) Q loc w' A (gotP P i).byt ∧ Below W.heap.size w w' := by
  obtain ⟨FB, FX, h1, h2, h3, h4, h5, h6⟩ := h.ex
  refine (Deliver_any gb P 0 FB w i h1).mono ?_
  rintro e w' ⟨u, F', rfl, k1, ⟨k2, k3⟩, A, c, rfl, r1, r2, r3, r4⟩
  have hb := k3.below (B := W.heap.size) h4 h.bel.size
  have hloc : ∀ p ∈ loc, Blk w' p.1 p.2.1 p.2.2 ∧ W.heap.size ≤ p.1 ∧ ¬ F' p.1 ∧ ¬ FX p.1 := fun p hp => by
    obtain ⟨q1, q2, q3, q4⟩ := h6 p hp
    refine ⟨k3.blk q1 q3, q2, fun e => ?_, q4⟩
    rcases k2 _ e with h7 | h7
    · exact q3 h7
    · exact absurd q1.lt (by omega)
  have hR := h2.keeps k3 (fun b hx hb => h3 b hb hx)
  have hd : ∀ b, F' b → ¬ FX b := fun b hb hx => by
    rcases k2 b hb with h7 | h7
    · exact h3 b h7 hx
    · have := h2.lt b hx; omega
  have hl : ∀ b, F' b → W.heap.size ≤ b := fun b hb => by
    rcases k2 b hb with h7 | h7
    · exact h4 b h7
    · exact Nat.le_trans h.bel.size h7
  refine ⟨A, c, rfl, ⟨⟨⟨F', FX, k1, hR, hd, hl, h5, hloc⟩, h.bel.trans hb⟩, r1, fun hne => ?_⟩, hb⟩
  obtain ⟨g, o, rfl, _⟩ := r1.2 (List.length_pos_iff.2 hne)
  obtain ⟨⟨q1, q2⟩, cs, q3⟩ := r4 ⟨g, o, none⟩ rfl
  refine ⟨g, o, cs, rfl, ⟨F', FX, k1, hR, hd, hl, h5, fun p hp => ?_⟩, h.bel.trans hb⟩
  rcases List.mem_cons.1 hp with rfl | hp
  · exact ⟨q3, h4 _ q1, q2, h3 _ q1⟩
  · exact hloc p hp
end
end Go.Proofs.Ytnnajaomajgoeaa
