/- A bag by its parcels alone. -/
import Derived.Test.YtnnajaomajgoeaaNetM
namespace Go.Proofs.Ytnnajaomajgoeaa
open Go.RowKit Go.ChangeShapes

def Bag (w : World) (gb : Nat) (P : List Pc) (lost : Int) (F : Nat → Prop) : Prop := ∃ L, L.map (·.1) = P ∧ BagAt w gb L lost F
/-- The footprint is another, the world elsewhere as it was. -/
def Moved (F F' : Nat → Prop) (W w' : World) : Prop := (∀ b, F' b → F b ∨ W.heap.size ≤ b) ∧ Keeps F W w'
theorem Moved.of_below {F : Nat → Prop} {W w' : World} (h : Below W.heap.size W w') : Moved F F W w' := ⟨fun _ h => .inl h, Keeps.of_below h⟩
theorem Moved.rfl' {F : Nat → Prop} {W : World} : Moved F F W W := Moved.of_below (Below.refl _ _)
theorem Moved.trans {F F' F'' : Nat → Prop} {a b c : World} (h : Moved F F' a b) (k : Moved F' F'' b c) : Moved F F'' a c :=
  ⟨fun x hx => by
    rcases k.1 x hx with h1 | h1
    · exact h.1 x h1
    · exact .inr (Nat.le_trans h.2.size h1), h.2.trans k.2 (fun i hi => h.1 i hi)⟩
theorem Bag.below {w w' : World} {gb : Nat} {P : List Pc} {lost : Int} {F : Nat → Prop} (h : Bag w gb P lost F) (hb : Below w.heap.size w w') : Bag w' gb P lost F := by
  obtain ⟨L, e, h⟩ := h
  exact ⟨L, e, h.below hb⟩
theorem Bag.keeps {w w' : World} {gb : Nat} {P : List Pc} {lost : Int} {F H : Nat → Prop} (h : Bag w gb P lost F) (k : Keeps H w w') (hd : ∀ b, F b → ¬ H b) : Bag w' gb P lost F := by
  obtain ⟨L, e, h⟩ := h
  exact ⟨L, e, h.keeps k hd⟩
def sendP (P : List Pc) (s d : Int) (l : List Nat) : List Pc := if P.length < 4096 then P ++ [⟨s, d, l, false⟩] else P
def lostP (P : List Pc) (lost : Int) : Int := if P.length < 4096 then lost else lost + 1
def takeP (P : List Pc) (i : Int) : List Pc := if hereB i P.length then P.eraseIdx i.toNat else P
def pc0 : Pc := ⟨0, 0, [], false⟩
def gotP (P : List Pc) (i : Int) : Pc := if hereB i P.length then P.getD i.toNat pc0 else pc0
def mayD (P : List Pc) (i : Int) : Bool := hereB i P.length && decide (P.length < 4096)
def doubleP (P : List Pc) (i : Int) : List Pc := if mayD P i then P ++ [P.getD i.toNat pc0] else P
def mayT (P : List Pc) (i n : Int) : Bool := hereB i P.length && !(P.getD i.toNat pc0).hurt && decide (0 ≤ n) && decide (n / 8 < ((P.getD i.toNat pc0).byt.length : Int))
def mayC (P : List Pc) (i n : Int) : Bool := hereB i P.length && !(P.getD i.toNat pc0).hurt && decide (0 ≤ n) && decide (n < ((P.getD i.toNat pc0).byt.length : Int))
def hurtP (P : List Pc) (i : Int) (l : List Nat) : List Pc := P.set i.toNat ⟨(P.getD i.toNat pc0).src, (P.getD i.toNat pc0).dst, l, true⟩
def turnP (P : List Pc) (i n : Int) : List Pc := if mayT P i n then hurtP P i (turnL (P.getD i.toNat pc0).byt n) else P
def cutP (P : List Pc) (i n : Int) : List Pc := if mayC P i n then hurtP P i ((P.getD i.toNat pc0).byt.take n.toNat) else P
theorem here_nat {i : Int} {n : Nat} (h : hereB i n = true) : ∃ k : Nat, i = (k : Int) ∧ k < n := by
  unfold hereB at h
  simp only [Bool.and_eq_true, decide_eq_true_eq] at h
  exact ⟨i.toNat, by omega, by omega⟩
theorem bag_get {L : List (Pc × Value)} {k : Nat} (hk : k < L.length) : ∃ u, L[k]? = some ((L.map (·.1)).getD k pc0, u) := by
  refine ⟨(L[k]).2, ?_⟩
  rw [List.getElem?_eq_getElem hk]
  congr 1
  rw [List.getD_eq_getElem?_getD, List.getElem?_map, List.getElem?_eq_getElem hk]
  rfl
section
variable (gb : Nat) (P : List Pc) (lost : Int) (F : Nat → Prop) (W : World)
theorem Send_any (s d : Int) (A : Option Addr) (l : List Nat) (m c : Nat) (h : Bag W gb P lost F) (hB : Bts W A l) (hm : l.length = m) (hn : m ≤ 140737488355328) (hl : 0 ≤ lost ∧ lost < 1000000000) :
    Calls Try.prog 8 #[.pointer (some ⟨gb, 0, none⟩), .int .i64 s, .int .i64 d, .slice A m c] W fun e w' => e = .returned (.bool (decide (P.length < 4096))) ∧ ∃ F', Bag w' gb (sendP P s d l) (lostP P lost) F' ∧ Moved F F' W w' := by
  subst hm
  obtain ⟨L, rfl, h⟩ := h
  by_cases hf : L.length < 4096
  · refine (send_yes gb L lost s d A l c F W h hf hB hn).mono ?_
    rintro e w' ⟨rfl, u, F', h1, h2, h3⟩
    refine ⟨by rw [List.length_map, decide_eq_true hf], F', ?_, h2, h3⟩
    unfold sendP lostP
    rw [List.length_map, if_pos hf, if_pos hf]
    exact ⟨_, by rw [List.map_append]; rfl, h1⟩
  · refine (send_full gb L lost s d _ F W h (by omega) hl).mono ?_
    rintro e w' ⟨rfl, h1, h2⟩
    refine ⟨by rw [List.length_map, decide_eq_false hf], F, ?_, fun b h => .inl h, h2⟩
    unfold sendP lostP
    rw [List.length_map, if_neg hf, if_neg hf]
    exact ⟨_, rfl, h1⟩
theorem eraseIdx_map (L : List (Pc × Value)) (k : Nat) : (L.eraseIdx k).map (·.1) = (L.map (·.1)).eraseIdx k := by
  rw [List.eraseIdx_eq_take_drop_succ, List.eraseIdx_eq_take_drop_succ, List.map_append, List.map_take, List.map_drop]
theorem Deliver_any (i : Int) (h : Bag W gb P lost F) :
    Calls Try.prog 10 #[.pointer (some ⟨gb, 0, none⟩), .int .i64 i] W fun e w' => ∃ u F', e = .returned (.tuple #[.agg #[.int .i64 (gotP P i).src, .int .i64 (gotP P i).dst, u, .bool (gotP P i).hurt], .bool (hereB i P.length)]) ∧ Bag w' gb (takeP P i) lost F' ∧ Moved F F' W w' ∧ RdB w' (fun b => F b ∧ ¬ F' b) u (gotP P i).byt := by
  obtain ⟨L, rfl, h⟩ := h
  by_cases hh : hereB i L.length = true
  · obtain ⟨k, rfl, hk⟩ := here_nat hh
    obtain ⟨u, hx⟩ := bag_get hk
    refine (deliver_yes gb L lost k _ F W h hx).mono ?_
    rintro e w' ⟨rfl, h1, h2, h3⟩
    unfold takeP gotP
    rw [List.length_map, hh, if_pos rfl, if_pos rfl, Int.toNat_natCast]
    exact ⟨u, _, rfl, ⟨_, eraseIdx_map L k, h1⟩, ⟨fun b hb => .inl hb.1, h2⟩, h3.mono fun b hb => ⟨hb.1, fun e => e.2 hb.2⟩⟩
  · have hh : hereB i L.length = false := by simpa using hh
    refine (deliver_no gb L lost i F W h hh).mono ?_
    rintro e w' ⟨rfl, h1⟩
    unfold takeP gotP
    rw [List.length_map, hh]
    exact ⟨.slice none 0 0, F, rfl, ⟨L, rfl, h.below h1⟩, Moved.of_below h1, none, 0, rfl, ⟨fun i => by simp [pc0], fun h => by simp [pc0] at h⟩, by simp [pc0], by simp [pc0], fun a e => by cases e⟩
theorem Drop_any (i : Int) (h : Bag W gb P lost F) :
    Calls Try.prog 13 #[.pointer (some ⟨gb, 0, none⟩), .int .i64 i] W fun e w' => e = .returned (.bool (hereB i P.length)) ∧ ∃ F', Bag w' gb (takeP P i) lost F' ∧ Moved F F' W w' := by
  obtain ⟨L, rfl, h⟩ := h
  by_cases hh : hereB i L.length = true
  · obtain ⟨k, rfl, hk⟩ := here_nat hh
    obtain ⟨u, hx⟩ := bag_get hk
    refine (drop_yes gb L lost k _ F W h hx).mono ?_
    rintro e w' ⟨rfl, h1, h2⟩
    unfold takeP
    rw [List.length_map, hh, if_pos rfl, Int.toNat_natCast]
    exact ⟨rfl, _, ⟨_, eraseIdx_map L k, h1⟩, ⟨fun b hb => .inl hb.1, h2⟩⟩
  · have hh : hereB i L.length = false := by simpa using hh
    refine (drop_no gb L lost i F W h hh).mono ?_
    rintro e w' ⟨rfl, h1⟩
    unfold takeP
    rw [List.length_map, hh]
    exact ⟨rfl, F, ⟨L, rfl, h.below h1⟩, Moved.of_below h1⟩
theorem Double_any (i : Int) (h : Bag W gb P lost F) :
    Calls Try.prog 14 #[.pointer (some ⟨gb, 0, none⟩), .int .i64 i] W fun e w' => e = .returned (.bool (mayD P i)) ∧ ∃ F', Bag w' gb (doubleP P i) lost F' ∧ Moved F F' W w' := by
  obtain ⟨L, rfl, h⟩ := h
  unfold doubleP mayD
  rw [List.length_map]
  by_cases hh : hereB i L.length = true
  · by_cases hf : L.length < 4096
    · obtain ⟨k, rfl, hk⟩ := here_nat hh
      obtain ⟨u, hx⟩ := bag_get hk
      refine (double_yes gb L lost k _ u F W h hf hx).mono ?_
      rintro e w' ⟨rfl, u', F', h1, h2, h3⟩
      rw [hh, decide_eq_true hf, Int.toNat_natCast]
      exact ⟨rfl, F', ⟨_, by rw [List.map_append]; rfl, h1⟩, h2, h3⟩
    · refine (double_full gb L lost i F W h hh (by omega)).mono ?_
      rintro e w' ⟨rfl, rfl⟩
      rw [hh, decide_eq_false hf]
      exact ⟨rfl, F, ⟨L, rfl, h⟩, Moved.rfl'⟩
  · have hh : hereB i L.length = false := by simpa using hh
    refine (double_no gb L lost i F W h hh).mono ?_
    rintro e w' ⟨rfl, rfl⟩
    rw [hh]
    exact ⟨rfl, F, ⟨L, rfl, h⟩, Moved.rfl'⟩
theorem set_map (L : List (Pc × Value)) (k : Nat) (y : Pc × Value) : (L.set k y).map (·.1) = (L.map (·.1)).set k y.1 := List.map_set ..
theorem Turn_any (i n : Int) (h : Bag W gb P lost F) (hw : -9223372036854775808 ≤ n ∧ n < 9223372036854775808) :
    Calls Try.prog 16 #[.pointer (some ⟨gb, 0, none⟩), .int .i64 i, .int .i64 n] W fun e w' => e = .returned (.bool (mayT P i n)) ∧ ∃ F', Bag w' gb (turnP P i n) lost F' ∧ Moved F F' W w' := by
  obtain ⟨L, rfl, h⟩ := h
  by_cases hh : hereB i L.length = true
  · obtain ⟨k, rfl, hk⟩ := here_nat hh
    obtain ⟨u, hx⟩ := bag_get hk
    unfold turnP
    by_cases hm : mayT (L.map (·.1)) (k : Int) n = true
    · rw [if_pos hm]
      have hm2 := hm
      unfold mayT at hm2
      rw [Int.toNat_natCast] at hm2
      simp only [Bool.and_eq_true, decide_eq_true_eq, Bool.not_eq_true'] at hm2
      refine (bturn_yes gb L lost F W k n _ u h hx hm2.1.1.2 hm2.1.2 hm2.2 hw).mono ?_
      rintro e w' ⟨rfl, u', F', h1, h2, h3⟩
      exact ⟨by rw [hm], F', ⟨_, by rw [set_map, hurtP, Int.toNat_natCast], h1⟩, h2, h3⟩
    · have hm : mayT (L.map (·.1)) (k : Int) n = false := by simpa using hm
      refine (bturn_no gb L lost F W k n _ u h hx ?_ hw).mono ?_
      · unfold mayT at hm
        rw [Int.toNat_natCast, List.length_map, hh] at hm
        simp only [Bool.and_eq_false_iff, decide_eq_false_iff_not, Bool.not_eq_false', Bool.true_and] at hm
        rcases hm with (hm | hm) | hm
        · exact .inl hm
        · exact .inr (.inl (by omega))
        · exact .inr (.inr (by omega))
      · rintro e w' ⟨rfl, rfl⟩
        rw [hm]
        exact ⟨rfl, F, ⟨L, rfl, h⟩, Moved.rfl'⟩
  · have hh : hereB i L.length = false := by simpa using hh
    have hm : mayT (L.map (·.1)) i n = false := by unfold mayT; rw [List.length_map, hh]; rfl
    refine (bturn_no0 gb L lost F W i n h hh).mono ?_
    rintro e w' ⟨rfl, rfl⟩
    unfold turnP
    rw [hm]
    exact ⟨rfl, F, ⟨L, rfl, h⟩, Moved.rfl'⟩
theorem Cut_any (i n : Int) (h : Bag W gb P lost F) (hw : -9223372036854775808 ≤ n ∧ n < 9223372036854775808) :
    Calls Try.prog 18 #[.pointer (some ⟨gb, 0, none⟩), .int .i64 i, .int .i64 n] W fun e w' => e = .returned (.bool (mayC P i n)) ∧ ∃ F', Bag w' gb (cutP P i n) lost F' ∧ Moved F F' W w' := by
  obtain ⟨L, rfl, h⟩ := h
  by_cases hh : hereB i L.length = true
  · obtain ⟨k, rfl, hk⟩ := here_nat hh
    obtain ⟨u, hx⟩ := bag_get hk
    unfold cutP
    by_cases hm : mayC (L.map (·.1)) (k : Int) n = true
    · rw [if_pos hm]
      have hm2 := hm
      unfold mayC at hm2
      rw [Int.toNat_natCast] at hm2
      simp only [Bool.and_eq_true, decide_eq_true_eq, Bool.not_eq_true'] at hm2
      obtain ⟨b, rfl⟩ := Int.eq_ofNat_of_zero_le hm2.1.2
      refine (bcut_yes gb L lost F W k b _ u h hx hm2.1.1.2 (by omega)).mono ?_
      rintro e w' ⟨rfl, u', F', h1, h2, h3⟩
      exact ⟨by rw [hm], F', ⟨_, by rw [set_map, hurtP, Int.toNat_natCast, Int.toNat_natCast], h1⟩, h2, h3⟩
    · have hm : mayC (L.map (·.1)) (k : Int) n = false := by simpa using hm
      refine (bcut_no gb L lost F W k n _ u h hx ?_ hw).mono ?_
      · unfold mayC at hm
        rw [Int.toNat_natCast, List.length_map, hh] at hm
        simp only [Bool.and_eq_false_iff, decide_eq_false_iff_not, Bool.not_eq_false', Bool.true_and] at hm
        rcases hm with (hm | hm) | hm
        · exact .inl hm
        · exact .inr (.inl (by omega))
        · exact .inr (.inr (by omega))
      · rintro e w' ⟨rfl, rfl⟩
        rw [hm]
        exact ⟨rfl, F, ⟨L, rfl, h⟩, Moved.rfl'⟩
  · have hh : hereB i L.length = false := by simpa using hh
    have hm : mayC (L.map (·.1)) i n = false := by unfold mayC; rw [List.length_map, hh]; rfl
    refine (bcut_no0 gb L lost F W i n h hh).mono ?_
    rintro e w' ⟨rfl, rfl⟩
    unfold cutP
    rw [hm]
    exact ⟨rfl, F, ⟨L, rfl, h⟩, Moved.rfl'⟩
theorem Len_any (h : Bag W gb P lost F) : Calls Try.prog 20 #[.pointer (some ⟨gb, 0, none⟩)] W fun e w' => e = .returned (.int .i64 (P.length : Int)) ∧ W = w' := by
  obtain ⟨L, rfl, h⟩ := h
  rw [List.length_map]
  exact len_any gb L lost F W h
theorem Lost_any (h : Bag W gb P lost F) : Calls Try.prog 21 #[.pointer (some ⟨gb, 0, none⟩)] W fun e w' => e = .returned (.int .i64 lost) ∧ W = w' := by
  obtain ⟨L, rfl, h⟩ := h
  exact lost_any gb L lost F W h
theorem List_any (h : Bag W gb P lost F) (hl : P.length ≤ 4096) : Calls Try.prog 19 #[.pointer (some ⟨gb, 0, none⟩)] W fun e w' => ∃ v M, e = .returned v ∧ M.map (·.1) = P ∧ ListAt w' W.heap.size v M ∧ Below W.heap.size W w' := by
  obtain ⟨L, rfl, h⟩ := h
  rw [List.length_map] at hl
  exact list_any gb L lost F W h hl
theorem New_any : Calls Try.prog 7 #[] W fun e w' => e = .returned (.pointer (some ⟨W.heap.size, 0, none⟩)) ∧ Bag w' W.heap.size [] 0 (fun b => b = W.heap.size) ∧ Below W.heap.size W w' := by
  refine (new_any W).mono ?_
  rintro e w' ⟨rfl, h1, h2⟩
  exact ⟨rfl, ⟨[], rfl, h1⟩, h2⟩
end
end Go.Proofs.Ytnnajaomajgoeaa
