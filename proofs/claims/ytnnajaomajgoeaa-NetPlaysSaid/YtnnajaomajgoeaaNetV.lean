/- same; what the acts keep. -/
import Derived.Test.YtnnajaomajgoeaaNetU
namespace Go.Proofs.Ytnnajaomajgoeaa
open Go.RowKit Go.ChangeShapes

theorem PcsOk.mem {P P' : List Pc} (h : PcsOk P) (hm : ∀ p ∈ P', p ∈ P) : PcsOk P' := fun p hp => h p (hm p hp)
theorem PcsOk.getD {P : List Pc} (h : PcsOk P) (k : Nat) : (∀ i : Nat, (P.getD k pc0).byt.getD i 0 < 256) ∧ (P.getD k pc0).byt.length ≤ 300 := by
  rw [List.getD_eq_getElem?_getD]
  by_cases hk : k < P.length
  · rw [List.getElem?_eq_getElem hk]
    exact h _ (List.getElem_mem hk)
  · rw [List.getElem?_eq_none (by omega)]
    exact ⟨fun i => by simp [pc0], by simp [pc0]⟩
theorem PcsOk.send {P : List Pc} (h : PcsOk P) (s d : Int) (l : List Nat) (hl : ∀ i : Nat, l.getD i 0 < 256) (hn : l.length ≤ 300) : PcsOk (sendP P s d l) := by
  unfold sendP
  split
  · intro p hp
    rcases List.mem_append.1 hp with hp | hp
    · exact h p hp
    · simp at hp
      subst hp
      exact ⟨hl, hn⟩
  · exact h
theorem PcsOk.take {P : List Pc} (h : PcsOk P) (i : Int) : PcsOk (takeP P i) := by
  unfold takeP
  split
  · exact h.mem fun p hp => List.mem_of_mem_eraseIdx hp
  · exact h
theorem PcsOk.double {P : List Pc} (h : PcsOk P) (i : Int) : PcsOk (doubleP P i) := by
  unfold doubleP
  split
  · intro p hp
    rcases List.mem_append.1 hp with hp | hp
    · exact h p hp
    · simp only [List.mem_singleton] at hp
      subst hp
      exact h.getD _
  · exact h
theorem PcsOk.hurt {P : List Pc} (h : PcsOk P) (i : Int) (l : List Nat) (hl : ∀ i : Nat, l.getD i 0 < 256) (hn : l.length ≤ 300) : PcsOk (hurtP P i l) := by
  unfold hurtP
  intro p hp
  rcases List.mem_or_eq_of_mem_set hp with hp | hp
  · exact h p hp
  · subst hp
    exact ⟨hl, hn⟩
theorem PcsOk.turn {P : List Pc} (h : PcsOk P) (i n : Int) : PcsOk (turnP P i n) := by
  unfold turnP
  split
  · exact h.hurt i _ (turnL_lt (h.getD _).1 n) (by rw [turnL_length]; exact (h.getD _).2)
  · exact h
theorem PcsOk.cut {P : List Pc} (h : PcsOk P) (i n : Int) : PcsOk (cutP P i n) := by
  unfold cutP
  split
  · refine h.hurt i _ (fun j => ?_) ?_
    · have h1 := (h.getD i.toNat).1 j
      rw [List.getD_eq_getElem?_getD, List.getElem?_take]
      split
      · rw [← List.getD_eq_getElem?_getD]; exact h1
      · decide
    · have h1 := (h.getD i.toNat).2
      rw [List.length_take]
      omega
  · exact h
theorem sendP_len (P : List Pc) (s d : Int) (l : List Nat) : (sendP P s d l).length ≤ P.length + 1 := by unfold sendP; split <;> simp
theorem takeP_len (P : List Pc) (i : Int) : (takeP P i).length ≤ P.length + 1 := by unfold takeP; split; (rw [List.length_eraseIdx]; split <;> omega); omega
theorem doubleP_len (P : List Pc) (i : Int) : (doubleP P i).length ≤ P.length + 1 := by unfold doubleP; split <;> simp
theorem turnP_len (P : List Pc) (i n : Int) : (turnP P i n).length ≤ P.length + 1 := by unfold turnP hurtP; split <;> simp
theorem cutP_len (P : List Pc) (i n : Int) : (cutP P i n).length ≤ P.length + 1 := by unfold cutP hurtP; split <;> simp
theorem lostP_small {P : List Pc} (h : P.length < 4096) : lostP P 0 = 0 := by unfold lostP; rw [if_pos h]
theorem got_ok {P : List Pc} (h : PcsOk P) (i : Int) : (∀ j : Nat, (gotP P i).byt.getD j 0 < 256) ∧ (gotP P i).byt.length ≤ 300 := by
  unfold gotP
  split
  · exact h.getD _
  · exact ⟨fun i => by simp [pc0], by simp [pc0]⟩
set_option maxHeartbeats 1000000 in
theorem same_any (s d : Int) (b : Bool) (l : List Nat) (A : Option Addr) (m c : Nat) (W : World) (hB : Bts W A l) (hm : l.length = m) :
    Calls Try.prog 12 #[.agg #[.int .i64 s, .int .i64 d, .slice A m c, .bool b], .agg #[.int .i64 s, .int .i64 d, .string (strB l), .bool b]] W fun e w' => e = .returned (.bool true) ∧ Below W.heap.size W w' := by
  obtain ⟨S, hS⟩ : ∃ S, S = strB l := ⟨_, rfl⟩
  obtain ⟨w1, hw1⟩ : ∃ w1, w1 = (W.alloc (.cells #[.int .i64 s, .int .i64 d, .slice A m c, .bool b] 37)).alloc (.cells #[.int .i64 s, .int .i64 d, .string S, .bool b] 41) := ⟨_, rfl⟩
  have hb : Below W.heap.size W w1 := by rw [hw1]; exact ((Below.refl _ _).alloc (Nat.le_refl _) _).alloc (by simp) _
  have hcv := conv_bts (c := c) (bts_below hB hb) hm
  rw [← hS] at hcv ⊢
  rw [hw1] at hcv
  have HB := Lib.hid hb
  have HW := Lib.hid hw1
  clear hB hS hb hw1
  go_enter Try.func12, Try.ntmps12
  go_wp2_with fail
  go_ret
  exact ⟨rfl, by rw [← HW.out]; exact HB.out⟩
end Go.Proofs.Ytnnajaomajgoeaa
