/- NetFull. -/
import Derived.Test.YtnnajaomajgoeaaNetO
namespace Go.Proofs.Ytnnajaomajgoeaa
open Go.RowKit Go.ChangeShapes

def emp : Pc := ⟨0, 1, [], false⟩
def fullP (i : Nat) : List Pc := List.replicate (min i 4096) emp
def fullL (i : Nat) : Int := ((i - 4096 : Nat) : Int)
theorem fullP_step (i : Nat) : sendP (fullP i) 0 1 [] = fullP (i + 1) ∧ lostP (fullP i) (fullL i) = fullL (i + 1) ∧ decide ((fullP i).length < 4096) = decide ((i : Int) < 4096) := by
  unfold sendP lostP
  by_cases h : i < 4096
  · have hl : (fullP i).length < 4096 := by unfold fullP; rw [List.length_replicate]; omega
    rw [if_pos hl, if_pos hl, decide_eq_true hl]
    refine ⟨?_, by unfold fullL; omega, by rw [decide_eq_true (by omega)]⟩
    unfold fullP
    rw [show min i 4096 = i by omega, show min (i + 1) 4096 = i + 1 by omega, List.replicate_succ']
    rfl
  · have hl : ¬ (fullP i).length < 4096 := by unfold fullP; rw [List.length_replicate]; omega
    rw [if_neg hl, if_neg hl, decide_eq_false hl]
    refine ⟨?_, by unfold fullL; omega, by rw [decide_eq_false (by omega)]⟩
    unfold fullP
    rw [show min i 4096 = 4096 by omega, show min (i + 1) 4096 = 4096 by omega]
theorem bts_none (w : World) : Bts w none [] := ⟨fun i => by simp, fun h => by simp at h⟩
theorem double_full2 (k : Nat) : mayD (fullP k) 0 = (decide (0 < (k : Int)) && decide ((k : Int) < 4096)) := by
  unfold mayD hereB fullP
  rw [List.length_replicate]
  by_cases h : 0 < k
  · by_cases h2 : k < 4096
    · rw [decide_eq_true (show (0 : Int) ≤ 0 by omega), decide_eq_true (show (0 : Int) < ((min k 4096 : Nat) : Int) by omega), decide_eq_true (show min k 4096 < 4096 by omega), decide_eq_true (show (0 : Int) < (k : Int) by omega), decide_eq_true (show (k : Int) < 4096 by omega)]
      rfl
    · rw [decide_eq_false (show ¬ min k 4096 < 4096 by omega), decide_eq_false (show ¬ (k : Int) < 4096 by omega), Bool.and_false, Bool.and_false]
  · rw [decide_eq_false (show ¬ (0 : Int) < ((min k 4096 : Nat) : Int) by omega), decide_eq_false (show ¬ (0 : Int) < (k : Int) by omega)]
    simp
theorem getD_emp {P : List Pc} (h : ∀ x ∈ P, x = emp) (hi : hereB 0 P.length = true) : P.getD (0 : Int).toNat pc0 = emp := by
  obtain ⟨k, e, hk⟩ := here_nat hi
  have : k = 0 := by omega
  subst this
  rw [List.getD_eq_getElem?_getD, show (0 : Int).toNat = 0 from rfl, List.getElem?_eq_getElem hk]
  exact h _ (List.getElem_mem hk)
theorem cut_full {P : List Pc} (h : ∀ x ∈ P, x = emp) : mayC P 0 0 = false := by
  unfold mayC
  by_cases hi : hereB 0 P.length = true
  · rw [getD_emp h hi]
    simp [emp]
  · have : hereB 0 P.length = false := by simpa using hi
    rw [this]
    rfl
theorem all_emp {k : Nat} : ∀ x ∈ doubleP (fullP k) 0, x = emp := by
  intro x hx
  have h0 : ∀ x ∈ fullP k, x = emp := fun x hx => List.eq_of_mem_replicate hx
  unfold doubleP at hx
  split at hx
  · rename_i hd
    rcases List.mem_append.1 hx with hx | hx
    · exact h0 x hx
    · rw [List.mem_singleton.1 hx]
      exact getD_emp h0 (by unfold mayD at hd; simp only [Bool.and_eq_true] at hd; exact hd.1)
  · exact h0 x hx
set_option maxRecDepth 100000 in
set_option maxHeartbeats 4000000 in
theorem Law.NetFull (n at_ : Int) (W : World) (hn : (Lit.int .u16 n).wf = true) (_ : (Lit.int .i64 at_).wf = true) :
    Calls Try.prog 4 #[.int .u16 n, .int .i64 at_] W fun e w' => e = .returned (.bool true) ∧ Below W.heap.size W w' := by
  have hn2 : 0 ≤ n ∧ n ≤ 65535 := by simpa [Lit.wf, IntKind.min, IntKind.max, IntKind.signed, IntKind.bits] using hn
  obtain ⟨m, rfl⟩ := Int.eq_ofNat_of_zero_le hn2.1
  have hm : m ≤ 65535 := by omega
  clear hn hn2
  have HM := Lib.hid hm
  obtain ⟨k, hk⟩ : ∃ k : Nat, (m : Int).tmod 5000 = (k : Int) := ⟨m % 5000, by rw [Int.tmod_eq_emod_of_nonneg (by omega)]; omega⟩
  have hk5 : k < 5000 := by
    have := Int.tmod_lt_of_pos (m : Int) (show (0 : Int) < 5000 by decide)
    omega
  go_enter Try.func4, Try.ntmps4
  go_wp2_with fail
  refine (first19 _).mono ?_
  rintro e w0 ⟨rfl, hb0⟩
  have HB0 := Lib.hid hb0
  clear hb0
  go_wp2_with fail
  refine (at_new W HB0.out).mono ?_
  rintro e w1 ⟨rfl, ha⟩
  have HA := Lib.hid ha
  clear ha
  generalize w0.heap.size = gb at *
  go_wp2_with fail
  clear hk hm
  go_loopw [18] (fun i wr => ∃ j : Nat, j ≤ k ∧ i = .int .i64 j ∧ At W wr gb (fullP j) (fullL j)) (fun i _ => k - (intOf i).toNat)
  case atStart => exact ⟨0, by omega, rfl, HA.out⟩
  case round =>
    obtain ⟨j, hj, rfl, ha⟩ := hrel
    have HAJ := Lib.hid ha
    clear ha
    by_cases hjk : j < k
    · have hjI : (j : Int) < (k : Int) := by omega
      go_wp2_with fail
      obtain ⟨s1, s2, s3⟩ := fullP_step j
      refine (at_send HAJ.out 0 1 none [] 0 0 (bts_none _) rfl (by decide) (by unfold fullL; omega)).mono ?_
      rintro e w2 ⟨rfl, ha⟩
      rw [s1, s2] at ha
      rw [s3]
      have HA2 := Lib.hid ha
      clear ha s1 s2 s3
      by_cases hq : (j : Int) < 4096
      · rw [decide_eq_true hq]
        go_wp2_with fail
        go_roundw
        case rel => exact ⟨j + 1, by omega, by simp, HA2.out⟩
        case measure => simp [intOf]; omega
      · have hq2 : (4096 : Int) ≤ (j : Int) := by omega
        rw [decide_eq_false hq]
        clear hq
        go_wp2_with fail
        go_roundw
        case rel => exact ⟨j + 1, by omega, by simp, HA2.out⟩
        case measure => simp [intOf]; omega
    · have e : j = k := by omega
      subst e
      clear hjk hj
      go_wp2_with fail
      refine (at_len HAJ.out).mono ?_
      rintro e w' ⟨rfl, rfl⟩
      rcases (show j = 0 ∨ (0 < j ∧ j < 4096) ∨ j = 4096 ∨ 4096 < j by omega) with h | ⟨h, h2⟩ | h | h
      · subst h
        clear hk5
        rw [show (((fullP 0).length : Nat) : Int) = 0 by unfold fullP; rw [List.length_replicate]; first | done | omega]
        go_wp2_with fail
        refine (at_lost HAJ.out).mono ?_
        rintro e w' ⟨rfl, rfl⟩
        rw [show fullL 0 = 0 by unfold fullL; first | done | omega]
        go_wp2_with fail
        refine (at_double HAJ.out 0).mono ?_
        rintro e w2 ⟨rfl, ha⟩
        rw [show mayD (fullP 0) 0 = false by rw [double_full2]; simp <;> omega]
        have HA2 := Lib.hid ha
        clear ha
        go_wp2_with fail
        refine (at_cut HA2.out 0 0 (by decide)).mono ?_
        rintro e w3 ⟨rfl, ha⟩
        rw [cut_full all_emp]
        have HO := Lib.hid ha.old
        clear ha
        go_wp2_with fail
        refine (deliver_nil at_ _).mono ?_
        rintro e w4 ⟨rfl, hb⟩
        have HO := Lib.hid (HO.out.trans (hb.mono HO.out.size))
        clear hb
        go_wp2_with fail
        refine (send_nil 0 1 _ _).mono ?_
        rintro e w' ⟨rfl, rfl⟩
        go_wp2_with fail
        refine (drop_nil at_ _).mono ?_
        rintro e w5 ⟨rfl, hb⟩
        have HO := Lib.hid ((HO.out.alloc HO.out.size _).trans (hb.mono (Nat.le_trans HO.out.size (by simp))))
        clear hb
        go_wp2_with fail
        refine (double_nil at_ _).mono ?_
        rintro e w' ⟨rfl, rfl⟩
        go_wp2_with fail
        refine (turn_nil at_ 0 _).mono ?_
        rintro e w' ⟨rfl, rfl⟩
        go_wp2_with fail
        refine (cut_nil at_ 0 _).mono ?_
        rintro e w' ⟨rfl, rfl⟩
        go_wp2_with fail
        refine (len_nil _).mono ?_
        rintro e w' ⟨rfl, rfl⟩
        go_wp2_with fail
        refine (list_nil _).mono ?_
        rintro e w' ⟨rfl, rfl⟩
        go_wp2_with fail
        refine (lost_nil _).mono ?_
        rintro e w' ⟨rfl, rfl⟩
        go_wp2_with fail
        go_ret
        exact ⟨rfl, HO.out⟩
      · have g1 : (0 : Int) < (j : Int) := by omega
        have g2 : (j : Int) < 4096 := by omega
        have g3 : (j : Int) ≤ 4096 := by omega
        have g4 : (j : Int) - 4096 < 0 := by omega
        rw [show (((fullP j).length : Nat) : Int) = (j : Int) by unfold fullP; rw [List.length_replicate]; first | done | omega]
        go_wp2_with fail
        refine (at_lost HAJ.out).mono ?_
        rintro e w' ⟨rfl, rfl⟩
        rw [show fullL j = 0 by unfold fullL; first | done | omega]
        go_wp2_with fail
        refine (at_double HAJ.out 0).mono ?_
        rintro e w2 ⟨rfl, ha⟩
        rw [show mayD (fullP j) 0 = true by rw [double_full2]; simp <;> omega]
        have HA2 := Lib.hid ha
        clear ha
        go_wp2_with fail
        refine (at_cut HA2.out 0 0 (by decide)).mono ?_
        rintro e w3 ⟨rfl, ha⟩
        rw [cut_full all_emp]
        have HO := Lib.hid ha.old
        clear ha
        go_wp2_with fail
        refine (deliver_nil at_ _).mono ?_
        rintro e w4 ⟨rfl, hb⟩
        have HO := Lib.hid (HO.out.trans (hb.mono HO.out.size))
        clear hb
        go_wp2_with fail
        refine (send_nil 0 1 _ _).mono ?_
        rintro e w' ⟨rfl, rfl⟩
        go_wp2_with fail
        refine (drop_nil at_ _).mono ?_
        rintro e w5 ⟨rfl, hb⟩
        have HO := Lib.hid ((HO.out.alloc HO.out.size _).trans (hb.mono (Nat.le_trans HO.out.size (by simp))))
        clear hb
        go_wp2_with fail
        refine (double_nil at_ _).mono ?_
        rintro e w' ⟨rfl, rfl⟩
        go_wp2_with fail
        refine (turn_nil at_ 0 _).mono ?_
        rintro e w' ⟨rfl, rfl⟩
        go_wp2_with fail
        refine (cut_nil at_ 0 _).mono ?_
        rintro e w' ⟨rfl, rfl⟩
        go_wp2_with fail
        refine (len_nil _).mono ?_
        rintro e w' ⟨rfl, rfl⟩
        go_wp2_with fail
        refine (list_nil _).mono ?_
        rintro e w' ⟨rfl, rfl⟩
        go_wp2_with fail
        refine (lost_nil _).mono ?_
        rintro e w' ⟨rfl, rfl⟩
        go_wp2_with fail
        go_ret
        exact ⟨rfl, HO.out⟩
      · subst h
        clear hk5
        rw [show (((fullP 4096).length : Nat) : Int) = 4096 by unfold fullP; rw [List.length_replicate]; first | done | omega]
        go_wp2_with fail
        refine (at_lost HAJ.out).mono ?_
        rintro e w' ⟨rfl, rfl⟩
        rw [show fullL 4096 = 0 by unfold fullL; first | done | omega]
        go_wp2_with fail
        refine (at_double HAJ.out 0).mono ?_
        rintro e w2 ⟨rfl, ha⟩
        rw [show mayD (fullP 4096) 0 = false by rw [double_full2]; simp <;> omega]
        have HA2 := Lib.hid ha
        clear ha
        go_wp2_with fail
        refine (at_cut HA2.out 0 0 (by decide)).mono ?_
        rintro e w3 ⟨rfl, ha⟩
        rw [cut_full all_emp]
        have HO := Lib.hid ha.old
        clear ha
        go_wp2_with fail
        refine (deliver_nil at_ _).mono ?_
        rintro e w4 ⟨rfl, hb⟩
        have HO := Lib.hid (HO.out.trans (hb.mono HO.out.size))
        clear hb
        go_wp2_with fail
        refine (send_nil 0 1 _ _).mono ?_
        rintro e w' ⟨rfl, rfl⟩
        go_wp2_with fail
        refine (drop_nil at_ _).mono ?_
        rintro e w5 ⟨rfl, hb⟩
        have HO := Lib.hid ((HO.out.alloc HO.out.size _).trans (hb.mono (Nat.le_trans HO.out.size (by simp))))
        clear hb
        go_wp2_with fail
        refine (double_nil at_ _).mono ?_
        rintro e w' ⟨rfl, rfl⟩
        go_wp2_with fail
        refine (turn_nil at_ 0 _).mono ?_
        rintro e w' ⟨rfl, rfl⟩
        go_wp2_with fail
        refine (cut_nil at_ 0 _).mono ?_
        rintro e w' ⟨rfl, rfl⟩
        go_wp2_with fail
        refine (len_nil _).mono ?_
        rintro e w' ⟨rfl, rfl⟩
        go_wp2_with fail
        refine (list_nil _).mono ?_
        rintro e w' ⟨rfl, rfl⟩
        go_wp2_with fail
        refine (lost_nil _).mono ?_
        rintro e w' ⟨rfl, rfl⟩
        go_wp2_with fail
        go_ret
        exact ⟨rfl, HO.out⟩
      · have g1 : (0 : Int) < (j : Int) := by omega
        have g2 : (4096 : Int) < (j : Int) := by omega
        have g4 : (0 : Int) ≤ (j : Int) - 4096 := by omega
        rw [show (((fullP j).length : Nat) : Int) = 4096 by unfold fullP; rw [List.length_replicate]; first | done | omega]
        go_wp2_with fail
        refine (at_lost HAJ.out).mono ?_
        rintro e w' ⟨rfl, rfl⟩
        rw [show fullL j = (j : Int) - 4096 by unfold fullL; first | done | omega]
        go_wp2_with fail
        refine (at_double HAJ.out 0).mono ?_
        rintro e w2 ⟨rfl, ha⟩
        rw [show mayD (fullP j) 0 = false by rw [double_full2]; simp <;> omega]
        have HA2 := Lib.hid ha
        clear ha
        go_wp2_with fail
        refine (at_cut HA2.out 0 0 (by decide)).mono ?_
        rintro e w3 ⟨rfl, ha⟩
        rw [cut_full all_emp]
        have HO := Lib.hid ha.old
        clear ha
        go_wp2_with fail
        refine (deliver_nil at_ _).mono ?_
        rintro e w4 ⟨rfl, hb⟩
        have HO := Lib.hid (HO.out.trans (hb.mono HO.out.size))
        clear hb
        go_wp2_with fail
        refine (send_nil 0 1 _ _).mono ?_
        rintro e w' ⟨rfl, rfl⟩
        go_wp2_with fail
        refine (drop_nil at_ _).mono ?_
        rintro e w5 ⟨rfl, hb⟩
        have HO := Lib.hid ((HO.out.alloc HO.out.size _).trans (hb.mono (Nat.le_trans HO.out.size (by simp))))
        clear hb
        go_wp2_with fail
        refine (double_nil at_ _).mono ?_
        rintro e w' ⟨rfl, rfl⟩
        go_wp2_with fail
        refine (turn_nil at_ 0 _).mono ?_
        rintro e w' ⟨rfl, rfl⟩
        go_wp2_with fail
        refine (cut_nil at_ 0 _).mono ?_
        rintro e w' ⟨rfl, rfl⟩
        go_wp2_with fail
        refine (len_nil _).mono ?_
        rintro e w' ⟨rfl, rfl⟩
        go_wp2_with fail
        refine (list_nil _).mono ?_
        rintro e w' ⟨rfl, rfl⟩
        go_wp2_with fail
        refine (lost_nil _).mono ?_
        rintro e w' ⟨rfl, rfl⟩
        go_wp2_with fail
        go_ret
        exact ⟨rfl, HO.out⟩
end Go.Proofs.Ytnnajaomajgoeaa
