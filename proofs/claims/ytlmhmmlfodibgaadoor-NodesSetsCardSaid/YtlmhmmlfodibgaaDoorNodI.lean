/- NodesAdds, NodesSets. -/
import Derived.Test.YtlmhmmlfodibgaaDoorNodH
namespace Go.Proofs.YtlmhmmlfodibgaaDoor
open Go.RowKit

def isB (n : Int) : Bool := decide (0 ≤ n) && decide (n < 16)
theorem has_add_is (s : Nat) (n : Int) (hs : s < 65536) : hasB (s ||| bitN n) n = isB n := by
  rw [has_add]
  unfold isB
  cases h : hasB s n with
  | false => rfl
  | true =>
    unfold hasB at h
    simp only [Bool.and_eq_true, decide_eq_true_eq] at h
    have := tb_lt hs h.2
    rw [Bool.true_or, Bool.eq_iff_iff]; simp; omega
theorem has_drop (s : Nat) (n : Int) (hs : s < 65536) : hasB (lessN s (bitN n)) n = false := by
  unfold hasB
  by_cases h : 0 ≤ n
  · rw [less_tb _ _ _ (bitN_lt n), bit_tb, show ((n.toNat : Nat) : Int) = n by omega]
    by_cases h2 : n.toNat < 16
    · simp [h2]
    · simp [h2]
  · simp [h]
theorem has_add_k (s : Nat) (n : Int) (k : Nat) (hkn : ¬ (k : Int) = n) : hasB (s ||| bitN n) (k : Int) = hasB s (k : Int) := by
  rw [has_nat, has_nat, Nat.testBit_or, bit_tb]
  simp [hkn]
theorem has_drop_k (s : Nat) (n : Int) (k : Nat) (hk : k < 16) (hkn : ¬ (k : Int) = n) : hasB (lessN s (bitN n)) (k : Int) = hasB s (k : Int) := by
  rw [has_nat, has_nat, less_tb _ _ _ (bitN_lt n), bit_tb]
  simp [hkn, hk]
/-- The part behind the tests on n: the loop, the search, the end. -/
def AdEnd (s : Nat) (n : Int) (W : World) : Prop := s < 65536 ∧ (-9223372036854775808 ≤ n ∧ n < 9223372036854775808) ∧ Tab W
theorem wI_take {l : List Nat} {k x : Nat} (n : Int) (hx : l[k]? = some x) : wI (l.take (k + 1)) n = if n ≤ (x : Int) ∧ wI (l.take k) n < 0 then (x : Int) else wI (l.take k) n := by
  rw [List.take_add_one, hx]; exact wI_snoc _ _ _
set_option maxRecDepth 100000 in
set_option maxHeartbeats 4000000 in
theorem adds_walk (s : Nat) (n : Int) (W : World) (hs : s < 65536) (hn : -9223372036854775808 ≤ n ∧ n < 9223372036854775808) (hT : Tab W) :
    Calls Tryd.prog 4 #[.int .u16 s, .int .i64 n] W fun e w' => e = .returned (.bool true) ∧ Below W.heap.size W w' := by
  have HS := Lib.hid hs
  have HN := Lib.hid hn
  have HT := Lib.hid hT
  obtain ⟨a, had⟩ : ∃ a, a = s ||| bitN n := ⟨_, rfl⟩
  obtain ⟨d, hdd⟩ : ∃ d, d = lessN s (bitN n) := ⟨_, rfl⟩
  have HA : Hid (a < 65536) := Lib.hid (by rw [had]; exact or_lt _ _ hs (bitN_lt n))
  have HD : Hid (d < 65536) := Lib.hid (by rw [hdd]; exact less_lt _ _ hs)
  have HAH : Hid (hasB a n = isB n) := Lib.hid (by rw [had]; exact has_add_is s n hs)
  have HDH : Hid (hasB d n = false) := Lib.hid (by rw [hdd]; exact has_drop s n hs)
  have HAK : Hid (∀ k : Nat, ¬ (k : Int) = n → hasB a (k : Int) = hasB s (k : Int)) := Lib.hid (by rw [had]; exact fun k => has_add_k s n k)
  have HDK : Hid (∀ k : Nat, k < 16 → ¬ (k : Int) = n → hasB d (k : Int) = hasB s (k : Int)) := Lib.hid (by rw [hdd]; exact fun k => has_drop_k s n k)
  have HAS : Hid ((n < 0 ∨ 16 ≤ n) → a = s ∧ d = s) := Lib.hid (fun h => by rw [had, hdd, bit_out n h]; exact ⟨or_zero s, less_zero s hs⟩)
  have HAD := Lib.hid (fun W => add_any s n W hs hn)
  rw [← had] at HAD
  have HDR := Lib.hid (fun W => drop_any s n W hs hn)
  rw [← hdd] at HDR
  have HNX := Lib.hid (next_wI s n)
  have HLT := Lib.hid (list_lt s)
  have hle := list_len s
  have HISB : Hid (isB n = (decide (0 ≤ n) && decide (n < 16))) := Lib.hid rfl
  clear hs hn hT had hdd
  rcases (show n < 0 ∨ 16 ≤ n ∨ (0 ≤ n ∧ n < 16) by omega) with h | h | ⟨h, h2⟩
  · have hi : isB n = false := by rw [HISB.out]; simp; omega
    have HI := Lib.hid hi
    obtain ⟨rfl, rfl⟩ := HAS.out (.inl h)
    have hss : ((d : Int) != (d : Int)) = false := by simp
    clear hi
    go_enter Tryd.func4, Tryd.ntmps4
    go_wp2_with fail
    refine (first_ok _ HT.out).mono ?_
    rintro e w1 ⟨rfl, hb⟩
    have HB1 := Lib.hid hb
    clear hb
    go_wp2_with fail
    refine (HAD.out _).mono ?_
    rintro e w2 ⟨rfl, rfl⟩
    go_wp2_with fail
    refine (HDR.out _).mono ?_
    rintro e w2 ⟨rfl, rfl⟩
    go_wp2_with fail
    refine (rhas_any _ n _ HA.out).mono ?_
    rintro e w2 ⟨rfl, rfl⟩
    rw [HAH.out, HI.out]
    go_wp2_with fail
    refine (rhas_any _ n _ HD.out).mono ?_
    rintro e w2 ⟨rfl, rfl⟩
    rw [HDH.out]
    go_wp2_with fail
    go_loop [4, 8] (fun _ i => ∃ k : Nat, k ≤ 16 ∧ i = .int .i64 k) (fun _ i => 16 - (intOf i).toNat)
    case atStart => exact ⟨0, Nat.zero_le _, rfl⟩
    case round =>
      obtain ⟨k, hk, rfl⟩ := hrel
      by_cases hk16 : k < 16
      · by_cases hkn : (k : Int) = n
        · have hne : ((k : Int) != n) = false := by simp [hkn]
          clear hkn
          go_wp2_with fail
          go_round
          case rel => exact ⟨k + 1, hk16, by go_num⟩
          case measure => simp [intOf]; omega
        · have hne : ((k : Int) != n) = true := by simp; exact hkn
          have HK1 := Lib.hid (HAK.out k hkn)
          have HK2 := Lib.hid (HDK.out k hk16 hkn)
          clear hkn
          go_wp2_with fail
          refine (rhas_any _ k _ HA.out).mono ?_
          rintro e w2 ⟨rfl, rfl⟩
          try rw [HK1.out]
          generalize hx : hasB d (k : Int) = x at *
          have HX := Lib.hid hx
          have hxx : (x != x) = false := by simp
          clear hx
          go_wp2_with fail
          refine (rhas_any d k _ HS.out).mono ?_
          rintro e w2 ⟨rfl, rfl⟩
          rw [HX.out]
          go_wp2_with fail
          refine (rhas_any _ k _ HD.out).mono ?_
          rintro e w2 ⟨rfl, rfl⟩
          first | rw [HX.out] | rw [HK2.out]
          go_wp2_with fail
          refine (rhas_any d k _ HS.out).mono ?_
          rintro e w2 ⟨rfl, rfl⟩
          rw [HX.out]
          go_wp2_with fail
          go_round
          case rel => exact ⟨k + 1, hk16, by go_num⟩
          case measure => simp [intOf]; omega
      · obtain rfl : k = 16 := by omega
        go_wp2_with fail
        refine (rlist_any d _ HS.out).mono ?_
        rintro e w2 ⟨v, rfl, hO, hb⟩
        have HB2 := Lib.hid (HB1.out.trans (hb.mono HB1.out.size))
        obtain ⟨A, c, rfl, hR, _⟩ := hO.form
        have HR := Lib.hid hR
        generalize hl : listN d = l at *
        obtain ⟨m, hm⟩ : ∃ m, m = l.length := ⟨_, rfl⟩
        rw [← hm] at hle ⊢
        have HM := Lib.hid hm
        clear hb hO hR hm hl
        go_wp2_with fail
        go_loop [9, 11, 78] (fun u _ i => ∃ k : Nat, k ≤ m ∧ i = .int .i64 k ∧ u = .int .i64 (wI (l.take k) n)) (fun _ _ i => m - (intOf i).toNat)
        case atStart => exact ⟨0, Nat.zero_le _, rfl, rfl⟩
        case round =>
          obtain ⟨k, hk, rfl, rfl⟩ := hrel
          by_cases hkm : k < m
          · obtain ⟨x, hx⟩ : ∃ x, l[k]? = some x := ⟨_, List.getElem?_eq_getElem (by rw [← HM.out]; exact hkm)⟩
            obtain ⟨x0, rfl, hc⟩ := HR.out k (x : Int) (by rw [List.getElem?_map, hx]; rfl)
            have hw := wI_take n hx
            generalize wI (l.take k) n = u at *
            clear hx
            by_cases h5 : n ≤ (x : Int)
            · by_cases h6 : u < 0
              · have HW := Lib.hid (hw.trans (if_pos ⟨h5, h6⟩))
                clear hw
                go_wp2_with fail
                go_round
                case rel => exact ⟨k + 1, hkm, by go_num, by rw [HW.out]⟩
                case measure => simp [intOf]; omega
              · have HW := Lib.hid (hw.trans (if_neg (fun h => h6 h.2)))
                clear hw
                go_wp2_with fail
                go_round
                case rel => exact ⟨k + 1, hkm, by go_num, by rw [HW.out]⟩
                case measure => simp [intOf]; omega
            · have HW := Lib.hid (hw.trans (if_neg (fun h => h5 h.1)))
              clear hw
              go_wp2_with fail
              go_round
              case rel => exact ⟨k + 1, hkm, by go_num, by rw [HW.out]⟩
              case measure => simp [intOf]; omega
          · obtain rfl : m = k := by omega
            have HE : Hid (l.take m = l) := Lib.hid (List.take_of_length_le (Nat.le_of_eq HM.out.symm))
            rw [HE.out]
            generalize hz : wI l n = z at *
            have HZ := Lib.hid hz
            clear hz
            go_wp2_with fail
            refine (next_any d n _ HS.out HN.out (HT.out.below HB2.out)).mono ?_
            rintro e w3 ⟨rfl, rfl⟩
            rw [HNX.out]
            go_wp2_with fail
            go_ret
            exact ⟨rfl, HB2.out⟩
  · have hi : isB n = false := by rw [HISB.out]; simp; omega
    have HI := Lib.hid hi
    obtain ⟨rfl, rfl⟩ := HAS.out (.inr h)
    have hss : ((d : Int) != (d : Int)) = false := by simp
    clear hi
    go_enter Tryd.func4, Tryd.ntmps4
    go_wp2_with fail
    refine (first_ok _ HT.out).mono ?_
    rintro e w1 ⟨rfl, hb⟩
    have HB1 := Lib.hid hb
    clear hb
    go_wp2_with fail
    refine (HAD.out _).mono ?_
    rintro e w2 ⟨rfl, rfl⟩
    go_wp2_with fail
    refine (HDR.out _).mono ?_
    rintro e w2 ⟨rfl, rfl⟩
    go_wp2_with fail
    refine (rhas_any _ n _ HA.out).mono ?_
    rintro e w2 ⟨rfl, rfl⟩
    rw [HAH.out, HI.out]
    go_wp2_with fail
    refine (rhas_any _ n _ HD.out).mono ?_
    rintro e w2 ⟨rfl, rfl⟩
    rw [HDH.out]
    go_wp2_with fail
    go_loop [4, 8] (fun _ i => ∃ k : Nat, k ≤ 16 ∧ i = .int .i64 k) (fun _ i => 16 - (intOf i).toNat)
    case atStart => exact ⟨0, Nat.zero_le _, rfl⟩
    case round =>
      obtain ⟨k, hk, rfl⟩ := hrel
      by_cases hk16 : k < 16
      · by_cases hkn : (k : Int) = n
        · have hne : ((k : Int) != n) = false := by simp [hkn]
          clear hkn
          go_wp2_with fail
          go_round
          case rel => exact ⟨k + 1, hk16, by go_num⟩
          case measure => simp [intOf]; omega
        · have hne : ((k : Int) != n) = true := by simp; exact hkn
          have HK1 := Lib.hid (HAK.out k hkn)
          have HK2 := Lib.hid (HDK.out k hk16 hkn)
          clear hkn
          go_wp2_with fail
          refine (rhas_any _ k _ HA.out).mono ?_
          rintro e w2 ⟨rfl, rfl⟩
          try rw [HK1.out]
          generalize hx : hasB d (k : Int) = x at *
          have HX := Lib.hid hx
          have hxx : (x != x) = false := by simp
          clear hx
          go_wp2_with fail
          refine (rhas_any d k _ HS.out).mono ?_
          rintro e w2 ⟨rfl, rfl⟩
          rw [HX.out]
          go_wp2_with fail
          refine (rhas_any _ k _ HD.out).mono ?_
          rintro e w2 ⟨rfl, rfl⟩
          first | rw [HX.out] | rw [HK2.out]
          go_wp2_with fail
          refine (rhas_any d k _ HS.out).mono ?_
          rintro e w2 ⟨rfl, rfl⟩
          rw [HX.out]
          go_wp2_with fail
          go_round
          case rel => exact ⟨k + 1, hk16, by go_num⟩
          case measure => simp [intOf]; omega
      · obtain rfl : k = 16 := by omega
        go_wp2_with fail
        refine (rlist_any d _ HS.out).mono ?_
        rintro e w2 ⟨v, rfl, hO, hb⟩
        have HB2 := Lib.hid (HB1.out.trans (hb.mono HB1.out.size))
        obtain ⟨A, c, rfl, hR, _⟩ := hO.form
        have HR := Lib.hid hR
        generalize hl : listN d = l at *
        obtain ⟨m, hm⟩ : ∃ m, m = l.length := ⟨_, rfl⟩
        rw [← hm] at hle ⊢
        have HM := Lib.hid hm
        clear hb hO hR hm hl
        go_wp2_with fail
        go_loop [9, 11, 78] (fun u _ i => ∃ k : Nat, k ≤ m ∧ i = .int .i64 k ∧ u = .int .i64 (wI (l.take k) n)) (fun _ _ i => m - (intOf i).toNat)
        case atStart => exact ⟨0, Nat.zero_le _, rfl, rfl⟩
        case round =>
          obtain ⟨k, hk, rfl, rfl⟩ := hrel
          by_cases hkm : k < m
          · obtain ⟨x, hx⟩ : ∃ x, l[k]? = some x := ⟨_, List.getElem?_eq_getElem (by rw [← HM.out]; exact hkm)⟩
            obtain ⟨x0, rfl, hc⟩ := HR.out k (x : Int) (by rw [List.getElem?_map, hx]; rfl)
            have hw := wI_take n hx
            generalize wI (l.take k) n = u at *
            clear hx
            by_cases h5 : n ≤ (x : Int)
            · by_cases h6 : u < 0
              · have HW := Lib.hid (hw.trans (if_pos ⟨h5, h6⟩))
                clear hw
                go_wp2_with fail
                go_round
                case rel => exact ⟨k + 1, hkm, by go_num, by rw [HW.out]⟩
                case measure => simp [intOf]; omega
              · have HW := Lib.hid (hw.trans (if_neg (fun h => h6 h.2)))
                clear hw
                go_wp2_with fail
                go_round
                case rel => exact ⟨k + 1, hkm, by go_num, by rw [HW.out]⟩
                case measure => simp [intOf]; omega
            · have HW := Lib.hid (hw.trans (if_neg (fun h => h5 h.1)))
              clear hw
              go_wp2_with fail
              go_round
              case rel => exact ⟨k + 1, hkm, by go_num, by rw [HW.out]⟩
              case measure => simp [intOf]; omega
          · obtain rfl : m = k := by omega
            have HE : Hid (l.take m = l) := Lib.hid (List.take_of_length_le (Nat.le_of_eq HM.out.symm))
            rw [HE.out]
            generalize hz : wI l n = z at *
            have HZ := Lib.hid hz
            clear hz
            go_wp2_with fail
            refine (next_any d n _ HS.out HN.out (HT.out.below HB2.out)).mono ?_
            rintro e w3 ⟨rfl, rfl⟩
            rw [HNX.out]
            go_wp2_with fail
            go_ret
            exact ⟨rfl, HB2.out⟩
  · have hi : isB n = true := by rw [HISB.out]; simp; omega
    have HI := Lib.hid hi
    clear hi
    go_enter Tryd.func4, Tryd.ntmps4
    go_wp2_with fail
    refine (first_ok _ HT.out).mono ?_
    rintro e w1 ⟨rfl, hb⟩
    have HB1 := Lib.hid hb
    clear hb
    go_wp2_with fail
    refine (HAD.out _).mono ?_
    rintro e w2 ⟨rfl, rfl⟩
    go_wp2_with fail
    refine (HDR.out _).mono ?_
    rintro e w2 ⟨rfl, rfl⟩
    go_wp2_with fail
    refine (rhas_any _ n _ HA.out).mono ?_
    rintro e w2 ⟨rfl, rfl⟩
    rw [HAH.out, HI.out]
    go_wp2_with fail
    refine (rhas_any _ n _ HD.out).mono ?_
    rintro e w2 ⟨rfl, rfl⟩
    rw [HDH.out]
    go_wp2_with fail
    go_loop [4, 8] (fun _ i => ∃ k : Nat, k ≤ 16 ∧ i = .int .i64 k) (fun _ i => 16 - (intOf i).toNat)
    case atStart => exact ⟨0, Nat.zero_le _, rfl⟩
    case round =>
      obtain ⟨k, hk, rfl⟩ := hrel
      by_cases hk16 : k < 16
      · by_cases hkn : (k : Int) = n
        · have hne : ((k : Int) != n) = false := by simp [hkn]
          clear hkn
          go_wp2_with fail
          go_round
          case rel => exact ⟨k + 1, hk16, by go_num⟩
          case measure => simp [intOf]; omega
        · have hne : ((k : Int) != n) = true := by simp; exact hkn
          have HK1 := Lib.hid (HAK.out k hkn)
          have HK2 := Lib.hid (HDK.out k hk16 hkn)
          clear hkn
          go_wp2_with fail
          refine (rhas_any _ k _ HA.out).mono ?_
          rintro e w2 ⟨rfl, rfl⟩
          try rw [HK1.out]
          generalize hx : hasB s (k : Int) = x at *
          have HX := Lib.hid hx
          have hxx : (x != x) = false := by simp
          clear hx
          go_wp2_with fail
          refine (rhas_any s k _ HS.out).mono ?_
          rintro e w2 ⟨rfl, rfl⟩
          rw [HX.out]
          go_wp2_with fail
          refine (rhas_any _ k _ HD.out).mono ?_
          rintro e w2 ⟨rfl, rfl⟩
          first | rw [HX.out] | rw [HK2.out]
          go_wp2_with fail
          refine (rhas_any s k _ HS.out).mono ?_
          rintro e w2 ⟨rfl, rfl⟩
          rw [HX.out]
          go_wp2_with fail
          go_round
          case rel => exact ⟨k + 1, hk16, by go_num⟩
          case measure => simp [intOf]; omega
      · obtain rfl : k = 16 := by omega
        go_wp2_with fail
        refine (rlist_any s _ HS.out).mono ?_
        rintro e w2 ⟨v, rfl, hO, hb⟩
        have HB2 := Lib.hid (HB1.out.trans (hb.mono HB1.out.size))
        obtain ⟨A, c, rfl, hR, _⟩ := hO.form
        have HR := Lib.hid hR
        generalize hl : listN s = l at *
        obtain ⟨m, hm⟩ : ∃ m, m = l.length := ⟨_, rfl⟩
        rw [← hm] at hle ⊢
        have HM := Lib.hid hm
        clear hb hO hR hm hl
        go_wp2_with fail
        go_loop [9, 11, 78] (fun u _ i => ∃ k : Nat, k ≤ m ∧ i = .int .i64 k ∧ u = .int .i64 (wI (l.take k) n)) (fun _ _ i => m - (intOf i).toNat)
        case atStart => exact ⟨0, Nat.zero_le _, rfl, rfl⟩
        case round =>
          obtain ⟨k, hk, rfl, rfl⟩ := hrel
          by_cases hkm : k < m
          · obtain ⟨x, hx⟩ : ∃ x, l[k]? = some x := ⟨_, List.getElem?_eq_getElem (by rw [← HM.out]; exact hkm)⟩
            obtain ⟨x0, rfl, hc⟩ := HR.out k (x : Int) (by rw [List.getElem?_map, hx]; rfl)
            have hw := wI_take n hx
            generalize wI (l.take k) n = u at *
            clear hx
            by_cases h5 : n ≤ (x : Int)
            · by_cases h6 : u < 0
              · have HW := Lib.hid (hw.trans (if_pos ⟨h5, h6⟩))
                clear hw
                go_wp2_with fail
                go_round
                case rel => exact ⟨k + 1, hkm, by go_num, by rw [HW.out]⟩
                case measure => simp [intOf]; omega
              · have HW := Lib.hid (hw.trans (if_neg (fun h => h6 h.2)))
                clear hw
                go_wp2_with fail
                go_round
                case rel => exact ⟨k + 1, hkm, by go_num, by rw [HW.out]⟩
                case measure => simp [intOf]; omega
            · have HW := Lib.hid (hw.trans (if_neg (fun h => h5 h.1)))
              clear hw
              go_wp2_with fail
              go_round
              case rel => exact ⟨k + 1, hkm, by go_num, by rw [HW.out]⟩
              case measure => simp [intOf]; omega
          · obtain rfl : m = k := by omega
            have HE : Hid (l.take m = l) := Lib.hid (List.take_of_length_le (Nat.le_of_eq HM.out.symm))
            rw [HE.out]
            generalize hz : wI l n = z at *
            have HZ := Lib.hid hz
            clear hz
            go_wp2_with fail
            refine (next_any s n _ HS.out HN.out (HT.out.below HB2.out)).mono ?_
            rintro e w3 ⟨rfl, rfl⟩
            rw [HNX.out]
            go_wp2_with fail
            go_ret
            exact ⟨rfl, HB2.out⟩
theorem Law.NodesAdds (s n : Int) (W : World) (ha : (Lit.int .u16 s).wf = true) (hn : (Lit.int .i64 n).wf = true) (hT : Tab W) :
    Calls Tryd.prog 4 #[.int .u16 s, .int .i64 n] W fun e w' => e = .returned (.bool true) ∧ Below W.heap.size W w' := by
  obtain ⟨s, rfl⟩ := Int.eq_ofNat_of_zero_le (u16_of_wf ha).1
  exact adds_walk s n W (by have := (u16_of_wf ha).2; omega) (i64_of_wf hn) hT
/-- A slice that came in reads as its numbers. -/
theorem row_rdz {w : World} {A : Option Addr} {len c : Nat} {z : List Int} (h : IsRow .i64 w A len c z) : RdZ w A (z.take len) ∧ InI (z.take len) ∧ len = (z.take len).length ∧ len ≤ 9223372036854775807 := by
  rcases h with ⟨rfl, rfl, rfl, rfl⟩ | ⟨x, rfl, h1, h2, h3, h4, h5⟩
  · exact ⟨fun k x hx => by simp at hx, fun x hx => by simp at hx, rfl, by decide⟩
  · refine ⟨fun k y hy => ⟨x, rfl, ?_⟩, fun y hy => i64_of_wf (h5 y (List.mem_of_mem_take hy)), by rw [List.length_take]; omega, by unfold maxLen at h2; omega⟩
    rw [List.getElem?_take] at hy
    split at hy
    · have hk : k < z.length := (List.getElem?_eq_some_iff.1 hy).1
      rw [h4 k hk, List.getD_eq_getElem?_getD, hy]
      rfl
    · cases hy
theorem same_yes (A B : Option Addr) (n c d : Nat) (la : List Int) (W : World) (ha : n = la.length) (hn : n ≤ 9223372036854775807) (hA : RdZ W A la) (hB : RdZ W B la) :
    Calls Tryd.prog 12 #[.slice A n c, .slice B n d] W fun e w' => e = .returned (.bool true) ∧ Below W.heap.size W w' :=
  (same_any A B n n c d la la W ha ha hn hn hA hB).mono fun e w' ⟨h1, h2⟩ => ⟨by rw [h1]; simp, h2⟩
set_option maxHeartbeats 4000000 in
theorem Law.NodesSets (A : Option Addr) (len c : Nat) (z : List Int) (n : Int) (W : World) (hz : IsRow .i64 W A len c z) (_ : 8 * c ≤ 140737488351232) (hn : (Lit.int .i64 n).wf = true) (hT : Tab W) :
    Calls Tryd.prog 3 #[.slice A len c, .int .i64 n] W fun e w' => e = .returned (.bool true) ∧ Below W.heap.size W w' := by
  obtain ⟨hR, hI, hL, hm⟩ := row_rdz hz
  have HN := Lib.hid (i64_of_wf hn)
  have HT := Lib.hid hT
  generalize z.take len = l at *
  have HR := Lib.hid hR
  have HI := Lib.hid hI
  have HL := Lib.hid hL
  have HS := Lib.hid (of_lt l)
  have HHO := Lib.hid (fun x hx => has_of l x hx)
  have HM := Lib.hid hm
  clear hR hI hL hz hn hT
  by_cases h100 : 100 < len
  · go_enter Tryd.func3, Tryd.ntmps3
    go_wp2_with fail
    refine (first_ok _ HT.out).mono ?_
    rintro e w1 ⟨rfl, hb⟩
    have HB1 := Lib.hid hb
    clear hb
    have h100' : (100 : Int) < (len : Int) := by omega
    go_wp2_with fail
    go_ret
    exact ⟨rfl, HB1.out⟩
  · go_enter Tryd.func3, Tryd.ntmps3
    go_wp2_with fail
    refine (first_ok _ HT.out).mono ?_
    rintro e w1 ⟨rfl, hb⟩
    have HB1 := Lib.hid hb
    have HR1 := Lib.hid (HR.out.below hb)
    clear hb
    have h100' : ¬ (100 : Int) < (len : Int) := by omega
    go_wp2_with fail
    refine (of_any A len c l _ HL.out HM.out HR1.out HI.out).mono ?_
    rintro e w2 ⟨rfl, rfl⟩
    go_wp2_with fail
    refine (rof_any A len c l _ HL.out HM.out HR1.out).mono ?_
    rintro e w2 ⟨rfl, rfl⟩
    generalize ofN l = s at *
    have hss : ((s : Int) != (s : Int)) = false := by simp
    go_wp2_with fail
    refine (has_any s n _ HS.out HN.out).mono ?_
    rintro e w2 ⟨rfl, rfl⟩
    go_wp2_with fail
    refine (rhas_any s n _ HS.out).mono ?_
    rintro e w2 ⟨rfl, rfl⟩
    generalize hasB s n = hb1 at *
    have hbb : (hb1 != hb1) = false := by simp
    go_wp2_with fail
    refine (list_any s _ HS.out (HT.out.below HB1.out)).mono ?_
    rintro e w2 ⟨v, rfl, hO, hb⟩
    have HB2 := Lib.hid (HB1.out.trans (hb.mono HB1.out.size))
    have HR2 := Lib.hid (HR1.out.below hb)
    obtain ⟨A2, c2, rfl, hR2, hlen⟩ := hO.form
    have HRL := Lib.hid hR2
    have HLEN := Lib.hid hlen
    clear hO hb hR2 hlen
    go_wp2_with fail
    refine (rlist_any s _ HS.out).mono ?_
    rintro e w3 ⟨v, rfl, hO, hb⟩
    have HB3 := Lib.hid (HB2.out.trans (hb.mono HB2.out.size))
    have HR3 := Lib.hid (HR2.out.below hb)
    have HRL3 := Lib.hid (HRL.out.below hb)
    obtain ⟨A3, c3, rfl, hR3, hlen⟩ := hO.form
    have HRR := Lib.hid hR3
    clear hO hb hR3 hlen
    go_wp2_with fail
    refine (same_yes A2 A3 _ c2 c3 _ _ (by simp) HLEN.out HRL3.out HRR.out).mono ?_
    rintro e w4 ⟨rfl, hb⟩
    have HB4 := Lib.hid (HB3.out.trans (hb.mono HB3.out.size))
    have HR4 := Lib.hid (HR3.out.below hb)
    clear hb
    go_wp2_with fail
    refine (len_any s _ HS.out).mono ?_
    rintro e w5 ⟨rfl, rfl⟩
    go_wp2_with fail
    refine (rlist_any s _ HS.out).mono ?_
    rintro e w5 ⟨v, rfl, hO, hb⟩
    have HB5 := Lib.hid (HB4.out.drew.trans (hb.mono HB4.out.drew.size))
    have HR5 := Lib.hid (HR4.out.below ((Below.refl _ w4).drew.trans hb))
    obtain ⟨A5, c5, rfl, _, hlen⟩ := hO.form
    rw [show (listN s).length = lenN s from rfl]
    generalize hls : lenN s = ls at *
    have hll : ((ls : Int) != (ls : Int)) = false := by simp
    clear hO hb hlen hls
    go_wp2_with fail
    go_loop [4, 7, 46] (fun _ _ i => ∃ k : Nat, k ≤ len ∧ i = .int .i64 k) (fun _ _ i => len - (intOf i).toNat)
    case atStart => exact ⟨0, Nat.zero_le _, rfl⟩
    case round =>
      obtain ⟨k, hk, rfl⟩ := hrel
      by_cases hkm : k < len
      · obtain ⟨x, hx⟩ : ∃ x, l[k]? = some x := ⟨_, List.getElem?_eq_getElem (by rw [← HL.out]; exact hkm)⟩
        obtain ⟨x0, rfl, hc⟩ := HR5.out k x hx
        have HX := Lib.hid (HHO.out x (List.mem_of_getElem? hx))
        have HXI := Lib.hid (HI.out x (List.mem_of_getElem? hx))
        clear hx
        go_wp2_with fail
        refine (has_any s x _ HS.out HXI.out).mono ?_
        rintro e w6 ⟨rfl, rfl⟩
        rw [HX.out]
        rcases (show x < 0 ∨ (0 ≤ x ∧ x < 16) ∨ (0 ≤ x ∧ 16 ≤ x) by omega) with h | ⟨h, h1⟩ | ⟨h, h1⟩
        · have e1 : decide (0 ≤ x) = false := by simp; omega
          rw [e1]
          go_wp2_with fail
          go_round
          case rel => exact ⟨k + 1, hkm, by go_num⟩
          case measure => simp [intOf]; omega
        · have e1 : decide (0 ≤ x) = true := by simp; omega
          have e2 : decide (x < 16) = true := by simp; omega
          rw [e1, e2]
          go_wp2_with fail
          go_round
          case rel => exact ⟨k + 1, hkm, by go_num⟩
          case measure => simp [intOf]; omega
        · have e1 : decide (0 ≤ x) = true := by simp; omega
          have e2 : decide (x < 16) = false := by simp; omega
          rw [e1, e2]
          go_wp2_with fail
          go_round
          case rel => exact ⟨k + 1, hkm, by go_num⟩
          case measure => simp [intOf]; omega
      · obtain rfl : len = k := by omega
        go_wp2_with fail
        go_ret
        exact ⟨rfl, HB5.out⟩
end Go.Proofs.YtlmhmmlfodibgaaDoor
