/- The reference's Of and Same. -/
import Derived.Test.YtlmhmmlfodibgaaDoorNodD
import Derived.Test.YtlmhmmlfodibgaaDoorPlanT
namespace Go.Proofs.YtlmhmmlfodibgaaDoor
open Go.RowKit

def inN (l : List Int) (m : Nat) : Nat := if l.contains (m : Int) then 1 else 0
theorem in_le (l : List Int) (m : Nat) : inN l m ≤ 1 := by unfold inN; split <;> omega
theorem of_div (l : List Int) (m : Nat) (hm : m < 16) : ofN l / 2 ^ m = 2 * (ofN l / 2 ^ (m + 1)) + inN l m := by
  have h1 : (ofN l).testBit m = l.contains (m : Int) := by rw [of_tb]; simp [hm]
  rw [tb_div] at h1
  unfold inN
  rw [← h1, Nat.pow_succ, ← Nat.div_div_eq_div_mul]
  split <;> rename_i h <;> simp at h <;> omega
theorem of_div_lt (l : List Int) (m : Nat) (hm : 1 ≤ m) : 2 * (ofN l / 2 ^ m) < 65536 := by
  obtain ⟨k, rfl⟩ : ∃ k, m = k + 1 := ⟨m - 1, by omega⟩
  have h1 := of_lt l
  have h2 : ofN l / 2 ^ (k + 1) ≤ ofN l / 2 := Nat.div_le_div_left (by rw [Nat.pow_succ]; have := Nat.pos_of_ne_zero (Nat.ne_of_gt (Nat.two_pow_pos k)); omega) (by decide)
  omega
theorem in_step {l : List Int} {k : Nat} {x : Int} (hx : l[k]? = some x) (m : Nat) : inN (l.take (k + 1)) m = if x = (m : Int) then 1 else inN (l.take k) m := by
  unfold inN
  rw [List.take_add_one, hx, show (some x).toList = [x] from rfl, List.contains_append]
  by_cases h : x = (m : Int)
  · rw [if_pos h]; simp [h]
  · rw [if_neg h]
    have : ([x].contains (m : Int)) = false := by simp; omega
    rw [this, Bool.or_false]
set_option maxHeartbeats 2000000 in
theorem rof_any (A : Option Addr) (n c : Nat) (l : List Int) (W : World) (hl : n = l.length) (hn : n ≤ 9223372036854775807) (hR : RdZ W A l) :
    Calls Tryd.prog 9 #[.slice A n c] W fun e w' => e = .returned (.int .u16 (ofN l : Nat)) ∧ W = w' := by
  have HR := Lib.hid hR
  have HL := Lib.hid hl
  clear hR hl
  go_enter Tryd.func9, Tryd.ntmps9
  go_wp2_with fail
  go_loop [3, 4, 5, 7] (fun s i _ _ => ∃ m : Nat, m ≤ 16 ∧ i = .int .i64 ((m : Int) - 1) ∧ s = .int .u16 ((ofN l / 2 ^ m : Nat) : Int)) (fun _ i _ _ => (intOf i + 1).toNat)
  case atStart =>
    refine ⟨16, by decide, rfl, ?_⟩
    rw [Nat.div_eq_of_lt (of_lt l)]
    rfl
  case round =>
    obtain ⟨m, hm, rfl, rfl⟩ := hrel
    by_cases h0 : m = 0
    · subst h0
      have HE : Hid (ofN l / 2 ^ 0 = ofN l) := Lib.hid (by simp)
      generalize ofN l / 2 ^ 0 = q at *
      go_wp2_with fail
      go_ret
      exact ⟨by rw [← HE.out]; rfl, rfl⟩
    · obtain ⟨j, rfl⟩ : ∃ j, m = j + 1 := ⟨m - 1, by omega⟩
      have HD := Lib.hid (of_div l j (by omega))
      have hlt := of_div_lt l (j + 1) (by omega)
      have hj : (((j + 1 : Nat) : Int) - 1) = (j : Int) := by omega
      rw [hj]
      generalize ofN l / 2 ^ (j + 1) = q at *
      have hp : (0 : Int) ≤ (j : Int) := by omega
      clear hj h0
      go_wp2_with fail
      go_loop [5, 7, 14] (fun t _ i => ∃ k : Nat, k ≤ n ∧ i = .int .i64 k ∧ t = .int .u16 (inN (l.take k) j : Nat)) (fun _ _ i => n - (intOf i).toNat)
      case atStart => exact ⟨0, Nat.zero_le _, rfl, rfl⟩
      case round =>
        obtain ⟨k, hk, rfl, rfl⟩ := hrel
        by_cases hkm : k < n
        · obtain ⟨x, hx⟩ : ∃ x, l[k]? = some x := ⟨_, List.getElem?_eq_getElem (by rw [← HL.out]; exact hkm)⟩
          obtain ⟨x0, rfl, hc⟩ := HR.out k x hx
          have HX := Lib.hid (in_step hx j)
          generalize inN (l.take k) j = b at *
          clear hx
          cases he : (x == (j : Int))
          · have hne : ¬ x = (j : Int) := by simpa using he
            have HXX := Lib.hid (HX.out.trans (if_neg hne))
            clear hne
            go_wp2_with fail
            go_round
            case rel => exact ⟨k + 1, hkm, by go_num, by rw [HXX.out]⟩
            case measure => simp [intOf]; omega
          · have hne : x = (j : Int) := by simpa using he
            have HXX := Lib.hid (HX.out.trans (if_pos hne))
            clear hne
            go_wp2_with fail
            go_round
            case rel => exact ⟨k + 1, hkm, by go_num, by rw [HXX.out]; rfl⟩
            case measure => simp [intOf]; omega
        · obtain rfl : n = k := by omega
          have HE : Hid (l.take n = l) := Lib.hid (List.take_of_length_le (Nat.le_of_eq HL.out.symm))
          have hle := in_le l j
          rw [HE.out]
          generalize inN l j = b at *
          have hsum : 2 * q + b < 65536 := by omega
          go_wp2_with fail
          go_round
          case rel => exact ⟨j, by omega, rfl, by rw [HD.out]; simp⟩
          case measure => simp [intOf]
theorem beq_take {la lb : List Int} (k : Nat) (h : la.take k = lb.take k) (hk : la.length ≤ k) (hl : la.length = lb.length) : la = lb := by
  rw [List.take_of_length_le hk, List.take_of_length_le (by omega)] at h
  exact h
theorem take_more {la lb : List Int} {k : Nat} {x y : Int} (h : la.take k = lb.take k) (hx : la[k]? = some x) (hy : lb[k]? = some y) (e : x = y) : la.take (k + 1) = lb.take (k + 1) := by
  rw [List.take_add_one, List.take_add_one, h, hx, hy, e]
theorem take_not {la lb : List Int} {k : Nat} {x y : Int} (hx : la[k]? = some x) (hy : lb[k]? = some y) (e : ¬ x = y) : (la == lb) = false := by
  apply beq_eq_false_iff_ne.2
  rintro rfl
  rw [hx] at hy
  injection hy with hy
  exact e hy
set_option maxHeartbeats 1000000 in
theorem same_any (A B : Option Addr) (n m c d : Nat) (la lb : List Int) (W : World) (ha : n = la.length) (hb : m = lb.length) (hn : n ≤ 9223372036854775807) (hm : m ≤ 9223372036854775807) (hA : RdZ W A la) (hB : RdZ W B lb) :
    Calls Tryd.prog 12 #[.slice A n c, .slice B m d] W fun e w' => e = .returned (.bool (la == lb)) ∧ Below W.heap.size W w' := by
  by_cases hnm : n = m
  · subst hnm
    have HA := Lib.hid hA
    have HB := Lib.hid hB
    have HLA := Lib.hid ha
    have HLB := Lib.hid hb
    have hbn : ((n : Int) != (n : Int)) = false := by simp
    clear ha hb hA hB hm
    go_enter Tryd.func12, Tryd.ntmps12
    go_wp2_with fail
    go_loopw [5, 13] (fun _ i wr => ∃ k : Nat, k ≤ n ∧ i = .int .i64 k ∧ la.take k = lb.take k ∧ Below W.heap.size W wr) (fun _ i _ => n - (intOf i).toNat)
    case atStart => exact ⟨0, Nat.zero_le _, rfl, rfl, Below.refl _ _⟩
    case round =>
      obtain ⟨k, hk, rfl, hT0, hB0⟩ := hrel
      have HT := Lib.hid hT0
      have HBE := Lib.hid hB0
      clear hT0 hB0
      by_cases hkm : k < n
      · obtain ⟨x, hx⟩ : ∃ x, la[k]? = some x := ⟨_, List.getElem?_eq_getElem (by rw [← HLA.out]; exact hkm)⟩
        obtain ⟨y, hy⟩ : ∃ y, lb[k]? = some y := ⟨_, List.getElem?_eq_getElem (by rw [← HLB.out]; exact hkm)⟩
        obtain ⟨x0, rfl, hcx⟩ := (HA.out.below HBE.out) k x hx
        obtain ⟨y0, rfl, hcy⟩ := (HB.out.below HBE.out) k y hy
        have s1 := fun W' (h : Ext wr.drew W') => (h.cell (p := x0.add k) (cell_lt hcx)).trans hcx
        have s2 := fun W' (h : Ext wr.drew W') => (h.cell (p := y0.add k) (cell_lt hcy)).trans hcy
        have hkk : ((0 : Int) ≤ (k : Int) ∧ (k : Int) < (n : Int)) := by omega
        by_cases he : x = y
        · have HM := Lib.hid (take_more HT.out hx hy he)
          have hbe : (x != y) = false := by rw [he]; simp
          clear hcx hcy hx hy he
          go_wp2_with fail
          refine wp_region_plan [(0, false), (1, false), (2, false), (3, false), (4, false), (5, false), (6, false), (7, false), (8, false)] (by kernel_rfl) (by kernel_rfl) (fun _ d _ _ _ h => by cases d <;> exact h) ?_
          iterate 9 (refine plan_take (v := ?_) rfl (by kernel_rfl) ?_ ?_; rotate_left; (focus (intro w' hw'; go_simp; try with_reducible rfl)); simp only [Act.put, List.setIfInBounds_toArray, List.set_cons_zero, List.set_cons_succ])
          refine plan_end ?_
          clear s1 s2
          go_wp2_with fail
          exact ⟨⟨k + 1, hkm, by go_num, HM.out, HBE.out.drew⟩, by simp [intOf]; omega⟩
        · have HM := Lib.hid (take_not hx hy he)
          have hbe : (x != y) = true := by simp; exact he
          clear hcx hcy hx hy he
          go_wp2_with fail
          refine wp_region_plan [(0, false), (1, false), (2, false), (3, false), (4, false), (5, false), (6, false), (7, false), (8, false)] (by kernel_rfl) (by kernel_rfl) (fun _ d _ _ _ h => by cases d <;> exact h) ?_
          iterate 9 (refine plan_take (v := ?_) rfl (by kernel_rfl) ?_ ?_; rotate_left; (focus (intro w' hw'; go_simp; try with_reducible rfl)); simp only [Act.put, List.setIfInBounds_toArray, List.set_cons_zero, List.set_cons_succ])
          refine plan_end ?_
          clear s1 s2
          go_wp2_with fail
          go_ret
          exact ⟨by rw [HM.out]; rfl, HBE.out.drew⟩
      · obtain rfl : n = k := by omega
        have HE : Hid ((la == lb) = true) := Lib.hid (by rw [beq_iff_eq]; exact beq_take n HT.out (Nat.le_of_eq HLA.out.symm) (HLA.out.symm.trans HLB.out))
        go_wp2_with fail
        go_ret
        exact ⟨by rw [HE.out]; rfl, HBE.out⟩
  · have H : Hid ((la == lb) = false) := Lib.hid (beq_eq_false_iff_ne.2 (by rintro rfl; exact hnm (ha.trans hb.symm)))
    have hbn : ((n : Int) != (m : Int)) = true := bne_iff_ne.2 (by omega)
    clear ha hb hA hB hnm
    go_enter Tryd.func12, Tryd.ntmps12
    go_wp2_with fail
    go_ret
    exact ⟨by rw [H.out]; rfl, Below.refl _ _⟩
end Go.Proofs.YtlmhmmlfodibgaaDoor
