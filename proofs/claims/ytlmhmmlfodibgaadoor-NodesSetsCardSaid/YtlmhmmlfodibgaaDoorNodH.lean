/- NodesCount, NodesTwo. -/
import Derived.Test.YtlmhmmlfodibgaaDoorNodG
namespace Go.Proofs.YtlmhmmlfodibgaaDoor
open Go.RowKit

theorem u16_of_wf {x : Int} (h : (Lit.int .u16 x).wf = true) : 0 ≤ x ∧ x < 65536 := by
  simp [Lit.wf, IntKind.min, IntKind.max, IntKind.signed, IntKind.bits] at h
  omega
theorem count_walk (a b : Nat) (W : World) (ha : a < 65536) (hb : b < 65536) (hT : Tab W) :
    Calls Tryd.prog 6 #[.int .u16 a, .int .u16 b] W fun e w' => e = .returned (.bool true) ∧ Below W.heap.size W w' := by
  have HA := Lib.hid ha
  have HB := Lib.hid hb
  have HT := Lib.hid hT
  have HL := Lib.hid (less_lt a b ha)
  have HBE := Lib.hid (both_eq a b ha hb)
  have HAND : Hid (a &&& b < 65536) := Lib.hid (Nat.lt_of_le_of_lt Nat.and_le_left ha)
  have HOR := Lib.hid (or_lt a b ha hb)
  have HLT := Lib.hid (len_two a b)
  have h1 := len_le a
  have h2 := len_le b
  have h3 := len_le (a ||| b)
  have h4 := len_le (a &&& b)
  have HIB := Lib.hid (in_both a b ha hb)
  have HIJ := Lib.hid (in_join a b ha hb)
  have HIS := Lib.hid (in_same a b ha hb)
  have HOF := Lib.hid (of_list a ha)
  clear ha hb hT
  go_enter Tryd.func6, Tryd.ntmps6
  go_wp2_with fail
  refine (first_ok _ HT.out).mono ?_
  rintro e w1 ⟨rfl, hb⟩
  have HB1 := Lib.hid hb
  clear hb
  go_wp2_with fail
  refine (less_any a b _ HA.out HB.out).mono ?_
  rintro e w2 ⟨rfl, rfl⟩
  go_wp2_with fail
  refine (less_any a (lessN a b) _ HA.out HL.out).mono ?_
  rintro e w2 ⟨rfl, rfl⟩
  rw [HBE.out]
  go_wp2_with fail
  refine (join_any a b _ HA.out HB.out).mono ?_
  rintro e w2 ⟨rfl, rfl⟩
  go_wp2_with fail
  refine (len_any (a ||| b) _ HOR.out).mono ?_
  rintro e w2 ⟨rfl, rfl⟩
  go_wp2_with fail
  refine (len_any (a &&& b) _ HAND.out).mono ?_
  rintro e w2 ⟨rfl, rfl⟩
  go_wp2_with fail
  refine (len_any a _ HA.out).mono ?_
  rintro e w2 ⟨rfl, rfl⟩
  go_wp2_with fail
  refine (len_any b _ HB.out).mono ?_
  rintro e w2 ⟨rfl, rfl⟩
  generalize hx1 : lenN (a ||| b) = x1 at *
  generalize hx2 : lenN (a &&& b) = x2 at *
  generalize hx3 : lenN a = x3 at *
  generalize hx4 : lenN b = x4 at *
  have hsum : ((x1 : Int) + (x2 : Int) == (x3 : Int) + (x4 : Int)) = true := beq_iff_eq.2 (by have := HLT.out; omega)
  clear hx1 hx2 hx3 hx4
  go_wp2_with fail
  refine (in_any (a &&& b) b _ HAND.out HB.out).mono ?_
  rintro e w2 ⟨rfl, rfl⟩
  rw [HIB.out]
  go_wp2_with fail
  refine (join_any a b _ HA.out HB.out).mono ?_
  rintro e w2 ⟨rfl, rfl⟩
  go_wp2_with fail
  refine (in_any a (a ||| b) _ HA.out HOR.out).mono ?_
  rintro e w2 ⟨rfl, rfl⟩
  rw [HIJ.out]
  go_wp2_with fail
  refine (in_any a b _ HA.out HB.out).mono ?_
  rintro e w2 ⟨rfl, rfl⟩
  have HD : Hid (Below W.heap.size W w1.drew.drew.drew.drew) := Lib.hid HB1.out.drew.drew.drew.drew
  have HE : Hid (((a : Int) == (b : Int)) = (a == b)) := Lib.hid (by rw [Bool.eq_iff_iff]; simp only [beq_iff_eq]; omega)
  cases hab : inB a b
  · have hne : ((a : Int) == (b : Int)) = false := by rw [HE.out, ← HIS.out, hab]; rfl
    clear hab
    go_wp2_with fail
    refine (list_any a _ HA.out (HT.out.below HD.out)).mono ?_
    rintro e w5 ⟨v, rfl, hO, hb⟩
    have HB5 := Lib.hid (HD.out.trans (hb.mono HD.out.size))
    obtain ⟨A, c, rfl, hR, hlen⟩ := hO.form
    have HR := Lib.hid hR
    have HLL : Hid ((listN a).length = ((listN a).map (fun (k : Nat) => (k : Int))).length) := Lib.hid (by simp)
    have HII : Hid (InI ((listN a).map (fun (k : Nat) => (k : Int)))) := Lib.hid (fun x hx => by obtain ⟨k, hk, rfl⟩ := List.mem_map.1 hx; have := list_lt a k hk; omega)
    generalize (listN a).length = len at *
    generalize (listN a).map (fun (k : Nat) => (k : Int)) = li at *
    clear hb hO hR
    go_wp2_with fail
    refine (of_any A len c li _ HLL.out hlen HR.out HII.out).mono ?_
    rintro e w6 ⟨rfl, rfl⟩
    rw [HOF.out]
    go_wp2_with fail
    go_ret
    exact ⟨rfl, HB5.out⟩
  · cases hba : inB b a
    · have hne : ((a : Int) == (b : Int)) = false := by rw [HE.out, ← HIS.out, hab, hba]; rfl
      have HBA := Lib.hid hba
      clear hab hba
      go_wp2_with fail
      refine (in_any b a _ HB.out HA.out).mono ?_
      rintro e w2 ⟨rfl, rfl⟩
      rw [HBA.out]
      go_wp2_with fail
      refine (list_any a _ HA.out (HT.out.below HD.out)).mono ?_
      rintro e w5 ⟨v, rfl, hO, hb⟩
      have HB5 := Lib.hid (HD.out.trans (hb.mono HD.out.size))
      obtain ⟨A, c, rfl, hR, hlen⟩ := hO.form
      have HR := Lib.hid hR
      have HLL : Hid ((listN a).length = ((listN a).map (fun (k : Nat) => (k : Int))).length) := Lib.hid (by simp)
      have HII : Hid (InI ((listN a).map (fun (k : Nat) => (k : Int)))) := Lib.hid (fun x hx => by obtain ⟨k, hk, rfl⟩ := List.mem_map.1 hx; have := list_lt a k hk; omega)
      generalize (listN a).length = len at *
      generalize (listN a).map (fun (k : Nat) => (k : Int)) = li at *
      clear hb hO hR
      go_wp2_with fail
      refine (of_any A len c li _ HLL.out hlen HR.out HII.out).mono ?_
      rintro e w6 ⟨rfl, rfl⟩
      rw [HOF.out]
      go_wp2_with fail
      go_ret
      exact ⟨rfl, HB5.out⟩
    · have hne : ((a : Int) == (b : Int)) = true := by rw [HE.out, ← HIS.out, hab, hba]; rfl
      have HBA := Lib.hid hba
      clear hab hba
      go_wp2_with fail
      refine (in_any b a _ HB.out HA.out).mono ?_
      rintro e w2 ⟨rfl, rfl⟩
      rw [HBA.out]
      go_wp2_with fail
      refine (list_any a _ HA.out (HT.out.below HD.out)).mono ?_
      rintro e w5 ⟨v, rfl, hO, hb⟩
      have HB5 := Lib.hid (HD.out.trans (hb.mono HD.out.size))
      obtain ⟨A, c, rfl, hR, hlen⟩ := hO.form
      have HR := Lib.hid hR
      have HLL : Hid ((listN a).length = ((listN a).map (fun (k : Nat) => (k : Int))).length) := Lib.hid (by simp)
      have HII : Hid (InI ((listN a).map (fun (k : Nat) => (k : Int)))) := Lib.hid (fun x hx => by obtain ⟨k, hk, rfl⟩ := List.mem_map.1 hx; have := list_lt a k hk; omega)
      generalize (listN a).length = len at *
      generalize (listN a).map (fun (k : Nat) => (k : Int)) = li at *
      clear hb hO hR
      go_wp2_with fail
      refine (of_any A len c li _ HLL.out hlen HR.out HII.out).mono ?_
      rintro e w6 ⟨rfl, rfl⟩
      rw [HOF.out]
      go_wp2_with fail
      go_ret
      exact ⟨rfl, HB5.out⟩
theorem Law.NodesCount (a b : Int) (W : World) (ha : (Lit.int .u16 a).wf = true) (hb : (Lit.int .u16 b).wf = true) (hT : Tab W) :
    Calls Tryd.prog 6 #[.int .u16 a, .int .u16 b] W fun e w' => e = .returned (.bool true) ∧ Below W.heap.size W w' := by
  obtain ⟨a, rfl⟩ := Int.eq_ofNat_of_zero_le (u16_of_wf ha).1
  obtain ⟨b, rfl⟩ := Int.eq_ofNat_of_zero_le (u16_of_wf hb).1
  exact count_walk a b W (by have := (u16_of_wf ha).2; omega) (by have := (u16_of_wf hb).2; omega) hT
def TwRel (a b : Nat) (W : World) (inn : Value) (k : Nat) (wr : World) : Prop := inn = .bool (inK a b k) ∧ Below W.heap.size W wr
set_option maxHeartbeats 2000000 in
theorem two_walk (a b : Nat) (W : World) (ha : a < 65536) (hb : b < 65536) (hT : Tab W) :
    Calls Tryd.prog 5 #[.int .u16 a, .int .u16 b] W fun e w' => e = .returned (.bool true) ∧ Below W.heap.size W w' := by
  have HA := Lib.hid ha
  have HB := Lib.hid hb
  have HT := Lib.hid hT
  have HL := Lib.hid (less_lt a b ha)
  have HOR := Lib.hid (or_lt a b ha hb)
  have HIN := Lib.hid (inK_all a b ha hb)
  have HTA := Lib.hid (fun k => has_nat a k)
  have HTB := Lib.hid (fun k => has_nat b k)
  have HTJ : Hid (∀ k : Nat, hasB (a ||| b) (k : Int) = (a.testBit k || b.testBit k)) := Lib.hid (fun k => by rw [has_nat, Nat.testBit_or])
  have HTL : Hid (∀ k : Nat, k < 16 → hasB (lessN a b) (k : Int) = (a.testBit k && !b.testBit k)) := Lib.hid (fun k hk => by rw [has_nat, less_tb _ _ _ hb]; simp [hk])
  have HKS := Lib.hid (fun k => inK_succ a b k)
  clear ha hb hT
  go_enter Tryd.func5, Tryd.ntmps5
  go_wp2_with fail
  refine (first_ok _ HT.out).mono ?_
  rintro e w1 ⟨rfl, hb⟩
  have HB1 := Lib.hid hb
  clear hb
  go_wp2_with fail
  refine (join_any a b _ HA.out HB.out).mono ?_
  rintro e w2 ⟨rfl, rfl⟩
  go_wp2_with fail
  refine (less_any a b _ HA.out HB.out).mono ?_
  rintro e w2 ⟨rfl, rfl⟩
  generalize hj : a ||| b = j at *
  generalize hl : lessN a b = l at *
  clear hj hl
  go_wp2_with fail
  go_loop [4, 7, 8, 9, 10] (fun _ inn i _ _ => ∃ k : Nat, k ≤ 16 ∧ i = .int .i64 k ∧ inn = .bool (inK a b k)) (fun _ _ i _ _ => 16 - (intOf i).toNat)
  case atStart => exact ⟨0, Nat.zero_le _, rfl, rfl⟩
  case round =>
    obtain ⟨k, hk, rfl, rfl⟩ := hrel
    have HK1 := Lib.hid (HKS.out k)
    by_cases hk16 : k < 16
    · have HJK := Lib.hid (HTJ.out k)
      have HLK := Lib.hid (HTL.out k hk16)
      generalize hki : inK a b k = ki at *
      generalize hx : a.testBit k = x at *
      generalize hy : b.testBit k = y at *
      have HXX := Lib.hid hx
      have HYY := Lib.hid hy
      clear hki hx hy
      go_wp2_with fail
      refine (rhas_any a k _ HA.out).mono ?_
      rintro e w2 ⟨rfl, rfl⟩
      rw [HTA.out, HXX.out]
      go_wp2_with fail
      refine (rhas_any b k _ HB.out).mono ?_
      rintro e w2 ⟨rfl, rfl⟩
      rw [HTB.out, HYY.out]
      go_wp2_with fail
      refine (rhas_any j k _ HOR.out).mono ?_
      rintro e w2 ⟨rfl, rfl⟩
      rw [HJK.out]
      cases x <;> cases y
      all_goals
        go_wp2_with fail
        refine (rhas_any l k _ HL.out).mono ?_
        rintro e w2 ⟨rfl, rfl⟩
        rw [HLK.out]
        cases ki
      all_goals
        go_wp2_with fail
        go_round
        case rel => exact ⟨k + 1, hk16, by go_num, by rw [HK1.out]; rfl⟩
        case measure => simp [intOf]; omega
    · obtain rfl : k = 16 := by omega
      go_wp2_with fail
      refine (in_any a b _ HA.out HB.out).mono ?_
      rintro e w2 ⟨rfl, rfl⟩
      rw [HIN.out]
      generalize inK a b 16 = z at *
      have hz : (z == z) = true := by simp
      go_wp2_with fail
      refine (text_any a _ HA.out (HT.out.below HB1.out)).mono ?_
      rintro e w2 ⟨rfl, hb⟩
      have HB2 := Lib.hid (HB1.out.trans (hb.mono HB1.out.size))
      clear hb
      go_wp2_with fail
      refine (rtext_any a _ HA.out).mono ?_
      rintro e w3 ⟨rfl, hb⟩
      have HB3 := Lib.hid (HB2.out.trans (hb.mono HB2.out.size))
      clear hb
      generalize txtB a = q at *
      go_wp2_with fail
      go_ret
      exact ⟨rfl, HB3.out⟩
theorem Law.NodesTwo (a b : Int) (W : World) (ha : (Lit.int .u16 a).wf = true) (hb : (Lit.int .u16 b).wf = true) (hT : Tab W) :
    Calls Tryd.prog 5 #[.int .u16 a, .int .u16 b] W fun e w' => e = .returned (.bool true) ∧ Below W.heap.size W w' := by
  obtain ⟨a, rfl⟩ := Int.eq_ofNat_of_zero_le (u16_of_wf ha).1
  obtain ⟨b, rfl⟩ := Int.eq_ofNat_of_zero_le (u16_of_wf hb).1
  exact two_walk a b W (by have := (u16_of_wf ha).2; omega) (by have := (u16_of_wf hb).2; omega) hT
end Go.Proofs.YtlmhmmlfodibgaaDoor
