/- first. -/
import Derived.Test.YtgdebfpepbomiaaPhyG
namespace Go.Proofs.Ytgdebfpepbomiaa
open Go.RowKit

theorem Mem.tight {w : World} {g n : Nat} {F : Nat → Prop} {S : Nat → List Nat} (h : Mem w g F n S) : Mem w g (fun b => F b ∧ b < w.heap.size) n S := by
  obtain ⟨mb, loc, K, h, hF⟩ := h
  exact ⟨mb, loc, K, h, fun b hb => ⟨hF b hb, h.flt b hb⟩⟩
theorem MemTo.tight {W w' : World} {g n B : Nat} {F : Nat → Prop} {S : Nat → List Nat} (h : MemTo W g F n S w') (hF : ∀ b, F b → B ≤ b) (hB : B ≤ W.heap.size) : Mem w' g (fun b => B ≤ b ∧ b < w'.heap.size) n S ∧ Below B W w' ∧ Keeps F W w' := by
  obtain ⟨F', h, h1, h2⟩ := h
  refine ⟨h.tight.mono (fun b hb => ⟨?_, hb.2⟩), h2.below hF hB, h2⟩
  rcases h1 b hb.1 with h | h
  · exact hF b h
  · omega
theorem take2 {l : List Nat} (h : 2 ≤ l.length) : l.take 2 = [l.getD 0 0, l.getD 1 0] := by
  match l, h with
  | a :: b :: r, _ => rfl
theorem cell_of {l : List Nat} {i : Nat} (h : i < l.length) : (l.map bv)[i]? = some (bv (l.getD i 0)) := by
  rw [List.getElem?_map, List.getD_eq_getElem?_getD, List.getElem?_eq_getElem h]
  rfl
theorem first_S : (stR 2 emptyS 4096 8 258 1).getD 0 0 = 2 ∧ (stR 2 emptyS 4096 8 258 1).getD 1 0 = 1 ∧ (stR 2 emptyS 4096 8 258 1).length = 4096 := by
  have e : stR 2 emptyS 4096 8 258 1 = putL zeroL 0 258 8 := by
    unfold stR
    rw [if_pos (by decide)]
    rfl
  rw [e]
  exact ⟨by rw [putL_get _ _ _ _ _ (by decide)]; decide, by rw [putL_get _ _ _ _ _ (by decide)]; decide, putL_length _ _ _ _⟩
theorem first_L : ldR 2 (stR 2 emptyS 4096 8 258) 4096 2 = 258 := by
  unfold ldR
  rw [if_pos (by decide)]
  show getV (stR 2 emptyS 4096 8 258 1) 0 2 = 258
  obtain ⟨h0, h1, h2⟩ := first_S
  show leNat (((stR 2 emptyS 4096 8 258 1).drop 0).take 2) = 258
  rw [List.drop_zero, take2 (by rw [h2]; decide), h0, h1]
  rfl
set_option maxHeartbeats 1000000 in
theorem first_ok (W : World) : Calls Try.prog 6 #[] W fun e w' => e = .returned (.bool true) ∧ Below W.heap.size W w' := by
  have e1 : chkE 2 4096 8 = 0 := by decide
  have e2 : chkE 2 4096 2 = 0 := by decide
  have e3 : chkE 2 8192 1 = 61 := by decide
  have e4 : chkE 2 2 4 = 60 := by decide
  have E1 := Lib.hid e1
  have E2 := Lib.hid e2
  have E3 := Lib.hid e3
  have E4 := Lib.hid e4
  have HL := Lib.hid first_L
  have HS := Lib.hid first_S
  clear e1 e2 e3 e4
  go_enter Try.func6, Try.ntmps6
  go_wp2_with fail
  refine (new_yes 2 _ (by decide) (by decide)).mono ?_
  rintro e w1 ⟨g, rfl, hm, hb⟩
  have HM1 := Lib.hid hm
  have HB1 := Lib.hid hb
  clear hm hb
  go_wp2_with fail
  refine (Store_any g 2 4096 8 258 _ _ _ HM1.out (by decide) (by decide)).mono ?_
  rintro e w2 ⟨rfl, hm⟩
  rw [E1.out]
  generalize stR 2 emptyS 4096 8 258 = S at *
  obtain ⟨hm, hb, _⟩ := hm.tight (B := W.heap.size) (fun b h => h) HB1.out.size
  have HM2 := Lib.hid hm
  have HB2 := Lib.hid (HB1.out.trans hb)
  clear hm hb
  go_wp2_with fail
  refine (Page_yes g 2 1 _ _ _ HM2.out (by decide)).mono ?_
  rintro e w3 ⟨v, rfl, ho, hb⟩
  rw [HS.out.2.2] at ho
  obtain ⟨q, cap, rfl, hq1, hq2⟩ := ho.form (by decide)
  have HO := Lib.hid ho
  have HM3 := Lib.hid (HM2.out.below hb)
  have HB3 := Lib.hid (HB2.out.trans (hb.mono HB2.out.size))
  clear ho hb
  go_wp2_with fail
  refine (Swap_any g 2 4096 2 7 _ _ _ HM3.out (by decide) (by decide)).mono ?_
  rintro e w4 ⟨rfl, hm⟩
  rw [E2.out, HL.out]
  generalize stR 2 S 4096 2 7 = S' at *
  obtain ⟨hm, hb, hk⟩ := hm.tight (B := W.heap.size) (fun b h => h.1) HB3.out.size
  have ho := hk.row HO.out (fun b hb h => by
    have : q = b := by simpa [Value.ownBlock] using hb
    have := h.2
    omega)
  have HM4 := Lib.hid hm
  have HB4 := Lib.hid (HB3.out.trans hb)
  have c0 := ho.cellAt 0 (by decide)
  have c1 := ho.cellAt 1 (by decide)
  rw [cell_of (by rw [HS.out.2.2]; decide), HS.out.1] at c0
  rw [cell_of (by rw [HS.out.2.2]; decide), HS.out.2.1] at c1
  unfold bv at c0 c1
  clear ho hb hk hm
  go_wp2_with fail
  refine (Load_any g 2 8192 1 _ _ _ HM4.out (by decide)).mono ?_
  rintro e w ⟨rfl, rfl⟩
  rw [E3.out]
  generalize ldR 2 S' 8192 1 = x
  go_wp2_with fail
  refine (Load_any g 2 2 4 _ _ _ HM4.out (by decide)).mono ?_
  rintro e w ⟨rfl, rfl⟩
  rw [E4.out]
  generalize ldR 2 S' 2 4 = y
  go_wp2_with fail
  go_ret
  exact ⟨rfl, HB4.out⟩
end Go.Proofs.Ytgdebfpepbomiaa
