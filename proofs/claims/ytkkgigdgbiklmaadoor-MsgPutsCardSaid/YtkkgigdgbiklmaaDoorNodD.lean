/- The reference's Has and List; sets of a list. -/
import Derived.Test.YtkkgigdgbiklmaaDoorNodC
namespace Go.Proofs.YtkkgigdgbiklmaaDoor
open Go.RowKit

theorem tb_div (s k : Nat) : s.testBit k = (s / 2 ^ k % 2 == 1) := by
  rw [Nat.testBit_eq_decide_div_mod_eq]
  rw [Bool.eq_iff_iff]; simp
theorem rhas_eq (s : Nat) (n : Nat) : hasB s (n : Int) = (((s / 2 ^ n % 2 : Nat) : Int) == 1) := by
  unfold hasB
  rw [show ((n : Int)).toNat = n from rfl, tb_div, Bool.eq_iff_iff]
  simp only [Bool.and_eq_true, decide_eq_true_eq, beq_iff_eq]
  omega
theorem has_out (s : Nat) (n : Int) (hs : s < 65536) (h : n < 0 ∨ 15 < n) : hasB s n = false := by
  unfold hasB
  rcases h with h | h
  · simp; omega
  · cases hb : s.testBit n.toNat with
    | false => simp
    | true => have := tb_lt hs hb; omega
set_option maxRecDepth 100000 in
set_option maxHeartbeats 1000000 in
theorem rhas_any (s : Nat) (n : Int) (W : World) (hs : s < 65536) :
    Calls Tryd.prog 53 #[.int .u16 s, .int .i64 n] W fun e w' => e = .returned (.bool (hasB s n)) ∧ W = w' := by
  by_cases h0 : n < 0
  · have H := Lib.hid (has_out s n hs (.inl h0))
    go_enter Tryd.func53, Tryd.ntmps53
    go_wp2
    go_ret
    exact ⟨by rw [H.out]; rfl, rfl⟩
  · by_cases h1 : 15 < n
    · have H := Lib.hid (has_out s n hs (.inr h1))
      go_enter Tryd.func53, Tryd.ntmps53
      go_wp2
      go_ret
      exact ⟨by rw [H.out]; rfl, rfl⟩
    · obtain ⟨m, rfl⟩ := Int.eq_ofNat_of_zero_le (show 0 ≤ n by omega)
      have H := Lib.hid (rhas_eq s m)
      have hm : m ≤ 15 := by omega
      clear h0 h1
      go_enter Tryd.func53, Tryd.ntmps53
      go_wp2
      go_loop [0, 5] (fun t i => ∃ k : Nat, k ≤ m ∧ i = .int .i64 k ∧ t = .int .u16 ((s / 2 ^ k : Nat) : Int)) (fun _ i => m - (intOf i).toNat)
      case atStart => exact ⟨0, Nat.zero_le _, rfl, by simp⟩
      case round =>
        obtain ⟨k, hk, rfl, rfl⟩ := hrel
        have hle : s / 2 ^ k < 65536 := Nat.lt_of_le_of_lt (Nat.div_le_self _ _) hs
        have HX := Lib.hid (show s / 2 ^ (k + 1) = s / 2 ^ k / 2 by rw [Nat.pow_succ, Nat.div_div_eq_div_mul])
        by_cases hkm : k < m
        · generalize hq : s / 2 ^ k = q at *
          clear hq
          go_wp2
          go_round
          case rel => exact ⟨k + 1, hkm, by go_num, by rw [HX.out]; simp⟩
          case measure => simp [intOf]; omega
        · obtain rfl : m = k := by omega
          generalize hq : s / 2 ^ m = q at *
          clear hq
          go_wp2
          go_ret
          refine ⟨?_, rfl⟩
          rw [H.out]
          exact congrArg (fun b => Ending.returned (Value.bool b)) (by simp)
set_option maxRecDepth 100000 in
set_option maxHeartbeats 1000000 in
theorem rlist_any (s : Nat) (W : World) (hs : s < 65536) :
    Calls Tryd.prog 43 #[.int .u16 s] W fun e w' => ∃ v, e = .returned v ∧ OwnI W.heap.size w' v (listN s) ∧ Below W.heap.size W w' := by
  have HS := Lib.hid hs
  clear hs
  cases hq : Tryd.prog.info? 3 with
  | none => have := info_int; rw [hq] at this; cases this
  | some i0 =>
  have hin := info_int
  rw [hq] at hin
  simp only [Option.map_some, Option.some.injEq, Prod.mk.injEq] at hin
  obtain ⟨hz0, hz1, hz2⟩ := hin
  have HI := Lib.hid hq
  have HZ0 := Lib.hid hz0
  have HZ1 := Lib.hid hz1
  have HZ2 := Lib.hid hz2
  clear hq hz0 hz1 hz2
  go_enter Tryd.func43, Tryd.ntmps43
  go_wp2_with fail
  go_loopw [3, 4] (fun v i wr => ∃ k : Nat, k ≤ 16 ∧ i = .int .i64 k ∧ OwnI W.heap.size wr v (lowL s k) ∧ Below W.heap.size W wr) (fun _ i _ => 16 - (intOf i).toNat)
  case atStart => exact ⟨0, Nat.zero_le _, rfl, World.ownsRow_nil _ _ _ _, Below.refl _ _⟩
  case round =>
    obtain ⟨k, hk, rfl, hO0, hB0⟩ := hrel
    have HO := Lib.hid hO0
    have HB := Lib.hid hB0
    have HLN := Lib.hid (low_len s k)
    have HL := Lib.hid (low_succ s k)
    have HK := Lib.hid hk
    clear hO0 hB0
    by_cases hkm : k < 16
    · go_wp2_with fail
      refine (rhas_any s k _ HS.out).mono ?_
      rintro e w ⟨rfl, rfl⟩
      have hh : hasB s (k : Int) = s.testBit k := by simp [hasB]
      rw [hh]
      cases hb : s.testBit k
      · have HB0 := Lib.hid hb
        clear hb
        go_wp2_with fail
        refine ⟨⟨k + 1, hkm, by go_num, ?_, HB.out⟩, by simp [intOf]; omega⟩
        rw [HL.out, HB0.out]
        simpa using HO.out
      · have HB0 := Lib.hid hb
        clear hb
        go_wp2_with (at_builtin; (refine wpList_append_any _ rfl (.tmp 12) (.tmp 14) _ rfl W.heap.size 3 i0 _ 1 8 Tryd.underlying57 HI.out HZ0.out HZ1.out HZ2.out rfl (by decide) _ (lowL s k).length (iv (lowL s k)) rfl (HO.out.alloc _) (wr.heap.size + 1) (some ⟨wr.heap.size, 0, none⟩) 1 1 (iv [k]) rfl (reads_one wr k) (iv_one _) (by unfold maxLen; have := HLN.out; have := HK.out; omega) (by have := HLN.out; have := HK.out; omega) (Nat.le_trans HB.out.size (by simp)) ?_; intro v2 w2 hown hgrow hat; have HO5 := Lib.hid hown; have HE5 := Lib.hid ((HB.out.alloc HB.out.size _).grown hgrow (Nat.le_trans HB.out.size (by simp)) (fun g hg => (HO.out.lt g hg).1)); clear hown hgrow hat))
        refine ⟨⟨k + 1, hkm, by go_num, ?_, HE5.out⟩, by simp [intOf]; omega⟩
        have h := HO5.out
        rw [← iv_append] at h
        unfold OwnI
        rw [HL.out, HB0.out, if_pos rfl, List.length_append]
        exact h
    · obtain rfl : k = 16 := by omega
      go_wp2_with fail
      go_ret
      exact ⟨_, rfl, HO.out, HB.out⟩
/-- A slice that reads as whole numbers. -/
def RdZ (w : World) (A : Option Addr) (l : List Int) : Prop := ∀ (k : Nat) (x : Int), l[k]? = some x → ∃ x0, A = some x0 ∧ w.cell? (x0.add k) = some (.int .i64 x)
theorem RdZ.below {w w' : World} {A : Option Addr} {l : List Int} (h : RdZ w A l) (hb : Below w.heap.size w w') : RdZ w' A l := fun k x hx => by
  obtain ⟨x0, e, hc⟩ := h k x hx
  exact ⟨x0, e, by rw [hb.cell (cell_lt hc)]; exact hc⟩
def InI (l : List Int) : Prop := ∀ x ∈ l, -9223372036854775808 ≤ x ∧ x < 9223372036854775808
theorem of_take {l : List Int} {k : Nat} {x : Int} (hx : l[k]? = some x) : ofN (l.take (k + 1)) = ofN (l.take k) ||| bitN x := by
  rw [List.take_add_one, hx]; exact of_snoc _ _
end Go.Proofs.YtkkgigdgbiklmaaDoor
