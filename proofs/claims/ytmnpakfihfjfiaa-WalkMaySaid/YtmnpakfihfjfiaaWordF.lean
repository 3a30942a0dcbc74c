/- Contracts of the reference's Size and Bytes. -/
import Derived.Test.YtmnpakfihfjfiaaWordE
namespace Go.Proofs.Ytmnpakfihfjfiaa
open Go.RowKit

theorem rsize_any (n : Int) (w : World) :
    Calls Try.prog 49 #[.int .i64 n] w fun e w' => e = .returned (.bool (sizeB n)) ∧ Below w.heap.size w w' := by
  go_enter Try.func49, Try.ntmps49
  go_wp2
  go_rounds 5
  all_goals (go_ret; refine ⟨by simp [sizeB, *], by go_grown⟩)

theorem bytesOf_take (v q j : Nat) (h : sizeB q = true) (hj : j < q) : (bytesOf v q).take (j + 1) = (bytesOf v q).take j ++ [byteOf v j] := by
  rw [List.take_succ_eq_append_getElem (by rw [bytesOf_length v q h]; exact hj)]
  have := bytesOf_get v q j h hj
  rw [List.getD_eq_getElem?_getD, List.getElem?_eq_getElem (by rw [bytesOf_length v q h]; exact hj)] at this
  simp at this
  rw [this]

theorem cast_div (v j : Nat) : ((v : Int) / 256 ^ j) = ((v / 256 ^ j : Nat) : Int) := by simp
theorem div_step (v j : Nat) (hv : v < 18446744073709551616) : IntKind.u64.wrap (((v : Int) / 256 ^ j).tdiv 256) = (v : Int) / 256 ^ (j + 1) := by
  have h : v / 256 ^ j ≤ v := Nat.div_le_self _ _
  rw [cast_div, cast_div, Nat.pow_succ, ← Nat.div_div_eq_div_mul]
  generalize v / 256 ^ j = x at *
  rw [IntWalk.u64_quo _ _ (by omega)]
  simp
theorem byte_tmod (v j : Nat) : ((v : Int) / 256 ^ j).tmod 256 % 256 = ((byteOf v j : Nat) : Int) := by
  rw [cast_div, byteOf]
  generalize v / 256 ^ j = x
  rw [Int.tmod_eq_emod_of_nonneg (by omega)]
  omega
theorem byte_take (v q j : Nat) (x : Int) (h : sizeB q = true) (hj : j < q) (hx : x = ((byteOf v j : Nat) : Int)) : ((bytesOf v q).take j).map bv ++ [Value.int .u8 x] = ((bytesOf v q).take (j + 1)).map bv := by
  rw [bytesOf_take v q j h hj, hx]; simp [bv]

theorem rbytes_yes (v q : Nat) (w : World) (hv : v < 18446744073709551616) (h1 : sizeB q = true) :
    Calls Try.prog 31 #[.int .u64 v, .int .i64 q] w (RetOwn (bytesOf v q) w) := by
  have hq := size_cases h1
  have hq8 : q ≤ 8 := by omega
  have hq1 : 1 ≤ q := by omega
  clear hq
  have HL := Lib.hid (bytesOf_length v q h1)
  have HT := Lib.hid (fun j hj => bytesOf_take v q j h1 hj)
  have H1 := Lib.hid h1
  have HV := Lib.hid hv
  clear h1 hv
  obtain ⟨i0, hi0, hz0, hz1, hz2⟩ := info_parts info5
  go_enter Try.func31, Try.ntmps31
  go_wp2
  go_loopw [0, 5, 6] (fun x b i wr => ∃ j : Nat, j ≤ q ∧ i = .int .i64 j ∧ x = .int .u64 ((v : Int) / 256 ^ j) ∧ wr.ownsRow w.heap.size 5 1 b j (((bytesOf v q).take j).map bv) ∧ Below w.heap.size w wr) (fun _ _ i _ => (q - (intOf i)).toNat)
  case atStart => exact ⟨0, by omega, rfl, by simp, ⟨by simp, .inl ⟨rfl, rfl⟩⟩, Below.refl _ _⟩
  case round =>
    obtain ⟨j, hj, rfl, rfl, hown, hb⟩ := hrel
    have HO := Lib.hid hown
    clear hown
    by_cases h0 : j < q
    · go_wp2_with (first | (go_at_call 49; refine (rsize_any _ _).mono ?_; rintro e w1 ⟨rfl, hb1⟩; rw [H1.out]; have HB1 := Lib.hid hb1; clear hb1) | (at_builtin; refine wpList_append_own _ rfl (.tmp 16) (.tmp 20) _ rfl w.heap.size 5 i0 _ 1 1 Try.underlying78 hi0 hz0 hz1 hz2 rfl (by decide) _ j _ rfl ((own_below HO.out HB1.out).alloc _) ⟨w1.heap.size, 0, none⟩ 1 1 [.int .u8 (((v : Int) / 256 ^ j).tmod 256 % 256)] rfl rfl (cell_one_new _ _ _) (one_u8 _) (by unfold maxLen; omega) (by omega) (Nat.le_trans hb.size (Nat.le_trans HB1.out.size (by simp))) ?_; intro v' w' hown' hgrow _; have HO2 := Lib.hid hown'; have HG2 := Lib.hid hgrow; clear hown' hgrow))
      exact ⟨⟨j + 1, by omega, by go_num, by rw [div_step v j HV.out], by rw [← byte_take v q j _ H1.out h0 (byte_tmod v j)]; exact HO2.out,
        below_grown ((own_below HO.out HB1.out).alloc _) ((hb.trans (HB1.out.mono hb.size)).alloc (Nat.le_trans hb.size HB1.out.size) _) HG2.out (Nat.le_trans hb.size (Nat.le_trans HB1.out.size (by simp)))⟩, by simp [intOf]; omega⟩
    · obtain rfl : j = q := by omega
      go_wp2_with (go_at_call 49; refine (rsize_any _ _).mono ?_; rintro e w1 ⟨rfl, hb1⟩; rw [H1.out]; have HB1 := Lib.hid hb1; clear hb1)
      go_ret
      refine ⟨_, rfl, ?_, hb.trans (HB1.out.mono hb.size)⟩
      have := own_below HO.out HB1.out
      rw [List.take_of_length_le (by rw [HL.out]; exact Nat.le_refl _)] at this
      rw [HL.out]
      exact this

theorem rbytes_no (v : Int) (s : Int) (w : World) (h1 : sizeB s = false) :
    Calls Try.prog 31 #[.int .u64 v, .int .i64 s] w fun e w' => e = .returned (.slice none 0 0) ∧ Below w.heap.size w w' := by
  have H1 := Lib.hid h1
  clear h1
  go_enter Try.func31, Try.ntmps31
  go_wp2
  refine wp_loop_rounds 1 ?_; rw [rounds_succ]
  go_wp2_with (go_at_call 49; refine (rsize_any _ _).mono ?_; rintro e w1 ⟨rfl, hb⟩; rw [H1.out])
  go_ret
  exact ⟨rfl, hb⟩

theorem rbytes_any (v : Nat) (s : Int) (w : World) (hv : v < 18446744073709551616) :
    Calls Try.prog 31 #[.int .u64 v, .int .i64 s] w (RetOwn (bytesOf v s) w) := by
  rcases Bool.eq_false_or_eq_true (sizeB s) with h1 | h1
  · obtain ⟨q, rfl⟩ := Int.eq_ofNat_of_zero_le (show 0 ≤ s by have := size_cases h1; omega)
    exact rbytes_yes v q w hv h1
  · refine (rbytes_no v s w h1).mono ?_
    rintro e w' ⟨rfl, hb⟩
    have e : bytesOf v s = [] := by simp [bytesOf, h1]
    rw [e]
    exact ⟨_, rfl, World.ownsRow_nil _ _ _ _, hb⟩
end Go.Proofs.Ytmnpakfihfjfiaa
