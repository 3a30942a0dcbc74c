/- Contracts: Put, Get, of both sides. -/
import Derived.Test.YtcmaneeoblmmmaaIsaE
namespace Go.Proofs.Ytcmaneeoblmmmaa
open Go.RowKit

theorem right_bounds {o d s t i : Int} (h : rightB o d s t i = true) : (0 ≤ o ∧ o < 35) ∧ (0 ≤ d ∧ d ≤ 15) ∧ (0 ≤ s ∧ s ≤ 15) ∧ (0 ≤ t ∧ t ≤ 15) ∧ (-2048 ≤ i ∧ i ≤ 2047) := by
  unfold rightB rightK at h
  simp only [Bool.and_eq_true, decide_eq_true_eq, bne_iff_ne, partsB, reg_part _ _ 0 (by decide), reg_part _ _ 1 (by decide), reg_part _ _ 2 (by decide)] at h
  obtain ⟨⟨⟨⟨⟨⟨h1, h2⟩, h3⟩, h4⟩, h5⟩, h6⟩, h7⟩ := h
  have hr : 0 ≤ o ∧ o < 35 := by
    by_cases hr : 0 ≤ o ∧ o < 35
    · exact hr
    · exact absurd (kd_no hr) h1
  have hreg : ∀ {r : Int} {b : Bool}, regB r b = true → 0 ≤ r ∧ r ≤ 15 := by
    intro r b h
    simp [regB] at h
    omega
  exact ⟨hr, hreg h4, hreg h5, hreg h6, h2, h3⟩

theorem wraps_u32 (n : Int) (h₀ : 0 ≤ n) (h₁ : n < 2 ^ 32) : IntKind.u32.wrap n = n := by rw [IntKind.wrap_u32]; omega
theorem u32_or (x y : Int) (i : Nat) (hi : i ≤ 32) (hx₀ : 0 ≤ x) (hx : x < 2 ^ i) (hy₀ : 0 ≤ y) (hy : y % 2 ^ i = 0) (hy₁ : y < 2 ^ 32) : bits .or .u32 x y = x + y := by
  have hx1 : x < 2 ^ 32 := by
    have : (2 : Int) ^ i ≤ 2 ^ 32 := by exact_mod_cast Nat.pow_le_pow_right (by decide : 0 < 2) hi
    omega
  have h := bits_join .u32 32 (by decide) wraps_u32 i y x hy₀ hy hy₁ hx₀ hx hx1
  obtain ⟨a, rfl⟩ := Int.eq_ofNat_of_zero_le hx₀
  obtain ⟨b, rfl⟩ := Int.eq_ofNat_of_zero_le hy₀
  have e1 := (bits_nat .u32 32 (by decide) wraps_u32 a b (by exact_mod_cast hx1) (by exact_mod_cast hy₁)).2
  have e2 := (bits_nat .u32 32 (by decide) wraps_u32 b a (by exact_mod_cast hy₁) (by exact_mod_cast hx1)).2
  rw [e1, Nat.or_comm, ← e2, h, Int.add_comm]
theorem i64_mask (i : Int) : bits .and .i64 i 4095 = i % 4096 := by
  have h1 : (BitVec.ofInt 64 i).toNat = (i % 18446744073709551616).toNat := by rw [BitVec.toNat_ofInt]; rfl
  have h2 : (BitVec.ofInt 64 4095).toNat = 2 ^ 12 - 1 := by decide
  show IntKind.i64.wrap ((BitVec.ofInt 64 i &&& BitVec.ofInt 64 4095).toNat : Int) = _
  rw [BitVec.toNat_and, h1, h2, Nat.and_two_pow_sub_one_eq_mod, IntKind.wrap_i64]
  omega
theorem u32_mask8 (x : Int) (h₀ : 0 ≤ x) (h₁ : x < 2 ^ 32) : bits .and .u32 x 255 = x % 256 := bits_mask .u32 32 (by decide) wraps_u32 8 (by decide) x h₀ h₁
theorem u32_mask4 (x : Int) (h₀ : 0 ≤ x) (h₁ : x < 2 ^ 32) : bits .and .u32 x 15 = x % 16 := bits_mask .u32 32 (by decide) wraps_u32 4 (by decide) x h₀ h₁

/-- The word of an instruction. -/
def putI (o d s t i : Int) : Int := o + 256 * d + 4096 * s + 65536 * t + 1048576 * (i % 4096)
theorem put_eq (o d s t i : Int) (o0 : 0 ≤ o) (o1 : o < 35) (d0 : 0 ≤ d) (d1 : d ≤ 15) (s0 : 0 ≤ s) (s1 : s ≤ 15) (t0 : 0 ≤ t) (t1 : t ≤ 15) :
    bits .or .u32 (bits .or .u32 (bits .or .u32 (bits .or .u32 o (d * 256)) (s * 4096)) (t * 65536)) (bits .and .i64 i 4095 % 4294967296 * 1048576 % 4294967296) = putI o d s t i := by
  rw [u32_or o (d * 256) 8 (by decide) o0 (by omega) (by omega) (by omega) (by omega), u32_or _ (s * 4096) 12 (by decide) (by omega) (by omega) (by omega) (by omega) (by omega),
    u32_or _ (t * 65536) 16 (by decide) (by omega) (by omega) (by omega) (by omega) (by omega), i64_mask, u32_or _ _ 20 (by decide) (by omega) (by omega) (by omega) (by omega) (by omega)]
  unfold putI
  omega
def gI (x : Int) : Int := if x / 1048576 ≤ 2047 then x / 1048576 else x / 1048576 - 4096
theorem gI_eq (x : Int) (h0 : 0 ≤ x) (h1 : x < 4294967296) : wrap64 (wrap32 x / 1048576) = gI x := by
  unfold gI
  simp only [wrap64, wrap32, IntKind.wrap_i64, IntKind.wrap_i32]
  split <;> omega
/-- What a word is read as. -/
def getR (x : Int) : Bool := rightB (x % 256) (x / 256 % 16) (x / 4096 % 16) (x / 65536 % 16) (gI x)
def getA (x : Int) : Value := .agg #[.int .i64 (x % 256), .int .i64 (x / 256 % 16), .int .i64 (x / 4096 % 16), .int .i64 (x / 65536 % 16), .int .i64 (gI x)]
def getZ : Value := .agg #[.int .i64 0, .int .i64 0, .int .i64 0, .int .i64 0, .int .i64 0]
theorem put_get (o d s t i : Int) (h : rightB o d s t i = true) : getR (putI o d s t i) = true ∧ getA (putI o d s t i) = .agg #[.int .i64 o, .int .i64 d, .int .i64 s, .int .i64 t, .int .i64 i] ∧ 0 ≤ putI o d s t i ∧ putI o d s t i < 4294967296 := by
  obtain ⟨⟨o0, o1⟩, ⟨d0, d1⟩, ⟨s0, s1⟩, ⟨t0, t1⟩, i0, i1⟩ := right_bounds h
  have e0 : putI o d s t i % 256 = o := by unfold putI; omega
  have e1 : putI o d s t i / 256 % 16 = d := by unfold putI; omega
  have e2 : putI o d s t i / 4096 % 16 = s := by unfold putI; omega
  have e3 : putI o d s t i / 65536 % 16 = t := by unfold putI; omega
  have e4 : gI (putI o d s t i) = i := by unfold gI putI; split <;> omega
  refine ⟨?_, ?_, ?_, ?_⟩
  · unfold getR; rw [e0, e1, e2, e3, e4, h]
  · unfold getA; rw [e0, e1, e2, e3, e4]
  · unfold putI; omega
  · unfold putI; omega

theorem put_no (o d s t i : Int) (W : World) (h : rightB o d s t i = false) :
    Calls Try.prog 8 #[.agg #[.int .i64 o, .int .i64 d, .int .i64 s, .int .i64 t, .int .i64 i]] W fun e w' => e = .returned (.tuple #[.int .u32 0, .int .i64 2]) ∧ Below W.heap.size W w' := by
  have H := Lib.hid h
  clear h
  go_enter Try.func8, Try.ntmps8
  go_wp2_with fail
  refine (right_any _ _ _ _ _ _).mono ?_
  rintro e w1 ⟨rfl, hb⟩
  rw [H.out]
  have b1 := ((Below.refl _ W).alloc (Nat.le_refl _) (.cells #[.int .i64 o, .int .i64 d, .int .i64 s, .int .i64 t, .int .i64 i] 24)).trans (hb.mono (by simp))
  have HB := Lib.hid b1
  clear hb b1
  go_wp2
  go_ret2
  exact ⟨rfl, HB.out⟩
theorem put_yes (o d s t i : Int) (W : World) (h : rightB o d s t i = true) :
    Calls Try.prog 8 #[.agg #[.int .i64 o, .int .i64 d, .int .i64 s, .int .i64 t, .int .i64 i]] W fun e w' => e = .returned (.tuple #[.int .u32 (putI o d s t i), .int .i64 0]) ∧ Below W.heap.size W w' := by
  have H := Lib.hid h
  obtain ⟨⟨o0, o1⟩, ⟨d0, d1⟩, ⟨s0, s1⟩, ⟨t0, t1⟩, i0, i1⟩ := right_bounds h
  have HE := Lib.hid (put_eq o d s t i o0 o1 d0 d1 s0 s1 t0 t1)
  clear h
  go_enter Try.func8, Try.ntmps8
  go_wp2_with fail
  refine (right_any _ _ _ _ _ _).mono ?_
  rintro e w1 ⟨rfl, hb⟩
  rw [H.out]
  have hp := Blkf.below (Blkf.new_at (n := W.heap.size) W 24 (0, 0) #[.int .i64 o, .int .i64 d, .int .i64 s, .int .i64 t, .int .i64 i] rfl) hb (by simp)
  have c0 : w1.cell? ⟨W.heap.size, 0, none⟩ = some (.int .i64 o) := hp.cell 0
  have c1 : w1.cell? ⟨W.heap.size, 1, none⟩ = some (.int .i64 d) := hp.cell 1
  have c2 : w1.cell? ⟨W.heap.size, 2, none⟩ = some (.int .i64 s) := hp.cell 2
  have c3 : w1.cell? ⟨W.heap.size, 3, none⟩ = some (.int .i64 t) := hp.cell 3
  have c4 : w1.cell? ⟨W.heap.size, 4, none⟩ = some (.int .i64 i) := hp.cell 4
  have b1 := ((Below.refl _ W).alloc (Nat.le_refl _) (.cells #[.int .i64 o, .int .i64 d, .int .i64 s, .int .i64 t, .int .i64 i] 24)).trans (hb.mono (by simp))
  have HB := Lib.hid b1
  clear hb b1 hp
  go_wp2
  go_ret2
  refine ⟨?_, HB.out⟩
  rw [← HE.out]
  rfl
theorem rput_yes (o d s t i : Int) (W : World) (h : rightB o d s t i = true) :
    Calls Try.prog 12 #[.agg #[.int .i64 o, .int .i64 d, .int .i64 s, .int .i64 t, .int .i64 i]] W fun e w' => e = .returned (.int .u32 (putI o d s t i)) ∧ Below W.heap.size W w' := by
  obtain ⟨⟨o0, o1⟩, ⟨d0, d1⟩, ⟨s0, s1⟩, ⟨t0, t1⟩, i0, i1⟩ := right_bounds h
  clear h
  by_cases hi : i < 0
  · have e1 : decide (i < 0) = true := by simpa using hi
    have HE : Hid (putI o d s t i = o + 256 * d + 4096 * s + 65536 * t + 1048576 * (i + 4096)) := Lib.hid (by unfold putI; omega)
    go_enter Try.func12, Try.ntmps12
    go_wp2
    go_ret
    exact ⟨by rw [HE.out]; rfl, by go_grown⟩
  · have e1 : decide (i < 0) = false := by simpa using hi
    have i2 : 0 ≤ i := by omega
    have HE : Hid (putI o d s t i = o + 256 * d + 4096 * s + 65536 * t + 1048576 * i) := Lib.hid (by unfold putI; omega)
    go_enter Try.func12, Try.ntmps12
    go_wp2
    go_ret
    exact ⟨by rw [HE.out]; rfl, by go_grown⟩
theorem get_yes (x : Int) (W : World) (h0 : 0 ≤ x) (h1 : x < 4294967296) (hr : getR x = true) :
    Calls Try.prog 11 #[.int .u32 x] W fun e w' => e = .returned (.tuple #[getA x, .bool true]) ∧ Below W.heap.size W w' := by
  have HN := Lib.hid (gI_eq x h0 h1)
  have HM := Lib.hid (u32_mask8 x h0 h1)
  have HM1 := Lib.hid (u32_mask4 (x / 256) (by omega) (by omega))
  have HM2 := Lib.hid (u32_mask4 (x / 4096) (by omega) (by omega))
  have HM3 := Lib.hid (u32_mask4 (x / 65536) (by omega) (by omega))
  have HR := Lib.hid hr
  clear hr
  go_enter Try.func11, Try.ntmps11
  go_wp2_with fail
  rw [HN.out, HM.out, HM1.out, HM2.out, HM3.out, IntWalk.wrap64_in (x % 256) (by omega), IntWalk.wrap64_in (x / 256 % 16) (by omega), IntWalk.wrap64_in (x / 4096 % 16) (by omega), IntWalk.wrap64_in (x / 65536 % 16) (by omega)]
  refine (right_any _ _ _ _ _ _).mono ?_
  rintro e w1 ⟨rfl, hb⟩
  rw [show rightB (x % 256) (x / 256 % 16) (x / 4096 % 16) (x / 65536 % 16) (gI x) = true from HR.out]
  have hz := Blkf.below ((Blkf.new_at (n := W.heap.size) W 24 (0, 0) #[.int .i64 0, .int .i64 0, .int .i64 0, .int .i64 0, .int .i64 0] rfl).alloc _) hb (by simp; omega)
  have hp := Blkf.below (Blkf.new_at (n := W.heap.size + 1) _ 24 (0, 0) #[.int .i64 (x % 256), .int .i64 (x / 256 % 16), .int .i64 (x / 4096 % 16), .int .i64 (x / 65536 % 16), .int .i64 (gI x)] (by simp)) hb (by simp)
  have z0 : w1.cell? ⟨W.heap.size, 0, none⟩ = some (.int .i64 0) := hz.cell 0
  have z1 : w1.cell? ⟨W.heap.size, 1, none⟩ = some (.int .i64 0) := hz.cell 1
  have z2 : w1.cell? ⟨W.heap.size, 2, none⟩ = some (.int .i64 0) := hz.cell 2
  have z3 : w1.cell? ⟨W.heap.size, 3, none⟩ = some (.int .i64 0) := hz.cell 3
  have z4 : w1.cell? ⟨W.heap.size, 4, none⟩ = some (.int .i64 0) := hz.cell 4
  have zf := fun j => Blk.frozen hz j
  have c0 : w1.cell? ⟨W.heap.size + 1, 0, none⟩ = some (.int .i64 (x % 256)) := hp.cell 0
  have c1 : w1.cell? ⟨W.heap.size + 1, 1, none⟩ = some (.int .i64 (x / 256 % 16)) := hp.cell 1
  have c2 : w1.cell? ⟨W.heap.size + 1, 2, none⟩ = some (.int .i64 (x / 4096 % 16)) := hp.cell 2
  have c3 : w1.cell? ⟨W.heap.size + 1, 3, none⟩ = some (.int .i64 (x / 65536 % 16)) := hp.cell 3
  have c4 : w1.cell? ⟨W.heap.size + 1, 4, none⟩ = some (.int .i64 ((gI x))) := hp.cell 4
  have b1 := (((Below.refl _ W).alloc (Nat.le_refl _) (.cells #[.int .i64 0, .int .i64 0, .int .i64 0, .int .i64 0, .int .i64 0] 24)).alloc (by simp) (.cells #[.int .i64 (x % 256), .int .i64 (x / 256 % 16), .int .i64 (x / 4096 % 16), .int .i64 (x / 65536 % 16), .int .i64 (gI x)] 24)).trans (hb.mono (by simp; omega))
  have HB := Lib.hid b1
  clear hb b1 hp hz
  go_wp2
  refine bodyPost_ret (v := .tuple #[.agg #[.int .i64 (x % 256), .int .i64 (x / 256 % 16), .int .i64 (x / 4096 % 16), .int .i64 (x / 65536 % 16), .int .i64 (gI x)], .bool true]) (by simp [results, Try.results11, go_sem, z0, z1, z2, z3, z4]) rfl ⟨rfl, ?_⟩
  have hB := HB.out
  repeat (first | (with_reducible exact hB) | (with_reducible refine Below.drew ?_) | (with_reducible refine Below.setCell ?_ (by simp) _))
theorem get_no (x : Int) (W : World) (h0 : 0 ≤ x) (h1 : x < 4294967296) (hr : getR x = false) :
    Calls Try.prog 11 #[.int .u32 x] W fun e w' => e = .returned (.tuple #[getZ, .bool false]) ∧ Below W.heap.size W w' := by
  have HN := Lib.hid (gI_eq x h0 h1)
  have HM := Lib.hid (u32_mask8 x h0 h1)
  have HM1 := Lib.hid (u32_mask4 (x / 256) (by omega) (by omega))
  have HM2 := Lib.hid (u32_mask4 (x / 4096) (by omega) (by omega))
  have HM3 := Lib.hid (u32_mask4 (x / 65536) (by omega) (by omega))
  have HR := Lib.hid hr
  clear hr
  go_enter Try.func11, Try.ntmps11
  go_wp2_with fail
  rw [HN.out, HM.out, HM1.out, HM2.out, HM3.out, IntWalk.wrap64_in (x % 256) (by omega), IntWalk.wrap64_in (x / 256 % 16) (by omega), IntWalk.wrap64_in (x / 4096 % 16) (by omega), IntWalk.wrap64_in (x / 65536 % 16) (by omega)]
  refine (right_any _ _ _ _ _ _).mono ?_
  rintro e w1 ⟨rfl, hb⟩
  rw [show rightB (x % 256) (x / 256 % 16) (x / 4096 % 16) (x / 65536 % 16) (gI x) = false from HR.out]
  have hz := Blkf.below ((Blkf.new_at (n := W.heap.size) W 24 (0, 0) #[.int .i64 0, .int .i64 0, .int .i64 0, .int .i64 0, .int .i64 0] rfl).alloc _) hb (by simp; omega)
  have hp := Blkf.below (Blkf.new_at (n := W.heap.size + 1) _ 24 (0, 0) #[.int .i64 (x % 256), .int .i64 (x / 256 % 16), .int .i64 (x / 4096 % 16), .int .i64 (x / 65536 % 16), .int .i64 (gI x)] (by simp)) hb (by simp)
  have z0 : w1.cell? ⟨W.heap.size, 0, none⟩ = some (.int .i64 0) := hz.cell 0
  have z1 : w1.cell? ⟨W.heap.size, 1, none⟩ = some (.int .i64 0) := hz.cell 1
  have z2 : w1.cell? ⟨W.heap.size, 2, none⟩ = some (.int .i64 0) := hz.cell 2
  have z3 : w1.cell? ⟨W.heap.size, 3, none⟩ = some (.int .i64 0) := hz.cell 3
  have z4 : w1.cell? ⟨W.heap.size, 4, none⟩ = some (.int .i64 0) := hz.cell 4
  have zf := fun j => Blk.frozen hz j
  have b1 := (((Below.refl _ W).alloc (Nat.le_refl _) (.cells #[.int .i64 0, .int .i64 0, .int .i64 0, .int .i64 0, .int .i64 0] 24)).alloc (by simp) (.cells #[.int .i64 (x % 256), .int .i64 (x / 256 % 16), .int .i64 (x / 4096 % 16), .int .i64 (x / 65536 % 16), .int .i64 (gI x)] 24)).trans (hb.mono (by simp; omega))
  have HB := Lib.hid b1
  clear hb b1 hp hz
  go_wp2
  refine bodyPost_ret (v := .tuple #[.agg #[.int .i64 0, .int .i64 0, .int .i64 0, .int .i64 0, .int .i64 0], .bool false]) (by simp [results, Try.results11, go_sem, z0, z1, z2, z3, z4]) rfl ⟨rfl, ?_⟩
  have hB := HB.out
  repeat (first | (with_reducible exact hB) | (with_reducible refine Below.drew ?_) | (with_reducible refine Below.setCell ?_ (by simp) _))
theorem rget_lo_yes (x : Int) (W : World) (h0 : 0 ≤ x) (h1 : x < 4294967296) (hc : x / 1048576 ≤ 2047) (hr : getR x = true) :
    Calls Try.prog 13 #[.int .u32 x] W fun e w' => e = .returned (.tuple #[getA x, .bool true]) ∧ Below W.heap.size W w' := by
  have HG : Hid (gI x = x / 1048576) := Lib.hid (if_pos hc)
  have e9 : decide (2047 < x / 1048576) = false := by simp; omega
  clear hc
  have HR := Lib.hid hr
  clear hr
  go_enter Try.func13, Try.ntmps13
  go_wp2_with fail
  refine (rright_any _ _ _ _ _ _).mono ?_
  rintro e w1 ⟨rfl, hb⟩
  rw [show rightB (x % 256) (x / 256 % 16) (x / 4096 % 16) (x / 65536 % 16) (x / 1048576) = true from by rw [← HG.out]; exact HR.out]
  have hz := Blkf.below ((Blkf.new_at (n := W.heap.size) W 24 (0, 0) #[.int .i64 0, .int .i64 0, .int .i64 0, .int .i64 0, .int .i64 0] rfl).alloc _) hb (by simp; omega)
  have hp := Blkf.below (Blkf.new_at (n := W.heap.size + 1) _ 24 (0, 0) #[.int .i64 (x % 256), .int .i64 (x / 256 % 16), .int .i64 (x / 4096 % 16), .int .i64 (x / 65536 % 16), .int .i64 (x / 1048576)] (by simp)) hb (by simp)
  have z0 : w1.cell? ⟨W.heap.size, 0, none⟩ = some (.int .i64 0) := hz.cell 0
  have z1 : w1.cell? ⟨W.heap.size, 1, none⟩ = some (.int .i64 0) := hz.cell 1
  have z2 : w1.cell? ⟨W.heap.size, 2, none⟩ = some (.int .i64 0) := hz.cell 2
  have z3 : w1.cell? ⟨W.heap.size, 3, none⟩ = some (.int .i64 0) := hz.cell 3
  have z4 : w1.cell? ⟨W.heap.size, 4, none⟩ = some (.int .i64 0) := hz.cell 4
  have zf := fun j => Blk.frozen hz j
  have c0 : w1.cell? ⟨W.heap.size + 1, 0, none⟩ = some (.int .i64 (x % 256)) := hp.cell 0
  have c1 : w1.cell? ⟨W.heap.size + 1, 1, none⟩ = some (.int .i64 (x / 256 % 16)) := hp.cell 1
  have c2 : w1.cell? ⟨W.heap.size + 1, 2, none⟩ = some (.int .i64 (x / 4096 % 16)) := hp.cell 2
  have c3 : w1.cell? ⟨W.heap.size + 1, 3, none⟩ = some (.int .i64 (x / 65536 % 16)) := hp.cell 3
  have c4 : w1.cell? ⟨W.heap.size + 1, 4, none⟩ = some (.int .i64 ((x / 1048576))) := hp.cell 4
  have b1 := (((Below.refl _ W).alloc (Nat.le_refl _) (.cells #[.int .i64 0, .int .i64 0, .int .i64 0, .int .i64 0, .int .i64 0] 24)).alloc (by simp) (.cells #[.int .i64 (x % 256), .int .i64 (x / 256 % 16), .int .i64 (x / 4096 % 16), .int .i64 (x / 65536 % 16), .int .i64 (x / 1048576)] 24)).trans (hb.mono (by simp; omega))
  have HB := Lib.hid b1
  clear hb b1 hp hz
  go_wp2
  refine bodyPost_ret (v := .tuple #[.agg #[.int .i64 (x % 256), .int .i64 (x / 256 % 16), .int .i64 (x / 4096 % 16), .int .i64 (x / 65536 % 16), .int .i64 (x / 1048576)], .bool true]) (by simp [results, Try.results13, go_sem, z0, z1, z2, z3, z4]) rfl ⟨by rw [getA, HG.out], ?_⟩
  have hB := HB.out
  repeat (first | (with_reducible exact hB) | (with_reducible refine Below.drew ?_) | (with_reducible refine Below.setCell ?_ (by simp) _))
theorem rget_lo_no (x : Int) (W : World) (h0 : 0 ≤ x) (h1 : x < 4294967296) (hc : x / 1048576 ≤ 2047) (hr : getR x = false) :
    Calls Try.prog 13 #[.int .u32 x] W fun e w' => e = .returned (.tuple #[getZ, .bool false]) ∧ Below W.heap.size W w' := by
  have HG : Hid (gI x = x / 1048576) := Lib.hid (if_pos hc)
  have e9 : decide (2047 < x / 1048576) = false := by simp; omega
  clear hc
  have HR := Lib.hid hr
  clear hr
  go_enter Try.func13, Try.ntmps13
  go_wp2_with fail
  refine (rright_any _ _ _ _ _ _).mono ?_
  rintro e w1 ⟨rfl, hb⟩
  rw [show rightB (x % 256) (x / 256 % 16) (x / 4096 % 16) (x / 65536 % 16) (x / 1048576) = false from by rw [← HG.out]; exact HR.out]
  have hz := Blkf.below ((Blkf.new_at (n := W.heap.size) W 24 (0, 0) #[.int .i64 0, .int .i64 0, .int .i64 0, .int .i64 0, .int .i64 0] rfl).alloc _) hb (by simp; omega)
  have hp := Blkf.below (Blkf.new_at (n := W.heap.size + 1) _ 24 (0, 0) #[.int .i64 (x % 256), .int .i64 (x / 256 % 16), .int .i64 (x / 4096 % 16), .int .i64 (x / 65536 % 16), .int .i64 (x / 1048576)] (by simp)) hb (by simp)
  have z0 : w1.cell? ⟨W.heap.size, 0, none⟩ = some (.int .i64 0) := hz.cell 0
  have z1 : w1.cell? ⟨W.heap.size, 1, none⟩ = some (.int .i64 0) := hz.cell 1
  have z2 : w1.cell? ⟨W.heap.size, 2, none⟩ = some (.int .i64 0) := hz.cell 2
  have z3 : w1.cell? ⟨W.heap.size, 3, none⟩ = some (.int .i64 0) := hz.cell 3
  have z4 : w1.cell? ⟨W.heap.size, 4, none⟩ = some (.int .i64 0) := hz.cell 4
  have zf := fun j => Blk.frozen hz j
  have b1 := (((Below.refl _ W).alloc (Nat.le_refl _) (.cells #[.int .i64 0, .int .i64 0, .int .i64 0, .int .i64 0, .int .i64 0] 24)).alloc (by simp) (.cells #[.int .i64 (x % 256), .int .i64 (x / 256 % 16), .int .i64 (x / 4096 % 16), .int .i64 (x / 65536 % 16), .int .i64 (x / 1048576)] 24)).trans (hb.mono (by simp; omega))
  have HB := Lib.hid b1
  clear hb b1 hp hz
  go_wp2
  refine bodyPost_ret (v := .tuple #[.agg #[.int .i64 0, .int .i64 0, .int .i64 0, .int .i64 0, .int .i64 0], .bool false]) (by simp [results, Try.results13, go_sem, z0, z1, z2, z3, z4]) rfl ⟨rfl, ?_⟩
  have hB := HB.out
  repeat (first | (with_reducible exact hB) | (with_reducible refine Below.drew ?_) | (with_reducible refine Below.setCell ?_ (by simp) _))
theorem rget_hi_yes (x : Int) (W : World) (h0 : 0 ≤ x) (h1 : x < 4294967296) (hc : ¬ x / 1048576 ≤ 2047) (hr : getR x = true) :
    Calls Try.prog 13 #[.int .u32 x] W fun e w' => e = .returned (.tuple #[getA x, .bool true]) ∧ Below W.heap.size W w' := by
  have HG : Hid (gI x = x / 1048576 - 4096) := Lib.hid (if_neg hc)
  have e9 : decide (2047 < x / 1048576) = true := by simp; omega
  clear hc
  have HR := Lib.hid hr
  clear hr
  go_enter Try.func13, Try.ntmps13
  go_wp2_with fail
  refine (rright_any _ _ _ _ _ _).mono ?_
  rintro e w1 ⟨rfl, hb⟩
  rw [show rightB (x % 256) (x / 256 % 16) (x / 4096 % 16) (x / 65536 % 16) (x / 1048576 - 4096) = true from by rw [← HG.out]; exact HR.out]
  have hz := Blkf.below ((Blkf.new_at (n := W.heap.size) W 24 (0, 0) #[.int .i64 0, .int .i64 0, .int .i64 0, .int .i64 0, .int .i64 0] rfl).alloc _) hb (by simp; omega)
  have hp := Blkf.below (Blkf.new_at (n := W.heap.size + 1) _ 24 (0, 0) #[.int .i64 (x % 256), .int .i64 (x / 256 % 16), .int .i64 (x / 4096 % 16), .int .i64 (x / 65536 % 16), .int .i64 (x / 1048576 - 4096)] (by simp)) hb (by simp)
  have z0 : w1.cell? ⟨W.heap.size, 0, none⟩ = some (.int .i64 0) := hz.cell 0
  have z1 : w1.cell? ⟨W.heap.size, 1, none⟩ = some (.int .i64 0) := hz.cell 1
  have z2 : w1.cell? ⟨W.heap.size, 2, none⟩ = some (.int .i64 0) := hz.cell 2
  have z3 : w1.cell? ⟨W.heap.size, 3, none⟩ = some (.int .i64 0) := hz.cell 3
  have z4 : w1.cell? ⟨W.heap.size, 4, none⟩ = some (.int .i64 0) := hz.cell 4
  have zf := fun j => Blk.frozen hz j
  have c0 : w1.cell? ⟨W.heap.size + 1, 0, none⟩ = some (.int .i64 (x % 256)) := hp.cell 0
  have c1 : w1.cell? ⟨W.heap.size + 1, 1, none⟩ = some (.int .i64 (x / 256 % 16)) := hp.cell 1
  have c2 : w1.cell? ⟨W.heap.size + 1, 2, none⟩ = some (.int .i64 (x / 4096 % 16)) := hp.cell 2
  have c3 : w1.cell? ⟨W.heap.size + 1, 3, none⟩ = some (.int .i64 (x / 65536 % 16)) := hp.cell 3
  have c4 : w1.cell? ⟨W.heap.size + 1, 4, none⟩ = some (.int .i64 ((x / 1048576 - 4096))) := hp.cell 4
  have b1 := (((Below.refl _ W).alloc (Nat.le_refl _) (.cells #[.int .i64 0, .int .i64 0, .int .i64 0, .int .i64 0, .int .i64 0] 24)).alloc (by simp) (.cells #[.int .i64 (x % 256), .int .i64 (x / 256 % 16), .int .i64 (x / 4096 % 16), .int .i64 (x / 65536 % 16), .int .i64 (x / 1048576 - 4096)] 24)).trans (hb.mono (by simp; omega))
  have HB := Lib.hid b1
  clear hb b1 hp hz
  go_wp2
  refine bodyPost_ret (v := .tuple #[.agg #[.int .i64 (x % 256), .int .i64 (x / 256 % 16), .int .i64 (x / 4096 % 16), .int .i64 (x / 65536 % 16), .int .i64 (x / 1048576 - 4096)], .bool true]) (by simp [results, Try.results13, go_sem, z0, z1, z2, z3, z4]) rfl ⟨by rw [getA, HG.out], ?_⟩
  have hB := HB.out
  repeat (first | (with_reducible exact hB) | (with_reducible refine Below.drew ?_) | (with_reducible refine Below.setCell ?_ (by simp) _))
theorem rget_hi_no (x : Int) (W : World) (h0 : 0 ≤ x) (h1 : x < 4294967296) (hc : ¬ x / 1048576 ≤ 2047) (hr : getR x = false) :
    Calls Try.prog 13 #[.int .u32 x] W fun e w' => e = .returned (.tuple #[getZ, .bool false]) ∧ Below W.heap.size W w' := by
  have HG : Hid (gI x = x / 1048576 - 4096) := Lib.hid (if_neg hc)
  have e9 : decide (2047 < x / 1048576) = true := by simp; omega
  clear hc
  have HR := Lib.hid hr
  clear hr
  go_enter Try.func13, Try.ntmps13
  go_wp2_with fail
  refine (rright_any _ _ _ _ _ _).mono ?_
  rintro e w1 ⟨rfl, hb⟩
  rw [show rightB (x % 256) (x / 256 % 16) (x / 4096 % 16) (x / 65536 % 16) (x / 1048576 - 4096) = false from by rw [← HG.out]; exact HR.out]
  have hz := Blkf.below ((Blkf.new_at (n := W.heap.size) W 24 (0, 0) #[.int .i64 0, .int .i64 0, .int .i64 0, .int .i64 0, .int .i64 0] rfl).alloc _) hb (by simp; omega)
  have hp := Blkf.below (Blkf.new_at (n := W.heap.size + 1) _ 24 (0, 0) #[.int .i64 (x % 256), .int .i64 (x / 256 % 16), .int .i64 (x / 4096 % 16), .int .i64 (x / 65536 % 16), .int .i64 (x / 1048576 - 4096)] (by simp)) hb (by simp)
  have z0 : w1.cell? ⟨W.heap.size, 0, none⟩ = some (.int .i64 0) := hz.cell 0
  have z1 : w1.cell? ⟨W.heap.size, 1, none⟩ = some (.int .i64 0) := hz.cell 1
  have z2 : w1.cell? ⟨W.heap.size, 2, none⟩ = some (.int .i64 0) := hz.cell 2
  have z3 : w1.cell? ⟨W.heap.size, 3, none⟩ = some (.int .i64 0) := hz.cell 3
  have z4 : w1.cell? ⟨W.heap.size, 4, none⟩ = some (.int .i64 0) := hz.cell 4
  have zf := fun j => Blk.frozen hz j
  have b1 := (((Below.refl _ W).alloc (Nat.le_refl _) (.cells #[.int .i64 0, .int .i64 0, .int .i64 0, .int .i64 0, .int .i64 0] 24)).alloc (by simp) (.cells #[.int .i64 (x % 256), .int .i64 (x / 256 % 16), .int .i64 (x / 4096 % 16), .int .i64 (x / 65536 % 16), .int .i64 (x / 1048576 - 4096)] 24)).trans (hb.mono (by simp; omega))
  have HB := Lib.hid b1
  clear hb b1 hp hz
  go_wp2
  refine bodyPost_ret (v := .tuple #[.agg #[.int .i64 0, .int .i64 0, .int .i64 0, .int .i64 0, .int .i64 0], .bool false]) (by simp [results, Try.results13, go_sem, z0, z1, z2, z3, z4]) rfl ⟨rfl, ?_⟩
  have hB := HB.out
  repeat (first | (with_reducible exact hB) | (with_reducible refine Below.drew ?_) | (with_reducible refine Below.setCell ?_ (by simp) _))
theorem rget_yes (x : Int) (W : World) (h0 : 0 ≤ x) (h1 : x < 4294967296) (hr : getR x = true) :
    Calls Try.prog 13 #[.int .u32 x] W fun e w' => e = .returned (.tuple #[getA x, .bool true]) ∧ Below W.heap.size W w' := by
  by_cases hc : x / 1048576 ≤ 2047
  · exact rget_lo_yes x W h0 h1 hc hr
  · exact rget_hi_yes x W h0 h1 hc hr
theorem rget_no (x : Int) (W : World) (h0 : 0 ≤ x) (h1 : x < 4294967296) (hr : getR x = false) :
    Calls Try.prog 13 #[.int .u32 x] W fun e w' => e = .returned (.tuple #[getZ, .bool false]) ∧ Below W.heap.size W w' := by
  by_cases hc : x / 1048576 ≤ 2047
  · exact rget_lo_no x W h0 h1 hc hr
  · exact rget_hi_no x W h0 h1 hc hr
end Go.Proofs.Ytcmaneeoblmmmaa
