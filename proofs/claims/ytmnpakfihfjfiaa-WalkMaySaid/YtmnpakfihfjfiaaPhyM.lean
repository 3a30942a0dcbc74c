/- The reference's memory: Check, Load, Store. -/
import Derived.Test.YtmnpakfihfjfiaaPhyL
import Derived.Test.YtmnpakfihfjfiaaWordF
namespace Go.Proofs.Ytmnpakfihfjfiaa
open Go.RowKit

theorem PutR.trans {W w w' : World} {xb n : Nat} {G : Nat → Prop} {L L' : List (Nat × Nat)} (h : ∃ G', RefAt w xb G' n L ∧ (∀ g, G' g → G g ∨ W.heap.size ≤ g) ∧ Keeps (fun g => g = xb) W w)
    (k : ∀ G', RefAt w xb G' n L → PutR w xb n G' L' w') : PutR W xb n G L' w' := by
  obtain ⟨G', h1, h2, h3⟩ := h
  obtain ⟨G2, k1, k2, k3⟩ := k G' h1
  refine ⟨G2, k1, fun g hg => ?_, h3.same k3⟩
  rcases k2 g hg with h | h
  · exact h2 g h
  · exact .inr (Nat.le_trans h3.size h)
theorem PutR.step {W w w' : World} {xb n : Nat} {G G' : Nat → Prop} {L' : List (Nat × Nat)} (h2 : ∀ g, G' g → G g ∨ W.heap.size ≤ g) (h3 : Keeps (fun g => g = xb) W w) (k : PutR w xb n G' L' w') : PutR W xb n G L' w' := by
  obtain ⟨G2, k1, k2, k3⟩ := k
  refine ⟨G2, k1, fun g hg => ?_, h3.same k3⟩
  rcases k2 g hg with h | h
  · exact h2 g h
  · exact .inr (Nat.le_trans h3.size h)
theorem PutR.refl {W : World} {xb n : Nat} {G : Nat → Prop} {L : List (Nat × Nat)} (h : RefAt W xb G n L) : PutR W xb n G L W := ⟨G, h, fun g hg => .inl hg, Keeps.refl _ _⟩
theorem PutR.below {W w w' : World} {xb n : Nat} {G : Nat → Prop} {L : List (Nat × Nat)} (h : PutR W xb n G L w) (hb : Below w.heap.size w w') : PutR W xb n G L w' :=
  PutR.trans h fun G' h1 => ⟨G', h1.below hb, fun g hg => .inl hg, Keeps.of_below hb⟩
set_option maxHeartbeats 1000000 in
theorem rcheck_any (xb n at_ : Nat) (s : Int) (G : Nat → Prop) (L : List (Nat × Nat)) (W : World) (hn : n ≤ 1048576) (ha : at_ < 18446744073709551616) (h : RefAt W xb G n L) :
    Calls Try.prog 30 #[.pointer (some ⟨xb, 0, none⟩), .int .u64 (at_ : Int), .int .i64 s] W fun e w' => e = .returned (.int .i64 (chkE n at_ s)) ∧ Below W.heap.size W w' := by
  obtain ⟨A, c, hb, _⟩ := h
  have HX := Lib.hid hb
  have H : Hid (chkE n at_ s = if sizeB s = false then 2 else if alignedB at_ s = false then 60 else if n ≤ at_ / 4096 then 61 else 0) := Lib.hid rfl
  have hw : IntKind.u64.wrap (n : Int) = (n : Int) := by rw [IntKind.wrap_u64]; omega
  have hn' : (n : Int) ≤ 1048576 := by omega
  have HA := Lib.hid ha
  clear hb
  go_enter Try.func30, Try.ntmps30
  go_wp2_with fail
  refine (rsize_any s _).mono ?_
  rintro e w ⟨rfl, hb⟩
  have HB := Lib.hid hb
  have c0 : w.cell? ⟨xb, 0, none⟩ = some (.int .i64 (n : Int)) := (HX.out.below hb HX.out.lt).cell 0
  clear hb
  cases h1 : sizeB s
  · rw [h1] at H
    clear h1
    go_wp2_with fail
    go_ret
    exact ⟨by rw [H.out]; rfl, HB.out⟩
  · rcases size_cases h1 with rfl | rfl | rfl | rfl
    · have H2 : Hid (alignedB at_ 1 = true) := Lib.hid (by show (true && at_ % 1 == 0) = true; simp [Nat.mod_one])
      by_cases h3 : n ≤ at_ / 4096
      · have i3 : 4096 * (n : Int) ≤ (at_ : Int) := by omega
        rw [h1, H2.out, if_pos h3] at H
        clear h1 h3
        go_wp2_with fail
        go_ret
        exact ⟨by rw [H.out]; rfl, HB.out⟩
      · have i3 : ¬ 4096 * (n : Int) ≤ (at_ : Int) := by omega
        rw [h1, H2.out, if_neg h3] at H
        clear h1 h3
        go_wp2_with fail
        go_ret
        exact ⟨by rw [H.out]; rfl, HB.out⟩
    · by_cases h2 : at_ % 2 = 0
      · have H2 : Hid (alignedB at_ 2 = true) := Lib.hid (by show (true && at_ % 2 == 0) = true; rw [h2]; rfl)
        have i2 : (at_ : Int) % 2 = 0 := by omega
        by_cases h3 : n ≤ at_ / 4096
        · have i3 : 4096 * (n : Int) ≤ (at_ : Int) := by omega
          rw [h1, H2.out, if_pos h3] at H
          clear h1 h2 h3
          go_wp2_with fail
          go_ret
          exact ⟨by rw [H.out]; rfl, HB.out⟩
        · have i3 : ¬ 4096 * (n : Int) ≤ (at_ : Int) := by omega
          rw [h1, H2.out, if_neg h3] at H
          clear h1 h2 h3
          go_wp2_with fail
          go_ret
          exact ⟨by rw [H.out]; rfl, HB.out⟩
      · have H2 : Hid (alignedB at_ 2 = false) := Lib.hid (by show (true && at_ % 2 == 0) = false; simp; omega)
        have i2 : ¬ (at_ : Int) % 2 = 0 := by omega
        rw [h1, H2.out] at H
        clear h1 h2
        go_wp2_with fail
        go_ret
        exact ⟨by rw [H.out]; rfl, HB.out⟩
    · by_cases h2 : at_ % 4 = 0
      · have H2 : Hid (alignedB at_ 4 = true) := Lib.hid (by show (true && at_ % 4 == 0) = true; rw [h2]; rfl)
        have i2 : (at_ : Int) % 4 = 0 := by omega
        by_cases h3 : n ≤ at_ / 4096
        · have i3 : 4096 * (n : Int) ≤ (at_ : Int) := by omega
          rw [h1, H2.out, if_pos h3] at H
          clear h1 h2 h3
          go_wp2_with fail
          go_ret
          exact ⟨by rw [H.out]; rfl, HB.out⟩
        · have i3 : ¬ 4096 * (n : Int) ≤ (at_ : Int) := by omega
          rw [h1, H2.out, if_neg h3] at H
          clear h1 h2 h3
          go_wp2_with fail
          go_ret
          exact ⟨by rw [H.out]; rfl, HB.out⟩
      · have H2 : Hid (alignedB at_ 4 = false) := Lib.hid (by show (true && at_ % 4 == 0) = false; simp; omega)
        have i2 : ¬ (at_ : Int) % 4 = 0 := by omega
        rw [h1, H2.out] at H
        clear h1 h2
        go_wp2_with fail
        go_ret
        exact ⟨by rw [H.out]; rfl, HB.out⟩
    · by_cases h2 : at_ % 8 = 0
      · have H2 : Hid (alignedB at_ 8 = true) := Lib.hid (by show (true && at_ % 8 == 0) = true; rw [h2]; rfl)
        have i2 : (at_ : Int) % 8 = 0 := by omega
        by_cases h3 : n ≤ at_ / 4096
        · have i3 : 4096 * (n : Int) ≤ (at_ : Int) := by omega
          rw [h1, H2.out, if_pos h3] at H
          clear h1 h2 h3
          go_wp2_with fail
          go_ret
          exact ⟨by rw [H.out]; rfl, HB.out⟩
        · have i3 : ¬ 4096 * (n : Int) ≤ (at_ : Int) := by omega
          rw [h1, H2.out, if_neg h3] at H
          clear h1 h2 h3
          go_wp2_with fail
          go_ret
          exact ⟨by rw [H.out]; rfl, HB.out⟩
      · have H2 : Hid (alignedB at_ 8 = false) := Lib.hid (by show (true && at_ % 8 == 0) = false; simp; omega)
        have i2 : ¬ (at_ : Int) % 8 = 0 := by omega
        rw [h1, H2.out] at H
        clear h1 h2
        go_wp2_with fail
        go_ret
        exact ⟨by rw [H.out]; rfl, HB.out⟩
/-- The word's bytes from the j-th on, as L says. -/
def rdV (L : List (Nat × Nat)) (at_ q j : Nat) : Nat := leNat ((List.range (q - j)).map (fun i => getB L (at_ + j + i)))
theorem rdV_end (L : List (Nat × Nat)) (at_ q : Nat) : rdV L at_ q q = 0 := by unfold rdV; rw [Nat.sub_self]; rfl
theorem rdV_step (L : List (Nat × Nat)) (at_ q j : Nat) (h : j < q) : rdV L at_ q j = getB L (at_ + j) + 256 * rdV L at_ q (j + 1) := by
  unfold rdV
  rw [show q - j = (q - (j + 1)) + 1 by omega, List.range_succ_eq_map, List.map_cons, List.map_map, leNat, Nat.add_zero]
  congr 3
  apply List.map_congr_left
  intro i _
  show getB L (at_ + j + (i + 1)) = _
  congr 1
  omega
theorem getB_lt {L : List (Nat × Nat)} (h : ∀ x ∈ L, x.2 < 256) (at_ : Nat) : getB L at_ < 256 := by
  unfold getB
  cases e : L.find? (fun x => x.1 == at_) with
  | none => decide
  | some x => exact h x (List.mem_of_find?_eq_some e)
theorem rdV_lt {L : List (Nat × Nat)} (h : ∀ x ∈ L, x.2 < 256) (at_ q j : Nat) (hj : j ≤ q) (hq : q ≤ 8) : rdV L at_ q j < 18446744073709551616 := by
  have h1 := leNat_lt ((List.range (q - j)).map (fun i => getB L (at_ + j + i))) (fun i => by
    rw [List.getD_eq_getElem?_getD, List.getElem?_map]
    cases (List.range (q - j))[i]? with
    | none => exact (by decide : 0 < 256)
    | some k => exact getB_lt h _)
  rw [List.length_map, List.length_range] at h1
  have h2 : 256 ^ (q - j) ≤ 256 ^ 8 := Nat.pow_le_pow_right (by decide) (by omega)
  exact Nat.lt_of_lt_of_le h1 h2
def ldE (n : Nat) (L : List (Nat × Nat)) (at_ : Nat) (s : Int) : Nat := if chkE n at_ s = 0 then rdV L at_ s.toNat 0 else 0
set_option maxHeartbeats 1000000 in
theorem rload_any (xb n at_ : Nat) (s : Int) (G : Nat → Prop) (L : List (Nat × Nat)) (W : World) (hn : n ≤ 1048576) (ha : at_ < 18446744073709551616) (hL : L.length ≤ 1000000) (hv : ∀ x ∈ L, x.2 < 256) (h : RefAt W xb G n L) :
    Calls Try.prog 38 #[.pointer (some ⟨xb, 0, none⟩), .int .u64 (at_ : Int), .int .i64 s] W fun e w' => e = .returned (.tuple #[.int .u64 (ldE n L at_ s : Nat), .int .i64 (chkE n at_ s)]) ∧ Below W.heap.size W w' := by
  have HR := Lib.hid h
  have HN := Lib.hid hn
  have HA := Lib.hid ha
  have HL := Lib.hid hL
  have HV := Lib.hid hv
  clear h hn ha hv
  by_cases h0 : chkE n at_ s = 0
  · have HE := Lib.hid h0
    obtain ⟨o1, o2⟩ := chk_ok h0
    obtain ⟨q, rfl⟩ := Int.eq_ofNat_of_zero_le (a := s) (by unfold alignedB at o1; simp only [Bool.and_eq_true] at o1; have := size_cases o1.1; omega)
    have hq8 : (q : Int) ≤ 8 := by unfold alignedB at o1; simp only [Bool.and_eq_true] at o1; have := size_cases o1.1; omega
    have ha2 : (at_ : Int) < 4294967296 := by have := HN.out; omega
    have HD : Hid (ldE n L at_ q = rdV L at_ q 0) := Lib.hid (if_pos h0)
    rw [h0]
    clear h0 o1 o2
    go_enter Try.func38, Try.ntmps38
    go_wp2_with fail
    refine (rcheck_any xb n at_ q G L _ HN.out HA.out HR.out).mono ?_
    rintro e w ⟨rfl, hb⟩
    rw [HE.out]
    have HB0 := Lib.hid hb
    clear hb
    go_wp2_with fail
    go_loopw [9, 10] (fun v i wr => ∃ j : Nat, j ≤ q ∧ i = .int .i64 ((j : Int) - 1) ∧ v = .int .u64 (rdV L at_ q j : Nat) ∧ Below W.heap.size W wr) (fun _ i _ => (intOf i + 1).toNat)
    case atStart => exact ⟨q, Nat.le_refl _, by simp, by rw [rdV_end]; rfl, HB0.out⟩
    case round =>
      obtain ⟨j, hj, rfl, rfl, hbel⟩ := hrel
      have HB := Lib.hid hbel
      clear hbel
      rcases Nat.eq_zero_or_pos j with h0 | h0
      · subst h0
        go_wp2_with fail
        go_ret2
        exact ⟨by rw [HD.out]; rfl, HB.out⟩
      · obtain ⟨j, rfl⟩ : ∃ i, j = i + 1 := ⟨j - 1, by omega⟩
        have hs := rdV_step L at_ q j (by omega)
        have hlt := rdV_lt HV.out at_ q j (by omega) (by omega)
        have hlt2 := getB_lt HV.out (at_ + j)
        have HS := Lib.hid hs
        rw [hs] at hlt
        generalize rdV L at_ q (j + 1) = x at *
        have i1 : 256 * (x : Int) + (getB L (at_ + j) : Int) < 18446744073709551616 := by omega
        have i2 : (getB L (at_ + j) : Int) < 256 := by omega
        clear hs hlt hlt2
        go_wp2_with fail
        refine (rget_any xb n (at_ + j) G L _ HL.out (HR.out.below HB.out)).mono ?_
        rintro e w1 ⟨rfl, hb⟩
        have HB1 := Lib.hid (HB.out.trans (hb.mono HB.out.size))
        generalize getB L (at_ + j) = y at *
        clear hb
        go_wp2_with fail
        go_roundw
        case rel => exact ⟨j, by omega, by first | rfl | simp, by rw [HS.out]; first | rfl | (congr 1; omega), HB1.out⟩
        case measure => simp [intOf]
  · have HE := Lib.hid h0
    have hne : (chkE n at_ s != 0) = true := by simp; exact h0
    have HD : Hid (ldE n L at_ s = 0) := Lib.hid (if_neg h0)
    generalize hz : chkE n at_ s = z at *
    have HZ := Lib.hid hz
    clear h0 hz
    go_enter Try.func38, Try.ntmps38
    go_wp2_with fail
    refine (rcheck_any xb n at_ s G L _ HN.out HA.out HR.out).mono ?_
    rintro e w ⟨rfl, hb⟩
    rw [HZ.out]
    have HB0 := Lib.hid hb
    clear hb
    go_wp2_with fail
    go_ret2
    exact ⟨by rw [HD.out]; rfl, HB0.out⟩
/-- What lies there once k bytes of v are laid. -/
def stB (L : List (Nat × Nat)) (at_ v : Nat) : Nat → List (Nat × Nat)
  | 0 => L
  | k + 1 => putB (stB L at_ v k) (at_ + k) (byteOf v k)
theorem stB_length (L : List (Nat × Nat)) (at_ v : Nat) : ∀ k, (stB L at_ v k).length ≤ L.length + k
  | 0 => Nat.le_refl _
  | k + 1 => by
    have h1 := stB_length L at_ v k
    have h2 := putB_length (stB L at_ v k) (at_ + k) (byteOf v k)
    show (putB _ _ _).length ≤ _
    omega
def stE (n : Nat) (L : List (Nat × Nat)) (at_ : Nat) (s : Int) (v : Nat) : List (Nat × Nat) := if chkE n at_ s = 0 then stB L at_ v s.toNat else L
set_option maxHeartbeats 1000000 in
theorem rstore_any (xb n at_ : Nat) (s : Int) (v : Nat) (G : Nat → Prop) (L : List (Nat × Nat)) (W : World) (hn : n ≤ 1048576) (ha : at_ < 18446744073709551616) (hv : v < 18446744073709551616) (hL : L.length ≤ 900000) (h : RefAt W xb G n L) :
    Calls Try.prog 13 #[.pointer (some ⟨xb, 0, none⟩), .int .u64 (at_ : Int), .int .i64 s, .int .u64 (v : Int)] W fun e w' => e = .returned (.int .i64 (chkE n at_ s)) ∧ PutR W xb n G (stE n L at_ s v) w' := by
  have HR := Lib.hid h
  have HN := Lib.hid hn
  have HA := Lib.hid ha
  have HL := Lib.hid hL
  have HV := Lib.hid hv
  clear h hn ha hv
  by_cases h0 : chkE n at_ s = 0
  · have HE := Lib.hid h0
    obtain ⟨o1, o2⟩ := chk_ok h0
    obtain ⟨q, rfl⟩ := Int.eq_ofNat_of_zero_le (a := s) (by unfold alignedB at o1; simp only [Bool.and_eq_true] at o1; have := size_cases o1.1; omega)
    have HS : Hid (sizeB q = true) := Lib.hid (by unfold alignedB at o1; simp only [Bool.and_eq_true] at o1; exact o1.1)
    have hq8 : (q : Int) ≤ 8 := by have := size_cases HS.out; omega
    have ha2 : (at_ : Int) < 4294967296 := by have := HN.out; omega
    have HD : Hid (stE n L at_ q v = stB L at_ v q) := Lib.hid (if_pos h0)
    have HQ := Lib.hid (bytesOf_length v q HS.out)
    have HY : Hid (∀ k, k < q → ((bytesOf v q).map bv)[k]? = some (bv (byteOf v k))) := Lib.hid (fun k hk => by
      unfold bytesOf
      rw [if_pos HS.out, List.map_map, List.getElem?_map, List.getElem?_range (by rw [Int.toNat_natCast]; exact hk)]
      rfl)
    rw [h0]
    clear h0 o1 o2
    go_enter Try.func13, Try.ntmps13
    go_wp2_with fail
    refine (rcheck_any xb n at_ q G L _ HN.out HA.out HR.out).mono ?_
    rintro e w ⟨rfl, hb⟩
    rw [HE.out]
    have HB0 := Lib.hid hb
    have HP0 := Lib.hid ((PutR.refl HR.out).below hb)
    clear hb
    go_wp2_with fail
    refine (rbytes_yes v q _ HV.out HS.out).mono ?_
    rintro e w1 ⟨bb, rfl, ho, hb⟩
    rw [HQ.out] at ho
    obtain ⟨rb, cap, rfl, hr1, hr2⟩ := ho.form (by have := size_cases HS.out; omega)
    have HO := Lib.hid ho
    have HP1 := Lib.hid (HP0.out.below hb)
    have HRB : Hid (xb < rb) := Lib.hid (by
      obtain ⟨A, c, h1, _⟩ := HR.out
      have := h1.lt
      have := HB0.out.size
      omega)
    clear ho hb hr1 hr2
    go_wp2_with fail
    go_loopw [22] (fun i wr => ∃ k : Nat, k ≤ q ∧ i = .int .i64 k ∧ PutR W xb n G (stB L at_ v k) wr ∧ wr.ownsRow w.heap.size 5 1 (.slice (some ⟨rb, 0, none⟩) q cap) q ((bytesOf v q).map bv)) (fun i _ => q - (intOf i).toNat)
    case atStart => exact ⟨0, by omega, rfl, HP1.out, HO.out⟩
    case round =>
      obtain ⟨k, hk, rfl, hp, ho⟩ := hrel
      have HP := Lib.hid hp
      by_cases hkq : k < q
      · have s0 := (ho.cellAt k (by omega)).trans (HY.out k hkq)
        unfold bv at s0
        have HO2 := Lib.hid ho
        have HKQ := Lib.hid hkq
        clear hp ho
        generalize hby : byteOf v k = y at *
        have HBY := Lib.hid hby
        clear hby
        go_wp2_with fail
        obtain ⟨G', r1, r2, r3⟩ := HP.out
        refine (rput_any xb n (at_ + k) y G' (stB L at_ v k) _ (by have := stB_length L at_ v k; omega) r1).mono ?_
        rintro e w2 ⟨rfl, hp2⟩
        have HP2 := Lib.hid (hp2.step r2 r3)
        have HO3 : Hid (w2.ownsRow w.heap.size 5 1 (.slice (some ⟨rb, 0, none⟩) q cap) q ((bytesOf v q).map bv)) := by
          obtain ⟨G2, _, _, k3⟩ := hp2
          refine Lib.hid (k3.row HO2.out (fun g hg e => ?_))
          have : rb = g := by simpa [Value.ownBlock] using hg
          have := HRB.out
          omega
        clear r1 r2 r3 hp2
        go_wp2_with fail
        go_roundw
        case rel =>
          refine ⟨k + 1, HKQ.out, by go_num, ?_, HO3.out⟩
          show PutR W xb n G (putB (stB L at_ v k) (at_ + k) (byteOf v k)) w2
          rw [HBY.out]
          exact HP2.out
        case measure => simp [intOf]; omega
      · obtain rfl : k = q := by omega
        clear hp ho
        go_wp2_with fail
        go_ret
        rw [HD.out]
        exact ⟨rfl, HP.out⟩
  · have HE := Lib.hid h0
    have hne : (chkE n at_ s == 0) = false := by simp; exact h0
    have HD : Hid (stE n L at_ s v = L) := Lib.hid (if_neg h0)
    generalize hz : chkE n at_ s = z at *
    have HZ := Lib.hid hz
    clear h0 hz
    go_enter Try.func13, Try.ntmps13
    go_wp2_with fail
    refine (rcheck_any xb n at_ s G L _ HN.out HA.out HR.out).mono ?_
    rintro e w ⟨rfl, hb⟩
    rw [HZ.out]
    have HP0 := Lib.hid ((PutR.refl HR.out).below hb)
    clear hb
    go_wp2_with fail
    go_ret
    rw [HD.out]
    exact ⟨rfl, HP0.out⟩
end Go.Proofs.Ytmnpakfihfjfiaa
