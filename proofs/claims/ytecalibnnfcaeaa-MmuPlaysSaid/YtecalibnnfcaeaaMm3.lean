/- Merged texts: PhyM, PhyP, PhyQ, PhyR, PteA, PteB. -/
import Derived.Test.YtecalibnnfcaeaaMm2
import Derived.Test.YtecalibnnfcaeaaPlan
import Derived.IntWalk
import Derived.Laws.BitsAllLaws
import Derived.Laws.Bits64b
/- The reference's memory: Check, Load, Store. -/
namespace Go.Proofs.Ytecalibnnfcaeaa
open Go.RowKit

theorem PutR.trans {W w w' : World} {xb n : Nat} {G : Nat → Prop} {L L' : List (Nat × Nat)} (h : ∃ G', RefAt w xb G' n L ∧ (∀ g, G' g → G g ∨ W.heap.size ≤ g) ∧ Keeps (fun g => g = xb) W w)
    (k : ∀ G', RefAt w xb G' n L → PutR w xb n G' L' w') : PutR W xb n G L' w' := by
  obtain ⟨G', h1, h2, h3⟩ := h
  obtain ⟨G2, k1, k2, k3⟩ := k G' h1
  refine ⟨G2, k1, fun g hg => ?_, h3.same k3⟩
  rcases k2 g hg with h | h
  · exact h2 g h
  · exact .inr (Nat.le_trans h3.size h)
theorem PutR.step {W w w' : World} {xb n : Nat} {G G' : Nat → Prop} {L' : List (Nat × Nat)} (h2 : ∀ g, G' g → G g ∨ W.heap.size ≤ g) (h3 : Keeps (fun g => g = xb) W w) (k : PutR w xb n G' L' w') : PutR W xb n G L' w' := by
  obtain ⟨G2, k1, k2, k3⟩ := k
  refine ⟨G2, k1, fun g hg => ?_, h3.same k3⟩
  rcases k2 g hg with h | h
  · exact h2 g h
  · exact .inr (Nat.le_trans h3.size h)
theorem PutR.refl {W : World} {xb n : Nat} {G : Nat → Prop} {L : List (Nat × Nat)} (h : RefAt W xb G n L) : PutR W xb n G L W := ⟨G, h, fun g hg => .inl hg, Keeps.refl _ _⟩
theorem PutR.below {W w w' : World} {xb n : Nat} {G : Nat → Prop} {L : List (Nat × Nat)} (h : PutR W xb n G L w) (hb : Below w.heap.size w w') : PutR W xb n G L w' :=
  PutR.trans h fun G' h1 => ⟨G', h1.below hb, fun g hg => .inl hg, Keeps.of_below hb⟩
set_option maxHeartbeats 1000000 in
theorem rcheck_any (xb n at_ : Nat) (s : Int) (G : Nat → Prop) (L : List (Nat × Nat)) (W : World) (hn : n ≤ 1048576) (ha : at_ < 18446744073709551616) (h : RefAt W xb G n L) :
    Calls Try.prog 40 #[.pointer (some ⟨xb, 0, none⟩), .int .u64 (at_ : Int), .int .i64 s] W fun e w' => e = .returned (.int .i64 (chkE n at_ s)) ∧ Below W.heap.size W w' := by
  obtain ⟨A, c, hb, _⟩ := h
  have HX := Lib.hid hb
  have H : Hid (chkE n at_ s = if sizeB s = false then 2 else if alignedB at_ s = false then 60 else if n ≤ at_ / 4096 then 61 else 0) := Lib.hid rfl
  have hw : IntKind.u64.wrap (n : Int) = (n : Int) := by rw [IntKind.wrap_u64]; omega
  have hn' : (n : Int) ≤ 1048576 := by omega
  have HA := Lib.hid ha
  clear hb
  go_enter Try.func40, Try.ntmps40
  go_wp2_with fail
  refine (rsize_any s _).mono ?_
  rintro e w ⟨rfl, hb⟩
  have HB := Lib.hid hb
  have c0 : w.cell? ⟨xb, 0, none⟩ = some (.int .i64 (n : Int)) := (HX.out.below hb HX.out.lt).cell 0
  clear hb
  cases h1 : sizeB s
  · rw [h1] at H
    clear h1
    go_wp2_with fail
    go_ret
    exact ⟨by rw [H.out]; rfl, HB.out⟩
  · rcases size_cases h1 with rfl | rfl | rfl | rfl
    · have H2 : Hid (alignedB at_ 1 = true) := Lib.hid (by show (true && at_ % 1 == 0) = true; simp [Nat.mod_one])
      by_cases h3 : n ≤ at_ / 4096
      · have i3 : 4096 * (n : Int) ≤ (at_ : Int) := by omega
        rw [h1, H2.out, if_pos h3] at H
        clear h1 h3
        go_wp2_with fail
        go_ret
        exact ⟨by rw [H.out]; rfl, HB.out⟩
      · have i3 : ¬ 4096 * (n : Int) ≤ (at_ : Int) := by omega
        rw [h1, H2.out, if_neg h3] at H
        clear h1 h3
        go_wp2_with fail
        go_ret
        exact ⟨by rw [H.out]; rfl, HB.out⟩
    · by_cases h2 : at_ % 2 = 0
      · have H2 : Hid (alignedB at_ 2 = true) := Lib.hid (by show (true && at_ % 2 == 0) = true; rw [h2]; rfl)
        have i2 : (at_ : Int) % 2 = 0 := by omega
        by_cases h3 : n ≤ at_ / 4096
        · have i3 : 4096 * (n : Int) ≤ (at_ : Int) := by omega
          rw [h1, H2.out, if_pos h3] at H
          clear h1 h2 h3
          go_wp2_with fail
          go_ret
          exact ⟨by rw [H.out]; rfl, HB.out⟩
        · have i3 : ¬ 4096 * (n : Int) ≤ (at_ : Int) := by omega
          rw [h1, H2.out, if_neg h3] at H
          clear h1 h2 h3
          go_wp2_with fail
          go_ret
          exact ⟨by rw [H.out]; rfl, HB.out⟩
      · have H2 : Hid (alignedB at_ 2 = false) := Lib.hid (by show (true && at_ % 2 == 0) = false; simp; omega)
        have i2 : ¬ (at_ : Int) % 2 = 0 := by omega
        rw [h1, H2.out] at H
        clear h1 h2
        go_wp2_with fail
        go_ret
        exact ⟨by rw [H.out]; rfl, HB.out⟩
    · by_cases h2 : at_ % 4 = 0
      · have H2 : Hid (alignedB at_ 4 = true) := Lib.hid (by show (true && at_ % 4 == 0) = true; rw [h2]; rfl)
        have i2 : (at_ : Int) % 4 = 0 := by omega
        by_cases h3 : n ≤ at_ / 4096
        · have i3 : 4096 * (n : Int) ≤ (at_ : Int) := by omega
          rw [h1, H2.out, if_pos h3] at H
          clear h1 h2 h3
          go_wp2_with fail
          go_ret
          exact ⟨by rw [H.out]; rfl, HB.out⟩
        · have i3 : ¬ 4096 * (n : Int) ≤ (at_ : Int) := by omega
          rw [h1, H2.out, if_neg h3] at H
          clear h1 h2 h3
          go_wp2_with fail
          go_ret
          exact ⟨by rw [H.out]; rfl, HB.out⟩
      · have H2 : Hid (alignedB at_ 4 = false) := Lib.hid (by show (true && at_ % 4 == 0) = false; simp; omega)
        have i2 : ¬ (at_ : Int) % 4 = 0 := by omega
        rw [h1, H2.out] at H
        clear h1 h2
        go_wp2_with fail
        go_ret
        exact ⟨by rw [H.out]; rfl, HB.out⟩
    · by_cases h2 : at_ % 8 = 0
      · have H2 : Hid (alignedB at_ 8 = true) := Lib.hid (by show (true && at_ % 8 == 0) = true; rw [h2]; rfl)
        have i2 : (at_ : Int) % 8 = 0 := by omega
        by_cases h3 : n ≤ at_ / 4096
        · have i3 : 4096 * (n : Int) ≤ (at_ : Int) := by omega
          rw [h1, H2.out, if_pos h3] at H
          clear h1 h2 h3
          go_wp2_with fail
          go_ret
          exact ⟨by rw [H.out]; rfl, HB.out⟩
        · have i3 : ¬ 4096 * (n : Int) ≤ (at_ : Int) := by omega
          rw [h1, H2.out, if_neg h3] at H
          clear h1 h2 h3
          go_wp2_with fail
          go_ret
          exact ⟨by rw [H.out]; rfl, HB.out⟩
      · have H2 : Hid (alignedB at_ 8 = false) := Lib.hid (by show (true && at_ % 8 == 0) = false; simp; omega)
        have i2 : ¬ (at_ : Int) % 8 = 0 := by omega
        rw [h1, H2.out] at H
        clear h1 h2
        go_wp2_with fail
        go_ret
        exact ⟨by rw [H.out]; rfl, HB.out⟩
/-- The word's bytes from the j-th on, as L says. -/
def rdV (L : List (Nat × Nat)) (at_ q j : Nat) : Nat := leNat ((List.range (q - j)).map (fun i => getB L (at_ + j + i)))
theorem rdV_end (L : List (Nat × Nat)) (at_ q : Nat) : rdV L at_ q q = 0 := by unfold rdV; rw [Nat.sub_self]; rfl
theorem rdV_step (L : List (Nat × Nat)) (at_ q j : Nat) (h : j < q) : rdV L at_ q j = getB L (at_ + j) + 256 * rdV L at_ q (j + 1) := by
  unfold rdV
  rw [show q - j = (q - (j + 1)) + 1 by omega, List.range_succ_eq_map, List.map_cons, List.map_map, leNat, Nat.add_zero]
  congr 3
  apply List.map_congr_left
  intro i _
  show getB L (at_ + j + (i + 1)) = _
  congr 1
  omega
theorem getB_lt {L : List (Nat × Nat)} (h : ∀ x ∈ L, x.2 < 256) (at_ : Nat) : getB L at_ < 256 := by
  unfold getB
  cases e : L.find? (fun x => x.1 == at_) with
  | none => decide
  | some x => exact h x (List.mem_of_find?_eq_some e)
theorem rdV_lt {L : List (Nat × Nat)} (h : ∀ x ∈ L, x.2 < 256) (at_ q j : Nat) (hj : j ≤ q) (hq : q ≤ 8) : rdV L at_ q j < 18446744073709551616 := by
  have h1 := leNat_lt ((List.range (q - j)).map (fun i => getB L (at_ + j + i))) (fun i => by
    rw [List.getD_eq_getElem?_getD, List.getElem?_map]
    cases (List.range (q - j))[i]? with
    | none => exact (by decide : 0 < 256)
    | some k => exact getB_lt h _)
  rw [List.length_map, List.length_range] at h1
  have h2 : 256 ^ (q - j) ≤ 256 ^ 8 := Nat.pow_le_pow_right (by decide) (by omega)
  exact Nat.lt_of_lt_of_le h1 h2
def ldE (n : Nat) (L : List (Nat × Nat)) (at_ : Nat) (s : Int) : Nat := if chkE n at_ s = 0 then rdV L at_ s.toNat 0 else 0
set_option maxHeartbeats 1000000 in
theorem rload_any (xb n at_ : Nat) (s : Int) (G : Nat → Prop) (L : List (Nat × Nat)) (W : World) (hn : n ≤ 1048576) (ha : at_ < 18446744073709551616) (hL : L.length ≤ 1000000) (hv : ∀ x ∈ L, x.2 < 256) (h : RefAt W xb G n L) :
    Calls Try.prog 30 #[.pointer (some ⟨xb, 0, none⟩), .int .u64 (at_ : Int), .int .i64 s] W fun e w' => e = .returned (.tuple #[.int .u64 (ldE n L at_ s : Nat), .int .i64 (chkE n at_ s)]) ∧ Below W.heap.size W w' := by
  have HR := Lib.hid h
  have HN := Lib.hid hn
  have HA := Lib.hid ha
  have HL := Lib.hid hL
  have HV := Lib.hid hv
  clear h hn ha hv
  by_cases h0 : chkE n at_ s = 0
  · have HE := Lib.hid h0
    obtain ⟨o1, o2⟩ := chk_ok h0
    obtain ⟨q, rfl⟩ := Int.eq_ofNat_of_zero_le (a := s) (by unfold alignedB at o1; simp only [Bool.and_eq_true] at o1; have := size_cases o1.1; omega)
    have hq8 : (q : Int) ≤ 8 := by unfold alignedB at o1; simp only [Bool.and_eq_true] at o1; have := size_cases o1.1; omega
    have ha2 : (at_ : Int) < 4294967296 := by have := HN.out; omega
    have HD : Hid (ldE n L at_ q = rdV L at_ q 0) := Lib.hid (if_pos h0)
    rw [h0]
    clear h0 o1 o2
    go_enter Try.func30, Try.ntmps30
    go_wp2_with fail
    refine (rcheck_any xb n at_ q G L _ HN.out HA.out HR.out).mono ?_
    rintro e w ⟨rfl, hb⟩
    rw [HE.out]
    have HB0 := Lib.hid hb
    clear hb
    go_wp2_with fail
    go_loopw [9, 10] (fun v i wr => ∃ j : Nat, j ≤ q ∧ i = .int .i64 ((j : Int) - 1) ∧ v = .int .u64 (rdV L at_ q j : Nat) ∧ Below W.heap.size W wr) (fun _ i _ => (intOf i + 1).toNat)
    case atStart => exact ⟨q, Nat.le_refl _, by simp, by rw [rdV_end]; rfl, HB0.out⟩
    case round =>
      obtain ⟨j, hj, rfl, rfl, hbel⟩ := hrel
      have HB := Lib.hid hbel
      clear hbel
      rcases Nat.eq_zero_or_pos j with h0 | h0
      · subst h0
        go_wp2_with fail
        go_ret2
        exact ⟨by rw [HD.out]; rfl, HB.out⟩
      · obtain ⟨j, rfl⟩ : ∃ i, j = i + 1 := ⟨j - 1, by omega⟩
        have hs := rdV_step L at_ q j (by omega)
        have hlt := rdV_lt HV.out at_ q j (by omega) (by omega)
        have hlt2 := getB_lt HV.out (at_ + j)
        have HS := Lib.hid hs
        rw [hs] at hlt
        generalize rdV L at_ q (j + 1) = x at *
        have i1 : 256 * (x : Int) + (getB L (at_ + j) : Int) < 18446744073709551616 := by omega
        have i2 : (getB L (at_ + j) : Int) < 256 := by omega
        clear hs hlt hlt2
        go_wp2_with fail
        refine (rget_any xb n (at_ + j) G L _ HL.out (HR.out.below HB.out)).mono ?_
        rintro e w1 ⟨rfl, hb⟩
        have HB1 := Lib.hid (HB.out.trans (hb.mono HB.out.size))
        generalize getB L (at_ + j) = y at *
        clear hb
        go_wp2_with fail
        go_roundw
        case rel => exact ⟨j, by omega, by first | rfl | simp, by rw [HS.out]; first | rfl | (congr 1; omega), HB1.out⟩
        case measure => simp [intOf]
  · have HE := Lib.hid h0
    have hne : (chkE n at_ s != 0) = true := by simp; exact h0
    have HD : Hid (ldE n L at_ s = 0) := Lib.hid (if_neg h0)
    generalize hz : chkE n at_ s = z at *
    have HZ := Lib.hid hz
    clear h0 hz
    go_enter Try.func30, Try.ntmps30
    go_wp2_with fail
    refine (rcheck_any xb n at_ s G L _ HN.out HA.out HR.out).mono ?_
    rintro e w ⟨rfl, hb⟩
    rw [HZ.out]
    have HB0 := Lib.hid hb
    clear hb
    go_wp2_with fail
    go_ret2
    exact ⟨by rw [HD.out]; rfl, HB0.out⟩
/-- What lies there once k bytes of v are laid. -/
def stB (L : List (Nat × Nat)) (at_ v : Nat) : Nat → List (Nat × Nat)
  | 0 => L
  | k + 1 => putB (stB L at_ v k) (at_ + k) (byteOf v k)
theorem stB_length (L : List (Nat × Nat)) (at_ v : Nat) : ∀ k, (stB L at_ v k).length ≤ L.length + k
  | 0 => Nat.le_refl _
  | k + 1 => by
    have h1 := stB_length L at_ v k
    have h2 := putB_length (stB L at_ v k) (at_ + k) (byteOf v k)
    show (putB _ _ _).length ≤ _
    omega
def stE (n : Nat) (L : List (Nat × Nat)) (at_ : Nat) (s : Int) (v : Nat) : List (Nat × Nat) := if chkE n at_ s = 0 then stB L at_ v s.toNat else L
set_option maxHeartbeats 1000000 in
theorem rstore_any (xb n at_ : Nat) (s : Int) (v : Nat) (G : Nat → Prop) (L : List (Nat × Nat)) (W : World) (hn : n ≤ 1048576) (ha : at_ < 18446744073709551616) (hv : v < 18446744073709551616) (hL : L.length ≤ 900000) (h : RefAt W xb G n L) :
    Calls Try.prog 21 #[.pointer (some ⟨xb, 0, none⟩), .int .u64 (at_ : Int), .int .i64 s, .int .u64 (v : Int)] W fun e w' => e = .returned (.int .i64 (chkE n at_ s)) ∧ PutR W xb n G (stE n L at_ s v) w' := by
  have HR := Lib.hid h
  have HN := Lib.hid hn
  have HA := Lib.hid ha
  have HL := Lib.hid hL
  have HV := Lib.hid hv
  clear h hn ha hv
  by_cases h0 : chkE n at_ s = 0
  · have HE := Lib.hid h0
    obtain ⟨o1, o2⟩ := chk_ok h0
    obtain ⟨q, rfl⟩ := Int.eq_ofNat_of_zero_le (a := s) (by unfold alignedB at o1; simp only [Bool.and_eq_true] at o1; have := size_cases o1.1; omega)
    have HS : Hid (sizeB q = true) := Lib.hid (by unfold alignedB at o1; simp only [Bool.and_eq_true] at o1; exact o1.1)
    have hq8 : (q : Int) ≤ 8 := by have := size_cases HS.out; omega
    have ha2 : (at_ : Int) < 4294967296 := by have := HN.out; omega
    have HD : Hid (stE n L at_ q v = stB L at_ v q) := Lib.hid (if_pos h0)
    have HQ := Lib.hid (bytesOf_length v q HS.out)
    have HY : Hid (∀ k, k < q → ((bytesOf v q).map bv)[k]? = some (bv (byteOf v k))) := Lib.hid (fun k hk => by
      unfold bytesOf
      rw [if_pos HS.out, List.map_map, List.getElem?_map, List.getElem?_range (by rw [Int.toNat_natCast]; exact hk)]
      rfl)
    rw [h0]
    clear h0 o1 o2
    go_enter Try.func21, Try.ntmps21
    go_wp2_with fail
    refine (rcheck_any xb n at_ q G L _ HN.out HA.out HR.out).mono ?_
    rintro e w ⟨rfl, hb⟩
    rw [HE.out]
    have HB0 := Lib.hid hb
    have HP0 := Lib.hid ((PutR.refl HR.out).below hb)
    clear hb
    go_wp2_with fail
    refine (rbytes_yes v q _ HV.out HS.out).mono ?_
    rintro e w1 ⟨bb, rfl, ho, hb⟩
    rw [HQ.out] at ho
    obtain ⟨rb, cap, rfl, hr1, hr2⟩ := ho.form (by have := size_cases HS.out; omega)
    have HO := Lib.hid ho
    have HP1 := Lib.hid (HP0.out.below hb)
    have HRB : Hid (xb < rb) := Lib.hid (by
      obtain ⟨A, c, h1, _⟩ := HR.out
      have := h1.lt
      have := HB0.out.size
      omega)
    clear ho hb hr1 hr2
    go_wp2_with fail
    go_loopw [22] (fun i wr => ∃ k : Nat, k ≤ q ∧ i = .int .i64 k ∧ PutR W xb n G (stB L at_ v k) wr ∧ wr.ownsRow w.heap.size 5 1 (.slice (some ⟨rb, 0, none⟩) q cap) q ((bytesOf v q).map bv)) (fun i _ => q - (intOf i).toNat)
    case atStart => exact ⟨0, by omega, rfl, HP1.out, HO.out⟩
    case round =>
      obtain ⟨k, hk, rfl, hp, ho⟩ := hrel
      have HP := Lib.hid hp
      by_cases hkq : k < q
      · have s0 := (ho.cellAt k (by omega)).trans (HY.out k hkq)
        unfold bv at s0
        have HO2 := Lib.hid ho
        have HKQ := Lib.hid hkq
        clear hp ho
        generalize hby : byteOf v k = y at *
        have HBY := Lib.hid hby
        clear hby
        go_wp2_with fail
        obtain ⟨G', r1, r2, r3⟩ := HP.out
        refine (rput_any xb n (at_ + k) y G' (stB L at_ v k) _ (by have := stB_length L at_ v k; omega) r1).mono ?_
        rintro e w2 ⟨rfl, hp2⟩
        have HP2 := Lib.hid (hp2.step r2 r3)
        have HO3 : Hid (w2.ownsRow w.heap.size 5 1 (.slice (some ⟨rb, 0, none⟩) q cap) q ((bytesOf v q).map bv)) := by
          obtain ⟨G2, _, _, k3⟩ := hp2
          refine Lib.hid (k3.row HO2.out (fun g hg e => ?_))
          have : rb = g := by simpa [Value.ownBlock] using hg
          have := HRB.out
          omega
        clear r1 r2 r3 hp2
        go_wp2_with fail
        go_roundw
        case rel =>
          refine ⟨k + 1, HKQ.out, by go_num, ?_, HO3.out⟩
          show PutR W xb n G (putB (stB L at_ v k) (at_ + k) (byteOf v k)) w2
          rw [HBY.out]
          exact HP2.out
        case measure => simp [intOf]; omega
      · obtain rfl : k = q := by omega
        clear hp ho
        go_wp2_with fail
        go_ret
        rw [HD.out]
        exact ⟨rfl, HP.out⟩
  · have HE := Lib.hid h0
    have hne : (chkE n at_ s == 0) = false := by simp; exact h0
    have HD : Hid (stE n L at_ s v = L) := Lib.hid (if_neg h0)
    generalize hz : chkE n at_ s = z at *
    have HZ := Lib.hid hz
    clear h0 hz
    go_enter Try.func21, Try.ntmps21
    go_wp2_with fail
    refine (rcheck_any xb n at_ s G L _ HN.out HA.out HR.out).mono ?_
    rintro e w ⟨rfl, hb⟩
    rw [HZ.out]
    have HP0 := Lib.hid ((PutR.refl HR.out).below hb)
    clear hb
    go_wp2_with fail
    go_ret
    rw [HD.out]
    exact ⟨rfl, HP0.out⟩
end Go.Proofs.Ytecalibnnfcaeaa

/- The plain law: the reference's list says what the pages hold. -/
namespace Go.Proofs.Ytecalibnnfcaeaa
open Go.RowKit

structure Rel (n : Nat) (L : List (Nat × Nat)) (S : Nat → List Nat) : Prop where
  nd : (L.map (·.1)).Nodup
  lt : ∀ x ∈ L, x.1 < 4096 * n
  b : ∀ x ∈ L, x.2 < 256
  eq : ∀ k, k < n → ∀ i, i < 4096 → getB L (4096 * k + i) = (S k).getD i 0
  len : ∀ k, (S k).length = 4096
theorem Rel.empty (n : Nat) : Rel n [] emptyS := ⟨by simp, fun x h => by simp at h, fun x h => by simp at h, fun k _ i _ => by show 0 = zeroL.getD i 0; rw [zeroL_get], fun _ => zero_len⟩
theorem Rel.short {n : Nat} {L : List (Nat × Nat)} {S : Nat → List Nat} (h : Rel n L S) : L.length ≤ 4096 * n := by
  have := nodup_len (4096 * n) (L.map (·.1)) h.nd (fun k hk => by
    obtain ⟨x, hx, rfl⟩ := List.mem_map.1 hk
    exact h.lt x hx)
  simpa using this
theorem getB_nil (a : Nat) : getB [] a = 0 := rfl
theorem getB_cons (x : Nat × Nat) (r : List (Nat × Nat)) (a : Nat) : getB (x :: r) a = if x.1 = a then x.2 else getB r a := by
  unfold getB
  rw [List.find?_cons]
  by_cases h : x.1 = a
  · rw [if_pos h, show (x.1 == a) = true by simp [h]]
  · rw [if_neg h, show (x.1 == a) = false by simp [h]]
theorem getB_out {L : List (Nat × Nat)} {a : Nat} (h : a ∉ L.map (·.1)) : getB L a = 0 := by
  induction L with
  | nil => rfl
  | cons x r ih =>
    simp only [List.map_cons, List.mem_cons, not_or] at h
    rw [getB_cons, if_neg (fun e => h.1 e.symm), ih h.2]
theorem getB_append (L M : List (Nat × Nat)) (a : Nat) : getB (L ++ M) a = if a ∈ L.map (·.1) then getB L a else getB M a := by
  induction L with
  | nil => simp
  | cons x r ih =>
    rw [List.cons_append, getB_cons, getB_cons, ih]
    by_cases h : x.1 = a
    · simp [h]
    · rw [if_neg h, if_neg h]
      by_cases h2 : a ∈ r.map (·.1)
      · rw [if_pos h2, if_pos (show a ∈ List.map (fun x => x.1) (x :: r) from List.mem_cons_of_mem _ h2)]
      · rw [if_neg h2, if_neg (by simp only [List.map_cons, List.mem_cons, not_or]; exact ⟨fun e => h e.symm, h2⟩)]
theorem getB_filter (p : Nat → Bool) (L : List (Nat × Nat)) (a : Nat) : getB (L.filter (fun x => p x.1)) a = if p a then getB L a else 0 := by
  induction L with
  | nil => simp [getB_nil]
  | cons x r ih =>
    rw [List.filter_cons, getB_cons]
    by_cases hp : p x.1 = true
    · rw [if_pos hp, getB_cons, ih]
      by_cases h : x.1 = a
      · subst h; rw [if_pos rfl, if_pos rfl, if_pos hp]
      · rw [if_neg h, if_neg h]
    · rw [if_neg hp, ih]
      by_cases h : x.1 = a
      · subst h; rw [if_neg hp, if_neg hp]
      · rw [if_neg h]
theorem keys_filter (p : Nat → Bool) (L : List (Nat × Nat)) : (L.filter (fun x => p x.1)).map (·.1) = (L.map (·.1)).filter p := by
  induction L with
  | nil => rfl
  | cons x r ih =>
    rw [List.filter_cons, List.map_cons, List.filter_cons]
    split <;> simp_all
theorem outB_keys (L : List (Nat × Nat)) (a : Nat) : (outB L a).map (·.1) = (L.map (·.1)).filter (fun k => k != a) := keys_filter (fun k => k != a) L
theorem outB_get (L : List (Nat × Nat)) (a a' : Nat) : getB (outB L a) a' = if (a' != a) = true then getB L a' else 0 := getB_filter (fun k => k != a) L a'
theorem getB_put (L : List (Nat × Nat)) (a b a' : Nat) : getB (putB L a b) a' = if a' = a then b else getB L a' := by
  unfold putB
  rw [getB_append, outB_keys, outB_get]
  by_cases h : a' = a
  · subst h
    rw [if_pos rfl, if_neg (by simp)]
    split
    · rename_i h0; rw [h0]; rfl
    · rw [getB_cons, if_pos rfl]
  · rw [if_neg h, if_pos (show (a' != a) = true by simp [h])]
    by_cases hm : a' ∈ L.map (·.1)
    · rw [if_pos (List.mem_filter.2 ⟨hm, by simp [h]⟩)]
    · rw [if_neg (fun hx => hm (List.mem_filter.1 hx).1), getB_out hm]
      split
      · rfl
      · rw [getB_cons, if_neg (fun e => h e.symm)]; rfl
theorem put_keys {L : List (Nat × Nat)} {a b : Nat} (h : (L.map (·.1)).Nodup) : ((putB L a b).map (·.1)).Nodup := by
  unfold putB
  rw [List.map_append, outB_keys]
  refine List.nodup_append.2 ⟨h.filter _, by split <;> simp, fun x hx y hy e => ?_⟩
  subst e
  have := (List.mem_filter.1 hx).2
  split at hy
  · simp at hy
  · simp at hy; subst hy; simp at this
theorem put_mem {L : List (Nat × Nat)} {a b : Nat} {x : Nat × Nat} (h : x ∈ putB L a b) : x ∈ L ∨ x = (a, b) := by
  unfold putB at h
  rcases List.mem_append.1 h with h | h
  · exact .inl (List.mem_filter.1 h).1
  · split at h
    · simp at h
    · simp at h; exact .inr h
theorem stB_all (L : List (Nat × Nat)) (a v n : Nat) (h : (L.map (·.1)).Nodup) (hl : ∀ x ∈ L, x.1 < 4096 * n) (hb : ∀ x ∈ L, x.2 < 256) : ∀ k, a + k ≤ 4096 * n →
    ((stB L a v k).map (·.1)).Nodup ∧ (∀ x ∈ stB L a v k, x.1 < 4096 * n ∧ x.2 < 256) ∧ ∀ a', getB (stB L a v k) a' = if a ≤ a' ∧ a' < a + k then byteOf v (a' - a) else getB L a'
  | 0, _ => ⟨h, fun x hx => ⟨hl x hx, hb x hx⟩, fun a' => by rw [if_neg (by omega)]; rfl⟩
  | k + 1, hk => by
    obtain ⟨i1, i2, i3⟩ := stB_all L a v n h hl hb k (by omega)
    refine ⟨put_keys i1, fun x hx => ?_, fun a' => ?_⟩
    · rcases put_mem hx with hx | rfl
      · exact i2 x hx
      · exact ⟨by show a + k < _; omega, Nat.mod_lt _ (by decide)⟩
    · show getB (putB (stB L a v k) (a + k) (byteOf v k)) a' = _
      rw [getB_put, i3]
      by_cases e : a' = a + k
      · rw [if_pos e, if_pos (by omega), e, Nat.add_sub_cancel_left]
      · rw [if_neg e]
        by_cases e2 : a ≤ a' ∧ a' < a + k
        · rw [if_pos e2, if_pos (by omega)]
        · rw [if_neg e2, if_neg (by omega)]
theorem Rel.store {n : Nat} {L : List (Nat × Nat)} {S : Nat → List Nat} (h : Rel n L S) (a : Nat) (s : Int) (v : Nat) : Rel n (stE n L a s v) (stR n S a s v) := by
  unfold stE stR
  by_cases h0 : chkE n a s = 0
  · rw [if_pos h0, if_pos h0]
    obtain ⟨o1, o2⟩ := chk_ok h0
    obtain ⟨hs, ht⟩ := in_pg o1
    have hq := there_of ht
    have hfit : a % 4096 + s.toNat ≤ 4096 := by
      have h3 := hq.2.2.2
      have := size_cases hq.1
      omega
    have hdm := Nat.div_add_mod a 4096
    obtain ⟨i1, i2, i3⟩ := stB_all L a v n h.nd h.lt h.b s.toNat (by
      have : 4096 * (a / 4096 + 1) ≤ 4096 * n := Nat.mul_le_mul_left _ o2
      omega)
    refine ⟨i1, fun x hx => (i2 x hx).1, fun x hx => (i2 x hx).2, fun k hk i hi => ?_, fun k => ?_⟩
    · rw [i3]
      unfold stS updS
      by_cases e : k = a / 4096
      · rw [if_pos e, putL_get _ _ _ _ _ hi]
        by_cases e2 : a % 4096 ≤ i ∧ i < a % 4096 + s.toNat
        · rw [if_pos e2, if_pos (by omega), show 4096 * k + i - a = i - a % 4096 by omega]
        · rw [if_neg e2, if_neg (by omega), h.eq k hk i hi, e]
      · rw [if_neg e, if_neg (by
          intro h1
          apply e
          omega), h.eq k hk i hi]
    · unfold stS updS
      split
      · exact putL_length _ _ _ _
      · exact h.len k
  · rw [if_neg h0, if_neg h0]
    exact h
end Go.Proofs.Ytecalibnnfcaeaa

/- The plain law: pages set and read, words read. -/
namespace Go.Proofs.Ytecalibnnfcaeaa
open Go.RowKit

theorem headL_get (l : List Nat) (i : Nat) : (headL l).getD i 0 = if i < l.length then l.getD i 0 else 0 := by
  unfold headL
  rw [List.getD_eq_getElem?_getD]
  by_cases hi : i < l.length
  · rw [List.getElem?_append_left hi, if_pos hi, ← List.getD_eq_getElem?_getD]
  · rw [List.getElem?_append_right (by omega), List.getElem?_drop, ← List.getD_eq_getElem?_getD, zeroL_get, if_neg hi]
theorem getD_set (l : List Nat) (j y i : Nat) (hi : i < l.length) : (l.set j y).getD i 0 = if j = i then y else l.getD i 0 := by
  rw [List.getD_eq_getElem?_getD, List.getElem?_set]
  by_cases e : j = i
  · rw [if_pos e, if_pos e, if_pos (by omega)]; rfl
  · rw [if_neg e, if_neg e, List.getD_eq_getElem?_getD]
theorem list_ext_getD {l m : List Nat} (h : l.length = m.length) (he : ∀ i, i < l.length → l.getD i 0 = m.getD i 0) : l = m := by
  apply List.ext_getElem h
  intro i h1 h2
  have := he i h1
  rwa [List.getD_eq_getElem?_getD, List.getD_eq_getElem?_getD, List.getElem?_eq_getElem h1, List.getElem?_eq_getElem h2] at this
theorem Rel.load {n : Nat} {L : List (Nat × Nat)} {S : Nat → List Nat} (h : Rel n L S) (a : Nat) (s : Int) : ldE n L a s = ldR n S a s := by
  unfold ldE ldR
  by_cases h0 : chkE n a s = 0
  · rw [if_pos h0, if_pos h0]
    obtain ⟨o1, o2⟩ := chk_ok h0
    obtain ⟨hs, ht⟩ := in_pg o1
    have hq := there_of ht
    have hfit : a % 4096 + s.toNat ≤ 4096 := by
      have h3 := hq.2.2.2
      have := size_cases hq.1
      omega
    have hdm := Nat.div_add_mod a 4096
    unfold rdV ldV getV
    congr 1
    apply list_ext_getD
    · rw [List.length_map, List.length_range, List.length_take, List.length_drop, h.len, Int.toNat_natCast]
      omega
    · intro i hi
      rw [List.length_map, List.length_range] at hi
      rw [List.getD_eq_getElem?_getD, List.getElem?_map, List.getElem?_range hi, List.getD_eq_getElem?_getD, List.getElem?_take, if_pos (by omega), List.getElem?_drop, Int.toNat_natCast, ← List.getD_eq_getElem?_getD]
      show getB L (a + 0 + i) = _
      rw [show a + 0 + i = 4096 * (a / 4096) + (a % 4096 + i) by omega]
      exact h.eq _ o2 _ (by omega)
  · rw [if_neg h0, if_neg h0]
end Go.Proofs.Ytecalibnnfcaeaa

/- Both memories in one world. -/
namespace Go.Proofs.Ytecalibnnfcaeaa
open Go.RowKit

/-- The memory and the reference's, apart from one another, and from the blocks of P. -/
def Play (W : World) (P : Nat → Prop) (gm xb n : Nat) (L : List (Nat × Nat)) (S : Nat → List Nat) (w : World) : Prop :=
  ∃ F G, Mem w gm F n S ∧ RefAt w xb G n L ∧ (∀ b, F b → W.heap.size ≤ b ∧ b < w.heap.size) ∧ (∀ b, G b → W.heap.size ≤ b) ∧ (∀ b, F b → ¬ G b) ∧ (∀ b, P b → ¬ F b ∧ ¬ G b ∧ b < w.heap.size) ∧ Below W.heap.size W w
def Sv (P : Nat → Prop) (w w' : World) : Prop := ∀ b, P b → w'.heap[b]? = w.heap[b]?
section
variable {W w w' : World} {P : Nat → Prop} {gm xb n : Nat} {L L' : List (Nat × Nat)} {S S' : Nat → List Nat}
theorem Play.bel (h : Play W P gm xb n L S w) : Below W.heap.size W w := by
  obtain ⟨F, G, _, _, _, _, _, _, h⟩ := h
  exact h
theorem Play.stepM {F G : Nat → Prop} (hr : RefAt w xb G n L) (hF : ∀ b, F b → W.heap.size ≤ b ∧ b < w.heap.size) (hG : ∀ b, G b → W.heap.size ≤ b) (hd : ∀ b, F b → ¬ G b) (hP : ∀ b, P b → ¬ F b ∧ ¬ G b ∧ b < w.heap.size) (hb : Below W.heap.size W w)
    (hm : MemTo w gm F n S' w') : Play W P gm xb n L S' w' ∧ Sv P w w' := by
  obtain ⟨F', h1, h2, h3⟩ := hm
  have hGl : ∀ b, G b → b < w.heap.size := by obtain ⟨_, _, _, _, _, h⟩ := hr; exact h
  refine ⟨⟨fun b => F' b ∧ b < w'.heap.size, G, h1.tight, hr.keeps h3 (fun g hg hf => hd g hf hg), fun b hb' => ⟨?_, hb'.2⟩, hG, fun b hb' hg => ?_, fun b hp => ⟨fun hb' => ?_, (hP b hp).2.1, Nat.lt_of_lt_of_le (hP b hp).2.2 h3.size⟩, hb.trans (h3.below (fun b h => (hF b h).1) hb.size)⟩, fun b hp => h3.block b (hP b hp).2.2 (hP b hp).1⟩
  · rcases h2 b hb'.1 with h | h
    · exact (hF b h).1
    · have := hb.size; omega
  · rcases h2 b hb'.1 with h | h
    · exact hd b h hg
    · have := hGl b hg; omega
  · rcases h2 b hb'.1 with h | h
    · exact (hP b hp).1 h
    · have := (hP b hp).2.2; omega
theorem Play.stepX {F G : Nat → Prop} (hm : Mem w gm F n S) (hr : RefAt w xb G n L) (hF : ∀ b, F b → W.heap.size ≤ b ∧ b < w.heap.size) (hG : ∀ b, G b → W.heap.size ≤ b) (hd : ∀ b, F b → ¬ G b) (hP : ∀ b, P b → ¬ F b ∧ ¬ G b ∧ b < w.heap.size) (hb : Below W.heap.size W w)
    (hx : PutR w xb n G L' w') : Play W P gm xb n L' S w' ∧ Sv P w w' := by
  obtain ⟨G', h1, h2, h3⟩ := hx
  have hGx : G xb := by obtain ⟨_, _, _, _, h, _⟩ := hr; exact h
  refine ⟨⟨F, G', hm.keeps h3 (fun b hf e => by subst e; exact hd _ hf hGx), h1, fun b hb' => ⟨(hF b hb').1, Nat.lt_of_lt_of_le (hF b hb').2 h3.size⟩, fun b hb' => ?_, fun b hf hg => ?_, fun b hp => ⟨(hP b hp).1, fun hg => ?_, Nat.lt_of_lt_of_le (hP b hp).2.2 h3.size⟩, hb.trans (h3.below (fun b e => by subst e; exact hG _ hGx) hb.size)⟩, fun b hp => h3.block b (hP b hp).2.2 (fun e => by subst e; exact (hP _ hp).2.1 hGx)⟩
  · rcases h2 b hb' with h | h
    · exact hG b h
    · have := hb.size; omega
  · rcases h2 b hg with h | h
    · exact hd b hf h
    · have := (hF b hf).2; omega
  · rcases h2 b hg with h | h
    · exact (hP b hp).2.1 h
    · have := (hP b hp).2.2; omega
theorem Play.keep {H : Nat → Prop} (h : Play W P gm xb n L S w) (hk : Keeps H w w') (hH : ∀ b, H b → P b ∧ W.heap.size ≤ b) : Play W P gm xb n L S w' := by
  obtain ⟨F, G, h1, h2, h3, h4, h5, h6, h7⟩ := h
  exact ⟨F, G, h1.keeps hk (fun b hf hh => (h6 b (hH b hh).1).1 hf), h2.keeps hk (fun b hg hh => (h6 b (hH b hh).1).2.1 hg), fun b hb => ⟨(h3 b hb).1, Nat.lt_of_lt_of_le (h3 b hb).2 hk.size⟩, h4, h5, fun b hp => ⟨(h6 b hp).1, (h6 b hp).2.1, Nat.lt_of_lt_of_le (h6 b hp).2.2 hk.size⟩, h7.trans (hk.below (fun b hh => (hH b hh).2) h7.size)⟩
theorem Play.below (h : Play W P gm xb n L S w) (hb : Below w.heap.size w w') : Play W P gm xb n L S w' := h.keep (H := fun _ => False) (Keeps.of_below hb) (fun _ h => h.elim)
theorem Play.add {b : Nat} (h : Play W P gm xb n L S w) (hb : Below w.heap.size w w') (h1 : w.heap.size ≤ b) (h2 : b < w'.heap.size) : Play W (fun c => P c ∨ c = b) gm xb n L S w' := by
  obtain ⟨F, G, g1, g2, g3, g4, g5, g6, g7⟩ := h
  have hx : ∀ c, G c → c < w.heap.size := by obtain ⟨_, _, _, _, _, h⟩ := g2; exact h
  refine ⟨F, G, g1.below hb, g2.below hb, fun b hb' => ⟨(g3 b hb').1, Nat.lt_of_lt_of_le (g3 b hb').2 hb.size⟩, g4, g5, fun c hc => ?_, g7.trans (hb.mono g7.size)⟩
  rcases hc with hc | rfl
  · exact ⟨(g6 c hc).1, (g6 c hc).2.1, Nat.lt_of_lt_of_le (g6 c hc).2.2 hb.size⟩
  · exact ⟨fun hf => by have := (g3 _ hf).2; omega, fun hg => by have := hx _ hg; omega, h2⟩
theorem Play.only {Q : Nat → Prop} (h : Play W P gm xb n L S w) (hQ : ∀ b, Q b → P b) : Play W Q gm xb n L S w := by
  obtain ⟨F, G, g1, g2, g3, g4, g5, g6, g7⟩ := h
  exact ⟨F, G, g1, g2, g3, g4, g5, fun b hb => g6 b (hQ b hb), g7⟩
end
/-- What SetPage says. -/
def setC (n : Nat) (f : Int) (l : List Nat) : Int := if frE n f = 61 then 61 else if 4096 < l.length then 2 else 0
def setS (n : Nat) (S : Nat → List Nat) (f : Int) (l : List Nat) : Nat → List Nat := if setC n f l = 0 then updS S f.toNat (headL l) else S
theorem frE_two {n : Nat} {f : Int} : frE n f = 61 ∨ ∃ k : Nat, f = (k : Int) ∧ k < n ∧ frE n f = 0 := by
  by_cases h : frE n f = 0
  · obtain ⟨k, hk, hn⟩ := frE_ok h
    exact .inr ⟨k, hk, hn, h⟩
  · left
    unfold frE at h ⊢
    split at h
    · rename_i h1; rw [if_pos h1]
    · exact absurd rfl h
section
variable {W w : World} {P : Nat → Prop} {gm xb n : Nat} {L : List (Nat × Nat)} {S : Nat → List Nat}
theorem p_store (h : Play W P gm xb n L S w) (at_ v : Nat) (s : Int) (ha : at_ < 18446744073709551616) (hv : v < 18446744073709551616) :
    Calls Try.prog 20 #[.pointer (some ⟨gm, 0, none⟩), .int .u64 (at_ : Int), .int .i64 s, .int .u64 (v : Int)] w fun e w' => e = .returned (.int .i64 (chkE n at_ s)) ∧ Play W P gm xb n L (stR n S at_ s v) w' ∧ Sv P w w' := by
  obtain ⟨F, G, g1, g2, g3, g4, g5, g6, g7⟩ := h
  refine (Store_any gm n at_ s v F S w g1 ha hv).mono ?_
  rintro e w' ⟨rfl, hm⟩
  exact ⟨rfl, Play.stepM g2 g3 g4 g5 g6 g7 hm⟩
theorem p_load (h : Play W P gm xb n L S w) (at_ : Nat) (s : Int) (ha : at_ < 18446744073709551616) :
    Calls Try.prog 32 #[.pointer (some ⟨gm, 0, none⟩), .int .u64 (at_ : Int), .int .i64 s] w fun e w' => e = .returned (.tuple #[.int .u64 (ldR n S at_ s : Nat), .int .i64 (chkE n at_ s)]) ∧ w = w' := by
  obtain ⟨F, G, g1, _⟩ := h
  exact Load_any gm n at_ s F S w g1 ha
theorem p_rstore (h : Play W P gm xb n L S w) (at_ v : Nat) (s : Int) (hn : n ≤ 1048576) (ha : at_ < 18446744073709551616) (hv : v < 18446744073709551616) (hL : L.length ≤ 900000) :
    Calls Try.prog 21 #[.pointer (some ⟨xb, 0, none⟩), .int .u64 (at_ : Int), .int .i64 s, .int .u64 (v : Int)] w fun e w' => e = .returned (.int .i64 (chkE n at_ s)) ∧ Play W P gm xb n (stE n L at_ s v) S w' ∧ Sv P w w' := by
  obtain ⟨F, G, g1, g2, g3, g4, g5, g6, g7⟩ := h
  refine (rstore_any xb n at_ s v G L w (by omega) ha hv hL g2).mono ?_
  rintro e w' ⟨rfl, hm⟩
  exact ⟨rfl, Play.stepX g1 g2 g3 g4 g5 g6 g7 hm⟩
theorem p_rload (h : Play W P gm xb n L S w) (at_ : Nat) (s : Int) (hn : n ≤ 1048576) (ha : at_ < 18446744073709551616) (hL : L.length ≤ 900000) (hv : ∀ x ∈ L, x.2 < 256) :
    Calls Try.prog 30 #[.pointer (some ⟨xb, 0, none⟩), .int .u64 (at_ : Int), .int .i64 s] w fun e w' => e = .returned (.tuple #[.int .u64 (ldE n L at_ s : Nat), .int .i64 (chkE n at_ s)]) ∧ Below w.heap.size w w' := by
  obtain ⟨F, G, g1, g2, _⟩ := h
  exact rload_any xb n at_ s G L w (by omega) ha (by omega) hv g2
/-- A page's bytes; none where there is no such frame. -/
def pgL (n : Nat) (S : Nat → List Nat) (f : Int) : List Nat := if frE n f = 0 then S f.toNat else []
def PgR (n : Nat) (S : Nat → List Nat) (f : Int) (w : World) (e : Ending) (w' : World) : Prop :=
  ∃ v, e = .returned (.tuple #[v, .int .i64 (frE n f)]) ∧ w'.ownsRow w.heap.size 5 1 v (pgL n S f).length ((pgL n S f).map bv) ∧ Below w.heap.size w w'
end
end Go.Proofs.Ytecalibnnfcaeaa

/- Contracts of the packages pte and its reference: numbers of addresses. -/
namespace Go.Proofs.Ytecalibnnfcaeaa
open Go.RowKit

def levelB (n : Int) : Bool := n == 0 || n == 1 || n == 2
theorem level_cases {n : Int} (h : levelB n = true) : n = 0 ∨ n = 1 ∨ n = 2 := by simp [levelB] at h; omega
theorem level_not {n : Int} (h : levelB n = false) : n < 0 ∨ 2 < n := by simp [levelB] at h; omega
theorem levelB_eq (n : Int) : levelB n = (decide (0 ≤ n) && decide (n < 3)) := by
  rw [Bool.eq_iff_iff]; simp [levelB]; omega

theorem level_any (n : Int) (w : World) :
    Calls Try.prog 92 #[.int .i64 n] w fun e w' => e = .returned (.bool (levelB n)) ∧ w = w' := by
  rw [levelB_eq]
  go_enter Try.func92, Try.ntmps92
  go_wp2
  all_goals (go_ret; refine ⟨?_, rfl⟩; first | rfl | (simp [*]; done) | (simp [*]; omega))
theorem rlevel_any (n : Int) (w : World) :
    Calls Try.prog 71 #[.int .i64 n] w fun e w' => e = .returned (.bool (levelB n)) ∧ w = w' := by
  unfold levelB
  go_enter Try.func71, Try.ntmps71
  go_wp2
  all_goals (go_ret; refine ⟨?_, rfl⟩; first | rfl | simp [*])

theorem wrap_dbl (i : Nat) (h : i < 63) : IntKind.u64.wrap (((2 ^ i : Nat) : Int) * 2) = ((2 ^ (i + 1) : Nat) : Int) := by
  have h1 : 2 ^ i ≤ 2 ^ 62 := Nat.pow_le_pow_right (by decide) (by omega)
  rw [Nat.pow_succ]
  generalize 2 ^ i = P at *
  rw [IntWalk.u64_in _ (by omega)]
  omega
theorem pow_any (k : Int) (w : World) (h0 : 0 ≤ k) (h1 : k ≤ 63) :
    Calls Try.prog 61 #[.int .i64 k] w fun e w' => e = .returned (.int .u64 ((2 ^ k.toNat : Nat) : Int)) ∧ w = w' := by
  obtain ⟨n, rfl⟩ := Int.eq_ofNat_of_zero_le h0
  have hn : n ≤ 63 := by omega
  clear h0 h1
  rw [show (n : Int).toNat = n from rfl]
  go_enter Try.func61, Try.ntmps61
  go_wp2
  go_loop [3, 4] (fun p i => ∃ j : Nat, j ≤ n ∧ i = .int .i64 j ∧ p = .int .u64 ((2 ^ j : Nat) : Int)) (fun _ i => (n - intOf i).toNat)
  case atStart => exact ⟨0, by omega, rfl, rfl⟩
  case round =>
    obtain ⟨j, hj, rfl, rfl⟩ := hrel
    by_cases hlt : j < n
    · have hw := wrap_dbl j (by omega)
      have HW := Lib.hid hw
      clear hw
      go_wp2
      have hw := HW.out
      rw [Int.natCast_pow, Int.natCast_pow] at hw
      exact ⟨⟨j + 1, by omega, by go_num, by rw [Int.natCast_pow]; exact congrArg (Value.int .u64) hw⟩, by simp [intOf]; omega⟩
    · obtain rfl : j = n := by omega
      go_wp2
      go_ret
      exact ⟨by simp, rfl⟩

def fieldV (v a n : Nat) : Nat := v / 2 ^ a % 2 ^ n
theorem fieldV_lt (v a n : Nat) : fieldV v a n < 2 ^ n := Nat.mod_lt _ (Nat.two_pow_pos n)
theorem div_u64 (v P : Nat) (hv : v < 18446744073709551616) : IntKind.u64.wrap ((v : Int) / (P : Int)) = (v : Int) / (P : Int) := by
  have h : v / P ≤ v := Nat.div_le_self _ _
  rw [← Int.natCast_ediv]
  generalize v / P = x at *
  exact IntWalk.u64_in _ (by omega)
theorem fin_field (v P R : Nat) : ((v : Int) / (P : Int)).tmod (R : Int) = ((v / P % R : Nat) : Int) := by
  rw [← Int.natCast_ediv, Int.tmod_eq_emod_of_nonneg (Int.natCast_nonneg _), ← Int.natCast_emod]

theorem field_any (v : Nat) (a n : Int) (w : World) (hv : v < 18446744073709551616) (ha : 0 ≤ a) (hn : 0 ≤ n) (hn63 : n ≤ 63) (h : a + n ≤ 63) :
    Calls Try.prog 33 #[.int .u64 v, .int .i64 a, .int .i64 n] w fun e w' => e = .returned (.int .u64 ((fieldV v a.toNat n.toNat : Nat) : Int)) ∧ Below w.heap.size w w' := by
  unfold fieldV
  have hp := Nat.two_pow_pos a.toNat
  generalize hP : 2 ^ a.toNat = P at hp ⊢
  have hr := Nat.two_pow_pos n.toNat
  generalize hR : 2 ^ n.toNat = R at hr ⊢
  have HP := Lib.hid hP
  have HR := Lib.hid hR
  clear hP hR
  have e64 : ((a + n : Int) == 64) = false := by rw [beq_eq_false_iff_ne]; omega
  go_enter Try.func33, Try.ntmps33
  go_wp2_with fail
  refine wp_region_plan [(0, false), (1, false), (4, false), (2, true), (3, false), (5, true), (6, false), (7, false)] (by kernel_rfl) (by kernel_rfl) (fun _ d _ _ _ h => by cases d <;> exact h) ?_
  iterate 3 (refine plan_take (v := ?_) rfl (by kernel_rfl) ?_ ?_; rotate_left; (focus (intro w' hw'; try go_simp; try with_reducible rfl)); simp only [Act.put, List.setIfInBounds_toArray, List.set_cons_zero, List.set_cons_succ])
  refine plan_call rfl (by kernel_rfl) (by go_simp; exact ⟨rfl, rfl⟩) ?_
  refine (pow_any a _ ha (by omega)).mono ?_
  rintro e w' ⟨rfl, rfl⟩
  rw [HP.out]
  refine ⟨_, rfl, Ext.refl _, ?_⟩
  simp only [Act.put, List.setIfInBounds_toArray, List.set_cons_zero, List.set_cons_succ]
  have hz : ¬ (P = 0) := by omega
  have hd := div_u64 v P hv
  iterate 1 (refine plan_take (v := ?_) rfl (by kernel_rfl) ?_ ?_; rotate_left; (focus (intro w' hw'; try go_simp; try with_reducible rfl)); simp only [Act.put, List.setIfInBounds_toArray, List.set_cons_zero, List.set_cons_succ])
  refine plan_call rfl (by kernel_rfl) (by go_simp; exact ⟨rfl, rfl⟩) ?_
  refine (pow_any n _ hn hn63).mono ?_
  rintro e w' ⟨rfl, rfl⟩
  rw [HR.out]
  refine ⟨_, rfl, Ext.refl _, ?_⟩
  simp only [Act.put, List.setIfInBounds_toArray, List.set_cons_zero, List.set_cons_succ]
  have hzr : ¬ (R = 0) := by omega
  iterate 2 (refine plan_take (v := ?_) rfl (by kernel_rfl) ?_ ?_; rotate_left; (focus (intro w' hw'; try go_simp; try with_reducible rfl)); simp only [Act.put, List.setIfInBounds_toArray, List.set_cons_zero, List.set_cons_succ])
  refine plan_end ?_
  clear hd hz hzr
  go_wp2
  go_ret
  exact ⟨by rw [← fin_field]; rfl, (Below.refl _ _).drew⟩

/-! Numbers of an address. -/
def shV (n : Int) : Nat := if n = 0 then 12 else if n = 1 then 21 else 30
def indexV (va : Nat) (n : Int) : Nat := if levelB n then fieldV va (shV n) 9 else 0
def spanV (n : Int) : Nat := if levelB n then 2 ^ shV n else 0
theorem indexV_not (va : Nat) (n : Int) (h : levelB n = false) : indexV va n = 0 := by simp [indexV, h]
theorem spanV_not (n : Int) (h : levelB n = false) : spanV n = 0 := by simp [spanV, h]
theorem and_mask (v k : Nat) (m : Int) (hk : k ≤ 63) (hm : m = ((2 ^ k - 1 : Nat) : Int)) (hv : v < 18446744073709551616) : bits .and .u64 (v : Int) m = ((v % 2 ^ k : Nat) : Int) := by
  have h1 : 2 ^ k ≤ 2 ^ 63 := Nat.pow_le_pow_right (by decide) hk
  have h2 := Nat.two_pow_pos k
  rw [hm, bits_and_u64_nat _ _ hv (by omega), Nat.and_two_pow_sub_one_eq_mod]
theorem index_eq (va k : Nat) (d : Int) (hd : d = ((2 ^ k : Nat) : Int)) (hv : va < 18446744073709551616) : wrap64 (bits .and .u64 ((va : Int) / d) 511) = ((fieldV va k 9 : Nat) : Int) := by
  have h : va / 2 ^ k ≤ va := Nat.div_le_self _ _
  have h2 : va / 2 ^ k % 512 < 512 := Nat.mod_lt _ (by decide)
  unfold fieldV
  rw [hd, ← Int.natCast_ediv]
  generalize va / 2 ^ k = x at *
  rw [and_mask _ 9 511 (by decide) rfl (by omega), IntWalk.wrap64_in _ (by omega)]
theorem wrap_field (va k : Nat) : wrap64 ((fieldV va k 9 : Nat) : Int) = ((fieldV va k 9 : Nat) : Int) := by
  have := fieldV_lt va k 9
  exact IntWalk.wrap64_in _ (by omega)

theorem index_any (va : Nat) (n : Int) (w : World) (hv : va < 18446744073709551616) :
    Calls Try.prog 87 #[.int .u64 va, .int .i64 n] w fun e w' => e = .returned (.int .i64 ((indexV va n : Nat) : Int)) ∧ w = w' := by
  rcases Bool.eq_false_or_eq_true (levelB n) with h1 | h1
  · rcases level_cases h1 with rfl | rfl | rfl
    all_goals
      have H1 := Lib.hid h1
      have HV := Lib.hid hv
      clear h1 hv
      go_enter Try.func87, Try.ntmps87
      go_wp2_with (go_at_call 92; refine (level_any _ _).mono ?_; rintro e w' ⟨rfl, rfl⟩; rw [H1.out])
      go_ret
      refine ⟨?_, rfl⟩
      first
      | exact congrArg (fun x => Ending.returned (.int .i64 x)) (index_eq va 12 4096 rfl HV.out)
      | exact congrArg (fun x => Ending.returned (.int .i64 x)) (index_eq va 21 2097152 rfl HV.out)
      | exact congrArg (fun x => Ending.returned (.int .i64 x)) (index_eq va 30 1073741824 rfl HV.out)
  · have H1 := Lib.hid h1
    clear h1
    go_enter Try.func87, Try.ntmps87
    go_wp2_with (go_at_call 92; refine (level_any _ _).mono ?_; rintro e w' ⟨rfl, rfl⟩; rw [H1.out])
    go_ret
    exact ⟨by rw [indexV_not va n H1.out]; rfl, rfl⟩

theorem rindex_any (va : Nat) (n : Int) (w : World) (hv : va < 18446744073709551616) :
    Calls Try.prog 63 #[.int .u64 va, .int .i64 n] w fun e w' => e = .returned (.int .i64 ((indexV va n : Nat) : Int)) ∧ Below w.heap.size w w' := by
  rcases Bool.eq_false_or_eq_true (levelB n) with h1 | h1
  · rcases level_cases h1 with rfl | rfl | rfl
    all_goals
      have H1 := Lib.hid h1
      have HV := Lib.hid hv
      clear h1 hv
      go_enter Try.func63, Try.ntmps63
      go_wp2_with (first | (go_at_call 71; refine (rlevel_any _ _).mono ?_; rintro e w' ⟨rfl, rfl⟩; rw [H1.out]) | (go_at_call 33; refine (field_any _ _ _ _ HV.out (by decide) (by decide) (by decide) (by decide)).mono ?_; rintro e w1 ⟨rfl, hb⟩))
      go_ret
      refine ⟨?_, hb⟩
      first
      | exact congrArg (fun x => Ending.returned (.int .i64 x)) (wrap_field va 12)
      | exact congrArg (fun x => Ending.returned (.int .i64 x)) (wrap_field va 21)
      | exact congrArg (fun x => Ending.returned (.int .i64 x)) (wrap_field va 30)
  · have H1 := Lib.hid h1
    clear h1
    go_enter Try.func63, Try.ntmps63
    go_wp2_with (go_at_call 71; refine (rlevel_any _ _).mono ?_; rintro e w' ⟨rfl, rfl⟩; rw [H1.out])
    go_ret
    exact ⟨by rw [indexV_not va n H1.out]; rfl, Below.refl _ _⟩

theorem span_any (n : Int) (w : World) :
    Calls Try.prog 93 #[.int .i64 n] w fun e w' => e = .returned (.int .u64 ((spanV n : Nat) : Int)) ∧ w = w' := by
  rcases Bool.eq_false_or_eq_true (levelB n) with h1 | h1
  · rcases level_cases h1 with rfl | rfl | rfl
    all_goals
      have H1 := Lib.hid h1
      clear h1
      go_enter Try.func93, Try.ntmps93
      go_wp2_with (go_at_call 92; refine (level_any _ _).mono ?_; rintro e w' ⟨rfl, rfl⟩; rw [H1.out])
      go_ret
      exact ⟨rfl, rfl⟩
  · have H1 := Lib.hid h1
    clear h1
    go_enter Try.func93, Try.ntmps93
    go_wp2_with (go_at_call 92; refine (level_any _ _).mono ?_; rintro e w' ⟨rfl, rfl⟩; rw [H1.out])
    go_ret
    exact ⟨by rw [spanV_not n H1.out]; rfl, rfl⟩
theorem rspan_any (n : Int) (w : World) :
    Calls Try.prog 69 #[.int .i64 n] w fun e w' => e = .returned (.int .u64 ((spanV n : Nat) : Int)) ∧ w = w' := by
  rcases Bool.eq_false_or_eq_true (levelB n) with h1 | h1
  · rcases level_cases h1 with rfl | rfl | rfl
    all_goals
      have H1 := Lib.hid h1
      clear h1
      go_enter Try.func69, Try.ntmps69
      go_wp2_with (first | (go_at_call 71; refine (rlevel_any _ _).mono ?_; rintro e w' ⟨rfl, rfl⟩; rw [H1.out]) | (go_at_call 61; refine (pow_any _ _ (by decide) (by decide)).mono ?_; rintro e w' ⟨rfl, rfl⟩))
      go_ret
      exact ⟨rfl, rfl⟩
  · have H1 := Lib.hid h1
    clear h1
    go_enter Try.func69, Try.ntmps69
    go_wp2_with (go_at_call 71; refine (rlevel_any _ _).mono ?_; rintro e w' ⟨rfl, rfl⟩; rw [H1.out])
    go_ret
    exact ⟨by rw [spanV_not n H1.out]; rfl, rfl⟩
end Go.Proofs.Ytecalibnnfcaeaa

/- Contracts: Canonical, Vpn, Join, Leaf, Right. -/
namespace Go.Proofs.Ytecalibnnfcaeaa
open Go.RowKit

theorem field64_any (v : Nat) (a n : Int) (w : World) (hv : v < 18446744073709551616) (ha : 0 ≤ a) (hn : 0 < n) (h : a + n = 64) :
    Calls Try.prog 33 #[.int .u64 v, .int .i64 a, .int .i64 n] w fun e w' => e = .returned (.int .u64 ((fieldV v a.toNat n.toNat : Nat) : Int)) ∧ w = w' := by
  have hf : fieldV v a.toNat n.toNat = v / 2 ^ a.toNat := by
    unfold fieldV
    refine Nat.mod_eq_of_lt (Nat.div_lt_of_lt_mul ?_)
    rw [← Nat.pow_add, show a.toNat + n.toNat = 64 by omega]
    exact hv
  have HF := Lib.hid hf
  have hp := Nat.two_pow_pos a.toNat
  generalize hP : 2 ^ a.toNat = P at hp hf
  have HP := Lib.hid hP
  have e64 : ((a + n : Int) == 64) = true := by rw [beq_iff_eq]; omega
  have hd := div_u64 v P hv
  have hz : ¬ (P = 0) := by omega
  have HH := Lib.hid h
  have b1 : a ≤ 63 := by omega
  have b2 : n ≤ 64 := by omega
  clear hP hf h hv
  go_enter Try.func33, Try.ntmps33
  go_wp2_with (go_at_call 61; refine (pow_any _ _ ha (by have := HH.out; omega)).mono ?_; rintro e w' ⟨rfl, rfl⟩; rw [HP.out])
  go_ret
  exact ⟨by rw [HF.out, HP.out, Int.natCast_ediv]; rfl, rfl⟩

def canonB (va : Nat) : Bool := ((fieldV va 38 26 : Nat) : Int) == 0 || ((fieldV va 38 26 : Nat) : Int) == 67108863

theorem canon_any (va : Nat) (w : World) (hv : va < 18446744073709551616) :
    Calls Try.prog 86 #[.int .u64 va] w fun e w' => e = .returned (.bool (canonB va)) ∧ w = w' := by
  have HV := Lib.hid hv
  clear hv
  go_enter Try.func86, Try.ntmps86
  go_wp2
  go_ret
  refine ⟨?_, rfl⟩
  refine congrArg (fun b => Ending.returned (.bool b)) ?_
  show (IntKind.u64.wrap (wrap64 (wrap64 (va : Int) * 33554432) / 33554432) == (va : Int)) = canonB va
  have hv := HV.out
  rw [Bool.eq_iff_iff]
  simp only [canonB, fieldV, beq_iff_eq, Bool.or_eq_true, IntKind.wrap_u64, wrap64, Nat.reducePow]
  omega

theorem rcanon_any (va : Nat) (w : World) (hv : va < 18446744073709551616) :
    Calls Try.prog 66 #[.int .u64 va] w fun e w' => e = .returned (.bool (canonB va)) ∧ w = w' := by
  have HV := Lib.hid hv
  clear hv
  go_enter Try.func66, Try.ntmps66
  go_wp2_with (first | (go_at_call 33; refine (field64_any _ _ _ _ HV.out (by decide) (by decide) (by decide)).mono ?_; rintro e w' ⟨rfl, rfl⟩) | (go_at_call 61; refine (pow_any _ _ (by decide) (by decide)).mono ?_; rintro e w' ⟨rfl, rfl⟩; rw [show ((2 ^ (26 : Int).toNat : Nat) : Int) = 67108864 from rfl]))
  all_goals (go_ret; refine ⟨?_, rfl⟩; first | rfl | simp [canonB, *])

def vpnV (va : Nat) : Nat := va / 4096 % 134217728
theorem vpn_any (va : Nat) (w : World) (hv : va < 18446744073709551616) :
    Calls Try.prog 94 #[.int .u64 va] w fun e w' => e = .returned (.int .u64 ((vpnV va : Nat) : Int)) ∧ w = w' := by
  have HV := Lib.hid hv
  clear hv
  go_enter Try.func94, Try.ntmps94
  go_wp2
  go_ret
  refine ⟨?_, rfl⟩
  show Ending.returned (Value.int .u64 (bits .and .u64 ((va : Int) / 4096) 134217727)) = _
  have h : va / 4096 ≤ va := Nat.div_le_self _ _
  have hv := HV.out
  have e := and_mask (va / 4096) 27 134217727 (by decide) rfl (by omega)
  rw [show ((va : Int) / 4096) = ((va / 4096 : Nat) : Int) by omega, e]
  rfl

theorem and_high (x k j : Nat) (hx : x < 2 ^ (k + j)) : x &&& (2 ^ (k + j) - 2 ^ k) = x / 2 ^ k * 2 ^ k := by
  have e : 2 ^ (k + j) - 2 ^ k = 2 ^ k * (2 ^ j - 1) := by rw [Nat.pow_add, Nat.mul_sub, Nat.mul_one]
  rw [e]
  have h1 : (x &&& 2 ^ k * (2 ^ j - 1)) % 2 ^ k = 0 := by
    rw [Nat.and_mod_two_pow, Nat.mul_mod_right, Nat.and_zero]
  have h2 : (x &&& 2 ^ k * (2 ^ j - 1)) / 2 ^ k = x / 2 ^ k := by
    rw [Nat.and_div_two_pow, Nat.mul_div_cancel_left _ (Nat.two_pow_pos k), Nat.and_two_pow_sub_one_eq_mod]
    exact Nat.mod_eq_of_lt (Nat.div_lt_of_lt_mul (by rw [← Nat.pow_add]; exact hx))
  have h3 := Nat.div_add_mod (x &&& 2 ^ k * (2 ^ j - 1)) (2 ^ k)
  rw [h1, h2, Nat.add_zero, Nat.mul_comm] at h3
  exact h3.symm
theorem or_low (a b k : Nat) (hb : b < 2 ^ k) : a * 2 ^ k ||| b = a * 2 ^ k + b := by
  rw [Nat.mul_comm, ← Nat.two_pow_add_eq_or_of_lt hb]
theorem join_eq (ppn va k j S : Nat) (m : Int) (hk : k + j = 64) (hS : S = 2 ^ k) (hm : m = ((2 ^ k - 1 : Nat) : Int)) (hk1 : k ≤ 63) (hv : va < 18446744073709551616) :
    bits .or .u64 (bits .andNot .u64 (IntKind.u64.wrap ((ppn : Int) * 4096)) m) (bits .and .u64 (va : Int) m) = (((ppn * 4096 % 18446744073709551616) / S * S + va % S : Nat) : Int) := by
  have h1 : 2 ^ k ≤ 2 ^ 63 := Nat.pow_le_pow_right (by decide) hk1
  have h2 := Nat.two_pow_pos k
  have e1 : IntKind.u64.wrap ((ppn : Int) * 4096) = ((ppn * 4096 % 18446744073709551616 : Nat) : Int) := by rw [IntKind.wrap_u64]; omega
  have hlt : ppn * 4096 % 18446744073709551616 < 18446744073709551616 := Nat.mod_lt _ (by decide)
  rw [and_mask va k m hk1 hm hv, e1, hm]
  generalize ppn * 4096 % 18446744073709551616 = x at *
  have e2 := u64_andNot_nat x (2 ^ k - 1) hlt (by omega)
  rw [e2]
  have e3 : 18446744073709551615 - (2 ^ k - 1) = 2 ^ (k + j) - 2 ^ k := by
    rw [hk]; omega
  have hxx : x < 2 ^ (k + j) := by rw [hk]; exact hlt
  rw [e3, and_high x k j hxx]
  have h4 : x / 2 ^ k * 2 ^ k ≤ x := Nat.div_mul_le_self _ _
  have h5 : va % 2 ^ k < 2 ^ k := Nat.mod_lt _ h2
  rw [bits_or_u64_nat _ _ (by omega) (by omega), or_low _ _ _ h5, hS]

/-- A frame's number and an address. -/
def joinV (ppn va : Nat) (n : Int) : Nat := if levelB n then (ppn * 4096 % 18446744073709551616) / spanV n * spanV n + va % spanV n else 0

theorem join_any (ppn va : Nat) (n : Int) (w : World) (hp : ppn < 18446744073709551616) (hv : va < 18446744073709551616) :
    Calls Try.prog 79 #[.int .u64 ppn, .int .u64 va, .int .i64 n] w fun e w' => e = .returned (.int .u64 ((joinV ppn va n : Nat) : Int)) ∧ w = w' := by
  rcases Bool.eq_false_or_eq_true (levelB n) with h1 | h1
  · rcases level_cases h1 with rfl | rfl | rfl
    all_goals
      have H1 := Lib.hid h1
      have HV := Lib.hid hv
      have HP := Lib.hid hp
      clear h1 hv hp
      go_enter Try.func79, Try.ntmps79
      go_wp2_with (first | (go_at_call 92; refine (level_any _ _).mono ?_; rintro e w' ⟨rfl, rfl⟩; rw [H1.out]) | (go_at_call 93; refine (span_any _ _).mono ?_; rintro e w' ⟨rfl, rfl⟩; first | rw [show ((spanV 0 : Nat) : Int) = 4096 from rfl] | rw [show ((spanV 1 : Nat) : Int) = 2097152 from rfl] | rw [show ((spanV 2 : Nat) : Int) = 1073741824 from rfl]))
      go_ret
      refine ⟨?_, rfl⟩
      first
      | exact congrArg (fun x => Ending.returned (.int .u64 x)) (join_eq ppn va 12 52 4096 4095 rfl rfl rfl (by decide) HV.out)
      | exact congrArg (fun x => Ending.returned (.int .u64 x)) (join_eq ppn va 21 43 2097152 2097151 rfl rfl rfl (by decide) HV.out)
      | exact congrArg (fun x => Ending.returned (.int .u64 x)) (join_eq ppn va 30 34 1073741824 1073741823 rfl rfl rfl (by decide) HV.out)
  · have H1 := Lib.hid h1
    clear h1
    go_enter Try.func79, Try.ntmps79
    go_wp2_with (go_at_call 92; refine (level_any _ _).mono ?_; rintro e w' ⟨rfl, rfl⟩; rw [H1.out])
    go_ret
    exact ⟨by rw [joinV, H1.out]; rfl, rfl⟩
end Go.Proofs.Ytecalibnnfcaeaa
