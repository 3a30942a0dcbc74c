/- first; SchedNumbers, SchedRobins, SchedRandoms. -/
import Derived.Test.YtkiicgdfibncfaaSchI
import Derived.Test.YtkiicgdfibncfaaSchM
import Derived.Test.YtkiicgdfibncfaaSchN
namespace Go.Proofs.Ytkiicgdfibncfaa
open Go.RowKit Go.ChangeShapes

theorem out0 : outS 0 = 16294208416658607535 := by decide +kernel
theorem okR0 : okR 2 ((9 : Nat) : Int) [1, 0, 0, 0, 0, 0, 1] := by
  refine ⟨fun x hx => ?_, by decide, by decide, by decide, by decide, by decide⟩
  simp at hx
  omega
theorem OwnA.rdB {base : Nat} {w : World} {v : Value} {l : List A3} (h : OwnA base w v l) : RdA (fun g => base ≤ g ∧ g < w.heap.size) w v l := by
  obtain ⟨A, c, hve, hle, hr⟩ := h.rd
  refine ⟨A, c, hve, hle, fun hne => ?_⟩
  obtain ⟨b, o, h1, h2, h3, h4⟩ := hr hne
  exact ⟨b, o, h1, ⟨h2, h3⟩, h3, h4⟩
theorem rd_two {B : Nat} {w : World} {u v : Value} {l m : List A3} {t : TypeId} (hu : RdA (fun g => g < B) w u l) (hv : RdA (fun g => g < B) w v m) (hB : B ≤ w.heap.size) :
    RdLL (w.heap.size + 1) (w.alloc (.cells #[u, v] t)) (.slice (some ⟨w.heap.size, 0, none⟩) 2 2) [l, m] := by
  have k : Keeps (fun _ => False) w (w.alloc (.cells #[u, v] t)) := (Keeps.refl _ _).alloc _
  have hu2 := (hu.keeps k (fun _ _ h => h)).mono (G := fun g => g < w.heap.size + 1) (fun g hg => by omega)
  have hv2 := (hv.keeps k (fun _ _ h => h)).mono (G := fun g => g < w.heap.size + 1) (fun g hg => by omega)
  have hb := Blkf.new_at w t (0, 0) #[u, v] rfl
  refine ⟨_, _, [u, v], rfl, ⟨rfl, fun _ => ⟨_, rfl, Nat.lt_succ_self _, fun j x hj => ?_⟩⟩, rfl, fun i hi => ?_⟩
  · match j, hj with
    | 0, hj => exact (hb.cell 0).trans hj
    | 1, hj => exact (hb.cell 1).trans hj
    | j + 2, hj => simp at hj
  · match i, hi with
    | 0, _ => exact ⟨u, rfl, hu2⟩
    | 1, _ => exact ⟨v, rfl, hv2⟩
    | i + 2, hi => exact absurd hi (by simp)
set_option maxRecDepth 100000 in
set_option maxHeartbeats 4000000 in
theorem first_ok (W : World) : Calls Try.prog 8 #[] W fun e w' => e = .returned (.bool true) ∧ Below W.heap.size W w' := by
  go_enter Try.func8, Try.ntmps8
  go_wp2_with fail
  refine (new_any 0 _).mono ?_
  rintro e w1 ⟨rfl, rfl⟩
  go_wp2_with fail
  refine (next_any W.heap.size 0 _ (Blkf.new_at W _ _ _ rfl)).mono ?_
  rintro e w1 ⟨rfl, _, hk1⟩
  rw [out0]
  have HB1 : Hid (Below W.heap.size W w1) := Lib.hid (((Below.refl _ W).alloc (Nat.le_refl _) _).trans (hk1.below (fun i hi => by unfold One at hi; omega) (by simp)))
  clear hk1
  go_wp2_with fail
  refine (robin_yes 2 2 1 2 2 1 _ rfl rfl rfl (by decide) (by decide) (by decide) (by decide)).mono ?_
  rintro e w2 ⟨u, rfl, hO2, hb2⟩
  have HO2 := Lib.hid hO2
  have HB2 := Lib.hid hb2
  clear hO2 hb2
  go_wp2_with fail
  refine (random_yes 5 2 9 [1, 0, 0, 0, 0, 0, 1] rfl _ okR0).mono ?_
  rintro e w3 ⟨v, rfl, l3, s3, hl3, _, hO3, hb3⟩
  have HO3 := Lib.hid hO3
  have HB3 := Lib.hid hb3
  have HL3 := Lib.hid hl3
  clear hO3 hb3 hl3
  have HU3 := Lib.hid ((HO2.out.rdB).keeps (Keeps.of_below (F := fun _ => False) HB3.out) (fun _ _ h => h))
  go_wp2_with fail
  have hs2 : w2.heap.size ≤ w3.heap.size := HB3.out.size
  refine (kinds_any u _ _ (HU3.out.mono (fun g hg => by omega)) (by rw [roundsL_len]; decide)).mono ?_
  rintro e w4 ⟨rfl, hb4⟩
  have HB4 := Lib.hid hb4
  clear hb4
  have HU4 := Lib.hid (HU3.out.keeps (Keeps.of_below (F := fun _ => False) HB4.out) (fun _ _ h => h))
  have HV4 := Lib.hid ((HO3.out.rdB).keeps (Keeps.of_below (F := fun _ => False) HB4.out) (fun _ _ h => h))
  rw [show cntA (roundsL 2 2 1) = #[.int .i64 4, .int .i64 2, .int .i64 0, .int .i64 0, .int .i64 0, .int .i64 0, .int .i64 2] from rfl]
  obtain ⟨Au, cu, rfl, _, hru⟩ := HU4.out
  obtain ⟨bu, ou, rfl, hbu, hbl, hcu⟩ := hru (by decide)
  obtain ⟨Av, cv, rfl, _, _⟩ := HV4.out
  have HV5 := HV4
  have HU5 := HU4
  rw [HL3.out] at HV5
  rw [show (roundsL 2 2 1).length = 8 from rfl] at HU5
  rw [HL3.out, show (roundsL 2 2 1).length = 8 from rfl]
  have p1 := (hcu 1 (0, 1, 0) rfl).2.1
  have p2 := (hcu 2 (1, 0, 0) rfl).1
  have p3 := (hcu 3 (6, 0, 0) rfl).1
  simp only [Nat.one_mul, Nat.reduceMul] at p1 p2 p3
  clear hcu hru
  go_wp2_with fail
  have k5 : Keeps (fun _ => False) w4 (w4.alloc (.cells #[.int .i64 4, .int .i64 2, .int .i64 0, .int .i64 0, .int .i64 0, .int .i64 0, .int .i64 2] 38)) := (Keeps.refl _ _).alloc _
  have hs34 : w3.heap.size ≤ w4.heap.size := HB4.out.size
  have hrd := rd_two (t := 34) (B := w4.heap.size) ((HU5.out.keeps k5 (fun _ _ h => h)).mono (fun g hg => by omega)) ((HV5.out.keeps k5 (fun _ _ h => h)).mono (fun g hg => by omega)) (by simp)
  have HU6 := Lib.hid ((HU5.out.keeps (k5.alloc (.cells #[.slice (some ⟨bu, ou, none⟩) 8 cu, .slice Av 9 cv] 34)) (fun _ _ h => h)))
  have htot : tot (lens [roundsL 2 2 1, l3]) = 17 := by simp only [lens, List.map_cons, List.map_nil, tot, HL3.out]; rfl
  refine (weave_any 1 _ [roundsL 2 2 1, l3] _ (by simpa using hrd) (by simp) (by rw [htot]; decide)).mono ?_
  rintro e w6 ⟨y, rfl, hO6, hb6⟩
  have hl6 : (weave (tot (lens [roundsL 2 2 1, l3])) [roundsL 2 2 1, l3] 1).length = 17 := by rw [weave_len _ _ _ rfl, htot]
  obtain ⟨A6, c6, rfl⟩ := row_sliceS hO6
  rw [hl6]
  have HB6 := Lib.hid hb6
  clear hO6 hb6 hl6 htot hrd k5
  have HU7 := Lib.hid (HU6.out.keeps (Keeps.of_below (F := fun _ => False) HB6.out) (fun _ _ h => h))
  have p16 : ∀ {i v}, w4.cell? ⟨bu, i, none⟩ = some v → w6.cell? ⟨bu, i, none⟩ = some v := fun {i v} h => by
    rw [HB6.out.cell (by simp; omega), World.cell?_alloc_lt _ _ _ (by simp; omega), World.cell?_alloc_lt _ _ _ (by show bu < w4.heap.size; omega)]
    exact h
  replace p1 := p16 p1
  replace p2 := p16 p2
  replace p3 := p16 p3
  clear p16
  have hs56 : w4.heap.size + 2 ≤ w6.heap.size := by have := HB6.out.size; simp at this; omega
  have hk0 : w6.cell? ⟨w4.heap.size, 0, none⟩ = some (.int .i64 4) := by
    rw [HB6.out.cell (by simp; omega), World.cell?_alloc_lt _ _ _ (by simp), World.cell?_alloc_new]
    rfl
  go_wp2_with fail
  refine (split_any _ 2 (roundsL 2 2 1) _ (HU7.out.mono (fun g hg => by omega)) (by decide)).mono ?_
  rintro e w7 ⟨y, rfl, lb, vs, rfl, _, hb7⟩
  have HB7 := Lib.hid hb7
  clear hb7
  rw [show min (2 : Int).toNat 16 + 1 = 3 from rfl]
  go_wp2
  go_ret
  refine ⟨rfl, ?_⟩
  have b1 := HB1.out
  have b2 := b1.trans (HB2.out.mono b1.size)
  have b3 := b2.trans (HB3.out.mono b2.size)
  have b4 := b3.trans (HB4.out.mono b3.size)
  have b5 := b4.alloc b4.size (.cells #[.int .i64 4, .int .i64 2, .int .i64 0, .int .i64 0, .int .i64 0, .int .i64 0, .int .i64 2] 38)
  have b6 := b5.alloc b5.size (.cells #[.slice (some ⟨bu, ou, none⟩) 8 cu, .slice Av 9 cv] 34)
  have b7 := b6.trans (HB6.out.mono b6.size)
  exact b7.trans (HB7.out.mono b7.size)
theorem nil_rd (w : World) : RdA (fun _ => True) w (.slice none 0 0) [] := rda_nil _ _ _ _
theorem Law.SchedRobins (a b c : Int) (W : World) (_ : (Lit.int .i64 a).wf = true) (_ : (Lit.int .i64 b).wf = true) (_ : (Lit.int .i64 c).wf = true) :
    Calls Try.prog 4 #[.int .i64 a, .int .i64 b, .int .i64 c] W fun e w' => e = .returned (.bool true) ∧ Below W.heap.size W w' := by
  cases hbad : badR a b c
  · have hb0 := hbad
    unfold badR at hbad
    simp only [Bool.or_eq_false_iff, decide_eq_false_iff_not] at hbad
    obtain ⟨⟨⟨h1, h2⟩, h3⟩, h4⟩ := hbad
    have H : Hid (a ≤ 100000 ∧ b ≤ 100000 ∧ c ≤ 100000 ∧ b.toNat * (a.toNat + c.toNat + 1) ≤ 100000) := Lib.hid ⟨by omega, by omega, by omega, by omega⟩
    clear h1 h2 h3 h4 hb0
    go_enter Try.func4, Try.ntmps4
    go_wp2_with fail
    refine (first_ok _).mono ?_
    rintro e w1 ⟨rfl, hb1⟩
    have HB1 := Lib.hid hb1
    clear hb1
    go_wp2_with fail
    have hh := H.out
    refine (robin_yes a.toNat b.toNat c.toNat a b c _ rfl rfl rfl (by omega) (by omega) (by omega) hh.2.2.2).mono ?_
    rintro e w2 ⟨u, rfl, hO2, hb2⟩
    have HO2 := Lib.hid hO2
    have HB2 := Lib.hid (HB1.out.trans (hb2.mono HB1.out.size))
    clear hO2 hb2 hh
    have hlen : (roundsL a.toNat b.toNat c.toNat).length ≤ 1000000000 := by rw [roundsL_len]; have := H.out.2.2.2; omega
    go_wp2_with fail
    rcases Int.lt_or_le 0 b with h0 | h0
    · obtain ⟨r, rfl⟩ : ∃ r : Nat, b = r := ⟨b.toNat, by omega⟩
      have hh := H.out
      rw [Int.toNat_natCast] at hh hlen HO2
      refine (rrobin_yes a.toNat r c.toNat a c _ rfl (by omega) rfl (by omega) (by omega) (by omega) hh.2.2.2).mono ?_
      rintro e w3 ⟨v, rfl, hO3, hb3⟩
      have HO3 := Lib.hid hO3
      have HB3 := Lib.hid (HB2.out.trans (hb3.mono HB2.out.size))
      have HU3 := Lib.hid ((HO2.out.rdB).keeps (Keeps.of_below (F := fun _ => False) hb3) (fun _ _ h => h))
      clear hO3 hb3 hh
      go_wp2_with fail
      refine (same_any _ _ u v _ _ HU3.out HO3.out.rdB hlen).mono ?_
      rintro e w4 ⟨rfl, hb4⟩
      have HB4 := Lib.hid (HB3.out.trans (hb4.mono HB3.out.size))
      clear hb4
      go_wp2
      go_ret
      exact ⟨rfl, HB4.out⟩
    · refine (rrobin_zero a b c _ h0 H.out.1 H.out.2.2.1).mono ?_
      rintro e w3 ⟨rfl, rfl⟩
      have e0 : roundsL a.toNat b.toNat c.toNat = [] := by rw [show b.toNat = 0 by omega]; rfl
      rw [e0] at HO2
      go_wp2_with fail
      refine (same_any _ _ u _ [] _ HO2.out.rdB (nil_rd _) (by decide)).mono ?_
      rintro e w4 ⟨rfl, hb4⟩
      have HB4 := Lib.hid (HB2.out.trans (hb4.mono HB2.out.size))
      clear hb4
      go_wp2
      go_ret
      exact ⟨rfl, HB4.out⟩
  · have HBAD := Lib.hid hbad
    clear hbad
    go_enter Try.func4, Try.ntmps4
    go_wp2_with fail
    refine (first_ok _).mono ?_
    rintro e w1 ⟨rfl, hb1⟩
    have HB1 := Lib.hid hb1
    clear hb1
    go_wp2_with fail
    refine (robin_no a b c _ HBAD.out).mono ?_
    rintro e w2 ⟨rfl, rfl⟩
    go_wp2_with fail
    refine (rrobin_no a b c _ HBAD.out).mono ?_
    rintro e w3 ⟨rfl, rfl⟩
    go_wp2_with fail
    refine (same_any _ _ _ _ [] _ (nil_rd _) (nil_rd _) (by decide)).mono ?_
    rintro e w4 ⟨rfl, hb4⟩
    have HB4 := Lib.hid (HB1.out.trans (hb4.mono HB1.out.size))
    clear hb4
    go_wp2
    go_ret
    exact ⟨rfl, HB4.out⟩
end Go.Proofs.Ytkiicgdfibncfaa
