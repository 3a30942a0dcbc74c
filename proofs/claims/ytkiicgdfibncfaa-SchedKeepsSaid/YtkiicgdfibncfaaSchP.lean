/- SchedNumbers, SchedRandoms. -/
import Derived.Test.YtkiicgdfibncfaaSchO
namespace Go.Proofs.Ytkiicgdfibncfaa
open Go.RowKit Go.ChangeShapes

theorem row64 {w : World} {a : Option Addr} {len cap : Nat} {z : List Int} (h : IsRow .i64 w a len cap z) (k : Nat) (hk : k < len) : ∃ b o x, a = some ⟨b, o, none⟩ ∧ b < w.heap.size ∧ w.cell? ⟨b, o + k, none⟩ = some (.int .i64 x) ∧ x < 9223372036854775808 := by
  rcases h with ⟨_, rfl, _, _⟩ | ⟨x, rfl, hl, hm, hz, hc, hw⟩
  · omega
  · have h0 := hc k (by omega)
    obtain ⟨b, o, spot⟩ := x
    have hspot : spot = none := by simpa [Addr.add] using World.cell?_spot (hc 0 (by omega))
    subst hspot
    have e : (⟨b, o, none⟩ : Addr).add k = ⟨b, o + k, none⟩ := by unfold Addr.add; split <;> simp_all
    rw [e] at h0
    have hb := i64_of_wf (hw (z.getD k 0) (by rw [List.getD_eq_getElem?_getD, List.getElem?_eq_getElem (by omega)]; exact List.getElem_mem _))
    exact ⟨b, o, _, rfl, World.block_lt_of_cell? _ _ h0, h0, hb.2⟩
theorem row64_len {w : World} {a : Option Addr} {len cap : Nat} {z : List Int} (h : IsRow .i64 w a len cap z) : len ≤ 9223372036854775807 := by
  rcases h with ⟨_, rfl, _, _⟩ | ⟨x, rfl, hl, hm, _⟩
  · omega
  · unfold maxLen at hm; omega
def NumRel (w1 : World) (k : Nat) (wr : World) : Prop := ∃ s, Blk wr w1.heap.size 51 #[.int .u64 s] ∧ Blk wr (w1.heap.size + 1) 29 #[.int .u64 s] ∧ Below w1.heap.size w1 wr
set_option maxHeartbeats 4000000 in
theorem Law.SchedNumbers (seed : Int) (A : Option Addr) (len c : Nat) (z : List Int) (W : World) (_ : (Lit.int .u64 seed).wf = true) (hz : IsRow .i64 W A len c z) (_ : 8 * c ≤ 140737488351232) :
    Calls Try.prog 3 #[.int .u64 seed, .slice A len c] W fun e w' => e = .returned (.bool true) ∧ Below W.heap.size W w' := by
  have HZ := Lib.hid hz
  have hll := row64_len hz
  clear hz
  go_enter Try.func3, Try.ntmps3
  go_wp2_with fail
  refine (first_ok _).mono ?_
  rintro e w1 ⟨rfl, hb1⟩
  have HB1 := Lib.hid hb1
  clear hb1
  go_wp2_with fail
  refine (new_any seed _).mono ?_
  rintro e w2 ⟨rfl, rfl⟩
  have hs1 : W.heap.size ≤ w1.heap.size := HB1.out.size
  go_wp2_with fail
  go_loopw [19] (fun i wr => ∃ k : Nat, k ≤ len ∧ i = .int .i64 k ∧ NumRel w1 k wr) (fun i _ => len - (intOf i).toNat)
  case atStart => exact ⟨0, by omega, rfl, seed, (Blkf.new_at w1 _ _ _ rfl).alloc _, Blkf.new_at _ _ _ _ (by simp), ((Below.refl _ w1).alloc (Nat.le_refl _) _).alloc (by simp) _⟩
  case round =>
    obtain ⟨k, hk, rfl, s, hB1, hB2, hbw⟩ := hrel
    have HP := Lib.hid hB1
    have HQ := Lib.hid hB2
    have HW := Lib.hid hbw
    clear hB1 hB2 hbw
    have fin : Hid (∀ w, Below w1.heap.size w1 w → Below W.heap.size W w) := Lib.hid (fun w h => HB1.out.trans (h.mono hs1))
    by_cases hkl : k < len
    · obtain ⟨b, o, x, rfl, hbW, hc, hx⟩ := row64 HZ.out k hkl
      have hcell : wr.cell? ⟨b, o + k, none⟩ = some (.int .i64 x) := by
        rw [HW.out.cell (p := ⟨b, o + k, none⟩) (by show b < w1.heap.size; omega), HB1.out.cell (p := ⟨b, o + k, none⟩) hbW]
        exact hc
      have hbl : b < wr.heap.size := by have := HW.out.size; omega
      clear hc
      by_cases hk100 : k < 100
      · go_wp2_with fail
        refine (int_any w1.heap.size s x _ HP.out hx).mono ?_
        rintro e w3 ⟨rfl, hp3, hk3⟩
        have hq3 := hk3.blk HQ.out (by unfold One; omega)
        have hw3 := HW.out.trans (hk3.below (fun i hi => by unfold One at hi; omega) HW.out.size)
        have HP3 := Lib.hid hp3
        have HQ3 := Lib.hid hq3
        have HW3 := Lib.hid hw3
        clear hp3 hk3 hq3 hw3
        go_wp2_with fail
        refine (rint_any (w1.heap.size + 1) s x _ HQ3.out hx).mono ?_
        rintro e w4 ⟨rfl, hq4, hk4⟩
        have HP4 := Lib.hid (hk4.blk HP3.out (by unfold One; omega))
        have HW4 := Lib.hid (HW3.out.trans (hk4.below (fun i hi => by unfold One at hi; omega) HW3.out.size))
        have HQ4 := Lib.hid hq4
        clear hq4 hk4
        generalize stS s x = s2 at *
        go_wp2_with fail
        refine (next_any w1.heap.size s2 _ HP4.out).mono ?_
        rintro e w5 ⟨rfl, hp5, hk5⟩
        have HQ5 := Lib.hid (hk5.blk HQ4.out (by unfold One; omega))
        have HW5 := Lib.hid (HW4.out.trans (hk5.below (fun i hi => by unfold One at hi; omega) HW4.out.size))
        have HP5 := Lib.hid hp5
        clear hp5 hk5
        go_wp2_with fail
        refine (rnext_any (w1.heap.size + 1) s2 _ HQ5.out).mono ?_
        rintro e w6 ⟨rfl, hq6, hk6⟩
        have HP6 := Lib.hid (hk6.blk HP5.out (by unfold One; omega))
        have HW6 := Lib.hid (HW5.out.trans (hk6.below (fun i hi => by unfold One at hi; omega) HW5.out.size))
        have HQ6 := Lib.hid hq6
        clear hq6 hk6
        go_wp2_with fail
        go_roundw
        case rel => exact ⟨k + 1, hkl, by go_num, _, HP6.out, HQ6.out, HW6.out⟩
        case measure => simp [intOf]; omega
      · have hge : (100 : Int) ≤ (k : Int) := by omega
        go_wp2_with fail
        refine (next_nil _).mono ?_
        rintro e w6 ⟨rfl, rfl⟩
        go_wp2_with fail
        refine (int_nil _).mono ?_
        rintro e w6 ⟨rfl, rfl⟩
        go_wp2
        go_ret
        exact ⟨rfl, fin.out _ HW.out⟩
    · obtain rfl : k = len := by omega
      go_wp2_with fail
      refine (next_nil _).mono ?_
      rintro e w6 ⟨rfl, rfl⟩
      go_wp2_with fail
      refine (int_nil _).mono ?_
      rintro e w6 ⟨rfl, rfl⟩
      go_wp2
      go_ret
      exact ⟨rfl, fin.out _ HW.out⟩
theorem random_no (seed nodes n : Int) (ws : List Int) (h7 : ws.length = 7) (W : World) (h : ¬ okR nodes n ws) :
    Calls Try.prog 17 #[.int .u64 seed, .int .i64 nodes, .int .i64 n, wV ws] W fun e w' => e = .returned (.slice none 0 0) ∧ Below W.heap.size W w' := by
  obtain ⟨x0, x1, x2, x3, x4, x5, x6, hws⟩ : ∃ a b c d e f g, ws = [a, b, c, d, e, f, g] := list7 h7
  have HV : Hid (wV ws = .agg #[.int .i64 x0, .int .i64 x1, .int .i64 x2, .int .i64 x3, .int .i64 x4, .int .i64 x5, .int .i64 x6]) := Lib.hid (by rw [hws]; rfl)
  have HH := Lib.hid h
  rw [HV.out]
  clear hws h
  by_cases hw : okW ws
  · have HS := Lib.hid (fun W => sum_yes ws h7 hw W)
    have HH2 : Hid (¬ (0 < wsum ws 7 ∧ 1 ≤ n ∧ n ≤ 100000 ∧ 1 ≤ nodes ∧ nodes ≤ 16)) := Lib.hid (fun h => HH.out ⟨hw, h⟩)
    generalize wsum ws 7 = T at *
    clear hw h7
    go_enter Try.func17, Try.ntmps17
    go_wp2_with fail
    have hsum := HS.out (W.alloc (.cells #[.int .i64 x0, .int .i64 x1, .int .i64 x2, .int .i64 x3, .int .i64 x4, .int .i64 x5, .int .i64 x6] 38))
    rw [HV.out] at hsum
    refine hsum.mono ?_
    rintro e w1 ⟨rfl, hb1⟩
    have HB1 : Hid (Below W.heap.size W w1) := Lib.hid (((Below.refl _ W).alloc (Nat.le_refl _) _).trans (hb1.mono (by simp)))
    clear hb1 hsum
    have hc := HH2.out
    rcases (show T ≤ 0 ∨ (0 < T ∧ n < 1) ∨ (0 < T ∧ 1 ≤ n ∧ 100000 < n) ∨ (0 < T ∧ 1 ≤ n ∧ n ≤ 100000 ∧ nodes < 1) ∨ (0 < T ∧ 1 ≤ n ∧ n ≤ 100000 ∧ 1 ≤ nodes ∧ 16 < nodes) by omega) with h1 | ⟨h0, h1⟩ | ⟨h0, h1, h2⟩ | ⟨h0, h1, h2, h3⟩ | ⟨h0, h1, h2, h3, h4⟩
    · have e1 : decide (0 < T) = false := by simp; omega
      rw [e1]
      clear hc
      go_wp2
      go_ret
      exact ⟨rfl, HB1.out⟩
    all_goals
      rw [show decide (0 < T) = true by simpa using h0]
      clear hc
      go_wp2
      go_ret
      exact ⟨rfl, HB1.out⟩
  · have HS := Lib.hid (fun W => sum_no ws h7 hw W)
    clear hw h7
    go_enter Try.func17, Try.ntmps17
    go_wp2_with fail
    have hsum := HS.out (W.alloc (.cells #[.int .i64 x0, .int .i64 x1, .int .i64 x2, .int .i64 x3, .int .i64 x4, .int .i64 x5, .int .i64 x6] 38))
    rw [HV.out] at hsum
    refine hsum.mono ?_
    rintro e w1 ⟨rfl, hb1⟩
    have HB1 : Hid (Below W.heap.size W w1) := Lib.hid (((Below.refl _ W).alloc (Nat.le_refl _) _).trans (hb1.mono (by simp)))
    clear hb1 hsum
    go_wp2
    go_ret
    exact ⟨rfl, HB1.out⟩
set_option maxHeartbeats 4000000 in
theorem rrandom_no (seed nodes n : Int) (ws : List Int) (h7 : ws.length = 7) (W : World) (h : ¬ okR nodes n ws) :
    Calls Try.prog 18 #[.int .u64 seed, .int .i64 nodes, .int .i64 n, wV ws] W fun e w' => e = .returned (.slice none 0 0) ∧ Below W.heap.size W w' := by
  have HI := Lib.hid (fun k hk => w_index ws h7 k hk)
  have HN := Lib.hid (fun k (hk : k < 7) => wsum_succ ws k (by omega))
  obtain ⟨x0, x1, x2, x3, x4, x5, x6, hws⟩ : ∃ a b c d e f g, ws = [a, b, c, d, e, f, g] := list7 h7
  have HV : Hid (wV ws = .agg #[.int .i64 x0, .int .i64 x1, .int .i64 x2, .int .i64 x3, .int .i64 x4, .int .i64 x5, .int .i64 x6]) := Lib.hid (by rw [hws]; rfl)
  have HBA : Hid (Below W.heap.size W (W.alloc (.cells #[.int .i64 x0, .int .i64 x1, .int .i64 x2, .int .i64 x3, .int .i64 x4, .int .i64 x5, .int .i64 x6] 38))) := Lib.hid ((Below.refl _ W).alloc (Nat.le_refl _) _)
  have HH := Lib.hid h
  rw [HV.out]
  clear hws h
  by_cases hw : okW ws
  · have HH2 : Hid (¬ (0 < wsum ws 7 ∧ 1 ≤ n ∧ n ≤ 100000 ∧ 1 ≤ nodes ∧ nodes ≤ 16)) := Lib.hid (fun h => HH.out ⟨hw, h⟩)
    have HWB := Lib.hid (okW_wg hw)
    have HSB := Lib.hid (fun k (hk : k ≤ 7) => wsum_le ws k (by omega) (fun j _ => okW_wg hw j))
    have hT := (HSB.out 7 (by omega)).1
    generalize hTT : wsum ws 7 = T at *
    have HT := Lib.hid hTT
    clear hw h7 hTT
    go_enter Try.func18, Try.ntmps18
    go_wp2_with fail
    go_loop [9, 20] (fun v i => ∃ k : Nat, k ≤ 7 ∧ i = .int .i64 k ∧ v = .int .i64 (wsum ws k)) (fun _ i => 7 - (intOf i).toNat)
    case atStart => exact ⟨0, by omega, rfl, rfl⟩
    case round =>
      obtain ⟨k, hk, rfl, rfl⟩ := hrel
      obtain ⟨s0, s1⟩ := HSB.out k hk
      by_cases hkl : k < 7
      · have hx := HI.out k hkl
        rw [HV.out] at hx
        obtain ⟨b0, b1⟩ := HWB.out k
        go_wp2_with fail
        go_round
        case rel => exact ⟨k + 1, hkl, by go_num, by rw [HN.out k hkl]⟩
        case measure => simp [intOf]; omega
      · obtain rfl : k = 7 := by omega
        rw [HT.out]
        clear s0 s1
        have hc := HH2.out
        rcases (show T = 0 ∨ (0 < T ∧ n < 1) ∨ (0 < T ∧ 1 ≤ n ∧ 100000 < n) ∨ (0 < T ∧ 1 ≤ n ∧ n ≤ 100000 ∧ nodes < 1) ∨ (0 < T ∧ 1 ≤ n ∧ n ≤ 100000 ∧ 1 ≤ nodes ∧ 16 < nodes) by omega) with rfl | ⟨h0, h1⟩ | ⟨h0, h1, h2⟩ | ⟨h0, h1, h2, h3⟩ | ⟨h0, h1, h2, h3, h4⟩
        · clear hc
          go_wp2
          go_ret
          exact ⟨rfl, HBA.out⟩
        all_goals
          have hT0 : (T == 0) = false := by simp; omega
          have hT1 : T ≠ 0 := by omega
          clear hc
          go_wp2
          go_ret
          exact ⟨rfl, HBA.out⟩
  · obtain ⟨m, hm, hbad, hgood⟩ := first_bad ws h7 hw
    have HG := Lib.hid hgood
    have HBD := Lib.hid hbad
    have HSB := Lib.hid (fun k (hk : k ≤ m) => wsum_le ws k (by omega) (fun j hj => hgood j (by omega)))
    clear hw h7 hgood hbad
    go_enter Try.func18, Try.ntmps18
    go_wp2_with fail
    go_loop [9, 20] (fun v i => ∃ k : Nat, k ≤ m ∧ i = .int .i64 k ∧ v = .int .i64 (wsum ws k)) (fun _ i => 7 - (intOf i).toNat)
    case atStart => exact ⟨0, by omega, rfl, rfl⟩
    case round =>
      obtain ⟨k, hk, rfl, rfl⟩ := hrel
      obtain ⟨s0, s1⟩ := HSB.out k hk
      have hk7 : k < 7 := by omega
      have hx := HI.out k hk7
      rw [HV.out] at hx
      by_cases hkl : k < m
      · obtain ⟨b0, b1⟩ := HG.out k hkl
        go_wp2_with fail
        go_round
        case rel => exact ⟨k + 1, hkl, by go_num, by rw [HN.out k hk7]⟩
        case measure => simp [intOf]; omega
      · obtain rfl : k = m := by omega
        have hb := HBD.out
        rcases (show wg ws k < 0 ∨ (0 ≤ wg ws k ∧ 1000000 < wg ws k) by omega) with h1 | ⟨h1, h2⟩
        · clear hb
          go_wp2
          go_ret
          exact ⟨rfl, HBA.out⟩
        · clear hb
          go_wp2
          go_ret
          exact ⟨rfl, HBA.out⟩
end Go.Proofs.Ytkiicgdfibncfaa
