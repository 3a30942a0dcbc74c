/- The reference's Beside: the walk. -/
import Derived.Test.YtocjapnagggapaaDoorCtE
namespace Go.Proofs.YtocjapnagggapaaDoor
open Go.RowKit

set_option maxRecDepth 100000 in
set_option maxHeartbeats 8000000 in
theorem rbeside_any (A : Option Addr) (len cap : Nat) (C : Nat → Array Value) (f : Nat → Fc) (W : World) (hl : len ≤ 40) (h : FsAt W A len C f) :
    Calls Tryd.prog 9 #[.slice A len cap] W fun e w' => e = .returned (.int .i64 (besTot f len : Int)) ∧ Ext W w' := by
  have HFS := Lib.hid h
  have HTL := Lib.hid (besTot_le f)
  have HRL := Lib.hid (besRow_le f)
  clear h
  go_enter Tryd.func9, Tryd.ntmps9
  go_wp2_with fail
  refine (rahead_any A len cap C f W hl HFS.out).mono ?_
  rintro e w1 ⟨ob, G, rfl, hR⟩
  have HRW := Lib.hid hR
  have HFS1 := Lib.hid (HFS.out.below hR.e)
  clear hR
  go_wp2_with fail
  go_loopw [4, 11] (fun n i wr => ∃ k : Nat, k ≤ len ∧ i = .int .i64 (k : Int) ∧ n = .int .i64 (besTot f k : Int) ∧ wr = w1) (fun _ i _ => len - (intOf i).toNat)
  case atStart => exact ⟨0, by omega, rfl, rfl, rfl⟩
  case round =>
    obtain ⟨i, hi, rfl, rfl, rfl⟩ := hrel
    by_cases hil : i < len
    · obtain ⟨b, o, rfl, hbl, hcc⟩ := HFS1.out (by omega)
      have HCC := Lib.hid hcc
      have hii : (i : Int) < (len : Int) := by omega
      have c1 : wr.cell? ⟨b, o + i * 16 + 1, none⟩ = some (.int .i64 (f i).node) := (hcc i hil).1 1 _ (by rw [Array.getElem?_toList]; exact (hcc i hil).2.node)
      have oc : wr.cell? ⟨ob, i, none⟩ = some (.slice (some ⟨G i, 0, none⟩) len len) := (HRW.out.out.cell i).trans ((vC_get _ hil).trans (by unfold outV; rw [if_pos hil]))
      have ol := HRW.out.out.lt
      have gl := (HRW.out.row i hil).lt
      clear hcc
      go_wp2_with fail
      go_loopw [4, 6] (fun n q wx => ∃ k : Nat, k ≤ i ∧ q = .int .i64 (k : Int) ∧ n = .int .i64 ((besTot f i + besRow f i k : Nat) : Int) ∧ wx = wr) (fun _ q _ => i - (intOf q).toNat)
      case atStart => exact ⟨0, by omega, rfl, rfl, rfl⟩
      case round =>
        obtain ⟨k, hk, rfl, rfl, rfl⟩ := hrel
        by_cases hki : k < i
        · have hkl : k < len := by omega
          have hik : (k : Int) < (i : Int) := by omega
          have hkk : (k : Int) < (len : Int) := by omega
          have c2 := (HCC.out k hkl).1 1 (.int .i64 (f k).node) (by rw [Array.getElem?_toList]; exact (HCC.out k hkl).2.node)
          have gc := ((HRW.out.row i hil).cell k).trans (vC_get _ hkl)
          have HN : Hid (besTot f i + besRow f i k ≤ 2000) := Lib.hid (by
            have h1 := HTL.out i
            have h2 := HRL.out i k
            have : i * i ≤ 40 * 40 := Nat.mul_le_mul (by omega) (by omega)
            omega)
          cases hg : ancG f len i k with
          | true =>
            rw [hg] at gc
            have HB : Hid (besB f i k = false) := Lib.hid (by rw [besB_anc hki hil]; simp [hg])
            generalize hN1 : besTot f i + besRow f i k = N1 at *
            have HN1 := Lib.hid hN1
            clear hN1
            go_wp2_with fail
            go_roundw
            case rel => exact ⟨k + 1, by omega, by go_num, by rw [besRow, HB.out, ← Nat.add_assoc, HN1.out]; rfl, trivial⟩
            case measure => simp [intOf]; omega
          | false =>
            rw [hg] at gc
            rcases ok3 (f i) with ⟨h1, ho⟩ | ⟨h1, h2, ho⟩ | ⟨h1, h2, ho⟩
            · have HB : Hid (besB f i k = false) := Lib.hid (by rw [besB_anc hki hil]; simp [ho])
              generalize hN1 : besTot f i + besRow f i k = N1 at *
              have HN1 := Lib.hid hN1
              clear hN1
              go_wp2_with fail
              go_roundw
              case rel => exact ⟨k + 1, by omega, by go_num, by rw [besRow, HB.out, ← Nat.add_assoc, HN1.out]; rfl, trivial⟩
              case measure => simp [intOf]; omega
            · have HB : Hid (besB f i k = false) := Lib.hid (by rw [besB_anc hki hil]; simp [ho])
              generalize hN1 : besTot f i + besRow f i k = N1 at *
              have HN1 := Lib.hid hN1
              clear hN1
              go_wp2_with fail
              go_roundw
              case rel => exact ⟨k + 1, by omega, by go_num, by rw [besRow, HB.out, ← Nat.add_assoc, HN1.out]; rfl, trivial⟩
              case measure => simp [intOf]; omega
            · rcases ok3 (f k) with ⟨g1, gk⟩ | ⟨g1, g2, gk⟩ | ⟨g1, g2, gk⟩
              · have HB : Hid (besB f i k = false) := Lib.hid (by rw [besB_anc hki hil]; simp [gk])
                generalize hN1 : besTot f i + besRow f i k = N1 at *
                have HN1 := Lib.hid hN1
                clear hN1
                go_wp2_with fail
                go_roundw
                case rel => exact ⟨k + 1, by omega, by go_num, by rw [besRow, HB.out, ← Nat.add_assoc, HN1.out]; rfl, trivial⟩
                case measure => simp [intOf]; omega
              · have HB : Hid (besB f i k = false) := Lib.hid (by rw [besB_anc hki hil]; simp [gk])
                generalize hN1 : besTot f i + besRow f i k = N1 at *
                have HN1 := Lib.hid hN1
                clear hN1
                go_wp2_with fail
                go_roundw
                case rel => exact ⟨k + 1, by omega, by go_num, by rw [besRow, HB.out, ← Nat.add_assoc, HN1.out]; rfl, trivial⟩
                case measure => simp [intOf]; omega
              · have HB : Hid (besB f i k = true) := Lib.hid (by rw [besB_anc hki hil]; simp [ho, gk, hg])
                generalize hN1 : besTot f i + besRow f i k = N1 at *
                have HN1 := Lib.hid hN1
                have hnn := HN.out
                clear hN1
                go_wp2_with fail
                go_roundw
                case rel => exact ⟨k + 1, by omega, by go_num, by rw [besRow, HB.out, ← Nat.add_assoc, HN1.out]; go_num, trivial⟩
                case measure => simp [intOf]; omega
        · obtain rfl : k = i := by omega
          go_wp2_with fail
          go_roundw
          case rel => exact ⟨k + 1, hil, by go_num, rfl, trivial⟩
          case measure => simp [intOf]; omega
    · obtain rfl : len = i := by omega
      go_wp2_with fail
      go_ret
      exact ⟨rfl, HRW.out.e⟩
end Go.Proofs.YtocjapnagggapaaDoor
