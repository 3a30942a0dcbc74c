/- The text of 0 in base 16. -/
import Derived.Test.YtocjapnagggapaaDoorClkJ
import Derived.Lib.SlBytesRow
namespace Go.Proofs.YtocjapnagggapaaDoor
open Go.RowKit

/-- What the library's table holds at 15. -/
def Tab (w : World) : Prop := w.cell? ⟨2, 15, none⟩ = some (.int .u8 4)
theorem Tab.below {w w' : World} (h : Tab w) (hb : Below w.heap.size w w') : Tab w' := by
  unfold Tab at *
  rw [hb.cell (World.block_lt_of_cell? _ _ h)]; exact h
theorem pow_any (W : World) : Calls Tryd.prog 40 #[.int .i64 16] W fun e w' => e = .returned (.bool true) ∧ W = w' := by
  go_enter Tryd.func40, Tryd.ntmps40
  go_wp2_with fail
  go_ret
  exact ⟨rfl, rfl⟩
theorem tz64 (W : World) (h : Tab W) : Calls Tryd.prog 43 #[.int .u64 16] W fun e w' => e = .returned (.int .i64 4) ∧ W = w' := by
  have h1 := h
  unfold Tab at h1
  have hl := World.block_lt_of_cell? _ _ h1
  have a1 : IntKind.u64.wrap (-16) = 18446744073709551600 := by kernel_rfl
  have a2 : bits BinOp.and IntKind.u64 16 18446744073709551600 = 16 := by kernel_rfl
  have a3 : IntKind.u64.wrap (16 * 285870213051353865) = 4573923408821661840 := by kernel_rfl
  have a4 : (4573923408821661840 : Int) / 288230376151711744 = 15 := by kernel_rfl
  go_enter Tryd.func43, Tryd.ntmps43
  go_wp2_with fail
  go_ret
  exact ⟨rfl, rfl⟩
theorem tz_any (W : World) (h : Tab W) : Calls Tryd.prog 41 #[.int .u64 16] W fun e w' => e = .returned (.int .i64 4) ∧ W = w' := by
  have HT := Lib.hid h
  go_enter Tryd.func41, Tryd.ntmps41
  go_wp2_with fail
  refine (tz64 _ HT.out).mono ?_
  rintro e w' ⟨rfl, rfl⟩
  go_wp2_with fail
  go_ret
  exact ⟨rfl, rfl⟩
def z65 : Array Value := (List.replicate 65 (Value.int .u8 0)).toArray
theorem zero65 (w : World) : (zeroValue 91).run Tryd.prog w = .ok (.agg z65) w := by kernel_rfl
theorem fmtbits_any (W : World) (h : Tab W) : Calls Tryd.prog 36 #[.slice none 0 0, .int .u64 0, .int .i64 16, .bool false, .bool false] W fun e w' => e = .returned (.tuple #[.slice none 0 0, .string ⟨#[48]⟩]) ∧ Below W.heap.size W w' := by
  have HT := Lib.hid h
  have z := zero65
  have HE := Lib.hid (ext_alloc' W (.cells z65 91))
  have HB : Hid (Blk (W.alloc (.cells z65 91)) W.heap.size 91 z65) := Lib.hid (Blkf.new_at _ _ _ _ rfl)
  have HT1 := Lib.hid (h.below HE.out)
  clear h
  go_enter Tryd.func36, Tryd.ntmps36
  go_wp2_with fail
  refine (pow_any _).mono ?_
  rintro e w1 ⟨rfl, rfl⟩
  go_wp2_with fail
  refine (tz_any _ HT1.out).mono ?_
  rintro e w1 ⟨rfl, rfl⟩
  go_wp2_with fail
  go_loopw [1, 13] (fun u i wr => u = .int .u64 0 ∧ i = .int .i64 65 ∧ wr = W.alloc (.cells z65 91)) (fun _ _ _ => 0)
  case atStart => exact ⟨rfl, rfl, rfl⟩
  case round =>
    obtain ⟨rfl, rfl, rfl⟩ := hrel
    have hcl : (W.alloc (.cells z65 91)).cell? ⟨W.heap.size, 64, none⟩ = some (.int .u8 0) := (HB.out.cell 64).trans (by kernel_rfl)
    have hbl := HB.out.lt
    have hfz := Blk.frozen HB.out 64
    have key : ∀ w, Lib.Bytes w W.heap.size 64 ⟨#[48]⟩ → (convert 58 9 (.slice (some ⟨W.heap.size, 64, none⟩) 1 1)).run Tryd.prog w = .ok (.string ⟨#[48]⟩) w := fun w h =>
      Lib.run_convert_whole w 58 5 9 Tryd.underlying58 Tryd.underlying5 Tryd.underlying9 W.heap.size 64 ⟨#[48]⟩ h 1
    have hby : Lib.Bytes (W.alloc (.cells (z65.setIfInBounds 64 (.int .u8 48)) 91)) W.heap.size 64 ⟨#[48]⟩ := fun i hi => by
      obtain rfl : i = 0 := by have : i < 1 := hi; omega
      have hb : Blk (W.alloc (.cells (z65.setIfInBounds 64 (.int .u8 48)) 91)) W.heap.size 91 (z65.setIfInBounds 64 (.int .u8 48)) := Blkf.new_at _ _ _ _ rfl
      exact (hb.cell 64).trans (by kernel_rfl)
    have HE2 := Lib.hid (ext_alloc' W (.cells (z65.setIfInBounds 64 (.int .u8 48)) 91))
    go_wp2_with fail
    rw [key]
    · clear hby key
      go_wp2_with fail
      go_ret2
      exact ⟨rfl, HE2.out⟩
    · exact hby
theorem fmtin_any (W : World) (h : Tab W) : Calls Tryd.prog 30 #[.int .u64 0, .int .i64 16] W fun e w' => e = .returned (.string ⟨#[48]⟩) ∧ Below W.heap.size W w' := by
  have HT := Lib.hid h
  go_enter Tryd.func30, Tryd.ntmps30
  go_wp2_with fail
  refine (fmtbits_any _ HT.out).mono ?_
  rintro e w' ⟨rfl, hb⟩
  have HB := Lib.hid hb
  clear hb
  go_wp2_with fail
  go_ret
  exact ⟨rfl, HB.out⟩
theorem fmt0_any (W : World) (h : Tab W) : Calls Tryd.prog 23 #[.int .u64 0, .int .i64 16] W fun e w' => e = .returned (.string ⟨#[48]⟩) ∧ Below W.heap.size W w' := by
  have HT := Lib.hid h
  go_enter Tryd.func23, Tryd.ntmps23
  go_wp2_with fail
  refine (fmtin_any _ HT.out).mono ?_
  rintro e w' ⟨rfl, hb⟩
  have HB := Lib.hid hb
  clear hb
  go_wp2_with fail
  go_ret
  exact ⟨rfl, HB.out⟩
end Go.Proofs.YtocjapnagggapaaDoor
