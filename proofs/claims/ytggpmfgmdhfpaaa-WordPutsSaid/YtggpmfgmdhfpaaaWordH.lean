/- The law's own first function, and strings of bytes. -/
import Derived.Test.YtggpmfgmdhfpaaaWordG
import Derived.Laws.BytesArg
namespace Go.Proofs.Ytggpmfgmdhfpaaa
open Go.RowKit

def strB (l : List Nat) : ByteArray := ⟨(l.map UInt8.ofNat).toArray⟩

theorem conv_bts {w : World} {A : Option Addr} {l : List Nat} {n c : Nat} (h : Bts w A l) (hn : l.length = n) :
    (convert 22 9 (.slice A n c)).run Try.prog w = .ok (.string (strB l)) w := by
  subst hn
  have hs := Try.underlying22
  have he := Try.underlying5
  have hd := Try.underlying9
  rcases Nat.eq_zero_or_pos l.length with h0 | h0
  · obtain rfl : l = [] := List.eq_nil_of_length_eq_zero h0
    cases A with
    | none => exact run_convert_bytes_nil w _ _ hs he 0 c _ hd
    | some a =>
      have hl : (loadCells a 0).run Try.prog w = .ok (([] : List Int).map (Value.int .u8)).toArray w := by
        have := run_loadCells_list (P := Try.prog) w a [] (fun j v hj => by simp at hj)
        simpa using this
      rw [run_convert_bytes_string w _ _ _ _ _ c hs he hd]
      show (Conv.bytesToString (.slice (some a) 0 c)).run Try.prog w = _
      rw [run_bytesToString w a 0 c [] hl]
      rfl
  · obtain ⟨b, o, rfl, hc⟩ := h.2 h0
    have := run_convert_bytes_arg (P := Try.prog) w _ _ hs he b o l.length c (l.map Int.ofNat) (by simp) (fun i hi => by
      rw [hc i hi]
      simp [List.getElem?_eq_getElem hi]) _ hd
    rw [this]
    simp [strOfNums, strB, Function.comp_def]

theorem get_at (A : Option Addr) (l : List Nat) (n c : Nat) (a s : Int) (w : World) (hl : l.length = n) (hn : n ≤ 9223372036854775807) (hB : Bts w A l) (ht : thereB n a s = true) :
    Calls Try.prog 8 #[.slice A n c, .int .i64 a, .int .i64 s] w fun e w' => e = .returned (.tuple #[.int .u64 (getV l a s), .bool true]) ∧ w = w' := by
  subst hl
  exact get_yes A l c a s w hn hB ht

theorem bts_new3 (w : World) (x y z : Nat) (hx : x < 256) (hy : y < 256) (hz : z < 256) : Bts (w.alloc (.cells #[.int .u8 x, .int .u8 y, .int .u8 z] 5)) (some ⟨w.heap.size, 0, none⟩) [x, y, z] := by
  refine ⟨fun i => ?_, fun _ => ⟨_, _, rfl, fun i hi => ?_⟩⟩
  · match i with
    | 0 => exact hx
    | 1 => exact hy
    | 2 => exact hz
    | i + 3 => simp
  · rw [World.cell?_alloc_new]
    match i, hi with
    | 0, _ => rfl
    | 1, _ => rfl
    | 2, _ => rfl
    | i + 3, hi => exact absurd hi (by simp)

theorem first_ok (w : World) :
    Calls Try.prog 7 #[] w fun e w' => e = .returned (.bool true) ∧ Below w.heap.size w w' := by
  go_enter Try.func7, Try.ntmps7
  go_wp2_with fail
  refine (get_at _ [52, 18, 255] _ _ _ _ _ rfl (by decide) (bts_new3 w 52 18 255 (by decide) (by decide) (by decide)) rfl).mono ?_
  rintro e w' ⟨rfl, rfl⟩
  rw [show (getV [52, 18, 255] 0 2 : Int) = 4660 from rfl]
  go_wp2_with fail
  refine (get_no _ _ _ _ _ _ (by decide) rfl).mono ?_
  rintro e w' ⟨rfl, rfl⟩
  go_wp2_with fail
  refine (sign_any 128 1 _ (by decide)).mono ?_
  rintro e w' ⟨rfl, rfl⟩
  rw [show ((signV 128 1 : Nat) : Int) = 18446744073709551488 from rfl]
  go_wp2_with fail
  refine (aligned_any 12 4 _ (by decide)).mono ?_
  rintro e w' ⟨rfl, rfl⟩
  rw [show alignedB 12 4 = true from rfl]
  go_wp2_with fail
  refine (aligned_any 12 8 _ (by decide)).mono ?_
  rintro e w' ⟨rfl, rfl⟩
  rw [show alignedB 12 8 = false from rfl]
  go_wp2_with fail
  refine (bytes_any 258 2 _ (by decide)).mono ?_
  rintro e w' ⟨A, c, rfl, hB, hA, hb⟩
  have hcv := conv_bts (c := c) hB rfl
  rw [show bytesOf 258 2 = [2, 1] from rfl] at hcv ⊢
  rw [show ([2, 1] : List Nat).length = 2 from rfl] at hcv ⊢
  have hs : ((strB [2, 1]).toList == [2, 1]) = true := by rw [strB, ByteArray.toList_mk]; rfl
  have HB := Lib.hid hb
  clear hB hA hb
  go_wp2
  go_ret
  exact ⟨rfl, (((Below.refl _ w).alloc (Nat.le_refl _) _).alloc (by simp) _).trans (HB.out.mono (by simp; omega))⟩
end Go.Proofs.Ytggpmfgmdhfpaaa
