/- The walks of the laws WordGets, WordSigns, WordBack. -/
import Derived.Test.YtggpmfgmdhfpaaaWordH
import Derived.Test.YtggpmfgmdhfpaaaOpen
import Derived.OpenShut
namespace Go.Proofs.Ytggpmfgmdhfpaaa
open Go.RowKit Go.ChangeShapes

theorem bts_of_row {w : World} {a : Option Addr} {len cap : Nat} {zs : List Int} (h : IsRow .u8 w a len cap zs) : ∃ l : List Nat, l.length = len ∧ Bts w a l ∧ len ≤ 9223372036854775807 := by
  rcases h with ⟨rfl, rfl, rfl, rfl⟩ | ⟨x, rfl, hl, hm, hz, hc, hw⟩
  · exact ⟨[], rfl, ⟨fun i => by simp, fun h => by simp at h⟩, by omega⟩
  · unfold maxLen at hm
    have hlen : ((zs.take len).map Int.toNat).length = len := by simp; omega
    have hget : ∀ i, i < len → ((zs.take len).map Int.toNat).getD i 0 = (zs.getD i 0).toNat := fun i hi => by
      simp [List.getD_eq_getElem?_getD, List.getElem?_take, hi]
      cases zs[i]? <;> simp
    have hb : ∀ i, i < len → 0 ≤ zs.getD i 0 ∧ zs.getD i 0 < 256 := fun i hi => u8_of_wf (hw _ (by
      rw [List.getD_eq_getElem?_getD, List.getElem?_eq_getElem (by omega)]; exact List.getElem_mem _))
    refine ⟨(zs.take len).map Int.toNat, hlen, ⟨fun i => ?_, fun h0 => ?_⟩, by omega⟩
    · rcases Nat.lt_or_ge i len with hi | hi
      · rw [hget i hi]; have := hb i hi; omega
      · rw [List.getD_eq_getElem?_getD, List.getElem?_eq_none (by omega)]; simp
    · rw [hlen] at h0
      have h00 := hc 0 (by omega)
      obtain ⟨b, o, spot⟩ := x
      have hspot : spot = none := by simpa [Addr.add] using World.cell?_spot h00
      subst hspot
      refine ⟨b, o, rfl, fun i hi => ?_⟩
      rw [hlen] at hi
      have := hc i (by omega)
      rw [hget i hi, Int.toNat_of_nonneg (hb i hi).1]
      have e : (⟨b, o, none⟩ : Addr).add i = ⟨b, o + i, none⟩ := by unfold Addr.add; split <;> simp_all
      rw [← e]; exact this

namespace Law
theorem WordGets (a0 : Option Addr) (len0 cap0 : Nat) (z0 : List Int) (a1 : Int) (a2 : Int) (w : World) (w0 : IsRow .u8 w a0 len0 cap0 z0) (_w1 : (Lit.int .i64 a1).wf = true) (_w2 : (Lit.int .i64 a2).wf = true) :
    Calls Try.prog 3 #[.slice a0 len0 cap0, .int .i64 a1, .int .i64 a2] w fun e w' => e = .returned (.bool true) ∧ Below w.heap.size w w' := by
  obtain ⟨l, hl, hB, hn⟩ := bts_of_row w0
  clear w0 _w1 _w2
  have HL := Lib.hid hl
  have HB := Lib.hid hB
  clear hl hB
  rcases Bool.eq_false_or_eq_true (thereB len0 a1 a2) with ht | ht
  · have HT := Lib.hid ht
    clear ht
    go_enter Try.func3, Try.ntmps3
    go_wp2_with fail
    refine (first_ok _).mono ?_
    rintro e w1 ⟨rfl, hb1⟩
    have HB1 := Lib.hid hb1
    clear hb1
    go_wp2_with fail
    refine (get_at _ l _ _ _ _ _ HL.out hn (bts_below HB.out HB1.out) HT.out).mono ?_
    rintro e w' ⟨rfl, rfl⟩
    go_wp2_with fail
    have hcall := rget_yes a0 l cap0 a1 a2 w1 (by rw [HL.out]; exact hn) (bts_below HB.out HB1.out) (by rw [HL.out]; exact HT.out)
    rw [HL.out] at hcall
    have HC := Lib.hid hcall
    clear hcall
    refine HC.out.mono ?_
    rintro e w2 ⟨rfl, hb2⟩
    have HB2 := Lib.hid hb2
    clear hb2
    go_wp2_with (first | (go_at_call 10; refine (size_any _ _).mono ?_; rintro e w' ⟨rfl, rfl⟩) | (go_at_call 11; refine (rsize_any _ _).mono ?_; rintro e w3 ⟨rfl, hb3⟩; have HB3 := Lib.hid hb3; clear hb3))
    go_ret
    exact ⟨rfl, (HB1.out.trans (HB2.out.mono HB1.out.size)).trans (HB3.out.mono (Nat.le_trans HB1.out.size HB2.out.size))⟩
  · have HT := Lib.hid ht
    clear ht
    go_enter Try.func3, Try.ntmps3
    go_wp2_with fail
    refine (first_ok _).mono ?_
    rintro e w1 ⟨rfl, hb1⟩
    have HB1 := Lib.hid hb1
    clear hb1
    go_wp2_with fail
    refine (get_no _ _ _ _ _ _ hn HT.out).mono ?_
    rintro e w' ⟨rfl, rfl⟩
    go_wp2_with fail
    refine (rget_no _ _ _ _ _ _ hn HT.out).mono ?_
    rintro e w2 ⟨rfl, hb2⟩
    have HB2 := Lib.hid hb2
    clear hb2
    go_wp2_with (first | (go_at_call 10; refine (size_any _ _).mono ?_; rintro e w' ⟨rfl, rfl⟩) | (go_at_call 11; refine (rsize_any _ _).mono ?_; rintro e w3 ⟨rfl, hb3⟩; have HB3 := Lib.hid hb3; clear hb3))
    go_ret
    exact ⟨rfl, (HB1.out.trans (HB2.out.mono HB1.out.size)).trans (HB3.out.mono (Nat.le_trans HB1.out.size HB2.out.size))⟩
end Law
end Go.Proofs.Ytggpmfgmdhfpaaa
