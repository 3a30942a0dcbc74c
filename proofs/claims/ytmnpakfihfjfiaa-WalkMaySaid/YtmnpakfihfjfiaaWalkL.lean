/- Laid: both memories, with words. -/
import Derived.Test.YtmnpakfihfjfiaaWalkG
namespace Go.Proofs.Ytmnpakfihfjfiaa
open Go.RowKit

/-- The words of a slice. -/
def WdAt (W : World) (A : Option Addr) (ws : List (Nat × Nat)) : Prop := ws ≠ [] → ∃ b o, A = some ⟨b, o, none⟩ ∧ b < W.heap.size ∧ ∀ k x, ws[k]? = some x →
  W.cell? ⟨b, o + k * 2, none⟩ = some (.int .u64 (x.1 : Int)) ∧ W.cell? ⟨b, o + k * 2 + 1, none⟩ = some (.int .u64 (x.2 : Int)) ∧ x.1 < 18446744073709551616 ∧ x.2 < 18446744073709551616
def layS (n : Nat) (S : Nat → List Nat) (x : Nat × Nat) : Nat → List Nat := stR n S x.1 8 x.2
def laidS (n : Nat) (ws : List (Nat × Nat)) : Nat → List Nat := ws.foldl (layS n) emptyS
theorem laidS_snoc (n : Nat) (ws : List (Nat × Nat)) (k : Nat) (x : Nat × Nat) (h : ws[k]? = some x) : laidS n (ws.take (k + 1)) = stR n (laidS n (ws.take k)) x.1 8 x.2 := by
  unfold laidS
  rw [List.take_add_one, h, List.foldl_append]
  rfl
theorem play_start {W w1 : World} {g n : Nat} (h : Mem w1 g (fun b => W.heap.size ≤ b) n emptyS) (hb : Below W.heap.size W w1) : Play W (fun _ => False) g w1.heap.size n [] emptyS (w1.alloc (.cells #[.int .i64 (n : Int), .slice none 0 0] 56)) := by
  have ha : Below w1.heap.size w1 (w1.alloc (.cells #[.int .i64 (n : Int), .slice none 0 0] 56)) := (Below.refl _ _).alloc (Nat.le_refl _) _
  refine ⟨fun b => W.heap.size ≤ b ∧ b < w1.heap.size, fun b => b = w1.heap.size, h.tight.below ha, ⟨none, 0, Blkf.new_at _ _ _ _ rfl, fun h => by simp at h, rfl, fun g hg => by subst hg; simp⟩, fun b hb' => ⟨hb'.1, by simp; omega⟩, fun b hb' => by subst hb'; exact hb.size, fun b h1 h2 => by omega, fun b h => h.elim, hb.alloc hb.size _⟩
set_option maxHeartbeats 1000000 in
theorem laid_any (n : Nat) (A : Option Addr) (len cap : Nat) (ws : List (Nat × Nat)) (W : World) (h1 : 1 ≤ n) (h2 : n ≤ 200) (hl : len = ws.length) (hw : WdAt W A ws) (hm : len ≤ 9223372036854775807) :
    Calls Try.prog 6 #[.int .i64 (n : Int), .slice A len cap] W fun e w' =>
      ∃ g xb L, e = .returned (.tuple #[.pointer (some ⟨g, 0, none⟩), .pointer (some ⟨xb, 0, none⟩)]) ∧ Play W (fun _ => False) g xb n L (laidS n (ws.take 60)) w' ∧ Rel n L (laidS n (ws.take 60)) := by
  have HW := Lib.hid hw
  have HN : Hid (1 ≤ n ∧ n ≤ 200) := Lib.hid ⟨h1, h2⟩
  have HL := Lib.hid hl
  clear hw h1 h2 hl
  go_enter Try.func6, Try.ntmps6
  go_wp2_with fail
  refine (new_yes n _ HN.out.1 (by have := HN.out.2; omega)).mono ?_
  rintro e w1 ⟨g, rfl, hm1, hb⟩
  have HP0 := Lib.hid (play_start (W := W) hm1 hb)
  clear hm1 hb
  go_wp2_with fail
  generalize w1.alloc (.cells #[.int .i64 (n : Int), .slice none 0 0] 56) = W1 at *
  generalize w1.heap.size = xb at *
  go_wp2_with fail
  go_loopw [21] (fun i wr => ∃ k : Nat, k ≤ len ∧ k ≤ 60 ∧ i = .int .i64 k ∧ ∃ L, Play W (fun _ => False) g xb n L (laidS n (ws.take k)) wr ∧ Rel n L (laidS n (ws.take k))) (fun i _ => len - (intOf i).toNat)
  case atStart => exact ⟨0, by omega, by omega, rfl, [], HP0.out, Rel.empty n⟩
  case round =>
    obtain ⟨k, hk, hk60, rfl, L, hp, hr⟩ := hrel
    have HP := Lib.hid hp
    have HR := Lib.hid hr
    clear hp hr
    by_cases hkl : k < len
    · obtain ⟨b, o, rfl, hbl, hc⟩ := HW.out (by rintro rfl; have := HL.out; simp at this; omega)
      obtain ⟨⟨at_, v⟩, hx⟩ : ∃ x, ws[k]? = some x := ⟨_, List.getElem?_eq_getElem (by rw [← HL.out]; exact hkl)⟩
      obtain ⟨q0, q1, ha, hv⟩ := hc k _ hx
      have hbel := HP.out.bel
      have c0 := (hbel.cell (p := ⟨b, o + k * 2, none⟩) hbl).trans q0
      have c1 := (hbel.cell (p := ⟨b, o + k * 2 + 1, none⟩) hbl).trans q1
      have HHA := Lib.hid ha
      have HHV := Lib.hid hv
      have HX := Lib.hid hx
      clear hbel q0 q1 ha hv hx hc
      simp only at c0 c1 HHA HHV
      by_cases h60 : 60 ≤ k
      · have i60 : (60 : Int) ≤ (k : Int) := by omega
        go_wp2_with fail
        go_ret2
        obtain rfl : k = 60 := by omega
        exact ⟨g, xb, L, rfl, HP.out.below ((Below.refl _ _).alloc (Nat.le_refl _) _), HR.out⟩
      · have i60 : ¬ (60 : Int) ≤ (k : Int) := by omega
        have hal : Below wr.heap.size wr (wr.alloc (.cells #[.int .u64 (at_ : Int), .int .u64 (v : Int)] 51)) := (Below.refl _ _).alloc (Nat.le_refl _) _
        have HPO := Lib.hid ((HP.out.add (b := wr.heap.size) hal (Nat.le_refl _) (by simp)).only (Q := fun c => c = wr.heap.size) (fun b hb => .inr hb))
        have HOB : Hid (Blk (wr.alloc (.cells #[.int .u64 (at_ : Int), .int .u64 (v : Int)] 51)) wr.heap.size 51 #[.int .u64 (at_ : Int), .int .u64 (v : Int)]) := Lib.hid (Blkf.new_at _ _ _ _ rfl)
        clear hal
        go_wp2_with fail
        generalize wr.alloc (.cells #[.int .u64 (at_ : Int), .int .u64 (v : Int)] 51) = w2 at *
        generalize wr.heap.size = ob at *
        refine (p_store HPO.out at_ v 8 HHA.out HHV.out).mono ?_
        rintro e w3 ⟨rfl, hp3, hs3⟩
        have HP3 := Lib.hid hp3
        have HOB3 : Hid (Blk w3 ob 51 #[.int .u64 (at_ : Int), .int .u64 (v : Int)]) := Lib.hid ((hs3 ob rfl).trans HOB.out)
        clear hp3 hs3 c0 c1
        have d0 := HOB3.out.cell 0
        have d1 := HOB3.out.cell 1
        simp at d0 d1
        go_wp2_with fail
        refine (p_rstore HP3.out at_ v 8 (by have := HN.out; omega) HHA.out HHV.out (by have := HR.out.short; have := HN.out; omega)).mono ?_
        rintro e w4 ⟨rfl, hp4, hs4⟩
        have HP4 := Lib.hid (hp4.only (Q := fun _ => False) (fun _ h => h.elim))
        have HS := Lib.hid (HR.out.store at_ 8 v)
        have HE := Lib.hid (laidS_snoc n ws k _ HX.out)
        clear hp4 hs4 d0 d1
        go_wp2_with fail
        refine ⟨⟨k + 1, by omega, by omega, by go_num, stE n L at_ 8 v, ?_, ?_⟩, by simp [intOf]; omega⟩
        · rw [HE.out]; exact HP4.out
        · rw [HE.out]; exact HS.out
    · obtain rfl : len = k := by omega
      go_wp2_with fail
      go_ret2
      have e : ws.take 60 = ws.take len := by rw [List.take_of_length_le (by rw [← HL.out]; exact hk60), List.take_of_length_le (by rw [← HL.out]; exact Nat.le_refl _)]
      rw [e]
      exact ⟨g, xb, L, rfl, HP.out, HR.out⟩
end Go.Proofs.Ytmnpakfihfjfiaa
