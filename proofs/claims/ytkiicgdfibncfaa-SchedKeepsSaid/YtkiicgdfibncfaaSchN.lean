/- Kinds. -/
import Derived.Test.YtkiicgdfibncfaaSchH
namespace Go.Proofs.Ytkiicgdfibncfaa
open Go.RowKit

/-- How many acts of a kind. -/
def cnt (l : List A3) (k : Nat) : Nat := (l.filter (fun x => x.1 == (k : Int))).length
def cntA (l : List A3) : Array Value := #[.int .i64 (cnt l 0), .int .i64 (cnt l 1), .int .i64 (cnt l 2), .int .i64 (cnt l 3), .int .i64 (cnt l 4), .int .i64 (cnt l 5), .int .i64 (cnt l 6)]
theorem cnt_snoc (l : List A3) (x : A3) (k : Nat) : cnt (l ++ [x]) k = cnt l k + if x.1 = (k : Int) then 1 else 0 := by
  unfold cnt
  rw [List.filter_append, List.length_append]
  by_cases h : x.1 = (k : Int)
  · simp [h]
  · simp [h]
theorem cnt_le (l : List A3) (k : Nat) : cnt l k ≤ l.length := List.length_filter_le _ _
theorem cntA_get (l : List A3) (k : Nat) (hk : k < 7) : (cntA l)[k]? = some (.int .i64 (cnt l k)) := by
  rcases (show k = 0 ∨ k = 1 ∨ k = 2 ∨ k = 3 ∨ k = 4 ∨ k = 5 ∨ k = 6 by omega) with rfl | rfl | rfl | rfl | rfl | rfl | rfl <;> rfl
theorem cntA_in (l : List A3) (x : A3) (k : Nat) (hk : k < 7) (hx : x.1 = (k : Int)) : (cntA l).setIfInBounds k (.int .i64 ((cnt l k : Nat) + 1 : Int)) = cntA (l ++ [x]) := by
  unfold cntA
  simp only [cnt_snoc, hx]
  rcases (show k = 0 ∨ k = 1 ∨ k = 2 ∨ k = 3 ∨ k = 4 ∨ k = 5 ∨ k = 6 by omega) with rfl | rfl | rfl | rfl | rfl | rfl | rfl <;> simp
theorem cntA_out (l : List A3) (x : A3) (hx : ¬ (0 ≤ x.1 ∧ x.1 < 7)) : cntA l = cntA (l ++ [x]) := by
  unfold cntA
  have e : ∀ k : Nat, k < 7 → cnt (l ++ [x]) k = cnt l k := fun k hk => by
    rw [cnt_snoc, if_neg (by omega), Nat.add_zero]
  rw [e 0 (by omega), e 1 (by omega), e 2 (by omega), e 3 (by omega), e 4 (by omega), e 5 (by omega), e 6 (by omega)]
def KRel (W : World) (l : List A3) (k : Nat) (wr : World) : Prop := Blk wr (W.heap.size + 1) 38 (cntA (l.take k)) ∧ Blk wr W.heap.size 38 #[.int .i64 0, .int .i64 0, .int .i64 0, .int .i64 0, .int .i64 0, .int .i64 0, .int .i64 0] ∧ Below W.heap.size W wr
theorem seven {w : World} {g : Nat} {t : TypeId} {a b c d e f h : Value} (hb : Blk w g t #[a, b, c, d, e, f, h]) : w.cell? ⟨g, 0, none⟩ = some a ∧ w.cell? ⟨g, 1, none⟩ = some b ∧ w.cell? ⟨g, 2, none⟩ = some c ∧
    w.cell? ⟨g, 3, none⟩ = some d ∧ w.cell? ⟨g, 4, none⟩ = some e ∧ w.cell? ⟨g, 5, none⟩ = some f ∧ w.cell? ⟨g, 6, none⟩ = some h ∧ g < w.heap.size ∧ (∀ i, w.frozen? ⟨g, i, none⟩ = false) :=
  ⟨hb.cell 0, hb.cell 1, hb.cell 2, hb.cell 3, hb.cell 4, hb.cell 5, hb.cell 6, hb.lt, fun i => hb.frozen i⟩
set_option maxHeartbeats 4000000 in
theorem kinds_any (v : Value) (l : List A3) (W : World) (h : RdA (fun g => g < W.heap.size) W v l) (hm : l.length ≤ 1000000) :
    Calls Try.prog 22 #[v] W fun e w' => e = .returned (.agg (cntA l)) ∧ Below W.heap.size W w' := by
  obtain ⟨A, c, rfl, _, hr⟩ := h
  have HR := Lib.hid hr
  clear hr
  obtain ⟨n, hn⟩ : ∃ n, n = l.length := ⟨_, rfl⟩
  have HN := Lib.hid hn
  rw [← hn] at hm ⊢
  clear hn
  go_enter Try.func22, Try.ntmps22
  go_wp2_with fail
  go_loopw [8] (fun i wr => ∃ k : Nat, k ≤ n ∧ i = .int .i64 k ∧ KRel W l k wr) (fun i _ => n - (intOf i).toNat)
  case atStart => exact ⟨0, by omega, rfl, Blkf.new_at _ _ _ _ (by simp), (Blkf.new_at W _ _ _ rfl).alloc _, ((Below.refl _ W).alloc (Nat.le_refl _) _).alloc (by simp) _⟩
  case round =>
    obtain ⟨k, hk, rfl, hB, hB0, hbw⟩ := hrel
    have HB := Lib.hid hB
    have HB0 := Lib.hid hB0
    have HW := Lib.hid hbw
    clear hB hB0 hbw
    by_cases hkl : k < n
    · have hlk : k < l.length := by rw [← HN.out]; exact hkl
      obtain ⟨b, o, rfl, hbB, hbl, hcs⟩ := HR.out (by intro e; rw [e] at hlk; simp at hlk)
      obtain ⟨x, hx⟩ : ∃ x, l[k]? = some x := ⟨_, List.getElem?_eq_getElem hlk⟩
      obtain ⟨d0, d1, d2⟩ := hcs k x hx
      have e : ∀ i, wr.cell? ⟨b, i, none⟩ = W.cell? ⟨b, i, none⟩ := fun i => HW.out.cell (p := ⟨b, i, none⟩) hbB
      rw [← e] at d0 d1 d2
      have hbr : b < wr.heap.size := Nat.lt_of_lt_of_le hbB HW.out.size
      have HTK : Hid (l.take (k + 1) = l.take k ++ [x]) := Lib.hid (by rw [List.take_add_one, hx]; rfl)
      have hsz := HB.out.lt
      clear e hcs hx hlk
      by_cases hin : 0 ≤ x.1 ∧ x.1 < 7
      · obtain ⟨q, hq⟩ : ∃ q : Nat, x.1 = q := ⟨x.1.toNat, by omega⟩
        have hq7 : q < 7 := by omega
        have hcl : cnt (l.take k) q ≤ 1000000 := by
          have := cnt_le (l.take k) q
          have := List.length_take_le k l
          omega
        have hB2 := HB.out.alloc (.cells #[.int .i64 x.1, .int .i64 x.2.1, .int .i64 x.2.2] 48)
        have cc : (wr.alloc (.cells #[.int .i64 x.1, .int .i64 x.2.1, .int .i64 x.2.2] 48)).cell? ⟨W.heap.size + 1, q, none⟩ = some (.int .i64 (cnt (l.take k) q)) := (hB2.cell q).trans (cntA_get _ q hq7)
        have ff := Blk.frozen hB2 q
        have HX := Lib.hid hq
        rw [hq] at d0 cc ff hB2
        have HB2 := Lib.hid hB2
        clear hq hin hB2
        have HCI := Lib.hid (cntA_in (l.take k) x q hq7 HX.out)
        generalize cnt (l.take k) q = cq at *
        go_wp2_with fail
        go_roundw
        case rel =>
          refine ⟨k + 1, hkl, by go_num, ?_, (HB0.out.far (p := ⟨W.heap.size + 1, q, none⟩) (by simp) _).alloc _, (HW.out.setCell (p := ⟨W.heap.size + 1, q, none⟩) (by simp) _).alloc (by simp; omega) _⟩
          rw [HTK.out, ← HCI.out]
          exact (HB.out.set_ q _).alloc _
        case measure => simp [intOf]; omega
      · have HCO := Lib.hid (cntA_out (l.take k) x hin)
        have HF : Hid (KRel W l (k + 1) (wr.alloc (.cells #[.int .i64 x.1, .int .i64 x.2.1, .int .i64 x.2.2] 48))) := Lib.hid ⟨by rw [HTK.out, ← HCO.out]; exact HB.out.alloc _, HB0.out.alloc _, HW.out.alloc (by omega) _⟩
        rcases (show x.1 < 0 ∨ (0 ≤ x.1 ∧ 7 ≤ x.1) by omega) with h1 | ⟨h1, h2⟩
        · clear hin
          go_wp2_with fail
          go_roundw
          case rel => exact ⟨k + 1, hkl, by go_num, HF.out⟩
          case measure => simp [intOf]; omega
        · clear hin
          go_wp2_with fail
          go_roundw
          case rel => exact ⟨k + 1, hkl, by go_num, HF.out⟩
          case measure => simp [intOf]; omega
    · obtain rfl : k = n := by omega
      have HL : Hid (l.take k = l) := Lib.hid (by rw [HN.out]; exact List.take_length)
      have hB := HB.out
      rw [HL.out] at hB
      unfold cntA at hB
      obtain ⟨a0, a1, a2, a3, a4, a5, a6, al, af⟩ := seven hB
      obtain ⟨b0, b1, b2, b3, b4, b5, b6, bl, bf⟩ := seven HB0.out
      have hF := (((((((HB0.out.set_ 0 (.int .i64 (cnt l 0))).set_ 1 (.int .i64 (cnt l 1))).set_ 2 (.int .i64 (cnt l 2))).set_ 3 (.int .i64 (cnt l 3))).set_ 4 (.int .i64 (cnt l 4))).set_ 5 (.int .i64 (cnt l 5))).set_ 6 (.int .i64 (cnt l 6)))
      have HFN := Lib.hid hF
      have HBF := Lib.hid (((((((HW.out.setCell (p := ⟨W.heap.size, 0, none⟩) (Nat.le_refl _) (.int .i64 (cnt l 0))).setCell (p := ⟨W.heap.size, 1, none⟩) (Nat.le_refl _) (.int .i64 (cnt l 1))).setCell (p := ⟨W.heap.size, 2, none⟩) (Nat.le_refl _) (.int .i64 (cnt l 2))).setCell (p := ⟨W.heap.size, 3, none⟩) (Nat.le_refl _) (.int .i64 (cnt l 3))).setCell (p := ⟨W.heap.size, 4, none⟩) (Nat.le_refl _) (.int .i64 (cnt l 4))).setCell (p := ⟨W.heap.size, 5, none⟩) (Nat.le_refl _) (.int .i64 (cnt l 5))).setCell (p := ⟨W.heap.size, 6, none⟩) (Nat.le_refl _) (.int .i64 (cnt l 6)))
      clear hF hB
      go_wp2
      obtain ⟨q0, q1, q2, q3, q4, q5, q6, _, _⟩ := seven HFN.out
      exact bodyPost_ret (v := .agg #[.int .i64 (cnt l 0), .int .i64 (cnt l 1), .int .i64 (cnt l 2), .int .i64 (cnt l 3), .int .i64 (cnt l 4), .int .i64 (cnt l 5), .int .i64 (cnt l 6)]) (by simp [results, Try.results22, go_sem, q0, q1, q2, q3, q4, q5, q6]) rfl ⟨rfl, HBF.out⟩
end Go.Proofs.Ytkiicgdfibncfaa
