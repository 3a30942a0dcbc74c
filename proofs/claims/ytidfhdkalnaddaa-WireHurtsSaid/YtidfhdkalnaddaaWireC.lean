/- slices.Grow of nil, slices.Concat of bytes. -/
import Derived.Test.YtidfhdkalnaddaaWireB
import Derived.Test.YtidfhdkalnaddaaCheckC
import Derived.Lib.AppendZeros
namespace Go.Proofs.Ytidfhdkalnaddaa
open Go.RowKit

set_option maxHeartbeats 2000000 in
theorem grow_nil (n : Nat) (W : World) (hn : 0 < n) (hn2 : n ≤ 1000000) :
    Calls Try.prog 28 #[.slice none 0 0, .int .i64 n] W fun e w' => ∃ c, e = .returned (.slice (some ⟨W.heap.size, 0, none⟩) 0 c) ∧ w'.ownsRow W.heap.size 5 1 (.slice (some ⟨W.heap.size, 0, none⟩) 0 c) 0 [] ∧ Below W.heap.size W w' := by
  obtain ⟨i0, hi0, hz0, hz1, hz2⟩ := info_parts info5
  have hrun := fun (w : World) (ty : TypeId) => Lib.run_append_nil_zeros (P := Try.prog) w 23 3 ty 5 i0 _ .i64 .i64 Try.underlying23 Try.underlying3 hi0 hz0 n hn (by omega) (by omega) (by rw [hz2]; omega)
  have HRUN := Lib.hid hrun
  clear hrun
  have h1 : ¬ ((n : Int) < 0) := by omega
  have h2 : (0 : Int) < (n : Int) := by omega
  go_enter Try.func28, Try.ntmps28
  go_wp2_with (at_builtin; go_loud (refine Lib.wpList_append_run _ rfl (.tmp 20) (.tmp 21) _ _ rfl _ _ rfl rfl _ _ (HRUN.out _ _) ?_))
  go_ret
  refine ⟨_, rfl, ?_, ((Below.refl _ W).drew).alloc (Nat.le_refl _) _⟩
  have hge := grownCap_ge W n 0 5
  have hle := grownCap_le_maxLen W n 0 5 (by unfold maxLen; omega)
  exact World.ownsRow_made W.drew _ _ (Nat.le_refl _) hle (by simp [size_zeroCells, Value.cells]; omega)
theorem row_form {w : World} {base s n : Nat} {e : TypeId} {v : Value} {xs : List Value} (h : w.ownsRow base e s v n xs) : ∃ A c, v = .slice A n c := by
  rcases h.2 with ⟨rfl, rfl⟩ | ⟨g, cap, _, rfl, _⟩
  · exact ⟨_, _, rfl⟩
  · exact ⟨_, _, rfl⟩
/-- Slices of bytes that read as lists. -/
def BL (w : World) (vs : List Value) (Ls : List (List Nat)) : Prop := vs.length = Ls.length ∧ ∀ i, i < Ls.length → ∃ A c, vs[i]? = some (.slice A (Ls.getD i []).length c) ∧ Bts w A (Ls.getD i [])
theorem BL.below {w w' : World} {vs : List Value} {Ls : List (List Nat)} (h : BL w vs Ls) (hb : Below w.heap.size w w') : BL w' vs Ls :=
  ⟨h.1, fun i hi => by
    obtain ⟨A, c, hv, hB⟩ := h.2 i hi
    exact ⟨A, c, hv, bts_below hB hb⟩⟩
def totL : List (List Nat) → Nat
  | [] => 0
  | x :: r => x.length + totL r
theorem totL_drop (l : List (List Nat)) (k : Nat) (hk : k < l.length) : totL (l.drop k) = (l.getD k []).length + totL (l.drop (k + 1)) := by
  rw [List.drop_eq_getElem_cons hk, totL]
  congr 2
  rw [List.getD_eq_getElem?_getD, List.getElem?_eq_getElem hk]; rfl
theorem flat_take (l : List (List Nat)) (k : Nat) (hk : k < l.length) : (l.take (k + 1)).flatten = (l.take k).flatten ++ l.getD k [] := by
  rw [List.take_add_one, List.flatten_append, List.getElem?_eq_getElem hk, List.getD_eq_getElem?_getD, List.getElem?_eq_getElem hk]
  simp
theorem totL_flat : ∀ l : List (List Nat), l.flatten.length = totL l
  | [] => rfl
  | x :: r => by simp [totL, totL_flat r]
theorem flat_le (l : List (List Nat)) (k : Nat) : (l.take k).flatten.length ≤ totL l := by
  rw [← totL_flat]
  conv => rhs; rw [← List.take_append_drop k l, List.flatten_append, List.length_append]
  omega
def CatRel (W w1 : World) (Ls : List (List Nat)) (k : Nat) (v : Value) (wr : World) : Prop := wr.ownsRow W.heap.size 5 1 v (Ls.take k).flatten.length ((Ls.take k).flatten.map bv) ∧ Below W.heap.size W wr
set_option maxHeartbeats 2000000 in
theorem concat_any (g : Nat) (vs : List Value) (Ls : List (List Nat)) (W : World) (hg : Blk W g 23 vs.toArray) (hB : BL W vs Ls) (hm : Ls.length ≤ 100) (h0 : 0 < totL Ls) (hT : totL Ls ≤ 1000000) :
    Calls Try.prog 16 #[.slice (some ⟨g, 0, none⟩) Ls.length Ls.length] W fun e w' => ∃ v, e = .returned v ∧ w'.ownsRow W.heap.size 5 1 v Ls.flatten.length (Ls.flatten.map bv) ∧ Below W.heap.size W w' := by
  obtain ⟨i0, hi0, hz0, hz1, hz2⟩ := info_parts info5
  have HB := Lib.hid hB
  have HG := Lib.hid hg
  have hgl := hg.lt
  obtain ⟨m, hmm⟩ : ∃ m, m = Ls.length := ⟨_, rfl⟩
  have HM := Lib.hid hmm
  rw [← hmm] at hm ⊢
  have HT := Lib.hid h0
  generalize hN : totL Ls = N at *
  have HN := Lib.hid hN
  clear hg hB hmm hN h0
  go_enter Try.func16, Try.ntmps16
  go_wp2_with fail
  go_loop [3, 11] (fun s i => ∃ k q : Nat, k ≤ m ∧ i = .int .i64 k ∧ s = .int .i64 q ∧ q + totL (Ls.drop k) = N) (fun _ i => m - (intOf i).toNat)
  case atStart => exact ⟨0, 0, by omega, rfl, rfl, by simpa using HN.out⟩
  case round =>
    obtain ⟨k, q, hk, rfl, rfl, hq⟩ := hrel
    by_cases hkl : k < m
    · obtain ⟨A, c, hv, hBk⟩ := HB.out.2 k (by rw [← HM.out]; exact hkl)
      have hcell : W.cell? ⟨g, k, none⟩ = some (.slice A (Ls.getD k []).length c) := (HG.out.cell k).trans (by rw [List.getElem?_toArray]; exact hv)
      have hd := totL_drop Ls k (by rw [← HM.out]; exact hkl)
      generalize (Ls.getD k []).length = ln at *
      have hq2 : q + ln + totL (Ls.drop (k + 1)) = N := by omega
      have hqb : q + ln ≤ 1000000 := by omega
      clear hd hq hv hBk
      go_wp2_with fail
      go_round
      case rel => exact ⟨k + 1, q + ln, hkl, by go_num, by go_num, hq2⟩
      case measure => simp [intOf]; omega
    · obtain rfl : k = m := by omega
      have hqN : q = N := by
        rw [List.drop_eq_nil_of_le (by rw [← HM.out]; exact Nat.le_refl _)] at hq
        simpa [totL] using hq
      subst hqN
      clear hq hk hkl
      go_wp2_with fail
      refine (grow_nil q W HT.out hT).mono ?_
      rintro e w1 ⟨c1, rfl, ho1, hb1⟩
      have HO1 := Lib.hid ho1
      have HB1 := Lib.hid hb1
      clear ho1 hb1
      go_wp2_with fail
      go_loopw [6, 27] (fun v i wr => ∃ j : Nat, j ≤ k ∧ i = .int .i64 j ∧ CatRel W w1 Ls j v wr) (fun _ i _ => k - (intOf i).toNat)
      case atStart => exact ⟨0, by omega, rfl, HO1.out, HB1.out⟩
      case round =>
        obtain ⟨j, hj, rfl, hO, hbw⟩ := hrel
        obtain ⟨A1, c2, rfl⟩ := row_form hO
        have HO := Lib.hid hO
        have HW := Lib.hid hbw
        have hsz := hbw.size
        clear hO hbw
        by_cases hjk : j < k
        · obtain ⟨A, c, hv, hBk⟩ := (HB.out.below HW.out).2 j (by rw [← HM.out]; exact hjk)
          have hcell : wr.cell? ⟨g, j, none⟩ = some (.slice A (Ls.getD j []).length c) := (HW.out.cell (p := ⟨g, j, none⟩) hgl).trans ((HG.out.cell j).trans (by rw [List.getElem?_toArray]; exact hv))
          have hgr : g < wr.heap.size := Nat.lt_of_lt_of_le hgl HW.out.size
          have HBK := Lib.hid hBk
          have hfl := flat_le Ls (j + 1)
          have hft := flat_take Ls j (by rw [← HM.out]; exact hjk)
          have HFT := Lib.hid hft
          rw [hft, List.length_append] at hfl
          rw [HN.out] at hfl
          clear hv hBk hft
          go_wp2_with (at_builtin; (refine wpList_append_any _ rfl (.tmp 31) (.tmp 32) _ rfl W.heap.size 5 i0 _ 1 1 Try.underlying23 hi0 hz0 hz1 hz2 rfl (by decide) _ (Ls.take j).flatten.length ((Ls.take j).flatten.map bv) rfl HO.out wr.heap.size A (Ls.getD j []).length c ((Ls.getD j []).map bv) rfl (reads_bts HBK.out) (one_bv _) (by unfold maxLen; omega) (by omega) hsz ?_; intro v4 w4 hown hgrow hat; have HO4 := Lib.hid hown; have HW4 := Lib.hid (HW.out.grown hgrow hsz (fun g hg => (HO.out.lt g hg).1)); clear hown hgrow hat))
          go_roundw
          case rel => exact ⟨j + 1, hjk, by go_num, by rw [HFT.out, List.length_append, List.map_append]; exact HO4.out, HW4.out⟩
          case measure => simp [intOf]; omega
        · obtain rfl : j = k := by omega
          go_wp2
          go_ret
          have h1 := HO.out
          rw [List.take_of_length_le (by rw [← HM.out]; exact Nat.le_refl _)] at h1
          refine ⟨_, rfl, ?_, HW.out⟩
          rw [List.take_of_length_le (by rw [← HM.out]; exact Nat.le_refl _)]
          exact h1
end Go.Proofs.Ytidfhdkalnaddaa
