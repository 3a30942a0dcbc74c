/- Merged texts: WireA, WireB, WireC, WireD, WireE, WireF. -/
import Derived.Test.YtnnajaomajgoeaaCheckI
import Derived.Test.YtnnajaomajgoeaaByte
import Derived.Test.YtnnajaomajgoeaaSep
import Derived.Lib.AppendZeros
import Derived.Test.YtnnajaomajgoeaaPlanT
/- Which frames are right. -/
namespace Go.Proofs.Ytnnajaomajgoeaa
open Go.RowKit

def nodeB (n : Int) : Bool := decide (0 ≤ n) && decide (n < 16)
theorem node_any (n : Int) (W : World) : Calls Try.prog 40 #[.int .i64 n] W fun e w' => e = .returned (.bool (nodeB n)) ∧ W = w' := by
  have H : Hid (nodeB n = (decide (0 ≤ n) && decide (n < 16))) := Lib.hid rfl
  by_cases h0 : 0 ≤ n
  · by_cases h1 : n < 16
    · go_enter Try.func40, Try.ntmps40
      go_wp2
      go_ret
      exact ⟨by rw [H.out, decide_eq_true h0, decide_eq_true h1]; rfl, rfl⟩
    · have h2 : 16 ≤ n := by omega
      go_enter Try.func40, Try.ntmps40
      go_wp2
      go_ret
      exact ⟨by rw [H.out, decide_eq_true h0, decide_eq_false (show ¬ n < 16 by omega)]; rfl, rfl⟩
  · have h2 : n < 0 := by omega
    go_enter Try.func40, Try.ntmps40
    go_wp2
    go_ret
    exact ⟨by rw [H.out, decide_eq_false (show ¬ 0 ≤ n by omega)]; rfl, rfl⟩
def rightF (f t : Int) (b : Bool) (s n : Nat) : Bool := nodeB f && nodeB t && !(f == t) && (if b then !(s == 0) && decide (n ≤ 4120) else s == 0 && n == 0)
def frV (f t : Int) (b : Bool) (s a : Nat) (A : Option Addr) (n c : Nat) : Value := .agg #[.int .i64 f, .int .i64 t, .bool b, .int .u64 s, .int .u64 a, .slice A n c]
set_option maxHeartbeats 4000000 in
theorem right_any (f t : Int) (b : Bool) (s a : Nat) (A : Option Addr) (n c : Nat) (W : World) (hn : n ≤ 9223372036854775807) :
    Calls Try.prog 34 #[frV f t b s a A n c] W fun e w' => e = .returned (.bool (rightF f t b s n)) ∧ Below W.heap.size W w' := by
  have H : Hid (rightF f t b s n = (nodeB f && nodeB t && !(f == t) && (if b then !(s == 0) && decide (n ≤ 4120) else s == 0 && n == 0))) := Lib.hid rfl
  have HB : Hid (Below W.heap.size W (W.alloc (.cells #[.int .i64 f, .int .i64 t, .bool b, .int .u64 s, .int .u64 a, .slice A n c] 59))) := Lib.hid ((Below.refl _ W).alloc (Nat.le_refl _) _)
  unfold frV
  cases h1 : nodeB f
  · have H1 := Lib.hid h1
    clear h1
    go_enter Try.func34, Try.ntmps34
    go_wp2_with fail
    refine (node_any f _).mono ?_
    rintro e w1 ⟨rfl, rfl⟩
    rw [H1.out]
    go_wp2
    go_ret
    exact ⟨by rw [H.out, H1.out]; rfl, HB.out⟩
  cases h2 : nodeB t
  · have H1 := Lib.hid h1
    have H2 := Lib.hid h2
    clear h1 h2
    go_enter Try.func34, Try.ntmps34
    go_wp2_with fail
    refine (node_any f _).mono ?_
    rintro e w1 ⟨rfl, rfl⟩
    rw [H1.out]
    go_wp2_with fail
    refine (node_any t _).mono ?_
    rintro e w1 ⟨rfl, rfl⟩
    rw [H2.out]
    go_wp2
    go_ret
    exact ⟨by rw [H.out, H1.out, H2.out]; rfl, HB.out⟩
  have H1 := Lib.hid h1
  have H2 := Lib.hid h2
  clear h1 h2
  by_cases h3 : f = t
  · subst h3
    go_enter Try.func34, Try.ntmps34
    go_wp2_with fail
    refine (node_any f _).mono ?_
    rintro e w1 ⟨rfl, rfl⟩
    rw [H1.out]
    go_wp2_with fail
    refine (node_any f _).mono ?_
    rintro e w1 ⟨rfl, rfl⟩
    rw [H2.out]
    go_wp2
    go_ret
    exact ⟨by rw [H.out, H1.out]; simp, HB.out⟩
  have h3' : (f == t) = false := by simpa using h3
  have H3 := Lib.hid h3'
  cases b
  · rcases (show (s = 0 ∧ n = 0) ∨ (s = 0 ∧ n ≠ 0) ∨ s ≠ 0 by omega) with ⟨rfl, rfl⟩ | ⟨rfl, h5⟩ | h4
    · go_enter Try.func34, Try.ntmps34
      go_wp2_with fail
      refine (node_any f _).mono ?_
      rintro e w1 ⟨rfl, rfl⟩
      rw [H1.out]
      go_wp2_with fail
      refine (node_any t _).mono ?_
      rintro e w1 ⟨rfl, rfl⟩
      rw [H2.out]
      go_wp2
      go_ret
      exact ⟨by rw [H.out, H1.out, H2.out, H3.out]; rfl, HB.out⟩
    · have h6 : ((n : Int) == 0) = false := by simpa using h5
      have H5 := Lib.hid h5
      clear h5
      go_enter Try.func34, Try.ntmps34
      go_wp2_with fail
      refine (node_any f _).mono ?_
      rintro e w1 ⟨rfl, rfl⟩
      rw [H1.out]
      go_wp2_with fail
      refine (node_any t _).mono ?_
      rintro e w1 ⟨rfl, rfl⟩
      rw [H2.out]
      go_wp2
      go_ret
      exact ⟨by rw [H.out, H1.out, H2.out, H3.out]; simp [H5.out], HB.out⟩
    · have h6 : ((s : Int) == 0) = false := by simpa using h4
      have H5 := Lib.hid h4
      clear h4
      go_enter Try.func34, Try.ntmps34
      go_wp2_with fail
      refine (node_any f _).mono ?_
      rintro e w1 ⟨rfl, rfl⟩
      rw [H1.out]
      go_wp2_with fail
      refine (node_any t _).mono ?_
      rintro e w1 ⟨rfl, rfl⟩
      rw [H2.out]
      go_wp2
      go_ret
      exact ⟨by rw [H.out, H1.out, H2.out, H3.out]; simp [H5.out], HB.out⟩
  · rcases (show s = 0 ∨ (s ≠ 0 ∧ n ≤ 4120) ∨ (s ≠ 0 ∧ ¬ n ≤ 4120) by omega) with rfl | ⟨h4, h5⟩ | ⟨h4, h5⟩
    · skip
      go_enter Try.func34, Try.ntmps34
      go_wp2_with fail
      refine (node_any f _).mono ?_
      rintro e w1 ⟨rfl, rfl⟩
      rw [H1.out]
      go_wp2_with fail
      refine (node_any t _).mono ?_
      rintro e w1 ⟨rfl, rfl⟩
      rw [H2.out]
      go_wp2
      go_ret
      exact ⟨by rw [H.out, H1.out, H2.out, H3.out]; rfl, HB.out⟩
    · have h6 : ((s : Int) == 0) = false := by simpa using h4
      have h7 : (n : Int) ≤ 4120 := by omega
      have H5 := Lib.hid h4
      have H6 := Lib.hid h5
      clear h4 h5
      go_enter Try.func34, Try.ntmps34
      go_wp2_with fail
      refine (node_any f _).mono ?_
      rintro e w1 ⟨rfl, rfl⟩
      rw [H1.out]
      go_wp2_with fail
      refine (node_any t _).mono ?_
      rintro e w1 ⟨rfl, rfl⟩
      rw [H2.out]
      go_wp2
      go_ret
      exact ⟨by rw [H.out, H1.out, H2.out, H3.out]; simp [H5.out, H6.out]; rw [bne, h6]; have h8 := H5.out; simp [h8], HB.out⟩
    · have h6 : ((s : Int) == 0) = false := by simpa using h4
      have h7 : (4120 : Int) < n := by omega
      have H5 := Lib.hid h4
      have H6 := Lib.hid h5
      clear h4 h5
      go_enter Try.func34, Try.ntmps34
      go_wp2_with fail
      refine (node_any f _).mono ?_
      rintro e w1 ⟨rfl, rfl⟩
      rw [H1.out]
      go_wp2_with fail
      refine (node_any t _).mono ?_
      rintro e w1 ⟨rfl, rfl⟩
      rw [H2.out]
      go_wp2
      go_ret
      exact ⟨by (rw [H.out, H1.out, H2.out, H3.out]); (simp [H5.out, H6.out]; omega), HB.out⟩
theorem nodeB_eq (n : Int) : nodeB n = (decide (0 ≤ n) && decide (n ≤ 15)) := by
  unfold nodeB
  by_cases h : n < 16
  · rw [decide_eq_true h, decide_eq_true (show n ≤ 15 by omega)]
  · rw [decide_eq_false h, decide_eq_false (show ¬ n ≤ 15 by omega)]
end Go.Proofs.Ytnnajaomajgoeaa

/- Two frames that are the same. -/
namespace Go.Proofs.Ytnnajaomajgoeaa
open Go.RowKit

end Go.Proofs.Ytnnajaomajgoeaa

/- slices.Grow of nil, slices.Concat of bytes. -/
namespace Go.Proofs.Ytnnajaomajgoeaa
open Go.RowKit

set_option maxHeartbeats 2000000 in
theorem grow_nil (n : Nat) (W : World) (hn : 0 < n) (hn2 : n ≤ 1000000) :
    Calls Try.prog 41 #[.slice none 0 0, .int .i64 n] W fun e w' => ∃ c, e = .returned (.slice (some ⟨W.heap.size, 0, none⟩) 0 c) ∧ w'.ownsRow W.heap.size 5 1 (.slice (some ⟨W.heap.size, 0, none⟩) 0 c) 0 [] ∧ Below W.heap.size W w' := by
  obtain ⟨i0, hi0, hz0, hz1, hz2⟩ := info_parts info5
  have hrun := fun (w : World) (ty : TypeId) => Lib.run_append_nil_zeros (P := Try.prog) w 30 3 ty 5 i0 _ .i64 .i64 Try.underlying30 Try.underlying3 hi0 hz0 n hn (by omega) (by omega) (by rw [hz2]; omega)
  have HRUN := Lib.hid hrun
  clear hrun
  have h1 : ¬ ((n : Int) < 0) := by omega
  have h2 : (0 : Int) < (n : Int) := by omega
  go_enter Try.func41, Try.ntmps41
  go_wp2_with (at_builtin; go_loud (refine Lib.wpList_append_run _ rfl (.tmp 20) (.tmp 21) _ _ rfl _ _ rfl rfl _ _ (HRUN.out _ _) ?_))
  go_ret
  refine ⟨_, rfl, ?_, ((Below.refl _ W).drew).alloc (Nat.le_refl _) _⟩
  have hge := grownCap_ge W n 0 5
  have hle := grownCap_le_maxLen W n 0 5 (by unfold maxLen; omega)
  exact World.ownsRow_made W.drew _ _ (Nat.le_refl _) hle (by simp [size_zeroCells, Value.cells]; omega)
theorem row_form {w : World} {base s n : Nat} {e : TypeId} {v : Value} {xs : List Value} (h : w.ownsRow base e s v n xs) : ∃ A c, v = .slice A n c := by
  rcases h.2 with ⟨rfl, rfl⟩ | ⟨g, cap, _, rfl, _⟩
  · exact ⟨_, _, rfl⟩
  · exact ⟨_, _, rfl⟩
/-- Slices of bytes that read as lists. -/
def BL (w : World) (vs : List Value) (Ls : List (List Nat)) : Prop := vs.length = Ls.length ∧ ∀ i, i < Ls.length → ∃ A c, vs[i]? = some (.slice A (Ls.getD i []).length c) ∧ Bts w A (Ls.getD i [])
theorem BL.below {w w' : World} {vs : List Value} {Ls : List (List Nat)} (h : BL w vs Ls) (hb : Below w.heap.size w w') : BL w' vs Ls :=
  ⟨h.1, fun i hi => by
    obtain ⟨A, c, hv, hB⟩ := h.2 i hi
    exact ⟨A, c, hv, bts_below hB hb⟩⟩
def totL : List (List Nat) → Nat
  | [] => 0
  | x :: r => x.length + totL r
theorem totL_drop (l : List (List Nat)) (k : Nat) (hk : k < l.length) : totL (l.drop k) = (l.getD k []).length + totL (l.drop (k + 1)) := by
  rw [List.drop_eq_getElem_cons hk, totL]
  congr 2
  rw [List.getD_eq_getElem?_getD, List.getElem?_eq_getElem hk]; rfl
theorem flat_take (l : List (List Nat)) (k : Nat) (hk : k < l.length) : (l.take (k + 1)).flatten = (l.take k).flatten ++ l.getD k [] := by
  rw [List.take_add_one, List.flatten_append, List.getElem?_eq_getElem hk, List.getD_eq_getElem?_getD, List.getElem?_eq_getElem hk]
  simp
theorem totL_flat : ∀ l : List (List Nat), l.flatten.length = totL l
  | [] => rfl
  | x :: r => by simp [totL, totL_flat r]
theorem flat_le (l : List (List Nat)) (k : Nat) : (l.take k).flatten.length ≤ totL l := by
  rw [← totL_flat]
  conv => rhs; rw [← List.take_append_drop k l, List.flatten_append, List.length_append]
  omega
def CatRel (W w1 : World) (Ls : List (List Nat)) (k : Nat) (v : Value) (wr : World) : Prop := wr.ownsRow W.heap.size 5 1 v (Ls.take k).flatten.length ((Ls.take k).flatten.map bv) ∧ Below W.heap.size W wr
set_option maxHeartbeats 2000000 in
theorem concat_any (g : Nat) (vs : List Value) (Ls : List (List Nat)) (W : World) (hg : Blk W g 30 vs.toArray) (hB : BL W vs Ls) (hm : Ls.length ≤ 100) (h0 : 0 < totL Ls) (hT : totL Ls ≤ 1000000) :
    Calls Try.prog 35 #[.slice (some ⟨g, 0, none⟩) Ls.length Ls.length] W fun e w' => ∃ v, e = .returned v ∧ w'.ownsRow W.heap.size 5 1 v Ls.flatten.length (Ls.flatten.map bv) ∧ Below W.heap.size W w' := by
  obtain ⟨i0, hi0, hz0, hz1, hz2⟩ := info_parts info5
  have HB := Lib.hid hB
  have HG := Lib.hid hg
  have hgl := hg.lt
  obtain ⟨m, hmm⟩ : ∃ m, m = Ls.length := ⟨_, rfl⟩
  have HM := Lib.hid hmm
  rw [← hmm] at hm ⊢
  have HT := Lib.hid h0
  generalize hN : totL Ls = N at *
  have HN := Lib.hid hN
  clear hg hB hmm hN h0
  go_enter Try.func35, Try.ntmps35
  go_wp2_with fail
  go_loop [3, 11] (fun s i => ∃ k q : Nat, k ≤ m ∧ i = .int .i64 k ∧ s = .int .i64 q ∧ q + totL (Ls.drop k) = N) (fun _ i => m - (intOf i).toNat)
  case atStart => exact ⟨0, 0, by omega, rfl, rfl, by simpa using HN.out⟩
  case round =>
    obtain ⟨k, q, hk, rfl, rfl, hq⟩ := hrel
    by_cases hkl : k < m
    · obtain ⟨A, c, hv, hBk⟩ := HB.out.2 k (by rw [← HM.out]; exact hkl)
      have hcell : W.cell? ⟨g, k, none⟩ = some (.slice A (Ls.getD k []).length c) := (HG.out.cell k).trans (by rw [List.getElem?_toArray]; exact hv)
      have hd := totL_drop Ls k (by rw [← HM.out]; exact hkl)
      generalize (Ls.getD k []).length = ln at *
      have hq2 : q + ln + totL (Ls.drop (k + 1)) = N := by omega
      have hqb : q + ln ≤ 1000000 := by omega
      clear hd hq hv hBk
      go_wp2_with fail
      go_round
      case rel => exact ⟨k + 1, q + ln, hkl, by go_num, by go_num, hq2⟩
      case measure => simp [intOf]; omega
    · obtain rfl : k = m := by omega
      have hqN : q = N := by
        rw [List.drop_eq_nil_of_le (by rw [← HM.out]; exact Nat.le_refl _)] at hq
        simpa [totL] using hq
      subst hqN
      clear hq hk hkl
      go_wp2_with fail
      refine (grow_nil q W HT.out hT).mono ?_
      rintro e w1 ⟨c1, rfl, ho1, hb1⟩
      have HO1 := Lib.hid ho1
      have HB1 := Lib.hid hb1
      clear ho1 hb1
      go_wp2_with fail
      go_loopw [6, 27] (fun v i wr => ∃ j : Nat, j ≤ k ∧ i = .int .i64 j ∧ CatRel W w1 Ls j v wr) (fun _ i _ => k - (intOf i).toNat)
      case atStart => exact ⟨0, by omega, rfl, HO1.out, HB1.out⟩
      case round =>
        obtain ⟨j, hj, rfl, hO, hbw⟩ := hrel
        obtain ⟨A1, c2, rfl⟩ := row_form hO
        have HO := Lib.hid hO
        have HW := Lib.hid hbw
        have hsz := hbw.size
        clear hO hbw
        by_cases hjk : j < k
        · obtain ⟨A, c, hv, hBk⟩ := (HB.out.below HW.out).2 j (by rw [← HM.out]; exact hjk)
          have hcell : wr.cell? ⟨g, j, none⟩ = some (.slice A (Ls.getD j []).length c) := (HW.out.cell (p := ⟨g, j, none⟩) hgl).trans ((HG.out.cell j).trans (by rw [List.getElem?_toArray]; exact hv))
          have hgr : g < wr.heap.size := Nat.lt_of_lt_of_le hgl HW.out.size
          have HBK := Lib.hid hBk
          have hfl := flat_le Ls (j + 1)
          have hft := flat_take Ls j (by rw [← HM.out]; exact hjk)
          have HFT := Lib.hid hft
          rw [hft, List.length_append] at hfl
          rw [HN.out] at hfl
          clear hv hBk hft
          go_wp2_with (at_builtin; (refine wpList_append_any _ rfl (.tmp 31) (.tmp 32) _ rfl W.heap.size 5 i0 _ 1 1 Try.underlying30 hi0 hz0 hz1 hz2 rfl (by decide) _ (Ls.take j).flatten.length ((Ls.take j).flatten.map bv) rfl HO.out wr.heap.size A (Ls.getD j []).length c ((Ls.getD j []).map bv) rfl (reads_bts HBK.out) (one_bv _) (by unfold maxLen; omega) (by omega) hsz ?_; intro v4 w4 hown hgrow hat; have HO4 := Lib.hid hown; have HW4 := Lib.hid (HW.out.grown hgrow hsz (fun g hg => (HO.out.lt g hg).1)); clear hown hgrow hat))
          go_roundw
          case rel => exact ⟨j + 1, hjk, by go_num, by rw [HFT.out, List.length_append, List.map_append]; exact HO4.out, HW4.out⟩
          case measure => simp [intOf]; omega
        · obtain rfl : j = k := by omega
          go_wp2
          go_ret
          have h1 := HO.out
          rw [List.take_of_length_le (by rw [← HM.out]; exact Nat.le_refl _)] at h1
          refine ⟨_, rfl, ?_, HW.out⟩
          rw [List.take_of_length_le (by rw [← HM.out]; exact Nat.le_refl _)]
          exact h1
end Go.Proofs.Ytnnajaomajgoeaa

/- Put. -/
namespace Go.Proofs.Ytnnajaomajgoeaa
open Go.RowKit

def bN (b : Bool) : Nat := if b then 1 else 0
def headL (f t : Nat) (b : Bool) : List Nat := [82, 82, bN b, f, t]
def plainL (f t : Nat) (b : Bool) (s a : Nat) (l : List Nat) : List Nat := [headL f t b, bytesOf s 8, bytesOf a 8, bytesOf l.length 2, l].flatten
theorem headL_lt (f t : Nat) (b : Bool) (hf : f ≤ 15) (ht : t ≤ 15) (i : Nat) : (headL f t b).getD i 0 < 256 := by
  have hb : bN b < 256 := by cases b <;> decide
  unfold headL
  match i with
  | 0 => show 82 < 256; decide
  | 1 => show 82 < 256; decide
  | 2 => exact hb
  | 3 => show f < 256; omega
  | 4 => show t < 256; omega
  | i + 5 => simp
theorem e8 (v : Nat) : (bytesOf v 8).length = 8 := bytesOf_length v 8 (by decide)
theorem e2 (v : Nat) : (bytesOf v 2).length = 2 := bytesOf_length v 2 (by decide)
theorem tot5 (f t s a : Nat) (l : List Nat) (b : Bool) : totL [headL f t b, bytesOf s 8, bytesOf a 8, bytesOf l.length 2, l] = 23 + l.length := by
  simp only [totL, e8, e2, headL, List.length_cons, List.length_nil]
  omega
theorem plain_lt (f t s a : Nat) (l : List Nat) (b : Bool) (hf : f ≤ 15) (ht : t ≤ 15) (hl : ∀ i : Nat, l.getD i 0 < 256) (i : Nat) : (plainL f t b s a l).getD i 0 < 256 := by
  have e : plainL f t b s a l = headL f t b ++ (bytesOf s 8 ++ (bytesOf a 8 ++ (bytesOf l.length 2 ++ l))) := by simp [plainL]
  rw [e]
  exact append_lt (headL_lt f t b hf ht) (append_lt (bytesOf_lt s 8) (append_lt (bytesOf_lt a 8) (append_lt (bytesOf_lt l.length 2) hl))) i
theorem own_mono16 {w : World} {base base' : Nat} {e : TypeId} {size : Nat} {v : Value} {n : Nat} {xs : List Value} (h : w.ownsRow base e size v n xs) (hb : base' ≤ base) : w.ownsRow base' e size v n xs := by
  rcases h.2 with hx | ⟨g, cap, cur, e, hg, r⟩
  · exact ⟨h.1, .inl hx⟩
  · exact ⟨h.1, .inr ⟨g, cap, cur, e, Nat.le_trans hb hg, r⟩⟩
theorem bl5 {w : World} {A0 A1 A2 A3 A4 : Option Addr} {L0 L1 L2 L3 L4 : List Nat} {n0 n1 n2 n3 n4 c0 c1 c2 c3 c4 : Nat} (h0 : Bts w A0 L0) (h1 : Bts w A1 L1) (h2 : Bts w A2 L2) (h3 : Bts w A3 L3) (h4 : Bts w A4 L4)
    (e0 : L0.length = n0) (e1 : L1.length = n1) (e2 : L2.length = n2) (e3 : L3.length = n3) (e4 : L4.length = n4) : BL w [.slice A0 n0 c0, .slice A1 n1 c1, .slice A2 n2 c2, .slice A3 n3 c3, .slice A4 n4 c4] [L0, L1, L2, L3, L4] := by
  subst e0 e1 e2 e3 e4
  refine ⟨rfl, fun i hi => ?_⟩
  match i with
  | 0 => exact ⟨_, _, rfl, h0⟩
  | 1 => exact ⟨_, _, rfl, h1⟩
  | 2 => exact ⟨_, _, rfl, h2⟩
  | 3 => exact ⟨_, _, rfl, h3⟩
  | 4 => exact ⟨_, _, rfl, h4⟩
  | i + 5 => exact absurd hi (by simp)
set_option maxHeartbeats 8000000 in
theorem put_true (f t s a : Nat) (A : Option Addr) (l : List Nat) (n c : Nat) (W : World) (hf : f ≤ 15) (ht : t ≤ 15) (hs : s < 18446744073709551616) (ha : a < 18446744073709551616) (hl : l.length = n) (hn : n ≤ 5000) (hB : Bts W A l) (hr : rightF f t true s n = true) :
    Calls Try.prog 22 #[frV f t true s a A n c] W fun e w' => ∃ v, e = .returned (.tuple #[v, .int .i64 0]) ∧ w'.ownsRow W.heap.size 5 1 v (plainL f t true s a l ++ bytesOf (sumV (plainL f t true s a l)) 4).length ((plainL f t true s a l ++ bytesOf (sumV (plainL f t true s a l)) 4).map bv) ∧ Below W.heap.size W w' := by
  have HR := Lib.hid hr
  have HB := Lib.hid hB
  have HL := Lib.hid hl
  have hX := Blkf.new_at W 59 (0, 0) #[.int .i64 f, .int .i64 t, .bool true, .int .u64 s, .int .u64 a, .slice A n c] rfl
  have HX := Lib.hid hX
  have HB0 : Hid (Below W.heap.size W (W.alloc (.cells #[.int .i64 f, .int .i64 t, .bool true, .int .u64 s, .int .u64 a, .slice A n c] 59))) := Lib.hid ((Below.refl _ W).alloc (Nat.le_refl _) _)
  unfold frV
  clear hr hB hl hX
  go_enter Try.func22, Try.ntmps22
  go_wp2_with fail
  refine (right_any f t true s a A n c _ (by omega)).mono ?_
  rintro e w1 ⟨rfl, hb1⟩
  rw [HR.out]
  obtain hX1 := HX.out.below hb1 HX.out.lt
  have HB1 := Lib.hid (HB0.out.trans (hb1.mono HB0.out.size))
  have HX1 := Lib.hid hX1
  have x0 := hX1.cell 0
  have x1 := hX1.cell 1
  have x2 := hX1.cell 2
  have x3 := hX1.cell 3
  have x4 := hX1.cell 4
  have x5 := hX1.cell 5
  have xl := hX1.lt
  have HBT := Lib.hid (bts_below HB.out HB1.out)
  clear hb1 hX1
  go_wp2_with fail
  have s0 := fun W' (h : Ext w1.drew W') => (h.cell (p := ⟨W.heap.size, 0, none⟩) xl).trans (HX1.out.cell 0)
  have s1 := fun W' (h : Ext w1.drew W') => (h.cell (p := ⟨W.heap.size, 1, none⟩) xl).trans (HX1.out.cell 1)
  have s3 := fun W' (h : Ext w1.drew W') => (h.cell (p := ⟨W.heap.size, 3, none⟩) xl).trans (HX1.out.cell 3)
  have s4 := fun W' (h : Ext w1.drew W') => (h.cell (p := ⟨W.heap.size, 4, none⟩) xl).trans (HX1.out.cell 4)
  have s5 := fun W' (h : Ext w1.drew W') => (h.cell (p := ⟨W.heap.size, 5, none⟩) xl).trans (HX1.out.cell 5)
  refine wp_region_pt Ext later_ext (PT.steps [0, 1, 2, 3, 4, 5, 6, 8, 9, 11, 12, 14, 15, 16, 17, 19, 20] (.fork 7 (.turn 10 (.turn 13 (.turn 18 (.turn 21 (.turn 22 (.step 23 .done)))))) 10 (.fork 7 (.turn 13 (.turn 18 (.turn 21 (.turn 22 (.step 23 .done))))) 13 (.fork 7 (.turn 18 (.turn 21 (.turn 22 (.step 23 .done)))) 18 (.turn 7 (.turn 21 (.turn 22 (.step 23 .done)))))))) (by kernel_rfl) (by kernel_rfl) (fun _ d _ _ _ h => by cases d <;> exact h) ?_
  unfold PT.steps
  iterate 17 (refine pt_take (v := ?_) rfl (by kernel_rfl) ?_ ?_; rotate_left; (focus (intro w' hw'; try go_simp; try with_reducible rfl)); simp only [Act.put, List.setIfInBounds_toArray, List.set_cons_zero, List.set_cons_succ])
  clear s0 s1 s3 s4 s5 x0 x1 x2 x3 x4 x5
  rw [show IntKind.u8.wrap (f : Int) = (f : Int) from by rw [IntKind.wrap_u8]; omega, show IntKind.u8.wrap (t : Int) = (t : Int) from by rw [IntKind.wrap_u8]; omega, show IntKind.u64.wrap (n : Int) = (n : Int) from by rw [IntKind.wrap_u64]; omega]
  have HC := Lib.hid (HB1.out.drew)
  have HD := Lib.hid (show Bts w1.drew A l from bts_below HB.out HC.out)
  generalize w1.drew = y at *
  clear HBT xl HX1 HB1
  refine pt_fork ?_ ?_
  focus
    refine pt_op rfl (by kernel_rfl) (fun K hK => ?_)
    go_simp
    refine hK _ _ ⟨(Ext.refl _).alloc (Nat.le_refl _) _, ?_⟩
    try simp only [Act.put, List.setIfInBounds_toArray, List.set_cons_zero, List.set_cons_succ]
    have hE := Below.alloc (Ext.refl y) (Nat.le_refl _) (.cells ((headL f t true).map bv).toArray 5)
    have H7 := Lib.hid (bts_lit y (0, 0) (headL f t true) (headL_lt f t true hf ht) _ rfl)
    obtain ⟨g7, hg7⟩ : ∃ g, g = y.heap.size := ⟨_, rfl⟩
    refine (show wpPT _ _ _ _ _ _ (y.alloc (.cells ((headL f t true).map bv).toArray 5)) from ?_)
    have HD := Lib.hid (bts_below HD.out hE)
    have HC := Lib.hid (HC.out.trans (hE.mono HC.out.size))
    rw [← hg7]
    rw [← hg7] at H7
    generalize y.alloc (.cells ((headL f t true).map bv).toArray 5) = yy at *
    clear hK hg7
    clear hE
    refine pt_turn ?_
    refine pt_opcall rfl (by kernel_rfl) (by go_simp; exact ⟨rfl, rfl⟩) ?_
    refine (bytes_any s 8 _ (by omega)).mono ?_
    rintro e yyy ⟨A10, c10, rfl, hB, -, hE⟩
    have H10 := Lib.hid hB
    refine ⟨_, rfl, hE, ?_⟩
    simp only [Act.put, List.setIfInBounds_toArray, List.set_cons_zero, List.set_cons_succ]
    have HD := Lib.hid (bts_below HD.out hE)
    have H7 := Lib.hid (bts_below H7.out hE)
    have HC := Lib.hid (HC.out.trans (hE.mono HC.out.size))
    clear hB
    clear hE
    refine pt_turn ?_
    refine pt_opcall rfl (by kernel_rfl) (by go_simp; exact ⟨rfl, rfl⟩) ?_
    refine (bytes_any a 8 _ (by omega)).mono ?_
    rintro e yyyy ⟨A13, c13, rfl, hB, -, hE⟩
    have H13 := Lib.hid hB
    refine ⟨_, rfl, hE, ?_⟩
    simp only [Act.put, List.setIfInBounds_toArray, List.set_cons_zero, List.set_cons_succ]
    have HD := Lib.hid (bts_below HD.out hE)
    have H7 := Lib.hid (bts_below H7.out hE)
    have H10 := Lib.hid (bts_below H10.out hE)
    have HC := Lib.hid (HC.out.trans (hE.mono HC.out.size))
    clear hB
    clear hE
    refine pt_turn ?_
    refine pt_opcall rfl (by kernel_rfl) (by go_simp; exact ⟨rfl, rfl⟩) ?_
    refine (bytes_any n 2 _ (by omega)).mono ?_
    rintro e yyyyy ⟨A18, c18, rfl, hB, -, hE⟩
    have H18 := Lib.hid hB
    refine ⟨_, rfl, hE, ?_⟩
    simp only [Act.put, List.setIfInBounds_toArray, List.set_cons_zero, List.set_cons_succ]
    have HD := Lib.hid (bts_below HD.out hE)
    have H7 := Lib.hid (bts_below H7.out hE)
    have H10 := Lib.hid (bts_below H10.out hE)
    have H13 := Lib.hid (bts_below H13.out hE)
    have HC := Lib.hid (HC.out.trans (hE.mono HC.out.size))
    clear hB
    clear hE
    obtain rfl := HL.out
    have hE := Below.alloc (Ext.refl yyyyy) (Nat.le_refl _) (.cells ([.slice (some ⟨g7, 0, none⟩) 5 5, .slice A10 (bytesOf s 8).length c10, .slice A13 (bytesOf a 8).length c13, .slice A18 (bytesOf l.length 2).length c18, .slice A l.length c] : List Value).toArray 30)
    have hG : Blk (yyyyy.alloc (.cells ([.slice (some ⟨g7, 0, none⟩) 5 5, .slice A10 (bytesOf s 8).length c10, .slice A13 (bytesOf a 8).length c13, .slice A18 (bytesOf l.length 2).length c18, .slice A l.length c] : List Value).toArray 30)) yyyyy.heap.size 30 ([.slice (some ⟨g7, 0, none⟩) 5 5, .slice A10 (bytesOf s 8).length c10, .slice A13 (bytesOf a 8).length c13, .slice A18 (bytesOf l.length 2).length c18, .slice A l.length c] : List Value).toArray := Blkf.new_at _ _ _ _ rfl
    have HD := Lib.hid (bts_below HD.out hE)
    have H7 := Lib.hid (bts_below H7.out hE)
    have H10 := Lib.hid (bts_below H10.out hE)
    have H13 := Lib.hid (bts_below H13.out hE)
    have H18 := Lib.hid (bts_below H18.out hE)
    have HC := Lib.hid (HC.out.trans (hE.mono HC.out.size))
    have hBL : BL (yyyyy.alloc (.cells ([.slice (some ⟨g7, 0, none⟩) 5 5, .slice A10 (bytesOf s 8).length c10, .slice A13 (bytesOf a 8).length c13, .slice A18 (bytesOf l.length 2).length c18, .slice A l.length c] : List Value).toArray 30)) [.slice (some ⟨g7, 0, none⟩) 5 5, .slice A10 (bytesOf s 8).length c10, .slice A13 (bytesOf a 8).length c13, .slice A18 (bytesOf l.length 2).length c18, .slice A l.length c] [headL f t true, bytesOf s 8, bytesOf a 8, bytesOf l.length 2, l] := bl5 H7.out H10.out H13.out H18.out HD.out rfl rfl rfl rfl rfl
    have hTT := tot5 f t s a l true
    have HG := Lib.hid hG
    have HBL := Lib.hid hBL
    have HTT := Lib.hid hTT
    clear hE hG hBL hTT H7 H10 H13 H18 HD
    refine pt_turn ?_
    refine pt_op rfl (by kernel_rfl) (fun K2 hK2 => ?_)
    go_simp
    refine hK2 _ _ ⟨(Ext.refl _).alloc (Nat.le_refl _) _, ?_⟩
    try simp only [Act.put, List.setIfInBounds_toArray, List.set_cons_zero, List.set_cons_succ]
    clear hK2
    refine pt_turn ?_
    refine pt_opcall rfl (by kernel_rfl) (by go_simp; exact ⟨rfl, rfl⟩) ?_
    refine (concat_any yyyyy.heap.size [.slice (some ⟨g7, 0, none⟩) 5 5, .slice A10 (bytesOf s 8).length c10, .slice A13 (bytesOf a 8).length c13, .slice A18 (bytesOf l.length 2).length c18, .slice A l.length c] [headL f t true, bytesOf s 8, bytesOf a 8, bytesOf l.length 2, l] _ HG.out HBL.out (show (5 : Nat) ≤ 100 by decide) (by rw [HTT.out]; omega) (by rw [HTT.out]; omega)).mono ?_
    rintro e z ⟨v, rfl, hO, hE⟩
    refine ⟨_, rfl, hE, ?_⟩
    try simp only [Act.put, List.setIfInBounds_toArray, List.set_cons_zero, List.set_cons_succ]
    have HC := Lib.hid (HC.out.trans (hE.mono HC.out.size))
    have HO := Lib.hid hO
    clear hO hE HG HBL
    iterate 1 (refine pt_take (v := ?_) rfl (by kernel_rfl) ?_ ?_; rotate_left; (focus (intro w' hw'; go_simp; try with_reducible rfl)); try simp only [Act.put, List.setIfInBounds_toArray, List.set_cons_zero, List.set_cons_succ])
    refine pt_end ?_
    obtain ⟨AP, cp, rfl, hP, -⟩ := bts_own (l := plainL f t true s a l) HO.out (plain_lt f t s a l true hf ht HB.out.1) rfl
    have HP := Lib.hid hP
    have hln : (plainL f t true s a l).length = 23 + l.length := (totL_flat _).trans HTT.out
    obtain ⟨P, hPe⟩ : ∃ P, P = plainL f t true s a l := ⟨_, rfl⟩
    rw [← hPe] at HP hln
    have HPE := Lib.hid hPe
    clear hP hPe HO HTT HB0 HX
    have HZ : Hid (W.heap.size ≤ z.heap.size) := Lib.hid HC.out.size
    go_wp2_with fail
    rw [← HPE.out]
    refine (seal_any AP P cp _ (by omega) HP.out).mono ?_
    rintro e zz ⟨v2, rfl, ho2, hb2⟩
    have HO2 := Lib.hid (own_mono16 ho2 HZ.out)
    have HB2 := Lib.hid (HC.out.trans (hb2.mono HC.out.size))
    clear ho2 hb2
    go_wp2
    go_ret2
    have h2 := HO2.out
    rw [HPE.out] at h2
    exact ⟨_, rfl, h2, HB2.out⟩
  focus
    refine pt_opcall rfl (by kernel_rfl) (by go_simp; exact ⟨rfl, rfl⟩) ?_
    refine (bytes_any s 8 _ (by omega)).mono ?_
    rintro e yy ⟨A10, c10, rfl, hB, -, hE⟩
    have H10 := Lib.hid hB
    refine ⟨_, rfl, hE, ?_⟩
    simp only [Act.put, List.setIfInBounds_toArray, List.set_cons_zero, List.set_cons_succ]
    have HD := Lib.hid (bts_below HD.out hE)
    have HC := Lib.hid (HC.out.trans (hE.mono HC.out.size))
    clear hB
    clear hE
    refine pt_fork ?_ ?_
    focus
      refine pt_op rfl (by kernel_rfl) (fun K hK => ?_)
      go_simp
      refine hK _ _ ⟨(Ext.refl _).alloc (Nat.le_refl _) _, ?_⟩
      try simp only [Act.put, List.setIfInBounds_toArray, List.set_cons_zero, List.set_cons_succ]
      have hE := Below.alloc (Ext.refl yy) (Nat.le_refl _) (.cells ((headL f t true).map bv).toArray 5)
      have H7 := Lib.hid (bts_lit yy (0, 0) (headL f t true) (headL_lt f t true hf ht) _ rfl)
      obtain ⟨g7, hg7⟩ : ∃ g, g = yy.heap.size := ⟨_, rfl⟩
      refine (show wpPT _ _ _ _ _ _ (yy.alloc (.cells ((headL f t true).map bv).toArray 5)) from ?_)
      have HD := Lib.hid (bts_below HD.out hE)
      have H10 := Lib.hid (bts_below H10.out hE)
      have HC := Lib.hid (HC.out.trans (hE.mono HC.out.size))
      rw [← hg7]
      rw [← hg7] at H7
      generalize yy.alloc (.cells ((headL f t true).map bv).toArray 5) = yyy at *
      clear hK hg7
      clear hE
      refine pt_turn ?_
      refine pt_opcall rfl (by kernel_rfl) (by go_simp; exact ⟨rfl, rfl⟩) ?_
      refine (bytes_any a 8 _ (by omega)).mono ?_
      rintro e yyyy ⟨A13, c13, rfl, hB, -, hE⟩
      have H13 := Lib.hid hB
      refine ⟨_, rfl, hE, ?_⟩
      simp only [Act.put, List.setIfInBounds_toArray, List.set_cons_zero, List.set_cons_succ]
      have HD := Lib.hid (bts_below HD.out hE)
      have H10 := Lib.hid (bts_below H10.out hE)
      have H7 := Lib.hid (bts_below H7.out hE)
      have HC := Lib.hid (HC.out.trans (hE.mono HC.out.size))
      clear hB
      clear hE
      refine pt_turn ?_
      refine pt_opcall rfl (by kernel_rfl) (by go_simp; exact ⟨rfl, rfl⟩) ?_
      refine (bytes_any n 2 _ (by omega)).mono ?_
      rintro e yyyyy ⟨A18, c18, rfl, hB, -, hE⟩
      have H18 := Lib.hid hB
      refine ⟨_, rfl, hE, ?_⟩
      simp only [Act.put, List.setIfInBounds_toArray, List.set_cons_zero, List.set_cons_succ]
      have HD := Lib.hid (bts_below HD.out hE)
      have H10 := Lib.hid (bts_below H10.out hE)
      have H7 := Lib.hid (bts_below H7.out hE)
      have H13 := Lib.hid (bts_below H13.out hE)
      have HC := Lib.hid (HC.out.trans (hE.mono HC.out.size))
      clear hB
      clear hE
      obtain rfl := HL.out
      have hE := Below.alloc (Ext.refl yyyyy) (Nat.le_refl _) (.cells ([.slice (some ⟨g7, 0, none⟩) 5 5, .slice A10 (bytesOf s 8).length c10, .slice A13 (bytesOf a 8).length c13, .slice A18 (bytesOf l.length 2).length c18, .slice A l.length c] : List Value).toArray 30)
      have hG : Blk (yyyyy.alloc (.cells ([.slice (some ⟨g7, 0, none⟩) 5 5, .slice A10 (bytesOf s 8).length c10, .slice A13 (bytesOf a 8).length c13, .slice A18 (bytesOf l.length 2).length c18, .slice A l.length c] : List Value).toArray 30)) yyyyy.heap.size 30 ([.slice (some ⟨g7, 0, none⟩) 5 5, .slice A10 (bytesOf s 8).length c10, .slice A13 (bytesOf a 8).length c13, .slice A18 (bytesOf l.length 2).length c18, .slice A l.length c] : List Value).toArray := Blkf.new_at _ _ _ _ rfl
      have HD := Lib.hid (bts_below HD.out hE)
      have H7 := Lib.hid (bts_below H7.out hE)
      have H10 := Lib.hid (bts_below H10.out hE)
      have H13 := Lib.hid (bts_below H13.out hE)
      have H18 := Lib.hid (bts_below H18.out hE)
      have HC := Lib.hid (HC.out.trans (hE.mono HC.out.size))
      have hBL : BL (yyyyy.alloc (.cells ([.slice (some ⟨g7, 0, none⟩) 5 5, .slice A10 (bytesOf s 8).length c10, .slice A13 (bytesOf a 8).length c13, .slice A18 (bytesOf l.length 2).length c18, .slice A l.length c] : List Value).toArray 30)) [.slice (some ⟨g7, 0, none⟩) 5 5, .slice A10 (bytesOf s 8).length c10, .slice A13 (bytesOf a 8).length c13, .slice A18 (bytesOf l.length 2).length c18, .slice A l.length c] [headL f t true, bytesOf s 8, bytesOf a 8, bytesOf l.length 2, l] := bl5 H7.out H10.out H13.out H18.out HD.out rfl rfl rfl rfl rfl
      have hTT := tot5 f t s a l true
      have HG := Lib.hid hG
      have HBL := Lib.hid hBL
      have HTT := Lib.hid hTT
      clear hE hG hBL hTT H7 H10 H13 H18 HD
      refine pt_turn ?_
      refine pt_op rfl (by kernel_rfl) (fun K2 hK2 => ?_)
      go_simp
      refine hK2 _ _ ⟨(Ext.refl _).alloc (Nat.le_refl _) _, ?_⟩
      try simp only [Act.put, List.setIfInBounds_toArray, List.set_cons_zero, List.set_cons_succ]
      clear hK2
      refine pt_turn ?_
      refine pt_opcall rfl (by kernel_rfl) (by go_simp; exact ⟨rfl, rfl⟩) ?_
      refine (concat_any yyyyy.heap.size [.slice (some ⟨g7, 0, none⟩) 5 5, .slice A10 (bytesOf s 8).length c10, .slice A13 (bytesOf a 8).length c13, .slice A18 (bytesOf l.length 2).length c18, .slice A l.length c] [headL f t true, bytesOf s 8, bytesOf a 8, bytesOf l.length 2, l] _ HG.out HBL.out (show (5 : Nat) ≤ 100 by decide) (by rw [HTT.out]; omega) (by rw [HTT.out]; omega)).mono ?_
      rintro e z ⟨v, rfl, hO, hE⟩
      refine ⟨_, rfl, hE, ?_⟩
      try simp only [Act.put, List.setIfInBounds_toArray, List.set_cons_zero, List.set_cons_succ]
      have HC := Lib.hid (HC.out.trans (hE.mono HC.out.size))
      have HO := Lib.hid hO
      clear hO hE HG HBL
      iterate 1 (refine pt_take (v := ?_) rfl (by kernel_rfl) ?_ ?_; rotate_left; (focus (intro w' hw'; go_simp; try with_reducible rfl)); try simp only [Act.put, List.setIfInBounds_toArray, List.set_cons_zero, List.set_cons_succ])
      refine pt_end ?_
      obtain ⟨AP, cp, rfl, hP, -⟩ := bts_own (l := plainL f t true s a l) HO.out (plain_lt f t s a l true hf ht HB.out.1) rfl
      have HP := Lib.hid hP
      have hln : (plainL f t true s a l).length = 23 + l.length := (totL_flat _).trans HTT.out
      obtain ⟨P, hPe⟩ : ∃ P, P = plainL f t true s a l := ⟨_, rfl⟩
      rw [← hPe] at HP hln
      have HPE := Lib.hid hPe
      clear hP hPe HO HTT HB0 HX
      have HZ : Hid (W.heap.size ≤ z.heap.size) := Lib.hid HC.out.size
      go_wp2_with fail
      rw [← HPE.out]
      refine (seal_any AP P cp _ (by omega) HP.out).mono ?_
      rintro e zz ⟨v2, rfl, ho2, hb2⟩
      have HO2 := Lib.hid (own_mono16 ho2 HZ.out)
      have HB2 := Lib.hid (HC.out.trans (hb2.mono HC.out.size))
      clear ho2 hb2
      go_wp2
      go_ret2
      have h2 := HO2.out
      rw [HPE.out] at h2
      exact ⟨_, rfl, h2, HB2.out⟩
    focus
      refine pt_opcall rfl (by kernel_rfl) (by go_simp; exact ⟨rfl, rfl⟩) ?_
      refine (bytes_any a 8 _ (by omega)).mono ?_
      rintro e yyy ⟨A13, c13, rfl, hB, -, hE⟩
      have H13 := Lib.hid hB
      refine ⟨_, rfl, hE, ?_⟩
      simp only [Act.put, List.setIfInBounds_toArray, List.set_cons_zero, List.set_cons_succ]
      have HD := Lib.hid (bts_below HD.out hE)
      have H10 := Lib.hid (bts_below H10.out hE)
      have HC := Lib.hid (HC.out.trans (hE.mono HC.out.size))
      clear hB
      clear hE
      refine pt_fork ?_ ?_
      focus
        refine pt_op rfl (by kernel_rfl) (fun K hK => ?_)
        go_simp
        refine hK _ _ ⟨(Ext.refl _).alloc (Nat.le_refl _) _, ?_⟩
        try simp only [Act.put, List.setIfInBounds_toArray, List.set_cons_zero, List.set_cons_succ]
        have hE := Below.alloc (Ext.refl yyy) (Nat.le_refl _) (.cells ((headL f t true).map bv).toArray 5)
        have H7 := Lib.hid (bts_lit yyy (0, 0) (headL f t true) (headL_lt f t true hf ht) _ rfl)
        obtain ⟨g7, hg7⟩ : ∃ g, g = yyy.heap.size := ⟨_, rfl⟩
        refine (show wpPT _ _ _ _ _ _ (yyy.alloc (.cells ((headL f t true).map bv).toArray 5)) from ?_)
        have HD := Lib.hid (bts_below HD.out hE)
        have H10 := Lib.hid (bts_below H10.out hE)
        have H13 := Lib.hid (bts_below H13.out hE)
        have HC := Lib.hid (HC.out.trans (hE.mono HC.out.size))
        rw [← hg7]
        rw [← hg7] at H7
        generalize yyy.alloc (.cells ((headL f t true).map bv).toArray 5) = yyyy at *
        clear hK hg7
        clear hE
        refine pt_turn ?_
        refine pt_opcall rfl (by kernel_rfl) (by go_simp; exact ⟨rfl, rfl⟩) ?_
        refine (bytes_any n 2 _ (by omega)).mono ?_
        rintro e yyyyy ⟨A18, c18, rfl, hB, -, hE⟩
        have H18 := Lib.hid hB
        refine ⟨_, rfl, hE, ?_⟩
        simp only [Act.put, List.setIfInBounds_toArray, List.set_cons_zero, List.set_cons_succ]
        have HD := Lib.hid (bts_below HD.out hE)
        have H10 := Lib.hid (bts_below H10.out hE)
        have H13 := Lib.hid (bts_below H13.out hE)
        have H7 := Lib.hid (bts_below H7.out hE)
        have HC := Lib.hid (HC.out.trans (hE.mono HC.out.size))
        clear hB
        clear hE
        obtain rfl := HL.out
        have hE := Below.alloc (Ext.refl yyyyy) (Nat.le_refl _) (.cells ([.slice (some ⟨g7, 0, none⟩) 5 5, .slice A10 (bytesOf s 8).length c10, .slice A13 (bytesOf a 8).length c13, .slice A18 (bytesOf l.length 2).length c18, .slice A l.length c] : List Value).toArray 30)
        have hG : Blk (yyyyy.alloc (.cells ([.slice (some ⟨g7, 0, none⟩) 5 5, .slice A10 (bytesOf s 8).length c10, .slice A13 (bytesOf a 8).length c13, .slice A18 (bytesOf l.length 2).length c18, .slice A l.length c] : List Value).toArray 30)) yyyyy.heap.size 30 ([.slice (some ⟨g7, 0, none⟩) 5 5, .slice A10 (bytesOf s 8).length c10, .slice A13 (bytesOf a 8).length c13, .slice A18 (bytesOf l.length 2).length c18, .slice A l.length c] : List Value).toArray := Blkf.new_at _ _ _ _ rfl
        have HD := Lib.hid (bts_below HD.out hE)
        have H7 := Lib.hid (bts_below H7.out hE)
        have H10 := Lib.hid (bts_below H10.out hE)
        have H13 := Lib.hid (bts_below H13.out hE)
        have H18 := Lib.hid (bts_below H18.out hE)
        have HC := Lib.hid (HC.out.trans (hE.mono HC.out.size))
        have hBL : BL (yyyyy.alloc (.cells ([.slice (some ⟨g7, 0, none⟩) 5 5, .slice A10 (bytesOf s 8).length c10, .slice A13 (bytesOf a 8).length c13, .slice A18 (bytesOf l.length 2).length c18, .slice A l.length c] : List Value).toArray 30)) [.slice (some ⟨g7, 0, none⟩) 5 5, .slice A10 (bytesOf s 8).length c10, .slice A13 (bytesOf a 8).length c13, .slice A18 (bytesOf l.length 2).length c18, .slice A l.length c] [headL f t true, bytesOf s 8, bytesOf a 8, bytesOf l.length 2, l] := bl5 H7.out H10.out H13.out H18.out HD.out rfl rfl rfl rfl rfl
        have hTT := tot5 f t s a l true
        have HG := Lib.hid hG
        have HBL := Lib.hid hBL
        have HTT := Lib.hid hTT
        clear hE hG hBL hTT H7 H10 H13 H18 HD
        refine pt_turn ?_
        refine pt_op rfl (by kernel_rfl) (fun K2 hK2 => ?_)
        go_simp
        refine hK2 _ _ ⟨(Ext.refl _).alloc (Nat.le_refl _) _, ?_⟩
        try simp only [Act.put, List.setIfInBounds_toArray, List.set_cons_zero, List.set_cons_succ]
        clear hK2
        refine pt_turn ?_
        refine pt_opcall rfl (by kernel_rfl) (by go_simp; exact ⟨rfl, rfl⟩) ?_
        refine (concat_any yyyyy.heap.size [.slice (some ⟨g7, 0, none⟩) 5 5, .slice A10 (bytesOf s 8).length c10, .slice A13 (bytesOf a 8).length c13, .slice A18 (bytesOf l.length 2).length c18, .slice A l.length c] [headL f t true, bytesOf s 8, bytesOf a 8, bytesOf l.length 2, l] _ HG.out HBL.out (show (5 : Nat) ≤ 100 by decide) (by rw [HTT.out]; omega) (by rw [HTT.out]; omega)).mono ?_
        rintro e z ⟨v, rfl, hO, hE⟩
        refine ⟨_, rfl, hE, ?_⟩
        try simp only [Act.put, List.setIfInBounds_toArray, List.set_cons_zero, List.set_cons_succ]
        have HC := Lib.hid (HC.out.trans (hE.mono HC.out.size))
        have HO := Lib.hid hO
        clear hO hE HG HBL
        iterate 1 (refine pt_take (v := ?_) rfl (by kernel_rfl) ?_ ?_; rotate_left; (focus (intro w' hw'; go_simp; try with_reducible rfl)); try simp only [Act.put, List.setIfInBounds_toArray, List.set_cons_zero, List.set_cons_succ])
        refine pt_end ?_
        obtain ⟨AP, cp, rfl, hP, -⟩ := bts_own (l := plainL f t true s a l) HO.out (plain_lt f t s a l true hf ht HB.out.1) rfl
        have HP := Lib.hid hP
        have hln : (plainL f t true s a l).length = 23 + l.length := (totL_flat _).trans HTT.out
        obtain ⟨P, hPe⟩ : ∃ P, P = plainL f t true s a l := ⟨_, rfl⟩
        rw [← hPe] at HP hln
        have HPE := Lib.hid hPe
        clear hP hPe HO HTT HB0 HX
        have HZ : Hid (W.heap.size ≤ z.heap.size) := Lib.hid HC.out.size
        go_wp2_with fail
        rw [← HPE.out]
        refine (seal_any AP P cp _ (by omega) HP.out).mono ?_
        rintro e zz ⟨v2, rfl, ho2, hb2⟩
        have HO2 := Lib.hid (own_mono16 ho2 HZ.out)
        have HB2 := Lib.hid (HC.out.trans (hb2.mono HC.out.size))
        clear ho2 hb2
        go_wp2
        go_ret2
        have h2 := HO2.out
        rw [HPE.out] at h2
        exact ⟨_, rfl, h2, HB2.out⟩
      focus
        refine pt_opcall rfl (by kernel_rfl) (by go_simp; exact ⟨rfl, rfl⟩) ?_
        refine (bytes_any n 2 _ (by omega)).mono ?_
        rintro e yyyy ⟨A18, c18, rfl, hB, -, hE⟩
        have H18 := Lib.hid hB
        refine ⟨_, rfl, hE, ?_⟩
        simp only [Act.put, List.setIfInBounds_toArray, List.set_cons_zero, List.set_cons_succ]
        have HD := Lib.hid (bts_below HD.out hE)
        have H10 := Lib.hid (bts_below H10.out hE)
        have H13 := Lib.hid (bts_below H13.out hE)
        have HC := Lib.hid (HC.out.trans (hE.mono HC.out.size))
        clear hB
        clear hE
        refine pt_turn ?_
        refine pt_op rfl (by kernel_rfl) (fun K hK => ?_)
        go_simp
        refine hK _ _ ⟨(Ext.refl _).alloc (Nat.le_refl _) _, ?_⟩
        try simp only [Act.put, List.setIfInBounds_toArray, List.set_cons_zero, List.set_cons_succ]
        have hE := Below.alloc (Ext.refl yyyy) (Nat.le_refl _) (.cells ((headL f t true).map bv).toArray 5)
        have H7 := Lib.hid (bts_lit yyyy (0, 0) (headL f t true) (headL_lt f t true hf ht) _ rfl)
        obtain ⟨g7, hg7⟩ : ∃ g, g = yyyy.heap.size := ⟨_, rfl⟩
        refine (show wpPT _ _ _ _ _ _ (yyyy.alloc (.cells ((headL f t true).map bv).toArray 5)) from ?_)
        have HD := Lib.hid (bts_below HD.out hE)
        have H10 := Lib.hid (bts_below H10.out hE)
        have H13 := Lib.hid (bts_below H13.out hE)
        have H18 := Lib.hid (bts_below H18.out hE)
        have HC := Lib.hid (HC.out.trans (hE.mono HC.out.size))
        rw [← hg7]
        rw [← hg7] at H7
        generalize yyyy.alloc (.cells ((headL f t true).map bv).toArray 5) = yyyyy at *
        clear hK hg7
        clear hE
        obtain rfl := HL.out
        have hE := Below.alloc (Ext.refl yyyyy) (Nat.le_refl _) (.cells ([.slice (some ⟨g7, 0, none⟩) 5 5, .slice A10 (bytesOf s 8).length c10, .slice A13 (bytesOf a 8).length c13, .slice A18 (bytesOf l.length 2).length c18, .slice A l.length c] : List Value).toArray 30)
        have hG : Blk (yyyyy.alloc (.cells ([.slice (some ⟨g7, 0, none⟩) 5 5, .slice A10 (bytesOf s 8).length c10, .slice A13 (bytesOf a 8).length c13, .slice A18 (bytesOf l.length 2).length c18, .slice A l.length c] : List Value).toArray 30)) yyyyy.heap.size 30 ([.slice (some ⟨g7, 0, none⟩) 5 5, .slice A10 (bytesOf s 8).length c10, .slice A13 (bytesOf a 8).length c13, .slice A18 (bytesOf l.length 2).length c18, .slice A l.length c] : List Value).toArray := Blkf.new_at _ _ _ _ rfl
        have HD := Lib.hid (bts_below HD.out hE)
        have H7 := Lib.hid (bts_below H7.out hE)
        have H10 := Lib.hid (bts_below H10.out hE)
        have H13 := Lib.hid (bts_below H13.out hE)
        have H18 := Lib.hid (bts_below H18.out hE)
        have HC := Lib.hid (HC.out.trans (hE.mono HC.out.size))
        have hBL : BL (yyyyy.alloc (.cells ([.slice (some ⟨g7, 0, none⟩) 5 5, .slice A10 (bytesOf s 8).length c10, .slice A13 (bytesOf a 8).length c13, .slice A18 (bytesOf l.length 2).length c18, .slice A l.length c] : List Value).toArray 30)) [.slice (some ⟨g7, 0, none⟩) 5 5, .slice A10 (bytesOf s 8).length c10, .slice A13 (bytesOf a 8).length c13, .slice A18 (bytesOf l.length 2).length c18, .slice A l.length c] [headL f t true, bytesOf s 8, bytesOf a 8, bytesOf l.length 2, l] := bl5 H7.out H10.out H13.out H18.out HD.out rfl rfl rfl rfl rfl
        have hTT := tot5 f t s a l true
        have HG := Lib.hid hG
        have HBL := Lib.hid hBL
        have HTT := Lib.hid hTT
        clear hE hG hBL hTT H7 H10 H13 H18 HD
        refine pt_turn ?_
        refine pt_op rfl (by kernel_rfl) (fun K2 hK2 => ?_)
        go_simp
        refine hK2 _ _ ⟨(Ext.refl _).alloc (Nat.le_refl _) _, ?_⟩
        try simp only [Act.put, List.setIfInBounds_toArray, List.set_cons_zero, List.set_cons_succ]
        clear hK2
        refine pt_turn ?_
        refine pt_opcall rfl (by kernel_rfl) (by go_simp; exact ⟨rfl, rfl⟩) ?_
        refine (concat_any yyyyy.heap.size [.slice (some ⟨g7, 0, none⟩) 5 5, .slice A10 (bytesOf s 8).length c10, .slice A13 (bytesOf a 8).length c13, .slice A18 (bytesOf l.length 2).length c18, .slice A l.length c] [headL f t true, bytesOf s 8, bytesOf a 8, bytesOf l.length 2, l] _ HG.out HBL.out (show (5 : Nat) ≤ 100 by decide) (by rw [HTT.out]; omega) (by rw [HTT.out]; omega)).mono ?_
        rintro e z ⟨v, rfl, hO, hE⟩
        refine ⟨_, rfl, hE, ?_⟩
        try simp only [Act.put, List.setIfInBounds_toArray, List.set_cons_zero, List.set_cons_succ]
        have HC := Lib.hid (HC.out.trans (hE.mono HC.out.size))
        have HO := Lib.hid hO
        clear hO hE HG HBL
        iterate 1 (refine pt_take (v := ?_) rfl (by kernel_rfl) ?_ ?_; rotate_left; (focus (intro w' hw'; go_simp; try with_reducible rfl)); try simp only [Act.put, List.setIfInBounds_toArray, List.set_cons_zero, List.set_cons_succ])
        refine pt_end ?_
        obtain ⟨AP, cp, rfl, hP, -⟩ := bts_own (l := plainL f t true s a l) HO.out (plain_lt f t s a l true hf ht HB.out.1) rfl
        have HP := Lib.hid hP
        have hln : (plainL f t true s a l).length = 23 + l.length := (totL_flat _).trans HTT.out
        obtain ⟨P, hPe⟩ : ∃ P, P = plainL f t true s a l := ⟨_, rfl⟩
        rw [← hPe] at HP hln
        have HPE := Lib.hid hPe
        clear hP hPe HO HTT HB0 HX
        have HZ : Hid (W.heap.size ≤ z.heap.size) := Lib.hid HC.out.size
        go_wp2_with fail
        rw [← HPE.out]
        refine (seal_any AP P cp _ (by omega) HP.out).mono ?_
        rintro e zz ⟨v2, rfl, ho2, hb2⟩
        have HO2 := Lib.hid (own_mono16 ho2 HZ.out)
        have HB2 := Lib.hid (HC.out.trans (hb2.mono HC.out.size))
        clear ho2 hb2
        go_wp2
        go_ret2
        have h2 := HO2.out
        rw [HPE.out] at h2
        exact ⟨_, rfl, h2, HB2.out⟩
end Go.Proofs.Ytnnajaomajgoeaa

/- Put of a frame without a body. -/
namespace Go.Proofs.Ytnnajaomajgoeaa
open Go.RowKit
set_option maxHeartbeats 8000000 in
theorem put_false (f t s a : Nat) (A : Option Addr) (l : List Nat) (n c : Nat) (W : World) (hf : f ≤ 15) (ht : t ≤ 15) (hs : s < 18446744073709551616) (ha : a < 18446744073709551616) (hl : l.length = n) (hn : n ≤ 5000) (hB : Bts W A l) (hr : rightF f t false s n = true) :
    Calls Try.prog 22 #[frV f t false s a A n c] W fun e w' => ∃ v, e = .returned (.tuple #[v, .int .i64 0]) ∧ w'.ownsRow W.heap.size 5 1 v (plainL f t false s a l ++ bytesOf (sumV (plainL f t false s a l)) 4).length ((plainL f t false s a l ++ bytesOf (sumV (plainL f t false s a l)) 4).map bv) ∧ Below W.heap.size W w' := by
  have HR := Lib.hid hr
  have HB := Lib.hid hB
  have HL := Lib.hid hl
  have hX := Blkf.new_at W 59 (0, 0) #[.int .i64 f, .int .i64 t, .bool false, .int .u64 s, .int .u64 a, .slice A n c] rfl
  have HX := Lib.hid hX
  have HB0 : Hid (Below W.heap.size W (W.alloc (.cells #[.int .i64 f, .int .i64 t, .bool false, .int .u64 s, .int .u64 a, .slice A n c] 59))) := Lib.hid ((Below.refl _ W).alloc (Nat.le_refl _) _)
  unfold frV
  clear hr hB hl hX
  go_enter Try.func22, Try.ntmps22
  go_wp2_with fail
  refine (right_any f t false s a A n c _ (by omega)).mono ?_
  rintro e w1 ⟨rfl, hb1⟩
  rw [HR.out]
  obtain hX1 := HX.out.below hb1 HX.out.lt
  have HB1 := Lib.hid (HB0.out.trans (hb1.mono HB0.out.size))
  have HX1 := Lib.hid hX1
  have x0 := hX1.cell 0
  have x1 := hX1.cell 1
  have x2 := hX1.cell 2
  have x3 := hX1.cell 3
  have x4 := hX1.cell 4
  have x5 := hX1.cell 5
  have xl := hX1.lt
  have HBT := Lib.hid (bts_below HB.out HB1.out)
  clear hb1 hX1
  go_wp2_with fail
  have s0 := fun W' (h : Ext w1.drew W') => (h.cell (p := ⟨W.heap.size, 0, none⟩) xl).trans (HX1.out.cell 0)
  have s1 := fun W' (h : Ext w1.drew W') => (h.cell (p := ⟨W.heap.size, 1, none⟩) xl).trans (HX1.out.cell 1)
  have s3 := fun W' (h : Ext w1.drew W') => (h.cell (p := ⟨W.heap.size, 3, none⟩) xl).trans (HX1.out.cell 3)
  have s4 := fun W' (h : Ext w1.drew W') => (h.cell (p := ⟨W.heap.size, 4, none⟩) xl).trans (HX1.out.cell 4)
  have s5 := fun W' (h : Ext w1.drew W') => (h.cell (p := ⟨W.heap.size, 5, none⟩) xl).trans (HX1.out.cell 5)
  refine wp_region_pt Ext later_ext (PT.steps [0, 1, 2, 3, 4, 5, 6, 8, 9, 11, 12, 14, 15, 16, 17, 19, 20] (.fork 7 (.turn 10 (.turn 13 (.turn 18 (.turn 21 (.turn 22 (.step 23 .done)))))) 10 (.fork 7 (.turn 13 (.turn 18 (.turn 21 (.turn 22 (.step 23 .done))))) 13 (.fork 7 (.turn 18 (.turn 21 (.turn 22 (.step 23 .done)))) 18 (.turn 7 (.turn 21 (.turn 22 (.step 23 .done)))))))) (by kernel_rfl) (by kernel_rfl) (fun _ d _ _ _ h => by cases d <;> exact h) ?_
  unfold PT.steps
  iterate 17 (refine pt_take (v := ?_) rfl (by kernel_rfl) ?_ ?_; rotate_left; (focus (intro w' hw'; try go_simp; try with_reducible rfl)); simp only [Act.put, List.setIfInBounds_toArray, List.set_cons_zero, List.set_cons_succ])
  clear s0 s1 s3 s4 s5 x0 x1 x2 x3 x4 x5
  rw [show IntKind.u8.wrap (f : Int) = (f : Int) from by rw [IntKind.wrap_u8]; omega, show IntKind.u8.wrap (t : Int) = (t : Int) from by rw [IntKind.wrap_u8]; omega, show IntKind.u64.wrap (n : Int) = (n : Int) from by rw [IntKind.wrap_u64]; omega]
  have HC := Lib.hid (HB1.out.drew)
  have HD := Lib.hid (show Bts w1.drew A l from bts_below HB.out HC.out)
  generalize w1.drew = y at *
  clear HBT xl HX1 HB1
  refine pt_fork ?_ ?_
  focus
    refine pt_op rfl (by kernel_rfl) (fun K hK => ?_)
    go_simp
    refine hK _ _ ⟨(Ext.refl _).alloc (Nat.le_refl _) _, ?_⟩
    try simp only [Act.put, List.setIfInBounds_toArray, List.set_cons_zero, List.set_cons_succ]
    have hE := Below.alloc (Ext.refl y) (Nat.le_refl _) (.cells ((headL f t false).map bv).toArray 5)
    have H7 := Lib.hid (bts_lit y (0, 0) (headL f t false) (headL_lt f t false hf ht) _ rfl)
    obtain ⟨g7, hg7⟩ : ∃ g, g = y.heap.size := ⟨_, rfl⟩
    refine (show wpPT _ _ _ _ _ _ (y.alloc (.cells ((headL f t false).map bv).toArray 5)) from ?_)
    have HD := Lib.hid (bts_below HD.out hE)
    have HC := Lib.hid (HC.out.trans (hE.mono HC.out.size))
    rw [← hg7]
    rw [← hg7] at H7
    generalize y.alloc (.cells ((headL f t false).map bv).toArray 5) = yy at *
    clear hK hg7
    clear hE
    refine pt_turn ?_
    refine pt_opcall rfl (by kernel_rfl) (by go_simp; exact ⟨rfl, rfl⟩) ?_
    refine (bytes_any s 8 _ (by omega)).mono ?_
    rintro e yyy ⟨A10, c10, rfl, hB, -, hE⟩
    have H10 := Lib.hid hB
    refine ⟨_, rfl, hE, ?_⟩
    simp only [Act.put, List.setIfInBounds_toArray, List.set_cons_zero, List.set_cons_succ]
    have HD := Lib.hid (bts_below HD.out hE)
    have H7 := Lib.hid (bts_below H7.out hE)
    have HC := Lib.hid (HC.out.trans (hE.mono HC.out.size))
    clear hB
    clear hE
    refine pt_turn ?_
    refine pt_opcall rfl (by kernel_rfl) (by go_simp; exact ⟨rfl, rfl⟩) ?_
    refine (bytes_any a 8 _ (by omega)).mono ?_
    rintro e yyyy ⟨A13, c13, rfl, hB, -, hE⟩
    have H13 := Lib.hid hB
    refine ⟨_, rfl, hE, ?_⟩
    simp only [Act.put, List.setIfInBounds_toArray, List.set_cons_zero, List.set_cons_succ]
    have HD := Lib.hid (bts_below HD.out hE)
    have H7 := Lib.hid (bts_below H7.out hE)
    have H10 := Lib.hid (bts_below H10.out hE)
    have HC := Lib.hid (HC.out.trans (hE.mono HC.out.size))
    clear hB
    clear hE
    refine pt_turn ?_
    refine pt_opcall rfl (by kernel_rfl) (by go_simp; exact ⟨rfl, rfl⟩) ?_
    refine (bytes_any n 2 _ (by omega)).mono ?_
    rintro e yyyyy ⟨A18, c18, rfl, hB, -, hE⟩
    have H18 := Lib.hid hB
    refine ⟨_, rfl, hE, ?_⟩
    simp only [Act.put, List.setIfInBounds_toArray, List.set_cons_zero, List.set_cons_succ]
    have HD := Lib.hid (bts_below HD.out hE)
    have H7 := Lib.hid (bts_below H7.out hE)
    have H10 := Lib.hid (bts_below H10.out hE)
    have H13 := Lib.hid (bts_below H13.out hE)
    have HC := Lib.hid (HC.out.trans (hE.mono HC.out.size))
    clear hB
    clear hE
    obtain rfl := HL.out
    have hE := Below.alloc (Ext.refl yyyyy) (Nat.le_refl _) (.cells ([.slice (some ⟨g7, 0, none⟩) 5 5, .slice A10 (bytesOf s 8).length c10, .slice A13 (bytesOf a 8).length c13, .slice A18 (bytesOf l.length 2).length c18, .slice A l.length c] : List Value).toArray 30)
    have hG : Blk (yyyyy.alloc (.cells ([.slice (some ⟨g7, 0, none⟩) 5 5, .slice A10 (bytesOf s 8).length c10, .slice A13 (bytesOf a 8).length c13, .slice A18 (bytesOf l.length 2).length c18, .slice A l.length c] : List Value).toArray 30)) yyyyy.heap.size 30 ([.slice (some ⟨g7, 0, none⟩) 5 5, .slice A10 (bytesOf s 8).length c10, .slice A13 (bytesOf a 8).length c13, .slice A18 (bytesOf l.length 2).length c18, .slice A l.length c] : List Value).toArray := Blkf.new_at _ _ _ _ rfl
    have HD := Lib.hid (bts_below HD.out hE)
    have H7 := Lib.hid (bts_below H7.out hE)
    have H10 := Lib.hid (bts_below H10.out hE)
    have H13 := Lib.hid (bts_below H13.out hE)
    have H18 := Lib.hid (bts_below H18.out hE)
    have HC := Lib.hid (HC.out.trans (hE.mono HC.out.size))
    have hBL : BL (yyyyy.alloc (.cells ([.slice (some ⟨g7, 0, none⟩) 5 5, .slice A10 (bytesOf s 8).length c10, .slice A13 (bytesOf a 8).length c13, .slice A18 (bytesOf l.length 2).length c18, .slice A l.length c] : List Value).toArray 30)) [.slice (some ⟨g7, 0, none⟩) 5 5, .slice A10 (bytesOf s 8).length c10, .slice A13 (bytesOf a 8).length c13, .slice A18 (bytesOf l.length 2).length c18, .slice A l.length c] [headL f t false, bytesOf s 8, bytesOf a 8, bytesOf l.length 2, l] := bl5 H7.out H10.out H13.out H18.out HD.out rfl rfl rfl rfl rfl
    have hTT := tot5 f t s a l false
    have HG := Lib.hid hG
    have HBL := Lib.hid hBL
    have HTT := Lib.hid hTT
    clear hE hG hBL hTT H7 H10 H13 H18 HD
    refine pt_turn ?_
    refine pt_op rfl (by kernel_rfl) (fun K2 hK2 => ?_)
    go_simp
    refine hK2 _ _ ⟨(Ext.refl _).alloc (Nat.le_refl _) _, ?_⟩
    try simp only [Act.put, List.setIfInBounds_toArray, List.set_cons_zero, List.set_cons_succ]
    clear hK2
    refine pt_turn ?_
    refine pt_opcall rfl (by kernel_rfl) (by go_simp; exact ⟨rfl, rfl⟩) ?_
    refine (concat_any yyyyy.heap.size [.slice (some ⟨g7, 0, none⟩) 5 5, .slice A10 (bytesOf s 8).length c10, .slice A13 (bytesOf a 8).length c13, .slice A18 (bytesOf l.length 2).length c18, .slice A l.length c] [headL f t false, bytesOf s 8, bytesOf a 8, bytesOf l.length 2, l] _ HG.out HBL.out (show (5 : Nat) ≤ 100 by decide) (by rw [HTT.out]; omega) (by rw [HTT.out]; omega)).mono ?_
    rintro e z ⟨v, rfl, hO, hE⟩
    refine ⟨_, rfl, hE, ?_⟩
    try simp only [Act.put, List.setIfInBounds_toArray, List.set_cons_zero, List.set_cons_succ]
    have HC := Lib.hid (HC.out.trans (hE.mono HC.out.size))
    have HO := Lib.hid hO
    clear hO hE HG HBL
    iterate 1 (refine pt_take (v := ?_) rfl (by kernel_rfl) ?_ ?_; rotate_left; (focus (intro w' hw'; go_simp; try with_reducible rfl)); try simp only [Act.put, List.setIfInBounds_toArray, List.set_cons_zero, List.set_cons_succ])
    refine pt_end ?_
    obtain ⟨AP, cp, rfl, hP, -⟩ := bts_own (l := plainL f t false s a l) HO.out (plain_lt f t s a l false hf ht HB.out.1) rfl
    have HP := Lib.hid hP
    have hln : (plainL f t false s a l).length = 23 + l.length := (totL_flat _).trans HTT.out
    obtain ⟨P, hPe⟩ : ∃ P, P = plainL f t false s a l := ⟨_, rfl⟩
    rw [← hPe] at HP hln
    have HPE := Lib.hid hPe
    clear hP hPe HO HTT HB0 HX
    have HZ : Hid (W.heap.size ≤ z.heap.size) := Lib.hid HC.out.size
    go_wp2_with fail
    rw [← HPE.out]
    refine (seal_any AP P cp _ (by omega) HP.out).mono ?_
    rintro e zz ⟨v2, rfl, ho2, hb2⟩
    have HO2 := Lib.hid (own_mono16 ho2 HZ.out)
    have HB2 := Lib.hid (HC.out.trans (hb2.mono HC.out.size))
    clear ho2 hb2
    go_wp2
    go_ret2
    have h2 := HO2.out
    rw [HPE.out] at h2
    exact ⟨_, rfl, h2, HB2.out⟩
  focus
    refine pt_opcall rfl (by kernel_rfl) (by go_simp; exact ⟨rfl, rfl⟩) ?_
    refine (bytes_any s 8 _ (by omega)).mono ?_
    rintro e yy ⟨A10, c10, rfl, hB, -, hE⟩
    have H10 := Lib.hid hB
    refine ⟨_, rfl, hE, ?_⟩
    simp only [Act.put, List.setIfInBounds_toArray, List.set_cons_zero, List.set_cons_succ]
    have HD := Lib.hid (bts_below HD.out hE)
    have HC := Lib.hid (HC.out.trans (hE.mono HC.out.size))
    clear hB
    clear hE
    refine pt_fork ?_ ?_
    focus
      refine pt_op rfl (by kernel_rfl) (fun K hK => ?_)
      go_simp
      refine hK _ _ ⟨(Ext.refl _).alloc (Nat.le_refl _) _, ?_⟩
      try simp only [Act.put, List.setIfInBounds_toArray, List.set_cons_zero, List.set_cons_succ]
      have hE := Below.alloc (Ext.refl yy) (Nat.le_refl _) (.cells ((headL f t false).map bv).toArray 5)
      have H7 := Lib.hid (bts_lit yy (0, 0) (headL f t false) (headL_lt f t false hf ht) _ rfl)
      obtain ⟨g7, hg7⟩ : ∃ g, g = yy.heap.size := ⟨_, rfl⟩
      refine (show wpPT _ _ _ _ _ _ (yy.alloc (.cells ((headL f t false).map bv).toArray 5)) from ?_)
      have HD := Lib.hid (bts_below HD.out hE)
      have H10 := Lib.hid (bts_below H10.out hE)
      have HC := Lib.hid (HC.out.trans (hE.mono HC.out.size))
      rw [← hg7]
      rw [← hg7] at H7
      generalize yy.alloc (.cells ((headL f t false).map bv).toArray 5) = yyy at *
      clear hK hg7
      clear hE
      refine pt_turn ?_
      refine pt_opcall rfl (by kernel_rfl) (by go_simp; exact ⟨rfl, rfl⟩) ?_
      refine (bytes_any a 8 _ (by omega)).mono ?_
      rintro e yyyy ⟨A13, c13, rfl, hB, -, hE⟩
      have H13 := Lib.hid hB
      refine ⟨_, rfl, hE, ?_⟩
      simp only [Act.put, List.setIfInBounds_toArray, List.set_cons_zero, List.set_cons_succ]
      have HD := Lib.hid (bts_below HD.out hE)
      have H10 := Lib.hid (bts_below H10.out hE)
      have H7 := Lib.hid (bts_below H7.out hE)
      have HC := Lib.hid (HC.out.trans (hE.mono HC.out.size))
      clear hB
      clear hE
      refine pt_turn ?_
      refine pt_opcall rfl (by kernel_rfl) (by go_simp; exact ⟨rfl, rfl⟩) ?_
      refine (bytes_any n 2 _ (by omega)).mono ?_
      rintro e yyyyy ⟨A18, c18, rfl, hB, -, hE⟩
      have H18 := Lib.hid hB
      refine ⟨_, rfl, hE, ?_⟩
      simp only [Act.put, List.setIfInBounds_toArray, List.set_cons_zero, List.set_cons_succ]
      have HD := Lib.hid (bts_below HD.out hE)
      have H10 := Lib.hid (bts_below H10.out hE)
      have H7 := Lib.hid (bts_below H7.out hE)
      have H13 := Lib.hid (bts_below H13.out hE)
      have HC := Lib.hid (HC.out.trans (hE.mono HC.out.size))
      clear hB
      clear hE
      obtain rfl := HL.out
      have hE := Below.alloc (Ext.refl yyyyy) (Nat.le_refl _) (.cells ([.slice (some ⟨g7, 0, none⟩) 5 5, .slice A10 (bytesOf s 8).length c10, .slice A13 (bytesOf a 8).length c13, .slice A18 (bytesOf l.length 2).length c18, .slice A l.length c] : List Value).toArray 30)
      have hG : Blk (yyyyy.alloc (.cells ([.slice (some ⟨g7, 0, none⟩) 5 5, .slice A10 (bytesOf s 8).length c10, .slice A13 (bytesOf a 8).length c13, .slice A18 (bytesOf l.length 2).length c18, .slice A l.length c] : List Value).toArray 30)) yyyyy.heap.size 30 ([.slice (some ⟨g7, 0, none⟩) 5 5, .slice A10 (bytesOf s 8).length c10, .slice A13 (bytesOf a 8).length c13, .slice A18 (bytesOf l.length 2).length c18, .slice A l.length c] : List Value).toArray := Blkf.new_at _ _ _ _ rfl
      have HD := Lib.hid (bts_below HD.out hE)
      have H7 := Lib.hid (bts_below H7.out hE)
      have H10 := Lib.hid (bts_below H10.out hE)
      have H13 := Lib.hid (bts_below H13.out hE)
      have H18 := Lib.hid (bts_below H18.out hE)
      have HC := Lib.hid (HC.out.trans (hE.mono HC.out.size))
      have hBL : BL (yyyyy.alloc (.cells ([.slice (some ⟨g7, 0, none⟩) 5 5, .slice A10 (bytesOf s 8).length c10, .slice A13 (bytesOf a 8).length c13, .slice A18 (bytesOf l.length 2).length c18, .slice A l.length c] : List Value).toArray 30)) [.slice (some ⟨g7, 0, none⟩) 5 5, .slice A10 (bytesOf s 8).length c10, .slice A13 (bytesOf a 8).length c13, .slice A18 (bytesOf l.length 2).length c18, .slice A l.length c] [headL f t false, bytesOf s 8, bytesOf a 8, bytesOf l.length 2, l] := bl5 H7.out H10.out H13.out H18.out HD.out rfl rfl rfl rfl rfl
      have hTT := tot5 f t s a l false
      have HG := Lib.hid hG
      have HBL := Lib.hid hBL
      have HTT := Lib.hid hTT
      clear hE hG hBL hTT H7 H10 H13 H18 HD
      refine pt_turn ?_
      refine pt_op rfl (by kernel_rfl) (fun K2 hK2 => ?_)
      go_simp
      refine hK2 _ _ ⟨(Ext.refl _).alloc (Nat.le_refl _) _, ?_⟩
      try simp only [Act.put, List.setIfInBounds_toArray, List.set_cons_zero, List.set_cons_succ]
      clear hK2
      refine pt_turn ?_
      refine pt_opcall rfl (by kernel_rfl) (by go_simp; exact ⟨rfl, rfl⟩) ?_
      refine (concat_any yyyyy.heap.size [.slice (some ⟨g7, 0, none⟩) 5 5, .slice A10 (bytesOf s 8).length c10, .slice A13 (bytesOf a 8).length c13, .slice A18 (bytesOf l.length 2).length c18, .slice A l.length c] [headL f t false, bytesOf s 8, bytesOf a 8, bytesOf l.length 2, l] _ HG.out HBL.out (show (5 : Nat) ≤ 100 by decide) (by rw [HTT.out]; omega) (by rw [HTT.out]; omega)).mono ?_
      rintro e z ⟨v, rfl, hO, hE⟩
      refine ⟨_, rfl, hE, ?_⟩
      try simp only [Act.put, List.setIfInBounds_toArray, List.set_cons_zero, List.set_cons_succ]
      have HC := Lib.hid (HC.out.trans (hE.mono HC.out.size))
      have HO := Lib.hid hO
      clear hO hE HG HBL
      iterate 1 (refine pt_take (v := ?_) rfl (by kernel_rfl) ?_ ?_; rotate_left; (focus (intro w' hw'; go_simp; try with_reducible rfl)); try simp only [Act.put, List.setIfInBounds_toArray, List.set_cons_zero, List.set_cons_succ])
      refine pt_end ?_
      obtain ⟨AP, cp, rfl, hP, -⟩ := bts_own (l := plainL f t false s a l) HO.out (plain_lt f t s a l false hf ht HB.out.1) rfl
      have HP := Lib.hid hP
      have hln : (plainL f t false s a l).length = 23 + l.length := (totL_flat _).trans HTT.out
      obtain ⟨P, hPe⟩ : ∃ P, P = plainL f t false s a l := ⟨_, rfl⟩
      rw [← hPe] at HP hln
      have HPE := Lib.hid hPe
      clear hP hPe HO HTT HB0 HX
      have HZ : Hid (W.heap.size ≤ z.heap.size) := Lib.hid HC.out.size
      go_wp2_with fail
      rw [← HPE.out]
      refine (seal_any AP P cp _ (by omega) HP.out).mono ?_
      rintro e zz ⟨v2, rfl, ho2, hb2⟩
      have HO2 := Lib.hid (own_mono16 ho2 HZ.out)
      have HB2 := Lib.hid (HC.out.trans (hb2.mono HC.out.size))
      clear ho2 hb2
      go_wp2
      go_ret2
      have h2 := HO2.out
      rw [HPE.out] at h2
      exact ⟨_, rfl, h2, HB2.out⟩
    focus
      refine pt_opcall rfl (by kernel_rfl) (by go_simp; exact ⟨rfl, rfl⟩) ?_
      refine (bytes_any a 8 _ (by omega)).mono ?_
      rintro e yyy ⟨A13, c13, rfl, hB, -, hE⟩
      have H13 := Lib.hid hB
      refine ⟨_, rfl, hE, ?_⟩
      simp only [Act.put, List.setIfInBounds_toArray, List.set_cons_zero, List.set_cons_succ]
      have HD := Lib.hid (bts_below HD.out hE)
      have H10 := Lib.hid (bts_below H10.out hE)
      have HC := Lib.hid (HC.out.trans (hE.mono HC.out.size))
      clear hB
      clear hE
      refine pt_fork ?_ ?_
      focus
        refine pt_op rfl (by kernel_rfl) (fun K hK => ?_)
        go_simp
        refine hK _ _ ⟨(Ext.refl _).alloc (Nat.le_refl _) _, ?_⟩
        try simp only [Act.put, List.setIfInBounds_toArray, List.set_cons_zero, List.set_cons_succ]
        have hE := Below.alloc (Ext.refl yyy) (Nat.le_refl _) (.cells ((headL f t false).map bv).toArray 5)
        have H7 := Lib.hid (bts_lit yyy (0, 0) (headL f t false) (headL_lt f t false hf ht) _ rfl)
        obtain ⟨g7, hg7⟩ : ∃ g, g = yyy.heap.size := ⟨_, rfl⟩
        refine (show wpPT _ _ _ _ _ _ (yyy.alloc (.cells ((headL f t false).map bv).toArray 5)) from ?_)
        have HD := Lib.hid (bts_below HD.out hE)
        have H10 := Lib.hid (bts_below H10.out hE)
        have H13 := Lib.hid (bts_below H13.out hE)
        have HC := Lib.hid (HC.out.trans (hE.mono HC.out.size))
        rw [← hg7]
        rw [← hg7] at H7
        generalize yyy.alloc (.cells ((headL f t false).map bv).toArray 5) = yyyy at *
        clear hK hg7
        clear hE
        refine pt_turn ?_
        refine pt_opcall rfl (by kernel_rfl) (by go_simp; exact ⟨rfl, rfl⟩) ?_
        refine (bytes_any n 2 _ (by omega)).mono ?_
        rintro e yyyyy ⟨A18, c18, rfl, hB, -, hE⟩
        have H18 := Lib.hid hB
        refine ⟨_, rfl, hE, ?_⟩
        simp only [Act.put, List.setIfInBounds_toArray, List.set_cons_zero, List.set_cons_succ]
        have HD := Lib.hid (bts_below HD.out hE)
        have H10 := Lib.hid (bts_below H10.out hE)
        have H13 := Lib.hid (bts_below H13.out hE)
        have H7 := Lib.hid (bts_below H7.out hE)
        have HC := Lib.hid (HC.out.trans (hE.mono HC.out.size))
        clear hB
        clear hE
        obtain rfl := HL.out
        have hE := Below.alloc (Ext.refl yyyyy) (Nat.le_refl _) (.cells ([.slice (some ⟨g7, 0, none⟩) 5 5, .slice A10 (bytesOf s 8).length c10, .slice A13 (bytesOf a 8).length c13, .slice A18 (bytesOf l.length 2).length c18, .slice A l.length c] : List Value).toArray 30)
        have hG : Blk (yyyyy.alloc (.cells ([.slice (some ⟨g7, 0, none⟩) 5 5, .slice A10 (bytesOf s 8).length c10, .slice A13 (bytesOf a 8).length c13, .slice A18 (bytesOf l.length 2).length c18, .slice A l.length c] : List Value).toArray 30)) yyyyy.heap.size 30 ([.slice (some ⟨g7, 0, none⟩) 5 5, .slice A10 (bytesOf s 8).length c10, .slice A13 (bytesOf a 8).length c13, .slice A18 (bytesOf l.length 2).length c18, .slice A l.length c] : List Value).toArray := Blkf.new_at _ _ _ _ rfl
        have HD := Lib.hid (bts_below HD.out hE)
        have H7 := Lib.hid (bts_below H7.out hE)
        have H10 := Lib.hid (bts_below H10.out hE)
        have H13 := Lib.hid (bts_below H13.out hE)
        have H18 := Lib.hid (bts_below H18.out hE)
        have HC := Lib.hid (HC.out.trans (hE.mono HC.out.size))
        have hBL : BL (yyyyy.alloc (.cells ([.slice (some ⟨g7, 0, none⟩) 5 5, .slice A10 (bytesOf s 8).length c10, .slice A13 (bytesOf a 8).length c13, .slice A18 (bytesOf l.length 2).length c18, .slice A l.length c] : List Value).toArray 30)) [.slice (some ⟨g7, 0, none⟩) 5 5, .slice A10 (bytesOf s 8).length c10, .slice A13 (bytesOf a 8).length c13, .slice A18 (bytesOf l.length 2).length c18, .slice A l.length c] [headL f t false, bytesOf s 8, bytesOf a 8, bytesOf l.length 2, l] := bl5 H7.out H10.out H13.out H18.out HD.out rfl rfl rfl rfl rfl
        have hTT := tot5 f t s a l false
        have HG := Lib.hid hG
        have HBL := Lib.hid hBL
        have HTT := Lib.hid hTT
        clear hE hG hBL hTT H7 H10 H13 H18 HD
        refine pt_turn ?_
        refine pt_op rfl (by kernel_rfl) (fun K2 hK2 => ?_)
        go_simp
        refine hK2 _ _ ⟨(Ext.refl _).alloc (Nat.le_refl _) _, ?_⟩
        try simp only [Act.put, List.setIfInBounds_toArray, List.set_cons_zero, List.set_cons_succ]
        clear hK2
        refine pt_turn ?_
        refine pt_opcall rfl (by kernel_rfl) (by go_simp; exact ⟨rfl, rfl⟩) ?_
        refine (concat_any yyyyy.heap.size [.slice (some ⟨g7, 0, none⟩) 5 5, .slice A10 (bytesOf s 8).length c10, .slice A13 (bytesOf a 8).length c13, .slice A18 (bytesOf l.length 2).length c18, .slice A l.length c] [headL f t false, bytesOf s 8, bytesOf a 8, bytesOf l.length 2, l] _ HG.out HBL.out (show (5 : Nat) ≤ 100 by decide) (by rw [HTT.out]; omega) (by rw [HTT.out]; omega)).mono ?_
        rintro e z ⟨v, rfl, hO, hE⟩
        refine ⟨_, rfl, hE, ?_⟩
        try simp only [Act.put, List.setIfInBounds_toArray, List.set_cons_zero, List.set_cons_succ]
        have HC := Lib.hid (HC.out.trans (hE.mono HC.out.size))
        have HO := Lib.hid hO
        clear hO hE HG HBL
        iterate 1 (refine pt_take (v := ?_) rfl (by kernel_rfl) ?_ ?_; rotate_left; (focus (intro w' hw'; go_simp; try with_reducible rfl)); try simp only [Act.put, List.setIfInBounds_toArray, List.set_cons_zero, List.set_cons_succ])
        refine pt_end ?_
        obtain ⟨AP, cp, rfl, hP, -⟩ := bts_own (l := plainL f t false s a l) HO.out (plain_lt f t s a l false hf ht HB.out.1) rfl
        have HP := Lib.hid hP
        have hln : (plainL f t false s a l).length = 23 + l.length := (totL_flat _).trans HTT.out
        obtain ⟨P, hPe⟩ : ∃ P, P = plainL f t false s a l := ⟨_, rfl⟩
        rw [← hPe] at HP hln
        have HPE := Lib.hid hPe
        clear hP hPe HO HTT HB0 HX
        have HZ : Hid (W.heap.size ≤ z.heap.size) := Lib.hid HC.out.size
        go_wp2_with fail
        rw [← HPE.out]
        refine (seal_any AP P cp _ (by omega) HP.out).mono ?_
        rintro e zz ⟨v2, rfl, ho2, hb2⟩
        have HO2 := Lib.hid (own_mono16 ho2 HZ.out)
        have HB2 := Lib.hid (HC.out.trans (hb2.mono HC.out.size))
        clear ho2 hb2
        go_wp2
        go_ret2
        have h2 := HO2.out
        rw [HPE.out] at h2
        exact ⟨_, rfl, h2, HB2.out⟩
      focus
        refine pt_opcall rfl (by kernel_rfl) (by go_simp; exact ⟨rfl, rfl⟩) ?_
        refine (bytes_any n 2 _ (by omega)).mono ?_
        rintro e yyyy ⟨A18, c18, rfl, hB, -, hE⟩
        have H18 := Lib.hid hB
        refine ⟨_, rfl, hE, ?_⟩
        simp only [Act.put, List.setIfInBounds_toArray, List.set_cons_zero, List.set_cons_succ]
        have HD := Lib.hid (bts_below HD.out hE)
        have H10 := Lib.hid (bts_below H10.out hE)
        have H13 := Lib.hid (bts_below H13.out hE)
        have HC := Lib.hid (HC.out.trans (hE.mono HC.out.size))
        clear hB
        clear hE
        refine pt_turn ?_
        refine pt_op rfl (by kernel_rfl) (fun K hK => ?_)
        go_simp
        refine hK _ _ ⟨(Ext.refl _).alloc (Nat.le_refl _) _, ?_⟩
        try simp only [Act.put, List.setIfInBounds_toArray, List.set_cons_zero, List.set_cons_succ]
        have hE := Below.alloc (Ext.refl yyyy) (Nat.le_refl _) (.cells ((headL f t false).map bv).toArray 5)
        have H7 := Lib.hid (bts_lit yyyy (0, 0) (headL f t false) (headL_lt f t false hf ht) _ rfl)
        obtain ⟨g7, hg7⟩ : ∃ g, g = yyyy.heap.size := ⟨_, rfl⟩
        refine (show wpPT _ _ _ _ _ _ (yyyy.alloc (.cells ((headL f t false).map bv).toArray 5)) from ?_)
        have HD := Lib.hid (bts_below HD.out hE)
        have H10 := Lib.hid (bts_below H10.out hE)
        have H13 := Lib.hid (bts_below H13.out hE)
        have H18 := Lib.hid (bts_below H18.out hE)
        have HC := Lib.hid (HC.out.trans (hE.mono HC.out.size))
        rw [← hg7]
        rw [← hg7] at H7
        generalize yyyy.alloc (.cells ((headL f t false).map bv).toArray 5) = yyyyy at *
        clear hK hg7
        clear hE
        obtain rfl := HL.out
        have hE := Below.alloc (Ext.refl yyyyy) (Nat.le_refl _) (.cells ([.slice (some ⟨g7, 0, none⟩) 5 5, .slice A10 (bytesOf s 8).length c10, .slice A13 (bytesOf a 8).length c13, .slice A18 (bytesOf l.length 2).length c18, .slice A l.length c] : List Value).toArray 30)
        have hG : Blk (yyyyy.alloc (.cells ([.slice (some ⟨g7, 0, none⟩) 5 5, .slice A10 (bytesOf s 8).length c10, .slice A13 (bytesOf a 8).length c13, .slice A18 (bytesOf l.length 2).length c18, .slice A l.length c] : List Value).toArray 30)) yyyyy.heap.size 30 ([.slice (some ⟨g7, 0, none⟩) 5 5, .slice A10 (bytesOf s 8).length c10, .slice A13 (bytesOf a 8).length c13, .slice A18 (bytesOf l.length 2).length c18, .slice A l.length c] : List Value).toArray := Blkf.new_at _ _ _ _ rfl
        have HD := Lib.hid (bts_below HD.out hE)
        have H7 := Lib.hid (bts_below H7.out hE)
        have H10 := Lib.hid (bts_below H10.out hE)
        have H13 := Lib.hid (bts_below H13.out hE)
        have H18 := Lib.hid (bts_below H18.out hE)
        have HC := Lib.hid (HC.out.trans (hE.mono HC.out.size))
        have hBL : BL (yyyyy.alloc (.cells ([.slice (some ⟨g7, 0, none⟩) 5 5, .slice A10 (bytesOf s 8).length c10, .slice A13 (bytesOf a 8).length c13, .slice A18 (bytesOf l.length 2).length c18, .slice A l.length c] : List Value).toArray 30)) [.slice (some ⟨g7, 0, none⟩) 5 5, .slice A10 (bytesOf s 8).length c10, .slice A13 (bytesOf a 8).length c13, .slice A18 (bytesOf l.length 2).length c18, .slice A l.length c] [headL f t false, bytesOf s 8, bytesOf a 8, bytesOf l.length 2, l] := bl5 H7.out H10.out H13.out H18.out HD.out rfl rfl rfl rfl rfl
        have hTT := tot5 f t s a l false
        have HG := Lib.hid hG
        have HBL := Lib.hid hBL
        have HTT := Lib.hid hTT
        clear hE hG hBL hTT H7 H10 H13 H18 HD
        refine pt_turn ?_
        refine pt_op rfl (by kernel_rfl) (fun K2 hK2 => ?_)
        go_simp
        refine hK2 _ _ ⟨(Ext.refl _).alloc (Nat.le_refl _) _, ?_⟩
        try simp only [Act.put, List.setIfInBounds_toArray, List.set_cons_zero, List.set_cons_succ]
        clear hK2
        refine pt_turn ?_
        refine pt_opcall rfl (by kernel_rfl) (by go_simp; exact ⟨rfl, rfl⟩) ?_
        refine (concat_any yyyyy.heap.size [.slice (some ⟨g7, 0, none⟩) 5 5, .slice A10 (bytesOf s 8).length c10, .slice A13 (bytesOf a 8).length c13, .slice A18 (bytesOf l.length 2).length c18, .slice A l.length c] [headL f t false, bytesOf s 8, bytesOf a 8, bytesOf l.length 2, l] _ HG.out HBL.out (show (5 : Nat) ≤ 100 by decide) (by rw [HTT.out]; omega) (by rw [HTT.out]; omega)).mono ?_
        rintro e z ⟨v, rfl, hO, hE⟩
        refine ⟨_, rfl, hE, ?_⟩
        try simp only [Act.put, List.setIfInBounds_toArray, List.set_cons_zero, List.set_cons_succ]
        have HC := Lib.hid (HC.out.trans (hE.mono HC.out.size))
        have HO := Lib.hid hO
        clear hO hE HG HBL
        iterate 1 (refine pt_take (v := ?_) rfl (by kernel_rfl) ?_ ?_; rotate_left; (focus (intro w' hw'; go_simp; try with_reducible rfl)); try simp only [Act.put, List.setIfInBounds_toArray, List.set_cons_zero, List.set_cons_succ])
        refine pt_end ?_
        obtain ⟨AP, cp, rfl, hP, -⟩ := bts_own (l := plainL f t false s a l) HO.out (plain_lt f t s a l false hf ht HB.out.1) rfl
        have HP := Lib.hid hP
        have hln : (plainL f t false s a l).length = 23 + l.length := (totL_flat _).trans HTT.out
        obtain ⟨P, hPe⟩ : ∃ P, P = plainL f t false s a l := ⟨_, rfl⟩
        rw [← hPe] at HP hln
        have HPE := Lib.hid hPe
        clear hP hPe HO HTT HB0 HX
        have HZ : Hid (W.heap.size ≤ z.heap.size) := Lib.hid HC.out.size
        go_wp2_with fail
        rw [← HPE.out]
        refine (seal_any AP P cp _ (by omega) HP.out).mono ?_
        rintro e zz ⟨v2, rfl, ho2, hb2⟩
        have HO2 := Lib.hid (own_mono16 ho2 HZ.out)
        have HB2 := Lib.hid (HC.out.trans (hb2.mono HC.out.size))
        clear ho2 hb2
        go_wp2
        go_ret2
        have h2 := HO2.out
        rw [HPE.out] at h2
        exact ⟨_, rfl, h2, HB2.out⟩
end Go.Proofs.Ytnnajaomajgoeaa

/- Put of a frame that is not right. -/
namespace Go.Proofs.Ytnnajaomajgoeaa
open Go.RowKit

set_option maxHeartbeats 2000000 in
theorem wput_no (f t : Int) (b : Bool) (s a : Nat) (A : Option Addr) (n c : Nat) (W : World) (hn : n ≤ 9223372036854775807) (hr : rightF f t b s n = false) :
    Calls Try.prog 22 #[frV f t b s a A n c] W fun e w' => e = .returned (.tuple #[.slice none 0 0, .int .i64 2]) ∧ Below W.heap.size W w' := by
  have HR := Lib.hid hr
  have HB0 : Hid (Below W.heap.size W (W.alloc (.cells #[.int .i64 f, .int .i64 t, .bool b, .int .u64 s, .int .u64 a, .slice A n c] 59))) := Lib.hid ((Below.refl _ W).alloc (Nat.le_refl _) _)
  unfold frV
  clear hr
  go_enter Try.func22, Try.ntmps22
  go_wp2_with fail
  refine (right_any f t b s a A n c _ hn).mono ?_
  rintro e w1 ⟨rfl, hb1⟩
  rw [HR.out]
  have HB1 := Lib.hid (HB0.out.trans (hb1.mono HB0.out.size))
  clear hb1
  go_wp2
  go_ret2
  exact ⟨rfl, HB1.out⟩
/-- PUT: the plain answer. -/
theorem wput_yes (f t : Nat) (b : Bool) (s a : Nat) (A : Option Addr) (l : List Nat) (n c : Nat) (W : World) (hf : f ≤ 15) (ht : t ≤ 15) (hs : s < 18446744073709551616) (ha : a < 18446744073709551616) (hl : l.length = n) (hn : n ≤ 5000) (hB : Bts W A l) (hr : rightF f t b s n = true) :
    Calls Try.prog 22 #[frV f t b s a A n c] W fun e w' => ∃ v, e = .returned (.tuple #[v, .int .i64 0]) ∧ w'.ownsRow W.heap.size 5 1 v (plainL f t b s a l ++ bytesOf (sumV (plainL f t b s a l)) 4).length ((plainL f t b s a l ++ bytesOf (sumV (plainL f t b s a l)) 4).map bv) ∧ Below W.heap.size W w' := by
  cases b with
  | true => exact put_true f t s a A l n c W hf ht hs ha hl hn hB hr
  | false => exact put_false f t s a A l n c W hf ht hs ha hl hn hB hr
end Go.Proofs.Ytnnajaomajgoeaa
