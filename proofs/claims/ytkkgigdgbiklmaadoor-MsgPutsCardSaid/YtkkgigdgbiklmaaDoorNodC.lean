/- Listing a set. -/
import Derived.Test.YtkkgigdgbiklmaaDoorNodB
import Derived.WalkMore
import Derived.ScopeJumps
namespace Go.Proofs.YtkkgigdgbiklmaaDoor
open Go.RowKit

def lowL (s c : Nat) : List Nat := (List.range c).filter (fun k => s.testBit k)
theorem low_all (s : Nat) : lowL s 16 = listN s := rfl
theorem low_succ (s k : Nat) : lowL s (k + 1) = lowL s k ++ (if s.testBit k then [k] else []) := by
  unfold lowL
  rw [List.range_succ, List.filter_append]
  cases h : s.testBit k <;> simp [List.filter_cons, h]
theorem low_gap (s c : Nat) : ∀ d, (∀ j, c ≤ j → j < c + d → s.testBit j = false) → lowL s (c + d) = lowL s c
  | 0, _ => rfl
  | d + 1, h => by
    rw [show c + (d + 1) = c + d + 1 by omega, low_succ, h (c + d) (by omega) (by omega), low_gap s c d (fun j h1 h2 => h j h1 (by omega))]
    simp
theorem next_cases (s c : Nat) (hc : c ≤ 16) : (nextI s c = -1 ∧ lowL s c = listN s) ∨ ∃ k : Nat, nextI s c = (k : Int) ∧ k < 16 ∧ c ≤ k ∧ lowL s (k + 1) = lowL s c ++ [k] := by
  unfold nextI
  cases hf : (List.range 16).find? (fun k => s.testBit k && decide ((c : Int) ≤ (k : Int))) with
  | none =>
    refine .inl ⟨rfl, ?_⟩
    have h := List.find?_eq_none.1 hf
    have := low_gap s c (16 - c) (fun j h1 h2 => by
      have h3 := h j (List.mem_range.2 (by omega))
      have h4 : decide ((c : Int) ≤ (j : Int)) = true := decide_eq_true (by omega)
      rw [h4] at h3
      simpa using h3)
    rw [show c + (16 - c) = 16 by omega] at this
    rw [← this, low_all]
  | some k =>
    refine .inr ⟨k, rfl, ?_⟩
    obtain ⟨h1, h2, h3⟩ := List.find?_range_eq_some.1 hf
    simp only [Bool.and_eq_true, decide_eq_true_eq] at h1
    have hk := List.mem_range.1 h2
    refine ⟨hk, by omega, ?_⟩
    have := low_gap s c (k - c) (fun j g1 g2 => by
      have h4 := h3 j (by omega)
      have h5 : decide ((c : Int) ≤ (j : Int)) = true := decide_eq_true (by omega)
      rw [h5] at h4
      simpa using h4)
    rw [show c + (k - c) = k by omega] at this
    rw [low_succ, this, h1.1]
    rfl
theorem low_len (s c : Nat) : (lowL s c).length ≤ c := Nat.le_trans (List.length_filter_le _ _) (by simp)
def iv (l : List Nat) : List Value := l.map (fun (k : Nat) => Value.int .i64 (k : Int))
theorem iv_append (a b : List Nat) : iv (a ++ b) = iv a ++ iv b := List.map_append ..
theorem iv_one (l : List Nat) : ∀ u ∈ iv l, u.oneCell' = true := by
  intro u hu
  obtain ⟨k, _, rfl⟩ := List.mem_map.1 hu
  rfl
theorem info_int : (Tryd.prog.info? 3).map (fun i => (i.zero, i.size, i.bytes)) = some (some (.int .i64 0), 1, 8) := by kernel_rfl
/-- A row of numbers of the call's own. -/
def OwnI (base : Nat) (w : World) (v : Value) (l : List Nat) : Prop := w.ownsRow base 3 1 v l.length (iv l)
theorem reads_one (w : World) (k : Nat) : Reads (w.alloc (.cells #[.int .i64 (k : Int)] 3)) (w.heap.size + 1) 1 (some ⟨w.heap.size, 0, none⟩) 1 (iv [k]) :=
  ⟨rfl, fun _ => ⟨_, rfl, Nat.lt_succ_self _, fun j v hj => by
    have hb := Blkf.new_at w 3 (0, 0) #[.int .i64 (k : Int)] rfl
    match j, hj with
    | 0, hj => exact (hb.cell 0).trans hj
    | j + 1, hj => exact absurd hj (by simp [iv])⟩⟩
def mN (v : Value) : Nat := if intOf v < 0 then 0 else (17 - intOf v).toNat
/-- What holds at the label: the list of what is below c, the next node from c on. -/
def LsJ (s : Nat) (W : World) (a : Act) (w : World) : Prop := ∃ (c : Nat) (v x5 x6 x7 x8 x9 x10 x11 x12 x13 x14 x15 x16 x17 : Value), a = ⟨#[.int .u16 (s : Int), undef, .slice none 0 0, v, .int .i64 (nextI s c), x5, x6, x7, x8, x9, x10, x11, x12, x13, x14, x15, x16, x17], []⟩ ∧ c ≤ 16 ∧ OwnI W.heap.size w v (lowL s c) ∧ Below W.heap.size W w
set_option maxHeartbeats 1000000 in
theorem list_any (s : Nat) (W : World) (hs : s < 65536) (hT : Tab W) :
    Calls Tryd.prog 38 #[.int .u16 s] W fun e w' => ∃ v, e = .returned v ∧ OwnI W.heap.size w' v (listN s) ∧ Below W.heap.size W w' := by
  have HS := Lib.hid hs
  have HT := Lib.hid hT
  clear hs hT
  cases hq : Tryd.prog.info? 3 with
  | none => have := info_int; rw [hq] at this; cases this
  | some i0 =>
  have hin := info_int
  rw [hq] at hin
  simp only [Option.map_some, Option.some.injEq, Prod.mk.injEq] at hin
  obtain ⟨hz0, hz1, hz2⟩ := hin
  have HI := Lib.hid hq
  have HZ0 := Lib.hid hz0
  have HZ1 := Lib.hid hz1
  have HZ2 := Lib.hid hz2
  clear hq hz0 hz1 hz2
  go_enter Tryd.func38, Tryd.ntmps38
  go_wp2_with fail
  refine wp_scope_jumps 0 (LsJ s W) (fun a _ => mN (a.tmps.getD 4 undef)) rfl ?_ ?_
  · go_wp2_with fail
    refine (next_any s 0 _ HS.out (by decide) HT.out).mono ?_
    rintro e w ⟨rfl, rfl⟩
    go_wp2_with fail
    go_step3
    have HC : Hid (0 ≤ 16) := Lib.hid (by decide)
    have HO : Hid (OwnI W.heap.size W (.slice none 0 0) (lowL s 0)) := Lib.hid (World.ownsRow_nil _ _ _ _)
    have HB : Hid (Below W.heap.size W W) := Lib.hid (Below.refl _ _)
    rcases next_cases s 0 HC.out with ⟨h1, h2⟩ | ⟨k, h1, hk, hck, h4⟩
    · have H2 := Lib.hid h2
      have h1' : nextI s 0 = -1 := h1
      rw [h1']
      clear h1 h2 h1'
      go_wp2_with fail
      simp only [Exit.jump]
      go_ret
      exact ⟨_, rfl, by rw [← H2.out]; exact HO.out, HB.out⟩
    · have HL := Lib.hid h4
      have h1' : nextI s 0 = (k : Int) := h1
      rw [h1']
      have hpos : (0 : Int) ≤ (k : Int) := by omega
      have HCK := Lib.hid hck
      have HN1 := Lib.hid h1
      have HLN := Lib.hid (low_len s 0)
      clear h1 h4 hck h1'
      go_wp2_with (at_builtin; (refine wpList_append_any _ rfl (.tmp 9) (.tmp 11) _ rfl W.heap.size 3 i0 _ 1 8 Tryd.underlying57 HI.out HZ0.out HZ1.out HZ2.out rfl (by decide) _ (lowL s 0).length (iv (lowL s 0)) rfl (HO.out.alloc _) (W.heap.size + 1) (some ⟨W.heap.size, 0, none⟩) 1 1 (iv [k]) rfl (reads_one W k) (iv_one _) (by unfold maxLen; have := HLN.out; have := HC.out; omega) (by have := HLN.out; have := HC.out; omega) (Nat.le_trans HB.out.size (by simp)) ?_; intro v2 w2 hown hgrow hat; have HO5 := Lib.hid hown; have HE5 := Lib.hid ((HB.out.alloc HB.out.size _).grown hgrow (Nat.le_trans HB.out.size (by simp)) (fun g hg => (HO.out.lt g hg).1)); clear hown hgrow hat))
      refine (next_any s ((k : Int) + 1) _ HS.out (by omega) (HT.out.below HE5.out)).mono ?_
      rintro e w ⟨rfl, rfl⟩
      go_wp2_with fail
      go_step3
      have hO : OwnI W.heap.size w2 v2 (lowL s (k + 1)) := by
        have h := HO5.out
        rw [← iv_append, ← HL.out] at h
        unfold OwnI
        rw [HL.out, List.length_append]
        rw [HL.out] at h
        exact h
      exact ⟨rfl, k + 1, v2, _, _, _, _, _, _, _, _, _, _, _, _, _, rfl, by omega, hO, HE5.out⟩
  · rintro a w ⟨c, v, x5, x6, x7, x8, x9, x10, x11, x12, x13, x14, x15, x16, x17, rfl, hc, hO0, hB0⟩
    have HC := Lib.hid hc
    have HO := Lib.hid hO0
    have HB := Lib.hid hB0
    clear hc hO0 hB0
    rcases next_cases s c HC.out with ⟨h1, h2⟩ | ⟨k, h1, hk, hck, h4⟩
    · have H2 := Lib.hid h2
      have h1' : nextI s (c : Int) = -1 := h1
      rw [h1']
      clear h1 h2 h1'
      go_wp2_with fail
      simp only [Exit.jump]
      go_ret
      exact ⟨_, rfl, by rw [← H2.out]; exact HO.out, HB.out⟩
    · have HL := Lib.hid h4
      have h1' : nextI s (c : Int) = (k : Int) := h1
      rw [h1']
      have hpos : (0 : Int) ≤ (k : Int) := by omega
      have HCK := Lib.hid hck
      have HN1 := Lib.hid h1
      have HLN := Lib.hid (low_len s c)
      clear h1 h4 hck h1'
      go_wp2_with (at_builtin; (refine wpList_append_any _ rfl (.tmp 9) (.tmp 11) _ rfl W.heap.size 3 i0 _ 1 8 Tryd.underlying57 HI.out HZ0.out HZ1.out HZ2.out rfl (by decide) _ (lowL s c).length (iv (lowL s c)) rfl (HO.out.alloc _) (w.heap.size + 1) (some ⟨w.heap.size, 0, none⟩) 1 1 (iv [k]) rfl (reads_one w k) (iv_one _) (by unfold maxLen; have := HLN.out; have := HC.out; omega) (by have := HLN.out; have := HC.out; omega) (Nat.le_trans HB.out.size (by simp)) ?_; intro v2 w2 hown hgrow hat; have HO5 := Lib.hid hown; have HE5 := Lib.hid ((HB.out.alloc HB.out.size _).grown hgrow (Nat.le_trans HB.out.size (by simp)) (fun g hg => (HO.out.lt g hg).1)); clear hown hgrow hat))
      refine (next_any s ((k : Int) + 1) _ HS.out (by omega) (HT.out.below HE5.out)).mono ?_
      rintro e w ⟨rfl, rfl⟩
      go_wp2_with fail
      go_step3
      have hO : OwnI W.heap.size w2 v2 (lowL s (k + 1)) := by
        have h := HO5.out
        rw [← iv_append, ← HL.out] at h
        unfold OwnI
        rw [HL.out, List.length_append]
        rw [HL.out] at h
        exact h
      refine ⟨rfl, ⟨k + 1, v2, _, _, _, _, _, _, _, _, _, _, _, _, _, rfl, by omega, hO, HE5.out⟩, ?_⟩
      show mN (.int .i64 (nextI s ((k : Int) + 1))) < mN (.int .i64 (k : Int))
      have hm : mN (.int .i64 (k : Int)) = 17 - k := by simp [mN, intOf]; omega
      rw [hm]
      rcases next_cases s (k + 1) (by omega) with ⟨g1, _⟩ | ⟨k', g1, g2, g3, _⟩
      · have g1' : nextI s ((k : Int) + 1) = -1 := g1
        rw [g1']
        simp [mN, intOf]; omega
      · have g1' : nextI s ((k : Int) + 1) = (k' : Int) := g1
        rw [g1']
        have hm2 : mN (.int .i64 (k' : Int)) = 17 - k' := by simp [mN, intOf]; omega
        rw [hm2]; omega
end Go.Proofs.YtkkgigdgbiklmaaDoor
