/- What must be answered ahead of everything else; plain laws. -/
import Derived.Test.YtlmhmmlfodibgaaDoorNodF
namespace Go.Proofs.YtlmhmmlfodibgaaDoor
open Go.RowKit

theorem first_ok (W : World) (hT : Tab W) : Calls Tryd.prog 7 #[] W fun e w' => e = .returned (.bool true) ∧ Below W.heap.size W w' := by
  have hb0 : Below W.heap.size W (W.alloc (.cells #[.int .i64 3, .int .i64 0, .int .i64 3, .int .i64 16, .int .i64 (-1)] 3)) := (Below.refl _ _).alloc (Nat.le_refl _) _
  have hk := Blkf.new_at W 3 (0, 0) #[.int .i64 3, .int .i64 0, .int .i64 3, .int .i64 16, .int .i64 (-1)] rfl
  have HR : Hid (RdZ (W.alloc (.cells #[.int .i64 3, .int .i64 0, .int .i64 3, .int .i64 16, .int .i64 (-1)] 3)) (some ⟨W.heap.size, 0, none⟩) [3, 0, 3, 16, -1]) := Lib.hid fun k x hx => ⟨_, rfl, by
    rw [Addr.add_mid, Nat.zero_add, hk.cell]
    match k, hx with
    | 0, hx => injection hx with hx; subst hx; rfl
    | 1, hx => injection hx with hx; subst hx; rfl
    | 2, hx => injection hx with hx; subst hx; rfl
    | 3, hx => injection hx with hx; subst hx; rfl
    | 4, hx => injection hx with hx; subst hx; rfl
    | k + 5, hx => simp at hx⟩
  have HB := Lib.hid hb0
  have HT := Lib.hid hT
  clear hb0 hk hT
  go_enter Tryd.func7, Tryd.ntmps7
  go_wp2_with fail
  refine (of_any _ 5 5 [3, 0, 3, 16, -1] _ rfl (by decide) HR.out (by intro x hx; simp at hx; omega)).mono ?_
  rintro e w1 ⟨rfl, rfl⟩
  rw [show ofN [3, 0, 3, 16, -1] = 9 from by decide]
  go_wp2_with fail
  refine (text_any 9 _ (by decide) (HT.out.below HB.out)).mono ?_
  rintro e w2 ⟨rfl, hb⟩
  have HB2 := Lib.hid (HB.out.trans (hb.mono HB.out.size))
  rw [show txtB 9 = ⟨#[48, 44, 51]⟩ from by decide +kernel]
  clear hb
  go_wp2_with fail
  refine (next_any 9 1 _ (by decide) (by decide) (HT.out.below HB2.out)).mono ?_
  rintro e w3 ⟨rfl, rfl⟩
  rw [show nextI 9 1 = 3 from by decide +kernel]
  go_wp2_with fail
  refine (len_any 9 _ (by decide)).mono ?_
  rintro e w3 ⟨rfl, rfl⟩
  rw [show lenN 9 = 2 from by decide +kernel]
  have HB3 := Lib.hid HB2.out.drew
  go_wp2_with fail
  refine (has_any 9 1 _ (by decide) (by decide)).mono ?_
  rintro e w4 ⟨rfl, rfl⟩
  rw [show hasB 9 1 = false from by decide +kernel]
  go_wp2_with fail
  refine (text_any 0 _ (by decide) (HT.out.below HB3.out)).mono ?_
  rintro e w5 ⟨rfl, hb⟩
  have HB4 := Lib.hid (HB3.out.trans (hb.mono HB3.out.size))
  rw [show txtB 0 = ⟨#[45]⟩ from rfl]
  clear hb
  go_wp2_with fail
  go_ret
  exact ⟨rfl, HB4.out⟩
theorem has_of (l : List Int) (x : Int) (hx : x ∈ l) : hasB (ofN l) x = (decide (0 ≤ x) && decide (x < 16)) := by
  unfold hasB
  rw [of_tb, Bool.eq_iff_iff]
  simp only [Bool.and_eq_true, decide_eq_true_eq, List.contains_iff_mem]
  constructor
  · rintro ⟨h1, h2, h3⟩; exact ⟨h1, by omega⟩
  · rintro ⟨h1, h2⟩
    exact ⟨h1, by rw [show ((x.toNat : Nat) : Int) = x by omega]; exact hx, by omega⟩
theorem has_add (s : Nat) (n : Int) : hasB (s ||| bitN n) n = (hasB s n || (decide (0 ≤ n) && decide (n < 16))) := by
  unfold hasB
  rw [Nat.testBit_or, bit_tb]
  by_cases h : 0 ≤ n
  · rw [show ((n.toNat : Nat) : Int) = n by omega, show decide (n.toNat < 16) = decide (n < 16) by rw [Bool.eq_iff_iff]; simp]
    simp [h]
  · simp [h]
theorem has_nat (s k : Nat) : hasB s (k : Int) = s.testBit k := by simp [hasB]
theorem bit_out (n : Int) (h : n < 0 ∨ 16 ≤ n) : bitN n = 0 := if_neg (by omega)
theorem less_zero (s : Nat) (hs : s < 65536) : lessN s 0 = s := set_eq (less_lt s 0 hs) hs fun k hk => by rw [less_tb s 0 k (by decide)]; simp [hk]
theorem or_zero (s : Nat) : s ||| 0 = s := Nat.or_zero s
def wI (l : List Nat) (n : Int) : Int := match l.find? (fun (k : Nat) => decide (n ≤ (k : Int))) with
  | some k => k
  | none => -1
theorem next_wI (s : Nat) (n : Int) : nextI s n = wI (listN s) n := by
  unfold nextI wI listN
  rw [List.find?_filter]
  have : (fun (k : Nat) => s.testBit k && decide (n ≤ (k : Int))) = (fun a => decide (s.testBit a = true ∧ decide (n ≤ (a : Int)) = true)) := by
    funext k
    rw [Bool.eq_iff_iff]; simp
  rw [this]
  cases List.find? (fun a => decide (s.testBit a = true ∧ decide (n ≤ (a : Int)) = true)) (List.range 16) <;> rfl
theorem wI_snoc (l : List Nat) (x : Nat) (n : Int) : wI (l ++ [x]) n = if n ≤ (x : Int) ∧ wI l n < 0 then (x : Int) else wI l n := by
  unfold wI
  rw [List.find?_append]
  cases h : l.find? (fun (k : Nat) => decide (n ≤ (k : Int))) with
  | none =>
    simp only [Option.none_or, List.find?_cons, List.find?_nil]
    by_cases h1 : n ≤ (x : Int)
    · simp [h1]
    · simp [h1]
  | some k =>
    simp only [Option.some_or]
    rw [if_neg (by omega)]
theorem both_eq (a b : Nat) (ha : a < 65536) (hb : b < 65536) : lessN a (lessN a b) = a &&& b := by
  apply set_eq (less_lt _ _ ha) (Nat.lt_of_le_of_lt Nat.and_le_left ha)
  intro k hk
  rw [less_tb _ _ _ (less_lt a b ha), less_tb _ _ _ hb, Nat.testBit_and]
  cases a.testBit k <;> cases b.testBit k <;> simp [hk]
theorem in_iff (a b : Nat) (ha : a < 65536) (hb : b < 65536) : inB a b = true ↔ ∀ k, k < 16 → a.testBit k = true → b.testBit k = true := by
  unfold inB
  rw [beq_iff_eq]
  constructor
  · intro h k hk hak
    have := less_tb a b k hb
    rw [h, hak, Nat.zero_testBit] at this
    cases hbk : b.testBit k with
    | true => rfl
    | false => rw [hbk] at this; simp [hk] at this
  · intro h
    apply set_eq (less_lt _ _ ha) (by decide)
    intro k hk
    rw [less_tb _ _ _ hb, Nat.zero_testBit]
    cases hak : a.testBit k with
    | false => rfl
    | true => rw [h k hk hak]; simp
theorem in_both (a b : Nat) (ha : a < 65536) (hb : b < 65536) : inB (a &&& b) b = true := (in_iff _ _ (Nat.lt_of_le_of_lt Nat.and_le_left ha) hb).2 fun k _ h => by
  rw [Nat.testBit_and] at h; simp at h; exact h.2
theorem in_join (a b : Nat) (ha : a < 65536) (hb : b < 65536) : inB a (a ||| b) = true := (in_iff _ _ ha (or_lt _ _ ha hb)).2 fun k _ h => by rw [Nat.testBit_or, h]; rfl
theorem in_same (a b : Nat) (ha : a < 65536) (hb : b < 65536) : (inB a b && inB b a) = (a == b) := by
  rw [Bool.eq_iff_iff, Bool.and_eq_true, in_iff a b ha hb, in_iff b a hb ha, beq_iff_eq]
  constructor
  · rintro ⟨h1, h2⟩
    apply set_eq ha hb
    intro k hk
    have g1 := h1 k hk
    have g2 := h2 k hk
    cases hx : a.testBit k <;> cases hy : b.testBit k <;> simp_all
  · rintro rfl; exact ⟨fun _ _ h => h, fun _ _ h => h⟩
theorem filter_two (l : List Nat) (p q : Nat → Bool) : (l.filter (fun k => p k || q k)).length + (l.filter (fun k => p k && q k)).length = (l.filter p).length + (l.filter q).length := by
  induction l with
  | nil => rfl
  | cons x l ih =>
    simp only [List.filter_cons]
    cases p x <;> cases q x <;> simp <;> omega
theorem len_two (a b : Nat) : lenN (a ||| b) + lenN (a &&& b) = lenN a + lenN b := by
  have := filter_two (List.range 16) (fun k => a.testBit k) (fun k => b.testBit k)
  unfold lenN listN
  simp only [Nat.testBit_or, Nat.testBit_and]
  exact this
theorem len_le (s : Nat) : lenN s ≤ 16 := list_len s
theorem of_list (s : Nat) (hs : s < 65536) : ofN ((listN s).map (fun (k : Nat) => (k : Int))) = s := by
  apply set_eq (of_lt _) hs
  intro k hk
  rw [of_tb]
  have : ((listN s).map (fun (k : Nat) => (k : Int))).contains (k : Int) = s.testBit k := by
    rw [Bool.eq_iff_iff, List.contains_iff_mem, List.mem_map]
    constructor
    · rintro ⟨j, hj, e⟩
      have : j = k := by omega
      subst this
      exact (List.mem_filter.1 hj).2
    · intro h
      exact ⟨k, List.mem_filter.2 ⟨List.mem_range.2 hk, h⟩, rfl⟩
  rw [this]; simp [hk]
def inK (a b k : Nat) : Bool := (List.range k).all fun j => !a.testBit j || b.testBit j
theorem inK_succ (a b k : Nat) : inK a b (k + 1) = (inK a b k && (!a.testBit k || b.testBit k)) := by
  unfold inK
  rw [List.range_succ, List.all_append]
  simp
theorem inK_all (a b : Nat) (ha : a < 65536) (hb : b < 65536) : inB a b = inK a b 16 := by
  rw [Bool.eq_iff_iff, in_iff a b ha hb]
  unfold inK
  rw [List.all_eq_true]
  constructor
  · intro h k hk
    have := h k (List.mem_range.1 hk)
    cases hx : a.testBit k
    · rfl
    · rw [this hx]; rfl
  · intro h k hk hx
    have := h k (List.mem_range.2 hk)
    rw [hx] at this
    simpa using this
end Go.Proofs.YtlmhmmlfodibgaaDoor
