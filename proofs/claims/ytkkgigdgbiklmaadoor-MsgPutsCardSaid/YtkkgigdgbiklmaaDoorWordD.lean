/- Contracts of word.Put and word.Bytes. -/
import Derived.Test.YtkkgigdgbiklmaaDoorWordB
import Derived.Laws.MakeOwn
namespace Go.Proofs.YtkkgigdgbiklmaaDoor
open Go.RowKit

def byteOf (v i : Nat) : Nat := v / 256 ^ i % 256

structure Puts (w w' : World) (b k : Nat) (v n : Nat) : Prop where
  grown : w.grownBy w' (some b)
  size : w'.heap.size = w.heap.size
  new : ∀ i, i < n → w'.cell? ⟨b, k + i, none⟩ = some (.int .u8 ((byteOf v i : Nat) : Int))
  old : ∀ p : Addr, (p.block ≠ b ∨ p.off < k ∨ k + n ≤ p.off) → w'.cell? p = w.cell? p
  frozen : ∀ p, w'.frozen? p = w.frozen? p

theorem byte_walk (v j : Nat) : ((v : Int) / 2 ^ (8 * j) % 256) = ((byteOf v j : Nat) : Int) := by
  have e : ((2 : Int) ^ (8 * j)) = ((256 ^ j : Nat) : Int) := by
    rw [Int.pow_mul]; simp
  rw [e, byteOf]; simp

theorem Puts.step {w wr : World} {b k v j : Nat} (h : Puts w wr b k v j) (hu : (wr.cell? ⟨b, k + j, none⟩).isSome = true) :
    Puts w (wr.setCell ⟨b, k + j, none⟩ (.int .u8 ((byteOf v j : Nat) : Int))) b k v (j + 1) := by
  refine ⟨⟨h.grown.os, h.grown.tape, h.grown.output, by simpa using h.grown.size, fun i hi hne => ?_⟩, by simpa using h.size, fun i hi => ?_, fun p hp => ?_, fun p => by simpa using h.frozen p⟩
  · rw [Below.heap_setCell _ _ _ _ (fun e => hne (by rw [e]))]; exact h.grown.block i hi hne
  · by_cases e : i = j
    · subst e; exact World.cell?_setCell_same' _ _ _ hu
    · rw [World.cell?_setCell_other _ _ _ _ (by intro he; injection he; omega)]; exact h.new i (by omega)
  · rw [World.cell?_setCell_other _ _ _ _ (by rintro rfl; simp at hp; omega)]; exact h.old p (by omega)

theorem put_yes (b o n : Nat) (c : Nat) (a s : Int) (v : Nat) (w : World) (hv : v < 18446744073709551616) (hn : n ≤ 9223372036854775807)
    (hc : ∀ i, i < n → ∃ u, w.cell? ⟨b, o + i, none⟩ = some u) (hf : ∀ i, i < n → w.frozen? ⟨b, o + i, none⟩ = false) (ht : thereB n a s = true) :
    Calls Tryd.prog 21 #[.slice (some ⟨b, o, none⟩) n c, .int .i64 a, .int .i64 s, .int .u64 v] w fun e w' => e = .returned (.bool true) ∧ Puts w w' b (o + a.toNat) v s.toNat := by
  have HT := Lib.hid ht
  obtain ⟨h1, h2, h3, h4⟩ := there_of ht
  clear ht
  have h5 := size_cases h1
  clear h1
  obtain ⟨p, rfl⟩ := Int.eq_ofNat_of_zero_le h2
  obtain ⟨q, rfl⟩ := Int.eq_ofNat_of_zero_le (show 0 ≤ s by omega)
  have hq : q ≤ 8 := by omega
  have hq1 : 1 ≤ q := by omega
  have hpq : p + q ≤ n := by omega
  clear h2 h3 h4 h5
  have HC := Lib.hid hc
  have HF := Lib.hid hf
  clear hc hf
  go_enter Tryd.func21, Tryd.ntmps21
  go_wp2_with (go_at_call 34; refine (there_any _ _ _ _ _ _ hn).mono ?_; rintro e w' ⟨rfl, rfl⟩; rw [HT.out])
  go_loopw [16] (fun i wr => ∃ j : Nat, j ≤ q ∧ i = .int .i64 j ∧ Puts w wr b (o + p) v j) (fun i _ => (q - (intOf i)).toNat)
  case atStart => exact ⟨0, by omega, rfl, ⟨World.grownBy.refl _ _, rfl, fun i hi => by omega, fun _ _ => rfl, fun _ => rfl⟩⟩
  case round =>
    obtain ⟨j, hj, rfl, hP⟩ := hrel
    have HP := Lib.hid hP
    clear hP
    by_cases h0 : j < q
    · have hcell := HP.out.old ⟨b, o + (p + j), none⟩ (.inr (.inr (by show o + p + j ≤ o + (p + j); omega)))
      obtain ⟨u, hu⟩ := HC.out (p + j) (by omega)
      rw [hu] at hcell
      clear hu
      have hfz := HP.out.frozen ⟨b, o + (p + j), none⟩
      rw [HF.out (p + j) (by omega)] at hfz
      go_wp2
      rw [byte_walk, show o + (p + j) = o + p + j by omega]
      exact ⟨⟨j + 1, by omega, by go_num, HP.out.step (by rw [show o + p + j = o + (p + j) by omega, hcell]; rfl)⟩, by simp [intOf]; omega⟩
    · obtain rfl : j = q := by omega
      go_wp2
      go_ret
      exact ⟨rfl, HP.out⟩

theorem put_no (A : Option Addr) (n : Nat) (c : Nat) (a s v : Int) (w : World) (hn : n ≤ 9223372036854775807) (ht : thereB n a s = false) :
    Calls Tryd.prog 21 #[.slice A n c, .int .i64 a, .int .i64 s, .int .u64 v] w fun e w' => e = .returned (.bool false) ∧ w = w' := by
  have HT := Lib.hid ht
  clear ht
  go_enter Tryd.func21, Tryd.ntmps21
  go_wp2_with (go_at_call 34; refine (there_any _ _ _ _ _ _ hn).mono ?_; rintro e w' ⟨rfl, rfl⟩; rw [HT.out])
  go_ret
  exact ⟨rfl, rfl⟩

/-- The bytes of a word. -/
def bytesOf (v : Nat) (s : Int) : List Nat := if sizeB s then (List.range s.toNat).map (byteOf v) else []

/-- A slice of bytes is handed back; nothing that was there has changed. -/
def RetB (l : List Nat) (w : World) (e : Ending) (w' : World) : Prop :=
  ∃ A c, e = .returned (.slice A l.length c) ∧ Bts w' A l ∧ (∀ a, A = some a → a.block < w'.heap.size) ∧ Below w.heap.size w w'

theorem byteOf_lt (v i : Nat) : byteOf v i < 256 := Nat.mod_lt _ (by decide)
theorem bytesOf_lt (v : Nat) (s : Int) (i : Nat) : (bytesOf v s).getD i 0 < 256 := by
  unfold bytesOf
  split
  · rw [List.getD_eq_getElem?_getD, List.getElem?_map]
    cases h : (List.range s.toNat)[i]? with
    | none => simp
    | some k => simpa using byteOf_lt v k
  · simp
theorem bytesOf_length (v q : Nat) (h : sizeB q = true) : (bytesOf v q).length = q := by simp [bytesOf, h]
theorem bytesOf_get (v q i : Nat) (h : sizeB q = true) (hi : i < q) : (bytesOf v q).getD i 0 = byteOf v i := by
  simp [bytesOf, h, List.getElem?_range hi]

theorem there_all (q : Nat) (h : sizeB q = true) : thereB q 0 q = true := by simp [thereB, h]

theorem info5 : (Tryd.prog.info? 5).map (fun i => (i.zero, i.size, i.bytes)) = some (some (.int .u8 0), 1, 1) := by kernel_rfl

theorem made_byte (q i : Nat) (hi : i < q) : (madeCells #[Value.int IntKind.u8 0] q)[i]? = some (.int .u8 0) := by
  have : [Value.int IntKind.u8 0][i % 1]? = some (Value.int IntKind.u8 0) := by rw [Nat.mod_one]; rfl
  unfold madeCells
  simp [hi, this]

theorem bytes_yes (v : Nat) (q : Nat) (w : World) (hv : v < 18446744073709551616) (h1 : sizeB q = true) :
    Calls Tryd.prog 22 #[.int .u64 v, .int .i64 q] w (RetB (bytesOf v q) w) := by
  have hq := size_cases h1
  have ht := Lib.hid (there_all q h1)
  have HL := Lib.hid (bytesOf_length v q h1)
  have HG := Lib.hid (fun i hi => bytesOf_get v q i h1 hi)
  have H1 := Lib.hid h1
  have hq8 : q ≤ 8 := by omega
  have hq1 : 1 ≤ q := by omega
  clear h1 hq
  obtain ⟨i0, hi0, hz0, hz1, hz2⟩ := info_parts info5
  have hmk : ∀ W, (Instr.makeSlice 22 (.int .i64 (q : Int)) (.int .i64 (q : Int))).run Tryd.prog W = .ok (.slice (some ⟨W.heap.size, 0, none⟩) q q) (W.alloc (.cells (madeCells (Value.int IntKind.u8 0).cells (q * 1)) 5)) := fun W => by
    have h := run_make (P := Tryd.prog) W 22 5 i0 _ Tryd.underlying22 hi0 hz0 .i64 .i64 (q : Int) (q : Int) (by omega) (by omega) (by rw [hz2]; omega) (by omega)
    rw [hz1] at h
    simpa using h
  go_enter Tryd.func22, Tryd.ntmps22
  go_wp2_with (go_at_call 35; refine (size_any _ _).mono ?_; rintro e w' ⟨rfl, rfl⟩; rw [H1.out])
  refine (put_yes w.heap.size 0 q q 0 (q : Int) v _ hv (by omega) (fun i hi => ⟨.int .u8 0, by rw [World.cell?_alloc_new, Nat.zero_add]; exact made_byte q i hi⟩) (fun i hi => by simp) ht.out).mono ?_
  rintro e w1 ⟨rfl, hP⟩
  have HP := Lib.hid hP
  clear hP
  go_wp2
  go_ret
  have hP := HP.out
  refine ⟨some ⟨w.heap.size, 0, none⟩, q, by rw [HL.out]; rfl, ⟨bytesOf_lt v q, fun _ => ⟨_, _, rfl, fun i hi => ?_⟩⟩, fun a ha => ?_, ?_⟩
  · rw [HL.out] at hi
    rw [HG.out i hi]
    have := hP.new i (by simpa using hi)
    simpa using this
  · injection ha with ha; subst ha; rw [hP.size]; simp
  · exact ((Below.refl _ w).alloc (Nat.le_refl _) _).grown hP.grown (by simp) (by intro k hk; injection hk with hk; omega)

theorem bytes_no (v : Int) (s : Int) (w : World) (h1 : sizeB s = false) :
    Calls Tryd.prog 22 #[.int .u64 v, .int .i64 s] w fun e w' => e = .returned (.slice none 0 0) ∧ w = w' := by
  have H1 := Lib.hid h1
  clear h1
  go_enter Tryd.func22, Tryd.ntmps22
  go_wp2_with (go_at_call 35; refine (size_any _ _).mono ?_; rintro e w' ⟨rfl, rfl⟩; rw [H1.out])
  go_ret
  exact ⟨rfl, rfl⟩

theorem bytes_any (v : Nat) (s : Int) (w : World) (hv : v < 18446744073709551616) :
    Calls Tryd.prog 22 #[.int .u64 v, .int .i64 s] w (RetB (bytesOf v s) w) := by
  rcases Bool.eq_false_or_eq_true (sizeB s) with h1 | h1
  · obtain ⟨q, rfl⟩ := Int.eq_ofNat_of_zero_le (show 0 ≤ s by have := size_cases h1; omega)
    exact bytes_yes v q w hv h1
  · refine (bytes_no v s w h1).mono ?_
    rintro e w' ⟨rfl, rfl⟩
    have e : bytesOf v s = [] := by simp [bytesOf, h1]
    exact ⟨none, 0, by rw [e]; rfl, ⟨bytesOf_lt v s, fun h => by rw [e] at h; simp at h⟩, (fun _ ha => by cases ha), Below.refl _ _⟩
end Go.Proofs.YtkkgigdgbiklmaaDoor
