/- A memory: its state; New, Frames, check, frame. -/
import Derived.Test.YtmnpakfihfjfiaaPhyA
namespace Go.Proofs.Ytmnpakfihfjfiaa
open Go.RowKit

def zeroL : List Nat := List.replicate 4096 0
theorem zeroL_get (i : Nat) : zeroL.getD i 0 = 0 := by
  unfold zeroL
  rw [List.getD_eq_getElem?_getD, List.getElem?_replicate]
  split <;> rfl
/-- A page of bytes lies in block p. -/
def PgAt (w : World) (p : Nat) (l : List Nat) : Prop := l.length = 4096 ∧ (∀ i, l.getD i 0 < 256) ∧ (∀ i, i < 4096 → w.cell? ⟨p, i, none⟩ = some (bv (l.getD i 0))) ∧ ∀ i, w.frozen? ⟨p, i, none⟩ = false
theorem PgAt.lt {w : World} {p : Nat} {l : List Nat} (h : PgAt w p l) : p < w.heap.size := by
  have := cell_lt (h.2.2.1 0 (by decide)); exact this
theorem PgAt.block {w w' : World} {p : Nat} {l : List Nat} (h : PgAt w p l) (hb : w'.heap[p]? = w.heap[p]?) : PgAt w' p l := by
  refine ⟨h.1, h.2.1, fun i hi => ?_, fun i => ?_⟩
  · rw [World.cell?_of_block (a := ⟨p, i, none⟩) hb]; exact h.2.2.1 i hi
  · rw [World.frozen?_of_block (a := ⟨p, i, none⟩) hb]; exact h.2.2.2 i
theorem PgAt.keeps {w w' : World} {p : Nat} {l : List Nat} {F : Nat → Prop} (h : PgAt w p l) (hk : Keeps F w w') (hF : ¬ F p) : PgAt w' p l := h.block (hk.block p h.lt hF)
theorem PgAt.bts {w : World} {p : Nat} {l : List Nat} (h : PgAt w p l) : Bts w (some ⟨p, 0, none⟩) l := ⟨h.2.1, fun _ => ⟨p, 0, rfl, fun i hi => by rw [Nat.zero_add]; exact h.2.2.1 i (by rw [← h.1]; exact hi)⟩⟩
/-- The blocks of a memory. -/
structure MemAt (w : World) (g mb : Nat) (loc : Nat → Nat) (K : List Nat) (n : Nat) (S : Nat → List Nat) : Prop where
  head : Blk w g 75 #[.map (some mb), .int .i64 (n : Int)]
  mp : PMap w mb K loc
  page : ∀ k ∈ K, PgAt w (loc k) (S k)
  zero : ∀ k, k ∉ K → S k = zeroL
  nd : K.Nodup
  lt : ∀ k ∈ K, k < n
  inj : ∀ i j, i ∈ K → j ∈ K → loc i = loc j → i = j
  apart : mb ≠ g ∧ (∀ k ∈ K, loc k ≠ g ∧ loc k ≠ mb)
  n1 : 1 ≤ n
  n2 : n ≤ 1048576
def memF (g mb : Nat) (loc : Nat → Nat) (K : List Nat) (b : Nat) : Prop := b = g ∨ b = mb ∨ ∃ k ∈ K, b = loc k
section
variable {w w' : World} {g mb n : Nat} {loc : Nat → Nat} {K : List Nat} {S : Nat → List Nat}
theorem MemAt.flt (h : MemAt w g mb loc K n S) : ∀ b, memF g mb loc K b → b < w.heap.size := by
  rintro b (rfl | rfl | ⟨k, hk, rfl⟩)
  · exact h.head.lt
  · exact h.mp.lt
  · exact (h.page k hk).lt
theorem MemAt.keeps {F : Nat → Prop} (h : MemAt w g mb loc K n S) (hk : Keeps F w w') (hF : ∀ b, memF g mb loc K b → ¬ F b) : MemAt w' g mb loc K n S :=
  ⟨hk.blk h.head (hF _ (.inl rfl)), h.mp.keeps hk (hF _ (.inr (.inl rfl))), fun k hK => (h.page k hK).keeps hk (hF _ (.inr (.inr ⟨k, hK, rfl⟩))), h.zero, h.nd, h.lt, h.inj, h.apart, h.n1, h.n2⟩
theorem MemAt.below (h : MemAt w g mb loc K n S) (hb : Below w.heap.size w w') : MemAt w' g mb loc K n S := h.keeps (F := fun _ => False) (Keeps.of_below hb) (fun _ _ h => h)
theorem MemAt.len (h : MemAt w g mb loc K n S) : K.length ≤ 1048576 := Nat.le_trans (nodup_len n K h.nd h.lt) h.n2
theorem MemAt.pgLen (h : MemAt w g mb loc K n S) (k : Nat) : (S k).length = 4096 := by
  by_cases hk : k ∈ K
  · exact (h.page k hk).1
  · rw [h.zero k hk]; exact List.length_replicate
theorem MemAt.pgLt (h : MemAt w g mb loc K n S) (k i : Nat) : (S k).getD i 0 < 256 := by
  by_cases hk : k ∈ K
  · exact (h.page k hk).2.1 i
  · rw [h.zero k hk, zeroL_get]; decide
end
/-- A memory of n frames with the pages S, somewhere in F. -/
def Mem (w : World) (g : Nat) (F : Nat → Prop) (n : Nat) (S : Nat → List Nat) : Prop := ∃ mb loc K, MemAt w g mb loc K n S ∧ (∀ b, memF g mb loc K b → F b)
theorem Mem.keeps {w w' : World} {g n : Nat} {F G : Nat → Prop} {S : Nat → List Nat} (h : Mem w g F n S) (hk : Keeps G w w') (hd : ∀ b, F b → ¬ G b) : Mem w' g F n S := by
  obtain ⟨mb, loc, K, h, hF⟩ := h
  exact ⟨mb, loc, K, h.keeps hk (fun b hb => hd b (hF b hb)), hF⟩
theorem Mem.below {w w' : World} {g n : Nat} {F : Nat → Prop} {S : Nat → List Nat} (h : Mem w g F n S) (hb : Below w.heap.size w w') : Mem w' g F n S := h.keeps (G := fun _ => False) (Keeps.of_below hb) (fun _ _ h => h)
theorem Mem.mono {w : World} {g n : Nat} {F G : Nat → Prop} {S : Nat → List Nat} (h : Mem w g F n S) (hG : ∀ b, F b → G b) : Mem w g G n S := by
  obtain ⟨mb, loc, K, h, hF⟩ := h
  exact ⟨mb, loc, K, h, fun b hb => hG b (hF b hb)⟩
theorem new_no (n : Int) (W : World) (hn : n < 1 ∨ 1048576 < n) :
    Calls Try.prog 11 #[.int .i64 n] W fun e w' => e = .returned (.tuple #[.pointer none, .int .i64 2]) ∧ W = w' := by
  rcases hn with hn | hn
  · go_enter Try.func11, Try.ntmps11
    go_wp2
    go_ret2
    exact ⟨rfl, rfl⟩
  · have h1 : ¬ n < 1 := by omega
    go_enter Try.func11, Try.ntmps11
    go_wp2
    go_ret2
    exact ⟨rfl, rfl⟩
def emptyS : Nat → List Nat := fun _ => zeroL
theorem new_yes (n : Nat) (W : World) (h1 : 1 ≤ n) (h2 : n ≤ 1048576) :
    Calls Try.prog 11 #[.int .i64 (n : Int)] W fun e w' => ∃ g, e = .returned (.tuple #[.pointer (some ⟨g, 0, none⟩), .int .i64 0]) ∧ Mem w' g (fun b => W.heap.size ≤ b) n emptyS ∧ Below W.heap.size W w' := by
  have hmm := @run_makeMap Try.prog
  have hm := PMap.new W (fun _ => 0)
  have hW : Below W.heap.size W (W.alloc (.map #[] 0)) := (Below.refl _ _).alloc (Nat.le_refl _) _
  have HM := Lib.hid hm
  have HW := Lib.hid hW
  clear hm hW
  go_enter Try.func11, Try.ntmps11
  go_wp2
  go_ret2
  refine ⟨W.heap.size + 1, rfl, ⟨W.heap.size, fun _ => 0, [], ⟨Blkf.new_at _ _ _ _ (by simp), ?_, fun k hk => by simp at hk, fun k _ => rfl, by simp, fun k hk => by simp at hk, fun i j hi => by simp at hi, ⟨by omega, fun k hk => by simp at hk⟩, h1, h2⟩, ?_⟩, HW.out.alloc HW.out.size _⟩
  · exact HM.out.keep (World.grownBy_alloc _ _ none) (by simp)
  · rintro b (rfl | rfl | ⟨k, hk, _⟩)
    · omega
    · exact Nat.le_refl _
    · simp at hk
/-- What a word's place comes to. -/
def chkE (n at_ : Nat) (s : Int) : Int := if sizeB s = false then 2 else if alignedB at_ s = false then 60 else if n ≤ at_ / 4096 then 61 else 0
theorem check_any (g : Nat) (v : Value) (n at_ : Nat) (s : Int) (W : World) (hb : Blk W g 75 #[v, .int .i64 (n : Int)]) (hn : n ≤ 1048576) (ha : at_ < 18446744073709551616) :
    Calls Try.prog 27 #[.pointer (some ⟨g, 0, none⟩), .int .u64 (at_ : Int), .int .i64 s] W fun e w' => e = .returned (.int .i64 (chkE n at_ s)) ∧ W = w' := by
  have H : Hid (chkE n at_ s = if sizeB s = false then 2 else if alignedB at_ s = false then 60 else if n ≤ at_ / 4096 then 61 else 0) := Lib.hid rfl
  have c1 : W.cell? ⟨g, 1, none⟩ = some (.int .i64 (n : Int)) := hb.cell 1
  have hw : IntKind.u64.wrap (n : Int) = (n : Int) := by rw [IntKind.wrap_u64]; omega
  have HA := Lib.hid ha
  clear hb
  go_enter Try.func27, Try.ntmps27
  go_wp2_with fail
  refine (size_any s _).mono ?_
  rintro e w ⟨rfl, rfl⟩
  cases h1 : sizeB s
  · rw [h1] at H
    have H1 := Lib.hid h1
    clear h1
    go_wp2_with fail
    go_ret
    exact ⟨by rw [H.out]; rfl, rfl⟩
  · rw [h1] at H
    have H1 := Lib.hid h1
    clear h1
    go_wp2_with fail
    refine (aligned_any at_ s _ HA.out).mono ?_
    rintro e w ⟨rfl, rfl⟩
    cases h2 : alignedB at_ s
    · rw [h2] at H
      have H2 := Lib.hid h2
      clear h2
      go_wp2_with fail
      go_ret
      exact ⟨by rw [H.out]; rfl, rfl⟩
    · rw [h2] at H
      have H2 := Lib.hid h2
      clear h2
      by_cases h3 : n ≤ at_ / 4096
      · rw [if_pos h3] at H
        have h3' : (n : Int) ≤ (at_ : Int) / 4096 := by omega
        go_wp2_with fail
        go_ret
        exact ⟨by rw [H.out]; rfl, rfl⟩
      · rw [if_neg h3] at H
        have h3' : ¬ (n : Int) ≤ (at_ : Int) / 4096 := by omega
        go_wp2_with fail
        go_ret
        exact ⟨by rw [H.out]; rfl, rfl⟩
theorem check_nil (a s : Int) (W : World) :
    Calls Try.prog 27 #[.pointer none, .int .u64 a, .int .i64 s] W fun e w' => e = .returned (.int .i64 1) ∧ W = w' := by
  go_enter Try.func27, Try.ntmps27
  go_wp2_with fail
  go_ret
  exact ⟨rfl, rfl⟩
def frE (n : Nat) (f : Int) : Int := if f < 0 ∨ (n : Int) ≤ f then 61 else 0
end Go.Proofs.Ytmnpakfihfjfiaa
