/- A bag's memory; there, full, Clone of bytes. -/
import Derived.Test.YtnnajaomajgoeaaByte
import Derived.Test.YtnnajaomajgoeaaCheckF
import Derived.Test.YtnnajaomajgoeaaSep
import Derived.Test.YtnnajaomajgoeaaWide
namespace Go.Proofs.Ytnnajaomajgoeaa
open Go.RowKit Go.ChangeShapes

/-- A parcel. -/
structure Pc where
  (src dst : Int)
  (byt : List Nat)
  (hurt : Bool)
def pcV (x : Pc × Value) : List Value := [.int .i64 x.1.src, .int .i64 x.1.dst, x.2, .bool x.1.hurt]
def pcC : List (Pc × Value) → List Value
  | [] => []
  | x :: r => pcV x ++ pcC r
theorem pcC_append (a b : List (Pc × Value)) : pcC (a ++ b) = pcC a ++ pcC b := by
  induction a with
  | nil => rfl
  | cons x r ih =>
    show pcV x ++ pcC (r ++ b) = pcV x ++ pcC r ++ pcC b
    rw [ih, List.append_assoc]
theorem pcC_length : ∀ l : List (Pc × Value), (pcC l).length = l.length * 4
  | [] => rfl
  | x :: r => by
    show (pcV x ++ pcC r).length = _
    rw [List.length_append, pcC_length r, List.length_cons]
    show 4 + _ = _
    omega
theorem pcC_get : ∀ (l : List (Pc × Value)) (k j : Nat) (x : Pc × Value), l[k]? = some x → j < 4 → (pcC l)[k * 4 + j]? = (pcV x)[j]?
  | [], k, j, e, h, _ => by simp at h
  | x :: r, 0, j, e, h, hj => by
    simp at h
    subst h
    show (pcV x ++ pcC r)[0 * 4 + j]? = _
    rw [Nat.zero_mul, Nat.zero_add, List.getElem?_append_left (show j < 4 from hj)]
  | x :: r, k + 1, j, e, h, hj => by
    show (pcV x ++ pcC r)[(k + 1) * 4 + j]? = _
    rw [List.getElem?_append_right (show 4 ≤ (k + 1) * 4 + j by omega)]
    show (pcC r)[(k + 1) * 4 + j - 4]? = _
    rw [show (k + 1) * 4 + j - 4 = k * 4 + j by omega]
    exact pcC_get r k j e (by simpa using h) hj
/-- A slice that reads as bytes, its block (if it has one) in F. -/
def RdB (w : World) (F : Nat → Prop) (u : Value) (l : List Nat) : Prop := ∃ A c, u = .slice A l.length c ∧ Bts w A l ∧ l.length ≤ c ∧ l.length ≤ 140737488355328 ∧ ∀ a, A = some a → F a.block ∧ ∃ cs, Blk w a.block 5 cs
/-- A bag: its parcels with their slices, how many were lost. -/
structure BagAt (w : World) (gb : Nat) (L : List (Pc × Value)) (lost : Int) (F : Nat → Prop) : Prop where
  own : ∃ v, Blk w gb 63 #[v, .int .i64 lost] ∧ w.ownsRow 0 37 4 v L.length (pcC L) ∧ ∀ k, v.ownBlock = some k → F k ∧ ∀ x ∈ L, x.2.ownBlock ≠ some k
  rd : ∀ x ∈ L, RdB w (fun k => F k ∧ k ≠ gb) x.2 x.1.byt
  apart : L.Pairwise (fun x y => ∀ k, x.2.ownBlock = some k → y.2.ownBlock ≠ some k)
  self : F gb
  lt : ∀ k, F k → k < w.heap.size
section
variable {w w' : World} {gb : Nat} {L : List (Pc × Value)} {lost : Int} {F H : Nat → Prop}
theorem bts_keeps {A : Option Addr} {l : List Nat} (h : Bts w A l) (k : Keeps H w w') (hd : ∀ a, A = some a → ¬ H a.block) : Bts w' A l := by
  refine ⟨h.1, fun hl => ?_⟩
  obtain ⟨b, o, e, hc⟩ := h.2 hl
  refine ⟨b, o, e, fun i hi => ?_⟩
  have h1 := hc i hi
  have h2 := k.block b (cell_lt h1) (hd ⟨b, o, none⟩ e)
  simp only [World.cell?] at h1 ⊢
  rw [h2]
  exact h1
theorem RdB.keeps {u : Value} {l : List Nat} (h : RdB w F u l) (k : Keeps H w w') (hd : ∀ b, F b → ¬ H b) : RdB w' F u l := by
  obtain ⟨A, c, e, h1, h2, h3, h4⟩ := h
  exact ⟨A, c, e, bts_keeps h1 k (fun a ea => hd _ (h4 a ea).1), h2, h3, fun a ea => ⟨(h4 a ea).1, (h4 a ea).2.imp fun cs hb => k.blk hb (hd _ (h4 a ea).1)⟩⟩
theorem RdB.mono {u : Value} {l : List Nat} {F' : Nat → Prop} (h : RdB w F u l) (hF : ∀ b, F b → F' b) : RdB w F' u l := by
  obtain ⟨A, c, e, h1, h2, h3, h4⟩ := h
  exact ⟨A, c, e, h1, h2, h3, fun a ea => ⟨hF _ (h4 a ea).1, (h4 a ea).2⟩⟩
theorem BagAt.keeps (h : BagAt w gb L lost F) (k : Keeps H w w') (hd : ∀ b, F b → ¬ H b) : BagAt w' gb L lost F := by
  obtain ⟨v, h1, h2, h3⟩ := h.own
  exact ⟨⟨v, k.blk h1 (hd _ h.self), k.row h2 (fun g hg => hd _ (h3 g hg).1), h3⟩, fun x hx => (h.rd x hx).keeps k (fun b hb => hd b hb.1), h.apart, h.self, fun b hb => Nat.lt_of_lt_of_le (h.lt b hb) k.size⟩
theorem BagAt.below (h : BagAt w gb L lost F) (hb : Below w.heap.size w w') : BagAt w' gb L lost F := h.keeps (H := fun _ => False) (Keeps.of_below hb) (fun _ _ h => h)
end
theorem prow_form {w : World} {base s n : Nat} {e : TypeId} {v : Value} {xs : List Value} (h : w.ownsRow base e s v n xs) : ∃ A c, v = .slice A n c := by
  rcases h.2 with ⟨rfl, rfl⟩ | ⟨g, cap, _, rfl, _⟩
  · exact ⟨_, _, rfl⟩
  · exact ⟨_, _, rfl⟩
theorem new_any (W : World) : Calls Try.prog 7 #[] W fun e w' => e = .returned (.pointer (some ⟨W.heap.size, 0, none⟩)) ∧ BagAt w' W.heap.size [] 0 (fun b => b = W.heap.size) ∧ Below W.heap.size W w' := by
  go_enter Try.func7, Try.ntmps7
  go_wp2_with fail
  go_ret
  refine ⟨rfl, ⟨⟨.slice none 0 0, Blkf.new_at _ _ _ _ rfl, World.ownsRow_nil _ _ _ _, fun k hk => by simp [Value.ownBlock] at hk⟩, fun x hx => by simp at hx, List.Pairwise.nil, rfl, fun k hk => by subst hk; simp⟩, (Below.refl _ _).alloc (Nat.le_refl _) _⟩
def hereB (i : Int) (n : Nat) : Bool := decide (0 ≤ i) && decide (i < (n : Int))
theorem bthere_any (gb : Nat) (L : List (Pc × Value)) (lost i : Int) (F : Nat → Prop) (W : World) (h : BagAt W gb L lost F) :
    Calls Try.prog 26 #[.pointer (some ⟨gb, 0, none⟩), .int .i64 i] W fun e w' => e = .returned (.bool (hereB i L.length)) ∧ W = w' := by
  obtain ⟨v, h1, h2, _⟩ := h.own
  obtain ⟨A, c, rfl⟩ := prow_form h2
  have c0 := h1.cell 0
  have hl := h1.lt
  simp at c0
  clear h h1 h2
  generalize L.length = n at *
  by_cases h0 : 0 ≤ i
  · by_cases hn : i < (n : Int)
    · go_enter Try.func26, Try.ntmps26
      go_wp2_with fail
      go_ret
      exact ⟨by unfold hereB; rw [decide_eq_true h0, decide_eq_true hn]; rfl, rfl⟩
    · have hn2 : (n : Int) ≤ i := by omega
      go_enter Try.func26, Try.ntmps26
      go_wp2_with fail
      go_ret
      exact ⟨by unfold hereB; rw [decide_eq_false (by omega : ¬ i < (n : Int)), Bool.and_false]; rfl, rfl⟩
  · have h02 : i < 0 := by omega
    go_enter Try.func26, Try.ntmps26
    go_wp2_with fail
    go_ret
    exact ⟨by unfold hereB; rw [decide_eq_false (by omega : ¬ 0 ≤ i)]; rfl, rfl⟩
theorem bthere_nil (i : Int) (W : World) :
    Calls Try.prog 26 #[.pointer none, .int .i64 i] W fun e w' => e = .returned (.bool false) ∧ W = w' := by
  go_enter Try.func26, Try.ntmps26
  go_wp2_with fail
  go_ret
  exact ⟨rfl, rfl⟩
theorem full_any (gb : Nat) (L : List (Pc × Value)) (lost : Int) (F : Nat → Prop) (W : World) (h : BagAt W gb L lost F) :
    Calls Try.prog 24 #[.pointer (some ⟨gb, 0, none⟩)] W fun e w' => e = .returned (.bool (decide (4096 ≤ L.length))) ∧ W = w' := by
  obtain ⟨v, h1, h2, _⟩ := h.own
  obtain ⟨A, c, rfl⟩ := prow_form h2
  have c0 := h1.cell 0
  have hl := h1.lt
  simp at c0
  clear h h1 h2
  generalize L.length = n at *
  by_cases hn : 4096 ≤ n
  · have hi : (4096 : Int) ≤ (n : Int) := by omega
    go_enter Try.func24, Try.ntmps24
    go_wp2_with fail
    go_ret
    exact ⟨by rw [decide_eq_true hn]; rfl, rfl⟩
  · have hi : (n : Int) < 4096 := by omega
    go_enter Try.func24, Try.ntmps24
    go_wp2_with fail
    go_ret
    exact ⟨by rw [decide_eq_false hn]; show Ending.returned (.bool (decide ((4096 : Int) ≤ (n : Int)))) = _; rw [decide_eq_false (by omega)], rfl⟩
end Go.Proofs.Ytnnajaomajgoeaa
