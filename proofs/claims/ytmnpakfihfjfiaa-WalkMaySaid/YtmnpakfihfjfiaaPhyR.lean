/- Both memories in one world. -/
import Derived.Test.YtmnpakfihfjfiaaPhyQ
namespace Go.Proofs.Ytmnpakfihfjfiaa
open Go.RowKit

/-- The memory and the reference's, apart from one another, and from the blocks of P. -/
def Play (W : World) (P : Nat → Prop) (gm xb n : Nat) (L : List (Nat × Nat)) (S : Nat → List Nat) (w : World) : Prop :=
  ∃ F G, Mem w gm F n S ∧ RefAt w xb G n L ∧ (∀ b, F b → W.heap.size ≤ b ∧ b < w.heap.size) ∧ (∀ b, G b → W.heap.size ≤ b) ∧ (∀ b, F b → ¬ G b) ∧ (∀ b, P b → ¬ F b ∧ ¬ G b ∧ b < w.heap.size) ∧ Below W.heap.size W w
def Sv (P : Nat → Prop) (w w' : World) : Prop := ∀ b, P b → w'.heap[b]? = w.heap[b]?
section
variable {W w w' : World} {P : Nat → Prop} {gm xb n : Nat} {L L' : List (Nat × Nat)} {S S' : Nat → List Nat}
theorem Play.bel (h : Play W P gm xb n L S w) : Below W.heap.size W w := by
  obtain ⟨F, G, _, _, _, _, _, _, h⟩ := h
  exact h
theorem Play.stepM {F G : Nat → Prop} (hr : RefAt w xb G n L) (hF : ∀ b, F b → W.heap.size ≤ b ∧ b < w.heap.size) (hG : ∀ b, G b → W.heap.size ≤ b) (hd : ∀ b, F b → ¬ G b) (hP : ∀ b, P b → ¬ F b ∧ ¬ G b ∧ b < w.heap.size) (hb : Below W.heap.size W w)
    (hm : MemTo w gm F n S' w') : Play W P gm xb n L S' w' ∧ Sv P w w' := by
  obtain ⟨F', h1, h2, h3⟩ := hm
  have hGl : ∀ b, G b → b < w.heap.size := by obtain ⟨_, _, _, _, _, h⟩ := hr; exact h
  refine ⟨⟨fun b => F' b ∧ b < w'.heap.size, G, h1.tight, hr.keeps h3 (fun g hg hf => hd g hf hg), fun b hb' => ⟨?_, hb'.2⟩, hG, fun b hb' hg => ?_, fun b hp => ⟨fun hb' => ?_, (hP b hp).2.1, Nat.lt_of_lt_of_le (hP b hp).2.2 h3.size⟩, hb.trans (h3.below (fun b h => (hF b h).1) hb.size)⟩, fun b hp => h3.block b (hP b hp).2.2 (hP b hp).1⟩
  · rcases h2 b hb'.1 with h | h
    · exact (hF b h).1
    · have := hb.size; omega
  · rcases h2 b hb'.1 with h | h
    · exact hd b h hg
    · have := hGl b hg; omega
  · rcases h2 b hb'.1 with h | h
    · exact (hP b hp).1 h
    · have := (hP b hp).2.2; omega
theorem Play.stepX {F G : Nat → Prop} (hm : Mem w gm F n S) (hr : RefAt w xb G n L) (hF : ∀ b, F b → W.heap.size ≤ b ∧ b < w.heap.size) (hG : ∀ b, G b → W.heap.size ≤ b) (hd : ∀ b, F b → ¬ G b) (hP : ∀ b, P b → ¬ F b ∧ ¬ G b ∧ b < w.heap.size) (hb : Below W.heap.size W w)
    (hx : PutR w xb n G L' w') : Play W P gm xb n L' S w' ∧ Sv P w w' := by
  obtain ⟨G', h1, h2, h3⟩ := hx
  have hGx : G xb := by obtain ⟨_, _, _, _, h, _⟩ := hr; exact h
  refine ⟨⟨F, G', hm.keeps h3 (fun b hf e => by subst e; exact hd _ hf hGx), h1, fun b hb' => ⟨(hF b hb').1, Nat.lt_of_lt_of_le (hF b hb').2 h3.size⟩, fun b hb' => ?_, fun b hf hg => ?_, fun b hp => ⟨(hP b hp).1, fun hg => ?_, Nat.lt_of_lt_of_le (hP b hp).2.2 h3.size⟩, hb.trans (h3.below (fun b e => by subst e; exact hG _ hGx) hb.size)⟩, fun b hp => h3.block b (hP b hp).2.2 (fun e => by subst e; exact (hP _ hp).2.1 hGx)⟩
  · rcases h2 b hb' with h | h
    · exact hG b h
    · have := hb.size; omega
  · rcases h2 b hg with h | h
    · exact hd b hf h
    · have := (hF b hf).2; omega
  · rcases h2 b hg with h | h
    · exact (hP b hp).2.1 h
    · have := (hP b hp).2.2; omega
theorem Play.keep {H : Nat → Prop} (h : Play W P gm xb n L S w) (hk : Keeps H w w') (hH : ∀ b, H b → P b ∧ W.heap.size ≤ b) : Play W P gm xb n L S w' := by
  obtain ⟨F, G, h1, h2, h3, h4, h5, h6, h7⟩ := h
  exact ⟨F, G, h1.keeps hk (fun b hf hh => (h6 b (hH b hh).1).1 hf), h2.keeps hk (fun b hg hh => (h6 b (hH b hh).1).2.1 hg), fun b hb => ⟨(h3 b hb).1, Nat.lt_of_lt_of_le (h3 b hb).2 hk.size⟩, h4, h5, fun b hp => ⟨(h6 b hp).1, (h6 b hp).2.1, Nat.lt_of_lt_of_le (h6 b hp).2.2 hk.size⟩, h7.trans (hk.below (fun b hh => (hH b hh).2) h7.size)⟩
theorem Play.below (h : Play W P gm xb n L S w) (hb : Below w.heap.size w w') : Play W P gm xb n L S w' := h.keep (H := fun _ => False) (Keeps.of_below hb) (fun _ h => h.elim)
theorem Play.add {b : Nat} (h : Play W P gm xb n L S w) (hb : Below w.heap.size w w') (h1 : w.heap.size ≤ b) (h2 : b < w'.heap.size) : Play W (fun c => P c ∨ c = b) gm xb n L S w' := by
  obtain ⟨F, G, g1, g2, g3, g4, g5, g6, g7⟩ := h
  have hx : ∀ c, G c → c < w.heap.size := by obtain ⟨_, _, _, _, _, h⟩ := g2; exact h
  refine ⟨F, G, g1.below hb, g2.below hb, fun b hb' => ⟨(g3 b hb').1, Nat.lt_of_lt_of_le (g3 b hb').2 hb.size⟩, g4, g5, fun c hc => ?_, g7.trans (hb.mono g7.size)⟩
  rcases hc with hc | rfl
  · exact ⟨(g6 c hc).1, (g6 c hc).2.1, Nat.lt_of_lt_of_le (g6 c hc).2.2 hb.size⟩
  · exact ⟨fun hf => by have := (g3 _ hf).2; omega, fun hg => by have := hx _ hg; omega, h2⟩
theorem Play.only {Q : Nat → Prop} (h : Play W P gm xb n L S w) (hQ : ∀ b, Q b → P b) : Play W Q gm xb n L S w := by
  obtain ⟨F, G, g1, g2, g3, g4, g5, g6, g7⟩ := h
  exact ⟨F, G, g1, g2, g3, g4, g5, fun b hb => g6 b (hQ b hb), g7⟩
end
/-- What SetPage says. -/
def setC (n : Nat) (f : Int) (l : List Nat) : Int := if frE n f = 61 then 61 else if 4096 < l.length then 2 else 0
def setS (n : Nat) (S : Nat → List Nat) (f : Int) (l : List Nat) : Nat → List Nat := if setC n f l = 0 then updS S f.toNat (headL l) else S
theorem frE_two {n : Nat} {f : Int} : frE n f = 61 ∨ ∃ k : Nat, f = (k : Int) ∧ k < n ∧ frE n f = 0 := by
  by_cases h : frE n f = 0
  · obtain ⟨k, hk, hn⟩ := frE_ok h
    exact .inr ⟨k, hk, hn, h⟩
  · left
    unfold frE at h ⊢
    split at h
    · rename_i h1; rw [if_pos h1]
    · exact absurd rfl h
section
variable {W w : World} {P : Nat → Prop} {gm xb n : Nat} {L : List (Nat × Nat)} {S : Nat → List Nat}
theorem p_store (h : Play W P gm xb n L S w) (at_ v : Nat) (s : Int) (ha : at_ < 18446744073709551616) (hv : v < 18446744073709551616) :
    Calls Try.prog 12 #[.pointer (some ⟨gm, 0, none⟩), .int .u64 (at_ : Int), .int .i64 s, .int .u64 (v : Int)] w fun e w' => e = .returned (.int .i64 (chkE n at_ s)) ∧ Play W P gm xb n L (stR n S at_ s v) w' ∧ Sv P w w' := by
  obtain ⟨F, G, g1, g2, g3, g4, g5, g6, g7⟩ := h
  refine (Store_any gm n at_ s v F S w g1 ha hv).mono ?_
  rintro e w' ⟨rfl, hm⟩
  exact ⟨rfl, Play.stepM g2 g3 g4 g5 g6 g7 hm⟩
theorem p_load (h : Play W P gm xb n L S w) (at_ : Nat) (s : Int) (ha : at_ < 18446744073709551616) :
    Calls Try.prog 43 #[.pointer (some ⟨gm, 0, none⟩), .int .u64 (at_ : Int), .int .i64 s] w fun e w' => e = .returned (.tuple #[.int .u64 (ldR n S at_ s : Nat), .int .i64 (chkE n at_ s)]) ∧ w = w' := by
  obtain ⟨F, G, g1, _⟩ := h
  exact Load_any gm n at_ s F S w g1 ha
theorem p_rstore (h : Play W P gm xb n L S w) (at_ v : Nat) (s : Int) (hn : n ≤ 1048576) (ha : at_ < 18446744073709551616) (hv : v < 18446744073709551616) (hL : L.length ≤ 900000) :
    Calls Try.prog 13 #[.pointer (some ⟨xb, 0, none⟩), .int .u64 (at_ : Int), .int .i64 s, .int .u64 (v : Int)] w fun e w' => e = .returned (.int .i64 (chkE n at_ s)) ∧ Play W P gm xb n (stE n L at_ s v) S w' ∧ Sv P w w' := by
  obtain ⟨F, G, g1, g2, g3, g4, g5, g6, g7⟩ := h
  refine (rstore_any xb n at_ s v G L w (by omega) ha hv hL g2).mono ?_
  rintro e w' ⟨rfl, hm⟩
  exact ⟨rfl, Play.stepX g1 g2 g3 g4 g5 g6 g7 hm⟩
theorem p_rload (h : Play W P gm xb n L S w) (at_ : Nat) (s : Int) (hn : n ≤ 1048576) (ha : at_ < 18446744073709551616) (hL : L.length ≤ 900000) (hv : ∀ x ∈ L, x.2 < 256) :
    Calls Try.prog 38 #[.pointer (some ⟨xb, 0, none⟩), .int .u64 (at_ : Int), .int .i64 s] w fun e w' => e = .returned (.tuple #[.int .u64 (ldE n L at_ s : Nat), .int .i64 (chkE n at_ s)]) ∧ Below w.heap.size w w' := by
  obtain ⟨F, G, g1, g2, _⟩ := h
  exact rload_any xb n at_ s G L w (by omega) ha (by omega) hv g2
/-- A page's bytes; none where there is no such frame. -/
def pgL (n : Nat) (S : Nat → List Nat) (f : Int) : List Nat := if frE n f = 0 then S f.toNat else []
def PgR (n : Nat) (S : Nat → List Nat) (f : Int) (w : World) (e : Ending) (w' : World) : Prop :=
  ∃ v, e = .returned (.tuple #[v, .int .i64 (frE n f)]) ∧ w'.ownsRow w.heap.size 5 1 v (pgL n S f).length ((pgL n S f).map bv) ∧ Below w.heap.size w w'
end
end Go.Proofs.Ytmnpakfihfjfiaa
