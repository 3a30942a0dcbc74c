/- Plain: the sum of bytes, step by step; it is linear, and no two states come to one. -/
import Derived.Test.YtnnajaomajgoeaaWordF
import Derived.Test.YtnnajaomajgoeaaByte
namespace Go.Proofs.Ytnnajaomajgoeaa
open Go.RowKit

def polyN : Nat := 3988292384
def stepV (s : Nat) : Nat := if s % 2 = 1 then s / 2 ^^^ polyN else s / 2
def stepN : Nat → Nat → Nat
  | 0, s => s
  | n + 1, s => stepV (stepN n s)
def byteV (s c : Nat) : Nat := stepN 8 (s ^^^ c)
def stateV (l : List Nat) : Nat := l.foldl byteV 4294967295
def sumV (l : List Nat) : Nat := 4294967295 - stateV l

theorem xor_div2 (a b : Nat) : (a ^^^ b) / 2 = a / 2 ^^^ b / 2 := by
  have := Nat.xor_div_two_pow (a := a) (b := b) (n := 1)
  simpa using this
theorem xor_mod2 (a b : Nat) : (a ^^^ b) % 2 = (a + b) % 2 := by
  have h := Nat.xor_mod_two_pow (a := a) (b := b) (n := 1)
  simp only [Nat.pow_one] at h
  rw [h]
  rcases Nat.mod_two_eq_zero_or_one a with ha | ha <;> rcases Nat.mod_two_eq_zero_or_one b with hb | hb <;> rw [ha, hb] <;> simp <;> omega
theorem xlc (a b c : Nat) : a ^^^ (b ^^^ c) = b ^^^ (a ^^^ c) := by rw [← Nat.xor_assoc, Nat.xor_comm a b, Nat.xor_assoc]
theorem xor32 {a b : Nat} (ha : a < 4294967296) (hb : b < 4294967296) : a ^^^ b < 4294967296 := Nat.xor_lt_two_pow (n := 32) ha hb
theorem step_lt {s : Nat} (h : s < 4294967296) : stepV s < 4294967296 := by
  unfold stepV
  split
  · exact xor32 (by omega) (by decide)
  · omega
theorem stepN_lt {s : Nat} (h : s < 4294967296) : ∀ n, stepN n s < 4294967296
  | 0 => h
  | n + 1 => step_lt (stepN_lt h n)
theorem byteV_lt {s c : Nat} (h : s < 4294967296) (hc : c < 256) : byteV s c < 4294967296 := stepN_lt (xor32 h (by omega)) 8
theorem fold_lt : ∀ (l : List Nat) (s : Nat), s < 4294967296 → (∀ i : Nat, l.getD i 0 < 256) → l.foldl byteV s < 4294967296
  | [], s, h, _ => h
  | c :: l, s, h, hl => fold_lt l _ (byteV_lt h (hl 0)) (fun i => hl (i + 1))
theorem state_lt (l : List Nat) (hl : ∀ i : Nat, l.getD i 0 < 256) : stateV l < 4294967296 := fold_lt l _ (by decide) hl
theorem state_snoc (l : List Nat) (c : Nat) : stateV (l ++ [c]) = byteV (stateV l) c := by simp [stateV]

theorem step_xor (a b : Nat) : stepV (a ^^^ b) = stepV a ^^^ stepV b := by
  unfold stepV
  rw [xor_div2, xor_mod2]
  rcases Nat.mod_two_eq_zero_or_one a with ha | ha <;> rcases Nat.mod_two_eq_zero_or_one b with hb | hb
  · rw [if_neg (by omega), if_neg (by omega), if_neg (by omega)]
  · rw [if_pos (by omega), if_neg (by omega), if_pos (by omega), Nat.xor_assoc]
  · rw [if_pos (by omega), if_pos (by omega), if_neg (by omega), Nat.xor_assoc, Nat.xor_comm (b / 2), ← Nat.xor_assoc]
  · rw [if_neg (by omega), if_pos (by omega), if_pos (by omega), Nat.xor_assoc, Nat.xor_comm polyN, Nat.xor_assoc, Nat.xor_self, Nat.xor_zero]
theorem stepN_xor (a b : Nat) : ∀ n, stepN n (a ^^^ b) = stepN n a ^^^ stepN n b
  | 0 => rfl
  | n + 1 => by simp only [stepN]; rw [stepN_xor a b n, step_xor]
theorem xor_eq_zero {a b : Nat} (h : a ^^^ b = 0) : a = b := by
  have : a ^^^ b ^^^ b = 0 ^^^ b := by rw [h]
  rw [Nat.xor_assoc, Nat.xor_self, Nat.xor_zero, Nat.zero_xor] at this
  exact this
theorem step_zero {x : Nat} (hx : x < 4294967296) (h : stepV x = 0) : x = 0 := by
  unfold stepV at h
  split at h
  · have := xor_eq_zero h
    unfold polyN at this
    omega
  · omega
theorem step_inj {a b : Nat} (ha : a < 4294967296) (hb : b < 4294967296) (h : stepV a = stepV b) : a = b :=
  xor_eq_zero (step_zero (xor32 ha hb) (by rw [step_xor, h, Nat.xor_self]))
theorem stepN_inj {a b : Nat} (ha : a < 4294967296) (hb : b < 4294967296) : ∀ n, stepN n a = stepN n b → a = b
  | 0, h => h
  | n + 1, h => stepN_inj ha hb n (step_inj (stepN_lt ha n) (stepN_lt hb n) h)
theorem byteV_inj_state {a b c : Nat} (ha : a < 4294967296) (hb : b < 4294967296) (hc : c < 256) (h : byteV a c = byteV b c) : a = b := by
  have := stepN_inj (xor32 ha (by omega)) (xor32 hb (by omega)) 8 h
  have h2 : a ^^^ c ^^^ c = b ^^^ c ^^^ c := by rw [this]
  rwa [Nat.xor_assoc, Nat.xor_self, Nat.xor_zero, Nat.xor_assoc, Nat.xor_self, Nat.xor_zero] at h2
theorem byteV_inj_byte {s c d : Nat} (hs : s < 4294967296) (hc : c < 256) (hd : d < 256) (h : byteV s c = byteV s d) : c = d := by
  have := stepN_inj (xor32 hs (by omega)) (xor32 hs (by omega)) 8 h
  have h2 : s ^^^ (s ^^^ c) = s ^^^ (s ^^^ d) := by rw [this]
  rwa [← Nat.xor_assoc, Nat.xor_self, Nat.zero_xor, ← Nat.xor_assoc, Nat.xor_self, Nat.zero_xor] at h2
theorem fold_inj : ∀ (l : List Nat) (a b : Nat), a < 4294967296 → b < 4294967296 → (∀ i : Nat, l.getD i 0 < 256) → l.foldl byteV a = l.foldl byteV b → a = b
  | [], _, _, _, _, _, h => h
  | c :: l, a, b, ha, hb, hl, h => byteV_inj_state ha hb (hl 0) (fold_inj l _ _ (byteV_lt ha (hl 0)) (byteV_lt hb (hl 0)) (fun i => hl (i + 1)) h)
/-- Bytes of which one is another have another sum. -/
theorem state_turn (p r : List Nat) (c d : Nat) (hp : ∀ i : Nat, p.getD i 0 < 256) (hr : ∀ i : Nat, r.getD i 0 < 256) (hc : c < 256) (hd : d < 256) (h : stateV (p ++ c :: r) = stateV (p ++ d :: r)) : c = d := by
  have hs := state_lt p hp
  unfold stateV at h hs
  rw [List.foldl_append, List.foldl_append, List.foldl_cons, List.foldl_cons] at h
  exact byteV_inj_byte hs hc hd (fold_inj r _ _ (byteV_lt hs hc) (byteV_lt hs hd) hr h)
theorem sum_xor (l : List Nat) (hl : ∀ i : Nat, l.getD i 0 < 256) : sumV l = stateV l ^^^ 4294967295 := by
  have h := state_lt l hl
  unfold sumV
  have e := BitVec.toNat_not (x := BitVec.ofNat 32 (stateV l))
  have e2 : (~~~ BitVec.ofNat 32 (stateV l)) = BitVec.ofNat 32 (stateV l) ^^^ BitVec.allOnes 32 := by rw [BitVec.xor_allOnes]
  rw [e2, BitVec.toNat_xor, BitVec.toNat_ofNat, BitVec.toNat_allOnes, Nat.mod_eq_of_lt (show stateV l < 2 ^ 32 from h)] at e
  rw [show (4294967295 : Nat) = 2 ^ 32 - 1 from rfl, e]
theorem sum_lt (l : List Nat) : sumV l < 4294967296 := by unfold sumV; omega

/-- The reference's inner loop: a state and the rest of a byte. -/
def rstep (s c : Nat) : Nat := if (s + c) % 2 = 1 then s / 2 ^^^ polyN else s / 2
theorem rstep_eq (s c : Nat) : rstep s c ^^^ c / 2 = stepV (s ^^^ c) := by
  unfold rstep stepV
  rw [xor_div2, xor_mod2]
  split
  · rw [Nat.xor_assoc, Nat.xor_comm polyN, ← Nat.xor_assoc]
  · rfl
theorem rstep_lt {s : Nat} (c : Nat) (h : s < 4294967296) : rstep s c < 4294967296 := by
  unfold rstep
  split
  · exact xor32 (by omega) (by decide)
  · omega
def rN (s c : Nat) : Nat → Nat
  | 0 => s
  | n + 1 => rstep (rN s c n) (c / 2 ^ n)
theorem rN_lt {s : Nat} (c : Nat) (h : s < 4294967296) : ∀ n, rN s c n < 4294967296
  | 0 => h
  | n + 1 => rstep_lt _ (rN_lt c h n)
theorem rN_eq (s c : Nat) : ∀ n, rN s c n ^^^ c / 2 ^ n = stepN n (s ^^^ c)
  | 0 => by simp [rN, stepN]
  | n + 1 => by
    simp only [rN, stepN]
    rw [← rN_eq s c n, Nat.pow_succ, ← Nat.div_div_eq_div_mul, rstep_eq]
theorem rN_byte (s c : Nat) (hc : c < 256) : rN s c 8 = byteV s c := by
  have h := rN_eq s c 8
  rw [show c / 2 ^ 8 = 0 by simp; omega, Nat.xor_zero] at h
  exact h

/-- Laid over one another. -/
theorem fold_lin : ∀ (a b : List Nat) (sa sb sx s0 : Nat), a.length = b.length → sa ^^^ sb ^^^ sx = s0 →
    a.foldl byteV sa ^^^ b.foldl byteV sb ^^^ (List.zipWith (· ^^^ ·) a b).foldl byteV sx = (List.replicate a.length 0).foldl byteV s0
  | [], [], _, _, _, _, _, h => h
  | c :: a, d :: b, sa, sb, sx, s0, hl, h => by
    simp only [List.foldl_cons, List.zipWith_cons_cons, List.length_cons, List.replicate_succ]
    refine fold_lin a b _ _ _ _ (by simpa using hl) ?_
    unfold byteV
    rw [← stepN_xor, ← stepN_xor]
    congr 1
    rw [← h, Nat.xor_zero]
    have e : sa ^^^ c ^^^ (sb ^^^ d) ^^^ (sx ^^^ (c ^^^ d)) = sa ^^^ sb ^^^ sx ^^^ ((c ^^^ d) ^^^ (c ^^^ d)) := by
      simp only [Nat.xor_assoc, Nat.xor_comm, xlc]
    rw [e, Nat.xor_self, Nat.xor_zero]
  | [], _ :: _, _, _, _, _, hl, _ => by simp at hl
  | _ :: _, [], _, _, _, _, hl, _ => by simp at hl
theorem sum_lin (a b : List Nat) (ha : ∀ i : Nat, a.getD i 0 < 256) (hb : ∀ i : Nat, b.getD i 0 < 256) (hx : ∀ i : Nat, (List.zipWith (· ^^^ ·) a b).getD i 0 < 256) (hl : a.length = b.length) :
    sumV a ^^^ sumV b ^^^ sumV (List.zipWith (· ^^^ ·) a b) = sumV (List.replicate a.length 0) := by
  have h := fold_lin a b 4294967295 4294967295 4294967295 4294967295 hl (by decide)
  rw [sum_xor a ha, sum_xor b hb, sum_xor _ hx, sum_xor (List.replicate a.length 0) (fun i => by
    rw [List.getD_eq_getElem?_getD, List.getElem?_replicate]; split <;> decide)]
  unfold stateV
  rw [← h]
  have e : ∀ x y z F : Nat, (x ^^^ F) ^^^ (y ^^^ F) ^^^ (z ^^^ F) = x ^^^ y ^^^ z ^^^ F := by
    intro x y z F
    have e1 : (x ^^^ F) ^^^ (y ^^^ F) ^^^ (z ^^^ F) = x ^^^ y ^^^ z ^^^ F ^^^ (F ^^^ F) := by simp only [Nat.xor_assoc, Nat.xor_comm, xlc]
    rw [e1, Nat.xor_self, Nat.xor_zero]
  exact e _ _ _ _
end Go.Proofs.Ytnnajaomajgoeaa
