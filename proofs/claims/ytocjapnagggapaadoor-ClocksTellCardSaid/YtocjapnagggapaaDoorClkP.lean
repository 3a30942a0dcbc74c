/- What clocks are: the plain law. -/
import Derived.Test.YtocjapnagggapaaDoorMem
namespace Go.Proofs.YtocjapnagggapaaDoor

/-- What clocks look at of a fact. -/
structure Fc where
  (node acc : Int)
  (addr : Nat)
  (size : Int)
def Fc.ok (f : Fc) : Bool := decide (0 ≤ f.node) && decide (f.node < 16)
def Fc.sz (f : Fc) : Nat := (min (max f.size 0) 8).toNat
def Fc.lays (f : Fc) : Bool := f.acc == 2
def Fc.byte (f : Fc) (i : Nat) : Nat := (f.addr + i) % 18446744073709551616
def Fc.covers (f : Fc) (b : Nat) : Prop := ∃ i, i < f.sz ∧ f.byte i = b
def Fc.nd (f : Fc) : Nat := f.node.toNat
theorem Fc.ok_lt {f : Fc} (h : f.ok = true) : f.nd < 16 ∧ f.node = (f.nd : Int) := by
  unfold Fc.ok at h
  simp only [Bool.and_eq_true, decide_eq_true_eq] at h
  unfold Fc.nd
  omega
theorem Fc.sz_le (f : Fc) : f.sz ≤ 8 := by unfold Fc.sz; omega
theorem Fc.byte_inj {f : Fc} {i j : Nat} (hi : i < 8) (hj : j < 8) (h : f.byte i = f.byte j) : i = j := by unfold Fc.byte at h; omega
/-- Do two facts go over a common byte, of which one lays? -/
def Meets (a b : Fc) : Prop := (a.lays = true ∨ b.lays = true) ∧ ∃ x, a.covers x ∧ b.covers x
def Pred (a b : Fc) : Prop := a.ok = true ∧ b.ok = true ∧ (b.node = a.node ∨ Meets a b)
inductive Anc (f : Nat → Fc) : Nat → Nat → Prop
  | base {i k : Nat} : k < i → Pred (f i) (f k) → Anc f i k
  | step {i k j : Nat} : k < i → Pred (f i) (f k) → Anc f k j → Anc f i j
section
variable {f : Nat → Fc}
theorem Anc.lt {i k : Nat} (h : Anc f i k) : k < i := by induction h <;> omega
theorem Anc.trans {i k j : Nat} (h : Anc f i k) (h2 : Anc f k j) : Anc f i j := by
  induction h with
  | base h1 h3 => exact .step h1 h3 h2
  | step h1 h3 _ ih => exact .step h1 h3 (ih h2)
theorem Anc.ok {i k : Nat} (h : Anc f i k) : (f i).ok = true ∧ (f k).ok = true := by
  induction h with
  | base _ h => exact ⟨h.1, h.2.1⟩
  | step _ h _ ih => exact ⟨h.1, ih.2⟩
theorem Anc.same {i k : Nat} (hk : k < i) (hi : (f i).ok = true) (ho : (f k).ok = true) (hn : (f k).nd = (f i).nd) : Anc f i k :=
  .base hk ⟨hi, ho, .inl (by rw [(Fc.ok_lt hi).2, (Fc.ok_lt ho).2, hn])⟩
theorem Anc.via {i j : Nat} (h : Anc f i j) : ∃ k, k < i ∧ Pred (f i) (f k) ∧ (j = k ∨ Anc f k j) := by
  cases h with
  | base h1 h2 => exact ⟨_, h1, h2, .inl rfl⟩
  | step h1 h2 h3 => exact ⟨_, h1, h2, .inr h3⟩
end
/-- How many below i. -/
def cnt (P : Nat → Bool) : Nat → Nat
  | 0 => 0
  | i + 1 => cnt P i + if P i then 1 else 0
theorem cnt_mono {P Q : Nat → Bool} : ∀ (i : Nat), (∀ j, j < i → P j = true → Q j = true) → cnt P i ≤ cnt Q i
  | 0, _ => Nat.le_refl _
  | i + 1, h => by
    have h1 := cnt_mono i (fun j hj => h j (by omega))
    have h2 := h i (by omega)
    unfold cnt
    cases hp : P i
    · simp; omega
    · rw [h2 hp]; simp; omega
theorem cnt_congr {P Q : Nat → Bool} (i : Nat) (h : ∀ j, j < i → P j = Q j) : cnt P i = cnt Q i :=
  Nat.le_antisymm (cnt_mono i fun j hj hp => by rw [← h j hj]; exact hp) (cnt_mono i fun j hj hp => by rw [h j hj]; exact hp)
theorem cnt_le (P : Nat → Bool) : ∀ i, cnt P i ≤ i
  | 0 => Nat.le_refl _
  | i + 1 => by have := cnt_le P i; unfold cnt; split <;> omega
theorem cnt_far {P : Nat → Bool} {k : Nat} : ∀ (d : Nat), (∀ j, k ≤ j → P j = false) → cnt P (k + d) = cnt P k
  | 0, _ => rfl
  | d + 1, h => by
    rw [← Nat.add_assoc]
    show cnt P (k + d) + (if P (k + d) = true then 1 else 0) = _
    rw [cnt_far d h, h (k + d) (by omega)]; rfl
theorem cnt_pos {P : Nat → Bool} : ∀ (i : Nat), 0 < cnt P i → ∃ j, j < i ∧ P j = true ∧ ∀ m, m < i → P m = true → m ≤ j
  | 0, h => absurd h (by simp [cnt])
  | i + 1, h => by
    cases hp : P i with
    | true => exact ⟨i, by omega, hp, fun m hm _ => by omega⟩
    | false =>
      unfold cnt at h
      rw [hp] at h
      obtain ⟨j, h1, h2, h3⟩ := cnt_pos i (by simpa using h)
      refine ⟨j, by omega, h2, fun m hm hpm => ?_⟩
      rcases Nat.lt_or_ge m i with h4 | h4
      · exact h3 m h4 hpm
      · have : m = i := by omega
        subst this
        rw [hp] at hpm; cases hpm
/-- Those ahead of a fact, of one node; with it. -/
noncomputable def ancN (f : Nat → Fc) (i n j : Nat) : Bool := @decide (Anc f i j ∧ (f j).nd = n) (Classical.propDecidable _)
noncomputable def eN (f : Nat → Fc) (i n j : Nat) : Bool := @decide ((j = i ∨ Anc f i j) ∧ (f j).nd = n) (Classical.propDecidable _)
def one (b : Bool) : Nat := if b then 1 else 0
section
variable {f : Nat → Fc}
theorem ancN_iff {i n j : Nat} : ancN f i n j = true ↔ Anc f i j ∧ (f j).nd = n := by unfold ancN; exact @decide_eq_true_iff _ (Classical.propDecidable _)
theorem eN_iff {i n j : Nat} : eN f i n j = true ↔ (j = i ∨ Anc f i j) ∧ (f j).nd = n := by unfold eN; exact @decide_eq_true_iff _ (Classical.propDecidable _)
theorem bool_ext {a b : Bool} (h : a = true ↔ b = true) : a = b := by cases a <;> cases b <;> simp_all
theorem cnt_e (i n k : Nat) (hk : i < k) : cnt (eN f i n) k = cnt (ancN f i n) i + one (decide ((f i).nd = n)) := by
  obtain ⟨d, rfl⟩ : ∃ d, k = (i + 1) + d := ⟨k - (i + 1), by omega⟩
  rw [cnt_far d (fun j hj => by
    cases he : eN f i n j with
    | false => rfl
    | true =>
      obtain ⟨h1, _⟩ := eN_iff.1 he
      rcases h1 with h1 | h1
      · omega
      · have := h1.lt; omega)]
  show cnt (eN f i n) i + (if eN f i n i = true then 1 else 0) = _
  rw [cnt_congr (Q := ancN f i n) i (fun j hj => bool_ext (by
    rw [eN_iff, ancN_iff]
    constructor
    · rintro ⟨h1 | h1, h2⟩
      · omega
      · exact ⟨h1, h2⟩
    · rintro ⟨h1, h2⟩; exact ⟨.inr h1, h2⟩))]
  congr 1
  unfold one
  have : (eN f i n i = true) = ((decide ((f i).nd = n)) = true) := by
    rw [decide_eq_true_eq]
    exact propext ⟨fun h => (eN_iff.1 h).2, fun h => eN_iff.2 ⟨.inl rfl, h⟩⟩
  simp only [this]
/-- A fact's clock: how many of a node are ahead of it, it with them. -/
noncomputable def clk (f : Nat → Fc) (i n : Nat) : Nat := cnt (ancN f i n) i + one (decide ((f i).nd = n))
theorem clk_le (i n : Nat) : clk f i n ≤ i + 1 := by have := cnt_le (ancN f i n) i; unfold clk one; split <;> omega
theorem clk_up {i k n : Nat} (h : Anc f i k) : clk f k n ≤ cnt (ancN f i n) i := by
  unfold clk
  rw [← cnt_e k n i h.lt]
  refine cnt_mono i fun j _ hj => ?_
  obtain ⟨h1, h2⟩ := eN_iff.1 hj
  rw [ancN_iff]
  rcases h1 with rfl | h1
  · exact ⟨h, h2⟩
  · exact ⟨h.trans h1, h2⟩
theorem clk_down {i n : Nat} (h0 : 0 < cnt (ancN f i n) i) : ∃ k, k < i ∧ Pred (f i) (f k) ∧ cnt (ancN f i n) i ≤ clk f k n := by
  obtain ⟨m, h1, h2, h3⟩ := cnt_pos i h0
  obtain ⟨ha, hn⟩ := ancN_iff.1 h2
  obtain ⟨k, hk, hp, hm⟩ := ha.via
  refine ⟨k, hk, hp, ?_⟩
  unfold clk
  rw [← cnt_e k n i hk]
  refine cnt_mono i fun j hj hjn => ?_
  obtain ⟨ja, jn⟩ := ancN_iff.1 hjn
  rw [eN_iff]
  refine ⟨?_, jn⟩
  have hle := h3 j hj hjn
  rcases Nat.lt_or_ge j m with hlt | hge
  · have h5 : Anc f m j := .same hlt ha.ok.2 ja.ok.2 (by rw [jn, hn])
    rcases hm with rfl | hm
    · exact .inr h5
    · exact .inr (hm.trans h5)
  · have : j = m := by omega
    subst this
    exact hm
/-- The clocks' order is the facts'. -/
theorem clk_anc {i k : Nat} (h : Anc f i k) : (∀ n, clk f k n ≤ clk f i n) ∧ clk f k (f i).nd < clk f i (f i).nd := by
  refine ⟨fun n => ?_, ?_⟩
  · have := clk_up (n := n) h
    unfold clk at this ⊢
    omega
  · have := clk_up (n := (f i).nd) h
    unfold clk one at this ⊢
    simp
    simp at this
    omega
theorem clk_not {i k : Nat} (hk : k < i) (hi : (f i).ok = true) (ho : (f k).ok = true) (h : ¬ Anc f i k) : clk f i (f k).nd < clk f k (f k).nd := by
  have h1 : clk f i (f k).nd ≤ cnt (ancN f k (f k).nd) k := by
    unfold clk
    rw [← cnt_e i (f k).nd (i + 1) (by omega)]
    obtain ⟨d, hd⟩ : ∃ d, i + 1 = k + d := ⟨i + 1 - k, by omega⟩
    rw [hd]
    rw [cnt_far d (fun j hj => by
      cases he : eN f i (f k).nd j with
      | false => rfl
      | true =>
        exfalso
        obtain ⟨e1, e2⟩ := eN_iff.1 he
        rcases Nat.lt_or_ge k j with hkj | hkj
        · rcases e1 with rfl | e1
          · exact h (.same hk hi ho e2.symm)
          · exact h (e1.trans (.same hkj e1.ok.2 ho e2.symm))
        · have : j = k := by omega
          subst this
          rcases e1 with rfl | e1
          · omega
          · exact h e1)]
    refine cnt_mono k fun j hj he => ?_
    obtain ⟨e1, e2⟩ := eN_iff.1 he
    rw [ancN_iff]
    refine ⟨.same hj ho ?_ e2, e2⟩
    rcases e1 with rfl | e1
    · exact hi
    · exact e1.ok.2
  have h2 : clk f k (f k).nd = cnt (ancN f k (f k).nd) k + 1 := by unfold clk one; simp
  omega
theorem clk_own {i k : Nat} (hk : k < i) (hi : (f i).ok = true) (ho : (f k).ok = true) : clk f k (f i).nd < clk f i (f i).nd := by
  have h1 : clk f k (f i).nd ≤ cnt (ancN f i (f i).nd) i := by
    unfold clk
    rw [← cnt_e k (f i).nd i hk]
    refine cnt_mono i fun j hj he => ?_
    obtain ⟨e1, e2⟩ := eN_iff.1 he
    rw [ancN_iff]
    refine ⟨.same hj hi ?_ e2, e2⟩
    rcases e1 with rfl | e1
    · exact ho
    · exact e1.ok.2
  have h2 : clk f i (f i).nd = cnt (ancN f i (f i).nd) i + 1 := by unfold clk one; simp
  omega
end
/-- The greatest of some. -/
def IsSup (P : Nat → Prop) (g : Nat → Nat) (m : Nat) : Prop := (∀ k, P k → g k ≤ m) ∧ (m = 0 ∨ ∃ k, P k ∧ g k = m)
section
variable {P Q : Nat → Prop} {g : Nat → Nat} {m n : Nat}
theorem IsSup.none (h : ∀ k, ¬ P k) : IsSup P g 0 := ⟨fun k hk => absurd hk (h k), .inl rfl⟩
theorem IsSup.uniq (h : IsSup P g m) (h2 : IsSup P g n) : m = n := by
  obtain ⟨a1, a2⟩ := h
  obtain ⟨b1, b2⟩ := h2
  have h1 : m ≤ n := by
    rcases a2 with rfl | ⟨k, hk, rfl⟩
    · omega
    · exact b1 k hk
  have h2 : n ≤ m := by
    rcases b2 with rfl | ⟨k, hk, rfl⟩
    · omega
    · exact a1 k hk
  omega
theorem IsSup.or (h : IsSup P g m) (h2 : IsSup Q g n) : IsSup (fun k => P k ∨ Q k) g (max m n) := by
  refine ⟨fun k hk => ?_, ?_⟩
  · rcases hk with hk | hk
    · have := h.1 k hk; omega
    · have := h2.1 k hk; omega
  · rcases Nat.le_total m n with hmn | hmn
    · rw [Nat.max_eq_right hmn]
      rcases h2.2 with e | ⟨k, hk, e⟩
      · exact .inl e
      · exact .inr ⟨k, .inr hk, e⟩
    · rw [Nat.max_eq_left hmn]
      rcases h.2 with e | ⟨k, hk, e⟩
      · exact .inl e
      · exact .inr ⟨k, .inl hk, e⟩
theorem IsSup.congr (h : IsSup P g m) (hPQ : ∀ k, P k ↔ Q k) : IsSup Q g m :=
  ⟨fun k hk => h.1 k ((hPQ k).2 hk), h.2.elim .inl fun ⟨k, hk, e⟩ => .inr ⟨k, (hPQ k).1 hk, e⟩⟩
theorem IsSup.one (k : Nat) : IsSup (fun j => j = k) g (g k) := ⟨fun j hj => by rw [hj]; exact Nat.le_refl _, .inr ⟨k, rfl, rfl⟩⟩
end
theorem clk_sup {f : Nat → Fc} {i n m : Nat} (hi : (f i).ok = true) (h : IsSup (fun k => k < i ∧ Pred (f i) (f k)) (fun k => clk f k n) m) : clk f i n = m + one (decide ((f i).nd = n)) := by
  have h1 : cnt (ancN f i n) i = m := by
    apply Nat.le_antisymm
    · rcases Nat.eq_zero_or_pos (cnt (ancN f i n) i) with h0 | h0
      · omega
      · obtain ⟨k, h1, h2, h3⟩ := clk_down h0
        exact Nat.le_trans h3 (h.1 k ⟨h1, h2⟩)
    · rcases h.2 with rfl | ⟨k, ⟨h1, h2⟩, rfl⟩
      · omega
      · exact clk_up (.base h1 h2)
  unfold clk
  rw [h1]
/-- What the program holds: a clock of each node, two of each byte. -/
structure Bk where
  nd : Nat → Nat → Nat
  la : Nat → Nat → Nat
  to : Nat → Nat → Nat
def joinC (c d : Nat → Nat) : Nat → Nat := fun n => max (c n) (d n)
def gatherI (s : Bk) (x : Fc) : Nat → Nat → Nat
  | 0 => s.nd x.nd
  | i + 1 => if x.lays then joinC (joinC (gatherI s x i) (s.la (x.byte i))) (s.to (x.byte i)) else joinC (gatherI s x i) (s.la (x.byte i))
def clockF (s : Bk) (x : Fc) : Nat → Nat := fun n => gatherI s x x.sz n + one (decide (x.nd = n))
def updC (g : Nat → Nat → Nat) (b : Nat) (c : Nat → Nat) : Nat → Nat → Nat := fun j => if j = b then c else g j
def midS (s : Bk) (x : Fc) (c : Nat → Nat) : Nat → Bk
  | 0 => s
  | i + 1 => if x.lays then ⟨(midS s x c i).nd, updC (midS s x c i).la (x.byte i) c, updC (midS s x c i).to (x.byte i) (fun _ => 0)⟩
      else ⟨(midS s x c i).nd, (midS s x c i).la, updC (midS s x c i).to (x.byte i) (joinC ((midS s x c i).to (x.byte i)) c)⟩
def stepS (s : Bk) (x : Fc) : Bk := if x.ok then ⟨updC (midS s x (clockF s x) x.sz).nd x.nd (clockF s x), (midS s x (clockF s x) x.sz).la, (midS s x (clockF s x) x.sz).to⟩ else s
def startS : Bk := ⟨fun _ _ => 0, fun _ _ => 0, fun _ _ => 0⟩
def runS (f : Nat → Fc) : Nat → Bk
  | 0 => startS
  | i + 1 => stepS (runS f i) (f i)
/-- The clock that the program tells of a fact. -/
def tellC (f : Nat → Fc) (i : Nat) : Nat → Nat := if (f i).ok then clockF (runS f i) (f i) else fun _ => 0
theorem midS_nd (s : Bk) (x : Fc) (c : Nat → Nat) : ∀ i, (midS s x c i).nd = s.nd
  | 0 => rfl
  | i + 1 => by unfold midS; split <;> exact midS_nd s x c i
theorem midS_la (s : Bk) (x : Fc) (c : Nat → Nat) : ∀ (i : Nat), i ≤ 8 → ∀ b, ((x.lays = true ∧ ∃ j, j < i ∧ x.byte j = b) → (midS s x c i).la b = c) ∧ (¬ (x.lays = true ∧ ∃ j, j < i ∧ x.byte j = b) → (midS s x c i).la b = s.la b)
  | 0, _, b => ⟨fun ⟨_, j, h, _⟩ => by omega, fun _ => rfl⟩
  | i + 1, hi, b => by
    obtain ⟨h1, h2⟩ := midS_la s x c i (by omega) b
    unfold midS
    cases hl : x.lays with
    | false =>
      rw [if_neg (by simp)]
      exact ⟨fun h => by simp at h, fun _ => h2 (by simp [hl])⟩
    | true =>
      rw [if_pos rfl]
      show (_ → updC _ _ _ b = c) ∧ (_ → updC _ _ _ b = _)
      unfold updC
      by_cases e : b = x.byte i
      · rw [if_pos e]
        exact ⟨fun _ => rfl, fun h => absurd ⟨rfl, i, by omega, e.symm⟩ h⟩
      · rw [if_neg e]
        refine ⟨fun ⟨_, j, hj, hb⟩ => h1 ⟨hl, j, ?_, hb⟩, fun h => h2 (fun ⟨_, j, hj, hb⟩ => h ⟨rfl, j, by omega, hb⟩)⟩
        rcases Nat.lt_or_ge j i with h5 | h5
        · exact h5
        · have : j = i := by omega
          subst this
          exact absurd hb.symm e
theorem midS_to (s : Bk) (x : Fc) (c : Nat → Nat) : ∀ (i : Nat), i ≤ 8 → ∀ b, ((∃ j, j < i ∧ x.byte j = b) → (midS s x c i).to b = if x.lays then fun _ => 0 else joinC (s.to b) c) ∧ ((¬ ∃ j, j < i ∧ x.byte j = b) → (midS s x c i).to b = s.to b)
  | 0, _, b => ⟨fun ⟨j, h, _⟩ => by omega, fun _ => rfl⟩
  | i + 1, hi, b => by
    obtain ⟨h1, h2⟩ := midS_to s x c i (by omega) b
    have hnew : ¬ ∃ j, j < i ∧ x.byte j = x.byte i := fun ⟨j, hj, hb⟩ => by have := Fc.byte_inj (by omega) (by omega) hb; omega
    have hold : (∃ j, j < i + 1 ∧ x.byte j = b) → b ≠ x.byte i → ∃ j, j < i ∧ x.byte j = b := fun ⟨j, hj, hb⟩ hne => by
      refine ⟨j, ?_, hb⟩
      rcases Nat.lt_or_ge j i with h5 | h5
      · exact h5
      · have : j = i := by omega
        subst this
        exact absurd hb.symm hne
    unfold midS
    cases hl : x.lays with
    | false =>
      rw [if_neg (by simp)]
      show (_ → updC _ _ _ b = _) ∧ (_ → updC _ _ _ b = _)
      unfold updC
      rw [hl] at h1
      by_cases e : b = x.byte i
      · rw [if_pos e]
        subst e
        exact ⟨fun _ => by rw [h2 hnew]; simp, fun h => absurd ⟨i, by omega, rfl⟩ h⟩
      · rw [if_neg e]
        exact ⟨fun h => h1 (hold h e), fun h => h2 (fun ⟨j, hj, hb⟩ => h ⟨j, by omega, hb⟩)⟩
    | true =>
      rw [if_pos rfl]
      show (_ → updC _ _ _ b = _) ∧ (_ → updC _ _ _ b = _)
      unfold updC
      rw [hl] at h1
      by_cases e : b = x.byte i
      · rw [if_pos e]
        exact ⟨fun _ => by simp, fun h => absurd ⟨i, by omega, e.symm⟩ h⟩
      · rw [if_neg e]
        exact ⟨fun h => h1 (hold h e), fun h => h2 (fun ⟨j, hj, hb⟩ => h ⟨j, by omega, hb⟩)⟩
/-- What the clocks of a book are, behind i facts. -/
structure Inv (f : Nat → Fc) (i : Nat) (s : Bk) : Prop where
  nd : ∀ p n, IsSup (fun k => k < i ∧ (f k).ok = true ∧ (f k).nd = p) (fun k => clk f k n) (s.nd p n)
  la : ∀ b n, IsSup (fun k => k < i ∧ (f k).ok = true ∧ (f k).lays = true ∧ (f k).covers b) (fun k => clk f k n) (s.la b n)
  to : ∀ b n, IsSup (fun k => k < i ∧ (f k).ok = true ∧ (f k).covers b) (fun k => clk f k n) (max (s.la b n) (s.to b n))
theorem gather_sup {f : Nat → Fc} {i : Nat} {s : Bk} (h : Inv f i s) (x : Fc) (n : Nat) : ∀ j, IsSup (fun k => k < i ∧ (f k).ok = true ∧ ((f k).nd = x.nd ∨ ((x.lays = true ∨ (f k).lays = true) ∧ ∃ t, t < j ∧ (f k).covers (x.byte t)))) (fun k => clk f k n) (gatherI s x j n)
  | 0 => (h.nd x.nd n).congr fun k => by
    constructor
    · rintro ⟨a, b, c⟩; exact ⟨a, b, .inl c⟩
    · rintro ⟨a, b, c | ⟨_, t, ht, _⟩⟩
      · exact ⟨a, b, c⟩
      · omega
  | j + 1 => by
    have ih := gather_sup h x n j
    unfold gatherI
    have split : ∀ k, (∃ t, t < j + 1 ∧ (f k).covers (x.byte t)) ↔ (∃ t, t < j ∧ (f k).covers (x.byte t)) ∨ (f k).covers (x.byte j) := fun k => by
      constructor
      · rintro ⟨t, ht, hc⟩
        rcases Nat.lt_or_ge t j with h1 | h1
        · exact .inl ⟨t, h1, hc⟩
        · have : t = j := by omega
          subst this; exact .inr hc
      · rintro (⟨t, ht, hc⟩ | hc)
        · exact ⟨t, by omega, hc⟩
        · exact ⟨j, by omega, hc⟩
    cases hl : x.lays with
    | false =>
      rw [if_neg (by simp)]
      refine (ih.or (h.la (x.byte j) n)).congr fun k => ?_
      rw [split, hl]
      simp
      constructor
      · rintro (⟨a, b, c | ⟨c, d⟩⟩ | ⟨a, b, c, d⟩)
        · exact ⟨a, b, .inl c⟩
        · exact ⟨a, b, .inr ⟨c, .inl d⟩⟩
        · exact ⟨a, b, .inr ⟨c, .inr d⟩⟩
      · rintro ⟨a, b, c | ⟨c, d | d⟩⟩
        · exact .inl ⟨a, b, .inl c⟩
        · exact .inl ⟨a, b, .inr ⟨c, d⟩⟩
        · exact .inr ⟨a, b, c, d⟩
    | true =>
      rw [if_pos rfl]
      show IsSup _ _ (max (max _ _) _)
      rw [show ∀ a b c : Nat, max (max a b) c = max a (max b c) from fun a b c => by omega]
      refine (ih.or (h.to (x.byte j) n)).congr fun k => ?_
      rw [split, hl]
      simp
      constructor
      · rintro (⟨a, b, c | d⟩ | ⟨a, b, d⟩)
        · exact ⟨a, b, .inl c⟩
        · exact ⟨a, b, .inr (.inl d)⟩
        · exact ⟨a, b, .inr (.inr d)⟩
      · rintro ⟨a, b, c | d | d⟩
        · exact .inl ⟨a, b, .inl c⟩
        · exact .inl ⟨a, b, .inr d⟩
        · exact .inr ⟨a, b, d⟩
theorem clock_eq {f : Nat → Fc} {i : Nat} {s : Bk} (h : Inv f i s) (hi : (f i).ok = true) (n : Nat) : clockF s (f i) n = clk f i n := by
  have h1 := gather_sup h (f i) n (f i).sz
  rw [clk_sup hi (h1.congr fun k => ?_)]
  · rfl
  · unfold Pred Meets
    constructor
    · rintro ⟨a, b, c⟩
      refine ⟨a, hi, b, ?_⟩
      rcases c with c | ⟨c, t, ht, hc⟩
      · exact .inl (by rw [(Fc.ok_lt hi).2, (Fc.ok_lt b).2, c])
      · exact .inr ⟨c, _, ⟨t, ht, rfl⟩, hc⟩
    · rintro ⟨a, _, b, c⟩
      refine ⟨a, b, ?_⟩
      rcases c with c | ⟨c, y, ⟨t, ht, rfl⟩, hc⟩
      · exact .inl (by unfold Fc.nd; rw [c])
      · exact .inr ⟨c, t, ht, hc⟩
theorem Inv.start (f : Nat → Fc) : Inv f 0 startS := ⟨fun _ _ => .none fun k h => by omega, fun _ _ => .none fun k h => by omega, fun _ _ => .none fun k h => by omega⟩
theorem sup_new {f : Nat → Fc} {i n m : Nat} {R : Fc → Prop} (h : IsSup (fun k => k < i ∧ R (f k)) (fun k => clk f k n) m) (hm : m ≤ clk f i n) (hR : R (f i)) : IsSup (fun k => k < i + 1 ∧ R (f k)) (fun k => clk f k n) (clk f i n) := by
  have h1 := (h.or (IsSup.one (g := fun k => clk f k n) i))
  rw [Nat.max_eq_right hm] at h1
  refine h1.congr fun k => ?_
  constructor
  · rintro (⟨a, b⟩ | rfl)
    · exact ⟨by omega, b⟩
    · exact ⟨by omega, hR⟩
  · rintro ⟨a, b⟩
    rcases Nat.lt_or_ge k i with h2 | h2
    · exact .inl ⟨h2, b⟩
    · exact .inr (by omega)
theorem sup_old {f : Nat → Fc} {i n m : Nat} {R : Fc → Prop} (h : IsSup (fun k => k < i ∧ R (f k)) (fun k => clk f k n) m) (hR : ¬ R (f i)) : IsSup (fun k => k < i + 1 ∧ R (f k)) (fun k => clk f k n) m :=
  h.congr fun k => by
    constructor
    · rintro ⟨a, b⟩; exact ⟨by omega, b⟩
    · rintro ⟨a, b⟩
      refine ⟨?_, b⟩
      rcases Nat.lt_or_ge k i with h2 | h2
      · exact h2
      · have : k = i := by omega
        subst this
        exact absurd b hR
theorem sup_max {f : Nat → Fc} {i n m : Nat} {R : Fc → Prop} (h : IsSup (fun k => k < i ∧ R (f k)) (fun k => clk f k n) m) (hR : R (f i)) : IsSup (fun k => k < i + 1 ∧ R (f k)) (fun k => clk f k n) (max m (clk f i n)) := by
  refine (h.or (IsSup.one (g := fun k => clk f k n) i)).congr fun k => ?_
  constructor
  · rintro (⟨a, b⟩ | rfl)
    · exact ⟨by omega, b⟩
    · exact ⟨by omega, hR⟩
  · rintro ⟨a, b⟩
    rcases Nat.lt_or_ge k i with h2 | h2
    · exact .inl ⟨h2, b⟩
    · exact .inr (by omega)
theorem Inv.step {f : Nat → Fc} {i : Nat} {s : Bk} (h : Inv f i s) : Inv f (i + 1) (stepS s (f i)) := by
  unfold stepS
  cases hi : (f i).ok with
  | false =>
    rw [if_neg (by simp)]
    exact ⟨fun p n => sup_old (R := fun x => x.ok = true ∧ x.nd = p) (h.nd p n) (by simp [hi]), fun b n => sup_old (R := fun x => x.ok = true ∧ x.lays = true ∧ x.covers b) (h.la b n) (by simp [hi]),
      fun b n => sup_old (R := fun x => x.ok = true ∧ x.covers b) (h.to b n) (by simp [hi])⟩
  | true =>
    rw [if_pos rfl]
    have hc : clockF s (f i) = clk f i := funext fun n => clock_eq h hi n
    rw [hc]
    have hsz := Fc.sz_le (f i)
    have up : ∀ k n, k < i → Pred (f i) (f k) → clk f k n ≤ clk f i n := fun k n hk hp => (clk_anc (.base hk hp)).1 n
    have le_of : ∀ {R : Nat → Prop} {m n : Nat}, IsSup R (fun k => clk f k n) m → (∀ k, R k → k < i ∧ Pred (f i) (f k)) → m ≤ clk f i n := fun {R m n} hs hp => by
      rcases hs.2 with rfl | ⟨k, hk, rfl⟩
      · omega
      · exact up k n (hp k hk).1 (hp k hk).2
    refine ⟨fun p n => ?_, fun b n => ?_, fun b n => ?_⟩
    · show IsSup _ _ (updC _ _ _ p n)
      unfold updC
      rw [midS_nd]
      by_cases e : p = (f i).nd
      · rw [if_pos e]
        refine sup_new (R := fun x => x.ok = true ∧ x.nd = p) (h.nd p n) (le_of (h.nd p n) fun k ⟨h1, h2, h3⟩ => ⟨h1, hi, h2, .inl ?_⟩) ⟨hi, e.symm⟩
        rw [(Fc.ok_lt hi).2, (Fc.ok_lt h2).2, h3, e]
      · rw [if_neg e]
        exact sup_old (R := fun x => x.ok = true ∧ x.nd = p) (h.nd p n) (fun h2 => e h2.2.symm)
    · obtain ⟨l1, l2⟩ := midS_la s (f i) (clk f i) (f i).sz hsz b
      show IsSup _ _ ((midS s (f i) (clk f i) (f i).sz).la b n)
      by_cases e : (f i).lays = true ∧ (f i).covers b
      · rw [l1 e]
        exact sup_new (R := fun x => x.ok = true ∧ x.lays = true ∧ x.covers b) (h.la b n) (le_of (h.la b n) fun k ⟨h1, h2, h3, h4⟩ => ⟨h1, hi, h2, .inr ⟨.inl e.1, b, e.2, h4⟩⟩) ⟨hi, e⟩
      · rw [l2 e]
        exact sup_old (R := fun x => x.ok = true ∧ x.lays = true ∧ x.covers b) (h.la b n) (fun h2 => e h2.2)
    · obtain ⟨l1, l2⟩ := midS_la s (f i) (clk f i) (f i).sz hsz b
      obtain ⟨t1, t2⟩ := midS_to s (f i) (clk f i) (f i).sz hsz b
      show IsSup _ _ (max ((midS s (f i) (clk f i) (f i).sz).la b n) ((midS s (f i) (clk f i) (f i).sz).to b n))
      by_cases e : (f i).covers b
      · rw [t1 e]
        cases hl : (f i).lays with
        | true =>
          rw [l1 ⟨hl, e⟩, if_pos rfl]
          show IsSup _ _ (max (clk f i n) 0)
          rw [Nat.max_zero]
          exact sup_new (R := fun x => x.ok = true ∧ x.covers b) (h.to b n) (le_of (h.to b n) fun k ⟨h1, h2, h3⟩ => ⟨h1, hi, h2, .inr ⟨.inl hl, b, e, h3⟩⟩) ⟨hi, e⟩
        | false =>
          rw [l2 (by simp [hl]), if_neg (by simp)]
          show IsSup _ _ (max (s.la b n) (max (s.to b n) (clk f i n)))
          rw [← Nat.max_assoc]
          exact sup_max (R := fun x => x.ok = true ∧ x.covers b) (h.to b n) ⟨hi, e⟩
      · rw [t2 e, l2 (fun h => e h.2)]
        exact sup_old (R := fun x => x.ok = true ∧ x.covers b) (h.to b n) (fun h2 => e h2.2)
theorem run_inv (f : Nat → Fc) : ∀ i, Inv f i (runS f i)
  | 0 => Inv.start f
  | i + 1 => (run_inv f i).step
/-- What the program tells: how many are ahead. -/
theorem tell_clk {f : Nat → Fc} {i : Nat} (hi : (f i).ok = true) : tellC f i = clk f i := by
  unfold tellC
  rw [if_pos hi]
  exact funext fun n => clock_eq (run_inv f i) hi n
end Go.Proofs.YtocjapnagggapaaDoor
