/- Merged texts: TabK, TabL, TabM, TabN, TabO. -/
import Derived.Test.YtophcgbddccpeaaGreatSk7
/- Plain laws: the memory's tables stand for pages and tables; what is found. -/
namespace Go.Proofs.YtophcgbddccpeaaGreat
open Go.RowKit

structure Tb where
  lev : Nat
  va : Nat
  fr : Nat
def tabF (root : Nat) (T : List Tb) (va l : Nat) : Option Nat := if l = 2 then some root else (T.find? (fun b => b.lev == l && b.va == baseN va (l + 1))).map (·.fr)
def pageP (L : List Mp) (va l : Nat) : Option Mp := L.find? (fun m => m.lev == l && m.va == baseN va l)
def entW (root : Nat) (L : List Mp) (T : List Tb) (va l : Nat) : Nat :=
  match pageP L va l with
  | some m => m.p.word
  | none => if l = 0 then 0 else match tabF root T va (l - 1) with
    | some f => leadW f
    | none => 0
structure Inv (c : TC) (σ : TS) (L : List Mp) (T : List Tb) : Prop where
  full : Full σ.S
  n : c.n ≤ 1048576
  root : c.root < c.n
  tab : ∀ b ∈ T, b.lev ≤ 1 ∧ b.fr < c.n ∧ b.fr ≠ c.root ∧ b.va < 18446744073709551616 ∧ canonB b.va = true ∧ baseN b.va (b.lev + 1) = b.va
  rfresh : c.root < c.first + σ.k
  fresh : ∀ b ∈ T, b.fr < c.first + σ.k
  inj : ∀ b ∈ T, ∀ b' ∈ T, b.fr = b'.fr → b.lev = b'.lev ∧ b.va = b'.va
  up : ∀ b ∈ T, b.lev = 0 → ∃ f, tabF c.root T b.va 1 = some f
  pg : ∀ m ∈ L, m.lev ≤ 2 ∧ m.va < 18446744073709551616 ∧ canonB m.va = true ∧ baseN m.va m.lev = m.va ∧ mayB m.p (m.lev : Int) = true ∧ PteWf m.p
  has : ∀ m ∈ L, ∃ t, tabF c.root T m.va m.lev = some t
  excl : ∀ m ∈ L, m.lev ≠ 0 → tabF c.root T m.va (m.lev - 1) = none
  pkey : L.Pairwise (fun a b => ¬ (a.lev = b.lev ∧ a.va = b.va))
  wd : ∀ va l t, va < 18446744073709551616 → canonB va = true → l ≤ 2 → tabF c.root T va l = some t → wdX c.n σ.S t (indexV va (l : Int)) = entW c.root L T va l
theorem page_some {L : List Mp} {va l : Nat} {m : Mp} (h : pageP L va l = some m) : m ∈ L ∧ m.lev = l ∧ m.va = baseN va l := by
  have h2 := List.find?_some h
  simp only [Bool.and_eq_true, beq_iff_eq] at h2
  exact ⟨List.mem_of_find?_eq_some h, h2.1, h2.2⟩
theorem page_none {L : List Mp} {va l : Nat} (h : pageP L va l = none) : ∀ m ∈ L, ¬ (m.lev = l ∧ m.va = baseN va l) := by
  intro m hm hh
  have h2 := List.find?_eq_none.1 h m hm
  simp only [Bool.and_eq_true, beq_iff_eq] at h2
  exact h2 hh
theorem tab_some {root : Nat} {T : List Tb} {va l f : Nat} (hl : l ≠ 2) (h : tabF root T va l = some f) : ∃ b ∈ T, b.lev = l ∧ b.va = baseN va (l + 1) ∧ b.fr = f := by
  unfold tabF at h
  rw [if_neg hl] at h
  obtain ⟨b, hb, rfl⟩ := Option.map_eq_some_iff.1 h
  have h2 := List.find?_some hb
  simp only [Bool.and_eq_true, beq_iff_eq] at h2
  exact ⟨b, List.mem_of_find?_eq_some hb, h2.1, h2.2, rfl⟩
theorem tab_none {root : Nat} {T : List Tb} {va l : Nat} (h : tabF root T va l = none) : l ≠ 2 ∧ ∀ b ∈ T, ¬ (b.lev = l ∧ b.va = baseN va (l + 1)) := by
  unfold tabF at h
  split at h
  · cases h
  · rename_i hl
    refine ⟨hl, fun b hb hh => ?_⟩
    have h2 := List.find?_eq_none.1 (Option.map_eq_none_iff.1 h) b hb
    simp only [Bool.and_eq_true, beq_iff_eq] at h2
    exact h2 hh
theorem tab_mem {root : Nat} {T : List Tb} {b : Tb} {va : Nat} (hb : b ∈ T) (hl : b.lev ≤ 1) (hv : b.va = baseN va (b.lev + 1)) : ∃ f, tabF root T va b.lev = some f := by
  cases h : tabF root T va b.lev with
  | some f => exact ⟨f, rfl⟩
  | none => exact absurd ⟨rfl, hv⟩ ((tab_none h).2 b hb)
theorem tab_congr {root : Nat} {T : List Tb} {va vb l : Nat} (h : l = 2 ∨ baseN va (l + 1) = baseN vb (l + 1)) : tabF root T va l = tabF root T vb l := by
  unfold tabF
  rcases h with h | h
  · rw [if_pos h, if_pos h]
  · rw [h]
theorem page_congr {L : List Mp} {va vb l : Nat} (h : baseN va l = baseN vb l) : pageP L va l = pageP L vb l := by unfold pageP; rw [h]
/-- A table is one alone. -/
theorem Inv.one {c : TC} {σ : TS} {L : List Mp} {T : List Tb} (h : Inv c σ L T) {va vb l l' t : Nat} (hl : l ≤ 2) (hl' : l' ≤ 2) (h1 : tabF c.root T va l = some t) (h2 : tabF c.root T vb l' = some t) : l = l' ∧ (l = 2 ∨ baseN va (l + 1) = baseN vb (l + 1)) := by
  by_cases e : l = 2
  · subst e
    by_cases e' : l' = 2
    · exact ⟨e'.symm, .inl rfl⟩
    · obtain ⟨b, hb, _, _, hf⟩ := tab_some e' h2
      unfold tabF at h1
      rw [if_pos rfl] at h1
      injection h1 with h1
      exact absurd (hf.trans h1.symm) (h.tab b hb).2.2.1
  · obtain ⟨b, hb, hbl, hbv, hf⟩ := tab_some e h1
    by_cases e' : l' = 2
    · subst e'
      unfold tabF at h2
      rw [if_pos rfl] at h2
      injection h2 with h2
      exact absurd (hf.trans h2.symm) (h.tab b hb).2.2.1
    · obtain ⟨b', hb', hbl', hbv', hf'⟩ := tab_some e' h2
      obtain ⟨h3, h4⟩ := h.inj b hb b' hb' (hf.trans hf'.symm)
      have h5 : l = l' := by omega
      subst h5
      exact ⟨rfl, .inr (by rw [← hbv, ← hbv', h4])⟩
theorem Inv.frame {c : TC} {σ : TS} {L : List Mp} {T : List Tb} (h : Inv c σ L T) {va l t : Nat} (h1 : tabF c.root T va l = some t) : t < c.n ∧ t < c.first + σ.k := by
  by_cases e : l = 2
  · unfold tabF at h1
    rw [if_pos e] at h1
    injection h1 with h1
    subst h1
    exact ⟨h.root, h.rfresh⟩
  · obtain ⟨b, hb, _, _, rfl⟩ := tab_some e h1
    exact ⟨(h.tab b hb).2.1, h.fresh b hb⟩
/-- The word of an entry says what the entry is. -/
theorem word_bits (p : Pte) : bitB p.word 0 = p.v ∧ bitB p.word 1 = p.r ∧ bitB p.word 2 = p.w ∧ bitB p.word 3 = p.x ∧ ppnX p.word = p.ppn.toNat % 17592186044416 := by
  have h := ent_put p
  unfold entP Pte.norm at h
  simp only [Pte.mk.injEq] at h
  obtain ⟨h0, h1, h2, h3, _, _, _, _, _, h9⟩ := h
  refine ⟨h0, h1, h2, h3, ?_⟩
  unfold ppnX
  exact Int.ofNat.inj h9
theorem word_lt (p : Pte) : p.word < 18014398509481984 := by
  have h0 := bt_le p.v
  have h1 := bt_le p.r
  have h2 := bt_le p.w
  have h3 := bt_le p.x
  have h4 := bt_le p.u
  have h5 := bt_le p.g
  have h6 := bt_le p.a
  have h7 := bt_le p.d
  unfold Pte.word putV
  omega
theorem may_word {p : Pte} {l : Nat} (h : mayB p (l : Int) = true) (hw : PteWf p) : goodX p.word = true ∧ leafX p.word = true ∧ evenB (ppnX p.word) l = true ∧ entP p.word = p ∧ p.word ≠ 0 := by
  unfold mayB at h
  simp only [Bool.and_eq_true] at h
  obtain ⟨hl, hf, hr, hlf, hlo⟩ := h
  obtain ⟨b0, b1, b2, b3, b9⟩ := word_bits p
  have hlt := word_lt p
  have hpp := u64_of_wf hw.2
  have hn := (norm_fits p hpp.1).2 hf
  have hff : p.ppn < 17592186044416 := by
    unfold Pte.fits at hf
    simp only [Bool.and_eq_true, decide_eq_true_eq] at hf
    exact hf.2.2
  refine ⟨?_, ?_, ?_, (ent_put p).trans hn, ?_⟩
  · unfold goodX
    rw [b0, b1, b2, Nat.div_eq_of_lt hlt]
    exact hr
  · unfold leafX
    rw [b1, b3]
    exact hlf
  · unfold evenB
    rw [b9, Nat.mod_eq_of_lt (show p.ppn.toNat < 17592186044416 by omega)]
    unfold lowB at hlo
    have e : (9 * (l : Int)).toNat = 9 * l := by omega
    rw [e] at hlo
    simpa using hlo
  · intro h0
    have : bitB p.word 0 = false := by rw [h0]; rfl
    rw [b0] at this
    unfold Pte.right at hr
    rw [this] at hr
    cases hr
theorem lead_word {f : Nat} (hf : f < 1048576) : goodX (leadW f) = true ∧ leafX (leadW f) = false ∧ (∀ l, 0 < l → leadX (leadW f) l = true) ∧ ppnX (leadW f) = f ∧ leadW f ≠ 0 ∧ leadW f < 18446744073709551616 := by
  rw [leadW_eq f (by omega)]
  have b0 : bitB (1 + 1024 * f) 0 = true := by unfold bitB; rw [show (1 + 1024 * f) / 2 ^ 0 % 2 = 1 by omega]; rfl
  have b1 : bitB (1 + 1024 * f) 1 = false := by unfold bitB; rw [show (1 + 1024 * f) / 2 ^ 1 % 2 = 0 by omega]; rfl
  have b2 : bitB (1 + 1024 * f) 2 = false := by unfold bitB; rw [show (1 + 1024 * f) / 2 ^ 2 % 2 = 0 by omega]; rfl
  have b3 : bitB (1 + 1024 * f) 3 = false := by unfold bitB; rw [show (1 + 1024 * f) / 2 ^ 3 % 2 = 0 by omega]; rfl
  have b4 : bitB (1 + 1024 * f) 4 = false := by unfold bitB; rw [show (1 + 1024 * f) / 2 ^ 4 % 2 = 0 by omega]; rfl
  have b6 : bitB (1 + 1024 * f) 6 = false := by unfold bitB; rw [show (1 + 1024 * f) / 2 ^ 6 % 2 = 0 by omega]; rfl
  have b7 : bitB (1 + 1024 * f) 7 = false := by unfold bitB; rw [show (1 + 1024 * f) / 2 ^ 7 % 2 = 0 by omega]; rfl
  refine ⟨?_, ?_, fun l hl => ?_, ?_, by omega, by omega⟩
  · unfold goodX; rw [b0, b1, b2, show (1 + 1024 * f) / 18014398509481984 = 0 by omega]; rfl
  · unfold leafX; rw [b1, b3]; rfl
  · unfold leadX; rw [b4, b6, b7, decide_eq_true hl]; rfl
  · unfold ppnX; omega
end Go.Proofs.YtophcgbddccpeaaGreat

/- Plain laws: what is found is what is mapped. -/
namespace Go.Proofs.YtophcgbddccpeaaGreat
open Go.RowKit

def holdsP (L : List Mp) (va : Nat) : Option Mp :=
  match pageP L va 0 with
  | some m => some m
  | none => match pageP L va 1 with
    | some m => some m
    | none => pageP L va 2
section
variable {c : TC} {σ : TS} {L : List Mp} {T : List Tb}
theorem Inv.word (h : Inv c σ L T) {va l t : Nat} (hv : va < 18446744073709551616) (hc : canonB va = true) (hl : l ≤ 2) (ht : tabF c.root T va l = some t) : chkE c.n (atX va t l) 8 = 0 ∧ ldR c.n σ.S (atX va t l) 8 = entW c.root L T va l := by
  have hf := (h.frame ht).1
  have hn := h.n
  have hi := idx_lt va l
  rw [at_eq' (by omega)]
  exact ⟨chk8_of (by omega) (by omega), h.wd va l t hv hc hl ht⟩
theorem Inv.step_page (h : Inv c σ L T) {va l t : Nat} {m : Mp} {k : Fd} (hv : va < 18446744073709551616) (hc : canonB va = true) (hl : l ≤ 2) (ht : tabF c.root T va l = some t) (hp : pageP L va l = some m) : fdAt c.n σ.S va l t k = .leaf m.p.word l (atX va t l) := by
  obtain ⟨h1, h2⟩ := h.word hv hc hl ht
  obtain ⟨hm, hml, _⟩ := page_some hp
  obtain ⟨_, _, _, _, hmay, hwf⟩ := h.pg m hm
  rw [hml] at hmay
  obtain ⟨g1, g2, g3, _, _⟩ := may_word hmay hwf
  have e : entW c.root L T va l = m.p.word := by unfold entW; rw [hp]
  unfold fdAt
  rw [if_pos h1, h2, e, g1, if_pos rfl, g2, if_pos rfl, g3, if_pos rfl]
theorem Inv.step_none (h : Inv c σ L T) {va l t : Nat} {k : Fd} (hv : va < 18446744073709551616) (hc : canonB va = true) (hl : l ≤ 2) (ht : tabF c.root T va l = some t) (hp : pageP L va l = none) (hn : l = 0 ∨ tabF c.root T va (l - 1) = none) : fdAt c.n σ.S va l t k = .err 51 := by
  obtain ⟨h1, h2⟩ := h.word hv hc hl ht
  have e : entW c.root L T va l = 0 := by
    unfold entW
    rw [hp]
    simp only
    split
    · rfl
    · rename_i h0
      rcases hn with hn | hn
      · exact absurd hn h0
      · rw [hn]
  unfold fdAt
  rw [if_pos h1, h2, e]
  rfl
theorem Inv.step_down (h : Inv c σ L T) {va l t f : Nat} {k : Fd} (hv : va < 18446744073709551616) (hc : canonB va = true) (hl : l ≤ 2) (h0 : 0 < l) (ht : tabF c.root T va l = some t) (hp : pageP L va l = none) (hf : tabF c.root T va (l - 1) = some f) :
    fdAt c.n σ.S va l t k = k ∧ ppnX (ldR c.n σ.S (atX va t l) 8) = f := by
  obtain ⟨h1, h2⟩ := h.word hv hc hl ht
  have hfn := (h.frame hf).1
  have hn := h.n
  obtain ⟨g1, g2, g3, g4, _, _⟩ := lead_word (f := f) (by omega)
  have e : entW c.root L T va l = leadW f := by
    unfold entW
    rw [hp]
    simp only
    rw [if_neg (by omega), hf]
  refine ⟨?_, by rw [h2, e, g4]⟩
  unfold fdAt
  rw [if_pos h1, h2, e, g1, if_pos rfl, g2, if_neg (by decide), g3 l h0, if_pos rfl]
theorem tab_top (root : Nat) (T : List Tb) (va : Nat) : tabF root T va 2 = some root := by unfold tabF; rw [if_pos rfl]
/-- Where a page is, no table is below it; where a table is, one is above it. -/
theorem Inv.below_page (h : Inv c σ L T) {va l : Nat} {m : Mp} (hp : pageP L va l = some m) (h0 : l ≠ 0) : tabF c.root T va (l - 1) = none := by
  obtain ⟨hm, hml, hmv⟩ := page_some hp
  have he := h.excl m hm (by omega)
  rw [hml] at he
  rw [← he]
  refine tab_congr (.inr ?_)
  obtain ⟨_, _, _, hb, _, _⟩ := h.pg m hm
  rw [show l - 1 + 1 = l by omega, hmv, ← hmv, ← hml, hb]
theorem Inv.above (h : Inv c σ L T) {va f : Nat} (h0 : tabF c.root T va 0 = some f) : ∃ g, tabF c.root T va 1 = some g := by
  obtain ⟨b, hb, hbl, hbv, _⟩ := tab_some (by decide) h0
  obtain ⟨g, hg⟩ := h.up b hb hbl
  refine ⟨g, ?_⟩
  rw [← hg]
  refine tab_congr (.inr ?_)
  rw [hbv, show (0 + 1 : Nat) = 1 from rfl, show (1 + 1 : Nat) = 2 from rfl, base_base (by decide) (by decide)]
theorem Inv.page_tab (h : Inv c σ L T) {va l : Nat} {m : Mp} (hp : pageP L va l = some m) (hl : l ≤ 2) : ∃ t, tabF c.root T va l = some t := by
  obtain ⟨hm, hml, hmv⟩ := page_some hp
  obtain ⟨t, ht⟩ := h.has m hm
  rw [hml] at ht
  refine ⟨t, ?_⟩
  rw [← ht]
  by_cases e : l = 2
  · exact tab_congr (.inl e)
  · refine tab_congr (.inr ?_)
    rw [hmv, base_base (by omega) (by omega)]
theorem find_some (h : Inv c σ L T) {va : Nat} {m : Mp} (hv : va < 18446744073709551616) (hc : canonB va = true) (hm : holdsP L va = some m) :
    ∃ t, tabF c.root T va m.lev = some t ∧ m.lev ≤ 2 ∧ pageP L va m.lev = some m ∧ findT c σ va = .leaf m.p.word m.lev (atX va t m.lev) := by
  have hff : findT c σ va = findF c.n σ.S va 2 c.root := by unfold findT findW; rw [if_pos rfl, if_pos hc]
  have ht2 := tab_top c.root T va
  unfold holdsP at hm
  rw [hff]
  split at hm
  · rename_i m' h0
    injection hm with hm
    subst hm
    obtain ⟨_, hml, _⟩ := page_some h0
    obtain ⟨t0, ht0⟩ := h.page_tab h0 (by decide)
    obtain ⟨t1, ht1⟩ := h.above ht0
    have p2 : pageP L va 2 = none := by
      cases e : pageP L va 2 with
      | none => rfl
      | some m2 => have := h.below_page e (by decide); rw [show 2 - 1 = 1 from rfl, ht1] at this; cases this
    have p1 : pageP L va 1 = none := by
      cases e : pageP L va 1 with
      | none => rfl
      | some m2 => have := h.below_page e (by decide); rw [show 1 - 1 = 0 from rfl, ht0] at this; cases this
    refine ⟨t0, by rw [hml]; exact ht0, by omega, by rw [hml]; exact h0, ?_⟩
    obtain ⟨d1, d2⟩ := h.step_down (l := 2) (k := findF c.n σ.S va 1 (ppnX (ldR c.n σ.S (atX va c.root 2) 8))) hv hc (by decide) (by decide) ht2 p2 ht1
    obtain ⟨e1, e2⟩ := h.step_down (l := 1) (k := findF c.n σ.S va 0 (ppnX (ldR c.n σ.S (atX va t1 1) 8))) hv hc (by decide) (by decide) ht1 p1 ht0
    rw [findF, show 1 + 1 = 2 from rfl, d1, d2, findF, show 0 + 1 = 1 from rfl, e1, e2, findF, h.step_page hv hc (by decide) ht0 h0, hml]
  · rename_i h0
    split at hm
    · rename_i m' h1
      injection hm with hm
      subst hm
      obtain ⟨_, hml, _⟩ := page_some h1
      obtain ⟨t1, ht1⟩ := h.page_tab h1 (by decide)
      have p2 : pageP L va 2 = none := by
        cases e : pageP L va 2 with
        | none => rfl
        | some m2 => have := h.below_page e (by decide); rw [show 2 - 1 = 1 from rfl, ht1] at this; cases this
      refine ⟨t1, by rw [hml]; exact ht1, by omega, by rw [hml]; exact h1, ?_⟩
      obtain ⟨d1, d2⟩ := h.step_down (l := 2) (k := findF c.n σ.S va 1 (ppnX (ldR c.n σ.S (atX va c.root 2) 8))) hv hc (by decide) (by decide) ht2 p2 ht1
      rw [findF, show 1 + 1 = 2 from rfl, d1, d2, findF, show 0 + 1 = 1 from rfl, h.step_page hv hc (by decide) ht1 h1, hml]
    · obtain ⟨_, hml, _⟩ := page_some hm
      refine ⟨c.root, by rw [hml]; exact ht2, by omega, by rw [hml]; exact hm, ?_⟩
      rw [findF, show 1 + 1 = 2 from rfl, h.step_page hv hc (by decide) ht2 hm, hml]
theorem tab_find_none (h : Inv c σ L T) {va : Nat} (hv : va < 18446744073709551616) (hm : canonB va = false ∨ holdsP L va = none) : findT c σ va = .err 51 := by
  cases hc : canonB va with
  | false => unfold findT findW; rw [if_pos rfl, if_neg (by rw [hc]; decide)]
  | true =>
    rw [hc] at hm
    have hm := hm.resolve_left (by decide)
    have hff : findT c σ va = findF c.n σ.S va 2 c.root := by unfold findT findW; rw [if_pos rfl, if_pos hc]
    have ht2 := tab_top c.root T va
    unfold holdsP at hm
    rw [hff]
    split at hm
    · cases hm
    · rename_i h0
      split at hm
      · cases hm
      · rename_i h1
        cases ht1 : tabF c.root T va 1 with
        | none => rw [findF, show 1 + 1 = 2 from rfl, h.step_none hv hc (by decide) ht2 hm (.inr ht1)]
        | some t1 =>
          obtain ⟨d1, d2⟩ := h.step_down (l := 2) (k := findF c.n σ.S va 1 (ppnX (ldR c.n σ.S (atX va c.root 2) 8))) hv hc (by decide) (by decide) ht2 hm ht1
          rw [findF, show 1 + 1 = 2 from rfl, d1, d2]
          cases ht0 : tabF c.root T va 0 with
          | none => rw [findF, show 0 + 1 = 1 from rfl, h.step_none hv hc (by decide) ht1 h1 (.inr ht0)]
          | some t0 =>
            obtain ⟨e1, e2⟩ := h.step_down (l := 1) (k := findF c.n σ.S va 0 (ppnX (ldR c.n σ.S (atX va t1 1) 8))) hv hc (by decide) (by decide) ht1 h1 ht0
            rw [findF, show 0 + 1 = 1 from rfl, e1, e2, findF, h.step_none hv hc (by decide) ht0 h0 (.inl rfl)]
end
end Go.Proofs.YtophcgbddccpeaaGreat

/- Plain laws: an entry is written; pages come and go, a table is laid. -/
namespace Go.Proofs.YtophcgbddccpeaaGreat
open Go.RowKit

abbrev PKey (L : List Mp) : Prop := L.Pairwise (fun a b => ¬ (a.lev = b.lev ∧ a.va = b.va))
theorem pkey_uniq : ∀ {L : List Mp}, PKey L → ∀ {a b : Mp}, a ∈ L → b ∈ L → a.lev = b.lev → a.va = b.va → a = b
  | [], _, _, _, ha, _, _, _ => by cases ha
  | x :: L, h, a, b, ha, hb, h1, h2 => by
    obtain ⟨hx, hr⟩ := List.pairwise_cons.1 h
    rcases List.mem_cons.1 ha with e | ha' <;> rcases List.mem_cons.1 hb with e' | hb'
    · rw [e, e']
    · rw [e] at h1 h2; exact absurd ⟨h1, h2⟩ (hx b hb')
    · rw [e'] at h1 h2; exact absurd ⟨h1.symm, h2.symm⟩ (hx a ha')
    · exact pkey_uniq hr ha' hb' h1 h2
theorem page_iff {L : List Mp} (h : PKey L) {va l : Nat} {m : Mp} : pageP L va l = some m ↔ (m ∈ L ∧ m.lev = l ∧ m.va = baseN va l) := by
  refine ⟨page_some, fun ⟨h1, h2, h3⟩ => ?_⟩
  cases e : pageP L va l with
  | none => exact absurd ⟨h2, h3⟩ (page_none e m h1)
  | some m' =>
    obtain ⟨g1, g2, g3⟩ := page_some e
    rw [pkey_uniq h g1 h1 (by omega) (by omega)]
section
variable {c : TC} {σ : TS} {L : List Mp} {T : List Tb}
theorem Inv.entry (h : Inv c σ L T) {S : Nat → List Nat} (hfull : Full S) {va l t w : Nat} (hv : va < 18446744073709551616) (hc : canonB va = true) (hl : l ≤ 2) (ht : tabF c.root T va l = some t) (hw : w < 18446744073709551616)
    {vb l' t' : Nat} (hvb : vb < 18446744073709551616) (hcb : canonB vb = true) (hl' : l' ≤ 2) (ht' : tabF c.root T vb l' = some t') :
    wdX c.n (stR c.n S (atX va t l) 8 w) t' (indexV vb (l' : Int)) = if l' = l ∧ baseN vb l = baseN va l then w else wdX c.n S t' (indexV vb (l' : Int)) := by
  have hf := (h.frame ht).1
  have hn := h.n
  rw [at_eq' (by omega), wd_store hfull hf (idx_lt va l) (idx_lt vb l') hw]
  have e : (t' = t ∧ indexV vb (l' : Int) = indexV va (l : Int)) ↔ (l' = l ∧ baseN vb l = baseN va l) := by
    constructor
    · rintro ⟨rfl, hi⟩
      obtain ⟨rfl, h1⟩ := h.one hl hl' ht ht'
      refine ⟨rfl, ?_⟩
      rcases h1 with h1 | h1
      · subst h1
        exact (base_top hvb hv hcb hc).2 hi
      · by_cases e2 : l = 2
        · subst e2
          exact (base_top hvb hv hcb hc).2 hi
        · exact (base_up (by omega)).2 ⟨h1.symm, hi⟩
    · rintro ⟨rfl, hb⟩
      have hi : indexV vb (l' : Int) = indexV va (l' : Int) := by
        rw [← base_idx hl, hb, base_idx hl]
      refine ⟨?_, hi⟩
      have hcg : tabF c.root T vb l' = tabF c.root T va l' := by
        by_cases e2 : l' = 2
        · exact tab_congr (.inl e2)
        · exact tab_congr (.inr ((base_up (by omega)).1 hb).1)
      rw [hcg, ht] at ht'
      injection ht' with ht'
      exact ht'.symm
  by_cases hh : t' = t ∧ indexV vb (l' : Int) = indexV va (l : Int)
  · rw [if_pos hh, if_pos (e.1 hh)]
  · rw [if_neg hh, if_neg (fun x => hh (e.2 x))]
/-- Pages are others, tables are the same: an entry's word is written. -/
theorem Inv.pages (h : Inv c σ L T) {va l t w : Nat} (hv : va < 18446744073709551616) (hc : canonB va = true) (hl : l ≤ 2) (ht : tabF c.root T va l = some t) (hw : w < 18446744073709551616) {L' : List Mp} {u : Nat}
    (hpg : ∀ m ∈ L', m.lev ≤ 2 ∧ m.va < 18446744073709551616 ∧ canonB m.va = true ∧ baseN m.va m.lev = m.va ∧ mayB m.p (m.lev : Int) = true ∧ PteWf m.p)
    (hhas : ∀ m ∈ L', ∃ t, tabF c.root T m.va m.lev = some t) (hex : ∀ m ∈ L', m.lev ≠ 0 → tabF c.root T m.va (m.lev - 1) = none) (hkey : PKey L')
    (hsame : ∀ vb l', l' ≤ 2 → ¬ (l' = l ∧ baseN vb l = baseN va l) → pageP L' vb l' = pageP L vb l') (hnew : entW c.root L' T va l = w) : Inv c ⟨stR c.n σ.S (atX va t l) 8 w, σ.k, u⟩ L' T :=
  { full := h.full.store _ _ _ _, n := h.n, root := h.root, tab := h.tab, rfresh := h.rfresh, fresh := h.fresh, inj := h.inj, up := h.up, pg := hpg, has := hhas, excl := hex, pkey := hkey
    wd := fun vb l' t' hvb hcb hl' ht' => by
      show wdX c.n (stR c.n σ.S (atX va t l) 8 w) t' (indexV vb (l' : Int)) = _
      rw [h.entry h.full hv hc hl ht hw hvb hcb hl' ht']
      split
      · rename_i hh
        obtain ⟨rfl, hb⟩ := hh
        rw [← hnew]
        unfold entW
        rw [page_congr hb]
        split
        · rfl
        · split
          · rfl
          · rename_i h0
            rw [tab_congr (va := vb) (vb := va) (.inr (by rw [show l' - 1 + 1 = l' by omega]; exact hb))]
      · rename_i hh
        rw [h.wd vb l' t' hvb hcb hl' ht']
        unfold entW
        rw [hsame vb l' hl' hh] }
theorem may_lt (p : Pte) : p.word < 18446744073709551616 := Nat.lt_trans (word_lt p) (by decide)
theorem base_lt {va l : Nat} (hv : va < 18446744073709551616) : baseN va l < 18446744073709551616 := Nat.lt_of_le_of_lt (base_le va l) hv
/-- A page comes. -/
theorem Inv.add (h : Inv c σ L T) {va l t : Nat} {p : Pte} (hv : va < 18446744073709551616) (hc : canonB va = true) (hl : l ≤ 2) (ht : tabF c.root T va l = some t) (hm : mayB p (l : Int) = true) (hw : PteWf p) (hp : pageP L va l = none) (hn : l = 0 ∨ tabF c.root T va (l - 1) = none) (u : Nat) :
    Inv c ⟨stR c.n σ.S (atX va t l) 8 p.word, σ.k, u⟩ (L ++ [⟨baseN va l, l, p⟩]) T := by
  have hbb : baseN (baseN va l) l = baseN va l := base_base (Nat.le_refl _) hl
  have hkey : PKey (L ++ [⟨baseN va l, l, p⟩]) := by
    refine List.pairwise_append.2 ⟨h.pkey, List.pairwise_singleton _ _, fun a ha b hb hh => ?_⟩
    rw [List.mem_singleton.1 hb] at hh
    exact page_none hp a ha hh
  refine h.pages hv hc hl ht (may_lt p) (fun m hm' => ?_) (fun m hm' => ?_) (fun m hm' h0 => ?_) hkey (fun vb l' hl' hh => ?_) ?_
  · rcases List.mem_append.1 hm' with h1 | h1
    · exact h.pg m h1
    · rw [List.mem_singleton.1 h1]
      exact ⟨hl, base_lt hv, by rw [base_canon hl]; exact hc, hbb, hm, hw⟩
  · rcases List.mem_append.1 hm' with h1 | h1
    · exact h.has m h1
    · rw [List.mem_singleton.1 h1]
      refine ⟨t, ?_⟩
      rw [← ht]
      show tabF c.root T (baseN va l) l = tabF c.root T va l
      by_cases e : l = 2
      · exact tab_congr (.inl e)
      · exact tab_congr (.inr (base_base (by omega) (by omega)))
  · rcases List.mem_append.1 hm' with h1 | h1
    · exact h.excl m h1 h0
    · rw [List.mem_singleton.1 h1] at h0 ⊢
      have h00 : l ≠ 0 := h0
      show tabF c.root T (baseN va l) (l - 1) = none
      rw [← hn.resolve_left h00]
      exact tab_congr (.inr (by rw [show l - 1 + 1 = l by omega]; exact hbb))
  · unfold pageP
    rw [List.find?_append]
    cases e : L.find? (fun m => m.lev == l' && m.va == baseN vb l') with
    | some m => rfl
    | none =>
      rw [Option.none_or, List.find?_cons]
      split
      · rename_i hx
        simp only [Bool.and_eq_true, beq_iff_eq] at hx
        obtain ⟨rfl, h2⟩ := hx
        exact absurd ⟨rfl, h2.symm⟩ hh
      · rfl
  · unfold entW
    have e : pageP (L ++ [⟨baseN va l, l, p⟩]) va l = some ⟨baseN va l, l, p⟩ := (page_iff hkey).2 ⟨by simp, rfl, rfl⟩
    rw [e]
/-- A page's entry is another. -/
theorem Inv.put (h : Inv c σ L T) {va l t i : Nat} {m : Mp} {p : Pte} (hv : va < 18446744073709551616) (hc : canonB va = true) (hl : l ≤ 2) (ht : tabF c.root T va l = some t) (hm : mayB p (l : Int) = true) (hw : PteWf p) (hp : pageP L va l = some m) (hi : L[i]? = some m) (u : Nat) :
    Inv c ⟨stR c.n σ.S (atX va t l) 8 p.word, σ.k, u⟩ (L.set i ⟨m.va, m.lev, p⟩) T := by
  obtain ⟨hmL, hml, hmv⟩ := page_some hp
  have hil : i < L.length := by
    rcases Nat.lt_or_ge i L.length with h1 | h1
    · exact h1
    · rw [List.getElem?_eq_none h1] at hi; cases hi
  have hgi : L[i] = m := by rw [List.getElem?_eq_getElem hil] at hi; injection hi
  have hkey : PKey (L.set i ⟨m.va, m.lev, p⟩) := by
    refine List.pairwise_iff_getElem.2 fun a b ha hb hab hh => ?_
    rw [List.length_set] at ha hb
    have hk := List.pairwise_iff_getElem.1 h.pkey a b ha hb hab
    rw [List.getElem_set, List.getElem_set] at hh
    by_cases ea : i = a <;> by_cases eb : i = b
    · omega
    · rw [if_pos ea, if_neg eb] at hh
      subst ea
      rw [hgi] at hk
      exact hk hh
    · rw [if_neg ea, if_pos eb] at hh
      subst eb
      rw [hgi] at hk
      exact hk hh
    · rw [if_neg ea, if_neg eb] at hh
      exact hk hh
  have hmem : ∀ x ∈ L.set i ⟨m.va, m.lev, p⟩, x ∈ L ∨ x = ⟨m.va, m.lev, p⟩ := fun x hx => List.mem_or_eq_of_mem_set hx
  refine h.pages hv hc hl ht (may_lt p) (fun x hx => ?_) (fun x hx => ?_) (fun x hx h0 => ?_) hkey (fun vb l' hl' hh => ?_) ?_
  · rcases hmem x hx with h1 | rfl
    · exact h.pg x h1
    · obtain ⟨g1, g2, g3, g4, _, _⟩ := h.pg m hmL
      exact ⟨g1, g2, g3, g4, by show mayB p (m.lev : Int) = true; rw [hml]; exact hm, hw⟩
  · rcases hmem x hx with h1 | rfl
    · exact h.has x h1
    · exact h.has m hmL
  · rcases hmem x hx with h1 | rfl
    · exact h.excl x h1 h0
    · exact h.excl m hmL h0
  · have hnm : ¬ (m.lev = l' ∧ m.va = baseN vb l') := fun ⟨h1, h2⟩ => hh ⟨by omega, by rw [← hmv, h2, ← h1, hml]⟩
    cases e : pageP L vb l' with
    | some x =>
      obtain ⟨hx, h1, h2⟩ := page_some e
      refine (page_iff hkey).2 ⟨?_, h1, h2⟩
      obtain ⟨j, hj, rfl⟩ := List.getElem_of_mem hx
      have hne : i ≠ j := fun e => by
        subst e
        rw [hgi] at h1 h2
        exact hnm ⟨h1, h2⟩
      have : (L.set i ⟨m.va, m.lev, p⟩)[j]'(by rw [List.length_set]; exact hj) = L[j] := List.getElem_set_ne hne _
      rw [← this]
      exact List.getElem_mem _
    | none =>
      cases e' : pageP (L.set i ⟨m.va, m.lev, p⟩) vb l' with
      | none => rfl
      | some x =>
        obtain ⟨hx, h1, h2⟩ := page_some e'
        rcases hmem x hx with h3 | rfl
        · exact absurd ⟨h1, h2⟩ (page_none e x h3)
        · exact absurd ⟨h1, h2⟩ hnm
  · unfold entW
    have e : pageP (L.set i ⟨m.va, m.lev, p⟩) va l = some ⟨m.va, m.lev, p⟩ := (page_iff hkey).2 ⟨List.mem_set hil _, hml, hmv⟩
    rw [e]
/-- A page goes. -/
theorem Inv.del (h : Inv c σ L T) {va l t i : Nat} {m : Mp} (hv : va < 18446744073709551616) (hc : canonB va = true) (hl : l ≤ 2) (ht : tabF c.root T va l = some t) (hp : pageP L va l = some m) (hi : L[i]? = some m) (u : Nat) :
    Inv c ⟨stR c.n σ.S (atX va t l) 8 0, σ.k, u⟩ (L.eraseIdx i) T := by
  obtain ⟨hmL, hml, hmv⟩ := page_some hp
  have hil : i < L.length := by
    rcases Nat.lt_or_ge i L.length with h1 | h1
    · exact h1
    · rw [List.getElem?_eq_none h1] at hi; cases hi
  have hgi : L[i] = m := by rw [List.getElem?_eq_getElem hil] at hi; injection hi
  have hkey : PKey (L.eraseIdx i) := h.pkey.sublist (List.eraseIdx_sublist _ _)
  have hmem : ∀ x ∈ L.eraseIdx i, x ∈ L := fun x hx => List.mem_of_mem_eraseIdx hx
  have hgone : ∀ x ∈ L.eraseIdx i, ¬ (x.lev = m.lev ∧ x.va = m.va) := by
    intro x hx hh
    rw [List.mem_eraseIdx_iff_getElem] at hx
    obtain ⟨j, hj, hne, rfl⟩ := hx
    have h2 := List.pairwise_iff_getElem.1 h.pkey
    rcases Nat.lt_or_gt_of_ne hne with h3 | h3
    · exact h2 j i hj hil h3 (by rw [hgi]; exact hh)
    · exact h2 i j hil hj h3 (by rw [hgi]; exact ⟨hh.1.symm, hh.2.symm⟩)
  refine h.pages hv hc hl ht (by decide) (fun x hx => h.pg x (hmem x hx)) (fun x hx => h.has x (hmem x hx)) (fun x hx h0 => h.excl x (hmem x hx) h0) hkey (fun vb l' hl' hh => ?_) ?_
  · cases e : pageP L vb l' with
    | some x =>
      obtain ⟨hx, h1, h2⟩ := page_some e
      refine (page_iff hkey).2 ⟨?_, h1, h2⟩
      rw [List.mem_eraseIdx_iff_getElem]
      obtain ⟨j, hj, rfl⟩ := List.getElem_of_mem hx
      refine ⟨j, hj, fun e => ?_, rfl⟩
      subst e
      rw [hgi] at h1 h2
      exact hh ⟨by omega, by rw [← hmv, h2, ← h1, hml]⟩
    | none =>
      cases e' : pageP (L.eraseIdx i) vb l' with
      | none => rfl
      | some x =>
        obtain ⟨hx, h1, h2⟩ := page_some e'
        exact absurd ⟨h1, h2⟩ (page_none e x (hmem x hx))
  · have e : pageP (L.eraseIdx i) va l = none := by
      cases e' : pageP (L.eraseIdx i) va l with
      | none => rfl
      | some x =>
        obtain ⟨hx, h1, h2⟩ := page_some e'
        exact absurd ⟨by omega, by rw [h2, hmv]⟩ (hgone x hx)
    unfold entW
    rw [e]
    simp only
    split
    · rfl
    · rename_i h0
      rw [h.below_page hp h0]
end
end Go.Proofs.YtophcgbddccpeaaGreat

/- Plain laws: a table is laid; a page is mapped. -/
namespace Go.Proofs.YtophcgbddccpeaaGreat
open Go.RowKit

theorem tab_app (root : Nat) (T : List Tb) (b : Tb) (va l : Nat) : tabF root (T ++ [b]) va l = match tabF root T va l with
    | some f => some f
    | none => if b.lev = l ∧ b.va = baseN va (l + 1) then some b.fr else none := by
  unfold tabF
  by_cases h2 : l = 2
  · rw [if_pos h2, if_pos h2]
  · rw [if_neg h2, if_neg h2, List.find?_append]
    cases e : T.find? (fun b => b.lev == l && b.va == baseN va (l + 1)) with
    | some b' => rfl
    | none =>
      rw [Option.none_or, List.find?_cons]
      simp only [List.find?_nil, Option.map_none]
      by_cases hb : b.lev = l ∧ b.va = baseN va (l + 1)
      · rw [if_pos hb, show (b.lev == l && b.va == baseN va (l + 1)) = true by simp [hb.1, hb.2]]
        rfl
      · rw [if_neg hb]
        cases e2 : (b.lev == l && b.va == baseN va (l + 1)) with
        | true => simp only [Bool.and_eq_true, beq_iff_eq] at e2; exact absurd e2 hb
        | false => rfl
theorem tab_old {root : Nat} {T : List Tb} {va l f : Nat} (b : Tb) (h : tabF root T va l = some f) : tabF root (T ++ [b]) va l = some f := by rw [tab_app, h]
section
variable {c : TC} {σ : TS} {L : List Mp} {T : List Tb}
theorem Inv.lay (h : Inv c σ L T) {va l t : Nat} (hv : va < 18446744073709551616) (hc : canonB va = true) (hl : l ≤ 2) (h0 : l ≠ 0) (ht : tabF c.root T va l = some t) (hp : pageP L va l = none) (hn : tabF c.root T va (l - 1) = none) (hf : c.first + σ.k < c.n) (u : Nat) :
    Inv c ⟨stR c.n (updS σ.S (c.first + σ.k) zeroL) (atX va t l) 8 (leadW (c.first + σ.k)), σ.k + 1, u⟩ L (T ++ [⟨l - 1, baseN va l, c.first + σ.k⟩]) := by
  obtain ⟨f, hff⟩ : ∃ f, f = c.first + σ.k := ⟨_, rfl⟩
  rw [← hff] at hf ⊢
  have hl1 : l - 1 + 1 = l := by omega
  have htf := h.frame ht
  have hn' := h.n
  obtain ⟨_, _, _, _, _, hlw⟩ := lead_word (f := f) (by omega)
  have hbb : baseN (baseN va l) l = baseN va l := base_base (Nat.le_refl _) hl
  have hfull : Full (updS σ.S f zeroL) := h.full.upd f
  have happ : ∀ vb l', tabF c.root (T ++ [⟨l - 1, baseN va l, f⟩]) vb l' = match tabF c.root T vb l' with
    | some g => some g
    | none => if l - 1 = l' ∧ baseN va l = baseN vb (l' + 1) then some f else none := fun vb l' => tab_app c.root T ⟨l - 1, baseN va l, f⟩ vb l'
  refine { full := hfull.store _ _ _ _, n := h.n, root := h.root, tab := fun b hb => ?_, rfresh := ?_, fresh := fun b hb => ?_, inj := fun b hb b' hb' hff' => ?_, up := fun b hb hb0 => ?_, pg := h.pg, has := fun m hm => ?_, excl := fun m hm hm0 => ?_, pkey := h.pkey, wd := fun vb l' t' hvb hcb hl' ht' => ?_ }
  · rcases List.mem_append.1 hb with h1 | h1
    · exact h.tab b h1
    · rw [List.mem_singleton.1 h1]
      refine ⟨by show l - 1 ≤ 1; omega, hf, by show f ≠ c.root; have := h.rfresh; omega, base_lt hv, by rw [base_canon hl]; exact hc, ?_⟩
      show baseN (baseN va l) (l - 1 + 1) = baseN va l
      rw [hl1]; exact hbb
  · show c.root < c.first + (σ.k + 1)
    have := h.rfresh; omega
  · show b.fr < c.first + (σ.k + 1)
    rcases List.mem_append.1 hb with h1 | h1
    · have := h.fresh b h1; omega
    · rw [List.mem_singleton.1 h1]; show f < _; omega
  · rcases List.mem_append.1 hb with h1 | h1 <;> rcases List.mem_append.1 hb' with h2 | h2
    · exact h.inj b h1 b' h2 hff'
    · rw [List.mem_singleton.1 h2] at hff'
      have := h.fresh b h1
      have e : b.fr = f := hff'
      omega
    · rw [List.mem_singleton.1 h1] at hff'
      have := h.fresh b' h2
      have e : f = b'.fr := hff'
      omega
    · rw [List.mem_singleton.1 h1, List.mem_singleton.1 h2]
      exact ⟨rfl, rfl⟩
  · rcases List.mem_append.1 hb with h1 | h1
    · obtain ⟨g, hg⟩ := h.up b h1 hb0
      exact ⟨g, tab_old _ hg⟩
    · rw [List.mem_singleton.1 h1] at hb0 ⊢
      have e1 : l - 1 = 0 := hb0
      obtain rfl : l = 1 := by omega
      refine ⟨t, tab_old _ ?_⟩
      rw [← ht]
      show tabF c.root T (baseN va 1) 1 = tabF c.root T va 1
      exact tab_congr (.inr (base_base (by decide) (by decide)))
  · obtain ⟨g, hg⟩ := h.has m hm
    exact ⟨g, tab_old _ hg⟩
  · rw [happ, h.excl m hm hm0]
    simp only
    refine if_neg (fun ⟨g1, g2⟩ => ?_)
    rw [show m.lev - 1 + 1 = m.lev by omega] at g2
    obtain ⟨_, _, _, g4, _, _⟩ := h.pg m hm
    exact page_none hp m hm ⟨by omega, by rw [← g4, ← g2]⟩
  · show wdX c.n (stR c.n (updS σ.S f zeroL) (atX va t l) 8 (leadW f)) t' (indexV vb (l' : Int)) = entW c.root L (T ++ [⟨l - 1, baseN va l, f⟩]) vb l'
    rw [happ] at ht'
    cases hold : tabF c.root T vb l' with
    | some g =>
      rw [hold] at ht'
      injection ht' with ht'
      subst ht'
      rw [h.entry hfull hv hc hl ht hlw hvb hcb hl' hold]
      have hgf := (h.frame hold).2
      split
      · rename_i hh
        obtain ⟨rfl, hb⟩ := hh
        unfold entW
        rw [page_congr hb, hp]
        simp only
        rw [if_neg h0, happ, tab_congr (va := vb) (vb := va) (l := l' - 1) (.inr (by rw [hl1]; exact hb)), hn]
        simp only
        rw [if_pos ⟨trivial, by rw [hl1]; exact hb.symm⟩]
      · rename_i hh
        rw [wd_zero (idx_lt vb l'), if_neg (by omega), h.wd vb l' g hvb hcb hl' hold]
        unfold entW
        split
        · rfl
        · split
          · rfl
          · rename_i hl0
            rw [happ]
            cases e : tabF c.root T vb (l' - 1) with
            | some q => rfl
            | none =>
              simp only
              rw [if_neg (fun ⟨g1, g2⟩ => hh ⟨by omega, by
                have e3 : l' = l := by omega
                rw [show l' - 1 + 1 = l' by omega, e3] at g2
                exact g2.symm⟩)]
    | none =>
      rw [hold] at ht'
      simp only at ht'
      split at ht'
      · rename_i hh
        injection ht' with ht'
        subst ht'
        obtain ⟨g1, g2⟩ := hh
        have hpv : pageP L vb l' = none := by
          cases e : pageP L vb l' with
          | none => rfl
          | some m => obtain ⟨q, hq⟩ := h.page_tab e hl'; rw [hold] at hq; cases hq
        rw [at_eq' (by omega), wd_store hfull htf.1 (idx_lt va l) (idx_lt vb l') hlw, if_neg (fun ⟨e, _⟩ => by have := htf.2; omega), wd_zero (idx_lt vb l'), if_pos rfl]
        unfold entW
        rw [hpv]
        simp only
        split
        · rfl
        · rename_i hl0
          rw [happ]
          have e1 : l' = 1 := by omega
          subst e1
          have hz : tabF c.root T vb 0 = none := by
            cases e : tabF c.root T vb 0 with
            | none => rfl
            | some q => obtain ⟨g, hg⟩ := h.above e; rw [hold] at hg; cases hg
          rw [show 1 - 1 = 0 from rfl, hz]
          simp only
          rw [if_neg (fun ⟨g, _⟩ => by omega)]
      · cases ht'
theorem Inv.lead_page (h : Inv c σ L T) {va l t : Nat} {m : Mp} (hv : va < 18446744073709551616) (hc : canonB va = true) (hl : l ≤ 2) (ht : tabF c.root T va l = some t) (hp : pageP L va l = some m) : leadE c σ (atX va t l) = 130 ∧ leadS c σ (atX va t l) = σ ∧ ldR c.n σ.S (atX va t l) 8 ≠ 0 := by
  obtain ⟨_, h2⟩ := h.word hv hc hl ht
  obtain ⟨hm, hml, _⟩ := page_some hp
  obtain ⟨_, _, _, _, hmay, hwf⟩ := h.pg m hm
  rw [hml] at hmay
  obtain ⟨_, g2, _, _, g5⟩ := may_word hmay hwf
  have e : entW c.root L T va l = m.p.word := by unfold entW; rw [hp]
  rw [e] at h2
  unfold leadE leadS
  rw [h2, if_neg g5, if_neg g5, g2, if_pos rfl]
  exact ⟨rfl, rfl, g5⟩
theorem Inv.lead_down (h : Inv c σ L T) {va l t f : Nat} (hv : va < 18446744073709551616) (hc : canonB va = true) (hl : l ≤ 2) (h0 : l ≠ 0) (ht : tabF c.root T va l = some t) (hp : pageP L va l = none) (hf : tabF c.root T va (l - 1) = some f) : leadE c σ (atX va t l) = 0 ∧ leadS c σ (atX va t l) = σ ∧ leadF c σ (atX va t l) = f ∧ ldR c.n σ.S (atX va t l) 8 ≠ 0 := by
  obtain ⟨_, h2⟩ := h.word hv hc hl ht
  have hn := h.n
  have hfn := (h.frame hf).1
  obtain ⟨_, g2, _, g4, g5, _⟩ := lead_word (f := f) (by omega)
  have e : entW c.root L T va l = leadW f := by unfold entW; rw [hp]; simp only; rw [if_neg h0, hf]
  rw [e] at h2
  unfold leadE leadS leadF
  rw [h2, if_neg g5, if_neg g5, if_neg g5, g2, if_neg (by decide), if_neg (by decide), g4]
  exact ⟨rfl, rfl, rfl, g5⟩
theorem Inv.zero (h : Inv c σ L T) {va l t : Nat} (hv : va < 18446744073709551616) (hc : canonB va = true) (hl : l ≤ 2) (ht : tabF c.root T va l = some t) (hp : pageP L va l = none) (hn : l = 0 ∨ tabF c.root T va (l - 1) = none) : ldR c.n σ.S (atX va t l) 8 = 0 := by
  obtain ⟨_, h2⟩ := h.word hv hc hl ht
  rw [h2]
  unfold entW
  rw [hp]
  simp only
  split
  · rfl
  · rename_i h0
    rw [hn.resolve_left h0]
/-- What mapping comes to, by pages and tables. -/
structure XS where
  L : List Mp
  T : List Tb
  k : Nat
def mapX (c : TC) (va level : Nat) (p : Pte) : Nat → XS → Int × XS
  | 0, x => if pageP x.L va level = none ∧ (level = 0 ∨ tabF c.root x.T va (level - 1) = none) then (0, ⟨x.L ++ [⟨baseN va level, level, p⟩], x.T, x.k⟩) else (130, x)
  | d + 1, x => match pageP x.L va (level + (d + 1)) with
    | some _ => (130, x)
    | none => match tabF c.root x.T va (level + d) with
      | some _ => mapX c va level p d x
      | none => if x.k = c.N then (50, x) else if c.n ≤ c.first + x.k then (61, x) else mapX c va level p d ⟨x.L, x.T ++ [⟨level + d, baseN va (level + (d + 1)), c.first + x.k⟩], x.k + 1⟩
theorem map_spec (va level : Nat) (p : Pte) (hv : va < 18446744073709551616) (hc : canonB va = true) (hm : mayB p (level : Int) = true) (hw : PteWf p) : ∀ (d : Nat) (c : TC) (σ : TS) (L : List Mp) (T : List Tb) (t : Nat), Inv c σ L T → level + d ≤ 2 → tabF c.root T va (level + d) = some t →
    (mapGo c va level p.word d σ t).1 = (mapX c va level p d ⟨L, T, σ.k⟩).1 ∧ Inv c (mapGo c va level p.word d σ t).2 (mapX c va level p d ⟨L, T, σ.k⟩).2.L (mapX c va level p d ⟨L, T, σ.k⟩).2.T ∧
      (mapGo c va level p.word d σ t).2.k = (mapX c va level p d ⟨L, T, σ.k⟩).2.k ∧ (mapGo c va level p.word d σ t).2.u + σ.k = (mapGo c va level p.word d σ t).2.k + σ.u
  | 0, c, σ, L, T, t, h, hl, ht => by
    rw [Nat.add_zero] at ht hl
    unfold mapGo mapX
    simp only
    by_cases hp : pageP L va level = none ∧ (level = 0 ∨ tabF c.root T va (level - 1) = none)
    · rw [if_pos hp, if_pos (h.zero hv hc hl ht hp.1 hp.2)]
      exact ⟨rfl, h.add hv hc hl ht hm hw hp.1 hp.2 σ.u, rfl, Nat.add_comm _ _⟩
    · have hne : ldR c.n σ.S (atX va t level) 8 ≠ 0 := by
        cases e : pageP L va level with
        | some m => exact (h.lead_page hv hc hl ht e).2.2
        | none =>
          have h1 : ¬ (level = 0 ∨ tabF c.root T va (level - 1) = none) := fun x => hp ⟨e, x⟩
          cases e2 : tabF c.root T va (level - 1) with
          | none => exact absurd (.inr e2) h1
          | some f => exact (h.lead_down hv hc hl (fun e0 => h1 (.inl e0)) ht e e2).2.2.2
      rw [if_neg hp, if_neg hne]
      exact ⟨rfl, h, rfl, Nat.add_comm _ _⟩
  | d + 1, c, σ, L, T, t, h, hl, ht => by
    unfold mapGo mapX
    have hl1 : level + (d + 1) - 1 = level + d := by omega
    cases e : pageP L va (level + (d + 1)) with
    | some m =>
      obtain ⟨g1, g2, _⟩ := h.lead_page hv hc hl ht e
      simp only [e]
      rw [g1, g2, if_neg (by decide)]
      exact ⟨rfl, h, rfl, Nat.add_comm _ _⟩
    | none =>
      simp only [e]
      cases e2 : tabF c.root T va (level + d) with
      | some f =>
        obtain ⟨g1, g2, g3, _⟩ := h.lead_down (f := f) hv hc hl (by omega) ht e (by rw [hl1]; exact e2)
        simp only [e2]
        rw [g1, g2, g3, if_pos rfl]
        exact map_spec va level p hv hc hm hw d c σ L T f h (by omega) e2
      | none =>
        simp only [e2]
        have hz := h.zero hv hc hl ht e (.inr (by rw [hl1]; exact e2))
        have hE : leadE c σ (atX va t (level + (d + 1))) = takeE c σ := by unfold leadE; rw [if_pos hz]
        by_cases hk : σ.k = c.N
        · have ht50 : takeE c σ = 50 := if_pos hk
          have hS : leadS c σ (atX va t (level + (d + 1))) = σ := by
            unfold leadS takeS
            rw [if_pos hz, ht50, if_neg (by decide), if_pos hk]
          rw [hE, ht50, hS, if_neg (by decide), if_pos hk]
          exact ⟨rfl, h, rfl, Nat.add_comm _ _⟩
        · by_cases hn : c.n ≤ c.first + σ.k
          · have ht61 : takeE c σ = 61 := by unfold takeE; rw [if_neg hk, if_pos hn]
            have hS : leadS c σ (atX va t (level + (d + 1))) = σ := by
              unfold leadS takeS
              rw [if_pos hz, ht61, if_neg (by decide), if_neg hk, if_pos hn]
            rw [hE, ht61, hS, if_neg (by decide), if_neg hk, if_pos hn]
            exact ⟨rfl, h, rfl, Nat.add_comm _ _⟩
          · have ht0 : takeE c σ = 0 := by unfold takeE; rw [if_neg hk, if_neg hn]
            have hS : leadS c σ (atX va t (level + (d + 1))) = ⟨stR c.n (updS σ.S (c.first + σ.k) zeroL) (atX va t (level + (d + 1))) 8 (leadW (c.first + σ.k)), σ.k + 1, σ.u + 1⟩ := by
              unfold leadS takeS
              rw [if_pos hz, ht0, if_pos rfl, if_neg hk, if_neg hn]
            have hF : leadF c σ (atX va t (level + (d + 1))) = c.first + σ.k := by
              unfold leadF
              rw [if_pos hz, ht0, if_pos rfl]
            have hlay := h.lay hv hc hl (by omega) ht e (by rw [hl1]; exact e2) (by omega) (σ.u + 1)
            rw [hl1] at hlay
            have htn : tabF c.root (T ++ [⟨level + d, baseN va (level + (d + 1)), c.first + σ.k⟩]) va (level + d) = some (c.first + σ.k) := by
              rw [tab_app, e2]
              simp only
              rw [if_pos ⟨trivial, rfl⟩]
            rw [hE, ht0, hS, hF, if_pos rfl, if_neg hk, if_neg hn]
            obtain ⟨r1, r2, r3, r4⟩ := map_spec va level p hv hc hm hw d c _ L _ _ hlay (by omega) htn
            refine ⟨r1, r2, r3, ?_⟩
            have r4' : _ + (σ.k + 1) = _ + (σ.u + 1) := r4
            omega
end
end Go.Proofs.YtophcgbddccpeaaGreat

/- Plain laws: the pages that are listed are those that are mapped, by their addresses. -/
namespace Go.Proofs.YtophcgbddccpeaaGreat
open Go.RowKit

theorem sp3 : spN 3 = 549755813888 := rfl
theorem cv_all {l fr i : Nat} (hl : l ≤ 2) (hfr : fr < 549755813888) (hm : fr % spN (l + 1) = 0) (hi : i < 512) :
    fr + i * spN l < 549755813888 ∧ (fr + i * spN l) % spN l = 0 ∧ canonB (canV (fr + i * spN l)) = true ∧ baseN (canV (fr + i * spN l)) l = canV (fr + i * spN l) ∧ indexV (canV (fr + i * spN l)) (l : Int) = i ∧
      (l ≤ 1 → baseN (canV (fr + i * spN l)) (l + 1) = baseN (canV fr) (l + 1)) ∧ fr + i * spN l + spN l ≤ fr + spN (l + 1) := by
  have hb : fr + i * spN l < 549755813888 := by
    rcases lev3 hl with rfl | rfl | rfl
    · rw [show 0 + 1 = 1 from rfl, sp1] at hm; rw [sp0]; omega
    · rw [show 1 + 1 = 2 from rfl, sp2] at hm; rw [sp1]; omega
    · rw [show 2 + 1 = 3 from rfl, sp3] at hm; rw [sp2]; omega
  have hlt := canV_lt hb
  refine ⟨hb, ?_, ?_, ?_, ?_, fun h1 => ?_, ?_⟩
  · rcases lev3 hl with rfl | rfl | rfl
    · rw [show 0 + 1 = 1 from rfl, sp1] at hm; rw [sp0]; omega
    · rw [show 1 + 1 = 2 from rfl, sp2] at hm; rw [sp1]; omega
    · rw [show 2 + 1 = 3 from rfl, sp3] at hm; rw [sp2]; omega
  · rw [canon_iff _ hlt]
    generalize fr + i * spN l = x at *
    unfold canV
    split <;> omega
  · unfold baseN canV
    rcases lev3 hl with rfl | rfl | rfl
    · rw [show 0 + 1 = 1 from rfl, sp1] at hm; rw [sp0] at *; split <;> omega
    · rw [show 1 + 1 = 2 from rfl, sp2] at hm; rw [sp1] at *; split <;> omega
    · rw [show 2 + 1 = 3 from rfl, sp3] at hm; rw [sp2] at *; split <;> omega
  · rw [idx_eq _ hl]
    unfold canV
    rcases lev3 hl with rfl | rfl | rfl
    · rw [show 0 + 1 = 1 from rfl, sp1] at hm; rw [sp0] at *; split <;> omega
    · rw [show 1 + 1 = 2 from rfl, sp2] at hm; rw [sp1] at *; split <;> omega
    · rw [show 2 + 1 = 3 from rfl, sp3] at hm; rw [sp2] at *; split <;> omega
  · unfold baseN canV
    rcases (show l = 0 ∨ l = 1 by omega) with rfl | rfl
    · rw [show 0 + 1 = 1 from rfl, sp1] at *; rw [sp0] at *; split <;> split <;> omega
    · rw [show 1 + 1 = 2 from rfl, sp2] at *; rw [sp1] at *; split <;> split <;> omega
  · rcases lev3 hl with rfl | rfl | rfl
    · rw [show 0 + 1 = 1 from rfl, sp1, sp0]; omega
    · rw [show 1 + 1 = 2 from rfl, sp2, sp1]; omega
    · rw [show 2 + 1 = 3 from rfl, sp3, sp2]; omega
def low (m : Mp) : Nat := m.va % 549755813888
theorem canV_low {x : Nat} (h : x < 549755813888) : canV x % 549755813888 = x := by unfold canV; split <;> omega
theorem low_canV {va : Nat} (hv : va < 18446744073709551616) (hc : canonB va = true) : canV (va % 549755813888) = va := by
  have h := (canon_iff va hv).1 hc
  unfold canV
  split <;> omega
theorem canV_mono {x y : Nat} (h : x < y) (hy : y < 549755813888) : canV x < canV y := by unfold canV; split <;> split <;> omega
section
variable {c : TC} {σ : TS} {L : List Mp} {T : List Tb}
/-- What stands at one entry of a table. -/
theorem Inv.pg_at (h : Inv c σ L T) {l t fr i : Nat} {rec : Nat → Nat → List Mp} (hl : l ≤ 2) (hfr : fr < 549755813888) (hm : fr % spN (l + 1) = 0) (ht : tabF c.root T (canV fr) l = some t) (hi : i < 512) :
    (∃ m, pageP L (canV (fr + i * spN l)) l = some m ∧ pgAt c.n σ.S rec l t fr i = [m] ∧ leafX (wdX c.n σ.S t i) = true) ∨
    (pageP L (canV (fr + i * spN l)) l = none ∧ (l = 0 ∨ tabF c.root T (canV (fr + i * spN l)) (l - 1) = none) ∧ pgAt c.n σ.S rec l t fr i = [] ∧ wdX c.n σ.S t i = 0) ∨
    (∃ f, l ≠ 0 ∧ pageP L (canV (fr + i * spN l)) l = none ∧ tabF c.root T (canV (fr + i * spN l)) (l - 1) = some f ∧ pgAt c.n σ.S rec l t fr i = rec f (fr + i * spN l) ∧ ppnX (wdX c.n σ.S t i) = f) := by
  obtain ⟨g1, g2, g3, g4, g5, g6, g7⟩ := cv_all hl hfr hm hi
  have ht' : tabF c.root T (canV (fr + i * spN l)) l = some t := by
    rw [← ht]
    by_cases e : l = 2
    · exact tab_congr (.inl e)
    · exact tab_congr (.inr (g6 (by omega)))
  have hw := h.wd _ l t (canV_lt g1) g3 hl ht'
  rw [g5] at hw
  cases e : pageP L (canV (fr + i * spN l)) l with
  | some m =>
    left
    obtain ⟨hmL, hml, hmv⟩ := page_some e
    obtain ⟨_, _, _, _, hmay, hwf⟩ := h.pg m hmL
    rw [hml] at hmay
    obtain ⟨_, k2, _, k4, k5⟩ := may_word hmay hwf
    have e2 : wdX c.n σ.S t i = m.p.word := by rw [hw]; unfold entW; rw [e]
    refine ⟨m, rfl, ?_, by rw [e2]; exact k2⟩
    unfold pgAt
    rw [e2, if_neg k5, if_pos k2, k4]
    congr 1
    cases m
    simp only at hml hmv
    rw [hml, hmv, g4]
  | none =>
    right
    by_cases h0 : l = 0 ∨ tabF c.root T (canV (fr + i * spN l)) (l - 1) = none
    · left
      have e2 : wdX c.n σ.S t i = 0 := by
        rw [hw]; unfold entW; rw [e]
        simp only
        split
        · rfl
        · rename_i hz
          rw [h0.resolve_left hz]
      refine ⟨rfl, h0, ?_, e2⟩
      unfold pgAt
      rw [e2, if_pos rfl]
    · right
      have hl0 : l ≠ 0 := fun e => h0 (.inl e)
      cases ef : tabF c.root T (canV (fr + i * spN l)) (l - 1) with
      | none => exact absurd (.inr ef) h0
      | some f =>
        have hfn := (h.frame ef).1
        have hn := h.n
        obtain ⟨_, k2, _, k4, k5, _⟩ := lead_word (f := f) (by omega)
        have e2 : wdX c.n σ.S t i = leadW f := by rw [hw]; unfold entW; rw [e]; simp only; rw [if_neg hl0, ef]
        refine ⟨f, hl0, rfl, rfl, ?_, by rw [e2]; exact k4⟩
        unfold pgAt
        rw [e2, if_neg k5, k2, if_neg (by decide), k4]
theorem Inv.pgok (h : Inv c σ L T) : ∀ (l t fr : Nat), l ≤ 2 → fr < 549755813888 → fr % spN (l + 1) = 0 → tabF c.root T (canV fr) l = some t → PgOK c.n σ.S l t
  | 0, t, fr, hl, hfr, hm, ht => fun i hi => by
    rcases h.pg_at (rec := fun _ _ => []) hl hfr hm ht hi with ⟨m, _, _, h3⟩ | ⟨_, _, _, h4⟩ | ⟨f, h0, _⟩
    · exact .inr h3
    · exact .inl h4
    · exact absurd rfl h0
  | l + 1, t, fr, hl, hfr, hm, ht => fun i hi => by
    rcases h.pg_at (rec := fun _ _ => []) hl hfr hm ht hi with ⟨m, _, _, h3⟩ | ⟨_, _, _, h4⟩ | ⟨f, h0, _, h2, _, h5⟩
    · exact .inr (.inl h3)
    · exact .inl h4
    · obtain ⟨g1, g2, _⟩ := cv_all hl hfr hm hi
      refine .inr (.inr ?_)
      rw [h5]
      exact h.pgok l f _ (by omega) g1 g2 h2
/-- A table's pages: which ones, where, in which order. -/
theorem Inv.round (h : Inv c σ L T) {l t fr : Nat} {rec : Nat → Nat → List Mp} (hl : l ≤ 2) (hfr : fr < 549755813888) (hm : fr % spN (l + 1) = 0) (ht : tabF c.root T (canV fr) l = some t)
    (hrec : ∀ f x, l ≠ 0 → x < 549755813888 → x % spN l = 0 → tabF c.root T (canV x) (l - 1) = some f →
      (∀ m, m ∈ rec f x ↔ (m ∈ L ∧ m.lev ≤ l - 1 ∧ baseN m.va l = baseN (canV x) l)) ∧ (∀ m ∈ rec f x, x ≤ low m ∧ low m < x + spN l) ∧ (rec f x).Pairwise (fun a b => low a < low b)) :
    ∀ k, k ≤ 512 → (∀ m, m ∈ (List.range k).flatMap (pgAt c.n σ.S rec l t fr) ↔ (m ∈ L ∧ m.lev ≤ l ∧ (l = 2 ∨ baseN m.va (l + 1) = baseN (canV fr) (l + 1)) ∧ indexV m.va (l : Int) < k)) ∧
      (∀ m ∈ (List.range k).flatMap (pgAt c.n σ.S rec l t fr), fr ≤ low m ∧ low m < fr + k * spN l) ∧ ((List.range k).flatMap (pgAt c.n σ.S rec l t fr)).Pairwise (fun a b => low a < low b)
  | 0, _ => ⟨fun m => by simp, fun m hm => by simp at hm, by simp⟩
  | k + 1, hk => by
    obtain ⟨i1, i2, i3⟩ := h.round hl hfr hm ht hrec k (by omega)
    obtain ⟨g1, g2, g3, g4, g5, g6, g7⟩ := cv_all hl hfr hm (show k < 512 by omega)
    have hxl := canV_lt g1
    -- where a page of this entry lies
    have hin : ∀ m ∈ L, m.lev ≤ l → (l = 2 ∨ baseN m.va (l + 1) = baseN (canV fr) (l + 1)) → indexV m.va (l : Int) = k → baseN m.va l = canV (fr + k * spN l) := by
      intro m hmL hml hb hix
      obtain ⟨_, q2, q3, _, _, _⟩ := h.pg m hmL
      rw [← g4]
      by_cases e : l = 2
      · subst e
        exact (base_top q2 hxl q3 g3).2 (by rw [show ((2 : Nat) : Int) = 2 from rfl] at g5 hix; rw [hix, g5])
      · have hb' := hb.resolve_left e
        exact (base_up (by omega)).2 ⟨by rw [hb', g6 (by omega)], by rw [hix, g5]⟩
    have hcell : (∀ m, m ∈ pgAt c.n σ.S rec l t fr k ↔ (m ∈ L ∧ m.lev ≤ l ∧ (l = 2 ∨ baseN m.va (l + 1) = baseN (canV fr) (l + 1)) ∧ indexV m.va (l : Int) = k)) ∧
        (∀ m ∈ pgAt c.n σ.S rec l t fr k, fr + k * spN l ≤ low m ∧ low m < fr + k * spN l + spN l) ∧ (pgAt c.n σ.S rec l t fr k).Pairwise (fun a b => low a < low b) := by
      have hspp : 0 < spN l := by rcases lev3 hl with rfl | rfl | rfl <;> decide
      have hback : ∀ m, m ∈ L → baseN m.va l = baseN (canV (fr + k * spN l)) l → (l = 2 ∨ baseN m.va (l + 1) = baseN (canV fr) (l + 1)) ∧ indexV m.va (l : Int) = k := by
        intro m hmL hb
        refine ⟨?_, by rw [← base_idx hl, hb, base_idx hl, g5]⟩
        by_cases e : l = 2
        · exact .inl e
        · exact .inr (by rw [← g6 (by omega)]; exact ((base_up (by omega)).1 hb).1)
      rcases h.pg_at (rec := rec) hl hfr hm ht (show k < 512 by omega) with ⟨m0, h1, h2, _⟩ | ⟨h1, h2, h3, _⟩ | ⟨f, h0, h1, h2, h3, _⟩
      · obtain ⟨q1, q2, q3⟩ := page_some h1
        rw [h2]
        refine ⟨fun m => ?_, fun m hm' => ?_, List.pairwise_singleton _ _⟩
        · rw [List.mem_singleton]
          constructor
          · rintro rfl
            obtain ⟨r1, r2⟩ := hback m q1 (by rw [q3, base_base (Nat.le_refl _) hl])
            exact ⟨q1, by omega, r1, r2⟩
          · rintro ⟨r1, r2, r3, r4⟩
            have hb := hin m r1 r2 r3 r4
            rcases Nat.lt_or_ge m.lev l with r5 | r5
            · exfalso
              obtain ⟨tt, htt⟩ := h.has m r1
              have hbp := h.below_page h1 (by omega)
              have hup : ∃ g, tabF c.root T m.va (l - 1) = some g := by
                rcases (show m.lev = l - 1 ∨ (m.lev = 0 ∧ l = 2) by omega) with e | ⟨e1, e2⟩
                · exact ⟨tt, by rw [← e]; exact htt⟩
                · subst e2
                  rw [e1] at htt
                  exact h.above htt
              obtain ⟨g, hg⟩ := hup
              rw [tab_congr (va := m.va) (vb := canV (fr + k * spN l)) (.inr (by rw [show l - 1 + 1 = l by omega, hb, g4])), hbp] at hg
              cases hg
            · have e : m.lev = l := by omega
              obtain ⟨_, _, _, q4, _, _⟩ := h.pg m r1
              exact pkey_uniq h.pkey r1 q1 (by omega) (by rw [q3, g4, ← hb, ← e, q4])
        · rw [List.mem_singleton.1 hm']
          have e : low m0 = fr + k * spN l := by unfold low; rw [q3, g4, canV_low g1]
          omega
      · rw [h3]
        refine ⟨fun m => ⟨fun hm' => by simp at hm', fun ⟨r1, r2, r3, r4⟩ => ?_⟩, fun m hm' => by simp at hm', List.Pairwise.nil⟩
        exfalso
        have hb := hin m r1 r2 r3 r4
        rcases Nat.lt_or_ge m.lev l with r5 | r5
        · obtain ⟨tt, htt⟩ := h.has m r1
          have hup : ∃ g, tabF c.root T m.va (l - 1) = some g := by
            rcases (show m.lev = l - 1 ∨ (m.lev = 0 ∧ l = 2) by omega) with e | ⟨e1, e2⟩
            · exact ⟨tt, by rw [← e]; exact htt⟩
            · subst e2
              rw [e1] at htt
              exact h.above htt
          obtain ⟨g, hg⟩ := hup
          rw [tab_congr (va := m.va) (vb := canV (fr + k * spN l)) (.inr (by rw [show l - 1 + 1 = l by omega, hb, g4])), h2.resolve_left (by omega)] at hg
          cases hg
        · have e : m.lev = l := by omega
          obtain ⟨_, _, _, q4, _, _⟩ := h.pg m r1
          rw [e] at q4
          exact page_none h1 m r1 ⟨e, by rw [g4, ← hb, q4]⟩
      · obtain ⟨j1, j2, j3⟩ := hrec f (fr + k * spN l) h0 g1 g2 h2
        rw [h3]
        refine ⟨fun m => ?_, j2, j3⟩
        rw [j1]
        constructor
        · rintro ⟨r1, r2, r3⟩
          obtain ⟨s1, s2⟩ := hback m r1 r3
          exact ⟨r1, by omega, s1, s2⟩
        · rintro ⟨r1, r2, r3, r4⟩
          have hb := hin m r1 r2 r3 r4
          refine ⟨r1, ?_, by rw [hb, g4]⟩
          rcases Nat.lt_or_ge m.lev l with r5 | r5
          · omega
          · exfalso
            have e : m.lev = l := by omega
            obtain ⟨_, _, _, q4, _, _⟩ := h.pg m r1
            rw [e] at q4
            exact page_none h1 m r1 ⟨e, by rw [g4, ← hb, q4]⟩
    obtain ⟨c1, c2, c3⟩ := hcell
    rw [range_next]
    refine ⟨fun m => ?_, fun m hm' => ?_, List.pairwise_append.2 ⟨i3, c3, fun a ha b hb => ?_⟩⟩
    · rw [List.mem_append, i1, c1]
      constructor
      · rintro (⟨r1, r2, r3, r4⟩ | ⟨r1, r2, r3, r4⟩)
        · exact ⟨r1, r2, r3, by omega⟩
        · exact ⟨r1, r2, r3, by omega⟩
      · rintro ⟨r1, r2, r3, r4⟩
        rcases Nat.lt_or_ge (indexV m.va (l : Int)) k with h1 | h1
        · exact .inl ⟨r1, r2, r3, h1⟩
        · exact .inr ⟨r1, r2, r3, by omega⟩
    · rw [Nat.succ_mul]
      rcases List.mem_append.1 hm' with h1 | h1
      · have := i2 m h1; omega
      · have := c2 m h1
        have h3 : 0 ≤ k * spN l := Nat.zero_le _
        omega
    · have h1 := (i2 a ha).2
      have h2 := (c2 b hb).1
      omega
theorem Inv.pages_low (h : Inv c σ L T) : ∀ (l t fr : Nat), l ≤ 2 → fr < 549755813888 → fr % spN (l + 1) = 0 → tabF c.root T (canV fr) l = some t →
    (∀ m, m ∈ pagesM c.n σ.S l t fr ↔ (m ∈ L ∧ m.lev ≤ l ∧ (l = 2 ∨ baseN m.va (l + 1) = baseN (canV fr) (l + 1)))) ∧ (∀ m ∈ pagesM c.n σ.S l t fr, fr ≤ low m ∧ low m < fr + spN (l + 1)) ∧ (pagesM c.n σ.S l t fr).Pairwise (fun a b => low a < low b)
  | 0, t, fr, hl, hfr, hm, ht => by
    obtain ⟨h1, h2, h3⟩ := h.round (rec := fun _ _ => []) hl hfr hm ht (fun f x h0 => absurd rfl h0) 512 (Nat.le_refl _)
    refine ⟨fun m => (h1 m).trans ⟨fun ⟨r1, r2, r3, _⟩ => ⟨r1, r2, r3⟩, fun ⟨r1, r2, r3⟩ => ⟨r1, r2, r3, idx_lt _ _⟩⟩, fun m hm' => ?_, h3⟩
    have := h2 m hm'
    rw [show 0 + 1 = 1 from rfl, sp1]
    rw [sp0] at this
    omega
  | l + 1, t, fr, hl, hfr, hm, ht => by
    obtain ⟨h1, h2, h3⟩ := h.round (rec := pagesM c.n σ.S l) hl hfr hm ht (fun f x h0 hx hxm htx => by
      obtain ⟨r1, r2, r3⟩ := h.pages_low l f x (by omega) hx hxm htx
      refine ⟨fun m => (r1 m).trans ⟨fun ⟨a, b, d⟩ => ⟨a, b, d.resolve_left (by omega)⟩, fun ⟨a, b, d⟩ => ⟨a, b, .inr d⟩⟩, r2, r3⟩) 512 (Nat.le_refl _)
    refine ⟨fun m => (h1 m).trans ⟨fun ⟨r1, r2, r3, _⟩ => ⟨r1, r2, r3⟩, fun ⟨r1, r2, r3⟩ => ⟨r1, r2, r3, idx_lt _ _⟩⟩, fun m hm' => ?_, h3⟩
    have := h2 m hm'
    rcases (show l = 0 ∨ l = 1 by omega) with rfl | rfl
    · rw [show 0 + 1 = 1 from rfl, sp1] at this
      rw [show 0 + 1 + 1 = 2 from rfl, sp2]
      omega
    · rw [show 1 + 1 = 2 from rfl, sp2] at this
      rw [show 1 + 1 + 1 = 3 from rfl, sp3]
      omega
/-- All pages: those that are mapped, by their addresses. -/
theorem Inv.pages_all (h : Inv c σ L T) : (∀ m, m ∈ pagesM c.n σ.S 2 c.root 0 ↔ m ∈ L) ∧ (pagesM c.n σ.S 2 c.root 0).Pairwise (fun a b => a.va < b.va) ∧ PgOK c.n σ.S 2 c.root := by
  have ht := tab_top c.root T (canV 0)
  obtain ⟨h1, h2, h3⟩ := h.pages_low 2 c.root 0 (by decide) (by decide) (by decide) ht
  have hmem : ∀ m, m ∈ pagesM c.n σ.S 2 c.root 0 ↔ m ∈ L := fun m => (h1 m).trans ⟨fun ⟨a, _, _⟩ => a, fun a => ⟨a, (h.pg m a).1, .inl rfl⟩⟩
  refine ⟨hmem, h3.imp_of_mem (fun {a b} ha hb hab => ?_), h.pgok 2 c.root 0 (by decide) (by decide) (by decide) ht⟩
  obtain ⟨_, p2, p3, _⟩ := h.pg a ((hmem a).1 ha)
  obtain ⟨_, q2, q3, _⟩ := h.pg b ((hmem b).1 hb)
  rw [← low_canV p2 p3, ← low_canV q2 q3]
  exact canV_mono hab (Nat.mod_lt _ (by decide))
end
end Go.Proofs.YtophcgbddccpeaaGreat
