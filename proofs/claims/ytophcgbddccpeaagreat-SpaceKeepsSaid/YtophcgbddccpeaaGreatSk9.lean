/- Merged texts: TabP, TabQ, TabX, TlbA, TlbB, TlbC. -/
import Derived.Test.YtophcgbddccpeaaGreatSk8
import Derived.Test.YtophcgbddccpeaaGreatWide
import Derived.Test.YtophcgbddccpeaaGreatSep
import Derived.Test.YtophcgbddccpeaaGreatReads
/- Plain laws: tables by their pages alone; the list of pages is sorted by insertion. -/
namespace Go.Proofs.YtophcgbddccpeaaGreat
open Go.RowKit

theorem fi_spec {α : Type} (p : α → Bool) : ∀ L : List α, match L.findIdx? p with
    | some i => ∃ x, L[i]? = some x ∧ L.find? p = some x
    | none => L.find? p = none
  | [] => rfl
  | a :: L => by
    have ih := fi_spec p L
    rw [List.findIdx?_cons, List.find?_cons]
    cases hp : p a with
    | true => exact ⟨a, rfl, rfl⟩
    | false =>
      simp only
      cases e : L.findIdx? p with
      | none => rw [e] at ih; exact ih
      | some i =>
        rw [e] at ih
        obtain ⟨x, h1, h2⟩ := ih
        exact ⟨x, by simpa using h1, h2⟩
def pageI (L : List Mp) (va l : Nat) : Option Nat := L.findIdx? (fun m => m.lev == l && m.va == baseN va l)
theorem pageI_some {L : List Mp} {va l i : Nat} (h : pageI L va l = some i) : ∃ m, L[i]? = some m ∧ pageP L va l = some m := by
  have h2 := fi_spec (fun m : Mp => m.lev == l && m.va == baseN va l) L
  unfold pageI at h
  rw [h] at h2
  exact h2
theorem pageI_none {L : List Mp} {va l : Nat} (h : pageI L va l = none) : pageP L va l = none := by
  have h2 := fi_spec (fun m : Mp => m.lev == l && m.va == baseN va l) L
  unfold pageI at h
  rw [h] at h2
  exact h2
def holdsI (L : List Mp) (va : Nat) : Option Nat :=
  if canonB va then
    match pageI L va 0 with
    | some i => some i
    | none => match pageI L va 1 with
      | some i => some i
      | none => pageI L va 2
  else none
/-- What tables stand for, ahead of their bytes. -/
structure Like (c : TC) (σ : TS) (x : XS) : Prop where
  inv : Inv c σ x.L x.T
  k : σ.k = x.k
  u : σ.u = x.k
def mapL (c : TC) (x : XS) (va : Nat) (l : Int) (p : Pte) : Int × XS := if canonB va && mayB p l then mapX c va l.toNat p (2 - l.toNat) x else (2, x)
def changeL (x : XS) (va : Nat) (p : Pte) : Int × XS :=
  match holdsI x.L va with
  | none => (51, x)
  | some i => match x.L[i]? with
    | none => (51, x)
    | some m => if mayB p (m.lev : Int) then (0, ⟨x.L.set i ⟨m.va, m.lev, p⟩, x.T, x.k⟩) else (2, x)
def unmapL (x : XS) (va : Nat) : Pte × Int × XS :=
  match holdsI x.L va with
  | none => (pte0, 51, x)
  | some i => match x.L[i]? with
    | none => (pte0, 51, x)
    | some m => (m.p, 0, ⟨x.L.eraseIdx i, x.T, x.k⟩)
section
variable {c : TC} {σ : TS} {L : List Mp} {T : List Tb} {x : XS}
theorem Inv.found (h : Inv c σ L T) {va : Nat} (hv : va < 18446744073709551616) : match holdsI L va with
    | some i => ∃ m t, L[i]? = some m ∧ m.lev ≤ 2 ∧ canonB va = true ∧ pageP L va m.lev = some m ∧ tabF c.root T va m.lev = some t ∧ findT c σ va = .leaf m.p.word m.lev (atX va t m.lev) ∧ entP m.p.word = m.p
    | none => findT c σ va = .err 51 := by
  cases hc : canonB va with
  | false =>
    have e : holdsI L va = none := by unfold holdsI; rw [if_neg (by rw [hc]; decide)]
    rw [e]
    exact tab_find_none h hv (.inl hc)
  | true =>
    have e : holdsI L va = (match pageI L va 0 with
      | some i => some i
      | none => match pageI L va 1 with
        | some i => some i
        | none => pageI L va 2) := by unfold holdsI; rw [if_pos hc]
    have key : ∀ (i : Nat) (m : Mp), L[i]? = some m → holdsP L va = some m → ∃ m t, L[i]? = some m ∧ m.lev ≤ 2 ∧ true = true ∧ pageP L va m.lev = some m ∧ tabF c.root T va m.lev = some t ∧ findT c σ va = .leaf m.p.word m.lev (atX va t m.lev) ∧ entP m.p.word = m.p := by
      intro i m h1 h2
      obtain ⟨t, g1, g2, g3, g4⟩ := find_some h hv hc h2
      obtain ⟨hmL, _, _⟩ := page_some g3
      obtain ⟨_, _, _, _, hmay, hwf⟩ := h.pg m hmL
      exact ⟨m, t, h1, g2, rfl, g3, g1, g4, (may_word hmay hwf).2.2.2.1⟩
    rw [e]
    cases e0 : pageI L va 0 with
    | some i =>
      obtain ⟨m, h1, h2⟩ := pageI_some e0
      exact key i m h1 (by unfold holdsP; rw [h2])
    | none =>
      cases e1 : pageI L va 1 with
      | some i =>
        obtain ⟨m, h1, h2⟩ := pageI_some e1
        exact key i m h1 (by unfold holdsP; rw [pageI_none e0, h2])
      | none =>
        cases e2 : pageI L va 2 with
        | some i =>
          obtain ⟨m, h1, h2⟩ := pageI_some e2
          exact key i m h1 (by unfold holdsP; rw [pageI_none e0, pageI_none e1, h2])
        | none => exact tab_find_none h hv (.inr (by unfold holdsP; rw [pageI_none e0, pageI_none e1, pageI_none e2]))
theorem may_lev {p : Pte} {l : Int} (h : mayB p l = true) : 0 ≤ l ∧ l < 3 := by
  unfold mayB at h
  simp only [Bool.and_eq_true] at h
  have := h.1
  unfold levelB at this
  simp only [Bool.or_eq_true, beq_iff_eq] at this
  omega
theorem map_law (h : Like c σ x) {va : Nat} (hv : va < 18446744073709551616) (l : Int) {p : Pte} (hw : PteWf p) : (mapR c σ va l p).1 = (mapL c x va l p).1 ∧ Like c (mapR c σ va l p).2 (mapL c x va l p).2 := by
  unfold mapR mapL
  by_cases hb : (canonB va && mayB p l) = true
  · rw [if_pos hb, if_pos hb]
    rw [Bool.and_eq_true] at hb
    obtain ⟨h0, h3⟩ := may_lev hb.2
    have hl : ((l.toNat : Nat) : Int) = l := by omega
    obtain ⟨r1, r2, r3, r4⟩ := map_spec va l.toNat p hv hb.1 (by rw [hl]; exact hb.2) hw (2 - l.toNat) c σ x.L x.T c.root h.inv (by omega) (by rw [show l.toNat + (2 - l.toNat) = 2 by omega]; exact tab_top _ _ _)
    have hx : (⟨x.L, x.T, σ.k⟩ : XS) = x := by rw [h.k]
    rw [hx] at r1 r2 r3
    refine ⟨r1, r2, r3, ?_⟩
    have := h.k
    have := h.u
    omega
  · rw [if_neg hb, if_neg hb]
    exact ⟨rfl, h⟩
theorem change_law (h : Like c σ x) {va : Nat} (hv : va < 18446744073709551616) {p : Pte} (hw : PteWf p) : (changeR c σ va p).1 = (changeL x va p).1 ∧ Like c (changeR c σ va p).2 (changeL x va p).2 := by
  have hf := h.inv.found hv
  unfold changeR changeL
  cases e : holdsI x.L va with
  | none =>
    rw [e] at hf
    simp only at hf
    rw [hf]
    exact ⟨rfl, h⟩
  | some i =>
    rw [e] at hf
    obtain ⟨m, t, g1, g2, gc, g3, g4, g5, g6⟩ := hf
    simp only
    rw [g5, g1]
    simp only
    by_cases hm : mayB p (m.lev : Int) = true
    · rw [if_pos hm, if_pos hm]
      exact ⟨rfl, h.inv.put hv gc g2 g4 hm hw g3 g1 σ.u, h.k, h.u⟩
    · rw [if_neg hm, if_neg hm]
      exact ⟨rfl, h⟩
theorem unmap_law (h : Like c σ x) {va : Nat} (hv : va < 18446744073709551616) : (unmapR c σ va).1 = (unmapL x va).1 ∧ (unmapR c σ va).2.1 = (unmapL x va).2.1 ∧ Like c (unmapR c σ va).2.2 (unmapL x va).2.2 := by
  have hf := h.inv.found hv
  unfold unmapR unmapL
  cases e : holdsI x.L va with
  | none =>
    rw [e] at hf
    simp only at hf
    rw [hf]
    exact ⟨rfl, rfl, h⟩
  | some i =>
    rw [e] at hf
    obtain ⟨m, t, g1, g2, gc, g3, g4, g5, g6⟩ := hf
    simp only
    rw [g5, g1]
    exact ⟨g6, rfl, h.inv.del hv gc g2 g4 g3 g1 σ.u, h.k, h.u⟩
end
theorem wd_empty (n t i : Nat) : wdX n emptyS t i = 0 := ld_empty _ _
/-- Tables that are new. -/
theorem start_law (c : TC) (hn : c.n ≤ 1048576) (h : newE c emptyS 0 = 0) : Like (c.at_ (c.first + 0)) (newS c emptyS 0) ⟨[], [], 1⟩ := by
  unfold newE takeE at h
  by_cases h1 : (0 : Nat) = c.N
  · rw [if_pos h1] at h; cases h
  · rw [if_neg h1] at h
    by_cases h2 : c.n ≤ c.first + 0
    · rw [if_pos h2] at h; cases h
    · have hS : newS c emptyS 0 = ⟨updS emptyS (c.first + 0) zeroL, 1, 1⟩ := by
        unfold newS takeS
        rw [if_neg h1, if_neg h2]
      rw [hS]
      refine ⟨{ full := Full.empty.upd _, n := hn, root := by show c.first + 0 < c.n; omega, tab := fun b hb => by simp at hb, rfresh := by show c.first + 0 < c.first + 1; omega, fresh := fun b hb => by simp at hb, inj := fun b hb => by simp at hb, up := fun b hb => by simp at hb, pg := fun m hm => by simp at hm, has := fun m hm => by simp at hm, excl := fun m hm => by simp at hm, pkey := List.Pairwise.nil, wd := fun va l t hv hc hl ht => ?_ }, rfl, rfl⟩
      show wdX c.n (updS emptyS (c.first + 0) zeroL) t (indexV va (l : Int)) = _
      rw [wd_zero (idx_lt va l), wd_empty]
      have e : entW (c.at_ (c.first + 0)).root [] [] va l = 0 := by
        unfold entW pageP tabF
        simp only [List.find?_nil, Option.map_none]
        split
        · rfl
        · rename_i h0
          rw [if_neg (by omega)]
      rw [e]
      split <;> rfl
/-- The place at which a page is put among those that stand. -/
def posN (out : List Mp) (v : Nat) : Nat → Nat
  | 0 => 0
  | i + 1 => match out[i]? with
    | some m => if v < m.va then posN out v i else i + 1
    | none => i + 1
def insM (out : List Mp) (m : Mp) : List Mp := out.take (posN out m.va out.length) ++ m :: out.drop (posN out m.va out.length)
def sortM (L : List Mp) : List Mp := L.foldl insM []
theorem posN_le (out : List Mp) (v : Nat) : ∀ i, posN out v i ≤ i
  | 0 => Nat.le_refl _
  | i + 1 => by
    unfold posN
    split
    · split
      · exact Nat.le_trans (posN_le out v i) (Nat.le_succ _)
      · exact Nat.le_refl _
    · exact Nat.le_refl _
theorem posN_hi (out : List Mp) (v : Nat) (i : Nat) : ∀ (j : Nat) (m : Mp), posN out v i ≤ j → j < i → out[j]? = some m → v < m.va := by
  induction i with
  | zero => intro j m h1 h2; exact absurd h2 (Nat.not_lt_zero _)
  | succ i ih =>
    intro j m h1 h2 h3
    unfold posN at h1
    cases e : out[i]? with
    | none =>
      rw [e] at h1
      exact absurd h2 (Nat.not_lt.2 h1)
    | some m' =>
      rw [e] at h1
      simp only at h1
      by_cases hlt : v < m'.va
      · rw [if_pos hlt] at h1
        rcases Nat.lt_or_ge j i with h4 | h4
        · exact ih j m h1 h4 h3
        · have hj : j = i := Nat.le_antisymm (Nat.lt_succ_iff.1 h2) h4
          rw [hj, e] at h3
          injection h3 with h3
          rw [← h3]; exact hlt
      · rw [if_neg hlt] at h1
        exact absurd h2 (Nat.not_lt.2 h1)
theorem posN_lo (out : List Mp) (v : Nat) : ∀ i, i ≤ out.length → posN out v i = 0 ∨ ∃ m, out[posN out v i - 1]? = some m ∧ m.va ≤ v
  | 0, _ => .inl rfl
  | i + 1, h => by
    have hi : out[i]? = some out[i] := List.getElem?_eq_getElem (by omega)
    unfold posN
    rw [hi]
    simp only
    split
    · exact posN_lo out v i (by omega)
    · rename_i h1
      exact .inr ⟨out[i], hi, by omega⟩
theorem ins_mem (out : List Mp) (m a : Mp) : a ∈ insM out m ↔ a = m ∨ a ∈ out := by
  unfold insM
  rw [List.mem_append, List.mem_cons]
  have h := List.take_append_drop (posN out m.va out.length) out
  constructor
  · rintro (h1 | h1 | h1)
    · exact .inr (List.mem_of_mem_take h1)
    · exact .inl h1
    · exact .inr (List.mem_of_mem_drop h1)
  · rintro (h1 | h1)
    · exact .inr (.inl h1)
    · rw [← h] at h1
      rcases List.mem_append.1 h1 with h2 | h2
      · exact .inl h2
      · exact .inr (.inr h2)
theorem ins_len (out : List Mp) (m : Mp) : (insM out m).length = out.length + 1 := by
  unfold insM
  rw [List.length_append, List.length_cons, List.length_take, List.length_drop]
  have := posN_le out m.va out.length
  omega
def VaLt (L : List Mp) : Prop := L.Pairwise (fun a b => a.va < b.va)
theorem ins_sorted {out : List Mp} {m : Mp} (h : VaLt out) (hn : ∀ a ∈ out, a.va ≠ m.va) : VaLt (insM out m) := by
  have hp := posN_le out m.va out.length
  have hhi := posN_hi out m.va out.length
  have hlo := posN_lo out m.va out.length (Nat.le_refl _)
  unfold insM VaLt
  generalize posN out m.va out.length = p at *
  have hlow : ∀ a ∈ out.take p, a.va < m.va := by
    intro a ha
    obtain ⟨j, hj, rfl⟩ := List.getElem_of_mem ha
    rw [List.length_take] at hj
    rw [List.getElem_take]
    have hne := hn _ (List.getElem_mem (show j < out.length by omega))
    rcases hlo with h0 | ⟨b, hb, hbv⟩
    · omega
    · have hbl : p - 1 < out.length := by omega
      rw [List.getElem?_eq_getElem hbl] at hb
      injection hb with hb
      rcases Nat.lt_or_ge j (p - 1) with h1 | h1
      · have := List.pairwise_iff_getElem.1 h j (p - 1) (by omega) hbl h1
        rw [hb] at this
        omega
      · have e : j = p - 1 := by omega
        subst e
        rw [hb] at hne ⊢
        omega
  have hhigh : ∀ a ∈ out.drop p, m.va < a.va := by
    intro a ha
    obtain ⟨j, hj, rfl⟩ := List.getElem_of_mem ha
    rw [List.length_drop] at hj
    rw [List.getElem_drop]
    exact hhi (p + j) _ (by omega) (by omega) (List.getElem?_eq_getElem (by omega))
  refine List.pairwise_append.2 ⟨h.sublist (List.take_sublist _ _), List.pairwise_cons.2 ⟨hhigh, h.sublist (List.drop_sublist _ _)⟩, fun a ha b hb => ?_⟩
  rcases List.mem_cons.1 hb with rfl | hb
  · exact hlow a ha
  · exact Nat.lt_trans (hlow a ha) (hhigh b hb)
def VaNe (L : List Mp) : Prop := L.Pairwise (fun a b => a.va ≠ b.va)
theorem sort_from : ∀ (L out : List Mp), VaNe L → VaLt out → (∀ a ∈ out, ∀ b ∈ L, a.va ≠ b.va) → VaLt (L.foldl insM out) ∧ (∀ a, a ∈ L.foldl insM out ↔ a ∈ out ∨ a ∈ L) ∧ (L.foldl insM out).length = out.length + L.length
  | [], out, _, h, _ => ⟨h, fun a => by simp, by simp⟩
  | m :: L, out, hL, h, hd => by
    rw [List.foldl_cons]
    obtain ⟨h1, h2⟩ := List.pairwise_cons.1 hL
    obtain ⟨r1, r2, r3⟩ := sort_from L (insM out m) h2 (ins_sorted h (fun a ha => hd a ha m (by simp))) (fun a ha b hb => by
      rcases (ins_mem out m a).1 ha with rfl | ha
      · exact h1 b hb
      · exact hd a ha b (by simp [hb]))
    refine ⟨r1, fun a => ?_, ?_⟩
    · rw [r2, ins_mem, List.mem_cons, or_assoc, or_comm (a := a = m), or_assoc, or_comm (a := a ∈ L)]
    · rw [r3, ins_len, List.length_cons]; omega
theorem sort_spec {L : List Mp} (h : VaNe L) : VaLt (sortM L) ∧ (∀ a, a ∈ sortM L ↔ a ∈ L) ∧ (sortM L).length = L.length := by
  obtain ⟨r1, r2, r3⟩ := sort_from L [] h List.Pairwise.nil (fun a ha => by simp at ha)
  exact ⟨r1, fun a => (r2 a).trans (by simp), by rw [sortM, r3, List.length_nil, Nat.zero_add]⟩
theorem sorted_one : ∀ {A B : List Mp}, VaLt A → VaLt B → (∀ m, m ∈ A ↔ m ∈ B) → A = B
  | [], [], _, _, _ => rfl
  | [], b :: B, _, _, h => absurd ((h b).2 (by simp)) (by simp)
  | a :: A, [], _, _, h => absurd ((h a).1 (by simp)) (by simp)
  | a :: A, b :: B, hA, hB, h => by
    obtain ⟨a1, a2⟩ := List.pairwise_cons.1 hA
    obtain ⟨b1, b2⟩ := List.pairwise_cons.1 hB
    have hab : a = b := by
      rcases List.mem_cons.1 ((h a).1 (by simp)) with e | e
      · exact e
      · rcases List.mem_cons.1 ((h b).2 (by simp)) with e2 | e2
        · exact e2.symm
        · have := b1 a e
          have := a1 b e2
          omega
    subst hab
    rw [sorted_one a2 b2 (fun m => ⟨fun hm => ?_, fun hm => ?_⟩)]
    · rcases List.mem_cons.1 ((h m).1 (by simp [hm])) with e | e
      · subst e; exact absurd (a1 m hm) (Nat.lt_irrefl _)
      · exact e
    · rcases List.mem_cons.1 ((h m).2 (by simp [hm])) with e | e
      · subst e; exact absurd (b1 m hm) (Nat.lt_irrefl _)
      · exact e
theorem VaLt.same {A : List Mp} (h : VaLt A) {a b : Mp} (ha : a ∈ A) (hb : b ∈ A) (e : a.va = b.va) : a = b := by
  obtain ⟨i, hi, rfl⟩ := List.getElem_of_mem ha
  obtain ⟨j, hj, rfl⟩ := List.getElem_of_mem hb
  rcases Nat.lt_trichotomy i j with h1 | h1 | h1
  · have := List.pairwise_iff_getElem.1 h i j hi hj h1; omega
  · subst h1; rfl
  · have := List.pairwise_iff_getElem.1 h j i hj hi h1; omega
/-- The list of pages is the pages, sorted. -/
theorem Inv.pages_sort {c : TC} {σ : TS} {L : List Mp} {T : List Tb} (h : Inv c σ L T) : pagesM c.n σ.S 2 c.root 0 = sortM L ∧ (pagesM c.n σ.S 2 c.root 0).length = L.length ∧ PgOK c.n σ.S 2 c.root ∧ VaNe L := by
  obtain ⟨h1, h2, h3⟩ := h.pages_all
  have hne : VaNe L := by
    refine h.pkey.imp_of_mem (fun {a b} ha hb hab e => hab ?_)
    have := VaLt.same h2 ((h1 a).2 ha) ((h1 b).2 hb) e
    rw [this]
    exact ⟨rfl, rfl⟩
  obtain ⟨s1, s2, s3⟩ := sort_spec hne
  have e : pagesM c.n σ.S 2 c.root 0 = sortM L := sorted_one h2 s1 (fun m => (h1 m).trans (s2 m).symm)
  exact ⟨e, by rw [e, s3], h3, hne⟩
end Go.Proofs.YtophcgbddccpeaaGreat

/- The reference's tables: the object; base, take, New. -/
namespace Go.Proofs.YtophcgbddccpeaaGreat
open Go.RowKit

def Mp.cs (m : Mp) : Array Value := m.vs.toArray
theorem mcs_list (m : Mp) : m.cs.toList = m.vs := rfl
theorem mcs_size (m : Mp) : m.cs.size = 12 := rfl
theorem mrow (m : Mp) : rowT Tryz.prog 102 m.cs.size = true := by rw [mcs_size]; kernel_rfl
theorem mvs_one (m : Mp) : ∀ u ∈ m.vs, u.oneCell' = true := fun u hu => one_mp [m] u (by simpa using hu)
theorem mcs_one (m : Mp) : m.cs.all (·.oneCell') = true := Array.all_eq_true_iff_forall_mem.2 fun u hu => mvs_one m u (by rw [← mcs_list]; simpa using hu)
theorem mcs_0 (m : Mp) : m.cs[0]? = some (.int .u64 (m.va : Int)) := rfl
theorem mcs_1 (m : Mp) : m.cs[1]? = some (.int .i64 (m.lev : Int)) := rfl
def Tb.vs (b : Tb) : List Value := [.int .i64 (b.lev : Int), .int .u64 (b.va : Int)]
theorem one_tb (T : List Tb) : ∀ u ∈ T.flatMap Tb.vs, u.oneCell' = true := by
  intro u hu
  obtain ⟨m, _, hm⟩ := List.mem_flatMap.1 hu
  unfold Tb.vs at hm
  simp only [List.mem_cons, List.not_mem_nil, or_false] at hm
  rcases hm with rfl | rfl <;> rfl
theorem fl_len {α : Type} {f : α → List Value} {s : Nat} (hs : ∀ x, (f x).length = s) : ∀ L : List α, (L.flatMap f).length = L.length * s
  | [] => by simp
  | x :: L => by rw [List.flatMap_cons, List.length_append, fl_len hs L, hs, List.length_cons, Nat.succ_mul, Nat.add_comm]
theorem fl_get {α : Type} {f : α → List Value} {s : Nat} (hs : ∀ x, (f x).length = s) : ∀ (L : List α) (k j : Nat) (x : α), L[k]? = some x → j < s → (L.flatMap f)[k * s + j]? = (f x)[j]?
  | [], k, j, x, h, _ => by simp at h
  | y :: L, 0, j, x, h, hj => by
    simp only [List.getElem?_cons_zero, Option.some.injEq] at h
    subst h
    rw [List.flatMap_cons, Nat.zero_mul, Nat.zero_add, List.getElem?_append_left (by rw [hs]; exact hj)]
  | y :: L, k + 1, j, x, h, hj => by
    rw [List.getElem?_cons_succ] at h
    rw [List.flatMap_cons, List.getElem?_append_right (by rw [hs, Nat.succ_mul]; omega), hs, show (k + 1) * s + j - s = k * s + j by rw [Nat.succ_mul]; omega]
    exact fl_get hs L k j x h hj
/-- A slice that reads as these elements. -/
def RdX {α : Type} (f : α → List Value) (s : Nat) (w : World) (A : Option Addr) (L : List α) : Prop := L ≠ [] → ∃ b, A = some ⟨b, 0, none⟩ ∧ b < w.heap.size ∧ ∀ k x, L[k]? = some x → w.rangeAt b (k * s) (f x)
theorem RdX.below {α : Type} {f : α → List Value} {s : Nat} {w w' : World} {A : Option Addr} {L : List α} (h : RdX f s w A L) (hb : Below w.heap.size w w') : RdX f s w' A L := fun hne => by
  obtain ⟨b, e, hl, hc⟩ := h hne
  exact ⟨b, e, Nat.lt_of_lt_of_le hl hb.size, fun k x hx => range_below (hc k x hx) hb⟩
theorem RdX.of_own {α : Type} {f : α → List Value} {s : Nat} {w : World} {base n c : Nat} {e : TypeId} {A : Option Addr} {L : List α} (hs : ∀ x, (f x).length = s) (h : w.ownsRow base e s (.slice A n c) n (L.flatMap f)) (hn : n = L.length) : RdX f s w A L := by
  subst hn
  rcases h.2 with ⟨h1, h2⟩ | ⟨g, cap, cur, h1, hb, hh, hc, _, _, ht⟩
  · exact fun hne => absurd (List.eq_nil_of_length_eq_zero h2) hne
  · injection h1 with h1 _ _
    subst h1
    refine fun _ => ⟨g, rfl, ?_, fun k x hx j u hj => ?_⟩
    · have hg : Blk w g e cur := hh
      exact hg.lt
    · have hlt : k < L.length := (List.getElem?_eq_some_iff.1 hx).1
      have hjs : j < s := by rw [← hs x]; exact (List.getElem?_eq_some_iff.1 hj).1
      have hjl : k * s + j < L.length * s := Nat.lt_of_lt_of_le (by rw [Nat.succ_mul]; omega : k * s + j < (k + 1) * s) (Nat.mul_le_mul_right s hlt)
      rw [cell_of_row w g (k * s + j) cur _ _ hh, ← hj, ← fl_get hs L k j x hx hjs, ← ht, List.getElem?_take, if_pos hjl, Array.getElem?_toList]
theorem tvs_len (b : Tb) : b.vs.length = 2 := rfl
theorem mvs_12 (m : Mp) : m.vs.length = 12 := rfl
theorem own_zero {w : World} {base : Nat} {e : TypeId} {s n : Nat} {v : Value} {xs : List Value} (h : w.ownsRow base e s v n xs) : w.ownsRow 0 e s v n xs := by
  refine ⟨h.1, ?_⟩
  rcases h.2 with h' | ⟨g, cap, cur, a1, a2, a3⟩
  · exact .inl h'
  · exact .inr ⟨g, cap, cur, a1, Nat.zero_le _, a3⟩
theorem own_form {w : World} {base : Nat} {e : TypeId} {s n : Nat} {v : Value} {xs : List Value} (h : w.ownsRow base e s v n xs) : ∃ A c, v = .slice A n c := by
  rcases h.2 with ⟨rfl, h0⟩ | ⟨g, cap, cur, rfl, _⟩
  · exact ⟨none, 0, by rw [h0]⟩
  · exact ⟨_, _, rfl⟩
theorem own_max {w : World} {base : Nat} {e : TypeId} {s n : Nat} {v : Value} {xs : List Value} (h : w.ownsRow base e s v n xs) : n ≤ maxLen := by
  rcases h.2 with ⟨rfl, h0⟩ | ⟨g, cap, cur, rfl, _, _, hc, hm, _⟩
  · rw [h0]; exact Nat.zero_le _
  · exact Nat.le_trans hc hm
section
variable {W w w' : World} {rb : Nat} {c : TC} {x : XS} {F H : Nat → Prop}
end
/-- What the reference's take comes to. -/
def rtakeE (c : TC) (x : XS) : Int := if x.k = c.N then 50 else if c.n ≤ c.first + x.k then 61 else 0
def rtakeX (c : TC) (x : XS) : XS := if x.k = c.N then x else if c.n ≤ c.first + x.k then x else ⟨x.L, x.T, x.k + 1⟩
/-- The numbers are small. -/
def Small (c : TC) (x : XS) : Prop := c.first ≤ 1048576 ∧ c.N ≤ 1048576 ∧ c.n ≤ 1048576 ∧ x.k ≤ 1048576
section
variable (rb : Nat) (c : TC) (x : XS) (F : Nat → Prop) (W : World)
end
end Go.Proofs.YtophcgbddccpeaaGreat

/- Same; tables that are nil; what the methods come to, whole. -/
namespace Go.Proofs.YtophcgbddccpeaaGreat
open Go.RowKit

def MpWf (m : Mp) : Prop := PteWf m.p ∧ m.va < 18446744073709551616 ∧ m.lev ≤ 2
def Mp.lits (m : Mp) : List Lit := [.int .u64 (m.va : Int), .int .i64 (m.lev : Int)] ++ m.p.lits
theorem c_mapped : Tryz.prog.cellsOf 102 = 12 := by kernel_rfl
theorem key_mapped (d : Nat) (m : Mp) (h : MpWf m) : Tryz.prog.keyLits (d + 4) 102 m.cs.toList = some m.lits := by
  obtain ⟨h1, h2, h3⟩ := h
  have hp := key_pte' (d + 1) m.p h1
  have e1 := wfu (n := (m.va : Int)) (by omega) (by omega)
  have e2 := wf64 (n := (m.lev : Int)) (by omega) (by omega)
  rw [mcs_list]
  unfold Program.keyLits Mp.vs Mp.lits
  unfold Pte.cs at *
  simp [Tryz.underlying102, c_mapped, c_pte, c_int, c_u64, key_int, key_u64, hp, e1, e2]
theorem mp_same (W : World) (m : Mp) (h : MpWf m) : (Op.equalIn 10000 102 (.agg m.cs) (.agg m.cs)).run Tryz.prog W = .ok true W := by
  have hd := run_equalIn_deep (P := Tryz.prog) 9994 6 102 (by kernel_rfl)
  obtain ⟨r, hr, hi⟩ := hd W 6 6 _ _ _ _ (by kernel_rfl : (Value.agg m.cs).formed Tryz.prog 102 = true) (by kernel_rfl : (Value.agg m.cs).formed Tryz.prog 102 = true) (key_mapped 2 m h) (key_mapped 2 m h)
  rw [hi.2 rfl] at hr
  exact hr
theorem Map_t (c : TC) (σ : TS) (Fm Fs : Nat → Prop) (va : Nat) (p : Pte) (l : Int) (W : World) (h : TabAt W c σ Fm Fs) (hv : va < 18446744073709551616) (hw : PteWf p) :
    Calls Tryz.prog 43 #[.pointer (some ⟨c.tb, 0, none⟩), .int .u64 (va : Int), .int .i64 l, .agg p.cs] W fun e w' => e = .returned (.int .i64 (mapR c σ va l p).1) ∧ TabTo W c (mapR c σ va l p).2 Fm Fs w' := by
  obtain ⟨h1, h2⟩ := u64_of_wf hw.2
  have hp : (⟨p.v, p.r, p.w, p.x, p.u, p.g, p.a, p.d, p.rsw, ((p.ppn.toNat : Nat) : Int)⟩ : Pte) = p := by rw [show ((p.ppn.toNat : Nat) : Int) = p.ppn by omega]
  by_cases hb : canonB va = true ∧ mayB p l = true
  · obtain ⟨h0, h3⟩ := may_lev hb.2
    have hl : ((l.toNat : Nat) : Int) = l := by omega
    have := map_yes c σ Fm Fs va p.v p.r p.w p.x p.u p.g p.a p.d p.rsw p.ppn.toNat l.toNat W h hv hw.1 (by omega) hb.1 (by rw [hp, hl]; exact hb.2) (by omega)
    rw [hp, hl, show ((p.ppn.toNat : Nat) : Int) = p.ppn by omega] at this
    exact this
  · have := map_no c σ Fm Fs va p.v p.r p.w p.x p.u p.g p.a p.d p.rsw p.ppn.toNat l W h hv hw.1 (by omega) (fun hc => by rw [hp]; cases e : mayB p l with | true => exact absurd ⟨hc, e⟩ hb | false => rfl)
    rw [hp, show ((p.ppn.toNat : Nat) : Int) = p.ppn by omega] at this
    exact this
theorem Change_t (c : TC) (σ : TS) (Fm Fs : Nat → Prop) (va : Nat) (p : Pte) (W : World) (h : TabAt W c σ Fm Fs) (hv : va < 18446744073709551616) (hw : PteWf p) :
    Calls Tryz.prog 48 #[.pointer (some ⟨c.tb, 0, none⟩), .int .u64 (va : Int), .agg p.cs] W fun e w' => e = .returned (.int .i64 (changeR c σ va p).1) ∧ TabTo W c (changeR c σ va p).2 Fm Fs w' := by
  obtain ⟨h1, h2⟩ := u64_of_wf hw.2
  have hp : (⟨p.v, p.r, p.w, p.x, p.u, p.g, p.a, p.d, p.rsw, ((p.ppn.toNat : Nat) : Int)⟩ : Pte) = p := by rw [show ((p.ppn.toNat : Nat) : Int) = p.ppn by omega]
  cases hf : findT c σ va with
  | err e =>
    have := change_err c σ Fm Fs va p.v p.r p.w p.x p.u p.g p.a p.d p.rsw p.ppn.toNat W h hv hw.1 (by omega) e hf
    rw [hp, show ((p.ppn.toNat : Nat) : Int) = p.ppn by omega] at this
    exact this
  | leaf X L A =>
    have := change_leaf c σ Fm Fs va p.v p.r p.w p.x p.u p.g p.a p.d p.rsw p.ppn.toNat W h hv hw.1 (by omega) X L A hf
    rw [hp, show ((p.ppn.toNat : Nat) : Int) = p.ppn by omega] at this
    exact this
section
variable (W : World)
theorem Root_nil : Calls Tryz.prog 26 #[.pointer none] W fun e w' => e = .returned (.int .i64 (-1)) ∧ W = w' := by
  go_enter Tryz.func26, Tryz.ntmps26
  go_wp2_with fail
  go_ret
  exact ⟨rfl, rfl⟩
theorem Find_nil (va : Int) : Calls Tryz.prog 73 #[.pointer none, .int .u64 va] W fun e w' => e = .returned (.tuple #[.agg lf0.cs, .int .i64 1]) ∧ Below W.heap.size W w' := by
  have hb := (Below.refl W.heap.size W).alloc (Nat.le_refl _) (.cells #[.bool false, .bool false, .bool false, .bool false, .bool false, .bool false, .bool false, .bool false, .int .i64 0, .int .u64 0, .int .i64 0, .int .u64 0] 98)
  have HPB : Hid (Blk (W.alloc (.cells #[.bool false, .bool false, .bool false, .bool false, .bool false, .bool false, .bool false, .bool false, .int .i64 0, .int .u64 0, .int .i64 0, .int .u64 0] 98)) W.heap.size 98 lf0.cs) := Lib.hid (Blkf.new_at _ _ _ _ rfl)
  have HB := Lib.hid hb
  clear hb
  go_enter Tryz.func73, Tryz.ntmps73
  go_wp2_with (first | ((with_reducible refine wl_store 98 (.tmp 4) (.tmp 7) rfl ?_ W.heap.size 98 _ lf0.cs ?_ ?_ HPB.out ?_ ?_ ?_ ?_); exact rfl; exact rfl; exact rfl; exact rfl; exact lrow lf0; exact lcs_one lf0))
  refine bodyPost_ret (res_cell_slot (cs := lf0.cs) (v := .int .i64 1) rfl _ _ W.heap.size 98 rfl rfl HPB.out (lrow lf0)) rfl ?_
  exact ⟨rfl, HB.out⟩
theorem Unmap_nil (va : Int) : Calls Tryz.prog 47 #[.pointer none, .int .u64 va] W fun e w' => e = .returned (.tuple #[.agg pte0.cs, .int .i64 1]) ∧ Below W.heap.size W w' := by
  have HB : Hid (Below W.heap.size W (W.alloc (.cells #[.bool false, .bool false, .bool false, .bool false, .bool false, .bool false, .bool false, .bool false, .int .i64 0, .int .u64 0] 96))) := Lib.hid ((Below.refl W.heap.size W).alloc (Nat.le_refl _) _)
  have HPB : Hid (Blk (W.alloc (.cells #[.bool false, .bool false, .bool false, .bool false, .bool false, .bool false, .bool false, .bool false, .int .i64 0, .int .u64 0] 96)) W.heap.size 96 pte0.cs) := Lib.hid (Blkf.new_at _ _ _ _ rfl)
  go_enter Tryz.func47, Tryz.ntmps47
  go_wp2_with fail
  generalize W.alloc (.cells #[.bool false, .bool false, .bool false, .bool false, .bool false, .bool false, .bool false, .bool false, .int .i64 0, .int .u64 0] 96) = w0 at *
  refine (Find_nil _ va).mono ?_
  rintro e w1 ⟨rfl, hb1⟩
  have HB1 := Lib.hid (HB.out.trans (hb1.mono HB.out.size))
  have HPB1 := Lib.hid (HPB.out.below hb1 HPB.out.lt)
  have HB2 : Hid (Below W.heap.size W (w1.alloc (.cells lf0.cs 98))) := Lib.hid (HB1.out.alloc HB1.out.size _)
  have HPB2 := Lib.hid (HPB1.out.alloc (.cells lf0.cs 98))
  clear hb1 HB HPB HB1 HPB1
  go_wp2_with (first | ((with_reducible refine wl_store_new 98 (.tmp 6) (.tmp 12) rfl ?_ w1 (World.heap w1).size 98 lf0.cs lf0.cs ?_ ?_ ?_ ?_ ?_ ?_ ?_ ?_); exact rfl; exact rfl; exact rfl; exact rfl; exact rfl; exact rfl; exact lrow lf0; exact lcs_one lf0) | ((with_reducible refine wl_store 96 (.tmp 4) (.tmp 16) rfl ?_ W.heap.size 96 pte0.cs pte0.cs ?_ ?_ HPB2.out ?_ ?_ ?_ ?_); exact rfl; exact rfl; exact rfl; exact rfl; exact prow pte0; exact pcs_one pte0))
  refine bodyPost_ret (res_cell_slot (cs := pte0.cs) (v := .int .i64 1) rfl _ _ W.heap.size 96 rfl rfl (HPB2.out.setRow _) (prow pte0)) rfl ?_
  exact ⟨rfl, below_setRow HB2.out (Nat.le_refl _) _⟩
theorem Change_nil (va : Int) (p : Pte) : Calls Tryz.prog 48 #[.pointer none, .int .u64 va, .agg p.cs] W fun e w' => e = .returned (.int .i64 1) ∧ Below W.heap.size W w' := by
  have HB : Hid (Below W.heap.size W (W.alloc (.cells p.cs 96))) := Lib.hid ((Below.refl W.heap.size W).alloc (Nat.le_refl _) _)
  go_enter Tryz.func48, Tryz.ntmps48
  go_wp2_with fail
  generalize W.alloc (.cells p.cs 96) = w0 at *
  refine (Find_nil _ va).mono ?_
  rintro e w1 ⟨rfl, hb1⟩
  have HB1 := Lib.hid (HB.out.trans (hb1.mono HB.out.size))
  have HB2 : Hid (Below W.heap.size W (w1.alloc (.cells lf0.cs 98))) := Lib.hid (HB1.out.alloc HB1.out.size _)
  clear hb1 HB HB1
  go_wp2_with (first | ((with_reducible refine wl_store_new 98 (.tmp 7) (.tmp 13) rfl ?_ w1 (World.heap w1).size 98 lf0.cs lf0.cs ?_ ?_ ?_ ?_ ?_ ?_ ?_ ?_); exact rfl; exact rfl; exact rfl; exact rfl; exact rfl; exact rfl; exact lrow lf0; exact lcs_one lf0))
  go_ret
  exact ⟨rfl, HB2.out⟩
theorem Map_nil (va l : Int) (p : Pte) : Calls Tryz.prog 43 #[.pointer none, .int .u64 va, .int .i64 l, .agg p.cs] W fun e w' => e = .returned (.int .i64 1) ∧ Below W.heap.size W w' := by
  have HB : Hid (Below W.heap.size W (W.alloc (.cells p.cs 96))) := Lib.hid ((Below.refl W.heap.size W).alloc (Nat.le_refl _) _)
  go_enter Tryz.func43, Tryz.ntmps43
  go_wp2_with fail
  go_ret
  exact ⟨rfl, HB.out⟩
end
end Go.Proofs.YtophcgbddccpeaaGreat

/- Entries and pages: the model; page, has, matches; the reference's Page. -/
namespace Go.Proofs.YtophcgbddccpeaaGreat
open Go.RowKit

structure Tf where
  (v r w x u g a d : Bool)
  (rsw : Int)
  (ppn : Nat)
  (lev : Int)
  (pos : Nat)
structure En where
  (full : Bool)
  (asid : Int)
  (page : Nat)
  (lf : Tf)
def Tf.vs (l : Tf) : List Value := [.bool l.v, .bool l.r, .bool l.w, .bool l.x, .bool l.u, .bool l.g, .bool l.a, .bool l.d, .int .i64 l.rsw, .int .u64 l.ppn, .int .i64 l.lev, .int .u64 l.pos]
def Tf.val (l : Tf) : Value := .agg #[.bool l.v, .bool l.r, .bool l.w, .bool l.x, .bool l.u, .bool l.g, .bool l.a, .bool l.d, .int .i64 l.rsw, .int .u64 l.ppn, .int .i64 l.lev, .int .u64 l.pos]
def En.vs (e : En) : List Value := [.bool e.full, .int .i64 e.asid, .int .u64 e.page, .bool e.lf.v, .bool e.lf.r, .bool e.lf.w, .bool e.lf.x, .bool e.lf.u, .bool e.lf.g, .bool e.lf.a, .bool e.lf.d, .int .i64 e.lf.rsw, .int .u64 e.lf.ppn, .int .i64 e.lf.lev, .int .u64 e.lf.pos]
def En.val (e : En) : Value := .agg #[.bool e.full, .int .i64 e.asid, .int .u64 e.page, .bool e.lf.v, .bool e.lf.r, .bool e.lf.w, .bool e.lf.x, .bool e.lf.u, .bool e.lf.g, .bool e.lf.a, .bool e.lf.d, .int .i64 e.lf.rsw, .int .u64 e.lf.ppn, .int .i64 e.lf.lev, .int .u64 e.lf.pos]
def tlb_lf0 : Tf := ⟨false, false, false, false, false, false, false, false, 0, 0, 0, 0⟩
def en0 : En := ⟨false, 0, 0, tlb_lf0⟩
def levOK (n : Int) : Bool := decide (0 ≤ n) && decide (n ≤ 2)
/-- A page's number of an address, at a level. -/
def pgN (va : Nat) (lev : Int) : Nat := vpnV va / 2 ^ (9 * lev.toNat)
theorem vpnV_lt (va : Nat) : vpnV va < 134217728 := Nat.mod_lt _ (by decide)
theorem lev_cases {n : Int} (h : levOK n = true) : n = 0 ∨ n = 1 ∨ n = 2 := by simp [levOK] at h; omega
theorem pgN0 (va : Nat) : pgN va 0 = vpnV va := by simp [pgN]
theorem pgN1 (va : Nat) : pgN va 1 = vpnV va / 512 := by simp [pgN]
theorem pgN2 (va : Nat) : pgN va 2 = vpnV va / 262144 := by simp [pgN]
theorem pgN_lt (va : Nat) (lev : Int) : pgN va lev < 134217728 := Nat.lt_of_le_of_lt (Nat.div_le_self _ _) (vpnV_lt va)
theorem tlb_page_any (va : Nat) (lev : Int) (W : World) (hv : va < 18446744073709551616) (hl : levOK lev = true) :
    Calls Tryz.prog 94 #[.int .u64 va, .int .i64 lev] W fun e w' => e = .returned (.int .u64 ((pgN va lev : Nat) : Int)) ∧ W = w' := by
  have H0 := Lib.hid (pgN0 va)
  have H1 := Lib.hid (pgN1 va)
  have H2 := Lib.hid (pgN2 va)
  rcases lev_cases hl with rfl | rfl | rfl
  · go_enter Tryz.func94, Tryz.ntmps94
    go_wp2_with fail
    refine (vpn_any va _ hv).mono ?_
    rintro e w ⟨rfl, rfl⟩
    go_wp2
    go_ret
    exact ⟨by rw [H0.out]; simp, rfl⟩
  · go_enter Tryz.func94, Tryz.ntmps94
    go_wp2_with fail
    refine (vpn_any va _ hv).mono ?_
    rintro e w ⟨rfl, rfl⟩
    go_wp2
    go_ret
    exact ⟨by rw [H1.out]; simp, rfl⟩
  · go_enter Tryz.func94, Tryz.ntmps94
    go_wp2_with fail
    refine (vpn_any va _ hv).mono ?_
    rintro e w ⟨rfl, rfl⟩
    go_wp2
    go_ret
    exact ⟨by rw [H2.out]; simp, rfl⟩
def hasB (e : En) (va : Nat) : Bool := e.full && e.page == pgN va e.lf.lev
def matchB (e : En) (va : Nat) (asid : Int) : Bool := hasB e va && (e.asid == asid || e.lf.g)
theorem nat_beq (a b : Nat) : (((a : Nat) : Int) == ((b : Nat) : Int)) = (a == b) := by
  rw [Bool.eq_iff_iff]
  simp only [beq_iff_eq]
  omega
set_option maxHeartbeats 1000000 in
theorem has_any (e : En) (va : Nat) (W : World) (hv : va < 18446744073709551616) (hl : e.full = true → levOK e.lf.lev = true) :
    Calls Tryz.prog 91 #[e.val, .int .u64 va] W fun r w' => r = .returned (.bool (hasB e va)) ∧ Below W.heap.size W w' := by
  have H : Hid (hasB e va = (e.full && e.page == pgN va e.lf.lev)) := Lib.hid rfl
  have hB : Below W.heap.size W (W.alloc (.cells e.vs.toArray 152)) := (Below.refl _ W).alloc (Nat.le_refl _) _
  have hX : Blk (W.alloc (.cells e.vs.toArray 152)) W.heap.size 152 e.vs.toArray := Blkf.new_at _ _ _ _ rfl
  unfold En.val
  unfold En.vs at hX hB
  have HB := Lib.hid hB
  have HX := Lib.hid hX
  clear hX hB
  go_enter Tryz.func91, Tryz.ntmps91
  go_wp2_with fail
  generalize W.alloc (.cells #[.bool e.full, .int .i64 e.asid, .int .u64 e.page, .bool e.lf.v, .bool e.lf.r, .bool e.lf.w, .bool e.lf.x, .bool e.lf.u, .bool e.lf.g, .bool e.lf.a, .bool e.lf.d, .int .i64 e.lf.rsw, .int .u64 e.lf.ppn, .int .i64 e.lf.lev, .int .u64 e.lf.pos] 152) = w0 at *
  have s0 := fun W' (h : Ext w0.drew W') => (h.cell (p := ⟨W.heap.size, 0, none⟩) HX.out.lt).trans (HX.out.cell 0)
  have s2 := fun W' (h : Ext w0.drew W') => (h.cell (p := ⟨W.heap.size, 2, none⟩) HX.out.lt).trans (HX.out.cell 2)
  have s13 := fun W' (h : Ext w0.drew W') => (h.cell (p := ⟨W.heap.size, 13, none⟩) HX.out.lt).trans (HX.out.cell 13)
  simp at s0 s2 s13
  cases hf : e.full
  · rw [hf] at H s0
    refine wp_region_plan [(0, false), (1, false), (2, false), (3, false), (4, false), (5, false), (6, false), (7, false), (8, false), (9, false), (10, false), (11, false), (12, false)] (by kernel_rfl) (by kernel_rfl) (fun _ d _ _ _ h => by cases d <;> exact h) ?_
    iterate 3 (refine plan_take (v := ?_) rfl (by kernel_rfl) ?_ ?_; rotate_left; (focus (intro w' hw'; try go_simp; try with_reducible rfl)); simp only [Act.put, List.setIfInBounds_toArray, List.set_cons_zero, List.set_cons_succ])
    iterate 8 (refine plan_skip rfl (by kernel_rfl) ?_; simp only [Act.put, List.setIfInBounds_toArray, List.set_cons_zero, List.set_cons_succ])
    iterate 2 (refine plan_take (v := ?_) rfl (by kernel_rfl) ?_ ?_; rotate_left; (focus (intro w' hw'; try go_simp; try with_reducible rfl)); simp only [Act.put, List.setIfInBounds_toArray, List.set_cons_zero, List.set_cons_succ])
    refine plan_end ?_
    clear s0 s2 s13
    go_wp2
    go_ret
    exact ⟨by rw [H.out]; rfl, HB.out.drew⟩
  · rw [hf] at H s0
    refine wp_region_plan [(0, false), (1, false), (2, false), (3, false), (4, false), (5, false), (6, false), (7, false), (8, false), (9, false), (10, false), (11, false), (12, false)] (by kernel_rfl) (by kernel_rfl) (fun _ d _ _ _ h => by cases d <;> exact h) ?_
    iterate 9 (refine plan_take (v := ?_) rfl (by kernel_rfl) ?_ ?_; rotate_left; (focus (intro w' hw'; try go_simp; try with_reducible rfl)); simp only [Act.put, List.setIfInBounds_toArray, List.set_cons_zero, List.set_cons_succ])
    refine plan_quiet rfl (by kernel_rfl) (fun w' => by go_simp; all_goals (first | exact ⟨rfl, rfl⟩ | rfl)) (fun w' hw' => tlb_page_any va e.lf.lev w' hv (hl hf)) ?_
    simp only [Act.put, List.setIfInBounds_toArray, List.set_cons_zero, List.set_cons_succ]
    iterate 3 (refine plan_take (v := ?_) rfl (by kernel_rfl) ?_ ?_; rotate_left; (focus (intro w' hw'; try go_simp; try with_reducible rfl)); simp only [Act.put, List.setIfInBounds_toArray, List.set_cons_zero, List.set_cons_succ])
    refine plan_end ?_
    clear s0 s2 s13
    go_wp2
    go_ret
    exact ⟨by rw [H.out, nat_beq]; rfl, HB.out.drew⟩
end Go.Proofs.YtophcgbddccpeaaGreat

/- matches, goes; the reference's Page. -/
namespace Go.Proofs.YtophcgbddccpeaaGreat
open Go.RowKit

set_option maxHeartbeats 1000000 in
theorem matches_any (e : En) (va : Nat) (asid : Int) (W : World) (hv : va < 18446744073709551616) (hl : e.full = true → levOK e.lf.lev = true) :
    Calls Tryz.prog 95 #[e.val, .int .u64 va, .int .i64 asid] W fun r w' => r = .returned (.bool (matchB e va asid)) ∧ Below W.heap.size W w' := by
  have H : Hid (matchB e va asid = (hasB e va && (e.asid == asid || e.lf.g))) := Lib.hid rfl
  have hB : Below W.heap.size W (W.alloc (.cells e.vs.toArray 152)) := (Below.refl _ W).alloc (Nat.le_refl _) _
  have hX : Blk (W.alloc (.cells e.vs.toArray 152)) W.heap.size 152 e.vs.toArray := Blkf.new_at _ _ _ _ rfl
  unfold En.val
  unfold En.vs at hX hB
  have HB := Lib.hid hB
  have HX := Lib.hid hX
  clear hX hB
  go_enter Tryz.func95, Tryz.ntmps95
  go_wp2_with fail
  generalize W.alloc (.cells #[.bool e.full, .int .i64 e.asid, .int .u64 e.page, .bool e.lf.v, .bool e.lf.r, .bool e.lf.w, .bool e.lf.x, .bool e.lf.u, .bool e.lf.g, .bool e.lf.a, .bool e.lf.d, .int .i64 e.lf.rsw, .int .u64 e.lf.ppn, .int .i64 e.lf.lev, .int .u64 e.lf.pos] 152) = w0 at *
  have x0 := HX.out.cell 0
  have x1 := HX.out.cell 1
  have x2 := HX.out.cell 2
  have x3 := HX.out.cell 3
  have x4 := HX.out.cell 4
  have x5 := HX.out.cell 5
  have x6 := HX.out.cell 6
  have x7 := HX.out.cell 7
  have x8 := HX.out.cell 8
  have x9 := HX.out.cell 9
  have x10 := HX.out.cell 10
  have x11 := HX.out.cell 11
  have x12 := HX.out.cell 12
  have x13 := HX.out.cell 13
  have x14 := HX.out.cell 14
  have xl := HX.out.lt
  simp at x0 x1 x2 x3 x4 x5 x6 x7 x8 x9 x10 x11 x12 x13 x14
  refine (has_any e va _ hv hl).mono ?_
  rintro r w1 ⟨rfl, hb⟩
  have HX1 := Lib.hid (HX.out.below hb HX.out.lt)
  have HB1 := Lib.hid (HB.out.trans (hb.mono HB.out.size))
  clear hb x0 x1 x2 x3 x4 x5 x6 x7 x8 x9 x10 x11 x12 x13 x14 xl
  have x1 := HX1.out.cell 1
  have x8 := HX1.out.cell 8
  have xl := HX1.out.lt
  simp at x1 x8
  cases hh : hasB e va
  · rw [hh] at H
    go_wp2
    go_ret
    exact ⟨by rw [H.out]; rfl, HB1.out⟩
  · rw [hh] at H
    cases ha : (e.asid == asid)
    · rw [ha] at H
      go_wp2
      go_ret
      exact ⟨by rw [H.out]; rfl, HB1.out⟩
    · rw [ha] at H
      go_wp2
      go_ret
      exact ⟨by rw [H.out]; rfl, HB1.out⟩
/-- A slice of at most one. -/
def OneU (w : World) : Option Nat → Value → Prop
  | none, v => v = .slice none 0 0
  | some x, v => ∃ g, v = .slice (some ⟨g, 0, none⟩) 1 1 ∧ w.cell? ⟨g, 0, none⟩ = some (.int .u64 x)
def OneI (w : World) : Option Int → Value → Prop
  | none, v => v = .slice none 0 0
  | some x, v => ∃ g, v = .slice (some ⟨g, 0, none⟩) 1 1 ∧ w.cell? ⟨g, 0, none⟩ = some (.int .i64 x)
theorem OneU.keep {w w' : World} {o : Option Nat} {v : Value} (h : OneU w o v) (hk : ∀ g, ∀ x, w.cell? ⟨g, 0, none⟩ = some (.int .u64 x) → w'.cell? ⟨g, 0, none⟩ = some (.int .u64 x)) : OneU w' o v := by
  cases o with
  | none => exact h
  | some x =>
    obtain ⟨g, e, hc⟩ := h
    exact ⟨g, e, hk g x hc⟩
theorem OneI.keep {w w' : World} {o : Option Int} {v : Value} (h : OneI w o v) (hk : ∀ g, ∀ x, w.cell? ⟨g, 0, none⟩ = some (.int .i64 x) → w'.cell? ⟨g, 0, none⟩ = some (.int .i64 x)) : OneI w' o v := by
  cases o with
  | none => exact h
  | some x =>
    obtain ⟨g, e, hc⟩ := h
    exact ⟨g, e, hk g x hc⟩
theorem OneU.below {w w' : World} {o : Option Nat} {v : Value} (h : OneU w o v) (hb : Below w.heap.size w w') : OneU w' o v := h.keep fun g x hc => by rw [hb.cell (cell_lt hc)]; exact hc
theorem OneI.below {w w' : World} {o : Option Int} {v : Value} (h : OneI w o v) (hb : Below w.heap.size w w') : OneI w' o v := h.keep fun g x hc => by rw [hb.cell (cell_lt hc)]; exact hc
def vaOK (e : En) : Option Nat → Bool
  | none => true
  | some va => hasB e va
def asOK (e : En) : Option Int → Bool
  | none => true
  | some a => e.asid == a && !e.lf.g
def goesB (e : En) (vo : Option Nat) (ao : Option Int) : Bool := vaOK e vo && (e.full && asOK e ao)
set_option maxHeartbeats 2000000 in
theorem goes_any (e : En) (vo : Option Nat) (ao : Option Int) (V A : Value) (W : World) (hv : ∀ va, vo = some va → va < 18446744073709551616) (hl : e.full = true → levOK e.lf.lev = true) (hV : OneU W vo V) (hA : OneI W ao A) :
    Calls Tryz.prog 74 #[e.val, V, A] W fun r w' => r = .returned (.bool (goesB e vo ao)) ∧ Below W.heap.size W w' := by
  have H : Hid (goesB e vo ao = (vaOK e vo && (e.full && asOK e ao))) := Lib.hid rfl
  have HVV := Lib.hid hV
  have HAA := Lib.hid hA
  clear hV hA
  have hB : Below W.heap.size W (W.alloc (.cells e.vs.toArray 152)) := (Below.refl _ W).alloc (Nat.le_refl _) _
  have hX : Blk (W.alloc (.cells e.vs.toArray 152)) W.heap.size 152 e.vs.toArray := Blkf.new_at _ _ _ _ rfl
  unfold En.val
  unfold En.vs at hX hB
  have HB := Lib.hid hB
  have HX := Lib.hid hX
  clear hX hB
  rcases vo with _ | va
  · obtain rfl := HVV.out
    rw [show vaOK e none = true from rfl] at H
    rcases ao with _ | ai
    · obtain rfl := HAA.out
      go_enter Tryz.func74, Tryz.ntmps74
      go_wp2_with fail
      generalize W.alloc (.cells #[.bool e.full, .int .i64 e.asid, .int .u64 e.page, .bool e.lf.v, .bool e.lf.r, .bool e.lf.w, .bool e.lf.x, .bool e.lf.u, .bool e.lf.g, .bool e.lf.a, .bool e.lf.d, .int .i64 e.lf.rsw, .int .u64 e.lf.ppn, .int .i64 e.lf.lev, .int .u64 e.lf.pos] 152) = w0 at *
      refine wp_region_plan [(0, false), (1, false), (2, false), (3, false), (4, false), (5, false), (6, false), (7, false), (8, true), (9, false), (10, false)] (by kernel_rfl) (by kernel_rfl) (fun _ d _ _ _ h => by cases d <;> exact h) ?_
      iterate 4 (refine plan_take (v := ?_) rfl (by kernel_rfl) ?_ ?_; rotate_left; (focus (intro w' hw'; try go_simp; try with_reducible rfl)); simp only [Act.put, List.setIfInBounds_toArray, List.set_cons_zero, List.set_cons_succ])
      iterate 4 (refine plan_skip rfl (by kernel_rfl) ?_; simp only [Act.put, List.setIfInBounds_toArray, List.set_cons_zero, List.set_cons_succ])
      refine plan_pass later_ext rfl (by kernel_rfl) ?_
      simp only [Act.put, List.setIfInBounds_toArray, List.set_cons_zero, List.set_cons_succ]
      iterate 1 (refine plan_skip rfl (by kernel_rfl) ?_; simp only [Act.put, List.setIfInBounds_toArray, List.set_cons_zero, List.set_cons_succ])
      iterate 1 (refine plan_take (v := ?_) rfl (by kernel_rfl) ?_ ?_; rotate_left; (focus (intro w' hw'; try go_simp; try with_reducible rfl)); simp only [Act.put, List.setIfInBounds_toArray, List.set_cons_zero, List.set_cons_succ])
      refine plan_end ?_
      have HX1 := Lib.hid HX.out.drew
      have HB1 := Lib.hid HB.out.drew
      generalize w0.drew = w1 at *
      go_wp2_with fail
      have t0 := fun W' (h : Ext w1.drew W') => (h.cell (p := ⟨W.heap.size, 0, none⟩) HX1.out.lt).trans (HX1.out.cell 0)
      have t1 := fun W' (h : Ext w1.drew W') => (h.cell (p := ⟨W.heap.size, 1, none⟩) HX1.out.lt).trans (HX1.out.cell 1)
      have t8 := fun W' (h : Ext w1.drew W') => (h.cell (p := ⟨W.heap.size, 8, none⟩) HX1.out.lt).trans (HX1.out.cell 8)
      simp at t0 t1 t8
      cases hf : e.full
      · rw [hf] at t0 H
        refine wp_region_plan [(0, false), (1, false), (2, false), (3, false), (4, false), (5, false), (6, false), (7, false), (8, false), (9, false), (10, false), (11, false), (12, false), (13, false), (14, false), (15, false), (16, false), (17, false), (18, false), (19, false), (20, false), (21, false), (22, false)] (by kernel_rfl) (by kernel_rfl) (fun _ d _ _ _ h => by cases d <;> exact h) ?_
        iterate 3 (refine plan_take (v := ?_) rfl (by kernel_rfl) ?_ ?_; rotate_left; (focus (intro w' hw'; try go_simp; try with_reducible rfl)); simp only [Act.put, List.setIfInBounds_toArray, List.set_cons_zero, List.set_cons_succ])
        iterate 18 (refine plan_skip rfl (by kernel_rfl) ?_; simp only [Act.put, List.setIfInBounds_toArray, List.set_cons_zero, List.set_cons_succ])
        iterate 2 (refine plan_take (v := ?_) rfl (by kernel_rfl) ?_ ?_; rotate_left; (focus (intro w' hw'; try go_simp; try with_reducible rfl)); simp only [Act.put, List.setIfInBounds_toArray, List.set_cons_zero, List.set_cons_succ])
        refine plan_end ?_
        clear t0 t1 t8
        go_wp2
        go_ret
        exact ⟨by rw [H.out]; simp [asOK, *], HB1.out.drew⟩
      · rw [hf] at t0 H
        refine wp_region_plan [(0, false), (1, false), (2, false), (3, false), (4, false), (5, false), (6, false), (7, false), (8, false), (9, false), (10, false), (11, false), (12, false), (13, false), (14, false), (15, false), (16, false), (17, false), (18, false), (19, false), (20, false), (21, false), (22, false)] (by kernel_rfl) (by kernel_rfl) (fun _ d _ _ _ h => by cases d <;> exact h) ?_
        iterate 7 (refine plan_take (v := ?_) rfl (by kernel_rfl) ?_ ?_; rotate_left; (focus (intro w' hw'; try go_simp; try with_reducible rfl)); simp only [Act.put, List.setIfInBounds_toArray, List.set_cons_zero, List.set_cons_succ])
        iterate 13 (refine plan_skip rfl (by kernel_rfl) ?_; simp only [Act.put, List.setIfInBounds_toArray, List.set_cons_zero, List.set_cons_succ])
        iterate 3 (refine plan_take (v := ?_) rfl (by kernel_rfl) ?_ ?_; rotate_left; (focus (intro w' hw'; try go_simp; try with_reducible rfl)); simp only [Act.put, List.setIfInBounds_toArray, List.set_cons_zero, List.set_cons_succ])
        refine plan_end ?_
        clear t0 t1 t8
        go_wp2
        go_ret
        exact ⟨by rw [H.out]; simp [asOK, *], HB1.out.drew⟩
    · obtain ⟨ga, rfl, hca⟩ := HAA.out
      clear HAA
      go_enter Tryz.func74, Tryz.ntmps74
      go_wp2_with fail
      generalize W.alloc (.cells #[.bool e.full, .int .i64 e.asid, .int .u64 e.page, .bool e.lf.v, .bool e.lf.r, .bool e.lf.w, .bool e.lf.x, .bool e.lf.u, .bool e.lf.g, .bool e.lf.a, .bool e.lf.d, .int .i64 e.lf.rsw, .int .u64 e.lf.ppn, .int .i64 e.lf.lev, .int .u64 e.lf.pos] 152) = w0 at *
      refine wp_region_plan [(0, false), (1, false), (2, false), (3, false), (4, false), (5, false), (6, false), (7, false), (8, true), (9, false), (10, false)] (by kernel_rfl) (by kernel_rfl) (fun _ d _ _ _ h => by cases d <;> exact h) ?_
      iterate 4 (refine plan_take (v := ?_) rfl (by kernel_rfl) ?_ ?_; rotate_left; (focus (intro w' hw'; try go_simp; try with_reducible rfl)); simp only [Act.put, List.setIfInBounds_toArray, List.set_cons_zero, List.set_cons_succ])
      iterate 4 (refine plan_skip rfl (by kernel_rfl) ?_; simp only [Act.put, List.setIfInBounds_toArray, List.set_cons_zero, List.set_cons_succ])
      refine plan_pass later_ext rfl (by kernel_rfl) ?_
      simp only [Act.put, List.setIfInBounds_toArray, List.set_cons_zero, List.set_cons_succ]
      iterate 1 (refine plan_skip rfl (by kernel_rfl) ?_; simp only [Act.put, List.setIfInBounds_toArray, List.set_cons_zero, List.set_cons_succ])
      iterate 1 (refine plan_take (v := ?_) rfl (by kernel_rfl) ?_ ?_; rotate_left; (focus (intro w' hw'; try go_simp; try with_reducible rfl)); simp only [Act.put, List.setIfInBounds_toArray, List.set_cons_zero, List.set_cons_succ])
      refine plan_end ?_
      have HX1 := Lib.hid HX.out.drew
      have HB1 := Lib.hid HB.out.drew
      have hca1 : w0.drew.cell? ⟨ga, 0, none⟩ = some (.int .i64 ai) := by rw [HB1.out.cell (cell_lt hca)]; exact hca
      generalize w0.drew = w1 at *
      go_wp2_with fail
      have t0 := fun W' (h : Ext w1.drew W') => (h.cell (p := ⟨W.heap.size, 0, none⟩) HX1.out.lt).trans (HX1.out.cell 0)
      have t1 := fun W' (h : Ext w1.drew W') => (h.cell (p := ⟨W.heap.size, 1, none⟩) HX1.out.lt).trans (HX1.out.cell 1)
      have t8 := fun W' (h : Ext w1.drew W') => (h.cell (p := ⟨W.heap.size, 8, none⟩) HX1.out.lt).trans (HX1.out.cell 8)
      simp at t0 t1 t8
      cases hf : e.full
      · rw [hf] at t0 H
        refine wp_region_plan [(0, false), (1, false), (2, false), (3, false), (4, false), (5, false), (6, false), (7, false), (8, false), (9, false), (10, false), (11, false), (12, false), (13, false), (14, false), (15, false), (16, false), (17, false), (18, false), (19, false), (20, false), (21, false), (22, false)] (by kernel_rfl) (by kernel_rfl) (fun _ d _ _ _ h => by cases d <;> exact h) ?_
        iterate 3 (refine plan_take (v := ?_) rfl (by kernel_rfl) ?_ ?_; rotate_left; (focus (intro w' hw'; try go_simp; try with_reducible rfl)); simp only [Act.put, List.setIfInBounds_toArray, List.set_cons_zero, List.set_cons_succ])
        iterate 18 (refine plan_skip rfl (by kernel_rfl) ?_; simp only [Act.put, List.setIfInBounds_toArray, List.set_cons_zero, List.set_cons_succ])
        iterate 2 (refine plan_take (v := ?_) rfl (by kernel_rfl) ?_ ?_; rotate_left; (focus (intro w' hw'; try go_simp; try with_reducible rfl)); simp only [Act.put, List.setIfInBounds_toArray, List.set_cons_zero, List.set_cons_succ])
        refine plan_end ?_
        clear t0 t1 t8
        go_wp2
        go_ret
        exact ⟨by rw [H.out]; simp [asOK, *], HB1.out.drew⟩
      · rw [hf] at t0 H
        refine wp_region_plan [(0, false), (1, false), (2, false), (3, false), (4, false), (5, false), (6, false), (7, false), (8, false), (9, false), (10, false), (11, false), (12, false), (13, false), (14, false), (15, false), (16, false), (17, false), (18, false), (19, false), (20, false), (21, false), (22, false)] (by kernel_rfl) (by kernel_rfl) (fun _ d _ _ _ h => by cases d <;> exact h) ?_
        have ta := fun W' (h : Ext w1.drew W') => (h.cell (p := ⟨ga, 0, none⟩) (cell_lt hca1)).trans hca1
        iterate 14 (refine plan_take (v := ?_) rfl (by kernel_rfl) ?_ ?_; rotate_left; (focus (intro w' hw'; try go_simp; try with_reducible rfl)); simp only [Act.put, List.setIfInBounds_toArray, List.set_cons_zero, List.set_cons_succ])
        have HAO : Hid (asOK e (some ai) = (e.asid == ai && !e.lf.g)) := Lib.hid rfl
        cases he : (e.asid == ai)
        · rw [he] at HAO
          iterate 5 (refine plan_skip rfl (by kernel_rfl) ?_; simp only [Act.put, List.setIfInBounds_toArray, List.set_cons_zero, List.set_cons_succ])
          iterate 4 (refine plan_take (v := ?_) rfl (by kernel_rfl) ?_ ?_; rotate_left; (focus (intro w' hw'; try go_simp; try with_reducible rfl)); simp only [Act.put, List.setIfInBounds_toArray, List.set_cons_zero, List.set_cons_succ])
          refine plan_end ?_
          clear t0 t1 t8 ta
          go_wp2
          go_ret
          exact ⟨by rw [H.out, HAO.out]; simp [asOK, *], HB1.out.drew⟩
        · rw [he] at HAO
          iterate 9 (refine plan_take (v := ?_) rfl (by kernel_rfl) ?_ ?_; rotate_left; (focus (intro w' hw'; try go_simp; try with_reducible rfl)); simp only [Act.put, List.setIfInBounds_toArray, List.set_cons_zero, List.set_cons_succ])
          refine plan_end ?_
          clear t0 t1 t8 ta
          go_wp2
          go_ret
          exact ⟨by rw [H.out, HAO.out]; simp [asOK, *], HB1.out.drew⟩
  · obtain ⟨gv, rfl, hcv⟩ := HVV.out
    clear HVV
    have HV : Hid (vaOK e (some va) = hasB e va) := Lib.hid rfl
    rcases ao with _ | ai
    · obtain rfl := HAA.out
      go_enter Tryz.func74, Tryz.ntmps74
      go_wp2_with fail
      generalize W.alloc (.cells #[.bool e.full, .int .i64 e.asid, .int .u64 e.page, .bool e.lf.v, .bool e.lf.r, .bool e.lf.w, .bool e.lf.x, .bool e.lf.u, .bool e.lf.g, .bool e.lf.a, .bool e.lf.d, .int .i64 e.lf.rsw, .int .u64 e.lf.ppn, .int .i64 e.lf.lev, .int .u64 e.lf.pos] 152) = w0 at *
      have hv1 : w0.cell? ⟨gv, 0, none⟩ = some (.int .u64 va) := by rw [HB.out.cell (cell_lt hcv)]; exact hcv
      have tv := fun W' (h : Ext w0.drew W') => (h.cell (p := ⟨gv, 0, none⟩) (cell_lt hv1)).trans hv1
      have s0 := fun W' (h : Ext w0.drew W') => (h.cell (p := ⟨W.heap.size, 0, none⟩) HX.out.lt).trans (HX.out.cell 0)
      have s1 := fun W' (h : Ext w0.drew W') => (h.cell (p := ⟨W.heap.size, 1, none⟩) HX.out.lt).trans (HX.out.cell 1)
      have s2 := fun W' (h : Ext w0.drew W') => (h.cell (p := ⟨W.heap.size, 2, none⟩) HX.out.lt).trans (HX.out.cell 2)
      have s3 := fun W' (h : Ext w0.drew W') => (h.cell (p := ⟨W.heap.size, 3, none⟩) HX.out.lt).trans (HX.out.cell 3)
      have s4 := fun W' (h : Ext w0.drew W') => (h.cell (p := ⟨W.heap.size, 4, none⟩) HX.out.lt).trans (HX.out.cell 4)
      have s5 := fun W' (h : Ext w0.drew W') => (h.cell (p := ⟨W.heap.size, 5, none⟩) HX.out.lt).trans (HX.out.cell 5)
      have s6 := fun W' (h : Ext w0.drew W') => (h.cell (p := ⟨W.heap.size, 6, none⟩) HX.out.lt).trans (HX.out.cell 6)
      have s7 := fun W' (h : Ext w0.drew W') => (h.cell (p := ⟨W.heap.size, 7, none⟩) HX.out.lt).trans (HX.out.cell 7)
      have s8 := fun W' (h : Ext w0.drew W') => (h.cell (p := ⟨W.heap.size, 8, none⟩) HX.out.lt).trans (HX.out.cell 8)
      have s9 := fun W' (h : Ext w0.drew W') => (h.cell (p := ⟨W.heap.size, 9, none⟩) HX.out.lt).trans (HX.out.cell 9)
      have s10 := fun W' (h : Ext w0.drew W') => (h.cell (p := ⟨W.heap.size, 10, none⟩) HX.out.lt).trans (HX.out.cell 10)
      have s11 := fun W' (h : Ext w0.drew W') => (h.cell (p := ⟨W.heap.size, 11, none⟩) HX.out.lt).trans (HX.out.cell 11)
      have s12 := fun W' (h : Ext w0.drew W') => (h.cell (p := ⟨W.heap.size, 12, none⟩) HX.out.lt).trans (HX.out.cell 12)
      have s13 := fun W' (h : Ext w0.drew W') => (h.cell (p := ⟨W.heap.size, 13, none⟩) HX.out.lt).trans (HX.out.cell 13)
      have s14 := fun W' (h : Ext w0.drew W') => (h.cell (p := ⟨W.heap.size, 14, none⟩) HX.out.lt).trans (HX.out.cell 14)
      simp at s0 s1 s2 s3 s4 s5 s6 s7 s8 s9 s10 s11 s12 s13 s14
      refine wp_region_plan [(0, false), (1, false), (2, false), (3, false), (4, false), (5, false), (6, false), (7, false), (8, true), (9, false), (10, false)] (by kernel_rfl) (by kernel_rfl) (fun _ d _ _ _ h => by cases d <;> exact h) ?_
      iterate 8 (refine plan_take (v := ?_) rfl (by kernel_rfl) ?_ ?_; rotate_left; (focus (intro w' hw'; try go_simp; try with_reducible rfl)); simp only [Act.put, List.setIfInBounds_toArray, List.set_cons_zero, List.set_cons_succ])
      clear tv s0 s1 s2 s3 s4 s5 s6 s7 s8 s9 s10 s11 s12 s13 s14
      refine plan_call rfl (by kernel_rfl) (by go_simp; exact ⟨rfl, rfl⟩) ?_
      refine (has_any e va _ (hv va rfl) hl).mono ?_
      rintro r w1 ⟨rfl, hb⟩
      have HX1 := Lib.hid (HX.out.drew.below hb HX.out.lt)
      have HB1 := Lib.hid (HB.out.drew.trans (hb.mono HB.out.size))
      refine ⟨_, rfl, hb, ?_⟩
      simp only [Act.put, List.setIfInBounds_toArray, List.set_cons_zero, List.set_cons_succ]
      clear hb
      iterate 2 (refine plan_take (v := ?_) rfl (by kernel_rfl) ?_ ?_; rotate_left; (focus (intro w' hw'; try go_simp; try with_reducible rfl)); simp only [Act.put, List.setIfInBounds_toArray, List.set_cons_zero, List.set_cons_succ])
      refine plan_end ?_
      cases hh : hasB e va
      · rw [hh] at HV
        go_wp2
        go_ret
        exact ⟨by rw [H.out, HV.out]; rfl, HB1.out⟩
      · rw [hh] at HV
        rw [HV.out] at H
        go_wp2_with fail
        have t0 := fun W' (h : Ext w1.drew W') => (h.cell (p := ⟨W.heap.size, 0, none⟩) HX1.out.lt).trans (HX1.out.cell 0)
        have t1 := fun W' (h : Ext w1.drew W') => (h.cell (p := ⟨W.heap.size, 1, none⟩) HX1.out.lt).trans (HX1.out.cell 1)
        have t8 := fun W' (h : Ext w1.drew W') => (h.cell (p := ⟨W.heap.size, 8, none⟩) HX1.out.lt).trans (HX1.out.cell 8)
        simp at t0 t1 t8
        cases hf : e.full
        · rw [hf] at t0 H
          refine wp_region_plan [(0, false), (1, false), (2, false), (3, false), (4, false), (5, false), (6, false), (7, false), (8, false), (9, false), (10, false), (11, false), (12, false), (13, false), (14, false), (15, false), (16, false), (17, false), (18, false), (19, false), (20, false), (21, false), (22, false)] (by kernel_rfl) (by kernel_rfl) (fun _ d _ _ _ h => by cases d <;> exact h) ?_
          iterate 3 (refine plan_take (v := ?_) rfl (by kernel_rfl) ?_ ?_; rotate_left; (focus (intro w' hw'; try go_simp; try with_reducible rfl)); simp only [Act.put, List.setIfInBounds_toArray, List.set_cons_zero, List.set_cons_succ])
          iterate 18 (refine plan_skip rfl (by kernel_rfl) ?_; simp only [Act.put, List.setIfInBounds_toArray, List.set_cons_zero, List.set_cons_succ])
          iterate 2 (refine plan_take (v := ?_) rfl (by kernel_rfl) ?_ ?_; rotate_left; (focus (intro w' hw'; try go_simp; try with_reducible rfl)); simp only [Act.put, List.setIfInBounds_toArray, List.set_cons_zero, List.set_cons_succ])
          refine plan_end ?_
          clear t0 t1 t8
          go_wp2
          go_ret
          exact ⟨by rw [H.out]; simp [asOK, *], HB1.out.drew⟩
        · rw [hf] at t0 H
          refine wp_region_plan [(0, false), (1, false), (2, false), (3, false), (4, false), (5, false), (6, false), (7, false), (8, false), (9, false), (10, false), (11, false), (12, false), (13, false), (14, false), (15, false), (16, false), (17, false), (18, false), (19, false), (20, false), (21, false), (22, false)] (by kernel_rfl) (by kernel_rfl) (fun _ d _ _ _ h => by cases d <;> exact h) ?_
          iterate 7 (refine plan_take (v := ?_) rfl (by kernel_rfl) ?_ ?_; rotate_left; (focus (intro w' hw'; try go_simp; try with_reducible rfl)); simp only [Act.put, List.setIfInBounds_toArray, List.set_cons_zero, List.set_cons_succ])
          iterate 13 (refine plan_skip rfl (by kernel_rfl) ?_; simp only [Act.put, List.setIfInBounds_toArray, List.set_cons_zero, List.set_cons_succ])
          iterate 3 (refine plan_take (v := ?_) rfl (by kernel_rfl) ?_ ?_; rotate_left; (focus (intro w' hw'; try go_simp; try with_reducible rfl)); simp only [Act.put, List.setIfInBounds_toArray, List.set_cons_zero, List.set_cons_succ])
          refine plan_end ?_
          clear t0 t1 t8
          go_wp2
          go_ret
          exact ⟨by rw [H.out]; simp [asOK, *], HB1.out.drew⟩
    · obtain ⟨ga, rfl, hca⟩ := HAA.out
      clear HAA
      go_enter Tryz.func74, Tryz.ntmps74
      go_wp2_with fail
      generalize W.alloc (.cells #[.bool e.full, .int .i64 e.asid, .int .u64 e.page, .bool e.lf.v, .bool e.lf.r, .bool e.lf.w, .bool e.lf.x, .bool e.lf.u, .bool e.lf.g, .bool e.lf.a, .bool e.lf.d, .int .i64 e.lf.rsw, .int .u64 e.lf.ppn, .int .i64 e.lf.lev, .int .u64 e.lf.pos] 152) = w0 at *
      have hv1 : w0.cell? ⟨gv, 0, none⟩ = some (.int .u64 va) := by rw [HB.out.cell (cell_lt hcv)]; exact hcv
      have tv := fun W' (h : Ext w0.drew W') => (h.cell (p := ⟨gv, 0, none⟩) (cell_lt hv1)).trans hv1
      have s0 := fun W' (h : Ext w0.drew W') => (h.cell (p := ⟨W.heap.size, 0, none⟩) HX.out.lt).trans (HX.out.cell 0)
      have s1 := fun W' (h : Ext w0.drew W') => (h.cell (p := ⟨W.heap.size, 1, none⟩) HX.out.lt).trans (HX.out.cell 1)
      have s2 := fun W' (h : Ext w0.drew W') => (h.cell (p := ⟨W.heap.size, 2, none⟩) HX.out.lt).trans (HX.out.cell 2)
      have s3 := fun W' (h : Ext w0.drew W') => (h.cell (p := ⟨W.heap.size, 3, none⟩) HX.out.lt).trans (HX.out.cell 3)
      have s4 := fun W' (h : Ext w0.drew W') => (h.cell (p := ⟨W.heap.size, 4, none⟩) HX.out.lt).trans (HX.out.cell 4)
      have s5 := fun W' (h : Ext w0.drew W') => (h.cell (p := ⟨W.heap.size, 5, none⟩) HX.out.lt).trans (HX.out.cell 5)
      have s6 := fun W' (h : Ext w0.drew W') => (h.cell (p := ⟨W.heap.size, 6, none⟩) HX.out.lt).trans (HX.out.cell 6)
      have s7 := fun W' (h : Ext w0.drew W') => (h.cell (p := ⟨W.heap.size, 7, none⟩) HX.out.lt).trans (HX.out.cell 7)
      have s8 := fun W' (h : Ext w0.drew W') => (h.cell (p := ⟨W.heap.size, 8, none⟩) HX.out.lt).trans (HX.out.cell 8)
      have s9 := fun W' (h : Ext w0.drew W') => (h.cell (p := ⟨W.heap.size, 9, none⟩) HX.out.lt).trans (HX.out.cell 9)
      have s10 := fun W' (h : Ext w0.drew W') => (h.cell (p := ⟨W.heap.size, 10, none⟩) HX.out.lt).trans (HX.out.cell 10)
      have s11 := fun W' (h : Ext w0.drew W') => (h.cell (p := ⟨W.heap.size, 11, none⟩) HX.out.lt).trans (HX.out.cell 11)
      have s12 := fun W' (h : Ext w0.drew W') => (h.cell (p := ⟨W.heap.size, 12, none⟩) HX.out.lt).trans (HX.out.cell 12)
      have s13 := fun W' (h : Ext w0.drew W') => (h.cell (p := ⟨W.heap.size, 13, none⟩) HX.out.lt).trans (HX.out.cell 13)
      have s14 := fun W' (h : Ext w0.drew W') => (h.cell (p := ⟨W.heap.size, 14, none⟩) HX.out.lt).trans (HX.out.cell 14)
      simp at s0 s1 s2 s3 s4 s5 s6 s7 s8 s9 s10 s11 s12 s13 s14
      refine wp_region_plan [(0, false), (1, false), (2, false), (3, false), (4, false), (5, false), (6, false), (7, false), (8, true), (9, false), (10, false)] (by kernel_rfl) (by kernel_rfl) (fun _ d _ _ _ h => by cases d <;> exact h) ?_
      iterate 8 (refine plan_take (v := ?_) rfl (by kernel_rfl) ?_ ?_; rotate_left; (focus (intro w' hw'; try go_simp; try with_reducible rfl)); simp only [Act.put, List.setIfInBounds_toArray, List.set_cons_zero, List.set_cons_succ])
      clear tv s0 s1 s2 s3 s4 s5 s6 s7 s8 s9 s10 s11 s12 s13 s14
      refine plan_call rfl (by kernel_rfl) (by go_simp; exact ⟨rfl, rfl⟩) ?_
      refine (has_any e va _ (hv va rfl) hl).mono ?_
      rintro r w1 ⟨rfl, hb⟩
      have HX1 := Lib.hid (HX.out.drew.below hb HX.out.lt)
      have HB1 := Lib.hid (HB.out.drew.trans (hb.mono HB.out.size))
      have hca1 : w1.cell? ⟨ga, 0, none⟩ = some (.int .i64 ai) := by rw [HB1.out.cell (cell_lt hca)]; exact hca
      refine ⟨_, rfl, hb, ?_⟩
      simp only [Act.put, List.setIfInBounds_toArray, List.set_cons_zero, List.set_cons_succ]
      clear hb
      iterate 2 (refine plan_take (v := ?_) rfl (by kernel_rfl) ?_ ?_; rotate_left; (focus (intro w' hw'; try go_simp; try with_reducible rfl)); simp only [Act.put, List.setIfInBounds_toArray, List.set_cons_zero, List.set_cons_succ])
      refine plan_end ?_
      cases hh : hasB e va
      · rw [hh] at HV
        go_wp2
        go_ret
        exact ⟨by rw [H.out, HV.out]; rfl, HB1.out⟩
      · rw [hh] at HV
        rw [HV.out] at H
        go_wp2_with fail
        have t0 := fun W' (h : Ext w1.drew W') => (h.cell (p := ⟨W.heap.size, 0, none⟩) HX1.out.lt).trans (HX1.out.cell 0)
        have t1 := fun W' (h : Ext w1.drew W') => (h.cell (p := ⟨W.heap.size, 1, none⟩) HX1.out.lt).trans (HX1.out.cell 1)
        have t8 := fun W' (h : Ext w1.drew W') => (h.cell (p := ⟨W.heap.size, 8, none⟩) HX1.out.lt).trans (HX1.out.cell 8)
        simp at t0 t1 t8
        cases hf : e.full
        · rw [hf] at t0 H
          refine wp_region_plan [(0, false), (1, false), (2, false), (3, false), (4, false), (5, false), (6, false), (7, false), (8, false), (9, false), (10, false), (11, false), (12, false), (13, false), (14, false), (15, false), (16, false), (17, false), (18, false), (19, false), (20, false), (21, false), (22, false)] (by kernel_rfl) (by kernel_rfl) (fun _ d _ _ _ h => by cases d <;> exact h) ?_
          iterate 3 (refine plan_take (v := ?_) rfl (by kernel_rfl) ?_ ?_; rotate_left; (focus (intro w' hw'; try go_simp; try with_reducible rfl)); simp only [Act.put, List.setIfInBounds_toArray, List.set_cons_zero, List.set_cons_succ])
          iterate 18 (refine plan_skip rfl (by kernel_rfl) ?_; simp only [Act.put, List.setIfInBounds_toArray, List.set_cons_zero, List.set_cons_succ])
          iterate 2 (refine plan_take (v := ?_) rfl (by kernel_rfl) ?_ ?_; rotate_left; (focus (intro w' hw'; try go_simp; try with_reducible rfl)); simp only [Act.put, List.setIfInBounds_toArray, List.set_cons_zero, List.set_cons_succ])
          refine plan_end ?_
          clear t0 t1 t8
          go_wp2
          go_ret
          exact ⟨by rw [H.out]; simp [asOK, *], HB1.out.drew⟩
        · rw [hf] at t0 H
          refine wp_region_plan [(0, false), (1, false), (2, false), (3, false), (4, false), (5, false), (6, false), (7, false), (8, false), (9, false), (10, false), (11, false), (12, false), (13, false), (14, false), (15, false), (16, false), (17, false), (18, false), (19, false), (20, false), (21, false), (22, false)] (by kernel_rfl) (by kernel_rfl) (fun _ d _ _ _ h => by cases d <;> exact h) ?_
          have ta := fun W' (h : Ext w1.drew W') => (h.cell (p := ⟨ga, 0, none⟩) (cell_lt hca1)).trans hca1
          iterate 14 (refine plan_take (v := ?_) rfl (by kernel_rfl) ?_ ?_; rotate_left; (focus (intro w' hw'; try go_simp; try with_reducible rfl)); simp only [Act.put, List.setIfInBounds_toArray, List.set_cons_zero, List.set_cons_succ])
          have HAO : Hid (asOK e (some ai) = (e.asid == ai && !e.lf.g)) := Lib.hid rfl
          cases he : (e.asid == ai)
          · rw [he] at HAO
            iterate 5 (refine plan_skip rfl (by kernel_rfl) ?_; simp only [Act.put, List.setIfInBounds_toArray, List.set_cons_zero, List.set_cons_succ])
            iterate 4 (refine plan_take (v := ?_) rfl (by kernel_rfl) ?_ ?_; rotate_left; (focus (intro w' hw'; try go_simp; try with_reducible rfl)); simp only [Act.put, List.setIfInBounds_toArray, List.set_cons_zero, List.set_cons_succ])
            refine plan_end ?_
            clear t0 t1 t8 ta
            go_wp2
            go_ret
            exact ⟨by rw [H.out, HAO.out]; simp [asOK, *], HB1.out.drew⟩
          · rw [he] at HAO
            iterate 9 (refine plan_take (v := ?_) rfl (by kernel_rfl) ?_ ?_; rotate_left; (focus (intro w' hw'; try go_simp; try with_reducible rfl)); simp only [Act.put, List.setIfInBounds_toArray, List.set_cons_zero, List.set_cons_succ])
            refine plan_end ?_
            clear t0 t1 t8 ta
            go_wp2
            go_ret
            exact ⟨by rw [H.out, HAO.out]; simp [asOK, *], HB1.out.drew⟩
end Go.Proofs.YtophcgbddccpeaaGreat

/- The reference's Page. -/
namespace Go.Proofs.YtophcgbddccpeaaGreat
open Go.RowKit

theorem index_lt (va : Nat) (n : Int) : indexV va n < 512 := by
  unfold indexV
  split
  · exact fieldV_lt va _ 9
  · decide
theorem pg_2 (va : Nat) : indexV va 2 = pgN va 2 := by
  rw [pgN2]
  show va / 2 ^ 30 % 2 ^ 9 = _
  unfold vpnV
  omega
theorem pg_1 (va : Nat) : 512 * indexV va 2 + indexV va 1 = pgN va 1 := by
  rw [pgN1]
  show 512 * (va / 2 ^ 30 % 2 ^ 9) + va / 2 ^ 21 % 2 ^ 9 = _
  unfold vpnV
  omega
theorem pg_0 (va : Nat) : 512 * (512 * indexV va 2 + indexV va 1) + indexV va 0 = pgN va 0 := by
  rw [pgN0]
  show 512 * (512 * (va / 2 ^ 30 % 2 ^ 9) + va / 2 ^ 21 % 2 ^ 9) + va / 2 ^ 12 % 2 ^ 9 = _
  unfold vpnV
  omega
end Go.Proofs.YtophcgbddccpeaaGreat
