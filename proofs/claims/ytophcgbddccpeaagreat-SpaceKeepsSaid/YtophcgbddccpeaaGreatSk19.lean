/- Merged texts: SpcN, SpcO, SpcP, SpcQ, SpcR, SpcS, SpcT. -/
import Derived.Test.YtophcgbddccpeaaGreatSk18
/- Plain laws: a space's invariant. -/
namespace Go.Proofs.YtophcgbddccpeaaGreat
open Go.RowKit

/-- How many of the first n have a value. -/
def cntS (f : Nat → Option Int) (n : Nat) : Nat := (List.range n).countP (fun p => (f p).isSome)
theorem cnt_succ (f : Nat → Option Int) (n : Nat) : cntS f (n + 1) = cntS f n + if (f n).isSome then 1 else 0 := by
  unfold cntS
  rw [List.range_succ, List.countP_append, List.countP_cons, List.countP_nil, Nat.zero_add]
theorem cnt_le (f : Nat → Option Int) : ∀ n, cntS f n ≤ n
  | 0 => by unfold cntS; simp
  | n + 1 => by
    have := cnt_le f n
    rw [cnt_succ]
    split <;> omega
theorem cnt_lt {f : Nat → Option Int} {p : Nat} : ∀ {n : Nat}, p < n → f p = none → cntS f n < n
  | n + 1, hp, hf => by
    rw [cnt_succ]
    rcases Nat.lt_or_ge p n with h | h
    · have := cnt_lt h hf
      split <;> omega
    · obtain rfl : p = n := by omega
      have := cnt_le f p
      rw [hf]
      simp
      omega
theorem cnt_out {f : Nat → Option Int} {p : Nat} {x : Int} : ∀ {n : Nat}, n ≤ p → cntS (putF f p x) n = cntS f n
  | 0, _ => by unfold cntS; simp
  | n + 1, h => by
    have e : putF f p x n = f n := by unfold putF; rw [if_neg (by omega)]
    rw [cnt_succ, cnt_succ, cnt_out (by omega), e]
theorem cnt_put {f : Nat → Option Int} {p : Nat} {x : Int} : ∀ {n : Nat}, p < n → cntS (putF f p x) n = if (f p).isSome then cntS f n else cntS f n + 1
  | n + 1, hp => by
    rw [cnt_succ, cnt_succ]
    rcases Nat.lt_or_ge p n with h | h
    · rw [cnt_put h]
      have e : putF f p x n = f n := by unfold putF; rw [if_neg (by omega)]
      rw [e]
      split <;> omega
    · obtain rfl : p = n := by omega
      have e : putF f p x p = some x := by unfold putF; rw [if_pos rfl]
      rw [cnt_out (Nat.le_refl _), e]
      cases h2 : (f p).isSome <;> simp
/-- Is there a table at a level and a base? -/
def pres (T : List Tb) (l R : Nat) : Bool := T.any (fun b => b.lev == l && b.va == R)
theorem pres_none {root : Nat} {T : List Tb} {va l : Nat} (hl : l ≠ 2) : tabF root T va l = none ↔ pres T l (baseN va (l + 1)) = false := by
  unfold tabF pres
  rw [if_neg hl, Option.map_eq_none_iff, List.find?_eq_none, List.any_eq_false]
theorem pres_app (T : List Tb) (b : Tb) (l R : Nat) : pres (T ++ [b]) l R = (pres T l R || (b.lev == l && b.va == R)) := by
  unfold pres
  rw [List.any_append]
  simp
def b2n (b : Bool) : Nat := if b then 1 else 0
def tnT (T : List Tb) : Nat := b2n (pres T 1 0) + b2n (pres T 0 0) + b2n (pres T 1 1073741824) + b2n (pres T 0 1073741824)
structure TabsOK (T : List Tb) : Prop where
  lev : ∀ b ∈ T, (b.lev = 1 ∨ b.lev = 0) ∧ (b.va = 0 ∨ b.va = 1073741824)
  len : T.length = tnT T
/-- A region of addresses: below 2 MiB, or the 2 MiB from the first shared page on. -/
def InReg (va R : Nat) : Prop := (R = 0 ∨ R = 1073741824) ∧ R ≤ va ∧ va < R + 2097152
theorem reg1 {va R : Nat} (h : InReg va R) : baseN va 1 = R := by
  obtain ⟨h1, h2, h3⟩ := h
  unfold baseN
  rw [sp1]
  rcases h1 with rfl | rfl <;> omega
theorem reg2 {va R : Nat} (h : InReg va R) : baseN va 2 = R := by
  obtain ⟨h1, h2, h3⟩ := h
  unfold baseN
  rw [sp2]
  rcases h1 with rfl | rfl <;> omega
theorem b2_le (b : Bool) : b2n b ≤ 1 := by cases b <;> decide
theorem b2_f : b2n false = 0 := rfl
theorem b2_t : b2n true = 1 := rfl
theorem TabsOK.one {T : List Tb} (h : TabsOK T) {l R f : Nat} (hl : l = 1 ∨ l = 0) (hR : R = 0 ∨ R = 1073741824) (hp : pres T l R = false) : TabsOK (T ++ [⟨l, R, f⟩]) := by
  refine ⟨fun b hb => ?_, ?_⟩
  · rcases List.mem_append.1 hb with hb | hb
    · exact h.lev b hb
    · rw [List.mem_singleton.1 hb]
      exact ⟨hl, hR⟩
  · have hlen := h.len
    unfold tnT at hlen ⊢
    simp only [pres_app, List.length_append, List.length_cons, List.length_nil]
    rcases hl with rfl | rfl <;> rcases hR with rfl | rfl <;> rw [hp] at hlen ⊢ <;> simp only [b2_f, b2_t, Nat.reduceBEq, Bool.or_true, Bool.or_false, Bool.and_true, Bool.and_false, Bool.true_and, Bool.false_and, Bool.false_or] at hlen ⊢ <;> omega
theorem TabsOK.room {T : List Tb} (h : TabsOK T) {R : Nat} (hR : R = 0 ∨ R = 1073741824) : T.length + b2n (!pres T 1 R) + b2n (!pres T 0 R) ≤ 4 := by
  have hlen := h.len
  have h1 := b2_le (pres T 1 0)
  have h2 := b2_le (pres T 0 0)
  have h3 := b2_le (pres T 1 1073741824)
  have h4 := b2_le (pres T 0 1073741824)
  have hn : ∀ b : Bool, b2n (!b) = 1 - b2n b := fun b => by cases b <;> rfl
  unfold tnT at hlen
  rw [hn, hn]
  rcases hR with rfl | rfl <;> omega
theorem TabsOK.laid {T : List Tb} (h : TabsOK T) {c : TC} {k va R : Nat} (hR : InReg va R) (hup : tabF c.root T va 1 = none → tabF c.root T va 0 = none) : TabsOK (T ++ laidT c k T va) ∧ T.length + (laidT c k T va).length ≤ 4 := by
  have e1 : tabF c.root T va 1 = none ↔ pres T 1 R = false := by rw [pres_none (by decide), reg2 hR]
  have e0 : tabF c.root T va 0 = none ↔ pres T 0 R = false := by rw [pres_none (by decide), reg1 hR]
  have hroom := h.room hR.1
  unfold laidT
  by_cases h1 : tabF c.root T va 1 = none
  · have p1 := e1.1 h1
    have p0 := e0.1 (hup h1)
    rw [if_pos h1, reg1 hR, reg2 hR]
    rw [p1, p0] at hroom
    refine ⟨?_, by simp only [Bool.not_false, b2_t, List.length_cons, List.length_nil] at hroom ⊢; omega⟩
    have h2 := h.one (f := c.first + k) (.inl rfl) hR.1 p1
    have h3 := h2.one (f := c.first + (k + 1)) (.inr rfl) hR.1 (by rw [pres_app, p0]; rfl)
    rw [List.append_assoc] at h3
    exact h3
  · rw [if_neg h1]
    by_cases h0 : tabF c.root T va 0 = none
    · have p0 := e0.1 h0
      rw [if_pos h0, reg1 hR]
      rw [p0] at hroom
      exact ⟨h.one (.inr rfl) hR.1 p0, by simp only [Bool.not_false, b2_t, List.length_cons, List.length_nil] at hroom ⊢; omega⟩
    · rw [if_neg h0, List.append_nil]
      exact ⟨h, by simp only [List.length_nil]; omega⟩
end Go.Proofs.YtophcgbddccpeaaGreat

/- Plain laws: what a space keeps; a frame is taken, a page is mapped otherwise. -/
namespace Go.Proofs.YtophcgbddccpeaaGreat
open Go.RowKit

theorem vane_idx {M : List Mp} (h : VaNe M) {i j : Nat} {a b : Mp} (hi : M[i]? = some a) (hj : M[j]? = some b) (hij : i ≠ j) : a.va ≠ b.va := by
  obtain ⟨h1, rfl⟩ := List.getElem?_eq_some_iff.1 hi
  obtain ⟨h2, rfl⟩ := List.getElem?_eq_some_iff.1 hj
  have hp := List.pairwise_iff_getElem.1 h
  rcases Nat.lt_or_ge i j with h3 | h3
  · exact hp i j h1 h2 h3
  · exact fun e => hp j i h2 h1 (by omega) e.symm
theorem mem_erase_va {M : List Mp} {i : Nat} {m x : Mp} (h : VaNe M) (hi : M[i]? = some m) : x ∈ M.eraseIdx i ↔ x ∈ M ∧ x.va ≠ m.va := by
  rw [List.mem_eraseIdx_iff_getElem?]
  constructor
  · rintro ⟨j, hj, e⟩
    exact ⟨List.mem_of_getElem? e, vane_idx h e hi hj⟩
  · rintro ⟨hx, hne⟩
    obtain ⟨j, e⟩ := List.mem_iff_getElem?.1 hx
    exact ⟨j, fun ej => hne (by subst ej; rw [hi] at e; injection e with e; rw [e]), e⟩
theorem mem_set_va {M : List Mp} {i : Nat} {m y x : Mp} (h : VaNe M) (hi : M[i]? = some m) : x ∈ M.set i y ↔ x = y ∨ (x ∈ M ∧ x.va ≠ m.va) := by
  have hil := (List.getElem?_eq_some_iff.1 hi).1
  constructor
  · intro hx
    obtain ⟨j, e⟩ := List.mem_iff_getElem?.1 hx
    by_cases hj : i = j
    · subst hj
      rw [List.getElem?_set_self hil] at e
      injection e with e
      exact .inl e.symm
    · rw [List.getElem?_set_ne hj] at e
      exact .inr ⟨List.mem_of_getElem? e, vane_idx h e hi (fun e => hj e.symm)⟩
  · rintro (rfl | ⟨hx, hne⟩)
    · exact List.mem_iff_getElem?.2 ⟨i, List.getElem?_set_self hil⟩
    · obtain ⟨j, e⟩ := List.mem_iff_getElem?.1 hx
      have hj : i ≠ j := fun ej => hne (by subst ej; rw [hi] at e; injection e with e; rw [e])
      exact List.mem_iff_getElem?.2 ⟨j, by rw [List.getElem?_set_ne hj]; exact e⟩
/-- The pages of a space. -/
def PgOf (L : SpL) (s : SpS) (m : Mp) : Prop :=
  (∃ i f, L.cf[i]? = some f ∧ m = ⟨65536 + 4096 * i, 0, codeE f⟩) ∨ (∃ i f, L.ow[i]? = some f ∧ m = ⟨131072 + 4096 * i, 0, ownE f⟩) ∨ (∃ p f : Nat, s.sh p = some (f : Int) ∧ s.rt p ≠ 0 ∧ m = ⟨vaN p, 0, rtE (s.rt p) f⟩)
structure SpOK (L : SpL) (s : SpS) (M : List Mp) (T : List Tb) : Prop where
  inv : Inv L.tc s.ts M T
  ul : s.u ≤ s.k
  root : L.root = 0
  un : L.un = ⟨true, 1, 0, true, false, false⟩
  nc : L.nc ≤ 16
  np : L.np ≤ 16
  ns : 1 ≤ L.ns ∧ L.ns ≤ 512
  n : L.n = L.nc + L.np + L.ns + 5
  cl : L.cf.length = L.nc
  wl : L.ow.length = L.np
  pages : ∀ m, m ∈ M ↔ PgOf L s m
  shv : ∀ p x, s.sh p = some x → p < L.ns ∧ ∃ f : Nat, x = (f : Int) ∧ FreeF 0 T f ∧ f < s.k ∧ f ∉ L.cf ∧ f ∉ L.ow
  inj : ∀ p q x, s.sh p = some x → s.sh q = some x → p = q
  cfv : ∀ f, f ∈ L.cf ∨ f ∈ L.ow → FreeF 0 T f ∧ f < s.k
  nd : (L.cf ++ L.ow).Nodup
  riv : ∀ p, s.rt p ≠ 0 → (s.sh p).isSome = true ∧ (s.rt p = 1 ∨ s.rt p = 2)
  ms : s.ms = cntS s.sh L.ns
  mr : s.mr = cntS s.ri L.ns
  rin : ∀ p x, s.ri p = some x → p < L.ns
  tabs : TabsOK T
  kk : s.k = 1 + T.length + L.nc + L.np + s.ms
  buf : BufOK s.T M
section
variable {L : SpL} {s : SpS} {M : List Mp} {T : List Tb}
theorem SpOK.lev (h : SpOK L s M T) : ∀ m ∈ M, m.lev = 0 := fun m hm => by
  rcases (h.pages m).1 hm with ⟨i, f, _, rfl⟩ | ⟨i, f, _, rfl⟩ | ⟨p, f, _, _, rfl⟩ <;> rfl
theorem SpOK.vane (h : SpOK L s M T) : VaNe M := by
  have hl := h.lev
  refine List.Pairwise.imp_of_mem ?_ h.inv.pkey
  intro a b ha hb hab e
  exact hab ⟨(hl a ha).trans (hl b hb).symm, e⟩
theorem va_of (p : Nat) : baseN (vaN p) 0 = vaN p := by
  unfold baseN vaN
  rw [sp0]
  omega
theorem va_low {p : Nat} (h : p < 512) : vaN p < 274877906944 ∧ InReg (vaN p) 1073741824 := by
  unfold vaN InReg
  omega
theorem vpn_va {p : Nat} (h : p < 512) : vpnV (vaN p) = 262144 + p := by
  unfold vpnV vaN
  omega
theorem SpOK.rtv (h : SpOK L s M T) (p : Nat) : s.rt p = 0 ∨ s.rt p = 1 ∨ s.rt p = 2 := by
  by_cases e : s.rt p = 0
  · exact .inl e
  · exact .inr (h.riv p e).2
theorem SpOK.one (h : SpOK L s M T) {p f : Nat} (hs : s.sh p = some (f : Int)) {m : Mp} (hm : m ∈ M) (hv : m.va = vaN p) : m = ⟨vaN p, 0, rtE (s.rt p) f⟩ ∧ s.rt p ≠ 0 := by
  have hp := (h.shv p _ hs).1
  have hns := h.ns
  have hnc := h.nc
  have hnp := h.np
  rcases (h.pages m).1 hm with ⟨i, g, hi, rfl⟩ | ⟨i, g, hi, rfl⟩ | ⟨q, g, hq, hr, rfl⟩
  · have := (List.getElem?_eq_some_iff.1 hi).1
    have := h.cl
    simp only [vaN] at hv
    omega
  · have := (List.getElem?_eq_some_iff.1 hi).1
    have := h.wl
    simp only [vaN] at hv
    omega
  · simp only [vaN] at hv
    obtain rfl : q = p := by omega
    rw [hs] at hq
    injection hq with hq
    obtain rfl : f = g := by omega
    exact ⟨rfl, hr⟩
theorem SpOK.page_some (h : SpOK L s M T) {p f : Nat} (hs : s.sh p = some (f : Int)) (hr : s.rt p ≠ 0) : pageP M (vaN p) 0 = some ⟨vaN p, 0, rtE (s.rt p) f⟩ := by
  rw [page_iff h.inv.pkey]
  exact ⟨(h.pages _).2 (.inr (.inr ⟨p, f, hs, hr, rfl⟩)), rfl, (va_of p).symm⟩
theorem SpOK.page_none (h : SpOK L s M T) {p f : Nat} (hs : s.sh p = some (f : Int)) (hr : s.rt p = 0) : pageP M (vaN p) 0 = none := by
  cases e : pageP M (vaN p) 0 with
  | none => rfl
  | some m =>
    obtain ⟨h1, _, h2⟩ := Proofs.YtophcgbddccpeaaGreat.page_some e
    rw [va_of] at h2
    exact absurd hr (h.one hs h1 h2).2
/-- A frame is taken for a page that has none. -/
theorem SpOK.frame (h : SpOK L s M T) {p : Nat} (hp : p < L.ns) (hs : s.sh p = none) : SpOK L (frS s p) M T ∧ s.k < L.n := by
  have hms := h.ms
  have hlt := cnt_lt hp hs
  have hkk := h.kk
  have hn := h.n
  have hroom := h.tabs.room (R := 0) (.inl rfl)
  have hk : s.k < L.n := by omega
  have hfull : Full (updS s.S s.k zeroL) := Full.upd h.inv.full _
  have hrt : ∀ q, (frS s p).rt q = s.rt q := fun q => rfl
  have hp0 : s.rt p = 0 := by
    by_cases e : s.rt p = 0
    · exact e
    · have := (h.riv p e).1
      rw [hs] at this
      cases this
  refine ⟨{ h with
    inv := h.inv.other (S' := updS s.S s.k zeroL) (k' := s.k + 1) hfull (Nat.le_succ _) (fun t ht => upd_other (fun e => ht ?_))
    ul := Nat.le_succ_of_le h.ul
    pages := fun m => ?_
    shv := fun q x hq => ?_
    inj := fun q q' x hq hq' => ?_
    cfv := fun f hf => ⟨(h.cfv f hf).1, Nat.lt_succ_of_lt (h.cfv f hf).2⟩
    riv := fun q hq => ?_
    ms := ?_
    kk := ?_ }, hk⟩
  · subst e
    refine ⟨fun e => ?_, fun b hb e => ?_⟩
    · have := h.inv.rfresh
      show False
      rw [show L.tc.root = L.root from rfl, h.root] at e
      have : L.tc.root < L.tc.first + s.k := this
      rw [e] at this
      rw [show L.tc.root = L.root from rfl, h.root, show L.tc.first = 0 from rfl] at this
      omega
    · have : b.fr < L.tc.first + s.k := h.inv.fresh b hb
      rw [show L.tc.first = 0 from rfl] at this
      omega
  · rw [h.pages m]
    constructor
    · rintro (h1 | h1 | ⟨q, f, h1, h2, h3⟩)
      · exact .inl h1
      · exact .inr (.inl h1)
      · refine .inr (.inr ⟨q, f, ?_, h2, h3⟩)
        show putF s.sh p _ q = _
        unfold putF
        rw [if_neg (fun e => by subst e; rw [hs] at h1; cases h1)]
        exact h1
    · rintro (h1 | h1 | ⟨q, f, h1, h2, h3⟩)
      · exact .inl h1
      · exact .inr (.inl h1)
      · refine .inr (.inr ⟨q, f, ?_, h2, h3⟩)
        have h1' : putF s.sh p (s.k : Int) q = some (f : Int) := h1
        unfold putF at h1'
        split at h1'
        · rename_i e
          subst e
          exact absurd hp0 h2
        · exact h1'
  · have hq' : putF s.sh p (s.k : Int) q = some x := hq
    unfold putF at hq'
    split at hq'
    · rename_i e
      subst e
      injection hq' with hq'
      refine ⟨hp, s.k, hq'.symm, ⟨fun e => ?_, fun b hb e => ?_⟩, Nat.lt_succ_self _, fun hm => ?_, fun hm => ?_⟩
      · have : L.tc.root < L.tc.first + s.k := h.inv.rfresh
        rw [show L.tc.root = L.root from rfl, h.root, show L.tc.first = 0 from rfl] at this
        omega
      · have : b.fr < L.tc.first + s.k := h.inv.fresh b hb
        rw [show L.tc.first = 0 from rfl] at this
        omega
      · exact absurd (h.cfv _ (.inl hm)).2 (Nat.lt_irrefl _)
      · exact absurd (h.cfv _ (.inr hm)).2 (Nat.lt_irrefl _)
    · obtain ⟨h1, f, h2, h3, h4, h5⟩ := h.shv q x hq'
      exact ⟨h1, f, h2, h3, Nat.lt_succ_of_lt h4, h5⟩
  · have hq1 : putF s.sh p (s.k : Int) q = some x := hq
    have hq2 : putF s.sh p (s.k : Int) q' = some x := hq'
    have old : ∀ r, s.sh r = some (s.k : Int) → False := fun r hr => by
      obtain ⟨_, f, h2, _, h4, _⟩ := h.shv r _ hr
      omega
    unfold putF at hq1 hq2
    split at hq1 <;> split at hq2
    · rename_i e1 e2; rw [e1, e2]
    · injection hq1 with hq1; rw [← hq1] at hq2; exact (old _ hq2).elim
    · injection hq2 with hq2; rw [← hq2] at hq1; exact (old _ hq1).elim
    · exact h.inj q q' x hq1 hq2
  · obtain ⟨h1, h2⟩ := h.riv q hq
    refine ⟨?_, h2⟩
    show (putF s.sh p _ q).isSome = true
    unfold putF
    split
    · rfl
    · exact h1
  · show s.ms + 1 = cntS (putF s.sh p _) L.ns
    rw [cnt_put hp, hs, if_neg (by simp), hms]
  · show s.k + 1 = 1 + T.length + L.nc + L.np + (s.ms + 1)
    omega
theorem SpOK.frame_data (h : SpOK L s M T) {p : Nat} (hs : s.sh p = none) (q : Nat) : (frS s p).data q = s.data q := by
  unfold SpS.data
  show (match putF s.sh p (s.k : Int) q with | some f => updS s.S s.k zeroL f.toNat | none => zeroL) = _
  by_cases e : q = p
  · subst e
    rw [hs]
    unfold putF
    rw [if_pos rfl]
    simp only
    unfold updS
    rw [if_pos (by omega)]
  · unfold putF
    rw [if_neg e]
    cases hq : s.sh q with
    | none => rfl
    | some x =>
      obtain ⟨_, f, rfl, _, h4, _⟩ := h.shv q x hq
      exact upd_other (by omega)
end
end Go.Proofs.YtophcgbddccpeaaGreat

/- Plain laws: a right is set; what loads and stores come to. -/
namespace Go.Proofs.YtophcgbddccpeaaGreat
open Go.RowKit

def reR (L : SpL) (s : SpS) (p f : Nat) (r : Int) : Int × TS :=
  if r = 0 then (0, (unmapR L.tc s.ts (vaN p)).2.2) else if s.rt p = 0 then mapR L.tc s.ts (vaN p) 0 (rtE r f) else changeR L.tc s.ts (vaN p) (rtE r f)
section
variable {L : SpL} {s : SpS} {M : List Mp} {T : List Tb}
theorem fin_rt (s : SpS) (σ : TS) (p : Nat) (r : Int) (q : Nat) : (finS (s.withT σ) p r).rt q = if q = p then r else s.rt q := by
  show (putF s.ri p r q).getD 0 = _
  unfold putF
  split
  · rfl
  · rfl
/-- What a turn of the tables and of the page's right must keep. -/
theorem SpOK.turn (h : SpOK L s M T) {p f : Nat} {r : Int} {σ : TS} {M' : List Mp} {T' : List Tb} (hs : s.sh p = some (f : Int)) (hr : r = 0 ∨ r = 1 ∨ r = 2) (hi : Inv L.tc σ M' T') (hu : σ.u ≤ σ.k) (hk : s.k ≤ σ.k)
    (hp : ∀ m, m ∈ M' ↔ (m ∈ M ∧ m.va ≠ vaN p) ∨ (r ≠ 0 ∧ m = ⟨vaN p, 0, rtE r f⟩)) (hF : ∀ g, FreeF 0 T g → g < s.k → FreeF 0 T' g) (hT : TabsOK T') (hkk : σ.k = 1 + T'.length + L.nc + L.np + s.ms) : SpOK L (finS (s.withT σ) p r) M' T' := by
  obtain ⟨hpl, _⟩ := h.shv p _ hs
  have hns := h.ns
  have hnc := h.nc
  have hnp := h.np
  have hc : ∀ i g, L.cf[i]? = some g → 65536 + 4096 * i ≠ vaN p := fun i g hi => by
    have := (List.getElem?_eq_some_iff.1 hi).1
    have := h.cl
    unfold vaN
    omega
  have hw : ∀ i g, L.ow[i]? = some g → 131072 + 4096 * i ≠ vaN p := fun i g hi => by
    have := (List.getElem?_eq_some_iff.1 hi).1
    have := h.wl
    unfold vaN
    omega
  refine { h with
    inv := hi
    ul := hu
    pages := fun m => ?_
    shv := fun q x hq => ?_
    cfv := fun g hg => ⟨hF g (h.cfv g hg).1 (h.cfv g hg).2, Nat.lt_of_lt_of_le (h.cfv g hg).2 hk⟩
    riv := fun q hq => ?_
    mr := ?_
    rin := fun q x hq => ?_
    tabs := hT
    kk := hkk
    buf := h.buf.fence h.lev (fun m hm hne => (hp m).2 (.inl ⟨hm, fun e => hne (by rw [e])⟩)) }
  · rw [hp]
    constructor
    · rintro (⟨h1, h2⟩ | ⟨h1, rfl⟩)
      · rcases (h.pages m).1 h1 with h3 | h3 | ⟨q, g, h3, h4, rfl⟩
        · exact .inl h3
        · exact .inr (.inl h3)
        · have hqp : q ≠ p := fun e => h2 (by rw [e])
          refine .inr (.inr ⟨q, g, h3, ?_, ?_⟩)
          · rw [fin_rt, if_neg hqp]; exact h4
          · rw [fin_rt, if_neg hqp]
      · refine .inr (.inr ⟨p, f, hs, ?_, ?_⟩)
        · rw [fin_rt, if_pos rfl]; exact h1
        · rw [fin_rt, if_pos rfl]
    · rintro (⟨i, g, h3, rfl⟩ | ⟨i, g, h3, rfl⟩ | ⟨q, g, h3, h4, rfl⟩)
      · exact .inl ⟨(h.pages _).2 (.inl ⟨i, g, h3, rfl⟩), hc i g h3⟩
      · exact .inl ⟨(h.pages _).2 (.inr (.inl ⟨i, g, h3, rfl⟩)), hw i g h3⟩
      · rw [fin_rt] at h4 ⊢
        have h3' : s.sh q = some (g : Int) := h3
        by_cases e : q = p
        · subst e
          rw [if_pos rfl] at h4 ⊢
          rw [hs] at h3'
          injection h3' with h3'
          obtain rfl : f = g := by omega
          exact .inr ⟨h4, rfl⟩
        · rw [if_neg e] at h4 ⊢
          exact .inl ⟨(h.pages _).2 (.inr (.inr ⟨q, g, h3', h4, rfl⟩)), fun e2 => e (by simp only [vaN] at e2; omega)⟩
  · obtain ⟨h1, g, h2, h3, h4, h5⟩ := h.shv q x hq
    exact ⟨h1, g, h2, hF g h3 h4, Nat.lt_of_lt_of_le h4 hk, h5⟩
  · rw [fin_rt] at hq ⊢
    by_cases e : q = p
    · subst e
      rw [if_pos rfl] at hq ⊢
      exact ⟨by show (s.sh q).isSome = true; rw [hs]; rfl, hr.resolve_left hq⟩
    · rw [if_neg e] at hq ⊢
      exact h.riv q hq
  · show (if (s.ri p).isSome then s.mr else s.mr + 1) = cntS (putF s.ri p r) L.ns
    rw [cnt_put hpl, h.mr]
  · have hq' : putF s.ri p r q = some x := hq
    unfold putF at hq'
    split at hq'
    · rename_i e; rw [e]; exact hpl
    · exact h.rin q x hq'
theorem may_rt {r : Int} {f : Nat} (hf : f < 1048576) : mayB (rtE r f) 0 = true ∧ PteWf (rtE r f) := by
  have hw : PteWf (rtE r f) := by unfold rtE; split <;> exact entF_wf _ _ _ _ _ _ _ _ hf
  refine ⟨?_, hw⟩
  unfold mayB rtE ownE readE entF Pte.fits Pte.right Pte.leafB lowB levelB
  split <;> simp <;> omega
theorem SpOK.remap (h : SpOK L s M T) {p f : Nat} {r : Int} (hs : s.sh p = some (f : Int)) (hr : r = 0 ∨ r = 1 ∨ r = 2) (hne : s.rt p ≠ r) :
    (reR L s p f r).1 = 0 ∧ (∃ M' T', SpOK L (finS (s.withT (reR L s p f r).2) p r) M' T') ∧ ∀ g, FreeF 0 T g → g < s.k → (reR L s p f r).2.S g = s.S g := by
  obtain ⟨hpl, f', hff, hfr, hfk, hfc, hfw⟩ := h.shv p _ hs
  obtain rfl : f = f' := by omega
  have hns := h.ns
  have hnc := h.nc
  have hnp := h.np
  have hn := h.n
  have hkk := h.kk
  have hroot : L.tc.root = 0 := h.root
  have hfirst : L.tc.first = 0 := rfl
  have hcn : L.tc.n = L.n := rfl
  have hcN : L.tc.N = L.n := rfl
  have hms := h.ms
  have hmle := cnt_le s.sh L.ns
  have hf20 : f < 1048576 := by
    have := h.tabs.room (R := 0) (.inl rfl)
    omega
  obtain ⟨hmay, hwf⟩ := may_rt (r := r) hf20
  have hva : vaN p < 18446744073709551616 := va_lt (by omega)
  obtain ⟨hlow, hreg⟩ := va_low (p := p) (by omega)
  have hcan := canon_low hlow
  by_cases h0 : s.rt p = 0
  · -- mapped anew
    have hr0 : r ≠ 0 := fun e => hne (by rw [h0, e])
    have hR : reR L s p f r = mapR L.tc s.ts (vaN p) 0 (rtE r f) := by unfold reR; rw [if_neg hr0, if_pos h0]
    rw [hR]
    obtain ⟨hT', hlen⟩ := h.tabs.laid (c := L.tc) (k := s.k) hreg (fun e => tab_none1 h.inv e)
    obtain ⟨g1, g2, g3, g4, g5⟩ := map0 h.inv hva hcan hmay hwf h.lev (h.page_none hs h0) (by rw [hfirst, hcn]; show 0 + s.k + _ ≤ _; have : (laidT L.tc s.ts.k T (vaN p)).length = (laidT L.tc s.k T (vaN p)).length := rfl; omega) (by rw [hcN]; show s.k + _ ≤ _; have : (laidT L.tc s.ts.k T (vaN p)).length = (laidT L.tc s.k T (vaN p)).length := rfl; omega) h.ul
    have hk3 : (mapR L.tc s.ts (vaN p) 0 (rtE r f)).2.k = s.k + (laidT L.tc s.k T (vaN p)).length := g3
    refine ⟨g1, ⟨_, _, h.turn hs hr g2 g4 (by omega) (fun m => ?_) (fun g hg hgk => ⟨hg.1, fun b hb e => ?_⟩) hT' (by rw [List.length_append]; show (mapR L.tc s.ts (vaN p) 0 (rtE r f)).2.k = 1 + (T.length + (laidT L.tc s.k T (vaN p)).length) + _ + _ + _; omega)⟩, fun g hg hgk => g5 g (by rw [hroot]; exact hg) (by rw [hfirst]; show g < 0 + s.k; omega)⟩
    · rw [List.mem_append, List.mem_singleton, va_of]
      constructor
      · rintro (hm | hm)
        · exact .inl ⟨hm, fun e => (h.one hs hm e).2 h0⟩
        · exact .inr ⟨hr0, hm⟩
      · rintro (⟨hm, _⟩ | ⟨_, hm⟩)
        · exact .inl hm
        · exact .inr hm
    · rcases List.mem_append.1 hb with hb | hb
      · exact hg.2 b hb e
      · have : s.k ≤ b.fr := by
          have hb' : b ∈ laidT L.tc s.k T (vaN p) := hb
          unfold laidT at hb'
          rw [hfirst] at hb'
          split at hb'
          · simp only [List.mem_cons, List.not_mem_nil, or_false] at hb'
            rcases hb' with rfl | rfl <;> simp
          · split at hb'
            · rw [List.mem_singleton.1 hb']; simp
            · simp at hb'
        omega
  · have hpg := h.page_some hs h0
    obtain ⟨hmM, _, _⟩ := Proofs.YtophcgbddccpeaaGreat.page_some hpg
    obtain ⟨i, hi⟩ := List.mem_iff_getElem?.1 hmM
    by_cases hr0 : r = 0
    · have hR : reR L s p f r = (0, (unmapR L.tc s.ts (vaN p)).2.2) := by unfold reR; rw [if_pos hr0]
      rw [hR]
      obtain ⟨g1, g2, g3, g4, g5⟩ := unmap0 h.inv hva hcan rfl hpg hi
      refine ⟨rfl, ⟨_, _, h.turn hs hr g2 (by rw [g3, g4]; exact h.ul) (by rw [g3]; exact Nat.le_refl _) (fun m => ?_) (fun g hg _ => hg) h.tabs (by rw [g3]; exact h.kk)⟩, fun g hg _ => g5 g (by rw [hroot]; exact hg)⟩
      rw [mem_erase_va h.vane hi]
      constructor
      · exact fun hm => .inl hm
      · rintro (hm | ⟨hm, _⟩)
        · exact hm
        · exact absurd hr0 hm
    · have hR : reR L s p f r = changeR L.tc s.ts (vaN p) (rtE r f) := by unfold reR; rw [if_neg hr0, if_neg h0]
      rw [hR]
      obtain ⟨g1, g2, g3, g4, g5⟩ := change0 h.inv hva hcan hmay hwf rfl hpg hi
      refine ⟨g1, ⟨_, _, h.turn hs hr g2 (by rw [g3, g4]; exact h.ul) (by rw [g3]; exact Nat.le_refl _) (fun m => ?_) (fun g hg _ => hg) h.tabs (by rw [g3]; exact h.kk)⟩, fun g hg _ => g5 g (by rw [hroot]; exact hg)⟩
      rw [mem_set_va h.vane hi]
      constructor
      · rintro (hm | hm)
        · exact .inr ⟨hr0, hm⟩
        · exact .inl hm
      · rintro (hm | ⟨_, hm⟩)
        · exact .inr hm
        · exact .inl hm
theorem fin_data (s : SpS) (σ : TS) (p : Nat) (r : Int) (q : Nat) (h : ∀ g : Nat, s.sh q = some (g : Int) → σ.S g = s.S g) (hn : ∀ x, s.sh q = some x → ∃ g : Nat, x = (g : Int)) : (finS (s.withT σ) p r).data q = s.data q := by
  unfold SpS.data
  show (match s.sh q with | some f => σ.S f.toNat | none => zeroL) = _
  cases hq : s.sh q with
  | none => rfl
  | some x =>
    obtain ⟨g, rfl⟩ := hn x hq
    exact h g hq
end
end Go.Proofs.YtophcgbddccpeaaGreat

/- A space and its invariant in one world: Set, loads, stores. -/
namespace Go.Proofs.YtophcgbddccpeaaGreat
open Go.RowKit

/-- What a turn leaves as it was: the bytes of pages, those of code and own pages. -/
structure SpTo (L : SpL) (s s' : SpS) (p : Nat) (r : Int) : Prop where
  rt : ∀ q, s'.rt q = if q = p then r else s.rt q
  data : ∀ q, s'.data q = s.data q
  own : ∀ g, g ∈ L.cf ∨ g ∈ L.ow → s'.S g = s.S g
section
variable {W w : World} {os : List Obj} {L : SpL} {s : SpS} {M : List Mp} {T : List Tb}
theorem SpOK.kn (h : SpOK L s M T) : s.k ≤ L.n := by
  have := h.kk
  have := h.n
  have := h.ms
  have := cnt_le s.sh L.ns
  have := h.tabs.room (R := 0) (.inl rfl)
  omega
theorem SpOK.n20 (h : SpOK L s M T) : L.n ≤ 1048576 := by
  have := h.n
  have := h.ns
  have := h.nc
  have := h.np
  omega
theorem spset_any (h : SpOK L s M T) (hO : Objs W (spO L s os) w) {p : Nat} (hp : p < L.ns) {r : Int} (hr : r = 0 ∨ r = 1 ∨ r = 2) :
    Calls Tryz.prog 7 #[.pointer (some ⟨L.sp, 0, none⟩), .int .i64 (p : Int), .int .i64 r] w fun e w' => e = .returned (.int .i64 0) ∧ ∃ s' M' T', SpOK L s' M' T' ∧ SpTo L s s' p r ∧ Objs W (spO L s' os) w' := by
  have hns := h.ns
  have hn20 := h.n20
  have hroot : L.root < 1048576 := by rw [h.root]; decide
  by_cases hrt : s.rt p = r
  · refine (set_same p r hp (by omega) (by omega) (by omega) hrt hO).mono ?_
    rintro e w' ⟨rfl, rfl⟩
    exact ⟨rfl, s, M, T, h, ⟨fun q => by split <;> simp_all, fun q => rfl, fun g hg => rfl⟩, hO⟩
  · -- the frame
    obtain ⟨s1, f, hs1, hsh, hd1, hrt1, how1, hF⟩ : ∃ (s1 : SpS) (f : Nat), SpOK L s1 M T ∧ s1.sh p = some (f : Int) ∧ (∀ q, s1.data q = s.data q) ∧ (∀ q, s1.rt q = s.rt q) ∧ (∀ g, g ∈ L.cf ∨ g ∈ L.ow → s1.S g = s.S g) ∧
        Calls Tryz.prog 29 #[.pointer (some ⟨L.sp, 0, none⟩), .int .i64 (p : Int)] w fun e w' => e = .returned (.tuple #[.int .i64 (f : Int), .int .i64 0]) ∧ Objs W (spO L s1 os) w' ∧ Below W.heap.size w w' := by
      cases hsh : s.sh p with
      | some x =>
        obtain ⟨_, f, rfl, _⟩ := h.shv p x hsh
        refine ⟨s, f, h, hsh, fun _ => rfl, fun _ => rfl, fun _ _ => rfl, (frame_has p (f : Int) (by omega) hsh hO).mono ?_⟩
        rintro e w' ⟨rfl, rfl⟩
        exact ⟨rfl, hO, Below.refl _ _⟩
      | none =>
        obtain ⟨k1, k2⟩ := h.frame hp hsh
        have hms := h.ms
        have := cnt_le s.sh L.ns
        refine ⟨frS s p, s.k, k1, ?_, fun q => h.frame_data hsh q, fun _ => rfl, fun g hg => upd_other (by have := (h.cfv g hg).2; omega), frame_new p (by omega) hsh k2 hn20 (by omega) hO⟩
        show putF s.sh p _ p = _
        unfold putF
        rw [if_pos rfl]
    obtain ⟨k1, ⟨M', T', k2⟩, k3⟩ := hs1.remap hsh hr (by rw [hrt1]; exact hrt)
    obtain ⟨_, f', hff, hffr, hffk, _, _⟩ := hs1.shv p _ hsh
    obtain rfl : f = f' := by omega
    have hf20 : f < 1048576 := by have := hs1.kn; omega
    have hmr := hs1.mr
    have := cnt_le s1.ri L.ns
    refine (set_turn p f r s1 (s1.withT (reR L s1 p f r).2) hp (by omega) (by omega) (by omega) hrt (by show s1.mr ≤ 65536; omega) hF (fun w1 ho1 => ?_) hO).mono ?_
    · rcases hr with rfl | hr12
      · refine (remap_none p (f : Int) (by omega) hs1.ul hroot ho1).mono ?_
        rintro e w' ⟨rfl, g1, g2, _⟩
        exact ⟨rfl, g1, g2⟩
      · have hr0 : r ≠ 0 := by omega
        by_cases h0 : s1.rt p = 0
        · have hR : reR L s1 p f r = mapR L.tc s1.ts (vaN p) 0 (rtE r f) := by unfold reR; rw [if_neg hr0, if_pos h0]
          rw [hR] at k1 ⊢
          refine (remap_map p f r hr12 (by omega) hf20 hs1.ul hroot h0 ho1).mono ?_
          rintro e w' ⟨rfl, g1, g2, _⟩
          exact ⟨by rw [k1], g1, g2⟩
        · have hR : reR L s1 p f r = changeR L.tc s1.ts (vaN p) (rtE r f) := by unfold reR; rw [if_neg hr0, if_neg h0]
          rw [hR] at k1 ⊢
          refine (remap_change p f r hr12 (by omega) hf20 hs1.ul hroot h0 ho1).mono ?_
          rintro e w' ⟨rfl, g1, g2, _⟩
          exact ⟨by rw [k1], g1, g2⟩
    · rintro e w' ⟨rfl, ho⟩
      refine ⟨rfl, _, M', T', k2, ⟨fun q => ?_, fun q => ?_, fun g hg => ?_⟩, ho⟩
      · rw [fin_rt, hrt1]
      · rw [fin_data s1 _ p r q (fun g hg => ?_) (fun x hx => ?_), hd1]
        · obtain ⟨_, g', e, g1, g2, _⟩ := hs1.shv q _ hg
          obtain rfl : g = g' := by omega
          exact k3 g g1 g2
        · obtain ⟨_, g', e, _⟩ := hs1.shv q x hx
          exact ⟨g', e⟩
      · show (reR L s1 p f r).2.S g = s.S g
        rw [k3 g (hs1.cfv g hg).1 (hs1.cfv g hg).2, how1 g hg]
/-- What is done with a shared page. -/
def okRt (r a : Int) : Bool := r == 2 || (r == 1 && a == 1)
theorem may_okRt {r a : Int} {f : Nat} (hr : r = 1 ∨ r = 2) (ha : a = 1 ∨ a = 2) : mayA (rtE r f) a = okRt r a := by
  rcases hr with rfl | rfl <;> rcases ha with rfl | rfl <;> rfl
theorem SpOK.place (h : SpOK L s M T) {p o : Nat} {size a : Int} (hp : p < L.ns) (ho : o < 4096) (hal : alignedB (vaN p + o) size = true) (ha : a = 1 ∨ a = 2) (pick : Int) :
    (okRt (s.rt p) a = true → ∃ f : Nat, s.sh p = some (f : Int) ∧ (placeM L.n s.S s.T L.un (vaN p + o) size a pick).1 = f * 4096 + o ∧ (placeM L.n s.S s.T L.un (vaN p + o) size a pick).2.1 = -1) ∧
    (okRt (s.rt p) a = false → (placeM L.n s.S s.T L.un (vaN p + o) size a pick).1 = 0 ∧ (placeM L.n s.S s.T L.un (vaN p + o) size a pick).2.1 = causeV a 12 13 15) ∧
    BufOK (placeM L.n s.S s.T L.un (vaN p + o) size a pick).2.2 M := by
  have hns := h.ns
  have hnc := h.nc
  have hnp := h.np
  have hva : vaN p + o < 274877906944 := by unfold vaN; omega
  have hvpn : vpnV (vaN p + o) = 262144 + p := by unfold vpnV vaN; omega
  have hkn := h.kn
  have key : ∀ m ∈ M, vpnV m.va = vpnV (vaN p + o) → ∃ f : Nat, s.sh p = some (f : Int) ∧ s.rt p ≠ 0 ∧ m = ⟨vaN p, 0, rtE (s.rt p) f⟩ := fun m hm hv => by
    rw [hvpn] at hv
    rcases (h.pages m).1 hm with ⟨i, g, hi, rfl⟩ | ⟨i, g, hi, rfl⟩ | ⟨q, g, h3, h4, rfl⟩
    · have := (List.getElem?_eq_some_iff.1 hi).1
      have := h.cl
      simp only [vpnV] at hv
      omega
    · have := (List.getElem?_eq_some_iff.1 hi).1
      have := h.wl
      simp only [vpnV] at hv
      omega
    · have := (h.shv q _ h3).1
      simp only [vpn_va (show q < 512 by omega)] at hv
      obtain rfl : q = p := by omega
      exact ⟨g, h3, h4, rfl⟩
  have hP : ∀ m ∈ M, 0 ≤ m.p.ppn ∧ m.p.ppn < (L.tc.n : Int) := fun m hm => by
    have hn : L.tc.n = L.n := rfl
    rw [hn]
    rcases (h.pages m).1 hm with ⟨i, g, hi, rfl⟩ | ⟨i, g, hi, rfl⟩ | ⟨q, g, h3, h4, rfl⟩
    · have := (h.cfv g (.inl (List.mem_of_getElem? hi))).2
      show (0 : Int) ≤ (g : Int) ∧ (g : Int) < _
      omega
    · have := (h.cfv g (.inr (List.mem_of_getElem? hi))).2
      show (0 : Int) ≤ (g : Int) ∧ (g : Int) < _
      omega
    · obtain ⟨_, g', e, _, hk, _⟩ := h.shv q _ h3
      have e2 : (rtE (s.rt q) g).ppn = (g : Int) := by unfold rtE; split <;> rfl
      show (0 : Int) ≤ (rtE (s.rt q) g).ppn ∧ (rtE (s.rt q) g).ppn < _
      rw [e2]
      omega
  have hun := h.un
  rcases place_law (c := L.tc) (σ := s.ts) (u := L.un) (T := s.T) (size := size) (a := a) (pick := pick) h.inv h.lev h.buf (by rw [hun]) (by rw [hun]; exact h.root.symm) (by rw [hun]) (by rw [hun]) (by rw [hun]) (show vaN p + o < 18446744073709551616 by omega) hal (by omega) hP with ⟨m, hm, g1, g2, g3, g4, g5⟩ | ⟨g1, g2, g3, g4⟩
  · obtain ⟨f, k1, k2, rfl⟩ := key m hm g1
    have hrr : s.rt p = 1 ∨ s.rt p = 2 := (h.riv p k2).2
    rw [may_okRt hrr ha] at g2
    have e2 : (rtE (s.rt p) f).ppn = (f : Int) := by unfold rtE; split <;> rfl
    have g3' : (placeM L.n s.S s.T L.un (vaN p + o) size a pick).1 = (rtE (s.rt p) f).ppn.toNat * 4096 + (vaN p + o) % 4096 := g3
    rw [e2] at g3'
    refine ⟨fun _ => ⟨f, k1, ?_, g4⟩, fun hf => (by rw [g2] at hf; cases hf), g5⟩
    rw [g3', show (vaN p + o) % 4096 = o by unfold vaN; omega]
    rfl
  · refine ⟨fun hf => ?_, fun _ => ⟨g1, g2⟩, g3⟩
    exfalso
    have hr0 : s.rt p ≠ 0 := fun e => by rw [e] at hf; cases ha with | inl h => subst h; cases hf | inr h => subst h; cases hf
    obtain ⟨hsome, hrr⟩ := h.riv p hr0
    obtain ⟨x, hx⟩ := Option.isSome_iff_exists.1 hsome
    obtain ⟨_, f, rfl, _⟩ := h.shv p x hx
    have hpg := h.page_some hx hr0
    have hpo : pageP M (vaN p + o) 0 = some ⟨vaN p, 0, rtE (s.rt p) f⟩ := by
      rw [← hpg]
      refine page_congr ?_
      unfold baseN vaN
      rw [sp0]
      omega
    rcases g4 with g4 | g4 | ⟨m, hm, g5, g6⟩
    · rw [canon_low hva] at g4; cases g4
    · rw [hpo] at g4; cases g4
    · obtain ⟨f2, k1, k2, rfl⟩ := key m hm g5
      have g6' : mayA (rtE (s.rt p) f2) a = false := g6
      rw [may_okRt hrr ha, hf] at g6'
      cases g6'
end
end Go.Proofs.YtophcgbddccpeaaGreat

/- Loads and stores of a space's shared pages. -/
namespace Go.Proofs.YtophcgbddccpeaaGreat
open Go.RowKit

theorem al8 {va : Nat} (h : va % 8 = 0) : alignedB va 8 = true := by simp [alignedB, sizeB, h]
section
variable {W w : World} {os : List Obj} {L : SpL} {s : SpS} {M : List Mp} {T : List Tb}
/-- Other entries in the buffer. -/
theorem SpOK.buf' (h : SpOK L s M T) {T2 : List (List En)} (hB : BufOK T2 M) : SpOK L { s with T := T2 } M T := { h with buf := hB }
theorem SpOK.data_some (h : SpOK L s M T) {p f : Nat} (hs : s.sh p = some (f : Int)) : s.data p = s.S f := by
  unfold SpS.data
  rw [hs]
  rfl
theorem un_ok (h : SpOK L s M T) : L.un.Ok := by
  rw [h.un]
  exact ⟨by decide, by decide⟩
theorem ld_word {n f o : Nat} {S : Nat → List Nat} (hf : f < n) (ho : o < 4096) (h8 : o % 8 = 0) : ldR n S (f * 4096 + o) 8 = getV (S f) (o : Int) 8 := by
  unfold ldR
  rw [if_pos (chk8_of (by omega) (by omega))]
  unfold ldV
  rw [show (f * 4096 + o) / 4096 = f by omega, show (f * 4096 + o) % 4096 = o by omega]
theorem spload_any (h : SpOK L s M T) (hO : Objs W (spO L s os) w) {p o : Nat} (hp : p < L.ns) (ho : o < 4096) (h8 : o % 8 = 0) (pick : Int) (hpk : -9223372036854775808 ≤ pick ∧ pick < 9223372036854775808) :
    Calls Tryz.prog 11 #[.pointer (some ⟨L.ub, 0, none⟩), .int .u64 ((vaN p + o : Nat) : Int), .int .i64 8, .int .i64 pick] w fun e w' =>
      e = .returned (.tuple #[.int .u64 ((if okRt (s.rt p) 1 then getV (s.data p) (o : Int) 8 else 0 : Nat) : Int), .int .i64 (if okRt (s.rt p) 1 then -1 else 13)]) ∧ ∃ T2, SpOK L { s with T := T2 } M T ∧ Objs W (spO L { s with T := T2 } os) w' := by
  have hns := h.ns
  obtain ⟨g1, g2, g3⟩ := h.place hp ho (al8 (by unfold vaN; omega)) (size := 8) (a := 1) (.inl rfl) pick
  refine (mload_any L.ub L.gm L.b L.n L.k L.m L.un s.S s.T (unT L s os) (vaN p + o) 8 pick W w (by unfold vaN; omega) hpk (un_ok h) hO.toUn).mono ?_
  rintro e w' ⟨rfl, k1, _⟩
  refine ⟨?_, _, h.buf' g3, Objs.ofUn k1⟩
  generalize placeM L.n s.S s.T L.un (vaN p + o) 8 1 pick = R at *
  unfold readM
  cases hok : okRt (s.rt p) 1 with
  | true =>
    obtain ⟨f, f1, f2, f3⟩ := g1 hok
    obtain ⟨_, f', e, _, hk, _⟩ := h.shv p _ f1
    have hkn := h.kn
    rw [if_pos f3, f2, f3, h.data_some f1, ld_word (by omega) ho h8]
    rfl
  | false =>
    obtain ⟨f1, f2⟩ := g2 hok
    have : causeV 1 12 13 15 = 13 := rfl
    rw [this] at f2
    rw [if_neg (by rw [f2]; decide), f2]
    rfl
theorem put_word {l : List Nat} {o v : Nat} (hl : l.length = 4096) (ho : o + 8 ≤ 4096) (h8 : o % 8 = 0) (hv : v < 18446744073709551616) : getV (putL l o v 8) (o : Int) 8 = v := by
  have h := ld_same (n := 1) (a := o) (v := v) (S := fun _ => l) (chk8_of h8 (by omega)) hv
  rw [show o = 0 * 4096 + o by omega, ld_word (by decide) (by omega) h8] at h
  unfold stR at h
  rw [if_pos (chk8_of (by omega) (by omega))] at h
  unfold stS updS at h
  rw [show (0 * 4096 + o) / 4096 = 0 by omega, show (0 * 4096 + o) % 4096 = o by omega, if_pos rfl] at h
  exact h
theorem SpOK.stored (h : SpOK L s M T) {p f o v : Nat} (hs : s.sh p = some (f : Int)) (ho : o < 4096) (h8 : o % 8 = 0) {T2 : List (List En)} (hB : BufOK T2 M) :
    SpOK L { s with T := T2, S := stR L.n s.S (f * 4096 + o) 8 v } M T ∧ ∀ q, SpS.data { s with T := T2, S := stR L.n s.S (f * 4096 + o) 8 v } q = if q = p then putL (s.data p) o v 8 else s.data q := by
  obtain ⟨_, f', e, hfr, hk, _⟩ := h.shv p _ hs
  obtain rfl : f = f' := by omega
  have hkn := h.kn
  refine ⟨{ h with buf := hB, inv := h.inv.other (k' := s.k) (u' := s.u) (h.inv.full.store _ _ _ _) (Nat.le_refl _) (fun t ht => st_other (fun e => ht ?_)) }, fun q => ?_⟩
  · have : (f * 4096 + o) / 4096 = f := by omega
    rw [this] at e
    rw [← e, show L.tc.root = L.root from rfl, h.root]
    exact hfr
  · unfold SpS.data
    show (match s.sh q with | some f' => stR L.n s.S (f * 4096 + o) 8 v f'.toNat | none => zeroL) = _
    by_cases e : q = p
    · subst e
      rw [if_pos rfl, hs]
      simp only
      unfold stR
      rw [if_pos (chk8_of (by omega) (by omega))]
      unfold stS updS
      rw [show (f * 4096 + o) / 4096 = f by omega, show (f * 4096 + o) % 4096 = o by omega]
      rw [if_pos (by omega)]
      rfl
    · rw [if_neg e]
      cases hq : s.sh q with
      | none => rfl
      | some x =>
        obtain ⟨_, g, rfl, _⟩ := h.shv q x hq
        show stR L.n s.S (f * 4096 + o) 8 v g = s.S g
        refine st_other (fun e2 => e ?_)
        have : f = g := by omega
        subst this
        exact h.inj q p _ hq hs
theorem spstore_any (h : SpOK L s M T) (hO : Objs W (spO L s os) w) {p o v : Nat} (hp : p < L.ns) (ho : o < 4096) (h8 : o % 8 = 0) (hv : v < 18446744073709551616) (pick : Int) (hpk : -9223372036854775808 ≤ pick ∧ pick < 9223372036854775808) :
    Calls Tryz.prog 10 #[.pointer (some ⟨L.ub, 0, none⟩), .int .u64 ((vaN p + o : Nat) : Int), .int .i64 8, .int .u64 (v : Int), .int .i64 pick] w fun e w' =>
      e = .returned (.int .i64 (if okRt (s.rt p) 2 then -1 else 15)) ∧ ∃ s', SpOK L s' M T ∧ (∀ q, s'.rt q = s.rt q) ∧ (∀ q, s'.data q = if q = p ∧ okRt (s.rt p) 2 = true then putL (s.data p) o v 8 else s.data q) ∧ Objs W (spO L s' os) w' := by
  have hns := h.ns
  obtain ⟨g1, g2, g3⟩ := h.place hp ho (al8 (by unfold vaN; omega)) (size := 8) (a := 2) (.inr rfl) pick
  refine (mstore_any L.ub L.gm L.b L.n L.k L.m L.un s.S s.T (unT L s os) (vaN p + o) 8 pick W w v (by unfold vaN; omega) hv hpk (un_ok h) hO.toUn).mono ?_
  rintro e w' ⟨rfl, k1, _⟩
  generalize placeM L.n s.S s.T L.un (vaN p + o) 8 2 pick = R at *
  unfold storeM at k1
  cases hok : okRt (s.rt p) 2 with
  | true =>
    obtain ⟨f, f1, f2, f3⟩ := g1 hok
    rw [if_pos f3, f2] at k1
    obtain ⟨j1, j2⟩ := h.stored (v := v) f1 ho h8 g3
    refine ⟨by rw [f3]; rfl, _, j1, fun _ => rfl, fun q => ?_, Objs.ofUn k1⟩
    rw [j2]
    by_cases e : q = p
    · rw [if_pos e, if_pos ⟨e, rfl⟩]
    · rw [if_neg e, if_neg (fun x => e x.1)]
  | false =>
    obtain ⟨f1, f2⟩ := g2 hok
    have hc : causeV 2 12 13 15 = 15 := rfl
    rw [hc] at f2
    rw [if_neg (by rw [f2]; decide)] at k1
    refine ⟨by rw [f2]; rfl, _, h.buf' g3, fun _ => rfl, fun q => ?_, Objs.ofUn k1⟩
    rw [if_neg (fun x => by cases x.2)]
    rfl
end
end Go.Proofs.YtophcgbddccpeaaGreat

/- Plain laws: a new space. -/
namespace Go.Proofs.YtophcgbddccpeaaGreat
open Go.RowKit

/-- What stands while pages are laid. -/
structure LayOK (L : SpL) (s : SpS) (M : List Mp) (T : List Tb) (cf ow : List Nat) : Prop where
  inv : Inv L.tc s.ts M T
  ul : s.u ≤ s.k
  root : L.root = 0
  pages : ∀ m, m ∈ M ↔ (∃ i f, cf[i]? = some f ∧ m = ⟨65536 + 4096 * i, 0, codeE f⟩) ∨ (∃ i f, ow[i]? = some f ∧ m = ⟨131072 + 4096 * i, 0, ownE f⟩)
  cfv : ∀ f, f ∈ cf ∨ f ∈ ow → FreeF 0 T f ∧ f < s.k
  nd : (cf ++ ow).Nodup
  tabs : TabsOK T
  kk : s.k = 1 + T.length + cf.length + ow.length
  fT : s.T = emptyT L.k L.m
  fms : s.ms = 0
  fsh : s.sh = fun _ => none
  fmr : s.mr = 0
  fri : s.ri = fun _ => none
section
variable {L : SpL} {s : SpS} {M : List Mp} {T : List Tb} {cf ow : List Nat}
theorem LayOK.lev (h : LayOK L s M T cf ow) : ∀ m ∈ M, m.lev = 0 := fun m hm => by
  rcases (h.pages m).1 hm with ⟨i, f, _, rfl⟩ | ⟨i, f, _, rfl⟩ <;> rfl
theorem LayOK.fresh (h : LayOK L s M T cf ow) : FreeF 0 T s.k := by
  have hf : L.tc.first = 0 := rfl
  refine ⟨fun e => ?_, fun b hb e => ?_⟩
  · have : L.tc.root < L.tc.first + s.k := h.inv.rfresh
    rw [show L.tc.root = L.root from rfl, h.root, hf] at this
    omega
  · have : b.fr < L.tc.first + s.k := h.inv.fresh b hb
    rw [hf] at this
    omega
theorem append_get {l : List Nat} {x : Nat} {i f : Nat} : (l ++ [x])[i]? = some f ↔ l[i]? = some f ∨ (i = l.length ∧ f = x) := by
  rcases Nat.lt_trichotomy i l.length with h | h | h
  · rw [List.getElem?_append_left h]
    constructor
    · exact .inl
    · rintro (e | ⟨e, _⟩)
      · exact e
      · omega
  · subst h
    rw [List.getElem?_append_right (Nat.le_refl _), Nat.sub_self]
    have : l[l.length]? = none := List.getElem?_eq_none (Nat.le_refl _)
    rw [this]
    simp
    exact eq_comm
  · rw [List.getElem?_append_right (by omega), List.getElem?_eq_none (by simp; omega), List.getElem?_eq_none (by omega)]
    simp
    omega
/-- One page is laid. -/
theorem LayOK.step (h : LayOK L s M T cf ow) (base : Nat) (E : Nat → Pte) (i : Nat) (hva : base + 4096 * i < 2097152) (h12 : base % 4096 = 0) (hE : mayB (E s.k) 0 = true ∧ PteWf (E s.k)) (hne : ∀ m ∈ M, m.va ≠ base + 4096 * i) (hroom : s.k + 5 ≤ L.n + T.length) :
    s.k < L.n ∧ (layStep L base E i s).1 = 0 ∧ Inv L.tc (layStep L base E i s).2.ts (M ++ [⟨base + 4096 * i, 0, E s.k⟩]) (T ++ laidT L.tc (s.k + 1) T (base + 4096 * i)) ∧ TabsOK (T ++ laidT L.tc (s.k + 1) T (base + 4096 * i)) ∧
      (layStep L base E i s).2.k = s.k + 1 + (laidT L.tc (s.k + 1) T (base + 4096 * i)).length ∧ (layStep L base E i s).2.u ≤ (layStep L base E i s).2.k ∧ ∀ g, FreeF 0 T g → g < s.k + 1 → FreeF 0 (T ++ laidT L.tc (s.k + 1) T (base + 4096 * i)) g := by
  have hf : L.tc.first = 0 := rfl
  have hcn : L.tc.n = L.n := rfl
  have hcN : L.tc.N = L.n := rfl
  have hinv : Inv L.tc s.took.ts M T := h.inv.other (S' := s.S) (k' := s.k + 1) h.inv.full (Nat.le_succ _) (fun t _ => rfl)
  have hreg : InReg (base + 4096 * i) 0 := ⟨.inl rfl, Nat.zero_le _, by omega⟩
  obtain ⟨hT, hlen⟩ := h.tabs.laid (c := L.tc) (k := s.k + 1) hreg (fun e => tab_none1 hinv e)
  have hlow : base + 4096 * i < 274877906944 := by omega
  have hbs : baseN (base + 4096 * i) 0 = base + 4096 * i := by
    unfold baseN
    rw [sp0]
    omega
  have hpg : pageP M (base + 4096 * i) 0 = none := by
    cases e : pageP M (base + 4096 * i) 0 with
    | none => rfl
    | some m =>
      obtain ⟨g1, _, g2⟩ := Proofs.YtophcgbddccpeaaGreat.page_some e
      rw [hbs] at g2
      exact absurd g2 (hne m g1)
  have hk : s.took.ts.k = s.k + 1 := rfl
  obtain ⟨g1, g2, g3, g4, g5⟩ := map0 hinv (by omega) (canon_low hlow) hE.1 hE.2 h.lev hpg (by rw [hf, hcn, hk]; omega) (by rw [hcN, hk]; omega) (by show s.u ≤ s.k + 1; have := h.ul; omega)
  rw [hbs] at g2
  refine ⟨by omega, g1, g2, hT, g3, g4, fun g hg hgk => ⟨hg.1, fun b hb e => ?_⟩⟩
  rcases List.mem_append.1 hb with hb | hb
  · exact hg.2 b hb e
  · have : s.k + 1 ≤ b.fr := by
      unfold laidT at hb
      rw [hf] at hb
      split at hb
      · simp only [List.mem_cons, List.not_mem_nil, or_false] at hb
        rcases hb with rfl | rfl <;> simp
      · split at hb
        · rw [List.mem_singleton.1 hb]; simp
        · simp at hb
    omega
theorem codeE_may {f : Nat} (hf : f < 1048576) : mayB (codeE f) 0 = true ∧ PteWf (codeE f) := by
  refine ⟨?_, entF_wf _ _ _ _ _ _ _ _ hf⟩
  unfold mayB codeE entF Pte.fits Pte.right Pte.leafB lowB levelB
  simp
  omega
theorem ownE_may {f : Nat} (hf : f < 1048576) : mayB (ownE f) 0 = true ∧ PteWf (ownE f) := may_rt (r := 2) hf
theorem LayOK.code (h : LayOK L s M T cf []) (hn : cf.length < 16) (hroom : s.k + 5 ≤ L.n + T.length) (hL : L.n ≤ 1048576) : s.k < L.n ∧ (layStep L 65536 codeE cf.length s).1 = 0 ∧ ∃ M' T', LayOK L (layStep L 65536 codeE cf.length s).2 M' T' (cf ++ [s.k]) [] := by
  have hT4 := h.tabs.room (R := 0) (.inl rfl)
  obtain ⟨g1, g2, g3, g4, g5, g6, g7⟩ := h.step 65536 codeE cf.length (by omega) (by decide) (codeE_may (by omega)) (fun m hm => by
    rcases (h.pages m).1 hm with ⟨i, f, hi, rfl⟩ | ⟨i, f, hi, rfl⟩
    · have := (List.getElem?_eq_some_iff.1 hi).1
      show 65536 + 4096 * i ≠ _
      omega
    · simp at hi) hroom
  refine ⟨g1, g2, _, _, ⟨g3, g6, h.root, fun m => ?_, fun f hf => ?_, ?_, g4, ?_, h.fT, h.fms, h.fsh, h.fmr, h.fri⟩⟩
  · rw [List.mem_append, List.mem_singleton, h.pages m]
    constructor
    · rintro ((⟨i, f, hi, rfl⟩ | h2) | rfl)
      · exact .inl ⟨i, f, append_get.2 (.inl hi), rfl⟩
      · exact .inr h2
      · exact .inl ⟨cf.length, s.k, append_get.2 (.inr ⟨rfl, rfl⟩), rfl⟩
    · rintro (⟨i, f, hi, rfl⟩ | h2)
      · rcases append_get.1 hi with hi | ⟨rfl, rfl⟩
        · exact .inl (.inl ⟨i, f, hi, rfl⟩)
        · exact .inr rfl
      · exact .inl (.inr h2)
  · rw [g5]
    rcases hf with hf | hf
    · rcases List.mem_append.1 hf with hf | hf
      · obtain ⟨a, b⟩ := h.cfv f (.inl hf)
        exact ⟨g7 f a (by omega), by omega⟩
      · rw [List.mem_singleton.1 hf]
        exact ⟨g7 _ h.fresh (by omega), by omega⟩
    · simp at hf
  · have hnd := h.nd
    rw [List.append_nil] at hnd ⊢
    refine List.nodup_append.2 ⟨hnd, by simp, fun a ha b hb e => ?_⟩
    rw [List.mem_singleton.1 hb] at e
    have := (h.cfv a (.inl ha)).2
    omega
  · have := h.kk
    rw [g5, List.length_append, List.length_append]
    simp only [List.length_cons, List.length_nil] at this ⊢
    omega
theorem LayOK.own (h : LayOK L s M T cf ow) (hc : cf.length ≤ 16) (hn : ow.length < 16) (hroom : s.k + 5 ≤ L.n + T.length) (hL : L.n ≤ 1048576) : s.k < L.n ∧ (layStep L 131072 ownE ow.length s).1 = 0 ∧ ∃ M' T', LayOK L (layStep L 131072 ownE ow.length s).2 M' T' cf (ow ++ [s.k]) := by
  have hT4 := h.tabs.room (R := 0) (.inl rfl)
  obtain ⟨g1, g2, g3, g4, g5, g6, g7⟩ := h.step 131072 ownE ow.length (by omega) (by decide) (ownE_may (by omega)) (fun m hm => by
    rcases (h.pages m).1 hm with ⟨i, f, hi, rfl⟩ | ⟨i, f, hi, rfl⟩
    · have := (List.getElem?_eq_some_iff.1 hi).1
      show 65536 + 4096 * i ≠ _
      omega
    · have := (List.getElem?_eq_some_iff.1 hi).1
      show 131072 + 4096 * i ≠ _
      omega) hroom
  refine ⟨g1, g2, _, _, ⟨g3, g6, h.root, fun m => ?_, fun f hf => ?_, ?_, g4, ?_, h.fT, h.fms, h.fsh, h.fmr, h.fri⟩⟩
  · rw [List.mem_append, List.mem_singleton, h.pages m]
    constructor
    · rintro ((h2 | ⟨i, f, hi, rfl⟩) | rfl)
      · exact .inl h2
      · exact .inr ⟨i, f, append_get.2 (.inl hi), rfl⟩
      · exact .inr ⟨ow.length, s.k, append_get.2 (.inr ⟨rfl, rfl⟩), rfl⟩
    · rintro (h2 | ⟨i, f, hi, rfl⟩)
      · exact .inl (.inl h2)
      · rcases append_get.1 hi with hi | ⟨rfl, rfl⟩
        · exact .inl (.inr ⟨i, f, hi, rfl⟩)
        · exact .inr rfl
  · rw [g5]
    rcases hf with hf | hf
    · obtain ⟨a, b⟩ := h.cfv f (.inl hf)
      exact ⟨g7 f a (by omega), by omega⟩
    · rcases List.mem_append.1 hf with hf | hf
      · obtain ⟨a, b⟩ := h.cfv f (.inr hf)
        exact ⟨g7 f a (by omega), by omega⟩
      · rw [List.mem_singleton.1 hf]
        exact ⟨g7 _ h.fresh (by omega), by omega⟩
  · rw [← List.append_assoc]
    refine List.nodup_append.2 ⟨h.nd, by simp, fun a ha b hb e => ?_⟩
    rw [List.mem_singleton.1 hb] at e
    have := (h.cfv a (List.mem_append.1 ha)).2
    omega
  · have := h.kk
    rw [g5, List.length_append, List.length_append]
    simp only [List.length_cons, List.length_nil] at this ⊢
    omega
/-- The states while pages are laid. -/
def layF (L : SpL) (base : Nat) (E : Nat → Pte) (s : SpS) : Nat → SpS
  | 0 => s
  | i + 1 => (layStep L base E i (layF L base E s i)).2
theorem lay_start (L : SpL) (h0 : L.root = 0) (hn1 : 1 ≤ L.n) (hn : L.n ≤ 1048576) : LayOK L (startS L.k L.m) [] [] [] [] := by
  have hE : newE L.tc emptyS 0 = 0 := by
    unfold newE takeE
    rw [if_neg (by show ¬ (0 : Nat) = L.n; omega), if_neg (by show ¬ L.n ≤ 0 + 0; omega)]
  have hS : newS L.tc emptyS 0 = ⟨updS emptyS 0 zeroL, 1, 1⟩ := by
    unfold newS takeS
    rw [if_neg (by show ¬ (0 : Nat) = L.n; omega), if_neg (by show ¬ L.n ≤ 0 + 0; omega)]
    rfl
  have hl := (start_law L.tc hn hE).inv
  rw [hS] at hl
  have hc : L.tc.at_ (L.tc.first + 0) = L.tc := by
    unfold TC.at_ SpL.tc
    rw [h0]
  rw [hc] at hl
  refine ⟨hl, Nat.le_refl _, h0, fun m => by simp, fun f hf => by simp at hf, by simp, ⟨fun b hb => by simp at hb, rfl⟩, rfl, rfl, rfl, rfl, rfl, rfl⟩
theorem LayOK.done (h : LayOK L s M T cf ow) (vc vo : Value) (base : Nat) (hnc : L.nc ≤ 16) (hnp : L.np ≤ 16) (hns : 1 ≤ L.ns ∧ L.ns ≤ 512) (hn : L.n = L.nc + L.np + L.ns + 5) (hcl : cf.length = L.nc) (hwl : ow.length = L.np) :
    SpOK { L with vc := vc, vo := vo, base := base, cf := cf, ow := ow, un := ⟨true, 1, 0, true, false, false⟩ } s M T where
  inv := h.inv
  ul := h.ul
  root := h.root
  un := rfl
  nc := hnc
  np := hnp
  ns := hns
  n := hn
  cl := hcl
  wl := hwl
  pages := fun m => by
    rw [h.pages m]
    constructor
    · rintro (h1 | h1)
      · exact .inl h1
      · exact .inr (.inl h1)
    · rintro (h1 | h1 | ⟨p, f, h1, _⟩)
      · exact .inl h1
      · exact .inr h1
      · rw [h.fsh] at h1; cases h1
  shv := fun p x hx => by rw [h.fsh] at hx; cases hx
  inj := fun p q x hx _ => by rw [h.fsh] at hx; cases hx
  cfv := h.cfv
  nd := h.nd
  riv := fun p hp => by
    unfold SpS.rt at hp
    rw [h.fri] at hp
    exact absurd rfl hp
  ms := by rw [h.fms, h.fsh]; unfold cntS; simp
  mr := by rw [h.fmr, h.fri]; unfold cntS; simp
  rin := fun p x hx => by rw [h.fri] at hx; cases hx
  tabs := h.tabs
  kk := by
    show s.k = 1 + T.length + L.nc + L.np + s.ms
    rw [h.fms, h.kk]
    omega
  buf := by rw [h.fT]; exact BufOK.empty _ _ _
end
end Go.Proofs.YtophcgbddccpeaaGreat

/- A new space; all of its buffer's entries are mapped pages. -/
namespace Go.Proofs.YtophcgbddccpeaaGreat
open Go.RowKit

section
variable {W w : World} {os : List Obj} {L : SpL} {s : SpS} {M : List Mp} {T : List Tb}
theorem snew_any (nc np ns k m : Nat) (h1 : 1 ≤ nc) (h2 : nc ≤ 16) (h3 : np ≤ 16) (h4 : 1 ≤ ns) (h5 : ns ≤ 512) (hr : rightS k m = true) (h : Objs W os w) :
    Calls Tryz.prog 5 #[.agg #[.int .i64 (nc : Int), .int .i64 (np : Int), .int .i64 (ns : Int)], .int .i64 ((nc + np + ns + 5 : Nat) : Int), .int .i64 (k : Int), .int .i64 (m : Int)] w fun e w' => ∃ L s, e = .returned (.tuple #[.pointer (some ⟨L.sp, 0, none⟩), .int .i64 0]) ∧
      (L.nc = nc ∧ L.np = np ∧ L.ns = ns ∧ L.k = k ∧ L.m = m ∧ (∃ M T, SpOK L s M T) ∧ (∀ p, s.rt p = 0) ∧ ∀ p, s.data p = zeroL) ∧ Objs W (spO L s os) w' := by
  refine space_new nc np ns (nc + np + ns + 5) k m h1 h2 h3 (by omega) (by omega) (by omega) hr (fun L s => L.nc = nc ∧ L.np = np ∧ L.ns = ns ∧ L.k = k ∧ L.m = m ∧ (∃ M T, SpOK L s M T) ∧ (∀ p, s.rt p = 0) ∧ ∀ p, s.data p = zeroL) ?_ h
  intro L hn hroot hnc hnp hns hk hm
  have hA : ∀ i, i ≤ nc → ∃ M T, LayOK L (layF L 65536 codeE (startS k m) i) M T ((List.range i).map (fun j => (layF L 65536 codeE (startS k m) j).k)) [] := by
    intro i
    induction i with
    | zero =>
      intro _
      have := lay_start L hroot (by omega) (by omega)
      rw [hk, hm] at this
      exact ⟨[], [], this⟩
    | succ i ih =>
      intro hi
      obtain ⟨M, T, h⟩ := ih (by omega)
      have hkk := h.kk
      have hlen : ((List.range i).map (fun j => (layF L 65536 codeE (startS k m) j).k)).length = i := by simp
      obtain ⟨_, _, M', T', h'⟩ := h.code (by rw [hlen]; omega) (by rw [hlen] at hkk; simp only [List.length_nil] at hkk; omega) (by omega)
      rw [hlen] at h'
      refine ⟨M', T', ?_⟩
      rw [List.range_succ, List.map_append]
      exact h'
  have hA' : ∀ i, i < nc → (layF L 65536 codeE (startS k m) i).k < L.n ∧ (layF L 65536 codeE (startS k m) i).u ≤ (layF L 65536 codeE (startS k m) i).k ∧ (layStep L 65536 codeE i (layF L 65536 codeE (startS k m) i)).1 = 0 ∧ layF L 65536 codeE (startS k m) (i + 1) = (layStep L 65536 codeE i (layF L 65536 codeE (startS k m) i)).2 := by
    intro i hi
    obtain ⟨M, T, h⟩ := hA i (by omega)
    have hkk := h.kk
    have hlen : ((List.range i).map (fun j => (layF L 65536 codeE (startS k m) j).k)).length = i := by simp
    obtain ⟨g1, g2, _⟩ := h.code (by rw [hlen]; omega) (by rw [hlen] at hkk; simp only [List.length_nil] at hkk; omega) (by omega)
    rw [hlen] at g2
    exact ⟨g1, h.ul, g2, rfl⟩
  generalize hst : layF L 65536 codeE (startS k m) = st at *
  have hB : ∀ i, i ≤ np → ∃ M T, LayOK L (layF L 131072 ownE (st nc) i) M T ((List.range nc).map (fun j => (st j).k)) ((List.range i).map (fun j => (layF L 131072 ownE (st nc) j).k)) := by
    intro i
    induction i with
    | zero =>
      intro _
      exact hA nc (Nat.le_refl _)
    | succ i ih =>
      intro hi
      obtain ⟨M, T, h⟩ := ih (by omega)
      have hkk := h.kk
      have hlen : ((List.range i).map (fun j => (layF L 131072 ownE (st nc) j).k)).length = i := by simp
      have hlen2 : ((List.range nc).map (fun j => (st j).k)).length = nc := by simp
      rw [hlen, hlen2] at hkk
      obtain ⟨_, _, M', T', h'⟩ := h.own (by rw [hlen2]; omega) (by rw [hlen]; omega) (by omega) (by omega)
      rw [hlen] at h'
      refine ⟨M', T', ?_⟩
      rw [List.range_succ, List.map_append]
      exact h'
  have hB' : ∀ i, i < np → (layF L 131072 ownE (st nc) i).k < L.n ∧ (layF L 131072 ownE (st nc) i).u ≤ (layF L 131072 ownE (st nc) i).k ∧ (layStep L 131072 ownE i (layF L 131072 ownE (st nc) i)).1 = 0 ∧ layF L 131072 ownE (st nc) (i + 1) = (layStep L 131072 ownE i (layF L 131072 ownE (st nc) i)).2 := by
    intro i hi
    obtain ⟨M, T, h⟩ := hB i (by omega)
    have hkk := h.kk
    have hlen : ((List.range i).map (fun j => (layF L 131072 ownE (st nc) j).k)).length = i := by simp
    have hlen2 : ((List.range nc).map (fun j => (st j).k)).length = nc := by simp
    rw [hlen, hlen2] at hkk
    obtain ⟨g1, g2, _⟩ := h.own (by rw [hlen2]; omega) (by rw [hlen]; omega) (by omega) (by omega)
    rw [hlen] at g2
    exact ⟨g1, h.ul, g2, rfl⟩
  refine ⟨st, layF L 131072 ownE (st nc), by rw [← hst]; rfl, hA', rfl, hB', fun vc vo base => ?_⟩
  obtain ⟨M, T, h⟩ := hB np (Nat.le_refl _)
  refine ⟨hnc, hnp, hns, hk, hm, ⟨M, T, h.done vc vo base (by omega) (by omega) (by omega) (by omega) (by simp [hnc]) (by simp [hnp])⟩, fun p => ?_, fun p => ?_⟩
  · unfold SpS.rt
    rw [h.fri]
    rfl
  · unfold SpS.data
    rw [h.fsh]
end
end Go.Proofs.YtophcgbddccpeaaGreat
