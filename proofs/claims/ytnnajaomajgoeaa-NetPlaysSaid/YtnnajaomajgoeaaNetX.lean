/- Bytes that a law counts up in place; a list that is walked. -/
import Derived.Test.YtnnajaomajgoeaaNetW
namespace Go.Proofs.Ytnnajaomajgoeaa
open Go.RowKit Go.ChangeShapes

/-- From w to w' only bytes of the slice at A were written. -/
def Inc (w w' : World) (A : Option Addr) (m : Nat) : Prop := (m = 0 ∧ w = w') ∨ (0 < m ∧ ∃ g o cs0 cs, A = some ⟨g, o, none⟩ ∧ Blk w g 5 cs0 ∧ Blk w' g 5 cs ∧ U8s cs o m ∧ Keeps (fun b => b = g) w w')
theorem Inc.start {w : World} {A : Option Addr} {m : Nat} (h : 0 < m → ∃ g o cs, A = some ⟨g, o, none⟩ ∧ Blk w g 5 cs ∧ U8s cs o m) : Inc w w A m := by
  rcases Nat.eq_zero_or_pos m with h0 | h0
  · exact .inl ⟨h0, rfl⟩
  · obtain ⟨g, o, cs, e, h1, h2⟩ := h h0
    exact .inr ⟨h0, g, o, cs, cs, e, h1, h1, h2, Keeps.refl _ _⟩
theorem Inc.at_ {w w' : World} {A : Option Addr} {m j : Nat} (h : Inc w w' A m) (hj : j < m) : ∃ g o z, A = some ⟨g, o, none⟩ ∧ w'.cell? ⟨g, o + j, none⟩ = some (.int .u8 z) ∧ w'.frozen? ⟨g, o + j, none⟩ = false ∧ g < w'.heap.size ∧ ∀ y, Inc w (w'.setCell ⟨g, o + j, none⟩ (.int .u8 y)) A m := by
  rcases h with ⟨h, _⟩ | ⟨h0, g, o, cs0, cs, e, hs, h1, h2, h3⟩
  · omega
  · obtain ⟨z, hz⟩ := h2 j hj
    exact ⟨g, o, z, e, (h1.cell _).trans hz, Blk.frozen h1 _, h1.lt, fun y => .inr ⟨h0, g, o, cs0, _, e, hs, Blkf.set_ h1 _ _, h2.set _ _, h3.setCell (p := ⟨g, o + j, none⟩) (.inl rfl) _⟩⟩
theorem Inc.keeps {w w' : World} {A : Option Addr} {m : Nat} (h : Inc w w' A m) : Keeps (fun b => 0 < m ∧ ∃ o, A = some ⟨b, o, none⟩) w w' := by
  rcases h with ⟨h, rfl⟩ | ⟨h0, g, o, cs0, cs, e, hs, h1, h2, h3⟩
  · exact Keeps.refl _ _
  · exact h3.mono fun b hb => ⟨h0, o, by rw [hb]; exact e⟩
theorem Inc.blk {w w' : World} {A : Option Addr} {m b : Nat} {t : TypeId} {cs : Array Value} (h : Inc w w' A m) (hb : Blk w b t cs) (ht : t ≠ 5) : Blk w' b t cs := by
  rcases h with ⟨h, rfl⟩ | ⟨h0, g, o, cs0, cs', e, hs, h1, h2, h3⟩
  · exact hb
  · exact h3.blk hb (blk_ne_blk hb hs ht)
theorem NP.inc {W w w' : World} {gb xb m : Nat} {P Q : List Pc} {loc : List (Nat × TypeId × Array Value)} {A : Option Addr} (h : NP W gb xb P Q loc w) (hI : Inc w w' A m) (hl : ∀ g o, 0 < m → A = some ⟨g, o, none⟩ → ∃ p ∈ loc, p.1 = g) : NP W gb xb P Q [] w' := by
  rcases hI with ⟨_, rfl⟩ | ⟨h0, g, o, cs0, cs', e, hs, h1, h2, h3⟩
  · exact h.only fun p hp => by simp at hp
  · obtain ⟨p, hp, e2⟩ := hl g o h0 e
    subst e2
    obtain ⟨i, hi⟩ := List.getElem?_of_mem hp
    exact (h.side i p hi h3).1
theorem NP.all {W w : World} {gb xb : Nat} {P Q : List Pc} {loc : List (Nat × TypeId × Array Value)} (h : NP W gb xb P Q loc w) : ∀ p ∈ loc, Blk w p.1 p.2.1 p.2.2 := by
  obtain ⟨FB, FX, h1, h2, h3, h4, h5, h6⟩ := h.ex
  exact fun p hp => (h6 p hp).1
/-- The local that holds the bytes at A, if there are any. -/
def Exb (ex : List (Nat × TypeId × Array Value)) (A : Option Addr) (l : List Nat) : Prop :=
  (∀ i : Nat, l.getD i 0 < 256) ∧ ((l = [] ∧ ex = []) ∨ ∃ g o cs, ex = [(g, 5, cs)] ∧ A = some ⟨g, o, none⟩ ∧ 0 < l.length ∧ ∀ w, Blk w g 5 cs → Bts w A l)
theorem bts_blk {w : World} {g o : Nat} {l : List Nat} {cs : Array Value} (h : Bts w (some ⟨g, o, none⟩) l) (hb : Blk w g 5 cs) : ∀ w', Blk w' g 5 cs → Bts w' (some ⟨g, o, none⟩) l := by
  intro w' hb'
  refine ⟨h.1, fun hl => ?_⟩
  obtain ⟨b, o', e, hc⟩ := h.2 hl
  injection e with e
  injection e with e1 e2
  subst e1 e2
  exact ⟨g, o, rfl, fun i hi => by rw [hb'.cell]; rw [← hb.cell]; exact hc i hi⟩
theorem Exb.bts {w : World} {ex : List (Nat × TypeId × Array Value)} {A : Option Addr} {l : List Nat} (h : Exb ex A l) (hb : ∀ p ∈ ex, Blk w p.1 p.2.1 p.2.2) : Bts w A l := by
  obtain ⟨h0, h1⟩ := h
  rcases h1 with ⟨rfl, rfl⟩ | ⟨g, o, cs, rfl, rfl, hl, h2⟩
  · exact ⟨h0, fun h => by simp at h⟩
  · exact h2 w (hb (g, 5, cs) (by simp))
theorem Exb.inc {w : World} {ex : List (Nat × TypeId × Array Value)} {A : Option Addr} {l : List Nat} {m : Nat} (h : Exb ex A l) (hb : ∀ p ∈ ex, Blk w p.1 p.2.1 p.2.2) (hm : m = l.length) : Inc w w A m := by
  subst hm
  obtain ⟨h0, h1⟩ := h
  refine Inc.start fun hp => ?_
  rcases h1 with ⟨rfl, rfl⟩ | ⟨g, o, cs, rfl, rfl, hl, h2⟩
  · simp at hp
  · have h3 := hb (g, 5, cs) (by simp)
    exact ⟨g, o, cs, rfl, h3, u8s_of (h2 w h3) h3 (fun e => by rw [e] at hl; exact absurd hl (by decide))⟩
theorem Exb.mem {ex : List (Nat × TypeId × Array Value)} {A : Option Addr} {l : List Nat} {m : Nat} (h : Exb ex A l) (hm : m = l.length) (g o : Nat) (h0 : 0 < m) (e : A = some ⟨g, o, none⟩) : ∃ p ∈ ex, p.1 = g := by
  subst hm
  obtain ⟨_, h1⟩ := h
  rcases h1 with ⟨rfl, rfl⟩ | ⟨g', o', cs, rfl, rfl, hl, h2⟩
  · simp at h0
  · injection e with e
    injection e with e1 e2
    exact ⟨(g', 5, cs), by simp, e1⟩
theorem TakenAt.exb {W w : World} {gb xb : Nat} {P Q : List Pc} {loc : List (Nat × TypeId × Array Value)} {A : Option Addr} {l : List Nat} (h : TakenAt W gb xb P Q loc w A l) : ∃ ex, NP W gb xb P Q (loc ++ ex) w ∧ Exb ex A l := by
  obtain ⟨h1, h2, h3⟩ := h
  by_cases hl : l = []
  · exact ⟨[], by rw [List.append_nil]; exact h1, h2.1, .inl ⟨hl, rfl⟩⟩
  · obtain ⟨g, o, cs, rfl, h4⟩ := h3 hl
    refine ⟨[(g, 5, cs)], h4.only fun p hp => ?_, h2.1, .inr ⟨g, o, cs, rfl, rfl, List.length_pos_iff.2 hl, bts_blk h2 (h4.at_ 0 _ rfl)⟩⟩
    rcases List.mem_append.1 hp with hp | hp
    · exact List.mem_cons_of_mem _ hp
    · simp at hp
      subst hp
      exact List.mem_cons_self
theorem np_own {W w w' : World} {gb xb : Nat} {P Q : List Pc} {loc : List (Nat × TypeId × Array Value)} {v : Value} {l : List Nat} {m : Nat} (h : NP W gb xb P Q loc w) (hb : Below w.heap.size w w') (ho : w'.ownsRow w.heap.size 5 1 v m (l.map bv)) (hl : ∀ i : Nat, l.getD i 0 < 256) (hm : m = l.length) : ∃ A c ex, v = .slice A m c ∧ NP W gb xb P Q (loc ++ ex) w' ∧ Exb ex A l := by
  subst hm
  obtain ⟨A, c, rfl, hB, _⟩ := bts_own ho hl rfl
  by_cases he : l = []
  · exact ⟨A, c, [], rfl, by rw [List.append_nil]; exact h.step hb, hl, .inl ⟨he, rfl⟩⟩
  · rcases ho.2 with ⟨e, h0⟩ | ⟨g, cap, cur, e, hbg, hg, _⟩
    · exact absurd (List.eq_nil_of_length_eq_zero h0) he
    · injection e with e _ _
      subst e
      have hg' : Blk w' g 5 cur := hg
      refine ⟨_, c, [(g, 5, cur)], rfl, (h.add hb hg' hbg).only fun p hp => ?_, hl, .inr ⟨g, 0, cur, rfl, rfl, List.length_pos_iff.2 he, bts_blk hB hg'⟩⟩
      rcases List.mem_append.1 hp with hp | hp
      · exact List.mem_cons_of_mem _ hp
      · simp at hp
        subst hp
        exact List.mem_cons_self
theorem np_lenN {W w : World} {gb xb n : Nat} {P Q : List Pc} {loc : List (Nat × TypeId × Array Value)} (h : NP W gb xb P Q loc w) (hn : n = P.length) : Calls Try.prog 20 #[.pointer (some ⟨gb, 0, none⟩)] w fun e w' => e = .returned (.int .i64 (n : Int)) ∧ w = w' := by
  subst hn
  exact np_len h
/-- A list of a bag that is walked: its parcels from j on are as they were. -/
def Lp (w0 wr : World) (v : Value) (M : List (Pc × Value)) (j : Nat) : Prop :=
  Below w0.heap.size w0 wr ∧ wr.ownsRow w0.heap.size 37 4 v M.length (pcC M) ∧ (∀ x ∈ M.drop j, RdB wr (fun b => w0.heap.size ≤ b ∧ v.ownBlock ≠ some b ∧ b < wr.heap.size) x.2 x.1.byt) ∧ Apart M
theorem Lp.start {w0 w : World} {v : Value} {M : List (Pc × Value)} (h : ListAt w w0.heap.size v M) (hb : Below w0.heap.size w0 w) : Lp w0 w v M 0 := ⟨hb, h.1, h.2.1, h.2.2⟩
theorem Lp.below {w0 w w' : World} {v : Value} {M : List (Pc × Value)} {j : Nat} (h : Lp w0 w v M j) (hb : Below w.heap.size w w') : Lp w0 w' v M j :=
  ⟨h.1.trans (hb.mono h.1.size), (Keeps.of_below (F := fun _ => False) hb).row h.2.1 (fun _ _ h => h), fun x hx => ((h.2.2.1 x hx).keeps (H := fun _ => False) (Keeps.of_below hb) (fun _ _ h => h)).mono fun b hb' => ⟨hb'.1, hb'.2.1, Nat.lt_of_lt_of_le hb'.2.2 hb.size⟩, h.2.2.2⟩
theorem Lp.at_ {w0 wr : World} {v : Value} {M : List (Pc × Value)} {j : Nat} {p : Pc} {u : Value} (h : Lp w0 wr v M j) (hx : M[j]? = some (p, u)) : ∃ g cap A c, v = .slice (some ⟨g, 0, none⟩) M.length cap ∧ u = .slice A p.byt.length c ∧ Bts wr A p.byt ∧ g < wr.heap.size ∧
    wr.cell? ⟨g, j * 4, none⟩ = some (.int .i64 p.src) ∧ wr.cell? ⟨g, j * 4 + 1, none⟩ = some (.int .i64 p.dst) ∧ wr.cell? ⟨g, j * 4 + 2, none⟩ = some u ∧ wr.cell? ⟨g, j * 4 + 3, none⟩ = some (.bool p.hurt) := by
  obtain ⟨h1, h2, h3, h4⟩ := h
  have hk := (List.getElem?_eq_some_iff.1 hx).1
  rcases h2.2 with ⟨rfl, h0⟩ | ⟨g, cap, cur, rfl, hb, hg, hcap, hm, hs, hl⟩
  · omega
  have hmem : (p, u) ∈ M.drop j := List.mem_of_getElem? (i := 0) (by rw [List.getElem?_drop]; exact hx)
  obtain ⟨A, c, e, r1, r2, r3, r4⟩ := h3 (p, u) hmem
  have hgb : Blk wr g 37 cur := hg
  exact ⟨g, cap, A, c, rfl, e, r1, hgb.lt, (hgb.cell _).trans (pcC_cell hl hx 0 (by decide)), (hgb.cell _).trans (pcC_cell hl hx 1 (by decide)), (hgb.cell _).trans (pcC_cell hl hx 2 (by decide)), (hgb.cell _).trans (pcC_cell hl hx 3 (by decide))⟩
theorem Lp.inc0 {w0 wr : World} {v : Value} {M : List (Pc × Value)} {j m c : Nat} {p : Pc} {A : Option Addr} (h : Lp w0 wr v M j) (hx : M[j]? = some (p, .slice A m c)) (hm : m = p.byt.length) : Inc wr wr A m := by
  subst hm
  have hmem : (p, Value.slice A p.byt.length c) ∈ M.drop j := List.mem_of_getElem? (i := 0) (by rw [List.getElem?_drop]; exact hx)
  obtain ⟨A', c', e, r1, r2, r3, r4⟩ := h.2.2.1 _ hmem
  injection e with e1 e2 e3
  subst e1
  refine Inc.start fun hp => ?_
  obtain ⟨g, o, e, _⟩ := r1.2 hp
  subst e
  obtain ⟨_, cs, hb⟩ := r4 _ rfl
  exact ⟨g, o, cs, rfl, hb, u8s_of r1 hb (fun e => by rw [show p.byt = [] from e] at hp; exact absurd hp (by decide))⟩
theorem Lp.next {w0 wr w' : World} {v : Value} {M : List (Pc × Value)} {j m c : Nat} {p : Pc} {A : Option Addr} (h : Lp w0 wr v M j) (hx : M[j]? = some (p, .slice A m c)) (hm : m = p.byt.length) (hI : Inc wr w' A m) : Lp w0 w' v M (j + 1) := by
  subst hm
  have hj := (List.getElem?_eq_some_iff.1 hx).1
  have hmem : (p, Value.slice A p.byt.length c) ∈ M.drop j := List.mem_of_getElem? (i := 0) (by rw [List.getElem?_drop]; exact hx)
  obtain ⟨A', c', e, r1, r2, r3, r4⟩ := h.2.2.1 _ hmem
  injection e with e1 e2 e3
  subst e1
  have hK := hI.keeps
  have hno : ∀ b, (0 < p.byt.length ∧ ∃ o, A = some ⟨b, o, none⟩) → w0.heap.size ≤ b ∧ v.ownBlock ≠ some b := by
    rintro b ⟨_, o, e⟩
    obtain ⟨⟨q1, q2, q3⟩, _⟩ := r4 _ e
    exact ⟨q1, q2⟩
  refine ⟨h.1.trans (hK.below (B := w0.heap.size) (fun i hi => (hno i hi).1) h.1.size), hK.row h.2.1 (fun g hg hb => (hno g hb).2 hg), fun x hx' => ?_, h.2.2.2⟩
  have hd : M.drop j = (p, Value.slice A p.byt.length c) :: M.drop (j + 1) := by
    rw [List.drop_eq_getElem_cons hj]
    congr 1
    rw [List.getElem?_eq_getElem hj] at hx
    injection hx
  have hx2 : x ∈ M.drop j := by rw [hd]; exact List.mem_cons_of_mem _ hx'
  have hap : ∀ b, (Value.slice A p.byt.length c).ownBlock = some b → x.2.ownBlock ≠ some b := by
    have h4 : Apart (M.drop j) := List.Pairwise.sublist (List.drop_sublist j M) h.2.2.2
    rw [hd] at h4
    exact (List.pairwise_cons.1 h4).1 x hx'
  have hf := (h.2.2.1 x hx2)
  obtain ⟨A2, c2, e2, s1, s2, s3, s4⟩ := hf
  have hne : ∀ a, A2 = some a → ¬ (0 < p.byt.length ∧ ∃ o, A = some ⟨a.block, o, none⟩) := by
    rintro a ea ⟨_, o, e⟩
    exact hap a.block (by rw [e]; rfl) (by rw [e2, ea]; rfl)
  exact ⟨A2, c2, e2, bts_keeps s1 hK hne, s2, s3, fun a ea => ⟨⟨(s4 a ea).1.1, (s4 a ea).1.2.1, Nat.lt_of_lt_of_le (s4 a ea).1.2.2 hK.size⟩, (s4 a ea).2.imp fun cs hb => hK.blk hb (hne a ea)⟩⟩
end Go.Proofs.Ytnnajaomajgoeaa
