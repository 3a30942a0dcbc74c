/- Frames in a bag: what they stay, what Get tells of them. -/
import Derived.Test.YtnnajaomajgoeaaNetO
import Derived.Test.YtnnajaomajgoeaaWrC
import Derived.Test.YtnnajaomajgoeaaORows
namespace Go.Proofs.Ytnnajaomajgoeaa
open Go.RowKit Go.ChangeShapes

/-- An act in a slice. -/
def OpB (W : World) (b o : Nat) : Prop := ∃ (kind i n s d : Int) (A : Option Addr) (l : List Nat) (c : Nat),
  W.cell? ⟨b, o, none⟩ = some (.int .i64 kind) ∧ W.cell? ⟨b, o + 1, none⟩ = some (.int .i64 i) ∧ W.cell? ⟨b, o + 2, none⟩ = some (.int .i64 n) ∧ W.cell? ⟨b, o + 3, none⟩ = some (.int .i64 s) ∧ W.cell? ⟨b, o + 4, none⟩ = some (.int .i64 d) ∧ W.cell? ⟨b, o + 5, none⟩ = some (.slice A l.length c) ∧
  Bts W A l ∧ l.length ≤ c ∧ (-9223372036854775808 ≤ n ∧ n < 9223372036854775808)
theorem opb_of {w : World} {a : Option Addr} {len cap : Nat} (h : IsRows [.int .i64, .int .i64, .int .i64, .int .i64, .int .i64, .ints .u8] w a len cap) (hp : 0 < len) : ∃ b o, a = some ⟨b, o, none⟩ ∧ b < w.heap.size ∧ ∀ i, i < len → OpB w b (o + i * 6) := by
  rcases h with ⟨_, rfl, _⟩ | ⟨x, rfl, hl, hm, hc⟩
  · omega
  · obtain ⟨v, h0, _⟩ := hc 0 (by omega) 0 _ rfl
    obtain ⟨b, o, spot⟩ := x
    have hspot : spot = none := by simpa [Addr.add] using World.cell?_spot h0
    subst hspot
    have ea : ∀ k, (⟨b, o, none⟩ : Addr).add k = ⟨b, o + k, none⟩ := fun k => by unfold Addr.add; split <;> simp_all
    rw [ea] at h0
    refine ⟨b, o, rfl, World.block_lt_of_cell? _ _ h0, fun i hi => ?_⟩
    obtain ⟨_, k0, y0, rfl, _⟩ := hc i (by omega) 0 _ rfl
    obtain ⟨_, k1, y1, rfl, _⟩ := hc i (by omega) 1 _ rfl
    obtain ⟨_, k2, y2, rfl, w2⟩ := hc i (by omega) 2 _ rfl
    obtain ⟨_, k3, y3, rfl, _⟩ := hc i (by omega) 3 _ rfl
    obtain ⟨_, k4, y4, rfl, _⟩ := hc i (by omega) 4 _ rfl
    obtain ⟨_, k5, A, m, c, zs, rfl, hr⟩ := hc i (by omega) 5 _ rfl
    obtain ⟨l, hlm, hB, _⟩ := bts_of_row hr
    subst hlm
    rw [ea] at k0 k1 k2 k3 k4 k5
    simp only [List.length_cons, List.length_nil, Nat.zero_add, Nat.reduceAdd] at k0 k1 k2 k3 k4 k5
    have hlc : l.length ≤ c := by
      rcases hr with ⟨_, h1, h2, _⟩ | ⟨x, _, h1, _⟩ <;> omega
    refine ⟨y0, y1, y2, y3, y4, A, l, c, ?_, ?_, ?_, ?_, ?_, ?_, hB, hlc, i64_of_wf w2⟩
    · rw [Nat.add_zero] at k0; exact k0
    all_goals (rw [Nat.add_assoc]; assumption)
/-- The bytes of a frame that the law sends. -/
def FrL (s : Nat) (D : List Nat) : List Nat := plainL 0 1 true s 0 D ++ bytesOf (sumV (plainL 0 1 true s 0 D)) 4
theorem frL_length (s : Nat) (D : List Nat) (hs : s < 18446744073709551616) (hD : D.length ≤ 50) : (FrL s D).length = 27 + D.length := by
  obtain ⟨_, _, _, _, _, _, _, _, h⟩ := plain_fields 0 1 true s 0 D hs (by decide) (by omega)
  unfold FrL
  rw [List.length_append, h, bytes4]
  omega
theorem frR (s n : Nat) (hs : 1 ≤ s) (hn : n ≤ 50) : rightF 0 1 true s n = true := by
  have h1 : (s == 0) = false := by simp; omega
  unfold rightF nodeB
  rw [h1]
  simp
  omega
/-- A parcel that holds a frame, hurt once at most. -/
def FrOK (n : Nat) (p : Pc) : Prop := p.src = 0 ∧ p.dst = 1 ∧ ∃ (s : Nat) (D : List Nat), 1 ≤ s ∧ s ≤ n ∧ D.length ≤ 50 ∧ (∀ i : Nat, D.getD i 0 < 256) ∧
  ((p.hurt = false ∧ p.byt = FrL s D) ∨ (p.hurt = true ∧ ∃ b : Int, 0 ≤ b ∧ b / 8 < ((FrL s D).length : Int) ∧ p.byt = turnL (FrL s D) b) ∨ (p.hurt = true ∧ ∃ c, c < (FrL s D).length ∧ p.byt = (FrL s D).take c))
theorem FrOK.mono {n n' : Nat} {p : Pc} (h : FrOK n p) (hn : n ≤ n') : FrOK n' p := by
  obtain ⟨h1, h2, s, D, h3, h4, h5⟩ := h
  exact ⟨h1, h2, s, D, h3, by omega, h5⟩
def AllOK (n : Nat) (P : List Pc) : Prop := ∀ p ∈ P, FrOK n p
theorem AllOK.take {n : Nat} {P : List Pc} (h : AllOK n P) (i : Int) : AllOK n (takeP P i) := by
  unfold takeP
  split
  · exact fun p hp => h p (List.mem_of_mem_eraseIdx hp)
  · exact h
theorem getD_mem {P : List Pc} {i : Int} (h : hereB i P.length = true) : P.getD i.toNat pc0 ∈ P := by
  obtain ⟨k, rfl, hk⟩ := here_nat h
  rw [Int.toNat_natCast, List.getD_eq_getElem?_getD, List.getElem?_eq_getElem hk]
  exact List.getElem_mem hk
theorem AllOK.double {n : Nat} {P : List Pc} (h : AllOK n P) (i : Int) : AllOK n (doubleP P i) := by
  unfold doubleP
  split
  · rename_i hm
    unfold mayD at hm
    simp only [Bool.and_eq_true] at hm
    intro p hp
    rcases List.mem_append.1 hp with hp | hp
    · exact h p hp
    · simp only [List.mem_singleton] at hp
      subst hp
      exact h _ (getD_mem hm.1)
  · exact h
theorem AllOK.send {n : Nat} {P : List Pc} (h : AllOK n P) (D : List Nat) (hD : D.length ≤ 50) (hl : ∀ i : Nat, D.getD i 0 < 256) : AllOK (n + 1) (sendP P 0 1 (FrL (n + 1) D)) := by
  unfold sendP
  split
  · intro p hp
    rcases List.mem_append.1 hp with hp | hp
    · exact (h p hp).mono (by omega)
    · simp only [List.mem_singleton] at hp
      subst hp
      exact ⟨rfl, rfl, n + 1, D, by omega, by omega, hD, hl, .inl ⟨rfl, rfl⟩⟩
  · exact fun p hp => (h p hp).mono (by omega)
theorem AllOK.turn {n : Nat} {P : List Pc} (h : AllOK n P) (i b : Int) : AllOK n (turnP P i b) := by
  unfold turnP
  split
  · rename_i hm
    unfold mayT at hm
    simp only [Bool.and_eq_true, decide_eq_true_eq, Bool.not_eq_true'] at hm
    intro p hp
    unfold hurtP at hp
    rcases List.mem_or_eq_of_mem_set hp with hp | hp
    · exact h p hp
    · obtain ⟨q1, q2, s, D, q3, q4, q5, q6, q7⟩ := h _ (getD_mem hm.1.1.1)
      subst hp
      refine ⟨q1, q2, s, D, q3, q4, q5, q6, .inr (.inl ⟨rfl, b, hm.1.2, ?_⟩)⟩
      rcases q7 with ⟨_, q8⟩ | ⟨q8, _⟩ | ⟨q8, _⟩
      · have h9 := hm.2
        rw [q8] at h9
        exact ⟨h9, by show turnL _ b = _; rw [q8]⟩
      · rw [hm.1.1.2] at q8; cases q8
      · rw [hm.1.1.2] at q8; cases q8
  · exact h
theorem AllOK.cut {n : Nat} {P : List Pc} (h : AllOK n P) (i b : Int) : AllOK n (cutP P i b) := by
  unfold cutP
  split
  · rename_i hm
    unfold mayC at hm
    simp only [Bool.and_eq_true, decide_eq_true_eq, Bool.not_eq_true'] at hm
    intro p hp
    unfold hurtP at hp
    rcases List.mem_or_eq_of_mem_set hp with hp | hp
    · exact h p hp
    · obtain ⟨q1, q2, s, D, q3, q4, q5, q6, q7⟩ := h _ (getD_mem hm.1.1.1)
      subst hp
      refine ⟨q1, q2, s, D, q3, q4, q5, q6, .inr (.inr ⟨rfl, b.toNat, ?_⟩)⟩
      rcases q7 with ⟨_, q8⟩ | ⟨q8, _⟩ | ⟨q8, _⟩
      · have h9 := hm.2
        rw [q8] at h9
        exact ⟨by omega, by show List.take b.toNat _ = _; rw [q8]⟩
      · rw [hm.1.1.2] at q8; cases q8
      · rw [hm.1.1.2] at q8; cases q8
  · exact h
theorem FrOK.none {n : Nat} {p : Pc} (h : FrOK n p) (hn : n < 1000) (hh : p.hurt = true) : frameB p.byt = false := by
  obtain ⟨_, _, s, D, h3, h4, h5, h6, h7⟩ := h
  rcases h7 with ⟨q, _⟩ | ⟨_, b, q1, q2, q3⟩ | ⟨_, c, q1, q2⟩
  · rw [hh] at q; cases q
  · rw [q3]
    have := turned_open (plainL 0 1 true s 0 D) (plain_lt 0 1 s 0 D true (by decide) (by decide) h6) b ⟨q1, q2⟩
    unfold FrL frameB
    rw [this]
    rfl
  · rw [q2]
    refine cut_none (FrL s D) D.length c (frL_length s D (by omega) h5) ?_ q1
    unfold FrL
    rw [sealed_size 0 1 true s 0 D (by omega)]
    exact leNat_bytes2 _ (by omega)
theorem FrOK.len {n : Nat} {p : Pc} (h : FrOK n p) (hn : n < 1000) : p.byt.length ≤ 77 := by
  obtain ⟨_, _, s, D, h3, h4, h5, h6, h7⟩ := h
  have hl := frL_length s D (by omega) h5
  rcases h7 with ⟨_, q⟩ | ⟨_, b, q1, q2, q3⟩ | ⟨_, c, q1, q2⟩
  · rw [q]; omega
  · rw [q3, turnL_length]; omega
  · rw [q2, List.length_take]; omega
theorem put_here (s : Nat) (D : List Nat) (A : Option Addr) (m c : Nat) (W : World) (hs : 1 ≤ s) (hs2 : s < 1000) (hm : D.length = m) (hm2 : m ≤ 50) (hB : Bts W A D) :
    Calls Try.prog 22 #[.agg #[.int .i64 0, .int .i64 1, .bool true, .int .u64 (s : Int), .int .u64 0, .slice A m c]] W fun e w' => ∃ A' c', e = .returned (.tuple #[.slice A' (FrL s D).length c', .int .i64 0]) ∧ Bts w' A' (FrL s D) ∧ Below W.heap.size W w' := by
  refine Calls.mono (wput_yes 0 1 true s 0 A D m c W (by decide) (by decide) (by omega) (by decide) hm (by omega) hB (frR s m hs hm2)) ?_
  rintro e w' ⟨v, rfl, ho, hb⟩
  obtain ⟨A', c', rfl, h2, _⟩ := bts_own ho (append_lt (plain_lt 0 1 s 0 D true (by decide) (by decide) hB.1) (bytesOf_lt _ _)) rfl
  exact ⟨A', c', rfl, h2, hb⟩
theorem get_here (n : Nat) (p : Pc) (A : Option Addr) (m c : Nat) (W : World) (h : FrOK n p) (hn : n < 1000) (hm : p.byt.length = m) (hc : m ≤ c) (hB : Bts W A p.byt) :
    Calls Try.prog 23 #[.slice A m c] W fun e w' => ∃ (f t : Int) (b : Bool) (s a : Nat) (A' : Option Addr) (n' c' : Nat), e = .returned (.tuple #[.agg #[.int .i64 f, .int .i64 t, .bool b, .int .u64 (s : Int), .int .u64 (a : Int), .slice A' n' c'], .bool (!p.hurt)]) ∧ (p.hurt = false → 1 ≤ s ∧ s ≤ n) ∧ Below W.heap.size W w' := by
  cases hh : p.hurt with
  | true =>
    refine (wget_any A p.byt m c W hm (by have := h.len hn; omega) hc hB).mono ?_
    intro e w' hg
    unfold GetAny at hg
    rw [h.none hn hh, if_neg (by decide)] at hg
    exact ⟨0, 0, false, 0, 0, Option.none, 0, 0, hg.2, (fun e => by cases e), hg.1⟩
  | false =>
    obtain ⟨_, _, s, D, h3, h4, h5, h6, h7⟩ := h
    rcases h7 with ⟨_, q⟩ | ⟨q, _⟩ | ⟨q, _⟩
    · refine (wget_yes 0 1 true s 0 D A p.byt m c W hm hc hB q (by decide) (by decide) (by omega) (by decide) (by omega) h6 (frR s _ h3 h5)).mono ?_
      rintro e w' ⟨A', c', rfl, _, hb⟩
      exact ⟨_, _, _, s, _, A', _, c', rfl, fun _ => ⟨h3, h4⟩, hb⟩
    · rw [hh] at q; cases q
    · rw [hh] at q; cases q
/-- A bag of the call's own, and locals. -/
structure NB (W : World) (gb : Nat) (P : List Pc) (loc : List (Nat × TypeId × Array Value)) (w : World) : Prop where
  ex : ∃ FB, Bag w gb P 0 FB ∧ (∀ b, FB b → W.heap.size ≤ b ∧ b < w.heap.size) ∧ ∀ p ∈ loc, Blk w p.1 p.2.1 p.2.2 ∧ W.heap.size ≤ p.1 ∧ ¬ FB p.1
  bel : Below W.heap.size W w
theorem Bag.lt {w : World} {gb : Nat} {P : List Pc} {lost : Int} {F : Nat → Prop} (h : Bag w gb P lost F) : ∀ b, F b → b < w.heap.size := by
  obtain ⟨L, _, h⟩ := h
  exact h.lt
section
variable {W w w' : World} {gb : Nat} {P P' : List Pc} {loc loc' : List (Nat × TypeId × Array Value)}
theorem NB.step (h : NB W gb P loc w) (hb : Below w.heap.size w w') : NB W gb P loc w' := by
  obtain ⟨FB, h1, h2, h3⟩ := h.ex
  exact ⟨⟨FB, h1.below hb, fun b hb' => ⟨(h2 b hb').1, Nat.lt_of_lt_of_le (h2 b hb').2 hb.size⟩, fun p hp => ⟨(h3 p hp).1.below hb (h3 p hp).1.lt, (h3 p hp).2⟩⟩, h.bel.trans (hb.mono h.bel.size)⟩
theorem NB.push (h : NB W gb P loc w) (cs : Array Value) (t : TypeId) {b : Nat} (hb : b = w.heap.size) : NB W gb P ((b, t, cs) :: loc) (w.alloc (.cells cs t)) := by
  subst hb
  have hb : Below w.heap.size w (w.alloc (.cells cs t)) := (Below.refl w.heap.size w).alloc (Nat.le_refl _) (.cells cs t)
  have h' := h.step hb
  obtain ⟨FB, h1, h2, h3⟩ := h.ex
  refine ⟨⟨FB, h1.below hb, fun b hb' => ⟨(h2 b hb').1, Nat.lt_of_lt_of_le (h2 b hb').2 hb.size⟩, fun p hp => ?_⟩, h'.bel⟩
  rcases List.mem_cons.1 hp with rfl | hp
  · exact ⟨Blkf.new_at _ _ _ _ rfl, h.bel.size, fun e => absurd (h2 _ e).2 (Nat.lt_irrefl _)⟩
  · exact ⟨(h3 p hp).1.below hb (h3 p hp).1.lt, (h3 p hp).2⟩
theorem NB.only (h : NB W gb P loc w) (hl : ∀ p ∈ loc', p ∈ loc) : NB W gb P loc' w := by
  obtain ⟨FB, h1, h2, h3⟩ := h.ex
  exact ⟨⟨FB, h1, h2, fun p hp => h3 p (hl p hp)⟩, h.bel⟩
theorem NB.at_ (h : NB W gb P loc w) (i : Nat) (p : Nat × TypeId × Array Value) (hp : loc[i]? = some p) : Blk w p.1 p.2.1 p.2.2 := by
  obtain ⟨FB, h1, h2, h3⟩ := h.ex
  exact (h3 p (List.mem_of_getElem? hp)).1
theorem NB.moved {F F' : Nat → Prop} (h1 : Bag w gb P 0 F) (h2 : ∀ b, F b → W.heap.size ≤ b ∧ b < w.heap.size) (h3 : ∀ p ∈ loc, Blk w p.1 p.2.1 p.2.2 ∧ W.heap.size ≤ p.1 ∧ ¬ F p.1) (hb : Below W.heap.size W w) (k1 : Bag w' gb P' 0 F') (k2 : Moved F F' w w') : NB W gb P' loc w' := by
  obtain ⟨k2, k3⟩ := k2
  refine ⟨⟨F', k1, fun b hb' => ⟨?_, k1.lt b hb'⟩, fun p hp => ?_⟩, hb.trans (k3.below (B := W.heap.size) (fun b hb' => (h2 b hb').1) hb.size)⟩
  · rcases k2 b hb' with h7 | h7
    · exact (h2 b h7).1
    · exact Nat.le_trans hb.size h7
  · obtain ⟨q1, q2, q3⟩ := h3 p hp
    refine ⟨k3.blk q1 q3, q2, fun e => ?_⟩
    rcases k2 _ e with h7 | h7
    · exact q3 h7
    · exact absurd q1.lt (by omega)
theorem nb_start {w0 w1 : World} (h0 : Below W.heap.size W w0) (h1 : Bag w1 w0.heap.size [] 0 (fun b => b = w0.heap.size)) (h2 : Below w0.heap.size w0 w1) : NB W w0.heap.size [] [] w1 :=
  ⟨⟨_, h1, fun b e => ⟨by have := h0.size; omega, h1.lt b e⟩, fun p hp => by simp at hp⟩, h0.trans (h2.mono h0.size)⟩
theorem nb_send (h : NB W gb P loc w) (A : Option Addr) (l : List Nat) (m c : Nat) (hB : Bts w A l) (hm : l.length = m) (hn : m ≤ 140737488355328) (hP : P.length < 4096) :
    Calls Try.prog 8 #[.pointer (some ⟨gb, 0, none⟩), .int .i64 0, .int .i64 1, .slice A m c] w fun e w' => e = .returned (.bool true) ∧ NB W gb (sendP P 0 1 l) loc w' := by
  obtain ⟨FB, h1, h2, h3⟩ := h.ex
  refine (Send_any gb P 0 FB w 0 1 A l m c h1 hB hm hn (by decide)).mono ?_
  rintro e w' ⟨rfl, F', k1, k2⟩
  rw [show lostP P 0 = 0 by unfold lostP; rw [if_pos hP]] at k1
  exact ⟨by rw [decide_eq_true hP], NB.moved h1 h2 h3 h.bel k1 k2⟩
theorem nb_drop (h : NB W gb P loc w) (i : Int) :
    Calls Try.prog 13 #[.pointer (some ⟨gb, 0, none⟩), .int .i64 i] w fun e w' => e = .returned (.bool (hereB i P.length)) ∧ NB W gb (takeP P i) loc w' := by
  obtain ⟨FB, h1, h2, h3⟩ := h.ex
  refine (Drop_any gb P 0 FB w i h1).mono ?_
  rintro e w' ⟨rfl, F', k1, k2⟩
  exact ⟨rfl, NB.moved h1 h2 h3 h.bel k1 k2⟩
theorem nb_double (h : NB W gb P loc w) (i : Int) :
    Calls Try.prog 14 #[.pointer (some ⟨gb, 0, none⟩), .int .i64 i] w fun e w' => e = .returned (.bool (mayD P i)) ∧ NB W gb (doubleP P i) loc w' := by
  obtain ⟨FB, h1, h2, h3⟩ := h.ex
  refine (Double_any gb P 0 FB w i h1).mono ?_
  rintro e w' ⟨rfl, F', k1, k2⟩
  exact ⟨rfl, NB.moved h1 h2 h3 h.bel k1 k2⟩
theorem nb_turn (h : NB W gb P loc w) (i n : Int) (hw : -9223372036854775808 ≤ n ∧ n < 9223372036854775808) :
    Calls Try.prog 16 #[.pointer (some ⟨gb, 0, none⟩), .int .i64 i, .int .i64 n] w fun e w' => e = .returned (.bool (mayT P i n)) ∧ NB W gb (turnP P i n) loc w' := by
  obtain ⟨FB, h1, h2, h3⟩ := h.ex
  refine (Turn_any gb P 0 FB w i n h1 hw).mono ?_
  rintro e w' ⟨rfl, F', k1, k2⟩
  exact ⟨rfl, NB.moved h1 h2 h3 h.bel k1 k2⟩
theorem nb_cut (h : NB W gb P loc w) (i n : Int) (hw : -9223372036854775808 ≤ n ∧ n < 9223372036854775808) :
    Calls Try.prog 18 #[.pointer (some ⟨gb, 0, none⟩), .int .i64 i, .int .i64 n] w fun e w' => e = .returned (.bool (mayC P i n)) ∧ NB W gb (cutP P i n) loc w' := by
  obtain ⟨FB, h1, h2, h3⟩ := h.ex
  refine (Cut_any gb P 0 FB w i n h1 hw).mono ?_
  rintro e w' ⟨rfl, F', k1, k2⟩
  exact ⟨rfl, NB.moved h1 h2 h3 h.bel k1 k2⟩
theorem nb_deliver (h : NB W gb P loc w) (i : Int) :
    Calls Try.prog 10 #[.pointer (some ⟨gb, 0, none⟩), .int .i64 i] w fun e w' => ∃ v, e = .returned v ∧ NB W gb (takeP P i) loc w' := by
  obtain ⟨FB, h1, h2, h3⟩ := h.ex
  refine (Deliver_any gb P 0 FB w i h1).mono ?_
  rintro e w' ⟨u, F', rfl, k1, k2, _⟩
  exact ⟨_, rfl, NB.moved h1 h2 h3 h.bel k1 k2⟩
theorem nb_list (h : NB W gb P loc w) (hl : P.length ≤ 4096) : Calls Try.prog 19 #[.pointer (some ⟨gb, 0, none⟩)] w fun e w' => ∃ v M, e = .returned v ∧ M.map (·.1) = P ∧ ListAt w' w.heap.size v M ∧ Below w.heap.size w w' := by
  obtain ⟨FB, h1, h2, h3⟩ := h.ex
  exact List_any gb P 0 FB w h1 hl
end
theorem ListAt.below {w w' : World} {base : Nat} {v : Value} {M : List (Pc × Value)} (h : ListAt w base v M) (hb : Below w.heap.size w w') : ListAt w' base v M :=
  ⟨(Keeps.of_below (F := fun _ => False) hb).row h.1 (fun _ _ h => h), fun x hx => ((h.2.1 x hx).keeps (H := fun _ => False) (Keeps.of_below hb) (fun _ _ h => h)).mono fun b hb' => ⟨hb'.1, hb'.2.1, Nat.lt_of_lt_of_le hb'.2.2 hb.size⟩, h.2.2⟩
theorem ListAt.cap {w : World} {base k m c : Nat} {v : Value} {M : List (Pc × Value)} {A : Option Addr} {p : Pc} (h : ListAt w base v M) (hx : M[k]? = some (p, .slice A m c)) : m ≤ c := by
  obtain ⟨A', c', e, _, hc, _⟩ := h.2.1 _ (List.mem_of_getElem? hx)
  injection e with e1 e2 e3
  rw [e2, e3]
  exact hc
end Go.Proofs.Ytnnajaomajgoeaa
