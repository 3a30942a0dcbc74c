/- Merged texts: TabQ, TabR, TabS. -/
import Derived.Test.YtbgagmpinekhpaaTm3
import Derived.Test.YtbgagmpinekhpaaWide
/- The reference's tables: the object; base, take, New. -/
namespace Go.Proofs.Ytbgagmpinekhpaa
open Go.RowKit

theorem rbase_any (va l : Nat) (W : World) (hl : l ≤ 2) (hv : va < 18446744073709551616) :
    Calls Try.prog 39 #[.int .u64 (va : Int), .int .i64 (l : Int)] W fun e w' => e = .returned (.int .u64 ((baseN va l : Nat) : Int)) ∧ W = w' := by
  have HS : Hid (spanV (l : Int) = spN l) := Lib.hid (span_sp hl)
  obtain ⟨sp, hsp⟩ : ∃ sp, sp = spN l := ⟨_, rfl⟩
  have hs1 : 1 ≤ sp := by
    rw [hsp]
    rcases lev3 hl with rfl | rfl | rfl <;> decide
  have HR : Hid (IntKind.u64.wrap ((va : Int) - (va : Int).tmod (sp : Int)) = ((baseN va l : Nat) : Int)) := Lib.hid (by
    rw [base_eq_sub, ← hsp, ← Int.ofNat_tmod, IntKind.wrap_u64]
    have := Nat.mod_le va sp
    omega)
  have hz : ¬ (sp : Int) = 0 := by omega
  have hz2 : ((sp : Int) == 0) = false := by simpa using hz
  have i1 : IntKind.u64.wrap ((va : Int).tmod (sp : Int)) = (va : Int).tmod (sp : Int) := by
    rw [← Int.ofNat_tmod, IntKind.wrap_u64]
    have := Nat.mod_le va sp
    omega
  rw [← hsp] at HS
  clear hsp hl
  go_enter Try.func39, Try.ntmps39
  go_wp2_with fail
  refine (rspan_any (l : Int) _).mono ?_
  rintro e w' ⟨rfl, rfl⟩
  rw [HS.out]
  go_wp2_with fail
  go_ret
  exact ⟨congrArg (fun q => Ending.returned (Value.int .u64 q)) HR.out, rfl⟩
def Mp.cs (m : Mp) : Array Value := m.vs.toArray
theorem mcs_list (m : Mp) : m.cs.toList = m.vs := rfl
theorem mcs_size (m : Mp) : m.cs.size = 12 := rfl
theorem mrow (m : Mp) : rowT Try.prog 62 m.cs.size = true := by rw [mcs_size]; kernel_rfl
theorem mvs_one (m : Mp) : ∀ u ∈ m.vs, u.oneCell' = true := fun u hu => one_mp [m] u (by simpa using hu)
theorem mcs_one (m : Mp) : m.cs.all (·.oneCell') = true := Array.all_eq_true_iff_forall_mem.2 fun u hu => mvs_one m u (by rw [← mcs_list]; simpa using hu)
theorem mcs_0 (m : Mp) : m.cs[0]? = some (.int .u64 (m.va : Int)) := rfl
theorem mcs_1 (m : Mp) : m.cs[1]? = some (.int .i64 (m.lev : Int)) := rfl
def Tb.vs (b : Tb) : List Value := [.int .i64 (b.lev : Int), .int .u64 (b.va : Int)]
theorem one_tb (T : List Tb) : ∀ u ∈ T.flatMap Tb.vs, u.oneCell' = true := by
  intro u hu
  obtain ⟨m, _, hm⟩ := List.mem_flatMap.1 hu
  unfold Tb.vs at hm
  simp only [List.mem_cons, List.not_mem_nil, or_false] at hm
  rcases hm with rfl | rfl <;> rfl
theorem fl_len {α : Type} {f : α → List Value} {s : Nat} (hs : ∀ x, (f x).length = s) : ∀ L : List α, (L.flatMap f).length = L.length * s
  | [] => by simp
  | x :: L => by rw [List.flatMap_cons, List.length_append, fl_len hs L, hs, List.length_cons, Nat.succ_mul, Nat.add_comm]
theorem fl_get {α : Type} {f : α → List Value} {s : Nat} (hs : ∀ x, (f x).length = s) : ∀ (L : List α) (k j : Nat) (x : α), L[k]? = some x → j < s → (L.flatMap f)[k * s + j]? = (f x)[j]?
  | [], k, j, x, h, _ => by simp at h
  | y :: L, 0, j, x, h, hj => by
    simp only [List.getElem?_cons_zero, Option.some.injEq] at h
    subst h
    rw [List.flatMap_cons, Nat.zero_mul, Nat.zero_add, List.getElem?_append_left (by rw [hs]; exact hj)]
  | y :: L, k + 1, j, x, h, hj => by
    rw [List.getElem?_cons_succ] at h
    rw [List.flatMap_cons, List.getElem?_append_right (by rw [hs, Nat.succ_mul]; omega), hs, show (k + 1) * s + j - s = k * s + j by rw [Nat.succ_mul]; omega]
    exact fl_get hs L k j x h hj
/-- A slice that reads as these elements. -/
def RdX {α : Type} (f : α → List Value) (s : Nat) (w : World) (A : Option Addr) (L : List α) : Prop := L ≠ [] → ∃ b, A = some ⟨b, 0, none⟩ ∧ b < w.heap.size ∧ ∀ k x, L[k]? = some x → w.rangeAt b (k * s) (f x)
theorem RdX.below {α : Type} {f : α → List Value} {s : Nat} {w w' : World} {A : Option Addr} {L : List α} (h : RdX f s w A L) (hb : Below w.heap.size w w') : RdX f s w' A L := fun hne => by
  obtain ⟨b, e, hl, hc⟩ := h hne
  exact ⟨b, e, Nat.lt_of_lt_of_le hl hb.size, fun k x hx => range_below (hc k x hx) hb⟩
theorem RdX.of_own {α : Type} {f : α → List Value} {s : Nat} {w : World} {base n c : Nat} {e : TypeId} {A : Option Addr} {L : List α} (hs : ∀ x, (f x).length = s) (h : w.ownsRow base e s (.slice A n c) n (L.flatMap f)) (hn : n = L.length) : RdX f s w A L := by
  subst hn
  rcases h.2 with ⟨h1, h2⟩ | ⟨g, cap, cur, h1, hb, hh, hc, _, _, ht⟩
  · exact fun hne => absurd (List.eq_nil_of_length_eq_zero h2) hne
  · injection h1 with h1 _ _
    subst h1
    refine fun _ => ⟨g, rfl, ?_, fun k x hx j u hj => ?_⟩
    · have hg : Blk w g e cur := hh
      exact hg.lt
    · have hlt : k < L.length := (List.getElem?_eq_some_iff.1 hx).1
      have hjs : j < s := by rw [← hs x]; exact (List.getElem?_eq_some_iff.1 hj).1
      have hjl : k * s + j < L.length * s := Nat.lt_of_lt_of_le (by rw [Nat.succ_mul]; omega : k * s + j < (k + 1) * s) (Nat.mul_le_mul_right s hlt)
      rw [cell_of_row w g (k * s + j) cur _ _ hh, ← hj, ← fl_get hs L k j x hx hjs, ← ht, List.getElem?_take, if_pos hjl, Array.getElem?_toList]
theorem tvs_len (b : Tb) : b.vs.length = 2 := rfl
theorem mvs_12 (m : Mp) : m.vs.length = 12 := rfl
/-- The reference's tables in memory. -/
structure XAt (w : World) (rb : Nat) (c : TC) (x : XS) (F : Nat → Prop) : Prop where
  own : ∃ vL vT, Blk w rb 65 #[vL, vT, .int .i64 (c.first : Int), .int .i64 (c.N : Int), .int .i64 (c.n : Int), .int .i64 (x.k : Int)] ∧
    w.ownsRow 0 62 12 vL x.L.length (x.L.flatMap Mp.vs) ∧ w.ownsRow 0 94 2 vT x.T.length (x.T.flatMap Tb.vs) ∧ (∀ k, vL.ownBlock = some k → F k) ∧ (∀ k, vT.ownBlock = some k → F k)
  self : F rb
  lt : ∀ k, F k → k < w.heap.size
def XTo (W : World) (rb : Nat) (c : TC) (x : XS) (F : Nat → Prop) (w' : World) : Prop := ∃ F', XAt w' rb c x F' ∧ (∀ b, F' b → F b ∨ W.heap.size ≤ b) ∧ Keeps F W w'
theorem own_zero {w : World} {base : Nat} {e : TypeId} {s n : Nat} {v : Value} {xs : List Value} (h : w.ownsRow base e s v n xs) : w.ownsRow 0 e s v n xs := by
  refine ⟨h.1, ?_⟩
  rcases h.2 with h' | ⟨g, cap, cur, a1, a2, a3⟩
  · exact .inl h'
  · exact .inr ⟨g, cap, cur, a1, Nat.zero_le _, a3⟩
theorem own_form {w : World} {base : Nat} {e : TypeId} {s n : Nat} {v : Value} {xs : List Value} (h : w.ownsRow base e s v n xs) : ∃ A c, v = .slice A n c := by
  rcases h.2 with ⟨rfl, h0⟩ | ⟨g, cap, cur, rfl, _⟩
  · exact ⟨none, 0, by rw [h0]⟩
  · exact ⟨_, _, rfl⟩
theorem own_max {w : World} {base : Nat} {e : TypeId} {s n : Nat} {v : Value} {xs : List Value} (h : w.ownsRow base e s v n xs) : n ≤ maxLen := by
  rcases h.2 with ⟨rfl, h0⟩ | ⟨g, cap, cur, rfl, _, _, hc, hm, _⟩
  · rw [h0]; exact Nat.zero_le _
  · exact Nat.le_trans hc hm
section
variable {W w w' : World} {rb : Nat} {c : TC} {x : XS} {F H : Nat → Prop}
theorem XAt.keeps (h : XAt w rb c x F) (k : Keeps H w w') (hd : ∀ b, F b → ¬ H b) : XAt w' rb c x F := by
  obtain ⟨vL, vT, h1, h2, h3, h4, h5⟩ := h.own
  exact ⟨⟨vL, vT, k.blk h1 (hd _ h.self), k.row h2 (fun g hg => hd _ (h4 g hg)), k.row h3 (fun g hg => hd _ (h5 g hg)), h4, h5⟩, h.self, fun b hb => Nat.lt_of_lt_of_le (h.lt b hb) k.size⟩
theorem XAt.below (h : XAt w rb c x F) (hb : Below w.heap.size w w') : XAt w' rb c x F := h.keeps (H := fun _ => False) (Keeps.of_below hb) (fun _ _ h => h)
theorem XAt.drew (h : XAt w rb c x F) : XAt w.drew rb c x F := h.below (Below.refl _ _).drew
theorem XAt.to_below (h : XAt w rb c x F) (hb : Below w.heap.size w w') : XTo w rb c x F w' := ⟨F, h.below hb, fun _ h => .inl h, Keeps.of_below hb⟩
theorem xto_trans {x'' : XS} {F1 : Nat → Prop} {w1 w2 : World} (h1 : ∀ b, F1 b → F b ∨ W.heap.size ≤ b) (k : Keeps F W w1) (h : XTo w1 rb c x'' F1 w2) : XTo W rb c x'' F w2 := by
  obtain ⟨F2, h3, h4, k2⟩ := h
  refine ⟨F2, h3, fun b hb => ?_, k.trans k2 h1⟩
  rcases h4 b hb with h | h
  · exact h1 b h
  · exact .inr (Nat.le_trans k.size h)
theorem XAt.forms (h : XAt w rb c x F) : ∃ A cA B cB, Blk w rb 65 #[.slice A x.L.length cA, .slice B x.T.length cB, .int .i64 (c.first : Int), .int .i64 (c.N : Int), .int .i64 (c.n : Int), .int .i64 (x.k : Int)] ∧ RdX Mp.vs 12 w A x.L ∧ RdX Tb.vs 2 w B x.T ∧ x.L.length ≤ maxLen ∧ x.T.length ≤ maxLen := by
  obtain ⟨vL, vT, h1, h2, h3, h4, h5⟩ := h.own
  obtain ⟨A, cA, rfl⟩ := own_form h2
  obtain ⟨B, cB, rfl⟩ := own_form h3
  exact ⟨A, cA, B, cB, h1, RdX.of_own mvs_12 h2 rfl, RdX.of_own tvs_len h3 rfl, own_max h2, own_max h3⟩
/-- The count turns. -/
theorem XAt.used (h : XAt w rb c x F) (k : Nat) : XTo w rb c ⟨x.L, x.T, k⟩ F (w.setCell ⟨rb, 5, none⟩ (.int .i64 (k : Int))) := by
  obtain ⟨vL, vT, h1, h2, h3, h4, h5⟩ := h.own
  have hk : Keeps (fun b => b = rb) w (w.setCell ⟨rb, 5, none⟩ (.int .i64 (k : Int))) := (Keeps.refl (fun b => b = rb) w).setCell (p := ⟨rb, 5, none⟩) (.inl rfl) _
  have n1 := row_ne_blk h2 h1 (by decide)
  have n2 := row_ne_blk h3 h1 (by decide)
  exact ⟨F, ⟨⟨vL, vT, Blkf.set_ h1 5 _, hk.row h2 (fun g hg e => n1 (by rw [hg, e])), hk.row h3 (fun g hg e => n2 (by rw [hg, e])), h4, h5⟩, h.self, fun b hb => Nat.lt_of_lt_of_le (h.lt b hb) hk.size⟩, fun _ h => .inl h, hk.mono fun b e => by rw [e]; exact h.self⟩
/-- Other pages. -/
theorem XAt.putL {w3 : World} {v' : Value} {n : Nat} {L' : List Mp} (h : XAt w rb c x F) (hE : Below w.heap.size w w3) (ho : w3.ownsRow w.heap.size 62 12 v' n (L'.flatMap Mp.vs)) (hn : n = L'.length) : XTo w rb c ⟨L', x.T, x.k⟩ F (w3.setCell ⟨rb, 0, none⟩ v') := by
  subst hn
  obtain ⟨vL, vT, h1, h2, h3, h4, h5⟩ := h.own
  have hx := h.lt rb h.self
  have k34 : Keeps (fun b => b = rb) w3 (w3.setCell ⟨rb, 0, none⟩ v') := (Keeps.refl (fun b => b = rb) w3).setCell (p := ⟨rb, 0, none⟩) (.inl rfl) v'
  have hsz : (w3.setCell ⟨rb, 0, none⟩ v').heap.size = w3.heap.size := by simp
  have n2 := row_ne_blk h3 h1 (by decide)
  have kE : Keeps (fun _ => False) w w3 := Keeps.of_below hE
  refine ⟨fun b => F b ∨ v'.ownBlock = some b, ⟨⟨v', vT, Blkf.set_ (h1.below hE hx) 0 v', own_zero (k34.row ho (fun g hg e => by have := (ho.lt g hg).1; omega)), k34.row (kE.row h3 (fun _ _ h => h)) (fun g hg e => n2 (by rw [hg, e])), fun k hk => .inr hk, fun k hk => .inl (h5 k hk)⟩, .inl h.self, fun k hk => ?_⟩, fun b hb => ?_, ?_⟩
  · rw [hsz]
    rcases hk with hk | hk
    · exact Nat.lt_of_lt_of_le (h.lt k hk) hE.size
    · exact (ho.lt k hk).2
  · rcases hb with hb | hb
    · exact .inl hb
    · exact .inr (ho.lt b hb).1
  · exact (Keeps.of_below hE).same (k34.mono fun b hb => hb ▸ h.self)
/-- Other tables. -/
theorem XAt.putT {w3 : World} {v' : Value} {n : Nat} {T' : List Tb} (h : XAt w rb c x F) (hE : Below w.heap.size w w3) (ho : w3.ownsRow w.heap.size 94 2 v' n (T'.flatMap Tb.vs)) (hn : n = T'.length) : XTo w rb c ⟨x.L, T', x.k⟩ F (w3.setCell ⟨rb, 1, none⟩ v') := by
  subst hn
  obtain ⟨vL, vT, h1, h2, h3, h4, h5⟩ := h.own
  have hx := h.lt rb h.self
  have k34 : Keeps (fun b => b = rb) w3 (w3.setCell ⟨rb, 1, none⟩ v') := (Keeps.refl (fun b => b = rb) w3).setCell (p := ⟨rb, 1, none⟩) (.inl rfl) v'
  have hsz : (w3.setCell ⟨rb, 1, none⟩ v').heap.size = w3.heap.size := by simp
  have n2 := row_ne_blk h2 h1 (by decide)
  have kE : Keeps (fun _ => False) w w3 := Keeps.of_below hE
  refine ⟨fun b => F b ∨ v'.ownBlock = some b, ⟨⟨vL, v', Blkf.set_ (h1.below hE hx) 1 v', k34.row (kE.row h2 (fun _ _ h => h)) (fun g hg e => n2 (by rw [hg, e])), own_zero (k34.row ho (fun g hg e => by have := (ho.lt g hg).1; omega)), fun k hk => .inl (h4 k hk), fun k hk => .inr hk⟩, .inl h.self, fun k hk => ?_⟩, fun b hb => ?_, ?_⟩
  · rw [hsz]
    rcases hk with hk | hk
    · exact Nat.lt_of_lt_of_le (h.lt k hk) hE.size
    · exact (ho.lt k hk).2
  · rcases hb with hb | hb
    · exact .inl hb
    · exact .inr (ho.lt b hb).1
  · exact (Keeps.of_below hE).same (k34.mono fun b hb => hb ▸ h.self)
end
/-- What the reference's take comes to. -/
def rtakeE (c : TC) (x : XS) : Int := if x.k = c.N then 50 else if c.n ≤ c.first + x.k then 61 else 0
def rtakeX (c : TC) (x : XS) : XS := if x.k = c.N then x else if c.n ≤ c.first + x.k then x else ⟨x.L, x.T, x.k + 1⟩
/-- The numbers are small. -/
def Small (c : TC) (x : XS) : Prop := c.first ≤ 1048576 ∧ c.N ≤ 1048576 ∧ c.n ≤ 1048576 ∧ x.k ≤ 1048576
section
variable (rb : Nat) (c : TC) (x : XS) (F : Nat → Prop) (W : World)
set_option maxHeartbeats 1000000 in
theorem rtake_any (h : XAt W rb c x F) (hs : Small c x) :
    Calls Try.prog 34 #[.pointer (some ⟨rb, 0, none⟩)] W fun e w' => e = .returned (.int .i64 (rtakeE c x)) ∧ XTo W rb c (rtakeX c x) F w' := by
  obtain ⟨q1, q2, q3, q4⟩ := hs
  have HX := Lib.hid h
  obtain ⟨vL, vT, h1, h2, h3, h4, h5⟩ := h.own
  have H1 := Lib.hid h1.drew
  have hl := h1.lt
  have HEX : Hid (rtakeE c x = if x.k = c.N then 50 else if c.n ≤ c.first + x.k then 61 else 0) := Lib.hid rfl
  have HXX : Hid (rtakeX c x = if x.k = c.N then x else if c.n ≤ c.first + x.k then x else ⟨x.L, x.T, x.k + 1⟩) := Lib.hid rfl
  rw [HEX.out, HXX.out]
  obtain ⟨k, hk⟩ : ∃ k, k = x.k := ⟨_, rfl⟩
  obtain ⟨N, hN⟩ : ∃ N, N = c.N := ⟨_, rfl⟩
  obtain ⟨f, hf⟩ : ∃ f, f = c.first := ⟨_, rfl⟩
  obtain ⟨n, hn⟩ : ∃ n, n = c.n := ⟨_, rfl⟩
  rw [← hk, ← hN, ← hf, ← hn] at H1
  rw [← hf] at q1
  rw [← hN] at q2
  rw [← hn] at q3
  rw [← hk] at q4
  rw [← hk, ← hN, ← hf, ← hn]
  have HK := Lib.hid hk
  clear h h1 h2 h3 h4 h5 HEX HXX hk hN hf hn
  have s5 := fun (W' : World) (h : Ext W.drew W') => (h.cell (p := ⟨rb, 5, none⟩) hl).trans (H1.out.cell 5)
  have s3 := fun (W' : World) (h : Ext W.drew W') => (h.cell (p := ⟨rb, 3, none⟩) hl).trans (H1.out.cell 3)
  have s2 := fun (W' : World) (h : Ext W.drew W') => (h.cell (p := ⟨rb, 2, none⟩) hl).trans (H1.out.cell 2)
  have s4 := fun (W' : World) (h : Ext W.drew W') => (h.cell (p := ⟨rb, 4, none⟩) hl).trans (H1.out.cell 4)
  simp only [List.getElem?_toArray, List.getElem?_cons_zero, List.getElem?_cons_succ] at s2 s3 s4 s5
  by_cases hkN : k = N
  · rw [if_pos hkN, if_pos hkN]
    subst hkN
    clear s2 s4
    go_enter Try.func34, Try.ntmps34
    go_wp2_with fail
    refine wp_region_plan [(0, false), (1, false), (2, false), (3, false), (4, false), (5, false), (6, false), (7, false), (8, false)] (by kernel_rfl) (by kernel_rfl) (fun _ d _ _ _ h => by cases d <;> exact h) ?_
    iterate 9 (refine plan_take (v := ?_) rfl (by kernel_rfl) ?_ ?_; rotate_left; (focus (intro w' hw'; try go_simp; try with_reducible rfl)); simp only [Act.put, List.setIfInBounds_toArray, List.set_cons_zero, List.set_cons_succ])
    refine plan_end ?_
    clear s3 s5
    go_wp2_with fail
    go_ret
    exact ⟨rfl, HX.out.to_below (Below.refl _ _).drew⟩
  · rw [if_neg hkN, if_neg hkN]
    have b0 : ((k : Int) == (N : Int)) = false := by
      have h9 : ¬ ((k : Int) = (N : Int)) := by omega
      simpa using h9
    have i1 : IntKind.i64.wrap ((f : Int) + (k : Int)) = ((f + k : Nat) : Int) := by rw [IntKind.wrap_i64]; omega
    by_cases hb : n ≤ f + k
    · rw [if_pos hb, if_pos hb]
      have d1 : decide ((n : Int) ≤ ((f + k : Nat) : Int)) = true := decide_eq_true (by omega)
      go_enter Try.func34, Try.ntmps34
      go_wp2_with fail
      refine wp_region_plan [(0, false), (1, false), (2, false), (3, false), (4, false), (5, false), (6, false), (7, false), (8, false)] (by kernel_rfl) (by kernel_rfl) (fun _ d _ _ _ h => by cases d <;> exact h) ?_
      iterate 9 (refine plan_take (v := ?_) rfl (by kernel_rfl) ?_ ?_; rotate_left; (focus (intro w' hw'; try go_simp; try with_reducible rfl)); simp only [Act.put, List.setIfInBounds_toArray, List.set_cons_zero, List.set_cons_succ])
      refine plan_end ?_
      clear s3 s5
      have s5 := fun (W' : World) (h : Ext W.drew.drew W') => (h.cell (p := ⟨rb, 5, none⟩) hl).trans (H1.out.drew.cell 5)
      have s2 := fun (W' : World) (h : Ext W.drew.drew W') => (h.cell (p := ⟨rb, 2, none⟩) hl).trans (H1.out.drew.cell 2)
      have s4 := fun (W' : World) (h : Ext W.drew.drew W') => (h.cell (p := ⟨rb, 4, none⟩) hl).trans (H1.out.drew.cell 4)
      simp only [List.getElem?_toArray, List.getElem?_cons_zero, List.getElem?_cons_succ] at s2 s4 s5
      go_wp2_with fail
      refine wp_region_plan [(0, false), (1, false), (2, false), (3, false), (4, false), (5, false), (6, false), (7, false), (8, false), (9, false), (10, false), (11, false), (12, false), (13, false)] (by kernel_rfl) (by kernel_rfl) (fun _ d _ _ _ h => by cases d <;> exact h) ?_
      iterate 14 (refine plan_take (v := ?_) rfl (by kernel_rfl) ?_ ?_; rotate_left; (focus (intro w' hw'; try go_simp; try with_reducible rfl)); simp only [Act.put, List.setIfInBounds_toArray, List.set_cons_zero, List.set_cons_succ])
      refine plan_end ?_
      clear s2 s4 s5
      go_wp2_with fail
      go_ret
      exact ⟨rfl, HX.out.to_below (Below.refl _ _).drew.drew⟩
    · rw [if_neg hb, if_neg hb]
      have d1 : decide ((n : Int) ≤ ((f + k : Nat) : Int)) = false := decide_eq_false (by omega)
      go_enter Try.func34, Try.ntmps34
      go_wp2_with fail
      refine wp_region_plan [(0, false), (1, false), (2, false), (3, false), (4, false), (5, false), (6, false), (7, false), (8, false)] (by kernel_rfl) (by kernel_rfl) (fun _ d _ _ _ h => by cases d <;> exact h) ?_
      iterate 9 (refine plan_take (v := ?_) rfl (by kernel_rfl) ?_ ?_; rotate_left; (focus (intro w' hw'; try go_simp; try with_reducible rfl)); simp only [Act.put, List.setIfInBounds_toArray, List.set_cons_zero, List.set_cons_succ])
      refine plan_end ?_
      clear s3 s5
      have s5 := fun (W' : World) (h : Ext W.drew.drew W') => (h.cell (p := ⟨rb, 5, none⟩) hl).trans (H1.out.drew.cell 5)
      have s2 := fun (W' : World) (h : Ext W.drew.drew W') => (h.cell (p := ⟨rb, 2, none⟩) hl).trans (H1.out.drew.cell 2)
      have s4 := fun (W' : World) (h : Ext W.drew.drew W') => (h.cell (p := ⟨rb, 4, none⟩) hl).trans (H1.out.drew.cell 4)
      simp only [List.getElem?_toArray, List.getElem?_cons_zero, List.getElem?_cons_succ] at s2 s4 s5
      go_wp2_with fail
      refine wp_region_plan [(0, false), (1, false), (2, false), (3, false), (4, false), (5, false), (6, false), (7, false), (8, false), (9, false), (10, false), (11, false), (12, false), (13, false)] (by kernel_rfl) (by kernel_rfl) (fun _ d _ _ _ h => by cases d <;> exact h) ?_
      iterate 14 (refine plan_take (v := ?_) rfl (by kernel_rfl) ?_ ?_; rotate_left; (focus (intro w' hw'; try go_simp; try with_reducible rfl)); simp only [Act.put, List.setIfInBounds_toArray, List.set_cons_zero, List.set_cons_succ])
      refine plan_end ?_
      clear s2 s4 s5
      have s5 := H1.out.drew.cell 5
      have z5 := Blk.frozen H1.out.drew 5
      simp only [List.getElem?_toArray, List.getElem?_cons_zero, List.getElem?_cons_succ] at s5
      have I2 : Hid ((k : Int) + 1 = ((k + 1 : Nat) : Int)) := Lib.hid (by omega)
      have HU := Lib.hid (HX.out.drew.drew.used (k + 1))
      go_wp2_with fail
      go_ret
      refine ⟨rfl, ?_⟩
      rw [I2.out]
      exact xto_trans (fun _ h => .inl h) (Keeps.of_below (Below.refl _ _).drew.drew) HU.out
end
end Go.Proofs.Ytbgagmpinekhpaa

/- The reference's tables: laid, page, Holds. -/
namespace Go.Proofs.Ytbgagmpinekhpaa
open Go.RowKit

def mzero : Array Value := #[.int .u64 0, .int .i64 0, .bool false, .bool false, .bool false, .bool false, .bool false, .bool false, .bool false, .bool false, .int .i64 0, .int .u64 0]
def idxV (o : Option Nat) : Int := match o with
  | some i => (i : Int)
  | none => -1
theorem fi_some {α : Type} {p : α → Bool} {L : List α} {k : Nat} {x : α} (hx : L[k]? = some x) (hno : ∀ j y, j < k → L[j]? = some y → p y = false) (hp : p x = true) : L.findIdx? p = some k := by
  have hk : k < L.length := (List.getElem?_eq_some_iff.1 hx).1
  have hg : L[k] = x := by rw [List.getElem?_eq_getElem hk] at hx; injection hx
  rw [List.findIdx?_eq_some_iff_getElem]
  refine ⟨hk, by rw [hg]; exact hp, fun j hj => ?_⟩
  rw [hno j _ hj (List.getElem?_eq_getElem (by omega))]
  decide
theorem fi_none {α : Type} {p : α → Bool} {L : List α} {k : Nat} (hk : L.length ≤ k) (hno : ∀ j y, j < k → L[j]? = some y → p y = false) : L.findIdx? p = none := by
  rw [List.findIdx?_eq_none_iff]
  intro y hy
  obtain ⟨j, hj, rfl⟩ := List.getElem_of_mem hy
  exact hno j _ (by omega) (List.getElem?_eq_getElem hj)
theorem any_some {α : Type} {p : α → Bool} {L : List α} {k : Nat} {x : α} (hx : L[k]? = some x) (hp : p x = true) : L.any p = true := List.any_eq_true.2 ⟨x, List.mem_of_getElem? hx, hp⟩
theorem any_none {α : Type} {p : α → Bool} {L : List α} {k : Nat} (hk : L.length ≤ k) (hno : ∀ j y, j < k → L[j]? = some y → p y = false) : L.any p = false := by
  rw [List.any_eq_false]
  intro y hy
  obtain ⟨j, hj, rfl⟩ := List.getElem_of_mem hy
  rw [hno j _ (by omega) (List.getElem?_eq_getElem hj)]
  decide
theorem no_next {α : Type} {p : α → Bool} {L : List α} {k : Nat} {x : α} (hx : L[k]? = some x) (hno : ∀ j y, j < k → L[j]? = some y → p y = false) (hp : p x = false) : ∀ j y, j < k + 1 → L[j]? = some y → p y = false := by
  intro j y hj hy
  rcases Nat.lt_or_ge j k with h | h
  · exact hno j y h hy
  · obtain rfl : j = k := by omega
    rw [hx] at hy
    injection hy with hy
    rw [← hy]; exact hp
def laidB (T : List Tb) (va l : Nat) : Bool := T.any (fun b => b.lev == l && b.va == baseN va (l + 1))
theorem laid_tab (root : Nat) (T : List Tb) (va l : Nat) (hl : l ≠ 2) : laidB T va l = (tabF root T va l).isSome := by
  unfold tabF laidB
  rw [if_neg hl, Option.isSome_map]
  induction T with
  | nil => rfl
  | cons b T ih =>
    rw [List.any_cons, List.find?_cons]
    cases h : (b.lev == l && b.va == baseN va (l + 1)) with
    | true => rfl
    | false => exact ih
section
variable (rb : Nat) (c : TC) (x : XS) (F : Nat → Prop) (W : World)
set_option maxRecDepth 100000 in
set_option maxHeartbeats 2000000 in
theorem rpage_any (va l : Nat) (h : XAt W rb c x F) (hl : l ≤ 2) (hv : va < 18446744073709551616) :
    Calls Try.prog 37 #[.pointer (some ⟨rb, 0, none⟩), .int .u64 (va : Int), .int .i64 (l : Int)] W fun e w' => e = .returned (.int .i64 (idxV (pageI x.L va l))) ∧ Below W.heap.size W w' := by
  obtain ⟨A, cA, B, cB, hb, hr, _, hm, _⟩ := h.forms
  have t0 := hb.cell 0
  have tl := hb.lt
  simp only [List.getElem?_toArray, List.getElem?_cons_zero, List.getElem?_cons_succ] at t0
  obtain ⟨n, hn⟩ : ∃ n, n = x.L.length := ⟨_, rfl⟩
  rw [← hn] at t0 hm
  have HR := Lib.hid hr
  have HN := Lib.hid hn
  have HL := Lib.hid hl
  have HV := Lib.hid hv
  have hm2 : n ≤ 9223372036854775807 := Nat.le_trans hm (by unfold maxLen; decide)
  obtain ⟨bs, hbs⟩ : ∃ bs, bs = baseN va l := ⟨_, rfl⟩
  have HBC : Hid (∀ w' : World, Calls Try.prog 39 #[.int .u64 (va : Int), .int .i64 (l : Int)] w' fun e w'' => e = .returned (.int .u64 (bs : Int)) ∧ w' = w'') := Lib.hid (fun w' => by rw [hbs]; exact rbase_any va l w' hl hv)
  have HBS := Lib.hid hbs
  clear h hb hr hm hn hbs hv hl
  go_enter Try.func37, Try.ntmps37
  go_wp2_with fail
  go_loopw [14] (fun i wr => ∃ k : Nat, k ≤ n ∧ i = .int .i64 k ∧ Below W.heap.size W wr ∧ ∀ j y, j < k → x.L[j]? = some y → (y.lev == l && y.va == bs) = false) (fun i _ => n - (intOf i).toNat)
  case atStart => exact ⟨0, by omega, rfl, Below.refl _ _, fun j y hj => absurd hj (by omega)⟩
  case round =>
    obtain ⟨k, hk, rfl, hbel, hno⟩ := hrel
    have HBE := Lib.hid hbel
    have HNO := Lib.hid hno
    clear hbel hno t0 tl
    by_cases hkl : k < n
    · obtain ⟨m, hx⟩ : ∃ m, x.L[k]? = some m := ⟨_, List.getElem?_eq_getElem (by rw [← HN.out]; exact hkl)⟩
      have HX := Lib.hid hx
      obtain ⟨g, e, hgl, hrg⟩ := HR.out (fun e => by rw [e] at hx; simp at hx)
      subst e
      have HRG : Hid (wr.rangeAt g (k * 12) m.cs.toList) := Lib.hid (range_below (hrg k m hx) HBE.out)
      clear hrg hx hgl
      have hal := (Below.refl wr.heap.size wr).alloc (Nat.le_refl _) (.cells m.cs 62)
      have HAL := Lib.hid (HBE.out.trans (hal.mono HBE.out.size))
      have HLB : Hid (Blk (wr.alloc (.cells m.cs 62)) wr.heap.size 62 m.cs) := Lib.hid (Blkf.new_at _ _ _ _ rfl)
      have hlt := HLB.out.lt
      have b0 := fun (W' : World) (h : Ext (wr.alloc (.cells m.cs 62)).drew W') => (h.cell (p := ⟨wr.heap.size, 0, none⟩) hlt).trans ((HLB.out.drew.cell 0).trans (mcs_0 m))
      have b1 := fun (W' : World) (h : Ext (wr.alloc (.cells m.cs 62)).drew W') => (h.cell (p := ⟨wr.heap.size, 1, none⟩) hlt).trans ((HLB.out.drew.cell 1).trans (mcs_1 m))
      clear hal
      cases h1 : (m.lev == l)
      · have HNX := Lib.hid (no_next HX.out HNO.out (show (m.lev == l && m.va == bs) = false by rw [h1]; rfl))
        have j1 : ((m.lev : Int) == (l : Int)) = false := by simp at h1 ⊢; omega
        clear h1
        go_wp2_with (first | ((with_reducible refine wl_load 62 (.tmp 17) rfl ?_ g (k * 12) m.cs ?_ HRG.out ?_ ?_); exact rfl; exact rfl; exact mrow m) | ((with_reducible refine wl_store_new 62 (.tmp 8) (.tmp 18) rfl ?_ wr (World.heap wr).size 62 mzero m.cs ?_ ?_ ?_ ?_ ?_ ?_ ?_ ?_); exact rfl; exact rfl; exact rfl; exact rfl; exact rfl; exact rfl; exact mrow m; exact mcs_one m))
        refine wp_region_plan [(0, false), (1, false), (2, false), (3, false), (4, false), (5, false), (6, false), (7, false), (8, false), (9, false), (10, false), (11, false)] (by kernel_rfl) (by kernel_rfl) (fun _ d _ _ _ h => by cases d <;> exact h) ?_
        iterate 5 (refine plan_take (v := ?_) rfl (by kernel_rfl) ?_ ?_; rotate_left; (focus (intro w' hw'; try go_simp; try with_reducible rfl)); simp only [Act.put, List.setIfInBounds_toArray, List.set_cons_zero, List.set_cons_succ])
        iterate 6 (refine plan_skip rfl (by kernel_rfl) ?_; simp only [Act.put, List.setIfInBounds_toArray, List.set_cons_zero, List.set_cons_succ])
        iterate 1 (refine plan_take (v := ?_) rfl (by kernel_rfl) ?_ ?_; rotate_left; (focus (intro w' hw'; try go_simp; try with_reducible rfl)); simp only [Act.put, List.setIfInBounds_toArray, List.set_cons_zero, List.set_cons_succ])
        refine plan_end ?_
        clear b0 b1 hlt
        go_wp2_with fail
        go_roundw
        case rel => exact ⟨k + 1, hkl, by go_num, HAL.out.drew, HNX.out⟩
        case measure => simp [intOf]; omega
      · have j1 : ((m.lev : Int) == (l : Int)) = true := by simp at h1 ⊢; omega
        have hml : m.lev = l := by simpa using h1
        cases h2 : (m.va == bs)
        · have HNX := Lib.hid (no_next HX.out HNO.out (show (m.lev == l && m.va == bs) = false by rw [h1, h2]; rfl))
          have j2 : ((m.va : Int) == (bs : Int)) = false := by simp at h2 ⊢; omega
          clear h1 h2 hml
          go_wp2_with (first | ((with_reducible refine wl_load 62 (.tmp 17) rfl ?_ g (k * 12) m.cs ?_ HRG.out ?_ ?_); exact rfl; exact rfl; exact mrow m) | ((with_reducible refine wl_store_new 62 (.tmp 8) (.tmp 18) rfl ?_ wr (World.heap wr).size 62 mzero m.cs ?_ ?_ ?_ ?_ ?_ ?_ ?_ ?_); exact rfl; exact rfl; exact rfl; exact rfl; exact rfl; exact rfl; exact mrow m; exact mcs_one m))
          refine wp_region_plan [(0, false), (1, false), (2, false), (3, false), (4, false), (5, false), (6, false), (7, false), (8, false), (9, false), (10, false), (11, false)] (by kernel_rfl) (by kernel_rfl) (fun _ d _ _ _ h => by cases d <;> exact h) ?_
          iterate 9 (refine plan_take (v := ?_) rfl (by kernel_rfl) ?_ ?_; rotate_left; (focus (intro w' hw'; try go_simp; try with_reducible rfl)); simp only [Act.put, List.setIfInBounds_toArray, List.set_cons_zero, List.set_cons_succ])
          refine plan_quiet rfl (by kernel_rfl) (fun w' => by go_simp; all_goals (first | exact ⟨rfl, rfl⟩ | rfl)) (fun w' hw' => (HBC.out w')) ?_
          simp only [Act.put, List.setIfInBounds_toArray, List.set_cons_zero, List.set_cons_succ]
          iterate 2 (refine plan_take (v := ?_) rfl (by kernel_rfl) ?_ ?_; rotate_left; (focus (intro w' hw'; try go_simp; try with_reducible rfl)); simp only [Act.put, List.setIfInBounds_toArray, List.set_cons_zero, List.set_cons_succ])
          refine plan_end ?_
          clear b0 b1 hlt
          go_wp2_with fail
          go_roundw
          case rel => exact ⟨k + 1, hkl, by go_num, HAL.out.drew, HNX.out⟩
          case measure => simp [intOf]; omega
        · have HFND : Hid (pageI x.L va l = some k) := Lib.hid (fi_some HX.out (by rw [← HBS.out]; exact HNO.out) (by rw [← HBS.out, h1, h2]; rfl))
          have j2 : ((m.va : Int) == (bs : Int)) = true := by simp at h2 ⊢; omega
          clear h1 h2 hml
          go_wp2_with (first | ((with_reducible refine wl_load 62 (.tmp 17) rfl ?_ g (k * 12) m.cs ?_ HRG.out ?_ ?_); exact rfl; exact rfl; exact mrow m) | ((with_reducible refine wl_store_new 62 (.tmp 8) (.tmp 18) rfl ?_ wr (World.heap wr).size 62 mzero m.cs ?_ ?_ ?_ ?_ ?_ ?_ ?_ ?_); exact rfl; exact rfl; exact rfl; exact rfl; exact rfl; exact rfl; exact mrow m; exact mcs_one m))
          refine wp_region_plan [(0, false), (1, false), (2, false), (3, false), (4, false), (5, false), (6, false), (7, false), (8, false), (9, false), (10, false), (11, false)] (by kernel_rfl) (by kernel_rfl) (fun _ d _ _ _ h => by cases d <;> exact h) ?_
          iterate 9 (refine plan_take (v := ?_) rfl (by kernel_rfl) ?_ ?_; rotate_left; (focus (intro w' hw'; try go_simp; try with_reducible rfl)); simp only [Act.put, List.setIfInBounds_toArray, List.set_cons_zero, List.set_cons_succ])
          refine plan_quiet rfl (by kernel_rfl) (fun w' => by go_simp; all_goals (first | exact ⟨rfl, rfl⟩ | rfl)) (fun w' hw' => (HBC.out w')) ?_
          simp only [Act.put, List.setIfInBounds_toArray, List.set_cons_zero, List.set_cons_succ]
          iterate 2 (refine plan_take (v := ?_) rfl (by kernel_rfl) ?_ ?_; rotate_left; (focus (intro w' hw'; try go_simp; try with_reducible rfl)); simp only [Act.put, List.setIfInBounds_toArray, List.set_cons_zero, List.set_cons_succ])
          refine plan_end ?_
          clear b0 b1 hlt
          go_wp2_with fail
          go_ret
          exact ⟨by rw [HFND.out]; rfl, HAL.out.drew⟩
    · obtain rfl : n = k := by omega
      have HFND : Hid (pageI x.L va l = none) := Lib.hid (fi_none (by rw [← HN.out]; exact Nat.le_refl _) (by rw [← HBS.out]; exact HNO.out))
      go_wp2_with fail
      go_ret
      exact ⟨by rw [HFND.out]; rfl, HBE.out⟩
set_option maxRecDepth 100000 in
set_option maxHeartbeats 2000000 in
theorem rlaid_any (va l : Nat) (h : XAt W rb c x F) (hl : l ≤ 1) (hv : va < 18446744073709551616) :
    Calls Try.prog 38 #[.pointer (some ⟨rb, 0, none⟩), .int .u64 (va : Int), .int .i64 (l : Int)] W fun e w' => e = .returned (.bool (laidB x.T va l)) ∧ Below W.heap.size W w' := by
  obtain ⟨A, cA, B, cB, hb, _, hr, _, hm⟩ := h.forms
  have t0 := hb.cell 1
  have tl := hb.lt
  simp only [List.getElem?_toArray, List.getElem?_cons_zero, List.getElem?_cons_succ] at t0
  obtain ⟨n, hn⟩ : ∃ n, n = x.T.length := ⟨_, rfl⟩
  rw [← hn] at t0 hm
  have HR := Lib.hid hr
  have HN := Lib.hid hn
  have HL := Lib.hid hl
  have HV := Lib.hid hv
  have hm2 : n ≤ 9223372036854775807 := Nat.le_trans hm (by unfold maxLen; decide)
  obtain ⟨bs, hbs⟩ : ∃ bs, bs = baseN va (l + 1) := ⟨_, rfl⟩
  obtain ⟨l1, hl1⟩ : ∃ l1, l1 = l + 1 := ⟨_, rfl⟩
  have HBC : Hid (∀ w' : World, Calls Try.prog 39 #[.int .u64 (va : Int), .int .i64 (l1 : Int)] w' fun e w'' => e = .returned (.int .u64 (bs : Int)) ∧ w' = w'') := Lib.hid (fun w' => by rw [hbs, ← hl1]; exact rbase_any va l1 w' (by omega) hv)
  have HBS := Lib.hid hbs
  have iw2 : IntKind.i64.wrap ((l : Int) + 1) = (l1 : Int) := by rw [IntKind.wrap_i64]; omega
  clear h hb hr hm hn hbs hv
  go_enter Try.func38, Try.ntmps38
  go_wp2_with fail
  go_loopw [14] (fun i wr => ∃ k : Nat, k ≤ n ∧ i = .int .i64 k ∧ Below W.heap.size W wr ∧ ∀ j y, j < k → x.T[j]? = some y → (y.lev == l && y.va == bs) = false) (fun i _ => n - (intOf i).toNat)
  case atStart => exact ⟨0, by omega, rfl, Below.refl _ _, fun j y hj => absurd hj (by omega)⟩
  case round =>
    obtain ⟨k, hk, rfl, hbel, hno⟩ := hrel
    have HBE := Lib.hid hbel
    have HNO := Lib.hid hno
    clear hbel hno t0 tl
    by_cases hkl : k < n
    · obtain ⟨m, hx⟩ : ∃ m, x.T[k]? = some m := ⟨_, List.getElem?_eq_getElem (by rw [← HN.out]; exact hkl)⟩
      have HX := Lib.hid hx
      obtain ⟨g, e, hgl, hrg⟩ := HR.out (fun e => by rw [e] at hx; simp at hx)
      subst e
      have hrg2 := range_below (hrg k m hx) HBE.out
      have c0 : wr.cell? ⟨g, k * 2, none⟩ = some (.int .i64 (m.lev : Int)) := hrg2 0 _ rfl
      have c1 : wr.cell? ⟨g, k * 2 + 1, none⟩ = some (.int .u64 (m.va : Int)) := hrg2 1 _ rfl
      have hgl2 : g < wr.heap.size := cell_lt c0
      clear hrg hx hgl hrg2
      have hal := (Below.refl wr.heap.size wr).alloc (Nat.le_refl _) (.cells #[.int .i64 (m.lev : Int), .int .u64 (m.va : Int)] 94)
      have HAL := Lib.hid (HBE.out.trans (hal.mono HBE.out.size))
      have HLB : Hid (Blk (wr.alloc (.cells #[.int .i64 (m.lev : Int), .int .u64 (m.va : Int)] 94)) wr.heap.size 94 #[.int .i64 (m.lev : Int), .int .u64 (m.va : Int)]) := Lib.hid (Blkf.new_at _ _ _ _ rfl)
      have hlt := HLB.out.lt
      have b0 := fun (W' : World) (h : Ext (wr.alloc (.cells #[.int .i64 (m.lev : Int), .int .u64 (m.va : Int)] 94)).drew W') => (h.cell (p := ⟨wr.heap.size, 0, none⟩) hlt).trans (HLB.out.drew.cell 0)
      have b1 := fun (W' : World) (h : Ext (wr.alloc (.cells #[.int .i64 (m.lev : Int), .int .u64 (m.va : Int)] 94)).drew W') => (h.cell (p := ⟨wr.heap.size, 1, none⟩) hlt).trans (HLB.out.drew.cell 1)
      simp only [List.getElem?_toArray, List.getElem?_cons_zero, List.getElem?_cons_succ] at b0 b1
      clear hal
      cases h1 : (m.lev == l)
      · have HNX := Lib.hid (no_next HX.out HNO.out (show (m.lev == l && m.va == bs) = false by rw [h1]; rfl))
        have j1 : ((m.lev : Int) == (l : Int)) = false := by simp at h1 ⊢; omega
        clear h1
        go_wp2_with fail
        refine wp_region_plan [(0, false), (1, false), (2, false), (3, false), (4, false), (5, false), (6, false), (7, false), (8, false), (9, false), (10, false), (11, false), (12, false)] (by kernel_rfl) (by kernel_rfl) (fun _ d _ _ _ h => by cases d <;> exact h) ?_
        iterate 5 (refine plan_take (v := ?_) rfl (by kernel_rfl) ?_ ?_; rotate_left; (focus (intro w' hw'; try go_simp; try with_reducible rfl)); simp only [Act.put, List.setIfInBounds_toArray, List.set_cons_zero, List.set_cons_succ])
        iterate 7 (refine plan_skip rfl (by kernel_rfl) ?_; simp only [Act.put, List.setIfInBounds_toArray, List.set_cons_zero, List.set_cons_succ])
        iterate 1 (refine plan_take (v := ?_) rfl (by kernel_rfl) ?_ ?_; rotate_left; (focus (intro w' hw'; try go_simp; try with_reducible rfl)); simp only [Act.put, List.setIfInBounds_toArray, List.set_cons_zero, List.set_cons_succ])
        refine plan_end ?_
        clear b0 b1 hlt c0 c1
        go_wp2_with fail
        go_roundw
        case rel => exact ⟨k + 1, hkl, by go_num, HAL.out.drew, HNX.out⟩
        case measure => simp [intOf]; omega
      · have j1 : ((m.lev : Int) == (l : Int)) = true := by simp at h1 ⊢; omega
        cases h2 : (m.va == bs)
        · have HNX := Lib.hid (no_next HX.out HNO.out (show (m.lev == l && m.va == bs) = false by rw [h1, h2]; rfl))
          have j2 : ((m.va : Int) == (bs : Int)) = false := by simp at h2 ⊢; omega
          clear h1 h2
          go_wp2_with fail
          refine wp_region_plan [(0, false), (1, false), (2, false), (3, false), (4, false), (5, false), (6, false), (7, false), (8, false), (9, false), (10, false), (11, false), (12, false)] (by kernel_rfl) (by kernel_rfl) (fun _ d _ _ _ h => by cases d <;> exact h) ?_
          iterate 10 (refine plan_take (v := ?_) rfl (by kernel_rfl) ?_ ?_; rotate_left; (focus (intro w' hw'; try go_simp; try with_reducible rfl)); simp only [Act.put, List.setIfInBounds_toArray, List.set_cons_zero, List.set_cons_succ])
          refine plan_quiet rfl (by kernel_rfl) (fun w' => by go_simp; all_goals (first | exact ⟨rfl, rfl⟩ | rfl)) (fun w' hw' => (HBC.out w')) ?_
          simp only [Act.put, List.setIfInBounds_toArray, List.set_cons_zero, List.set_cons_succ]
          iterate 2 (refine plan_take (v := ?_) rfl (by kernel_rfl) ?_ ?_; rotate_left; (focus (intro w' hw'; try go_simp; try with_reducible rfl)); simp only [Act.put, List.setIfInBounds_toArray, List.set_cons_zero, List.set_cons_succ])
          refine plan_end ?_
          clear b0 b1 hlt c0 c1
          go_wp2_with fail
          go_roundw
          case rel => exact ⟨k + 1, hkl, by go_num, HAL.out.drew, HNX.out⟩
          case measure => simp [intOf]; omega
        · have HFND : Hid (laidB x.T va l = true) := Lib.hid (any_some HX.out (by rw [← HBS.out, h1, h2]; rfl))
          have j2 : ((m.va : Int) == (bs : Int)) = true := by simp at h2 ⊢; omega
          clear h1 h2
          go_wp2_with fail
          refine wp_region_plan [(0, false), (1, false), (2, false), (3, false), (4, false), (5, false), (6, false), (7, false), (8, false), (9, false), (10, false), (11, false), (12, false)] (by kernel_rfl) (by kernel_rfl) (fun _ d _ _ _ h => by cases d <;> exact h) ?_
          iterate 10 (refine plan_take (v := ?_) rfl (by kernel_rfl) ?_ ?_; rotate_left; (focus (intro w' hw'; try go_simp; try with_reducible rfl)); simp only [Act.put, List.setIfInBounds_toArray, List.set_cons_zero, List.set_cons_succ])
          refine plan_quiet rfl (by kernel_rfl) (fun w' => by go_simp; all_goals (first | exact ⟨rfl, rfl⟩ | rfl)) (fun w' hw' => (HBC.out w')) ?_
          simp only [Act.put, List.setIfInBounds_toArray, List.set_cons_zero, List.set_cons_succ]
          iterate 2 (refine plan_take (v := ?_) rfl (by kernel_rfl) ?_ ?_; rotate_left; (focus (intro w' hw'; try go_simp; try with_reducible rfl)); simp only [Act.put, List.setIfInBounds_toArray, List.set_cons_zero, List.set_cons_succ])
          refine plan_end ?_
          clear b0 b1 hlt c0 c1
          go_wp2_with fail
          go_ret
          exact ⟨by rw [HFND.out]; rfl, HAL.out.drew⟩
    · obtain rfl : n = k := by omega
      have HFND : Hid (laidB x.T va l = false) := Lib.hid (any_none (by rw [← HN.out]; exact Nat.le_refl _) (by rw [← HBS.out]; exact HNO.out))
      go_wp2_with fail
      go_ret
      exact ⟨by rw [HFND.out]; rfl, HBE.out⟩
theorem idxV_some (i : Nat) : decide (0 ≤ idxV (some i)) = true := by simp [idxV]
theorem idxV_none : decide (0 ≤ idxV none) = false := rfl
/-- The level at which a page is looked for, and those above. -/
def holdsFrom (L : List Mp) (va : Nat) : Nat → Nat → Option Nat
  | 0, _ => none
  | d + 1, l => match pageI L va l with
    | some i => some i
    | none => holdsFrom L va d (l + 1)
theorem holds_from (L : List Mp) (va : Nat) (hc : canonB va = true) : holdsI L va = holdsFrom L va 3 0 := by
  unfold holdsI
  rw [if_pos hc]
  simp only [holdsFrom]
  cases pageI L va 0 <;> simp only
  cases pageI L va 1 <;> simp only
  cases pageI L va 2 <;> rfl
set_option maxHeartbeats 1000000 in
theorem rholds_any (va : Nat) (h : XAt W rb c x F) (hv : va < 18446744073709551616) :
    Calls Try.prog 21 #[.pointer (some ⟨rb, 0, none⟩), .int .u64 (va : Int)] W fun e w' => e = .returned (.int .i64 (idxV (holdsI x.L va))) ∧ Below W.heap.size W w' := by
  have HX := Lib.hid h
  have HV := Lib.hid hv
  obtain ⟨r, hr⟩ : ∃ r, r = holdsI x.L va := ⟨_, rfl⟩
  have HRR := Lib.hid hr
  rw [← hr]
  clear h hv hr
  go_enter Try.func21, Try.ntmps21
  go_wp2_with fail
  go_loopw [5, 6] (fun i _ wr => ∃ k : Nat, k ≤ 3 ∧ i = .int .i64 k ∧ Below W.heap.size W wr ∧ (canonB va = true → r = holdsFrom x.L va (3 - k) k)) (fun i _ _ => 3 - (intOf i).toNat)
  case atStart => exact ⟨0, by omega, rfl, Below.refl _ _, fun hc => by rw [HRR.out]; exact holds_from _ _ hc⟩
  case round =>
    obtain ⟨k, hk, rfl, hbel, hr⟩ := hrel
    have HBE := Lib.hid hbel
    have HR := Lib.hid hr
    clear hbel hr
    by_cases hkl : k < 3
    · have hkI : (k : Int) < 3 := by omega
      have HXr := Lib.hid (HX.out.keeps (H := fun _ => False) (Keeps.of_below HBE.out) (fun _ _ h => h))
      cases e : pageI x.L va k with
      | none =>
        have HE := Lib.hid e
        have HNX : Hid (canonB va = true → r = holdsFrom x.L va (3 - (k + 1)) (k + 1)) := Lib.hid (fun hc => by
          rw [HR.out hc, show 3 - k = (3 - (k + 1)) + 1 by omega, holdsFrom, e])
        clear e
        go_wp2_with fail
        refine (rpage_any rb c x F _ va k HXr.out (by omega) HV.out).mono ?_
        rintro e w1 ⟨rfl, hb⟩
        rw [HE.out, show idxV none = -1 from rfl]
        have HB1 := Lib.hid (HBE.out.trans (hb.mono HBE.out.size))
        clear hb
        go_wp2_with fail
        go_roundw
        case rel => exact ⟨k + 1, hkl, by go_num, HB1.out, HNX.out⟩
        case measure => simp [intOf]; omega
      | some j =>
        have HE := Lib.hid e
        have hj : (j : Int) < 9223372036854775807 := by
          have h1 := (List.findIdx?_eq_some_iff_getElem.1 e).1
          obtain ⟨_, _, _, _, _, _, _, hm, _⟩ := HX.out.forms
          unfold maxLen at hm
          omega
        have h0 : (0 : Int) ≤ (j : Int) := by omega
        have d0 : decide ((0 : Int) ≤ (j : Int)) = true := decide_eq_true h0
        clear e
        cases hc : canonB va with
        | true =>
          have HRS : Hid (r = some j) := Lib.hid (by rw [HR.out hc, show 3 - k = (3 - (k + 1)) + 1 by omega, holdsFrom, HE.out])
          have HC := Lib.hid hc
          clear hc
          go_wp2_with fail
          refine (rpage_any rb c x F _ va k HXr.out (by omega) HV.out).mono ?_
          rintro e w1 ⟨rfl, hb⟩
          rw [HE.out, show idxV (some j) = (j : Int) from rfl]
          have HB1 := Lib.hid (HBE.out.trans (hb.mono HBE.out.size))
          clear hb
          go_wp2_with fail
          refine (rcanon_any va _ HV.out).mono ?_
          rintro e w2 ⟨rfl, rfl⟩
          rw [HC.out]
          go_wp2_with fail
          go_ret
          exact ⟨by rw [HRS.out]; rfl, HB1.out⟩
        | false =>
          have HC := Lib.hid hc
          clear hc
          go_wp2_with fail
          refine (rpage_any rb c x F _ va k HXr.out (by omega) HV.out).mono ?_
          rintro e w1 ⟨rfl, hb⟩
          rw [HE.out, show idxV (some j) = (j : Int) from rfl]
          have HB1 := Lib.hid (HBE.out.trans (hb.mono HBE.out.size))
          clear hb
          go_wp2_with fail
          refine (rcanon_any va _ HV.out).mono ?_
          rintro e w2 ⟨rfl, rfl⟩
          rw [HC.out]
          go_wp2_with fail
          go_roundw
          case rel => exact ⟨k + 1, hkl, by go_num, HB1.out, fun h => by cases h⟩
          case measure => simp [intOf]; omega
    · obtain rfl : k = 3 := by omega
      have HRS : Hid (idxV r = -1) := Lib.hid (by
        cases hc : canonB va with
        | true => rw [HR.out hc]; rfl
        | false => rw [HRR.out]; unfold holdsI; rw [hc]; rfl)
      go_wp2_with fail
      go_ret
      exact ⟨by rw [HRS.out]; rfl, HBE.out⟩
end
end Go.Proofs.Ytbgagmpinekhpaa

/- The reference's tables: May, New. -/
namespace Go.Proofs.Ytbgagmpinekhpaa
open Go.RowKit

set_option maxRecDepth 100000 in
set_option maxHeartbeats 4000000 in
theorem rmay_any (v r w x u g a d : Bool) (rsw : Int) (ppn : Nat) (l : Int) (W : World) (hr : (Lit.int .i64 rsw).wf = true) (hp : ppn < 18446744073709551616) :
    Calls Try.prog 36 #[.agg #[.bool v, .bool r, .bool w, .bool x, .bool u, .bool g, .bool a, .bool d, .int .i64 rsw, .int .u64 (ppn : Int)], .int .i64 l] W fun e w' => e = .returned (.bool (mayB (⟨v, r, w, x, u, g, a, d, rsw, (ppn : Int)⟩ : Pte) l)) ∧ Below W.heap.size W w' := by
  have HE : Hid (Below W.heap.size W (W.alloc (.cells #[.bool v, .bool r, .bool w, .bool x, .bool u, .bool g, .bool a, .bool d, .int .i64 rsw, .int .u64 (ppn : Int)] 25))) := Lib.hid ((Below.refl _ W).alloc (Nat.le_refl _) _)
  have HB : Hid (Blk (W.alloc (.cells #[.bool v, .bool r, .bool w, .bool x, .bool u, .bool g, .bool a, .bool d, .int .i64 rsw, .int .u64 (ppn : Int)] 25)) W.heap.size 25 #[.bool v, .bool r, .bool w, .bool x, .bool u, .bool g, .bool a, .bool d, .int .i64 rsw, .int .u64 (ppn : Int)]) := Lib.hid (Blkf.new_at _ _ _ _ rfl)
  have HP := Lib.hid hp
  obtain ⟨rq, hrq⟩ : ∃ q, q = rsw % 4 := ⟨_, rfl⟩
  obtain ⟨pq, hpq⟩ : ∃ q, q = ppn % 17592186044416 := ⟨_, rfl⟩
  have hnorm : (⟨v, r, w, x, u, g, a, d, rsw, (ppn : Int)⟩ : Pte).norm = (⟨v, r, w, x, u, g, a, d, rq, (pq : Int)⟩ : Pte) := by
    simp only [Pte.norm, hrq, hpq, Int.toNat_natCast]
  have HQ : Hid (∀ W', (Op.equalIn 10000 25 (.agg #[.bool v, .bool r, .bool w, .bool x, .bool u, .bool g, .bool a, .bool d, .int .i64 rq, .int .u64 (pq : Int)]) (.agg #[.bool v, .bool r, .bool w, .bool x, .bool u, .bool g, .bool a, .bool d, .int .i64 rsw, .int .u64 (ppn : Int)])).run Try.prog W' = .ok ((⟨v, r, w, x, u, g, a, d, rsw, (ppn : Int)⟩ : Pte).fits) W') := Lib.hid (fun W' =>
    pte_dec (⟨v, r, w, x, u, g, a, d, rq, (pq : Int)⟩ : Pte) (⟨v, r, w, x, u, g, a, d, rsw, (ppn : Int)⟩ : Pte) ⟨wf64 (by simp only; omega) (by simp only; omega), wfu (by simp only; omega) (by simp only; omega)⟩ ⟨hr, wfu (by simp only; omega) (by simp only; omega)⟩ _ (by rw [← hnorm]; exact (norm_fits _ (by simp only; omega)).symm) W')
  obtain ⟨wd, hwd⟩ : ∃ q, q = putV v r w x u g a d rsw (ppn : Int) := ⟨_, rfl⟩
  have HW : Hid (entryV wd = .agg #[.bool v, .bool r, .bool w, .bool x, .bool u, .bool g, .bool a, .bool d, .int .i64 rq, .int .u64 (pq : Int)] ∧ wd < 18446744073709551616) := Lib.hid ⟨by
    rw [entP_v, hwd]
    have h1 := ent_put (⟨v, r, w, x, u, g, a, d, rsw, (ppn : Int)⟩ : Pte)
    unfold Pte.word at h1
    rw [h1, hnorm]
    rfl, by
    rw [hwd]
    have h0 := bt_le v
    have h1 := bt_le r
    have h2 := bt_le w
    have h3 := bt_le x
    have h4 := bt_le u
    have h5 := bt_le g
    have h6 := bt_le a
    have h7 := bt_le d
    unfold putV
    omega⟩
  have HPUT : Hid (∀ w', Calls Try.prog 60 #[.agg #[.bool v, .bool r, .bool w, .bool x, .bool u, .bool g, .bool a, .bool d, .int .i64 rsw, .int .u64 (ppn : Int)]] w' fun e w'' => e = .returned (.int .u64 (wd : Int)) ∧ Below w'.heap.size w' w'') := Lib.hid (fun w' => by
    rw [hwd]; exact rput_any v r w x u g a d rsw (ppn : Int) w' (by omega))
  have HMAY : Hid (mayB (⟨v, r, w, x, u, g, a, d, rsw, (ppn : Int)⟩ : Pte) l = (levelB l && ((⟨v, r, w, x, u, g, a, d, rsw, (ppn : Int)⟩ : Pte).fits && ((v && (r || !w)) && ((r || x) && lowB (⟨v, r, w, x, u, g, a, d, rsw, (ppn : Int)⟩ : Pte) l))))) := Lib.hid rfl
  have HFIT : Hid ((⟨v, r, w, x, u, g, a, d, rsw, (ppn : Int)⟩ : Pte).fits = true → ppn < 17592186044416) := Lib.hid (fun h => by
    unfold Pte.fits at h
    simp only [Bool.and_eq_true, decide_eq_true_eq] at h
    omega)
  have HLOW : Hid (lowB (⟨v, r, w, x, u, g, a, d, rsw, (ppn : Int)⟩ : Pte) l = decide (ppn % 2 ^ (9 * l).toNat = 0)) := Lib.hid (by unfold lowB; rw [Int.toNat_natCast])
  obtain ⟨res, hres⟩ : ∃ q, q = mayB (⟨v, r, w, x, u, g, a, d, rsw, (ppn : Int)⟩ : Pte) l := ⟨_, rfl⟩
  rw [HMAY.out] at hres
  rw [HMAY.out, ← hres]
  clear hr hp hrq hpq hnorm hwd HMAY
  generalize hfit : (⟨v, r, w, x, u, g, a, d, rsw, (ppn : Int)⟩ : Pte).fits = fit at *
  generalize lowB (⟨v, r, w, x, u, g, a, d, rsw, (ppn : Int)⟩ : Pte) l = low at *
  have HRES := Lib.hid hres
  clear hfit hres
  go_enter Try.func36, Try.ntmps36
  go_upto_region 1 with fail
  obtain ⟨pb, hpb⟩ : ∃ q, q = W.heap.size := ⟨_, rfl⟩
  rw [← hpb] at HB ⊢
  clear hpb
  generalize W.alloc (.cells #[.bool v, .bool r, .bool w, .bool x, .bool u, .bool g, .bool a, .bool d, .int .i64 rsw, .int .u64 (ppn : Int)] 25) = w0 at *
  have xl := HB.out.lt
  have x0 := HB.out.cell 0
  have x1 := HB.out.cell 1
  have x2 := HB.out.cell 2
  have x3 := HB.out.cell 3
  have x4 := HB.out.cell 4
  have x5 := HB.out.cell 5
  have x6 := HB.out.cell 6
  have x7 := HB.out.cell 7
  have x8 := HB.out.cell 8
  have x9 := HB.out.cell 9
  simp only [List.getElem?_toArray, List.getElem?_cons_zero, List.getElem?_cons_succ] at x0 x1 x2 x3 x4 x5 x6 x7 x8 x9
  go_wp2_with fail
  refine (HPUT.out _).mono ?_
  rintro e w1 ⟨rfl, hb1⟩
  have E1 := Lib.hid (HE.out.trans (hb1.mono HE.out.size))
  have B1 := Lib.hid (HB.out.below hb1 HB.out.lt)
  clear hb1 HE HB HPUT x0 x1 x2 x3 x4 x5 x6 x7 x8 x9 xl
  go_wp2_with fail
  refine (rget_any wd _ HW.out.2).mono ?_
  rintro e w2 ⟨rfl, hb2⟩
  rw [HW.out.1]
  have E2 := Lib.hid (E1.out.trans (hb2.mono E1.out.size))
  have B2 := Lib.hid (B1.out.below hb2 B1.out.lt)
  clear hb2 E1 B1 HW
  go_upto_region 2 with fail
  have E3 : Hid (Below W.heap.size W (w2.alloc (.cells #[.bool v, .bool r, .bool w, .bool x, .bool u, .bool g, .bool a, .bool d, .int .i64 rq, .int .u64 (pq : Int)] 25))) := Lib.hid (E2.out.alloc E2.out.size _)
  have B3 := Lib.hid (B2.out.alloc (.cells #[.bool v, .bool r, .bool w, .bool x, .bool u, .bool g, .bool a, .bool d, .int .i64 rq, .int .u64 (pq : Int)] 25))
  have Q3 : Hid (Blk (w2.alloc (.cells #[.bool v, .bool r, .bool w, .bool x, .bool u, .bool g, .bool a, .bool d, .int .i64 rq, .int .u64 (pq : Int)] 25)) w2.heap.size 25 #[.bool v, .bool r, .bool w, .bool x, .bool u, .bool g, .bool a, .bool d, .int .i64 rq, .int .u64 (pq : Int)]) := Lib.hid (Blkf.new_at _ _ _ _ rfl)
  generalize w2.alloc (.cells #[.bool v, .bool r, .bool w, .bool x, .bool u, .bool g, .bool a, .bool d, .int .i64 rq, .int .u64 (pq : Int)] 25) = w3 at *
  generalize w2.heap.size = qb at *
  clear E2 B2
  have HQ' := HQ.out
  cases hlev : levelB l with
  | false =>
    have HR := Lib.hid hlev
    clear HQ'
    go_wp2_with fail
    refine (rlevel_any l _).mono ?_
    rintro e w' ⟨rfl, rfl⟩
    rw [hlev]
    clear hlev
    go_wp2_with fail
    go_ret
    exact ⟨congrArg (fun q => Ending.returned (Value.bool q)) (by rw [HRES.out, HR.out]; simp), E3.out⟩
  | true =>
    have HR := Lib.hid hlev
    clear hlev
    have bl := B3.out.lt
    have ql := Q3.out.lt
    have b0 := B3.out.cell 0
    have b1 := B3.out.cell 1
    have b2 := B3.out.cell 2
    have b3 := B3.out.cell 3
    have b4 := B3.out.cell 4
    have b5 := B3.out.cell 5
    have b6 := B3.out.cell 6
    have b7 := B3.out.cell 7
    have b8 := B3.out.cell 8
    have b9 := B3.out.cell 9
    simp only [List.getElem?_toArray, List.getElem?_cons_zero, List.getElem?_cons_succ] at b0 b1 b2 b3 b4 b5 b6 b7 b8 b9
    have q0 := Q3.out.cell 0
    have q1 := Q3.out.cell 1
    have q2 := Q3.out.cell 2
    have q3 := Q3.out.cell 3
    have q4 := Q3.out.cell 4
    have q5 := Q3.out.cell 5
    have q6 := Q3.out.cell 6
    have q7 := Q3.out.cell 7
    have q8 := Q3.out.cell 8
    have q9 := Q3.out.cell 9
    simp only [List.getElem?_toArray, List.getElem?_cons_zero, List.getElem?_cons_succ] at q0 q1 q2 q3 q4 q5 q6 q7 q8 q9
    cases fit with
    | false =>
      go_wp2_with fail
      refine (rlevel_any l _).mono ?_
      rintro e w' ⟨rfl, rfl⟩
      rw [HR.out]
      go_wp2_with fail
      go_ret
      exact ⟨congrArg (fun q => Ending.returned (Value.bool q)) (by rw [HRES.out, HR.out]; simp), E3.out⟩
    | true =>
      cases v with
      | false =>
        go_wp2_with fail
        refine (rlevel_any l _).mono ?_
        rintro e w' ⟨rfl, rfl⟩
        rw [HR.out]
        go_wp2_with fail
        go_ret
        exact ⟨congrArg (fun q => Ending.returned (Value.bool q)) (by rw [HRES.out, HR.out]; simp), E3.out⟩
      | true =>
        cases r with
        | true =>
          cases w with
          | true =>
            go_wp2_with fail
            refine (rlevel_any l _).mono ?_
            rintro e w' ⟨rfl, rfl⟩
            rw [HR.out]
            go_upto_region 4 with fail
            clear HQ' q0 q1 q2 q3 q4 q5 q6 q7 q8 q9 ql b0 b1 b2 b3 b4 b5 b6 b7 b8 b9
            have b9 := fun (W' : World) (h : Ext w3.drew W') => (h.cell (p := ⟨pb, 9, none⟩) bl).trans (B3.out.drew.cell 9)
            simp only [List.getElem?_toArray, List.getElem?_cons_zero, List.getElem?_cons_succ] at b9
            have hf : ppn < 17592186044416 := by first | exact HFIT.out rfl | exact HFIT.out trivial
            obtain ⟨pm, hpm⟩ : ∃ q, q = ppn * 4096 := ⟨_, rfl⟩
            obtain ⟨sp, hsp⟩ : ∃ q, q = spanV l := ⟨_, rfl⟩
            have HSC : Hid (∀ w' : World, Calls Try.prog 62 #[.int .i64 l] w' fun e w'' => e = .returned (.int .u64 (sp : Int)) ∧ w' = w'') := Lib.hid (fun w' => by rw [hsp]; exact rspan_any l w')
            have i1 : IntKind.u64.wrap ((ppn : Int) * 4096) = (pm : Int) := by rw [IntKind.wrap_u64]; omega
            have hspk : (l = 0 ∧ sp = 4096) ∨ (l = 1 ∧ sp = 2097152) ∨ (l = 2 ∧ sp = 1073741824) := by
              rcases level_cases HR.out with rfl | rfl | rfl
              · exact .inl ⟨rfl, hsp⟩
              · exact .inr (.inl ⟨rfl, hsp⟩)
              · exact .inr (.inr ⟨rfl, hsp⟩)
            have i2 : IntKind.u64.wrap ((pm : Int).tmod (sp : Int)) = ((pm % sp : Nat) : Int) := by
              rw [← Int.ofNat_tmod, IntKind.wrap_u64]
              have := Nat.mod_le pm sp
              omega
            have i3 : (pm : Int).tmod (sp : Int) = ((pm % sp : Nat) : Int) := by rw [← Int.ofNat_tmod]
            have HLO : Hid ((((pm % sp : Nat) : Int) == 0) = low) := Lib.hid (by
              rw [HLOW.out]
              rcases hspk with ⟨rfl, rfl⟩ | ⟨rfl, rfl⟩ | ⟨rfl, rfl⟩
              · rw [show ((9 : Int) * 0).toNat = 0 from rfl]
                by_cases h : pm % 4096 = 0
                · rw [h, decide_eq_true (by omega)]; rfl
                · rw [decide_eq_false (by omega)]; simpa using fun e => h (by omega)
              · rw [show ((9 : Int) * 1).toNat = 9 from rfl]
                by_cases h : pm % 2097152 = 0
                · rw [h, decide_eq_true (by omega)]; rfl
                · rw [decide_eq_false (by omega)]; simpa using fun e => h (by omega)
              · rw [show ((9 : Int) * 2).toNat = 18 from rfl]
                by_cases h : pm % 1073741824 = 0
                · rw [h, decide_eq_true (by omega)]; rfl
                · rw [decide_eq_false (by omega)]; simpa using fun e => h (by omega))
            have hs0 : ¬ (sp : Int) = 0 := by omega
            have hs2 : ¬ sp = 0 := by omega
            have hs1 : ((sp : Int) == 0) = false := by simpa using hs0
            generalize pm % sp = md at *
            clear hspk hf hpm hsp
            refine wp_region_plan [(0, false), (1, false), (2, false), (3, false), (4, false), (5, false), (6, false), (7, false)] (by kernel_rfl) (by kernel_rfl) (fun _ d _ _ _ h => by cases d <;> exact h) ?_
            iterate 4 (refine plan_take (v := ?_) rfl (by kernel_rfl) ?_ ?_; rotate_left; (focus (intro w' hw'; try go_simp; try with_reducible rfl)); simp only [Act.put, List.setIfInBounds_toArray, List.set_cons_zero, List.set_cons_succ])
            refine plan_quiet rfl (by kernel_rfl) (fun w' => by go_simp; all_goals (first | exact ⟨rfl, rfl⟩ | rfl)) (fun w' hw' => (HSC.out w')) ?_
            simp only [Act.put, List.setIfInBounds_toArray, List.set_cons_zero, List.set_cons_succ]
            iterate 3 (refine plan_take (v := ?_) rfl (by kernel_rfl) ?_ ?_; rotate_left; (focus (intro w' hw'; try go_simp; try with_reducible rfl)); simp only [Act.put, List.setIfInBounds_toArray, List.set_cons_zero, List.set_cons_succ])
            refine plan_end ?_
            clear b9 i1 i2 i3 hs0 hs1
            go_wp2_with fail
            go_ret
            exact ⟨congrArg (fun q => Ending.returned (Value.bool q)) (by rw [HRES.out, HR.out, HLO.out]; simp), E3.out.drew⟩
          | false =>
            go_wp2_with fail
            refine (rlevel_any l _).mono ?_
            rintro e w' ⟨rfl, rfl⟩
            rw [HR.out]
            go_upto_region 4 with fail
            clear HQ' q0 q1 q2 q3 q4 q5 q6 q7 q8 q9 ql b0 b1 b2 b3 b4 b5 b6 b7 b8 b9
            have b9 := fun (W' : World) (h : Ext w3.drew W') => (h.cell (p := ⟨pb, 9, none⟩) bl).trans (B3.out.drew.cell 9)
            simp only [List.getElem?_toArray, List.getElem?_cons_zero, List.getElem?_cons_succ] at b9
            have hf : ppn < 17592186044416 := by first | exact HFIT.out rfl | exact HFIT.out trivial
            obtain ⟨pm, hpm⟩ : ∃ q, q = ppn * 4096 := ⟨_, rfl⟩
            obtain ⟨sp, hsp⟩ : ∃ q, q = spanV l := ⟨_, rfl⟩
            have HSC : Hid (∀ w' : World, Calls Try.prog 62 #[.int .i64 l] w' fun e w'' => e = .returned (.int .u64 (sp : Int)) ∧ w' = w'') := Lib.hid (fun w' => by rw [hsp]; exact rspan_any l w')
            have i1 : IntKind.u64.wrap ((ppn : Int) * 4096) = (pm : Int) := by rw [IntKind.wrap_u64]; omega
            have hspk : (l = 0 ∧ sp = 4096) ∨ (l = 1 ∧ sp = 2097152) ∨ (l = 2 ∧ sp = 1073741824) := by
              rcases level_cases HR.out with rfl | rfl | rfl
              · exact .inl ⟨rfl, hsp⟩
              · exact .inr (.inl ⟨rfl, hsp⟩)
              · exact .inr (.inr ⟨rfl, hsp⟩)
            have i2 : IntKind.u64.wrap ((pm : Int).tmod (sp : Int)) = ((pm % sp : Nat) : Int) := by
              rw [← Int.ofNat_tmod, IntKind.wrap_u64]
              have := Nat.mod_le pm sp
              omega
            have i3 : (pm : Int).tmod (sp : Int) = ((pm % sp : Nat) : Int) := by rw [← Int.ofNat_tmod]
            have HLO : Hid ((((pm % sp : Nat) : Int) == 0) = low) := Lib.hid (by
              rw [HLOW.out]
              rcases hspk with ⟨rfl, rfl⟩ | ⟨rfl, rfl⟩ | ⟨rfl, rfl⟩
              · rw [show ((9 : Int) * 0).toNat = 0 from rfl]
                by_cases h : pm % 4096 = 0
                · rw [h, decide_eq_true (by omega)]; rfl
                · rw [decide_eq_false (by omega)]; simpa using fun e => h (by omega)
              · rw [show ((9 : Int) * 1).toNat = 9 from rfl]
                by_cases h : pm % 2097152 = 0
                · rw [h, decide_eq_true (by omega)]; rfl
                · rw [decide_eq_false (by omega)]; simpa using fun e => h (by omega)
              · rw [show ((9 : Int) * 2).toNat = 18 from rfl]
                by_cases h : pm % 1073741824 = 0
                · rw [h, decide_eq_true (by omega)]; rfl
                · rw [decide_eq_false (by omega)]; simpa using fun e => h (by omega))
            have hs0 : ¬ (sp : Int) = 0 := by omega
            have hs2 : ¬ sp = 0 := by omega
            have hs1 : ((sp : Int) == 0) = false := by simpa using hs0
            generalize pm % sp = md at *
            clear hspk hf hpm hsp
            refine wp_region_plan [(0, false), (1, false), (2, false), (3, false), (4, false), (5, false), (6, false), (7, false)] (by kernel_rfl) (by kernel_rfl) (fun _ d _ _ _ h => by cases d <;> exact h) ?_
            iterate 4 (refine plan_take (v := ?_) rfl (by kernel_rfl) ?_ ?_; rotate_left; (focus (intro w' hw'; try go_simp; try with_reducible rfl)); simp only [Act.put, List.setIfInBounds_toArray, List.set_cons_zero, List.set_cons_succ])
            refine plan_quiet rfl (by kernel_rfl) (fun w' => by go_simp; all_goals (first | exact ⟨rfl, rfl⟩ | rfl)) (fun w' hw' => (HSC.out w')) ?_
            simp only [Act.put, List.setIfInBounds_toArray, List.set_cons_zero, List.set_cons_succ]
            iterate 3 (refine plan_take (v := ?_) rfl (by kernel_rfl) ?_ ?_; rotate_left; (focus (intro w' hw'; try go_simp; try with_reducible rfl)); simp only [Act.put, List.setIfInBounds_toArray, List.set_cons_zero, List.set_cons_succ])
            refine plan_end ?_
            clear b9 i1 i2 i3 hs0 hs1
            go_wp2_with fail
            go_ret
            exact ⟨congrArg (fun q => Ending.returned (Value.bool q)) (by rw [HRES.out, HR.out, HLO.out]; simp), E3.out.drew⟩
        | false =>
          cases w with
          | true =>
            go_wp2_with fail
            refine (rlevel_any l _).mono ?_
            rintro e w' ⟨rfl, rfl⟩
            rw [HR.out]
            go_wp2_with fail
            go_ret
            exact ⟨congrArg (fun q => Ending.returned (Value.bool q)) (by rw [HRES.out, HR.out]; simp), E3.out⟩
          | false =>
            cases x with
            | true =>
              go_wp2_with fail
              refine (rlevel_any l _).mono ?_
              rintro e w' ⟨rfl, rfl⟩
              rw [HR.out]
              go_upto_region 4 with fail
              clear HQ' q0 q1 q2 q3 q4 q5 q6 q7 q8 q9 ql b0 b1 b2 b3 b4 b5 b6 b7 b8 b9
              have b9 := fun (W' : World) (h : Ext w3.drew W') => (h.cell (p := ⟨pb, 9, none⟩) bl).trans (B3.out.drew.cell 9)
              simp only [List.getElem?_toArray, List.getElem?_cons_zero, List.getElem?_cons_succ] at b9
              have hf : ppn < 17592186044416 := by first | exact HFIT.out rfl | exact HFIT.out trivial
              obtain ⟨pm, hpm⟩ : ∃ q, q = ppn * 4096 := ⟨_, rfl⟩
              obtain ⟨sp, hsp⟩ : ∃ q, q = spanV l := ⟨_, rfl⟩
              have HSC : Hid (∀ w' : World, Calls Try.prog 62 #[.int .i64 l] w' fun e w'' => e = .returned (.int .u64 (sp : Int)) ∧ w' = w'') := Lib.hid (fun w' => by rw [hsp]; exact rspan_any l w')
              have i1 : IntKind.u64.wrap ((ppn : Int) * 4096) = (pm : Int) := by rw [IntKind.wrap_u64]; omega
              have hspk : (l = 0 ∧ sp = 4096) ∨ (l = 1 ∧ sp = 2097152) ∨ (l = 2 ∧ sp = 1073741824) := by
                rcases level_cases HR.out with rfl | rfl | rfl
                · exact .inl ⟨rfl, hsp⟩
                · exact .inr (.inl ⟨rfl, hsp⟩)
                · exact .inr (.inr ⟨rfl, hsp⟩)
              have i2 : IntKind.u64.wrap ((pm : Int).tmod (sp : Int)) = ((pm % sp : Nat) : Int) := by
                rw [← Int.ofNat_tmod, IntKind.wrap_u64]
                have := Nat.mod_le pm sp
                omega
              have i3 : (pm : Int).tmod (sp : Int) = ((pm % sp : Nat) : Int) := by rw [← Int.ofNat_tmod]
              have HLO : Hid ((((pm % sp : Nat) : Int) == 0) = low) := Lib.hid (by
                rw [HLOW.out]
                rcases hspk with ⟨rfl, rfl⟩ | ⟨rfl, rfl⟩ | ⟨rfl, rfl⟩
                · rw [show ((9 : Int) * 0).toNat = 0 from rfl]
                  by_cases h : pm % 4096 = 0
                  · rw [h, decide_eq_true (by omega)]; rfl
                  · rw [decide_eq_false (by omega)]; simpa using fun e => h (by omega)
                · rw [show ((9 : Int) * 1).toNat = 9 from rfl]
                  by_cases h : pm % 2097152 = 0
                  · rw [h, decide_eq_true (by omega)]; rfl
                  · rw [decide_eq_false (by omega)]; simpa using fun e => h (by omega)
                · rw [show ((9 : Int) * 2).toNat = 18 from rfl]
                  by_cases h : pm % 1073741824 = 0
                  · rw [h, decide_eq_true (by omega)]; rfl
                  · rw [decide_eq_false (by omega)]; simpa using fun e => h (by omega))
              have hs0 : ¬ (sp : Int) = 0 := by omega
              have hs2 : ¬ sp = 0 := by omega
              have hs1 : ((sp : Int) == 0) = false := by simpa using hs0
              generalize pm % sp = md at *
              clear hspk hf hpm hsp
              refine wp_region_plan [(0, false), (1, false), (2, false), (3, false), (4, false), (5, false), (6, false), (7, false)] (by kernel_rfl) (by kernel_rfl) (fun _ d _ _ _ h => by cases d <;> exact h) ?_
              iterate 4 (refine plan_take (v := ?_) rfl (by kernel_rfl) ?_ ?_; rotate_left; (focus (intro w' hw'; try go_simp; try with_reducible rfl)); simp only [Act.put, List.setIfInBounds_toArray, List.set_cons_zero, List.set_cons_succ])
              refine plan_quiet rfl (by kernel_rfl) (fun w' => by go_simp; all_goals (first | exact ⟨rfl, rfl⟩ | rfl)) (fun w' hw' => (HSC.out w')) ?_
              simp only [Act.put, List.setIfInBounds_toArray, List.set_cons_zero, List.set_cons_succ]
              iterate 3 (refine plan_take (v := ?_) rfl (by kernel_rfl) ?_ ?_; rotate_left; (focus (intro w' hw'; try go_simp; try with_reducible rfl)); simp only [Act.put, List.setIfInBounds_toArray, List.set_cons_zero, List.set_cons_succ])
              refine plan_end ?_
              clear b9 i1 i2 i3 hs0 hs1
              go_wp2_with fail
              go_ret
              exact ⟨congrArg (fun q => Ending.returned (Value.bool q)) (by rw [HRES.out, HR.out, HLO.out]; simp), E3.out.drew⟩
            | false =>
              go_wp2_with fail
              refine (rlevel_any l _).mono ?_
              rintro e w' ⟨rfl, rfl⟩
              rw [HR.out]
              go_wp2_with fail
              go_ret
              exact ⟨congrArg (fun q => Ending.returned (Value.bool q)) (by rw [HRES.out, HR.out]; simp), E3.out⟩
theorem rpcs_any (p : Pte) (l : Int) (W : World) (h : PteWf p) : Calls Try.prog 36 #[.agg p.cs, .int .i64 l] W fun e w' => e = .returned (.bool (mayB p l)) ∧ Below W.heap.size W w' := by
  obtain ⟨h1, h2⟩ := u64_of_wf h.2
  have hk := rmay_any p.v p.r p.w p.x p.u p.g p.a p.d p.rsw p.ppn.toNat l W h.1 (by omega)
  rw [show ((p.ppn.toNat : Nat) : Int) = p.ppn by omega] at hk
  exact hk
/-- The reference's tables, new. -/
def rnewE (c : TC) : Int := rtakeE c ⟨[], [], 0⟩
theorem rnew_yes (c : TC) (W : World) (hs : Small c ⟨[], [], 0⟩) (hE : rnewE c = 0) :
    Calls Try.prog 14 #[.int .i64 (c.first : Int), .int .i64 (c.N : Int), .int .i64 (c.n : Int)] W fun e w' => e = .returned (.tuple #[.pointer (some ⟨W.heap.size, 0, none⟩), .int .i64 0]) ∧ Below W.heap.size W w' ∧ ∃ F, XAt w' W.heap.size c ⟨[], [], 1⟩ F ∧ ∀ b, F b → W.heap.size ≤ b := by
  have hb : Below W.heap.size W (W.alloc (.cells #[.slice none 0 0, .slice none 0 0, .int .i64 (c.first : Int), .int .i64 (c.N : Int), .int .i64 (c.n : Int), .int .i64 0] 65)) := (Below.refl _ W).alloc (Nat.le_refl _) _
  have HX : Hid (XAt (W.alloc (.cells #[.slice none 0 0, .slice none 0 0, .int .i64 (c.first : Int), .int .i64 (c.N : Int), .int .i64 (c.n : Int), .int .i64 0] 65)) W.heap.size c ⟨[], [], 0⟩ (fun b => b = W.heap.size)) := Lib.hid ⟨⟨.slice none 0 0, .slice none 0 0, Blkf.new_at _ _ _ _ rfl, World.ownsRow_nil _ _ _ _, World.ownsRow_nil _ _ _ _, fun k hk => by simp [Value.ownBlock] at hk, fun k hk => by simp [Value.ownBlock] at hk⟩, rfl, fun k hk => by subst hk; simp⟩
  have HB := Lib.hid hb
  have HSM := Lib.hid hs
  have HNE := Lib.hid hE
  clear hb hs
  go_enter Try.func14, Try.ntmps14
  go_wp2_with fail
  generalize (W.alloc (.cells #[.slice none 0 0, .slice none 0 0, .int .i64 (c.first : Int), .int .i64 (c.N : Int), .int .i64 (c.n : Int), .int .i64 0] 65)) = w0 at *
  refine (rtake_any W.heap.size c ⟨[], [], 0⟩ _ _ HX.out HSM.out).mono ?_
  rintro e w1 ⟨rfl, F, hx, hF, hk⟩
  have HX1 := Lib.hid hx
  have HF := Lib.hid hF
  have HB1 : Hid (Below W.heap.size W w1) := Lib.hid (HB.out.trans (hk.below (fun i e => by rw [e]; exact Nat.le_refl _) HB.out.size))
  have HSZ : Hid (W.heap.size ≤ w0.heap.size) := Lib.hid HB.out.size
  clear hx hF hk
  have HXE : Hid (rtakeX c ⟨[], [], 0⟩ = ⟨[], [], 1⟩) := Lib.hid (by
    have hE := HNE.out
    unfold rnewE rtakeE at hE
    unfold rtakeX
    split at hE
    · cases hE
    · rename_i h1
      rw [if_neg h1]
      split at hE
      · cases hE
      · rename_i h2
        rw [if_neg h2])
  rw [HXE.out] at HX1
  have HE2 : Hid (rtakeE c ⟨[], [], 0⟩ = 0) := Lib.hid hE
  rw [HE2.out]
  clear hE
  go_wp2_with fail
  go_ret2
  refine ⟨rfl, HB1.out, F, HX1.out, fun b hb => ?_⟩
  rcases HF.out b hb with h | h
  · rw [h]; exact Nat.le_refl _
  · exact Nat.le_trans HSZ.out h
theorem rnew_no (c : TC) (W : World) (hs : Small c ⟨[], [], 0⟩) (hE : rnewE c ≠ 0) :
    Calls Try.prog 14 #[.int .i64 (c.first : Int), .int .i64 (c.N : Int), .int .i64 (c.n : Int)] W fun e w' => e = .returned (.tuple #[.pointer none, .int .i64 (rnewE c)]) ∧ Below W.heap.size W w' := by
  have hb : Below W.heap.size W (W.alloc (.cells #[.slice none 0 0, .slice none 0 0, .int .i64 (c.first : Int), .int .i64 (c.N : Int), .int .i64 (c.n : Int), .int .i64 0] 65)) := (Below.refl _ W).alloc (Nat.le_refl _) _
  have HX : Hid (XAt (W.alloc (.cells #[.slice none 0 0, .slice none 0 0, .int .i64 (c.first : Int), .int .i64 (c.N : Int), .int .i64 (c.n : Int), .int .i64 0] 65)) W.heap.size c ⟨[], [], 0⟩ (fun b => b = W.heap.size)) := Lib.hid ⟨⟨.slice none 0 0, .slice none 0 0, Blkf.new_at _ _ _ _ rfl, World.ownsRow_nil _ _ _ _, World.ownsRow_nil _ _ _ _, fun k hk => by simp [Value.ownBlock] at hk, fun k hk => by simp [Value.ownBlock] at hk⟩, rfl, fun k hk => by subst hk; simp⟩
  have HB := Lib.hid hb
  have HSM := Lib.hid hs
  have HNE := Lib.hid hE
  clear hb hs
  have HE2 : Hid (rtakeE c ⟨[], [], 0⟩ = rnewE c) := Lib.hid rfl
  have b1 : (rnewE c != 0) = true := by simpa using hE
  have b0 : (rnewE c == 0) = false := by simpa using hE
  generalize rnewE c = E at *
  clear hE
  go_enter Try.func14, Try.ntmps14
  go_wp2_with fail
  generalize (W.alloc (.cells #[.slice none 0 0, .slice none 0 0, .int .i64 (c.first : Int), .int .i64 (c.N : Int), .int .i64 (c.n : Int), .int .i64 0] 65)) = w0 at *
  refine (rtake_any W.heap.size c ⟨[], [], 0⟩ _ _ HX.out HSM.out).mono ?_
  rintro e w1 ⟨rfl, F, hx, hF, hk⟩
  have HX1 := Lib.hid hx
  have HF := Lib.hid hF
  have HB1 : Hid (Below W.heap.size W w1) := Lib.hid (HB.out.trans (hk.below (fun i e => by rw [e]; exact Nat.le_refl _) HB.out.size))
  have HSZ : Hid (W.heap.size ≤ w0.heap.size) := Lib.hid HB.out.size
  clear hx hF hk
  rw [HE2.out]
  go_wp2_with fail
  go_ret2
  exact ⟨rfl, HB1.out⟩
end Go.Proofs.Ytbgagmpinekhpaa
