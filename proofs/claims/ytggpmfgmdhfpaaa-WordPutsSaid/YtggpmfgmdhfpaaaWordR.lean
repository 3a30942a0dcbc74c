/- The walk of the law WordPuts. -/
import Derived.Test.YtggpmfgmdhfpaaaWordO
import Derived.Test.YtggpmfgmdhfpaaaReads
namespace Go.Proofs.Ytggpmfgmdhfpaaa
open Go.RowKit Go.ChangeShapes

theorem reads_bts {w : World} {A : Option Addr} {l : List Nat} (h : Bts w A l) : Reads w w.heap.size 1 A l.length (l.map bv) := by
  refine ⟨by simp, fun hl => ?_⟩
  obtain ⟨b, o, rfl, hc⟩ := h.2 hl
  refine ⟨_, rfl, cell_lt (hc 0 hl), fun j u hu => ?_⟩
  have hj : j < l.length := by
    rcases Nat.lt_or_ge j l.length with h1 | h1
    · exact h1
    · rw [List.getElem?_eq_none (by simpa using h1)] at hu; cases hu
  have e : (⟨b, o, none⟩ : Addr).add j = ⟨b, o + j, none⟩ := by unfold Addr.add; split <;> simp_all
  rw [e, hc j hj]
  rw [List.getElem?_map, List.getElem?_eq_getElem hj] at hu
  simp at hu
  rw [← hu, List.getD_eq_getElem?_getD, List.getElem?_eq_getElem hj]
  rfl
theorem own_frozen {w : World} {base n : Nat} {e : TypeId} {v : Value} {xs : List Value} (h : w.ownsRow base e 1 v n xs) {A : Addr} {m c : Nat} (hv : v = .slice (some A) m c) (i : Nat) : w.frozen? ⟨A.block, i, none⟩ = false := by
  rcases h.2 with ⟨rfl, _⟩ | ⟨g, cap, cur, rfl, _, hh, _⟩
  · cases hv
  · injection hv with h1 _ _
    injection h1 with h1
    subst h1
    simp [World.frozen?, hh]
theorem one_bv (l : List Nat) : ∀ u ∈ l.map bv, u.oneCell' = true := by
  intro u hu
  obtain ⟨x, _, rfl⟩ := List.mem_map.1 hu
  rfl
/-- What is laid. -/
def laidL (l : List Nat) (p : Nat) (bs : List Nat) : List Nat := l.take p ++ (bs ++ l.drop (p + bs.length))
theorem laidL_length (l : List Nat) (p : Nat) (bs : List Nat) (h : p + bs.length ≤ l.length) : (laidL l p bs).length = l.length := by
  simp [laidL]; omega
theorem laidL_get (l : List Nat) (p : Nat) (bs : List Nat) (h : p + bs.length ≤ l.length) (i : Nat) :
    (laidL l p bs).getD i 0 = if i < p then l.getD i 0 else if i < p + bs.length then bs.getD (i - p) 0 else l.getD i 0 := by
  unfold laidL
  simp only [List.getD_eq_getElem?_getD]
  by_cases h1 : i < p
  · rw [if_pos h1, List.getElem?_append_left (by simp; omega), List.getElem?_take, if_pos h1]
  · rw [if_neg h1, List.getElem?_append_right (by simp; omega), List.length_take, Nat.min_eq_left (by omega)]
    by_cases h2 : i < p + bs.length
    · rw [if_pos h2, List.getElem?_append_left (by omega)]
    · rw [if_neg h2, List.getElem?_append_right (by omega), List.getElem?_drop, show p + bs.length + (i - p - bs.length) = i by omega]
theorem puts_bts {w w' : World} {b o p v q : Nat} {l : List Nat} (hP : Puts w w' b (o + p) v q) (hB : Bts w (some ⟨b, o, none⟩) l) (hq : sizeB q = true) (h : p + q ≤ l.length) : Bts w' (some ⟨b, o, none⟩) (laidL l p (bytesOf v q)) := by
  have hl := bytesOf_length v q hq
  have hL := laidL_get l p (bytesOf v q) (by omega)
  refine ⟨fun i => ?_, fun h0 => ⟨b, o, rfl, fun i hi => ?_⟩⟩
  · rw [hL]
    split
    · exact hB.1 i
    · split
      · exact bytesOf_lt v q _
      · exact hB.1 i
  · rw [laidL_length l p _ (by omega)] at hi
    have hc : w.cell? ⟨b, o + i, none⟩ = some (.int .u8 ((l.getD i 0 : Nat) : Int)) := by
      obtain ⟨b', o', e, hc⟩ := hB.2 (by omega)
      injection e with e
      injection e with e1 e2
      subst e1 e2
      exact hc i hi
    rw [hL]
    by_cases h1 : i < p
    · rw [if_pos h1, hP.old ⟨b, o + i, none⟩ (.inr (.inl (by show o + i < o + p; omega)))]; exact hc
    · rw [if_neg h1]
      by_cases h2 : i < p + q
      · rw [if_pos (by omega), bytesOf_get v q _ hq (by omega)]
        have := hP.new (i - p) (by omega)
        rw [show o + p + (i - p) = o + i by omega] at this
        exact this
      · rw [if_neg (by omega), hP.old ⟨b, o + i, none⟩ (.inr (.inr (by show o + p + q ≤ o + i; omega)))]; exact hc
theorem bts_puts_far {w w' : World} {b k v q : Nat} {A : Option Addr} {l : List Nat} (hP : Puts w w' b k v q) (hB : Bts w A l) (hne : ∀ a, A = some a → a.block ≠ b) : Bts w' A l := by
  refine ⟨hB.1, fun h => ?_⟩
  obtain ⟨b', o', e, hc⟩ := hB.2 h
  exact ⟨b', o', e, fun i hi => by rw [hP.old ⟨b', o' + i, none⟩ (.inl (show b' ≠ b from hne ⟨b', o', none⟩ e))]; exact hc i hi⟩
theorem strB_append (a b : List Nat) : strB a ++ strB b = strB (a ++ b) := by
  apply ByteArray.ext
  simp [strB]
theorem strB_size (a : List Nat) : (strB a).size = a.length := by simp [strB, ByteArray.size]
theorem bts_cut {w : World} {A : Option Addr} {l : List Nat} {k c : Nat} (h : Bts w A l) (hk : k ≤ l.length) (hc : l.length ≤ c) : Bts w (if c = k then A else A.map (·.add (k * 1))) (l.drop k) := by
  refine ⟨fun i => getD_drop_lt l k h.1 i, fun hl => ?_⟩
  have hk2 : k < l.length := by simp at hl; omega
  obtain ⟨b, o, rfl, hcell⟩ := h.2 (by omega)
  rw [if_neg (by omega)]
  refine ⟨b, o + k, by simp [Addr.add], fun i hi => ?_⟩
  rw [getD_drop, show o + k + i = o + (k + i) by omega]
  exact hcell _ (by simp at hi; omega)
theorem bts_take {w : World} {A : Option Addr} {l : List Nat} {k : Nat} (h : Bts w A l) : Bts w A (l.take k) := by
  refine ⟨fun i => getD_take_lt l k i h.1, fun hl => ?_⟩
  obtain ⟨b, o, rfl, hcell⟩ := h.2 (by simp at hl; omega)
  refine ⟨b, o, rfl, fun i hi => ?_⟩
  rw [List.length_take] at hi
  rw [List.getD_eq_getElem?_getD, List.getElem?_take, if_pos (by omega), ← List.getD_eq_getElem?_getD]
  exact hcell i (by omega)
namespace Law
theorem WordPuts_any (A : Option Addr) (l : List Nat) (c : Nat) (a s : Int) (v : Nat) (w : World) (hB : Bts w A l) (hc : l.length ≤ c) (hn : l.length ≤ 140737488355328) (hv : v < 18446744073709551616) :
    Calls Try.prog 4 #[.slice A l.length c, .agg #[.int .i64 a, .int .i64 s], .int .u64 v] w fun e w' => e = .returned (.bool true) ∧ Below w.heap.size w w' := by
  have HB := Lib.hid hB
  have HV := Lib.hid hv
  clear hB hv
  obtain ⟨i0, hi0, hz0, hz1, hz2⟩ := info_parts info5
  go_enter Try.func4, Try.ntmps4
  go_wp2_with fail
  refine (first_ok _).mono ?_
  rintro e w1 ⟨rfl, hb1⟩
  have HB1 := Lib.hid hb1
  clear hb1
  go_wp2_with fail
  have hx : ∀ (i : Nat) (x : Value), (w.alloc (.cells #[.int .i64 a, .int .i64 s] 29)).cell? ⟨w.heap.size, i, none⟩ = some x → ∀ W, Ext w1.drew W → W.cell? ⟨w.heap.size, i, none⟩ = some x := fun i x h W hW => by
    have h2 := HB1.out.cell (p := ⟨w.heap.size, i, none⟩) (by simp)
    rw [hW.cell (p := ⟨w.heap.size, i, none⟩) (Nat.lt_of_lt_of_le (by simp) HB1.out.size)]
    exact h2.trans h
  have hx0 : ∀ W, Ext w1.drew W → W.cell? ⟨w.heap.size, 0, none⟩ = some (.int .i64 a) := hx 0 _ (by simp)
  have hx1 : ∀ W, Ext w1.drew W → W.cell? ⟨w.heap.size, 1, none⟩ = some (.int .i64 s) := hx 1 _ (by simp)
  clear hx
  refine wp_region_plan [(0, false), (1, false), (2, false), (3, false), (4, false), (5, false)] (by kernel_rfl) (by kernel_rfl) (fun _ d _ _ _ h => by cases d <;> exact h) ?_
  iterate 6 (refine plan_take (v := ?_) rfl (by kernel_rfl) ?_ ?_; rotate_left; (focus (intro w' hw'; go_simp; try with_reducible rfl)); simp only [Act.put, List.setIfInBounds_toArray, List.set_cons_zero, List.set_cons_succ])
  refine plan_end ?_
  clear hx0 hx1
  have hb1 : Below w.heap.size w w1 := ((Below.refl _ w).alloc (Nat.le_refl _) _).trans (HB1.out.mono (by simp))
  have HBW := Lib.hid hb1
  clear hb1
  go_wp2_with (at_builtin; refine wpList_append_any _ rfl (.tmp 18) (.tmp 19) _ rfl w1.heap.size 5 i0 _ 1 1 Try.underlying22 hi0 hz0 hz1 hz2 rfl (by decide) _ 0 [] rfl (World.ownsRow_made w1.drew #[] 0 (Nat.le_refl _) (by unfold maxLen; omega) rfl) w1.heap.size A l.length c (l.map bv) rfl (((reads_bts (bts_below HB.out HBW.out)).drew).alloc (Nat.le_refl _) _) (one_bv l) (by unfold maxLen; omega) (by omega) (by simp) ?_; intro v2 w2 hown hgrow hat; have HO := Lib.hid hown; have HG := Lib.hid hgrow; clear hown hgrow hat)
  have hbw2 : Below w.heap.size w w2 := ((HBW.out.drew).alloc (by simpa using HBW.out.size) _).grown HG.out (by have := HBW.out.size; simp; omega) (by intro k hk; have := HBW.out.size; injection hk with hk; simp at hk; omega)
  have HBW2 := Lib.hid hbw2
  have ho2 := HO.out
  rw [List.nil_append, Nat.zero_add] at ho2
  obtain ⟨A2, c2, rfl, hB2, hA2⟩ := bts_own ho2 HB.out.1 rfl
  have HO2 := Lib.hid ho2
  have HB2 := Lib.hid hB2
  have hB3 := bts_below HB.out hbw2
  have HB3 := Lib.hid hB3
  clear hbw2 ho2 hB2 hA2 hB3
  rcases Bool.eq_false_or_eq_true (thereB l.length a s) with ht | ht
  · have HT := Lib.hid ht
    obtain ⟨h1, h2, h3, h4⟩ := there_of ht
    clear ht
    obtain ⟨p, rfl⟩ := Int.eq_ofNat_of_zero_le h2
    obtain ⟨q, rfl⟩ := Int.eq_ofNat_of_zero_le (show 0 ≤ s by have := size_cases h1; omega)
    have hq1 : 1 ≤ q := by have := size_cases h1; omega
    have hpq : p + q ≤ l.length := by omega
    have H1 := Lib.hid h1
    have HL := Lib.hid (bytesOf_length v q h1)
    clear h1 h2 h3 h4
    refine (rget_yes A l c p q w2 (by omega) HB3.out HT.out).mono ?_
    rintro e w3 ⟨rfl, hb3⟩
    have HBW3 := Lib.hid hb3
    clear hb3
    go_wp2_with fail
    obtain ⟨g, o, rfl, hcell⟩ := (bts_below HB2.out HBW3.out).2 (by omega)
    have HC := Lib.hid hcell
    clear hcell
    refine (put_yes g o l.length c2 p q v w3 HV.out (by omega) (fun i hi => ⟨_, HC.out i hi⟩) (fun i _ => own_frozen (own_below HO2.out HBW3.out) (A := ⟨g, o, none⟩) rfl _) HT.out).mono ?_
    rintro e w4 ⟨rfl, hP⟩
    have HP := Lib.hid hP
    clear hP
    go_wp2_with fail
    have hgb : w1.heap.size ≤ g := (HO2.out.lt g rfl).1
    have hB4 : Bts w4 A l := bts_puts_far HP.out (bts_below HB3.out HBW3.out) (fun x hx => by
      obtain ⟨b', o', e, hc'⟩ := HB.out.2 (by omega)
      rw [hx] at e
      injection e with e
      have := cell_lt (hc' 0 (by omega))
      have := HBW.out.size
      rw [e]
      simp at *
      omega)
    have hO4 : Bts w4 (some ⟨g, o, none⟩) (laidL l p (bytesOf v q)) := puts_bts HP.out (bts_below HB2.out HBW3.out) H1.out hpq
    have hcvA : ∀ W, Ext w4.drew W → (convert 22 9 (.slice (some ⟨g, o, none⟩) l.length c2)).run Try.prog W = .ok (.string (strB (laidL l p (bytesOf v q)))) W := fun W hW => conv_bts (bts_below (w := w4.drew) hO4 hW) (laidL_length _ _ _ (by rw [HL.out]; exact hpq))
    refine wp_region_plan [(0, false), (1, false), (2, false), (3, false), (4, false), (5, false), (6, false), (7, false), (11, false), (12, false), (13, false), (14, false), (15, false), (16, false), (8, true), (9, false), (10, false), (17, false), (18, false), (19, false)] (by kernel_rfl) (by kernel_rfl) (fun _ d _ _ _ h => by cases d <;> exact h) ?_
    have hpc : p ≤ c := by omega
    have hcvB : ∀ W, Ext w4.drew W → (convert 22 9 (.slice A p c)).run Try.prog W = .ok (.string (strB (l.take p))) W := fun W hW => conv_bts (bts_below (w := w4.drew) (bts_take hB4) hW) (by simp; omega)
    have e1 : IntKind.i64.wrap ((p : Int) + (q : Int)) = (p : Int) + (q : Int) := IntWalk.i64_in _ (by omega)
    have e2 : ((p : Int) + (q : Int)).toNat = p + q := by omega
    have e3 : 0 ≤ (p : Int) + (q : Int) := by omega
    have e4 : (p : Int) + (q : Int) ≤ (l.length : Int) := by omega
    have hcvC : ∀ W, Ext w4.drew W → (convert 22 9 (.slice (if c = p + q then A else Option.map (fun x => x.add (p + q)) A) (l.length - (p + q)) (c - (p + q)))).run Try.prog W = .ok (.string (strB (l.drop (p + q)))) W := fun W hW => by
      have := conv_bts (c := c - (p + q)) (bts_below (w := w4.drew) (bts_cut (k := p + q) (c := c) hB4 hpq hc) hW) (n := l.length - (p + q)) (by simp)
      rw [Nat.mul_one] at this
      exact this
    iterate 14 (refine plan_take (v := ?_) rfl (by kernel_rfl) ?_ ?_; rotate_left; (focus (intro w' hw'; go_simp; try with_reducible rfl)); simp only [Act.put, List.setIfInBounds_toArray, List.set_cons_zero, List.set_cons_succ])
    refine plan_call rfl (by kernel_rfl) (by go_simp; exact ⟨rfl, rfl⟩) ?_
    refine (rbytes_yes v q _ HV.out H1.out).mono ?_
    rintro e w5 ⟨bb, rfl, hown5, hb5⟩
    obtain ⟨A5, c5, rfl, hB5, hA5⟩ := bts_own hown5 (bytesOf_lt v q) rfl
    refine ⟨_, rfl, hb5, ?_⟩
    simp only [Act.put, List.setIfInBounds_toArray, List.set_cons_zero, List.set_cons_succ]
    have hcvD : ∀ W, Ext w5 W → (convert 22 9 (.slice A5 (bytesOf v q).length c5)).run Try.prog W = .ok (.string (strB (bytesOf v q))) W := fun W hW => conv_bts (bts_below hB5 hW) rfl
    have e5 : ¬ (9223372036854775807 < (strB (l.take p)).size + (strB (bytesOf v q)).size) := by rw [strB_size, strB_size, HL.out, List.length_take]; omega
    have e6 : strB (l.take p) ++ strB (bytesOf v q) = strB (l.take p ++ bytesOf v q) := strB_append _ _
    have e7 : ¬ (9223372036854775807 < (strB (l.take p ++ bytesOf v q)).size + (strB (l.drop (p + q))).size) := by rw [strB_size, strB_size, List.length_append, HL.out, List.length_take, List.length_drop]; omega
    have e8 : strB (l.take p ++ bytesOf v q) ++ strB (l.drop (p + q)) = strB (laidL l p (bytesOf v q)) := by rw [strB_append, laidL, HL.out, List.append_assoc]
    iterate 5 (refine plan_take (v := ?_) rfl (by kernel_rfl) ?_ ?_; rotate_left; (focus (intro w' hw'; go_simp; try with_reducible rfl)); simp only [Act.put, List.setIfInBounds_toArray, List.set_cons_zero, List.set_cons_succ])
    refine plan_end ?_
    have HBF := Lib.hid (((HBW2.out.trans (HBW3.out.mono HBW2.out.size)).grown HP.out.grown (Nat.le_trans HBW2.out.size HBW3.out.size) (by intro k hk; injection hk with hk; have := HBW.out.size; omega)).drew.trans (hb5.mono (by have h1 := HBW2.out.size; have h2 := HBW3.out.size; have h3 := HP.out.size; simp; omega)))
    clear hcvA hcvB hcvC hcvD e1 e2 e3 e4 e5 e6 e7 e8 hB4 hO4 hB5 hA5 hown5 hb5
    go_wp2
    all_goals (go_ret; exact ⟨rfl, HBF.out⟩)
  · have HT := Lib.hid ht
    clear ht
    refine (rget_no _ _ _ _ _ _ (by omega) HT.out).mono ?_
    rintro e w3 ⟨rfl, hb3⟩
    have HBW3 := Lib.hid hb3
    clear hb3
    go_wp2_with fail
    refine (put_no _ _ _ _ _ _ _ (by omega) HT.out).mono ?_
    rintro e w' ⟨rfl, rfl⟩
    have hcv1 := conv_bts (c := c2) (bts_below HB2.out HBW3.out) rfl
    have hcv2 := conv_bts (c := c) (bts_below HB3.out HBW3.out) rfl
    go_wp2
    go_ret
    exact ⟨by first | rfl | simp, HBW2.out.trans (HBW3.out.mono HBW2.out.size)⟩

theorem WordPuts (a0 : Option Addr) (len0 cap0 : Nat) (z0 : List Int) (a1 a2 : Int) (a3 : Int) (w : World) (w0 : IsRow .u8 w a0 len0 cap0 z0) (hr : 1 * cap0 ≤ 140737488351232) (_w1 : (Lit.int .i64 a1).wf = true) (_w2 : (Lit.int .i64 a2).wf = true) (w3 : (Lit.int .u64 a3).wf = true) :
    Calls Try.prog 4 #[.slice a0 len0 cap0, .agg #[.int .i64 a1, .int .i64 a2], .int .u64 a3] w fun e w' => e = .returned (.bool true) ∧ Below w.heap.size w w' := by
  obtain ⟨v0, v1⟩ := u64_of_wf w3
  obtain ⟨v, rfl⟩ := Int.eq_ofNat_of_zero_le v0
  have hc : len0 ≤ cap0 := by
    rcases w0 with ⟨rfl, rfl, rfl, rfl⟩ | ⟨x, rfl, hl, _⟩
    · exact Nat.le_refl _
    · exact hl
  obtain ⟨l, rfl, hB, hn⟩ := bts_of_row w0
  exact WordPuts_any a0 l cap0 a1 a2 v w hB hc (by omega) (by omega)
end Law
end Go.Proofs.Ytggpmfgmdhfpaaa
