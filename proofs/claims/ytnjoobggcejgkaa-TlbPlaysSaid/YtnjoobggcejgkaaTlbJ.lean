/- List, Len. -/
import Derived.Test.YtnjoobggcejgkaaTlbI
namespace Go.Proofs.Ytnjoobggcejgkaa
open Go.RowKit

structure Sl where
  (set way asid : Int)
  (page : Nat)
  (lf : Lf)
def Sl.vs (x : Sl) : List Value := [.int .i64 x.set, .int .i64 x.way, .int .i64 x.asid, .int .u64 x.page, .bool x.lf.v, .bool x.lf.r, .bool x.lf.w, .bool x.lf.x, .bool x.lf.u, .bool x.lf.g, .bool x.lf.a, .bool x.lf.d, .int .i64 x.lf.rsw, .int .u64 x.lf.ppn, .int .i64 x.lf.lev, .int .u64 x.lf.pos]
def slC : List Sl → List Value
  | [] => []
  | x :: r => x.vs ++ slC r
theorem slC_append (a b : List Sl) : slC (a ++ b) = slC a ++ slC b := by
  induction a with
  | nil => rfl
  | cons x r ih =>
    show x.vs ++ slC (r ++ b) = x.vs ++ slC r ++ slC b
    rw [ih, List.append_assoc]
theorem slC_length : ∀ l : List Sl, (slC l).length = l.length * 16
  | [] => rfl
  | x :: r => by
    show (x.vs ++ slC r).length = _
    rw [List.length_append, slC_length r, List.length_cons]
    show 16 + _ = _
    omega
theorem slC_get : ∀ (l : List Sl) (k j : Nat) (x : Sl), l[k]? = some x → j < 16 → (slC l)[k * 16 + j]? = x.vs[j]?
  | [], k, j, e, h, _ => by simp at h
  | x :: r, 0, j, e, h, hj => by
    simp at h
    subst h
    show (x.vs ++ slC r)[0 * 16 + j]? = _
    rw [Nat.zero_mul, Nat.zero_add, List.getElem?_append_left (show j < 16 from hj)]
  | x :: r, k + 1, j, e, h, hj => by
    show (x.vs ++ slC r)[(k + 1) * 16 + j]? = _
    rw [List.getElem?_append_right (show 16 ≤ (k + 1) * 16 + j by omega)]
    show (slC r)[(k + 1) * 16 + j - 16]? = _
    rw [show (k + 1) * 16 + j - 16 = k * 16 + j by omega]
    exact slC_get r k j e (by simpa using h) hj
theorem row_form {w : World} {base s n : Nat} {e : TypeId} {v : Value} {xs : List Value} (h : w.ownsRow base e s v n xs) : ∃ A c, v = .slice A n c := by
  rcases h.2 with ⟨rfl, rfl⟩ | ⟨g, cap, _, rfl, _⟩
  · exact ⟨_, _, rfl⟩
  · exact ⟨_, _, rfl⟩
theorem info_sl : (Try.prog.info? 64).map (fun i => (i.zero, i.size, i.bytes)) = some (some (.agg #[.int .i64 0, .int .i64 0, .int .i64 0, .int .u64 0, .bool false, .bool false, .bool false, .bool false, .bool false, .bool false, .bool false, .bool false, .int .i64 0, .int .u64 0, .int .i64 0, .int .u64 0]), 16, 72) := by kernel_rfl
theorem one_sl (x : Sl) : ∀ u ∈ x.vs, u.oneCell' = true := by
  intro u hu
  simp [Sl.vs] at hu
  rcases hu with rfl | rfl | rfl | rfl | rfl | rfl | rfl | rfl | rfl | rfl | rfl | rfl | rfl | rfl | rfl | rfl <;> rfl
theorem reads_sl (w : World) (t : TypeId) (x : Sl) : Reads (w.alloc (.cells #[.int .i64 x.set, .int .i64 x.way, .int .i64 x.asid, .int .u64 x.page, .bool x.lf.v, .bool x.lf.r, .bool x.lf.w, .bool x.lf.x, .bool x.lf.u, .bool x.lf.g, .bool x.lf.a, .bool x.lf.d, .int .i64 x.lf.rsw, .int .u64 x.lf.ppn, .int .i64 x.lf.lev, .int .u64 x.lf.pos] t)) (w.heap.size + 1) 16 (some ⟨w.heap.size, 0, none⟩) 1 x.vs :=
  ⟨rfl, fun _ => ⟨_, rfl, Nat.lt_succ_self _, fun j v hj => by
    have hb := Blkf.new_at w t (0, 0) #[.int .i64 x.set, .int .i64 x.way, .int .i64 x.asid, .int .u64 x.page, .bool x.lf.v, .bool x.lf.r, .bool x.lf.w, .bool x.lf.x, .bool x.lf.u, .bool x.lf.g, .bool x.lf.a, .bool x.lf.d, .int .i64 x.lf.rsw, .int .u64 x.lf.ppn, .int .i64 x.lf.lev, .int .u64 x.lf.pos] rfl
    match j, hj with
    | 0, hj => exact (hb.cell 0).trans hj
    | 1, hj => exact (hb.cell 1).trans hj
    | 2, hj => exact (hb.cell 2).trans hj
    | 3, hj => exact (hb.cell 3).trans hj
    | 4, hj => exact (hb.cell 4).trans hj
    | 5, hj => exact (hb.cell 5).trans hj
    | 6, hj => exact (hb.cell 6).trans hj
    | 7, hj => exact (hb.cell 7).trans hj
    | 8, hj => exact (hb.cell 8).trans hj
    | 9, hj => exact (hb.cell 9).trans hj
    | 10, hj => exact (hb.cell 10).trans hj
    | 11, hj => exact (hb.cell 11).trans hj
    | 12, hj => exact (hb.cell 12).trans hj
    | 13, hj => exact (hb.cell 13).trans hj
    | 14, hj => exact (hb.cell 14).trans hj
    | 15, hj => exact (hb.cell 15).trans hj
    | j + 16, hj => exact absurd hj (by simp [Sl.vs])⟩⟩
theorem reads_sl_at (w : World) (t : TypeId) (x : Sl) (n : Nat) (hn : n = w.heap.size) : Reads (w.alloc (.cells #[.int .i64 x.set, .int .i64 x.way, .int .i64 x.asid, .int .u64 x.page, .bool x.lf.v, .bool x.lf.r, .bool x.lf.w, .bool x.lf.x, .bool x.lf.u, .bool x.lf.g, .bool x.lf.a, .bool x.lf.d, .int .i64 x.lf.rsw, .int .u64 x.lf.ppn, .int .i64 x.lf.lev, .int .u64 x.lf.pos] t)) (n + 1) 16 (some ⟨n, 0, none⟩) 1 x.vs := by subst hn; exact reads_sl w t x
/-- The listing of a set's ways from number k on. -/
def listW (i k : Nat) : List En → List Sl
  | [] => []
  | e :: r => (if e.full then [⟨i, k, e.asid, e.page, e.lf⟩] else []) ++ listW i (k + 1) r
def listT (i : Nat) : List (List En) → List Sl
  | [] => []
  | s :: r => listW i 0 s ++ listT (i + 1) r
theorem listW_snoc (i : Nat) (e : En) : ∀ (l : List En) (k : Nat), listW i k (l ++ [e]) = listW i k l ++ (if e.full then [⟨i, (k + l.length : Nat), e.asid, e.page, e.lf⟩] else [])
  | [], k => by simp [listW]
  | x :: r, k => by
    show (if x.full then [(⟨i, k, x.asid, x.page, x.lf⟩ : Sl)] else []) ++ listW i (k + 1) (r ++ [e]) = (if x.full then [(⟨i, k, x.asid, x.page, x.lf⟩ : Sl)] else []) ++ listW i (k + 1) r ++ _
    rw [listW_snoc i e r (k + 1), List.append_assoc, List.length_cons, show k + 1 + r.length = k + (r.length + 1) by omega]
theorem listT_snoc (s : List En) : ∀ (T : List (List En)) (i : Nat), listT i (T ++ [s]) = listT i T ++ listW (i + T.length) 0 s
  | [], i => by simp [listT]
  | x :: r, i => by
    show listW i 0 x ++ listT (i + 1) (r ++ [s]) = listW i 0 x ++ listT (i + 1) r ++ _
    rw [listT_snoc s r (i + 1), List.append_assoc, List.length_cons, show i + 1 + r.length = i + (r.length + 1) by omega]
theorem listW_le (i : Nat) : ∀ (l : List En) (k : Nat), (listW i k l).length ≤ l.length
  | [], k => Nat.le_refl _
  | e :: r, k => by
    show ((if e.full then [(⟨i, k, e.asid, e.page, e.lf⟩ : Sl)] else []) ++ listW i (k + 1) r).length ≤ _
    have := listW_le i r (k + 1)
    rw [List.length_append, List.length_cons]
    split <;> simp <;> omega
theorem listT_le (m : Nat) : ∀ (T : List (List En)) (i : Nat), (∀ s ∈ T, s.length = m) → (listT i T).length ≤ T.length * m
  | [], i, _ => Nat.zero_le _
  | s :: r, i, h => by
    show (listW i 0 s ++ listT (i + 1) r).length ≤ _
    have h1 := listW_le i s 0
    have h2 := listT_le m r (i + 1) (fun x hx => h x (by simp [hx]))
    have h3 := h s (by simp)
    rw [List.length_append, List.length_cons, Nat.succ_mul]
    omega
def LiR (W : World) (T : List (List En)) (v : Value) (L : List Sl) (wr : World) : Prop := wr.ownsRow W.heap.size 64 16 v L.length (slC L) ∧ Below W.heap.size W wr
set_option maxHeartbeats 4000000 in
theorem list_any (g gs : Nat) (G : Nat → Nat) (T : List (List En)) (m : Nat) (W : World) (hn2 : T.length ≤ 64) (hm : m ≤ 8) (hB : BufAt W g gs G T m) :
    Calls Try.prog 12 #[.pointer (some ⟨g, 0, none⟩)] W fun e w' => ∃ v, e = .returned v ∧ LiR W T v (listT 0 T) w' := by
  obtain ⟨i0, hi0, hz0, hz1, hz2⟩ := info_parts info_sl
  have HB := Lib.hid hB
  obtain ⟨c, hc⟩ := hB.head
  obtain ⟨n, hnn⟩ : ∃ n, n = T.length := ⟨_, rfl⟩
  have HN := Lib.hid hnn
  have h0 := hc.cell 0
  have hgl := hc.lt
  simp at h0
  rw [← hnn] at hn2 h0
  clear hc hB hnn
  go_enter Try.func12, Try.ntmps12
  go_wp2_with fail
  go_loopw [3, 15] (fun v i wr => ∃ a : Nat, a ≤ n ∧ i = .int .i64 a ∧ LiR W T v (listT 0 (T.take a)) wr) (fun _ i _ => n - (intOf i).toNat)
  case atStart => exact ⟨0, by omega, rfl, World.ownsRow_nil _ _ _ _, Below.refl _ _⟩
  case round =>
    obtain ⟨a, ha, rfl, hO, hE⟩ := hrel
    have HO1 := Lib.hid hO
    have HE1 := Lib.hid hE
    have HB1 := Lib.hid (HB.out.below hE)
    clear hO hE h0
    by_cases hal : a < n
    · have HAL : Hid (a < T.length) := Lib.hid (by rw [← HN.out]; exact hal)
      obtain ⟨cur, ho, hcur⟩ := HB1.out.outer
      have hro := (ho.cell a).trans (hcur a HAL.out)
      clear ho hcur
      go_wp2_with fail
      clear hro
      go_loopw [3, 22] (fun v i wr => ∃ k : Nat, k ≤ m ∧ i = .int .i64 k ∧ LiR W T v (listT 0 (T.take a) ++ listW a 0 ((T.getD a []).take k)) wr) (fun _ i _ => m - (intOf i).toNat)
      case atStart => exact ⟨0, by omega, rfl, by rw [List.take_zero]; show LiR W T _ (_ ++ []) _; rw [List.append_nil]; exact ⟨HO1.out, HE1.out⟩⟩
      case round =>
        obtain ⟨k, hk, rfl, hO, hE⟩ := hrel
        rename World => wr
        have HO2 := Lib.hid hO
        have HE2 := Lib.hid hE
        have HB2 := Lib.hid (HB.out.below hE)
        have HWY : Hid ((T.getD a []).length = m) := Lib.hid (HB.out.ways a HAL.out)
        have hsz := hE.size
        clear hO hE
        by_cases hkl : k < m
        · obtain ⟨e, he⟩ : ∃ e, (T.getD a [])[k]? = some e := ⟨_, List.getElem?_eq_getElem (by rw [HWY.out]; exact hkl)⟩
          have HST : Hid (listT 0 (T.take a) ++ listW a 0 ((T.getD a []).take (k + 1)) = (listT 0 (T.take a) ++ listW a 0 ((T.getD a []).take k)) ++ (if e.full then [⟨a, k, e.asid, e.page, e.lf⟩] else [])) := Lib.hid (by
            rw [take_snoc he, listW_snoc, List.append_assoc, Nat.zero_add, List.length_take, HWY.out, Nat.min_eq_left (by omega)])
          have HLN : Hid ((listT 0 (T.take a) ++ listW a 0 ((T.getD a []).take k)).length ≤ 600) := Lib.hid (by
            have h1 := listT_le m (T.take a) 0 (fun s hs => by
              obtain ⟨i, hi, rfl⟩ := List.mem_take_iff_getElem.1 hs
              have := HB.out.ways i (by omega)
              rw [List.getD_eq_getElem?_getD, List.getElem?_eq_getElem (by omega)] at this
              exact this)
            have h2 := listW_le a ((T.getD a []).take k) 0
            rw [List.length_take] at h1 h2
            rw [List.length_append]
            have h3 : min a T.length * m ≤ 64 * 8 := Nat.mul_le_mul (by omega) hm
            omega)
          generalize listT 0 (T.take a) ++ listW a 0 ((T.getD a []).take k) = L at *
          have HE := Lib.hid he
          clear he
          obtain ⟨A1, c1, rfl⟩ := row_form HO2.out
          have c0 := HB2.out.cell HAL.out k 0 e HE.out (by decide)
          have c1 := HB2.out.cell HAL.out k 1 e HE.out (by decide)
          have c2 := HB2.out.cell HAL.out k 2 e HE.out (by decide)
          have c3 := HB2.out.cell HAL.out k 3 e HE.out (by decide)
          have c4 := HB2.out.cell HAL.out k 4 e HE.out (by decide)
          have c5 := HB2.out.cell HAL.out k 5 e HE.out (by decide)
          have c6 := HB2.out.cell HAL.out k 6 e HE.out (by decide)
          have c7 := HB2.out.cell HAL.out k 7 e HE.out (by decide)
          have c8 := HB2.out.cell HAL.out k 8 e HE.out (by decide)
          have c9 := HB2.out.cell HAL.out k 9 e HE.out (by decide)
          have c10 := HB2.out.cell HAL.out k 10 e HE.out (by decide)
          have c11 := HB2.out.cell HAL.out k 11 e HE.out (by decide)
          have c12 := HB2.out.cell HAL.out k 12 e HE.out (by decide)
          have c13 := HB2.out.cell HAL.out k 13 e HE.out (by decide)
          have c14 := HB2.out.cell HAL.out k 14 e HE.out (by decide)
          simp [En.vs] at c0 c1 c2 c3 c4 c5 c6 c7 c8 c9 c10 c11 c12 c13 c14
          have hal2 := (Below.refl wr.heap.size wr).alloc (Nat.le_refl _) (.cells #[.bool e.full, .int .i64 e.asid, .int .u64 e.page, .bool e.lf.v, .bool e.lf.r, .bool e.lf.w, .bool e.lf.x, .bool e.lf.u, .bool e.lf.g, .bool e.lf.a, .bool e.lf.d, .int .i64 e.lf.rsw, .int .u64 e.lf.ppn, .int .i64 e.lf.lev, .int .u64 e.lf.pos] 59)
          have HAW := Lib.hid (HE2.out.trans (hal2.mono HE2.out.size))
          have HOW := Lib.hid (HO2.out.alloc (.cells #[.bool e.full, .int .i64 e.asid, .int .u64 e.page, .bool e.lf.v, .bool e.lf.r, .bool e.lf.w, .bool e.lf.x, .bool e.lf.u, .bool e.lf.g, .bool e.lf.a, .bool e.lf.d, .int .i64 e.lf.rsw, .int .u64 e.lf.ppn, .int .i64 e.lf.lev, .int .u64 e.lf.pos] 59))
          clear hal2
          cases hf : e.full
          · rw [hf] at HAW HOW HST
            go_wp2_with fail
            refine ⟨⟨k + 1, hkl, by go_num, ?_⟩, by simp [intOf]; omega⟩
            rw [HST.out]
            show LiR W T _ (L ++ []) _
            rw [List.append_nil]
            exact ⟨HOW.out, HAW.out⟩
          · rw [hf] at HAW HOW HST
            go_wp2_with (at_builtin; (refine wpList_append_any _ rfl (.tmp 29) (.tmp 39) _ rfl W.heap.size 64 i0 _ 16 72 Try.underlying39 hi0 hz0 hz1 hz2 rfl (by decide) _ L.length (slC L) rfl (HOW.out.alloc _) (wr.heap.size + 1 + 1) (some ⟨wr.heap.size + 1, 0, none⟩) 1 1 (Sl.vs ⟨a, k, e.asid, e.page, e.lf⟩) rfl (reads_sl_at _ _ ⟨a, k, e.asid, e.page, e.lf⟩ (wr.heap.size + 1) (by simp)) (one_sl _) (by unfold maxLen; have := HLN.out; omega) (by have := HLN.out; omega) (by simp; omega) ?_; intro v2 w2 hown hgrow hat; have HO5 := Lib.hid hown; have HE5 := Lib.hid ((HAW.out.alloc HAW.out.size _).grown hgrow (Nat.le_trans HAW.out.size (by simp)) (fun g hg => (HOW.out.lt g hg).1)); clear hown hgrow hat))
            refine ⟨⟨k + 1, hkl, by go_num, ?_⟩, by simp [intOf]; omega⟩
            rw [HST.out]
            refine ⟨?_, HE5.out⟩
            have h1 := HO5.out
            rw [show (slC L ++ Sl.vs ⟨a, k, e.asid, e.page, e.lf⟩) = slC (L ++ [⟨a, k, e.asid, e.page, e.lf⟩]) from by rw [slC_append]; simp [slC]] at h1
            rw [show L.length + 1 = (L ++ [(⟨a, k, e.asid, e.page, e.lf⟩ : Sl)]).length from by simp] at h1
            exact h1
        · obtain rfl : m = k := by omega
          have HNX : Hid (listT 0 (T.take a) ++ listW a 0 ((T.getD a []).take m) = listT 0 (T.take (a + 1))) := Lib.hid (by
            have hs : T.getD a [] = T[a]'HAL.out := by rw [List.getD_eq_getElem?_getD, List.getElem?_eq_getElem HAL.out]; rfl
            have ht : (T.getD a []).take m = T[a]'HAL.out := by rw [List.take_of_length_le (Nat.le_of_eq HWY.out), hs]
            rw [ht, List.take_add_one, List.getElem?_eq_getElem HAL.out]
            show _ = listT 0 (T.take a ++ [T[a]'HAL.out])
            rw [listT_snoc, List.length_take, Nat.min_eq_left (Nat.le_of_lt HAL.out), Nat.zero_add])
          go_wp2_with fail
          exact ⟨⟨a + 1, hal, by go_num, by rw [← HNX.out]; exact ⟨HO2.out, HE2.out⟩⟩, by simp [intOf]; omega⟩
    · obtain rfl : n = a := by omega
      go_wp2
      go_ret
      refine ⟨_, rfl, ?_⟩
      have h1 := HO1.out
      rw [HN.out, List.take_length] at h1
      exact ⟨h1, HE1.out⟩
theorem len_any (g gs : Nat) (G : Nat → Nat) (T : List (List En)) (m : Nat) (W : World) (hn2 : T.length ≤ 64) (hm : m ≤ 8) (hB : BufAt W g gs G T m) :
    Calls Try.prog 11 #[.pointer (some ⟨g, 0, none⟩)] W fun e w' => e = .returned (.int .i64 ((listT 0 T).length : Nat)) ∧ Below W.heap.size W w' := by
  have HB := Lib.hid hB
  clear hB
  go_enter Try.func11, Try.ntmps11
  go_wp2_with fail
  refine (list_any g gs G T m _ hn2 hm HB.out).mono ?_
  rintro e w ⟨v, rfl, ho, hb⟩
  obtain ⟨A, c, rfl⟩ := row_form ho
  have HBB := Lib.hid hb
  clear ho hb
  go_wp2
  go_ret
  exact ⟨rfl, HBB.out⟩
end Go.Proofs.Ytnjoobggcejgkaa
