/- Merged texts: TlbJ, TlbK, TlbL, TlbM. -/
import Derived.Test.YtecalibnnfcaeaaMm9
import Derived.Test.YtecalibnnfcaeaaPlanT
import Derived.Test.YtecalibnnfcaeaaWide
/- List, Len. -/
namespace Go.Proofs.Ytecalibnnfcaeaa
open Go.RowKit

structure Sl where
  (set way asid : Int)
  (page : Nat)
  (lf : Tf)
def Sl.vs (x : Sl) : List Value := [.int .i64 x.set, .int .i64 x.way, .int .i64 x.asid, .int .u64 x.page, .bool x.lf.v, .bool x.lf.r, .bool x.lf.w, .bool x.lf.x, .bool x.lf.u, .bool x.lf.g, .bool x.lf.a, .bool x.lf.d, .int .i64 x.lf.rsw, .int .u64 x.lf.ppn, .int .i64 x.lf.lev, .int .u64 x.lf.pos]
def slC : List Sl → List Value
  | [] => []
  | x :: r => x.vs ++ slC r
theorem slC_append (a b : List Sl) : slC (a ++ b) = slC a ++ slC b := by
  induction a with
  | nil => rfl
  | cons x r ih =>
    show x.vs ++ slC (r ++ b) = x.vs ++ slC r ++ slC b
    rw [ih, List.append_assoc]
theorem slC_length : ∀ l : List Sl, (slC l).length = l.length * 16
  | [] => rfl
  | x :: r => by
    show (x.vs ++ slC r).length = _
    rw [List.length_append, slC_length r, List.length_cons]
    show 16 + _ = _
    omega
theorem slC_get : ∀ (l : List Sl) (k j : Nat) (x : Sl), l[k]? = some x → j < 16 → (slC l)[k * 16 + j]? = x.vs[j]?
  | [], k, j, e, h, _ => by simp at h
  | x :: r, 0, j, e, h, hj => by
    simp at h
    subst h
    show (x.vs ++ slC r)[0 * 16 + j]? = _
    rw [Nat.zero_mul, Nat.zero_add, List.getElem?_append_left (show j < 16 from hj)]
  | x :: r, k + 1, j, e, h, hj => by
    show (x.vs ++ slC r)[(k + 1) * 16 + j]? = _
    rw [List.getElem?_append_right (show 16 ≤ (k + 1) * 16 + j by omega)]
    show (slC r)[(k + 1) * 16 + j - 16]? = _
    rw [show (k + 1) * 16 + j - 16 = k * 16 + j by omega]
    exact slC_get r k j e (by simpa using h) hj
theorem tlb_row_form {w : World} {base s n : Nat} {e : TypeId} {v : Value} {xs : List Value} (h : w.ownsRow base e s v n xs) : ∃ A c, v = .slice A n c := by
  rcases h.2 with ⟨rfl, rfl⟩ | ⟨g, cap, _, rfl, _⟩
  · exact ⟨_, _, rfl⟩
  · exact ⟨_, _, rfl⟩
theorem info_sl : (Try.prog.info? 99).map (fun i => (i.zero, i.size, i.bytes)) = some (some (.agg #[.int .i64 0, .int .i64 0, .int .i64 0, .int .u64 0, .bool false, .bool false, .bool false, .bool false, .bool false, .bool false, .bool false, .bool false, .int .i64 0, .int .u64 0, .int .i64 0, .int .u64 0]), 16, 72) := by kernel_rfl
theorem one_sl (x : Sl) : ∀ u ∈ x.vs, u.oneCell' = true := by
  intro u hu
  simp [Sl.vs] at hu
  rcases hu with rfl | rfl | rfl | rfl | rfl | rfl | rfl | rfl | rfl | rfl | rfl | rfl | rfl | rfl | rfl | rfl <;> rfl
theorem reads_sl (w : World) (t : TypeId) (x : Sl) : Reads (w.alloc (.cells #[.int .i64 x.set, .int .i64 x.way, .int .i64 x.asid, .int .u64 x.page, .bool x.lf.v, .bool x.lf.r, .bool x.lf.w, .bool x.lf.x, .bool x.lf.u, .bool x.lf.g, .bool x.lf.a, .bool x.lf.d, .int .i64 x.lf.rsw, .int .u64 x.lf.ppn, .int .i64 x.lf.lev, .int .u64 x.lf.pos] t)) (w.heap.size + 1) 16 (some ⟨w.heap.size, 0, none⟩) 1 x.vs :=
  ⟨rfl, fun _ => ⟨_, rfl, Nat.lt_succ_self _, fun j v hj => by
    have hb := Blkf.new_at w t (0, 0) #[.int .i64 x.set, .int .i64 x.way, .int .i64 x.asid, .int .u64 x.page, .bool x.lf.v, .bool x.lf.r, .bool x.lf.w, .bool x.lf.x, .bool x.lf.u, .bool x.lf.g, .bool x.lf.a, .bool x.lf.d, .int .i64 x.lf.rsw, .int .u64 x.lf.ppn, .int .i64 x.lf.lev, .int .u64 x.lf.pos] rfl
    match j, hj with
    | 0, hj => exact (hb.cell 0).trans hj
    | 1, hj => exact (hb.cell 1).trans hj
    | 2, hj => exact (hb.cell 2).trans hj
    | 3, hj => exact (hb.cell 3).trans hj
    | 4, hj => exact (hb.cell 4).trans hj
    | 5, hj => exact (hb.cell 5).trans hj
    | 6, hj => exact (hb.cell 6).trans hj
    | 7, hj => exact (hb.cell 7).trans hj
    | 8, hj => exact (hb.cell 8).trans hj
    | 9, hj => exact (hb.cell 9).trans hj
    | 10, hj => exact (hb.cell 10).trans hj
    | 11, hj => exact (hb.cell 11).trans hj
    | 12, hj => exact (hb.cell 12).trans hj
    | 13, hj => exact (hb.cell 13).trans hj
    | 14, hj => exact (hb.cell 14).trans hj
    | 15, hj => exact (hb.cell 15).trans hj
    | j + 16, hj => exact absurd hj (by simp [Sl.vs])⟩⟩
theorem reads_sl_at (w : World) (t : TypeId) (x : Sl) (n : Nat) (hn : n = w.heap.size) : Reads (w.alloc (.cells #[.int .i64 x.set, .int .i64 x.way, .int .i64 x.asid, .int .u64 x.page, .bool x.lf.v, .bool x.lf.r, .bool x.lf.w, .bool x.lf.x, .bool x.lf.u, .bool x.lf.g, .bool x.lf.a, .bool x.lf.d, .int .i64 x.lf.rsw, .int .u64 x.lf.ppn, .int .i64 x.lf.lev, .int .u64 x.lf.pos] t)) (n + 1) 16 (some ⟨n, 0, none⟩) 1 x.vs := by subst hn; exact reads_sl w t x
/-- The listing of a set's ways from number k on. -/
def listW (i k : Nat) : List En → List Sl
  | [] => []
  | e :: r => (if e.full then [⟨i, k, e.asid, e.page, e.lf⟩] else []) ++ listW i (k + 1) r
def listT (i : Nat) : List (List En) → List Sl
  | [] => []
  | s :: r => listW i 0 s ++ listT (i + 1) r
theorem listW_snoc (i : Nat) (e : En) : ∀ (l : List En) (k : Nat), listW i k (l ++ [e]) = listW i k l ++ (if e.full then [⟨i, (k + l.length : Nat), e.asid, e.page, e.lf⟩] else [])
  | [], k => by simp [listW]
  | x :: r, k => by
    show (if x.full then [(⟨i, k, x.asid, x.page, x.lf⟩ : Sl)] else []) ++ listW i (k + 1) (r ++ [e]) = (if x.full then [(⟨i, k, x.asid, x.page, x.lf⟩ : Sl)] else []) ++ listW i (k + 1) r ++ _
    rw [listW_snoc i e r (k + 1), List.append_assoc, List.length_cons, show k + 1 + r.length = k + (r.length + 1) by omega]
theorem listT_snoc (s : List En) : ∀ (T : List (List En)) (i : Nat), listT i (T ++ [s]) = listT i T ++ listW (i + T.length) 0 s
  | [], i => by simp [listT]
  | x :: r, i => by
    show listW i 0 x ++ listT (i + 1) (r ++ [s]) = listW i 0 x ++ listT (i + 1) r ++ _
    rw [listT_snoc s r (i + 1), List.append_assoc, List.length_cons, show i + 1 + r.length = i + (r.length + 1) by omega]
theorem listW_le (i : Nat) : ∀ (l : List En) (k : Nat), (listW i k l).length ≤ l.length
  | [], k => Nat.le_refl _
  | e :: r, k => by
    show ((if e.full then [(⟨i, k, e.asid, e.page, e.lf⟩ : Sl)] else []) ++ listW i (k + 1) r).length ≤ _
    have := listW_le i r (k + 1)
    rw [List.length_append, List.length_cons]
    split <;> simp <;> omega
theorem listT_le (m : Nat) : ∀ (T : List (List En)) (i : Nat), (∀ s ∈ T, s.length = m) → (listT i T).length ≤ T.length * m
  | [], i, _ => Nat.zero_le _
  | s :: r, i, h => by
    show (listW i 0 s ++ listT (i + 1) r).length ≤ _
    have h1 := listW_le i s 0
    have h2 := listT_le m r (i + 1) (fun x hx => h x (by simp [hx]))
    have h3 := h s (by simp)
    rw [List.length_append, List.length_cons, Nat.succ_mul]
    omega
def LiR (W : World) (T : List (List En)) (v : Value) (L : List Sl) (wr : World) : Prop := wr.ownsRow W.heap.size 99 16 v L.length (slC L) ∧ Below W.heap.size W wr
set_option maxHeartbeats 4000000 in
theorem list_any (g gs : Nat) (G : Nat → Nat) (T : List (List En)) (m : Nat) (W : World) (hn2 : T.length ≤ 64) (hm : m ≤ 8) (hB : BufAt W g gs G T m) :
    Calls Try.prog 24 #[.pointer (some ⟨g, 0, none⟩)] W fun e w' => ∃ v, e = .returned v ∧ LiR W T v (listT 0 T) w' := by
  obtain ⟨i0, hi0, hz0, hz1, hz2⟩ := info_parts info_sl
  have HB := Lib.hid hB
  obtain ⟨c, hc⟩ := hB.head
  obtain ⟨n, hnn⟩ : ∃ n, n = T.length := ⟨_, rfl⟩
  have HN := Lib.hid hnn
  have h0 := hc.cell 0
  have hgl := hc.lt
  simp at h0
  rw [← hnn] at hn2 h0
  clear hc hB hnn
  go_enter Try.func24, Try.ntmps24
  go_wp2_with fail
  go_loopw [3, 15] (fun v i wr => ∃ a : Nat, a ≤ n ∧ i = .int .i64 a ∧ LiR W T v (listT 0 (T.take a)) wr) (fun _ i _ => n - (intOf i).toNat)
  case atStart => exact ⟨0, by omega, rfl, World.ownsRow_nil _ _ _ _, Below.refl _ _⟩
  case round =>
    obtain ⟨a, ha, rfl, hO, hE⟩ := hrel
    have HO1 := Lib.hid hO
    have HE1 := Lib.hid hE
    have HB1 := Lib.hid (HB.out.below hE)
    clear hO hE h0
    by_cases hal : a < n
    · have HAL : Hid (a < T.length) := Lib.hid (by rw [← HN.out]; exact hal)
      obtain ⟨cur, ho, hcur⟩ := HB1.out.outer
      have hro := (ho.cell a).trans (hcur a HAL.out)
      clear ho hcur
      go_wp2_with fail
      clear hro
      go_loopw [3, 22] (fun v i wr => ∃ k : Nat, k ≤ m ∧ i = .int .i64 k ∧ LiR W T v (listT 0 (T.take a) ++ listW a 0 ((T.getD a []).take k)) wr) (fun _ i _ => m - (intOf i).toNat)
      case atStart => exact ⟨0, by omega, rfl, by rw [List.take_zero]; show LiR W T _ (_ ++ []) _; rw [List.append_nil]; exact ⟨HO1.out, HE1.out⟩⟩
      case round =>
        obtain ⟨k, hk, rfl, hO, hE⟩ := hrel
        rename World => wr
        have HO2 := Lib.hid hO
        have HE2 := Lib.hid hE
        have HB2 := Lib.hid (HB.out.below hE)
        have HWY : Hid ((T.getD a []).length = m) := Lib.hid (HB.out.ways a HAL.out)
        have hsz := hE.size
        clear hO hE
        by_cases hkl : k < m
        · obtain ⟨e, he⟩ : ∃ e, (T.getD a [])[k]? = some e := ⟨_, List.getElem?_eq_getElem (by rw [HWY.out]; exact hkl)⟩
          have HST : Hid (listT 0 (T.take a) ++ listW a 0 ((T.getD a []).take (k + 1)) = (listT 0 (T.take a) ++ listW a 0 ((T.getD a []).take k)) ++ (if e.full then [⟨a, k, e.asid, e.page, e.lf⟩] else [])) := Lib.hid (by
            rw [take_snoc he, listW_snoc, List.append_assoc, Nat.zero_add, List.length_take, HWY.out, Nat.min_eq_left (by omega)])
          have HLN : Hid ((listT 0 (T.take a) ++ listW a 0 ((T.getD a []).take k)).length ≤ 600) := Lib.hid (by
            have h1 := listT_le m (T.take a) 0 (fun s hs => by
              obtain ⟨i, hi, rfl⟩ := List.mem_take_iff_getElem.1 hs
              have := HB.out.ways i (by omega)
              rw [List.getD_eq_getElem?_getD, List.getElem?_eq_getElem (by omega)] at this
              exact this)
            have h2 := listW_le a ((T.getD a []).take k) 0
            rw [List.length_take] at h1 h2
            rw [List.length_append]
            have h3 : min a T.length * m ≤ 64 * 8 := Nat.mul_le_mul (by omega) hm
            omega)
          generalize listT 0 (T.take a) ++ listW a 0 ((T.getD a []).take k) = L at *
          have HE := Lib.hid he
          clear he
          obtain ⟨A1, c1, rfl⟩ := tlb_row_form HO2.out
          have c0 := HB2.out.cell HAL.out k 0 e HE.out (by decide)
          have c1 := HB2.out.cell HAL.out k 1 e HE.out (by decide)
          have c2 := HB2.out.cell HAL.out k 2 e HE.out (by decide)
          have c3 := HB2.out.cell HAL.out k 3 e HE.out (by decide)
          have c4 := HB2.out.cell HAL.out k 4 e HE.out (by decide)
          have c5 := HB2.out.cell HAL.out k 5 e HE.out (by decide)
          have c6 := HB2.out.cell HAL.out k 6 e HE.out (by decide)
          have c7 := HB2.out.cell HAL.out k 7 e HE.out (by decide)
          have c8 := HB2.out.cell HAL.out k 8 e HE.out (by decide)
          have c9 := HB2.out.cell HAL.out k 9 e HE.out (by decide)
          have c10 := HB2.out.cell HAL.out k 10 e HE.out (by decide)
          have c11 := HB2.out.cell HAL.out k 11 e HE.out (by decide)
          have c12 := HB2.out.cell HAL.out k 12 e HE.out (by decide)
          have c13 := HB2.out.cell HAL.out k 13 e HE.out (by decide)
          have c14 := HB2.out.cell HAL.out k 14 e HE.out (by decide)
          simp [En.vs] at c0 c1 c2 c3 c4 c5 c6 c7 c8 c9 c10 c11 c12 c13 c14
          have hal2 := (Below.refl wr.heap.size wr).alloc (Nat.le_refl _) (.cells #[.bool e.full, .int .i64 e.asid, .int .u64 e.page, .bool e.lf.v, .bool e.lf.r, .bool e.lf.w, .bool e.lf.x, .bool e.lf.u, .bool e.lf.g, .bool e.lf.a, .bool e.lf.d, .int .i64 e.lf.rsw, .int .u64 e.lf.ppn, .int .i64 e.lf.lev, .int .u64 e.lf.pos] 110)
          have HAW := Lib.hid (HE2.out.trans (hal2.mono HE2.out.size))
          have HOW := Lib.hid (HO2.out.alloc (.cells #[.bool e.full, .int .i64 e.asid, .int .u64 e.page, .bool e.lf.v, .bool e.lf.r, .bool e.lf.w, .bool e.lf.x, .bool e.lf.u, .bool e.lf.g, .bool e.lf.a, .bool e.lf.d, .int .i64 e.lf.rsw, .int .u64 e.lf.ppn, .int .i64 e.lf.lev, .int .u64 e.lf.pos] 110))
          clear hal2
          cases hf : e.full
          · rw [hf] at HAW HOW HST
            go_wp2_with fail
            refine ⟨⟨k + 1, hkl, by go_num, ?_⟩, by simp [intOf]; omega⟩
            rw [HST.out]
            show LiR W T _ (L ++ []) _
            rw [List.append_nil]
            exact ⟨HOW.out, HAW.out⟩
          · rw [hf] at HAW HOW HST
            go_wp2_with (at_builtin; (refine wpList_append_any _ rfl (.tmp 29) (.tmp 39) _ rfl W.heap.size 99 i0 _ 16 72 Try.underlying38 hi0 hz0 hz1 hz2 rfl (by decide) _ L.length (slC L) rfl (HOW.out.alloc _) (wr.heap.size + 1 + 1) (some ⟨wr.heap.size + 1, 0, none⟩) 1 1 (Sl.vs ⟨a, k, e.asid, e.page, e.lf⟩) rfl (reads_sl_at _ _ ⟨a, k, e.asid, e.page, e.lf⟩ (wr.heap.size + 1) (by simp)) (one_sl _) (by unfold maxLen; have := HLN.out; omega) (by have := HLN.out; omega) (by simp; omega) ?_; intro v2 w2 hown hgrow hat; have HO5 := Lib.hid hown; have HE5 := Lib.hid ((HAW.out.alloc HAW.out.size _).grown hgrow (Nat.le_trans HAW.out.size (by simp)) (fun g hg => (HOW.out.lt g hg).1)); clear hown hgrow hat))
            refine ⟨⟨k + 1, hkl, by go_num, ?_⟩, by simp [intOf]; omega⟩
            rw [HST.out]
            refine ⟨?_, HE5.out⟩
            have h1 := HO5.out
            rw [show (slC L ++ Sl.vs ⟨a, k, e.asid, e.page, e.lf⟩) = slC (L ++ [⟨a, k, e.asid, e.page, e.lf⟩]) from by rw [slC_append]; simp [slC]] at h1
            rw [show L.length + 1 = (L ++ [(⟨a, k, e.asid, e.page, e.lf⟩ : Sl)]).length from by simp] at h1
            exact h1
        · obtain rfl : m = k := by omega
          have HNX : Hid (listT 0 (T.take a) ++ listW a 0 ((T.getD a []).take m) = listT 0 (T.take (a + 1))) := Lib.hid (by
            have hs : T.getD a [] = T[a]'HAL.out := by rw [List.getD_eq_getElem?_getD, List.getElem?_eq_getElem HAL.out]; rfl
            have ht : (T.getD a []).take m = T[a]'HAL.out := by rw [List.take_of_length_le (Nat.le_of_eq HWY.out), hs]
            rw [ht, List.take_add_one, List.getElem?_eq_getElem HAL.out]
            show _ = listT 0 (T.take a ++ [T[a]'HAL.out])
            rw [listT_snoc, List.length_take, Nat.min_eq_left (Nat.le_of_lt HAL.out), Nat.zero_add])
          go_wp2_with fail
          exact ⟨⟨a + 1, hal, by go_num, by rw [← HNX.out]; exact ⟨HO2.out, HE2.out⟩⟩, by simp [intOf]; omega⟩
    · obtain rfl : n = a := by omega
      go_wp2
      go_ret
      refine ⟨_, rfl, ?_⟩
      have h1 := HO1.out
      rw [HN.out, List.take_length] at h1
      exact ⟨h1, HE1.out⟩
theorem len_any (g gs : Nat) (G : Nat → Nat) (T : List (List En)) (m : Nat) (W : World) (hn2 : T.length ≤ 64) (hm : m ≤ 8) (hB : BufAt W g gs G T m) :
    Calls Try.prog 26 #[.pointer (some ⟨g, 0, none⟩)] W fun e w' => e = .returned (.int .i64 ((listT 0 T).length : Nat)) ∧ Below W.heap.size W w' := by
  have HB := Lib.hid hB
  clear hB
  go_enter Try.func26, Try.ntmps26
  go_wp2_with fail
  refine (list_any g gs G T m _ hn2 hm HB.out).mono ?_
  rintro e w ⟨v, rfl, ho, hb⟩
  obtain ⟨A, c, rfl⟩ := tlb_row_form ho
  have HBB := Lib.hid hb
  clear ho hb
  go_wp2
  go_ret
  exact ⟨rfl, HBB.out⟩
end Go.Proofs.Ytecalibnnfcaeaa

/- New. -/
namespace Go.Proofs.Ytecalibnnfcaeaa
open Go.RowKit

def powB (s : Int) : Bool := s == 1 || s == 2 || s == 4 || s == 8 || s == 16 || s == 32 || s == 64
def rightS (s m : Int) : Bool := powB s && (decide (1 ≤ m) && decide (m ≤ 8))
theorem pow_and : ∀ s : Fin 65, 1 ≤ s.val → (bits .and .i64 (s.val : Int) ((s.val : Int) - 1) == 0) = powB (s.val : Int) := by decide +kernel
theorem pow_not {s : Int} (h : s < 1 ∨ 64 < s) : powB s = false := by
  unfold powB
  simp
  omega
def emptyT (n m : Nat) : List (List En) := List.replicate n (List.replicate m en0)
theorem waysC_zero : ∀ m : Nat, waysC (List.replicate m en0) = (List.replicate m en0.vs).flatten
  | 0 => rfl
  | m + 1 => by
    show en0.vs ++ waysC (List.replicate m en0) = _
    rw [waysC_zero m, List.replicate_succ, List.flatten_cons]
theorem info_way : (Try.prog.info? 110).map (fun i => (i.zero, i.size, i.bytes)) = some (some (.agg #[.bool false, .int .i64 0, .int .u64 0, .bool false, .bool false, .bool false, .bool false, .bool false, .bool false, .bool false, .bool false, .int .i64 0, .int .u64 0, .int .i64 0, .int .u64 0]), 15, 64) := by kernel_rfl
theorem made_ways (m : Nat) (h1 : 1 ≤ m) (h2 : m ≤ 8) : madeCells (#[.bool false, .int .i64 0, .int .u64 0, .bool false, .bool false, .bool false, .bool false, .bool false, .bool false, .bool false, .bool false, .int .i64 0, .int .u64 0, .int .i64 0, .int .u64 0] : Array Value) (m * 15) = (waysC (List.replicate m en0)).toArray := by
  rcases (show m = 1 ∨ m = 2 ∨ m = 3 ∨ m = 4 ∨ m = 5 ∨ m = 6 ∨ m = 7 ∨ m = 8 by omega) with rfl | rfl | rfl | rfl | rfl | rfl | rfl | rfl <;> kernel_rfl
theorem tlb_own_below {w w' : World} {base : Nat} {e : TypeId} {size : Nat} {v : Value} {n : Nat} {xs : List Value} (h : w.ownsRow base e size v n xs) (hb : Below w.heap.size w w') : w'.ownsRow base e size v n xs := by
  rcases h.2 with h2 | ⟨g, cap, cur, hv, hbg, hh, r⟩
  · exact ⟨h.1, .inl h2⟩
  · exact ⟨h.1, .inr ⟨g, cap, cur, hv, hbg, (hb.block g (by
      rcases Nat.lt_or_ge g w.heap.size with hlt | hge
      · exact hlt
      · rw [Array.getElem?_eq_none hge] at hh; cases hh)).trans hh, r⟩⟩
theorem tlb_below_grown {w wr w' : World} {base : Nat} {e : TypeId} {size : Nat} {v : Value} {n : Nat} {xs : List Value} (h : wr.ownsRow base e size v n xs) (hb : Below base w wr) (hg : wr.grownBy w' v.ownBlock) (hB : base ≤ wr.heap.size) : Below base w w' :=
  hb.grown hg hB (fun g hg => (h.lt g hg).1)
def SlOf (b m : Nat) : Value := .slice (some ⟨b, 0, none⟩) m m
/-- What holds behind k rounds. -/
def NewRel (W : World) (g m k : Nat) (wr : World) : Prop :=
  ∃ (Gl : List Nat) (v : Value), Gl.length = k ∧ Blk wr g 84 #[v] ∧ wr.ownsRow W.heap.size 85 1 v k (Gl.map (SlOf · m)) ∧ Below W.heap.size W wr ∧
    (∀ b ∈ Gl, Blk wr b 110 (waysC (List.replicate m en0)).toArray ∧ W.heap.size ≤ b) ∧ Gl.Nodup
theorem info_row : (Try.prog.info? 85).map (fun i => (i.zero, i.size, i.bytes)) = some (some (.slice none 0 0), 1, 24) := by kernel_rfl
set_option maxHeartbeats 4000000 in
theorem tlb_new_no (s m : Int) (W : World) (h : rightS s m = false) :
    Calls Try.prog 6 #[.int .i64 s, .int .i64 m] W fun e w' => e = .returned (.tuple #[.pointer none, .int .i64 2]) ∧ W = w' := by
  by_cases h1 : s < 1
  · go_enter Try.func6, Try.ntmps6
    go_wp2
    go_ret2
    exact ⟨rfl, rfl⟩
  by_cases h2 : 64 < s
  · go_enter Try.func6, Try.ntmps6
    go_wp2
    go_ret2
    exact ⟨rfl, rfl⟩
  obtain ⟨s, rfl⟩ := Int.eq_ofNat_of_zero_le (show 0 ≤ s by omega)
  have hp := pow_and ⟨s, by omega⟩ (by simp; omega)
  simp only at hp
  have hw : wrap64 ((s : Int) - 1) = (s : Int) - 1 := by unfold wrap64; omega
  cases hps : powB (s : Int)
  · rw [hps] at hp
    have hp2 : (bits .and .i64 (s : Int) ((s : Int) - 1) != 0) = true := by rw [bne, hp]; rfl
    clear hp hps h
    go_enter Try.func6, Try.ntmps6
    go_wp2
    go_ret2
    exact ⟨rfl, rfl⟩
  · rw [hps] at hp
    have hp2 : (bits .and .i64 (s : Int) ((s : Int) - 1) != 0) = false := by rw [bne, hp]; rfl
    have hm : m < 1 ∨ (¬ m < 1 ∧ 8 < m) := by
      unfold rightS at h
      rw [hps] at h
      simp at h
      omega
    clear hp hps h
    rcases hm with hm | ⟨hm, hm'⟩
    · go_enter Try.func6, Try.ntmps6
      go_wp2
      go_ret2
      exact ⟨rfl, rfl⟩
    · go_enter Try.func6, Try.ntmps6
      go_wp2
      go_ret2
      exact ⟨rfl, rfl⟩
set_option maxRecDepth 100000 in
set_option maxHeartbeats 4000000 in
theorem tlb_new_yes (s m : Nat) (W : World) (h : rightS s m = true) :
    Calls Try.prog 6 #[.int .i64 s, .int .i64 m] W fun e w' => e = .returned (.tuple #[.pointer (some ⟨W.heap.size, 0, none⟩), .int .i64 0]) ∧ NewRel W W.heap.size m s w' := by
  obtain ⟨i0, hi0, hz0, hz1, hz2⟩ := info_parts info_row
  have hb : 1 ≤ s ∧ s ≤ 64 ∧ 1 ≤ m ∧ m ≤ 8 ∧ powB s = true := by
    unfold rightS at h
    simp only [Bool.and_eq_true, decide_eq_true_eq] at h
    have h2 := h.1
    unfold powB at h2
    simp at h2
    exact ⟨by omega, by omega, by omega, by omega, h.1⟩
  obtain ⟨hs1, hs2, hm1, hm2, hps⟩ := hb
  have hmk : ∀ W, (Instr.makeSlice 85 (.int .i64 (m : Int)) (.int .i64 (m : Int))).run Try.prog W = .ok (.slice (some ⟨W.heap.size, 0, none⟩) m m) (W.alloc (.cells (waysC (List.replicate m en0)).toArray 110)) := fun W => by
    obtain ⟨i1, hi1, hy0, hy1, hy2⟩ := info_parts info_way
    have h := run_make (P := Try.prog) W 85 110 i1 _ Try.underlying85 hi1 hy0 .i64 .i64 (m : Int) (m : Int) (by omega) (by omega) (by rw [hy2]; omega) (by omega)
    rw [hy1] at h
    simp only [Int.toNat_natCast] at h
    rw [h]
    congr 3
    exact made_ways m hm1 hm2
  have hp := pow_and ⟨s, by omega⟩ (by simp; omega)
  simp only at hp
  rw [hps] at hp
  have hp2 : (bits .and .i64 (s : Int) ((s : Int) - 1) != 0) = false := by rw [bne, hp]; rfl
  clear hp hps h
  go_enter Try.func6, Try.ntmps6
  go_wp2_with fail
  go_loopw [31] (fun i wr => ∃ k : Nat, k ≤ s ∧ i = .int .i64 k ∧ NewRel W W.heap.size m k wr) (fun i _ => s - (intOf i).toNat)
  case atStart => exact ⟨0, by omega, rfl, [], .slice none 0 0, rfl, Blkf.new_at _ _ _ _ rfl, World.ownsRow_nil _ _ _ _, (Below.refl _ W).alloc (Nat.le_refl _) _, fun b hb => by simp at hb, List.nodup_nil⟩
  case round =>
    obtain ⟨k, hk, rfl, Gl, v, hgl, hX, hO, hE, hbs, hnd⟩ := hrel
    have HX := Lib.hid hX
    have HO := Lib.hid hO
    have HE := Lib.hid hE
    have HBS := Lib.hid hbs
    have HND := Lib.hid hnd
    have HGL := Lib.hid hgl
    clear hX hO hE hbs hnd hgl
    by_cases hks : k < s
    · go_wp2_with fail
      refine wp_region_pt (fun _ _ => True) ⟨fun _ => trivial, fun _ _ => trivial⟩ (PT.steps [0, 1, 2, 3, 5] (.fork 4 (.turn 6 (.turn 7 (.turn 8 (PT.steps [9, 10] (.turn 11 .done))))) 6 (.fork 4 (.turn 7 (.turn 8 (PT.steps [9, 10] (.turn 11 .done)))) 7 (.turn 4 (.turn 8 (PT.steps [9, 10] (.turn 11 .done))))))) (by kernel_rfl) (by kernel_rfl) (fun _ d _ _ _ h => by cases d <;> exact h) ?_
      unfold PT.steps
      iterate 5 (refine pt_take (v := ?_) rfl (by kernel_rfl) ?_ ?_; rotate_left; (focus (intro w' hw'; try go_simp; try with_reducible rfl)); simp only [Act.put, List.setIfInBounds_toArray, List.set_cons_zero, List.set_cons_succ])
      refine pt_fork ?_ ?_
      focus
        have t0 := (HX.out.drew).cell 0
        simp at t0
        refine pt_op (R := fun _ _ => True) rfl (by kernel_rfl) (fun K hK => ?_)
        go_simp
        refine hK _ _ ⟨trivial, ?_⟩
        clear hK K
        try simp only [Act.put, List.setIfInBounds_toArray, List.set_cons_zero, List.set_cons_succ]
        clear t0
        refine pt_turn ?_
        refine pt_op (R := fun _ _ => True) rfl (by kernel_rfl) (fun K hK => ?_)
        go_simp
        refine hK _ _ ⟨trivial, ?_⟩
        clear hK K
        try simp only [Act.put, List.setIfInBounds_toArray, List.set_cons_zero, List.set_cons_succ]
        obtain ⟨b, hb⟩ : ∃ b, b = wr.heap.size := ⟨_, rfl⟩
        have hE1 := (Below.refl wr.drew.heap.size wr.drew).alloc (Nat.le_refl _) (.cells (waysC (List.replicate m en0)).toArray 110)
        have hG1 : Blk (wr.drew.alloc (.cells (waysC (List.replicate m en0)).toArray 110)) b 110 (waysC (List.replicate m en0)).toArray := Blkf.new_at _ _ _ _ hb
        have HWB : Hid (W.heap.size ≤ b) := Lib.hid (by rw [hb]; exact HE.out.size)
        have HNB : Hid (∀ x ∈ Gl, x < b) := Lib.hid (fun x hx => by rw [hb]; exact (HBS.out x hx).1.lt)
        have hX1 := HX.out.drew.below hE1 HX.out.lt
        have hO1 := tlb_own_below HO.out.drew hE1
        have hC1 := HE.out.drew.trans (hE1.mono HE.out.size)
        have hS1 : ∀ x ∈ Gl, Blk (wr.drew.alloc (.cells (waysC (List.replicate m en0)).toArray 110)) x 110 (waysC (List.replicate m en0)).toArray := fun x hx => (HBS.out x hx).1.drew.below hE1 (HBS.out x hx).1.lt
        refine (show wpPT _ _ _ _ _ _ (wr.drew.alloc (.cells (waysC (List.replicate m en0)).toArray 110)) from ?_)
        rw [← hb]
        generalize wr.drew.alloc (.cells (waysC (List.replicate m en0)).toArray 110) = w1 at *
        clear hE1 hb
        refine pt_turn ?_
        refine pt_op (R := fun _ _ => True) rfl (by kernel_rfl) (fun K hK => ?_)
        go_simp
        refine hK _ _ ⟨trivial, ?_⟩
        clear hK K
        try simp only [Act.put, List.setIfInBounds_toArray, List.set_cons_zero, List.set_cons_succ]
        have hE2 := (Below.refl w1.heap.size w1).alloc (Nat.le_refl _) (.cells #[SlOf b m] 85)
        have hR2 : Reads (w1.alloc (.cells #[SlOf b m] 85)) (w1.heap.size + 1) 1 (some ⟨w1.heap.size, 0, none⟩) 1 [SlOf b m] := ⟨rfl, fun _ => ⟨_, rfl, Nat.lt_succ_self _, fun j u hj => by
          match j, hj with
          | 0, hj => exact ((Blkf.new_at w1 85 (0, 0) #[SlOf b m] rfl).cell 0).trans hj
          | j + 1, hj => simp at hj⟩⟩
        have hX2 := hX1.below hE2 hX1.lt
        have hO2 := tlb_own_below hO1 hE2
        have hC2 := hC1.trans (hE2.mono hC1.size)
        have hG2 := hG1.below hE2 hG1.lt
        have hS2 := fun x hx => (hS1 x hx).below hE2 (hS1 x hx).lt
        obtain ⟨g2, hg2⟩ : ∃ g, g = w1.heap.size := ⟨_, rfl⟩
        refine (show wpPT _ _ _ _ _ _ (w1.alloc (.cells #[SlOf b m] 85)) from ?_)
        rw [← hg2] at hR2 ⊢
        have hsz2 : g2 + 1 = (w1.alloc (.cells #[SlOf b m] 85)).heap.size := by rw [hg2]; simp
        generalize w1.alloc (.cells #[SlOf b m] 85) = w2 at *
        clear hE2 hX1 hO1 hC1 hG1 hS1 hg2
        refine pt_turn ?_
        refine pt_op (R := fun _ _ => True) rfl (by kernel_rfl) (fun K hK => ?_)
        refine wp_append_any _ (.tmp 37) (.tmp 40) _ rfl W.heap.size 85 i0 _ 1 24 Try.underlying82 hi0 hz0 hz1 hz2 rfl (by decide) v k (Gl.map (SlOf · m)) rfl hO2 (g2 + 1) (some ⟨g2, 0, none⟩) 1 1 [SlOf b m] rfl hR2 (fun u hu => by simp at hu; subst hu; rfl) (by unfold maxLen; omega) (by omega) hC2.size ?_
        intro v3 w3 hown hgrow _
        obtain ⟨A3, c3, rfl⟩ := tlb_row_form hown
        have hX3 := hX2.grown hgrow (fun e => row_ne_blk hO2 hX2 (by decide) e.symm)
        have hG3 := hG2.grown hgrow (fun e => row_ne_blk hO2 hG2 (by decide) e.symm)
        have hS3 := fun x hx => (hS2 x hx).grown hgrow (fun e => row_ne_blk hO2 (hS2 x hx) (by decide) e.symm)
        have hC3 := tlb_below_grown hO2 hC2 hgrow hC2.size
        refine hK _ _ ⟨trivial, ?_⟩
        clear hK K
        simp only [Act.put, List.setIfInBounds_toArray, List.set_cons_zero, List.set_cons_succ]
        clear hX2 hG2 hS2 hC2 hO2 hR2 hsz2 hgrow
        iterate 2 (refine pt_take (v := ?_) rfl (by kernel_rfl) ?_ ?_; rotate_left; (focus (intro w' hw'; try go_simp; try with_reducible rfl)); simp only [Act.put, List.setIfInBounds_toArray, List.set_cons_zero, List.set_cons_succ])
        have z0 := hX3.cell 0
        have zl := hX3.lt
        have zf := fun i => hX3.frozen i
        simp at z0
        refine pt_turn ?_
        refine pt_op (R := fun _ _ => True) rfl (by kernel_rfl) (fun K hK => ?_)
        go_simp
        refine hK _ _ ⟨trivial, ?_⟩
        clear hK K z0 zl zf
        refine pt_end ?_
        have hKp := (Keeps.refl (fun x => x = W.heap.size) w3).setCell (p := ⟨W.heap.size, 0, none⟩) (.inl rfl) (.slice A3 (k + 1) c3)
        have hX4 := hX3.set_ 0 (.slice A3 (k + 1) c3)
        have hO4 := hKp.row hown (fun x hx h => row_ne_blk hown hX3 (by decide) (by rw [hx, h]))
        have hC4 := hC3.setCell (p := ⟨W.heap.size, 0, none⟩) (Nat.le_refl _) (.slice A3 (k + 1) c3)
        have hG4 := hKp.blk hG3 (fun e => blk_ne_blk hX3 hG3 (by decide) e.symm)
        have hS4 := fun x hx => hKp.blk (hS3 x hx) (fun e => blk_ne_blk hX3 (hS3 x hx) (by decide) e.symm)
        simp at hX4
        generalize w3.setCell ⟨W.heap.size, 0, none⟩ (.slice A3 (k + 1) c3) = w4 at *
        have HREL : Hid (NewRel W W.heap.size m (k + 1) w4) := Lib.hid ⟨Gl ++ [b], .slice A3 (k + 1) c3, by rw [List.length_append, HGL.out]; rfl, hX4, by rw [List.map_append]; exact hO4, hC4, fun x hx => by
          rcases List.mem_append.1 hx with hx | hx
          · exact ⟨hS4 x hx, (HBS.out x hx).2⟩
          · simp at hx; rw [hx]; exact ⟨hG4, HWB.out⟩, by
          rw [List.nodup_append]
          refine ⟨HND.out, by simp, fun x hx y hy e => ?_⟩
          simp at hy
          have := HNB.out x hx
          omega⟩
        clear hX4 hO4 hC4 hG4 hS4 hKp hX3 hG3 hS3 hC3 hown
        go_wp2_with fail
        exact ⟨⟨k + 1, hks, by go_num, HREL.out⟩, by simp [intOf]; omega⟩
      focus
        refine pt_op (R := fun _ _ => True) rfl (by kernel_rfl) (fun K hK => ?_)
        go_simp
        refine hK _ _ ⟨trivial, ?_⟩
        clear hK K
        try simp only [Act.put, List.setIfInBounds_toArray, List.set_cons_zero, List.set_cons_succ]
        obtain ⟨b, hb⟩ : ∃ b, b = wr.heap.size := ⟨_, rfl⟩
        have hE1 := (Below.refl wr.drew.heap.size wr.drew).alloc (Nat.le_refl _) (.cells (waysC (List.replicate m en0)).toArray 110)
        have hG1 : Blk (wr.drew.alloc (.cells (waysC (List.replicate m en0)).toArray 110)) b 110 (waysC (List.replicate m en0)).toArray := Blkf.new_at _ _ _ _ hb
        have HWB : Hid (W.heap.size ≤ b) := Lib.hid (by rw [hb]; exact HE.out.size)
        have HNB : Hid (∀ x ∈ Gl, x < b) := Lib.hid (fun x hx => by rw [hb]; exact (HBS.out x hx).1.lt)
        have hX1 := HX.out.drew.below hE1 HX.out.lt
        have hO1 := tlb_own_below HO.out.drew hE1
        have hC1 := HE.out.drew.trans (hE1.mono HE.out.size)
        have hS1 : ∀ x ∈ Gl, Blk (wr.drew.alloc (.cells (waysC (List.replicate m en0)).toArray 110)) x 110 (waysC (List.replicate m en0)).toArray := fun x hx => (HBS.out x hx).1.drew.below hE1 (HBS.out x hx).1.lt
        refine (show wpPT _ _ _ _ _ _ (wr.drew.alloc (.cells (waysC (List.replicate m en0)).toArray 110)) from ?_)
        rw [← hb]
        generalize wr.drew.alloc (.cells (waysC (List.replicate m en0)).toArray 110) = w1 at *
        clear hE1 hb
        refine pt_fork ?_ ?_
        focus
          have t0 := (hX1).cell 0
          simp at t0
          refine pt_op (R := fun _ _ => True) rfl (by kernel_rfl) (fun K hK => ?_)
          go_simp
          refine hK _ _ ⟨trivial, ?_⟩
          clear hK K
          try simp only [Act.put, List.setIfInBounds_toArray, List.set_cons_zero, List.set_cons_succ]
          clear t0
          refine pt_turn ?_
          refine pt_op (R := fun _ _ => True) rfl (by kernel_rfl) (fun K hK => ?_)
          go_simp
          refine hK _ _ ⟨trivial, ?_⟩
          clear hK K
          try simp only [Act.put, List.setIfInBounds_toArray, List.set_cons_zero, List.set_cons_succ]
          have hE2 := (Below.refl w1.heap.size w1).alloc (Nat.le_refl _) (.cells #[SlOf b m] 85)
          have hR2 : Reads (w1.alloc (.cells #[SlOf b m] 85)) (w1.heap.size + 1) 1 (some ⟨w1.heap.size, 0, none⟩) 1 [SlOf b m] := ⟨rfl, fun _ => ⟨_, rfl, Nat.lt_succ_self _, fun j u hj => by
            match j, hj with
            | 0, hj => exact ((Blkf.new_at w1 85 (0, 0) #[SlOf b m] rfl).cell 0).trans hj
            | j + 1, hj => simp at hj⟩⟩
          have hX2 := hX1.below hE2 hX1.lt
          have hO2 := tlb_own_below hO1 hE2
          have hC2 := hC1.trans (hE2.mono hC1.size)
          have hG2 := hG1.below hE2 hG1.lt
          have hS2 := fun x hx => (hS1 x hx).below hE2 (hS1 x hx).lt
          obtain ⟨g2, hg2⟩ : ∃ g, g = w1.heap.size := ⟨_, rfl⟩
          refine (show wpPT _ _ _ _ _ _ (w1.alloc (.cells #[SlOf b m] 85)) from ?_)
          rw [← hg2] at hR2 ⊢
          have hsz2 : g2 + 1 = (w1.alloc (.cells #[SlOf b m] 85)).heap.size := by rw [hg2]; simp
          generalize w1.alloc (.cells #[SlOf b m] 85) = w2 at *
          clear hE2 hX1 hO1 hC1 hG1 hS1 hg2
          refine pt_turn ?_
          refine pt_op (R := fun _ _ => True) rfl (by kernel_rfl) (fun K hK => ?_)
          refine wp_append_any _ (.tmp 37) (.tmp 40) _ rfl W.heap.size 85 i0 _ 1 24 Try.underlying82 hi0 hz0 hz1 hz2 rfl (by decide) v k (Gl.map (SlOf · m)) rfl hO2 (g2 + 1) (some ⟨g2, 0, none⟩) 1 1 [SlOf b m] rfl hR2 (fun u hu => by simp at hu; subst hu; rfl) (by unfold maxLen; omega) (by omega) hC2.size ?_
          intro v3 w3 hown hgrow _
          obtain ⟨A3, c3, rfl⟩ := tlb_row_form hown
          have hX3 := hX2.grown hgrow (fun e => row_ne_blk hO2 hX2 (by decide) e.symm)
          have hG3 := hG2.grown hgrow (fun e => row_ne_blk hO2 hG2 (by decide) e.symm)
          have hS3 := fun x hx => (hS2 x hx).grown hgrow (fun e => row_ne_blk hO2 (hS2 x hx) (by decide) e.symm)
          have hC3 := tlb_below_grown hO2 hC2 hgrow hC2.size
          refine hK _ _ ⟨trivial, ?_⟩
          clear hK K
          simp only [Act.put, List.setIfInBounds_toArray, List.set_cons_zero, List.set_cons_succ]
          clear hX2 hG2 hS2 hC2 hO2 hR2 hsz2 hgrow
          iterate 2 (refine pt_take (v := ?_) rfl (by kernel_rfl) ?_ ?_; rotate_left; (focus (intro w' hw'; try go_simp; try with_reducible rfl)); simp only [Act.put, List.setIfInBounds_toArray, List.set_cons_zero, List.set_cons_succ])
          have z0 := hX3.cell 0
          have zl := hX3.lt
          have zf := fun i => hX3.frozen i
          simp at z0
          refine pt_turn ?_
          refine pt_op (R := fun _ _ => True) rfl (by kernel_rfl) (fun K hK => ?_)
          go_simp
          refine hK _ _ ⟨trivial, ?_⟩
          clear hK K z0 zl zf
          refine pt_end ?_
          have hKp := (Keeps.refl (fun x => x = W.heap.size) w3).setCell (p := ⟨W.heap.size, 0, none⟩) (.inl rfl) (.slice A3 (k + 1) c3)
          have hX4 := hX3.set_ 0 (.slice A3 (k + 1) c3)
          have hO4 := hKp.row hown (fun x hx h => row_ne_blk hown hX3 (by decide) (by rw [hx, h]))
          have hC4 := hC3.setCell (p := ⟨W.heap.size, 0, none⟩) (Nat.le_refl _) (.slice A3 (k + 1) c3)
          have hG4 := hKp.blk hG3 (fun e => blk_ne_blk hX3 hG3 (by decide) e.symm)
          have hS4 := fun x hx => hKp.blk (hS3 x hx) (fun e => blk_ne_blk hX3 (hS3 x hx) (by decide) e.symm)
          simp at hX4
          generalize w3.setCell ⟨W.heap.size, 0, none⟩ (.slice A3 (k + 1) c3) = w4 at *
          have HREL : Hid (NewRel W W.heap.size m (k + 1) w4) := Lib.hid ⟨Gl ++ [b], .slice A3 (k + 1) c3, by rw [List.length_append, HGL.out]; rfl, hX4, by rw [List.map_append]; exact hO4, hC4, fun x hx => by
            rcases List.mem_append.1 hx with hx | hx
            · exact ⟨hS4 x hx, (HBS.out x hx).2⟩
            · simp at hx; rw [hx]; exact ⟨hG4, HWB.out⟩, by
            rw [List.nodup_append]
            refine ⟨HND.out, by simp, fun x hx y hy e => ?_⟩
            simp at hy
            have := HNB.out x hx
            omega⟩
          clear hX4 hO4 hC4 hG4 hS4 hKp hX3 hG3 hS3 hC3 hown
          go_wp2_with fail
          exact ⟨⟨k + 1, hks, by go_num, HREL.out⟩, by simp [intOf]; omega⟩
        focus
          refine pt_op (R := fun _ _ => True) rfl (by kernel_rfl) (fun K hK => ?_)
          go_simp
          refine hK _ _ ⟨trivial, ?_⟩
          clear hK K
          try simp only [Act.put, List.setIfInBounds_toArray, List.set_cons_zero, List.set_cons_succ]
          have hE2 := (Below.refl w1.heap.size w1).alloc (Nat.le_refl _) (.cells #[SlOf b m] 85)
          have hR2 : Reads (w1.alloc (.cells #[SlOf b m] 85)) (w1.heap.size + 1) 1 (some ⟨w1.heap.size, 0, none⟩) 1 [SlOf b m] := ⟨rfl, fun _ => ⟨_, rfl, Nat.lt_succ_self _, fun j u hj => by
            match j, hj with
            | 0, hj => exact ((Blkf.new_at w1 85 (0, 0) #[SlOf b m] rfl).cell 0).trans hj
            | j + 1, hj => simp at hj⟩⟩
          have hX2 := hX1.below hE2 hX1.lt
          have hO2 := tlb_own_below hO1 hE2
          have hC2 := hC1.trans (hE2.mono hC1.size)
          have hG2 := hG1.below hE2 hG1.lt
          have hS2 := fun x hx => (hS1 x hx).below hE2 (hS1 x hx).lt
          obtain ⟨g2, hg2⟩ : ∃ g, g = w1.heap.size := ⟨_, rfl⟩
          refine (show wpPT _ _ _ _ _ _ (w1.alloc (.cells #[SlOf b m] 85)) from ?_)
          rw [← hg2] at hR2 ⊢
          have hsz2 : g2 + 1 = (w1.alloc (.cells #[SlOf b m] 85)).heap.size := by rw [hg2]; simp
          generalize w1.alloc (.cells #[SlOf b m] 85) = w2 at *
          clear hE2 hX1 hO1 hC1 hG1 hS1 hg2
          refine pt_turn ?_
          have t0 := (hX2).cell 0
          simp at t0
          refine pt_op (R := fun _ _ => True) rfl (by kernel_rfl) (fun K hK => ?_)
          go_simp
          refine hK _ _ ⟨trivial, ?_⟩
          clear hK K
          try simp only [Act.put, List.setIfInBounds_toArray, List.set_cons_zero, List.set_cons_succ]
          clear t0
          refine pt_turn ?_
          refine pt_op (R := fun _ _ => True) rfl (by kernel_rfl) (fun K hK => ?_)
          refine wp_append_any _ (.tmp 37) (.tmp 40) _ rfl W.heap.size 85 i0 _ 1 24 Try.underlying82 hi0 hz0 hz1 hz2 rfl (by decide) v k (Gl.map (SlOf · m)) rfl hO2 (g2 + 1) (some ⟨g2, 0, none⟩) 1 1 [SlOf b m] rfl hR2 (fun u hu => by simp at hu; subst hu; rfl) (by unfold maxLen; omega) (by omega) hC2.size ?_
          intro v3 w3 hown hgrow _
          obtain ⟨A3, c3, rfl⟩ := tlb_row_form hown
          have hX3 := hX2.grown hgrow (fun e => row_ne_blk hO2 hX2 (by decide) e.symm)
          have hG3 := hG2.grown hgrow (fun e => row_ne_blk hO2 hG2 (by decide) e.symm)
          have hS3 := fun x hx => (hS2 x hx).grown hgrow (fun e => row_ne_blk hO2 (hS2 x hx) (by decide) e.symm)
          have hC3 := tlb_below_grown hO2 hC2 hgrow hC2.size
          refine hK _ _ ⟨trivial, ?_⟩
          clear hK K
          simp only [Act.put, List.setIfInBounds_toArray, List.set_cons_zero, List.set_cons_succ]
          clear hX2 hG2 hS2 hC2 hO2 hR2 hsz2 hgrow
          iterate 2 (refine pt_take (v := ?_) rfl (by kernel_rfl) ?_ ?_; rotate_left; (focus (intro w' hw'; try go_simp; try with_reducible rfl)); simp only [Act.put, List.setIfInBounds_toArray, List.set_cons_zero, List.set_cons_succ])
          have z0 := hX3.cell 0
          have zl := hX3.lt
          have zf := fun i => hX3.frozen i
          simp at z0
          refine pt_turn ?_
          refine pt_op (R := fun _ _ => True) rfl (by kernel_rfl) (fun K hK => ?_)
          go_simp
          refine hK _ _ ⟨trivial, ?_⟩
          clear hK K z0 zl zf
          refine pt_end ?_
          have hKp := (Keeps.refl (fun x => x = W.heap.size) w3).setCell (p := ⟨W.heap.size, 0, none⟩) (.inl rfl) (.slice A3 (k + 1) c3)
          have hX4 := hX3.set_ 0 (.slice A3 (k + 1) c3)
          have hO4 := hKp.row hown (fun x hx h => row_ne_blk hown hX3 (by decide) (by rw [hx, h]))
          have hC4 := hC3.setCell (p := ⟨W.heap.size, 0, none⟩) (Nat.le_refl _) (.slice A3 (k + 1) c3)
          have hG4 := hKp.blk hG3 (fun e => blk_ne_blk hX3 hG3 (by decide) e.symm)
          have hS4 := fun x hx => hKp.blk (hS3 x hx) (fun e => blk_ne_blk hX3 (hS3 x hx) (by decide) e.symm)
          simp at hX4
          generalize w3.setCell ⟨W.heap.size, 0, none⟩ (.slice A3 (k + 1) c3) = w4 at *
          have HREL : Hid (NewRel W W.heap.size m (k + 1) w4) := Lib.hid ⟨Gl ++ [b], .slice A3 (k + 1) c3, by rw [List.length_append, HGL.out]; rfl, hX4, by rw [List.map_append]; exact hO4, hC4, fun x hx => by
            rcases List.mem_append.1 hx with hx | hx
            · exact ⟨hS4 x hx, (HBS.out x hx).2⟩
            · simp at hx; rw [hx]; exact ⟨hG4, HWB.out⟩, by
            rw [List.nodup_append]
            refine ⟨HND.out, by simp, fun x hx y hy e => ?_⟩
            simp at hy
            have := HNB.out x hx
            omega⟩
          clear hX4 hO4 hC4 hG4 hS4 hKp hX3 hG3 hS3 hC3 hown
          go_wp2_with fail
          exact ⟨⟨k + 1, hks, by go_num, HREL.out⟩, by simp [intOf]; omega⟩
    · obtain rfl : s = k := by omega
      go_wp2
      go_ret2
      exact ⟨rfl, Gl, v, HGL.out, HX.out, HO.out, HE.out, HBS.out, HND.out⟩
end Go.Proofs.Ytecalibnnfcaeaa

/- What New makes; a nil receiver. -/
namespace Go.Proofs.Ytecalibnnfcaeaa
open Go.RowKit

theorem new_buf {W w' : World} {g m s : Nat} (hg : W.heap.size ≤ g) (hs : 0 < s) (h : NewRel W g m s w') :
    ∃ gs G, BufAt w' g gs G (emptyT s m) m ∧ (∀ k, bufF g gs G s k → W.heap.size ≤ k) ∧ Below W.heap.size W w' := by
  obtain ⟨Gl, v, hl, hX, hO, hE, hbs, hnd⟩ := h
  have hlen : (emptyT s m).length = s := by simp [emptyT]
  rcases hO.2 with ⟨_, h0⟩ | ⟨gs, cap, cur, rfl, hb, hh, hc, _, _, ht⟩
  · omega
  have hget : ∀ i, i < s → (emptyT s m).getD i [] = List.replicate m en0 := fun i hi => by
    unfold emptyT
    rw [List.getD_eq_getElem?_getD, List.getElem?_replicate, if_pos hi]
    rfl
  have hGi : ∀ i, i < s → Gl.getD i 0 ∈ Gl ∧ Gl[i]? = some (Gl.getD i 0) := fun i hi => by
    rw [List.getD_eq_getElem?_getD, List.getElem?_eq_getElem (by omega)]
    exact ⟨List.getElem_mem _, rfl⟩
  refine ⟨gs, fun i => Gl.getD i 0, ⟨⟨cap, by rw [hlen]; exact hX⟩, ⟨cur, hh, fun i hi => ?_⟩, fun i hi => ?_, fun i hi => ?_, fun i j hi hj e => ?_⟩, ?_, hE⟩
  · rw [hlen] at hi
    have e : cur[i]? = (Gl.map (SlOf · m))[i]? := by
      rw [← ht, List.getElem?_take, if_pos (by omega), Array.getElem?_toList]
    rw [e, List.getElem?_map, (hGi i hi).2]
    rfl
  · rw [hlen] at hi
    rw [hget i hi]; simp
  · rw [hlen] at hi
    rw [hget i hi]
    exact (hbs _ (hGi i hi).1).1
  · rw [hlen] at hi hj
    have h1 := (hGi i hi).2
    have h2 := (hGi j hj).2
    have e' : Gl.getD i 0 = Gl.getD j 0 := e
    rw [e'] at h1
    exact (List.getElem?_inj (by omega) hnd).1 (h1.trans h2.symm)
  · rintro k (e | e | ⟨i, hi, e⟩)
    · omega
    · omega
    · rw [e]; exact (hbs _ (hGi i hi).1).2
theorem empty_valid (s m : Nat) : Valid (emptyT s m) := by
  intro l hl e he hf
  unfold emptyT at hl
  have h1 := List.eq_of_mem_replicate hl
  rw [h1] at he
  have h2 := List.eq_of_mem_replicate he
  rw [h2] at hf
  exact absurd hf (by decide)
set_option maxHeartbeats 1000000 in
theorem tlb_find_nil (va : Nat) (asid : Int) (W : World) :
    Calls Try.prog 73 #[.pointer none, .int .u64 va, .int .i64 asid] W (FindR none W) := by
  have hc := (Below.refl W.heap.size W).alloc (Nat.le_refl _) (.cells #[.bool false, .bool false, .bool false, .bool false, .bool false, .bool false, .bool false, .bool false, .int .i64 0, .int .u64 0, .int .i64 0, .int .u64 0] 97)
  have hX : Blk (W.alloc (.cells #[.bool false, .bool false, .bool false, .bool false, .bool false, .bool false, .bool false, .bool false, .int .i64 0, .int .u64 0, .int .i64 0, .int .u64 0] 97)) W.heap.size 97 #[.bool false, .bool false, .bool false, .bool false, .bool false, .bool false, .bool false, .bool false, .int .i64 0, .int .u64 0, .int .i64 0, .int .u64 0] := Blkf.new_at _ _ _ _ rfl
  have HC0 := Lib.hid hc
  have HX0 := Lib.hid hX
  clear hc hX
  go_enter Try.func73, Try.ntmps73
  go_wp2_with fail
  generalize W.alloc (.cells #[.bool false, .bool false, .bool false, .bool false, .bool false, .bool false, .bool false, .bool false, .int .i64 0, .int .u64 0, .int .i64 0, .int .u64 0] 97) = W0 at *
  have hZ := HX0.out
  have hW := HC0.out
  have q0_ := hZ.cell 0
  have q1_ := hZ.cell 1
  have q2_ := hZ.cell 2
  have q3_ := hZ.cell 3
  have q4_ := hZ.cell 4
  have q5_ := hZ.cell 5
  have q6_ := hZ.cell 6
  have q7_ := hZ.cell 7
  have q8_ := hZ.cell 8
  have q9_ := hZ.cell 9
  have q10_ := hZ.cell 10
  have q11_ := hZ.cell 11
  refine bodyPost_ret (v := .tuple #[.agg #[.bool false, .bool false, .bool false, .bool false, .bool false, .bool false, .bool false, .bool false, .int .i64 0, .int .u64 0, .int .i64 0, .int .u64 0], .bool false]) (by simp [results, Try.results73, go_sem, q0_, q1_, q2_, q3_, q4_, q5_, q6_, q7_, q8_, q9_, q10_, q11_]) rfl ?_
  exact ⟨rfl, hW⟩
theorem fill_nil (va : Nat) (asid : Int) (lf : Tf) (pick : Int) (W : World) :
    Calls Try.prog 75 #[.pointer none, .int .u64 va, .int .i64 asid, lf.val, .int .i64 pick] W fun e w' => e = .returned (.bool false) ∧ Below W.heap.size W w' := by
  have HC0 := Lib.hid ((Below.refl W.heap.size W).alloc (Nat.le_refl _) (.cells #[.bool lf.v, .bool lf.r, .bool lf.w, .bool lf.x, .bool lf.u, .bool lf.g, .bool lf.a, .bool lf.d, .int .i64 lf.rsw, .int .u64 lf.ppn, .int .i64 lf.lev, .int .u64 lf.pos] 97))
  unfold Tf.val
  go_enter Try.func75, Try.ntmps75
  go_wp2
  go_ret
  exact ⟨rfl, HC0.out⟩
theorem fence_nil (V A : Value) (W : World) :
    Calls Try.prog 35 #[.pointer none, V, A] W fun e w' => e = .returned (.int .i64 0) ∧ W = w' := by
  go_enter Try.func35, Try.ntmps35
  go_wp2
  go_ret
  exact ⟨rfl, rfl⟩
theorem list_nil (W : World) :
    Calls Try.prog 24 #[.pointer none] W fun e w' => e = .returned (.slice none 0 0) ∧ W = w' := by
  go_enter Try.func24, Try.ntmps24
  go_wp2
  go_ret
  exact ⟨rfl, rfl⟩
theorem len_nil (W : World) :
    Calls Try.prog 26 #[.pointer none] W fun e w' => e = .returned (.int .i64 0) ∧ W = w' := by
  go_enter Try.func26, Try.ntmps26
  go_wp2_with fail
  refine (list_nil _).mono ?_
  rintro e w ⟨rfl, rfl⟩
  go_wp2
  go_ret
  exact ⟨rfl, rfl⟩
end Go.Proofs.Ytecalibnnfcaeaa

/- The reference's buffer; at. -/
namespace Go.Proofs.Ytecalibnnfcaeaa
open Go.RowKit

def Sl.val (x : Sl) : Value := .agg #[.int .i64 x.set, .int .i64 x.way, .int .i64 x.asid, .int .u64 x.page, .bool x.lf.v, .bool x.lf.r, .bool x.lf.w, .bool x.lf.x, .bool x.lf.u, .bool x.lf.g, .bool x.lf.a, .bool x.lf.d, .int .i64 x.lf.rsw, .int .u64 x.lf.ppn, .int .i64 x.lf.lev, .int .u64 x.lf.pos]
def Sl.cs (x : Sl) : Array Value := #[.int .i64 x.set, .int .i64 x.way, .int .i64 x.asid, .int .u64 x.page, .bool x.lf.v, .bool x.lf.r, .bool x.lf.w, .bool x.lf.x, .bool x.lf.u, .bool x.lf.g, .bool x.lf.a, .bool x.lf.d, .int .i64 x.lf.rsw, .int .u64 x.lf.ppn, .int .i64 x.lf.lev, .int .u64 x.lf.pos]
theorem cs_size (x : Sl) : x.cs.size = 16 := rfl
theorem cs_toList (x : Sl) : x.cs.toList = x.vs := rfl
theorem cs_one (x : Sl) : x.cs.all (·.oneCell') = true := Array.all_eq_true_iff_forall_mem.2 fun u hu => one_sl x u (by rw [← cs_toList]; simpa using hu)
theorem val_cs (x : Sl) : x.val = .agg x.cs := rfl
theorem slot_row (x : Sl) : rowT Try.prog 99 x.cs.size = true := by rw [cs_size]; kernel_rfl
def sl0 : Sl := ⟨0, 0, 0, 0, tlb_lf0⟩
/-- A slice that reads as slots. -/
def RdS (w : World) (v : Value) (L : List Sl) : Prop := ∃ A c, v = .slice A L.length c ∧ (L ≠ [] → ∃ b, A = some ⟨b, 0, none⟩ ∧ ∀ k x, L[k]? = some x → ∀ j, j < 16 → w.cell? ⟨b, k * 16 + j, none⟩ = x.vs[j]?)
theorem RdS.below {w w' : World} {v : Value} {L : List Sl} (h : RdS w v L) (hb : Below w.heap.size w w') : RdS w' v L := by
  obtain ⟨A, c, e, h⟩ := h
  refine ⟨A, c, e, fun hne => ?_⟩
  obtain ⟨b, hA, hc⟩ := h hne
  refine ⟨b, hA, fun k x hx j hj => ?_⟩
  have h1 := hc k x hx j hj
  have h2 : x.vs[j]? = some (x.vs[j]'hj) := List.getElem?_eq_getElem hj
  rw [h2] at h1 ⊢
  rw [hb.cell (cell_lt h1)]
  exact h1
theorem RdS.of_own {w : World} {base : Nat} {v : Value} {L : List Sl} (h : w.ownsRow base 99 16 v L.length (slC L)) : RdS w v L := by
  rcases h.2 with ⟨rfl, h2⟩ | ⟨g, cap, cur, rfl, hb, hh, hc, _, _, ht⟩
  · exact ⟨none, 0, by rw [h2], fun hne => absurd (List.eq_nil_of_length_eq_zero h2) hne⟩
  · refine ⟨_, _, rfl, fun _ => ⟨g, rfl, fun k x hx j hj => ?_⟩⟩
    have hlt : k < L.length := (List.getElem?_eq_some_iff.1 hx).1
    rw [cell_of_row w g (k * 16 + j) cur _ _ hh, ← slC_get L k j x hx hj, ← ht, List.getElem?_take, if_pos (by omega), Array.getElem?_toList]
def atB (s y : Int) (x : Sl) : Bool := x.set == s && x.way == y
def atS (L : List Sl) (s y : Int) : Option Sl := L.find? (atB s y)
/-- The reference's buffer in memory. -/
def tlb_RefAt (w : World) (gx : Nat) (n m : Int) (L : List Sl) : Prop := ∃ v, Blk w gx 40 #[.int .i64 n, .int .i64 m, v] ∧ RdS w v L
theorem tlb_RefAt.below {w w' : World} {gx : Nat} {n m : Int} {L : List Sl} (h : tlb_RefAt w gx n m L) (hb : Below w.heap.size w w') : tlb_RefAt w' gx n m L := by
  obtain ⟨v, h1, h2⟩ := h
  exact ⟨v, h1.below hb h1.lt, h2.below hb⟩
theorem sfind_step {l : List Sl} {k : Nat} {x : Sl} {p : Sl → Bool} (hx : l[k]? = some x) (h : ∀ y ∈ l.take k, p y = false) (hp : p x = true) : l.find? p = some x := by
  have hk : k < l.length := (List.getElem?_eq_some_iff.1 hx).1
  have e : l = l.take k ++ x :: l.drop (k + 1) := by
    rw [List.getElem?_eq_getElem hk] at hx
    injection hx with hx
    rw [← hx, List.getElem_cons_drop, List.take_append_drop]
  rw [e, List.find?_append, List.find?_eq_none.2 (fun y hy => by rw [h y hy]; decide), Option.none_or, List.find?_cons, hp]
theorem sfind_none {l : List Sl} {k : Nat} {p : Sl → Bool} (hk : l.length ≤ k) (h : ∀ y ∈ l.take k, p y = false) : l.find? p = none := by
  rw [List.take_of_length_le hk] at h
  exact List.find?_eq_none.2 fun y hy => by rw [h y hy]; decide
theorem stake_more {l : List Sl} {k : Nat} {x : Sl} {p : Sl → Bool} (hx : l[k]? = some x) (h : ∀ y ∈ l.take k, p y = false) (hp : p x = false) : ∀ y ∈ l.take (k + 1), p y = false := by
  intro y hy
  rw [List.take_add_one, hx] at hy
  rcases List.mem_append.1 hy with hy | hy
  · exact h y hy
  · simp at hy; rw [hy]; exact hp
def AtR (r : Option Sl) (W : World) (e : Ending) (w' : World) : Prop :=
  e = .returned (.tuple #[(r.getD sl0).val, .bool r.isSome]) ∧ Below W.heap.size W w'
theorem RdS.range {w : World} {v : Value} {L : List Sl} (h : RdS w v L) (hne : L ≠ []) : ∃ b, v = .slice (some ⟨b, 0, none⟩) L.length (match v with | .slice _ _ c => c | _ => 0) ∧ ∀ k x, L[k]? = some x → w.rangeAt b (k * 16) x.cs.toList := by
  obtain ⟨A, c, rfl, h⟩ := h
  obtain ⟨b, rfl, hc⟩ := h hne
  refine ⟨b, rfl, fun k x hx j u hj => ?_⟩
  have hlt : j < 16 := (List.getElem?_eq_some_iff.1 hj).1
  rw [hc k x hx j hlt, ← cs_toList]
  exact hj
theorem sl0_cs : sl0.cs = #[.int .i64 0, .int .i64 0, .int .i64 0, .int .u64 0, .bool false, .bool false, .bool false, .bool false, .bool false, .bool false, .bool false, .bool false, .int .i64 0, .int .u64 0, .int .i64 0, .int .u64 0] := rfl
set_option maxRecDepth 100000 in
set_option maxHeartbeats 4000000 in
theorem at_any (gx : Nat) (nn mm : Int) (L : List Sl) (s y : Int) (W : World) (hL : L.length ≤ 1000) (hR : tlb_RefAt W gx nn mm L) :
    Calls Try.prog 43 #[.pointer (some ⟨gx, 0, none⟩), .int .i64 s, .int .i64 y] W (AtR (atS L s y) W) := by
  have hc := (Below.refl W.heap.size W).alloc (Nat.le_refl _) (.cells #[.int .i64 0, .int .i64 0, .int .i64 0, .int .u64 0, .bool false, .bool false, .bool false, .bool false, .bool false, .bool false, .bool false, .bool false, .int .i64 0, .int .u64 0, .int .i64 0, .int .u64 0] 99)
  have hX : Blk (W.alloc (.cells #[.int .i64 0, .int .i64 0, .int .i64 0, .int .u64 0, .bool false, .bool false, .bool false, .bool false, .bool false, .bool false, .bool false, .bool false, .int .i64 0, .int .u64 0, .int .i64 0, .int .u64 0] 99)) W.heap.size 99 #[.int .i64 0, .int .i64 0, .int .i64 0, .int .u64 0, .bool false, .bool false, .bool false, .bool false, .bool false, .bool false, .bool false, .bool false, .int .i64 0, .int .u64 0, .int .i64 0, .int .u64 0] := Blkf.new_at _ _ _ _ rfl
  obtain ⟨v, hg, hr⟩ := hR.below hc
  obtain ⟨n, hn⟩ : ∃ n, n = L.length := ⟨_, rfl⟩
  obtain ⟨A, c, rfl⟩ : ∃ A c, v = .slice A n c := by obtain ⟨A, c, e, _⟩ := hr; exact ⟨A, c, by rw [hn]; exact e⟩
  rw [← hn] at hL
  have HN := Lib.hid hn
  have HC0 := Lib.hid hc
  have HX0 := Lib.hid hX
  have HR := Lib.hid hr
  have r2 := hg.cell 2
  have rl := hg.lt
  simp at r2
  clear hc hX hg hr hR hn
  go_enter Try.func43, Try.ntmps43
  go_wp2_with fail
  generalize W.alloc (.cells #[.int .i64 0, .int .i64 0, .int .i64 0, .int .u64 0, .bool false, .bool false, .bool false, .bool false, .bool false, .bool false, .bool false, .bool false, .int .i64 0, .int .u64 0, .int .i64 0, .int .u64 0] 99) = W0 at *
  go_wp2_with fail
  go_loopw [15] (fun i wr => ∃ k : Nat, k ≤ n ∧ i = .int .i64 k ∧ Below W0.heap.size W0 wr ∧ ∀ x ∈ L.take k, atB s y x = false) (fun i _ => n - (intOf i).toNat)
  case atStart => exact ⟨0, by omega, rfl, Below.refl _ _, fun x hx => by simp at hx⟩
  case round =>
    obtain ⟨k, hk, rfl, hbel, hno⟩ := hrel
    have HBE := Lib.hid hbel
    have HNO := Lib.hid hno
    clear hbel hno r2 rl
    have HXW := Lib.hid (HX0.out.below HBE.out HX0.out.lt)
    have HCW := Lib.hid (HC0.out.trans (HBE.out.mono HC0.out.size))
    by_cases hkl : k < n
    · obtain ⟨x, hx⟩ : ∃ x, L[k]? = some x := ⟨_, List.getElem?_eq_getElem (by rw [← HN.out]; exact hkl)⟩
      have HX := Lib.hid hx
      obtain ⟨b, e, hrg⟩ := HR.out.range (fun e => by rw [e] at hx; simp at hx)
      obtain rfl : A = some ⟨b, 0, none⟩ := by injection e
      clear e
      have HRG := Lib.hid (range_below (hrg k x hx) HBE.out)
      clear hrg hx
      have x0 : x.cs[0]? = some (.int .i64 x.set) := rfl
      have x1 : x.cs[1]? = some (.int .i64 x.way) := rfl
      have hal := (Below.refl wr.heap.size wr).alloc (Nat.le_refl _) (.cells x.cs 99)
      have HAL := Lib.hid (HBE.out.trans (hal.mono HBE.out.size))
      have HAW := Lib.hid hal
      have HLB : Hid (Blk (wr.alloc (.cells x.cs 99)) wr.heap.size 99 x.cs) := Lib.hid (Blkf.new_at _ _ _ _ rfl)
      clear hal
      cases h1 : (x.set == s)
      · have HNX := Lib.hid (stake_more HX.out HNO.out (show atB s y x = false by unfold atB; rw [h1]; rfl))
        go_wp2_with (first | ((with_reducible refine wl_load 99 (.tmp 17) rfl ?_ b (k * 16) x.cs ?_ HRG.out ?_ ?_); exact rfl; exact rfl; exact slot_row x) | ((with_reducible refine wl_store_new 99 (.tmp 9) (.tmp 18) rfl ?_ wr wr.heap.size 99 #[.int .i64 0, .int .i64 0, .int .i64 0, .int .u64 0, .bool false, .bool false, .bool false, .bool false, .bool false, .bool false, .bool false, .bool false, .int .i64 0, .int .u64 0, .int .i64 0, .int .u64 0] x.cs ?_ ?_ ?_ ?_ ?_ ?_ ?_ ?_); exact rfl; exact rfl; exact rfl; exact rfl; exact rfl; exact rfl; exact slot_row x; exact cs_one x) | ((with_reducible refine wl_load 99 (.tmp 9) rfl ?_ wr.heap.size 0 x.cs ?_ HLB.out.range ?_ ?_); exact rfl; exact rfl; exact slot_row x) | ((with_reducible refine wl_store 99 (.tmp 6) (.tmp 29) rfl ?_ W.heap.size 99 _ x.cs ?_ ?_ (HXW.out.below HAW.out HXW.out.lt) ?_ ?_ ?_ ?_); exact rfl; exact rfl; exact rfl; exact rfl; exact slot_row x; exact cs_one x))
        exact ⟨⟨k + 1, hkl, by go_num, HAL.out, HNX.out⟩, by simp [intOf]; omega⟩
      · cases h2 : (x.way == y)
        · have HNX := Lib.hid (stake_more HX.out HNO.out (show atB s y x = false by unfold atB; rw [h2, Bool.and_false]))
          go_wp2_with (first | ((with_reducible refine wl_load 99 (.tmp 17) rfl ?_ b (k * 16) x.cs ?_ HRG.out ?_ ?_); exact rfl; exact rfl; exact slot_row x) | ((with_reducible refine wl_store_new 99 (.tmp 9) (.tmp 18) rfl ?_ wr wr.heap.size 99 #[.int .i64 0, .int .i64 0, .int .i64 0, .int .u64 0, .bool false, .bool false, .bool false, .bool false, .bool false, .bool false, .bool false, .bool false, .int .i64 0, .int .u64 0, .int .i64 0, .int .u64 0] x.cs ?_ ?_ ?_ ?_ ?_ ?_ ?_ ?_); exact rfl; exact rfl; exact rfl; exact rfl; exact rfl; exact rfl; exact slot_row x; exact cs_one x) | ((with_reducible refine wl_load 99 (.tmp 9) rfl ?_ wr.heap.size 0 x.cs ?_ HLB.out.range ?_ ?_); exact rfl; exact rfl; exact slot_row x) | ((with_reducible refine wl_store 99 (.tmp 6) (.tmp 29) rfl ?_ W.heap.size 99 _ x.cs ?_ ?_ (HXW.out.below HAW.out HXW.out.lt) ?_ ?_ ?_ ?_); exact rfl; exact rfl; exact rfl; exact rfl; exact slot_row x; exact cs_one x))
          exact ⟨⟨k + 1, hkl, by go_num, HAL.out, HNX.out⟩, by simp [intOf]; omega⟩
        · have HFND : Hid (atS L s y = some x) := Lib.hid (sfind_step HX.out HNO.out (by unfold atB; rw [h1, h2]; rfl))
          go_wp2_with (first | ((with_reducible refine wl_load 99 (.tmp 17) rfl ?_ b (k * 16) x.cs ?_ HRG.out ?_ ?_); exact rfl; exact rfl; exact slot_row x) | ((with_reducible refine wl_store_new 99 (.tmp 9) (.tmp 18) rfl ?_ wr wr.heap.size 99 #[.int .i64 0, .int .i64 0, .int .i64 0, .int .u64 0, .bool false, .bool false, .bool false, .bool false, .bool false, .bool false, .bool false, .bool false, .int .i64 0, .int .u64 0, .int .i64 0, .int .u64 0] x.cs ?_ ?_ ?_ ?_ ?_ ?_ ?_ ?_); exact rfl; exact rfl; exact rfl; exact rfl; exact rfl; exact rfl; exact slot_row x; exact cs_one x) | ((with_reducible refine wl_load 99 (.tmp 9) rfl ?_ wr.heap.size 0 x.cs ?_ HLB.out.range ?_ ?_); exact rfl; exact rfl; exact slot_row x) | ((with_reducible refine wl_store 99 (.tmp 6) (.tmp 29) rfl ?_ W.heap.size 99 _ x.cs ?_ ?_ (HXW.out.below HAW.out HXW.out.lt) ?_ ?_ ?_ ?_); exact rfl; exact rfl; exact rfl; exact rfl; exact slot_row x; exact cs_one x))
          refine bodyPost_ret (res_cell_slot (cs := x.cs) (v := .bool true) rfl _ _ W.heap.size 99 rfl rfl ((HXW.out.below HAW.out HXW.out.lt).setRow _) (slot_row x)) rfl ?_
          unfold AtR
          rw [HFND.out]
          exact ⟨rfl, below_setRow (HCW.out.trans (HAW.out.mono HCW.out.size)) (Nat.le_refl _) _⟩
    · obtain rfl : n = k := by omega
      have HFND : Hid (atS L s y = none) := Lib.hid (sfind_none (by rw [HN.out]; exact Nat.le_refl _) HNO.out)
      go_wp2_with ((with_reducible refine wl_store 99 (.tmp 6) (.tmp 31) rfl ?_ W.heap.size 99 _ sl0.cs ?_ ?_ HXW.out ?_ ?_ ?_ ?_); exact rfl; exact rfl; exact rfl; exact rfl; exact slot_row sl0; exact cs_one sl0)
      refine bodyPost_ret (res_cell_slot (cs := sl0.cs) (v := .bool false) rfl _ _ W.heap.size 99 rfl rfl (HXW.out.setRow _) (slot_row sl0)) rfl ?_
      unfold AtR
      rw [HFND.out]
      exact ⟨rfl, below_setRow HCW.out (Nat.le_refl _) _⟩
end Go.Proofs.Ytecalibnnfcaeaa
