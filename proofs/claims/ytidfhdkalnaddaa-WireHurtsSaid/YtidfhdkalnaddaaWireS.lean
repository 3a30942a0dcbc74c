/- The law WireHurts. -/
import Derived.Test.YtidfhdkalnaddaaWireR
import Derived.Test.YtidfhdkalnaddaaCheckI
namespace Go.Proofs.Ytidfhdkalnaddaa
open Go.RowKit

theorem frame_short (X : List Nat) (h : X.length < 27) : frameB X = false := by
  unfold frameB headOK
  rw [decide_eq_false (by rw [List.length_take]; omega)]
  simp
theorem frame_len (X : List Nat) (d : Nat) (h : 27 ≤ X.length) (hz : leNat ((X.drop 21).take 2) = d) (hne : X.length ≠ 27 + d) : frameB X = false := by
  have e1 : fZ (X.take (X.length - 4)) = d := by
    unfold fZ
    rw [List.drop_take, List.take_take, Nat.min_eq_left (by omega)]
    exact hz
  unfold frameB bodyOK
  rw [e1, beq_eq_false_iff_ne.2 (by rw [List.length_take]; omega)]
  simp
theorem sealed_size (f t : Nat) (b : Bool) (s a : Nat) (D : List Nat) (hn : D.length ≤ 5000) :
    (((plainL f t b s a D ++ bytesOf (sumV (plainL f t b s a D)) 4).drop 21).take 2) = bytesOf D.length 2 := by
  have h21 : (plainL f t b s a D ++ bytesOf (sumV (plainL f t b s a D)) 4).drop 21 = bytesOf D.length 2 ++ (D ++ bytesOf (sumV (plainL f t b s a D)) 4) := by
    generalize bytesOf (sumV (plainL f t b s a D)) 4 = Z
    rw [plain_form]
    have e : headL f t b ++ (bytesOf s 8 ++ (bytesOf a 8 ++ (bytesOf D.length 2 ++ D))) ++ Z = (headL f t b ++ (bytesOf s 8 ++ bytesOf a 8)) ++ (bytesOf D.length 2 ++ (D ++ Z)) := by simp
    rw [e, List.drop_left' (by simp [headL, e8])]
  rw [h21, List.take_left' (e2 _)]
theorem cut_none (L : List Nat) (d nn : Nat) (hL : L.length = 27 + d) (hz : leNat ((L.drop 21).take 2) = d) (hn : nn < L.length) : frameB (L.take nn) = false := by
  rcases Nat.lt_or_ge nn 27 with h | h
  · exact frame_short _ (by rw [List.length_take]; omega)
  · refine frame_len _ d (by rw [List.length_take]; omega) ?_ (by rw [List.length_take]; omega)
    rw [List.drop_take, List.take_take, Nat.min_eq_left (by omega)]
    exact hz
theorem more_none (L : List Nat) (d nn : Nat) (hL : L.length = 27 + d) (hz : leNat ((L.drop 21).take 2) = d) (hn : nn < L.length) (h0 : 0 < nn) : frameB (L ++ L.take nn) = false := by
  refine frame_len _ d (by rw [List.length_append]; omega) ?_ (by rw [List.length_append, List.length_take]; omega)
  rw [List.drop_append_of_le_length (by omega), List.take_append_of_le_length (by rw [List.length_drop]; omega)]
  exact hz
/-- Ways that meet again. -/
theorem pt_join {P : Program} {ls : List Oper} {Q : Exit → Act → World → Prop} {R : World → World → Prop} {ds : List (Nat × Option Tmp)} (S : (Nat → Value) → World → Prop) (t2 : PT) {a : Act} {w : World} {t : PT} {k : Nat} {L : Array Bool} (hs : Region.noSelect ls.toArray = true) (hR : Later R)
    (hQ : ∀ c d v a w, Q (.panic c) (a.put d v) w → Q (.panic c) a w) (hk : t2.depth = k) (hok : ptOK .any ls.toArray t2 L = true)
    (hend : ∀ x w', S x w' → wpPT R P ls.toArray Q t2 (fill a x ds) w') (h : (∀ x w', S x w' → wpPT R P ls.toArray Q (.rest k L) (fill a x ds) w') → wpPT R P ls.toArray Q t a w) : wpPT R P ls.toArray Q t a w :=
  h fun x w' hS n hn => anyE_of_pt hR hs hQ t2 n L _ _ (by omega) hok (hend x w' hS)
theorem bts_turned {w w' : World} {A : Option Addr} {l : List Nat} {g : Nat} (h : Bts w A l) (hG : Blk w g 25 #[.int .i64 0, .int .i64 0, .bool false, .int .u64 0, .int .u64 0, .slice none 0 0]) (hk : Keeps (fun x => x = g) w w') : Bts w' A l := by
  refine ⟨h.1, fun hl => ?_⟩
  obtain ⟨b, o, rfl, hc⟩ := h.2 hl
  refine ⟨b, o, rfl, fun i hi => ?_⟩
  refine keeps_cell hk (hc i hi) ?_
  intro hb
  have hb' : b = g := hb
  subst hb'
  have h1 := hc i hi
  rw [hG.cell (o + i)] at h1
  rcases (show o + i = 0 ∨ o + i = 1 ∨ o + i = 2 ∨ o + i = 3 ∨ o + i = 4 ∨ o + i = 5 ∨ 6 ≤ o + i by omega) with e | e | e | e | e | e | e
  · rw [e] at h1; simp at h1
  · rw [e] at h1; simp at h1
  · rw [e] at h1; simp at h1
  · rw [e] at h1; simp at h1
  · rw [e] at h1; simp at h1
  · rw [e] at h1; simp at h1
  · rw [Array.getElem?_eq_none (by simpa using e)] at h1; cases h1
/-- Get: some fields, and whether they are a frame's. -/
theorem wget_sym (A : Option Addr) (l : List Nat) (n c : Nat) (W : World) (hl : l.length = n) (hn : n ≤ 1000000) (hc : n ≤ c) (hB : Bts W A l) :
    Calls Try.prog 10 #[.slice A n c] W fun e w' => (∃ (f t : Int) (b : Bool) (s a : Nat) (A' : Option Addr) (n' c' : Nat), e = .returned (.tuple #[frV f t b s a A' n' c', .bool (frameB l)])) ∧ Below W.heap.size W w' := by
  refine (wget_any A l n c W hl hn hc hB).mono ?_
  intro e w' h
  unfold GetAny at h
  obtain ⟨hb, h⟩ := h
  refine ⟨?_, hb⟩
  cases hf : frameB l with
  | true =>
    rw [hf, if_pos rfl] at h
    obtain ⟨A', c', he, -⟩ := h
    exact ⟨_, _, _, _, _, _, _, _, he⟩
  | false =>
    rw [hf, if_neg (by decide)] at h
    exact ⟨0, 0, false, 0, 0, none, 0, 0, h⟩
def xs8 (a b c d e f g h : Value) : Nat → Value := fun i => match i with
  | 0 => a
  | 2 => b
  | 6 => c
  | 7 => d
  | 8 => e
  | 9 => f
  | 10 => g
  | _ => h
namespace Law
set_option maxRecDepth 100000 in
set_option maxHeartbeats 8000000 in
theorem WireHurts (f t : Int) (b : Bool) (si ai : Int) (A : Option Addr) (n c : Nat) (z : List Int) (bit cut : Int) (W : World) (wf : (Lit.int .i64 f).wf = true) (wt : (Lit.int .i64 t).wf = true) (ws : (Lit.int .u64 si).wf = true) (wa : (Lit.int .u64 ai).wf = true) (hz : IsRow .u8 W A n c z) (wb : (Lit.int .i64 bit).wf = true) (wc : (Lit.int .i64 cut).wf = true) :
    Calls Try.prog 5 #[.agg #[.int .i64 f, .int .i64 t, .bool b, .int .u64 si, .int .u64 ai, .slice A n c], .int .i64 bit, .int .i64 cut] W fun e w' => e = .returned (.bool true) ∧ Below W.heap.size W w' := by
  obtain ⟨l, hl, hB, hn⟩ := bts_of_row hz
  have hs2 := u64_of_wf ws
  have ha2 := u64_of_wf wa
  have HBIT := Lib.hid (i64_of_wf wb)
  clear hz wf wt ws wa wb wc
  obtain ⟨s, rfl⟩ := Int.eq_ofNat_of_zero_le hs2.1
  obtain ⟨a, rfl⟩ := Int.eq_ofNat_of_zero_le ha2.1
  have hs : s < 18446744073709551616 := by omega
  have ha : a < 18446744073709551616 := by omega
  clear hs2 ha2
  have HE0 : Hid (Below W.heap.size W (W.alloc (.cells #[.int .i64 f, .int .i64 t, .bool b, .int .u64 s, .int .u64 a, .slice A n c] 25))) := Lib.hid ((Below.refl _ W).alloc (Nat.le_refl _) _)
  have HX0 : Hid (Blk (W.alloc (.cells #[.int .i64 f, .int .i64 t, .bool b, .int .u64 s, .int .u64 a, .slice A n c] 25)) W.heap.size 25 #[.int .i64 f, .int .i64 t, .bool b, .int .u64 s, .int .u64 a, .slice A n c]) := Lib.hid (Blkf.new_at _ _ _ _ rfl)
  have HB := Lib.hid hB
  have HL := Lib.hid hl
  clear hB hl
  go_enter Try.func5, Try.ntmps5
  go_wp2_with fail
  refine (first16 _).mono ?_
  rintro e w1 ⟨rfl, hb⟩
  have HE1 := Lib.hid (HE0.out.trans (hb.mono HE0.out.size))
  have HX1 := Lib.hid (HX0.out.below hb HX0.out.lt)
  have HB1 := Lib.hid (bts_below HB.out HE1.out)
  clear hb
  have x0 := HX1.out.cell 0
  have x1 := HX1.out.cell 1
  have x2 := HX1.out.cell 2
  have x3 := HX1.out.cell 3
  have x4 := HX1.out.cell 4
  have x5 := HX1.out.cell 5
  have xl := HX1.out.lt
  have xf := fun i => HX1.out.frozen i
  simp at x0 x1 x2 x3 x4 x5
  cases hr : rightF f t b s n
  · have HR := Lib.hid hr
    clear hr
    go_wp2_with fail
    refine (wput_no f t b s a A n c _ hn HR.out).mono ?_
    rintro e w2 ⟨rfl, hb⟩
    have HE2 := Lib.hid (HE1.out.trans (hb.mono HE1.out.size))
    have HX2 := Lib.hid (HX1.out.below hb HX1.out.lt)
    clear hb
    clear x0 x1 x2 x3 x4 x5 xl xf
    have x0 := HX2.out.cell 0
    have x1 := HX2.out.cell 1
    have x2 := HX2.out.cell 2
    have x3 := HX2.out.cell 3
    have x4 := HX2.out.cell 4
    have x5 := HX2.out.cell 5
    have xl := HX2.out.lt
    have xf := fun i => HX2.out.frozen i
    simp at x0 x1 x2 x3 x4 x5
    by_cases hbig : 5000 < n
    · have h5 : (5000 : Int) < (n : Int) := by omega
      go_wp2
      go_ret
      exact ⟨rfl, HE2.out⟩
    · have h5 : ¬ (5000 : Int) < (n : Int) := by omega
      go_wp2
      go_ret
      exact ⟨rfl, HE2.out⟩
  obtain ⟨⟨hf0, hf⟩, ⟨ht0, ht⟩, hn2⟩ := small_of_right hr
  obtain ⟨f, rfl⟩ := Int.eq_ofNat_of_zero_le hf0
  obtain ⟨t, rfl⟩ := Int.eq_ofNat_of_zero_le ht0
  have hf' : f ≤ 15 := by omega
  have ht' : t ≤ 15 := by omega
  have HR := Lib.hid hr
  have h5 : ¬ (5000 : Int) < (n : Int) := by omega
  have hn5 : n ≤ 5000 := by omega
  clear hr hf0 ht0 hf ht
  go_wp2_with fail
  refine (wput_yes f t b s a A l n c _ hf' ht' hs ha HL.out hn5 HB1.out HR.out).mono ?_
  rintro e w2 ⟨v, rfl, ho, hb⟩
  have HE2 := Lib.hid (HE1.out.trans (hb.mono HE1.out.size))
  have HX2 := Lib.hid (HX1.out.below hb HX1.out.lt)
  have HB2 := Lib.hid (bts_below HB1.out hb)
  obtain ⟨P, hPe⟩ : ∃ P, P = plainL f t b s a l := ⟨_, rfl⟩
  have hlt : ∀ i : Nat, P.getD i 0 < 256 := fun i => by rw [hPe]; exact plain_lt f t s a l b hf' ht' HB.out.1 i
  rw [← hPe] at ho
  have HTO := Lib.hid (fun h => turned_open P hlt bit h)
  have HPLEN : Hid (P.length = 23 + n) := Lib.hid (by rw [hPe, (plain_fields f t b s a l hs ha (by rw [HL.out]; exact hn5)).2.2.2.2.2.2.2.2, HL.out])
  obtain ⟨L, hLe⟩ : ∃ L, L = P ++ bytesOf (sumV P) 4 := ⟨_, rfl⟩
  have HLE : Hid (L = plainL f t b s a l ++ bytesOf (sumV (plainL f t b s a l)) 4) := Lib.hid (by rw [hLe, hPe])
  have HLT : Hid (∀ i : Nat, L.getD i 0 < 256) := Lib.hid (fun i => by rw [hLe]; exact append_lt hlt (bytesOf_lt _ _) i)
  rw [← hLe] at ho HTO
  have HLN : Hid (L.length = 27 + n) := Lib.hid (by rw [hLe, List.length_append, bytes4, HPLEN.out]; omega)
  have HFR : Hid (frameB L = true) := Lib.hid (by rw [HLE.out]; exact frame_sealed f t b s a l hf' ht' hs ha (by rw [HL.out]; exact hn5) HB.out.1 (by rw [HL.out]; exact HR.out))
  have HSZ : Hid (leNat ((L.drop 21).take 2) = n) := Lib.hid (by rw [HLE.out, sealed_size f t b s a l (by rw [HL.out]; exact hn5), HL.out, leNat_bytes2 _ (by omega)])
  clear hLe hPe hlt
  obtain ⟨A1, c1, rfl, hB1, -⟩ := bts_own ho HLT.out rfl
  have hlp : 0 < L.length := by rw [HLN.out]; omega
  obtain ⟨k1, cap1, hv1, -, -⟩ := ho.form hlp
  injection hv1 with hv1 hv2 hv3
  clear hv2 hv3 hlp
  subst hv1
  obtain ⟨m, hm⟩ : ∃ m, m = L.length := ⟨_, rfl⟩
  rw [← hm] at ho ⊢
  have HM := Lib.hid hm
  have hcap := own_cap ho
  have HT2 := Lib.hid hB1
  have hm27 : m = 27 + n := by rw [hm]; exact HLN.out
  have hml : 27 ≤ m := by omega
  have hmu : m ≤ 5027 := by omega
  clear hb ho hB1 hm hm27
  clear x0 x1 x2 x3 x4 x5 xl xf
  have x0 := HX2.out.cell 0
  have x1 := HX2.out.cell 1
  have x2 := HX2.out.cell 2
  have x3 := HX2.out.cell 3
  have x4 := HX2.out.cell 4
  have x5 := HX2.out.cell 5
  have xl := HX2.out.lt
  have xf := fun i => HX2.out.frozen i
  simp at x0 x1 x2 x3 x4 x5
  go_wp2_with fail
  refine (rturn_at (some ⟨k1, 0, none⟩) L m c1 bit _ HM.out.symm (by omega) HT2.out HBIT.out).mono ?_
  rintro e w3 ⟨v3, rfl, ho, hb⟩
  obtain ⟨T, hTe⟩ : ∃ T, T = turnL L bit := ⟨_, rfl⟩
  rw [← hTe] at ho
  have HTL : Hid (T.length = m) := Lib.hid (by rw [hTe, turnL_length, HM.out])
  have HTT : Hid (∀ i : Nat, T.getD i 0 < 256) := Lib.hid (fun i => by rw [hTe]; exact turnL_lt HLT.out bit i)
  have HFT : Hid (frameB T = !(decide (0 ≤ bit) && decide (bit / 8 < (m : Int)))) := Lib.hid (by
    by_cases ht : 0 ≤ bit ∧ bit / 8 < L.length
    · rw [hTe]
      unfold frameB
      rw [HTO.out ht, decide_eq_true ht.1, decide_eq_true (by rw [HM.out]; exact ht.2)]
      simp
    · have e : turnL L bit = L := if_neg ht
      rw [hTe, e, HFR.out]
      rcases (show ¬ 0 ≤ bit ∨ ¬ bit / 8 < (m : Int) by rw [HM.out]; omega) with h | h
      · rw [decide_eq_false h]; rfl
      · rw [decide_eq_false h, Bool.and_false]; rfl)
  clear hTe
  obtain ⟨A3, c3, rfl, hB3, -⟩ := bts_own ho HTT.out rfl
  rw [HTL.out] at ho ⊢
  have hcap3 := own_cap ho
  have HE3 := Lib.hid (HE2.out.trans (hb.mono HE2.out.size))
  have HX3 := Lib.hid (HX2.out.below hb HX2.out.lt)
  have HB3 := Lib.hid (bts_below HB2.out hb)
  have HT3 := Lib.hid (bts_below HT2.out hb)
  have HU3 := Lib.hid hB3
  clear hb ho hB3
  clear x0 x1 x2 x3 x4 x5 xl xf
  have x0 := HX3.out.cell 0
  have x1 := HX3.out.cell 1
  have x2 := HX3.out.cell 2
  have x3 := HX3.out.cell 3
  have x4 := HX3.out.cell 4
  have x5 := HX3.out.cell 5
  have xl := HX3.out.lt
  have xf := fun i => HX3.out.frozen i
  simp at x0 x1 x2 x3 x4 x5
  go_wp2_with fail
  refine (wget_sym A3 T m c3 _ HTL.out (by omega) hcap3 HU3.out).mono ?_
  rintro e w4 ⟨⟨fx, tx, bx, sx, ax, Ax, nx, cx, rfl⟩, hb⟩
  rw [HFT.out]
  have HE4 := Lib.hid (HE3.out.trans (hb.mono HE3.out.size))
  have HX4 := Lib.hid (HX3.out.below hb HX3.out.lt)
  have HB4 := Lib.hid (bts_below HB3.out hb)
  have HT4 := Lib.hid (bts_below HT3.out hb)
  clear hb
  unfold frV
  clear x0 x1 x2 x3 x4 x5 xl xf
  have hmz : ¬ (m : Int) = 0 := by omega
  obtain ⟨q, hq, hqm⟩ : ∃ q : Nat, wrap64 ((IntKind.u64.wrap cut).tmod (m : Int)) = (q : Int) ∧ q < m := by
    have hu : 0 ≤ IntKind.u64.wrap cut := by rw [IntKind.wrap_u64]; omega
    have h1 : 0 ≤ (IntKind.u64.wrap cut).tmod (m : Int) := Int.tmod_nonneg _ hu
    have h2 : (IntKind.u64.wrap cut).tmod (m : Int) < (m : Int) := Int.tmod_lt_of_pos _ (by omega)
    obtain ⟨q, hq⟩ := Int.eq_ofNat_of_zero_le h1
    refine ⟨q, ?_, by omega⟩
    rw [hq] at h2 ⊢
    unfold wrap64
    omega
  have HX14 : Hid (frameB (L.take q) = false) := Lib.hid (cut_none L n q HLN.out HSZ.out (by rw [← HM.out]; exact hqm))
  have HX16 : Hid (0 < q → frameB (L ++ L.take q) = false) := Lib.hid (fun h => more_none L n q HLN.out HSZ.out (by rw [← HM.out]; exact hqm) h)
  have hq1 : q ≤ c1 := by omega
  have hqz : (q : Int) ≤ (c1 : Int) := by omega
  have HQL : Hid ((L.take q).length = q) := Lib.hid (by rw [List.length_take, ← HM.out]; omega)
  have hA4 := (Below.refl w4.heap.size w4).alloc (Nat.le_refl _) (.cells #[.int .i64 fx, .int .i64 tx, .bool bx, .int .u64 sx, .int .u64 ax, .slice Ax nx cx] 25)
  have HE5 := Lib.hid (HE4.out.trans (hA4.mono HE4.out.size))
  have HX5 := Lib.hid (HX4.out.below hA4 HX4.out.lt)
  have HB5 := Lib.hid (bts_below HB4.out hA4)
  have HT5 := Lib.hid (bts_below HT4.out hA4)
  clear hA4
  rcases (show bit < 0 ∨ 0 ≤ bit by omega) with t0 | t0
  · have f0 : decide (0 ≤ bit) = false := by simp; omega
    rw [f0, Bool.false_and]
    go_wp2_with fail
    rw [hq]
    go_wp2_with fail
    refine (wget_sym (some ⟨k1, 0, none⟩) (L.take q) q c1 _ HQL.out (by omega) hq1 (bts_take HT5.out)).mono ?_
    rintro e w5 ⟨⟨fy, ty, by_, sy, ay, Ay, ny, cy, rfl⟩, hb⟩
    rw [HX14.out]
    have hA5 := (Below.refl w5.heap.size w5).alloc (Nat.le_refl _) (.cells #[.int .i64 fy, .int .i64 ty, .bool by_, .int .u64 sy, .int .u64 ay, .slice Ay ny cy] 25)
    have hb6 := hb.trans (hA5.mono hb.size)
    have HE6 := Lib.hid (HE5.out.trans (hb6.mono HE5.out.size))
    have HX6 := Lib.hid (HX5.out.below hb6 HX5.out.lt)
    have HB6 := Lib.hid (bts_below HB5.out hb6)
    have HT6 := Lib.hid (bts_below HT5.out hb6)
    clear hA5 hb6 hb
    unfold frV
    go_wp2_with fail
    generalize w5.alloc (.cells #[.int .i64 fy, .int .i64 ty, .bool by_, .int .u64 sy, .int .u64 ay, .slice Ay ny cy] 25) = w6 at *
    obtain ⟨i0, hi0, hz0, hz1, hz2⟩ := info_parts info5
    rcases Nat.eq_zero_or_pos q with q0 | q0
    · subst q0
      have HLQ : Hid (L ++ L.take 0 = plainL f t b s a l ++ bytesOf (sumV (plainL f t b s a l)) 4) := Lib.hid (by rw [List.take_zero, List.append_nil, HLE.out])
      refine wp_region_pt (fun _ _ => True) ⟨fun _ => trivial, fun _ _ => trivial⟩ (PT.steps [1, 3, 4, 5] (.fork 0 (.fork 2 (.fork 6 (.fork 7 (PT.steps [8, 9, 10] (.turn 11 (.rest 2 (doneL 14 [1, 3, 4, 5, 0, 2, 6, 7, 8, 9, 10, 11])))) 11 (.turn 7 (PT.steps [8, 9, 10] (.rest 2 (doneL 14 [1, 3, 4, 5, 0, 2, 6, 7, 8, 9, 10, 11]))))) 11 (.turn 6 (.turn 7 (PT.steps [8, 9, 10] (.rest 2 (doneL 14 [1, 3, 4, 5, 0, 2, 6, 7, 8, 9, 10, 11])))))) 11 (.turn 2 (.turn 6 (.turn 7 (PT.steps [8, 9, 10] (.rest 2 (doneL 14 [1, 3, 4, 5, 0, 2, 6, 7, 8, 9, 10, 11]))))))) 11 (.turn 0 (.turn 2 (.turn 6 (.turn 7 (PT.steps [8, 9, 10] (.rest 2 (doneL 14 [1, 3, 4, 5, 0, 2, 6, 7, 8, 9, 10, 11]))))))))) (by kernel_rfl) (by kernel_rfl) (fun _ d _ _ _ h => by cases d <;> exact h) ?_
      unfold PT.steps
      iterate 4 (refine pt_take (v := ?_) rfl (by kernel_rfl) ?_ ?_; rotate_left; (focus (intro w' hw'; go_simp; try with_reducible rfl)); simp only [Act.put, List.setIfInBounds_toArray, List.set_cons_zero, List.set_cons_succ])
      have HC : Hid (Below w6.heap.size w6 w6.drew) := Lib.hid ((Below.refl _ w6).drew)
      generalize w6.drew = y at *
      refine pt_join (L := doneL 14 [1, 3, 4, 5, 0, 2, 6, 7, 8, 9, 10, 11]) (k := 2) (ds := [(0, some 75), (2, some 77), (6, some 81), (7, some 82), (8, some 74), (9, some 83), (10, some 84), (11, some 16)]) (fun x wz => ∃ (A7 : Option Addr) (c7 : Nat) (g1 : Nat), x 9 = (.agg #[.int .i64 f, .int .i64 t, .bool b, .int .u64 s, .int .u64 a, .slice A7 n c7]) ∧ x 10 = .bool true ∧ x 11 = .pointer (some ⟨g1, 0, none⟩) ∧ Blk wz g1 25 #[.int .i64 0, .int .i64 0, .bool false, .int .u64 0, .int .u64 0, .slice none 0 0] ∧ w6.heap.size ≤ g1 ∧ Below w6.heap.size w6 wz ∧ Bts wz A7 l) (.turn 12 (.step 13 .done)) (by kernel_rfl) ⟨fun _ => trivial, fun _ _ => trivial⟩ (fun _ d _ _ _ h => by cases d <;> exact h) rfl (by kernel_rfl) ?_ ?_
      · rintro x wz ⟨A7, c7, g1, e9, e10, e11, hG, hge, hC, hD⟩
        simp only [fill, Act.put, List.setIfInBounds_toArray, List.set_cons_zero, List.set_cons_succ]
        rw [e9, e10, e11]
        have z0 := hG.cell 0
        have z1 := hG.cell 1
        have z2 := hG.cell 2
        have z3 := hG.cell 3
        have z4 := hG.cell 4
        have z5 := hG.cell 5
        have zl := hG.lt
        have zf := fun i => hG.frozen i
        simp at z0 z1 z2 z3 z4 z5
        refine pt_turn ?_
        refine pt_op (R := fun _ _ => True) rfl (by kernel_rfl) (fun K hK => ?_)
        go_simp
        refine hK _ _ ⟨trivial, ?_⟩
        clear hK
        (try simp only [Act.put, List.setIfInBounds_toArray, List.set_cons_zero, List.set_cons_succ])
        iterate 1 (refine pt_take (v := ?_) rfl (by kernel_rfl) ?_ ?_; rotate_left; (focus (intro w' hw'; go_simp; try with_reducible rfl)); (try simp only [Act.put, List.setIfInBounds_toArray, List.set_cons_zero, List.set_cons_succ]))
        refine pt_end ?_
        have hW := ((((((hC.setCell (p := ⟨g1, 0, none⟩) hge (.int .i64 f)).setCell (p := ⟨g1, 1, none⟩) hge (.int .i64 t)).setCell (p := ⟨g1, 2, none⟩) hge (.bool b)).setCell (p := ⟨g1, 3, none⟩) hge (.int .u64 s)).setCell (p := ⟨g1, 4, none⟩) hge (.int .u64 a)).setCell (p := ⟨g1, 5, none⟩) hge (.slice A7 n c7))
        have hZ := ((((((hG.set_ 0 (.int .i64 f)).set_ 1 (.int .i64 t)).set_ 2 (.bool b)).set_ 3 (.int .u64 s)).set_ 4 (.int .u64 a)).set_ 5 (.slice A7 n c7))
        have hK := (((((((Keeps.refl (fun x => x = g1) wz).setCell (p := ⟨g1, 0, none⟩) (.inl rfl) (.int .i64 f)).setCell (p := ⟨g1, 1, none⟩) (.inl rfl) (.int .i64 t)).setCell (p := ⟨g1, 2, none⟩) (.inl rfl) (.bool b)).setCell (p := ⟨g1, 3, none⟩) (.inl rfl) (.int .u64 s)).setCell (p := ⟨g1, 4, none⟩) (.inl rfl) (.int .u64 a)).setCell (p := ⟨g1, 5, none⟩) (.inl rfl) (.slice A7 n c7))
        have hX := (((((((HX6.out.below hC HX6.out.lt).far (p := ⟨g1, 0, none⟩) (Nat.ne_of_lt (Nat.lt_of_lt_of_le HX6.out.lt hge)) (.int .i64 f)).far (p := ⟨g1, 1, none⟩) (Nat.ne_of_lt (Nat.lt_of_lt_of_le HX6.out.lt hge)) (.int .i64 t)).far (p := ⟨g1, 2, none⟩) (Nat.ne_of_lt (Nat.lt_of_lt_of_le HX6.out.lt hge)) (.bool b)).far (p := ⟨g1, 3, none⟩) (Nat.ne_of_lt (Nat.lt_of_lt_of_le HX6.out.lt hge)) (.int .u64 s)).far (p := ⟨g1, 4, none⟩) (Nat.ne_of_lt (Nat.lt_of_lt_of_le HX6.out.lt hge)) (.int .u64 a)).far (p := ⟨g1, 5, none⟩) (Nat.ne_of_lt (Nat.lt_of_lt_of_le HX6.out.lt hge)) (.slice A7 n c7))
        simp at hZ
        have HE9 := Lib.hid (HE6.out.trans (hW.mono HE6.out.size))
        have HDF := Lib.hid (bts_turned hD hG hK)
        have HBF := Lib.hid (bts_below HB6.out hW)
        clear z0 z1 z2 z3 z4 z5 zl zf
        generalize ((((((wz.setCell ⟨g1, 0, none⟩ (.int .i64 f)).setCell ⟨g1, 1, none⟩ (.int .i64 t)).setCell ⟨g1, 2, none⟩ (.bool b)).setCell ⟨g1, 3, none⟩ (.int .u64 s)).setCell ⟨g1, 4, none⟩ (.int .u64 a)).setCell ⟨g1, 5, none⟩ (.slice A7 n c7)) = wf at *
        have x0 := hX.cell 0
        have x1 := hX.cell 1
        have x2 := hX.cell 2
        have x3 := hX.cell 3
        have x4 := hX.cell 4
        have x5 := hX.cell 5
        have y0 := hZ.cell 0
        have y1 := hZ.cell 1
        have y2 := hZ.cell 2
        have y3 := hZ.cell 3
        have y4 := hZ.cell 4
        have y5 := hZ.cell 5
        simp at x0 x1 x2 x3 x4 x5 y0 y1 y2 y3 y4 y5
        clear hZ hK hX hW hG hC hD
        go_wp2_with fail
        refine (same_yes f t b s a A7 A l n c7 c _ HL.out HDF.out HBF.out).mono ?_
        rintro e wg ⟨rfl, hb⟩
        have HEF := Lib.hid (HE9.out.trans (hb.mono HE9.out.size))
        clear hb
        go_wp2
        go_ret
        exact ⟨rfl, HEF.out⟩
      · intro HEND
        refine pt_fork ?_ ?_
        focus
          refine pt_op (R := fun _ _ => True) rfl (by kernel_rfl) (fun K hK => ?_)
          go_simp
          refine hK _ _ ⟨trivial, ?_⟩
          clear hK
          (try simp only [Act.put, List.setIfInBounds_toArray, List.set_cons_zero, List.set_cons_succ])
          have hE := Below.alloc (Ext.refl y) (Nat.le_refl _) (.cells #[] 5)
          have HO := Lib.hid (own_mono16 (empty_own y) HC.out.size)
          obtain ⟨g0, hg0⟩ : ∃ g, g = y.heap.size := ⟨_, rfl⟩
          have HC := Lib.hid (HC.out.trans (hE.mono HC.out.size))
          rw [← hg0] at HO ⊢
          generalize y.alloc (.cells #[] 5) = yy0 at *
          clear hE hg0
          refine pt_fork ?_ ?_
          focus
            refine pt_op (R := fun _ _ => True) rfl (by kernel_rfl) (fun K hK => ?_)
            refine wp_append_any _ (.tmp 75) (.tmp 76) _ rfl w6.heap.size 5 i0 _ 1 1 Try.underlying23 hi0 hz0 hz1 hz2 rfl (by decide) (.slice (some ⟨g0, 0, none⟩) 0 0) 0 [] rfl HO.out yy0.heap.size (some ⟨k1, 0, none⟩) m c1 (L.map bv) rfl (by have := reads_bts (bts_below HT6.out HC.out); rw [← HM.out] at this; exact this) (one_bv _) (by unfold maxLen; omega) (by omega) HC.out.size ?_
            intro v2 yy1 hown hgrow _
            refine hK _ _ ⟨trivial, ?_⟩
            clear hK
            (try simp only [Act.put, List.setIfInBounds_toArray, List.set_cons_zero, List.set_cons_succ])
            have HC := Lib.hid (below_grown HO.out HC.out hgrow HC.out.size)
            rw [Nat.zero_add, List.nil_append] at hown
            have HO := Lib.hid hown
            clear hown hgrow
            refine pt_fork ?_ ?_
            focus
              refine pt_op (R := fun _ _ => True) rfl (by kernel_rfl) (fun K hK => ?_)
              refine wp_append_any _ (.tmp 77) (.tmp 80) _ rfl w6.heap.size 5 i0 _ 1 1 Try.underlying23 hi0 hz0 hz1 hz2 rfl (by decide) v2 m (L.map bv) rfl HO.out yy1.heap.size (some ⟨k1, 0, none⟩) 0 c1 ((L.take 0).map bv) rfl (by have := reads_bts (bts_take (k := 0) (bts_below HT6.out HC.out)); rw [HQL.out] at this; exact this) (one_bv _) (by unfold maxLen; omega) (by omega) HC.out.size ?_
              intro v6 yy2 hown hgrow _
              refine hK _ _ ⟨trivial, ?_⟩
              clear hK
              (try simp only [Act.put, List.setIfInBounds_toArray, List.set_cons_zero, List.set_cons_succ])
              have HC := Lib.hid (below_grown HO.out HC.out hgrow HC.out.size)
              rw [← List.map_append] at hown
              have HO := Lib.hid hown
              clear hown hgrow
              refine pt_fork ?_ ?_
              focus
                obtain ⟨A6, c6, rfl, hB6, -⟩ := bts_own HO.out (fun i => append_lt HLT.out (fun i => getD_take_lt L 0 i HLT.out) i) (by rw [List.length_append, ← HM.out, HQL.out])
                rw [show (L ++ L.take 0).length = m + 0 from by rw [List.length_append, ← HM.out, HQL.out]] at HO ⊢
                have hcap6 := own_cap HO.out
                refine pt_opcall (R := fun _ _ => True) rfl (by kernel_rfl) (by go_simp; exact ⟨rfl, rfl⟩) ?_
                refine (wget_yes f t b s a l A6 (L ++ L.take 0) (m + 0) c6 _ (by rw [List.length_append, ← HM.out, HQL.out]) hcap6 hB6 HLQ.out hf' ht' hs ha (by rw [HL.out]; exact hn5) HB.out.1 (by rw [HL.out]; exact HR.out)).mono ?_
                rintro e yy3 ⟨A7, c7, rfl, hd, hE⟩
                rw [HL.out]
                have HD := Lib.hid hd
                refine ⟨_, rfl, trivial, ?_⟩
                (try simp only [Act.put, List.setIfInBounds_toArray, List.set_cons_zero, List.set_cons_succ])
                have HC := Lib.hid (HC.out.trans (hE.mono HC.out.size))
                clear hE hB6 hcap6 hd
                unfold frV
                iterate 3 (refine pt_take (v := ?_) rfl (by kernel_rfl) ?_ ?_; rotate_left; (focus (intro w' hw'; go_simp; try with_reducible rfl)); (try simp only [Act.put, List.setIfInBounds_toArray, List.set_cons_zero, List.set_cons_succ]))
                refine pt_turn ?_
                refine pt_op (R := fun _ _ => True) rfl (by kernel_rfl) (fun K hK => ?_)
                go_simp
                refine hK _ _ ⟨trivial, ?_⟩
                clear hK
                (try simp only [Act.put, List.setIfInBounds_toArray, List.set_cons_zero, List.set_cons_succ])
                have hE := Below.alloc (Ext.refl yy3) (Nat.le_refl _) (.cells #[.int .i64 0, .int .i64 0, .bool false, .int .u64 0, .int .u64 0, .slice none 0 0] 25)
                have HG : Hid (Blk (yy3.alloc (.cells #[.int .i64 0, .int .i64 0, .bool false, .int .u64 0, .int .u64 0, .slice none 0 0] 25)) yy3.heap.size 25 #[.int .i64 0, .int .i64 0, .bool false, .int .u64 0, .int .u64 0, .slice none 0 0]) := Lib.hid (Blkf.new_at _ _ _ _ rfl)
                obtain ⟨g1, hg1⟩ : ∃ g, g = yy3.heap.size := ⟨_, rfl⟩
                have HGE : Hid (w6.heap.size ≤ g1) := Lib.hid (by rw [hg1]; exact HC.out.size)
                have HD := Lib.hid (bts_below HD.out hE)
                have HC := Lib.hid (HC.out.trans (hE.mono HC.out.size))
                rw [← hg1] at HG ⊢
                generalize yy3.alloc (.cells #[.int .i64 0, .int .i64 0, .bool false, .int .u64 0, .int .u64 0, .slice none 0 0] 25) = yy4 at *
                clear hE hg1
                have hfin := fun u0 u2 u6 u7 u8 => HEND (xs8 u0 u2 u6 u7 u8 (.agg #[.int .i64 f, .int .i64 t, .bool b, .int .u64 s, .int .u64 a, .slice A7 n c7]) (.bool true) (.pointer (some ⟨g1, 0, none⟩))) _ ⟨A7, c7, g1, rfl, rfl, rfl, HG.out, HGE.out, HC.out, HD.out⟩
                simp only [fill, xs8, Act.put, List.setIfInBounds_toArray, List.set_cons_zero, List.set_cons_succ] at hfin
                exact hfin _ _ _ _ _
              focus
                refine pt_op (R := fun _ _ => True) rfl (by kernel_rfl) (fun K hK => ?_)
                go_simp
                refine hK _ _ ⟨trivial, ?_⟩
                clear hK
                (try simp only [Act.put, List.setIfInBounds_toArray, List.set_cons_zero, List.set_cons_succ])
                have hE := Below.alloc (Ext.refl yy2) (Nat.le_refl _) (.cells #[.int .i64 0, .int .i64 0, .bool false, .int .u64 0, .int .u64 0, .slice none 0 0] 25)
                have HG : Hid (Blk (yy2.alloc (.cells #[.int .i64 0, .int .i64 0, .bool false, .int .u64 0, .int .u64 0, .slice none 0 0] 25)) yy2.heap.size 25 #[.int .i64 0, .int .i64 0, .bool false, .int .u64 0, .int .u64 0, .slice none 0 0]) := Lib.hid (Blkf.new_at _ _ _ _ rfl)
                obtain ⟨g1, hg1⟩ : ∃ g, g = yy2.heap.size := ⟨_, rfl⟩
                have HGE : Hid (w6.heap.size ≤ g1) := Lib.hid (by rw [hg1]; exact HC.out.size)
                have HO := Lib.hid (own_below HO.out hE)
                have HC := Lib.hid (HC.out.trans (hE.mono HC.out.size))
                rw [← hg1] at HG ⊢
                generalize yy2.alloc (.cells #[.int .i64 0, .int .i64 0, .bool false, .int .u64 0, .int .u64 0, .slice none 0 0] 25) = yy3 at *
                clear hE hg1
                refine pt_turn ?_
                obtain ⟨A6, c6, rfl, hB6, -⟩ := bts_own HO.out (fun i => append_lt HLT.out (fun i => getD_take_lt L 0 i HLT.out) i) (by rw [List.length_append, ← HM.out, HQL.out])
                rw [show (L ++ L.take 0).length = m + 0 from by rw [List.length_append, ← HM.out, HQL.out]] at HO ⊢
                have hcap6 := own_cap HO.out
                refine pt_opcall (R := fun _ _ => True) rfl (by kernel_rfl) (by go_simp; exact ⟨rfl, rfl⟩) ?_
                refine (wget_yes f t b s a l A6 (L ++ L.take 0) (m + 0) c6 _ (by rw [List.length_append, ← HM.out, HQL.out]) hcap6 hB6 HLQ.out hf' ht' hs ha (by rw [HL.out]; exact hn5) HB.out.1 (by rw [HL.out]; exact HR.out)).mono ?_
                rintro e yy4 ⟨A7, c7, rfl, hd, hE⟩
                rw [HL.out]
                have HD := Lib.hid hd
                refine ⟨_, rfl, trivial, ?_⟩
                (try simp only [Act.put, List.setIfInBounds_toArray, List.set_cons_zero, List.set_cons_succ])
                have HG := Lib.hid (HG.out.below hE HG.out.lt)
                have HC := Lib.hid (HC.out.trans (hE.mono HC.out.size))
                clear hE hB6 hcap6 hd
                unfold frV
                iterate 3 (refine pt_take (v := ?_) rfl (by kernel_rfl) ?_ ?_; rotate_left; (focus (intro w' hw'; go_simp; try with_reducible rfl)); (try simp only [Act.put, List.setIfInBounds_toArray, List.set_cons_zero, List.set_cons_succ]))
                have hfin := fun u0 u2 u6 u7 u8 => HEND (xs8 u0 u2 u6 u7 u8 (.agg #[.int .i64 f, .int .i64 t, .bool b, .int .u64 s, .int .u64 a, .slice A7 n c7]) (.bool true) (.pointer (some ⟨g1, 0, none⟩))) _ ⟨A7, c7, g1, rfl, rfl, rfl, HG.out, HGE.out, HC.out, HD.out⟩
                simp only [fill, xs8, Act.put, List.setIfInBounds_toArray, List.set_cons_zero, List.set_cons_succ] at hfin
                exact hfin _ _ _ _ _
            focus
              refine pt_op (R := fun _ _ => True) rfl (by kernel_rfl) (fun K hK => ?_)
              go_simp
              refine hK _ _ ⟨trivial, ?_⟩
              clear hK
              (try simp only [Act.put, List.setIfInBounds_toArray, List.set_cons_zero, List.set_cons_succ])
              have hE := Below.alloc (Ext.refl yy1) (Nat.le_refl _) (.cells #[.int .i64 0, .int .i64 0, .bool false, .int .u64 0, .int .u64 0, .slice none 0 0] 25)
              have HG : Hid (Blk (yy1.alloc (.cells #[.int .i64 0, .int .i64 0, .bool false, .int .u64 0, .int .u64 0, .slice none 0 0] 25)) yy1.heap.size 25 #[.int .i64 0, .int .i64 0, .bool false, .int .u64 0, .int .u64 0, .slice none 0 0]) := Lib.hid (Blkf.new_at _ _ _ _ rfl)
              obtain ⟨g1, hg1⟩ : ∃ g, g = yy1.heap.size := ⟨_, rfl⟩
              have HGE : Hid (w6.heap.size ≤ g1) := Lib.hid (by rw [hg1]; exact HC.out.size)
              have HO := Lib.hid (own_below HO.out hE)
              have HC := Lib.hid (HC.out.trans (hE.mono HC.out.size))
              rw [← hg1] at HG ⊢
              generalize yy1.alloc (.cells #[.int .i64 0, .int .i64 0, .bool false, .int .u64 0, .int .u64 0, .slice none 0 0] 25) = yy2 at *
              clear hE hg1
              refine pt_turn ?_
              refine pt_op (R := fun _ _ => True) rfl (by kernel_rfl) (fun K hK => ?_)
              refine wp_append_any _ (.tmp 77) (.tmp 80) _ rfl w6.heap.size 5 i0 _ 1 1 Try.underlying23 hi0 hz0 hz1 hz2 rfl (by decide) v2 m (L.map bv) rfl HO.out yy2.heap.size (some ⟨k1, 0, none⟩) 0 c1 ((L.take 0).map bv) rfl (by have := reads_bts (bts_take (k := 0) (bts_below HT6.out HC.out)); rw [HQL.out] at this; exact this) (one_bv _) (by unfold maxLen; omega) (by omega) HC.out.size ?_
              intro v6 yy3 hown hgrow _
              refine hK _ _ ⟨trivial, ?_⟩
              clear hK
              (try simp only [Act.put, List.setIfInBounds_toArray, List.set_cons_zero, List.set_cons_succ])
              have HG := Lib.hid (HG.out.grown hgrow (fun e => row_ne_blk HO.out HG.out (by decide) e.symm))
              have HC := Lib.hid (below_grown HO.out HC.out hgrow HC.out.size)
              rw [← List.map_append] at hown
              have HO := Lib.hid hown
              clear hown hgrow
              refine pt_turn ?_
              obtain ⟨A6, c6, rfl, hB6, -⟩ := bts_own HO.out (fun i => append_lt HLT.out (fun i => getD_take_lt L 0 i HLT.out) i) (by rw [List.length_append, ← HM.out, HQL.out])
              rw [show (L ++ L.take 0).length = m + 0 from by rw [List.length_append, ← HM.out, HQL.out]] at HO ⊢
              have hcap6 := own_cap HO.out
              refine pt_opcall (R := fun _ _ => True) rfl (by kernel_rfl) (by go_simp; exact ⟨rfl, rfl⟩) ?_
              refine (wget_yes f t b s a l A6 (L ++ L.take 0) (m + 0) c6 _ (by rw [List.length_append, ← HM.out, HQL.out]) hcap6 hB6 HLQ.out hf' ht' hs ha (by rw [HL.out]; exact hn5) HB.out.1 (by rw [HL.out]; exact HR.out)).mono ?_
              rintro e yy4 ⟨A7, c7, rfl, hd, hE⟩
              rw [HL.out]
              have HD := Lib.hid hd
              refine ⟨_, rfl, trivial, ?_⟩
              (try simp only [Act.put, List.setIfInBounds_toArray, List.set_cons_zero, List.set_cons_succ])
              have HG := Lib.hid (HG.out.below hE HG.out.lt)
              have HC := Lib.hid (HC.out.trans (hE.mono HC.out.size))
              clear hE hB6 hcap6 hd
              unfold frV
              iterate 3 (refine pt_take (v := ?_) rfl (by kernel_rfl) ?_ ?_; rotate_left; (focus (intro w' hw'; go_simp; try with_reducible rfl)); (try simp only [Act.put, List.setIfInBounds_toArray, List.set_cons_zero, List.set_cons_succ]))
              have hfin := fun u0 u2 u6 u7 u8 => HEND (xs8 u0 u2 u6 u7 u8 (.agg #[.int .i64 f, .int .i64 t, .bool b, .int .u64 s, .int .u64 a, .slice A7 n c7]) (.bool true) (.pointer (some ⟨g1, 0, none⟩))) _ ⟨A7, c7, g1, rfl, rfl, rfl, HG.out, HGE.out, HC.out, HD.out⟩
              simp only [fill, xs8, Act.put, List.setIfInBounds_toArray, List.set_cons_zero, List.set_cons_succ] at hfin
              exact hfin _ _ _ _ _
          focus
            refine pt_op (R := fun _ _ => True) rfl (by kernel_rfl) (fun K hK => ?_)
            go_simp
            refine hK _ _ ⟨trivial, ?_⟩
            clear hK
            (try simp only [Act.put, List.setIfInBounds_toArray, List.set_cons_zero, List.set_cons_succ])
            have hE := Below.alloc (Ext.refl yy0) (Nat.le_refl _) (.cells #[.int .i64 0, .int .i64 0, .bool false, .int .u64 0, .int .u64 0, .slice none 0 0] 25)
            have HG : Hid (Blk (yy0.alloc (.cells #[.int .i64 0, .int .i64 0, .bool false, .int .u64 0, .int .u64 0, .slice none 0 0] 25)) yy0.heap.size 25 #[.int .i64 0, .int .i64 0, .bool false, .int .u64 0, .int .u64 0, .slice none 0 0]) := Lib.hid (Blkf.new_at _ _ _ _ rfl)
            obtain ⟨g1, hg1⟩ : ∃ g, g = yy0.heap.size := ⟨_, rfl⟩
            have HGE : Hid (w6.heap.size ≤ g1) := Lib.hid (by rw [hg1]; exact HC.out.size)
            have HO := Lib.hid (own_below HO.out hE)
            have HC := Lib.hid (HC.out.trans (hE.mono HC.out.size))
            rw [← hg1] at HG ⊢
            generalize yy0.alloc (.cells #[.int .i64 0, .int .i64 0, .bool false, .int .u64 0, .int .u64 0, .slice none 0 0] 25) = yy1 at *
            clear hE hg1
            refine pt_turn ?_
            refine pt_op (R := fun _ _ => True) rfl (by kernel_rfl) (fun K hK => ?_)
            refine wp_append_any _ (.tmp 75) (.tmp 76) _ rfl w6.heap.size 5 i0 _ 1 1 Try.underlying23 hi0 hz0 hz1 hz2 rfl (by decide) (.slice (some ⟨g0, 0, none⟩) 0 0) 0 [] rfl HO.out yy1.heap.size (some ⟨k1, 0, none⟩) m c1 (L.map bv) rfl (by have := reads_bts (bts_below HT6.out HC.out); rw [← HM.out] at this; exact this) (one_bv _) (by unfold maxLen; omega) (by omega) HC.out.size ?_
            intro v2 yy2 hown hgrow _
            refine hK _ _ ⟨trivial, ?_⟩
            clear hK
            (try simp only [Act.put, List.setIfInBounds_toArray, List.set_cons_zero, List.set_cons_succ])
            have HG := Lib.hid (HG.out.grown hgrow (fun e => row_ne_blk HO.out HG.out (by decide) e.symm))
            have HC := Lib.hid (below_grown HO.out HC.out hgrow HC.out.size)
            rw [Nat.zero_add, List.nil_append] at hown
            have HO := Lib.hid hown
            clear hown hgrow
            refine pt_turn ?_
            refine pt_op (R := fun _ _ => True) rfl (by kernel_rfl) (fun K hK => ?_)
            refine wp_append_any _ (.tmp 77) (.tmp 80) _ rfl w6.heap.size 5 i0 _ 1 1 Try.underlying23 hi0 hz0 hz1 hz2 rfl (by decide) v2 m (L.map bv) rfl HO.out yy2.heap.size (some ⟨k1, 0, none⟩) 0 c1 ((L.take 0).map bv) rfl (by have := reads_bts (bts_take (k := 0) (bts_below HT6.out HC.out)); rw [HQL.out] at this; exact this) (one_bv _) (by unfold maxLen; omega) (by omega) HC.out.size ?_
            intro v6 yy3 hown hgrow _
            refine hK _ _ ⟨trivial, ?_⟩
            clear hK
            (try simp only [Act.put, List.setIfInBounds_toArray, List.set_cons_zero, List.set_cons_succ])
            have HG := Lib.hid (HG.out.grown hgrow (fun e => row_ne_blk HO.out HG.out (by decide) e.symm))
            have HC := Lib.hid (below_grown HO.out HC.out hgrow HC.out.size)
            rw [← List.map_append] at hown
            have HO := Lib.hid hown
            clear hown hgrow
            refine pt_turn ?_
            obtain ⟨A6, c6, rfl, hB6, -⟩ := bts_own HO.out (fun i => append_lt HLT.out (fun i => getD_take_lt L 0 i HLT.out) i) (by rw [List.length_append, ← HM.out, HQL.out])
            rw [show (L ++ L.take 0).length = m + 0 from by rw [List.length_append, ← HM.out, HQL.out]] at HO ⊢
            have hcap6 := own_cap HO.out
            refine pt_opcall (R := fun _ _ => True) rfl (by kernel_rfl) (by go_simp; exact ⟨rfl, rfl⟩) ?_
            refine (wget_yes f t b s a l A6 (L ++ L.take 0) (m + 0) c6 _ (by rw [List.length_append, ← HM.out, HQL.out]) hcap6 hB6 HLQ.out hf' ht' hs ha (by rw [HL.out]; exact hn5) HB.out.1 (by rw [HL.out]; exact HR.out)).mono ?_
            rintro e yy4 ⟨A7, c7, rfl, hd, hE⟩
            rw [HL.out]
            have HD := Lib.hid hd
            refine ⟨_, rfl, trivial, ?_⟩
            (try simp only [Act.put, List.setIfInBounds_toArray, List.set_cons_zero, List.set_cons_succ])
            have HG := Lib.hid (HG.out.below hE HG.out.lt)
            have HC := Lib.hid (HC.out.trans (hE.mono HC.out.size))
            clear hE hB6 hcap6 hd
            unfold frV
            iterate 3 (refine pt_take (v := ?_) rfl (by kernel_rfl) ?_ ?_; rotate_left; (focus (intro w' hw'; go_simp; try with_reducible rfl)); (try simp only [Act.put, List.setIfInBounds_toArray, List.set_cons_zero, List.set_cons_succ]))
            have hfin := fun u0 u2 u6 u7 u8 => HEND (xs8 u0 u2 u6 u7 u8 (.agg #[.int .i64 f, .int .i64 t, .bool b, .int .u64 s, .int .u64 a, .slice A7 n c7]) (.bool true) (.pointer (some ⟨g1, 0, none⟩))) _ ⟨A7, c7, g1, rfl, rfl, rfl, HG.out, HGE.out, HC.out, HD.out⟩
            simp only [fill, xs8, Act.put, List.setIfInBounds_toArray, List.set_cons_zero, List.set_cons_succ] at hfin
            exact hfin _ _ _ _ _
        focus
          refine pt_op (R := fun _ _ => True) rfl (by kernel_rfl) (fun K hK => ?_)
          go_simp
          refine hK _ _ ⟨trivial, ?_⟩
          clear hK
          (try simp only [Act.put, List.setIfInBounds_toArray, List.set_cons_zero, List.set_cons_succ])
          have hE := Below.alloc (Ext.refl y) (Nat.le_refl _) (.cells #[.int .i64 0, .int .i64 0, .bool false, .int .u64 0, .int .u64 0, .slice none 0 0] 25)
          have HG : Hid (Blk (y.alloc (.cells #[.int .i64 0, .int .i64 0, .bool false, .int .u64 0, .int .u64 0, .slice none 0 0] 25)) y.heap.size 25 #[.int .i64 0, .int .i64 0, .bool false, .int .u64 0, .int .u64 0, .slice none 0 0]) := Lib.hid (Blkf.new_at _ _ _ _ rfl)
          obtain ⟨g1, hg1⟩ : ∃ g, g = y.heap.size := ⟨_, rfl⟩
          have HGE : Hid (w6.heap.size ≤ g1) := Lib.hid (by rw [hg1]; exact HC.out.size)
          have HC := Lib.hid (HC.out.trans (hE.mono HC.out.size))
          rw [← hg1] at HG ⊢
          generalize y.alloc (.cells #[.int .i64 0, .int .i64 0, .bool false, .int .u64 0, .int .u64 0, .slice none 0 0] 25) = yy0 at *
          clear hE hg1
          refine pt_turn ?_
          refine pt_op (R := fun _ _ => True) rfl (by kernel_rfl) (fun K hK => ?_)
          go_simp
          refine hK _ _ ⟨trivial, ?_⟩
          clear hK
          (try simp only [Act.put, List.setIfInBounds_toArray, List.set_cons_zero, List.set_cons_succ])
          have hE := Below.alloc (Ext.refl yy0) (Nat.le_refl _) (.cells #[] 5)
          have HO := Lib.hid (own_mono16 (empty_own yy0) HC.out.size)
          obtain ⟨g0, hg0⟩ : ∃ g, g = yy0.heap.size := ⟨_, rfl⟩
          have HG := Lib.hid (HG.out.below hE HG.out.lt)
          have HC := Lib.hid (HC.out.trans (hE.mono HC.out.size))
          rw [← hg0] at HO ⊢
          generalize yy0.alloc (.cells #[] 5) = yy1 at *
          clear hE hg0
          refine pt_turn ?_
          refine pt_op (R := fun _ _ => True) rfl (by kernel_rfl) (fun K hK => ?_)
          refine wp_append_any _ (.tmp 75) (.tmp 76) _ rfl w6.heap.size 5 i0 _ 1 1 Try.underlying23 hi0 hz0 hz1 hz2 rfl (by decide) (.slice (some ⟨g0, 0, none⟩) 0 0) 0 [] rfl HO.out yy1.heap.size (some ⟨k1, 0, none⟩) m c1 (L.map bv) rfl (by have := reads_bts (bts_below HT6.out HC.out); rw [← HM.out] at this; exact this) (one_bv _) (by unfold maxLen; omega) (by omega) HC.out.size ?_
          intro v2 yy2 hown hgrow _
          refine hK _ _ ⟨trivial, ?_⟩
          clear hK
          (try simp only [Act.put, List.setIfInBounds_toArray, List.set_cons_zero, List.set_cons_succ])
          have HG := Lib.hid (HG.out.grown hgrow (fun e => row_ne_blk HO.out HG.out (by decide) e.symm))
          have HC := Lib.hid (below_grown HO.out HC.out hgrow HC.out.size)
          rw [Nat.zero_add, List.nil_append] at hown
          have HO := Lib.hid hown
          clear hown hgrow
          refine pt_turn ?_
          refine pt_op (R := fun _ _ => True) rfl (by kernel_rfl) (fun K hK => ?_)
          refine wp_append_any _ (.tmp 77) (.tmp 80) _ rfl w6.heap.size 5 i0 _ 1 1 Try.underlying23 hi0 hz0 hz1 hz2 rfl (by decide) v2 m (L.map bv) rfl HO.out yy2.heap.size (some ⟨k1, 0, none⟩) 0 c1 ((L.take 0).map bv) rfl (by have := reads_bts (bts_take (k := 0) (bts_below HT6.out HC.out)); rw [HQL.out] at this; exact this) (one_bv _) (by unfold maxLen; omega) (by omega) HC.out.size ?_
          intro v6 yy3 hown hgrow _
          refine hK _ _ ⟨trivial, ?_⟩
          clear hK
          (try simp only [Act.put, List.setIfInBounds_toArray, List.set_cons_zero, List.set_cons_succ])
          have HG := Lib.hid (HG.out.grown hgrow (fun e => row_ne_blk HO.out HG.out (by decide) e.symm))
          have HC := Lib.hid (below_grown HO.out HC.out hgrow HC.out.size)
          rw [← List.map_append] at hown
          have HO := Lib.hid hown
          clear hown hgrow
          refine pt_turn ?_
          obtain ⟨A6, c6, rfl, hB6, -⟩ := bts_own HO.out (fun i => append_lt HLT.out (fun i => getD_take_lt L 0 i HLT.out) i) (by rw [List.length_append, ← HM.out, HQL.out])
          rw [show (L ++ L.take 0).length = m + 0 from by rw [List.length_append, ← HM.out, HQL.out]] at HO ⊢
          have hcap6 := own_cap HO.out
          refine pt_opcall (R := fun _ _ => True) rfl (by kernel_rfl) (by go_simp; exact ⟨rfl, rfl⟩) ?_
          refine (wget_yes f t b s a l A6 (L ++ L.take 0) (m + 0) c6 _ (by rw [List.length_append, ← HM.out, HQL.out]) hcap6 hB6 HLQ.out hf' ht' hs ha (by rw [HL.out]; exact hn5) HB.out.1 (by rw [HL.out]; exact HR.out)).mono ?_
          rintro e yy4 ⟨A7, c7, rfl, hd, hE⟩
          rw [HL.out]
          have HD := Lib.hid hd
          refine ⟨_, rfl, trivial, ?_⟩
          (try simp only [Act.put, List.setIfInBounds_toArray, List.set_cons_zero, List.set_cons_succ])
          have HG := Lib.hid (HG.out.below hE HG.out.lt)
          have HC := Lib.hid (HC.out.trans (hE.mono HC.out.size))
          clear hE hB6 hcap6 hd
          unfold frV
          iterate 3 (refine pt_take (v := ?_) rfl (by kernel_rfl) ?_ ?_; rotate_left; (focus (intro w' hw'; go_simp; try with_reducible rfl)); (try simp only [Act.put, List.setIfInBounds_toArray, List.set_cons_zero, List.set_cons_succ]))
          have hfin := fun u0 u2 u6 u7 u8 => HEND (xs8 u0 u2 u6 u7 u8 (.agg #[.int .i64 f, .int .i64 t, .bool b, .int .u64 s, .int .u64 a, .slice A7 n c7]) (.bool true) (.pointer (some ⟨g1, 0, none⟩))) _ ⟨A7, c7, g1, rfl, rfl, rfl, HG.out, HGE.out, HC.out, HD.out⟩
          simp only [fill, xs8, Act.put, List.setIfInBounds_toArray, List.set_cons_zero, List.set_cons_succ] at hfin
          exact hfin _ _ _ _ _
    · skip
      refine wp_region_pt (fun _ _ => True) ⟨fun _ => trivial, fun _ _ => trivial⟩ (PT.steps [1, 3, 4, 5] (.fork 0 (.fork 2 (.fork 6 (.fork 7 (PT.steps [8, 9, 10] (.turn 11 (.rest 2 (doneL 14 [1, 3, 4, 5, 0, 2, 6, 7, 8, 9, 10, 11])))) 11 (.turn 7 (PT.steps [8, 9, 10] (.rest 2 (doneL 14 [1, 3, 4, 5, 0, 2, 6, 7, 8, 9, 10, 11]))))) 11 (.turn 6 (.turn 7 (PT.steps [8, 9, 10] (.rest 2 (doneL 14 [1, 3, 4, 5, 0, 2, 6, 7, 8, 9, 10, 11])))))) 11 (.turn 2 (.turn 6 (.turn 7 (PT.steps [8, 9, 10] (.rest 2 (doneL 14 [1, 3, 4, 5, 0, 2, 6, 7, 8, 9, 10, 11]))))))) 11 (.turn 0 (.turn 2 (.turn 6 (.turn 7 (PT.steps [8, 9, 10] (.rest 2 (doneL 14 [1, 3, 4, 5, 0, 2, 6, 7, 8, 9, 10, 11]))))))))) (by kernel_rfl) (by kernel_rfl) (fun _ d _ _ _ h => by cases d <;> exact h) ?_
      unfold PT.steps
      iterate 4 (refine pt_take (v := ?_) rfl (by kernel_rfl) ?_ ?_; rotate_left; (focus (intro w' hw'; go_simp; try with_reducible rfl)); simp only [Act.put, List.setIfInBounds_toArray, List.set_cons_zero, List.set_cons_succ])
      have HC : Hid (Below w6.heap.size w6 w6.drew) := Lib.hid ((Below.refl _ w6).drew)
      generalize w6.drew = y at *
      refine pt_join (L := doneL 14 [1, 3, 4, 5, 0, 2, 6, 7, 8, 9, 10, 11]) (k := 2) (ds := [(0, some 75), (2, some 77), (6, some 81), (7, some 82), (8, some 74), (9, some 83), (10, some 84), (11, some 16)]) (fun x wz => ∃ (f7 t7 : Int) (b7 : Bool) (s7 a7 : Nat) (A7 : Option Addr) (n7 c7 : Nat) (g1 : Nat), x 9 = (.agg #[.int .i64 f7, .int .i64 t7, .bool b7, .int .u64 s7, .int .u64 a7, .slice A7 n7 c7]) ∧ x 10 = .bool false ∧ x 11 = .pointer (some ⟨g1, 0, none⟩) ∧ Blk wz g1 25 #[.int .i64 0, .int .i64 0, .bool false, .int .u64 0, .int .u64 0, .slice none 0 0] ∧ w6.heap.size ≤ g1 ∧ Below w6.heap.size w6 wz) (.turn 12 (.step 13 .done)) (by kernel_rfl) ⟨fun _ => trivial, fun _ _ => trivial⟩ (fun _ d _ _ _ h => by cases d <;> exact h) rfl (by kernel_rfl) ?_ ?_
      · rintro x wz ⟨f7, t7, b7, s7, a7, A7, n7, c7, g1, e9, e10, e11, hG, hge, hC⟩
        simp only [fill, Act.put, List.setIfInBounds_toArray, List.set_cons_zero, List.set_cons_succ]
        rw [e9, e10, e11]
        have z0 := hG.cell 0
        have z1 := hG.cell 1
        have z2 := hG.cell 2
        have z3 := hG.cell 3
        have z4 := hG.cell 4
        have z5 := hG.cell 5
        have zl := hG.lt
        have zf := fun i => hG.frozen i
        simp at z0 z1 z2 z3 z4 z5
        refine pt_turn ?_
        refine pt_op (R := fun _ _ => True) rfl (by kernel_rfl) (fun K hK => ?_)
        go_simp
        refine hK _ _ ⟨trivial, ?_⟩
        clear hK
        (try simp only [Act.put, List.setIfInBounds_toArray, List.set_cons_zero, List.set_cons_succ])
        iterate 1 (refine pt_take (v := ?_) rfl (by kernel_rfl) ?_ ?_; rotate_left; (focus (intro w' hw'; go_simp; try with_reducible rfl)); (try simp only [Act.put, List.setIfInBounds_toArray, List.set_cons_zero, List.set_cons_succ]))
        refine pt_end ?_
        have hW := ((((((hC.setCell (p := ⟨g1, 0, none⟩) hge (.int .i64 f7)).setCell (p := ⟨g1, 1, none⟩) hge (.int .i64 t7)).setCell (p := ⟨g1, 2, none⟩) hge (.bool b7)).setCell (p := ⟨g1, 3, none⟩) hge (.int .u64 s7)).setCell (p := ⟨g1, 4, none⟩) hge (.int .u64 a7)).setCell (p := ⟨g1, 5, none⟩) hge (.slice A7 n7 c7))
        have HE9 := Lib.hid (HE6.out.trans (hW.mono HE6.out.size))
        clear hW hG hC z0 z1 z2 z3 z4 z5 zl zf
        go_wp2
        go_ret
        exact ⟨rfl, HE9.out⟩
      · intro HEND
        refine pt_fork ?_ ?_
        focus
          refine pt_op (R := fun _ _ => True) rfl (by kernel_rfl) (fun K hK => ?_)
          go_simp
          refine hK _ _ ⟨trivial, ?_⟩
          clear hK
          (try simp only [Act.put, List.setIfInBounds_toArray, List.set_cons_zero, List.set_cons_succ])
          have hE := Below.alloc (Ext.refl y) (Nat.le_refl _) (.cells #[] 5)
          have HO := Lib.hid (own_mono16 (empty_own y) HC.out.size)
          obtain ⟨g0, hg0⟩ : ∃ g, g = y.heap.size := ⟨_, rfl⟩
          have HC := Lib.hid (HC.out.trans (hE.mono HC.out.size))
          rw [← hg0] at HO ⊢
          generalize y.alloc (.cells #[] 5) = yy0 at *
          clear hE hg0
          refine pt_fork ?_ ?_
          focus
            refine pt_op (R := fun _ _ => True) rfl (by kernel_rfl) (fun K hK => ?_)
            refine wp_append_any _ (.tmp 75) (.tmp 76) _ rfl w6.heap.size 5 i0 _ 1 1 Try.underlying23 hi0 hz0 hz1 hz2 rfl (by decide) (.slice (some ⟨g0, 0, none⟩) 0 0) 0 [] rfl HO.out yy0.heap.size (some ⟨k1, 0, none⟩) m c1 (L.map bv) rfl (by have := reads_bts (bts_below HT6.out HC.out); rw [← HM.out] at this; exact this) (one_bv _) (by unfold maxLen; omega) (by omega) HC.out.size ?_
            intro v2 yy1 hown hgrow _
            refine hK _ _ ⟨trivial, ?_⟩
            clear hK
            (try simp only [Act.put, List.setIfInBounds_toArray, List.set_cons_zero, List.set_cons_succ])
            have HC := Lib.hid (below_grown HO.out HC.out hgrow HC.out.size)
            rw [Nat.zero_add, List.nil_append] at hown
            have HO := Lib.hid hown
            clear hown hgrow
            refine pt_fork ?_ ?_
            focus
              refine pt_op (R := fun _ _ => True) rfl (by kernel_rfl) (fun K hK => ?_)
              refine wp_append_any _ (.tmp 77) (.tmp 80) _ rfl w6.heap.size 5 i0 _ 1 1 Try.underlying23 hi0 hz0 hz1 hz2 rfl (by decide) v2 m (L.map bv) rfl HO.out yy1.heap.size (some ⟨k1, 0, none⟩) q c1 ((L.take q).map bv) rfl (by have := reads_bts (bts_take (k := q) (bts_below HT6.out HC.out)); rw [HQL.out] at this; exact this) (one_bv _) (by unfold maxLen; omega) (by omega) HC.out.size ?_
              intro v6 yy2 hown hgrow _
              refine hK _ _ ⟨trivial, ?_⟩
              clear hK
              (try simp only [Act.put, List.setIfInBounds_toArray, List.set_cons_zero, List.set_cons_succ])
              have HC := Lib.hid (below_grown HO.out HC.out hgrow HC.out.size)
              rw [← List.map_append] at hown
              have HO := Lib.hid hown
              clear hown hgrow
              refine pt_fork ?_ ?_
              focus
                obtain ⟨A6, c6, rfl, hB6, -⟩ := bts_own HO.out (fun i => append_lt HLT.out (fun i => getD_take_lt L q i HLT.out) i) (by rw [List.length_append, ← HM.out, HQL.out])
                rw [show (L ++ L.take q).length = m + q from by rw [List.length_append, ← HM.out, HQL.out]] at HO ⊢
                have hcap6 := own_cap HO.out
                refine pt_opcall (R := fun _ _ => True) rfl (by kernel_rfl) (by go_simp; exact ⟨rfl, rfl⟩) ?_
                refine (wget_sym A6 (L ++ L.take q) (m + q) c6 _ (by rw [List.length_append, ← HM.out, HQL.out]) (by omega) hcap6 hB6).mono ?_
                rintro e yy3 ⟨⟨f7, t7, b7, s7, a7, A7, n7, c7, rfl⟩, hE⟩
                rw [HX16.out (by omega)]
                refine ⟨_, rfl, trivial, ?_⟩
                (try simp only [Act.put, List.setIfInBounds_toArray, List.set_cons_zero, List.set_cons_succ])
                have HC := Lib.hid (HC.out.trans (hE.mono HC.out.size))
                clear hE hB6 hcap6
                unfold frV
                iterate 3 (refine pt_take (v := ?_) rfl (by kernel_rfl) ?_ ?_; rotate_left; (focus (intro w' hw'; go_simp; try with_reducible rfl)); (try simp only [Act.put, List.setIfInBounds_toArray, List.set_cons_zero, List.set_cons_succ]))
                refine pt_turn ?_
                refine pt_op (R := fun _ _ => True) rfl (by kernel_rfl) (fun K hK => ?_)
                go_simp
                refine hK _ _ ⟨trivial, ?_⟩
                clear hK
                (try simp only [Act.put, List.setIfInBounds_toArray, List.set_cons_zero, List.set_cons_succ])
                have hE := Below.alloc (Ext.refl yy3) (Nat.le_refl _) (.cells #[.int .i64 0, .int .i64 0, .bool false, .int .u64 0, .int .u64 0, .slice none 0 0] 25)
                have HG : Hid (Blk (yy3.alloc (.cells #[.int .i64 0, .int .i64 0, .bool false, .int .u64 0, .int .u64 0, .slice none 0 0] 25)) yy3.heap.size 25 #[.int .i64 0, .int .i64 0, .bool false, .int .u64 0, .int .u64 0, .slice none 0 0]) := Lib.hid (Blkf.new_at _ _ _ _ rfl)
                obtain ⟨g1, hg1⟩ : ∃ g, g = yy3.heap.size := ⟨_, rfl⟩
                have HGE : Hid (w6.heap.size ≤ g1) := Lib.hid (by rw [hg1]; exact HC.out.size)
                have HC := Lib.hid (HC.out.trans (hE.mono HC.out.size))
                rw [← hg1] at HG ⊢
                generalize yy3.alloc (.cells #[.int .i64 0, .int .i64 0, .bool false, .int .u64 0, .int .u64 0, .slice none 0 0] 25) = yy4 at *
                clear hE hg1
                have hfin := fun u0 u2 u6 u7 u8 => HEND (xs8 u0 u2 u6 u7 u8 (.agg #[.int .i64 f7, .int .i64 t7, .bool b7, .int .u64 s7, .int .u64 a7, .slice A7 n7 c7]) (.bool false) (.pointer (some ⟨g1, 0, none⟩))) _ ⟨f7, t7, b7, s7, a7, A7, n7, c7, g1, rfl, rfl, rfl, HG.out, HGE.out, HC.out⟩
                simp only [fill, xs8, Act.put, List.setIfInBounds_toArray, List.set_cons_zero, List.set_cons_succ] at hfin
                exact hfin _ _ _ _ _
              focus
                refine pt_op (R := fun _ _ => True) rfl (by kernel_rfl) (fun K hK => ?_)
                go_simp
                refine hK _ _ ⟨trivial, ?_⟩
                clear hK
                (try simp only [Act.put, List.setIfInBounds_toArray, List.set_cons_zero, List.set_cons_succ])
                have hE := Below.alloc (Ext.refl yy2) (Nat.le_refl _) (.cells #[.int .i64 0, .int .i64 0, .bool false, .int .u64 0, .int .u64 0, .slice none 0 0] 25)
                have HG : Hid (Blk (yy2.alloc (.cells #[.int .i64 0, .int .i64 0, .bool false, .int .u64 0, .int .u64 0, .slice none 0 0] 25)) yy2.heap.size 25 #[.int .i64 0, .int .i64 0, .bool false, .int .u64 0, .int .u64 0, .slice none 0 0]) := Lib.hid (Blkf.new_at _ _ _ _ rfl)
                obtain ⟨g1, hg1⟩ : ∃ g, g = yy2.heap.size := ⟨_, rfl⟩
                have HGE : Hid (w6.heap.size ≤ g1) := Lib.hid (by rw [hg1]; exact HC.out.size)
                have HO := Lib.hid (own_below HO.out hE)
                have HC := Lib.hid (HC.out.trans (hE.mono HC.out.size))
                rw [← hg1] at HG ⊢
                generalize yy2.alloc (.cells #[.int .i64 0, .int .i64 0, .bool false, .int .u64 0, .int .u64 0, .slice none 0 0] 25) = yy3 at *
                clear hE hg1
                refine pt_turn ?_
                obtain ⟨A6, c6, rfl, hB6, -⟩ := bts_own HO.out (fun i => append_lt HLT.out (fun i => getD_take_lt L q i HLT.out) i) (by rw [List.length_append, ← HM.out, HQL.out])
                rw [show (L ++ L.take q).length = m + q from by rw [List.length_append, ← HM.out, HQL.out]] at HO ⊢
                have hcap6 := own_cap HO.out
                refine pt_opcall (R := fun _ _ => True) rfl (by kernel_rfl) (by go_simp; exact ⟨rfl, rfl⟩) ?_
                refine (wget_sym A6 (L ++ L.take q) (m + q) c6 _ (by rw [List.length_append, ← HM.out, HQL.out]) (by omega) hcap6 hB6).mono ?_
                rintro e yy4 ⟨⟨f7, t7, b7, s7, a7, A7, n7, c7, rfl⟩, hE⟩
                rw [HX16.out (by omega)]
                refine ⟨_, rfl, trivial, ?_⟩
                (try simp only [Act.put, List.setIfInBounds_toArray, List.set_cons_zero, List.set_cons_succ])
                have HG := Lib.hid (HG.out.below hE HG.out.lt)
                have HC := Lib.hid (HC.out.trans (hE.mono HC.out.size))
                clear hE hB6 hcap6
                unfold frV
                iterate 3 (refine pt_take (v := ?_) rfl (by kernel_rfl) ?_ ?_; rotate_left; (focus (intro w' hw'; go_simp; try with_reducible rfl)); (try simp only [Act.put, List.setIfInBounds_toArray, List.set_cons_zero, List.set_cons_succ]))
                have hfin := fun u0 u2 u6 u7 u8 => HEND (xs8 u0 u2 u6 u7 u8 (.agg #[.int .i64 f7, .int .i64 t7, .bool b7, .int .u64 s7, .int .u64 a7, .slice A7 n7 c7]) (.bool false) (.pointer (some ⟨g1, 0, none⟩))) _ ⟨f7, t7, b7, s7, a7, A7, n7, c7, g1, rfl, rfl, rfl, HG.out, HGE.out, HC.out⟩
                simp only [fill, xs8, Act.put, List.setIfInBounds_toArray, List.set_cons_zero, List.set_cons_succ] at hfin
                exact hfin _ _ _ _ _
            focus
              refine pt_op (R := fun _ _ => True) rfl (by kernel_rfl) (fun K hK => ?_)
              go_simp
              refine hK _ _ ⟨trivial, ?_⟩
              clear hK
              (try simp only [Act.put, List.setIfInBounds_toArray, List.set_cons_zero, List.set_cons_succ])
              have hE := Below.alloc (Ext.refl yy1) (Nat.le_refl _) (.cells #[.int .i64 0, .int .i64 0, .bool false, .int .u64 0, .int .u64 0, .slice none 0 0] 25)
              have HG : Hid (Blk (yy1.alloc (.cells #[.int .i64 0, .int .i64 0, .bool false, .int .u64 0, .int .u64 0, .slice none 0 0] 25)) yy1.heap.size 25 #[.int .i64 0, .int .i64 0, .bool false, .int .u64 0, .int .u64 0, .slice none 0 0]) := Lib.hid (Blkf.new_at _ _ _ _ rfl)
              obtain ⟨g1, hg1⟩ : ∃ g, g = yy1.heap.size := ⟨_, rfl⟩
              have HGE : Hid (w6.heap.size ≤ g1) := Lib.hid (by rw [hg1]; exact HC.out.size)
              have HO := Lib.hid (own_below HO.out hE)
              have HC := Lib.hid (HC.out.trans (hE.mono HC.out.size))
              rw [← hg1] at HG ⊢
              generalize yy1.alloc (.cells #[.int .i64 0, .int .i64 0, .bool false, .int .u64 0, .int .u64 0, .slice none 0 0] 25) = yy2 at *
              clear hE hg1
              refine pt_turn ?_
              refine pt_op (R := fun _ _ => True) rfl (by kernel_rfl) (fun K hK => ?_)
              refine wp_append_any _ (.tmp 77) (.tmp 80) _ rfl w6.heap.size 5 i0 _ 1 1 Try.underlying23 hi0 hz0 hz1 hz2 rfl (by decide) v2 m (L.map bv) rfl HO.out yy2.heap.size (some ⟨k1, 0, none⟩) q c1 ((L.take q).map bv) rfl (by have := reads_bts (bts_take (k := q) (bts_below HT6.out HC.out)); rw [HQL.out] at this; exact this) (one_bv _) (by unfold maxLen; omega) (by omega) HC.out.size ?_
              intro v6 yy3 hown hgrow _
              refine hK _ _ ⟨trivial, ?_⟩
              clear hK
              (try simp only [Act.put, List.setIfInBounds_toArray, List.set_cons_zero, List.set_cons_succ])
              have HG := Lib.hid (HG.out.grown hgrow (fun e => row_ne_blk HO.out HG.out (by decide) e.symm))
              have HC := Lib.hid (below_grown HO.out HC.out hgrow HC.out.size)
              rw [← List.map_append] at hown
              have HO := Lib.hid hown
              clear hown hgrow
              refine pt_turn ?_
              obtain ⟨A6, c6, rfl, hB6, -⟩ := bts_own HO.out (fun i => append_lt HLT.out (fun i => getD_take_lt L q i HLT.out) i) (by rw [List.length_append, ← HM.out, HQL.out])
              rw [show (L ++ L.take q).length = m + q from by rw [List.length_append, ← HM.out, HQL.out]] at HO ⊢
              have hcap6 := own_cap HO.out
              refine pt_opcall (R := fun _ _ => True) rfl (by kernel_rfl) (by go_simp; exact ⟨rfl, rfl⟩) ?_
              refine (wget_sym A6 (L ++ L.take q) (m + q) c6 _ (by rw [List.length_append, ← HM.out, HQL.out]) (by omega) hcap6 hB6).mono ?_
              rintro e yy4 ⟨⟨f7, t7, b7, s7, a7, A7, n7, c7, rfl⟩, hE⟩
              rw [HX16.out (by omega)]
              refine ⟨_, rfl, trivial, ?_⟩
              (try simp only [Act.put, List.setIfInBounds_toArray, List.set_cons_zero, List.set_cons_succ])
              have HG := Lib.hid (HG.out.below hE HG.out.lt)
              have HC := Lib.hid (HC.out.trans (hE.mono HC.out.size))
              clear hE hB6 hcap6
              unfold frV
              iterate 3 (refine pt_take (v := ?_) rfl (by kernel_rfl) ?_ ?_; rotate_left; (focus (intro w' hw'; go_simp; try with_reducible rfl)); (try simp only [Act.put, List.setIfInBounds_toArray, List.set_cons_zero, List.set_cons_succ]))
              have hfin := fun u0 u2 u6 u7 u8 => HEND (xs8 u0 u2 u6 u7 u8 (.agg #[.int .i64 f7, .int .i64 t7, .bool b7, .int .u64 s7, .int .u64 a7, .slice A7 n7 c7]) (.bool false) (.pointer (some ⟨g1, 0, none⟩))) _ ⟨f7, t7, b7, s7, a7, A7, n7, c7, g1, rfl, rfl, rfl, HG.out, HGE.out, HC.out⟩
              simp only [fill, xs8, Act.put, List.setIfInBounds_toArray, List.set_cons_zero, List.set_cons_succ] at hfin
              exact hfin _ _ _ _ _
          focus
            refine pt_op (R := fun _ _ => True) rfl (by kernel_rfl) (fun K hK => ?_)
            go_simp
            refine hK _ _ ⟨trivial, ?_⟩
            clear hK
            (try simp only [Act.put, List.setIfInBounds_toArray, List.set_cons_zero, List.set_cons_succ])
            have hE := Below.alloc (Ext.refl yy0) (Nat.le_refl _) (.cells #[.int .i64 0, .int .i64 0, .bool false, .int .u64 0, .int .u64 0, .slice none 0 0] 25)
            have HG : Hid (Blk (yy0.alloc (.cells #[.int .i64 0, .int .i64 0, .bool false, .int .u64 0, .int .u64 0, .slice none 0 0] 25)) yy0.heap.size 25 #[.int .i64 0, .int .i64 0, .bool false, .int .u64 0, .int .u64 0, .slice none 0 0]) := Lib.hid (Blkf.new_at _ _ _ _ rfl)
            obtain ⟨g1, hg1⟩ : ∃ g, g = yy0.heap.size := ⟨_, rfl⟩
            have HGE : Hid (w6.heap.size ≤ g1) := Lib.hid (by rw [hg1]; exact HC.out.size)
            have HO := Lib.hid (own_below HO.out hE)
            have HC := Lib.hid (HC.out.trans (hE.mono HC.out.size))
            rw [← hg1] at HG ⊢
            generalize yy0.alloc (.cells #[.int .i64 0, .int .i64 0, .bool false, .int .u64 0, .int .u64 0, .slice none 0 0] 25) = yy1 at *
            clear hE hg1
            refine pt_turn ?_
            refine pt_op (R := fun _ _ => True) rfl (by kernel_rfl) (fun K hK => ?_)
            refine wp_append_any _ (.tmp 75) (.tmp 76) _ rfl w6.heap.size 5 i0 _ 1 1 Try.underlying23 hi0 hz0 hz1 hz2 rfl (by decide) (.slice (some ⟨g0, 0, none⟩) 0 0) 0 [] rfl HO.out yy1.heap.size (some ⟨k1, 0, none⟩) m c1 (L.map bv) rfl (by have := reads_bts (bts_below HT6.out HC.out); rw [← HM.out] at this; exact this) (one_bv _) (by unfold maxLen; omega) (by omega) HC.out.size ?_
            intro v2 yy2 hown hgrow _
            refine hK _ _ ⟨trivial, ?_⟩
            clear hK
            (try simp only [Act.put, List.setIfInBounds_toArray, List.set_cons_zero, List.set_cons_succ])
            have HG := Lib.hid (HG.out.grown hgrow (fun e => row_ne_blk HO.out HG.out (by decide) e.symm))
            have HC := Lib.hid (below_grown HO.out HC.out hgrow HC.out.size)
            rw [Nat.zero_add, List.nil_append] at hown
            have HO := Lib.hid hown
            clear hown hgrow
            refine pt_turn ?_
            refine pt_op (R := fun _ _ => True) rfl (by kernel_rfl) (fun K hK => ?_)
            refine wp_append_any _ (.tmp 77) (.tmp 80) _ rfl w6.heap.size 5 i0 _ 1 1 Try.underlying23 hi0 hz0 hz1 hz2 rfl (by decide) v2 m (L.map bv) rfl HO.out yy2.heap.size (some ⟨k1, 0, none⟩) q c1 ((L.take q).map bv) rfl (by have := reads_bts (bts_take (k := q) (bts_below HT6.out HC.out)); rw [HQL.out] at this; exact this) (one_bv _) (by unfold maxLen; omega) (by omega) HC.out.size ?_
            intro v6 yy3 hown hgrow _
            refine hK _ _ ⟨trivial, ?_⟩
            clear hK
            (try simp only [Act.put, List.setIfInBounds_toArray, List.set_cons_zero, List.set_cons_succ])
            have HG := Lib.hid (HG.out.grown hgrow (fun e => row_ne_blk HO.out HG.out (by decide) e.symm))
            have HC := Lib.hid (below_grown HO.out HC.out hgrow HC.out.size)
            rw [← List.map_append] at hown
            have HO := Lib.hid hown
            clear hown hgrow
            refine pt_turn ?_
            obtain ⟨A6, c6, rfl, hB6, -⟩ := bts_own HO.out (fun i => append_lt HLT.out (fun i => getD_take_lt L q i HLT.out) i) (by rw [List.length_append, ← HM.out, HQL.out])
            rw [show (L ++ L.take q).length = m + q from by rw [List.length_append, ← HM.out, HQL.out]] at HO ⊢
            have hcap6 := own_cap HO.out
            refine pt_opcall (R := fun _ _ => True) rfl (by kernel_rfl) (by go_simp; exact ⟨rfl, rfl⟩) ?_
            refine (wget_sym A6 (L ++ L.take q) (m + q) c6 _ (by rw [List.length_append, ← HM.out, HQL.out]) (by omega) hcap6 hB6).mono ?_
            rintro e yy4 ⟨⟨f7, t7, b7, s7, a7, A7, n7, c7, rfl⟩, hE⟩
            rw [HX16.out (by omega)]
            refine ⟨_, rfl, trivial, ?_⟩
            (try simp only [Act.put, List.setIfInBounds_toArray, List.set_cons_zero, List.set_cons_succ])
            have HG := Lib.hid (HG.out.below hE HG.out.lt)
            have HC := Lib.hid (HC.out.trans (hE.mono HC.out.size))
            clear hE hB6 hcap6
            unfold frV
            iterate 3 (refine pt_take (v := ?_) rfl (by kernel_rfl) ?_ ?_; rotate_left; (focus (intro w' hw'; go_simp; try with_reducible rfl)); (try simp only [Act.put, List.setIfInBounds_toArray, List.set_cons_zero, List.set_cons_succ]))
            have hfin := fun u0 u2 u6 u7 u8 => HEND (xs8 u0 u2 u6 u7 u8 (.agg #[.int .i64 f7, .int .i64 t7, .bool b7, .int .u64 s7, .int .u64 a7, .slice A7 n7 c7]) (.bool false) (.pointer (some ⟨g1, 0, none⟩))) _ ⟨f7, t7, b7, s7, a7, A7, n7, c7, g1, rfl, rfl, rfl, HG.out, HGE.out, HC.out⟩
            simp only [fill, xs8, Act.put, List.setIfInBounds_toArray, List.set_cons_zero, List.set_cons_succ] at hfin
            exact hfin _ _ _ _ _
        focus
          refine pt_op (R := fun _ _ => True) rfl (by kernel_rfl) (fun K hK => ?_)
          go_simp
          refine hK _ _ ⟨trivial, ?_⟩
          clear hK
          (try simp only [Act.put, List.setIfInBounds_toArray, List.set_cons_zero, List.set_cons_succ])
          have hE := Below.alloc (Ext.refl y) (Nat.le_refl _) (.cells #[.int .i64 0, .int .i64 0, .bool false, .int .u64 0, .int .u64 0, .slice none 0 0] 25)
          have HG : Hid (Blk (y.alloc (.cells #[.int .i64 0, .int .i64 0, .bool false, .int .u64 0, .int .u64 0, .slice none 0 0] 25)) y.heap.size 25 #[.int .i64 0, .int .i64 0, .bool false, .int .u64 0, .int .u64 0, .slice none 0 0]) := Lib.hid (Blkf.new_at _ _ _ _ rfl)
          obtain ⟨g1, hg1⟩ : ∃ g, g = y.heap.size := ⟨_, rfl⟩
          have HGE : Hid (w6.heap.size ≤ g1) := Lib.hid (by rw [hg1]; exact HC.out.size)
          have HC := Lib.hid (HC.out.trans (hE.mono HC.out.size))
          rw [← hg1] at HG ⊢
          generalize y.alloc (.cells #[.int .i64 0, .int .i64 0, .bool false, .int .u64 0, .int .u64 0, .slice none 0 0] 25) = yy0 at *
          clear hE hg1
          refine pt_turn ?_
          refine pt_op (R := fun _ _ => True) rfl (by kernel_rfl) (fun K hK => ?_)
          go_simp
          refine hK _ _ ⟨trivial, ?_⟩
          clear hK
          (try simp only [Act.put, List.setIfInBounds_toArray, List.set_cons_zero, List.set_cons_succ])
          have hE := Below.alloc (Ext.refl yy0) (Nat.le_refl _) (.cells #[] 5)
          have HO := Lib.hid (own_mono16 (empty_own yy0) HC.out.size)
          obtain ⟨g0, hg0⟩ : ∃ g, g = yy0.heap.size := ⟨_, rfl⟩
          have HG := Lib.hid (HG.out.below hE HG.out.lt)
          have HC := Lib.hid (HC.out.trans (hE.mono HC.out.size))
          rw [← hg0] at HO ⊢
          generalize yy0.alloc (.cells #[] 5) = yy1 at *
          clear hE hg0
          refine pt_turn ?_
          refine pt_op (R := fun _ _ => True) rfl (by kernel_rfl) (fun K hK => ?_)
          refine wp_append_any _ (.tmp 75) (.tmp 76) _ rfl w6.heap.size 5 i0 _ 1 1 Try.underlying23 hi0 hz0 hz1 hz2 rfl (by decide) (.slice (some ⟨g0, 0, none⟩) 0 0) 0 [] rfl HO.out yy1.heap.size (some ⟨k1, 0, none⟩) m c1 (L.map bv) rfl (by have := reads_bts (bts_below HT6.out HC.out); rw [← HM.out] at this; exact this) (one_bv _) (by unfold maxLen; omega) (by omega) HC.out.size ?_
          intro v2 yy2 hown hgrow _
          refine hK _ _ ⟨trivial, ?_⟩
          clear hK
          (try simp only [Act.put, List.setIfInBounds_toArray, List.set_cons_zero, List.set_cons_succ])
          have HG := Lib.hid (HG.out.grown hgrow (fun e => row_ne_blk HO.out HG.out (by decide) e.symm))
          have HC := Lib.hid (below_grown HO.out HC.out hgrow HC.out.size)
          rw [Nat.zero_add, List.nil_append] at hown
          have HO := Lib.hid hown
          clear hown hgrow
          refine pt_turn ?_
          refine pt_op (R := fun _ _ => True) rfl (by kernel_rfl) (fun K hK => ?_)
          refine wp_append_any _ (.tmp 77) (.tmp 80) _ rfl w6.heap.size 5 i0 _ 1 1 Try.underlying23 hi0 hz0 hz1 hz2 rfl (by decide) v2 m (L.map bv) rfl HO.out yy2.heap.size (some ⟨k1, 0, none⟩) q c1 ((L.take q).map bv) rfl (by have := reads_bts (bts_take (k := q) (bts_below HT6.out HC.out)); rw [HQL.out] at this; exact this) (one_bv _) (by unfold maxLen; omega) (by omega) HC.out.size ?_
          intro v6 yy3 hown hgrow _
          refine hK _ _ ⟨trivial, ?_⟩
          clear hK
          (try simp only [Act.put, List.setIfInBounds_toArray, List.set_cons_zero, List.set_cons_succ])
          have HG := Lib.hid (HG.out.grown hgrow (fun e => row_ne_blk HO.out HG.out (by decide) e.symm))
          have HC := Lib.hid (below_grown HO.out HC.out hgrow HC.out.size)
          rw [← List.map_append] at hown
          have HO := Lib.hid hown
          clear hown hgrow
          refine pt_turn ?_
          obtain ⟨A6, c6, rfl, hB6, -⟩ := bts_own HO.out (fun i => append_lt HLT.out (fun i => getD_take_lt L q i HLT.out) i) (by rw [List.length_append, ← HM.out, HQL.out])
          rw [show (L ++ L.take q).length = m + q from by rw [List.length_append, ← HM.out, HQL.out]] at HO ⊢
          have hcap6 := own_cap HO.out
          refine pt_opcall (R := fun _ _ => True) rfl (by kernel_rfl) (by go_simp; exact ⟨rfl, rfl⟩) ?_
          refine (wget_sym A6 (L ++ L.take q) (m + q) c6 _ (by rw [List.length_append, ← HM.out, HQL.out]) (by omega) hcap6 hB6).mono ?_
          rintro e yy4 ⟨⟨f7, t7, b7, s7, a7, A7, n7, c7, rfl⟩, hE⟩
          rw [HX16.out (by omega)]
          refine ⟨_, rfl, trivial, ?_⟩
          (try simp only [Act.put, List.setIfInBounds_toArray, List.set_cons_zero, List.set_cons_succ])
          have HG := Lib.hid (HG.out.below hE HG.out.lt)
          have HC := Lib.hid (HC.out.trans (hE.mono HC.out.size))
          clear hE hB6 hcap6
          unfold frV
          iterate 3 (refine pt_take (v := ?_) rfl (by kernel_rfl) ?_ ?_; rotate_left; (focus (intro w' hw'; go_simp; try with_reducible rfl)); (try simp only [Act.put, List.setIfInBounds_toArray, List.set_cons_zero, List.set_cons_succ]))
          have hfin := fun u0 u2 u6 u7 u8 => HEND (xs8 u0 u2 u6 u7 u8 (.agg #[.int .i64 f7, .int .i64 t7, .bool b7, .int .u64 s7, .int .u64 a7, .slice A7 n7 c7]) (.bool false) (.pointer (some ⟨g1, 0, none⟩))) _ ⟨f7, t7, b7, s7, a7, A7, n7, c7, g1, rfl, rfl, rfl, HG.out, HGE.out, HC.out⟩
          simp only [fill, xs8, Act.put, List.setIfInBounds_toArray, List.set_cons_zero, List.set_cons_succ] at hfin
          exact hfin _ _ _ _ _
  · have f0 : decide (0 ≤ bit) = true := by simpa using t0
    have t1 : bit ≤ 9223372036854775807 := by have := HBIT.out; omega
    rw [f0, Bool.true_and]
    obtain ⟨tb, htb⟩ : ∃ tb, tb = decide (bit / 8 < (m : Int)) := ⟨_, rfl⟩
    rw [← htb]
    have htb' := htb.symm
    clear htb
    go_wp2_with fail
    rw [hq]
    go_wp2_with fail
    refine (wget_sym (some ⟨k1, 0, none⟩) (L.take q) q c1 _ HQL.out (by omega) hq1 (bts_take HT5.out)).mono ?_
    rintro e w5 ⟨⟨fy, ty, by_, sy, ay, Ay, ny, cy, rfl⟩, hb⟩
    rw [HX14.out]
    have hA5 := (Below.refl w5.heap.size w5).alloc (Nat.le_refl _) (.cells #[.int .i64 fy, .int .i64 ty, .bool by_, .int .u64 sy, .int .u64 ay, .slice Ay ny cy] 25)
    have hb6 := hb.trans (hA5.mono hb.size)
    have HE6 := Lib.hid (HE5.out.trans (hb6.mono HE5.out.size))
    have HX6 := Lib.hid (HX5.out.below hb6 HX5.out.lt)
    have HB6 := Lib.hid (bts_below HB5.out hb6)
    have HT6 := Lib.hid (bts_below HT5.out hb6)
    clear hA5 hb6 hb
    unfold frV
    go_wp2_with fail
    generalize w5.alloc (.cells #[.int .i64 fy, .int .i64 ty, .bool by_, .int .u64 sy, .int .u64 ay, .slice Ay ny cy] 25) = w6 at *
    obtain ⟨i0, hi0, hz0, hz1, hz2⟩ := info_parts info5
    rcases Nat.eq_zero_or_pos q with q0 | q0
    · subst q0
      have HLQ : Hid (L ++ L.take 0 = plainL f t b s a l ++ bytesOf (sumV (plainL f t b s a l)) 4) := Lib.hid (by rw [List.take_zero, List.append_nil, HLE.out])
      refine wp_region_pt (fun _ _ => True) ⟨fun _ => trivial, fun _ _ => trivial⟩ (PT.steps [1, 3, 4, 5] (.fork 0 (.fork 2 (.fork 6 (.fork 7 (PT.steps [8, 9, 10] (.turn 11 (.rest 2 (doneL 14 [1, 3, 4, 5, 0, 2, 6, 7, 8, 9, 10, 11])))) 11 (.turn 7 (PT.steps [8, 9, 10] (.rest 2 (doneL 14 [1, 3, 4, 5, 0, 2, 6, 7, 8, 9, 10, 11]))))) 11 (.turn 6 (.turn 7 (PT.steps [8, 9, 10] (.rest 2 (doneL 14 [1, 3, 4, 5, 0, 2, 6, 7, 8, 9, 10, 11])))))) 11 (.turn 2 (.turn 6 (.turn 7 (PT.steps [8, 9, 10] (.rest 2 (doneL 14 [1, 3, 4, 5, 0, 2, 6, 7, 8, 9, 10, 11]))))))) 11 (.turn 0 (.turn 2 (.turn 6 (.turn 7 (PT.steps [8, 9, 10] (.rest 2 (doneL 14 [1, 3, 4, 5, 0, 2, 6, 7, 8, 9, 10, 11]))))))))) (by kernel_rfl) (by kernel_rfl) (fun _ d _ _ _ h => by cases d <;> exact h) ?_
      unfold PT.steps
      iterate 4 (refine pt_take (v := ?_) rfl (by kernel_rfl) ?_ ?_; rotate_left; (focus (intro w' hw'; go_simp; try with_reducible rfl)); simp only [Act.put, List.setIfInBounds_toArray, List.set_cons_zero, List.set_cons_succ])
      have HC : Hid (Below w6.heap.size w6 w6.drew) := Lib.hid ((Below.refl _ w6).drew)
      generalize w6.drew = y at *
      refine pt_join (L := doneL 14 [1, 3, 4, 5, 0, 2, 6, 7, 8, 9, 10, 11]) (k := 2) (ds := [(0, some 75), (2, some 77), (6, some 81), (7, some 82), (8, some 74), (9, some 83), (10, some 84), (11, some 16)]) (fun x wz => ∃ (A7 : Option Addr) (c7 : Nat) (g1 : Nat), x 9 = (.agg #[.int .i64 f, .int .i64 t, .bool b, .int .u64 s, .int .u64 a, .slice A7 n c7]) ∧ x 10 = .bool true ∧ x 11 = .pointer (some ⟨g1, 0, none⟩) ∧ Blk wz g1 25 #[.int .i64 0, .int .i64 0, .bool false, .int .u64 0, .int .u64 0, .slice none 0 0] ∧ w6.heap.size ≤ g1 ∧ Below w6.heap.size w6 wz ∧ Bts wz A7 l) (.turn 12 (.step 13 .done)) (by kernel_rfl) ⟨fun _ => trivial, fun _ _ => trivial⟩ (fun _ d _ _ _ h => by cases d <;> exact h) rfl (by kernel_rfl) ?_ ?_
      · rintro x wz ⟨A7, c7, g1, e9, e10, e11, hG, hge, hC, hD⟩
        simp only [fill, Act.put, List.setIfInBounds_toArray, List.set_cons_zero, List.set_cons_succ]
        rw [e9, e10, e11]
        have z0 := hG.cell 0
        have z1 := hG.cell 1
        have z2 := hG.cell 2
        have z3 := hG.cell 3
        have z4 := hG.cell 4
        have z5 := hG.cell 5
        have zl := hG.lt
        have zf := fun i => hG.frozen i
        simp at z0 z1 z2 z3 z4 z5
        refine pt_turn ?_
        refine pt_op (R := fun _ _ => True) rfl (by kernel_rfl) (fun K hK => ?_)
        go_simp
        refine hK _ _ ⟨trivial, ?_⟩
        clear hK
        (try simp only [Act.put, List.setIfInBounds_toArray, List.set_cons_zero, List.set_cons_succ])
        iterate 1 (refine pt_take (v := ?_) rfl (by kernel_rfl) ?_ ?_; rotate_left; (focus (intro w' hw'; go_simp; try with_reducible rfl)); (try simp only [Act.put, List.setIfInBounds_toArray, List.set_cons_zero, List.set_cons_succ]))
        refine pt_end ?_
        have hW := ((((((hC.setCell (p := ⟨g1, 0, none⟩) hge (.int .i64 f)).setCell (p := ⟨g1, 1, none⟩) hge (.int .i64 t)).setCell (p := ⟨g1, 2, none⟩) hge (.bool b)).setCell (p := ⟨g1, 3, none⟩) hge (.int .u64 s)).setCell (p := ⟨g1, 4, none⟩) hge (.int .u64 a)).setCell (p := ⟨g1, 5, none⟩) hge (.slice A7 n c7))
        have hZ := ((((((hG.set_ 0 (.int .i64 f)).set_ 1 (.int .i64 t)).set_ 2 (.bool b)).set_ 3 (.int .u64 s)).set_ 4 (.int .u64 a)).set_ 5 (.slice A7 n c7))
        have hK := (((((((Keeps.refl (fun x => x = g1) wz).setCell (p := ⟨g1, 0, none⟩) (.inl rfl) (.int .i64 f)).setCell (p := ⟨g1, 1, none⟩) (.inl rfl) (.int .i64 t)).setCell (p := ⟨g1, 2, none⟩) (.inl rfl) (.bool b)).setCell (p := ⟨g1, 3, none⟩) (.inl rfl) (.int .u64 s)).setCell (p := ⟨g1, 4, none⟩) (.inl rfl) (.int .u64 a)).setCell (p := ⟨g1, 5, none⟩) (.inl rfl) (.slice A7 n c7))
        have hX := (((((((HX6.out.below hC HX6.out.lt).far (p := ⟨g1, 0, none⟩) (Nat.ne_of_lt (Nat.lt_of_lt_of_le HX6.out.lt hge)) (.int .i64 f)).far (p := ⟨g1, 1, none⟩) (Nat.ne_of_lt (Nat.lt_of_lt_of_le HX6.out.lt hge)) (.int .i64 t)).far (p := ⟨g1, 2, none⟩) (Nat.ne_of_lt (Nat.lt_of_lt_of_le HX6.out.lt hge)) (.bool b)).far (p := ⟨g1, 3, none⟩) (Nat.ne_of_lt (Nat.lt_of_lt_of_le HX6.out.lt hge)) (.int .u64 s)).far (p := ⟨g1, 4, none⟩) (Nat.ne_of_lt (Nat.lt_of_lt_of_le HX6.out.lt hge)) (.int .u64 a)).far (p := ⟨g1, 5, none⟩) (Nat.ne_of_lt (Nat.lt_of_lt_of_le HX6.out.lt hge)) (.slice A7 n c7))
        simp at hZ
        have HE9 := Lib.hid (HE6.out.trans (hW.mono HE6.out.size))
        have HDF := Lib.hid (bts_turned hD hG hK)
        have HBF := Lib.hid (bts_below HB6.out hW)
        clear z0 z1 z2 z3 z4 z5 zl zf
        generalize ((((((wz.setCell ⟨g1, 0, none⟩ (.int .i64 f)).setCell ⟨g1, 1, none⟩ (.int .i64 t)).setCell ⟨g1, 2, none⟩ (.bool b)).setCell ⟨g1, 3, none⟩ (.int .u64 s)).setCell ⟨g1, 4, none⟩ (.int .u64 a)).setCell ⟨g1, 5, none⟩ (.slice A7 n c7)) = wf at *
        have x0 := hX.cell 0
        have x1 := hX.cell 1
        have x2 := hX.cell 2
        have x3 := hX.cell 3
        have x4 := hX.cell 4
        have x5 := hX.cell 5
        have y0 := hZ.cell 0
        have y1 := hZ.cell 1
        have y2 := hZ.cell 2
        have y3 := hZ.cell 3
        have y4 := hZ.cell 4
        have y5 := hZ.cell 5
        simp at x0 x1 x2 x3 x4 x5 y0 y1 y2 y3 y4 y5
        clear hZ hK hX hW hG hC hD
        go_wp2_with fail
        refine (same_yes f t b s a A7 A l n c7 c _ HL.out HDF.out HBF.out).mono ?_
        rintro e wg ⟨rfl, hb⟩
        have HEF := Lib.hid (HE9.out.trans (hb.mono HE9.out.size))
        clear hb
        go_wp2
        go_ret
        exact ⟨rfl, HEF.out⟩
      · intro HEND
        refine pt_fork ?_ ?_
        focus
          refine pt_op (R := fun _ _ => True) rfl (by kernel_rfl) (fun K hK => ?_)
          go_simp
          refine hK _ _ ⟨trivial, ?_⟩
          clear hK
          (try simp only [Act.put, List.setIfInBounds_toArray, List.set_cons_zero, List.set_cons_succ])
          have hE := Below.alloc (Ext.refl y) (Nat.le_refl _) (.cells #[] 5)
          have HO := Lib.hid (own_mono16 (empty_own y) HC.out.size)
          obtain ⟨g0, hg0⟩ : ∃ g, g = y.heap.size := ⟨_, rfl⟩
          have HC := Lib.hid (HC.out.trans (hE.mono HC.out.size))
          rw [← hg0] at HO ⊢
          generalize y.alloc (.cells #[] 5) = yy0 at *
          clear hE hg0
          refine pt_fork ?_ ?_
          focus
            refine pt_op (R := fun _ _ => True) rfl (by kernel_rfl) (fun K hK => ?_)
            refine wp_append_any _ (.tmp 75) (.tmp 76) _ rfl w6.heap.size 5 i0 _ 1 1 Try.underlying23 hi0 hz0 hz1 hz2 rfl (by decide) (.slice (some ⟨g0, 0, none⟩) 0 0) 0 [] rfl HO.out yy0.heap.size (some ⟨k1, 0, none⟩) m c1 (L.map bv) rfl (by have := reads_bts (bts_below HT6.out HC.out); rw [← HM.out] at this; exact this) (one_bv _) (by unfold maxLen; omega) (by omega) HC.out.size ?_
            intro v2 yy1 hown hgrow _
            refine hK _ _ ⟨trivial, ?_⟩
            clear hK
            (try simp only [Act.put, List.setIfInBounds_toArray, List.set_cons_zero, List.set_cons_succ])
            have HC := Lib.hid (below_grown HO.out HC.out hgrow HC.out.size)
            rw [Nat.zero_add, List.nil_append] at hown
            have HO := Lib.hid hown
            clear hown hgrow
            refine pt_fork ?_ ?_
            focus
              refine pt_op (R := fun _ _ => True) rfl (by kernel_rfl) (fun K hK => ?_)
              refine wp_append_any _ (.tmp 77) (.tmp 80) _ rfl w6.heap.size 5 i0 _ 1 1 Try.underlying23 hi0 hz0 hz1 hz2 rfl (by decide) v2 m (L.map bv) rfl HO.out yy1.heap.size (some ⟨k1, 0, none⟩) 0 c1 ((L.take 0).map bv) rfl (by have := reads_bts (bts_take (k := 0) (bts_below HT6.out HC.out)); rw [HQL.out] at this; exact this) (one_bv _) (by unfold maxLen; omega) (by omega) HC.out.size ?_
              intro v6 yy2 hown hgrow _
              refine hK _ _ ⟨trivial, ?_⟩
              clear hK
              (try simp only [Act.put, List.setIfInBounds_toArray, List.set_cons_zero, List.set_cons_succ])
              have HC := Lib.hid (below_grown HO.out HC.out hgrow HC.out.size)
              rw [← List.map_append] at hown
              have HO := Lib.hid hown
              clear hown hgrow
              refine pt_fork ?_ ?_
              focus
                obtain ⟨A6, c6, rfl, hB6, -⟩ := bts_own HO.out (fun i => append_lt HLT.out (fun i => getD_take_lt L 0 i HLT.out) i) (by rw [List.length_append, ← HM.out, HQL.out])
                rw [show (L ++ L.take 0).length = m + 0 from by rw [List.length_append, ← HM.out, HQL.out]] at HO ⊢
                have hcap6 := own_cap HO.out
                refine pt_opcall (R := fun _ _ => True) rfl (by kernel_rfl) (by go_simp; exact ⟨rfl, rfl⟩) ?_
                refine (wget_yes f t b s a l A6 (L ++ L.take 0) (m + 0) c6 _ (by rw [List.length_append, ← HM.out, HQL.out]) hcap6 hB6 HLQ.out hf' ht' hs ha (by rw [HL.out]; exact hn5) HB.out.1 (by rw [HL.out]; exact HR.out)).mono ?_
                rintro e yy3 ⟨A7, c7, rfl, hd, hE⟩
                rw [HL.out]
                have HD := Lib.hid hd
                refine ⟨_, rfl, trivial, ?_⟩
                (try simp only [Act.put, List.setIfInBounds_toArray, List.set_cons_zero, List.set_cons_succ])
                have HC := Lib.hid (HC.out.trans (hE.mono HC.out.size))
                clear hE hB6 hcap6 hd
                unfold frV
                iterate 3 (refine pt_take (v := ?_) rfl (by kernel_rfl) ?_ ?_; rotate_left; (focus (intro w' hw'; go_simp; try with_reducible rfl)); (try simp only [Act.put, List.setIfInBounds_toArray, List.set_cons_zero, List.set_cons_succ]))
                refine pt_turn ?_
                refine pt_op (R := fun _ _ => True) rfl (by kernel_rfl) (fun K hK => ?_)
                go_simp
                refine hK _ _ ⟨trivial, ?_⟩
                clear hK
                (try simp only [Act.put, List.setIfInBounds_toArray, List.set_cons_zero, List.set_cons_succ])
                have hE := Below.alloc (Ext.refl yy3) (Nat.le_refl _) (.cells #[.int .i64 0, .int .i64 0, .bool false, .int .u64 0, .int .u64 0, .slice none 0 0] 25)
                have HG : Hid (Blk (yy3.alloc (.cells #[.int .i64 0, .int .i64 0, .bool false, .int .u64 0, .int .u64 0, .slice none 0 0] 25)) yy3.heap.size 25 #[.int .i64 0, .int .i64 0, .bool false, .int .u64 0, .int .u64 0, .slice none 0 0]) := Lib.hid (Blkf.new_at _ _ _ _ rfl)
                obtain ⟨g1, hg1⟩ : ∃ g, g = yy3.heap.size := ⟨_, rfl⟩
                have HGE : Hid (w6.heap.size ≤ g1) := Lib.hid (by rw [hg1]; exact HC.out.size)
                have HD := Lib.hid (bts_below HD.out hE)
                have HC := Lib.hid (HC.out.trans (hE.mono HC.out.size))
                rw [← hg1] at HG ⊢
                generalize yy3.alloc (.cells #[.int .i64 0, .int .i64 0, .bool false, .int .u64 0, .int .u64 0, .slice none 0 0] 25) = yy4 at *
                clear hE hg1
                have hfin := fun u0 u2 u6 u7 u8 => HEND (xs8 u0 u2 u6 u7 u8 (.agg #[.int .i64 f, .int .i64 t, .bool b, .int .u64 s, .int .u64 a, .slice A7 n c7]) (.bool true) (.pointer (some ⟨g1, 0, none⟩))) _ ⟨A7, c7, g1, rfl, rfl, rfl, HG.out, HGE.out, HC.out, HD.out⟩
                simp only [fill, xs8, Act.put, List.setIfInBounds_toArray, List.set_cons_zero, List.set_cons_succ] at hfin
                exact hfin _ _ _ _ _
              focus
                refine pt_op (R := fun _ _ => True) rfl (by kernel_rfl) (fun K hK => ?_)
                go_simp
                refine hK _ _ ⟨trivial, ?_⟩
                clear hK
                (try simp only [Act.put, List.setIfInBounds_toArray, List.set_cons_zero, List.set_cons_succ])
                have hE := Below.alloc (Ext.refl yy2) (Nat.le_refl _) (.cells #[.int .i64 0, .int .i64 0, .bool false, .int .u64 0, .int .u64 0, .slice none 0 0] 25)
                have HG : Hid (Blk (yy2.alloc (.cells #[.int .i64 0, .int .i64 0, .bool false, .int .u64 0, .int .u64 0, .slice none 0 0] 25)) yy2.heap.size 25 #[.int .i64 0, .int .i64 0, .bool false, .int .u64 0, .int .u64 0, .slice none 0 0]) := Lib.hid (Blkf.new_at _ _ _ _ rfl)
                obtain ⟨g1, hg1⟩ : ∃ g, g = yy2.heap.size := ⟨_, rfl⟩
                have HGE : Hid (w6.heap.size ≤ g1) := Lib.hid (by rw [hg1]; exact HC.out.size)
                have HO := Lib.hid (own_below HO.out hE)
                have HC := Lib.hid (HC.out.trans (hE.mono HC.out.size))
                rw [← hg1] at HG ⊢
                generalize yy2.alloc (.cells #[.int .i64 0, .int .i64 0, .bool false, .int .u64 0, .int .u64 0, .slice none 0 0] 25) = yy3 at *
                clear hE hg1
                refine pt_turn ?_
                obtain ⟨A6, c6, rfl, hB6, -⟩ := bts_own HO.out (fun i => append_lt HLT.out (fun i => getD_take_lt L 0 i HLT.out) i) (by rw [List.length_append, ← HM.out, HQL.out])
                rw [show (L ++ L.take 0).length = m + 0 from by rw [List.length_append, ← HM.out, HQL.out]] at HO ⊢
                have hcap6 := own_cap HO.out
                refine pt_opcall (R := fun _ _ => True) rfl (by kernel_rfl) (by go_simp; exact ⟨rfl, rfl⟩) ?_
                refine (wget_yes f t b s a l A6 (L ++ L.take 0) (m + 0) c6 _ (by rw [List.length_append, ← HM.out, HQL.out]) hcap6 hB6 HLQ.out hf' ht' hs ha (by rw [HL.out]; exact hn5) HB.out.1 (by rw [HL.out]; exact HR.out)).mono ?_
                rintro e yy4 ⟨A7, c7, rfl, hd, hE⟩
                rw [HL.out]
                have HD := Lib.hid hd
                refine ⟨_, rfl, trivial, ?_⟩
                (try simp only [Act.put, List.setIfInBounds_toArray, List.set_cons_zero, List.set_cons_succ])
                have HG := Lib.hid (HG.out.below hE HG.out.lt)
                have HC := Lib.hid (HC.out.trans (hE.mono HC.out.size))
                clear hE hB6 hcap6 hd
                unfold frV
                iterate 3 (refine pt_take (v := ?_) rfl (by kernel_rfl) ?_ ?_; rotate_left; (focus (intro w' hw'; go_simp; try with_reducible rfl)); (try simp only [Act.put, List.setIfInBounds_toArray, List.set_cons_zero, List.set_cons_succ]))
                have hfin := fun u0 u2 u6 u7 u8 => HEND (xs8 u0 u2 u6 u7 u8 (.agg #[.int .i64 f, .int .i64 t, .bool b, .int .u64 s, .int .u64 a, .slice A7 n c7]) (.bool true) (.pointer (some ⟨g1, 0, none⟩))) _ ⟨A7, c7, g1, rfl, rfl, rfl, HG.out, HGE.out, HC.out, HD.out⟩
                simp only [fill, xs8, Act.put, List.setIfInBounds_toArray, List.set_cons_zero, List.set_cons_succ] at hfin
                exact hfin _ _ _ _ _
            focus
              refine pt_op (R := fun _ _ => True) rfl (by kernel_rfl) (fun K hK => ?_)
              go_simp
              refine hK _ _ ⟨trivial, ?_⟩
              clear hK
              (try simp only [Act.put, List.setIfInBounds_toArray, List.set_cons_zero, List.set_cons_succ])
              have hE := Below.alloc (Ext.refl yy1) (Nat.le_refl _) (.cells #[.int .i64 0, .int .i64 0, .bool false, .int .u64 0, .int .u64 0, .slice none 0 0] 25)
              have HG : Hid (Blk (yy1.alloc (.cells #[.int .i64 0, .int .i64 0, .bool false, .int .u64 0, .int .u64 0, .slice none 0 0] 25)) yy1.heap.size 25 #[.int .i64 0, .int .i64 0, .bool false, .int .u64 0, .int .u64 0, .slice none 0 0]) := Lib.hid (Blkf.new_at _ _ _ _ rfl)
              obtain ⟨g1, hg1⟩ : ∃ g, g = yy1.heap.size := ⟨_, rfl⟩
              have HGE : Hid (w6.heap.size ≤ g1) := Lib.hid (by rw [hg1]; exact HC.out.size)
              have HO := Lib.hid (own_below HO.out hE)
              have HC := Lib.hid (HC.out.trans (hE.mono HC.out.size))
              rw [← hg1] at HG ⊢
              generalize yy1.alloc (.cells #[.int .i64 0, .int .i64 0, .bool false, .int .u64 0, .int .u64 0, .slice none 0 0] 25) = yy2 at *
              clear hE hg1
              refine pt_turn ?_
              refine pt_op (R := fun _ _ => True) rfl (by kernel_rfl) (fun K hK => ?_)
              refine wp_append_any _ (.tmp 77) (.tmp 80) _ rfl w6.heap.size 5 i0 _ 1 1 Try.underlying23 hi0 hz0 hz1 hz2 rfl (by decide) v2 m (L.map bv) rfl HO.out yy2.heap.size (some ⟨k1, 0, none⟩) 0 c1 ((L.take 0).map bv) rfl (by have := reads_bts (bts_take (k := 0) (bts_below HT6.out HC.out)); rw [HQL.out] at this; exact this) (one_bv _) (by unfold maxLen; omega) (by omega) HC.out.size ?_
              intro v6 yy3 hown hgrow _
              refine hK _ _ ⟨trivial, ?_⟩
              clear hK
              (try simp only [Act.put, List.setIfInBounds_toArray, List.set_cons_zero, List.set_cons_succ])
              have HG := Lib.hid (HG.out.grown hgrow (fun e => row_ne_blk HO.out HG.out (by decide) e.symm))
              have HC := Lib.hid (below_grown HO.out HC.out hgrow HC.out.size)
              rw [← List.map_append] at hown
              have HO := Lib.hid hown
              clear hown hgrow
              refine pt_turn ?_
              obtain ⟨A6, c6, rfl, hB6, -⟩ := bts_own HO.out (fun i => append_lt HLT.out (fun i => getD_take_lt L 0 i HLT.out) i) (by rw [List.length_append, ← HM.out, HQL.out])
              rw [show (L ++ L.take 0).length = m + 0 from by rw [List.length_append, ← HM.out, HQL.out]] at HO ⊢
              have hcap6 := own_cap HO.out
              refine pt_opcall (R := fun _ _ => True) rfl (by kernel_rfl) (by go_simp; exact ⟨rfl, rfl⟩) ?_
              refine (wget_yes f t b s a l A6 (L ++ L.take 0) (m + 0) c6 _ (by rw [List.length_append, ← HM.out, HQL.out]) hcap6 hB6 HLQ.out hf' ht' hs ha (by rw [HL.out]; exact hn5) HB.out.1 (by rw [HL.out]; exact HR.out)).mono ?_
              rintro e yy4 ⟨A7, c7, rfl, hd, hE⟩
              rw [HL.out]
              have HD := Lib.hid hd
              refine ⟨_, rfl, trivial, ?_⟩
              (try simp only [Act.put, List.setIfInBounds_toArray, List.set_cons_zero, List.set_cons_succ])
              have HG := Lib.hid (HG.out.below hE HG.out.lt)
              have HC := Lib.hid (HC.out.trans (hE.mono HC.out.size))
              clear hE hB6 hcap6 hd
              unfold frV
              iterate 3 (refine pt_take (v := ?_) rfl (by kernel_rfl) ?_ ?_; rotate_left; (focus (intro w' hw'; go_simp; try with_reducible rfl)); (try simp only [Act.put, List.setIfInBounds_toArray, List.set_cons_zero, List.set_cons_succ]))
              have hfin := fun u0 u2 u6 u7 u8 => HEND (xs8 u0 u2 u6 u7 u8 (.agg #[.int .i64 f, .int .i64 t, .bool b, .int .u64 s, .int .u64 a, .slice A7 n c7]) (.bool true) (.pointer (some ⟨g1, 0, none⟩))) _ ⟨A7, c7, g1, rfl, rfl, rfl, HG.out, HGE.out, HC.out, HD.out⟩
              simp only [fill, xs8, Act.put, List.setIfInBounds_toArray, List.set_cons_zero, List.set_cons_succ] at hfin
              exact hfin _ _ _ _ _
          focus
            refine pt_op (R := fun _ _ => True) rfl (by kernel_rfl) (fun K hK => ?_)
            go_simp
            refine hK _ _ ⟨trivial, ?_⟩
            clear hK
            (try simp only [Act.put, List.setIfInBounds_toArray, List.set_cons_zero, List.set_cons_succ])
            have hE := Below.alloc (Ext.refl yy0) (Nat.le_refl _) (.cells #[.int .i64 0, .int .i64 0, .bool false, .int .u64 0, .int .u64 0, .slice none 0 0] 25)
            have HG : Hid (Blk (yy0.alloc (.cells #[.int .i64 0, .int .i64 0, .bool false, .int .u64 0, .int .u64 0, .slice none 0 0] 25)) yy0.heap.size 25 #[.int .i64 0, .int .i64 0, .bool false, .int .u64 0, .int .u64 0, .slice none 0 0]) := Lib.hid (Blkf.new_at _ _ _ _ rfl)
            obtain ⟨g1, hg1⟩ : ∃ g, g = yy0.heap.size := ⟨_, rfl⟩
            have HGE : Hid (w6.heap.size ≤ g1) := Lib.hid (by rw [hg1]; exact HC.out.size)
            have HO := Lib.hid (own_below HO.out hE)
            have HC := Lib.hid (HC.out.trans (hE.mono HC.out.size))
            rw [← hg1] at HG ⊢
            generalize yy0.alloc (.cells #[.int .i64 0, .int .i64 0, .bool false, .int .u64 0, .int .u64 0, .slice none 0 0] 25) = yy1 at *
            clear hE hg1
            refine pt_turn ?_
            refine pt_op (R := fun _ _ => True) rfl (by kernel_rfl) (fun K hK => ?_)
            refine wp_append_any _ (.tmp 75) (.tmp 76) _ rfl w6.heap.size 5 i0 _ 1 1 Try.underlying23 hi0 hz0 hz1 hz2 rfl (by decide) (.slice (some ⟨g0, 0, none⟩) 0 0) 0 [] rfl HO.out yy1.heap.size (some ⟨k1, 0, none⟩) m c1 (L.map bv) rfl (by have := reads_bts (bts_below HT6.out HC.out); rw [← HM.out] at this; exact this) (one_bv _) (by unfold maxLen; omega) (by omega) HC.out.size ?_
            intro v2 yy2 hown hgrow _
            refine hK _ _ ⟨trivial, ?_⟩
            clear hK
            (try simp only [Act.put, List.setIfInBounds_toArray, List.set_cons_zero, List.set_cons_succ])
            have HG := Lib.hid (HG.out.grown hgrow (fun e => row_ne_blk HO.out HG.out (by decide) e.symm))
            have HC := Lib.hid (below_grown HO.out HC.out hgrow HC.out.size)
            rw [Nat.zero_add, List.nil_append] at hown
            have HO := Lib.hid hown
            clear hown hgrow
            refine pt_turn ?_
            refine pt_op (R := fun _ _ => True) rfl (by kernel_rfl) (fun K hK => ?_)
            refine wp_append_any _ (.tmp 77) (.tmp 80) _ rfl w6.heap.size 5 i0 _ 1 1 Try.underlying23 hi0 hz0 hz1 hz2 rfl (by decide) v2 m (L.map bv) rfl HO.out yy2.heap.size (some ⟨k1, 0, none⟩) 0 c1 ((L.take 0).map bv) rfl (by have := reads_bts (bts_take (k := 0) (bts_below HT6.out HC.out)); rw [HQL.out] at this; exact this) (one_bv _) (by unfold maxLen; omega) (by omega) HC.out.size ?_
            intro v6 yy3 hown hgrow _
            refine hK _ _ ⟨trivial, ?_⟩
            clear hK
            (try simp only [Act.put, List.setIfInBounds_toArray, List.set_cons_zero, List.set_cons_succ])
            have HG := Lib.hid (HG.out.grown hgrow (fun e => row_ne_blk HO.out HG.out (by decide) e.symm))
            have HC := Lib.hid (below_grown HO.out HC.out hgrow HC.out.size)
            rw [← List.map_append] at hown
            have HO := Lib.hid hown
            clear hown hgrow
            refine pt_turn ?_
            obtain ⟨A6, c6, rfl, hB6, -⟩ := bts_own HO.out (fun i => append_lt HLT.out (fun i => getD_take_lt L 0 i HLT.out) i) (by rw [List.length_append, ← HM.out, HQL.out])
            rw [show (L ++ L.take 0).length = m + 0 from by rw [List.length_append, ← HM.out, HQL.out]] at HO ⊢
            have hcap6 := own_cap HO.out
            refine pt_opcall (R := fun _ _ => True) rfl (by kernel_rfl) (by go_simp; exact ⟨rfl, rfl⟩) ?_
            refine (wget_yes f t b s a l A6 (L ++ L.take 0) (m + 0) c6 _ (by rw [List.length_append, ← HM.out, HQL.out]) hcap6 hB6 HLQ.out hf' ht' hs ha (by rw [HL.out]; exact hn5) HB.out.1 (by rw [HL.out]; exact HR.out)).mono ?_
            rintro e yy4 ⟨A7, c7, rfl, hd, hE⟩
            rw [HL.out]
            have HD := Lib.hid hd
            refine ⟨_, rfl, trivial, ?_⟩
            (try simp only [Act.put, List.setIfInBounds_toArray, List.set_cons_zero, List.set_cons_succ])
            have HG := Lib.hid (HG.out.below hE HG.out.lt)
            have HC := Lib.hid (HC.out.trans (hE.mono HC.out.size))
            clear hE hB6 hcap6 hd
            unfold frV
            iterate 3 (refine pt_take (v := ?_) rfl (by kernel_rfl) ?_ ?_; rotate_left; (focus (intro w' hw'; go_simp; try with_reducible rfl)); (try simp only [Act.put, List.setIfInBounds_toArray, List.set_cons_zero, List.set_cons_succ]))
            have hfin := fun u0 u2 u6 u7 u8 => HEND (xs8 u0 u2 u6 u7 u8 (.agg #[.int .i64 f, .int .i64 t, .bool b, .int .u64 s, .int .u64 a, .slice A7 n c7]) (.bool true) (.pointer (some ⟨g1, 0, none⟩))) _ ⟨A7, c7, g1, rfl, rfl, rfl, HG.out, HGE.out, HC.out, HD.out⟩
            simp only [fill, xs8, Act.put, List.setIfInBounds_toArray, List.set_cons_zero, List.set_cons_succ] at hfin
            exact hfin _ _ _ _ _
        focus
          refine pt_op (R := fun _ _ => True) rfl (by kernel_rfl) (fun K hK => ?_)
          go_simp
          refine hK _ _ ⟨trivial, ?_⟩
          clear hK
          (try simp only [Act.put, List.setIfInBounds_toArray, List.set_cons_zero, List.set_cons_succ])
          have hE := Below.alloc (Ext.refl y) (Nat.le_refl _) (.cells #[.int .i64 0, .int .i64 0, .bool false, .int .u64 0, .int .u64 0, .slice none 0 0] 25)
          have HG : Hid (Blk (y.alloc (.cells #[.int .i64 0, .int .i64 0, .bool false, .int .u64 0, .int .u64 0, .slice none 0 0] 25)) y.heap.size 25 #[.int .i64 0, .int .i64 0, .bool false, .int .u64 0, .int .u64 0, .slice none 0 0]) := Lib.hid (Blkf.new_at _ _ _ _ rfl)
          obtain ⟨g1, hg1⟩ : ∃ g, g = y.heap.size := ⟨_, rfl⟩
          have HGE : Hid (w6.heap.size ≤ g1) := Lib.hid (by rw [hg1]; exact HC.out.size)
          have HC := Lib.hid (HC.out.trans (hE.mono HC.out.size))
          rw [← hg1] at HG ⊢
          generalize y.alloc (.cells #[.int .i64 0, .int .i64 0, .bool false, .int .u64 0, .int .u64 0, .slice none 0 0] 25) = yy0 at *
          clear hE hg1
          refine pt_turn ?_
          refine pt_op (R := fun _ _ => True) rfl (by kernel_rfl) (fun K hK => ?_)
          go_simp
          refine hK _ _ ⟨trivial, ?_⟩
          clear hK
          (try simp only [Act.put, List.setIfInBounds_toArray, List.set_cons_zero, List.set_cons_succ])
          have hE := Below.alloc (Ext.refl yy0) (Nat.le_refl _) (.cells #[] 5)
          have HO := Lib.hid (own_mono16 (empty_own yy0) HC.out.size)
          obtain ⟨g0, hg0⟩ : ∃ g, g = yy0.heap.size := ⟨_, rfl⟩
          have HG := Lib.hid (HG.out.below hE HG.out.lt)
          have HC := Lib.hid (HC.out.trans (hE.mono HC.out.size))
          rw [← hg0] at HO ⊢
          generalize yy0.alloc (.cells #[] 5) = yy1 at *
          clear hE hg0
          refine pt_turn ?_
          refine pt_op (R := fun _ _ => True) rfl (by kernel_rfl) (fun K hK => ?_)
          refine wp_append_any _ (.tmp 75) (.tmp 76) _ rfl w6.heap.size 5 i0 _ 1 1 Try.underlying23 hi0 hz0 hz1 hz2 rfl (by decide) (.slice (some ⟨g0, 0, none⟩) 0 0) 0 [] rfl HO.out yy1.heap.size (some ⟨k1, 0, none⟩) m c1 (L.map bv) rfl (by have := reads_bts (bts_below HT6.out HC.out); rw [← HM.out] at this; exact this) (one_bv _) (by unfold maxLen; omega) (by omega) HC.out.size ?_
          intro v2 yy2 hown hgrow _
          refine hK _ _ ⟨trivial, ?_⟩
          clear hK
          (try simp only [Act.put, List.setIfInBounds_toArray, List.set_cons_zero, List.set_cons_succ])
          have HG := Lib.hid (HG.out.grown hgrow (fun e => row_ne_blk HO.out HG.out (by decide) e.symm))
          have HC := Lib.hid (below_grown HO.out HC.out hgrow HC.out.size)
          rw [Nat.zero_add, List.nil_append] at hown
          have HO := Lib.hid hown
          clear hown hgrow
          refine pt_turn ?_
          refine pt_op (R := fun _ _ => True) rfl (by kernel_rfl) (fun K hK => ?_)
          refine wp_append_any _ (.tmp 77) (.tmp 80) _ rfl w6.heap.size 5 i0 _ 1 1 Try.underlying23 hi0 hz0 hz1 hz2 rfl (by decide) v2 m (L.map bv) rfl HO.out yy2.heap.size (some ⟨k1, 0, none⟩) 0 c1 ((L.take 0).map bv) rfl (by have := reads_bts (bts_take (k := 0) (bts_below HT6.out HC.out)); rw [HQL.out] at this; exact this) (one_bv _) (by unfold maxLen; omega) (by omega) HC.out.size ?_
          intro v6 yy3 hown hgrow _
          refine hK _ _ ⟨trivial, ?_⟩
          clear hK
          (try simp only [Act.put, List.setIfInBounds_toArray, List.set_cons_zero, List.set_cons_succ])
          have HG := Lib.hid (HG.out.grown hgrow (fun e => row_ne_blk HO.out HG.out (by decide) e.symm))
          have HC := Lib.hid (below_grown HO.out HC.out hgrow HC.out.size)
          rw [← List.map_append] at hown
          have HO := Lib.hid hown
          clear hown hgrow
          refine pt_turn ?_
          obtain ⟨A6, c6, rfl, hB6, -⟩ := bts_own HO.out (fun i => append_lt HLT.out (fun i => getD_take_lt L 0 i HLT.out) i) (by rw [List.length_append, ← HM.out, HQL.out])
          rw [show (L ++ L.take 0).length = m + 0 from by rw [List.length_append, ← HM.out, HQL.out]] at HO ⊢
          have hcap6 := own_cap HO.out
          refine pt_opcall (R := fun _ _ => True) rfl (by kernel_rfl) (by go_simp; exact ⟨rfl, rfl⟩) ?_
          refine (wget_yes f t b s a l A6 (L ++ L.take 0) (m + 0) c6 _ (by rw [List.length_append, ← HM.out, HQL.out]) hcap6 hB6 HLQ.out hf' ht' hs ha (by rw [HL.out]; exact hn5) HB.out.1 (by rw [HL.out]; exact HR.out)).mono ?_
          rintro e yy4 ⟨A7, c7, rfl, hd, hE⟩
          rw [HL.out]
          have HD := Lib.hid hd
          refine ⟨_, rfl, trivial, ?_⟩
          (try simp only [Act.put, List.setIfInBounds_toArray, List.set_cons_zero, List.set_cons_succ])
          have HG := Lib.hid (HG.out.below hE HG.out.lt)
          have HC := Lib.hid (HC.out.trans (hE.mono HC.out.size))
          clear hE hB6 hcap6 hd
          unfold frV
          iterate 3 (refine pt_take (v := ?_) rfl (by kernel_rfl) ?_ ?_; rotate_left; (focus (intro w' hw'; go_simp; try with_reducible rfl)); (try simp only [Act.put, List.setIfInBounds_toArray, List.set_cons_zero, List.set_cons_succ]))
          have hfin := fun u0 u2 u6 u7 u8 => HEND (xs8 u0 u2 u6 u7 u8 (.agg #[.int .i64 f, .int .i64 t, .bool b, .int .u64 s, .int .u64 a, .slice A7 n c7]) (.bool true) (.pointer (some ⟨g1, 0, none⟩))) _ ⟨A7, c7, g1, rfl, rfl, rfl, HG.out, HGE.out, HC.out, HD.out⟩
          simp only [fill, xs8, Act.put, List.setIfInBounds_toArray, List.set_cons_zero, List.set_cons_succ] at hfin
          exact hfin _ _ _ _ _
    · skip
      refine wp_region_pt (fun _ _ => True) ⟨fun _ => trivial, fun _ _ => trivial⟩ (PT.steps [1, 3, 4, 5] (.fork 0 (.fork 2 (.fork 6 (.fork 7 (PT.steps [8, 9, 10] (.turn 11 (.rest 2 (doneL 14 [1, 3, 4, 5, 0, 2, 6, 7, 8, 9, 10, 11])))) 11 (.turn 7 (PT.steps [8, 9, 10] (.rest 2 (doneL 14 [1, 3, 4, 5, 0, 2, 6, 7, 8, 9, 10, 11]))))) 11 (.turn 6 (.turn 7 (PT.steps [8, 9, 10] (.rest 2 (doneL 14 [1, 3, 4, 5, 0, 2, 6, 7, 8, 9, 10, 11])))))) 11 (.turn 2 (.turn 6 (.turn 7 (PT.steps [8, 9, 10] (.rest 2 (doneL 14 [1, 3, 4, 5, 0, 2, 6, 7, 8, 9, 10, 11]))))))) 11 (.turn 0 (.turn 2 (.turn 6 (.turn 7 (PT.steps [8, 9, 10] (.rest 2 (doneL 14 [1, 3, 4, 5, 0, 2, 6, 7, 8, 9, 10, 11]))))))))) (by kernel_rfl) (by kernel_rfl) (fun _ d _ _ _ h => by cases d <;> exact h) ?_
      unfold PT.steps
      iterate 4 (refine pt_take (v := ?_) rfl (by kernel_rfl) ?_ ?_; rotate_left; (focus (intro w' hw'; go_simp; try with_reducible rfl)); simp only [Act.put, List.setIfInBounds_toArray, List.set_cons_zero, List.set_cons_succ])
      have HC : Hid (Below w6.heap.size w6 w6.drew) := Lib.hid ((Below.refl _ w6).drew)
      generalize w6.drew = y at *
      refine pt_join (L := doneL 14 [1, 3, 4, 5, 0, 2, 6, 7, 8, 9, 10, 11]) (k := 2) (ds := [(0, some 75), (2, some 77), (6, some 81), (7, some 82), (8, some 74), (9, some 83), (10, some 84), (11, some 16)]) (fun x wz => ∃ (f7 t7 : Int) (b7 : Bool) (s7 a7 : Nat) (A7 : Option Addr) (n7 c7 : Nat) (g1 : Nat), x 9 = (.agg #[.int .i64 f7, .int .i64 t7, .bool b7, .int .u64 s7, .int .u64 a7, .slice A7 n7 c7]) ∧ x 10 = .bool false ∧ x 11 = .pointer (some ⟨g1, 0, none⟩) ∧ Blk wz g1 25 #[.int .i64 0, .int .i64 0, .bool false, .int .u64 0, .int .u64 0, .slice none 0 0] ∧ w6.heap.size ≤ g1 ∧ Below w6.heap.size w6 wz) (.turn 12 (.step 13 .done)) (by kernel_rfl) ⟨fun _ => trivial, fun _ _ => trivial⟩ (fun _ d _ _ _ h => by cases d <;> exact h) rfl (by kernel_rfl) ?_ ?_
      · rintro x wz ⟨f7, t7, b7, s7, a7, A7, n7, c7, g1, e9, e10, e11, hG, hge, hC⟩
        simp only [fill, Act.put, List.setIfInBounds_toArray, List.set_cons_zero, List.set_cons_succ]
        rw [e9, e10, e11]
        have z0 := hG.cell 0
        have z1 := hG.cell 1
        have z2 := hG.cell 2
        have z3 := hG.cell 3
        have z4 := hG.cell 4
        have z5 := hG.cell 5
        have zl := hG.lt
        have zf := fun i => hG.frozen i
        simp at z0 z1 z2 z3 z4 z5
        refine pt_turn ?_
        refine pt_op (R := fun _ _ => True) rfl (by kernel_rfl) (fun K hK => ?_)
        go_simp
        refine hK _ _ ⟨trivial, ?_⟩
        clear hK
        (try simp only [Act.put, List.setIfInBounds_toArray, List.set_cons_zero, List.set_cons_succ])
        iterate 1 (refine pt_take (v := ?_) rfl (by kernel_rfl) ?_ ?_; rotate_left; (focus (intro w' hw'; go_simp; try with_reducible rfl)); (try simp only [Act.put, List.setIfInBounds_toArray, List.set_cons_zero, List.set_cons_succ]))
        refine pt_end ?_
        have hW := ((((((hC.setCell (p := ⟨g1, 0, none⟩) hge (.int .i64 f7)).setCell (p := ⟨g1, 1, none⟩) hge (.int .i64 t7)).setCell (p := ⟨g1, 2, none⟩) hge (.bool b7)).setCell (p := ⟨g1, 3, none⟩) hge (.int .u64 s7)).setCell (p := ⟨g1, 4, none⟩) hge (.int .u64 a7)).setCell (p := ⟨g1, 5, none⟩) hge (.slice A7 n7 c7))
        have HE9 := Lib.hid (HE6.out.trans (hW.mono HE6.out.size))
        clear hW hG hC z0 z1 z2 z3 z4 z5 zl zf
        go_wp2
        go_ret
        exact ⟨rfl, HE9.out⟩
      · intro HEND
        refine pt_fork ?_ ?_
        focus
          refine pt_op (R := fun _ _ => True) rfl (by kernel_rfl) (fun K hK => ?_)
          go_simp
          refine hK _ _ ⟨trivial, ?_⟩
          clear hK
          (try simp only [Act.put, List.setIfInBounds_toArray, List.set_cons_zero, List.set_cons_succ])
          have hE := Below.alloc (Ext.refl y) (Nat.le_refl _) (.cells #[] 5)
          have HO := Lib.hid (own_mono16 (empty_own y) HC.out.size)
          obtain ⟨g0, hg0⟩ : ∃ g, g = y.heap.size := ⟨_, rfl⟩
          have HC := Lib.hid (HC.out.trans (hE.mono HC.out.size))
          rw [← hg0] at HO ⊢
          generalize y.alloc (.cells #[] 5) = yy0 at *
          clear hE hg0
          refine pt_fork ?_ ?_
          focus
            refine pt_op (R := fun _ _ => True) rfl (by kernel_rfl) (fun K hK => ?_)
            refine wp_append_any _ (.tmp 75) (.tmp 76) _ rfl w6.heap.size 5 i0 _ 1 1 Try.underlying23 hi0 hz0 hz1 hz2 rfl (by decide) (.slice (some ⟨g0, 0, none⟩) 0 0) 0 [] rfl HO.out yy0.heap.size (some ⟨k1, 0, none⟩) m c1 (L.map bv) rfl (by have := reads_bts (bts_below HT6.out HC.out); rw [← HM.out] at this; exact this) (one_bv _) (by unfold maxLen; omega) (by omega) HC.out.size ?_
            intro v2 yy1 hown hgrow _
            refine hK _ _ ⟨trivial, ?_⟩
            clear hK
            (try simp only [Act.put, List.setIfInBounds_toArray, List.set_cons_zero, List.set_cons_succ])
            have HC := Lib.hid (below_grown HO.out HC.out hgrow HC.out.size)
            rw [Nat.zero_add, List.nil_append] at hown
            have HO := Lib.hid hown
            clear hown hgrow
            refine pt_fork ?_ ?_
            focus
              refine pt_op (R := fun _ _ => True) rfl (by kernel_rfl) (fun K hK => ?_)
              refine wp_append_any _ (.tmp 77) (.tmp 80) _ rfl w6.heap.size 5 i0 _ 1 1 Try.underlying23 hi0 hz0 hz1 hz2 rfl (by decide) v2 m (L.map bv) rfl HO.out yy1.heap.size (some ⟨k1, 0, none⟩) q c1 ((L.take q).map bv) rfl (by have := reads_bts (bts_take (k := q) (bts_below HT6.out HC.out)); rw [HQL.out] at this; exact this) (one_bv _) (by unfold maxLen; omega) (by omega) HC.out.size ?_
              intro v6 yy2 hown hgrow _
              refine hK _ _ ⟨trivial, ?_⟩
              clear hK
              (try simp only [Act.put, List.setIfInBounds_toArray, List.set_cons_zero, List.set_cons_succ])
              have HC := Lib.hid (below_grown HO.out HC.out hgrow HC.out.size)
              rw [← List.map_append] at hown
              have HO := Lib.hid hown
              clear hown hgrow
              refine pt_fork ?_ ?_
              focus
                obtain ⟨A6, c6, rfl, hB6, -⟩ := bts_own HO.out (fun i => append_lt HLT.out (fun i => getD_take_lt L q i HLT.out) i) (by rw [List.length_append, ← HM.out, HQL.out])
                rw [show (L ++ L.take q).length = m + q from by rw [List.length_append, ← HM.out, HQL.out]] at HO ⊢
                have hcap6 := own_cap HO.out
                refine pt_opcall (R := fun _ _ => True) rfl (by kernel_rfl) (by go_simp; exact ⟨rfl, rfl⟩) ?_
                refine (wget_sym A6 (L ++ L.take q) (m + q) c6 _ (by rw [List.length_append, ← HM.out, HQL.out]) (by omega) hcap6 hB6).mono ?_
                rintro e yy3 ⟨⟨f7, t7, b7, s7, a7, A7, n7, c7, rfl⟩, hE⟩
                rw [HX16.out (by omega)]
                refine ⟨_, rfl, trivial, ?_⟩
                (try simp only [Act.put, List.setIfInBounds_toArray, List.set_cons_zero, List.set_cons_succ])
                have HC := Lib.hid (HC.out.trans (hE.mono HC.out.size))
                clear hE hB6 hcap6
                unfold frV
                iterate 3 (refine pt_take (v := ?_) rfl (by kernel_rfl) ?_ ?_; rotate_left; (focus (intro w' hw'; go_simp; try with_reducible rfl)); (try simp only [Act.put, List.setIfInBounds_toArray, List.set_cons_zero, List.set_cons_succ]))
                refine pt_turn ?_
                refine pt_op (R := fun _ _ => True) rfl (by kernel_rfl) (fun K hK => ?_)
                go_simp
                refine hK _ _ ⟨trivial, ?_⟩
                clear hK
                (try simp only [Act.put, List.setIfInBounds_toArray, List.set_cons_zero, List.set_cons_succ])
                have hE := Below.alloc (Ext.refl yy3) (Nat.le_refl _) (.cells #[.int .i64 0, .int .i64 0, .bool false, .int .u64 0, .int .u64 0, .slice none 0 0] 25)
                have HG : Hid (Blk (yy3.alloc (.cells #[.int .i64 0, .int .i64 0, .bool false, .int .u64 0, .int .u64 0, .slice none 0 0] 25)) yy3.heap.size 25 #[.int .i64 0, .int .i64 0, .bool false, .int .u64 0, .int .u64 0, .slice none 0 0]) := Lib.hid (Blkf.new_at _ _ _ _ rfl)
                obtain ⟨g1, hg1⟩ : ∃ g, g = yy3.heap.size := ⟨_, rfl⟩
                have HGE : Hid (w6.heap.size ≤ g1) := Lib.hid (by rw [hg1]; exact HC.out.size)
                have HC := Lib.hid (HC.out.trans (hE.mono HC.out.size))
                rw [← hg1] at HG ⊢
                generalize yy3.alloc (.cells #[.int .i64 0, .int .i64 0, .bool false, .int .u64 0, .int .u64 0, .slice none 0 0] 25) = yy4 at *
                clear hE hg1
                have hfin := fun u0 u2 u6 u7 u8 => HEND (xs8 u0 u2 u6 u7 u8 (.agg #[.int .i64 f7, .int .i64 t7, .bool b7, .int .u64 s7, .int .u64 a7, .slice A7 n7 c7]) (.bool false) (.pointer (some ⟨g1, 0, none⟩))) _ ⟨f7, t7, b7, s7, a7, A7, n7, c7, g1, rfl, rfl, rfl, HG.out, HGE.out, HC.out⟩
                simp only [fill, xs8, Act.put, List.setIfInBounds_toArray, List.set_cons_zero, List.set_cons_succ] at hfin
                exact hfin _ _ _ _ _
              focus
                refine pt_op (R := fun _ _ => True) rfl (by kernel_rfl) (fun K hK => ?_)
                go_simp
                refine hK _ _ ⟨trivial, ?_⟩
                clear hK
                (try simp only [Act.put, List.setIfInBounds_toArray, List.set_cons_zero, List.set_cons_succ])
                have hE := Below.alloc (Ext.refl yy2) (Nat.le_refl _) (.cells #[.int .i64 0, .int .i64 0, .bool false, .int .u64 0, .int .u64 0, .slice none 0 0] 25)
                have HG : Hid (Blk (yy2.alloc (.cells #[.int .i64 0, .int .i64 0, .bool false, .int .u64 0, .int .u64 0, .slice none 0 0] 25)) yy2.heap.size 25 #[.int .i64 0, .int .i64 0, .bool false, .int .u64 0, .int .u64 0, .slice none 0 0]) := Lib.hid (Blkf.new_at _ _ _ _ rfl)
                obtain ⟨g1, hg1⟩ : ∃ g, g = yy2.heap.size := ⟨_, rfl⟩
                have HGE : Hid (w6.heap.size ≤ g1) := Lib.hid (by rw [hg1]; exact HC.out.size)
                have HO := Lib.hid (own_below HO.out hE)
                have HC := Lib.hid (HC.out.trans (hE.mono HC.out.size))
                rw [← hg1] at HG ⊢
                generalize yy2.alloc (.cells #[.int .i64 0, .int .i64 0, .bool false, .int .u64 0, .int .u64 0, .slice none 0 0] 25) = yy3 at *
                clear hE hg1
                refine pt_turn ?_
                obtain ⟨A6, c6, rfl, hB6, -⟩ := bts_own HO.out (fun i => append_lt HLT.out (fun i => getD_take_lt L q i HLT.out) i) (by rw [List.length_append, ← HM.out, HQL.out])
                rw [show (L ++ L.take q).length = m + q from by rw [List.length_append, ← HM.out, HQL.out]] at HO ⊢
                have hcap6 := own_cap HO.out
                refine pt_opcall (R := fun _ _ => True) rfl (by kernel_rfl) (by go_simp; exact ⟨rfl, rfl⟩) ?_
                refine (wget_sym A6 (L ++ L.take q) (m + q) c6 _ (by rw [List.length_append, ← HM.out, HQL.out]) (by omega) hcap6 hB6).mono ?_
                rintro e yy4 ⟨⟨f7, t7, b7, s7, a7, A7, n7, c7, rfl⟩, hE⟩
                rw [HX16.out (by omega)]
                refine ⟨_, rfl, trivial, ?_⟩
                (try simp only [Act.put, List.setIfInBounds_toArray, List.set_cons_zero, List.set_cons_succ])
                have HG := Lib.hid (HG.out.below hE HG.out.lt)
                have HC := Lib.hid (HC.out.trans (hE.mono HC.out.size))
                clear hE hB6 hcap6
                unfold frV
                iterate 3 (refine pt_take (v := ?_) rfl (by kernel_rfl) ?_ ?_; rotate_left; (focus (intro w' hw'; go_simp; try with_reducible rfl)); (try simp only [Act.put, List.setIfInBounds_toArray, List.set_cons_zero, List.set_cons_succ]))
                have hfin := fun u0 u2 u6 u7 u8 => HEND (xs8 u0 u2 u6 u7 u8 (.agg #[.int .i64 f7, .int .i64 t7, .bool b7, .int .u64 s7, .int .u64 a7, .slice A7 n7 c7]) (.bool false) (.pointer (some ⟨g1, 0, none⟩))) _ ⟨f7, t7, b7, s7, a7, A7, n7, c7, g1, rfl, rfl, rfl, HG.out, HGE.out, HC.out⟩
                simp only [fill, xs8, Act.put, List.setIfInBounds_toArray, List.set_cons_zero, List.set_cons_succ] at hfin
                exact hfin _ _ _ _ _
            focus
              refine pt_op (R := fun _ _ => True) rfl (by kernel_rfl) (fun K hK => ?_)
              go_simp
              refine hK _ _ ⟨trivial, ?_⟩
              clear hK
              (try simp only [Act.put, List.setIfInBounds_toArray, List.set_cons_zero, List.set_cons_succ])
              have hE := Below.alloc (Ext.refl yy1) (Nat.le_refl _) (.cells #[.int .i64 0, .int .i64 0, .bool false, .int .u64 0, .int .u64 0, .slice none 0 0] 25)
              have HG : Hid (Blk (yy1.alloc (.cells #[.int .i64 0, .int .i64 0, .bool false, .int .u64 0, .int .u64 0, .slice none 0 0] 25)) yy1.heap.size 25 #[.int .i64 0, .int .i64 0, .bool false, .int .u64 0, .int .u64 0, .slice none 0 0]) := Lib.hid (Blkf.new_at _ _ _ _ rfl)
              obtain ⟨g1, hg1⟩ : ∃ g, g = yy1.heap.size := ⟨_, rfl⟩
              have HGE : Hid (w6.heap.size ≤ g1) := Lib.hid (by rw [hg1]; exact HC.out.size)
              have HO := Lib.hid (own_below HO.out hE)
              have HC := Lib.hid (HC.out.trans (hE.mono HC.out.size))
              rw [← hg1] at HG ⊢
              generalize yy1.alloc (.cells #[.int .i64 0, .int .i64 0, .bool false, .int .u64 0, .int .u64 0, .slice none 0 0] 25) = yy2 at *
              clear hE hg1
              refine pt_turn ?_
              refine pt_op (R := fun _ _ => True) rfl (by kernel_rfl) (fun K hK => ?_)
              refine wp_append_any _ (.tmp 77) (.tmp 80) _ rfl w6.heap.size 5 i0 _ 1 1 Try.underlying23 hi0 hz0 hz1 hz2 rfl (by decide) v2 m (L.map bv) rfl HO.out yy2.heap.size (some ⟨k1, 0, none⟩) q c1 ((L.take q).map bv) rfl (by have := reads_bts (bts_take (k := q) (bts_below HT6.out HC.out)); rw [HQL.out] at this; exact this) (one_bv _) (by unfold maxLen; omega) (by omega) HC.out.size ?_
              intro v6 yy3 hown hgrow _
              refine hK _ _ ⟨trivial, ?_⟩
              clear hK
              (try simp only [Act.put, List.setIfInBounds_toArray, List.set_cons_zero, List.set_cons_succ])
              have HG := Lib.hid (HG.out.grown hgrow (fun e => row_ne_blk HO.out HG.out (by decide) e.symm))
              have HC := Lib.hid (below_grown HO.out HC.out hgrow HC.out.size)
              rw [← List.map_append] at hown
              have HO := Lib.hid hown
              clear hown hgrow
              refine pt_turn ?_
              obtain ⟨A6, c6, rfl, hB6, -⟩ := bts_own HO.out (fun i => append_lt HLT.out (fun i => getD_take_lt L q i HLT.out) i) (by rw [List.length_append, ← HM.out, HQL.out])
              rw [show (L ++ L.take q).length = m + q from by rw [List.length_append, ← HM.out, HQL.out]] at HO ⊢
              have hcap6 := own_cap HO.out
              refine pt_opcall (R := fun _ _ => True) rfl (by kernel_rfl) (by go_simp; exact ⟨rfl, rfl⟩) ?_
              refine (wget_sym A6 (L ++ L.take q) (m + q) c6 _ (by rw [List.length_append, ← HM.out, HQL.out]) (by omega) hcap6 hB6).mono ?_
              rintro e yy4 ⟨⟨f7, t7, b7, s7, a7, A7, n7, c7, rfl⟩, hE⟩
              rw [HX16.out (by omega)]
              refine ⟨_, rfl, trivial, ?_⟩
              (try simp only [Act.put, List.setIfInBounds_toArray, List.set_cons_zero, List.set_cons_succ])
              have HG := Lib.hid (HG.out.below hE HG.out.lt)
              have HC := Lib.hid (HC.out.trans (hE.mono HC.out.size))
              clear hE hB6 hcap6
              unfold frV
              iterate 3 (refine pt_take (v := ?_) rfl (by kernel_rfl) ?_ ?_; rotate_left; (focus (intro w' hw'; go_simp; try with_reducible rfl)); (try simp only [Act.put, List.setIfInBounds_toArray, List.set_cons_zero, List.set_cons_succ]))
              have hfin := fun u0 u2 u6 u7 u8 => HEND (xs8 u0 u2 u6 u7 u8 (.agg #[.int .i64 f7, .int .i64 t7, .bool b7, .int .u64 s7, .int .u64 a7, .slice A7 n7 c7]) (.bool false) (.pointer (some ⟨g1, 0, none⟩))) _ ⟨f7, t7, b7, s7, a7, A7, n7, c7, g1, rfl, rfl, rfl, HG.out, HGE.out, HC.out⟩
              simp only [fill, xs8, Act.put, List.setIfInBounds_toArray, List.set_cons_zero, List.set_cons_succ] at hfin
              exact hfin _ _ _ _ _
          focus
            refine pt_op (R := fun _ _ => True) rfl (by kernel_rfl) (fun K hK => ?_)
            go_simp
            refine hK _ _ ⟨trivial, ?_⟩
            clear hK
            (try simp only [Act.put, List.setIfInBounds_toArray, List.set_cons_zero, List.set_cons_succ])
            have hE := Below.alloc (Ext.refl yy0) (Nat.le_refl _) (.cells #[.int .i64 0, .int .i64 0, .bool false, .int .u64 0, .int .u64 0, .slice none 0 0] 25)
            have HG : Hid (Blk (yy0.alloc (.cells #[.int .i64 0, .int .i64 0, .bool false, .int .u64 0, .int .u64 0, .slice none 0 0] 25)) yy0.heap.size 25 #[.int .i64 0, .int .i64 0, .bool false, .int .u64 0, .int .u64 0, .slice none 0 0]) := Lib.hid (Blkf.new_at _ _ _ _ rfl)
            obtain ⟨g1, hg1⟩ : ∃ g, g = yy0.heap.size := ⟨_, rfl⟩
            have HGE : Hid (w6.heap.size ≤ g1) := Lib.hid (by rw [hg1]; exact HC.out.size)
            have HO := Lib.hid (own_below HO.out hE)
            have HC := Lib.hid (HC.out.trans (hE.mono HC.out.size))
            rw [← hg1] at HG ⊢
            generalize yy0.alloc (.cells #[.int .i64 0, .int .i64 0, .bool false, .int .u64 0, .int .u64 0, .slice none 0 0] 25) = yy1 at *
            clear hE hg1
            refine pt_turn ?_
            refine pt_op (R := fun _ _ => True) rfl (by kernel_rfl) (fun K hK => ?_)
            refine wp_append_any _ (.tmp 75) (.tmp 76) _ rfl w6.heap.size 5 i0 _ 1 1 Try.underlying23 hi0 hz0 hz1 hz2 rfl (by decide) (.slice (some ⟨g0, 0, none⟩) 0 0) 0 [] rfl HO.out yy1.heap.size (some ⟨k1, 0, none⟩) m c1 (L.map bv) rfl (by have := reads_bts (bts_below HT6.out HC.out); rw [← HM.out] at this; exact this) (one_bv _) (by unfold maxLen; omega) (by omega) HC.out.size ?_
            intro v2 yy2 hown hgrow _
            refine hK _ _ ⟨trivial, ?_⟩
            clear hK
            (try simp only [Act.put, List.setIfInBounds_toArray, List.set_cons_zero, List.set_cons_succ])
            have HG := Lib.hid (HG.out.grown hgrow (fun e => row_ne_blk HO.out HG.out (by decide) e.symm))
            have HC := Lib.hid (below_grown HO.out HC.out hgrow HC.out.size)
            rw [Nat.zero_add, List.nil_append] at hown
            have HO := Lib.hid hown
            clear hown hgrow
            refine pt_turn ?_
            refine pt_op (R := fun _ _ => True) rfl (by kernel_rfl) (fun K hK => ?_)
            refine wp_append_any _ (.tmp 77) (.tmp 80) _ rfl w6.heap.size 5 i0 _ 1 1 Try.underlying23 hi0 hz0 hz1 hz2 rfl (by decide) v2 m (L.map bv) rfl HO.out yy2.heap.size (some ⟨k1, 0, none⟩) q c1 ((L.take q).map bv) rfl (by have := reads_bts (bts_take (k := q) (bts_below HT6.out HC.out)); rw [HQL.out] at this; exact this) (one_bv _) (by unfold maxLen; omega) (by omega) HC.out.size ?_
            intro v6 yy3 hown hgrow _
            refine hK _ _ ⟨trivial, ?_⟩
            clear hK
            (try simp only [Act.put, List.setIfInBounds_toArray, List.set_cons_zero, List.set_cons_succ])
            have HG := Lib.hid (HG.out.grown hgrow (fun e => row_ne_blk HO.out HG.out (by decide) e.symm))
            have HC := Lib.hid (below_grown HO.out HC.out hgrow HC.out.size)
            rw [← List.map_append] at hown
            have HO := Lib.hid hown
            clear hown hgrow
            refine pt_turn ?_
            obtain ⟨A6, c6, rfl, hB6, -⟩ := bts_own HO.out (fun i => append_lt HLT.out (fun i => getD_take_lt L q i HLT.out) i) (by rw [List.length_append, ← HM.out, HQL.out])
            rw [show (L ++ L.take q).length = m + q from by rw [List.length_append, ← HM.out, HQL.out]] at HO ⊢
            have hcap6 := own_cap HO.out
            refine pt_opcall (R := fun _ _ => True) rfl (by kernel_rfl) (by go_simp; exact ⟨rfl, rfl⟩) ?_
            refine (wget_sym A6 (L ++ L.take q) (m + q) c6 _ (by rw [List.length_append, ← HM.out, HQL.out]) (by omega) hcap6 hB6).mono ?_
            rintro e yy4 ⟨⟨f7, t7, b7, s7, a7, A7, n7, c7, rfl⟩, hE⟩
            rw [HX16.out (by omega)]
            refine ⟨_, rfl, trivial, ?_⟩
            (try simp only [Act.put, List.setIfInBounds_toArray, List.set_cons_zero, List.set_cons_succ])
            have HG := Lib.hid (HG.out.below hE HG.out.lt)
            have HC := Lib.hid (HC.out.trans (hE.mono HC.out.size))
            clear hE hB6 hcap6
            unfold frV
            iterate 3 (refine pt_take (v := ?_) rfl (by kernel_rfl) ?_ ?_; rotate_left; (focus (intro w' hw'; go_simp; try with_reducible rfl)); (try simp only [Act.put, List.setIfInBounds_toArray, List.set_cons_zero, List.set_cons_succ]))
            have hfin := fun u0 u2 u6 u7 u8 => HEND (xs8 u0 u2 u6 u7 u8 (.agg #[.int .i64 f7, .int .i64 t7, .bool b7, .int .u64 s7, .int .u64 a7, .slice A7 n7 c7]) (.bool false) (.pointer (some ⟨g1, 0, none⟩))) _ ⟨f7, t7, b7, s7, a7, A7, n7, c7, g1, rfl, rfl, rfl, HG.out, HGE.out, HC.out⟩
            simp only [fill, xs8, Act.put, List.setIfInBounds_toArray, List.set_cons_zero, List.set_cons_succ] at hfin
            exact hfin _ _ _ _ _
        focus
          refine pt_op (R := fun _ _ => True) rfl (by kernel_rfl) (fun K hK => ?_)
          go_simp
          refine hK _ _ ⟨trivial, ?_⟩
          clear hK
          (try simp only [Act.put, List.setIfInBounds_toArray, List.set_cons_zero, List.set_cons_succ])
          have hE := Below.alloc (Ext.refl y) (Nat.le_refl _) (.cells #[.int .i64 0, .int .i64 0, .bool false, .int .u64 0, .int .u64 0, .slice none 0 0] 25)
          have HG : Hid (Blk (y.alloc (.cells #[.int .i64 0, .int .i64 0, .bool false, .int .u64 0, .int .u64 0, .slice none 0 0] 25)) y.heap.size 25 #[.int .i64 0, .int .i64 0, .bool false, .int .u64 0, .int .u64 0, .slice none 0 0]) := Lib.hid (Blkf.new_at _ _ _ _ rfl)
          obtain ⟨g1, hg1⟩ : ∃ g, g = y.heap.size := ⟨_, rfl⟩
          have HGE : Hid (w6.heap.size ≤ g1) := Lib.hid (by rw [hg1]; exact HC.out.size)
          have HC := Lib.hid (HC.out.trans (hE.mono HC.out.size))
          rw [← hg1] at HG ⊢
          generalize y.alloc (.cells #[.int .i64 0, .int .i64 0, .bool false, .int .u64 0, .int .u64 0, .slice none 0 0] 25) = yy0 at *
          clear hE hg1
          refine pt_turn ?_
          refine pt_op (R := fun _ _ => True) rfl (by kernel_rfl) (fun K hK => ?_)
          go_simp
          refine hK _ _ ⟨trivial, ?_⟩
          clear hK
          (try simp only [Act.put, List.setIfInBounds_toArray, List.set_cons_zero, List.set_cons_succ])
          have hE := Below.alloc (Ext.refl yy0) (Nat.le_refl _) (.cells #[] 5)
          have HO := Lib.hid (own_mono16 (empty_own yy0) HC.out.size)
          obtain ⟨g0, hg0⟩ : ∃ g, g = yy0.heap.size := ⟨_, rfl⟩
          have HG := Lib.hid (HG.out.below hE HG.out.lt)
          have HC := Lib.hid (HC.out.trans (hE.mono HC.out.size))
          rw [← hg0] at HO ⊢
          generalize yy0.alloc (.cells #[] 5) = yy1 at *
          clear hE hg0
          refine pt_turn ?_
          refine pt_op (R := fun _ _ => True) rfl (by kernel_rfl) (fun K hK => ?_)
          refine wp_append_any _ (.tmp 75) (.tmp 76) _ rfl w6.heap.size 5 i0 _ 1 1 Try.underlying23 hi0 hz0 hz1 hz2 rfl (by decide) (.slice (some ⟨g0, 0, none⟩) 0 0) 0 [] rfl HO.out yy1.heap.size (some ⟨k1, 0, none⟩) m c1 (L.map bv) rfl (by have := reads_bts (bts_below HT6.out HC.out); rw [← HM.out] at this; exact this) (one_bv _) (by unfold maxLen; omega) (by omega) HC.out.size ?_
          intro v2 yy2 hown hgrow _
          refine hK _ _ ⟨trivial, ?_⟩
          clear hK
          (try simp only [Act.put, List.setIfInBounds_toArray, List.set_cons_zero, List.set_cons_succ])
          have HG := Lib.hid (HG.out.grown hgrow (fun e => row_ne_blk HO.out HG.out (by decide) e.symm))
          have HC := Lib.hid (below_grown HO.out HC.out hgrow HC.out.size)
          rw [Nat.zero_add, List.nil_append] at hown
          have HO := Lib.hid hown
          clear hown hgrow
          refine pt_turn ?_
          refine pt_op (R := fun _ _ => True) rfl (by kernel_rfl) (fun K hK => ?_)
          refine wp_append_any _ (.tmp 77) (.tmp 80) _ rfl w6.heap.size 5 i0 _ 1 1 Try.underlying23 hi0 hz0 hz1 hz2 rfl (by decide) v2 m (L.map bv) rfl HO.out yy2.heap.size (some ⟨k1, 0, none⟩) q c1 ((L.take q).map bv) rfl (by have := reads_bts (bts_take (k := q) (bts_below HT6.out HC.out)); rw [HQL.out] at this; exact this) (one_bv _) (by unfold maxLen; omega) (by omega) HC.out.size ?_
          intro v6 yy3 hown hgrow _
          refine hK _ _ ⟨trivial, ?_⟩
          clear hK
          (try simp only [Act.put, List.setIfInBounds_toArray, List.set_cons_zero, List.set_cons_succ])
          have HG := Lib.hid (HG.out.grown hgrow (fun e => row_ne_blk HO.out HG.out (by decide) e.symm))
          have HC := Lib.hid (below_grown HO.out HC.out hgrow HC.out.size)
          rw [← List.map_append] at hown
          have HO := Lib.hid hown
          clear hown hgrow
          refine pt_turn ?_
          obtain ⟨A6, c6, rfl, hB6, -⟩ := bts_own HO.out (fun i => append_lt HLT.out (fun i => getD_take_lt L q i HLT.out) i) (by rw [List.length_append, ← HM.out, HQL.out])
          rw [show (L ++ L.take q).length = m + q from by rw [List.length_append, ← HM.out, HQL.out]] at HO ⊢
          have hcap6 := own_cap HO.out
          refine pt_opcall (R := fun _ _ => True) rfl (by kernel_rfl) (by go_simp; exact ⟨rfl, rfl⟩) ?_
          refine (wget_sym A6 (L ++ L.take q) (m + q) c6 _ (by rw [List.length_append, ← HM.out, HQL.out]) (by omega) hcap6 hB6).mono ?_
          rintro e yy4 ⟨⟨f7, t7, b7, s7, a7, A7, n7, c7, rfl⟩, hE⟩
          rw [HX16.out (by omega)]
          refine ⟨_, rfl, trivial, ?_⟩
          (try simp only [Act.put, List.setIfInBounds_toArray, List.set_cons_zero, List.set_cons_succ])
          have HG := Lib.hid (HG.out.below hE HG.out.lt)
          have HC := Lib.hid (HC.out.trans (hE.mono HC.out.size))
          clear hE hB6 hcap6
          unfold frV
          iterate 3 (refine pt_take (v := ?_) rfl (by kernel_rfl) ?_ ?_; rotate_left; (focus (intro w' hw'; go_simp; try with_reducible rfl)); (try simp only [Act.put, List.setIfInBounds_toArray, List.set_cons_zero, List.set_cons_succ]))
          have hfin := fun u0 u2 u6 u7 u8 => HEND (xs8 u0 u2 u6 u7 u8 (.agg #[.int .i64 f7, .int .i64 t7, .bool b7, .int .u64 s7, .int .u64 a7, .slice A7 n7 c7]) (.bool false) (.pointer (some ⟨g1, 0, none⟩))) _ ⟨f7, t7, b7, s7, a7, A7, n7, c7, g1, rfl, rfl, rfl, HG.out, HGE.out, HC.out⟩
          simp only [fill, xs8, Act.put, List.setIfInBounds_toArray, List.set_cons_zero, List.set_cons_succ] at hfin
          exact hfin _ _ _ _ _
end Law
end Go.Proofs.Ytidfhdkalnaddaa
