/- Deliver. -/
import Derived.Test.YtnnajaomajgoeaaNetD
namespace Go.Proofs.Ytnnajaomajgoeaa
open Go.RowKit Go.ChangeShapes

theorem pcC_cell {cur : Array Value} {L : List (Pc × Value)} (h : cur.toList.take (L.length * 4) = pcC L) {k : Nat} {x : Pc × Value} (hk : L[k]? = some x) (j : Nat) (hj : j < 4) : cur[k * 4 + j]? = (pcV x)[j]? := by
  have hl := (List.getElem?_eq_some_iff.1 hk).1
  rw [← pcC_get L k j x hk hj, ← h, List.getElem?_take, if_pos (by omega), Array.getElem?_toList]
theorem pcC_drop : ∀ (L : List (Pc × Value)) (k : Nat), (pcC L).drop (k * 4) = pcC (L.drop k)
  | L, 0 => by simp
  | [], k + 1 => by simp [pcC]
  | x :: r, k + 1 => by
    show (pcV x ++ pcC r).drop ((k + 1) * 4) = _
    rw [show (k + 1) * 4 = (pcV x).length + k * 4 by show _ = 4 + _; omega, List.drop_append, List.drop_succ_cons]
    rw [List.drop_of_length_le (by omega), List.nil_append, Nat.add_sub_cancel_left]
    exact pcC_drop r k
theorem pcC_take : ∀ (L : List (Pc × Value)) (k : Nat), (pcC L).take (k * 4) = pcC (L.take k)
  | L, 0 => by simp [pcC]
  | [], k + 1 => by simp [pcC]
  | x :: r, k + 1 => by
    show (pcV x ++ pcC r).take ((k + 1) * 4) = _
    rw [show (k + 1) * 4 = (pcV x).length + k * 4 by show _ = 4 + _; omega, List.take_append, List.take_succ_cons]
    rw [List.take_of_length_le (by omega), Nat.add_sub_cancel_left, pcC_take r k]
    rfl
theorem one_pcC {L : List (Pc × Value)} (h : ∀ x ∈ L, x.2.oneCell' = true) : ∀ u ∈ pcC L, u.oneCell' = true := by
  induction L with
  | nil => intro u hu; simp [pcC] at hu
  | cons x r ih =>
    intro u hu
    rcases List.mem_append.1 (show u ∈ pcV x ++ pcC r from hu) with hu | hu
    · exact one_pc x.1 x.2 (h x (by simp)) u hu
    · exact ih (fun y hy => h y (List.mem_cons_of_mem _ hy)) u hu
/-- What stands behind slices.Delete. -/
theorem del_list {cur : Array Value} {L : List (Pc × Value)} {cap k : Nat} (hs : cur.size = cap * 4) (h : cur.toList.take (L.length * 4) = pcC L) (hn : L.length ≤ cap) (hk : k < L.length) :
    (layC (layC cur (k * 4) (newsP cur k L.length)) ((L.length - 1) * 4) zP).toList.take ((L.length - 1) * 4) = pcC (L.eraseIdx k) := by
  have hnl : (newsP cur k L.length).length = (L.length - (k + 1)) * 4 := by rw [newsP]; simp [hs]; omega
  have hc : cur.toList.length = cap * 4 := by simpa using hs
  have e1 : newsP cur k L.length = pcC (L.drop (k + 1)) := by rw [newsP, h, pcC_drop]
  have e2 : cur.toList.take (k * 4) = pcC (L.take k) := by
    rw [← pcC_take, ← h, List.take_take, show min (k * 4) (L.length * 4) = k * 4 by omega]
  rw [layC_list _ _ _ (by rw [layC_size, hs]; show (L.length - 1) * 4 + 4 ≤ _; omega), layC_list _ _ _ (by rw [hnl, hs]; omega)]
  rw [e1] at hnl ⊢
  rw [e2]
  have hl1 : (pcC (L.take k)).length = k * 4 := by rw [pcC_length]; simp; omega
  rw [List.take_append_of_le_length (by simp [hl1, hnl, hc]; omega), List.take_append_of_le_length (by simp [hl1, hnl, hc]; omega), List.take_take, Nat.min_self, List.take_append_of_le_length (by simp [hl1, hnl, hc]; omega), List.take_of_length_le (by simp [hl1, hnl]; omega), ← pcC_append, ← List.eraseIdx_eq_take_drop_succ]
theorem apart_at {L : List (Pc × Value)} (h : L.Pairwise (fun x y => ∀ k, x.2.ownBlock = some k → y.2.ownBlock ≠ some k)) {i j : Nat} {x y : Pc × Value} (hx : L[i]? = some x) (hy : L[j]? = some y) (hne : i ≠ j) : ∀ k, x.2.ownBlock = some k → y.2.ownBlock ≠ some k := by
  obtain ⟨hi, ei⟩ := List.getElem?_eq_some_iff.1 hx
  obtain ⟨hj, ej⟩ := List.getElem?_eq_some_iff.1 hy
  rw [List.pairwise_iff_getElem] at h
  rcases Nat.lt_or_gt_of_ne hne with hlt | hlt
  · have := h i j hi hj hlt
    rw [ei, ej] at this
    exact this
  · have := h j i hj hi hlt
    rw [ei, ej] at this
    exact fun k h1 h2 => this k h2 h1
theorem bag_del {W w2 : World} {gb g cap k : Nat} {L : List (Pc × Value)} {lost : Int} {F : Nat → Prop} {cur' : Array Value} {x : Pc × Value} (h : BagAt W gb L lost F) (hx : L[k]? = some x)
    (h3 : ∀ k, (Value.slice (some ⟨g, 0, none⟩) L.length cap).ownBlock = some k → F k ∧ ∀ x ∈ L, x.2.ownBlock ≠ some k) (hc : L.length ≤ cap) (hm : cap ≤ maxLen) (hs : cur'.size = cap * 4)
    (hb : Blk w2 gb 63 #[.slice (some ⟨g, 0, none⟩) (L.length - 1) cap, .int .i64 lost]) (hr : Blk w2 g 37 cur') (hl : cur'.toList.take ((L.length - 1) * 4) = pcC (L.eraseIdx k)) (hK : Keeps (fun b => b = g ∨ b = gb) W w2) :
    BagAt w2 gb (L.eraseIdx k) lost (fun b => F b ∧ x.2.ownBlock ≠ some b) ∧ Keeps F W w2 ∧ RdB w2 (fun b => F b ∧ x.2.ownBlock = some b) x.2 x.1.byt := by
  have hk := (List.getElem?_eq_some_iff.1 hx).1
  have hxm := List.mem_of_getElem? hx
  have hlen : (L.eraseIdx k).length = L.length - 1 := by rw [List.length_eraseIdx, if_pos hk]
  obtain ⟨hgF, hgx⟩ := h3 g rfl
  have hmem : ∀ y ∈ L.eraseIdx k, y ∈ L ∧ ∀ b, y.2.ownBlock = some b → x.2.ownBlock ≠ some b := by
    intro y hy
    obtain ⟨j, hj, hne, e⟩ := List.mem_eraseIdx_iff_getElem.1 hy
    have hy2 : L[j]? = some y := by rw [List.getElem?_eq_getElem hj, e]
    exact ⟨List.mem_of_getElem? hy2, apart_at h.apart hy2 hx hne⟩
  refine ⟨⟨⟨.slice (some ⟨g, 0, none⟩) (L.length - 1) cap, hb, ?_, fun b hb' => ?_⟩, fun y hy => ?_, h.apart.sublist (List.eraseIdx_sublist ..), ⟨h.self, fun e => ((h.rd x hxm).form.2 _ e).2 rfl⟩, fun b hb' => Nat.lt_of_lt_of_le (h.lt b hb'.1) hK.size⟩, hK.mono fun b hb' => ?_, ?_⟩
  · rw [hlen]
    exact ⟨by rw [pcC_length, hlen], .inr ⟨g, cap, cur', rfl, Nat.zero_le _, hr, by omega, hm, hs, hl⟩⟩
  · have e : b = g := by simpa [Value.ownBlock] using hb'.symm
    subst e
    exact ⟨⟨hgF, hgx x hxm⟩, fun y hy => hgx y (hmem y hy).1⟩
  · obtain ⟨hyL, hyx⟩ := hmem y hy
    obtain ⟨A, c, e, r1, r2, r3, r4⟩ := h.rd y hyL
    have hno : ∀ a, A = some a → ¬ (a.block = g ∨ a.block = gb) := by
      rintro a ea (h' | h')
      · exact hgx y hyL (by rw [e, ea, ← h']; rfl)
      · exact (r4 a ea).1.2 h'
    exact ⟨A, c, e, bts_keeps r1 hK hno, r2, r3, fun a ea => ⟨⟨⟨(r4 a ea).1.1, hyx a.block (by rw [e, ea]; rfl)⟩, (r4 a ea).1.2⟩, (r4 a ea).2.imp fun cs hb => hK.blk hb (hno a ea)⟩⟩
  · rcases hb' with rfl | rfl
    · exact hgF
    · exact h.self
  · obtain ⟨A, c, e, r1, r2, r3, r4⟩ := h.rd x hxm
    have hno : ∀ a, A = some a → ¬ (a.block = g ∨ a.block = gb) := by
      rintro a ea (h' | h')
      · exact hgx x hxm (by rw [e, ea, ← h']; rfl)
      · exact (r4 a ea).1.2 h'
    exact ⟨A, c, e, bts_keeps r1 hK hno, r2, r3, fun a ea => ⟨⟨(r4 a ea).1.1, by show x.2.ownBlock = _; rw [e, ea]; rfl⟩, (r4 a ea).2.imp fun cs hb => hK.blk hb (hno a ea)⟩⟩
theorem RdB.sl {w : World} {F : Nat → Prop} {u : Value} {l : List Nat} (h : RdB w F u l) : ∃ A m c, u = .slice A m c := by
  obtain ⟨A, c, rfl, _⟩ := h
  exact ⟨_, _, _, rfl⟩
theorem deliver_no (gb : Nat) (L : List (Pc × Value)) (lost i : Int) (F : Nat → Prop) (W : World) (h : BagAt W gb L lost F) (hi : hereB i L.length = false) :
    Calls Try.prog 10 #[.pointer (some ⟨gb, 0, none⟩), .int .i64 i] W fun e w' => e = .returned (.tuple #[.agg #[.int .i64 0, .int .i64 0, .slice none 0 0, .bool false], .bool false]) ∧ Below W.heap.size W w' := by
  have HB := Lib.hid h
  have HI := Lib.hid hi
  clear h hi
  go_enter Try.func10, Try.ntmps10
  go_wp2_with fail
  refine (bthere_any gb L lost i F _ (HB.out.below ((Below.refl _ W).alloc (Nat.le_refl _) _))).mono ?_
  rintro e w' ⟨rfl, rfl⟩
  rw [HI.out]
  go_wp2_with fail
  refine bodyPost_ret (v := .tuple #[.agg #[.int .i64 0, .int .i64 0, .slice none 0 0, .bool false], .bool false]) (by simp [results, Try.results10, go_sem]) rfl ?_
  exact ⟨rfl, (Below.refl _ W).alloc (Nat.le_refl _) _⟩
set_option maxHeartbeats 1000000 in
theorem deliver_yes (gb : Nat) (L : List (Pc × Value)) (lost : Int) (k : Nat) (x : Pc × Value) (F : Nat → Prop) (W : World) (h : BagAt W gb L lost F) (hx : L[k]? = some x) :
    Calls Try.prog 10 #[.pointer (some ⟨gb, 0, none⟩), .int .i64 (k : Int)] W fun e w' => e = .returned (.tuple #[.agg (pcV x).toArray, .bool true]) ∧ BagAt w' gb (L.eraseIdx k) lost (fun b => F b ∧ x.2.ownBlock ≠ some b) ∧ Keeps F W w' ∧ RdB w' (fun b => F b ∧ x.2.ownBlock = some b) x.2 x.1.byt := by
  have hk := (List.getElem?_eq_some_iff.1 hx).1
  have HB := Lib.hid h
  obtain ⟨v, h1, h2, h3⟩ := h.own
  obtain ⟨p, u⟩ := x
  obtain ⟨Au, mu, cu, rfl⟩ := (h.rd (p, u) (List.mem_of_getElem? hx)).sl
  rcases h2.2 with ⟨rfl, h0⟩ | ⟨g, cap, cur, rfl, _, hg, hcap, hm, hs, hl⟩
  · omega
  have q0 : cur[k * 4]? = some (.int .i64 p.src) := (pcC_cell hl hx 0 (by decide)).trans rfl
  have q1 : cur[k * 4 + 1]? = some (.int .i64 p.dst) := (pcC_cell hl hx 1 (by decide)).trans rfl
  have q2 : cur[k * 4 + 2]? = some (.slice Au mu cu) := (pcC_cell hl hx 2 (by decide)).trans rfl
  have q3 : cur[k * 4 + 3]? = some (.bool p.hurt) := (pcC_cell hl hx 3 (by decide)).trans rfl
  have hgb : Blk W g 37 cur := hg
  have c0 := h1.cell 0
  have hlt := h1.lt
  have hltg := hgb.lt
  have r0 := (hgb.cell (k * 4)).trans q0
  have r1 := (hgb.cell (k * 4 + 1)).trans q1
  have r2 := (hgb.cell (k * 4 + 2)).trans q2
  have r3 := (hgb.cell (k * 4 + 3)).trans q3
  have hou : (Value.slice Au mu cu).oneCell' = true := (HB.out.rd (p, .slice Au mu cu) (List.mem_of_getElem? hx)).form.1
  simp only [List.getElem?_toArray, List.getElem?_cons_zero] at c0
  have HG := Lib.hid hgb
  have HS := Lib.hid hs
  have HL := Lib.hid hl
  have HM := Lib.hid hm
  have HC := Lib.hid hcap
  have H1 := Lib.hid h1
  have H3 := Lib.hid h3
  have HX := Lib.hid hx
  obtain ⟨n, hn⟩ : ∃ n, n = L.length := ⟨_, rfl⟩
  have HN := Lib.hid hn
  rw [← hn] at c0 hk
  have hkI : (k : Int) < (n : Int) := by omega
  have hkI0 : (0 : Int) ≤ (k : Int) := by omega
  have hkM : n ≤ 9223372036854775807 := by rw [hn]; exact Nat.le_trans hcap (Nat.le_trans hm (by decide))
  clear h h1 h2 h3 hg hgb hcap hm hs hl q0 q1 q2 q3 hx hn
  have HBA := Lib.hid (HB.out.below ((Below.refl _ W).alloc (Nat.le_refl _) (.cells #[.int .i64 0, .int .i64 0, .slice none 0 0, .bool false] 37)))
  go_enter Try.func10, Try.ntmps10
  go_wp2_with fail
  refine (bthere_any gb L lost k F _ HBA.out).mono ?_
  rintro e w' ⟨rfl, rfl⟩
  rw [show hereB (k : Int) L.length = true by unfold hereB; rw [← HN.out, decide_eq_true hkI, decide_eq_true hkI0]; rfl]
  go_wp2_with fail
  rw [HN.out, show (k : Int) + 1 = ((k + 1 : Nat) : Int) from rfl]
  refine (delete_any _ g cap L.length k cur ((HG.out.alloc _).alloc _) HS.out HC.out HM.out (by rw [← HN.out]; exact hk) (by rw [HL.out]; exact one_pcC fun x hx => (HB.out.rd x hx).form.1)).mono ?_
  rintro e w1 ⟨rfl, hw1⟩
  obtain ⟨W2, hW2⟩ : ∃ W2, W2 = (W.alloc (.cells #[.int .i64 0, .int .i64 0, .slice none 0 0, .bool false] 37)).alloc (.cells #[.int .i64 p.src, .int .i64 p.dst, .slice Au mu cu, .bool p.hurt] 37) := ⟨_, rfl⟩
  have hb02 : Below W.heap.size W W2 := by rw [hW2]; exact ((Below.refl _ W).alloc (Nat.le_refl _) _).alloc (by simp) _
  rw [← hW2] at hw1
  have hk1 : Keeps (fun b => b = g) W2 w1 := by rw [← hw1]; exact Keeps.setCells (F := fun b => b = g) rfl _ _ (Keeps.setCells (F := fun b => b = g) rfl _ _ (Keeps.refl _ _).drew)
  have hgl : g < W.heap.size := hltg
  have hggb : gb ≠ g := fun e => (row_ne_blk (w := W) (base := 0) (e := 37) (size := 4) (n := cap) (v := .slice (some ⟨g, 0, none⟩) cap cap) (xs := cur.toList) ⟨by rw [Array.length_toList, HS.out], .inr ⟨g, cap, cur, rfl, Nat.zero_le _, HG.out, Nat.le_refl _, HM.out, HS.out, by rw [← HS.out, ← Array.length_toList, List.take_length]⟩⟩ H1.out (by decide)) (by rw [e]; rfl)
  have b0 : Blk w1 W.heap.size 37 #[.int .i64 0, .int .i64 0, .slice none 0 0, .bool false] := hk1.blk (by rw [hW2]; exact (Blkf.new_at W _ _ _ rfl).alloc _) (by omega)
  have b1 : Blk w1 (W.heap.size + 1) 37 #[.int .i64 p.src, .int .i64 p.dst, .slice Au mu cu, .bool p.hurt] := hk1.blk (by rw [hW2]; exact Blkf.new_at _ _ _ _ (by simp)) (by omega)
  have bg : Blk w1 gb 63 #[.slice (some ⟨g, 0, none⟩) L.length cap, .int .i64 lost] := hk1.blk (H1.out.below hb02 hlt) hggb
  have br : Blk w1 g 37 (layC (layC cur (k * 4) (newsP cur k L.length)) ((L.length - 1) * 4) zP) := by
    rw [← hw1]
    exact Blkf.setCells _ _ (Blkf.setCells _ _ ((HG.out.below hb02 hltg).drew))
  have hs1 : w1.heap.size = W2.heap.size := by rw [← hw1, size_setC, size_setC]; rfl
  have hs2 : W2.heap.size = W.heap.size + 2 := by rw [hW2]; simp
  clear hw1 hW2
  have HK1 := Lib.hid hk1
  have HBR := Lib.hid br
  have HB02 := Lib.hid hb02
  have HBG := Lib.hid bg
  have HB0 := Lib.hid b0
  have e0 := b1.cell 0
  have e1 := b1.cell 1
  have e2 := b1.cell 2
  have e3 := b1.cell 3
  have z0 := b0.cell 0
  have z1 := b0.cell 1
  have z2 := b0.cell 2
  have z3 := b0.cell 3
  have y0 := Blk.frozen b0 0
  have y1 := Blk.frozen b0 1
  have y2 := Blk.frozen b0 2
  have y3 := Blk.frozen b0 3
  have g0 := bg.cell 0
  have g1 := Blk.frozen bg 0
  simp only [List.getElem?_toArray, List.getElem?_cons_zero, List.getElem?_cons_succ] at e0 e1 e2 e3 z0 z1 z2 z3 g0
  clear hk1 br hb02 bg b0 b1 r0 r1 r2 r3 c0 HBA
  go_wp2_with fail
  have n0 : gb ≠ W.heap.size := by omega
  have n1 : g ≠ W.heap.size := by omega
  have ks : Keeps (fun b => b = gb ∨ b = W.heap.size) w1 (((((w1.setCell ⟨gb, 0, none⟩ (.slice (some ⟨g, 0, none⟩) (L.length - 1) cap)).setCell ⟨W.heap.size, 0, none⟩ (.int .i64 p.src)).setCell ⟨W.heap.size, 1, none⟩ (.int .i64 p.dst)).setCell ⟨W.heap.size, 2, none⟩ (.slice Au mu cu)).setCell ⟨W.heap.size, 3, none⟩ (.bool p.hurt)) :=
    (((((Keeps.refl _ w1).setCell (p := ⟨gb, 0, none⟩) (.inl (.inl rfl)) _).setCell (p := ⟨W.heap.size, 0, none⟩) (.inl (.inr rfl)) _).setCell (p := ⟨W.heap.size, 1, none⟩) (.inl (.inr rfl)) _).setCell (p := ⟨W.heap.size, 2, none⟩) (.inl (.inr rfl)) _).setCell (p := ⟨W.heap.size, 3, none⟩) (.inl (.inr rfl)) _
  refine bodyPost_ret (v := .tuple #[.agg #[.int .i64 p.src, .int .i64 p.dst, .slice Au mu cu, .bool p.hurt], .bool true]) (res_cell_slot Try.results10 _ _ W.heap.size 37 _ _ rfl rfl (Blkf.set_ (Blkf.set_ (Blkf.set_ (Blkf.set_ (HB0.out.far (p := ⟨gb, 0, none⟩) n0.symm _) 0 (.int .i64 p.src)) 1 (.int .i64 p.dst)) 2 (.slice Au mu cu)) 3 (.bool p.hurt)) (by kernel_rfl)) rfl ?_
  refine ⟨rfl, bag_del HB.out HX.out H3.out HC.out HM.out (by rw [layC_size, layC_size]; exact HS.out) (((((Blkf.set_ HBG.out 0 _).far n0 _).far n0 _).far n0 _).far n0 _) (ks.blk HBR.out (by rintro (h' | h'); exact hggb h'.symm; exact n1 h')) (del_list HS.out HL.out HC.out (by rw [← HN.out]; exact hk)) ?_⟩
  have k01 : Keeps (fun b => b = g ∨ b = gb) W w1 := (Keeps.of_below HB02.out).trans HK1.out (fun i hi => .inl (.inl hi))
  exact k01.trans ks (fun i hi => by rcases hi with hi | hi; exact .inl (.inr hi); exact .inr (by omega))
end Go.Proofs.Ytnnajaomajgoeaa
