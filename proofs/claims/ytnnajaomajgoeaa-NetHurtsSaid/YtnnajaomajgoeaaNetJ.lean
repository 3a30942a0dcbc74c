/- Turn, Cut. -/
import Derived.Test.YtnnajaomajgoeaaNetI
import Derived.Test.YtnnajaomajgoeaaCheckI
namespace Go.Proofs.Ytnnajaomajgoeaa
open Go.RowKit Go.ChangeShapes

theorem bag_hurt {W : World} {gb g cap k : Nat} {L : List (Pc × Value)} {lost : Int} {F : Nat → Prop} {cur : Array Value} {p : Pc} {u u' : Value} {l' : List Nat} {G : Nat → Prop} (h : BagAt W gb L lost F) (o : BagOpen W gb L lost F k p u g cap cur) (hx : L[k]? = some (p, u)) (hu : RdB W G u' l')
    (hub : ∀ b, u'.ownBlock = some b → b ≠ gb ∧ b ≠ g ∧ b < W.heap.size ∧ ∀ (j : Nat) (y : Pc × Value), L[j]? = some y → j ≠ k → y.2.ownBlock ≠ some b) :
    BagAt ((W.drew.setCell ⟨g, k * 4 + 2, none⟩ u').setCell ⟨g, k * 4 + 3, none⟩ (.bool true)) gb (L.set k (⟨p.src, p.dst, l', true⟩, u')) lost (fun b => F b ∨ u'.ownBlock = some b) ∧ Keeps F W ((W.drew.setCell ⟨g, k * 4 + 2, none⟩ u').setCell ⟨g, k * 4 + 3, none⟩ (.bool true)) := by
  obtain ⟨w2, hw2⟩ : ∃ w2, w2 = (W.drew.setCell ⟨g, k * 4 + 2, none⟩ u').setCell ⟨g, k * 4 + 3, none⟩ (.bool true) := ⟨_, rfl⟩
  have hK : Keeps (fun b => b = g) W w2 := by
    rw [hw2]
    exact (((Keeps.refl (fun b => b = g) W).drew).setCell (p := ⟨g, k * 4 + 2, none⟩) (.inl rfl) _).setCell (p := ⟨g, k * 4 + 3, none⟩) (.inl rfl) _
  have hR : Blk w2 g 37 ((cur.setIfInBounds (k * 4 + 2) u').setIfInBounds (k * 4 + 3) (.bool true)) := by
    rw [hw2]
    exact Blkf.set_ (Blkf.set_ o.row.drew _ _) _ _
  have hl := o.lt
  rw [← hw2]
  clear hw2
  have hlen : (L.set k (⟨p.src, p.dst, l', true⟩, u')).length = L.length := by simp
  have hmem : ∀ (j : Nat) (y : Pc × Value), (L.set k (⟨p.src, p.dst, l', true⟩, u'))[j]? = some y → (j = k ∧ y = (⟨p.src, p.dst, l', true⟩, u')) ∨ (j ≠ k ∧ L[j]? = some y) := by
    intro j y hy
    rw [List.getElem?_set] at hy
    by_cases hj : k = j
    · subst hj
      rw [if_pos rfl, if_pos hl] at hy
      injection hy with hy
      exact .inl ⟨rfl, hy.symm⟩
    · rw [if_neg hj] at hy
      exact .inr ⟨fun e => hj e.symm, hy⟩
  refine ⟨⟨⟨.slice (some ⟨g, 0, none⟩) L.length cap, hK.blk o.bag o.ne, ?_, fun b hb => ?_⟩, fun y hy => ?_, ?_, .inl h.self, fun b hb => ?_⟩, hK.mono fun b hb => hb ▸ o.self⟩
  · rw [hlen]
    refine ⟨by rw [pcC_length, hlen], .inr ⟨g, cap, _, rfl, Nat.zero_le _, hR, o.len, o.max, by simp [o.size], ?_⟩⟩
    rw [Array.toList_setIfInBounds, Array.toList_setIfInBounds, set_take (by omega), set_take (by omega), o.take, pcC_set L k p u u' l' hx]
  · have e : b = g := by simpa [Value.ownBlock] using hb.symm
    subst e
    refine ⟨.inl o.self, fun y hy => ?_⟩
    obtain ⟨j, hj⟩ := List.getElem?_of_mem hy
    rcases hmem j y hj with ⟨_, rfl⟩ | ⟨_, hy2⟩
    · exact fun e => (hub b e).2.1 rfl
    · exact o.far y (List.mem_of_getElem? hy2)
  · obtain ⟨j, hj⟩ := List.getElem?_of_mem hy
    rcases hmem j y hj with ⟨_, rfl⟩ | ⟨_, hy2⟩
    · obtain ⟨A, c, e, r1, r2, r3, r4⟩ := hu
      refine ⟨A, c, e, bts_keeps r1 hK (fun a ea => (hub a.block (by rw [e, ea]; rfl)).2.1), r2, r3, fun a ea => ⟨⟨.inr (by show u'.ownBlock = _; rw [e, ea]; rfl), (hub a.block (by rw [e, ea]; rfl)).1⟩, (r4 a ea).2.imp fun cs hb => hK.blk hb (hub a.block (by rw [e, ea]; rfl)).2.1⟩⟩
    · have hyL := List.mem_of_getElem? hy2
      obtain ⟨A, c, e, r1, r2, r3, r4⟩ := h.rd y hyL
      exact ⟨A, c, e, bts_keeps r1 hK (fun a ea h' => o.far y hyL (by rw [e, ea, ← h']; rfl)), r2, r3, fun a ea => ⟨⟨.inl (r4 a ea).1.1, (r4 a ea).1.2⟩, (r4 a ea).2.imp fun cs hb => hK.blk hb (fun h' => o.far y hyL (by rw [e, ea, ← h']; rfl))⟩⟩
  · rw [List.pairwise_iff_getElem]
    intro i j hi hj hij b h1 h2
    have e1 := List.getElem?_eq_getElem hi
    have e2 := List.getElem?_eq_getElem hj
    rcases hmem i _ e1 with ⟨ei, ey⟩ | ⟨ni, ei⟩ <;> rcases hmem j _ e2 with ⟨ej, ey2⟩ | ⟨nj, ej⟩
    · omega
    · rw [ey] at h1
      exact (hub b h1).2.2.2 j _ ej nj h2
    · rw [ey2] at h2
      exact (hub b h2).2.2.2 i _ ei ni h1
    · exact apart_at h.apart ei ej (by omega) b h1 h2
  · refine Nat.lt_of_lt_of_le ?_ hK.size
    rcases hb with hb | hb
    · exact h.lt b hb
    · exact (hub b hb).2.2.1
section
variable (gb : Nat) (L : List (Pc × Value)) (lost : Int) (F : Nat → Prop) (W : World)
theorem bturn_no0 (i n : Int) (h : BagAt W gb L lost F) (hi : hereB i L.length = false) :
    Calls Try.prog 16 #[.pointer (some ⟨gb, 0, none⟩), .int .i64 i, .int .i64 n] W fun e w' => e = .returned (.bool false) ∧ W = w' := by
  have HB := Lib.hid h
  have HI := Lib.hid hi
  clear h hi
  go_enter Try.func16, Try.ntmps16
  go_wp2_with fail
  refine (bthere_any gb L lost i F _ HB.out).mono ?_
  rintro e w' ⟨rfl, rfl⟩
  rw [HI.out]
  go_wp2_with fail
  go_ret
  exact ⟨rfl, rfl⟩
theorem bcut_no0 (i n : Int) (h : BagAt W gb L lost F) (hi : hereB i L.length = false) :
    Calls Try.prog 18 #[.pointer (some ⟨gb, 0, none⟩), .int .i64 i, .int .i64 n] W fun e w' => e = .returned (.bool false) ∧ W = w' := by
  have HB := Lib.hid h
  have HI := Lib.hid hi
  clear h hi
  go_enter Try.func18, Try.ntmps18
  go_wp2_with fail
  refine (bthere_any gb L lost i F _ HB.out).mono ?_
  rintro e w' ⟨rfl, rfl⟩
  rw [HI.out]
  go_wp2_with fail
  go_ret
  exact ⟨rfl, rfl⟩
set_option maxHeartbeats 1000000 in
theorem bturn_no (k : Nat) (n : Int) (p : Pc) (u : Value) (h : BagAt W gb L lost F) (hx : L[k]? = some (p, u)) (hno : p.hurt = true ∨ n < 0 ∨ (p.byt.length : Int) ≤ n / 8) (hw : -9223372036854775808 ≤ n ∧ n < 9223372036854775808) :
    Calls Try.prog 16 #[.pointer (some ⟨gb, 0, none⟩), .int .i64 (k : Int), .int .i64 n] W fun e w' => e = .returned (.bool false) ∧ W = w' := by
  obtain ⟨g, cap, cur, o⟩ := h.opened hx
  obtain ⟨A, c, eu, _⟩ := h.rd (p, u) (List.mem_of_getElem? hx)
  change u = .slice A p.byt.length c at eu
  subst eu
  have HB := Lib.hid h
  have r2 := o.c2
  have r3 := o.c3
  have c0 := o.bag.cell 0
  have hk := o.lt
  have HH := Lib.hid (here_lt hk)
  simp only [List.getElem?_toArray, List.getElem?_cons_zero] at c0
  clear h hx o
  obtain ⟨w0, w1⟩ := hw
  generalize p.byt.length = m at *
  generalize p.hurt = ph at *
  obtain ⟨t, ht⟩ : ∃ t, t = L.length := ⟨_, rfl⟩
  rw [← ht] at hk c0
  have hkI : (k : Int) < (t : Int) := by omega
  clear ht
  cases ph with
  | true =>
    clear hno
    go_enter Try.func16, Try.ntmps16
    go_wp2_with fail
    refine (bthere_any gb L lost k F _ HB.out).mono ?_
    rintro e w' ⟨rfl, rfl⟩
    rw [HH.out]
    go_wp2_with fail
    go_ret
    exact ⟨rfl, rfl⟩
  | false =>
    by_cases hn : n < 0
    · clear hno
      go_enter Try.func16, Try.ntmps16
      go_wp2_with fail
      refine (bthere_any gb L lost k F _ HB.out).mono ?_
      rintro e w' ⟨rfl, rfl⟩
      rw [HH.out]
      go_wp2_with fail
      go_ret
      exact ⟨rfl, rfl⟩
    · have hn0 : 0 ≤ n := by omega
      have hm : (m : Int) ≤ n / 8 := by
        rcases hno with hno | hno | hno
        · cases hno
        · omega
        · exact hno
      clear hno
      go_enter Try.func16, Try.ntmps16
      go_wp2_with fail
      refine (bthere_any gb L lost k F _ HB.out).mono ?_
      rintro e w' ⟨rfl, rfl⟩
      rw [HH.out]
      go_wp2_with fail
      go_ret
      exact ⟨rfl, rfl⟩
set_option maxHeartbeats 1000000 in
theorem bcut_no (k : Nat) (n : Int) (p : Pc) (u : Value) (h : BagAt W gb L lost F) (hx : L[k]? = some (p, u)) (hno : p.hurt = true ∨ n < 0 ∨ (p.byt.length : Int) ≤ n) (hw : -9223372036854775808 ≤ n ∧ n < 9223372036854775808) :
    Calls Try.prog 18 #[.pointer (some ⟨gb, 0, none⟩), .int .i64 (k : Int), .int .i64 n] W fun e w' => e = .returned (.bool false) ∧ W = w' := by
  obtain ⟨g, cap, cur, o⟩ := h.opened hx
  obtain ⟨A, c, eu, _⟩ := h.rd (p, u) (List.mem_of_getElem? hx)
  change u = .slice A p.byt.length c at eu
  subst eu
  have HB := Lib.hid h
  have r2 := o.c2
  have r3 := o.c3
  have c0 := o.bag.cell 0
  have hk := o.lt
  have HH := Lib.hid (here_lt hk)
  simp only [List.getElem?_toArray, List.getElem?_cons_zero] at c0
  clear h hx o
  obtain ⟨w0, w1⟩ := hw
  generalize p.byt.length = m at *
  generalize p.hurt = ph at *
  obtain ⟨t, ht⟩ : ∃ t, t = L.length := ⟨_, rfl⟩
  rw [← ht] at hk c0
  have hkI : (k : Int) < (t : Int) := by omega
  clear ht
  cases ph with
  | true =>
    clear hno
    go_enter Try.func18, Try.ntmps18
    go_wp2_with fail
    refine (bthere_any gb L lost k F _ HB.out).mono ?_
    rintro e w' ⟨rfl, rfl⟩
    rw [HH.out]
    go_wp2_with fail
    go_ret
    exact ⟨rfl, rfl⟩
  | false =>
    by_cases hn : n < 0
    · clear hno
      go_enter Try.func18, Try.ntmps18
      go_wp2_with fail
      refine (bthere_any gb L lost k F _ HB.out).mono ?_
      rintro e w' ⟨rfl, rfl⟩
      rw [HH.out]
      go_wp2_with fail
      go_ret
      exact ⟨rfl, rfl⟩
    · have hn0 : 0 ≤ n := by omega
      have hm : (m : Int) ≤ n := by
        rcases hno with hno | hno | hno
        · cases hno
        · omega
        · exact hno
      clear hno
      go_enter Try.func18, Try.ntmps18
      go_wp2_with fail
      refine (bthere_any gb L lost k F _ HB.out).mono ?_
      rintro e w' ⟨rfl, rfl⟩
      rw [HH.out]
      go_wp2_with fail
      go_ret
      exact ⟨rfl, rfl⟩
end
end Go.Proofs.Ytnnajaomajgoeaa
