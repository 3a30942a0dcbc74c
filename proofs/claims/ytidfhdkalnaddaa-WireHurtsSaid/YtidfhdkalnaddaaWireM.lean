/- The reference's Put and Get. -/
import Derived.Test.YtidfhdkalnaddaaWireL
import Derived.Test.YtidfhdkalnaddaaStr
namespace Go.Proofs.Ytidfhdkalnaddaa
open Go.RowKit

theorem rplain_any (f t : Nat) (b : Bool) (s a : Nat) (A : Option Addr) (l : List Nat) (n c : Nat) (W : World) (hl : l.length = n) (hf : f ≤ 15) (ht : t ≤ 15) (hs : s < 18446744073709551616) (ha : a < 18446744073709551616) (hn : n ≤ 5000) (hB : Bts W A l) :
    Calls Try.prog 22 #[frV f t b s a A n c] W fun e w' => e = .returned (.string (strB (plainL f t b s a l))) ∧ Below W.heap.size W w' := by
  subst hl
  cases b
  · exact plain_false f t s a A l c W hf ht hs ha hn hB
  · exact plain_true f t s a A l c W hf ht hs ha hn hB
set_option maxHeartbeats 2000000 in
theorem rput_any (f t : Nat) (b : Bool) (s a : Nat) (A : Option Addr) (l : List Nat) (n c : Nat) (W : World) (hl : l.length = n) (hf : f ≤ 15) (ht : t ≤ 15) (hs : s < 18446744073709551616) (ha : a < 18446744073709551616) (hn : n ≤ 5000) (hB : Bts W A l) :
    Calls Try.prog 11 #[frV f t b s a A n c] W fun e w' => e = .returned (.string (strB (plainL f t b s a l ++ bytesOf (sumV (plainL f t b s a l)) 4))) ∧ Below W.heap.size W w' := by
  have HL := Lib.hid hl
  have hX := Blkf.new_at W 25 (0, 0) #[.int .i64 f, .int .i64 t, .bool b, .int .u64 s, .int .u64 a, .slice A n c] rfl
  have HX := Lib.hid hX
  have HB := Lib.hid hB
  have HB0 : Hid (Below W.heap.size W (W.alloc (.cells #[.int .i64 f, .int .i64 t, .bool b, .int .u64 s, .int .u64 a, .slice A n c] 25))) := Lib.hid ((Below.refl _ W).alloc (Nat.le_refl _) _)
  unfold frV
  clear hB hX hl
  go_enter Try.func11, Try.ntmps11
  go_wp2_with fail
  refine (rplain_any f t b s a A l n c _ HL.out hf ht hs ha hn (bts_below HB.out HB0.out)).mono ?_
  rintro e w1 ⟨rfl, hb1⟩
  have HB1 := Lib.hid (HB0.out.trans (hb1.mono HB0.out.size))
  clear hb1
  obtain ⟨Q, hQ⟩ : ∃ Q, Q = plainL f t b s a l := ⟨_, rfl⟩
  have hlt : ∀ i : Nat, Q.getD i 0 < 256 := fun i => by rw [hQ]; exact plain_lt f t s a l b hf ht HB.out.1 i
  rw [← hQ]
  have HQ := Lib.hid hQ
  have HLT := Lib.hid hlt
  clear hQ hlt
  have hlen : Q.length ≤ 6000 := by
    rw [HQ.out, plain_form]
    simp [headL, e8, e2]
    have := HL.out
    omega
  obtain ⟨c8, w8, hr8, hB8, hb8, hc8⟩ := conv_str w1 Q HLT.out
  have HB8 := Lib.hid hB8
  have HBB := Lib.hid (HB1.out.trans (hb8.mono HB1.out.size))
  clear hB8 hb8
  go_wp2_with fail
  refine (rsum_any _ Q c8 _ (by omega) HB8.out).mono ?_
  rintro e w ⟨rfl, rfl⟩
  go_wp2_with fail
  refine (tail_any (sumV Q) _ (sum_lt Q)).mono ?_
  rintro e w9 ⟨v9, rfl, ho9, hb9⟩
  obtain ⟨A9, c9, rfl, hB9, -⟩ := bts_own ho9 (bytesOf_lt _ _) rfl
  have hcv := conv_bts (c := c9) hB9 rfl
  have hsz : ¬ (9223372036854775807 < (strB Q).size + (strB (bytesOf (sumV Q) 4)).size) := by rw [strB_size, strB_size, bytes4]; omega
  have HB9 := Lib.hid (HBB.out.trans (hb9.mono HBB.out.size))
  clear ho9 hb9 hB9
  go_wp2
  go_ret
  exact ⟨by rw [← HQ.out, ← strB_append]; rfl, HB9.out⟩
/-- What the reference's Get answers. -/
def RGet (l : List Nat) (W : World) (e : Ending) (w' : World) : Prop :=
  Below W.heap.size W w' ∧ if frameB l then ∃ A' c', e = .returned (.tuple #[frV (fF (l.take (l.length - 4))) (fT (l.take (l.length - 4))) (fB (l.take (l.length - 4))) (fS (l.take (l.length - 4))) (fA (l.take (l.length - 4))) A' ((l.take (l.length - 4)).length - 23) c', .bool true]) ∧ Bts w' A' ((l.take (l.length - 4)).drop 23)
  else e = .returned (.tuple #[noneV, .bool false])
theorem ropen_at (b o : Nat) (l : List Nat) (n c : Nat) (W : World) (op : Bool) (hl : l.length = n) (hop : openB l = op) (hn : n ≤ 140737488355000) (hc : n ≤ c) (hB : Bts W (some ⟨b, o, none⟩) l) (h4 : 4 ≤ n) :
    Calls Try.prog 26 #[.slice (some ⟨b, o, none⟩) n c] W fun e w' => (e = .returned (if op then .tuple #[.slice (some ⟨b, o, none⟩) (n - 4) c, .bool true] else .tuple #[.slice none 0 0, .bool false])) ∧ Below W.heap.size W w' := by
  subst hl; exact ropen_long b o l c W op hop hn hc hB h4
theorem ropen_short_at (A : Option Addr) (n c : Nat) (W : World) (hn : n < 4) :
    Calls Try.prog 26 #[.slice A n c] W fun e w' => e = .returned (.tuple #[.slice none 0 0, .bool false]) ∧ Below W.heap.size W w' := by
  have := ropen_short A (List.replicate n 0) c W (by simpa using hn)
  simpa using this
theorem rget_at (A : Option Addr) (l : List Nat) (n c : Nat) (a s : Int) (w : World) (hl : l.length = n) (hn : n ≤ 9223372036854775807) (hB : Bts w A l) (ht : thereB n a s = true) :
    Calls Try.prog 27 #[.slice A n c, .int .i64 a, .int .i64 s] w fun e w' => e = .returned (.tuple #[.int .u64 (getV l a s), .bool true]) ∧ Below w.heap.size w w' := by
  subst hl; exact rget_yes A l c a s w hn hB ht
set_option maxHeartbeats 2000000 in
theorem rget_short (A : Option Addr) (n c : Nat) (W : World) (hn : n < 4) :
    Calls Try.prog 14 #[.slice A n c] W fun e w' => e = .returned (.tuple #[noneV, .bool false]) ∧ Below W.heap.size W w' := by
  have hX := Blkf.new_at W 25 (0, 0) #[.int .i64 0, .int .i64 0, .bool false, .int .u64 0, .int .u64 0, .slice none 0 0] rfl
  have HX := Lib.hid hX
  have HB0 : Hid (Below W.heap.size W (W.alloc (.cells #[.int .i64 0, .int .i64 0, .bool false, .int .u64 0, .int .u64 0, .slice none 0 0] 25))) := Lib.hid ((Below.refl _ W).alloc (Nat.le_refl _) _)
  clear hX
  go_enter Try.func14, Try.ntmps14
  go_wp2_with fail
  refine (ropen_short_at A n c _ hn).mono ?_
  rintro e w1 ⟨rfl, hb1⟩
  have HB2 := Lib.hid (HB0.out.trans (hb1.mono HB0.out.size))
  have hX2 := HX.out.below hb1 HX.out.lt
  have y0 := hX2.cell 0
  have y1 := hX2.cell 1
  have y2 := hX2.cell 2
  have y3 := hX2.cell 3
  have y4 := hX2.cell 4
  have y5 := hX2.cell 5
  have yl := hX2.lt
  have yf := fun i => hX2.frozen i
  have HX2' := Lib.hid hX2
  simp at y0 y1 y2 y3 y4 y5
  clear hX2 hb1
  go_wp2
  have hZ := ((((((HX2'.out.set_ 0 (.int .i64 0)).set_ 1 (.int .i64 0)).set_ 2 (.bool false)).set_ 3 (.int .u64 0)).set_ 4 (.int .u64 0)).set_ 5 (.slice none 0 0))
  have q0 := hZ.cell 0
  have q1 := hZ.cell 1
  have q2 := hZ.cell 2
  have q3 := hZ.cell 3
  have q4 := hZ.cell 4
  have q5 := hZ.cell 5
  have hBZ := ((((((HB2.out.setCell (p := ⟨W.heap.size, 0, none⟩) (Nat.le_refl _) (.int .i64 0)).setCell (p := ⟨W.heap.size, 1, none⟩) (Nat.le_refl _) (.int .i64 0)).setCell (p := ⟨W.heap.size, 2, none⟩) (Nat.le_refl _) (.bool false)).setCell (p := ⟨W.heap.size, 3, none⟩) (Nat.le_refl _) (.int .u64 0)).setCell (p := ⟨W.heap.size, 4, none⟩) (Nat.le_refl _) (.int .u64 0)).setCell (p := ⟨W.heap.size, 5, none⟩) (Nat.le_refl _) (.slice none 0 0))
  exact bodyPost_ret (v := .tuple #[noneV, .bool false]) (by simp [results, Try.results14, go_sem, noneV, frV, q0, q1, q2, q3, q4, q5]) rfl ⟨rfl, hBZ⟩

set_option maxHeartbeats 2000000 in
theorem rget_closed (b o : Nat) (A : Option Addr) (hA : A = some ⟨b, o, none⟩) (l : List Nat) (n c : Nat) (W : World) (hl : l.length = n) (hn : n ≤ 1000000) (hc : n ≤ c) (hB : Bts W A l) (h4 : 4 ≤ n) (ho : openB l = false) :
    Calls Try.prog 14 #[.slice A n c] W fun e w' => e = .returned (.tuple #[noneV, .bool false]) ∧ Below W.heap.size W w' := by
  have hX := Blkf.new_at W 25 (0, 0) #[.int .i64 0, .int .i64 0, .bool false, .int .u64 0, .int .u64 0, .slice none 0 0] rfl
  have HX := Lib.hid hX
  have HB0 : Hid (Below W.heap.size W (W.alloc (.cells #[.int .i64 0, .int .i64 0, .bool false, .int .u64 0, .int .u64 0, .slice none 0 0] 25))) := Lib.hid ((Below.refl _ W).alloc (Nat.le_refl _) _)
  clear hX
  subst hA
  have HB := Lib.hid hB
  clear hB
  go_enter Try.func14, Try.ntmps14
  go_wp2_with fail
  refine (ropen_at b o l n c _ false hl ho (by omega) hc (bts_below HB.out HB0.out) h4).mono ?_
  rintro e w1 ⟨rfl, hb1⟩
  have HB2 := Lib.hid (HB0.out.trans (hb1.mono HB0.out.size))
  have hX2 := HX.out.below hb1 HX.out.lt
  have y0 := hX2.cell 0
  have y1 := hX2.cell 1
  have y2 := hX2.cell 2
  have y3 := hX2.cell 3
  have y4 := hX2.cell 4
  have y5 := hX2.cell 5
  have yl := hX2.lt
  have yf := fun i => hX2.frozen i
  have HX2' := Lib.hid hX2
  simp at y0 y1 y2 y3 y4 y5
  clear hX2 hb1
  go_wp2
  have hZ := ((((((HX2'.out.set_ 0 (.int .i64 0)).set_ 1 (.int .i64 0)).set_ 2 (.bool false)).set_ 3 (.int .u64 0)).set_ 4 (.int .u64 0)).set_ 5 (.slice none 0 0))
  have q0 := hZ.cell 0
  have q1 := hZ.cell 1
  have q2 := hZ.cell 2
  have q3 := hZ.cell 3
  have q4 := hZ.cell 4
  have q5 := hZ.cell 5
  have hBZ := ((((((HB2.out.setCell (p := ⟨W.heap.size, 0, none⟩) (Nat.le_refl _) (.int .i64 0)).setCell (p := ⟨W.heap.size, 1, none⟩) (Nat.le_refl _) (.int .i64 0)).setCell (p := ⟨W.heap.size, 2, none⟩) (Nat.le_refl _) (.bool false)).setCell (p := ⟨W.heap.size, 3, none⟩) (Nat.le_refl _) (.int .u64 0)).setCell (p := ⟨W.heap.size, 4, none⟩) (Nat.le_refl _) (.int .u64 0)).setCell (p := ⟨W.heap.size, 5, none⟩) (Nat.le_refl _) (.slice none 0 0))
  exact bodyPost_ret (v := .tuple #[noneV, .bool false]) (by simp [results, Try.results14, go_sem, noneV, frV, q0, q1, q2, q3, q4, q5]) rfl ⟨rfl, hBZ⟩

set_option maxHeartbeats 2000000 in
theorem rget_shortB (b o : Nat) (A : Option Addr) (hA : A = some ⟨b, o, none⟩) (l : List Nat) (n c : Nat) (W : World) (hl : l.length = n) (hn : n ≤ 1000000) (hc : n ≤ c) (hB : Bts W A l) (h4 : 4 ≤ n) (ho : openB l = true) (hs : n - 4 < 23) :
    Calls Try.prog 14 #[.slice A n c] W fun e w' => e = .returned (.tuple #[noneV, .bool false]) ∧ Below W.heap.size W w' := by
  have hX := Blkf.new_at W 25 (0, 0) #[.int .i64 0, .int .i64 0, .bool false, .int .u64 0, .int .u64 0, .slice none 0 0] rfl
  have HX := Lib.hid hX
  have HB0 : Hid (Below W.heap.size W (W.alloc (.cells #[.int .i64 0, .int .i64 0, .bool false, .int .u64 0, .int .u64 0, .slice none 0 0] 25))) := Lib.hid ((Below.refl _ W).alloc (Nat.le_refl _) _)
  clear hX
  subst hA
  have HB := Lib.hid hB
  clear hB
  go_enter Try.func14, Try.ntmps14
  go_wp2_with fail
  refine (ropen_at b o l n c _ true hl ho (by omega) hc (bts_below HB.out HB0.out) h4).mono ?_
  rintro e w1 ⟨rfl, hb1⟩
  have HB2 := Lib.hid (HB0.out.trans (hb1.mono HB0.out.size))
  have hX2 := HX.out.below hb1 HX.out.lt
  have y0 := hX2.cell 0
  have y1 := hX2.cell 1
  have y2 := hX2.cell 2
  have y3 := hX2.cell 3
  have y4 := hX2.cell 4
  have y5 := hX2.cell 5
  have yl := hX2.lt
  have yf := fun i => hX2.frozen i
  have HX2' := Lib.hid hX2
  simp at y0 y1 y2 y3 y4 y5
  clear hX2 hb1
  obtain ⟨m, hm⟩ : ∃ m, m = n - 4 := ⟨_, rfl⟩
  rw [← hm] at hs ⊢
  clear hm
  simp only [if_true]
  go_wp2
  have hZ := ((((((HX2'.out.set_ 0 (.int .i64 0)).set_ 1 (.int .i64 0)).set_ 2 (.bool false)).set_ 3 (.int .u64 0)).set_ 4 (.int .u64 0)).set_ 5 (.slice none 0 0))
  have q0 := hZ.cell 0
  have q1 := hZ.cell 1
  have q2 := hZ.cell 2
  have q3 := hZ.cell 3
  have q4 := hZ.cell 4
  have q5 := hZ.cell 5
  have hBZ := ((((((HB2.out.setCell (p := ⟨W.heap.size, 0, none⟩) (Nat.le_refl _) (.int .i64 0)).setCell (p := ⟨W.heap.size, 1, none⟩) (Nat.le_refl _) (.int .i64 0)).setCell (p := ⟨W.heap.size, 2, none⟩) (Nat.le_refl _) (.bool false)).setCell (p := ⟨W.heap.size, 3, none⟩) (Nat.le_refl _) (.int .u64 0)).setCell (p := ⟨W.heap.size, 4, none⟩) (Nat.le_refl _) (.int .u64 0)).setCell (p := ⟨W.heap.size, 5, none⟩) (Nat.le_refl _) (.slice none 0 0))
  exact bodyPost_ret (v := .tuple #[noneV, .bool false]) (by simp [results, Try.results14, go_sem, noneV, frV, q0, q1, q2, q3, q4, q5]) rfl ⟨rfl, hBZ⟩

end Go.Proofs.Ytidfhdkalnaddaa
