/- Drop, like, Len, Lost; what a nil bag answers. -/
import Derived.Test.YtnnajaomajgoeaaNetE
import Derived.Test.YtnnajaomajgoeaaNetC
namespace Go.Proofs.Ytnnajaomajgoeaa
open Go.RowKit Go.ChangeShapes

theorem drop_no (gb : Nat) (L : List (Pc × Value)) (lost i : Int) (F : Nat → Prop) (W : World) (h : BagAt W gb L lost F) (hi : hereB i L.length = false) :
    Calls Try.prog 13 #[.pointer (some ⟨gb, 0, none⟩), .int .i64 i] W fun e w' => e = .returned (.bool false) ∧ Below W.heap.size W w' := by
  have HB := Lib.hid h
  have HI := Lib.hid hi
  clear h hi
  go_enter Try.func13, Try.ntmps13
  go_wp2_with fail
  refine (deliver_no gb L lost i F _ HB.out HI.out).mono ?_
  rintro e w1 ⟨rfl, hb⟩
  have HBW := Lib.hid hb
  clear hb
  go_wp2_with fail
  go_ret
  exact ⟨rfl, HBW.out.alloc HBW.out.size _⟩
theorem drop_yes (gb : Nat) (L : List (Pc × Value)) (lost : Int) (k : Nat) (x : Pc × Value) (F : Nat → Prop) (W : World) (h : BagAt W gb L lost F) (hx : L[k]? = some x) :
    Calls Try.prog 13 #[.pointer (some ⟨gb, 0, none⟩), .int .i64 (k : Int)] W fun e w' => e = .returned (.bool true) ∧ BagAt w' gb (L.eraseIdx k) lost (fun b => F b ∧ x.2.ownBlock ≠ some b) ∧ Keeps F W w' := by
  obtain ⟨p, u⟩ := x
  obtain ⟨Au, mu, cu, rfl⟩ := (h.rd (p, u) (List.mem_of_getElem? hx)).sl
  have HB := Lib.hid h
  have HX := Lib.hid hx
  clear h hx
  go_enter Try.func13, Try.ntmps13
  go_wp2_with fail
  refine (deliver_yes gb L lost k _ F _ HB.out HX.out).mono ?_
  rintro e w1 ⟨rfl, hb, hk, _⟩
  have HBW := Lib.hid hb
  have HK := Lib.hid hk
  clear hb hk
  simp only [pcV]
  go_wp2_with fail
  go_ret
  exact ⟨rfl, HBW.out.below ((Below.refl _ _).alloc (Nat.le_refl _) _), HK.out.alloc _⟩
theorem len_any (gb : Nat) (L : List (Pc × Value)) (lost : Int) (F : Nat → Prop) (W : World) (h : BagAt W gb L lost F) :
    Calls Try.prog 20 #[.pointer (some ⟨gb, 0, none⟩)] W fun e w' => e = .returned (.int .i64 (L.length : Int)) ∧ W = w' := by
  obtain ⟨v, h1, h2, _⟩ := h.own
  obtain ⟨A, c, rfl⟩ := prow_form h2
  have c0 := h1.cell 0
  have hl := h1.lt
  simp at c0
  clear h h1 h2
  generalize L.length = n at *
  go_enter Try.func20, Try.ntmps20
  go_wp2_with fail
  go_ret
  exact ⟨rfl, rfl⟩
theorem lost_any (gb : Nat) (L : List (Pc × Value)) (lost : Int) (F : Nat → Prop) (W : World) (h : BagAt W gb L lost F) :
    Calls Try.prog 21 #[.pointer (some ⟨gb, 0, none⟩)] W fun e w' => e = .returned (.int .i64 lost) ∧ W = w' := by
  obtain ⟨v, h1, h2, _⟩ := h.own
  have c0 := h1.cell 1
  have hl := h1.lt
  simp at c0
  clear h h1 h2
  go_enter Try.func21, Try.ntmps21
  go_wp2_with fail
  go_ret
  exact ⟨rfl, rfl⟩
theorem len_nil (W : World) : Calls Try.prog 20 #[.pointer none] W fun e w' => e = .returned (.int .i64 0) ∧ W = w' := by
  go_enter Try.func20, Try.ntmps20
  go_wp2_with fail
  go_ret
  exact ⟨rfl, rfl⟩
theorem lost_nil (W : World) : Calls Try.prog 21 #[.pointer none] W fun e w' => e = .returned (.int .i64 0) ∧ W = w' := by
  go_enter Try.func21, Try.ntmps21
  go_wp2_with fail
  go_ret
  exact ⟨rfl, rfl⟩
theorem list_nil (W : World) : Calls Try.prog 19 #[.pointer none] W fun e w' => e = .returned (.slice none 0 0) ∧ W = w' := by
  go_enter Try.func19, Try.ntmps19
  go_wp2_with fail
  go_ret
  exact ⟨rfl, rfl⟩
theorem send_nil (src dst : Int) (V : Value) (W : World) : Calls Try.prog 8 #[.pointer none, .int .i64 src, .int .i64 dst, V] W fun e w' => e = .returned (.bool false) ∧ W = w' := by
  go_enter Try.func8, Try.ntmps8
  go_wp2_with fail
  go_ret
  exact ⟨rfl, rfl⟩
theorem deliver_nil (i : Int) (W : World) :
    Calls Try.prog 10 #[.pointer none, .int .i64 i] W fun e w' => e = .returned (.tuple #[.agg #[.int .i64 0, .int .i64 0, .slice none 0 0, .bool false], .bool false]) ∧ Below W.heap.size W w' := by
  go_enter Try.func10, Try.ntmps10
  go_wp2_with fail
  refine (bthere_nil i _).mono ?_
  rintro e w' ⟨rfl, rfl⟩
  go_wp2_with fail
  refine bodyPost_ret (v := .tuple #[.agg #[.int .i64 0, .int .i64 0, .slice none 0 0, .bool false], .bool false]) (by simp [results, Try.results10, go_sem]) rfl ?_
  exact ⟨rfl, (Below.refl _ W).alloc (Nat.le_refl _) _⟩
theorem drop_nil (i : Int) (W : World) :
    Calls Try.prog 13 #[.pointer none, .int .i64 i] W fun e w' => e = .returned (.bool false) ∧ Below W.heap.size W w' := by
  go_enter Try.func13, Try.ntmps13
  go_wp2_with fail
  refine (deliver_nil i _).mono ?_
  rintro e w1 ⟨rfl, hb⟩
  have HBW := Lib.hid hb
  clear hb
  go_wp2_with fail
  go_ret
  exact ⟨rfl, HBW.out.alloc HBW.out.size _⟩
theorem double_nil (i : Int) (W : World) : Calls Try.prog 14 #[.pointer none, .int .i64 i] W fun e w' => e = .returned (.bool false) ∧ W = w' := by
  go_enter Try.func14, Try.ntmps14
  go_wp2_with fail
  refine (bthere_nil i _).mono ?_
  rintro e w' ⟨rfl, rfl⟩
  go_wp2_with fail
  go_ret
  exact ⟨rfl, rfl⟩
theorem turn_nil (i n : Int) (W : World) : Calls Try.prog 16 #[.pointer none, .int .i64 i, .int .i64 n] W fun e w' => e = .returned (.bool false) ∧ W = w' := by
  go_enter Try.func16, Try.ntmps16
  go_wp2_with fail
  refine (bthere_nil i _).mono ?_
  rintro e w' ⟨rfl, rfl⟩
  go_wp2_with fail
  go_ret
  exact ⟨rfl, rfl⟩
theorem cut_nil (i n : Int) (W : World) : Calls Try.prog 18 #[.pointer none, .int .i64 i, .int .i64 n] W fun e w' => e = .returned (.bool false) ∧ W = w' := by
  go_enter Try.func18, Try.ntmps18
  go_wp2_with fail
  refine (bthere_nil i _).mono ?_
  rintro e w' ⟨rfl, rfl⟩
  go_wp2_with fail
  go_ret
  exact ⟨rfl, rfl⟩
end Go.Proofs.Ytnnajaomajgoeaa
