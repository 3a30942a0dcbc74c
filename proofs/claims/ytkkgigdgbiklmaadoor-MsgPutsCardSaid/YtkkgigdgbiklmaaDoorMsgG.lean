/- MsgGets: which bytes are a message, and which one. Condition: the library's tables lie as their own text lays them. -/
import Derived.Test.YtkkgigdgbiklmaaDoorMsgZ
import Derived.Test.YtkkgigdgbiklmaaDoorMsgL
import Derived.Test.YtkkgigdgbiklmaaDoorORows
namespace Go.Proofs.YtkkgigdgbiklmaaDoor
open Go.RowKit Go.ChangeShapes

def okL (l : List Nat) : Bool := decide (11 ≤ l.length) && (decide (l.length ≤ 4107) && (decide (gZ l = l.length - 11) && rightL l))
def vK (l : List Nat) : Int := if okL l then (gK l : Int) else 0
def vP (l : List Nat) : Int := if okL l then (gP l : Int) else 0
def vN (l : List Nat) : Int := if okL l then (gN l : Int) else 0
def vH (l : List Nat) : Int := if okL l then (gH l : Int) else 0
def vS (l : List Nat) : Nat := if okL l then gS l else 0
def vD (l : List Nat) : List Nat := if okL l then l.drop 11 else []
def GetU (l : List Nat) (W : World) (e : Ending) (w' : World) : Prop :=
  ∃ A' c', e = .returned (.tuple #[msV (vK l) (vP l) (vN l) (vH l) (vS l) A' (vD l).length c', .bool (okL l)]) ∧ Bts w' A' (vD l) ∧ Below W.heap.size W w'
theorem getU_no {l : List Nat} {W w' : World} (h : okL l = false) (hb : Below W.heap.size W w') : GetU l W (.returned (.tuple #[zeroM, .bool false])) w' := by
  refine ⟨none, 0, ?_, ?_, hb⟩
  · unfold vK vP vN vH vS vD; rw [h]; rfl
  · have e : vD l = [] := by unfold vD; rw [h]; rfl
    rw [e]
    exact ⟨fun i => by simp, fun h => by simp at h⟩
theorem getU_yes {l : List Nat} {W w' : World} {A : Option Addr} {c : Nat} (h : okL l = true) (hB : Bts w' A (l.drop 11)) (hb : Below W.heap.size W w') : GetU l W (.returned (.tuple #[msV (gK l : Int) (gP l : Int) (gN l : Int) (gH l : Int) (gS l) A (l.length - 11) c, .bool true])) w' := by
  have e : vD l = l.drop 11 := by unfold vD; rw [h]; rfl
  refine ⟨A, c, ?_, by rw [e]; exact hB, hb⟩
  rw [e, List.length_drop]
  unfold vK vP vN vH vS; rw [h]; rfl
theorem right_len {l : List Nat} (h : rightL l = true) : l.length ≤ 4107 := by
  unfold rightL rightM dataB at h
  simp only [Bool.and_eq_true] at h
  have h2 := h.2
  split at h2
  · simp only [Bool.and_eq_true, decide_eq_true_eq, List.length_drop] at h2
    omega
  · simp only [beq_iff_eq, List.length_drop] at h2
    omega
theorem mget_u (A : Option Addr) (l : List Nat) (n c : Nat) (W : World) (hl : l.length = n) (hn2 : n ≤ 1000000) (hc : n ≤ c) (hB : Bts W A l) :
    Calls Tryd.prog 8 #[.slice A n c] W (GetU l W) := by
  by_cases hn : n < 11
  · refine (mget_short A l n c W hl hn).mono ?_
    rintro e w' ⟨rfl, hb⟩
    exact getU_no (by unfold okL; rw [decide_eq_false (by omega)]; rfl) hb
  · obtain ⟨b, o, rfl, _⟩ := hB.2 (by omega)
    by_cases hz : gZ l = n - 11
    · refine (mget_long b o l n c W hl (by omega) hn2 hc hB hz).mono ?_
      rintro e w' ⟨hb, h⟩
      cases hr : rightL l with
      | true =>
        rw [hr, if_pos rfl] at h
        obtain ⟨A', c', rfl, hB'⟩ := h
        have hlen := right_len hr
        subst hl
        exact getU_yes (by unfold okL; rw [hr, decide_eq_true (by omega), decide_eq_true hlen, decide_eq_true hz]; rfl) hB' hb
      | false =>
        rw [hr, if_neg (by decide)] at h
        subst h
        exact getU_no (by unfold okL; rw [hr]; simp) hb
    · refine (mget_size b o l n c W hl (by omega) hn2 hc hB hz).mono ?_
      rintro e w' ⟨rfl, hb⟩
      exact getU_no (by unfold okL; rw [hl, decide_eq_false hz]; simp) hb
theorem eleven {l : List Nat} (h : 11 ≤ l.length) : ∃ x0 x1 x2 x3 x4 x5 x6 x7 x8 x9 x10 r, l = x0 :: x1 :: x2 :: x3 :: x4 :: x5 :: x6 :: x7 :: x8 :: x9 :: x10 :: r := by
  match l, h with
  | x0 :: x1 :: x2 :: x3 :: x4 :: x5 :: x6 :: x7 :: x8 :: x9 :: x10 :: r, _ => exact ⟨_, _, _, _, _, _, _, _, _, _, _, _, rfl⟩
theorem rget_plain {l : List Nat} (h11 : 11 ≤ l.length) (h41 : l.length ≤ 4107) (hb : ∀ i : Nat, l.getD i 0 < 256) : rgetB l = okL l ∧ (okL l = true → rP l = gP l) ∧ rS l = gS l := by
  obtain ⟨x0, x1, x2, x3, x4, x5, x6, x7, x8, x9, x10, r, rfl⟩ := eleven h11
  have b3 : x3 < 256 := hb 3
  have b4 : x4 < 256 := hb 4
  have b5 : x5 < 256 := hb 5
  have b6 : x6 < 256 := hb 6
  have b7 : x7 < 256 := hb 7
  have b8 : x8 < 256 := hb 8
  have b9 : x9 < 256 := hb 9
  have b10 : x10 < 256 := hb 10
  have hr : r.length ≤ 4096 := by simp at h41; omega
  have eP : gP (x0 :: x1 :: x2 :: x3 :: x4 :: x5 :: x6 :: x7 :: x8 :: x9 :: x10 :: r) = x3 + 256 * (x4 + 256 * (x5 + 256 * (x6 + 256 * 0))) := rfl
  have eS : gS (x0 :: x1 :: x2 :: x3 :: x4 :: x5 :: x6 :: x7 :: x8 :: x9 :: x10 :: r) = x7 + 256 * (x8 + 256 * 0) := rfl
  have eZ : gZ (x0 :: x1 :: x2 :: x3 :: x4 :: x5 :: x6 :: x7 :: x8 :: x9 :: x10 :: r) = x9 + 256 * (x10 + 256 * 0) := rfl
  have rp : rP (x0 :: x1 :: x2 :: x3 :: x4 :: x5 :: x6 :: x7 :: x8 :: x9 :: x10 :: r) = x3 + 256 * x4 := rfl
  have rs : rS (x0 :: x1 :: x2 :: x3 :: x4 :: x5 :: x6 :: x7 :: x8 :: x9 :: x10 :: r) = x7 + 256 * x8 := rfl
  have hS : rS (x0 :: x1 :: x2 :: x3 :: x4 :: x5 :: x6 :: x7 :: x8 :: x9 :: x10 :: r) = gS (x0 :: x1 :: x2 :: x3 :: x4 :: x5 :: x6 :: x7 :: x8 :: x9 :: x10 :: r) := by rw [rs, eS]; omega
  have eL : rightL (x0 :: x1 :: x2 :: x3 :: x4 :: x5 :: x6 :: x7 :: x8 :: x9 :: x10 :: r) = rightM (x0 : Int) ((gP (x0 :: x1 :: x2 :: x3 :: x4 :: x5 :: x6 :: x7 :: x8 :: x9 :: x10 :: r) : Nat) : Int) (x1 : Int) (x2 : Int) (gS (x0 :: x1 :: x2 :: x3 :: x4 :: x5 :: x6 :: x7 :: x8 :: x9 :: x10 :: r)) r := rfl
  have eR : rRight (x0 :: x1 :: x2 :: x3 :: x4 :: x5 :: x6 :: x7 :: x8 :: x9 :: x10 :: r) = rightM (x0 : Int) ((rP (x0 :: x1 :: x2 :: x3 :: x4 :: x5 :: x6 :: x7 :: x8 :: x9 :: x10 :: r) : Nat) : Int) (x1 : Int) (x2 : Int) (rS (x0 :: x1 :: x2 :: x3 :: x4 :: x5 :: x6 :: x7 :: x8 :: x9 :: x10 :: r)) r := rfl
  have eT : rPut (x0 :: x1 :: x2 :: x3 :: x4 :: x5 :: x6 :: x7 :: x8 :: x9 :: x10 :: r) = putH x0 (x3 + 256 * x4) x1 x2 (x7 + 256 * x8) r.length ++ r := rfl
  rw [← put11_eq x0 (x3 + 256 * x4) x1 x2 (x7 + 256 * x8) r.length (by omega) (by omega) (by omega)] at eT
  unfold put11 at eT
  by_cases h56 : x5 = 0 ∧ x6 = 0
  · obtain ⟨rfl, rfl⟩ := h56
    have hP : rP (x0 :: x1 :: x2 :: x3 :: x4 :: 0 :: 0 :: x7 :: x8 :: x9 :: x10 :: r) = gP (x0 :: x1 :: x2 :: x3 :: x4 :: 0 :: 0 :: x7 :: x8 :: x9 :: x10 :: r) := by rw [rp, eP]; omega
    refine ⟨?_, fun _ => hP, hS⟩
    have hrr : rRight (x0 :: x1 :: x2 :: x3 :: x4 :: 0 :: 0 :: x7 :: x8 :: x9 :: x10 :: r) = rightL (x0 :: x1 :: x2 :: x3 :: x4 :: 0 :: 0 :: x7 :: x8 :: x9 :: x10 :: r) := by rw [eR, eL, hP, hS]
    have hpp : decide (rPut (x0 :: x1 :: x2 :: x3 :: x4 :: 0 :: 0 :: x7 :: x8 :: x9 :: x10 :: r) = x0 :: x1 :: x2 :: x3 :: x4 :: 0 :: 0 :: x7 :: x8 :: x9 :: x10 :: r) = decide (gZ (x0 :: x1 :: x2 :: x3 :: x4 :: 0 :: 0 :: x7 :: x8 :: x9 :: x10 :: r) = (x0 :: x1 :: x2 :: x3 :: x4 :: 0 :: 0 :: x7 :: x8 :: x9 :: x10 :: r).length - 11) := by
      rw [eT, eZ]
      apply decide_eq_decide.2
      simp only [List.cons_append, List.nil_append, List.cons.injEq, true_and, and_true, List.length_cons]
      omega
    unfold rgetB okL
    rw [hrr, hpp, decide_eq_true h11, decide_eq_true h41]
    show (true && (true && (_ && _))) = _
    rw [Bool.and_comm (rightL _)]
  · have hno : rightL (x0 :: x1 :: x2 :: x3 :: x4 :: x5 :: x6 :: x7 :: x8 :: x9 :: x10 :: r) = false := by
      rw [eL]
      cases hh : rightM _ _ _ _ _ _ with
      | false => rfl
      | true =>
        simp only [rightM, headB, Bool.and_eq_true, decide_eq_true_eq] at hh
        rw [eP] at hh
        omega
    have hok : okL (x0 :: x1 :: x2 :: x3 :: x4 :: x5 :: x6 :: x7 :: x8 :: x9 :: x10 :: r) = false := by unfold okL; rw [hno]; simp
    refine ⟨?_, (fun h => by rw [hok] at h; cases h), hS⟩
    rw [hok]
    unfold rgetB
    show ((x5 == 0) && ((x6 == 0) && _)) = false
    by_cases h5 : x5 = 0
    · have h6 : x6 ≠ 0 := fun h => h56 ⟨h5, h⟩
      rw [show (x6 == 0) = false by simpa using h6]; simp
    · rw [show (x5 == 0) = false by simpa using h5]; simp
theorem rget_u (A : Option Addr) (l : List Nat) (n c : Nat) (W : World) (hl : l.length = n) (hc : n ≤ c) (hB : Bts W A l) :
    Calls Tryd.prog 9 #[.slice A n c] W (GetU l W) := by
  by_cases hn : n < 11 ∨ 4107 < n
  · refine (rget_out A n c W hn).mono ?_
    rintro e w' ⟨rfl, hb⟩
    refine getU_no ?_ hb
    unfold okL
    rcases hn with hn | hn
    · rw [decide_eq_false (by omega)]; rfl
    · rw [decide_eq_false (p := l.length ≤ 4107) (by omega)]; simp
  · obtain ⟨b, o, rfl, _⟩ := hB.2 (by omega)
    refine (rget_in b o l n c W hl (by omega) (by omega) hc hB).mono ?_
    rintro e w' ⟨hb, h⟩
    obtain ⟨h1, h2, h3⟩ := rget_plain (l := l) (by omega) (by omega) hB.1
    rw [h1] at h
    cases hr : okL l with
    | true =>
      rw [hr, if_pos rfl, h2 hr, h3] at h
      obtain ⟨A', c', rfl, hB'⟩ := h
      subst hl
      exact getU_yes hr hB' hb
    | false =>
      rw [hr, if_neg (by decide)] at h
      subst h
      exact getU_no hr hb
set_option maxRecDepth 100000 in
set_option maxHeartbeats 4000000 in
theorem gets_any (A : Option Addr) (l : List Nat) (n c : Nat) (W : World) (hl : l.length = n) (hc : n ≤ c) (hB : Bts W A l) (hn : n ≤ 5000) (hF : FW W) :
    Calls Tryd.prog 3 #[.slice A n c] W fun e w' => e = .returned (.bool true) ∧ Below W.heap.size W w' := by
  have HB := Lib.hid hB
  have HL := Lib.hid hl
  have HF := Lib.hid hF
  have HC := Lib.hid hc
  have i5 : ¬ (5000 : Int) < (n : Int) := by omega
  clear hB hl hF hc
  go_enter Tryd.func3, Tryd.ntmps3
  go_wp2_with fail
  refine (first15 _ HF.out).mono ?_
  rintro e w1 ⟨rfl, hb1⟩
  have E1 := Lib.hid hb1
  clear hb1
  go_wp2_with fail
  refine (mget_u A l n c _ HL.out (by omega) HC.out (bts_below HB.out E1.out)).mono ?_
  rintro e w2 ⟨A2, c2, rfl, hB2, hb2⟩
  have E2 := Lib.hid (E1.out.trans (hb2.mono E1.out.size))
  have B2 := Lib.hid hB2
  clear hB2 hb2 E1
  have HSM : Hid (sameM (vK l) (vP l) (vN l) (vH l) (vS l) (vD l) (vK l) (vP l) (vN l) (vH l) (vS l) (vD l) = true) := Lib.hid (by simp [sameM])
  have HD : Hid (∃ d, d = vD l) := Lib.hid ⟨_, rfl⟩
  obtain ⟨D, hD⟩ := HD.out
  obtain ⟨k, hk⟩ : ∃ x, x = vK l := ⟨_, rfl⟩
  obtain ⟨p, hp⟩ : ∃ x, x = vP l := ⟨_, rfl⟩
  obtain ⟨nd, hnd⟩ : ∃ x, x = vN l := ⟨_, rfl⟩
  obtain ⟨h, hh⟩ : ∃ x, x = vH l := ⟨_, rfl⟩
  obtain ⟨s, hs⟩ : ∃ x, x = vS l := ⟨_, rfl⟩
  obtain ⟨m, hm⟩ : ∃ x, x = D.length := ⟨_, rfl⟩
  obtain ⟨ok, hok⟩ : ∃ x, x = okL l := ⟨_, rfl⟩
  have RG : Hid (∀ w, Bts w A l → Calls Tryd.prog 9 #[.slice A n c] w fun e w' => ∃ A' c', e = .returned (.tuple #[msV k p nd h s A' m c', .bool ok]) ∧ Bts w' A' D ∧ Below w.heap.size w w') := Lib.hid (fun w hb => by
    rw [hk, hp, hnd, hh, hs, hm, hD, hok]
    exact rget_u A l n c w HL.out HC.out hb)
  rw [← hD, ← hk, ← hp, ← hnd, ← hh, ← hs, ← hm, ← hok]
  rw [← hk, ← hp, ← hnd, ← hh, ← hs, ← hD] at HSM
  rw [← hD] at B2
  have HMD := Lib.hid hm
  clear hk hp hnd hh hs hm hok hD HD
  unfold msV
  go_wp2_with fail
  have E3 : Hid (Below W.heap.size W (w2.alloc (.cells #[.int .i64 k, .int .i64 p, .int .i64 nd, .int .i64 h, .int .u16 (s : Int), .slice A2 m c2] 27))) := Lib.hid (E2.out.alloc E2.out.size _)
  have X3 : Hid (Blk (w2.alloc (.cells #[.int .i64 k, .int .i64 p, .int .i64 nd, .int .i64 h, .int .u16 (s : Int), .slice A2 m c2] 27)) w2.heap.size 27 #[.int .i64 k, .int .i64 p, .int .i64 nd, .int .i64 h, .int .u16 (s : Int), .slice A2 m c2]) := Lib.hid (Blkf.new_at _ _ _ _ rfl)
  have B3 : Hid (Bts (w2.alloc (.cells #[.int .i64 k, .int .i64 p, .int .i64 nd, .int .i64 h, .int .u16 (s : Int), .slice A2 m c2] 27)) A2 D) := Lib.hid (bts_below B2.out ((Below.refl _ w2).alloc (Nat.le_refl _) _))
  generalize w2.alloc (.cells #[.int .i64 k, .int .i64 p, .int .i64 nd, .int .i64 h, .int .u16 (s : Int), .slice A2 m c2] 27) = w3 at *
  generalize w2.heap.size = g2 at *
  refine (RG.out _ (bts_below HB.out E3.out)).mono ?_
  rintro e w4 ⟨A4, c4, rfl, hB4, hb4⟩
  have E4 := Lib.hid (E3.out.trans (hb4.mono E3.out.size))
  have X4 := Lib.hid (X3.out.below hb4 X3.out.lt)
  have B4 := Lib.hid (bts_below B3.out hb4)
  have C4 := Lib.hid hB4
  clear hB4 hb4 E2 E3 X3 B2 B3 RG
  unfold msV
  have x0 := X4.out.cell 0
  have x1 := X4.out.cell 1
  have x2 := X4.out.cell 2
  have x3 := X4.out.cell 3
  have x4 := X4.out.cell 4
  have x5 := X4.out.cell 5
  have xl := X4.out.lt
  simp only [List.getElem?_toArray, List.getElem?_cons_zero, List.getElem?_cons_succ] at x0 x1 x2 x3 x4 x5
  have E5 : Hid (Below w4.heap.size w4 (w4.alloc (.cells #[.int .i64 k, .int .i64 p, .int .i64 nd, .int .i64 h, .int .u16 (s : Int), .slice A4 m c4] 27))) := Lib.hid ((Below.refl _ w4).alloc (Nat.le_refl _) _)
  go_wp2_with fail
  refine (rsame_any k p nd h s A2 D m c2 k p nd h s A4 D m c4 _ (bts_below B4.out E5.out) HMD.out.symm (bts_below C4.out E5.out) HMD.out.symm).mono ?_
  rintro e w6 ⟨rfl, hb6⟩
  rw [HSM.out]
  have E6 := Lib.hid ((E4.out.trans (E5.out.mono E4.out.size)).trans (hb6.mono (Nat.le_trans E4.out.size E5.out.size)))
  clear hb6 x0 x1 x2 x3 x4 x5 xl
  go_wp2_with fail
  go_ret
  exact ⟨rfl, E6.out⟩
set_option maxRecDepth 100000 in
set_option maxHeartbeats 1000000 in
theorem gets_big (A : Option Addr) (n c : Nat) (W : World) (hn : 5000 < n) (hF : FW W) :
    Calls Tryd.prog 3 #[.slice A n c] W fun e w' => e = .returned (.bool true) ∧ Below W.heap.size W w' := by
  have HF := Lib.hid hF
  have i5 : (5000 : Int) < (n : Int) := by omega
  clear hF
  go_enter Tryd.func3, Tryd.ntmps3
  go_wp2_with fail
  refine (first15 _ HF.out).mono ?_
  rintro e w1 ⟨rfl, hb1⟩
  have E1 := Lib.hid hb1
  clear hb1
  go_wp2_with fail
  go_ret
  exact ⟨rfl, E1.out⟩
theorem Law.MsgGets (A : Option Addr) (n c : Nat) (z : List Int) (W : World) (hz : IsRow .u8 W A n c z) (_ : 1 * c ≤ 140737488351232) (hF : FW W) :
    Calls Tryd.prog 3 #[.slice A n c] W fun e w' => e = .returned (.bool true) ∧ Below W.heap.size W w' := by
  obtain ⟨l, hl, hB, _⟩ := bts_of_row hz
  have hc : n ≤ c := by
    rcases hz with ⟨_, rfl, rfl, _⟩ | ⟨x, _, h1, _⟩
    · exact Nat.le_refl _
    · omega
  by_cases hn : n ≤ 5000
  · exact gets_any A l n c W hl hc hB hn hF
  · exact gets_big A n c W (by omega) hF
end Go.Proofs.YtkkgigdgbiklmaaDoor
