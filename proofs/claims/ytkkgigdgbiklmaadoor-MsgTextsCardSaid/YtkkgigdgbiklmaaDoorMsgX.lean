/- The text of a message, written by the document. -/
import Derived.Test.YtkkgigdgbiklmaaDoorMsgW
namespace Go.Proofs.YtkkgigdgbiklmaaDoor
open Go.RowKit

def hopsR (h : Int) : List UInt8 := if h = 0 then [] else [32, 104, 111, 112, 115, 32] ++ Lib.itoa h
def setR (k : Int) (s : Nat) : List UInt8 := if k = 4 then [32, 115, 101, 116, 32] ++ txtL s else []
def bytR (m : Nat) : List UInt8 := if m = 0 then [] else [32, 98, 121, 116, 101, 115, 32] ++ Lib.itoa (m : Int)
def headR (k p nd : Int) : List UInt8 := kL k ++ (([32, 112, 97, 103, 101, 32] ++ Lib.itoa p) ++ [32, 110, 111, 100, 101, 32] ++ Lib.itoa nd)
theorem textM_eq (k p nd h : Int) (s m : Nat) : textM k p nd h s m = headR k p nd ++ hopsR h ++ setR k s ++ bytR m := by
  have hj : ∀ l : List (List UInt8), Lib.joinTail [32] (wPage :: Lib.itoa p :: wNode :: Lib.itoa nd :: l) = (([32, 112, 97, 103, 101, 32] ++ Lib.itoa p) ++ [32, 110, 111, 100, 101, 32] ++ Lib.itoa nd) ++ Lib.joinTail [32] l := by
    intro l; simp [Lib.joinTail, wPage, wNode]
  have ha : ∀ a b : List (List UInt8), Lib.joinTail [32] (a ++ b) = Lib.joinTail [32] a ++ Lib.joinTail [32] b := by
    intro a b; simp [Lib.joinTail]
  unfold textM partsM headR
  rw [show ([kL k, wPage, Lib.itoa p, wNode, Lib.itoa nd] ++ hopsL h ++ setL k s ++ bytL m) = kL k :: (wPage :: Lib.itoa p :: wNode :: Lib.itoa nd :: (hopsL h ++ setL k s ++ bytL m)) by simp, Lib.join_cons, hj, ha, ha]
  have e1 : Lib.joinTail [32] (hopsL h) = hopsR h := by unfold hopsL hopsR; split <;> simp [Lib.joinTail, wHops]
  have e2 : Lib.joinTail [32] (setL k s) = setR k s := by unfold setL setR; split <;> simp [Lib.joinTail, wSet]
  have e3 : Lib.joinTail [32] (bytL m) = bytR m := by unfold bytL bytR; split <;> simp [Lib.joinTail, wBytes]
  rw [e1, e2, e3]
  simp
theorem sadd (a b : List UInt8) (h : a.length + b.length ≤ 1000) (w : World) : (Op.stringOp .add (strL a) (strL b)).run Tryd.prog w = .ok (.string (strL (a ++ b))) w :=
  strL_add w a (strL b) (by rw [strL_size]; omega)
theorem hopsR_len (h : Int) (hh : -9223372036854775808 ≤ h ∧ h < 9223372036854775808) : (hopsR h).length ≤ 27 := by
  unfold hopsR; have := itoa_len h hh; split <;> simp; omega
theorem setR_len (k : Int) (s : Nat) : (setR k s).length ≤ 53 := by
  unfold setR; have := txtL_len s; split <;> simp; omega
theorem headR_len (k p nd : Int) (hp : -9223372036854775808 ≤ p ∧ p < 9223372036854775808) (hnd : -9223372036854775808 ≤ nd ∧ nd < 9223372036854775808) : (headR k p nd).length ≤ 60 := by
  have h1 := kL_len k
  have h2 := itoa_len p hp
  have h3 := itoa_len nd hnd
  unfold headR
  simp; omega
set_option maxRecDepth 100000 in
set_option maxHeartbeats 400000 in
theorem rmtext_any (k p nd h : Int) (s : Nat) (A : Option Addr) (m c : Nat) (W : World) (hs : s < 65536) (hm : m ≤ 100000) (hp : -9223372036854775808 ≤ p ∧ p < 9223372036854775808) (hnd : -9223372036854775808 ≤ nd ∧ nd < 9223372036854775808) (hh : -9223372036854775808 ≤ h ∧ h < 9223372036854775808) :
    Calls Tryd.prog 17 #[msV k p nd h s A m c] W fun e w' => e = .returned (.string (strL (textM k p nd h s m))) ∧ Below W.heap.size W w' := by
  rw [textM_eq]
  have HE : Hid (Below W.heap.size W (W.alloc (.cells #[.int .i64 k, .int .i64 p, .int .i64 nd, .int .i64 h, .int .u16 (s : Int), .slice A m c] 27))) := Lib.hid ((Below.refl _ W).alloc (Nat.le_refl _) _)
  have HX : Hid (Blk (W.alloc (.cells #[.int .i64 k, .int .i64 p, .int .i64 nd, .int .i64 h, .int .u16 (s : Int), .slice A m c] 27)) W.heap.size 27 #[.int .i64 k, .int .i64 p, .int .i64 nd, .int .i64 h, .int .u16 (s : Int), .slice A m c]) := Lib.hid (Blkf.new_at _ _ _ _ rfl)
  have HP := Lib.hid hp
  have HND := Lib.hid hnd
  have HH := Lib.hid hh
  have HS := Lib.hid hs
  have HLK := kL_len k
  have HLP := itoa_len p hp
  have HLN := itoa_len nd hnd
  have HLH := itoa_len h hh
  have HLM := itoa_len (m : Int) (by omega)
  have HLS := txtL_len s
  have HHR := hopsR_len h hh
  have HSR := setR_len k s
  have HHD := headR_len k p nd hp hnd
  obtain ⟨q1, hq1⟩ : ∃ q, q = strL (kL k) := ⟨_, rfl⟩
  obtain ⟨q2, hq2⟩ : ∃ q, q = strL (Lib.itoa p) := ⟨_, rfl⟩
  obtain ⟨q3, hq3⟩ : ∃ q, q = strL (Lib.itoa nd) := ⟨_, rfl⟩
  obtain ⟨q4, hq4⟩ : ∃ q, q = strL (headR k p nd) := ⟨_, rfl⟩
  obtain ⟨r1, hr1⟩ : ∃ q, q = strL ([32, 112, 97, 103, 101, 32] ++ Lib.itoa p) := ⟨_, rfl⟩
  obtain ⟨r2, hr2⟩ : ∃ q, q = strL ([32, 112, 97, 103, 101, 32] ++ Lib.itoa p ++ [32, 110, 111, 100, 101, 32]) := ⟨_, rfl⟩
  obtain ⟨r3, hr3⟩ : ∃ q, q = strL ([32, 112, 97, 103, 101, 32] ++ Lib.itoa p ++ [32, 110, 111, 100, 101, 32] ++ Lib.itoa nd) := ⟨_, rfl⟩
  have z1 : ∀ w, (Op.stringOp .add ⟨#[32, 112, 97, 103, 101, 32]⟩ q2).run Tryd.prog w = .ok (.string r1) w := by
    rw [hq2, hr1]; exact sadd [32, 112, 97, 103, 101, 32] _ (by simp; omega)
  have z2 : ∀ w, (Op.stringOp .add r1 ⟨#[32, 110, 111, 100, 101, 32]⟩).run Tryd.prog w = .ok (.string r2) w := by
    rw [hr1, hr2]; exact sadd _ [32, 110, 111, 100, 101, 32] (by simp; omega)
  have z3 : ∀ w, (Op.stringOp .add r2 q3).run Tryd.prog w = .ok (.string r3) w := by
    rw [hr2, hq3, hr3]; exact sadd _ _ (by simp; omega)
  have z4 : ∀ w, (Op.stringOp .add q1 r3).run Tryd.prog w = .ok (.string q4) w := by
    rw [hq1, hr3, hq4]; exact sadd _ _ (by simp; omega)
  have Z1 := Lib.hid z1
  have Z2 := Lib.hid z2
  have Z3 := Lib.hid z3
  have Z4 := Lib.hid z4
  have NP : Hid (∀ w, Calls Tryd.prog 29 #[.int .i64 p] w fun e w' => e = .returned (.string q2) ∧ w = w') := Lib.hid (by rw [hq2]; exact fun w => num_any p w hp)
  have NN : Hid (∀ w, Calls Tryd.prog 29 #[.int .i64 nd] w fun e w' => e = .returned (.string q3) ∧ w = w') := Lib.hid (by rw [hq3]; exact fun w => num_any nd w hnd)
  have NH : Hid (∀ w, Calls Tryd.prog 29 #[.int .i64 h] w fun e w' => e = .returned (.string (strL (Lib.itoa h))) ∧ w = w') := Lib.hid (fun w => num_any h w hh)
  have NM : Hid (∀ w, Calls Tryd.prog 29 #[.int .i64 (m : Int)] w fun e w' => e = .returned (.string (strL (Lib.itoa (m : Int)))) ∧ w = w') := Lib.hid (fun w => num_any (m : Int) w (by omega))
  have Q1 := Lib.hid hq1
  have Qq4 := Lib.hid hq4
  have HLL := Lib.hid (⟨HLK, HLP, HLN, HLH, HLM, HLS, HHR, HSR, HHD⟩ : _ ∧ _ ∧ _ ∧ _ ∧ _ ∧ _ ∧ _ ∧ _ ∧ _)
  unfold msV
  clear HLK HLP HLN HLH HLM HLS HHR HSR HHD
  clear hp hnd hh z1 z2 z3 z4 hq1 hq2 hq3 hq4 hr1 hr2 hr3
  go_enter Tryd.func17, Tryd.ntmps17
  go_upto_region 2 with fail
  obtain ⟨mb, hmb⟩ : ∃ mb, mb = W.heap.size := ⟨_, rfl⟩
  rw [← hmb] at HX ⊢
  clear hmb
  generalize W.alloc (.cells #[.int .i64 k, .int .i64 p, .int .i64 nd, .int .i64 h, .int .u16 (s : Int), .slice A m c] 27) = w0 at *
  go_cut [11] from 4 to 59 (fun v wx => (∃ b : Bool, v = .bool b ∧ (b = true ↔ (1 ≤ k ∧ k ≤ 6))) ∧ w0 = wx)
  case first =>
    as_aux_lemma =>
      have x0 := HX.out.cell 0
      have xl := HX.out.lt
      simp only [List.getElem?_toArray, List.getElem?_cons_zero] at x0
      by_cases h1 : k < 1
      · have i1 : ¬ 1 ≤ k := by omega
        go_wp2_with fail
        go_meet
        case rel => exact ⟨⟨false, rfl, by simp; omega⟩, rfl⟩
      · have i1 : 1 ≤ k := by omega
        by_cases h6 : k ≤ 6
        · go_wp2_with fail
          go_meet
          case rel => exact ⟨⟨true, rfl, by simp; omega⟩, rfl⟩
        · have i2 : 6 < k := by omega
          go_wp2_with fail
          go_meet
          case rel => exact ⟨⟨false, rfl, by simp; omega⟩, rfl⟩
  case rest =>
  obtain ⟨⟨b, rfl, hb⟩, rfl⟩ := hcut
  have HBK := Lib.hid hb
  clear hb
  go_upto_if 11 with fail
  go_cut [3] from 4 to 59 (fun v wx => v = .string q1 ∧ Below W.heap.size W wx ∧ Blk wx mb 27 #[.int .i64 k, .int .i64 p, .int .i64 nd, .int .i64 h, .int .u16 (s : Int), .slice A m c])
  case first =>
    skip
    (
      have x0 := HX.out.cell 0
      have xl := HX.out.lt
      simp only [List.getElem?_toArray, List.getElem?_cons_zero] at x0
      cases b with
      | false =>
        have e : kL k = [63] := by
          have hb := HBK.out
          simp only [Bool.false_eq_true, false_iff] at hb
          unfold kL; rw [if_neg (by omega), if_neg (by omega), if_neg (by omega), if_neg (by omega), if_neg (by omega), if_neg (by omega)]
        have HR : Hid (Value.string ⟨#[63]⟩ = Value.string q1) := Lib.hid (by rw [Q1.out, e]; rfl)
        clear e
        go_wp2_with fail
        go_meet
        case rel => exact ⟨HR.out, HE.out, HX.out⟩
      | true =>
          have hb := HBK.out
          simp only [true_iff] at hb
          clear HBK
          rcases (show k = 1 ∨ k = 2 ∨ k = 3 ∨ k = 4 ∨ k = 5 ∨ k = 6 by omega) with hk | hk | hk | hk | hk | hk
          · have HR : Hid (Value.string ⟨#[114, 101, 97, 100]⟩ = Value.string q1) := Lib.hid (by rw [Q1.out, hk]; rfl)
            clear Q1 HLL hb
            go_wp2_with fail
            go_meet
            case rel => exact ⟨HR.out, HE.out.alloc HE.out.size _, HX.out.alloc _⟩
          · have HR : Hid (Value.string ⟨#[119, 114, 105, 116, 101]⟩ = Value.string q1) := Lib.hid (by rw [Q1.out, hk]; rfl)
            clear Q1 HLL hb
            go_wp2_with fail
            go_meet
            case rel => exact ⟨HR.out, HE.out.alloc HE.out.size _, HX.out.alloc _⟩
          · have HR : Hid (Value.string ⟨#[99, 111, 112, 121]⟩ = Value.string q1) := Lib.hid (by rw [Q1.out, hk]; rfl)
            clear Q1 HLL hb
            go_wp2_with fail
            go_meet
            case rel => exact ⟨HR.out, HE.out.alloc HE.out.size _, HX.out.alloc _⟩
          · have HR : Hid (Value.string ⟨#[103, 114, 97, 110, 116]⟩ = Value.string q1) := Lib.hid (by rw [Q1.out, hk]; rfl)
            clear Q1 HLL hb
            go_wp2_with fail
            go_meet
            case rel => exact ⟨HR.out, HE.out.alloc HE.out.size _, HX.out.alloc _⟩
          · have HR : Hid (Value.string ⟨#[102, 111, 114, 103, 101, 116]⟩ = Value.string q1) := Lib.hid (by rw [Q1.out, hk]; rfl)
            clear Q1 HLL hb
            go_wp2_with fail
            go_meet
            case rel => exact ⟨HR.out, HE.out.alloc HE.out.size _, HX.out.alloc _⟩
          · have HR : Hid (Value.string ⟨#[102, 111, 114, 103, 111, 116]⟩ = Value.string q1) := Lib.hid (by rw [Q1.out, hk]; rfl)
            clear Q1 HLL hb
            go_wp2_with fail
            go_meet
            case rel => exact ⟨HR.out, HE.out.alloc HE.out.size _, HX.out.alloc _⟩
    )
  case rest =>
  obtain ⟨rfl, hE, hX⟩ := hcut
  have E1 := Lib.hid hE
  have X1 := Lib.hid hX
  clear hE hX HE HX
  rename World => w1
  have hx := X1.out.drew
  have s1 := fun (W' : World) (h : Ext w1.drew W') => (h.cell (p := ⟨mb, 1, none⟩) hx.lt).trans (hx.cell 1)
  have s2 := fun (W' : World) (h : Ext w1.drew W') => (h.cell (p := ⟨mb, 2, none⟩) hx.lt).trans (hx.cell 2)
  simp only [List.getElem?_toArray, List.getElem?_cons_zero, List.getElem?_cons_succ] at s1 s2
  clear hx
  have z1 := Z1.out
  have z2 := Z2.out
  have z3 := Z3.out
  have z4 := Z4.out
  go_wp2_with fail
  refine wp_region_plan [(0, false), (1, false), (2, false), (3, false), (4, false), (5, false), (6, false), (7, false), (8, false), (9, false), (10, false), (11, false)] (by kernel_rfl) (by kernel_rfl) (fun _ d _ _ _ h => by cases d <;> exact h) ?_
  iterate 3 (refine plan_take (v := ?_) rfl (by kernel_rfl) ?_ ?_; rotate_left; (focus (intro w' hw'; try go_simp; try with_reducible rfl)); simp only [Act.put, List.setIfInBounds_toArray, List.set_cons_zero, List.set_cons_succ])
  refine plan_quiet rfl (by kernel_rfl) (fun w' => by go_simp; all_goals (first | exact ⟨rfl, rfl⟩ | rfl)) (fun w' hw' => NP.out w') ?_
  simp only [Act.put, List.setIfInBounds_toArray, List.set_cons_zero, List.set_cons_succ]
  iterate 4 (refine plan_take (v := ?_) rfl (by kernel_rfl) ?_ ?_; rotate_left; (focus (intro w' hw'; try go_simp; try with_reducible rfl)); simp only [Act.put, List.setIfInBounds_toArray, List.set_cons_zero, List.set_cons_succ])
  refine plan_quiet rfl (by kernel_rfl) (fun w' => by go_simp; all_goals (first | exact ⟨rfl, rfl⟩ | rfl)) (fun w' hw' => NN.out w') ?_
  simp only [Act.put, List.setIfInBounds_toArray, List.set_cons_zero, List.set_cons_succ]
  iterate 3 (refine plan_take (v := ?_) rfl (by kernel_rfl) ?_ ?_; rotate_left; (focus (intro w' hw'; try go_simp; try with_reducible rfl)); simp only [Act.put, List.setIfInBounds_toArray, List.set_cons_zero, List.set_cons_succ])
  refine plan_end ?_
  clear s1 s2 z1 z2 z3 z4 Z1 Z2 Z3 Z4 NP NN
  have E2 := Lib.hid E1.out.drew
  have X2 := Lib.hid X1.out.drew
  clear E1 X1
  generalize w1.drew = w2 at *
  have x3 := X2.out.cell 3
  have xl := X2.out.lt
  simp only [List.getElem?_toArray, List.getElem?_cons_zero, List.getElem?_cons_succ] at x3
  go_upto_if 31 with fail
  clear x3 xl
  obtain ⟨q5, hq⟩ : ∃ q, q = strL (headR k p nd ++ hopsR h) := ⟨_, rfl⟩
  have Qq5 := Lib.hid hq
  clear hq
  go_cut [3] from 4 to 59 (fun v wx => v = .string q5 ∧ Below W.heap.size W wx ∧ Blk wx mb 27 #[.int .i64 k, .int .i64 p, .int .i64 nd, .int .i64 h, .int .u16 (s : Int), .slice A m c])
  case first =>
    as_aux_lemma =>
      have x3 := X2.out.cell 3
      have xl := X2.out.lt
      simp only [List.getElem?_toArray, List.getElem?_cons_zero, List.getElem?_cons_succ] at x3
      by_cases hcond : h = 0
      · have c1 : (h == 0) = true := by simpa using hcond
        have HR : Hid (Value.string q4 = Value.string q5) := Lib.hid (by rw [Qq4.out, Qq5.out, show hopsR h = [] from if_pos hcond, List.append_nil])
        clear hcond
        go_wp2_with fail
        go_meet
        case rel => exact ⟨HR.out, E2.out, X2.out⟩
      · have c1 : (h == 0) = false := by simpa using hcond
        have c2 : (h != 0) = true := by simpa using hcond
        obtain ⟨n5, hn5⟩ : ∃ q, q = strL (Lib.itoa h) := ⟨_, rfl⟩
        obtain ⟨r5, hr5⟩ : ∃ q, q = strL ([32, 104, 111, 112, 115, 32] ++ Lib.itoa h) := ⟨_, rfl⟩
        have hll := HLL.out
        have z5 : ∀ w, (Op.stringOp .add ⟨#[32, 104, 111, 112, 115, 32]⟩ n5).run Tryd.prog w = .ok (.string r5) w := by
          rw [hn5, hr5]; exact sadd [32, 104, 111, 112, 115, 32] _ (by obtain ⟨_, _, _, _, _, _, _, _, _⟩ := hll; simp; omega)
        have z6 : ∀ w, (Op.stringOp .add q4 r5).run Tryd.prog w = .ok (.string q5) w := by
          rw [hr5, Qq4.out, Qq5.out, show hopsR h = [32, 104, 111, 112, 115, 32] ++ Lib.itoa h from if_neg hcond]; exact sadd _ _ (by obtain ⟨_, _, _, _, _, _, _, _, _⟩ := hll; simp; omega)
        have CC := Lib.hid (hn5 ▸ NH.out w2 : Calls Tryd.prog 29 #[.int .i64 h] w2 fun e w' => e = .returned (.string n5) ∧ w2 = w')
        clear hcond hn5 hr5 hll
        go_wp2_with fail
        refine CC.out.mono ?_
        rintro e wz ⟨rfl, rfl⟩
        go_wp2_with fail
        go_meet
        case rel => exact ⟨rfl, E2.out, X2.out⟩
  case rest =>
  obtain ⟨rfl, hE, hX⟩ := hcut
  have E3 := Lib.hid hE
  have X3 := Lib.hid hX
  clear hE hX E2 X2
  rename World => w3
  have x0 := X3.out.cell 0
  have xl := X3.out.lt
  simp only [List.getElem?_toArray, List.getElem?_cons_zero, List.getElem?_cons_succ] at x0
  go_upto_if 40 with fail
  clear x0 xl
  obtain ⟨q6, hq⟩ : ∃ q, q = strL (headR k p nd ++ hopsR h ++ setR k s) := ⟨_, rfl⟩
  have Qq6 := Lib.hid hq
  clear hq
  go_cut [3] from 4 to 59 (fun v wx => v = .string q6 ∧ Below W.heap.size W wx ∧ Blk wx mb 27 #[.int .i64 k, .int .i64 p, .int .i64 nd, .int .i64 h, .int .u16 (s : Int), .slice A m c])
  case first =>
    as_aux_lemma =>
      have x0 := X3.out.cell 0
      have xl := X3.out.lt
      simp only [List.getElem?_toArray, List.getElem?_cons_zero, List.getElem?_cons_succ] at x0
      by_cases hcond : ¬ k = 4
      · have c1 : (k == 4) = false := by simpa using hcond
        have HR : Hid (Value.string q5 = Value.string q6) := Lib.hid (by rw [Qq5.out, Qq6.out, show setR k s = [] from if_neg hcond, List.append_nil])
        clear hcond
        go_wp2_with fail
        go_meet
        case rel => exact ⟨HR.out, E3.out, X3.out⟩
      · have c1 : (k == 4) = true := by simp only [Classical.not_not] at hcond; simpa using hcond
        obtain ⟨n5, hn5⟩ : ∃ q, q = strL (txtL s) := ⟨_, rfl⟩
        obtain ⟨r5, hr5⟩ : ∃ q, q = strL ([32, 115, 101, 116, 32] ++ txtL s) := ⟨_, rfl⟩
        have hll := HLL.out
        have z5 : ∀ w, (Op.stringOp .add ⟨#[32, 115, 101, 116, 32]⟩ n5).run Tryd.prog w = .ok (.string r5) w := by
          rw [hn5, hr5]; exact sadd [32, 115, 101, 116, 32] _ (by obtain ⟨_, _, _, _, _, _, _, _, _⟩ := hll; simp; omega)
        have z6 : ∀ w, (Op.stringOp .add q5 r5).run Tryd.prog w = .ok (.string q6) w := by
          rw [hr5, Qq5.out, Qq6.out, show setR k s = [32, 115, 101, 116, 32] ++ txtL s from if_pos (Classical.not_not.1 hcond)]; exact sadd _ _ (by obtain ⟨_, _, _, _, _, _, _, _, _⟩ := hll; simp; omega)
        have x4 := X3.out.cell 4
        simp only [List.getElem?_toArray, List.getElem?_cons_zero, List.getElem?_cons_succ] at x4
        have CC : Hid (∀ w, Calls Tryd.prog 30 #[.int .u16 s] w fun e w' => e = .returned (.string n5) ∧ Below w.heap.size w w') := Lib.hid (by rw [hn5]; intro w; rw [← txtL_eq]; exact rtext_any s w HS.out)
        clear hcond hn5 hr5 hll
        go_wp2_with fail
        refine (CC.out _).mono ?_
        rintro e wz ⟨rfl, hb⟩
        have E9 := Lib.hid (E3.out.trans (hb.mono E3.out.size))
        have X9 := Lib.hid (X3.out.below hb X3.out.lt)
        clear hb x0 x4 xl
        go_wp2_with fail
        go_meet
        case rel => exact ⟨rfl, E9.out, X9.out⟩
  case rest =>
  obtain ⟨rfl, hE, hX⟩ := hcut
  have E4 := Lib.hid hE
  have X4 := Lib.hid hX
  clear hE hX E3 X3
  rename World => w4
  have x5 := X4.out.cell 5
  have xl := X4.out.lt
  simp only [List.getElem?_toArray, List.getElem?_cons_zero, List.getElem?_cons_succ] at x5
  go_upto_if 50 with fail
  clear x5 xl
  obtain ⟨q7, hq⟩ : ∃ q, q = strL (headR k p nd ++ hopsR h ++ setR k s ++ bytR m) := ⟨_, rfl⟩
  have Qq7 := Lib.hid hq
  clear hq
  go_cut [3] from 4 to 59 (fun v wx => v = .string q7 ∧ Below W.heap.size W wx ∧ Blk wx mb 27 #[.int .i64 k, .int .i64 p, .int .i64 nd, .int .i64 h, .int .u16 (s : Int), .slice A m c])
  case first =>
    as_aux_lemma =>
      have x5 := X4.out.cell 5
      have xl := X4.out.lt
      simp only [List.getElem?_toArray, List.getElem?_cons_zero, List.getElem?_cons_succ] at x5
      by_cases hcond : m = 0
      · have c2 : ¬ (0 < m) := by omega
        have c3 : decide (0 < m) = false := by simp; omega
        have c4 : ¬ ((0 : Int) < (m : Int)) := by omega
        have HR : Hid (Value.string q6 = Value.string q7) := Lib.hid (by rw [Qq6.out, Qq7.out, show bytR m = [] from if_pos hcond, List.append_nil])
        clear hcond
        go_wp2_with fail
        go_meet
        case rel => exact ⟨HR.out, E4.out, X4.out⟩
      · have c0 : (0 : Int) < (m : Int) := by omega
        have c1 : 0 < m := by omega
        obtain ⟨n5, hn5⟩ : ∃ q, q = strL (Lib.itoa (m : Int)) := ⟨_, rfl⟩
        obtain ⟨r5, hr5⟩ : ∃ q, q = strL ([32, 98, 121, 116, 101, 115, 32] ++ Lib.itoa (m : Int)) := ⟨_, rfl⟩
        have hll := HLL.out
        have z5 : ∀ w, (Op.stringOp .add ⟨#[32, 98, 121, 116, 101, 115, 32]⟩ n5).run Tryd.prog w = .ok (.string r5) w := by
          rw [hn5, hr5]; exact sadd [32, 98, 121, 116, 101, 115, 32] _ (by obtain ⟨_, _, _, _, _, _, _, _, _⟩ := hll; simp; omega)
        have z6 : ∀ w, (Op.stringOp .add q6 r5).run Tryd.prog w = .ok (.string q7) w := by
          rw [hr5, Qq6.out, Qq7.out, show bytR m = [32, 98, 121, 116, 101, 115, 32] ++ Lib.itoa (m : Int) from if_neg hcond]; exact sadd _ _ (by obtain ⟨_, _, _, _, _, _, _, _, _⟩ := hll; simp; omega)
        have CC := Lib.hid (hn5 ▸ NM.out w4 : Calls Tryd.prog 29 #[.int .i64 (m : Int)] w4 fun e w' => e = .returned (.string n5) ∧ w4 = w')
        clear hcond hn5 hr5 hll
        go_wp2_with fail
        refine CC.out.mono ?_
        rintro e wz ⟨rfl, rfl⟩
        go_wp2_with fail
        go_meet
        case rel => exact ⟨rfl, E4.out, X4.out⟩
  case rest =>
  obtain ⟨rfl, hE, hX⟩ := hcut
  have E5 := Lib.hid hE
  have X5 := Lib.hid hX
  clear hE hX E4 X4
  rename World => w5
  go_wp2_with fail
  go_ret
  exact ⟨congrArg (fun x => Ending.returned (Value.string x)) Qq7.out, E5.out⟩
end Go.Proofs.YtkkgigdgbiklmaaDoor
