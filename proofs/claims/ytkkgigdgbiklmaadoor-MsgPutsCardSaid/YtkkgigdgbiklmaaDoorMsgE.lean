/- The text of a message. -/
import Derived.Test.YtkkgigdgbiklmaaDoorMsgD
import Derived.Test.YtkkgigdgbiklmaaDoorPlan
namespace Go.Proofs.YtkkgigdgbiklmaaDoor
open Go.RowKit

def txtL (s : Nat) : List UInt8 := if s = 0 then [45] else txN (listN s)
theorem txtL_eq (s : Nat) : txtB s = strL (txtL s) := by unfold txtB txtL; split <;> rfl
theorem txtL_len (s : Nat) : (txtL s).length ≤ 48 := by
  unfold txtL
  split
  · simp
  · have h1 := txN_len (listN s) (list_lt s)
    have h2 := list_len s
    omega
def wPage : List UInt8 := [112, 97, 103, 101]
def wNode : List UInt8 := [110, 111, 100, 101]
def wHops : List UInt8 := [104, 111, 112, 115]
def wSet : List UInt8 := [115, 101, 116]
def wBytes : List UInt8 := [98, 121, 116, 101, 115]
def hopsL (h : Int) : List (List UInt8) := if h = 0 then [] else [wHops, Lib.itoa h]
def setL (k : Int) (s : Nat) : List (List UInt8) := if k = 4 then [wSet, txtL s] else []
def bytL (m : Nat) : List (List UInt8) := if m = 0 then [] else [wBytes, Lib.itoa (m : Int)]
theorem hops_len (h : Int) : (hopsL h).length ≤ 2 := by unfold hopsL; split <;> simp
theorem set_len (k : Int) (s : Nat) : (setL k s).length ≤ 2 := by unfold setL; split <;> simp
theorem byt_len (m : Nat) : (bytL m).length ≤ 2 := by unfold bytL; split <;> simp
def partsM (k p nd h : Int) (s m : Nat) : List (List UInt8) := [kL k, wPage, Lib.itoa p, wNode, Lib.itoa nd] ++ hopsL h ++ setL k s ++ bytL m
def textM (k p nd h : Int) (s m : Nat) : List UInt8 := Lib.join (partsM k p nd h s m) [32]
theorem kL_len (k : Int) : (kL k).length ≤ 6 := by
  unfold kL
  repeat' split
  all_goals decide
theorem parts_all (k p nd h : Int) (s m : Nat) (hm : m ≤ 100000) (hp : -9223372036854775808 ≤ p ∧ p < 9223372036854775808) (hnd : -9223372036854775808 ≤ nd ∧ nd < 9223372036854775808) (hh : -9223372036854775808 ≤ h ∧ h < 9223372036854775808) : ∀ x ∈ partsM k p nd h s m, x.length ≤ 48 := by
  intro x hx
  have i1 := Lib.itoa_length_le p hp.1 (by omega)
  have i2 := Lib.itoa_length_le nd hnd.1 (by omega)
  have i3 := Lib.itoa_length_le h hh.1 (by omega)
  have i4 := Lib.itoa_length_le (m : Int) (by omega) (by omega)
  have i5 := kL_len k
  have i6 := txtL_len s
  unfold partsM hopsL setL bytL at hx
  simp only [List.mem_append, List.mem_cons, List.not_mem_nil, or_false] at hx
  rcases hx with (((rfl | rfl | rfl | rfl | rfl) | hx) | hx) | hx
  · omega
  · decide
  · omega
  · decide
  · omega
  · split at hx
    · simp at hx
    · simp at hx
      rcases hx with rfl | rfl
      · decide
      · omega
  · split at hx
    · simp at hx
      rcases hx with rfl | rfl
      · decide
      · omega
    · simp at hx
  · split at hx
    · simp at hx
    · simp at hx
      rcases hx with rfl | rfl
      · decide
      · omega
theorem join_len : ∀ (l : List (List UInt8)) (B : Nat), (∀ x ∈ l, x.length ≤ B) → (Lib.join l [32]).length ≤ (B + 1) * l.length
  | [], _, _ => by simp [Lib.join, List.intercalate]
  | x :: r, B, h => by
    rw [Lib.join_cons]
    unfold Lib.joinTail
    have hx := h x (by simp)
    have hr : ∀ q : List (List UInt8), (∀ y ∈ q, y.length ≤ B) → ((q.map ([32] ++ ·)).flatten).length ≤ (B + 1) * q.length := by
      intro q
      induction q with
      | nil => simp
      | cons y q ih =>
        intro hq
        have h1 := ih (fun z hz => hq z (by simp [hz]))
        have h2 := hq y (by simp)
        simp only [List.map_cons, List.flatten_cons, List.length_append, List.length_cons, List.length_nil] at h1 ⊢
        rw [Nat.mul_add]
        omega
    have h3 := hr r (fun y hy => h y (by simp [hy]))
    rw [List.length_append, List.length_cons, Nat.mul_add]
    omega
/-- A row of words of the call's own. -/
def OwnW (base : Nat) (w : World) (v : Value) (l : List (List UInt8)) : Prop := OwnS base w v (l.map strL)
theorem OwnW.below {base : Nat} {w w' : World} {v : Value} {l : List (List UInt8)} (h : OwnW base w v l) (hb : Below w.heap.size w w') : OwnW base w' v l := own_below h hb
theorem OwnW.form {base : Nat} {w : World} {v : Value} {l : List (List UInt8)} (h : OwnW base w v l) : ∃ A c, v = .slice A (l.map strL).length c := by
  have h' : OwnS base w v (l.map strL) := h
  rcases h'.2 with ⟨rfl, h0⟩ | ⟨g, cap, _, rfl, _⟩
  · exact ⟨none, 0, by rw [h0]⟩
  · exact ⟨_, _, rfl⟩
theorem reads_str2 (w : World) (x y : ByteArray) : Reads (w.alloc (.cells #[.string x, .string y] 9)) (w.heap.size + 1) 1 (some ⟨w.heap.size, 0, none⟩) 2 [.string x, .string y] :=
  ⟨rfl, fun _ => ⟨_, rfl, Nat.lt_succ_self _, fun j v hj => by
    have hb := Blkf.new_at w 9 (0, 0) #[.string x, .string y] rfl
    match j, hj with
    | 0, hj => exact (hb.cell 0).trans hj
    | 1, hj => exact (hb.cell 1).trans hj
    | j + 2, hj => exact absurd hj (by simp)⟩⟩
theorem own_app {base : Nat} {w : World} {v : Value} {l : List (List UInt8)} {a b : List UInt8} (h : w.ownsRow base 9 1 v ((l.map strL).length + 2) ((l.map strL).map Value.string ++ [.string (strL a), .string (strL b)])) : OwnW base w v (l ++ [a, b]) := by
  unfold OwnW OwnS
  rw [List.map_append, List.map_append, List.length_append]
  exact h
theorem wjoin_any (base : Nat) (v : Value) (l : List (List UInt8)) (W : World) (hO : OwnW base W v l) (h : ∀ x ∈ l, x.length ≤ 48) (hl : l.length ≤ 11) (hp : 0 < l.length) :
    Calls Tryd.prog 28 #[v, .string ⟨#[32]⟩] W fun e w' => e = .returned (.string (strL (Lib.join l [32]))) ∧ Below W.heap.size W w' := by
  have hln : (l.map strL).length = l.length := by simp
  have hO' : OwnS base W v (l.map strL) := hO
  rcases hO'.2 with ⟨rfl, h0⟩ | ⟨g, cap, cur, rfl, hb, hh, hc, hm, _, ht⟩
  · omega
  · have hmap : (l.map strL).map (·.data.toList) = l := by simp [strL, Function.comp_def]
    have hlen := join_len l 48 h
    refine (Tryd.strings_Join g 0 cap (l.map strL) ⟨#[32]⟩ W (fun j x hx => ?_) (hO'.lt g rfl).2 (by omega) hc (by rw [hmap]; show (Lib.join l [32]).length ≤ _; omega)).mono fun e w' ⟨h1, h2⟩ => ⟨by rw [h1, hmap]; rfl, h2⟩
    have := World.ownsRow.cells (g := g) hO' rfl j (.string x) (by rw [List.getElem?_map, hx]; rfl)
    rw [Nat.zero_add]
    rw [Addr.add_mid, Nat.zero_add] at this
    exact this
set_option maxRecDepth 100000 in
set_option maxHeartbeats 2000000 in
theorem mtext_any (k p nd h : Int) (s : Nat) (A : Option Addr) (m c : Nat) (W : World) (hs : s < 65536) (hm : m ≤ 100000) (hp : -9223372036854775808 ≤ p ∧ p < 9223372036854775808) (hnd : -9223372036854775808 ≤ nd ∧ nd < 9223372036854775808) (hh : -9223372036854775808 ≤ h ∧ h < 9223372036854775808) (hF : FW W) :
    Calls Tryd.prog 16 #[msV k p nd h s A m c] W fun e w' => e = .returned (.string (strL (textM k p nd h s m))) ∧ Below W.heap.size W w' := by
  obtain ⟨i0, hi0, hz0, hz1, hz2⟩ := info_parts info_str
  have HE : Hid (Below W.heap.size W (W.alloc (.cells #[.int .i64 k, .int .i64 p, .int .i64 nd, .int .i64 h, .int .u16 (s : Int), .slice A m c] 27))) := Lib.hid ((Below.refl _ W).alloc (Nat.le_refl _) _)
  have HX : Hid (Blk (W.alloc (.cells #[.int .i64 k, .int .i64 p, .int .i64 nd, .int .i64 h, .int .u16 (s : Int), .slice A m c] 27)) W.heap.size 27 #[.int .i64 k, .int .i64 p, .int .i64 nd, .int .i64 h, .int .u16 (s : Int), .slice A m c]) := Lib.hid (Blkf.new_at _ _ _ _ rfl)
  have HF := Lib.hid hF
  have HP := Lib.hid hp
  have HND := Lib.hid hnd
  have HH := Lib.hid hh
  have HS := Lib.hid hs
  unfold msV
  clear hF hp hnd hh
  go_enter Tryd.func16, Tryd.ntmps16
  go_wp2_with fail
  obtain ⟨mb, hmb⟩ : ∃ mb, mb = W.heap.size := ⟨_, rfl⟩
  rw [← hmb] at HX ⊢
  clear hmb
  generalize W.alloc (.cells #[.int .i64 k, .int .i64 p, .int .i64 nd, .int .i64 h, .int .u16 (s : Int), .slice A m c] 27) = w0 at *
  have hx := HX.out.drew
  have s0 := fun (W' : World) (h : Ext w0.drew W') => (h.cell (p := ⟨mb, 0, none⟩) hx.lt).trans (hx.cell 0)
  have s1 := fun (W' : World) (h : Ext w0.drew W') => (h.cell (p := ⟨mb, 1, none⟩) hx.lt).trans (hx.cell 1)
  have s2 := fun (W' : World) (h : Ext w0.drew W') => (h.cell (p := ⟨mb, 2, none⟩) hx.lt).trans (hx.cell 2)
  simp only [List.getElem?_toArray, List.getElem?_cons_zero, List.getElem?_cons_succ] at s0 s1 s2
  clear hx
  refine wp_region_plan [(0, false), (1, false), (3, false), (4, false), (6, false), (7, false), (2, true), (5, true), (8, true), (9, true), (10, false)] (by kernel_rfl) (by kernel_rfl) (fun _ d _ _ _ h => by cases d <;> exact h) ?_
  iterate 6 (refine plan_take (v := ?_) rfl (by kernel_rfl) ?_ ?_; rotate_left; (focus (intro w' hw'; try go_simp; try with_reducible rfl)); simp only [Act.put, List.setIfInBounds_toArray, List.set_cons_zero, List.set_cons_succ])
  clear s0 s1 s2
  refine plan_call rfl (by kernel_rfl) (by go_simp; exact ⟨rfl, rfl⟩) ?_
  refine (kind_any k _).mono ?_
  rintro e w' ⟨rfl, rfl⟩
  refine ⟨_, rfl, Ext.refl _, ?_⟩
  simp only [Act.put, List.setIfInBounds_toArray, List.set_cons_zero, List.set_cons_succ]
  refine plan_call rfl (by kernel_rfl) (by go_simp; exact ⟨rfl, rfl⟩) ?_
  have HD := Lib.hid (HE.out.drew)
  refine (itoaA p _ HP.out (HF.out.below HD.out)).mono ?_
  rintro e w1 ⟨rfl, hb1⟩
  refine ⟨_, rfl, hb1, ?_⟩
  simp only [Act.put, List.setIfInBounds_toArray, List.set_cons_zero, List.set_cons_succ]
  have E1 := Lib.hid (HD.out.trans (hb1.mono HD.out.size))
  have X1 := Lib.hid (HX.out.drew.below hb1 HX.out.lt)
  clear hb1 HX HE HD
  refine plan_call rfl (by kernel_rfl) (by go_simp; exact ⟨rfl, rfl⟩) ?_
  refine (itoaA nd _ HND.out (HF.out.below E1.out)).mono ?_
  rintro e w2 ⟨rfl, hb2⟩
  refine ⟨_, rfl, hb2, ?_⟩
  simp only [Act.put, List.setIfInBounds_toArray, List.set_cons_zero, List.set_cons_succ]
  have E2 := Lib.hid (E1.out.trans (hb2.mono E1.out.size))
  have X2 := Lib.hid (X1.out.below hb2 X1.out.lt)
  clear hb2 X1 E1
  generalize hq1 : strL (kL k) = q1
  generalize hq2 : strL (Lib.itoa p) = q2
  generalize hq3 : strL (Lib.itoa nd) = q3
  refine plan_turn rfl (by kernel_rfl) (fun K hK => ?_)
  go_simp
  refine hK _ _ ⟨(Ext.refl w2).alloc (Nat.le_refl _) _, ?_⟩
  clear hK K
  have X3 := Lib.hid (X2.out.alloc (.cells #[.string q1, .string ⟨#[112, 97, 103, 101]⟩, .string q2, .string ⟨#[110, 111, 100, 101]⟩, .string q3] 9))
  have E3 := Lib.hid (E2.out.alloc E2.out.size (.cells #[.string q1, .string ⟨#[112, 97, 103, 101]⟩, .string q2, .string ⟨#[110, 111, 100, 101]⟩, .string q3] 9))
  have O3 : Hid (OwnW W.heap.size (w2.alloc (.cells #[.string q1, .string ⟨#[112, 97, 103, 101]⟩, .string q2, .string ⟨#[110, 111, 100, 101]⟩, .string q3] 9)) (.slice (some ⟨w2.heap.size, 0, none⟩) 5 5) [kL k, wPage, Lib.itoa p, wNode, Lib.itoa nd]) := Lib.hid (by
    subst hq1 hq2 hq3
    exact ⟨rfl, .inr ⟨w2.heap.size, 5, _, rfl, E2.out.size, Blkf.new_at _ _ _ _ rfl, Nat.le_refl _, by unfold maxLen; omega, rfl, rfl⟩⟩)
  clear hq1 hq2 hq3 X2 E2
  generalize w2.alloc (.cells #[.string q1, .string ⟨#[112, 97, 103, 101]⟩, .string q2, .string ⟨#[110, 111, 100, 101]⟩, .string q3] 9) = w3 at *
  generalize w2.heap.size = g3 at *
  iterate 1 (refine plan_take (v := ?_) rfl (by kernel_rfl) ?_ ?_; rotate_left; (focus (intro w' hw'; try go_simp; try with_reducible rfl)); simp only [Act.put, List.setIfInBounds_toArray, List.set_cons_zero, List.set_cons_succ])
  refine plan_end ?_
  have x3 := X3.out.cell 3
  have xl := X3.out.lt
  simp only [List.getElem?_toArray, List.getElem?_cons_zero, List.getElem?_cons_succ] at x3
  go_upto_if 16 with fail
  clear x3 xl
  go_cut [3] from 4 to 44 (fun v wx => OwnW W.heap.size wx v ([kL k, wPage, Lib.itoa p, wNode, Lib.itoa nd] ++ hopsL h) ∧ Below W.heap.size W wx ∧ Blk wx mb 27 #[.int .i64 k, .int .i64 p, .int .i64 nd, .int .i64 h, .int .u16 (s : Int), .slice A m c])
  case first =>
    as_aux_lemma =>
      by_cases hcond : h = 0
      · have c1 : (h == 0) = true := by simpa using hcond
        have HL : Hid ([kL k, wPage, Lib.itoa p, wNode, Lib.itoa nd] ++ hopsL h = [kL k, wPage, Lib.itoa p, wNode, Lib.itoa nd]) := Lib.hid (by rw [show hopsL h = [] from if_pos hcond, List.append_nil])
        clear hcond
        go_wp2_with fail
        go_meet
        case rel => exact ⟨by rw [HL.out]; exact O3.out, E3.out, X3.out⟩
      · have c1 : (h == 0) = false := by simpa using hcond
        have c2 : (h != 0) = true := by simpa using hcond
        have HL : Hid ([kL k, wPage, Lib.itoa p, wNode, Lib.itoa nd] ++ hopsL h = ([kL k, wPage, Lib.itoa p, wNode, Lib.itoa nd]) ++ [wHops, Lib.itoa h]) := Lib.hid (by rw [show hopsL h = [wHops, Lib.itoa h] from if_neg hcond])
        have HLN : Hid ((([kL k, wPage, Lib.itoa p, wNode, Lib.itoa nd]).map strL).length ≤ 9) := Lib.hid (by simp)
        have HFX : Hid (FW w3) := Lib.hid (HF.out.below E3.out)
        have x3 := X3.out.cell 3
        have xl := X3.out.lt
        simp only [List.getElem?_toArray, List.getElem?_cons_zero, List.getElem?_cons_succ] at x3
        clear hcond
        go_wp2_with fail
        refine (itoaA h _ HH.out HFX.out).mono ?_
        rintro e w5 ⟨rfl, hb5⟩
        have O5 := Lib.hid (O3.out.below hb5)
        have E5 := Lib.hid (E3.out.trans (hb5.mono E3.out.size))
        have X5 := Lib.hid (X3.out.below hb5 X3.out.lt)
        clear hb5 x3 xl
        obtain ⟨q, hq⟩ : ∃ q, q = strL (Lib.itoa h) := ⟨_, rfl⟩
        rw [← hq]
        have HQ := Lib.hid hq
        clear hq
        go_wp2_with (at_builtin; (refine wpList_append_any _ rfl (.tmp 17) (.tmp 21) _ rfl W.heap.size 9 i0 _ 1 16 Tryd.underlying45 hi0 hz0 hz1 hz2 rfl (by decide) _ (([kL k, wPage, Lib.itoa p, wNode, Lib.itoa nd]).map strL).length ((([kL k, wPage, Lib.itoa p, wNode, Lib.itoa nd]).map strL).map Value.string) rfl (O5.out.below ((Below.refl _ w5).alloc (Nat.le_refl _) _)) (w5.heap.size + 1) (some ⟨w5.heap.size, 0, none⟩) 2 2 [.string ⟨#[104, 111, 112, 115]⟩, .string q] rfl (reads_str2 w5 _ _) (fun u hu => by simp at hu; rcases hu with rfl | rfl <;> rfl) (by unfold maxLen; have := HLN.out; omega) (by have := HLN.out; omega) (Nat.le_trans E5.out.size (by simp)) ?_; intro v9 w9 hown hgrow hat; have O9 := Lib.hid hown; have E9 := Lib.hid ((E5.out.alloc E5.out.size _).grown hgrow (Nat.le_trans E5.out.size (by simp)) (fun g hg => (O5.out.lt g hg).1)); have X9 := Lib.hid ((X5.out.alloc (.cells #[.string ⟨#[104, 111, 112, 115]⟩, .string q] 9)).grown hgrow (fun e => row_ne_blk O5.out X5.out (by decide) e.symm)); clear hown hgrow hat))
        go_meet
        case rel =>
          refine ⟨?_, E9.out, X9.out⟩
          rw [HL.out]
          have ho := O9.out
          rw [HQ.out] at ho
          exact own_app ho
  case rest =>
  obtain ⟨hO, hE, hX⟩ := hcut
  have O6 := Lib.hid hO
  have E6 := Lib.hid hE
  have X6 := Lib.hid hX
  clear hO hE hX O3 E3 X3
  rename World => w60
  obtain ⟨L6, hL6⟩ : ∃ L, L = ([kL k, wPage, Lib.itoa p, wNode, Lib.itoa nd] ++ hopsL h) := ⟨_, rfl⟩
  rw [← hL6] at O6
  obtain ⟨n6, hn6⟩ : ∃ n, n = (L6.map strL).length := ⟨_, rfl⟩
  obtain ⟨A6, c6, e6⟩ := OwnW.form O6.out
  rw [← hn6] at e6
  subst e6
  have HM6 : Hid (n6 ≤ 9) := Lib.hid (by rw [hn6, hL6, List.length_map]; have := hops_len h; simp; omega)
  have HN6 := Lib.hid hn6
  have HL6 := Lib.hid hL6
  clear hL6 hn6
  have x0 := X6.out.cell 0
  have xl := X6.out.lt
  simp only [List.getElem?_toArray, List.getElem?_cons_zero, List.getElem?_cons_succ] at x0
  go_upto_if 25 with fail
  clear x0 xl
  go_cut [3] from 4 to 44 (fun v wx => OwnW W.heap.size wx v (L6 ++ setL k s) ∧ Below W.heap.size W wx ∧ Blk wx mb 27 #[.int .i64 k, .int .i64 p, .int .i64 nd, .int .i64 h, .int .u16 (s : Int), .slice A m c])
  case first =>
    as_aux_lemma =>
      by_cases hcond : k = 4
      · have c1 : (k == 4) = true := by simpa using hcond
        have HL : Hid (L6 ++ setL k s = (L6) ++ [wSet, txtL s]) := Lib.hid (by rw [show setL k s = [wSet, txtL s] from if_pos hcond])
        have HLN : Hid (n6 ≤ 9) := HM6
        have HFX : Hid (FW w60) := Lib.hid (HF.out.below E6.out)
        have x4 := X6.out.cell 4
        have xl := X6.out.lt
        simp only [List.getElem?_toArray, List.getElem?_cons_zero, List.getElem?_cons_succ] at x4
        clear hcond
        go_wp2_with fail
        refine (text_any s _ HS.out HFX.out.1).mono ?_
        rintro e w5 ⟨rfl, hb5⟩
        have O5 := Lib.hid (O6.out.below hb5)
        have E5 := Lib.hid (E6.out.trans (hb5.mono E6.out.size))
        have X5 := Lib.hid (X6.out.below hb5 X6.out.lt)
        clear hb5 x4 xl
        rw [txtL_eq]
        obtain ⟨q, hq⟩ : ∃ q, q = strL (txtL s) := ⟨_, rfl⟩
        rw [← hq]
        have HQ := Lib.hid hq
        clear hq
        go_wp2_with (at_builtin; (refine wpList_append_any _ rfl (.tmp 26) (.tmp 30) _ rfl W.heap.size 9 i0 _ 1 16 Tryd.underlying45 hi0 hz0 hz1 hz2 rfl (by decide) _ n6 ((L6.map strL).map Value.string) rfl (by have ho := O5.out.below ((Below.refl _ w5).alloc (Nat.le_refl _) (.cells #[.string ⟨#[115, 101, 116]⟩, .string q] 9)); unfold OwnW OwnS at ho; rw [← HN6.out] at ho; exact ho) (w5.heap.size + 1) (some ⟨w5.heap.size, 0, none⟩) 2 2 [.string ⟨#[115, 101, 116]⟩, .string q] rfl (reads_str2 w5 _ _) (fun u hu => by simp at hu; rcases hu with rfl | rfl <;> rfl) (by unfold maxLen; have := HLN.out; omega) (by have := HLN.out; omega) (Nat.le_trans E5.out.size (by simp)) ?_; intro v9 w9 hown hgrow hat; have O9 := Lib.hid hown; have E9 := Lib.hid ((E5.out.alloc E5.out.size _).grown hgrow (Nat.le_trans E5.out.size (by simp)) (fun g hg => (O5.out.lt g hg).1)); have X9 := Lib.hid ((X5.out.alloc (.cells #[.string ⟨#[115, 101, 116]⟩, .string q] 9)).grown hgrow (fun e => row_ne_blk O5.out X5.out (by decide) e.symm)); clear hown hgrow hat))
        go_meet
        case rel =>
          refine ⟨?_, E9.out, X9.out⟩
          rw [HL.out]
          have ho := O9.out
          rw [HQ.out] at ho
          rw [HN6.out] at ho
          exact own_app ho
      · have c1 : (k == 4) = false := by simpa using hcond
        have HL : Hid (L6 ++ setL k s = L6) := Lib.hid (by rw [show setL k s = [] from if_neg hcond, List.append_nil])
        clear hcond
        go_wp2_with fail
        go_meet
        case rel => exact ⟨by rw [HL.out]; exact O6.out, E6.out, X6.out⟩
  case rest =>
  obtain ⟨hO, hE, hX⟩ := hcut
  have O7 := Lib.hid hO
  have E7 := Lib.hid hE
  have X7 := Lib.hid hX
  clear hO hE hX O6 E6 X6
  rename World => w70
  obtain ⟨L7, hL7⟩ : ∃ L, L = (L6 ++ setL k s) := ⟨_, rfl⟩
  rw [← hL7] at O7
  obtain ⟨n7, hn7⟩ : ∃ n, n = (L7.map strL).length := ⟨_, rfl⟩
  obtain ⟨A7, c7, e7⟩ := OwnW.form O7.out
  rw [← hn7] at e7
  subst e7
  have HM7 : Hid (n7 ≤ 9) := Lib.hid (by rw [hn7, hL7, List.length_map]; have h1 := set_len k s; have h2 := HM6.out; rw [HN6.out, List.length_map] at h2; rw [List.length_append]; have h3 : L6.length ≤ 7 := (by rw [HL6.out]; have := hops_len h; simp; omega); omega)
  have HN7 := Lib.hid hn7
  have HL7 := Lib.hid hL7
  clear hL7 hn7
  have x5 := X7.out.cell 5
  have xl := X7.out.lt
  simp only [List.getElem?_toArray, List.getElem?_cons_zero, List.getElem?_cons_succ] at x5
  go_upto_if 35 with fail
  clear x5 xl
  go_cut [3] from 4 to 44 (fun v wx => OwnW W.heap.size wx v (L7 ++ bytL m) ∧ Below W.heap.size W wx ∧ Blk wx mb 27 #[.int .i64 k, .int .i64 p, .int .i64 nd, .int .i64 h, .int .u16 (s : Int), .slice A m c])
  case first =>
    as_aux_lemma =>
      by_cases hcond : m = 0
      · have c2 : ¬ (0 < m) := by omega
        have c3 : decide (0 < m) = false := by simp; omega
        have c4 : ¬ ((0 : Int) < (m : Int)) := by omega
        have HL : Hid (L7 ++ bytL m = L7) := Lib.hid (by rw [show bytL m = [] from if_pos hcond, List.append_nil])
        clear hcond
        go_wp2_with fail
        go_meet
        case rel => exact ⟨by rw [HL.out]; exact O7.out, E7.out, X7.out⟩
      · have c0 : (0 : Int) < (m : Int) := by omega
        have c1 : 0 < m := by omega
        have HL : Hid (L7 ++ bytL m = (L7) ++ [wBytes, Lib.itoa (m : Int)]) := Lib.hid (by rw [show bytL m = [wBytes, Lib.itoa (m : Int)] from if_neg hcond])
        have HLN : Hid (n7 ≤ 9) := HM7
        have HFX : Hid (FW w70) := Lib.hid (HF.out.below E7.out)
        have x5 := X7.out.cell 5
        have xl := X7.out.lt
        simp only [List.getElem?_toArray, List.getElem?_cons_zero, List.getElem?_cons_succ] at x5
        clear hcond
        go_wp2_with fail
        refine (itoaA (m : Int) _ (by omega) HFX.out).mono ?_
        rintro e w5 ⟨rfl, hb5⟩
        have O5 := Lib.hid (O7.out.below hb5)
        have E5 := Lib.hid (E7.out.trans (hb5.mono E7.out.size))
        have X5 := Lib.hid (X7.out.below hb5 X7.out.lt)
        clear hb5 x5 xl
        obtain ⟨q, hq⟩ : ∃ q, q = strL (Lib.itoa (m : Int)) := ⟨_, rfl⟩
        rw [← hq]
        have HQ := Lib.hid hq
        clear hq
        go_wp2_with (at_builtin; (refine wpList_append_any _ rfl (.tmp 36) (.tmp 41) _ rfl W.heap.size 9 i0 _ 1 16 Tryd.underlying45 hi0 hz0 hz1 hz2 rfl (by decide) _ n7 ((L7.map strL).map Value.string) rfl (by have ho := O5.out.below ((Below.refl _ w5).alloc (Nat.le_refl _) (.cells #[.string ⟨#[98, 121, 116, 101, 115]⟩, .string q] 9)); unfold OwnW OwnS at ho; rw [← HN7.out] at ho; exact ho) (w5.heap.size + 1) (some ⟨w5.heap.size, 0, none⟩) 2 2 [.string ⟨#[98, 121, 116, 101, 115]⟩, .string q] rfl (reads_str2 w5 _ _) (fun u hu => by simp at hu; rcases hu with rfl | rfl <;> rfl) (by unfold maxLen; have := HLN.out; omega) (by have := HLN.out; omega) (Nat.le_trans E5.out.size (by simp)) ?_; intro v9 w9 hown hgrow hat; have O9 := Lib.hid hown; have E9 := Lib.hid ((E5.out.alloc E5.out.size _).grown hgrow (Nat.le_trans E5.out.size (by simp)) (fun g hg => (O5.out.lt g hg).1)); have X9 := Lib.hid ((X5.out.alloc (.cells #[.string ⟨#[98, 121, 116, 101, 115]⟩, .string q] 9)).grown hgrow (fun e => row_ne_blk O5.out X5.out (by decide) e.symm)); clear hown hgrow hat))
        go_meet
        case rel =>
          refine ⟨?_, E9.out, X9.out⟩
          rw [HL.out]
          have ho := O9.out
          rw [HQ.out] at ho
          rw [HN7.out] at ho
          exact own_app ho
  case rest =>
  obtain ⟨hO, hE, hX⟩ := hcut
  have O8 := Lib.hid hO
  have E8 := Lib.hid hE
  have X8 := Lib.hid hX
  clear hO hE hX O7 E7 X7
  rename World => w80
  obtain ⟨L8, hL8⟩ : ∃ L, L = (L7 ++ bytL m) := ⟨_, rfl⟩
  rw [← hL8] at O8
  obtain ⟨n8, hn8⟩ : ∃ n, n = (L8.map strL).length := ⟨_, rfl⟩
  obtain ⟨A8, c8, e8⟩ := OwnW.form O8.out
  rw [← hn8] at e8
  subst e8
  have HM8 : Hid (n8 ≤ 11) := Lib.hid (by rw [hn8, hL8, List.length_map]; have h1 := byt_len m; have h2 := HM7.out; rw [HN7.out, List.length_map] at h2; rw [List.length_append]; omega)
  have HN8 := Lib.hid hn8
  have HL8 := Lib.hid hL8
  clear hL8 hn8
  go_wp2_with fail
  have HL : Hid (L8 = partsM k p nd h s m) := Lib.hid (by rw [HL8.out, HL7.out, HL6.out]; rfl)
  have HALL : Hid (∀ x ∈ L8, x.length ≤ 48) := Lib.hid (by
    rw [HL.out]
    exact parts_all k p nd h s m (by omega) HP.out HND.out HH.out)
  have O8n := O8.out
  refine (wjoin_any W.heap.size _ L8 _ O8n HALL.out (by have := HM8.out; rw [HN8.out, List.length_map] at this; exact this) (by rw [HL.out]; simp [partsM])).mono ?_
  rintro e w99 ⟨rfl, hb⟩
  have EZ := Lib.hid (E8.out.trans (hb.mono E8.out.size))
  have HTX : Hid (textM k p nd h s m = Lib.join L8 [32]) := Lib.hid (by rw [HL.out]; rfl)
  obtain ⟨qz, hqz⟩ : ∃ q, q = strL (Lib.join L8 [32]) := ⟨_, rfl⟩
  rw [← hqz]
  have HQZ := Lib.hid hqz
  clear hb O8n hqz
  go_wp2_with fail
  go_ret
  exact ⟨congrArg (fun x => Ending.returned (Value.string x)) (HQZ.out.trans (congrArg strL HTX.out.symm)), EZ.out⟩
end Go.Proofs.YtkkgigdgbiklmaaDoor
