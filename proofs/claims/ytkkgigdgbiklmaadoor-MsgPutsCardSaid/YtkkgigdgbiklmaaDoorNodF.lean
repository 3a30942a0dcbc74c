/- Texts of sets. -/
import Derived.Test.YtkkgigdgbiklmaaDoorNodE
import Derived.Test.YtkkgigdgbiklmaaDoorShelf
namespace Go.Proofs.YtkkgigdgbiklmaaDoor
open Go.RowKit

def strL (l : List UInt8) : ByteArray := ⟨l.toArray⟩
theorem strL_size (l : List UInt8) : (strL l).size = l.length := rfl
theorem strL_add (w : World) (a : List UInt8) (b : ByteArray) (h : a.length + b.size ≤ 9223372036854775807) : (Op.stringOp .add (strL a) b).run Tryd.prog w = .ok (.string (strL (a ++ b.data.toList))) w := by
  rw [run_string_add_sum w _ _ (by rw [strL_size]; exact h)]
  refine congrArg (fun x => Result.ok (Value.string x) w) ?_
  apply ByteArray.ext
  apply Array.toList_inj.1
  rw [ByteArray.data_append, Array.toList_append]
  simp [strL]
theorem OwnI.form {base : Nat} {w : World} {v : Value} {l : List Nat} (h : OwnI base w v l) : ∃ A c, v = .slice A l.length c ∧ RdZ w A (l.map (fun (k : Nat) => (k : Int))) ∧ l.length ≤ 9223372036854775807 := by
  rcases h.2 with ⟨rfl, h0⟩ | ⟨g, cap, cur, rfl, hb, hh, hc, hm, _, ht⟩
  · have hl : l = [] := List.eq_nil_of_length_eq_zero h0
    subst hl
    exact ⟨_, _, rfl, fun k x hx => by simp at hx, by simp⟩
  · refine ⟨_, cap, rfl, fun k x hx => ?_, by unfold maxLen at hm; omega⟩
    rw [List.getElem?_map] at hx
    obtain ⟨y, hy, rfl⟩ := Option.map_eq_some_iff.1 hx
    refine ⟨_, rfl, ?_⟩
    exact World.ownsRow.cells (g := g) h rfl k _ (by unfold iv; rw [List.getElem?_map, hy]; rfl)
/-- The numbers with commas. -/
def txN : List Nat → List UInt8
  | [] => []
  | n :: r => Lib.decDigits n ++ (r.map (fun k => 44 :: Lib.decDigits k)).flatten
theorem txN_snoc (l : List Nat) (n : Nat) : txN (l ++ [n]) = if l = [] then Lib.decDigits n else txN l ++ 44 :: Lib.decDigits n := by
  cases l with
  | nil => simp [txN]
  | cons x r => simp [txN]
theorem txN_join (l : List Nat) : Lib.join (l.map Lib.decDigits) [44] = txN l := by
  cases l with
  | nil => rfl
  | cons x r =>
    rw [List.map_cons, Lib.join_cons]
    unfold Lib.joinTail txN
    rw [List.map_map]
    rfl
theorem dec_lt (n : Nat) (h : n < 16) : Lib.decDigits n = if n < 10 then [UInt8.ofNat (48 + n)] else [49, UInt8.ofNat (48 + n % 10)] := by
  have : ∀ k : Fin 16, Lib.decDigits k.val = if k.val < 10 then [UInt8.ofNat (48 + k.val)] else [49, UInt8.ofNat (48 + k.val % 10)] := by
    intro k
    unfold Lib.decDigits
    by_cases hk : k.val < 10
    · rw [dif_pos hk, if_pos hk]
    · rw [dif_neg hk, if_neg hk]
      unfold Lib.decDigits
      rw [dif_pos (by omega)]
      have : k.val / 10 = 1 := by omega
      rw [this]; rfl
  exact this ⟨n, h⟩
theorem dec_len (n : Nat) (h : n < 16) : (Lib.decDigits n).length ≤ 2 := by
  rw [dec_lt n h]; split <;> simp
theorem list_lt (s : Nat) : ∀ k ∈ listN s, k < 16 := fun k hk => List.mem_range.1 (List.mem_filter.1 hk).1
theorem list_len (s : Nat) : (listN s).length ≤ 16 := low_len s 16
theorem txN_len (l : List Nat) (h : ∀ k ∈ l, k < 16) : (txN l).length ≤ 3 * l.length := by
  cases l with
  | nil => simp [txN]
  | cons x r =>
    have h1 := dec_len x (h x (by simp))
    have h2 : ∀ q : List Nat, (∀ k ∈ q, k < 16) → ((q.map (fun k => 44 :: Lib.decDigits k)).flatten).length ≤ 3 * q.length := by
      intro q
      induction q with
      | nil => simp
      | cons y q ih =>
        intro hq
        have h3 := dec_len y (hq y (by simp))
        have h4 := ih (fun k hk => hq k (by simp [hk]))
        simp only [List.map_cons, List.flatten_cons, List.length_append, List.length_cons] at h4 ⊢
        omega
    have h5 := h2 r (fun k hk => h k (by simp [hk]))
    simp only [txN, List.length_append, List.length_cons] at h5 ⊢
    omega
def digB : ByteArray := ⟨#[48, 49, 50, 51, 52, 53, 54, 55, 56, 57]⟩
theorem dig_at : ∀ d : Fin 10, ((⟨#[48, 49, 50, 51, 52, 53, 54, 55, 56, 57]⟩ : ByteArray).extract d.val (d.val + 1)).data.toList = [UInt8.ofNat (48 + d.val)] := by decide
theorem dig_size : ∀ d : Fin 10, ((⟨#[48, 49, 50, 51, 52, 53, 54, 55, 56, 57]⟩ : ByteArray).extract d.val (d.val + 1)).size = 1 := by decide
def txtB (s : Nat) : ByteArray := if s = 0 then strL [45] else strL (txN (listN s))
theorem list_nil {s : Nat} (hs : s < 65536) (h : listN s = []) : s = 0 := by
  apply set_eq hs (by decide)
  intro k hk
  have := List.filter_eq_nil_iff.1 h k (List.mem_range.2 hk)
  simp at this ⊢
  exact this
theorem txN_nil (l : List Nat) (h : ∀ k ∈ l, k < 16) : txN l = [] ↔ l = [] := by
  constructor
  · intro e
    cases l with
    | nil => rfl
    | cons x r =>
      unfold txN at e
      have := (List.append_eq_nil_iff.1 e).1
      rw [dec_lt x (h x (by simp))] at this
      split at this <;> cases this
  · rintro rfl; rfl
set_option maxHeartbeats 4000000 in
theorem rtext_any (s : Nat) (W : World) (hs : s < 65536) :
    Calls Tryd.prog 30 #[.int .u16 s] W fun e w' => e = .returned (.string (txtB s)) ∧ Below W.heap.size W w' := by
  have HS := Lib.hid hs
  have HTB : Hid (txtB s = if s = 0 then strL [45] else strL (txN (listN s))) := Lib.hid rfl
  have HNI := Lib.hid (fun h => list_nil hs h)
  have HLT := Lib.hid (list_lt s)
  have hle := list_len s
  have HZ : Hid (s = 0 → listN s = []) := Lib.hid (by rintro rfl; decide)
  clear hs
  go_enter Tryd.func30, Tryd.ntmps30
  go_wp2_with fail
  refine (rlist_any s _ HS.out).mono ?_
  rintro e w1 ⟨v, rfl, hO, hB0⟩
  obtain ⟨A, c, rfl, hR, _⟩ := hO.form
  have HR := Lib.hid hR
  have HB := Lib.hid hB0
  generalize listN s = l at *
  obtain ⟨n, hn⟩ : ∃ n, n = l.length := ⟨_, rfl⟩
  rw [← hn] at hle ⊢
  have HN := Lib.hid hn
  clear hR hB0 hO hn
  go_wp2_with fail
  go_loop [3, 4, 5, 9] (fun t _ _ i => ∃ k : Nat, k ≤ n ∧ i = .int .i64 k ∧ t = .string (strL (txN (l.take k)))) (fun _ _ _ i => n - (intOf i).toNat)
  case atStart => exact ⟨0, Nat.zero_le _, rfl, rfl⟩
  case round =>
    obtain ⟨k, hk, rfl, rfl⟩ := hrel
    have htl : (txN (l.take k)).length ≤ 48 := by
      have := txN_len (l.take k) (fun x hx => HLT.out x (List.mem_of_mem_take hx))
      have := List.length_take_le k l
      omega
    by_cases hkm : k < n
    · obtain ⟨x, hx⟩ : ∃ x, l[k]? = some x := ⟨_, List.getElem?_eq_getElem (by rw [← HN.out]; exact hkm)⟩
      have hx16 := HLT.out x (List.mem_of_getElem? hx)
      obtain ⟨x0, rfl, hc⟩ := HR.out k (x : Int) (by rw [List.getElem?_map, hx]; rfl)
      have hsn := txN_snoc (l.take k) x
      have ht : l.take (k + 1) = l.take k ++ [x] := by rw [List.take_add_one, hx]; rfl
      rw [← ht, dec_lt x hx16] at hsn
      have HSN := Lib.hid hsn
      have hnil : l.take k = [] ↔ k = 0 := by
        rw [List.take_eq_nil_iff]
        constructor
        · rintro (h | h)
          · exact h
          · rw [h] at hx; simp at hx
        · exact .inl
      have HNIL := Lib.hid hnil
      have d1 := dig_at ⟨x % 10, Nat.mod_lt _ (by decide)⟩
      have d2 := dig_size ⟨x % 10, Nat.mod_lt _ (by decide)⟩
      have hdg := fun (t : List UInt8) (h : t.length ≤ 100) w => strL_add w t ((⟨#[48, 49, 50, 51, 52, 53, 54, 55, 56, 57]⟩ : ByteArray).extract (x % 10) (x % 10 + 1)) (by have : ((⟨#[48, 49, 50, 51, 52, 53, 54, 55, 56, 57]⟩ : ByteArray).extract (x % 10) (x % 10 + 1)).size = 1 := d2; rw [this]; omega)
      have hc1 := fun (t : List UInt8) (h : t.length ≤ 100) w => strL_add w t ⟨#[44]⟩ (by show t.length + 1 ≤ _; omega)
      have hc2 := fun (t : List UInt8) (h : t.length ≤ 100) w => strL_add w t ⟨#[49]⟩ (by show t.length + 1 ≤ _; omega)
      have d1' : ((⟨#[48, 49, 50, 51, 52, 53, 54, 55, 56, 57]⟩ : ByteArray).extract (x % 10) (x % 10 + 1)).data.toList = [UInt8.ofNat (48 + x % 10)] := d1
      rw [d1'] at hdg
      have hmod : (x : Int).tmod 10 = ((x % 10 : Nat) : Int) := by rw [Int.tmod_eq_emod_of_nonneg (by omega)]; simp
      have hd10 : x % 10 < 10 := Nat.mod_lt _ (by decide)
      generalize hT : txN (l.take k) = T at *
      have HTT := Lib.hid hT
      clear hx d1 d2 d1' hsn ht hnil hT
      by_cases h0 : 0 < k
      · have HNE : Hid (¬ l.take k = []) := Lib.hid (fun h => by have := HNIL.out.1 h; omega)
        by_cases h9 : 9 < x
        · skip
          have g0 : ∀ w, (Op.stringOp .add (strL T) ⟨#[44]⟩).run Tryd.prog w = .ok (.string (strL (T ++ [44]))) w := hc1 T (by omega)
          have g1 : ∀ w, (Op.stringOp .add (strL (T ++ [44])) ⟨#[49]⟩).run Tryd.prog w = .ok (.string (strL ((T ++ [44]) ++ [49]))) w := hc2 (T ++ [44]) (by simp; omega)
          have g2 := hdg ((T ++ [44]) ++ [49]) (by simp; omega)
          have hX : strL (txN (l.take (k + 1))) = strL (((T ++ [44]) ++ [49]) ++ [UInt8.ofNat (48 + x % 10)]) := by rw [HSN.out, if_neg HNE.out, if_neg (show ¬ x < 10 by omega)]; simp
          generalize strL (((T ++ [44]) ++ [49]) ++ [UInt8.ofNat (48 + x % 10)]) = S3 at *
          generalize strL ((T ++ [44]) ++ [49]) = S2 at *
          generalize strL (T ++ [44]) = S1 at *
          generalize strL T = S0 at *
          have HX := Lib.hid hX
          clear hdg hc1 hc2 hX
          go_wp2_with fail
          go_round
          case rel => exact ⟨k + 1, hkm, by go_num, by rw [HX.out]⟩
          case measure => simp [intOf]; omega
        · skip
          have g0 : ∀ w, (Op.stringOp .add (strL T) ⟨#[44]⟩).run Tryd.prog w = .ok (.string (strL (T ++ [44]))) w := hc1 T (by omega)
          have g2 := hdg (T ++ [44]) (by simp; omega)
          have hX : strL (txN (l.take (k + 1))) = strL ((T ++ [44]) ++ [UInt8.ofNat (48 + x % 10)]) := by rw [HSN.out, if_neg HNE.out, if_pos (show x < 10 by omega), show x % 10 = x by omega]; simp
          generalize strL ((T ++ [44]) ++ [UInt8.ofNat (48 + x % 10)]) = S2 at *
          generalize strL (T ++ [44]) = S1 at *
          generalize strL T = S0 at *
          have HX := Lib.hid hX
          clear hdg hc1 hc2 hX
          go_wp2_with fail
          go_round
          case rel => exact ⟨k + 1, hkm, by go_num, by rw [HX.out]⟩
          case measure => simp [intOf]; omega
      · have HNE : Hid (l.take k = []) := Lib.hid (HNIL.out.2 (by omega))
        have HT0 : Hid (T = []) := Lib.hid (by rw [← HTT.out, HNE.out]; rfl)
        by_cases h9 : 9 < x
        · skip
          have g1 : ∀ w, (Op.stringOp .add (strL T) ⟨#[49]⟩).run Tryd.prog w = .ok (.string (strL (T ++ [49]))) w := hc2 T (by omega)
          have g2 := hdg (T ++ [49]) (by simp; omega)
          have hX : strL (txN (l.take (k + 1))) = strL ((T ++ [49]) ++ [UInt8.ofNat (48 + x % 10)]) := by rw [HSN.out, if_pos HNE.out, if_neg (show ¬ x < 10 by omega), HT0.out]; simp
          generalize strL ((T ++ [49]) ++ [UInt8.ofNat (48 + x % 10)]) = S2 at *
          generalize strL (T ++ [49]) = S1 at *
          generalize strL T = S0 at *
          have HX := Lib.hid hX
          clear hdg hc1 hc2 hX
          go_wp2_with fail
          go_round
          case rel => exact ⟨k + 1, hkm, by go_num, by rw [HX.out]⟩
          case measure => simp [intOf]; omega
        · skip
          have g2 := hdg T (by omega)
          have hX : strL (txN (l.take (k + 1))) = strL (T ++ [UInt8.ofNat (48 + x % 10)]) := by rw [HSN.out, if_pos HNE.out, if_pos (show x < 10 by omega), HT0.out, show x % 10 = x by omega]; simp
          generalize strL (T ++ [UInt8.ofNat (48 + x % 10)]) = S1 at *
          generalize strL T = S0 at *
          have HX := Lib.hid hX
          clear hdg hc1 hc2 hX
          go_wp2_with fail
          go_round
          case rel => exact ⟨k + 1, hkm, by go_num, by rw [HX.out]⟩
          case measure => simp [intOf]; omega
    · obtain rfl : n = k := by omega
      have HE : Hid (l.take n = l) := Lib.hid (List.take_of_length_le (Nat.le_of_eq HN.out.symm))
      rw [HE.out]
      by_cases hs0 : s = 0
      · have HL0 := Lib.hid (HZ.out hs0)
        have HS0 := Lib.hid hs0
        have hemp : strL (txN l) = ⟨#[]⟩ := by rw [HL0.out]; rfl
        clear hs0
        rw [hemp]
        clear hemp
        go_wp2_with fail
        go_ret
        exact ⟨by rw [HTB.out, if_pos HS0.out]; rfl, HB.out⟩
      · have HS0 := Lib.hid hs0
        obtain ⟨ch, rs, hcr⟩ : ∃ ch rs, txN l = ch :: rs := by
          cases hx : txN l with
          | nil => exact absurd (HNI.out ((txN_nil l HLT.out).1 hx)) hs0
          | cons ch rs => exact ⟨ch, rs, rfl⟩
        have hne : (strL (txN l)).toList = ch :: rs := by rw [hcr]; exact ByteArray.toList_mk _
        clear hs0 hcr
        generalize hQ : strL (txN l) = Q at *
        have HQ := Lib.hid hQ
        clear hQ
        go_wp2_with fail
        go_ret
        exact ⟨by rw [HTB.out, if_neg HS0.out]; rfl, HB.out⟩
/-- A row of strings of the call's own. -/
def OwnS (base : Nat) (w : World) (v : Value) (l : List ByteArray) : Prop := w.ownsRow base 9 1 v l.length (l.map Value.string)
theorem info_str : (Tryd.prog.info? 9).map (fun i => (i.zero, i.size, i.bytes)) = some (some (.string ⟨#[]⟩), 1, 16) := by kernel_rfl
theorem reads_str (w : World) (x : ByteArray) : Reads (w.alloc (.cells #[.string x] 9)) (w.heap.size + 1) 1 (some ⟨w.heap.size, 0, none⟩) 1 [.string x] :=
  ⟨rfl, fun _ => ⟨_, rfl, Nat.lt_succ_self _, fun j v hj => by
    have hb := Blkf.new_at w 9 (0, 0) #[.string x] rfl
    match j, hj with
    | 0, hj => exact (hb.cell 0).trans hj
    | j + 1, hj => exact absurd hj (by simp)⟩⟩
def digS (l : List Nat) : List ByteArray := l.map (fun k => strL (Lib.decDigits k))
theorem itoa_any (k : Nat) (W : World) (hk : k < 16) :
    Calls Tryd.prog 26 #[.int .i64 k] W fun e w' => e = .returned (.string (strL (Lib.decDigits k))) ∧ W = w' :=
  (Tryd.strconv_Itoa_small k (by omega) W).mono fun e w' ⟨h1, h2⟩ => ⟨h1, h2.symm⟩
theorem sjoin_any (base : Nat) (v : Value) (l : List Nat) (W : World) (hO : OwnS base W v (digS l)) (h : ∀ k ∈ l, k < 16) (hl : l.length ≤ 16) :
    Calls Tryd.prog 28 #[v, .string ⟨#[44]⟩] W fun e w' => e = .returned (.string (strL (txN l))) ∧ Below W.heap.size W w' := by
  have hln : (digS l).length = l.length := by simp [digS]
  rcases hO.2 with ⟨rfl, h0⟩ | ⟨g, cap, cur, rfl, hb, hh, hc, hm, _, ht⟩
  · have : l = [] := List.eq_nil_of_length_eq_zero (by rw [← hln]; exact h0)
    subst this
    exact (Tryd.strings_Join_none none 0 ⟨#[44]⟩ W).mono fun e w' ⟨h1, h2⟩ => ⟨h1, by rw [h2]; exact Below.refl _ _⟩
  · have hmap : (digS l).map (·.data.toList) = l.map Lib.decDigits := by simp [digS, strL]
    have hj : Lib.join ((digS l).map (·.data.toList)) (ByteArray.mk #[44]).data.toList = txN l := by rw [hmap]; exact txN_join l
    have hlen := txN_len l h
    refine (Tryd.strings_Join g 0 cap (digS l) ⟨#[44]⟩ W (fun j x hx => ?_) (hO.lt g rfl).2 (by omega) hc (by rw [hj]; omega)).mono fun e w' ⟨h1, h2⟩ => ⟨by rw [h1, hj]; rfl, h2⟩
    have := World.ownsRow.cells (g := g) hO rfl j (.string x) (by rw [List.getElem?_map, hx]; rfl)
    rw [Nat.zero_add]
    rw [Addr.add_mid, Nat.zero_add] at this
    exact this
set_option maxHeartbeats 4000000 in
theorem text_any (s : Nat) (W : World) (hs : s < 65536) (hT : Tab W) :
    Calls Tryd.prog 27 #[.int .u16 s] W fun e w' => e = .returned (.string (txtB s)) ∧ Below W.heap.size W w' := by
  by_cases h0 : s = 0
  · subst h0
    go_enter Tryd.func27, Tryd.ntmps27
    go_wp2_with fail
    go_ret
    exact ⟨rfl, Below.refl _ _⟩
  · have HS := Lib.hid hs
    have HT := Lib.hid hT
    have hne : ((s : Int) == 0) = false := beq_eq_false_iff_ne.2 (by omega)
    have HTB : Hid (txtB s = strL (txN (listN s))) := Lib.hid (if_neg h0)
    have HLT := Lib.hid (list_lt s)
    have hle := list_len s
    clear hs hT h0
    cases hq : Tryd.prog.info? 9 with
    | none => have := info_str; rw [hq] at this; cases this
    | some i0 =>
    have hin := info_str
    rw [hq] at hin
    simp only [Option.map_some, Option.some.injEq, Prod.mk.injEq] at hin
    obtain ⟨hz0, hz1, hz2⟩ := hin
    have HI := Lib.hid hq
    have HZ0 := Lib.hid hz0
    have HZ1 := Lib.hid hz1
    have HZ2 := Lib.hid hz2
    clear hq hz0 hz1 hz2
    go_enter Tryd.func27, Tryd.ntmps27
    go_wp2_with fail
    refine (list_any s _ HS.out HT.out).mono ?_
    rintro e w1 ⟨v, rfl, hO, hB0⟩
    obtain ⟨A, c, rfl, hR, _⟩ := hO.form
    have HR := Lib.hid hR
    have HB1 := Lib.hid hB0
    generalize listN s = l at *
    obtain ⟨n, hn⟩ : ∃ n, n = l.length := ⟨_, rfl⟩
    rw [← hn] at hle ⊢
    have HN := Lib.hid hn
    clear hR hB0 hO hn
    go_wp2_with fail
    go_loopw [3, 5, 11] (fun u _ i wr => ∃ k : Nat, k ≤ n ∧ i = .int .i64 k ∧ OwnS w1.heap.size wr u (digS (l.take k)) ∧ Below w1.heap.size w1 wr) (fun _ _ i _ => n - (intOf i).toNat)
    case atStart => exact ⟨0, Nat.zero_le _, rfl, World.ownsRow_nil _ _ _ _, Below.refl _ _⟩
    case round =>
      obtain ⟨k, hk, rfl, hO0, hB0⟩ := hrel
      have HO := Lib.hid hO0
      have HB := Lib.hid hB0
      have HRW := Lib.hid (HR.out.below hB0)
      have HLN : Hid ((digS (l.take k)).length ≤ 16) := Lib.hid (by simp [digS]; have := HN.out; omega)
      clear hO0 hB0
      by_cases hkm : k < n
      · obtain ⟨x, hx⟩ : ∃ x, l[k]? = some x := ⟨_, List.getElem?_eq_getElem (by rw [← HN.out]; exact hkm)⟩
        have HX16 := Lib.hid (HLT.out x (List.mem_of_getElem? hx))
        obtain ⟨x0, rfl, hc⟩ := HRW.out k (x : Int) (by rw [List.getElem?_map, hx]; rfl)
        have HTK : Hid (digS (l.take (k + 1)) = digS (l.take k) ++ [strL (Lib.decDigits x)]) := Lib.hid (by rw [List.take_add_one, hx]; simp [digS])
        clear hx
        go_wp2_with fail
        refine (itoa_any x _ HX16.out).mono ?_
        rintro e w2 ⟨rfl, rfl⟩
        generalize strL (Lib.decDigits x) = q at *
        go_wp2_with (at_builtin; (refine wpList_append_any _ rfl (.tmp 15) (.tmp 18) _ rfl w1.heap.size 9 i0 _ 1 16 Tryd.underlying45 HI.out HZ0.out HZ1.out HZ2.out rfl (by decide) _ (digS (l.take k)).length ((digS (l.take k)).map Value.string) rfl (HO.out.alloc _) (wr.heap.size + 1) (some ⟨wr.heap.size, 0, none⟩) 1 1 [.string q] rfl (reads_str wr q) (fun u hu => by rcases List.mem_singleton.1 hu with rfl; rfl) (by unfold maxLen; have := HLN.out; omega) (by have := HLN.out; omega) (Nat.le_trans HB.out.size (by simp)) ?_; intro v2 w2 hown hgrow hat; have HO5 := Lib.hid hown; have HE5 := Lib.hid ((HB.out.alloc HB.out.size _).grown hgrow (Nat.le_trans HB.out.size (by simp)) (fun g hg => (HO.out.lt g hg).1)); clear hown hgrow hat))
        refine ⟨⟨k + 1, hkm, by go_num, ?_, HE5.out⟩, by simp [intOf]; omega⟩
        have h := HO5.out
        unfold OwnS
        rw [HTK.out, List.length_append, List.map_append]
        exact h
      · obtain rfl : n = k := by omega
        have HE : Hid (l.take n = l) := Lib.hid (List.take_of_length_le (Nat.le_of_eq HN.out.symm))
        rw [HE.out] at HO
        go_wp2_with fail
        refine (sjoin_any w1.heap.size _ l _ HO.out HLT.out (by rw [← HN.out]; exact hle)).mono ?_
        rintro e w2 ⟨rfl, hb⟩
        go_wp2_with fail
        go_ret
        exact ⟨by rw [HTB.out]; rfl, (HB1.out.trans (HB.out.mono HB1.out.size)).trans (hb.mono (Nat.le_trans HB1.out.size HB.out.size))⟩
end Go.Proofs.YtkkgigdgbiklmaaDoor
