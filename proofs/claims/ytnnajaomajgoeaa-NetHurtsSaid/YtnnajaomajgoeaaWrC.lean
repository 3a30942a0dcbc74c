/- Merged texts: WireL, WireM, WireN, WireP, WireS. -/
import Derived.Test.YtnnajaomajgoeaaWrB
import Derived.Test.YtnnajaomajgoeaaStr
import Derived.Lib.SlBytesConst
/- Frames and their bytes: plain laws. -/
namespace Go.Proofs.Ytnnajaomajgoeaa
open Go.RowKit

theorem byte_leNat : ∀ (l : List Nat) (i : Nat), (∀ i : Nat, l.getD i 0 < 256) → byteOf (leNat l) i = l.getD i 0
  | [], i, _ => by simp [leNat, byteOf]
  | b :: r, 0, h => by
    have h0 : b < 256 := h 0
    show (b + 256 * leNat r) / 256 ^ 0 % 256 = b
    rw [Nat.pow_zero, Nat.div_one]
    omega
  | b :: r, i + 1, h => by
    have h0 : b < 256 := h 0
    have := byte_leNat r i (fun j => h (j + 1))
    show (b + 256 * leNat r) / 256 ^ (i + 1) % 256 = r.getD i 0
    rw [← this, Nat.pow_succ, Nat.mul_comm (256 ^ i) 256, ← Nat.div_div_eq_div_mul, show (b + 256 * leNat r) / 256 = leNat r by omega]
    rfl
theorem bytes_leNat (l : List Nat) (q : Nat) (hq : sizeB q = true) (hl : l.length = q) (h : ∀ i : Nat, l.getD i 0 < 256) : bytesOf (leNat l) q = l := by
  apply List.ext_getElem
  · rw [bytesOf_length _ _ hq, hl]
  · intro i h1 h2
    have e1 := bytesOf_get (leNat l) q i hq (by omega)
    rw [byte_leNat l i h] at e1
    rw [List.getD_eq_getElem?_getD, List.getElem?_eq_getElem h1, List.getD_eq_getElem?_getD, List.getElem?_eq_getElem h2] at e1
    exact e1
theorem leNat_bytes2 (v : Nat) (hv : v < 65536) : leNat (bytesOf v 2) = v := by
  have h1 : byteOf v 0 = v % 256 := by simp [byteOf]
  have h2 : byteOf v 1 = v / 256 := by simp [byteOf]; omega
  simp [bytesOf, sizeB, List.range, List.range.loop, h1, h2, leNat]
  omega
theorem split5 (B : List Nat) (h : 23 ≤ B.length) : B = B.take 5 ++ ((B.drop 5).take 8 ++ ((B.drop 13).take 8 ++ ((B.drop 21).take 2 ++ B.drop 23))) := by
  have e1 : B.drop 21 = (B.drop 21).take 2 ++ B.drop 23 := by
    conv => lhs; rw [← List.take_append_drop 2 (B.drop 21), List.drop_drop]
  have e2 : B.drop 13 = (B.drop 13).take 8 ++ B.drop 21 := by
    conv => lhs; rw [← List.take_append_drop 8 (B.drop 13), List.drop_drop]
  have e3 : B.drop 5 = (B.drop 5).take 8 ++ B.drop 13 := by
    conv => lhs; rw [← List.take_append_drop 8 (B.drop 5), List.drop_drop]
  rw [← e1, ← e2, ← e3, List.take_append_drop]
theorem take5 (B : List Nat) (h : 23 ≤ B.length) : B.take 5 = [B.getD 0 0, B.getD 1 0, B.getD 2 0, B.getD 3 0, B.getD 4 0] := by
  match B, h with
  | a :: b :: c :: d :: e :: r, _ => rfl
theorem plain_form (f t : Nat) (b : Bool) (s a : Nat) (D : List Nat) : plainL f t b s a D = headL f t b ++ (bytesOf s 8 ++ (bytesOf a 8 ++ (bytesOf D.length 2 ++ D))) := by simp [plainL]
theorem bN_eq (x : Nat) : bN (x == 1) = x ↔ x ≤ 1 := by
  unfold bN
  by_cases h : x = 1
  · subst h; simp
  · rw [beq_eq_false_iff_ne.2 h]
    simp
    omega
theorem plain_eq (B : List Nat) (h : 23 ≤ B.length) (hb : ∀ i : Nat, B.getD i 0 < 256) (hn : B.length ≤ 10000) :
    plainL (fF B) (fT B) (fB B) (fS B) (fA B) (B.drop 23) = B ↔ (B.getD 0 0 = 82 ∧ B.getD 1 0 = 82 ∧ B.getD 2 0 ≤ 1 ∧ fZ B = B.length - 23) := by
  have hS : bytesOf (fS B) 8 = (B.drop 5).take 8 := bytes_leNat _ 8 (by decide) (by rw [List.length_take, List.length_drop]; omega) (fun i => getD_take_lt _ _ _ (fun i => getD_drop_lt B 5 hb i))
  have hA : bytesOf (fA B) 8 = (B.drop 13).take 8 := bytes_leNat _ 8 (by decide) (by rw [List.length_take, List.length_drop]; omega) (fun i => getD_take_lt _ _ _ (fun i => getD_drop_lt B 13 hb i))
  have hZ : bytesOf (fZ B) 2 = (B.drop 21).take 2 := bytes_leNat _ 2 (by decide) (by rw [List.length_take, List.length_drop]; omega) (fun i => getD_take_lt _ _ _ (fun i => getD_drop_lt B 21 hb i))
  have hl : (B.drop 23).length = B.length - 23 := List.length_drop
  have hZb : fZ B < 65536 := field_lt B 21 2 hb
  rw [plain_form, hS, hA, hl]
  constructor
  · intro e
    rw [split5 B h] at e
    have e' : headL (fF B) (fT B) (fB B) ++ ((B.drop 5).take 8 ++ ((B.drop 13).take 8 ++ (bytesOf (B.length - 23) 2 ++ B.drop 23))) = B.take 5 ++ ((B.drop 5).take 8 ++ ((B.drop 13).take 8 ++ ((B.drop 21).take 2 ++ B.drop 23))) := by
      rw [← split5 B h] at e
      rw [← split5 B h]
      exact e
    obtain ⟨h1, h2⟩ := List.append_inj e' (by simp [headL]; omega)
    have h3 := List.append_cancel_left (List.append_cancel_left h2)
    have h4 := List.append_cancel_right h3
    rw [take5 B h] at h1
    unfold headL at h1
    injection h1 with a0 h1
    injection h1 with a1 h1
    injection h1 with a2 h1
    refine ⟨a0.symm, a1.symm, (bN_eq _).1 a2, ?_⟩
    rw [← hZ] at h4
    have := congrArg leNat h4
    rw [leNat_bytes2 _ (by omega), leNat_bytes2 _ hZb] at this
    exact this.symm
  · rintro ⟨h0, h1, h2, h3⟩
    rw [← h3, hZ]
    conv => rhs; rw [split5 B h]
    congr 1
    rw [take5 B h, h0, h1]
    unfold headL
    rw [show bN (fB B) = B.getD 2 0 from (bN_eq _).2 h2]
    rfl
/-- The reference's condition is the program's. -/
theorem frame_ref (B : List Nat) (h : 23 ≤ B.length) (hb : ∀ i : Nat, B.getD i 0 < 256) (hn : B.length ≤ 10000) :
    (headOK B && bodyOK B) = (rightF (fF B) (fT B) (fB B) (fS B) (B.length - 23) && decide (plainL (fF B) (fT B) (fB B) (fS B) (fA B) (B.drop 23) = B)) := by
  have := plain_eq B h hb hn
  rw [Bool.eq_iff_iff]
  simp only [headOK, bodyOK, Bool.and_eq_true, decide_eq_true_eq, beq_iff_eq]
  rw [this]
  constructor
  · rintro ⟨⟨⟨⟨_, a⟩, b⟩, c⟩, d, e⟩
    exact ⟨e, a, b, c, d⟩
  · rintro ⟨e, a, b, c, d⟩
    exact ⟨⟨⟨⟨h, a⟩, b⟩, c⟩, d, e⟩
end Go.Proofs.Ytnnajaomajgoeaa

/- The reference's Put and Get. -/
namespace Go.Proofs.Ytnnajaomajgoeaa
open Go.RowKit

/-- What the reference's Get answers. -/
def RGet (l : List Nat) (W : World) (e : Ending) (w' : World) : Prop :=
  Below W.heap.size W w' ∧ if frameB l then ∃ A' c', e = .returned (.tuple #[frV (fF (l.take (l.length - 4))) (fT (l.take (l.length - 4))) (fB (l.take (l.length - 4))) (fS (l.take (l.length - 4))) (fA (l.take (l.length - 4))) A' ((l.take (l.length - 4)).length - 23) c', .bool true]) ∧ Bts w' A' ((l.take (l.length - 4)).drop 23)
  else e = .returned (.tuple #[noneV, .bool false])
end Go.Proofs.Ytnnajaomajgoeaa

/- The reference's Get of an opened text. -/
namespace Go.Proofs.Ytnnajaomajgoeaa
open Go.RowKit

theorem bts_far {w : World} {A : Option Addr} {g i : Nat} {l : List Nat} {v : Value} (h : Bts w A l) (hk : ∀ q, A = some q → q.block ≠ g) : Bts (w.setCell ⟨g, i, none⟩ v) A l := by
  refine ⟨h.1, fun hl => ?_⟩
  obtain ⟨b, o, rfl, hc⟩ := h.2 hl
  have hb : b ≠ g := hk _ rfl
  refine ⟨b, o, rfl, fun j hj => ?_⟩
  rw [World.cell?_setCell_other _ _ _ _ (by intro e; injection e with e1 _; exact hb e1.symm)]
  exact hc j hj
theorem right_le {f t : Nat} {b : Bool} {s n : Nat} (h : rightF f t b s n = true) : f ≤ 15 ∧ t ≤ 15 ∧ n ≤ 4120 := by
  unfold rightF nodeB at h
  simp only [Bool.and_eq_true, decide_eq_true_eq] at h
  obtain ⟨⟨⟨h1, h2⟩, h3⟩, h4⟩ := h
  refine ⟨by omega, by omega, ?_⟩
  cases b with
  | true => simp at h4; exact h4.2
  | false => simp at h4; omega
end Go.Proofs.Ytnnajaomajgoeaa

/- A frame's bytes are a frame; the first look. -/
namespace Go.Proofs.Ytnnajaomajgoeaa
open Go.RowKit

theorem byteOf_zero (v : Nat) : byteOf v 0 = v % 256 := by simp [byteOf]
theorem leNat_range : ∀ (q v : Nat), leNat ((List.range q).map (byteOf v)) = v % 256 ^ q
  | 0, v => by simp [leNat, Nat.mod_one]
  | q + 1, v => by
    rw [List.range_succ_eq_map, List.map_cons, List.map_map]
    have e : (List.range q).map (byteOf v ∘ Nat.succ) = (List.range q).map (byteOf (v / 256)) := by
      apply List.map_congr_left
      intro i _
      show v / 256 ^ (i + 1) % 256 = v / 256 / 256 ^ i % 256
      rw [Nat.pow_succ, Nat.mul_comm, Nat.div_div_eq_div_mul]
    rw [e]
    show byteOf v 0 + 256 * leNat _ = _
    rw [leNat_range q (v / 256), byteOf_zero, Nat.pow_succ, Nat.mul_comm (256 ^ q) 256, Nat.mod_mul]
theorem leNat_bytes (v q : Nat) (hq : sizeB q = true) (hv : v < 256 ^ q) : leNat (bytesOf v q) = v := by
  unfold bytesOf
  rw [hq, if_pos rfl]
  have : ((q : Int)).toNat = q := rfl
  rw [this, leNat_range, Nat.mod_eq_of_lt hv]
theorem plain_fields (f t : Nat) (b : Bool) (s a : Nat) (D : List Nat) (hs : s < 18446744073709551616) (ha : a < 18446744073709551616) (hn : D.length ≤ 5000) :
    headOK (plainL f t b s a D) = true ∧ fF (plainL f t b s a D) = f ∧ fT (plainL f t b s a D) = t ∧ fB (plainL f t b s a D) = b ∧ fS (plainL f t b s a D) = s ∧ fA (plainL f t b s a D) = a ∧ fZ (plainL f t b s a D) = D.length ∧ (plainL f t b s a D).drop 23 = D ∧ (plainL f t b s a D).length = 23 + D.length := by
  have hlen : (plainL f t b s a D).length = 23 + D.length := by
    rw [plain_form]
    simp [headL, e8, e2]
    omega
  have h5 : (plainL f t b s a D).drop 5 = bytesOf s 8 ++ (bytesOf a 8 ++ (bytesOf D.length 2 ++ D)) := by rw [plain_form]; rfl
  have h13 : (plainL f t b s a D).drop 13 = bytesOf a 8 ++ (bytesOf D.length 2 ++ D) := by
    rw [show (13 : Nat) = 5 + 8 from rfl, ← List.drop_drop, h5, List.drop_left' (e8 s)]
  have h21 : (plainL f t b s a D).drop 21 = bytesOf D.length 2 ++ D := by
    rw [show (21 : Nat) = 13 + 8 from rfl, ← List.drop_drop, h13, List.drop_left' (e8 a)]
  have h23 : (plainL f t b s a D).drop 23 = D := by
    rw [show (23 : Nat) = 21 + 2 from rfl, ← List.drop_drop, h21, List.drop_left' (e2 _)]
  have hb : bN b ≤ 1 := by cases b <;> decide
  refine ⟨?_, ?_, ?_, ?_, ?_, ?_, ?_, h23, hlen⟩
  · unfold headOK
    rw [hlen, plain_form]
    simp [headL, hb]
  · unfold fF; rw [plain_form]; rfl
  · unfold fT; rw [plain_form]; rfl
  · unfold fB; rw [plain_form]
    show (bN b == 1) = b
    cases b <;> rfl
  · unfold fS; rw [h5, List.take_left' (e8 s)]; exact leNat_bytes s 8 (by decide) (by omega)
  · unfold fA; rw [h13, List.take_left' (e8 a)]; exact leNat_bytes a 8 (by decide) (by omega)
  · unfold fZ; rw [h21, List.take_left' (e2 _)]; exact leNat_bytes2 _ (by omega)
theorem frame_sealed (f t : Nat) (b : Bool) (s a : Nat) (D : List Nat) (hf : f ≤ 15) (ht : t ≤ 15) (hs : s < 18446744073709551616) (ha : a < 18446744073709551616) (hn : D.length ≤ 5000) (hD : ∀ i : Nat, D.getD i 0 < 256) (hr : rightF f t b s D.length = true) :
    frameB (plainL f t b s a D ++ bytesOf (sumV (plainL f t b s a D)) 4) = true := by
  obtain ⟨h1, h2, h3, h4, h5, h6, h7, h8, h9⟩ := plain_fields f t b s a D hs ha hn
  unfold frameB
  rw [sealed_take, sealed_open _ (plain_lt f t s a D b hf ht hD), h1]
  unfold bodyOK
  rw [h2, h3, h4, h5, h7, h9, show 23 + D.length - 23 = D.length by omega, hr]
  simp
/-- Get of a frame's bytes. -/
theorem wget_yes (f t : Nat) (b : Bool) (s a : Nat) (D : List Nat) (A : Option Addr) (l : List Nat) (n c : Nat) (W : World) (hl : l.length = n) (hc : n ≤ c) (hB : Bts W A l) (hL : l = plainL f t b s a D ++ bytesOf (sumV (plainL f t b s a D)) 4)
    (hf : f ≤ 15) (ht : t ≤ 15) (hs : s < 18446744073709551616) (ha : a < 18446744073709551616) (hn : D.length ≤ 5000) (hD : ∀ i : Nat, D.getD i 0 < 256) (hr : rightF f t b s D.length = true) :
    Calls Try.prog 23 #[.slice A n c] W fun e w' => ∃ A' c', e = .returned (.tuple #[frV f t b s a A' D.length c', .bool true]) ∧ Bts w' A' D ∧ Below W.heap.size W w' := by
  obtain ⟨h1, h2, h3, h4, h5, h6, h7, h8, h9⟩ := plain_fields f t b s a D hs ha hn
  have hln : n ≤ 1000000 := by rw [← hl, hL, List.length_append, h9, bytes4]; omega
  refine (wget_any A l n c W hl hln hc hB).mono ?_
  intro e w' h
  unfold GetAny at h
  rw [show frameB l = true by rw [hL]; exact frame_sealed f t b s a D hf ht hs ha hn hD hr, if_pos rfl] at h
  obtain ⟨hb, A', c', he, hd⟩ := h
  rw [show l.take (l.length - 4) = plainL f t b s a D by rw [hL]; exact sealed_take _] at he hd
  rw [h2, h3, h4, h5, h6, h9, show 23 + D.length - 23 = D.length by omega] at he
  rw [h8] at hd
  exact ⟨A', c', he, hd, hb⟩
theorem first_text : ∃ L : List Nat, L = plainL 1 2 true 9 3 [97, 98] ++ bytesOf (sumV (plainL 1 2 true 9 3 [97, 98])) 4 ∧ L.length = 29 ∧ L.take 6 = [82, 82, 1, 1, 2, 9] ∧ ∀ i : Nat, L.getD i 0 < 256 :=
  ⟨_, rfl, by decide +kernel, by decide +kernel, append_lt (plain_lt 1 2 9 3 [97, 98] true (by decide) (by decide) (bytes_lt (by decide))) (bytesOf_lt _ _)⟩
end Go.Proofs.Ytnnajaomajgoeaa

/- The law WireHurts. -/
namespace Go.Proofs.Ytnnajaomajgoeaa
open Go.RowKit

theorem frame_short (X : List Nat) (h : X.length < 27) : frameB X = false := by
  unfold frameB headOK
  rw [decide_eq_false (by rw [List.length_take]; omega)]
  simp
theorem frame_len (X : List Nat) (d : Nat) (h : 27 ≤ X.length) (hz : leNat ((X.drop 21).take 2) = d) (hne : X.length ≠ 27 + d) : frameB X = false := by
  have e1 : fZ (X.take (X.length - 4)) = d := by
    unfold fZ
    rw [List.drop_take, List.take_take, Nat.min_eq_left (by omega)]
    exact hz
  unfold frameB bodyOK
  rw [e1, beq_eq_false_iff_ne.2 (by rw [List.length_take]; omega)]
  simp
theorem sealed_size (f t : Nat) (b : Bool) (s a : Nat) (D : List Nat) (hn : D.length ≤ 5000) :
    (((plainL f t b s a D ++ bytesOf (sumV (plainL f t b s a D)) 4).drop 21).take 2) = bytesOf D.length 2 := by
  have h21 : (plainL f t b s a D ++ bytesOf (sumV (plainL f t b s a D)) 4).drop 21 = bytesOf D.length 2 ++ (D ++ bytesOf (sumV (plainL f t b s a D)) 4) := by
    generalize bytesOf (sumV (plainL f t b s a D)) 4 = Z
    rw [plain_form]
    have e : headL f t b ++ (bytesOf s 8 ++ (bytesOf a 8 ++ (bytesOf D.length 2 ++ D))) ++ Z = (headL f t b ++ (bytesOf s 8 ++ bytesOf a 8)) ++ (bytesOf D.length 2 ++ (D ++ Z)) := by simp
    rw [e, List.drop_left' (by simp [headL, e8])]
  rw [h21, List.take_left' (e2 _)]
theorem cut_none (L : List Nat) (d nn : Nat) (hL : L.length = 27 + d) (hz : leNat ((L.drop 21).take 2) = d) (hn : nn < L.length) : frameB (L.take nn) = false := by
  rcases Nat.lt_or_ge nn 27 with h | h
  · exact frame_short _ (by rw [List.length_take]; omega)
  · refine frame_len _ d (by rw [List.length_take]; omega) ?_ (by rw [List.length_take]; omega)
    rw [List.drop_take, List.take_take, Nat.min_eq_left (by omega)]
    exact hz
theorem more_none (L : List Nat) (d nn : Nat) (hL : L.length = 27 + d) (hz : leNat ((L.drop 21).take 2) = d) (hn : nn < L.length) (h0 : 0 < nn) : frameB (L ++ L.take nn) = false := by
  refine frame_len _ d (by rw [List.length_append]; omega) ?_ (by rw [List.length_append, List.length_take]; omega)
  rw [List.drop_append_of_le_length (by omega), List.take_append_of_le_length (by rw [List.length_drop]; omega)]
  exact hz
theorem bts_turned {w w' : World} {A : Option Addr} {l : List Nat} {g : Nat} (h : Bts w A l) (hG : Blk w g 59 #[.int .i64 0, .int .i64 0, .bool false, .int .u64 0, .int .u64 0, .slice none 0 0]) (hk : Keeps (fun x => x = g) w w') : Bts w' A l := by
  refine ⟨h.1, fun hl => ?_⟩
  obtain ⟨b, o, rfl, hc⟩ := h.2 hl
  refine ⟨b, o, rfl, fun i hi => ?_⟩
  refine keeps_cell hk (hc i hi) ?_
  intro hb
  have hb' : b = g := hb
  subst hb'
  have h1 := hc i hi
  rw [hG.cell (o + i)] at h1
  rcases (show o + i = 0 ∨ o + i = 1 ∨ o + i = 2 ∨ o + i = 3 ∨ o + i = 4 ∨ o + i = 5 ∨ 6 ≤ o + i by omega) with e | e | e | e | e | e | e
  · rw [e] at h1; simp at h1
  · rw [e] at h1; simp at h1
  · rw [e] at h1; simp at h1
  · rw [e] at h1; simp at h1
  · rw [e] at h1; simp at h1
  · rw [e] at h1; simp at h1
  · rw [Array.getElem?_eq_none (by simpa using e)] at h1; cases h1
/-- Get: some fields, and whether they are a frame's. -/
theorem wget_sym (A : Option Addr) (l : List Nat) (n c : Nat) (W : World) (hl : l.length = n) (hn : n ≤ 1000000) (hc : n ≤ c) (hB : Bts W A l) :
    Calls Try.prog 23 #[.slice A n c] W fun e w' => (∃ (f t : Int) (b : Bool) (s a : Nat) (A' : Option Addr) (n' c' : Nat), e = .returned (.tuple #[frV f t b s a A' n' c', .bool (frameB l)])) ∧ Below W.heap.size W w' := by
  refine (wget_any A l n c W hl hn hc hB).mono ?_
  intro e w' h
  unfold GetAny at h
  obtain ⟨hb, h⟩ := h
  refine ⟨?_, hb⟩
  cases hf : frameB l with
  | true =>
    rw [hf, if_pos rfl] at h
    obtain ⟨A', c', he, -⟩ := h
    exact ⟨_, _, _, _, _, _, _, _, he⟩
  | false =>
    rw [hf, if_neg (by decide)] at h
    exact ⟨0, 0, false, 0, 0, none, 0, 0, h⟩
def xs8 (a b c d e f g h : Value) : Nat → Value := fun i => match i with
  | 0 => a
  | 2 => b
  | 6 => c
  | 7 => d
  | 8 => e
  | 9 => f
  | 10 => g
  | _ => h
namespace Law
end Law
end Go.Proofs.Ytnnajaomajgoeaa
