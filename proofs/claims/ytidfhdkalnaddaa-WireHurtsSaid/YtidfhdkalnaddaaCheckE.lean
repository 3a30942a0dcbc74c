/- Contracts: the reference's Tail, Open. -/
import Derived.Test.YtidfhdkalnaddaaCheckD
import Derived.Laws.OwnMore
namespace Go.Proofs.Ytidfhdkalnaddaa
open Go.RowKit

theorem tail_byte (v j : Nat) : v / 256 ^ j % 256 = byteOf v j := rfl
theorem bytes4_take (v j : Nat) (hj : j < 4) : (bytesOf v 4).take (j + 1) = (bytesOf v 4).take j ++ [byteOf v j] := by
  rw [List.take_succ_eq_append_getElem (by rw [bytes4]; exact hj)]
  have := bytesOf_get v 4 j rfl hj
  rw [show ((4 : Nat) : Int) = 4 from rfl] at this
  rw [List.getD_eq_getElem?_getD, List.getElem?_eq_getElem (by rw [bytes4]; exact hj)] at this
  simp at this
  rw [this]
theorem tail_any (v : Nat) (W : World) (hv : v < 4294967296) :
    Calls Try.prog 23 #[.int .u32 (v : Int)] W (RetOwn (bytesOf v 4) W) := by
  obtain ⟨i0, hi0, hz0, hz1, hz2⟩ := info_parts info5
  have HV := Lib.hid hv
  clear hv
  go_enter Try.func23, Try.ntmps23
  go_wp2
  go_loopw [0, 3, 4] (fun x b i wr => ∃ j : Nat, j ≤ 4 ∧ i = .int .i64 j ∧ x = .int .u32 ((v / 256 ^ j : Nat) : Int) ∧ wr.ownsRow W.heap.size 5 1 b j (((bytesOf v 4).take j).map bv) ∧ Below W.heap.size W wr) (fun _ _ i _ => (4 - (intOf i)).toNat)
  case atStart => exact ⟨0, by omega, rfl, by simp, World.ownsRow_nil _ _ _ _, Below.refl _ _⟩
  case round =>
    obtain ⟨j, hj, rfl, rfl, hown, hb⟩ := hrel
    have HO := Lib.hid hown
    have HB := Lib.hid hb
    clear hown
    by_cases h0 : j < 4
    · have hx : v / 256 ^ j < 4294967296 := Nat.lt_of_le_of_lt (Nat.div_le_self _ _) HV.out
      have HN : Hid (v / 256 ^ (j + 1) = v / 256 ^ j / 256) := Lib.hid (by rw [Nat.pow_succ, ← Nat.div_div_eq_div_mul])
      have HT := Lib.hid (bytes4_take v j h0)
      have HY := Lib.hid (tail_byte v j)
      have hz := hb.size
      clear hb
      generalize v / 256 ^ j = x at hx HN HY ⊢
      go_wp2_with (at_builtin; refine wpList_append_own _ rfl (.tmp 9) (.tmp 13) _ rfl W.heap.size 5 i0 _ 1 1 Try.underlying23 hi0 hz0 hz1 hz2 rfl (by decide) _ j _ rfl (HO.out.alloc _) ⟨wr.heap.size, 0, none⟩ 1 1 [.int .u8 ((x : Int) % 256)] rfl rfl (cell_one_new _ _ _) (one_u8 _) (by unfold maxLen; omega) (by omega) (Nat.le_trans hz (by simp)) ?_; intro v' w' hown' hgrow _; have HO2 := Lib.hid hown'; have HG2 := Lib.hid hgrow; clear hown' hgrow)
      go_roundw
      case rel =>
        refine ⟨j + 1, by omega, by go_num, by rw [HN.out]; rfl, ?_, below_grown (HO.out.alloc _) (HB.out.alloc hz _) HG2.out (Nat.le_trans hz (by simp))⟩
        rw [HT.out, ← HY.out]
        have ho := HO2.out
        simpa [bv] using ho
      case measure => simp [intOf]; omega
    · obtain rfl : j = 4 := by omega
      go_wp2
      go_ret
      refine ⟨_, rfl, ?_, HB.out⟩
      have ho := HO.out
      rw [List.take_of_length_le (by rw [bytes4]; exact Nat.le_refl _)] at ho
      rw [bytes4]
      exact ho

theorem leNat_bytes4 (v : Nat) (hv : v < 4294967296) : leNat (bytesOf v 4) = v := by
  have : bytesOf v 4 = [v / 256 ^ 0 % 256, v / 256 ^ 1 % 256, v / 256 ^ 2 % 256, v / 256 ^ 3 % 256] := rfl
  rw [this]
  simp only [leNat, Nat.reducePow]
  omega
theorem le4_inj (q : List Nat) (v : Nat) (hq : q.length = 4) (hb : ∀ i : Nat, q.getD i 0 < 256) (h : leNat q = v) : q = bytesOf v 4 := by
  subst h
  match q, hq with
  | [a, b, c, d], _ =>
    have h0 : a < 256 := hb 0
    have h1 : b < 256 := hb 1
    have h2 : c < 256 := hb 2
    have h3 : d < 256 := hb 3
    have : bytesOf (leNat [a, b, c, d]) 4 = [leNat [a, b, c, d] / 256 ^ 0 % 256, leNat [a, b, c, d] / 256 ^ 1 % 256, leNat [a, b, c, d] / 256 ^ 2 % 256, leNat [a, b, c, d] / 256 ^ 3 % 256] := rfl
    rw [this]
    simp only [leNat, Nat.reducePow]
    congr 1
    · omega
    congr 1
    · omega
    congr 1
    · omega
    congr 1
    omega
theorem openB_eq (l : List Nat) (hb : ∀ i : Nat, l.getD i 0 < 256) (h4 : 4 ≤ l.length) : openB l = decide (bytesOf (sumV (l.take (l.length - 4))) 4 = l.drop (l.length - 4)) := by
  rw [Bool.eq_iff_iff]
  have e : (l.drop (l.length - 4)).take 4 = l.drop (l.length - 4) := List.take_of_length_le (by simp; omega)
  simp only [openB, e, h4, decide_true, Bool.true_and, beq_iff_eq, decide_eq_true_eq]
  constructor
  · intro h
    exact (le4_inj _ _ (by simp; omega) (fun i => getD_drop_lt l _ hb i) h).symm
  · intro h
    rw [← h, leNat_bytes4 _ (sum_lt _)]
theorem strB_inj {a b : List Nat} (ha : ∀ i : Nat, a.getD i 0 < 256) (hb : ∀ i : Nat, b.getD i 0 < 256) (h : (strB a).toList = (strB b).toList) : a = b := by
  replace h : a.map UInt8.ofNat = b.map UInt8.ofNat := by
    rw [strB, strB, ByteArray.toList_mk, ByteArray.toList_mk] at h
    exact h
  have hl : a.length = b.length := by have := congrArg List.length h; simpa using this
  apply List.ext_getElem? 
  intro i
  rcases Nat.lt_or_ge i a.length with h1 | h1
  · have h2 := congrArg (fun l => l[i]?) h
    simp only [List.getElem?_map] at h2
    have ha' := ha i
    have hb' := hb i
    rw [List.getD_eq_getElem?_getD, List.getElem?_eq_getElem h1] at ha'
    rw [List.getD_eq_getElem?_getD, List.getElem?_eq_getElem (by omega)] at hb'
    rw [List.getElem?_eq_getElem h1, List.getElem?_eq_getElem (by omega)] at h2 ⊢
    simp at h2 ha' hb' ⊢
    have h3 := congrArg UInt8.toNat h2
    simp at h3
    omega
  · rw [List.getElem?_eq_none h1, List.getElem?_eq_none (by omega)]
/-- What the reference's opening hands back. -/
theorem ropen_short (A : Option Addr) (l : List Nat) (c : Nat) (W : World) (hn : l.length < 4) :
    Calls Try.prog 26 #[.slice A l.length c] W fun e w' => e = .returned (.tuple #[.slice none 0 0, .bool false]) ∧ Below W.heap.size W w' := by
  go_enter Try.func26, Try.ntmps26
  go_wp2
  go_ret2
  exact ⟨rfl, Below.refl _ _⟩

theorem bts_drop {w : World} {b o : Nat} {l : List Nat} (k : Nat) (h : Bts w (some ⟨b, o, none⟩) l) : Bts w (some ⟨b, o + k, none⟩) (l.drop k) := by
  refine ⟨fun i => getD_drop_lt l k h.1 i, fun hl => ?_⟩
  have hk2 : k < l.length := by simp at hl; omega
  obtain ⟨b', o', e, hcell⟩ := h.2 (by omega)
  injection e with e
  injection e with e1 e2
  subst e1 e2
  refine ⟨b, o + k, rfl, fun i hi => ?_⟩
  rw [getD_drop, show o + k + i = o + (k + i) by omega]
  exact hcell _ (by simp at hi; omega)
theorem bts_ext {w w' : World} {A : Option Addr} {l : List Nat} (h : Bts w A l) (hb : Ext w.drew w') : Bts w' A l := bts_below (w := w.drew) h hb
theorem ropen_long (b o : Nat) (l : List Nat) (c : Nat) (W : World) (op : Bool) (hop : openB l = op) (hn : l.length ≤ 140737488355000) (hc : l.length ≤ c) (hB : Bts W (some ⟨b, o, none⟩) l) (h4 : 4 ≤ l.length) :
    Calls Try.prog 26 #[.slice (some ⟨b, o, none⟩) l.length c] W fun e w' => (e = .returned (if op then .tuple #[.slice (some ⟨b, o, none⟩) (l.length - 4) c, .bool true] else .tuple #[.slice none 0 0, .bool false])) ∧ Below W.heap.size W w' := by
  have HB := Lib.hid hB
  have HC := Lib.hid (bts_drop (l.length - 4) hB)
  have HSUB : Hid (((l.length : Int) - 4) = ((l.length - 4 : Nat) : Int)) := Lib.hid (by omega)
  have HL : Hid ((l.take (l.length - 4)).length = l.length - 4) := Lib.hid (by simp)
  have HD : Hid ((l.drop (l.length - 4)).length = 4) := Lib.hid (by simp; omega)
  have hop2 := hop
  rw [openB_eq l hB.1 h4] at hop2
  have HI := Lib.hid (fun h => strB_inj (a := bytesOf (sumV (l.take (l.length - 4))) 4) (b := l.drop (l.length - 4)) (bytesOf_lt _ _) (fun i => getD_drop_lt l _ hB.1 i) h)
  have hcmp : ((strB (bytesOf (sumV (l.take (l.length - 4))) 4)).toList == (strB (l.drop (l.length - 4))).toList) = op := by
    rw [← hop2, Bool.eq_iff_iff]
    simp only [beq_iff_eq, decide_eq_true_eq]
    exact ⟨HI.out, fun h => by rw [h]⟩
  have HCMP := Lib.hid hcmp
  have HS := Lib.hid (sum_lt (l.take (l.length - 4)))
  clear hB hop hop2 hcmp HI
  have hck : ¬ c = l.length - 4 := by omega
  have hcc : l.length ≤ c + 4 := by omega
  have hlm : l.length - (l.length - 4) = 4 := by omega
  go_enter Try.func26, Try.ntmps26
  go_wp2_with fail
  rw [HSUB.out]
  have hcv : ∀ W', Ext W.drew W' → (convert 23 9 (.slice (some ⟨b, o + (l.length - 4), none⟩) 4 (c - (l.length - 4)))).run Try.prog W' = .ok (.string (strB (l.drop (l.length - 4)))) W' := fun W' h => conv_bts (bts_ext HC.out h) HD.out
  refine wp_region_plan [(0, false), (1, false), (2, false), (6, false), (7, false), (8, false), (9, false), (3, true), (4, true), (5, false), (10, false)] (by kernel_rfl) (by kernel_rfl) (fun _ d _ _ _ h => by cases d <;> exact h) ?_
  iterate 7 (refine plan_take (v := ?_) rfl (by kernel_rfl) ?_ ?_; rotate_left; (focus (intro w' hw'; go_simp; try with_reducible rfl)); simp only [Act.put, List.setIfInBounds_toArray, List.set_cons_zero, List.set_cons_succ])
  clear hcv
  refine plan_call rfl (by kernel_rfl) (by go_simp; exact ⟨rfl, rfl⟩) ?_
  refine (rsum_at _ (l.take (l.length - 4)) _ c _ HL.out (by omega) (bts_ext (bts_take HB.out) (Ext.refl _))).mono ?_
  rintro e w' ⟨rfl, rfl⟩
  refine ⟨_, rfl, Ext.refl _, ?_⟩
  simp only [Act.put, List.setIfInBounds_toArray, List.set_cons_zero, List.set_cons_succ]
  refine plan_call rfl (by kernel_rfl) (by go_simp; exact ⟨rfl, rfl⟩) ?_
  refine (tail_any _ _ HS.out).mono ?_
  rintro e w1 ⟨v1, rfl, hown, hb⟩
  obtain ⟨A1, c1, rfl, hB1, hA1⟩ := bts_own hown (bytesOf_lt _ _) rfl
  rw [bytes4]
  have hcv : ∀ W', Ext w1 W' → (convert 23 9 (.slice A1 4 c1)).run Try.prog W' = .ok (.string (strB (bytesOf (sumV (l.take (l.length - 4))) 4))) W' := fun W' h => conv_bts (bts_below hB1 h) (bytes4 _)
  have HW1 := Lib.hid hb
  refine ⟨_, rfl, hb, ?_⟩
  simp only [Act.put, List.setIfInBounds_toArray, List.set_cons_zero, List.set_cons_succ]
  clear hown hA1 hB1 hb
  have hcmp := HCMP.out
  iterate 2 (refine plan_take (v := ?_) rfl (by kernel_rfl) ?_ ?_; rotate_left; (focus (intro w' hw'; go_simp; try with_reducible rfl)); simp only [Act.put, List.setIfInBounds_toArray, List.set_cons_zero, List.set_cons_succ])
  clear hcv hcmp
  refine plan_end ?_
  cases op
  · go_wp2
    go_ret2
    exact ⟨rfl, (Below.refl W.heap.size W).drew.trans HW1.out⟩
  · go_wp2
    go_ret2
    exact ⟨rfl, (Below.refl W.heap.size W).drew.trans HW1.out⟩
end Go.Proofs.Ytidfhdkalnaddaa
