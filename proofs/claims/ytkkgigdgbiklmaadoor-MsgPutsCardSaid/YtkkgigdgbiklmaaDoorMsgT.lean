/- Trim. -/
import Derived.Test.YtkkgigdgbiklmaaDoorMsgF
namespace Go.Proofs.YtkkgigdgbiklmaaDoor
open Go.RowKit

def slLen : Value → Nat
  | .slice _ n _ => n
  | _ => 0
/-- The first k bytes are left: noughts behind them, none at their end. -/
def Trims (l : List Nat) (k : Nat) : Prop := k ≤ l.length ∧ (∀ j, k ≤ j → j < l.length → l.getD j 0 = 0) ∧ (0 < k → l.getD (k - 1) 0 ≠ 0)
set_option maxHeartbeats 1000000 in
theorem trimByte_any (A : Option Addr) (l : List Nat) (n c : Nat) (W : World) (hB : Bts W A l) (hm : l.length = n) (hc : n ≤ c) (hn : n ≤ 1000000) :
    Calls Tryd.prog 44 #[.slice A n c, .int .u8 0] W fun e w' => (∃ k, e = .returned (.slice A k c) ∧ Trims l k) ∧ W = w' := by
  have HB := Lib.hid hB
  have HM := Lib.hid hm
  clear hB hm
  go_enter Tryd.func44, Tryd.ntmps44
  go_wp2_with fail
  go_loopw [0] (fun s wr => (∃ k, k ≤ n ∧ s = .slice A k c ∧ ∀ j, k ≤ j → j < n → l.getD j 0 = 0) ∧ W = wr) (fun s _ => slLen s)
  case atStart => exact ⟨⟨n, Nat.le_refl _, rfl, fun j h1 h2 => by omega⟩, rfl⟩
  case round =>
    obtain ⟨⟨k, hk, rfl, hz⟩, rfl⟩ := hrel
    have HZ := Lib.hid hz
    clear hz
    cases k with
    | zero =>
      go_wp2_with fail
      go_ret
      exact ⟨⟨0, rfl, by omega, fun j h1 h2 => HZ.out j h1 (by rw [← HM.out]; exact h2), fun h => by omega⟩, rfl⟩
    | succ k =>
      obtain ⟨b, o, rfl, hcl⟩ := HB.out.2 (by rw [HM.out]; omega)
      have c0 := hcl k (by rw [HM.out]; omega)
      have hlt := cell_lt c0
      obtain ⟨z, hzz⟩ : ∃ z, z = l.getD k 0 := ⟨_, rfl⟩
      have HZZ := Lib.hid hzz
      rw [← hzz] at c0
      obtain ⟨m, hmk⟩ : ∃ m, m = k + 1 := ⟨_, rfl⟩
      have HMK := Lib.hid hmk
      have i0 : (0 : Int) < (m : Int) := by omega
      have i4 : (k : Int) < (m : Int) := by omega
      have i5 : wrap64 ((m : Int) - 1) = (k : Int) := by unfold wrap64; omega
      have i6 : (m : Int) - 1 = (k : Int) := by omega
      have i7 : (k : Int) ≤ (c : Int) := by omega
      have i8 : k ≤ c := by omega
      rw [← hmk]
      clear hzz hcl hmk
      by_cases h0 : z = 0
      · have e0 : ((z : Int) == 0) = true := by simp; omega
        have HZ0 := Lib.hid h0
        clear h0
        go_wp2_with fail
        go_roundw
        case rel =>
          refine ⟨⟨k, by omega, by first | rfl | trivial, fun j h1 h2 => ?_⟩, by first | rfl | trivial⟩
          rcases Nat.eq_or_lt_of_le h1 with e | h
          · rw [← e, ← HZZ.out]; exact HZ0.out
          · exact HZ.out j h h2
        case measure => have := HMK.out; simp [slLen]; omega
      · have e0 : ((z : Int) == 0) = false := by simp; omega
        have HZ0 := Lib.hid h0
        clear h0
        go_wp2_with fail
        go_ret
        refine ⟨⟨m, rfl, by rw [HM.out, HMK.out]; exact hk, fun j h1 h2 => HZ.out j (by rw [← HMK.out]; exact h1) (by rw [← HM.out]; exact h2), fun h => ?_⟩, rfl⟩
        rw [HMK.out, Nat.add_sub_cancel, ← HZZ.out]
        exact HZ0.out
set_option maxRecDepth 100000 in
set_option maxHeartbeats 1000000 in
theorem trimRight_any (A : Option Addr) (l : List Nat) (n c : Nat) (W : World) (hB : Bts W A l) (hm : l.length = n) (hc : n ≤ c) (hn : n ≤ 1000000) :
    Calls Tryd.prog 32 #[.slice A n c, .string ⟨#[0]⟩] W fun e w' => (∃ k, e = .returned (.slice A k c) ∧ Trims l k) ∧ W = w' := by
  rcases Nat.eq_zero_or_pos n with h0 | h0
  · subst h0
    go_enter Tryd.func32, Tryd.ntmps32
    go_wp2_with fail
    go_ret
    exact ⟨⟨0, rfl, by omega, fun j h1 h2 => by omega, fun h => by omega⟩, rfl⟩
  · have e0 : ((n : Int) == 0) = false := by simp; omega
    have HT := Lib.hid (trimByte_any A l n c W hB hm hc hn)
    clear hB hm h0
    go_enter Tryd.func32, Tryd.ntmps32
    go_wp2_with fail
    refine HT.out.mono ?_
    rintro e w' ⟨⟨k, rfl, hk⟩, rfl⟩
    go_wp2_with fail
    go_ret
    exact ⟨⟨k, rfl, hk⟩, rfl⟩
theorem bclone_nil (c : Nat) (W : World) :
    Calls Tryd.prog 31 #[.slice none 0 c] W (RetOwn [] W) := by
  have hnil := fun (W : World) (a : Option Addr) (l c : Nat) => slice_eq_nil (P := Tryd.prog) W 22 5 a l c Tryd.underlying22
  go_enter Tryd.func31, Tryd.ntmps31
  go_wp2
  go_ret
  exact ⟨_, rfl, World.ownsRow_nil _ _ _ _, Below.refl _ _⟩
theorem bclone_some (a : Addr) (l : List Nat) (c : Nat) (W : World) (hn : l.length ≤ 140737488355328) (hB : Bts W (some a) l) :
    Calls Tryd.prog 31 #[.slice (some a) l.length c] W (RetOwn l W) := by
  obtain ⟨i0, hi0, hz0, hz1, hz2⟩ := info_parts info5
  have HR := Lib.hid (reads_bts hB)
  clear hB
  have hnil := fun (W : World) (l c : Nat) => slice_eq_nil (P := Tryd.prog) W 22 5 (some a) l c Tryd.underlying22
  go_enter Tryd.func31, Tryd.ntmps31
  go_wp2_with (at_builtin; refine wpList_append_any _ rfl (.tmp 5) (.tmp 6) _ rfl W.heap.size 5 i0 _ 1 1 Tryd.underlying22 hi0 hz0 hz1 hz2 rfl (by decide) _ 0 [] rfl (World.ownsRow_made W #[] 0 (Nat.le_refl _) (by unfold maxLen; omega) rfl) W.heap.size (some a) l.length c (l.map bv) rfl (HR.out.alloc (Nat.le_refl _) _) (one_bv l) (by unfold maxLen; omega) (by omega) (by simp) ?_; intro v2 w2 hown hgrow hat; have HO := Lib.hid hown; have HG := Lib.hid hgrow; clear hown hgrow hat)
  go_ret
  have ho := HO.out
  rw [Nat.zero_add, List.nil_append] at ho
  exact ⟨v2, rfl, ho, ((Below.refl _ W).alloc (Nat.le_refl _) _).grown HG.out (by simp) (fun k hk => by cases hk; exact Nat.le_refl _)⟩
theorem bclone_any (A : Option Addr) (l : List Nat) (c : Nat) (W : World) (hn : l.length ≤ 140737488355328) (hB : Bts W A l) :
    Calls Tryd.prog 31 #[.slice A l.length c] W (RetOwn l W) := by
  cases A with
  | none =>
    have : l = [] := by
      rcases Nat.eq_zero_or_pos l.length with h | h
      · exact List.eq_nil_of_length_eq_zero h
      · obtain ⟨b, o, e, _⟩ := hB.2 h
        cases e
    subst this
    exact bclone_nil c W
  | some a => exact bclone_some a l c W hn hB

theorem trim_any (A : Option Addr) (l : List Nat) (n c : Nat) (W : World) (hB : Bts W A l) (hm : l.length = n) (hc : n ≤ c) (hn : n ≤ 1000000) :
    Calls Tryd.prog 18 #[.slice A n c] W fun e w' => ∃ k A' c', e = .returned (.slice A' k c') ∧ Trims l k ∧ Bts w' A' (l.take k) ∧ (∀ a, A' = some a → W.heap.size ≤ a.block) ∧ Below W.heap.size W w' := by
  have HB := Lib.hid hB
  have HT := Lib.hid (trimRight_any A l n c W hB hm hc hn)
  clear hB
  go_enter Tryd.func18, Tryd.ntmps18
  go_wp2_with fail
  refine HT.out.mono ?_
  rintro e w1 ⟨⟨k, rfl, hk⟩, rfl⟩
  have hl : (l.take k).length = k := by rw [List.length_take, Nat.min_eq_left hk.1]
  have hcl := bclone_any A (l.take k) c W (by rw [hl]; have := hk.1; omega) (bts_take HB.out)
  rw [hl] at hcl
  have HK := Lib.hid hk
  have HCL := Lib.hid hcl
  clear hk hcl
  go_wp2_with fail
  refine HCL.out.mono ?_
  rintro e w1 ⟨v, rfl, ho, hb⟩
  rw [hl] at ho
  obtain ⟨A', c', rfl, hB', _⟩ := bts_own ho (bts_take HB.out : Bts W A (l.take k)).1 hl.symm
  rw [hl]
  have HO := Lib.hid ho
  have HB' := Lib.hid hB'
  have HBL := Lib.hid hb
  clear ho hB' hb
  go_wp2_with fail
  go_ret
  refine ⟨k, A', c', rfl, HK.out, HB'.out, fun a ea => ?_, HBL.out⟩
  subst ea
  exact (HO.out.lt a.block rfl).1
end Go.Proofs.YtkkgigdgbiklmaaDoor
