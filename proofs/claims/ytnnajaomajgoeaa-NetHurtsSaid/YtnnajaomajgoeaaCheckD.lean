/- Contracts: Open; the reference's Tail. -/
import Derived.Test.YtnnajaomajgoeaaCheckC
namespace Go.Proofs.Ytnnajaomajgoeaa
open Go.RowKit

/-- Are the bytes sealed ones? -/
def openB (l : List Nat) : Bool := decide (4 ≤ l.length) && leNat ((l.drop (l.length - 4)).take 4) == sumV (l.take (l.length - 4))
/-- What opening hands back. -/
def OpenR (l : List Nat) (w : World) (e : Ending) (w' : World) : Prop :=
  if openB l then ∃ v, e = .returned (.tuple #[v, .bool true]) ∧ w'.ownsRow w.heap.size 5 1 v (l.length - 4) ((l.take (l.length - 4)).map bv) ∧ Below w.heap.size w w'
  else e = .returned (.tuple #[.slice none 0 0, .bool false]) ∧ Below w.heap.size w w'
theorem open_short (A : Option Addr) (l : List Nat) (c : Nat) (W : World) (hn : l.length < 4) :
    Calls Try.prog 38 #[.slice A l.length c] W (OpenR l W) := by
  have e : openB l = false := by simp [openB]; omega
  unfold OpenR
  simp only [e]
  clear e
  go_enter Try.func38, Try.ntmps38
  go_wp2
  go_ret2
  exact ⟨rfl, Below.refl _ _⟩
theorem sum_at (A : Option Addr) (l : List Nat) (n c : Nat) (W : World) (hl : l.length = n) (hn : n ≤ 9223372036854775807) (hB : Bts W A l) :
    Calls Try.prog 44 #[.slice A n c] W fun e w' => e = .returned (.int .u32 ((sumV l : Nat) : Int)) ∧ W = w' := by
  subst hl; exact sum_any A l c W hn hB
theorem clone_at (A : Option Addr) (l : List Nat) (n c : Nat) (W : World) (hl : l.length = n) (hn : n ≤ 140737488355328) (hB : Bts W A l) :
    Calls Try.prog 25 #[.slice A n c] W (RetOwn l W) := by
  subst hl; exact clone_any A l c W hn hB
theorem get4 (l : List Nat) (m : Nat) : getV l (m : Int) 4 = leNat ((l.drop m).take 4) := rfl
set_option maxHeartbeats 1000000 in
theorem open_long (A : Option Addr) (l : List Nat) (c : Nat) (W : World) (hn : l.length ≤ 140737488355000) (hc : l.length ≤ c) (hB : Bts W A l) (h4 : 4 ≤ l.length) :
    Calls Try.prog 38 #[.slice A l.length c] W (OpenR l W) := by
  have HB := Lib.hid hB
  have HG := Lib.hid (leNat_take_lt (l.drop (l.length - 4)) 4 (fun i => getD_drop_lt l _ hB.1 i))
  clear hB
  have ht : thereB l.length (((l.length - 4 : Nat) : Int)) 4 = true := by simp [thereB, sizeB]; omega
  have HT := Lib.hid ht
  have HSUB : Hid (((l.length : Int) - 4) = ((l.length - 4 : Nat) : Int)) := Lib.hid (by omega)
  have HL : Hid ((l.take (l.length - 4)).length = l.length - 4) := Lib.hid (by simp)
  have HQ := Lib.hid (get4 l (l.length - 4))
  clear ht
  cases hop : openB l
  · have HOP : Hid (openB l = false) := Lib.hid hop
    have hne : ¬ leNat ((l.drop (l.length - 4)).take 4) = sumV (l.take (l.length - 4)) := by
      simpa [openB, h4] using hop
    have HNE := Lib.hid hne
    clear hop hne
    go_enter Try.func38, Try.ntmps38
    go_wp2_with fail
    rw [HSUB.out]
    refine (get_yes A l c _ 4 _ (by omega) HB.out HT.out).mono ?_
    rintro e w' ⟨rfl, rfl⟩
    rw [HQ.out]
    have hg := HG.out
    have hne := HNE.out
    generalize leNat ((l.drop (l.length - 4)).take 4) = G at hg hne ⊢
    go_wp2_with fail
    refine (sum_at A (l.take (l.length - 4)) _ c _ HL.out (by omega) (bts_take HB.out)).mono ?_
    rintro e w' ⟨rfl, rfl⟩
    have e1 : (((G : Int) % 4294967296) != ((sumV (l.take (l.length - 4)) : Nat) : Int)) = true := by
      rw [bne_iff_ne]; simp at hg; omega
    have e2 : ((G : Int) != ((sumV (l.take (l.length - 4)) : Nat) : Int)) = true := by
      rw [bne_iff_ne]; omega
    clear hg hne
    go_wp2
    go_ret2
    unfold OpenR
    rw [HOP.out, if_neg (by decide)]
    exact ⟨rfl, Below.refl _ _⟩
  · have HOP : Hid (openB l = true) := Lib.hid hop
    have hne : leNat ((l.drop (l.length - 4)).take 4) = sumV (l.take (l.length - 4)) := by
      simpa [openB, h4] using hop
    have HNE := Lib.hid hne
    clear hop hne
    go_enter Try.func38, Try.ntmps38
    go_wp2_with fail
    rw [HSUB.out]
    refine (get_yes A l c _ 4 _ (by omega) HB.out HT.out).mono ?_
    rintro e w' ⟨rfl, rfl⟩
    rw [HQ.out, HNE.out]
    have hs := sum_lt (l.take (l.length - 4))
    obtain ⟨G, HG2⟩ : ∃ G, Hid (sumV (l.take (l.length - 4)) = G) := ⟨_, Lib.hid rfl⟩
    rw [HG2.out] at hs ⊢
    go_wp2_with fail
    refine (sum_at A (l.take (l.length - 4)) _ c _ HL.out (by omega) (bts_take HB.out)).mono ?_
    rintro e w' ⟨rfl, rfl⟩
    rw [HG2.out]
    go_wp2_with fail
    refine (clone_at A (l.take (l.length - 4)) _ c _ HL.out (by omega) (bts_take HB.out)).mono ?_
    rintro e w1 ⟨v1, rfl, hown1, hb1⟩
    have HO1 := Lib.hid hown1
    have HB1 := Lib.hid hb1
    clear hown1 hb1
    go_wp2
    go_ret2
    unfold OpenR
    rw [HOP.out, if_pos rfl]
    have ho := HO1.out
    rw [HL.out] at ho
    exact ⟨v1, rfl, ho, HB1.out⟩
theorem open_any (A : Option Addr) (l : List Nat) (c : Nat) (W : World) (hn : l.length ≤ 140737488355000) (hc : l.length ≤ c) (hB : Bts W A l) :
    Calls Try.prog 38 #[.slice A l.length c] W (OpenR l W) := by
  rcases Nat.lt_or_ge l.length 4 with h | h
  · exact open_short A l c W h
  · exact open_long A l c W hn hc hB h
end Go.Proofs.Ytnnajaomajgoeaa
