/- The reference's memory: get. -/
import Derived.Test.YtmnpakfihfjfiaaPhyH
namespace Go.Proofs.Ytmnpakfihfjfiaa
open Go.RowKit

def bC (x : Nat × Nat) : List Value := [.int .u64 (x.1 : Int), .int .u8 (x.2 : Int)]
def bsC (L : List (Nat × Nat)) : List Value := L.flatMap bC
theorem bsC_length (L : List (Nat × Nat)) : (bsC L).length = L.length * 2 := by
  unfold bsC
  rw [List.length_flatMap]
  induction L with
  | nil => rfl
  | cons x r ih => simp [bC] at ih ⊢; omega
theorem bsC_get : ∀ (L : List (Nat × Nat)) (k : Nat) (x : Nat × Nat), L[k]? = some x → (bsC L)[k * 2]? = some (.int .u64 (x.1 : Int)) ∧ (bsC L)[k * 2 + 1]? = some (.int .u8 (x.2 : Int))
  | [], k, x, h => by simp at h
  | y :: r, 0, x, h => by
    obtain rfl : y = x := by simpa using h
    exact ⟨rfl, rfl⟩
  | y :: r, k + 1, x, h => by
    have := bsC_get r k x (by simpa using h)
    show (bC y ++ bsC r)[_]? = _ ∧ (bC y ++ bsC r)[_]? = _
    rw [List.getElem?_append_right (by simp [bC]; omega), List.getElem?_append_right (by simp [bC]; omega)]
    rw [show (k + 1) * 2 - (bC y).length = k * 2 by simp [bC]; omega, show (k + 1) * 2 + 1 - (bC y).length = k * 2 + 1 by simp [bC]; omega]
    exact this
/-- A slice of bytes with their places reads as L; its row lies in a block of G other than xb. -/
def Rd (G : Nat → Prop) (xb : Nat) (w : World) (A : Option Addr) (L : List (Nat × Nat)) : Prop :=
  0 < L.length → ∃ b, A = some ⟨b, 0, none⟩ ∧ G b ∧ b ≠ xb ∧ b < w.heap.size ∧ ∀ k x, L[k]? = some x → w.cell? ⟨b, k * 2, none⟩ = some (.int .u64 (x.1 : Int)) ∧ w.cell? ⟨b, k * 2 + 1, none⟩ = some (.int .u8 (x.2 : Int))
theorem Rd.keeps {G F : Nat → Prop} {xb : Nat} {w w' : World} {A : Option Addr} {L : List (Nat × Nat)} (h : Rd G xb w A L) (k : Keeps F w w') (hd : ∀ g, G g → g ≠ xb → ¬ F g) : Rd G xb w' A L := fun hp => by
  obtain ⟨b, e, hg, hx, hb, hc⟩ := h hp
  have hbl := k.block b hb (hd b hg hx)
  exact ⟨b, e, hg, hx, Nat.lt_of_lt_of_le hb k.size, fun i x hi => ⟨(World.cell?_of_block (a := ⟨b, i * 2, none⟩) hbl).trans (hc i x hi).1, (World.cell?_of_block (a := ⟨b, i * 2 + 1, none⟩) hbl).trans (hc i x hi).2⟩⟩
theorem Rd.mono {G G' : Nat → Prop} {xb : Nat} {w : World} {A : Option Addr} {L : List (Nat × Nat)} (h : Rd G xb w A L) (hG : ∀ g, G g → G' g) : Rd G' xb w A L := fun hp => by
  obtain ⟨b, e, hg, r⟩ := h hp
  exact ⟨b, e, hG b hg, r⟩
theorem Rd.own {G : Nat → Prop} {xb : Nat} {w : World} {A : Option Addr} {L : List (Nat × Nat)} {base c : Nat} (h : w.ownsRow base 98 2 (.slice A L.length c) L.length (bsC L)) (hG : ∀ g, (Value.slice A L.length c).ownBlock = some g → G g ∧ g ≠ xb) : Rd G xb w A L := fun hp => by
  obtain ⟨g, cap, hv, _, hlt⟩ := h.form hp
  injection hv with hv1 hv2 hv3
  subst hv1
  subst hv3
  have := hG g rfl
  refine ⟨g, rfl, this.1, this.2, hlt, fun k x hk => ?_⟩
  have hkl : k < L.length := (List.getElem?_eq_some_iff.1 hk).1
  have h2 := bsC_get L k x hk
  exact ⟨(h.cellAt (k * 2) (by omega)).trans h2.1, (h.cellAt (k * 2 + 1) (by omega)).trans h2.2⟩
/-- The reference's memory in the world. -/
def RefAt (w : World) (xb : Nat) (G : Nat → Prop) (n : Nat) (L : List (Nat × Nat)) : Prop := ∃ A c, Blk w xb 56 #[.int .i64 (n : Int), .slice A L.length c] ∧ Rd G xb w A L ∧ G xb ∧ ∀ g, G g → g < w.heap.size
theorem RefAt.keeps {w w' : World} {xb n : Nat} {F G : Nat → Prop} {L : List (Nat × Nat)} (h : RefAt w xb G n L) (k : Keeps F w w') (hd : ∀ g, G g → ¬ F g) : RefAt w' xb G n L := by
  obtain ⟨A, c, hb, h1, h3, h4⟩ := h
  exact ⟨A, c, k.blk hb (hd _ h3), h1.keeps k (fun g hg _ => hd g hg), h3, fun g hg => Nat.lt_of_lt_of_le (h4 g hg) k.size⟩
theorem RefAt.below {w w' : World} {xb n : Nat} {G : Nat → Prop} {L : List (Nat × Nat)} (h : RefAt w xb G n L) (hb : Below w.heap.size w w') : RefAt w' xb G n L := h.keeps (F := fun _ => False) (Keeps.of_below hb) (fun _ _ h => h)
/-- The byte that L says lies at a place. -/
def getB (L : List (Nat × Nat)) (at_ : Nat) : Nat := match L.find? (fun x => x.1 == at_) with | some x => x.2 | none => 0
theorem find_step {L : List (Nat × Nat)} {k at_ : Nat} {x : Nat × Nat} (hx : L[k]? = some x) (h : ∀ j y, j < k → L[j]? = some y → y.1 ≠ at_) (hp : x.1 = at_) : getB L at_ = x.2 := by
  have hk : k < L.length := (List.getElem?_eq_some_iff.1 hx).1
  have e : L = L.take k ++ x :: L.drop (k + 1) := by
    rw [List.getElem?_eq_getElem hk] at hx
    injection hx with hx
    rw [← hx, List.getElem_cons_drop, List.take_append_drop]
  have hn : (L.take k).find? (fun x => x.1 == at_) = none := List.find?_eq_none.2 fun y hy => by
    obtain ⟨j, hj, rfl⟩ := List.mem_take_iff_getElem.1 hy
    have := h j _ (by omega) (List.getElem?_eq_getElem (by omega))
    simpa using this
  unfold getB
  rw [e, List.find?_append, hn, Option.none_or, List.find?_cons]
  simp [hp]
theorem find_out {L : List (Nat × Nat)} {at_ : Nat} (h : ∀ j y, j < L.length → L[j]? = some y → y.1 ≠ at_) : getB L at_ = 0 := by
  unfold getB
  rw [List.find?_eq_none.2 fun y hy => by
    obtain ⟨j, hj, rfl⟩ := List.mem_iff_getElem.1 hy
    have := h j _ hj (List.getElem?_eq_getElem hj)
    simpa using this]
set_option maxHeartbeats 1000000 in
theorem rget_any (xb n at_ : Nat) (G : Nat → Prop) (L : List (Nat × Nat)) (W : World) (hL : L.length ≤ 1000000) (h : RefAt W xb G n L) :
    Calls Try.prog 54 #[.pointer (some ⟨xb, 0, none⟩), .int .u64 (at_ : Int)] W fun e w' => e = .returned (.int .u8 (getB L at_ : Nat)) ∧ Below W.heap.size W w' := by
  obtain ⟨A, c, hb, hr, _⟩ := h
  have c1 : W.cell? ⟨xb, 1, none⟩ = some (.slice A L.length c) := hb.cell 1
  have HR := Lib.hid hr
  have HL := Lib.hid hL
  clear hb hr
  go_enter Try.func54, Try.ntmps54
  go_wp2_with fail
  go_loopw [12] (fun i wr => ∃ k : Nat, k ≤ L.length ∧ i = .int .i64 k ∧ Below W.heap.size W wr ∧ ∀ j y, j < k → L[j]? = some y → y.1 ≠ at_) (fun i _ => L.length - (intOf i).toNat)
  case atStart => exact ⟨0, by omega, rfl, Below.refl _ _, fun j y hj => by omega⟩
  case round =>
    obtain ⟨k, hk, rfl, hbel, hno⟩ := hrel
    have HB := Lib.hid hbel
    have HNO := Lib.hid hno
    clear hbel hno c1
    by_cases hkl : k < L.length
    · obtain ⟨x, hx⟩ : ∃ x, L[k]? = some x := ⟨_, List.getElem?_eq_getElem hkl⟩
      obtain ⟨b, rfl, _, _, hbl, hc⟩ := HR.out (by omega)
      have s0 := (HB.out.cell (p := ⟨b, k * 2, none⟩) hbl).trans (hc k x hx).1
      have s1 := (HB.out.cell (p := ⟨b, k * 2 + 1, none⟩) hbl).trans (hc k x hx).2
      have HX := Lib.hid hx
      clear hc hx
      obtain ⟨p, v⟩ := x
      simp only at s0 s1
      by_cases he : p = at_
      · subst he
        have HG := Lib.hid (find_step HX.out HNO.out rfl)
        go_wp2_with fail
        go_ret
        exact ⟨by rw [HG.out]; rfl, HB.out.alloc HB.out.size _⟩
      · have hne : ((p : Int) == (at_ : Int)) = false := by simp; omega
        have HNE := Lib.hid he
        clear he
        go_wp2_with fail
        go_roundw
        case rel =>
          refine ⟨k + 1, by omega, by go_num, HB.out.alloc HB.out.size _, fun j y hj hjy => ?_⟩
          rcases Nat.lt_or_ge j k with h1 | h1
          · exact HNO.out j y h1 hjy
          · obtain rfl : j = k := by omega
            rw [HX.out] at hjy
            injection hjy with hjy
            subst hjy
            exact HNE.out
        case measure => simp [intOf]; omega
    · obtain rfl : k = L.length := by omega
      have HG := Lib.hid (find_out HNO.out)
      go_wp2_with fail
      go_ret
      exact ⟨by rw [HG.out]; rfl, HB.out⟩
end Go.Proofs.Ytmnpakfihfjfiaa
