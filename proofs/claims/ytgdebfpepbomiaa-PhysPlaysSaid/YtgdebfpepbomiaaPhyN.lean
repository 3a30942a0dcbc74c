/- The reference's memory: Page. -/
import Derived.Test.YtgdebfpepbomiaaPhyM
import Derived.Test.YtgdebfpepbomiaaPhyE
namespace Go.Proofs.Ytgdebfpepbomiaa
open Go.RowKit

/-- A frame's bytes as they are laid one by one. -/
def pgF (k : Nat) (l : List Nat) : List (Nat × Nat) → List Nat
  | [] => l
  | x :: r => pgF k (if x.1 / 4096 = k then l.set (x.1 % 4096) x.2 else l) r
theorem pgF_append (k : Nat) : ∀ (L : List (Nat × Nat)) (l : List Nat) (x : Nat × Nat), pgF k l (L ++ [x]) = if x.1 / 4096 = k then (pgF k l L).set (x.1 % 4096) x.2 else pgF k l L
  | [], l, x => rfl
  | y :: r, l, x => pgF_append k r _ x
theorem pgF_length (k : Nat) : ∀ (L : List (Nat × Nat)) (l : List Nat), (pgF k l L).length = l.length
  | [], l => rfl
  | x :: r, l => by
    rw [pgF, pgF_length k r]
    split
    · rw [List.length_set]
    · rfl
theorem pgV_set (l : List Nat) (i y : Nat) : (pgV l).setIfInBounds i (bv y) = pgV (l.set i y) := by
  unfold pgV
  rw [List.setIfInBounds_toArray, List.map_set]
theorem cellB_of {l : List Nat} {i : Nat} (h : i < l.length) : (l.map bv)[i]? = some (bv (l.getD i 0)) := by
  rw [List.getElem?_map, List.getD_eq_getElem?_getD, List.getElem?_eq_getElem h]
  rfl
theorem pgV_get {l : List Nat} {i : Nat} (h : i < l.length) : (pgV l)[i]? = some (bv (l.getD i 0)) := by
  unfold pgV
  rw [List.getElem?_toArray, cellB_of h]
theorem takeB_snoc {L : List (Nat × Nat)} {k : Nat} {x : Nat × Nat} (h : L[k]? = some x) : L.take (k + 1) = L.take k ++ [x] := by
  rw [List.take_add_one, h]; rfl
theorem blk_page {w : World} {base g : Nat} {l : List Nat} (h : Blk w g 5 (pgV l)) (hg : base ≤ g) (hl : l.length = 4096) : w.ownsRow base 5 1 (.slice (some ⟨g, 0, none⟩) 4096 4096) l.length (l.map bv) := by
  rw [hl]
  exact ⟨by rw [List.length_map, hl], .inr ⟨g, 4096, pgV l, rfl, hg, h, by omega, by unfold maxLen; omega, pgV_size hl, by rw [pgV_list]; exact List.take_of_length_le (by rw [List.length_map, hl]; omega)⟩⟩
set_option maxHeartbeats 1000000 in
theorem rpage_yes (xb n f : Nat) (G : Nat → Prop) (L : List (Nat × Nat)) (W : World) (hn : n ≤ 1048576) (hL : L.length ≤ 1000000) (hp : ∀ x ∈ L, x.1 < 18446744073709551616) (hf : f < n) (h : RefAt W xb G n L) :
    Calls Try.prog 16 #[.pointer (some ⟨xb, 0, none⟩), .int .i64 (f : Int)] W (PageR (pgF f zeroL L) W) := by
  obtain ⟨A, c, hb, hr, _⟩ := h
  have c0 : W.cell? ⟨xb, 0, none⟩ = some (.int .i64 (n : Int)) := hb.cell 0
  have HX := Lib.hid hb
  have HR := Lib.hid hr
  have HXL := Lib.hid hb.lt
  have hf1 : (f : Int) < (n : Int) := by omega
  have hf2 : ¬ n ≤ f := by omega
  have HPB := Lib.hid hp
  have hw : IntKind.u64.wrap (f : Int) = (f : Int) := by rw [IntKind.wrap_u64]; omega
  have hmk := make_pg
  have hal : Below W.heap.size W (W.alloc (.cells zpg 5)) := (Below.refl _ _).alloc (Nat.le_refl _) _
  have c1 : (W.alloc (.cells zpg 5)).cell? ⟨xb, 1, none⟩ = some (.slice A L.length c) := (hb.below hal hb.lt).cell 1
  have HW0 := Lib.hid hal
  have HZ0 : Hid (Blk (W.alloc (.cells zpg 5)) W.heap.size 5 (pgV zeroL)) := Lib.hid (Blkf.new_at _ _ _ _ rfl)
  clear hb hr hal hp
  go_enter Try.func16, Try.ntmps16
  go_wp2_with fail
  generalize W.alloc (.cells zpg 5) = W0 at *
  go_wp2_with fail
  go_loopw [25] (fun i wr => ∃ k : Nat, k ≤ L.length ∧ i = .int .i64 k ∧ Blk wr W.heap.size 5 (pgV (pgF f zeroL (L.take k))) ∧ Below W.heap.size W wr) (fun i _ => L.length - (intOf i).toNat)
  case atStart => exact ⟨0, by omega, rfl, HZ0.out, HW0.out⟩
  case round =>
    obtain ⟨k, hk, rfl, hz, hbel⟩ := hrel
    have HZ := Lib.hid hz
    have HB := Lib.hid hbel
    have hzl := hz.lt
    clear hz hbel c0 c1 hmk
    by_cases hkl : k < L.length
    · obtain ⟨x, hx⟩ : ∃ x, L[k]? = some x := ⟨_, List.getElem?_eq_getElem hkl⟩
      obtain ⟨g, rfl, _, _, hbl, hc⟩ := HR.out (by omega)
      have s0 := (HB.out.cell (p := ⟨g, k * 2, none⟩) hbl).trans (hc k x hx).1
      have s1 := (HB.out.cell (p := ⟨g, k * 2 + 1, none⟩) hbl).trans (hc k x hx).2
      have HT := Lib.hid (takeB_snoc hx)
      have hx0 := hx
      clear hc hx
      have hpb := HPB.out x (List.mem_of_getElem? hx0)
      obtain ⟨p, v⟩ := x
      simp only at s0 s1 hpb
      clear hx0
      replace hpb : (p : Int) < 18446744073709551616 := by omega
      have hz2 := (HZ.out.alloc (.cells #[.int .u64 (p : Int), .int .u8 (v : Int)] 71))
      have HZ2 := Lib.hid hz2
      by_cases he : p / 4096 = f
      · have i1 : ((p : Int) / 4096 == (f : Int)) = true := by rw [show (p : Int) / 4096 = (f : Int) by omega]; simp
        have fz := Blk.frozen hz2 (p % 4096)
        have cz := hz2.cell (p % 4096)
        rw [pgV_get (by rw [pgF_length, zero_len]; omega)] at cz
        generalize bv ((pgF f zeroL (L.take k)).getD (p % 4096) 0) = y0 at cz
        have HST : Hid (pgF f zeroL (L.take (k + 1)) = (pgF f zeroL (L.take k)).set (p % 4096) v) := Lib.hid (by rw [HT.out, pgF_append, if_pos he])
        clear hz2 he
        generalize pgF f zeroL (L.take k) = l at *
        go_wp2_with fail
        go_roundw
        case rel =>
          refine ⟨k + 1, by omega, by go_num, ?_, ((HB.out.setCell (p := ⟨W.heap.size, p % 4096, none⟩) (Nat.le_refl _) _).alloc (by simp; exact HB.out.size) _)⟩
          rw [HST.out, ← pgV_set]
          exact (Blkf.set_ HZ.out (p % 4096) _).alloc _
        case measure => simp [intOf]; omega
      · have i1 : ((p : Int) / 4096 == (f : Int)) = false := by simp; omega
        have HST : Hid (pgF f zeroL (L.take (k + 1)) = pgF f zeroL (L.take k)) := Lib.hid (by rw [HT.out, pgF_append, if_neg he])
        clear hz2 he
        generalize pgF f zeroL (L.take k) = l at *
        go_wp2_with fail
        go_roundw
        case rel => exact ⟨k + 1, by omega, by go_num, by rw [HST.out]; exact HZ2.out, HB.out.alloc HB.out.size _⟩
        case measure => simp [intOf]; omega
    · obtain rfl : k = L.length := by omega
      rw [List.take_length] at HZ
      go_wp2_with fail
      go_ret2
      exact ⟨_, rfl, blk_page HZ.out (Nat.le_refl _) (by rw [pgF_length, zero_len]), HB.out⟩
end Go.Proofs.Ytgdebfpepbomiaa
