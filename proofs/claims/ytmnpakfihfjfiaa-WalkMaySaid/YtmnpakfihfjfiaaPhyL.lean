/- The reference's memory: put. -/
import Derived.Test.YtmnpakfihfjfiaaPhyK
namespace Go.Proofs.Ytmnpakfihfjfiaa
open Go.RowKit

theorem rinfo : (Try.prog.info? 98).map (fun i => (i.zero, i.size, i.bytes)) = some (some (.agg #[.int .u64 0, .int .u8 0]), 2, 16) := by kernel_rfl
theorem reads_b (w : World) (x : Nat × Nat) : Reads (w.alloc (.cells #[.int .u64 (x.1 : Int), .int .u8 (x.2 : Int)] 98)) (w.heap.size + 1) 2 (some ⟨w.heap.size, 0, none⟩) 1 (bC x) := by
  refine ⟨rfl, fun _ => ⟨_, rfl, Nat.lt_succ_self _, fun j u hj => ?_⟩⟩
  have hb := Blkf.new_at w 98 (0, 0) #[.int .u64 (x.1 : Int), .int .u8 (x.2 : Int)] rfl
  have ea : (⟨w.heap.size, 0, none⟩ : Addr).add j = ⟨w.heap.size, j, none⟩ := by unfold Addr.add; split <;> simp_all
  rw [ea, hb.cell j]
  simpa [bC] using hj
theorem reads_b_at (w : World) (p v n : Nat) (hn : n = w.heap.size) : Reads (w.alloc (.cells #[.int .u64 (p : Int), .int .u8 (v : Int)] 98)) (n + 1) 2 (some ⟨n, 0, none⟩) 1 (bC (p, v)) := by
  subst hn
  exact reads_b w (p, v)
theorem one_b (x : Nat × Nat) : ∀ u ∈ bC x, u.oneCell' = true := by
  intro u hu
  rcases List.mem_cons.1 hu with rfl | hu
  · rfl
  · obtain rfl : u = .int .u8 (x.2 : Int) := by simpa using hu
    rfl
def outB (L : List (Nat × Nat)) (at_ : Nat) : List (Nat × Nat) := L.filter (fun x => x.1 != at_)
def putB (L : List (Nat × Nat)) (at_ b : Nat) : List (Nat × Nat) := outB L at_ ++ (if b = 0 then [] else [(at_, b)])
theorem outB_length (L : List (Nat × Nat)) (at_ : Nat) : (outB L at_).length ≤ L.length := List.length_filter_le _ _
theorem putB_length (L : List (Nat × Nat)) (at_ b : Nat) : (putB L at_ b).length ≤ L.length + 1 := by
  unfold putB
  have := outB_length L at_
  rw [List.length_append]
  split <;> simp <;> omega
theorem outB_skip {L : List (Nat × Nat)} {k at_ : Nat} {x : Nat × Nat} (h : L[k]? = some x) (hx : x.1 = at_) : outB (L.take (k + 1)) at_ = outB (L.take k) at_ := by
  unfold outB
  rw [List.take_add_one, h, List.filter_append]
  simp [hx]
theorem outB_step {L : List (Nat × Nat)} {k at_ : Nat} {x : Nat × Nat} (h : L[k]? = some x) (hx : x.1 ≠ at_) : outB (L.take (k + 1)) at_ = outB (L.take k) at_ ++ [x] := by
  unfold outB
  rw [List.take_add_one, h, List.filter_append]
  simp [hx]
theorem bsC_snoc (L : List (Nat × Nat)) (x : Nat × Nat) : bsC (L ++ [x]) = bsC L ++ bC x := by simp [bsC]
theorem row_form {w : World} {base n : Nat} {v : Value} {xs : List Value} {t : TypeId} {s : Nat} (h : w.ownsRow base t s v n xs) : ∃ A c, v = .slice A n c := by
  rcases h.2 with ⟨rfl, rfl⟩ | ⟨g, cap, cur, rfl, _⟩
  · exact ⟨none, 0, rfl⟩
  · exact ⟨_, _, rfl⟩
def PutR (W : World) (xb n : Nat) (G : Nat → Prop) (L : List (Nat × Nat)) (w' : World) : Prop :=
  ∃ G', RefAt w' xb G' n L ∧ (∀ g, G' g → G g ∨ W.heap.size ≤ g) ∧ Keeps (fun g => g = xb) W w'
theorem put_fin {W w : World} {xb n : Nat} {G : Nat → Prop} {u v : Value} {L : List (Nat × Nat)} (hW : Below W.heap.size W w) (hb : Blk W xb 56 #[.int .i64 (n : Int), u]) (hG : G xb)
    (hGl : ∀ g, G g → g < W.heap.size) (ho : w.ownsRow W.heap.size 98 2 v L.length (bsC L)) : PutR W xb n G L (w.setCell ⟨xb, 1, none⟩ v) := by
  have hk := (Keeps.refl (fun g => g = xb) w).setCell (p := ⟨xb, 1, none⟩) (.inl rfl) v
  have hk0 : Keeps (fun g => g = xb) W (w.setCell ⟨xb, 1, none⟩ v) := (Keeps.of_below hW).same hk
  have ho2 := hk.row ho (fun g hg e => by have := (ho.lt g hg).1; have := hGl _ hG; omega)
  have hb2 := Blkf.set_ (hb.below hW hb.lt) 1 v
  obtain ⟨A, c, rfl⟩ := row_form ho
  have hs : ∀ g, (Value.slice A L.length c).ownBlock = some g → W.heap.size ≤ g ∧ g < (w.setCell ⟨xb, 1, none⟩ (.slice A L.length c)).heap.size := fun g hg => ho2.lt g hg
  refine ⟨fun g => g < (w.setCell ⟨xb, 1, none⟩ (.slice A L.length c)).heap.size ∧ (G g ∨ W.heap.size ≤ g), ⟨A, c, hb2, Rd.own ho2 (fun g hg => ⟨⟨(hs g hg).2, .inr (hs g hg).1⟩, fun e => by have := (hs g hg).1; have := hGl _ hG; omega⟩), ⟨Nat.lt_of_lt_of_le (hGl _ hG) hk0.size, .inl hG⟩, fun g hg => hg.1⟩, fun g hg => hg.2, hk0⟩
set_option maxHeartbeats 1000000 in
theorem rput_any (xb n at_ b : Nat) (G : Nat → Prop) (L : List (Nat × Nat)) (W : World) (hL : L.length ≤ 1000000) (h : RefAt W xb G n L) :
    Calls Try.prog 32 #[.pointer (some ⟨xb, 0, none⟩), .int .u64 (at_ : Int), .int .u8 (b : Int)] W fun e w' => e = .returned (.tuple #[]) ∧ PutR W xb n G (putB L at_ b) w' := by
  obtain ⟨A, c, hb, hr, hG, hGl⟩ := h
  obtain ⟨i0, hi0, hz0, hz1, hz2⟩ := info_parts rinfo
  have c1 : W.cell? ⟨xb, 1, none⟩ = some (.slice A L.length c) := hb.cell 1
  have HR := Lib.hid hr
  have HX := Lib.hid hb
  have HG := Lib.hid hG
  have HGL := Lib.hid hGl
  have HXL := Lib.hid hb.lt
  clear hb hr hG hGl
  go_enter Try.func32, Try.ntmps32
  go_wp2_with fail
  go_loopw [6, 14] (fun v i wr => ∃ k : Nat, k ≤ L.length ∧ i = .int .i64 k ∧ wr.ownsRow W.heap.size 98 2 v (outB (L.take k) at_).length (bsC (outB (L.take k) at_)) ∧ Below W.heap.size W wr) (fun _ i _ => L.length - (intOf i).toNat)
  case atStart => exact ⟨0, by omega, rfl, World.ownsRow_nil _ _ _ _, Below.refl _ _⟩
  case round =>
    obtain ⟨k, hk, rfl, ho, hbel⟩ := hrel
    have hlen := Nat.le_trans (outB_length (L.take k) at_) (by rw [List.length_take]; exact Nat.min_le_right _ _)
    obtain ⟨Av, cv, hv⟩ := row_form ho
    subst hv
    have HO := Lib.hid ho
    have HB := Lib.hid hbel
    have hsz := hbel.size
    clear hbel ho c1
    by_cases hkl : k < L.length
    · obtain ⟨x, hx⟩ : ∃ x, L[k]? = some x := ⟨_, List.getElem?_eq_getElem hkl⟩
      obtain ⟨g, rfl, _, _, hbl, hc⟩ := HR.out (by omega)
      have s0 := (HB.out.cell (p := ⟨g, k * 2, none⟩) hbl).trans (hc k x hx).1
      have s1 := (HB.out.cell (p := ⟨g, k * 2 + 1, none⟩) hbl).trans (hc k x hx).2
      clear hc
      obtain ⟨p, v⟩ := x
      simp only at s0 s1
      by_cases he : p = at_
      · have HS := Lib.hid (outB_skip hx he)
        subst he
        clear hx
        go_wp2_with fail
        go_roundw
        case rel => exact ⟨k + 1, by omega, by go_num, by rw [HS.out]; exact HO.out.alloc _, HB.out.alloc hsz _⟩
        case measure => simp [intOf]; omega
      · have hne : ((p : Int) != (at_ : Int)) = true := by simp; omega
        have HS := Lib.hid (outB_step hx he)
        clear he hx
        generalize outB (L.take k) at_ = N at *
        go_wp2_with (at_builtin; (refine wpList_append_any _ rfl (.tmp 22) (.tmp 24) _ rfl W.heap.size 98 i0 _ 2 16 Try.underlying54 hi0 hz0 hz1 hz2 rfl (by decide) _ N.length (bsC N) rfl ((HO.out.alloc _).alloc _) (wr.heap.size + 1 + 1) (some ⟨wr.heap.size + 1, 0, none⟩) 1 1 (bC (p, v)) rfl (reads_b_at _ p v _ (by simp)) (one_b _) (by unfold maxLen; omega) (by omega) (by simp; omega) ?_; intro v3 w3 hown hgrow hat; have HOWN := Lib.hid hown; have HGR := Lib.hid hgrow; clear hown hgrow hat))
        go_roundw
        case rel =>
          refine ⟨k + 1, by omega, by go_num, ?_, ?_⟩
          · rw [HS.out, bsC_snoc, List.length_append]
            exact HOWN.out
          · exact ((HB.out.alloc hsz _).alloc (by simp; omega) _).grown HGR.out (by simp; omega) (fun g hg => (HO.out.lt g hg).1)
        case measure => simp [intOf]; omega
    · obtain rfl : k = L.length := by omega
      rw [List.take_length] at HO hlen ⊢
      have hxb := HXL.out
      have hbr := HX.out.below HB.out HXL.out
      have f1 := Blk.frozen hbr 1
      have c1 : wr.cell? ⟨xb, 1, none⟩ = some (.slice A L.length c) := hbr.cell 1
      clear hbr
      by_cases h0 : b = 0
      · have HP : Hid (putB L at_ b = outB L at_) := Lib.hid (by unfold putB; rw [if_pos h0, List.append_nil])
        subst h0
        go_wp2_with fail
        refine bodyPost_end (results_none rfl _ _ _) rfl ?_
        rw [HP.out]
        exact ⟨rfl, put_fin HB.out HX.out HG.out HGL.out HO.out⟩
      · have HP : Hid (putB L at_ b = outB L at_ ++ [(at_, b)]) := Lib.hid (by unfold putB; rw [if_neg h0])
        have hne : ((b : Int) != 0) = true := by simp; omega
        clear h0
        generalize outB L at_ = N at *
        go_wp2_with (at_builtin; (refine wpList_append_any _ rfl (.tmp 29) (.tmp 33) _ rfl W.heap.size 98 i0 _ 2 16 Try.underlying54 hi0 hz0 hz1 hz2 rfl (by decide) _ N.length (bsC N) rfl (HO.out.alloc _) (wr.heap.size + 1) (some ⟨wr.heap.size, 0, none⟩) 1 1 (bC (at_, b)) rfl (reads_b_at _ at_ b _ rfl) (one_b _) (by unfold maxLen; omega) (by omega) (by simp; omega) ?_; intro v3 w3 hown hgrow hat; have HW3 := Lib.hid ((HB.out.alloc hsz (.cells #[.int .u64 (at_ : Int), .int .u8 (b : Int)] 98)).grown hgrow (by simp; omega) (fun g hg => (HO.out.lt g hg).1)); have hb3 := HX.out.below HW3.out HXL.out; have f13 := Blk.frozen hb3 1; have c13 : w3.cell? ⟨xb, 1, none⟩ = some (.slice A L.length c) := hb3.cell 1; obtain ⟨A3, c3, hv3⟩ := row_form hown; subst hv3; have HOWN := Lib.hid hown; clear hown hgrow hat hb3))
        refine bodyPost_end (results_none rfl _ _ _) rfl ?_
        rw [HP.out]
        refine ⟨rfl, put_fin HW3.out HX.out HG.out HGL.out ?_⟩
        rw [bsC_snoc, List.length_append]
        exact HOWN.out
end Go.Proofs.Ytmnpakfihfjfiaa
