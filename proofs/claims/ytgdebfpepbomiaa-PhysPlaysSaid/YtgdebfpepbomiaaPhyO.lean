/- The reference's memory: SetPage; what Page says no to. -/
import Derived.Test.YtgdebfpepbomiaaPhyN
namespace Go.Proofs.Ytgdebfpepbomiaa
open Go.RowKit

theorem rpage_no (xb n : Nat) (f : Int) (G : Nat → Prop) (L : List (Nat × Nat)) (W : World) (hf : frE n f = 61) (h : RefAt W xb G n L) :
    Calls Try.prog 16 #[.pointer (some ⟨xb, 0, none⟩), .int .i64 f] W fun e w' => e = .returned (.tuple #[.slice none 0 0, .int .i64 61]) ∧ W = w' := by
  obtain ⟨A, c, hb, _⟩ := h
  have c0 : W.cell? ⟨xb, 0, none⟩ = some (.int .i64 (n : Int)) := hb.cell 0
  clear hb
  by_cases h1 : f < 0
  · go_enter Try.func16, Try.ntmps16
    go_wp2_with fail
    go_ret2
    exact ⟨rfl, rfl⟩
  · have h2 : (n : Int) ≤ f := by unfold frE at hf; split at hf; omega; omega
    clear hf
    go_enter Try.func16, Try.ntmps16
    go_wp2_with fail
    go_ret2
    exact ⟨rfl, rfl⟩
theorem rset_no (xb n : Nat) (f : Int) (v : Value) (G : Nat → Prop) (L : List (Nat × Nat)) (W : World) (hf : frE n f = 61) (h : RefAt W xb G n L) :
    Calls Try.prog 15 #[.pointer (some ⟨xb, 0, none⟩), .int .i64 f, v] W fun e w' => e = .returned (.int .i64 61) ∧ W = w' := by
  obtain ⟨A, c, hb, _⟩ := h
  have c0 : W.cell? ⟨xb, 0, none⟩ = some (.int .i64 (n : Int)) := hb.cell 0
  clear hb
  by_cases h1 : f < 0
  · go_enter Try.func15, Try.ntmps15
    go_wp2_with fail
    go_ret
    exact ⟨rfl, rfl⟩
  · have h2 : (n : Int) ≤ f := by unfold frE at hf; split at hf; omega; omega
    clear hf
    go_enter Try.func15, Try.ntmps15
    go_wp2_with fail
    go_ret
    exact ⟨rfl, rfl⟩
theorem rset_much (xb n f : Nat) (A2 : Option Addr) (l c2 : Nat) (G : Nat → Prop) (L : List (Nat × Nat)) (W : World) (hf : f < n) (hl : 4096 < l) (h : RefAt W xb G n L) :
    Calls Try.prog 15 #[.pointer (some ⟨xb, 0, none⟩), .int .i64 (f : Int), .slice A2 l c2] W fun e w' => e = .returned (.int .i64 2) ∧ W = w' := by
  obtain ⟨A, c, hb, _⟩ := h
  have c0 : W.cell? ⟨xb, 0, none⟩ = some (.int .i64 (n : Int)) := hb.cell 0
  have hf1 : (f : Int) < (n : Int) := by omega
  have hf2 : ¬ n ≤ f := by omega
  have hl' : (4096 : Int) < (l : Int) := by omega
  clear hb
  go_enter Try.func15, Try.ntmps15
  go_wp2_with fail
  go_ret
  exact ⟨rfl, rfl⟩
def outP (L : List (Nat × Nat)) (f : Nat) : List (Nat × Nat) := L.filter (fun x => x.1 / 4096 != f)
theorem outP_length (L : List (Nat × Nat)) (f : Nat) : (outP L f).length ≤ L.length := List.length_filter_le _ _
theorem outP_skip {L : List (Nat × Nat)} {k f : Nat} {x : Nat × Nat} (h : L[k]? = some x) (hx : x.1 / 4096 = f) : outP (L.take (k + 1)) f = outP (L.take k) f := by
  unfold outP
  rw [List.take_add_one, h, List.filter_append]
  simp [hx]
theorem outP_step {L : List (Nat × Nat)} {k f : Nat} {x : Nat × Nat} (h : L[k]? = some x) (hx : x.1 / 4096 ≠ f) : outP (L.take (k + 1)) f = outP (L.take k) f ++ [x] := by
  unfold outP
  rw [List.take_add_one, h, List.filter_append]
  simp [hx]
/-- The bytes of l that aren't 0, laid behind L. -/
def adP (f : Nat) (l : List Nat) (L : List (Nat × Nat)) : Nat → List (Nat × Nat)
  | 0 => L
  | j + 1 => adP f l L j ++ (if l.getD j 0 = 0 then [] else [(4096 * f + j, l.getD j 0)])
theorem adP_length (f : Nat) (l : List Nat) (L : List (Nat × Nat)) : ∀ j, (adP f l L j).length ≤ L.length + j
  | 0 => Nat.le_refl _
  | j + 1 => by
    have := adP_length f l L j
    rw [adP, List.length_append]
    split <;> simp <;> omega
def setE (L : List (Nat × Nat)) (f : Nat) (l : List Nat) : List (Nat × Nat) := adP f l (outP L f) l.length
set_option maxHeartbeats 2000000 in
theorem rset_yes (xb n f : Nat) (A2 : Option Addr) (l : List Nat) (c2 : Nat) (G : Nat → Prop) (L : List (Nat × Nat)) (W : World) (hn : n ≤ 1048576) (hL : L.length ≤ 900000) (hp : ∀ x ∈ L, x.1 < 18446744073709551616) (hf : f < n) (hl : l.length ≤ 4096) (hB2 : Bts W A2 l) (h : RefAt W xb G n L) :
    Calls Try.prog 15 #[.pointer (some ⟨xb, 0, none⟩), .int .i64 (f : Int), .slice A2 l.length c2] W fun e w' => e = .returned (.int .i64 0) ∧ PutR W xb n G (setE L f l) w' := by
  obtain ⟨A, c, hb, hr, hG, hGl⟩ := h
  obtain ⟨i0, hi0, hz0, hz1, hz2⟩ := info_parts rinfo
  have c0 : W.cell? ⟨xb, 0, none⟩ = some (.int .i64 (n : Int)) := hb.cell 0
  have c1 : W.cell? ⟨xb, 1, none⟩ = some (.slice A L.length c) := hb.cell 1
  have hf1 : (f : Int) < (n : Int) := by omega
  have hf2 : ¬ n ≤ f := by omega
  have hl' : ¬ (4096 : Int) < (l.length : Int) := by omega
  have hw : IntKind.u64.wrap (f : Int) = (f : Int) := by rw [IntKind.wrap_u64]; omega
  have HR := Lib.hid hr
  have HX := Lib.hid hb
  have HG := Lib.hid hG
  have HGL := Lib.hid hGl
  have HXL := Lib.hid hb.lt
  have HPB := Lib.hid hp
  have HB2 := Lib.hid hB2
  have HLL := Lib.hid hl
  clear hb hr hG hGl hp hB2
  go_enter Try.func15, Try.ntmps15
  go_wp2_with fail
  go_loopw [7, 30] (fun v i wr => ∃ k : Nat, k ≤ L.length ∧ i = .int .i64 k ∧ wr.ownsRow W.heap.size 71 2 v (outP (L.take k) f).length (bsC (outP (L.take k) f)) ∧ Below W.heap.size W wr) (fun _ i _ => L.length - (intOf i).toNat)
  case atStart => exact ⟨0, by omega, rfl, World.ownsRow_nil _ _ _ _, Below.refl _ _⟩
  case round =>
    obtain ⟨k, hk, rfl, ho, hbel⟩ := hrel
    have hlen := Nat.le_trans (outP_length (L.take k) f) (by rw [List.length_take]; exact Nat.min_le_right _ _)
    obtain ⟨Av, cv, hv⟩ := row_form ho
    subst hv
    have HO := Lib.hid ho
    have HB := Lib.hid hbel
    have hsz := hbel.size
    clear hbel ho c1 c0
    by_cases hkl : k < L.length
    · obtain ⟨x, hx⟩ : ∃ x, L[k]? = some x := ⟨_, List.getElem?_eq_getElem hkl⟩
      obtain ⟨g, rfl, _, _, hbl, hc⟩ := HR.out (by omega)
      have s0 := (HB.out.cell (p := ⟨g, k * 2, none⟩) hbl).trans (hc k x hx).1
      have s1 := (HB.out.cell (p := ⟨g, k * 2 + 1, none⟩) hbl).trans (hc k x hx).2
      have hpb := HPB.out x (List.mem_of_getElem? hx)
      clear hc
      obtain ⟨p, v⟩ := x
      simp only at s0 s1 hpb
      replace hpb : (p : Int) < 18446744073709551616 := by omega
      by_cases he : p / 4096 = f
      · have HS := Lib.hid (outP_skip hx he)
        have i1 : ((p : Int) / 4096 != (f : Int)) = false := by rw [show (p : Int) / 4096 = (f : Int) by omega]; simp
        clear hx he
        go_wp2_with fail
        go_roundw
        case rel => exact ⟨k + 1, by omega, by go_num, by rw [HS.out]; exact HO.out.alloc _, HB.out.alloc hsz _⟩
        case measure => simp [intOf]; omega
      · have i1 : ((p : Int) / 4096 != (f : Int)) = true := by simp; omega
        have HS := Lib.hid (outP_step hx he)
        clear he hx
        generalize outP (L.take k) f = N at *
        go_wp2_with (at_builtin; (refine wpList_append_any _ rfl (.tmp 40) (.tmp 42) _ rfl W.heap.size 71 i0 _ 2 16 Try.underlying38 hi0 hz0 hz1 hz2 rfl (by decide) _ N.length (bsC N) rfl ((HO.out.alloc _).alloc _) (wr.heap.size + 1 + 1) (some ⟨wr.heap.size + 1, 0, none⟩) 1 1 (bC (p, v)) rfl (reads_b_at _ p v _ (by simp)) (one_b _) (by unfold maxLen; omega) (by omega) (by simp; omega) ?_; intro v3 w3 hown hgrow hat; have HOWN := Lib.hid hown; have HGR := Lib.hid hgrow; clear hown hgrow hat))
        go_roundw
        case rel =>
          refine ⟨k + 1, by omega, by go_num, ?_, ?_⟩
          · rw [HS.out, bsC_snoc, List.length_append]
            exact HOWN.out
          · exact ((HB.out.alloc hsz _).alloc (by simp; omega) _).grown HGR.out (by simp; omega) (fun g hg => (HO.out.lt g hg).1)
        case measure => simp [intOf]; omega
    · obtain rfl : k = L.length := by omega
      rw [List.take_length] at HO hlen ⊢
      generalize hN : outP L f = N at *
      have HN := Lib.hid hN
      clear hN hk hkl
      go_wp2_with fail
      go_loopw [7, 47] (fun v i wr => ∃ j : Nat, j ≤ l.length ∧ i = .int .i64 j ∧ wr.ownsRow W.heap.size 71 2 v (adP f l N j).length (bsC (adP f l N j)) ∧ Below W.heap.size W wr) (fun _ i _ => l.length - (intOf i).toNat)
      case atStart => exact ⟨0, by omega, rfl, HO.out, HB.out⟩
      case round =>
        obtain ⟨j, hj, rfl, ho, hbel⟩ := hrel
        rename World => w2
        have hlen2 := adP_length f l N j
        obtain ⟨Aq, cq, hv⟩ := row_form ho
        subst hv
        have HO2 := Lib.hid ho
        have HBB := Lib.hid hbel
        have hsz2 := hbel.size
        clear ho hbel hsz
        by_cases hjl : j < l.length
        · obtain ⟨b2, o2, rfl, hc⟩ := HB2.out.2 (by omega)
          have s0 := (HBB.out.cell (p := ⟨b2, o2 + j, none⟩) (cell_lt (hc j hjl))).trans (hc j hjl)
          clear hc
          have HAD : Hid (adP f l N (j + 1) = adP f l N j ++ (if l.getD j 0 = 0 then [] else [(4096 * f + j, l.getD j 0)])) := Lib.hid rfl
          generalize l.getD j 0 = y at *
          generalize adP f l N j = M at *
          have i9 : (j : Int) < 4096 := by have := HLL.out; omega
          by_cases h0 : y = 0
          · rw [if_pos h0, List.append_nil] at HAD
            subst h0
            go_wp2_with fail
            go_roundw
            case rel => exact ⟨j + 1, by omega, by go_num, by rw [HAD.out]; exact HO2.out, HBB.out⟩
            case measure => simp [intOf]; omega
          · rw [if_neg h0] at HAD
            have hne : ((y : Int) != 0) = true := by simp; omega
            have hfb : (f : Int) < 1048576 := by omega
            clear h0
            obtain ⟨P, hP⟩ : ∃ P : Nat, 4096 * f + j = P := ⟨_, rfl⟩
            have hPi : 4096 * (f : Int) + (j : Int) = (P : Int) := by omega
            rw [hP] at HAD
            clear hP
            go_wp2_with (at_builtin; go_loud (refine wpList_append_any _ rfl (.tmp 54) (.tmp 63) _ rfl W.heap.size 71 i0 _ 2 16 Try.underlying38 hi0 hz0 hz1 hz2 rfl (by decide) _ M.length (bsC M) rfl (HO2.out.alloc _) (w2.heap.size + 1) (some ⟨w2.heap.size, 0, none⟩) 1 1 (bC (P, y)) rfl (reads_b_at _ P y _ rfl) (one_b _) (by unfold maxLen; omega) (by omega) (by simp; omega) ?_; intro v3 w3 hown hgrow hat; have HOWN := Lib.hid hown; have HGR := Lib.hid hgrow; clear hown hgrow hat))
            go_roundw
            case rel =>
              refine ⟨j + 1, by omega, by go_num, ?_, ?_⟩
              · rw [HAD.out, bsC_snoc, List.length_append]
                exact HOWN.out
              · exact (HBB.out.alloc hsz2 _).grown HGR.out (by simp; omega) (fun g hg => (HO2.out.lt g hg).1)
            case measure => simp [intOf]; omega
        · obtain rfl : j = l.length := by omega
          have hxb := HXL.out
          have hbr := HX.out.below HBB.out HXL.out
          have f1 := Blk.frozen hbr 1
          have c1 : w2.cell? ⟨xb, 1, none⟩ = some (.slice A L.length c) := hbr.cell 1
          clear hbr
          go_wp2_with fail
          go_ret
          refine ⟨rfl, ?_⟩
          unfold setE
          rw [HN.out]
          exact put_fin HBB.out HX.out HG.out HGL.out HO2.out
end Go.Proofs.Ytgdebfpepbomiaa
