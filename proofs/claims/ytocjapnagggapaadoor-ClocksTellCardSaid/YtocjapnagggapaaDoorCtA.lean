/- The reference: size, meet. -/
import Derived.Test.YtocjapnagggapaaDoorClkJ
namespace Go.Proofs.YtocjapnagggapaaDoor
open Go.RowKit

theorem rsize_any (cs : Array Value) (x : Fc) (W : World) (h : FcAt cs x) :
    Calls Tryd.prog 31 #[.agg cs] W fun e w' => e = .returned (.int .i64 (x.sz : Int)) ∧ W.alloc (.cells cs 40) = w' := by
  have hb : Blk (W.alloc (.cells cs 40)) W.heap.size 40 cs := Blkf.new_at _ _ _ _ rfl
  have c1 := (hb.cell 13).trans h.sz
  have hl := hb.lt
  have HX : Hid (max 0 (min x.size 8) = (x.sz : Int)) := Lib.hid (by unfold Fc.sz; omega)
  clear hb h
  generalize x.size = s at *
  go_enter Tryd.func31, Tryd.ntmps31
  go_wp2_with fail
  go_ret
  exact ⟨by rw [← HX.out]; rfl, rfl⟩
def meetB (x y : Fc) : Bool := (x.lays || y.lays) && (List.range x.sz).any fun i => (List.range y.sz).any fun k => x.byte i == y.byte k
theorem meetB_iff {x y : Fc} : meetB x y = true ↔ Meets x y := by
  unfold meetB Meets Fc.covers
  rw [Bool.and_eq_true, Bool.or_eq_true, List.any_eq_true]
  constructor
  · rintro ⟨h1, i, hi, h2⟩
    rw [List.any_eq_true] at h2
    obtain ⟨k, hk, h3⟩ := h2
    exact ⟨h1, x.byte i, ⟨i, List.mem_range.1 hi, rfl⟩, ⟨k, List.mem_range.1 hk, (beq_iff_eq.1 h3).symm⟩⟩
  · rintro ⟨h1, b, ⟨i, hi, hb⟩, ⟨k, hk, hb2⟩⟩
    refine ⟨h1, i, List.mem_range.2 hi, ?_⟩
    rw [List.any_eq_true]
    exact ⟨k, List.mem_range.2 hk, beq_iff_eq.2 (hb.trans hb2.symm)⟩
structure TwoF (W w : World) (b0 b1 : Nat) (cs ds : Array Value) : Prop where
  a : Blk w b0 40 cs
  b : Blk w b1 40 ds
  e : Ext W w
theorem TwoF.step {W w w' : World} {b0 b1 : Nat} {cs ds : Array Value} (h : TwoF W w b0 b1 cs ds) (hb : Ext w w') : TwoF W w' b0 b1 cs ds := ⟨Blkf.below h.a hb h.a.lt, Blkf.below h.b hb h.b.lt, Ext.trans h.e hb⟩
set_option maxRecDepth 100000 in
set_option maxHeartbeats 4000000 in
theorem rmeet_any (cs ds : Array Value) (x y : Fc) (W : World) (hx : FcAt cs x) (hy : FcAt ds y) :
    Calls Tryd.prog 28 #[.agg cs, .agg ds] W fun e w' => e = .returned (.bool (meetB x y)) ∧ Ext W w' := by
  have H0 : Hid (TwoF W ((W.alloc (.cells cs 40)).alloc (.cells ds 40)) W.heap.size (W.heap.size + 1) cs ds) := Lib.hid
    ⟨(Blkf.new_at _ _ _ _ rfl : Blk (W.alloc (.cells cs 40)) W.heap.size 40 cs).alloc _, Blkf.new_at _ _ _ _ (by simp), ((Below.refl _ _).alloc (Nat.le_refl _) _).alloc (by simp) _⟩
  have HX := Lib.hid hx
  have HY := Lib.hid hy
  clear hx hy
  have ca := (H0.out.a.cell 11).trans HX.out.acc
  have cb := (H0.out.b.cell 11).trans HY.out.acc
  have la := H0.out.a.lt
  have lb := H0.out.b.lt
  by_cases hl : x.lays = false ∧ y.lays = false
  · obtain ⟨h1, h2⟩ := hl
    have HM : Hid (meetB x y = false) := Lib.hid (by unfold meetB; rw [h1, h2]; rfl)
    have a1 : (x.acc != 2) = true := by have : (x.acc == 2) = false := h1; simp [bne, this]
    have a2 : (y.acc != 2) = true := by have : (y.acc == 2) = false := h2; simp [bne, this]
    have HE := Lib.hid H0.out.e
    clear H0
    go_enter Tryd.func28, Tryd.ntmps28
    go_wp2_with fail
    go_ret
    exact ⟨by rw [HM.out]; rfl, HE.out⟩
  · have hor : x.lays = true ∨ (x.lays = false ∧ y.lays = true) := by
      cases h1 : x.lays <;> cases h2 : y.lays <;> simp_all
    have HMY : Hid (∀ i k, i < x.sz → k < y.sz → x.byte i = y.byte k → meetB x y = true) := Lib.hid (fun i k hi hk e => meetB_iff.2 ⟨by rcases hor with h | h; exact .inl h; exact .inr h.2, x.byte i, ⟨i, hi, rfl⟩, ⟨k, hk, e.symm⟩⟩)
    have HMN : Hid ((∀ i, i < x.sz → ∀ k, k < y.sz → x.byte i ≠ y.byte k) → meetB x y = false) := Lib.hid (fun hn => by
      cases hm : meetB x y with
      | false => rfl
      | true =>
        obtain ⟨_, b, ⟨i, hi, hb⟩, ⟨k, hk, hb2⟩⟩ := meetB_iff.1 hm
        exact absurd (hb.trans hb2.symm) (hn i hi k hk))
    have hcase : (x.acc = 2) ∨ (¬ x.acc = 2 ∧ y.acc = 2) := by
      rcases hor with h | h
      · exact .inl (beq_iff_eq.1 h)
      · exact .inr ⟨beq_eq_false_iff_ne.1 h.1, beq_iff_eq.1 h.2⟩
    clear hl hor
    rcases hcase with h1 | ⟨h1, h2⟩
    · rw [h1] at ca
      go_enter Tryd.func28, Tryd.ntmps28
      go_wp2_with fail
      clear ca cb la lb h1
      generalize (W.alloc (.cells cs 40)).alloc (.cells ds 40) = w1 at *
      go_loopw [5] (fun i wr => ∃ n : Nat, n ≤ x.sz ∧ i = .int .i64 (n : Int) ∧ TwoF W wr W.heap.size (W.heap.size + 1) cs ds ∧ ∀ j, j < n → ∀ k, k < y.sz → x.byte j ≠ y.byte k) (fun i _ => x.sz - (intOf i).toNat)
      case atStart => exact ⟨0, by omega, rfl, H0.out, fun j hj => by omega⟩
      clear H0
      case round =>
        obtain ⟨n, hn, rfl, hS, hall⟩ := hrel
        have HS := Lib.hid hS
        have HALL := Lib.hid hall
        have ra := hS.a.range
        clear hS hall
        go_wp2_with (first | ((with_reducible refine wl_load 40 (.tmp 2) rfl ?_ (World.heap W).size 0 cs ?_ ra ?_ ?_); exact rfl; exact rfl; exact HX.out.row))
        clear ra
        refine (rsize_any cs x _ HX.out).mono ?_
        rintro e v1 ⟨rfl, hv1⟩
        have HS1 := Lib.hid (HS.out.step (ext_alloc' _ (.cells cs 40)))
        rw [hv1] at HS1
        clear hv1 HS
        have hx8 := x.sz_le
        have hy8 := y.sz_le
        by_cases hlt : n < x.sz
        · have hni : (n : Int) < (x.sz : Int) := by omega
          go_wp2_with fail
          go_loopw [6] (fun q wx => ∃ k : Nat, k ≤ y.sz ∧ q = .int .i64 (k : Int) ∧ TwoF W wx W.heap.size (W.heap.size + 1) cs ds ∧ ∀ j, j < k → x.byte n ≠ y.byte j) (fun q _ => y.sz - (intOf q).toNat)
          case atStart => exact ⟨0, by omega, rfl, HS1.out, fun j hj => by omega⟩
          clear HS1
          case round =>
            obtain ⟨k, hk, rfl, hS, hal2⟩ := hrel
            rename World => wx
            have HS := Lib.hid hS
            have HAL2 := Lib.hid hal2
            have rb := hS.b.range
            clear hS hal2
            go_wp2_with (first | ((with_reducible refine wl_load 40 (.tmp 3) rfl ?_ ((World.heap W).size + 1) 0 ds ?_ rb ?_ ?_); exact rfl; exact rfl; exact HY.out.row))
            clear rb
            refine (rsize_any ds y _ HY.out).mono ?_
            rintro e v2 ⟨rfl, hv2⟩
            have HS2 := Lib.hid (HS.out.step (ext_alloc' _ (.cells ds 40)))
            rw [hv2] at HS2
            clear hv2 HS
            by_cases hkl : k < y.sz
            · have hki : (k : Int) < (y.sz : Int) := by omega
              have c1 := (HS2.out.a.cell 12).trans HX.out.addr
              have c2 := (HS2.out.b.cell 12).trans HY.out.addr
              have l1 := HS2.out.a.lt
              have l2 := HS2.out.b.lt
              have q1 : IntKind.u64.wrap (n : Int) = (n : Int) := by rw [IntKind.wrap_u64]; omega
              have q2 : IntKind.u64.wrap (k : Int) = (k : Int) := by rw [IntKind.wrap_u64]; omega
              have q3 := byte_wrap x n
              have q4 := byte_wrap y k
              by_cases e : x.byte n = y.byte k
              · have HM := Lib.hid (HMY.out n k hlt hkl e)
                rw [← e] at q4
                generalize x.byte n = bb at *
                go_wp2_with fail
                go_ret
                exact ⟨by rw [HM.out]; rfl, HS2.out.e⟩
              · have HNE := Lib.hid e
                have hne : ¬ (x.byte n : Int) = (y.byte k : Int) := by omega
                clear e
                have HNN : Hid (∀ j, j < k + 1 → x.byte n ≠ y.byte j) := Lib.hid (fun j hj => by
                  rcases Nat.lt_or_ge j k with h | h
                  · exact HAL2.out j h
                  · have : j = k := by omega
                    rw [this]; exact HNE.out)
                go_wp2_with fail
                go_roundw
                case rel => exact ⟨k + 1, hkl, by go_num, HS2.out, HNN.out⟩
                case measure => simp [intOf]; omega
            · obtain rfl : k = y.sz := by omega
              have HNN : Hid (∀ j, j < n + 1 → ∀ k, k < y.sz → x.byte j ≠ y.byte k) := Lib.hid (fun j hj k hk => by
                rcases Nat.lt_or_ge j n with h | h
                · exact HALL.out j h k hk
                · have : j = n := by omega
                  rw [this]; exact HAL2.out k hk)
              go_wp2_with fail
              go_roundw
              case rel => exact ⟨n + 1, hlt, by go_num, HS2.out, HNN.out⟩
              case measure => simp [intOf]; omega
        · obtain rfl : n = x.sz := by omega
          go_wp2_with fail
          go_ret
          exact ⟨by rw [HMN.out HALL.out]; rfl, HS1.out.e⟩
    · rw [h2] at cb
      go_enter Tryd.func28, Tryd.ntmps28
      go_wp2_with fail
      clear ca cb la lb h1 h2
      generalize (W.alloc (.cells cs 40)).alloc (.cells ds 40) = w1 at *
      go_loopw [5] (fun i wr => ∃ n : Nat, n ≤ x.sz ∧ i = .int .i64 (n : Int) ∧ TwoF W wr W.heap.size (W.heap.size + 1) cs ds ∧ ∀ j, j < n → ∀ k, k < y.sz → x.byte j ≠ y.byte k) (fun i _ => x.sz - (intOf i).toNat)
      case atStart => exact ⟨0, by omega, rfl, H0.out, fun j hj => by omega⟩
      clear H0
      case round =>
        obtain ⟨n, hn, rfl, hS, hall⟩ := hrel
        have HS := Lib.hid hS
        have HALL := Lib.hid hall
        have ra := hS.a.range
        clear hS hall
        go_wp2_with (first | ((with_reducible refine wl_load 40 (.tmp 2) rfl ?_ (World.heap W).size 0 cs ?_ ra ?_ ?_); exact rfl; exact rfl; exact HX.out.row))
        clear ra
        refine (rsize_any cs x _ HX.out).mono ?_
        rintro e v1 ⟨rfl, hv1⟩
        have HS1 := Lib.hid (HS.out.step (ext_alloc' _ (.cells cs 40)))
        rw [hv1] at HS1
        clear hv1 HS
        have hx8 := x.sz_le
        have hy8 := y.sz_le
        by_cases hlt : n < x.sz
        · have hni : (n : Int) < (x.sz : Int) := by omega
          go_wp2_with fail
          go_loopw [6] (fun q wx => ∃ k : Nat, k ≤ y.sz ∧ q = .int .i64 (k : Int) ∧ TwoF W wx W.heap.size (W.heap.size + 1) cs ds ∧ ∀ j, j < k → x.byte n ≠ y.byte j) (fun q _ => y.sz - (intOf q).toNat)
          case atStart => exact ⟨0, by omega, rfl, HS1.out, fun j hj => by omega⟩
          clear HS1
          case round =>
            obtain ⟨k, hk, rfl, hS, hal2⟩ := hrel
            rename World => wx
            have HS := Lib.hid hS
            have HAL2 := Lib.hid hal2
            have rb := hS.b.range
            clear hS hal2
            go_wp2_with (first | ((with_reducible refine wl_load 40 (.tmp 3) rfl ?_ ((World.heap W).size + 1) 0 ds ?_ rb ?_ ?_); exact rfl; exact rfl; exact HY.out.row))
            clear rb
            refine (rsize_any ds y _ HY.out).mono ?_
            rintro e v2 ⟨rfl, hv2⟩
            have HS2 := Lib.hid (HS.out.step (ext_alloc' _ (.cells ds 40)))
            rw [hv2] at HS2
            clear hv2 HS
            by_cases hkl : k < y.sz
            · have hki : (k : Int) < (y.sz : Int) := by omega
              have c1 := (HS2.out.a.cell 12).trans HX.out.addr
              have c2 := (HS2.out.b.cell 12).trans HY.out.addr
              have l1 := HS2.out.a.lt
              have l2 := HS2.out.b.lt
              have q1 : IntKind.u64.wrap (n : Int) = (n : Int) := by rw [IntKind.wrap_u64]; omega
              have q2 : IntKind.u64.wrap (k : Int) = (k : Int) := by rw [IntKind.wrap_u64]; omega
              have q3 := byte_wrap x n
              have q4 := byte_wrap y k
              by_cases e : x.byte n = y.byte k
              · have HM := Lib.hid (HMY.out n k hlt hkl e)
                rw [← e] at q4
                generalize x.byte n = bb at *
                go_wp2_with fail
                go_ret
                exact ⟨by rw [HM.out]; rfl, HS2.out.e⟩
              · have HNE := Lib.hid e
                have hne : ¬ (x.byte n : Int) = (y.byte k : Int) := by omega
                clear e
                have HNN : Hid (∀ j, j < k + 1 → x.byte n ≠ y.byte j) := Lib.hid (fun j hj => by
                  rcases Nat.lt_or_ge j k with h | h
                  · exact HAL2.out j h
                  · have : j = k := by omega
                    rw [this]; exact HNE.out)
                go_wp2_with fail
                go_roundw
                case rel => exact ⟨k + 1, hkl, by go_num, HS2.out, HNN.out⟩
                case measure => simp [intOf]; omega
            · obtain rfl : k = y.sz := by omega
              have HNN : Hid (∀ j, j < n + 1 → ∀ k, k < y.sz → x.byte j ≠ y.byte k) := Lib.hid (fun j hj k hk => by
                rcases Nat.lt_or_ge j n with h | h
                · exact HALL.out j h k hk
                · have : j = n := by omega
                  rw [this]; exact HAL2.out k hk)
              go_wp2_with fail
              go_roundw
              case rel => exact ⟨n + 1, hlt, by go_num, HS2.out, HNN.out⟩
              case measure => simp [intOf]; omega
        · obtain rfl : n = x.sz := by omega
          go_wp2_with fail
          go_ret
          exact ⟨by rw [HMN.out HALL.out]; rfl, HS1.out.e⟩
end Go.Proofs.YtocjapnagggapaaDoor
