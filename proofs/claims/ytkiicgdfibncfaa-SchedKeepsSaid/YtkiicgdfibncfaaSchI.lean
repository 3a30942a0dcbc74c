/- The reference's Random. -/
import Derived.Test.YtkiicgdfibncfaaSchH
namespace Go.Proofs.Ytkiicgdfibncfaa
open Go.RowKit

def RefRel (w1 : World) (H sb : Nat) (nodes : Int) (ws : List Int) (seed : Int) (k : Nat) (v : Value) (wr : World) : Prop :=
  ∃ l s, l.length = k ∧ RandL nodes ws seed l s ∧ OwnA sb wr v l ∧ Blk wr sb 29 #[.int .u64 s] ∧ Keeps (fun g => H < g) w1 wr
theorem rref_step {w1 w2 w6 : World} {H sb : Nat} {nodes : Int} {ws : List Int} {seed s T : Int} {l : List A3} {v v6 : Value} {q : Nat} {x : A3} {o : Obj} {m n : Nat} {i : Value}
    (hsb : H < sb) (hT : wsum ws 7 = T) (hL : RandL nodes ws seed l s) (hq : isKind ws (intS s T) q) (hx : x = actV (stS s T) q nodes) (hO : OwnA sb w2 v l)
    (hB : Blk w2 sb 29 #[.int .u64 (actT (stS s T) q nodes)]) (hK : Keeps (fun g => H < g) w1 w2) (hs : sb ≤ w2.heap.size)
    (hown : w6.ownsRow sb 48 3 v6 (l.length + 1) (actsC l ++ actC x)) (hg : (w2.alloc o).grownBy w6 v.ownBlock) (hm : m = l.length) (hi : i = .int .i64 ((m + 1 : Nat) : Int)) (hn : n ≥ m + 1) :
    ∃ k : Nat, k ≤ n ∧ i = .int .i64 k ∧ RefRel w1 H sb nodes ws seed k v6 w6 := by
  have hrow : ∀ g, v.ownBlock = some g → H < g := fun g hg => by have := (hO.lt g hg).1; omega
  refine ⟨m + 1, hn, hi, l ++ [x], actT (stS s T) q nodes, by simp [hm], ?_, ?_, (hB.alloc _).grown hg (fun e => row_ne_blk hO hB (by decide) e.symm), (hK.alloc _).grown hg (fun g hg => .inl (hrow g hg))⟩
  · rw [hx, ← hT]
    refine .snoc hL ?_
    rw [hT]
    exact hq
  · unfold OwnA
    rw [actsC_append, List.length_append]
    simpa [actsC] using hown
theorem reads_at (w : World) (t : TypeId) (x : A3) (n : Nat) (hn : n = w.heap.size) : Reads (w.alloc (.cells #[.int .i64 x.1, .int .i64 x.2.1, .int .i64 x.2.2] t)) (n + 1) 3 (some ⟨n, 0, none⟩) 1 (actC x) := by subst hn; exact reads_act w t x
theorem row_one {w w' : World} {b sb : Nat} {e t : TypeId} {size n : Nat} {v : Value} {xs : List Value} {cs : Array Value} (h : w.ownsRow sb e size v n xs) (hb : Blk w b t cs) (hne : e ≠ t) (k : Keeps (One b) w w') : w'.ownsRow sb e size v n xs :=
  k.row h (fun g hg h1 => by
    have := row_ne_blk h hb hne
    unfold One at h1
    rw [h1] at hg
    exact this hg)
set_option maxRecDepth 100000 in
set_option maxHeartbeats 8000000 in
theorem rrandom_yes (seed nodes : Int) (n : Nat) (ws : List Int) (h7 : ws.length = 7) (W : World) (h : okR nodes n ws) :
    Calls Try.prog 18 #[.int .u64 seed, .int .i64 nodes, .int .i64 n, wV ws] W fun e w' => ∃ v, e = .returned v ∧ ∃ l s, l.length = n ∧ RandL nodes ws seed l s ∧ OwnA W.heap.size w' v l ∧ Below W.heap.size W w' := by
  obtain ⟨i0, hi0, hz0, hz1, hz2⟩ := info_parts info_act
  obtain ⟨hw, hs, hn1, hn2, hd1, hd2⟩ := h
  have HI := Lib.hid (fun k hk => w_index ws h7 k hk)
  have HWB := Lib.hid (okW_wg hw)
  have HSB := Lib.hid (fun k (hk : k ≤ 7) => wsum_le ws k (by omega) (fun j _ => okW_wg hw j))
  have HN := Lib.hid (fun k (hk : k < 7) => wsum_succ ws k (by omega))
  have HG := Lib.hid (fun k (hk : k < 7) => wg_get ws k (by omega))
  have hTs : wsum ws 7 ≠ 0 := by omega
  have HTS := Lib.hid (HSB.out 7 (by omega))
  generalize hT : wsum ws 7 = T at *
  have HT := Lib.hid hT
  have hT0 : (T == 0) = false := by simpa using hTs
  obtain ⟨x0, x1, x2, x3, x4, x5, x6, hws⟩ : ∃ a b c d e f g, ws = [a, b, c, d, e, f, g] := list7 h7
  have HV : Hid (wV ws = .agg #[.int .i64 x0, .int .i64 x1, .int .i64 x2, .int .i64 x3, .int .i64 x4, .int .i64 x5, .int .i64 x6]) := Lib.hid (by rw [hws]; rfl)
  have HWS := Lib.hid hws
  have hnm : nodes < 9223372036854775808 := by omega
  have HTI : Hid (∀ s, 0 ≤ intS s T ∧ intS s T < T) := Lib.hid (fun s => by
    unfold intS
    rw [if_neg (by omega)]
    exact ⟨Int.emod_nonneg _ (by omega), Int.emod_lt_of_pos _ hs⟩)
  have hTm : T < 9223372036854775808 := by have := HTS.out.2; omega
  rw [HV.out]
  clear hws hw h7 hT
  go_enter Try.func18, Try.ntmps18
  go_wp2_with fail
  go_loop [9, 20] (fun v i => ∃ k : Nat, k ≤ 7 ∧ i = .int .i64 k ∧ v = .int .i64 (wsum ws k)) (fun _ i => 7 - (intOf i).toNat)
  case atStart => exact ⟨0, by omega, rfl, rfl⟩
  case round =>
    obtain ⟨k, hk, rfl, rfl⟩ := hrel
    obtain ⟨s0, s1⟩ := HSB.out k hk
    by_cases hkl : k < 7
    · have hx := HI.out k hkl
      rw [HV.out] at hx
      obtain ⟨b0, b1⟩ := HWB.out k
      go_wp2_with fail
      go_round
      case rel => exact ⟨k + 1, hkl, by go_num, by rw [HN.out k hkl]⟩
      case measure => simp [intOf]; omega
    · obtain rfl : k = 7 := by omega
      rw [HT.out]
      clear s0 s1
      have hbox : Hid (Blk (W.alloc (.cells #[.int .i64 x0, .int .i64 x1, .int .i64 x2, .int .i64 x3, .int .i64 x4, .int .i64 x5, .int .i64 x6] 38)) W.heap.size 38 #[.int .i64 x0, .int .i64 x1, .int .i64 x2, .int .i64 x3, .int .i64 x4, .int .i64 x5, .int .i64 x6]) := Lib.hid (Blkf.new_at W _ _ _ rfl)
      generalize hW1 : W.alloc (.cells #[.int .i64 x0, .int .i64 x1, .int .i64 x2, .int .i64 x3, .int .i64 x4, .int .i64 x5, .int .i64 x6] 38) = w1 at *
      have hs1 : W.heap.size < w1.heap.size := by rw [← hW1]; simp
      have HBW : Hid (Below W.heap.size W w1) := Lib.hid (by rw [← hW1]; exact (Below.refl _ W).alloc (Nat.le_refl _) _)
      generalize hH0 : W.heap.size = H0 at *
      clear hW1
      have HR1 : Hid (Keeps (fun g => H0 < g) w1 (w1.alloc (.cells #[.int .u64 seed] 29))) := Lib.hid ((Keeps.refl _ _).alloc _)
      go_wp2_with fail
      go_loopw [13, 14] (fun v i wr => ∃ k : Nat, k ≤ n ∧ i = .int .i64 k ∧ RefRel w1 H0 w1.heap.size nodes ws seed k v wr) (fun _ i _ => n - (intOf i).toNat)
      case atStart => exact ⟨0, by omega, rfl, [], seed, rfl, .nil, World.ownsRow_nil _ _ _ _, Blkf.new_at _ _ _ _ rfl, HR1.out⟩
      case round =>
        obtain ⟨k, hk, rfl, l, s, hl, hL, hO, hB, hK⟩ := hrel
        subst hl
        obtain ⟨A1, c1, rfl, _⟩ := hO.rd
        have HL := Lib.hid hL
        have HO := Lib.hid hO
        have HBB := Lib.hid hB
        have HKK := Lib.hid hK
        clear hL hO hB hK
        by_cases hkl : l.length < n
        · have hll : l.length < 100000 := by omega
          go_wp2_with fail
          refine (rint_any w1.heap.size s T _ HBB.out hTm).mono ?_
          rintro e w2 ⟨rfl, hb2, hk2⟩
          have HB2 := Lib.hid hb2
          have HO2 := Lib.hid (row_one HO.out HBB.out (by decide) hk2)
          have HK2 := Lib.hid (HKK.out.same (hk2.mono (G := fun g => H0 < g) (fun g hg => by unfold One at hg; omega)))
          have hsz2 : w1.heap.size < w2.heap.size := HB2.out.lt
          clear hb2 hk2
          obtain ⟨y, hy⟩ : ∃ y, y = intS s T := ⟨_, rfl⟩
          have HY := Lib.hid hy
          have hy0 : 0 ≤ y := by rw [hy]; exact (HTI.out s).1
          have HY1 : Hid (y < T) := Lib.hid (by rw [hy]; exact (HTI.out s).2)
          rw [← hy]
          clear hy
          have HBX := Lib.hid (HK2.out.blk hbox.out (by simp))
          have hcell : Hid (∀ k, k < 7 → w2.cell? ⟨H0, k, none⟩ = some (.int .i64 (wg ws k))) := Lib.hid (fun k hk => by
            have h1 := HBX.out.cell k
            have h2 := HG.out k hk
            rw [HWS.out] at h2
            rw [h1]
            match k, hk, h2 with
            | 0, _, h2 | 1, _, h2 | 2, _, h2 | 3, _, h2 | 4, _, h2 | 5, _, h2 | 6, _, h2 => simp at h2; rw [← HWS.out] at h2; simp [h2])
          have hH2 : H0 < w2.heap.size := by omega
          have hc0 := hcell.out 0 (by omega)
          go_wp2_with fail
          go_loop [16, 17] (fun i v => ∃ q : Nat, q < 7 ∧ i = .int .i64 q ∧ v = .int .i64 (wsum ws (q + 1)) ∧ wsum ws q ≤ y) (fun i _ => 7 - (intOf i).toNat)
          case atStart => exact ⟨0, by omega, rfl, by rw [HN.out 0 (by omega)]; simp [wsum], by simpa [wsum] using hy0⟩
          case round =>
            obtain ⟨q, hq, rfl, rfl, hle⟩ := hrel
            by_cases hlt : wsum ws (q + 1) ≤ y
            · have hq1 : q + 1 < 7 := by
                rcases Nat.lt_or_ge (q + 1) 7 with h | h
                · exact h
                · have : q + 1 = 7 := by omega
                  rw [this, HT.out] at hlt
                  have := HY1.out
                  omega
              have hc := hcell.out (q + 1) hq1
              obtain ⟨b0, b1⟩ := HWB.out (q + 1)
              obtain ⟨b2, b3⟩ := HSB.out (q + 1) (by omega)
              go_wp2_with fail
              go_round
              case rel => exact ⟨q + 1, hq1, by go_num, by rw [HN.out (q + 1) hq1], hlt⟩
              case measure => simp [intOf]; omega
            · have HQ : Hid (isKind ws (intS s T) q) := Lib.hid ⟨hq, by rw [← HY.out]; exact hle, by rw [← HY.out]; omega⟩
              clear hle hc0
              have hsz1 := hs1
              rcases (show q = 0 ∨ q = 1 ∨ q = 2 ∨ q = 3 ∨ q = 4 ∨ q = 5 ∨ q = 6 by omega) with rfl | rfl | rfl | rfl | rfl | rfl | rfl
              · have HA := Lib.hid (Blkf.new_at (n := w2.heap.size) w2 48 (0, 0) #[.int .i64 0, .int .i64 0, .int .i64 0] rfl)
                have N : Hid (w1.heap.size ≠ w2.heap.size) := Lib.hid (by have := HB2.out.lt; omega)
                have HBa := Lib.hid (HB2.out.alloc (.cells #[.int .i64 0, .int .i64 0, .int .i64 0] 48))
                have HOa := Lib.hid (HO2.out.alloc (.cells #[.int .i64 0, .int .i64 0, .int .i64 0] 48))
                have HKa := Lib.hid (HK2.out.alloc (.cells #[.int .i64 0, .int .i64 0, .int .i64 0] 48))
                go_wp2_with fail
                refine (rint_any w1.heap.size (stS s T) nodes _ HBa.out hnm).mono ?_
                rintro e w3 ⟨rfl, hb, hk⟩
                have hA1 := hk.blk HA.out (fun e => by unfold One at e; exact N.out e.symm)
                obtain ⟨a0, a1, a2, f0, f1, f2, la⟩ := three hA1
                have HA1 := Lib.hid (hA1.set_ 1 (.int .i64 (intS (stS s T) nodes)))
                have HB1' := Lib.hid (hb.far (p := ⟨w2.heap.size, 1, none⟩) N.out (.int .i64 (intS (stS s T) nodes)))
                have HO1' := Lib.hid (ownsRow_setCell_other (row_one HOa.out HBa.out (by decide) hk) (a := ⟨w2.heap.size, 1, none⟩) (fun e => absurd (HO2.out.lt _ e).2 (Nat.lt_irrefl _)) (.int .i64 (intS (stS s T) nodes)))
                have HK1' := Lib.hid ((HKa.out.same (hk.mono (G := fun g => H0 < g) (fun g hg => by unfold One at hg; omega))).setCell (p := ⟨w2.heap.size, 1, none⟩) (.inl (by show H0 < w2.heap.size; omega)) (.int .i64 (intS (stS s T) nodes)))
                clear hA1 hb hk
                go_wp2_with fail
                refine (rint_any w1.heap.size (stS (stS s T) nodes) 256 _ HB1'.out (by decide)).mono ?_
                clear a0 a1 a2 f0 f1 f2 la
                rintro e w4 ⟨rfl, hb, hk⟩
                have hA2 := hk.blk HA1.out (fun e => by unfold One at e; exact N.out e.symm)
                obtain ⟨a0, a1, a2, f0, f1, f2, la⟩ := three hA2
                have HA2 := Lib.hid (hA2.set_ 2 (.int .i64 (intS (stS (stS s T) nodes) 256)))
                have HB2' := Lib.hid (hb.far (p := ⟨w2.heap.size, 2, none⟩) N.out (.int .i64 (intS (stS (stS s T) nodes) 256)))
                have HO2' := Lib.hid (ownsRow_setCell_other (row_one HO1'.out HB1'.out (by decide) hk) (a := ⟨w2.heap.size, 2, none⟩) (fun e => absurd (HO2.out.lt _ e).2 (Nat.lt_irrefl _)) (.int .i64 (intS (stS (stS s T) nodes) 256)))
                have HK2' := Lib.hid ((HK1'.out.same (hk.mono (G := fun g => H0 < g) (fun g hg => by unfold One at hg; omega))).setCell (p := ⟨w2.heap.size, 2, none⟩) (.inl (by show H0 < w2.heap.size; omega)) (.int .i64 (intS (stS (stS s T) nodes) 256)))
                clear hA2 hb hk
                have hs9 : w1.heap.size ≤ w4.heap.size := by have := HK2'.out.size; simp at this; omega
                go_wp2_with (at_builtin; (refine wpList_append_any _ rfl (.tmp 104) (.tmp 106) _ rfl w1.heap.size 48 i0 _ 3 24 Try.underlying34 hi0 hz0 hz1 hz2 rfl (by decide) _ l.length (actsC l) rfl (HO2'.out.alloc _) (w4.heap.size + 1) (some ⟨w4.heap.size, 0, none⟩) 1 1 (actC ((0, intS (stS s T) nodes, intS (stS (stS s T) nodes) 256) : A3)) rfl (reads_at (w4.setCell ⟨w2.heap.size, 2, none⟩ (.int .i64 (intS (stS (stS s T) nodes) 256))) _ ((0, intS (stS s T) nodes, intS (stS (stS s T) nodes) 256) : A3) (w4.heap.size) (by simp)) (one_act _) (by unfold maxLen; omega) (by omega) (by simp; omega) ?_; intro v6 w6 hown hgrow hat; have HS : Hid (∀ (m : Nat) (i : Value), m = l.length → i = .int .i64 ((m + 1 : Nat) : Int) → ∃ k : Nat, k ≤ n ∧ i = .int .i64 k ∧ RefRel w1 H0 w1.heap.size nodes ws seed k v6 w6) := Lib.hid (fun m i hm hi => rref_step (x := ((0, intS (stS s T) nodes, intS (stS (stS s T) nodes) 256) : A3)) (by omega) HT.out HL.out HQ.out rfl HO2'.out HB2'.out HK2'.out (by simp; omega) hown hgrow hm hi (by omega)); clear hown hgrow hat))
                go_roundw
                case rel => exact HS.out l.length _ rfl (by go_num)
                case measure => simp [intOf]; omega
              · have HA := Lib.hid (Blkf.new_at (n := w2.heap.size) w2 48 (0, 0) #[.int .i64 1, .int .i64 0, .int .i64 0] rfl)
                have N : Hid (w1.heap.size ≠ w2.heap.size) := Lib.hid (by have := HB2.out.lt; omega)
                have HBa := Lib.hid (HB2.out.alloc (.cells #[.int .i64 1, .int .i64 0, .int .i64 0] 48))
                have HOa := Lib.hid (HO2.out.alloc (.cells #[.int .i64 1, .int .i64 0, .int .i64 0] 48))
                have HKa := Lib.hid (HK2.out.alloc (.cells #[.int .i64 1, .int .i64 0, .int .i64 0] 48))
                go_wp2_with fail
                refine (rint_any w1.heap.size (stS s T) 8 _ HBa.out (by decide)).mono ?_
                rintro e w3 ⟨rfl, hb, hk⟩
                have hA1 := hk.blk HA.out (fun e => by unfold One at e; exact N.out e.symm)
                obtain ⟨a0, a1, a2, f0, f1, f2, la⟩ := three hA1
                have HA1 := Lib.hid (hA1.set_ 1 (.int .i64 (intS (stS s T) 8)))
                have HB1' := Lib.hid (hb.far (p := ⟨w2.heap.size, 1, none⟩) N.out (.int .i64 (intS (stS s T) 8)))
                have HO1' := Lib.hid (ownsRow_setCell_other (row_one HOa.out HBa.out (by decide) hk) (a := ⟨w2.heap.size, 1, none⟩) (fun e => absurd (HO2.out.lt _ e).2 (Nat.lt_irrefl _)) (.int .i64 (intS (stS s T) 8)))
                have HK1' := Lib.hid ((HKa.out.same (hk.mono (G := fun g => H0 < g) (fun g hg => by unfold One at hg; omega))).setCell (p := ⟨w2.heap.size, 1, none⟩) (.inl (by show H0 < w2.heap.size; omega)) (.int .i64 (intS (stS s T) 8)))
                clear hA1 hb hk
                have hs9 : w1.heap.size ≤ w3.heap.size := by have := HK1'.out.size; simp at this; omega
                go_wp2_with (at_builtin; (refine wpList_append_any _ rfl (.tmp 104) (.tmp 106) _ rfl w1.heap.size 48 i0 _ 3 24 Try.underlying34 hi0 hz0 hz1 hz2 rfl (by decide) _ l.length (actsC l) rfl (HO1'.out.alloc _) (w3.heap.size + 1) (some ⟨w3.heap.size, 0, none⟩) 1 1 (actC ((1, intS (stS s T) 8, 0) : A3)) rfl (reads_at (w3.setCell ⟨w2.heap.size, 1, none⟩ (.int .i64 (intS (stS s T) 8))) _ ((1, intS (stS s T) 8, 0) : A3) (w3.heap.size) (by simp)) (one_act _) (by unfold maxLen; omega) (by omega) (by simp; omega) ?_; intro v6 w6 hown hgrow hat; have HS : Hid (∀ (m : Nat) (i : Value), m = l.length → i = .int .i64 ((m + 1 : Nat) : Int) → ∃ k : Nat, k ≤ n ∧ i = .int .i64 k ∧ RefRel w1 H0 w1.heap.size nodes ws seed k v6 w6) := Lib.hid (fun m i hm hi => rref_step (x := ((1, intS (stS s T) 8, 0) : A3)) (by omega) HT.out HL.out HQ.out rfl HO1'.out HB1'.out HK1'.out (by simp; omega) hown hgrow hm hi (by omega)); clear hown hgrow hat))
                go_roundw
                case rel => exact HS.out l.length _ rfl (by go_num)
                case measure => simp [intOf]; omega
              · have HA := Lib.hid (Blkf.new_at (n := w2.heap.size) w2 48 (0, 0) #[.int .i64 2, .int .i64 0, .int .i64 0] rfl)
                have N : Hid (w1.heap.size ≠ w2.heap.size) := Lib.hid (by have := HB2.out.lt; omega)
                have HBa := Lib.hid (HB2.out.alloc (.cells #[.int .i64 2, .int .i64 0, .int .i64 0] 48))
                have HOa := Lib.hid (HO2.out.alloc (.cells #[.int .i64 2, .int .i64 0, .int .i64 0] 48))
                have HKa := Lib.hid (HK2.out.alloc (.cells #[.int .i64 2, .int .i64 0, .int .i64 0] 48))
                go_wp2_with fail
                refine (rint_any w1.heap.size (stS s T) 8 _ HBa.out (by decide)).mono ?_
                rintro e w3 ⟨rfl, hb, hk⟩
                have hA1 := hk.blk HA.out (fun e => by unfold One at e; exact N.out e.symm)
                obtain ⟨a0, a1, a2, f0, f1, f2, la⟩ := three hA1
                have HA1 := Lib.hid (hA1.set_ 1 (.int .i64 (intS (stS s T) 8)))
                have HB1' := Lib.hid (hb.far (p := ⟨w2.heap.size, 1, none⟩) N.out (.int .i64 (intS (stS s T) 8)))
                have HO1' := Lib.hid (ownsRow_setCell_other (row_one HOa.out HBa.out (by decide) hk) (a := ⟨w2.heap.size, 1, none⟩) (fun e => absurd (HO2.out.lt _ e).2 (Nat.lt_irrefl _)) (.int .i64 (intS (stS s T) 8)))
                have HK1' := Lib.hid ((HKa.out.same (hk.mono (G := fun g => H0 < g) (fun g hg => by unfold One at hg; omega))).setCell (p := ⟨w2.heap.size, 1, none⟩) (.inl (by show H0 < w2.heap.size; omega)) (.int .i64 (intS (stS s T) 8)))
                clear hA1 hb hk
                have hs9 : w1.heap.size ≤ w3.heap.size := by have := HK1'.out.size; simp at this; omega
                go_wp2_with (at_builtin; (refine wpList_append_any _ rfl (.tmp 104) (.tmp 106) _ rfl w1.heap.size 48 i0 _ 3 24 Try.underlying34 hi0 hz0 hz1 hz2 rfl (by decide) _ l.length (actsC l) rfl (HO1'.out.alloc _) (w3.heap.size + 1) (some ⟨w3.heap.size, 0, none⟩) 1 1 (actC ((2, intS (stS s T) 8, 0) : A3)) rfl (reads_at (w3.setCell ⟨w2.heap.size, 1, none⟩ (.int .i64 (intS (stS s T) 8))) _ ((2, intS (stS s T) 8, 0) : A3) (w3.heap.size) (by simp)) (one_act _) (by unfold maxLen; omega) (by omega) (by simp; omega) ?_; intro v6 w6 hown hgrow hat; have HS : Hid (∀ (m : Nat) (i : Value), m = l.length → i = .int .i64 ((m + 1 : Nat) : Int) → ∃ k : Nat, k ≤ n ∧ i = .int .i64 k ∧ RefRel w1 H0 w1.heap.size nodes ws seed k v6 w6) := Lib.hid (fun m i hm hi => rref_step (x := ((2, intS (stS s T) 8, 0) : A3)) (by omega) HT.out HL.out HQ.out rfl HO1'.out HB1'.out HK1'.out (by simp; omega) hown hgrow hm hi (by omega)); clear hown hgrow hat))
                go_roundw
                case rel => exact HS.out l.length _ rfl (by go_num)
                case measure => simp [intOf]; omega
              · have HA := Lib.hid (Blkf.new_at (n := w2.heap.size) w2 48 (0, 0) #[.int .i64 3, .int .i64 0, .int .i64 0] rfl)
                have N : Hid (w1.heap.size ≠ w2.heap.size) := Lib.hid (by have := HB2.out.lt; omega)
                have HBa := Lib.hid (HB2.out.alloc (.cells #[.int .i64 3, .int .i64 0, .int .i64 0] 48))
                have HOa := Lib.hid (HO2.out.alloc (.cells #[.int .i64 3, .int .i64 0, .int .i64 0] 48))
                have HKa := Lib.hid (HK2.out.alloc (.cells #[.int .i64 3, .int .i64 0, .int .i64 0] 48))
                go_wp2_with fail
                refine (rint_any w1.heap.size (stS s T) 8 _ HBa.out (by decide)).mono ?_
                rintro e w3 ⟨rfl, hb, hk⟩
                have hA1 := hk.blk HA.out (fun e => by unfold One at e; exact N.out e.symm)
                obtain ⟨a0, a1, a2, f0, f1, f2, la⟩ := three hA1
                have HA1 := Lib.hid (hA1.set_ 1 (.int .i64 (intS (stS s T) 8)))
                have HB1' := Lib.hid (hb.far (p := ⟨w2.heap.size, 1, none⟩) N.out (.int .i64 (intS (stS s T) 8)))
                have HO1' := Lib.hid (ownsRow_setCell_other (row_one HOa.out HBa.out (by decide) hk) (a := ⟨w2.heap.size, 1, none⟩) (fun e => absurd (HO2.out.lt _ e).2 (Nat.lt_irrefl _)) (.int .i64 (intS (stS s T) 8)))
                have HK1' := Lib.hid ((HKa.out.same (hk.mono (G := fun g => H0 < g) (fun g hg => by unfold One at hg; omega))).setCell (p := ⟨w2.heap.size, 1, none⟩) (.inl (by show H0 < w2.heap.size; omega)) (.int .i64 (intS (stS s T) 8)))
                clear hA1 hb hk
                have hs9 : w1.heap.size ≤ w3.heap.size := by have := HK1'.out.size; simp at this; omega
                go_wp2_with (at_builtin; (refine wpList_append_any _ rfl (.tmp 104) (.tmp 106) _ rfl w1.heap.size 48 i0 _ 3 24 Try.underlying34 hi0 hz0 hz1 hz2 rfl (by decide) _ l.length (actsC l) rfl (HO1'.out.alloc _) (w3.heap.size + 1) (some ⟨w3.heap.size, 0, none⟩) 1 1 (actC ((3, intS (stS s T) 8, 0) : A3)) rfl (reads_at (w3.setCell ⟨w2.heap.size, 1, none⟩ (.int .i64 (intS (stS s T) 8))) _ ((3, intS (stS s T) 8, 0) : A3) (w3.heap.size) (by simp)) (one_act _) (by unfold maxLen; omega) (by omega) (by simp; omega) ?_; intro v6 w6 hown hgrow hat; have HS : Hid (∀ (m : Nat) (i : Value), m = l.length → i = .int .i64 ((m + 1 : Nat) : Int) → ∃ k : Nat, k ≤ n ∧ i = .int .i64 k ∧ RefRel w1 H0 w1.heap.size nodes ws seed k v6 w6) := Lib.hid (fun m i hm hi => rref_step (x := ((3, intS (stS s T) 8, 0) : A3)) (by omega) HT.out HL.out HQ.out rfl HO1'.out HB1'.out HK1'.out (by simp; omega) hown hgrow hm hi (by omega)); clear hown hgrow hat))
                go_roundw
                case rel => exact HS.out l.length _ rfl (by go_num)
                case measure => simp [intOf]; omega
              · have HA := Lib.hid (Blkf.new_at (n := w2.heap.size) w2 48 (0, 0) #[.int .i64 4, .int .i64 0, .int .i64 0] rfl)
                have N : Hid (w1.heap.size ≠ w2.heap.size) := Lib.hid (by have := HB2.out.lt; omega)
                have HBa := Lib.hid (HB2.out.alloc (.cells #[.int .i64 4, .int .i64 0, .int .i64 0] 48))
                have HOa := Lib.hid (HO2.out.alloc (.cells #[.int .i64 4, .int .i64 0, .int .i64 0] 48))
                have HKa := Lib.hid (HK2.out.alloc (.cells #[.int .i64 4, .int .i64 0, .int .i64 0] 48))
                go_wp2_with fail
                refine (rint_any w1.heap.size (stS s T) 8 _ HBa.out (by decide)).mono ?_
                rintro e w3 ⟨rfl, hb, hk⟩
                have hA1 := hk.blk HA.out (fun e => by unfold One at e; exact N.out e.symm)
                obtain ⟨a0, a1, a2, f0, f1, f2, la⟩ := three hA1
                have HA1 := Lib.hid (hA1.set_ 1 (.int .i64 (intS (stS s T) 8)))
                have HB1' := Lib.hid (hb.far (p := ⟨w2.heap.size, 1, none⟩) N.out (.int .i64 (intS (stS s T) 8)))
                have HO1' := Lib.hid (ownsRow_setCell_other (row_one HOa.out HBa.out (by decide) hk) (a := ⟨w2.heap.size, 1, none⟩) (fun e => absurd (HO2.out.lt _ e).2 (Nat.lt_irrefl _)) (.int .i64 (intS (stS s T) 8)))
                have HK1' := Lib.hid ((HKa.out.same (hk.mono (G := fun g => H0 < g) (fun g hg => by unfold One at hg; omega))).setCell (p := ⟨w2.heap.size, 1, none⟩) (.inl (by show H0 < w2.heap.size; omega)) (.int .i64 (intS (stS s T) 8)))
                clear hA1 hb hk
                go_wp2_with fail
                refine (rint_any w1.heap.size (stS (stS s T) 8) 256 _ HB1'.out (by decide)).mono ?_
                clear a0 a1 a2 f0 f1 f2 la
                rintro e w4 ⟨rfl, hb, hk⟩
                have hA2 := hk.blk HA1.out (fun e => by unfold One at e; exact N.out e.symm)
                obtain ⟨a0, a1, a2, f0, f1, f2, la⟩ := three hA2
                have HA2 := Lib.hid (hA2.set_ 2 (.int .i64 (intS (stS (stS s T) 8) 256)))
                have HB2' := Lib.hid (hb.far (p := ⟨w2.heap.size, 2, none⟩) N.out (.int .i64 (intS (stS (stS s T) 8) 256)))
                have HO2' := Lib.hid (ownsRow_setCell_other (row_one HO1'.out HB1'.out (by decide) hk) (a := ⟨w2.heap.size, 2, none⟩) (fun e => absurd (HO2.out.lt _ e).2 (Nat.lt_irrefl _)) (.int .i64 (intS (stS (stS s T) 8) 256)))
                have HK2' := Lib.hid ((HK1'.out.same (hk.mono (G := fun g => H0 < g) (fun g hg => by unfold One at hg; omega))).setCell (p := ⟨w2.heap.size, 2, none⟩) (.inl (by show H0 < w2.heap.size; omega)) (.int .i64 (intS (stS (stS s T) 8) 256)))
                clear hA2 hb hk
                have hs9 : w1.heap.size ≤ w4.heap.size := by have := HK2'.out.size; simp at this; omega
                go_wp2_with (at_builtin; (refine wpList_append_any _ rfl (.tmp 104) (.tmp 106) _ rfl w1.heap.size 48 i0 _ 3 24 Try.underlying34 hi0 hz0 hz1 hz2 rfl (by decide) _ l.length (actsC l) rfl (HO2'.out.alloc _) (w4.heap.size + 1) (some ⟨w4.heap.size, 0, none⟩) 1 1 (actC ((4, intS (stS s T) 8, intS (stS (stS s T) 8) 256) : A3)) rfl (reads_at (w4.setCell ⟨w2.heap.size, 2, none⟩ (.int .i64 (intS (stS (stS s T) 8) 256))) _ ((4, intS (stS s T) 8, intS (stS (stS s T) 8) 256) : A3) (w4.heap.size) (by simp)) (one_act _) (by unfold maxLen; omega) (by omega) (by simp; omega) ?_; intro v6 w6 hown hgrow hat; have HS : Hid (∀ (m : Nat) (i : Value), m = l.length → i = .int .i64 ((m + 1 : Nat) : Int) → ∃ k : Nat, k ≤ n ∧ i = .int .i64 k ∧ RefRel w1 H0 w1.heap.size nodes ws seed k v6 w6) := Lib.hid (fun m i hm hi => rref_step (x := ((4, intS (stS s T) 8, intS (stS (stS s T) 8) 256) : A3)) (by omega) HT.out HL.out HQ.out rfl HO2'.out HB2'.out HK2'.out (by simp; omega) hown hgrow hm hi (by omega)); clear hown hgrow hat))
                go_roundw
                case rel => exact HS.out l.length _ rfl (by go_num)
                case measure => simp [intOf]; omega
              · have HA := Lib.hid (Blkf.new_at (n := w2.heap.size) w2 48 (0, 0) #[.int .i64 5, .int .i64 0, .int .i64 0] rfl)
                have N : Hid (w1.heap.size ≠ w2.heap.size) := Lib.hid (by have := HB2.out.lt; omega)
                have HBa := Lib.hid (HB2.out.alloc (.cells #[.int .i64 5, .int .i64 0, .int .i64 0] 48))
                have HOa := Lib.hid (HO2.out.alloc (.cells #[.int .i64 5, .int .i64 0, .int .i64 0] 48))
                have HKa := Lib.hid (HK2.out.alloc (.cells #[.int .i64 5, .int .i64 0, .int .i64 0] 48))
                go_wp2_with fail
                refine (rint_any w1.heap.size (stS s T) 8 _ HBa.out (by decide)).mono ?_
                rintro e w3 ⟨rfl, hb, hk⟩
                have hA1 := hk.blk HA.out (fun e => by unfold One at e; exact N.out e.symm)
                obtain ⟨a0, a1, a2, f0, f1, f2, la⟩ := three hA1
                have HA1 := Lib.hid (hA1.set_ 1 (.int .i64 (intS (stS s T) 8)))
                have HB1' := Lib.hid (hb.far (p := ⟨w2.heap.size, 1, none⟩) N.out (.int .i64 (intS (stS s T) 8)))
                have HO1' := Lib.hid (ownsRow_setCell_other (row_one HOa.out HBa.out (by decide) hk) (a := ⟨w2.heap.size, 1, none⟩) (fun e => absurd (HO2.out.lt _ e).2 (Nat.lt_irrefl _)) (.int .i64 (intS (stS s T) 8)))
                have HK1' := Lib.hid ((HKa.out.same (hk.mono (G := fun g => H0 < g) (fun g hg => by unfold One at hg; omega))).setCell (p := ⟨w2.heap.size, 1, none⟩) (.inl (by show H0 < w2.heap.size; omega)) (.int .i64 (intS (stS s T) 8)))
                clear hA1 hb hk
                go_wp2_with fail
                refine (rint_any w1.heap.size (stS (stS s T) 8) 256 _ HB1'.out (by decide)).mono ?_
                clear a0 a1 a2 f0 f1 f2 la
                rintro e w4 ⟨rfl, hb, hk⟩
                have hA2 := hk.blk HA1.out (fun e => by unfold One at e; exact N.out e.symm)
                obtain ⟨a0, a1, a2, f0, f1, f2, la⟩ := three hA2
                have HA2 := Lib.hid (hA2.set_ 2 (.int .i64 (intS (stS (stS s T) 8) 256)))
                have HB2' := Lib.hid (hb.far (p := ⟨w2.heap.size, 2, none⟩) N.out (.int .i64 (intS (stS (stS s T) 8) 256)))
                have HO2' := Lib.hid (ownsRow_setCell_other (row_one HO1'.out HB1'.out (by decide) hk) (a := ⟨w2.heap.size, 2, none⟩) (fun e => absurd (HO2.out.lt _ e).2 (Nat.lt_irrefl _)) (.int .i64 (intS (stS (stS s T) 8) 256)))
                have HK2' := Lib.hid ((HK1'.out.same (hk.mono (G := fun g => H0 < g) (fun g hg => by unfold One at hg; omega))).setCell (p := ⟨w2.heap.size, 2, none⟩) (.inl (by show H0 < w2.heap.size; omega)) (.int .i64 (intS (stS (stS s T) 8) 256)))
                clear hA2 hb hk
                have hs9 : w1.heap.size ≤ w4.heap.size := by have := HK2'.out.size; simp at this; omega
                go_wp2_with (at_builtin; (refine wpList_append_any _ rfl (.tmp 104) (.tmp 106) _ rfl w1.heap.size 48 i0 _ 3 24 Try.underlying34 hi0 hz0 hz1 hz2 rfl (by decide) _ l.length (actsC l) rfl (HO2'.out.alloc _) (w4.heap.size + 1) (some ⟨w4.heap.size, 0, none⟩) 1 1 (actC ((5, intS (stS s T) 8, intS (stS (stS s T) 8) 256) : A3)) rfl (reads_at (w4.setCell ⟨w2.heap.size, 2, none⟩ (.int .i64 (intS (stS (stS s T) 8) 256))) _ ((5, intS (stS s T) 8, intS (stS (stS s T) 8) 256) : A3) (w4.heap.size) (by simp)) (one_act _) (by unfold maxLen; omega) (by omega) (by simp; omega) ?_; intro v6 w6 hown hgrow hat; have HS : Hid (∀ (m : Nat) (i : Value), m = l.length → i = .int .i64 ((m + 1 : Nat) : Int) → ∃ k : Nat, k ≤ n ∧ i = .int .i64 k ∧ RefRel w1 H0 w1.heap.size nodes ws seed k v6 w6) := Lib.hid (fun m i hm hi => rref_step (x := ((5, intS (stS s T) 8, intS (stS (stS s T) 8) 256) : A3)) (by omega) HT.out HL.out HQ.out rfl HO2'.out HB2'.out HK2'.out (by simp; omega) hown hgrow hm hi (by omega)); clear hown hgrow hat))
                go_roundw
                case rel => exact HS.out l.length _ rfl (by go_num)
                case measure => simp [intOf]; omega
              · have HA := Lib.hid (Blkf.new_at (n := w2.heap.size) w2 48 (0, 0) #[.int .i64 6, .int .i64 0, .int .i64 0] rfl)
                have N : Hid (w1.heap.size ≠ w2.heap.size) := Lib.hid (by have := HB2.out.lt; omega)
                have HBa := Lib.hid (HB2.out.alloc (.cells #[.int .i64 6, .int .i64 0, .int .i64 0] 48))
                have HOa := Lib.hid (HO2.out.alloc (.cells #[.int .i64 6, .int .i64 0, .int .i64 0] 48))
                have HKa := Lib.hid (HK2.out.alloc (.cells #[.int .i64 6, .int .i64 0, .int .i64 0] 48))
                have hs9 : w1.heap.size ≤ w2.heap.size + 1 := by have := HKa.out.size; simp at this; omega
                go_wp2_with (at_builtin; (refine wpList_append_any _ rfl (.tmp 104) (.tmp 106) _ rfl w1.heap.size 48 i0 _ 3 24 Try.underlying34 hi0 hz0 hz1 hz2 rfl (by decide) _ l.length (actsC l) rfl (HOa.out.alloc _) (w2.heap.size + 1 + 1) (some ⟨w2.heap.size + 1, 0, none⟩) 1 1 (actC ((6, 0, 0) : A3)) rfl (reads_at (w2.alloc (.cells #[.int .i64 6, .int .i64 0, .int .i64 0] 48)) _ ((6, 0, 0) : A3) (w2.heap.size + 1) (by simp)) (one_act _) (by unfold maxLen; omega) (by omega) (by simp; omega) ?_; intro v6 w6 hown hgrow hat; have HS : Hid (∀ (m : Nat) (i : Value), m = l.length → i = .int .i64 ((m + 1 : Nat) : Int) → ∃ k : Nat, k ≤ n ∧ i = .int .i64 k ∧ RefRel w1 H0 w1.heap.size nodes ws seed k v6 w6) := Lib.hid (fun m i hm hi => rref_step (x := ((6, 0, 0) : A3)) (by omega) HT.out HL.out HQ.out rfl HOa.out HBa.out HKa.out (by simp; omega) hown hgrow hm hi (by omega)); clear hown hgrow hat))
                go_roundw
                case rel => exact HS.out l.length _ rfl (by go_num)
                case measure => simp [intOf]; omega
        · obtain rfl : l.length = n := by omega
          go_wp2
          go_ret
          exact ⟨_, rfl, l, rfl, ⟨s, HL.out⟩, HO.out.lower (by omega), HBW.out.trans (HKK.out.below (fun i hi => by omega) (by omega))⟩
end Go.Proofs.Ytkiicgdfibncfaa
