/- Random. -/
import Derived.Test.YtkiicgdfibncfaaSchG
namespace Go.Proofs.Ytkiicgdfibncfaa
open Go.RowKit

/-- The acts of a seed: k of them; and the source behind them. -/
inductive RandL (nodes : Int) (ws : List Int) : Int → List A3 → Int → Prop
  | nil {s : Int} : RandL nodes ws s [] s
  | snoc {s0 s : Int} {l : List A3} {k : Nat} (h : RandL nodes ws s0 l s) (hk : isKind ws (intS s (wsum ws 7)) k) : RandL nodes ws s0 (l ++ [actV (stS s (wsum ws 7)) k nodes]) (actT (stS s (wsum ws 7)) k nodes)
theorem RandL.one {nodes : Int} {ws : List Int} (h7 : ws.length = 7) (hw : okW ws) {s0 : Int} : ∀ {l l' : List A3} {s s' : Int}, RandL nodes ws s0 l s → RandL nodes ws s0 l' s' → l.length = l'.length → l = l' ∧ s = s' := by
  intro l l' s s' h
  induction h generalizing l' s' with
  | nil =>
    intro h' hl
    cases h' with
    | nil => exact ⟨rfl, rfl⟩
    | snoc h k => simp at hl
  | snoc h hk ih =>
    intro h' hl
    cases h' with
    | nil => simp at hl
    | snoc h2 hk2 =>
      obtain ⟨rfl, rfl⟩ := ih h2 (by simpa using hl)
      obtain rfl := isKind_one h7 hw hk hk2
      exact ⟨rfl, rfl⟩
/-- May there be acts of these numbers? -/
def okR (nodes n : Int) (ws : List Int) : Prop := okW ws ∧ 0 < wsum ws 7 ∧ 1 ≤ n ∧ n ≤ 100000 ∧ 1 ≤ nodes ∧ nodes ≤ 16
def RndRel (w1 : World) (H : Nat) (nodes : Int) (ws : List Int) (seed : Int) (k : Nat) (v : Value) (wr : World) : Prop :=
  ∃ l s, l.length = k ∧ RandL nodes ws seed l s ∧ OwnA w1.heap.size wr v l ∧ Blk wr w1.heap.size 51 #[.int .u64 s] ∧ Keeps (fun g => H < g) w1 wr
theorem OwnA.lower {B B' : Nat} {w : World} {v : Value} {l : List A3} (h : OwnA B w v l) (hB : B' ≤ B) : OwnA B' w v l := by
  refine ⟨h.1, ?_⟩
  rcases h.2 with h2 | ⟨g, cap, cur, h1, hb, r⟩
  · exact .inl h2
  · exact .inr ⟨g, cap, cur, h1, by omega, r⟩
theorem OwnA.drew {B : Nat} {w : World} {v : Value} {l : List A3} (h : OwnA B w v l) : OwnA B w.drew v l := h
theorem list7 {ws : List Int} (h7 : ws.length = 7) : ∃ a b c d e f g, ws = [a, b, c, d, e, f, g] := by
  match ws, h7 with
  | [a, b, c, d, e, f, g], _ => exact ⟨_, _, _, _, _, _, _, rfl⟩
set_option maxHeartbeats 4000000 in
theorem random_yes (seed nodes : Int) (n : Nat) (ws : List Int) (h7 : ws.length = 7) (W : World) (h : okR nodes n ws) :
    Calls Try.prog 17 #[.int .u64 seed, .int .i64 nodes, .int .i64 n, wV ws] W fun e w' => ∃ v, e = .returned v ∧ ∃ l s, l.length = n ∧ RandL nodes ws seed l s ∧ OwnA W.heap.size w' v l ∧ Below W.heap.size W w' := by
  obtain ⟨i0, hi0, hz0, hz1, hz2⟩ := info_parts info_act
  obtain ⟨hw, hs, hn1, hn2, hd1, hd2⟩ := h
  have HKD := Lib.hid (fun x W a b => kind_any ws h7 hw x W a b)
  have HS := Lib.hid (fun W => sum_yes ws h7 hw W)
  have HSB := Lib.hid (wsum_le ws 7 (by omega) (fun j _ => okW_wg hw j))
  have e1 : decide (0 < wsum ws 7) = true := by simpa using hs
  generalize hT : wsum ws 7 = T at *
  have HT := Lib.hid hT
  obtain ⟨x0, x1, x2, x3, x4, x5, x6, hws⟩ : ∃ a b c d e f g, ws = [a, b, c, d, e, f, g] := list7 h7
  have HV : Hid (wV ws = .agg #[.int .i64 x0, .int .i64 x1, .int .i64 x2, .int .i64 x3, .int .i64 x4, .int .i64 x5, .int .i64 x6]) := Lib.hid (by rw [hws]; rfl)
  have HW := Lib.hid hws
  rw [HV.out]
  clear hws hw h7 hT
  go_enter Try.func17, Try.ntmps17
  go_wp2_with fail
  have hsum := HS.out (W.alloc (.cells #[.int .i64 x0, .int .i64 x1, .int .i64 x2, .int .i64 x3, .int .i64 x4, .int .i64 x5, .int .i64 x6] 38))
  rw [HV.out] at hsum
  refine hsum.mono ?_
  rintro e w1 ⟨rfl, hb1⟩
  have HB1 := Lib.hid hb1
  clear hb1 hsum
  go_wp2_with fail
  refine (new_any seed _).mono ?_
  rintro e w2 ⟨rfl, rfl⟩
  have hbox : Blk w1 W.heap.size 38 #[.int .i64 x0, .int .i64 x1, .int .i64 x2, .int .i64 x3, .int .i64 x4, .int .i64 x5, .int .i64 x6] := (Blkf.new_at W _ _ _ rfl).below HB1.out (by simp)
  have HX := Lib.hid hbox
  have hs1 : W.heap.size < w1.heap.size := Nat.lt_of_lt_of_le (by simp) HB1.out.size
  clear hbox
  have HBW : Hid (Below W.heap.size W w1) := Lib.hid (((Below.refl _ W).alloc (Nat.le_refl _) _).trans (HB1.out.mono (by simp)))
  have HR1 : Hid (Keeps (fun g => W.heap.size < g) w1 (w1.alloc (.cells #[.int .u64 seed] 51))) := Lib.hid ((Keeps.refl _ _).alloc _)
  have hnm : nodes < 9223372036854775808 := by omega
  have hTm : T < 9223372036854775808 := by have := HSB.out.2; omega
  have HTI : Hid (∀ s, 0 ≤ intS s T ∧ intS s T < T) := Lib.hid (fun s => by
    unfold intS
    rw [if_neg (by omega)]
    exact ⟨Int.emod_nonneg _ (by omega), Int.emod_lt_of_pos _ hs⟩)
  go_wp2_with fail
  go_loopw [12, 39] (fun v i wr => ∃ k : Nat, k ≤ n ∧ i = .int .i64 k ∧ RndRel w1 W.heap.size nodes ws seed k v wr) (fun _ i _ => n - (intOf i).toNat)
  case atStart => exact ⟨0, by omega, rfl, [], seed, rfl, .nil, World.ownsRow_nil _ _ _ _, Blkf.new_at _ _ _ _ rfl, HR1.out⟩
  case round =>
    obtain ⟨k, hk, rfl, l, s, hl, hL, hO, hB, hK⟩ := hrel
    subst hl
    obtain ⟨A1, c1, rfl, _⟩ := hO.rd
    have HL := Lib.hid hL
    have HO := Lib.hid hO
    have HBB := Lib.hid hB
    have HKK := Lib.hid hK
    clear hL hO hB hK
    by_cases hkl : l.length < n
    · have hll : l.length < 100000 := by omega
      go_wp2_with fail
      have hX := HKK.out.drew.blk HX.out (by simp)
      have s0 := fun W' (h : Keeps (fun g => W.heap.size < g) wr.drew W') => (h.blk hX (by simp)).cell 0
      have s1 := fun W' (h : Keeps (fun g => W.heap.size < g) wr.drew W') => (h.blk hX (by simp)).cell 1
      have s2 := fun W' (h : Keeps (fun g => W.heap.size < g) wr.drew W') => (h.blk hX (by simp)).cell 2
      have s3 := fun W' (h : Keeps (fun g => W.heap.size < g) wr.drew W') => (h.blk hX (by simp)).cell 3
      have s4 := fun W' (h : Keeps (fun g => W.heap.size < g) wr.drew W') => (h.blk hX (by simp)).cell 4
      have s5 := fun W' (h : Keeps (fun g => W.heap.size < g) wr.drew W') => (h.blk hX (by simp)).cell 5
      have s6 := fun W' (h : Keeps (fun g => W.heap.size < g) wr.drew W') => (h.blk hX (by simp)).cell 6
      refine wp_region_plan_by (Keeps (fun g => W.heap.size < g)) ⟨Keeps.refl _, Keeps.same⟩ [(0, false), (1, false), (2, false), (3, false), (5, false), (7, false), (4, true), (6, true), (8, true), (9, true), (10, true), (11, false)] (by kernel_rfl) (by kernel_rfl) (fun _ d _ _ _ h => by cases d <;> exact h) ?_
      iterate 6 (refine plan_take (v := ?_) rfl (by kernel_rfl) ?_ ?_; rotate_left; (focus (intro w' hw'; go_simp; try with_reducible rfl)); simp only [Act.put, List.setIfInBounds_toArray, List.set_cons_zero, List.set_cons_succ])
      clear s0 s1 s2 s3 s4 s5 s6 hX
      refine plan_call rfl (by kernel_rfl) (by go_simp; exact ⟨rfl, rfl⟩) ?_
      refine (int_any w1.heap.size s T _ HBB.out.drew hTm).mono ?_
      rintro e w3 ⟨rfl, hb3, hk3⟩
      refine ⟨_, rfl, hk3.mono (fun g hg => by unfold One at hg; omega), ?_⟩
      simp only [Act.put, List.setIfInBounds_toArray, List.set_cons_zero, List.set_cons_succ]
      have HB3 := Lib.hid hb3
      have HK3 := Lib.hid (HKK.out.drew.same (hk3.mono (G := fun g => W.heap.size < g) (fun g hg => by unfold One at hg; omega)))
      have HO3 := Lib.hid (hk3.row HO.out.drew (fun g hg h1 => by
        have := row_ne_blk HO.out HBB.out (by decide)
        unfold One at h1
        rw [h1] at hg
        exact this hg))
      clear hb3 hk3
      refine plan_call rfl (by kernel_rfl) (by go_simp; exact ⟨rfl, rfl⟩) ?_
      have hkd := HKD.out (intS s T) w3 (HTI.out s).1 (HTI.out s).2
      rw [HV.out] at hkd
      refine hkd.mono ?_
      clear hkd
      rintro e w4 ⟨q, hq, rfl, rfl⟩
      have HQ := Lib.hid hq
      have hq7 := hq.1
      clear hq
      refine ⟨_, rfl, (Keeps.refl _ _).alloc _, ?_⟩
      simp only [Act.put, List.setIfInBounds_toArray, List.set_cons_zero, List.set_cons_succ]
      refine plan_call rfl (by kernel_rfl) (by go_simp; exact ⟨rfl, rfl⟩) ?_
      refine (act_any w1.heap.size (stS s T) nodes q hq7 _ (HB3.out.alloc _) hnm).mono ?_
      rintro e w5 ⟨rfl, hb5, hk5⟩
      obtain ⟨x, hx⟩ : ∃ x, x = actV (stS s T) q nodes := ⟨_, rfl⟩
      rw [← hx]
      have HXX := Lib.hid hx
      clear hx
      unfold actVal
      refine ⟨_, rfl, hk5.mono (fun g hg => by unfold One at hg; omega), ?_⟩
      simp only [Act.put, List.setIfInBounds_toArray, List.set_cons_zero, List.set_cons_succ]
      have HB5 := Lib.hid hb5
      have HK5 := Lib.hid ((HK3.out.alloc _).same (hk5.mono (G := fun g => W.heap.size < g) (fun g hg => by unfold One at hg; omega)))
      have HO5 := Lib.hid (hk5.row (HO3.out.alloc _) (fun g hg h1 => by
        have := row_ne_blk HO3.out HB3.out (by decide)
        unfold One at h1
        rw [h1] at hg
        exact this hg))
      clear hb5 hk5
      refine plan_turn rfl (by kernel_rfl) (fun K hK => ?_)
      go_simp
      refine hK _ _ ⟨(Keeps.refl _ _).alloc _, ?_⟩
      clear hK K
      refine plan_turn rfl (by kernel_rfl) (fun K hK => ?_)
      have hs5 : w1.heap.size ≤ w5.heap.size := HK5.out.size
      refine wp_append_any _ (.tmp 41) (.tmp 50) _ rfl w1.heap.size 48 i0 _ 3 24 Try.underlying34 hi0 hz0 hz1 hz2 rfl (by decide) _ l.length (actsC l) rfl (HO5.out.alloc _) (w5.heap.size + 1) (some ⟨w5.heap.size, 0, none⟩) 1 1 (actC x) rfl (reads_act w5 _ x) (one_act x) (by unfold maxLen; omega) (by omega) (by simp; omega) ?_
      intro v6 w6 hown hgrow hat
      have hrow : ∀ g, (Value.slice A1 l.length c1).ownBlock = some g → W.heap.size < g := fun g hg => by have := (HO.out.lt g hg).1; omega
      have HO6 : Hid (OwnA w1.heap.size w6 v6 (l ++ [x])) := Lib.hid (by
        unfold OwnA
        rw [actsC_append, List.length_append]
        simpa [actsC] using hown)
      have HB6 := Lib.hid ((HB5.out.alloc _).grown hgrow (fun e => row_ne_blk HO5.out HB5.out (by decide) e.symm))
      have HK6 := Lib.hid ((HK5.out.alloc _).grown hgrow (fun g hg => .inl (hrow g hg)))
      refine hK _ _ ⟨(Keeps.refl _ _).grown hgrow (fun g hg => .inl (hrow g hg)), ?_⟩
      clear hK K hown hgrow hat hrow
      simp only [Act.put, List.setIfInBounds_toArray, List.set_cons_zero, List.set_cons_succ]
      iterate 1 (refine plan_take (v := ?_) rfl (by kernel_rfl) ?_ ?_; rotate_left; (focus (intro w' hw'; go_simp; try with_reducible rfl)); simp only [Act.put, List.setIfInBounds_toArray, List.set_cons_zero, List.set_cons_succ])
      refine plan_end ?_
      go_wp2_with fail
      go_roundw
      case rel =>
        refine ⟨l.length + 1, hkl, by go_num, l ++ [x], actT (stS s T) q nodes, by simp, ?_, HO6.out, HB6.out, HK6.out⟩
        rw [HXX.out, ← HT.out]
        refine .snoc HL.out ?_
        rw [HT.out]
        exact HQ.out
      case measure => simp [intOf]; omega
    · obtain rfl : l.length = n := by omega
      go_wp2
      go_ret
      exact ⟨_, rfl, l, rfl, ⟨s, HL.out⟩, HO.out.lower (by omega), HBW.out.trans (HKK.out.below (fun i hi => by omega) (by omega))⟩
end Go.Proofs.Ytkiicgdfibncfaa
