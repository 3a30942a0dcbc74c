/- Beside: the walk. -/
import Derived.Test.YtocjapnagggapaaDoorClkG
namespace Go.Proofs.YtocjapnagggapaaDoor
open Go.RowKit Go.ChangeShapes

/-- Clocks in a row in memory. -/
def CsAt (w : World) (A : Option Addr) (len : Nat) (c : Nat → Nat → Nat) : Prop :=
  0 < len → ∃ b, A = some ⟨b, 0, none⟩ ∧ b < w.heap.size ∧ ∀ i, i < len → w.rangeAt b (i * 16) (fnC 16 (c i)).toList
theorem clC_get (f : Nat → Fc) : ∀ (n i j : Nat), i < n → j < 16 → (clC f n)[i * 16 + j]? = (fnC 16 (tellC f i)).toList[j]?
  | n + 1, i, j, hi, hj => by
    rw [clC_succ]
    rcases Nat.lt_or_ge i n with h | h
    · rw [List.getElem?_append_left (by rw [clC_len]; omega)]
      exact clC_get f n i j h hj
    · obtain rfl : i = n := by omega
      rw [List.getElem?_append_right (by rw [clC_len]; omega), clC_len, Nat.add_sub_cancel_left]
theorem csAt_of {w : World} {base len : Nat} {A : Option Addr} {cap : Nat} {f : Nat → Fc} (h : w.ownsRow base 26 16 (.slice A len cap) len (clC f len)) : CsAt w A len (tellC f) := fun hp => by
  rcases h.2 with ⟨_, h0⟩ | ⟨g, cp, cur, hv, _, hg, hc, _, hs, ht⟩
  · omega
  · injection hv with hv _ _
    refine ⟨g, hv, Blkf.lt hg, fun i hi j v hj => ?_⟩
    have hj16 : j < 16 := by
      rcases Nat.lt_or_ge j 16 with h1 | h1
      · exact h1
      · rw [List.getElem?_eq_none (by simpa [fnC_size] using h1)] at hj; cases hj
    rw [← clC_get f len i j hi hj16, ← ht, List.getElem?_take] at hj
    rw [if_pos (by omega)] at hj
    have hb : Blk w g 26 cur := hg
    rw [hb.cell]
    simpa using hj
theorem CsAt.ext {w w' : World} {A : Option Addr} {len : Nat} {c : Nat → Nat → Nat} (h : CsAt w A len c) (hb : Ext w w') : CsAt w' A len c := fun hp => by
  obtain ⟨b, e, hl, hc⟩ := h hp
  exact ⟨b, e, Nat.lt_of_lt_of_le hl hb.size, fun i hi j v hj => (hb.cell (p := ⟨b, i * 16 + j, none⟩) hl).trans (hc i hi j v hj)⟩
abbrev ciN (c : Nat → Nat) : Nat → Int := fun i => (c i : Int)
def okC (c : Nat → Nat) : Prop := ∀ i, i < 16 → (Lit.int .i64 (ciN c i)).wf = true
theorem tell_wf (f : Nat → Fc) {i : Nat} (hi : i < 40) : okC (tellC f i) := fun j hj => by
  have h : tellC f i j < 1000000 := by
    by_cases ho : (f i).ok = true
    · rw [tell_clk ho]
      have := clk_le (f := f) i j
      omega
    · unfold tellC
      rw [if_neg ho]
      decide
  simp only [ciN, Lit.wf, IntKind.min, IntKind.max, IntKind.signed, IntKind.bits]
  simp
  omega
theorem ahead_nat (c d : Nat → Nat) (W : World) (hc : okC c) (hd : okC d) :
    Calls Tryd.prog 12 #[.agg (fnC 16 c), .agg (fnC 16 d)] W fun e w' => e = .returned (.bool (aheadB (ciN c) (ciN d))) ∧ Ext W w' := ahead_any (ciN c) (ciN d) W hc hd
theorem neq_nat (W : World) (c d : Nat → Nat) (hc : okC c) (hd : okC d) : (binOp .neq 26 (.agg (fnC 16 c)) (.agg (fnC 16 d))).run Tryd.prog W = .ok (.bool (!allEq (ciN c) (ciN d))) W := neq16 W (ciN c) (ciN d) hc hd
theorem arr_guard : Tryd.prog.eqGuardType Tryd.prog.depth 26 = false := by kernel_rfl
theorem execOp_neq {o : Oper} {a : Act} {w : World} (t : TypeId) (hg : Tryd.prog.eqGuardType Tryd.prog.depth t = false) (x y : Operand) (u v : Array Value) {r : Bool} (ho : o.op = .binOp .neq t x y t) (hx : a.eval x = .agg u) (hy : a.eval y = .agg v) (h : (binOp .neq t (.agg u) (.agg v)).run Tryd.prog w = .ok (.bool r) w) : (execOp a.eval o).run Tryd.prog w = .ok (.value (.bool r)) w := by
  unfold execOp
  simp only [ho, hx, hy]
  simp [h, hg, eqGuard, Result.andThen]
def besB (f : Nat → Fc) (i k : Nat) : Bool := (f i).ok && (f k).ok && !allEq (ciN (tellC f i)) (ciN (tellC f k)) && !aheadB (ciN (tellC f i)) (ciN (tellC f k)) && !aheadB (ciN (tellC f k)) (ciN (tellC f i))
def besRow (f : Nat → Fc) (i : Nat) : Nat → Nat
  | 0 => 0
  | k + 1 => besRow f i k + one (besB f i k)
def besTot (f : Nat → Fc) : Nat → Nat
  | 0 => 0
  | i + 1 => besTot f i + besRow f i i
theorem besRow_le (f : Nat → Fc) (i : Nat) : ∀ k, besRow f i k ≤ k
  | 0 => Nat.le_refl _
  | k + 1 => by
    have := besRow_le f i k
    unfold besRow one
    split <;> omega
theorem besTot_le (f : Nat → Fc) : ∀ i, besTot f i ≤ i * i
  | 0 => Nat.le_refl _
  | i + 1 => by
    have h1 := besTot_le f i
    have h2 := besRow_le f i i
    unfold besTot
    have : (i + 1) * (i + 1) = i * i + i + i + 1 := by rw [Nat.add_mul, Nat.mul_add]; omega
    omega
set_option maxRecDepth 100000 in
set_option maxHeartbeats 8000000 in
theorem beside_any (A : Option Addr) (len cap : Nat) (C : Nat → Array Value) (f : Nat → Fc) (W : World) (hl : len ≤ 40) (h : FsAt W A len C f) :
    Calls Tryd.prog 8 #[.slice A len cap] W fun e w' => e = .returned (.int .i64 (besTot f len : Int)) ∧ Below W.heap.size W w' := by
  have HFS := Lib.hid h
  have HTL := Lib.hid (besTot_le f)
  have HRL := Lib.hid (besRow_le f)
  clear h
  go_enter Tryd.func8, Tryd.ntmps8
  go_wp2_with fail
  refine (clocks_any A len cap C f W hl HFS.out).mono ?_
  rintro e w1 ⟨v, rfl, hrow, hb1⟩
  obtain ⟨cA, cp, rfl⟩ := row_form hrow
  have HCS := Lib.hid (csAt_of hrow)
  have HFS1 := Lib.hid (HFS.out.below hb1)
  have HB1 := Lib.hid hb1
  clear hrow hb1
  go_wp2_with fail
  go_loopw [4, 12] (fun n i wr => ∃ k : Nat, k ≤ len ∧ i = .int .i64 (k : Int) ∧ n = .int .i64 (besTot f k : Int) ∧ Ext w1 wr) (fun _ i _ => len - (intOf i).toNat)
  case atStart => exact ⟨0, by omega, rfl, rfl, Below.refl _ _⟩
  case round =>
    obtain ⟨i, hi, rfl, rfl, hE⟩ := hrel
    have HE := Lib.hid hE
    clear hE
    by_cases hil : i < len
    · obtain ⟨b, o, rfl, hbl, hcc⟩ := HFS1.out (by omega)
      obtain ⟨cb, rfl, hcl, hcr⟩ := HCS.out (by omega)
      obtain ⟨hrg, hfc⟩ := hcc i hil
      have HC := Lib.hid hfc
      have HCC := Lib.hid hcc
      have HCR := Lib.hid hcr
      have HBL := Lib.hid hbl
      have HCL := Lib.hid hcl
      have HRG : Hid (wr.rangeAt b (o + i * 16) (C i).toList) := Lib.hid (fun j v hj => (HE.out.cell (p := ⟨b, o + i * 16 + j, none⟩) hbl).trans (hrg j v hj))
      have hbx : Blk (wr.alloc (.cells (C i) 40)) wr.heap.size 40 (C i) := Blkf.new_at _ _ _ _ rfl
      have HBX := Lib.hid hbx
      have HE1 := Lib.hid (HE.out.trans (ext_alloc' wr (.cells (C i) 40)))
      have zf := zero_fact
      have hii : (i : Int) < (len : Int) := by omega
      clear hbx hrg hfc hcc hbl hcl hcr HE
      go_wp2_with (first | ((with_reducible refine wl_load 40 (.tmp 15) rfl ?_ b (o + i * 16) (C i) ?_ HRG.out ?_ ?_); exact rfl; exact rfl; exact HC.out.row) | ((with_reducible refine wl_store_new 40 (.tmp 6) (.tmp 16) rfl ?_ wr (World.heap wr).size 40 factZ (C i) ?_ ?_ ?_ ?_ ?_ ?_ ?_ ?_); exact rfl; exact rfl; exact rfl; exact rfl; exact rfl; exact (HC.out.size.symm); exact HC.out.row; exact HC.out.one))
      generalize wr.alloc (.cells (C i) 40) = w2 at *
      generalize wr.heap.size = fb at *
      clear HRG zf
      go_loopw [4, 18] (fun n q wx => ∃ k : Nat, k ≤ i ∧ q = .int .i64 (k : Int) ∧ n = .int .i64 ((besTot f i + besRow f i k : Nat) : Int) ∧ Ext w2 wx) (fun _ q _ => i - (intOf q).toNat)
      case atStart => exact ⟨0, by omega, rfl, rfl, Below.refl _ _⟩
      case round =>
        obtain ⟨k, hk, rfl, rfl, hE2⟩ := hrel
        rename World => wx
        by_cases hki : k < i
        · have hkl : k < len := by omega
          have hik : (k : Int) < (i : Int) := by omega
          have hkk : (k : Int) < (len : Int) := by omega
          have hE3 := HE1.out.trans hE2
          have s1 : ∀ W', Ext wx.drew W' → W'.cell? ⟨fb, 1, none⟩ = some (.int .i64 (f i).node) := fun W' h => (h.cell (p := ⟨fb, 1, none⟩) (Nat.lt_of_lt_of_le HBX.out.lt hE2.size)).trans ((hE2.cell (p := ⟨fb, 1, none⟩) HBX.out.lt).trans ((HBX.out.cell 1).trans HC.out.node))
          have s2 : ∀ W', Ext wx.drew W' → W'.cell? ⟨b, o + k * 16 + 1, none⟩ = some (.int .i64 (f k).node) := fun W' h => (h.cell (p := ⟨b, o + k * 16 + 1, none⟩) (Nat.lt_of_lt_of_le HBL.out hE3.size)).trans ((hE3.cell (p := ⟨b, o + k * 16 + 1, none⟩) HBL.out).trans ((HCC.out k hkl).1 1 _ (by rw [Array.getElem?_toList]; exact (HCC.out k hkl).2.node)))
          have si : ∀ W', Ext wx.drew W' → W'.rangeAt cb (i * 16) (fnC 16 (tellC f i)).toList := fun W' h j v hj => (h.cell (p := ⟨cb, i * 16 + j, none⟩) (Nat.lt_of_lt_of_le HCL.out hE3.size)).trans ((hE3.cell (p := ⟨cb, i * 16 + j, none⟩) HCL.out).trans (HCR.out i hil j v hj))
          have sk : ∀ W', Ext wx.drew W' → W'.rangeAt cb (k * 16) (fnC 16 (tellC f k)).toList := fun W' h j v hj => (h.cell (p := ⟨cb, k * 16 + j, none⟩) (Nat.lt_of_lt_of_le HCL.out hE3.size)).trans ((hE3.cell (p := ⟨cb, k * 16 + j, none⟩) HCL.out).trans (HCR.out k hkl j v hj))
          have hwi : okC (tellC f i) := tell_wf f (by omega)
          have hwk : okC (tellC f k) := tell_wf f (by omega)
          have HE2 := Lib.hid hE2
          have HN : Hid (besTot f i + besRow f i k ≤ 2000) := Lib.hid (by
            have h1 := HTL.out i
            have h2 := HRL.out i k
            have : i * i ≤ 40 * 40 := Nat.mul_le_mul (by omega) (by omega)
            omega)
          have hNB : ∀ q, q = besB f i k → besRow f i (k + 1) = besRow f i k + one q := fun q h => by rw [h]; rfl
          have HNB := Lib.hid hNB
          clear hE2 hE3 hNB
          generalize hN1 : besTot f i + besRow f i k = N1 at *
          have HN1 := Lib.hid hN1
          clear hN1
          have hnN := HN.out
          go_wp2_with fail
          cases hni : (f i).ok with
          | false =>
            have hni' : (decide (0 ≤ (f i).node) && decide ((f i).node < 16)) = false := hni
            refine wp_region_plan [(0, false), (1, false), (2, false), (3, false), (4, false), (5, false), (6, false), (7, false), (8, false), (9, false), (10, false), (11, false), (12, false), (13, false), (14, false), (15, false), (16, false), (17, false), (18, false), (19, false), (20, false), (21, false), (22, false), (23, false), (24, false), (25, false), (26, false), (27, false), (28, false), (29, false), (30, false), (31, false), (32, false), (33, false), (34, false), (35, false), (36, false), (37, false), (38, false), (39, false), (40, false), (41, false), (42, false), (43, false), (44, false), (45, false)] (by kernel_rfl) (by kernel_rfl) (fun _ d _ _ _ h => by cases d <;> exact h) ?_
            iterate 2 (refine plan_take (v := ?_) rfl (by kernel_rfl) ?_ ?_; rotate_left; (focus (intro w' hw'; try go_simp; try with_reducible rfl)); simp only [Act.put, List.setIfInBounds_toArray, List.set_cons_zero, List.set_cons_succ])
            refine plan_quiet rfl (by kernel_rfl) (fun w' => by go_simp; all_goals (first | exact ⟨rfl, rfl⟩ | rfl)) (fun w' hw' => (node_any (f i).node w').mono (fun e w'' h => by rw [hni'] at h; exact h)) ?_
            simp only [Act.put, List.setIfInBounds_toArray, List.set_cons_zero, List.set_cons_succ]
            iterate 1 (refine plan_take (v := ?_) rfl (by kernel_rfl) ?_ ?_; rotate_left; (focus (intro w' hw'; try go_simp; try with_reducible rfl)); simp only [Act.put, List.setIfInBounds_toArray, List.set_cons_zero, List.set_cons_succ])
            iterate 6 (refine plan_skip rfl (by kernel_rfl) ?_; simp only [Act.put, List.setIfInBounds_toArray, List.set_cons_zero, List.set_cons_succ])
            iterate 2 (refine plan_take (v := ?_) rfl (by kernel_rfl) ?_ ?_; rotate_left; (focus (intro w' hw'; try go_simp; try with_reducible rfl)); simp only [Act.put, List.setIfInBounds_toArray, List.set_cons_zero, List.set_cons_succ])
            iterate 9 (refine plan_skip rfl (by kernel_rfl) ?_; simp only [Act.put, List.setIfInBounds_toArray, List.set_cons_zero, List.set_cons_succ])
            iterate 2 (refine plan_take (v := ?_) rfl (by kernel_rfl) ?_ ?_; rotate_left; (focus (intro w' hw'; try go_simp; try with_reducible rfl)); simp only [Act.put, List.setIfInBounds_toArray, List.set_cons_zero, List.set_cons_succ])
            iterate 10 (refine plan_skip rfl (by kernel_rfl) ?_; simp only [Act.put, List.setIfInBounds_toArray, List.set_cons_zero, List.set_cons_succ])
            iterate 2 (refine plan_take (v := ?_) rfl (by kernel_rfl) ?_ ?_; rotate_left; (focus (intro w' hw'; try go_simp; try with_reducible rfl)); simp only [Act.put, List.setIfInBounds_toArray, List.set_cons_zero, List.set_cons_succ])
            iterate 10 (refine plan_skip rfl (by kernel_rfl) ?_; simp only [Act.put, List.setIfInBounds_toArray, List.set_cons_zero, List.set_cons_succ])
            iterate 1 (refine plan_take (v := ?_) rfl (by kernel_rfl) ?_ ?_; rotate_left; (focus (intro w' hw'; try go_simp; try with_reducible rfl)); simp only [Act.put, List.setIfInBounds_toArray, List.set_cons_zero, List.set_cons_succ])
            refine plan_end ?_
            clear s1 s2 si sk
            go_wp2_with fail
            go_roundw
            case rel => exact ⟨k + 1, by omega, by go_num, by rw [HNB.out false (by show false = ((f i).ok && (f k).ok && !allEq (ciN (tellC f i)) (ciN (tellC f k)) && !aheadB (ciN (tellC f i)) (ciN (tellC f k)) && !aheadB (ciN (tellC f k)) (ciN (tellC f i))); simp [hni]), ← Nat.add_assoc, HN1.out]; exact rfl, show Ext w2 wx.drew from HE2.out.drew⟩
            case measure => simp [intOf]; omega
          | true =>
            have hni' : (decide (0 ≤ (f i).node) && decide ((f i).node < 16)) = true := hni
            cases hnk : (f k).ok with
            | false =>
              have hnk' : (decide (0 ≤ (f k).node) && decide ((f k).node < 16)) = false := hnk
              refine wp_region_plan [(0, false), (1, false), (2, false), (3, false), (4, false), (5, false), (6, false), (7, false), (8, false), (9, false), (10, false), (11, false), (12, false), (13, false), (14, false), (15, false), (16, false), (17, false), (18, false), (19, false), (20, false), (21, false), (22, false), (23, false), (24, false), (25, false), (26, false), (27, false), (28, false), (29, false), (30, false), (31, false), (32, false), (33, false), (34, false), (35, false), (36, false), (37, false), (38, false), (39, false), (40, false), (41, false), (42, false), (43, false), (44, false), (45, false)] (by kernel_rfl) (by kernel_rfl) (fun _ d _ _ _ h => by cases d <;> exact h) ?_
              iterate 2 (refine plan_take (v := ?_) rfl (by kernel_rfl) ?_ ?_; rotate_left; (focus (intro w' hw'; try go_simp; try with_reducible rfl)); simp only [Act.put, List.setIfInBounds_toArray, List.set_cons_zero, List.set_cons_succ])
              refine plan_quiet rfl (by kernel_rfl) (fun w' => by go_simp; all_goals (first | exact ⟨rfl, rfl⟩ | rfl)) (fun w' hw' => (node_any (f i).node w').mono (fun e w'' h => by rw [hni'] at h; exact h)) ?_
              simp only [Act.put, List.setIfInBounds_toArray, List.set_cons_zero, List.set_cons_succ]
              iterate 1 (refine plan_take (v := ?_) rfl (by kernel_rfl) ?_ ?_; rotate_left; (focus (intro w' hw'; try go_simp; try with_reducible rfl)); simp only [Act.put, List.setIfInBounds_toArray, List.set_cons_zero, List.set_cons_succ])
              iterate 5 (refine plan_take (v := ?_) rfl (by kernel_rfl) ?_ ?_; rotate_left; (focus (intro w' hw'; try go_simp; try with_reducible rfl)); simp only [Act.put, List.setIfInBounds_toArray, List.set_cons_zero, List.set_cons_succ])
              refine plan_quiet rfl (by kernel_rfl) (fun w' => by go_simp; all_goals (first | exact ⟨rfl, rfl⟩ | rfl)) (fun w' hw' => (node_any (f k).node w').mono (fun e w'' h => by rw [hnk'] at h; exact h)) ?_
              simp only [Act.put, List.setIfInBounds_toArray, List.set_cons_zero, List.set_cons_succ]
              iterate 2 (refine plan_take (v := ?_) rfl (by kernel_rfl) ?_ ?_; rotate_left; (focus (intro w' hw'; try go_simp; try with_reducible rfl)); simp only [Act.put, List.setIfInBounds_toArray, List.set_cons_zero, List.set_cons_succ])
              iterate 9 (refine plan_skip rfl (by kernel_rfl) ?_; simp only [Act.put, List.setIfInBounds_toArray, List.set_cons_zero, List.set_cons_succ])
              iterate 2 (refine plan_take (v := ?_) rfl (by kernel_rfl) ?_ ?_; rotate_left; (focus (intro w' hw'; try go_simp; try with_reducible rfl)); simp only [Act.put, List.setIfInBounds_toArray, List.set_cons_zero, List.set_cons_succ])
              iterate 10 (refine plan_skip rfl (by kernel_rfl) ?_; simp only [Act.put, List.setIfInBounds_toArray, List.set_cons_zero, List.set_cons_succ])
              iterate 2 (refine plan_take (v := ?_) rfl (by kernel_rfl) ?_ ?_; rotate_left; (focus (intro w' hw'; try go_simp; try with_reducible rfl)); simp only [Act.put, List.setIfInBounds_toArray, List.set_cons_zero, List.set_cons_succ])
              iterate 10 (refine plan_skip rfl (by kernel_rfl) ?_; simp only [Act.put, List.setIfInBounds_toArray, List.set_cons_zero, List.set_cons_succ])
              iterate 1 (refine plan_take (v := ?_) rfl (by kernel_rfl) ?_ ?_; rotate_left; (focus (intro w' hw'; try go_simp; try with_reducible rfl)); simp only [Act.put, List.setIfInBounds_toArray, List.set_cons_zero, List.set_cons_succ])
              refine plan_end ?_
              clear s1 s2 si sk
              go_wp2_with fail
              go_roundw
              case rel => exact ⟨k + 1, by omega, by go_num, by rw [HNB.out false (by show false = ((f i).ok && (f k).ok && !allEq (ciN (tellC f i)) (ciN (tellC f k)) && !aheadB (ciN (tellC f i)) (ciN (tellC f k)) && !aheadB (ciN (tellC f k)) (ciN (tellC f i))); simp [hni, hnk]), ← Nat.add_assoc, HN1.out]; exact rfl, show Ext w2 wx.drew from HE2.out.drew⟩
              case measure => simp [intOf]; omega
            | true =>
              have hnk' : (decide (0 ≤ (f k).node) && decide ((f k).node < 16)) = true := hnk
              cases heq : allEq (ciN (tellC f i)) (ciN (tellC f k)) with
              | true =>
                have hne := fun w' => (neq_nat w' _ _ hwi hwk).trans (by rw [heq]; rfl : _ = Result.ok (.bool false) w')
                refine wp_region_plan [(0, false), (1, false), (2, false), (3, false), (4, false), (5, false), (6, false), (7, false), (8, false), (9, false), (10, false), (11, false), (12, false), (13, false), (14, false), (15, false), (16, false), (17, false), (18, false), (19, false), (20, false), (21, false), (22, false), (23, false), (24, false), (25, false), (26, false), (27, false), (28, false), (29, false), (30, false), (31, false), (32, false), (33, false), (34, false), (35, false), (36, false), (37, false), (38, false), (39, false), (40, false), (41, false), (42, false), (43, false), (44, false), (45, false)] (by kernel_rfl) (by kernel_rfl) (fun _ d _ _ _ h => by cases d <;> exact h) ?_
                iterate 2 (refine plan_take (v := ?_) rfl (by kernel_rfl) ?_ ?_; rotate_left; (focus (intro w' hw'; try go_simp; try with_reducible rfl)); simp only [Act.put, List.setIfInBounds_toArray, List.set_cons_zero, List.set_cons_succ])
                refine plan_quiet rfl (by kernel_rfl) (fun w' => by go_simp; all_goals (first | exact ⟨rfl, rfl⟩ | rfl)) (fun w' hw' => (node_any (f i).node w').mono (fun e w'' h => by rw [hni'] at h; exact h)) ?_
                simp only [Act.put, List.setIfInBounds_toArray, List.set_cons_zero, List.set_cons_succ]
                iterate 1 (refine plan_take (v := ?_) rfl (by kernel_rfl) ?_ ?_; rotate_left; (focus (intro w' hw'; try go_simp; try with_reducible rfl)); simp only [Act.put, List.setIfInBounds_toArray, List.set_cons_zero, List.set_cons_succ])
                iterate 5 (refine plan_take (v := ?_) rfl (by kernel_rfl) ?_ ?_; rotate_left; (focus (intro w' hw'; try go_simp; try with_reducible rfl)); simp only [Act.put, List.setIfInBounds_toArray, List.set_cons_zero, List.set_cons_succ])
                refine plan_quiet rfl (by kernel_rfl) (fun w' => by go_simp; all_goals (first | exact ⟨rfl, rfl⟩ | rfl)) (fun w' hw' => (node_any (f k).node w').mono (fun e w'' h => by rw [hnk'] at h; exact h)) ?_
                simp only [Act.put, List.setIfInBounds_toArray, List.set_cons_zero, List.set_cons_succ]
                iterate 2 (refine plan_take (v := ?_) rfl (by kernel_rfl) ?_ ?_; rotate_left; (focus (intro w' hw'; try go_simp; try with_reducible rfl)); simp only [Act.put, List.setIfInBounds_toArray, List.set_cons_zero, List.set_cons_succ])
                iterate 3 (refine plan_take (v := ?_) rfl (by kernel_rfl) ?_ ?_; rotate_left; (focus (intro w' hw'; try go_simp; try with_reducible rfl)); simp only [Act.put, List.setIfInBounds_toArray, List.set_cons_zero, List.set_cons_succ])
                refine plan_take (v := .agg (fnC 16 (tellC f i))) rfl (by kernel_rfl) (fun w' hw' => run_load_op 26 (.tmp 35) rfl cb (i * 16) _ rfl (si w' hw') (arr_row _)) ?_
                simp only [Act.put, List.setIfInBounds_toArray, List.set_cons_zero, List.set_cons_succ]
                iterate 3 (refine plan_take (v := ?_) rfl (by kernel_rfl) ?_ ?_; rotate_left; (focus (intro w' hw'; try go_simp; try with_reducible rfl)); simp only [Act.put, List.setIfInBounds_toArray, List.set_cons_zero, List.set_cons_succ])
                refine plan_take (v := .agg (fnC 16 (tellC f k))) rfl (by kernel_rfl) (fun w' hw' => run_load_op 26 (.tmp 39) rfl cb (k * 16) _ rfl (sk w' hw') (arr_row _)) ?_
                simp only [Act.put, List.setIfInBounds_toArray, List.set_cons_zero, List.set_cons_succ]
                refine plan_take (v := .bool false) rfl (by kernel_rfl) (fun w' hw' => (execOp_neq _ arr_guard _ _ _ _ rfl rfl rfl (hne w'))) ?_
                simp only [Act.put, List.setIfInBounds_toArray, List.set_cons_zero, List.set_cons_succ]
                iterate 2 (refine plan_take (v := ?_) rfl (by kernel_rfl) ?_ ?_; rotate_left; (focus (intro w' hw'; try go_simp; try with_reducible rfl)); simp only [Act.put, List.setIfInBounds_toArray, List.set_cons_zero, List.set_cons_succ])
                iterate 10 (refine plan_skip rfl (by kernel_rfl) ?_; simp only [Act.put, List.setIfInBounds_toArray, List.set_cons_zero, List.set_cons_succ])
                iterate 2 (refine plan_take (v := ?_) rfl (by kernel_rfl) ?_ ?_; rotate_left; (focus (intro w' hw'; try go_simp; try with_reducible rfl)); simp only [Act.put, List.setIfInBounds_toArray, List.set_cons_zero, List.set_cons_succ])
                iterate 10 (refine plan_skip rfl (by kernel_rfl) ?_; simp only [Act.put, List.setIfInBounds_toArray, List.set_cons_zero, List.set_cons_succ])
                iterate 1 (refine plan_take (v := ?_) rfl (by kernel_rfl) ?_ ?_; rotate_left; (focus (intro w' hw'; try go_simp; try with_reducible rfl)); simp only [Act.put, List.setIfInBounds_toArray, List.set_cons_zero, List.set_cons_succ])
                refine plan_end ?_
                clear s1 s2 si sk
                go_wp2_with fail
                go_roundw
                case rel => exact ⟨k + 1, by omega, by go_num, by rw [HNB.out false (by show false = ((f i).ok && (f k).ok && !allEq (ciN (tellC f i)) (ciN (tellC f k)) && !aheadB (ciN (tellC f i)) (ciN (tellC f k)) && !aheadB (ciN (tellC f k)) (ciN (tellC f i))); simp [hni, hnk, heq]), ← Nat.add_assoc, HN1.out]; exact rfl, show Ext w2 wx.drew from HE2.out.drew⟩
                case measure => simp [intOf]; omega
              | false =>
                have hne := fun w' => (neq_nat w' _ _ hwi hwk).trans (by rw [heq]; rfl : _ = Result.ok (.bool true) w')
                cases haik : aheadB (ciN (tellC f i)) (ciN (tellC f k)) with
                | true =>
                  refine wp_region_plan [(0, false), (1, false), (2, false), (3, false), (4, false), (5, false), (6, false), (7, false), (8, false), (9, false), (10, false), (11, false), (12, false), (13, false), (14, false), (15, false), (16, false), (17, false), (18, false), (19, false), (20, false), (21, false), (22, false), (23, false), (24, false), (25, false), (26, false), (27, false), (28, false), (29, false), (30, false), (31, true), (32, false), (33, false), (34, false), (35, false), (36, false), (37, false), (38, false), (39, false), (40, false), (41, false), (42, false), (43, false), (44, false), (45, false)] (by kernel_rfl) (by kernel_rfl) (fun _ d _ _ _ h => by cases d <;> exact h) ?_
                  iterate 2 (refine plan_take (v := ?_) rfl (by kernel_rfl) ?_ ?_; rotate_left; (focus (intro w' hw'; try go_simp; try with_reducible rfl)); simp only [Act.put, List.setIfInBounds_toArray, List.set_cons_zero, List.set_cons_succ])
                  refine plan_quiet rfl (by kernel_rfl) (fun w' => by go_simp; all_goals (first | exact ⟨rfl, rfl⟩ | rfl)) (fun w' hw' => (node_any (f i).node w').mono (fun e w'' h => by rw [hni'] at h; exact h)) ?_
                  simp only [Act.put, List.setIfInBounds_toArray, List.set_cons_zero, List.set_cons_succ]
                  iterate 1 (refine plan_take (v := ?_) rfl (by kernel_rfl) ?_ ?_; rotate_left; (focus (intro w' hw'; try go_simp; try with_reducible rfl)); simp only [Act.put, List.setIfInBounds_toArray, List.set_cons_zero, List.set_cons_succ])
                  iterate 5 (refine plan_take (v := ?_) rfl (by kernel_rfl) ?_ ?_; rotate_left; (focus (intro w' hw'; try go_simp; try with_reducible rfl)); simp only [Act.put, List.setIfInBounds_toArray, List.set_cons_zero, List.set_cons_succ])
                  refine plan_quiet rfl (by kernel_rfl) (fun w' => by go_simp; all_goals (first | exact ⟨rfl, rfl⟩ | rfl)) (fun w' hw' => (node_any (f k).node w').mono (fun e w'' h => by rw [hnk'] at h; exact h)) ?_
                  simp only [Act.put, List.setIfInBounds_toArray, List.set_cons_zero, List.set_cons_succ]
                  iterate 2 (refine plan_take (v := ?_) rfl (by kernel_rfl) ?_ ?_; rotate_left; (focus (intro w' hw'; try go_simp; try with_reducible rfl)); simp only [Act.put, List.setIfInBounds_toArray, List.set_cons_zero, List.set_cons_succ])
                  iterate 3 (refine plan_take (v := ?_) rfl (by kernel_rfl) ?_ ?_; rotate_left; (focus (intro w' hw'; try go_simp; try with_reducible rfl)); simp only [Act.put, List.setIfInBounds_toArray, List.set_cons_zero, List.set_cons_succ])
                  refine plan_take (v := .agg (fnC 16 (tellC f i))) rfl (by kernel_rfl) (fun w' hw' => run_load_op 26 (.tmp 35) rfl cb (i * 16) _ rfl (si w' hw') (arr_row _)) ?_
                  simp only [Act.put, List.setIfInBounds_toArray, List.set_cons_zero, List.set_cons_succ]
                  iterate 3 (refine plan_take (v := ?_) rfl (by kernel_rfl) ?_ ?_; rotate_left; (focus (intro w' hw'; try go_simp; try with_reducible rfl)); simp only [Act.put, List.setIfInBounds_toArray, List.set_cons_zero, List.set_cons_succ])
                  refine plan_take (v := .agg (fnC 16 (tellC f k))) rfl (by kernel_rfl) (fun w' hw' => run_load_op 26 (.tmp 39) rfl cb (k * 16) _ rfl (sk w' hw') (arr_row _)) ?_
                  simp only [Act.put, List.setIfInBounds_toArray, List.set_cons_zero, List.set_cons_succ]
                  refine plan_take (v := .bool true) rfl (by kernel_rfl) (fun w' hw' => (execOp_neq _ arr_guard _ _ _ _ rfl rfl rfl (hne w'))) ?_
                  simp only [Act.put, List.setIfInBounds_toArray, List.set_cons_zero, List.set_cons_succ]
                  iterate 2 (refine plan_take (v := ?_) rfl (by kernel_rfl) ?_ ?_; rotate_left; (focus (intro w' hw'; try go_simp; try with_reducible rfl)); simp only [Act.put, List.setIfInBounds_toArray, List.set_cons_zero, List.set_cons_succ])
                  iterate 3 (refine plan_take (v := ?_) rfl (by kernel_rfl) ?_ ?_; rotate_left; (focus (intro w' hw'; try go_simp; try with_reducible rfl)); simp only [Act.put, List.setIfInBounds_toArray, List.set_cons_zero, List.set_cons_succ])
                  refine plan_take (v := .agg (fnC 16 (tellC f i))) rfl (by kernel_rfl) (fun w' hw' => run_load_op 26 (.tmp 46) rfl cb (i * 16) _ rfl (si w' hw') (arr_row _)) ?_
                  simp only [Act.put, List.setIfInBounds_toArray, List.set_cons_zero, List.set_cons_succ]
                  iterate 3 (refine plan_take (v := ?_) rfl (by kernel_rfl) ?_ ?_; rotate_left; (focus (intro w' hw'; try go_simp; try with_reducible rfl)); simp only [Act.put, List.setIfInBounds_toArray, List.set_cons_zero, List.set_cons_succ])
                  refine plan_take (v := .agg (fnC 16 (tellC f k))) rfl (by kernel_rfl) (fun w' hw' => run_load_op 26 (.tmp 50) rfl cb (k * 16) _ rfl (sk w' hw') (arr_row _)) ?_
                  simp only [Act.put, List.setIfInBounds_toArray, List.set_cons_zero, List.set_cons_succ]
                  refine plan_call rfl (by kernel_rfl) (by go_simp; exact ⟨rfl, rfl⟩) ?_
                  refine (ahead_nat (tellC f i) (tellC f k) _ hwi hwk).mono ?_
                  rintro e w5 ⟨rfl, hb5⟩
                  refine ⟨_, rfl, hb5, ?_⟩
                  simp only [Act.put, List.setIfInBounds_toArray, List.set_cons_zero, List.set_cons_succ]
                  have si5 := fun W' (h : Ext w5 W') => si W' (hb5.trans h)
                  have sk5 := fun W' (h : Ext w5 W') => sk W' (hb5.trans h)
                  have HB5 := Lib.hid hb5
                  clear si sk hb5
                  rw [haik]
                  iterate 3 (refine plan_take (v := ?_) rfl (by kernel_rfl) ?_ ?_; rotate_left; (focus (intro w' hw'; try go_simp; try with_reducible rfl)); simp only [Act.put, List.setIfInBounds_toArray, List.set_cons_zero, List.set_cons_succ])
                  iterate 10 (refine plan_skip rfl (by kernel_rfl) ?_; simp only [Act.put, List.setIfInBounds_toArray, List.set_cons_zero, List.set_cons_succ])
                  iterate 1 (refine plan_take (v := ?_) rfl (by kernel_rfl) ?_ ?_; rotate_left; (focus (intro w' hw'; try go_simp; try with_reducible rfl)); simp only [Act.put, List.setIfInBounds_toArray, List.set_cons_zero, List.set_cons_succ])
                  refine plan_end ?_
                  clear s1 s2 si5 sk5
                  go_wp2_with fail
                  go_roundw
                  case rel => exact ⟨k + 1, by omega, by go_num, by rw [HNB.out false (by show false = ((f i).ok && (f k).ok && !allEq (ciN (tellC f i)) (ciN (tellC f k)) && !aheadB (ciN (tellC f i)) (ciN (tellC f k)) && !aheadB (ciN (tellC f k)) (ciN (tellC f i))); simp [hni, hnk, heq, haik]), ← Nat.add_assoc, HN1.out]; exact rfl, Ext.trans (show Ext w2 wx.drew from HE2.out.drew) HB5.out⟩
                  case measure => simp [intOf]; omega
                | false =>
                  cases haki : aheadB (ciN (tellC f k)) (ciN (tellC f i)) with
                  | true =>
                    refine wp_region_plan [(0, false), (1, false), (2, false), (3, false), (4, false), (5, false), (6, false), (7, false), (8, false), (9, false), (10, false), (11, false), (12, false), (13, false), (14, false), (15, false), (16, false), (17, false), (18, false), (19, false), (20, false), (21, false), (22, false), (23, false), (24, false), (25, false), (26, false), (27, false), (28, false), (29, false), (30, false), (31, true), (32, false), (33, false), (34, false), (35, false), (36, false), (37, false), (38, false), (39, false), (40, false), (41, false), (42, false), (43, true), (44, false), (45, false)] (by kernel_rfl) (by kernel_rfl) (fun _ d _ _ _ h => by cases d <;> exact h) ?_
                    iterate 2 (refine plan_take (v := ?_) rfl (by kernel_rfl) ?_ ?_; rotate_left; (focus (intro w' hw'; try go_simp; try with_reducible rfl)); simp only [Act.put, List.setIfInBounds_toArray, List.set_cons_zero, List.set_cons_succ])
                    refine plan_quiet rfl (by kernel_rfl) (fun w' => by go_simp; all_goals (first | exact ⟨rfl, rfl⟩ | rfl)) (fun w' hw' => (node_any (f i).node w').mono (fun e w'' h => by rw [hni'] at h; exact h)) ?_
                    simp only [Act.put, List.setIfInBounds_toArray, List.set_cons_zero, List.set_cons_succ]
                    iterate 1 (refine plan_take (v := ?_) rfl (by kernel_rfl) ?_ ?_; rotate_left; (focus (intro w' hw'; try go_simp; try with_reducible rfl)); simp only [Act.put, List.setIfInBounds_toArray, List.set_cons_zero, List.set_cons_succ])
                    iterate 5 (refine plan_take (v := ?_) rfl (by kernel_rfl) ?_ ?_; rotate_left; (focus (intro w' hw'; try go_simp; try with_reducible rfl)); simp only [Act.put, List.setIfInBounds_toArray, List.set_cons_zero, List.set_cons_succ])
                    refine plan_quiet rfl (by kernel_rfl) (fun w' => by go_simp; all_goals (first | exact ⟨rfl, rfl⟩ | rfl)) (fun w' hw' => (node_any (f k).node w').mono (fun e w'' h => by rw [hnk'] at h; exact h)) ?_
                    simp only [Act.put, List.setIfInBounds_toArray, List.set_cons_zero, List.set_cons_succ]
                    iterate 2 (refine plan_take (v := ?_) rfl (by kernel_rfl) ?_ ?_; rotate_left; (focus (intro w' hw'; try go_simp; try with_reducible rfl)); simp only [Act.put, List.setIfInBounds_toArray, List.set_cons_zero, List.set_cons_succ])
                    iterate 3 (refine plan_take (v := ?_) rfl (by kernel_rfl) ?_ ?_; rotate_left; (focus (intro w' hw'; try go_simp; try with_reducible rfl)); simp only [Act.put, List.setIfInBounds_toArray, List.set_cons_zero, List.set_cons_succ])
                    refine plan_take (v := .agg (fnC 16 (tellC f i))) rfl (by kernel_rfl) (fun w' hw' => run_load_op 26 (.tmp 35) rfl cb (i * 16) _ rfl (si w' hw') (arr_row _)) ?_
                    simp only [Act.put, List.setIfInBounds_toArray, List.set_cons_zero, List.set_cons_succ]
                    iterate 3 (refine plan_take (v := ?_) rfl (by kernel_rfl) ?_ ?_; rotate_left; (focus (intro w' hw'; try go_simp; try with_reducible rfl)); simp only [Act.put, List.setIfInBounds_toArray, List.set_cons_zero, List.set_cons_succ])
                    refine plan_take (v := .agg (fnC 16 (tellC f k))) rfl (by kernel_rfl) (fun w' hw' => run_load_op 26 (.tmp 39) rfl cb (k * 16) _ rfl (sk w' hw') (arr_row _)) ?_
                    simp only [Act.put, List.setIfInBounds_toArray, List.set_cons_zero, List.set_cons_succ]
                    refine plan_take (v := .bool true) rfl (by kernel_rfl) (fun w' hw' => (execOp_neq _ arr_guard _ _ _ _ rfl rfl rfl (hne w'))) ?_
                    simp only [Act.put, List.setIfInBounds_toArray, List.set_cons_zero, List.set_cons_succ]
                    iterate 2 (refine plan_take (v := ?_) rfl (by kernel_rfl) ?_ ?_; rotate_left; (focus (intro w' hw'; try go_simp; try with_reducible rfl)); simp only [Act.put, List.setIfInBounds_toArray, List.set_cons_zero, List.set_cons_succ])
                    iterate 3 (refine plan_take (v := ?_) rfl (by kernel_rfl) ?_ ?_; rotate_left; (focus (intro w' hw'; try go_simp; try with_reducible rfl)); simp only [Act.put, List.setIfInBounds_toArray, List.set_cons_zero, List.set_cons_succ])
                    refine plan_take (v := .agg (fnC 16 (tellC f i))) rfl (by kernel_rfl) (fun w' hw' => run_load_op 26 (.tmp 46) rfl cb (i * 16) _ rfl (si w' hw') (arr_row _)) ?_
                    simp only [Act.put, List.setIfInBounds_toArray, List.set_cons_zero, List.set_cons_succ]
                    iterate 3 (refine plan_take (v := ?_) rfl (by kernel_rfl) ?_ ?_; rotate_left; (focus (intro w' hw'; try go_simp; try with_reducible rfl)); simp only [Act.put, List.setIfInBounds_toArray, List.set_cons_zero, List.set_cons_succ])
                    refine plan_take (v := .agg (fnC 16 (tellC f k))) rfl (by kernel_rfl) (fun w' hw' => run_load_op 26 (.tmp 50) rfl cb (k * 16) _ rfl (sk w' hw') (arr_row _)) ?_
                    simp only [Act.put, List.setIfInBounds_toArray, List.set_cons_zero, List.set_cons_succ]
                    refine plan_call rfl (by kernel_rfl) (by go_simp; exact ⟨rfl, rfl⟩) ?_
                    refine (ahead_nat (tellC f i) (tellC f k) _ hwi hwk).mono ?_
                    rintro e w5 ⟨rfl, hb5⟩
                    refine ⟨_, rfl, hb5, ?_⟩
                    simp only [Act.put, List.setIfInBounds_toArray, List.set_cons_zero, List.set_cons_succ]
                    have si5 := fun W' (h : Ext w5 W') => si W' (hb5.trans h)
                    have sk5 := fun W' (h : Ext w5 W') => sk W' (hb5.trans h)
                    have HB5 := Lib.hid hb5
                    clear si sk hb5
                    rw [haik]
                    iterate 3 (refine plan_take (v := ?_) rfl (by kernel_rfl) ?_ ?_; rotate_left; (focus (intro w' hw'; try go_simp; try with_reducible rfl)); simp only [Act.put, List.setIfInBounds_toArray, List.set_cons_zero, List.set_cons_succ])
                    iterate 3 (refine plan_take (v := ?_) rfl (by kernel_rfl) ?_ ?_; rotate_left; (focus (intro w' hw'; try go_simp; try with_reducible rfl)); simp only [Act.put, List.setIfInBounds_toArray, List.set_cons_zero, List.set_cons_succ])
                    refine plan_take (v := .agg (fnC 16 (tellC f k))) rfl (by kernel_rfl) (fun w' hw' => run_load_op 26 (.tmp 58) rfl cb (k * 16) _ rfl (sk5 w' hw') (arr_row _)) ?_
                    simp only [Act.put, List.setIfInBounds_toArray, List.set_cons_zero, List.set_cons_succ]
                    iterate 3 (refine plan_take (v := ?_) rfl (by kernel_rfl) ?_ ?_; rotate_left; (focus (intro w' hw'; try go_simp; try with_reducible rfl)); simp only [Act.put, List.setIfInBounds_toArray, List.set_cons_zero, List.set_cons_succ])
                    refine plan_take (v := .agg (fnC 16 (tellC f i))) rfl (by kernel_rfl) (fun w' hw' => run_load_op 26 (.tmp 62) rfl cb (i * 16) _ rfl (si5 w' hw') (arr_row _)) ?_
                    simp only [Act.put, List.setIfInBounds_toArray, List.set_cons_zero, List.set_cons_succ]
                    refine plan_call rfl (by kernel_rfl) (by go_simp; exact ⟨rfl, rfl⟩) ?_
                    refine (ahead_nat (tellC f k) (tellC f i) _ hwk hwi).mono ?_
                    rintro e w6 ⟨rfl, hb6⟩
                    refine ⟨_, rfl, hb6, ?_⟩
                    simp only [Act.put, List.setIfInBounds_toArray, List.set_cons_zero, List.set_cons_succ]
                    clear si5 sk5
                    have HB6 := Lib.hid hb6
                    clear hb6
                    rw [haki]
                    iterate 2 (refine plan_take (v := ?_) rfl (by kernel_rfl) ?_ ?_; rotate_left; (focus (intro w' hw'; try go_simp; try with_reducible rfl)); simp only [Act.put, List.setIfInBounds_toArray, List.set_cons_zero, List.set_cons_succ])
                    refine plan_end ?_
                    clear s1 s2
                    go_wp2_with fail
                    go_roundw
                    case rel => exact ⟨k + 1, by omega, by go_num, by rw [HNB.out false (by show false = ((f i).ok && (f k).ok && !allEq (ciN (tellC f i)) (ciN (tellC f k)) && !aheadB (ciN (tellC f i)) (ciN (tellC f k)) && !aheadB (ciN (tellC f k)) (ciN (tellC f i))); simp [hni, hnk, heq, haik, haki]), ← Nat.add_assoc, HN1.out]; exact rfl, Ext.trans (Ext.trans (show Ext w2 wx.drew from HE2.out.drew) HB5.out) HB6.out⟩
                    case measure => simp [intOf]; omega
                  | false =>
                    refine wp_region_plan [(0, false), (1, false), (2, false), (3, false), (4, false), (5, false), (6, false), (7, false), (8, false), (9, false), (10, false), (11, false), (12, false), (13, false), (14, false), (15, false), (16, false), (17, false), (18, false), (19, false), (20, false), (21, false), (22, false), (23, false), (24, false), (25, false), (26, false), (27, false), (28, false), (29, false), (30, false), (31, true), (32, false), (33, false), (34, false), (35, false), (36, false), (37, false), (38, false), (39, false), (40, false), (41, false), (42, false), (43, true), (44, false), (45, false)] (by kernel_rfl) (by kernel_rfl) (fun _ d _ _ _ h => by cases d <;> exact h) ?_
                    iterate 2 (refine plan_take (v := ?_) rfl (by kernel_rfl) ?_ ?_; rotate_left; (focus (intro w' hw'; try go_simp; try with_reducible rfl)); simp only [Act.put, List.setIfInBounds_toArray, List.set_cons_zero, List.set_cons_succ])
                    refine plan_quiet rfl (by kernel_rfl) (fun w' => by go_simp; all_goals (first | exact ⟨rfl, rfl⟩ | rfl)) (fun w' hw' => (node_any (f i).node w').mono (fun e w'' h => by rw [hni'] at h; exact h)) ?_
                    simp only [Act.put, List.setIfInBounds_toArray, List.set_cons_zero, List.set_cons_succ]
                    iterate 1 (refine plan_take (v := ?_) rfl (by kernel_rfl) ?_ ?_; rotate_left; (focus (intro w' hw'; try go_simp; try with_reducible rfl)); simp only [Act.put, List.setIfInBounds_toArray, List.set_cons_zero, List.set_cons_succ])
                    iterate 5 (refine plan_take (v := ?_) rfl (by kernel_rfl) ?_ ?_; rotate_left; (focus (intro w' hw'; try go_simp; try with_reducible rfl)); simp only [Act.put, List.setIfInBounds_toArray, List.set_cons_zero, List.set_cons_succ])
                    refine plan_quiet rfl (by kernel_rfl) (fun w' => by go_simp; all_goals (first | exact ⟨rfl, rfl⟩ | rfl)) (fun w' hw' => (node_any (f k).node w').mono (fun e w'' h => by rw [hnk'] at h; exact h)) ?_
                    simp only [Act.put, List.setIfInBounds_toArray, List.set_cons_zero, List.set_cons_succ]
                    iterate 2 (refine plan_take (v := ?_) rfl (by kernel_rfl) ?_ ?_; rotate_left; (focus (intro w' hw'; try go_simp; try with_reducible rfl)); simp only [Act.put, List.setIfInBounds_toArray, List.set_cons_zero, List.set_cons_succ])
                    iterate 3 (refine plan_take (v := ?_) rfl (by kernel_rfl) ?_ ?_; rotate_left; (focus (intro w' hw'; try go_simp; try with_reducible rfl)); simp only [Act.put, List.setIfInBounds_toArray, List.set_cons_zero, List.set_cons_succ])
                    refine plan_take (v := .agg (fnC 16 (tellC f i))) rfl (by kernel_rfl) (fun w' hw' => run_load_op 26 (.tmp 35) rfl cb (i * 16) _ rfl (si w' hw') (arr_row _)) ?_
                    simp only [Act.put, List.setIfInBounds_toArray, List.set_cons_zero, List.set_cons_succ]
                    iterate 3 (refine plan_take (v := ?_) rfl (by kernel_rfl) ?_ ?_; rotate_left; (focus (intro w' hw'; try go_simp; try with_reducible rfl)); simp only [Act.put, List.setIfInBounds_toArray, List.set_cons_zero, List.set_cons_succ])
                    refine plan_take (v := .agg (fnC 16 (tellC f k))) rfl (by kernel_rfl) (fun w' hw' => run_load_op 26 (.tmp 39) rfl cb (k * 16) _ rfl (sk w' hw') (arr_row _)) ?_
                    simp only [Act.put, List.setIfInBounds_toArray, List.set_cons_zero, List.set_cons_succ]
                    refine plan_take (v := .bool true) rfl (by kernel_rfl) (fun w' hw' => (execOp_neq _ arr_guard _ _ _ _ rfl rfl rfl (hne w'))) ?_
                    simp only [Act.put, List.setIfInBounds_toArray, List.set_cons_zero, List.set_cons_succ]
                    iterate 2 (refine plan_take (v := ?_) rfl (by kernel_rfl) ?_ ?_; rotate_left; (focus (intro w' hw'; try go_simp; try with_reducible rfl)); simp only [Act.put, List.setIfInBounds_toArray, List.set_cons_zero, List.set_cons_succ])
                    iterate 3 (refine plan_take (v := ?_) rfl (by kernel_rfl) ?_ ?_; rotate_left; (focus (intro w' hw'; try go_simp; try with_reducible rfl)); simp only [Act.put, List.setIfInBounds_toArray, List.set_cons_zero, List.set_cons_succ])
                    refine plan_take (v := .agg (fnC 16 (tellC f i))) rfl (by kernel_rfl) (fun w' hw' => run_load_op 26 (.tmp 46) rfl cb (i * 16) _ rfl (si w' hw') (arr_row _)) ?_
                    simp only [Act.put, List.setIfInBounds_toArray, List.set_cons_zero, List.set_cons_succ]
                    iterate 3 (refine plan_take (v := ?_) rfl (by kernel_rfl) ?_ ?_; rotate_left; (focus (intro w' hw'; try go_simp; try with_reducible rfl)); simp only [Act.put, List.setIfInBounds_toArray, List.set_cons_zero, List.set_cons_succ])
                    refine plan_take (v := .agg (fnC 16 (tellC f k))) rfl (by kernel_rfl) (fun w' hw' => run_load_op 26 (.tmp 50) rfl cb (k * 16) _ rfl (sk w' hw') (arr_row _)) ?_
                    simp only [Act.put, List.setIfInBounds_toArray, List.set_cons_zero, List.set_cons_succ]
                    refine plan_call rfl (by kernel_rfl) (by go_simp; exact ⟨rfl, rfl⟩) ?_
                    refine (ahead_nat (tellC f i) (tellC f k) _ hwi hwk).mono ?_
                    rintro e w5 ⟨rfl, hb5⟩
                    refine ⟨_, rfl, hb5, ?_⟩
                    simp only [Act.put, List.setIfInBounds_toArray, List.set_cons_zero, List.set_cons_succ]
                    have si5 := fun W' (h : Ext w5 W') => si W' (hb5.trans h)
                    have sk5 := fun W' (h : Ext w5 W') => sk W' (hb5.trans h)
                    have HB5 := Lib.hid hb5
                    clear si sk hb5
                    rw [haik]
                    iterate 3 (refine plan_take (v := ?_) rfl (by kernel_rfl) ?_ ?_; rotate_left; (focus (intro w' hw'; try go_simp; try with_reducible rfl)); simp only [Act.put, List.setIfInBounds_toArray, List.set_cons_zero, List.set_cons_succ])
                    iterate 3 (refine plan_take (v := ?_) rfl (by kernel_rfl) ?_ ?_; rotate_left; (focus (intro w' hw'; try go_simp; try with_reducible rfl)); simp only [Act.put, List.setIfInBounds_toArray, List.set_cons_zero, List.set_cons_succ])
                    refine plan_take (v := .agg (fnC 16 (tellC f k))) rfl (by kernel_rfl) (fun w' hw' => run_load_op 26 (.tmp 58) rfl cb (k * 16) _ rfl (sk5 w' hw') (arr_row _)) ?_
                    simp only [Act.put, List.setIfInBounds_toArray, List.set_cons_zero, List.set_cons_succ]
                    iterate 3 (refine plan_take (v := ?_) rfl (by kernel_rfl) ?_ ?_; rotate_left; (focus (intro w' hw'; try go_simp; try with_reducible rfl)); simp only [Act.put, List.setIfInBounds_toArray, List.set_cons_zero, List.set_cons_succ])
                    refine plan_take (v := .agg (fnC 16 (tellC f i))) rfl (by kernel_rfl) (fun w' hw' => run_load_op 26 (.tmp 62) rfl cb (i * 16) _ rfl (si5 w' hw') (arr_row _)) ?_
                    simp only [Act.put, List.setIfInBounds_toArray, List.set_cons_zero, List.set_cons_succ]
                    refine plan_call rfl (by kernel_rfl) (by go_simp; exact ⟨rfl, rfl⟩) ?_
                    refine (ahead_nat (tellC f k) (tellC f i) _ hwk hwi).mono ?_
                    rintro e w6 ⟨rfl, hb6⟩
                    refine ⟨_, rfl, hb6, ?_⟩
                    simp only [Act.put, List.setIfInBounds_toArray, List.set_cons_zero, List.set_cons_succ]
                    clear si5 sk5
                    have HB6 := Lib.hid hb6
                    clear hb6
                    rw [haki]
                    iterate 2 (refine plan_take (v := ?_) rfl (by kernel_rfl) ?_ ?_; rotate_left; (focus (intro w' hw'; try go_simp; try with_reducible rfl)); simp only [Act.put, List.setIfInBounds_toArray, List.set_cons_zero, List.set_cons_succ])
                    refine plan_end ?_
                    clear s1 s2
                    go_wp2_with fail
                    go_roundw
                    case rel => exact ⟨k + 1, by omega, by go_num, by rw [HNB.out true (by show true = ((f i).ok && (f k).ok && !allEq (ciN (tellC f i)) (ciN (tellC f k)) && !aheadB (ciN (tellC f i)) (ciN (tellC f k)) && !aheadB (ciN (tellC f k)) (ciN (tellC f i))); simp [hni, hnk, heq, haik, haki]), ← Nat.add_assoc, HN1.out]; go_num, Ext.trans (Ext.trans (show Ext w2 wx.drew from HE2.out.drew) HB5.out) HB6.out⟩
                    case measure => simp [intOf]; omega
        · obtain rfl : k = i := by omega
          have HE2 := Lib.hid hE2
          clear hE2
          go_wp2_with fail
          go_roundw
          case rel => exact ⟨k + 1, hil, by go_num, rfl, HE1.out.trans HE2.out⟩
          case measure => simp [intOf]; omega
    · obtain rfl : len = i := by omega
      go_wp2_with fail
      go_ret
      exact ⟨rfl, HB1.out.trans (HE.out.mono HB1.out.size)⟩
end Go.Proofs.YtocjapnagggapaaDoor
