/- Merged texts: MmuN. -/
import Derived.Test.YtecalibnnfcaeaaMm16
import Derived.Test.YtecalibnnfcaeaaPlanI
import Derived.Deep.CutBlock
/- MmuPlays: units answer every script as the reference does. No condition. -/
namespace Go.Proofs.Ytecalibnnfcaeaa
open Go.RowKit Go.ChangeShapes

def mopC (ki sz pk : Int) (va v : Nat) : Array Value := #[.int .i64 ki, .int .i64 sz, .int .i64 pk, .int .u64 (va : Int), .int .u64 (v : Int)]
def MOp (w : World) (b o : Nat) : Prop := ∃ (ki sz pk : Int) (va v : Nat), w.rangeAt b o (mopC ki sz pk va v).toList ∧ va < 18446744073709551616 ∧ v < 18446744073709551616 ∧ (-9223372036854775808 ≤ pk ∧ pk < 9223372036854775808) ∧ (-9223372036854775808 ≤ sz ∧ sz < 9223372036854775808)
theorem mops_of {w : World} {a : Option Addr} {len cap : Nat} (h : IsRows [.int .i64, .int .i64, .int .i64, .int .u64, .int .u64] w a len cap) (hp : 0 < len) : ∃ b o, a = some ⟨b, o, none⟩ ∧ b < w.heap.size ∧ ∀ i, i < len → MOp w b (o + i * 5) := by
  rcases h with ⟨_, rfl, _⟩ | ⟨x, rfl, hl, hm, hc⟩
  · omega
  · obtain ⟨v, h0, _⟩ := hc 0 (by omega) 0 _ rfl
    obtain ⟨b, o, spot⟩ := x
    have hspot : spot = none := by simpa [Addr.add] using World.cell?_spot h0
    subst hspot
    have ea : ∀ k, (⟨b, o, none⟩ : Addr).add k = ⟨b, o + k, none⟩ := fun k => by unfold Addr.add; split <;> simp_all
    rw [ea] at h0
    refine ⟨b, o, rfl, World.block_lt_of_cell? _ _ h0, fun i hi => ?_⟩
    obtain ⟨_, k0, y0, rfl, _⟩ := hc i (by omega) 0 _ rfl
    obtain ⟨_, k1, y1, rfl, w1⟩ := hc i (by omega) 1 _ rfl
    obtain ⟨_, k2, y2, rfl, w2⟩ := hc i (by omega) 2 _ rfl
    obtain ⟨_, k3, y3, rfl, w3⟩ := hc i (by omega) 3 _ rfl
    obtain ⟨_, k4, y4, rfl, w4⟩ := hc i (by omega) 4 _ rfl
    rw [ea] at k0 k1 k2 k3 k4
    obtain ⟨y3, rfl⟩ := Int.eq_ofNat_of_zero_le (u64_of_wf w3).1
    obtain ⟨y4, rfl⟩ := Int.eq_ofNat_of_zero_le (u64_of_wf w4).1
    refine ⟨y0, y1, y2, y3, y4, fun j u hj => ?_, by have := (u64_of_wf w3).2; omega, by have := (u64_of_wf w4).2; omega, i64_of_wf w2, i64_of_wf w1⟩
    have hj5 : j < 5 := by
      rcases Nat.lt_or_ge j 5 with h1 | h1
      · exact h1
      · rw [List.getElem?_eq_none (by simpa [mopC] using h1)] at hj; cases hj
    rw [Nat.add_assoc]
    rcases (show j = 0 ∨ j = 1 ∨ j = 2 ∨ j = 3 ∨ j = 4 by omega) with rfl | rfl | rfl | rfl | rfl
    · exact k0.trans hj
    · exact k1.trans hj
    · exact k2.trans hj
    · exact k3.trans hj
    · exact k4.trans hj
theorem mop_row (ki sz pk : Int) (va v : Nat) : rowT Try.prog 49 (mopC ki sz pk va v).size = true := by rw [show (mopC ki sz pk va v).size = 5 from rfl]; kernel_rfl
theorem mop_one (ki sz pk : Int) (va v : Nat) : (mopC ki sz pk va v).all (·.oneCell') = true := by simp [mopC, Value.oneCell']
def mopZ : Array Value := #[.int .i64 0, .int .i64 0, .int .i64 0, .int .u64 0, .int .u64 0]
theorem key_satp (d : Nat) (on : Bool) (asid : Int) (ppn : Nat) (h1 : (Lit.int .i64 asid).wf = true) (h2 : ppn < 18446744073709551616) : Try.prog.keyLits (d + 2) 43 [.bool on, .int .i64 asid, .int .u64 (ppn : Int)] = some [.bool on, .int .i64 asid, .int .u64 (ppn : Int)] := by
  have h3 := page_wf h2
  unfold Program.keyLits
  have h4 : Try.prog.cellsOf 43 = 3 := by kernel_rfl
  simp [Try.underlying43, h4, c_int, c_u64, c_bool, key_int, key_u64, key_bool, h1, h3]
theorem satp_same (W : World) (on : Bool) (asid : Int) (ppn : Nat) (h1 : (Lit.int .i64 asid).wf = true) (h2 : ppn < 18446744073709551616) :
    (Op.equalIn 10000 43 (.agg #[.bool on, .int .i64 asid, .int .u64 (ppn : Int)]) (.agg #[.bool on, .int .i64 asid, .int .u64 (ppn : Int)])).run Try.prog W = .ok true W := by
  have h := run_equalIn_deep (P := Try.prog) 9995 5 43 (by kernel_rfl)
  obtain ⟨r, hr, hi⟩ := h W 5 5 _ _ _ _ (by kernel_rfl : (Value.agg #[.bool on, .int .i64 asid, .int .u64 (ppn : Int)]).formed Try.prog 43 = true) (by kernel_rfl : (Value.agg #[.bool on, .int .i64 asid, .int .u64 (ppn : Int)]).formed Try.prog 43 = true) (key_satp 3 on asid ppn h1 h2) (key_satp 3 on asid ppn h1 h2)
  rw [hi.2 rfl] at hr
  exact hr
theorem rgetsatp_all (x : Nat) (W : World) (hx : x < 18446744073709551616) :
    Calls Try.prog 15 #[.int .u64 (x : Int)] W fun e w' => ∃ on asid ppn, e = .returned (.tuple #[.agg #[.bool on, .int .i64 asid, .int .u64 ((ppn : Nat) : Int)], .bool (msatpB x)]) ∧ Ext W w' ∧ ∀ u : Un, u.satp x = if msatpB x then { u with on := on, asid := asid, ppn := ppn } else u := by
  cases hs : msatpB x with
  | false =>
    simp only [msatpB, Bool.or_eq_false_iff, beq_eq_false_iff_ne] at hs
    refine (rgetsatp_no x W hx hs.1 hs.2).mono ?_
    rintro e w' ⟨rfl, hb⟩
    exact ⟨false, 0, 0, rfl, hb, fun u => by unfold Un.satp msatpB; rw [if_neg (by simp [hs])]; simp⟩
  | true =>
    have hs2 := hs
    simp only [msatpB, Bool.or_eq_true, beq_iff_eq] at hs
    refine (rgetsatp_yes x (x / 1152921504606846976 == 8) W hx (by
      rcases hs with h | h
      · exact .inl ⟨by rw [h]; rfl, h⟩
      · exact .inr ⟨by rw [h]; rfl, h⟩)).mono ?_
    rintro e w' ⟨rfl, hb⟩
    exact ⟨_, _, _, rfl, hb, fun u => by unfold Un.satp; rw [hs2]⟩
section
variable {W w : World} {ub m b xb rm rb k mm ob n : Nat} {u u2 : Un} {S S2 : Nat → List Nat} {T T2 : List (List En)} {o : List Obj} {c : Array Value} {t : TypeId}
theorem objs_swap (h : Objs W (unO ub m b n k mm u S T (rnO xb rm rb n k mm u2 S2 T2 [blkO ob t c])) w) : Objs W (rnO xb rm rb n k mm u2 S2 T2 (unO ub m b n k mm u S T [blkO ob t c])) w := h.pick [3, 4, 5, 0, 1, 2, 6] (by decide) (by simp [unO, rnO])
theorem objs_back (h : Objs W (rnO xb rm rb n k mm u2 S2 T2 (unO ub m b n k mm u S T [blkO ob t c])) w) : Objs W (unO ub m b n k mm u S T (rnO xb rm rb n k mm u2 S2 T2 [blkO ob t c])) w := h.pick [3, 4, 5, 0, 1, 2, 6] (by decide) (by simp [unO, rnO])
theorem objs_drop6 (h : Objs W (unO ub m b n k mm u S T (rnO xb rm rb n k mm u2 S2 T2 [blkO ob t c])) w) : Objs W (unO ub m b n k mm u S T (rnO xb rm rb n k mm u2 S2 T2 [])) w := h.pick [0, 1, 2, 3, 4, 5] (by decide) (by simp [unO, rnO])
theorem objs_push6 (h : Objs W (blkO ob t c :: unO ub m b n k mm u S T (rnO xb rm rb n k mm u2 S2 T2 [])) w) : Objs W (unO ub m b n k mm u S T (rnO xb rm rb n k mm u2 S2 T2 [blkO ob t c])) w := h.pick [1, 2, 3, 4, 5, 6, 0] (by decide) (by simp [unO, rnO])
end
theorem objs_push7 {W w : World} {ub m b xb rm rb k mm ob n sb : Nat} {u u2 : Un} {S S2 : Nat → List Nat} {T T2 : List (List En)} {c c2 : Array Value} {t t2 : TypeId} (h : Objs W (blkO sb t2 c2 :: unO ub m b n k mm u S T (rnO xb rm rb n k mm u2 S2 T2 [blkO ob t c])) w) :
    Objs W (unO ub m b n k mm u S T (rnO xb rm rb n k mm u2 S2 T2 [blkO ob t c, blkO sb t2 c2])) w := h.pick [1, 2, 3, 4, 5, 6, 7, 0] (by decide) (by simp [unO, rnO])
theorem Objs.memPg {W w : World} {os : List Obj} {g n : Nat} {S : Nat → List Nat} (h : Objs W os w) (i : Nat) (hi : os[i]? = some (memO g n S)) : ∀ k j, (S k).getD j 0 < 256 := by
  obtain ⟨F, ⟨mb, loc, K, hM, _⟩, _⟩ := h.get i _ hi
  exact hM.pgLt
theorem ldR_lt {n : Nat} {S : Nat → List Nat} (h : ∀ k j, (S k).getD j 0 < 256) (at_ : Nat) (s : Int) : ldR n S at_ s < 18446744073709551616 := by
  unfold ldR
  split
  · rename_i hc
    have hs : s.toNat ≤ 8 := by
      unfold chkE at hc
      cases hsz : sizeB s with
      | false => rw [if_pos hsz] at hc; cases hc
      | true => rcases size_cases hsz with rfl | rfl | rfl | rfl <;> decide
    unfold ldV getV
    have h1 := leNat_lt (((S (at_ / 4096)).drop ((at_ % 4096 : Nat) : Int).toNat).take s.toNat) (fun i => by
      rw [List.getD_eq_getElem?_getD, List.getElem?_take]
      split
      · rw [List.getElem?_drop, ← List.getD_eq_getElem?_getD]
        exact h _ _
      · decide)
    have h2 : (((S (at_ / 4096)).drop ((at_ % 4096 : Nat) : Int).toNat).take s.toNat).length ≤ 8 := by rw [List.length_take]; omega
    have h3 : 256 ^ (((S (at_ / 4096)).drop ((at_ % 4096 : Nat) : Int).toNat).take s.toNat).length ≤ 256 ^ 8 := Nat.pow_le_pow_right (by decide) h2
    have h4 : (256 : Nat) ^ 8 = 18446744073709551616 := by decide
    omega
  · decide
theorem readM_lt {n : Nat} {S : Nat → List Nat} (h : ∀ k j, (S k).getD j 0 < 256) (p : Nat × Int × List (List En)) (size : Int) : readM n S p size < 18446744073709551616 := by
  unfold readM
  split
  · exact ldR_lt h _ _
  · decide
theorem turn_any (ob : Nat) (x : Nat) (ki sz pk : Int) (va v : Nat) (w : World) (hv : v < 18446744073709551616) (h : Blk w ob 49 (mopC ki sz pk va v)) :
    Calls Try.prog 13 #[.int .u64 (x : Int), .pointer (some ⟨ob, 0, none⟩)] w fun e w2 => e = .returned (.int .u64 (((x + v) % 18446744073709551616 : Nat) : Int)) ∧ w = w2 := by
  have c4 : w.cell? ⟨ob, 4, none⟩ = some (.int .u64 (v : Int)) := h.cell 4
  have hl := h.lt
  have he : IntKind.u64.wrap ((x : Int) + (v : Int)) = (((x + v) % 18446744073709551616 : Nat) : Int) := by rw [IntKind.wrap_u64]; omega
  clear h
  go_enter Try.func13, Try.ntmps13
  go_wp2_with fail
  go_ret
  exact ⟨by rw [← he]; rfl, rfl⟩
theorem turn_enter (args : Array Value) (W : World) : (callFunc 13 args).run Try.prog W = .ok (.enter 13 args) W := by
  simp [go_sem]
set_option maxRecDepth 100000 in
set_option maxHeartbeats 16000000 in
theorem mplays_walk (A A2 : Option Addr) (len cap len2 cap2 : Nat) (s0 s1 : Nat) (ws : List (Nat × Nat)) (W : World) (hW : WdAt W A ws) (hWl : len = ws.length) (hl1 : len ≤ 9223372036854775807)
    (hO : 0 < len2 → ∃ b o, A2 = some ⟨b, o, none⟩ ∧ b < W.heap.size ∧ ∀ i, i < len2 → MOp W b (o + i * 5)) (hlen : len2 ≤ 9223372036854775807) (hs0 : s0 < 256) (hs1 : s1 < 256) :
    Calls Try.prog 3 #[.slice A len cap, .agg #[.int .u8 (s0 : Int), .int .u8 (s1 : Int)], .slice A2 len2 cap2] W fun e w' => e = .returned (.bool true) ∧ Below W.heap.size W w' := by
  have HO := Lib.hid hO
  have HWD := Lib.hid hW
  have HWL := Lib.hid hWl
  have HL1 := Lib.hid hl1
  obtain ⟨q0, hq0⟩ : ∃ q, q = s0 % 4 := ⟨_, rfl⟩
  obtain ⟨q1, hq1⟩ : ∃ q, q = s1 % 3 := ⟨_, rfl⟩
  have a1 : (s0 : Int).tmod 4 = (q0 : Int) := by rw [hq0, show (4 : Int) = ((4 : Nat) : Int) from rfl, ← Int.ofNat_tmod]
  have a2 : (s1 : Int).tmod 3 = (q1 : Int) := by rw [hq1, show (3 : Int) = ((3 : Nat) : Int) from rfl, ← Int.ofNat_tmod]
  have hq0' : q0 < 4 := by omega
  have hq1' : q1 < 3 := by omega
  obtain ⟨k, hk⟩ : ∃ k, k = 2 ^ q0 := ⟨_, rfl⟩
  obtain ⟨mm, hmm⟩ : ∃ mm, mm = 1 + q1 := ⟨_, rfl⟩
  have HR : Hid (rightS (k : Int) (mm : Int) = true) := Lib.hid (by
    rw [hk, hmm]
    rcases (show q0 = 0 ∨ q0 = 1 ∨ q0 = 2 ∨ q0 = 3 by omega) with rfl | rfl | rfl | rfl <;> rcases (show q1 = 0 ∨ q1 = 1 ∨ q1 = 2 by omega) with rfl | rfl | rfl <;> rfl)
  have HWB : Hid (Ext W (W.alloc (.cells #[.int .u8 (s0 : Int), .int .u8 (s1 : Int)] 23))) := Lib.hid (ext_alloc _ _)
  have HBX : Hid (Blk (W.alloc (.cells #[.int .u8 (s0 : Int), .int .u8 (s1 : Int)] 23)) W.heap.size 23 #[.int .u8 (s0 : Int), .int .u8 (s1 : Int)]) := Lib.hid (Blkf.new_at _ _ _ _ rfl)
  clear hO hW hWl hs0 hs1 hq0 hq1 hl1
  go_enter Try.func3, Try.ntmps3
  go_wp2_with fail
  refine (mfirst_any _).mono ?_
  rintro e w0 ⟨rfl, hb0⟩
  have HB0 := Lib.hid (HWB.out.trans hb0)
  have HBX0 := Lib.hid (HBX.out.below hb0 HBX.out.lt)
  clear hb0 HBX HWB
  go_wp2_with fail
  refine (laid_any 6 A len cap ws w0 (by decide) (by decide) HWL.out (HWD.out.below HB0.out) HL1.out).mono ?_
  rintro e w1 ⟨m, rm, L, rfl, hp, hr⟩
  have HO1 := Lib.hid (objs_of_play hp hr)
  generalize laidS 6 (ws.take 60) = S at *
  have HBX1 := Lib.hid (HBX0.out.below HO1.out.bel HBX0.out.lt)
  clear hp hr HBX0 HWD HWL
  have x0 : ∀ W', Ext w1.drew W' → W'.cell? ⟨W.heap.size, 0, none⟩ = some (.int .u8 (s0 : Int)) := fun W' h => (h.cell (p := ⟨W.heap.size, 0, none⟩) HBX1.out.lt).trans (HBX1.out.drew.cell 0)
  have x1 : ∀ W', Ext w1.drew W' → W'.cell? ⟨W.heap.size, 1, none⟩ = some (.int .u8 (s1 : Int)) := fun W' h => (h.cell (p := ⟨W.heap.size, 1, none⟩) HBX1.out.lt).trans (HBX1.out.drew.cell 1)
  go_wp2_with fail
  refine wp_region_plan [(0, false), (1, false), (2, false), (3, false), (4, false), (5, false), (6, false), (7, false), (8, false), (9, false), (10, false)] (by kernel_rfl) (by kernel_rfl) (fun _ d _ _ _ h => by cases d <;> exact h) ?_
  iterate 3 (refine plan_take (v := ?_) rfl (by kernel_rfl) ?_ ?_; rotate_left; (focus (intro w' hw'; try go_simp; try with_reducible rfl)); simp only [Act.put, List.setIfInBounds_toArray, List.set_cons_zero, List.set_cons_succ])
  refine plan_take (v := .int .i64 (k : Int)) rfl (by kernel_rfl) (fun w' hw' => by
    rw [hk]
    rcases (show q0 = 0 ∨ q0 = 1 ∨ q0 = 2 ∨ q0 = 3 by omega) with rfl | rfl | rfl | rfl <;> (go_simp; try decide)) ?_
  simp only [Act.put, List.setIfInBounds_toArray, List.set_cons_zero, List.set_cons_succ]
  iterate 4 (refine plan_take (v := ?_) rfl (by kernel_rfl) ?_ ?_; rotate_left; (focus (intro w' hw'; try go_simp; try with_reducible rfl)); simp only [Act.put, List.setIfInBounds_toArray, List.set_cons_zero, List.set_cons_succ])
  have hadd : IntKind.i64.wrap (1 + (q1 : Int)) = (mm : Int) := by rw [IntKind.wrap_i64]; omega
  have hw1 : IntKind.i64.wrap (q1 : Int) = (q1 : Int) := by rw [IntKind.wrap_i64]; omega
  clear hmm hk
  refine plan_take (v := .int .i64 (mm : Int)) rfl (by kernel_rfl) (fun w' hw' => by go_simp) ?_
  simp only [Act.put, List.setIfInBounds_toArray, List.set_cons_zero, List.set_cons_succ]
  iterate 2 (refine plan_take (v := ?_) rfl (by kernel_rfl) ?_ ?_; rotate_left; (focus (intro w' hw'; try go_simp; try with_reducible rfl)); simp only [Act.put, List.setIfInBounds_toArray, List.set_cons_zero, List.set_cons_succ])
  clear x0 x1 a1 a2 hadd HBX1 hw1 hq0' hq1'
  refine plan_end ?_
  have HD1 := Lib.hid HO1.out.drew
  generalize w1.drew = y1 at HD1 ⊢
  clear HO1
  go_wp2_with fail
  refine (HD1.out.bufNew k mm HR.out).mono ?_
  rintro e w2 ⟨rfl, hO2, hx2⟩
  have HO2 := Lib.hid hO2
  generalize y1.heap.size = b at *
  clear hO2 hx2 HD1
  go_wp2_with fail
  refine (mnew_any m b w2).mono ?_
  rintro e w3 ⟨rfl, rfl⟩
  have HO3 := Lib.hid (HO2.out.push (un0U.cs m b) 87 rfl)
  generalize w2.alloc (.cells (un0U.cs m b) 87) = w3 at *
  generalize w2.heap.size = ub at *
  clear HO2
  have HO4 := Lib.hid (HO3.out.rbufNew k mm HR.out rfl)
  have HO5 := Lib.hid (HO4.out.push (un0U.cs rm w3.heap.size) 47 (b := w3.heap.size + 1) (by simp))
  have HO6 : Hid (Objs w0 (unO ub m b 6 k mm un0U S (emptyT k mm) (rnO (w3.heap.size + 1) rm w3.heap.size 6 k mm un0U S (emptyT k mm) [])) ((w3.alloc (.cells #[.int .i64 (k : Int), .int .i64 (mm : Int), .slice none 0 0] 40)).alloc (.cells (un0U.cs rm w3.heap.size) 47))) := Lib.hid (HO5.out.pick [2, 3, 4, 0, 1, 5] (by decide) (by simp))
  clear HO3 HO4 HO5 HR
  go_wp2_with fail
  refine wp_world (fun w4 hw4 => ?_)
  have HO6 : Hid (Objs w0 (unO ub m b 6 k mm un0U S (emptyT k mm) (rnO (w3.heap.size + 1) rm w3.heap.size 6 k mm un0U S (emptyT k mm) [])) w4) := Lib.hid (by rw [hw4]; exact HO6.out)
  clear hw4
  generalize w3.heap.size + 1 = xb at *
  generalize w3.heap.size = rb at *
  have HI0 : Hid (∃ (q : Nat) (u : Un) (S' : Nat → List Nat) (T : List (List En)), q ≤ len2 ∧ q ≤ 50 ∧ Value.int .i64 0 = .int .i64 (q : Int) ∧ u.Ok ∧ Objs w0 (unO ub m b 6 k mm u S' T (rnO xb rm rb 6 k mm u S' T [])) w4) := Lib.hid ⟨0, un0U, S, emptyT k mm, by omega, by omega, rfl, okU0, HO6.out⟩
  clear HO6
  generalize IntKind.i64.wrap (q1 : Int) = g1 at *
  go_loopw [61] (fun i wr => ∃ (q : Nat) (u : Un) (S' : Nat → List Nat) (T : List (List En)), q ≤ len2 ∧ q ≤ 50 ∧ i = .int .i64 (q : Int) ∧ u.Ok ∧ Objs w0 (unO ub m b 6 k mm u S' T (rnO xb rm rb 6 k mm u S' T [])) wr) (fun i _ => len2 - (intOf i).toNat)
  case atStart => exact HI0.out
  clear HI0
  case round =>
    obtain ⟨q, u, S, T, hq, hq50, rfl, hu, hOq⟩ := hrel
    have HU := Lib.hid hu
    have HT := Lib.hid hOq
    clear hu hOq
    by_cases hkl : q < len2
    · obtain ⟨ab, ao, rfl, habl, hcc⟩ := HO.out (by omega)
      obtain ⟨ki, sz, pk, va, v, hrg, hva, hvv, hpk, hsz⟩ := hcc q hkl
      have HRG : Hid (World.rangeAt wr ab (ao + q * 5) (mopC ki sz pk va v).toList) := Lib.hid (range_below hrg (HB0.out.trans HT.out.bel))
      have HV := Lib.hid hva
      have HVV := Lib.hid hvv
      have HPK := Lib.hid hpk
      have HSZ := Lib.hid hsz
      have S5 : Hid (Objs w0 (unO ub m b 6 k mm u S T (rnO xb rm rb 6 k mm u S T [blkO wr.heap.size 49 (mopC ki sz pk va v)])) (wr.alloc (.cells (mopC ki sz pk va v) 49))) := Lib.hid (objs_push6 (HT.out.push (mopC ki sz pk va v) 49 rfl))
      clear hrg hva hvv hpk hsz hcc habl
      by_cases h50 : 50 ≤ q
      · have i50 : (50 : Int) ≤ (q : Int) := by omega
        have HT5 := Lib.hid (S5.out.bel)
        clear HT S5
        go_wp2_with (first | ((with_reducible refine wl_load 49 (.tmp 64) rfl ?_ ab (ao + q * 5) (mopC ki sz pk va v) ?_ HRG.out ?_ ?_); exact rfl; exact rfl; exact mop_row _ _ _ _ _) | ((with_reducible refine wl_store_new 49 (.tmp 16) (.tmp 65) rfl ?_ wr (World.heap wr).size 49 mopZ (mopC ki sz pk va v) ?_ ?_ ?_ ?_ ?_ ?_ ?_ ?_); exact rfl; exact rfl; exact rfl; exact rfl; exact rfl; exact rfl; exact mop_row _ _ _ _ _; exact mop_one _ _ _ _ _))
        go_ret
        exact ⟨rfl, HB0.out.trans HT5.out⟩
      · have i50 : ¬ (50 : Int) ≤ (q : Int) := by omega
        obtain ⟨uk, huk⟩ : ∃ uk : Nat, IntKind.u64.wrap ki = (uk : Int) := ⟨(IntKind.u64.wrap ki).toNat, by have := IntKind.wrap_u64 ki; omega⟩
        have hbo := S5.out.blk 6 rfl
        have q0 : _ = some (Value.int .i64 ki) := hbo.cell 0
        have ql := hbo.lt
        clear HT hbo
        go_upto_block 2 with (first | ((with_reducible refine wl_load 49 (.tmp 64) rfl ?_ ab (ao + q * 5) (mopC ki sz pk va v) ?_ HRG.out ?_ ?_); exact rfl; exact rfl; exact mop_row _ _ _ _ _) | ((with_reducible refine wl_store_new 49 (.tmp 16) (.tmp 65) rfl ?_ wr (World.heap wr).size 49 mopZ (mopC ki sz pk va v) ?_ ?_ ?_ ?_ ?_ ?_ ?_ ?_); exact rfl; exact rfl; exact rfl; exact rfl; exact rfl; exact rfl; exact mop_row _ _ _ _ _; exact mop_one _ _ _ _ _))
        clear q0 ql HRG
        generalize wr.alloc (.cells (mopC ki sz pk va v) 49) = w5 at *
        generalize wr.heap.size = ob at *
        go_cut [61, 17, 18, 19, 20] from 61 to 281 (fun i vv ww c d w => i = .int .i64 (q : Int) ∧ ∃ (x : Nat) (y : Int), vv = .int .u64 (x : Int) ∧ ww = .int .u64 (x : Int) ∧ c = .int .i64 y ∧ d = .int .i64 y ∧ ∃ (u2 : Un) (S2 : Nat → List Nat) (T2 : List (List En)), u2.Ok ∧ Objs w0 (unO ub m b 6 k mm u2 S2 T2 (rnO xb rm rb 6 k mm u2 S2 T2 [blkO ob 49 (mopC ki sz pk va v)])) w)
        case first =>
          rcases (show uk % 8 = 0 ∨ uk % 8 = 1 ∨ uk % 8 = 2 ∨ uk % 8 = 3 ∨ uk % 8 = 4 ∨ uk % 8 = 5 ∨ uk % 8 = 6 ∨ uk % 8 = 7 by omega) with hm8 | hm8 | hm8 | hm8 | hm8 | hm8 | hm8 | hm8
          · as_aux_lemma =>
              have j0 : ((uk : Int) % 8 == 0) = true := by rw [show (uk : Int) % 8 = 0 by omega]; rfl
              clear hm8
              have hbo := S5.out.blk 6 rfl
              have q1 : _ = some (Value.int .i64 sz) := hbo.cell 1
              have q2 : _ = some (Value.int .i64 pk) := hbo.cell 2
              have q3 : _ = some (Value.int .u64 (va : Int)) := hbo.cell 3
              have q4 : _ = some (Value.int .u64 (v : Int)) := hbo.cell 4
              have ql := hbo.lt
              clear hbo
              go_wp2_with fail
              clear q1 q2 q3 q4 ql
              refine (mload_any ub m b 6 k mm u S T (rnO xb rm rb 6 k mm u S T [blkO ob 49 (mopC ki sz pk va v)]) va sz pk w0 _ HV.out HPK.out HU.out S5.out).mono ?_
              rintro e w6 ⟨rfl, hO6, hb6⟩
              have S6 := Lib.hid hO6
              clear hO6 hb6
              have hbo := S6.out.blk 6 rfl
              have q1 : _ = some (Value.int .i64 sz) := hbo.cell 1
              have q2 : _ = some (Value.int .i64 pk) := hbo.cell 2
              have q3 : _ = some (Value.int .u64 (va : Int)) := hbo.cell 3
              have q4 : _ = some (Value.int .u64 (v : Int)) := hbo.cell 4
              have ql := hbo.lt
              clear hbo
              go_wp2_with fail
              clear q1 q2 q3 q4 ql
              refine (rload_unit xb rm rb 6 k mm u S T (unO ub m b 6 k mm u S (placeM 6 S T u va sz 1 pk).2.2 [blkO ob 49 (mopC ki sz pk va v)]) va sz 1 pk w0 _ (by decide) (by decide) HV.out HPK.out HU.out (objs_swap S6.out)).mono ?_
              rintro e w7 ⟨rfl, hO7⟩
              have HF : Hid (∃ (u2 : Un) (S2 : Nat → List Nat) (T2 : List (List En)), u2.Ok ∧ Objs w0 (unO ub m b 6 k mm u2 S2 T2 (rnO xb rm rb 6 k mm u2 S2 T2 [blkO ob 49 (mopC ki sz pk va v)])) w7) := Lib.hid ⟨u, S, _, HU.out, objs_back hO7⟩
              clear hO7 S6 S5
              generalize readM 6 S (placeM 6 S T u va sz 1 pk) sz = x at *
              generalize (placeM 6 S T u va sz 1 pk).2.1 = y at *
              go_wp2_with fail
              go_meet
              case rel => exact ⟨rfl, x, y, rfl, rfl, rfl, rfl, HF.out⟩
          · as_aux_lemma =>
              have j0 : ((uk : Int) % 8 == 0) = false := by rw [show (uk : Int) % 8 = 1 by omega]; rfl
              have j1 : ((uk : Int) % 8 == 1) = true := by rw [show (uk : Int) % 8 = 1 by omega]; rfl
              clear hm8
              have hbo := S5.out.blk 6 rfl
              have q1 : _ = some (Value.int .i64 sz) := hbo.cell 1
              have q2 : _ = some (Value.int .i64 pk) := hbo.cell 2
              have q3 : _ = some (Value.int .u64 (va : Int)) := hbo.cell 3
              have q4 : _ = some (Value.int .u64 (v : Int)) := hbo.cell 4
              have ql := hbo.lt
              clear hbo
              go_wp2_with fail
              clear q1 q2 q3 q4 ql
              refine (mstore_any ub m b 6 k mm u S T (rnO xb rm rb 6 k mm u S T [blkO ob 49 (mopC ki sz pk va v)]) va sz pk w0 _ v HV.out HVV.out HPK.out HU.out S5.out).mono ?_
              rintro e w6 ⟨rfl, hO6, hb6⟩
              have S6 := Lib.hid hO6
              clear hO6 hb6
              have hbo := S6.out.blk 6 rfl
              have q1 : _ = some (Value.int .i64 sz) := hbo.cell 1
              have q2 : _ = some (Value.int .i64 pk) := hbo.cell 2
              have q3 : _ = some (Value.int .u64 (va : Int)) := hbo.cell 3
              have q4 : _ = some (Value.int .u64 (v : Int)) := hbo.cell 4
              have ql := hbo.lt
              clear hbo
              go_wp2_with fail
              clear q1 q2 q3 q4 ql
              refine (rstore_unit xb rm rb 6 k mm u S T (unO ub m b 6 k mm u (storeM 6 S (placeM 6 S T u va sz 2 pk) sz v) (placeM 6 S T u va sz 2 pk).2.2 [blkO ob 49 (mopC ki sz pk va v)]) va sz pk w0 _ v HVV.out (by decide) HV.out HPK.out HU.out (objs_swap S6.out)).mono ?_
              rintro e w7 ⟨rfl, hO7⟩
              have HF : Hid (∃ (u2 : Un) (S2 : Nat → List Nat) (T2 : List (List En)), u2.Ok ∧ Objs w0 (unO ub m b 6 k mm u2 S2 T2 (rnO xb rm rb 6 k mm u2 S2 T2 [blkO ob 49 (mopC ki sz pk va v)])) w7) := Lib.hid ⟨u, _, _, HU.out, objs_back hO7⟩
              clear hO7 S6 S5
              generalize readM 6 S (placeM 6 S T u va sz 2 pk) sz = x at *
              generalize (placeM 6 S T u va sz 2 pk).2.1 = y at *
              go_wp2_with fail
              go_meet
              case rel => exact ⟨rfl, 0, y, rfl, rfl, rfl, rfl, HF.out⟩
          · as_aux_lemma =>
              have j0 : ((uk : Int) % 8 == 0) = false := by rw [show (uk : Int) % 8 = 2 by omega]; rfl
              have j1 : ((uk : Int) % 8 == 1) = false := by rw [show (uk : Int) % 8 = 2 by omega]; rfl
              have j2 : ((uk : Int) % 8 == 2) = true := by rw [show (uk : Int) % 8 = 2 by omega]; rfl
              clear hm8
              have hbo := S5.out.blk 6 rfl
              have q1 : _ = some (Value.int .i64 sz) := hbo.cell 1
              have q2 : _ = some (Value.int .i64 pk) := hbo.cell 2
              have q3 : _ = some (Value.int .u64 (va : Int)) := hbo.cell 3
              have q4 : _ = some (Value.int .u64 (v : Int)) := hbo.cell 4
              have ql := hbo.lt
              clear hbo
              go_wp2_with fail
              clear q1 q2 q3 q4 ql
              refine (mswap_any ub m b 6 k mm u S T (rnO xb rm rb 6 k mm u S T [blkO ob 49 (mopC ki sz pk va v)]) va sz pk w0 _ 13 (.pointer (some ⟨ob, 0, none⟩)) (fun x => (x + v) % 18446744073709551616) turn_enter (fun x => Nat.mod_lt _ (by decide)) (fun x S' T' w' h' => turn_any ob x ki sz pk va v w' HVV.out (h'.blk 6 rfl)) HV.out HPK.out HU.out S5.out).mono ?_
              rintro e w6 ⟨rfl, hO6, hb6⟩
              have S6 := Lib.hid hO6
              have HTK := Lib.hid ((objs_swap S5.out).rbufTG 1 rfl)
              have HPG := Lib.hid (S5.out.memPg 2 rfl)
              clear hO6 hb6 S5
              have hbo := S6.out.blk 6 rfl
              have q1 : _ = some (Value.int .i64 sz) := hbo.cell 1
              have q2 : _ = some (Value.int .i64 pk) := hbo.cell 2
              have q3 : _ = some (Value.int .u64 (va : Int)) := hbo.cell 3
              have q4 : _ = some (Value.int .u64 (v : Int)) := hbo.cell 4
              have ql := hbo.lt
              clear hbo
              go_wp2_with fail
              clear q1 q2 q3 q4 ql
              refine (rload_unit xb rm rb 6 k mm u S T (unO ub m b 6 k mm u _ _ [blkO ob 49 (mopC ki sz pk va v)]) va sz 2 pk w0 _ (by decide) (by decide) HV.out HPK.out HU.out (objs_swap S6.out)).mono ?_
              rintro e w7 ⟨rfl, hO7⟩
              have S7 := Lib.hid (objs_back hO7)
              clear hO7 S6
              have hbo := S7.out.blk 6 rfl
              have q1 : _ = some (Value.int .i64 sz) := hbo.cell 1
              have q2 : _ = some (Value.int .i64 pk) := hbo.cell 2
              have q3 : _ = some (Value.int .u64 (va : Int)) := hbo.cell 3
              have q4 : _ = some (Value.int .u64 (v : Int)) := hbo.cell 4
              have ql := hbo.lt
              clear hbo
              have HRL : Hid (readM 6 S (placeM 6 S T u va sz 2 pk) sz < 18446744073709551616) := Lib.hid (readM_lt HPG.out _ _)
              obtain ⟨x, hx⟩ : ∃ x, x = readM 6 S (placeM 6 S T u va sz 2 pk) sz := ⟨_, rfl⟩
              rw [← hx] at HRL
              have HX := Lib.hid hx
              have hadd : IntKind.u64.wrap ((x : Int) + (v : Int)) = (((x + v) % 18446744073709551616 : Nat) : Int) := by rw [IntKind.wrap_u64]; omega
              rw [← hx]
              clear hx
              go_wp2_with fail
              clear hadd
              clear q1 q2 q3 q4 ql
              have h := rstore_unit xb rm rb 6 k mm u S (placeM 6 S T u va sz 2 pk).2.2 (unO ub m b 6 k mm u _ _ [blkO ob 49 (mopC ki sz pk va v)]) va sz pk w0 _ ((x + v) % 18446744073709551616) (Nat.mod_lt _ (by decide)) (by decide) HV.out HPK.out HU.out (objs_swap S7.out)
              rw [placeM_twice HTK.out.1, ← HX.out] at h
              refine h.mono ?_
              clear h
              rintro e w8 ⟨rfl, hO8⟩
              have hO8 := objs_back hO8
              have HF : Hid (∃ (u2 : Un) (S2 : Nat → List Nat) (T2 : List (List En)), u2.Ok ∧ Objs w0 (unO ub m b 6 k mm u2 S2 T2 (rnO xb rm rb 6 k mm u2 S2 T2 [blkO ob 49 (mopC ki sz pk va v)])) w8) := Lib.hid ⟨u, _, _, HU.out, hO8⟩
              clear hO8 S7
              generalize (placeM 6 S T u va sz 2 pk).2.1 = y at *
              go_wp2_with fail
              go_meet
              case rel => exact ⟨rfl, x, y, rfl, rfl, rfl, rfl, HF.out⟩
          · as_aux_lemma =>
              have j0 : ((uk : Int) % 8 == 0) = false := by rw [show (uk : Int) % 8 = 3 by omega]; rfl
              have j1 : ((uk : Int) % 8 == 1) = false := by rw [show (uk : Int) % 8 = 3 by omega]; rfl
              have j2 : ((uk : Int) % 8 == 2) = false := by rw [show (uk : Int) % 8 = 3 by omega]; rfl
              have j3 : ((uk : Int) % 8 == 3) = true := by rw [show (uk : Int) % 8 = 3 by omega]; rfl
              clear hm8
              have hbo := S5.out.blk 6 rfl
              have q1 : _ = some (Value.int .i64 sz) := hbo.cell 1
              have q2 : _ = some (Value.int .i64 pk) := hbo.cell 2
              have q3 : _ = some (Value.int .u64 (va : Int)) := hbo.cell 3
              have q4 : _ = some (Value.int .u64 (v : Int)) := hbo.cell 4
              have ql := hbo.lt
              clear hbo
              go_wp2_with fail
              clear q1 q2 q3 q4 ql
              refine (mfetch_any ub m b 6 k mm u S T (rnO xb rm rb 6 k mm u S T [blkO ob 49 (mopC ki sz pk va v)]) va pk w0 _ HV.out HPK.out HU.out S5.out).mono ?_
              rintro e w6 ⟨rfl, hO6, hb6⟩
              have S6 := Lib.hid hO6
              clear hO6 hb6
              have hbo := S6.out.blk 6 rfl
              have q1 : _ = some (Value.int .i64 sz) := hbo.cell 1
              have q2 : _ = some (Value.int .i64 pk) := hbo.cell 2
              have q3 : _ = some (Value.int .u64 (va : Int)) := hbo.cell 3
              have q4 : _ = some (Value.int .u64 (v : Int)) := hbo.cell 4
              have ql := hbo.lt
              clear hbo
              go_wp2_with fail
              clear q1 q2 q3 q4 ql
              refine (rload_unit xb rm rb 6 k mm u S T (unO ub m b 6 k mm u S (placeM 6 S T u va 4 0 pk).2.2 [blkO ob 49 (mopC ki sz pk va v)]) va 4 0 pk w0 _ (by decide) (by decide) HV.out HPK.out HU.out (objs_swap S6.out)).mono ?_
              rintro e w7 ⟨rfl, hO7⟩
              have HF : Hid (∃ (u2 : Un) (S2 : Nat → List Nat) (T2 : List (List En)), u2.Ok ∧ Objs w0 (unO ub m b 6 k mm u2 S2 T2 (rnO xb rm rb 6 k mm u2 S2 T2 [blkO ob 49 (mopC ki sz pk va v)])) w7) := Lib.hid ⟨u, S, _, HU.out, objs_back hO7⟩
              clear hO7 S6 S5
              generalize readM 6 S (placeM 6 S T u va 4 0 pk) 4 = x at *
              generalize (placeM 6 S T u va 4 0 pk).2.1 = y at *
              go_wp2_with fail
              go_meet
              case rel => exact ⟨rfl, x, y, rfl, rfl, rfl, rfl, HF.out⟩
          · as_aux_lemma =>
              have j0 : ((uk : Int) % 8 == 0) = false := by rw [show (uk : Int) % 8 = 4 by omega]; rfl
              have j1 : ((uk : Int) % 8 == 1) = false := by rw [show (uk : Int) % 8 = 4 by omega]; rfl
              have j2 : ((uk : Int) % 8 == 2) = false := by rw [show (uk : Int) % 8 = 4 by omega]; rfl
              have j3 : ((uk : Int) % 8 == 3) = false := by rw [show (uk : Int) % 8 = 4 by omega]; rfl
              have j4 : ((uk : Int) % 8 == 4) = true := by rw [show (uk : Int) % 8 = 4 by omega]; rfl
              clear hm8
              have hbo := S5.out.blk 6 rfl
              have q1 : _ = some (Value.int .i64 sz) := hbo.cell 1
              have q2 : _ = some (Value.int .i64 pk) := hbo.cell 2
              have q3 : _ = some (Value.int .u64 (va : Int)) := hbo.cell 3
              have q4 : _ = some (Value.int .u64 (v : Int)) := hbo.cell 4
              have ql := hbo.lt
              clear hbo
              go_wp2_with fail
              clear q1 q2 q3 q4 ql
              refine (rgetsatp_all v _ HVV.out).mono ?_
              rintro e w6 ⟨on, asid, ppn, rfl, hx6, hsat⟩
              have S6 := Lib.hid (objs_push7 ((S5.out.step hx6).push #[.bool on, .int .i64 asid, .int .u64 (ppn : Int)] 43 rfl))
              have HSAT := Lib.hid (hsat u)
              clear hx6 hsat S5
              go_upto_region 32 with fail
              generalize hw6 : w6.alloc (.cells #[.bool on, .int .i64 asid, .int .u64 (ppn : Int)] 43) = w7 at *
              generalize hsb : w6.heap.size = sb at *
              clear hw6 hsb
              have hbo := S6.out.blk 6 rfl
              have q1 : _ = some (Value.int .i64 sz) := hbo.cell 1
              have q2 : _ = some (Value.int .i64 pk) := hbo.cell 2
              have q3 : _ = some (Value.int .u64 (va : Int)) := hbo.cell 3
              have q4 : _ = some (Value.int .u64 (v : Int)) := hbo.cell 4
              have ql := hbo.lt
              clear hbo
              go_wp2_with fail
              clear q1 q2 q3 q4 ql
              refine (setsatp_any ub m b 6 k mm u S T (rnO xb rm rb 6 k mm u S T [blkO ob 49 (mopC ki sz pk va v), blkO sb 43 #[.bool on, .int .i64 asid, .int .u64 (ppn : Int)]]) w0 _ v HVV.out S6.out).mono ?_
              rintro e w8 ⟨rfl, hO8⟩
              have S8 := Lib.hid hO8
              have HUS : Hid ((u.satp v).Ok) := Lib.hid HU.out.satp
              clear hO8 S6
              generalize msatpB v = bb at *
              generalize u.satp v = us at *
              cases bb with
              | false =>
                rw [if_neg (by decide)] at HSAT
                have HF : Hid (∃ (u2 : Un) (S2 : Nat → List Nat) (T2 : List (List En)), u2.Ok ∧ Objs w0 (unO ub m b 6 k mm u2 S2 T2 (rnO xb rm rb 6 k mm u2 S2 T2 [blkO ob 49 (mopC ki sz pk va v)])) w8) := Lib.hid ⟨u, S, T, HU.out, by have h := S8.out.pick [0, 1, 2, 3, 4, 5, 6] (by decide) (by simp [unO, rnO]); rw [HSAT.out] at h; exact h⟩
                clear S8
                go_wp2_with fail
                go_meet
                case rel => exact ⟨rfl, 0, (-1), rfl, rfl, rfl, rfl, HF.out⟩
              | true =>
                rw [if_pos rfl] at HSAT
                have hbs := S8.out.blk 7 rfl
                have e0 : _ = some (Value.bool on) := hbs.cell 0
                have e1 : _ = some (Value.int .i64 asid) := hbs.cell 1
                have e2 : _ = some (Value.int .u64 (ppn : Int)) := hbs.cell 2
                have hxb := S8.out.blk 3 rfl
                have f2 : _ = some (Value.bool u.on) := hxb.cell 2
                have f3 : _ = some (Value.int .i64 u.asid) := hxb.cell 3
                have f4 : _ = some (Value.int .u64 (u.ppn : Int)) := hxb.cell 4
                have fl := hxb.lt
                have ff := fun i => Blk.frozen hxb i
                clear hbs hxb
                have HF : Hid (∃ (u2 : Un) (S2 : Nat → List Nat) (T2 : List (List En)), u2.Ok ∧ Objs w0 (unO ub m b 6 k mm u2 S2 T2 (rnO xb rm rb 6 k mm u2 S2 T2 [blkO ob 49 (mopC ki sz pk va v)])) (((w8.setCell ⟨xb, 2, none⟩ (.bool on)).setCell ⟨xb, 3, none⟩ (.int .i64 asid)).setCell ⟨xb, 4, none⟩ (.int .u64 (ppn : Int)))) := Lib.hid ⟨us, S, T, HUS.out, by have h := (((S8.out.set_ 3 rfl 2 (.bool on)).set_ 3 rfl 3 (.int .i64 asid)).set_ 3 rfl 4 (.int .u64 (ppn : Int))).pick [0, 1, 2, 3, 4, 5, 6] (by decide) (by simp [unO, rnO]); rw [HSAT.out] at h ⊢; exact h⟩
                clear S8
                go_wp2_with fail
                go_meet
                case rel => exact ⟨rfl, 0, (-1), rfl, rfl, rfl, rfl, HF.out⟩
          · as_aux_lemma =>
              have j0 : ((uk : Int) % 8 == 0) = false := by rw [show (uk : Int) % 8 = 5 by omega]; rfl
              have j1 : ((uk : Int) % 8 == 1) = false := by rw [show (uk : Int) % 8 = 5 by omega]; rfl
              have j2 : ((uk : Int) % 8 == 2) = false := by rw [show (uk : Int) % 8 = 5 by omega]; rfl
              have j3 : ((uk : Int) % 8 == 3) = false := by rw [show (uk : Int) % 8 = 5 by omega]; rfl
              have j4 : ((uk : Int) % 8 == 4) = false := by rw [show (uk : Int) % 8 = 5 by omega]; rfl
              have j5 : ((uk : Int) % 8 == 5) = true := by rw [show (uk : Int) % 8 = 5 by omega]; rfl
              clear hm8
              have hbo := S5.out.blk 6 rfl
              have q1 : _ = some (Value.int .i64 sz) := hbo.cell 1
              have q2 : _ = some (Value.int .i64 pk) := hbo.cell 2
              have q3 : _ = some (Value.int .u64 (va : Int)) := hbo.cell 3
              have q4 : _ = some (Value.int .u64 (v : Int)) := hbo.cell 4
              have ql := hbo.lt
              clear hbo
              go_upto_region 38 with fail
              clear q1 q2 q3 q4 ql
              have S6 := Lib.hid (objs_push7 (S5.out.push #[.bool (bits .and .i64 sz 1 == 0), .bool (decide (0 < bits .and .i64 sz 2)), .bool (decide (0 < bits .and .i64 sz 4))] 45 rfl))
              generalize (bits .and .i64 sz 1 == 0) = m1 at *
              generalize decide (0 < bits .and .i64 sz 2) = m2 at *
              generalize decide (0 < bits .and .i64 sz 4) = m3 at *
              clear S5
              generalize hw6 : w5.alloc (.cells #[.bool m1, .bool m2, .bool m3] 45) = w6 at *
              generalize hsb : w5.heap.size = sb at *
              clear hw6 hsb
              have hbs := S6.out.blk 7 rfl
              have e0 : _ = some (Value.bool m1) := hbs.cell 0
              have e1 : _ = some (Value.bool m2) := hbs.cell 1
              have e2 : _ = some (Value.bool m3) := hbs.cell 2
              clear hbs
              go_wp2_with fail
              clear e0 e1 e2
              refine (setmode_any ub m b 6 k mm u S T (rnO xb rm rb 6 k mm u S T [blkO ob 49 (mopC ki sz pk va v), blkO sb 45 #[.bool m1, .bool m2, .bool m3]]) w0 _ m1 m2 m3 S6.out).mono ?_
              rintro e w8 ⟨rfl, hO8⟩
              have S8 := Lib.hid hO8
              clear hO8 S6
              have hbs := S8.out.blk 7 rfl
              have e0 : _ = some (Value.bool m1) := hbs.cell 0
              have e1 : _ = some (Value.bool m2) := hbs.cell 1
              have e2 : _ = some (Value.bool m3) := hbs.cell 2
              have hxb := S8.out.blk 3 rfl
              have f5 : _ = some (Value.bool u.user) := hxb.cell 5
              have f6 : _ = some (Value.bool u.sum) := hxb.cell 6
              have f7 : _ = some (Value.bool u.mxr) := hxb.cell 7
              have fl := hxb.lt
              have ff := fun i => Blk.frozen hxb i
              clear hbs hxb
              have HF : Hid (∃ (u2 : Un) (S2 : Nat → List Nat) (T2 : List (List En)), u2.Ok ∧ Objs w0 (unO ub m b 6 k mm u2 S2 T2 (rnO xb rm rb 6 k mm u2 S2 T2 [blkO ob 49 (mopC ki sz pk va v)])) (((w8.setCell ⟨xb, 5, none⟩ (.bool m1)).setCell ⟨xb, 6, none⟩ (.bool m2)).setCell ⟨xb, 7, none⟩ (.bool m3))) := Lib.hid ⟨{ u with user := m1, sum := m2, mxr := m3 }, S, T, HU.out, by have h := (((S8.out.set_ 3 rfl 5 (.bool m1)).set_ 3 rfl 6 (.bool m2)).set_ 3 rfl 7 (.bool m3)).pick [0, 1, 2, 3, 4, 5, 6] (by decide) (by simp [unO, rnO]); exact h⟩
              clear S8
              go_wp2_with fail
              go_meet
              case rel => exact ⟨rfl, 0, (-1), rfl, rfl, rfl, rfl, HF.out⟩
          · as_aux_lemma =>
              have j0 : ((uk : Int) % 8 == 0) = false := by rw [show (uk : Int) % 8 = 6 by omega]; rfl
              have j1 : ((uk : Int) % 8 == 1) = false := by rw [show (uk : Int) % 8 = 6 by omega]; rfl
              have j2 : ((uk : Int) % 8 == 2) = false := by rw [show (uk : Int) % 8 = 6 by omega]; rfl
              have j3 : ((uk : Int) % 8 == 3) = false := by rw [show (uk : Int) % 8 = 6 by omega]; rfl
              have j4 : ((uk : Int) % 8 == 4) = false := by rw [show (uk : Int) % 8 = 6 by omega]; rfl
              have j5 : ((uk : Int) % 8 == 5) = false := by rw [show (uk : Int) % 8 = 6 by omega]; rfl
              have j6 : ((uk : Int) % 8 == 6) = true := by rw [show (uk : Int) % 8 = 6 by omega]; rfl
              clear hm8
              have hbo := S5.out.blk 6 rfl
              have q1 : _ = some (Value.int .i64 sz) := hbo.cell 1
              have q2 : _ = some (Value.int .i64 pk) := hbo.cell 2
              have q3 : _ = some (Value.int .u64 (va : Int)) := hbo.cell 3
              have q4 : _ = some (Value.int .u64 (v : Int)) := hbo.cell 4
              have ql := hbo.lt
              clear hbo
              by_cases hz : sz.tmod 2 = 0
              · have hz2 : (sz.tmod 2 == 0) = true := by simpa using hz
                have hz3 : IntKind.i64.wrap (sz.tmod 2) = sz.tmod 2 := by rw [IntKind.wrap_i64, hz]; rfl
                go_upto_region 44 with fail
                clear q1 q2 q3 q4 ql
                clear hz hz2 hz3
                have S6 := Lib.hid (objs_push7 (S5.out.push #[.int .u64 (va : Int)] 41 rfl))
                clear S5
                generalize hw6 : w5.alloc (.cells #[.int .u64 (va : Int)] 41) = w6 at *
                generalize hsb : w5.heap.size = sb at *
                clear hw6 hsb
                have D6 := Lib.hid S6.out.drew
                have s1 : ∀ W', SameL [xb] w6.drew W' → W'.cell? ⟨xb, 1, none⟩ = some (.pointer (some ⟨rb, 0, none⟩)) := fun W' h => h.cell (by simp) ((D6.out.blk 3 rfl).cell 1)
                refine wp_region_plan_by (SameL [xb]) (later_same [xb]) [(0, false), (1, false), (3, false), (4, false), (5, false), (6, false), (7, false), (2, true), (8, true), (9, false)] (by kernel_rfl) (by kernel_rfl) (fun _ d _ _ _ h => by cases d <;> exact h) ?_
                iterate 7 (refine plan_take (v := ?_) rfl (by kernel_rfl) ?_ ?_; rotate_left; (focus (intro w' hw'; try go_simp; try with_reducible rfl)); simp only [Act.put, List.setIfInBounds_toArray, List.set_cons_zero, List.set_cons_succ])
                clear s1 S6
                generalize w6.drew = y6 at *
                refine plan_call rfl (by kernel_rfl) (by go_simp; exact ⟨rfl, rfl⟩) ?_
                refine (mfence_any ub m b 6 k mm u S T (rnO xb rm rb 6 k mm u S T [blkO ob 49 (mopC ki sz pk va v), blkO sb 41 #[.int .u64 (va : Int)]]) w0 _ Option.none none (.slice none 0 0) (.slice none 0 0) (fun _ h => by cases h) rfl rfl D6.out).mono ?_
                rintro e w7 ⟨rfl, hO7⟩
                have hS7 : SameL [xb] y6 w7 := fun q hq => by
                  simp only [List.mem_singleton] at hq
                  subst hq
                  exact D6.out.same hO7 3 3 rfl rfl
                refine ⟨_, rfl, hS7, ?_⟩
                simp only [Act.put, List.setIfInBounds_toArray, List.set_cons_zero, List.set_cons_succ]
                have S7 := Lib.hid hO7
                clear hO7 hS7 D6
                refine plan_call rfl (by kernel_rfl) (by go_simp; exact ⟨rfl, rfl⟩) ?_
                refine (S7.out.rbufFence 4 rfl Option.none none (.slice none 0 0) (.slice none 0 0) (fun _ h => by cases h) rfl rfl).mono ?_
                rintro e w8 ⟨rfl, hO8, hb8⟩
                have hS8 : SameL [xb] w7 w8 := fun q hq => by
                  simp only [List.mem_singleton] at hq
                  subst hq
                  exact S7.out.same hO8 3 3 rfl rfl
                refine ⟨_, rfl, hS8, ?_⟩
                simp only [Act.put, List.setIfInBounds_toArray, List.set_cons_zero, List.set_cons_succ]
                iterate 1 (refine plan_take (v := ?_) rfl (by kernel_rfl) ?_ ?_; rotate_left; (focus (intro w' hw'; try go_simp; try with_reducible rfl)); simp only [Act.put, List.setIfInBounds_toArray, List.set_cons_zero, List.set_cons_succ])
                refine plan_end ?_
                have HF : Hid (∃ (u2 : Un) (S2 : Nat → List Nat) (T2 : List (List En)), u2.Ok ∧ Objs w0 (unO ub m b 6 k mm u2 S2 T2 (rnO xb rm rb 6 k mm u2 S2 T2 [blkO ob 49 (mopC ki sz pk va v)])) w8) := Lib.hid ⟨u, S, _, HU.out, by have h := hO8.pick [0, 1, 2, 3, 4, 5, 6] (by decide) (by simp [unO, rnO]); exact h⟩
                clear hO8 S7 hS8 hb8
                generalize fenceN T Option.none none = N at *
                go_wp2_with fail
                go_meet
                case rel => exact ⟨rfl, 0, (-1), rfl, rfl, rfl, rfl, HF.out⟩
              · have hz2 : (sz.tmod 2 == 0) = false := by simpa using hz
                have hz3 : True := trivial
                go_upto_region 44 with fail
                clear q1 q2 q3 q4 ql
                clear hz hz2 hz3
                have S6 := Lib.hid (objs_push7 (S5.out.push #[.int .u64 (va : Int)] 41 rfl))
                clear S5
                generalize hw6 : w5.alloc (.cells #[.int .u64 (va : Int)] 41) = w6 at *
                generalize hsb : w5.heap.size = sb at *
                clear hw6 hsb
                have D6 := Lib.hid S6.out.drew
                have s1 : ∀ W', SameL [xb] w6.drew W' → W'.cell? ⟨xb, 1, none⟩ = some (.pointer (some ⟨rb, 0, none⟩)) := fun W' h => h.cell (by simp) ((D6.out.blk 3 rfl).cell 1)
                refine wp_region_plan_by (SameL [xb]) (later_same [xb]) [(0, false), (1, false), (3, false), (4, false), (5, false), (6, false), (7, false), (2, true), (8, true), (9, false)] (by kernel_rfl) (by kernel_rfl) (fun _ d _ _ _ h => by cases d <;> exact h) ?_
                iterate 7 (refine plan_take (v := ?_) rfl (by kernel_rfl) ?_ ?_; rotate_left; (focus (intro w' hw'; try go_simp; try with_reducible rfl)); simp only [Act.put, List.setIfInBounds_toArray, List.set_cons_zero, List.set_cons_succ])
                clear s1 S6
                generalize w6.drew = y6 at *
                refine plan_call rfl (by kernel_rfl) (by go_simp; exact ⟨rfl, rfl⟩) ?_
                refine (mfence_any ub m b 6 k mm u S T (rnO xb rm rb 6 k mm u S T [blkO ob 49 (mopC ki sz pk va v), blkO sb 41 #[.int .u64 (va : Int)]]) w0 _ (some va) none (.slice (some ⟨sb, 0, none⟩) 1 1) (.slice none 0 0) (fun x h => by injection h with h; subst h; exact HV.out) ⟨sb, rfl, (D6.out.blk 7 rfl).cell 0⟩ rfl D6.out).mono ?_
                rintro e w7 ⟨rfl, hO7⟩
                have hS7 : SameL [xb] y6 w7 := fun q hq => by
                  simp only [List.mem_singleton] at hq
                  subst hq
                  exact D6.out.same hO7 3 3 rfl rfl
                refine ⟨_, rfl, hS7, ?_⟩
                simp only [Act.put, List.setIfInBounds_toArray, List.set_cons_zero, List.set_cons_succ]
                have S7 := Lib.hid hO7
                clear hO7 hS7 D6
                refine plan_call rfl (by kernel_rfl) (by go_simp; exact ⟨rfl, rfl⟩) ?_
                refine (S7.out.rbufFence 4 rfl (some va) none (.slice (some ⟨sb, 0, none⟩) 1 1) (.slice none 0 0) (fun x h => by injection h with h; subst h; exact HV.out) ⟨sb, rfl, (S7.out.blk 7 rfl).cell 0⟩ rfl).mono ?_
                rintro e w8 ⟨rfl, hO8, hb8⟩
                have hS8 : SameL [xb] w7 w8 := fun q hq => by
                  simp only [List.mem_singleton] at hq
                  subst hq
                  exact S7.out.same hO8 3 3 rfl rfl
                refine ⟨_, rfl, hS8, ?_⟩
                simp only [Act.put, List.setIfInBounds_toArray, List.set_cons_zero, List.set_cons_succ]
                iterate 1 (refine plan_take (v := ?_) rfl (by kernel_rfl) ?_ ?_; rotate_left; (focus (intro w' hw'; try go_simp; try with_reducible rfl)); simp only [Act.put, List.setIfInBounds_toArray, List.set_cons_zero, List.set_cons_succ])
                refine plan_end ?_
                have HF : Hid (∃ (u2 : Un) (S2 : Nat → List Nat) (T2 : List (List En)), u2.Ok ∧ Objs w0 (unO ub m b 6 k mm u2 S2 T2 (rnO xb rm rb 6 k mm u2 S2 T2 [blkO ob 49 (mopC ki sz pk va v)])) w8) := Lib.hid ⟨u, S, _, HU.out, by have h := hO8.pick [0, 1, 2, 3, 4, 5, 6] (by decide) (by simp [unO, rnO]); exact h⟩
                clear hO8 S7 hS8 hb8
                generalize fenceN T (some va) none = N at *
                go_wp2_with fail
                go_meet
                case rel => exact ⟨rfl, 0, (-1), rfl, rfl, rfl, rfl, HF.out⟩
          · as_aux_lemma =>
              have j0 : ((uk : Int) % 8 == 0) = false := by rw [show (uk : Int) % 8 = 7 by omega]; rfl
              have j1 : ((uk : Int) % 8 == 1) = false := by rw [show (uk : Int) % 8 = 7 by omega]; rfl
              have j2 : ((uk : Int) % 8 == 2) = false := by rw [show (uk : Int) % 8 = 7 by omega]; rfl
              have j3 : ((uk : Int) % 8 == 3) = false := by rw [show (uk : Int) % 8 = 7 by omega]; rfl
              have j4 : ((uk : Int) % 8 == 4) = false := by rw [show (uk : Int) % 8 = 7 by omega]; rfl
              have j5 : ((uk : Int) % 8 == 5) = false := by rw [show (uk : Int) % 8 = 7 by omega]; rfl
              have j6 : ((uk : Int) % 8 == 6) = false := by rw [show (uk : Int) % 8 = 7 by omega]; rfl
              clear hm8
              have hbo := S5.out.blk 6 rfl
              have q1 : _ = some (Value.int .i64 sz) := hbo.cell 1
              have q2 : _ = some (Value.int .i64 pk) := hbo.cell 2
              have q3 : _ = some (Value.int .u64 (va : Int)) := hbo.cell 3
              have q4 : _ = some (Value.int .u64 (v : Int)) := hbo.cell 4
              have ql := hbo.lt
              clear hbo
              go_wp2_with fail
              clear q1 q2 q3 q4 ql
              refine (S5.out.memStore 2 rfl va 8 v HV.out HVV.out).mono ?_
              rintro e w6 ⟨rfl, hO6, hb6⟩
              have S6 : Hid (Objs w0 (unO ub m b 6 k mm u (stR 6 S va 8 v) T (rnO xb rm rb 6 k mm u S T [blkO ob 49 (mopC ki sz pk va v)])) w6) := Lib.hid hO6
              clear hO6 hb6 S5
              have hbo := S6.out.blk 6 rfl
              have q1 : _ = some (Value.int .i64 sz) := hbo.cell 1
              have q2 : _ = some (Value.int .i64 pk) := hbo.cell 2
              have q3 : _ = some (Value.int .u64 (va : Int)) := hbo.cell 3
              have q4 : _ = some (Value.int .u64 (v : Int)) := hbo.cell 4
              have ql := hbo.lt
              clear hbo
              go_wp2_with fail
              clear q1 q2 q3 q4 ql
              refine (S6.out.refStore 5 rfl (by decide) va 8 v HV.out HVV.out).mono ?_
              rintro e w7 ⟨rfl, hO7, hb7⟩
              have hO7 : Objs w0 (unO ub m b 6 k mm u (stR 6 S va 8 v) T (rnO xb rm rb 6 k mm u (stR 6 S va 8 v) T [blkO ob 49 (mopC ki sz pk va v)])) w7 := hO7
              have HF : Hid (∃ (u2 : Un) (S2 : Nat → List Nat) (T2 : List (List En)), u2.Ok ∧ Objs w0 (unO ub m b 6 k mm u2 S2 T2 (rnO xb rm rb 6 k mm u2 S2 T2 [blkO ob 49 (mopC ki sz pk va v)])) w7) := Lib.hid ⟨u, _, T, HU.out, hO7⟩
              clear hO7 hb7 S6
              go_wp2_with fail
              go_meet
              case rel => exact ⟨rfl, 0, (-1), rfl, rfl, rfl, rfl, HF.out⟩
        case rest =>
          as_aux_lemma =>
            obtain ⟨rfl, x, y, rfl, rfl, rfl, rfl, u2, S2, T2, hu2, hO⟩ := hcut
            have S6 := Lib.hid hO
            have HU2 := Lib.hid hu2
            clear hO hu2 S5 HU
            have hxb := S6.out.drew.blk 3 rfl
            have s1 : ∀ W', Ext wc.drew W' → W'.cell? ⟨xb, 1, none⟩ = some (.pointer (some ⟨rb, 0, none⟩)) := fun W' h => (h.cell (p := ⟨xb, 1, none⟩) hxb.lt).trans (hxb.cell 1)
            have s2 : ∀ W', Ext wc.drew W' → W'.cell? ⟨xb, 2, none⟩ = some (.bool u2.on) := fun W' h => (h.cell (p := ⟨xb, 2, none⟩) hxb.lt).trans (hxb.cell 2)
            have s3 : ∀ W', Ext wc.drew W' → W'.cell? ⟨xb, 3, none⟩ = some (.int .i64 u2.asid) := fun W' h => (h.cell (p := ⟨xb, 3, none⟩) hxb.lt).trans (hxb.cell 3)
            have s4 : ∀ W', Ext wc.drew W' → W'.cell? ⟨xb, 4, none⟩ = some (.int .u64 (u2.ppn : Int)) := fun W' h => (h.cell (p := ⟨xb, 4, none⟩) hxb.lt).trans (hxb.cell 4)
            have heq := fun W => satp_same W u2.on u2.asid u2.ppn HU2.out.2 HU2.out.1
            clear hxb
            go_wp2_with fail
            refine wp_region_plan [(0, false), (1, false), (2, false), (3, false), (4, false), (5, false), (6, false), (7, false), (8, false), (9, false), (11, false), (12, false), (13, false), (14, false), (10, true), (15, false), (16, false), (17, false), (18, false), (20, false), (21, false), (22, false), (23, false), (19, true), (24, true), (25, true), (26, false), (27, false)] (by kernel_rfl) (by kernel_rfl) (fun _ d _ _ _ h => by cases d <;> exact h) ?_
            iterate 14 (refine plan_take (v := ?_) rfl (by kernel_rfl) ?_ ?_; rotate_left; (focus (intro w' hw'; try go_simp; try with_reducible rfl)); simp only [Act.put, List.setIfInBounds_toArray, List.set_cons_zero, List.set_cons_succ])
            have S7 := Lib.hid S6.out.drew
            generalize wc.drew = y6 at *
            refine plan_call rfl (by kernel_rfl) (by go_simp; exact ⟨rfl, rfl⟩) ?_
            refine (satp_any ub m b 6 k mm u2 S2 T2 (rnO xb rm rb 6 k mm u2 S2 T2 [blkO ob 49 (mopC ki sz pk va v)]) w0 _ S7.out).mono ?_
            rintro e w7 ⟨rfl, hx7⟩
            refine ⟨_, rfl, hx7, ?_⟩
            simp only [Act.put, List.setIfInBounds_toArray, List.set_cons_zero, List.set_cons_succ]
            have s1' := fun W' (h : Ext w7 W') => s1 W' (hx7.trans h)
            have S8 := Lib.hid (S7.out.step hx7)
            clear s1 s2 s3 s4 hx7 S7 S6
            iterate 8 (refine plan_take (v := ?_) rfl (by kernel_rfl) ?_ ?_; rotate_left; (focus (intro w' hw'; try go_simp; try with_reducible rfl)); simp only [Act.put, List.setIfInBounds_toArray, List.set_cons_zero, List.set_cons_succ])
            clear heq s1'
            refine plan_call rfl (by kernel_rfl) (by go_simp; exact ⟨rfl, rfl⟩) ?_
            refine (S8.out.bufList 1 rfl).mono ?_
            rintro e w8 ⟨A3, c3, rfl, hrd, hO8, hx8⟩
            refine ⟨_, rfl, hx8, ?_⟩
            simp only [Act.put, List.setIfInBounds_toArray, List.set_cons_zero, List.set_cons_succ]
            have S9 := Lib.hid hO8
            have HRD := Lib.hid hrd
            clear hO8 hrd hx8
            refine plan_call rfl (by kernel_rfl) (by go_simp; exact ⟨rfl, rfl⟩) ?_
            refine (S9.out.rbufList 4 rfl).mono ?_
            rintro e w9 ⟨A4, c4, rfl, hrd2, hO9, hx9⟩
            refine ⟨_, rfl, hx9, ?_⟩
            simp only [Act.put, List.setIfInBounds_toArray, List.set_cons_zero, List.set_cons_succ]
            have HTG := Lib.hid (hO9.bufTG 1 rfl)
            have HO9 := Lib.hid (objs_drop6 hO9)
            have HR1 := Lib.hid (HRD.out.below hx9)
            have HR2 := Lib.hid hrd2
            clear hO9 hrd2 hx9 S9 S8 HRD
            refine plan_call rfl (by kernel_rfl) (by go_simp; exact ⟨rfl, rfl⟩) ?_
            refine (same_any A3 A4 c3 c4 (listT 0 T2) _ (by have := HTG.out.1.slots (List.Perm.refl _); omega) HR1.out HR2.out (slots_wf HTG.out.1 HTG.out.2)).mono ?_
            rintro e w10 ⟨rfl, hb10⟩
            refine ⟨_, rfl, hb10, ?_⟩
            simp only [Act.put, List.setIfInBounds_toArray, List.set_cons_zero, List.set_cons_succ]
            have HF10 := Lib.hid (HO9.out.step hb10)
            clear hb10 HO9
            iterate 2 (refine plan_take (v := ?_) rfl (by kernel_rfl) ?_ ?_; rotate_left; (focus (intro w' hw'; try go_simp; try with_reducible rfl)); simp only [Act.put, List.setIfInBounds_toArray, List.set_cons_zero, List.set_cons_succ])
            refine plan_end ?_
            go_wp2_with fail
            go_roundw
            case rel => exact ⟨q + 1, u2, S2, T2, hkl, by omega, by go_num, HU2.out, HF10.out⟩
            case measure => simp [intOf]; omega
    · obtain rfl : len2 = q := by omega
      have HT5 := Lib.hid (HT.out.bel)
      clear HT HO
      go_wp2_with fail
      go_ret
      exact ⟨rfl, HB0.out.trans HT5.out⟩
theorem Law.MmuPlays (A : Option Addr) (len cap : Nat) (s0 s1 : Int) (A2 : Option Addr) (len2 cap2 : Nat) (W : World) (hz : IsRows [.int .u64, .int .u64] W A len cap) (hb : 16 * cap ≤ 140737488351232) (h0 : (Lit.int .u8 s0).wf = true) (h1 : (Lit.int .u8 s1).wf = true)
    (hz2 : IsRows [.int .i64, .int .i64, .int .i64, .int .u64, .int .u64] W A2 len2 cap2) (_ : 40 * cap2 ≤ 140737488351232) :
    Calls Try.prog 3 #[.slice A len cap, .agg #[.int .u8 s0, .int .u8 s1], .slice A2 len2 cap2] W fun e w' => e = .returned (.bool true) ∧ Below W.heap.size W w' := by
  have hl : len2 ≤ 9223372036854775807 := by
    rcases hz2 with ⟨_, h, _⟩ | ⟨x, _, h, h2, _⟩
    · omega
    · exact Nat.le_trans h (Nat.le_trans h2 (by decide))
  obtain ⟨s0, rfl⟩ := Int.eq_ofNat_of_zero_le (u8_of_wf h0).1
  obtain ⟨s1, rfl⟩ := Int.eq_ofNat_of_zero_le (u8_of_wf h1).1
  obtain ⟨ws, hw, hwd⟩ := wd_of_rows hz
  exact mplays_walk A A2 len cap len2 cap2 s0 s1 ws W hwd hw (rows_len hz hb) (fun hp => mops_of hz2 hp) hl (by have := (u8_of_wf h0).2; omega) (by have := (u8_of_wf h1).2; omega)
end Go.Proofs.Ytecalibnnfcaeaa
