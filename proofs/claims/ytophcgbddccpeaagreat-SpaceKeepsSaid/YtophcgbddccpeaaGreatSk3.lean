/- Merged texts: FrD, PteA, PteB, PteC, PteD, PteE, PteG, PteH, PteJ, WalkA, WalkW. -/
import Derived.Test.YtophcgbddccpeaaGreatSk2
import Derived.Test.YtophcgbddccpeaaGreatPlan
import Derived.IntWalk
import Derived.Laws.BitsAllLaws
import Derived.Laws.Bits64b
import Derived.BigRegion
/- Contract of the stock's Give. -/
namespace Go.Proofs.YtophcgbddccpeaaGreat
open Go.RowKit Go.Maps

section
variable {ops : Array Oper} {rest : List Oper} {o : Oper} {a : Act} {Q : Exit → Act → World → Prop}
theorem wpList_bdel (w : World) (hg : o.guard = none) (m x : Operand) (hop : o.op = Op.call { callee := Callee.builtin Builtin.delete, args := #[m, x], argTypes := #[113, 3] }) (b : Nat) (L : List Int) (f : Int)
    (hm : a.eval m = .map (some b)) (hx : a.eval x = .int .i64 f) (h : BSet w b L) (hf : (Lit.int .i64 f).wf = true) (hL : f ∈ L)
    (hK : ∀ w', BSet w' b (L.erase f) → w.grownBy w' (some b) → wpList Tryz.prog ops Q rest (a.put o.dst (.tuple #[])) w') : wpList Tryz.prog ops Q (o :: rest) a w := by
  refine wpList_plain hg fun K' hK' => ?_
  obtain ⟨w', hrun, r1, r2⟩ := h.del hf hL o.type
  unfold Oper.wp execOp
  simp only [hop, resolve, invoke, builtin, Sem.run_bind, Sem.run_pure, Result.andThen_ok, List.map_toArray, List.map_cons, List.map_nil, hm, hx, hrun]
  exact hK' _ _ (hK w' r1 r2)
end
theorem info3 : (Tryz.prog.info? 3).map (fun i => (i.zero, i.size, i.bytes)) = some (some (.int .i64 0), 1, 8) := by kernel_rfl
theorem reads_one (w : World) (t : TypeId) (u : Value) : Reads (w.alloc (.cells #[u] t)) (w.heap.size + 1) 1 (some ⟨w.heap.size, 0, none⟩) 1 [u] :=
  ⟨rfl, fun _ => ⟨_, rfl, Nat.lt_succ_self _, fun j v hj => by
    match j, hj with
    | 0, hj =>
      simp at hj
      subst hj
      show (w.alloc (.cells #[u] t)).cell? ⟨w.heap.size, 0, none⟩ = _
      rw [World.cell?_alloc_new]; rfl
    | j + 1, hj => simp at hj⟩⟩
theorem one_int (x : Int) : ∀ u ∈ [Value.int IntKind.i64 x], u.oneCell' = true := by
  intro u hu; simp at hu; subst hu; rfl

theorem give_none (sb : Nat) (F : Nat → Prop) (s : SV) (f : Int) (W : World) (h : StockAt W sb F s) (hf : (Lit.int .i64 f).wf = true) (hn : f ∉ s.taken) :
    Calls Tryz.prog 66 #[.pointer (some ⟨sb, 0, none⟩), .int .i64 f] W fun e w' => e = .returned (.int .i64 51) ∧ W = w' := by
  obtain ⟨v, bm, hb, _, hm, _⟩ := h
  have c4 : W.cell? ⟨sb, 4, none⟩ = some (.map (some bm)) := hb.cell 4
  have hl := hm.look hf
  rw [show decide (f ∈ s.taken) = false by simpa using hn] at hl
  clear hb hm hf hn
  go_enter Tryz.func66, Tryz.ntmps66
  go_wp2
  go_ret
  exact ⟨rfl, rfl⟩
/-- The stock after a step: its footprint may have grown by new blocks. -/
def StockTo (W : World) (sb : Nat) (F : Nat → Prop) (s : SV) (w' : World) : Prop := ∃ F', StockAt w' sb F' s ∧ (∀ k, F' k → F k ∨ W.heap.size ≤ k) ∧ Keeps F W w'
theorem give_ok (sb : Nat) (F : Nat → Prop) (s : SV) (f : Int) (W : World) (h : StockAt W sb F s) (hf : (Lit.int .i64 f).wf = true) (hn : f ∈ s.taken) (hlen : s.given.length ≤ 1048576) :
    Calls Tryz.prog 66 #[.pointer (some ⟨sb, 0, none⟩), .int .i64 f] W fun e w' => e = .returned (.int .i64 0) ∧ StockTo W sb F (s.back f) w' := by
  obtain ⟨v, bm, hb, ho, hm, fs, fm, fv, fb⟩ := h
  obtain ⟨i0, hi0, hz0, hz1, hz2⟩ := info_parts info3
  obtain ⟨A, c, rfl⟩ := row_slice ho
  have c4 : W.cell? ⟨sb, 4, none⟩ = some (.map (some bm)) := hb.cell 4
  have hl := hm.look hf
  rw [show decide (f ∈ s.taken) = true by simpa using hn] at hl
  have nms : bm ≠ sb := by
    obtain ⟨_, D, hD, _⟩ := hm
    exact map_ne_blk hD hb
  have nrow : ∀ k, (Value.slice A s.given.length c).ownBlock = some k → k ≠ sb ∧ k ≠ bm := fun k hk => ⟨fun e => row_ne_blk ho hb (by decide) (by rw [hk, e]), fun e => by
    obtain ⟨_, D, hD, _⟩ := hm
    exact row_ne_map ho hD (by rw [hk, e])⟩
  have HB := Lib.hid hb
  have HR := Lib.hid ho
  have HM := Lib.hid hm
  have HN := Lib.hid (And.intro nrow nms)
  have HF := Lib.hid (And.intro fs (And.intro fm (And.intro fv fb)))
  have HNT := Lib.hid hn
  have HW := Lib.hid hf
  have hsl := hb.lt
  clear ho hb hm fs fm fv fb hn hf nrow nms
  go_enter Tryz.func66, Tryz.ntmps66
  go_wp2_with (first
    | (at_delete; refine wpList_bdel _ rfl _ _ rfl bm s.taken f rfl rfl HM.out HW.out HNT.out ?_; intro w1 hset hgrow; have hb1 := HB.out.grown hgrow (by intro e; injection e with e; exact HN.out.2 e.symm); have c13 : w1.cell? ⟨sb, 3, none⟩ = some (.slice A s.given.length c) := hb1.cell 3; have K1 := (Keeps.refl (fun k => k = sb ∨ k = bm) W).grown hgrow (fun k hk => by injection hk with hk; exact .inl (.inr hk.symm)); have HO1 := Lib.hid (K1.row HR.out (fun k hk => by rintro (e | e); exact (HN.out.1 k hk).1 e; exact (HN.out.1 k hk).2 e)); have HS1 := Lib.hid hset; have HK1 := Lib.hid K1; have HB1 := Lib.hid hb1; have hsz1 : W.heap.size ≤ w1.heap.size := K1.size; clear hset hgrow hb1 K1 hl c4)
    | (at_builtin; refine wpList_append_any _ rfl (.tmp 25) (.tmp 27) _ rfl 0 3 i0 _ 1 8 Tryz.underlying63 hi0 hz0 hz1 hz2 rfl (by decide) _ s.given.length (s.given.map iv) rfl (HO1.out.alloc _) (w1.heap.size + 1) (some ⟨w1.heap.size, 0, none⟩) 1 1 [.int .i64 f] rfl (reads_one _ _ _) (one_int _) (by unfold maxLen; omega) (by omega) (Nat.zero_le _) ?_; intro v2 w2 hown hgrow hat; obtain ⟨g2, cap2, hv2e, _, _⟩ := hown.form (by omega); subst hv2e; have hb2 := (HB1.out.alloc (.cells #[.int .i64 f] 3)).grown hgrow (fun e => (HN.out.1 sb e.symm).1 rfl); have c23 : w2.cell? ⟨sb, 3, none⟩ = some (.slice A s.given.length c) := hb2.cell 3; have f23 := hb2.frozen 3; have HO2 := Lib.hid hown; have HG2 := Lib.hid hgrow; have HB2 := Lib.hid hb2; have HAT := Lib.hid hat; clear hown hgrow hb2 hat c13))
  go_ret
  obtain ⟨fs, fm, fv, fb⟩ := HF.out
  obtain ⟨nrow, nms⟩ := HN.out
  have hg2 := HG2.out
  have hs2 : w1.heap.size + 1 ≤ w2.heap.size := by have := hg2.size; simpa using this
  have K2 : Keeps F W w2 := ((HK1.out.mono (fun k hk => by rcases hk with rfl | rfl <;> assumption)).alloc _).grown hg2 (fun k hk => .inl (fv k hk))
  have K3 : Keeps F W (w2.setCell ⟨sb, 3, none⟩ (Value.slice (some ⟨g2, 0, none⟩) (s.given.length + 1) cap2)) := K2.setCell (.inl fs) _
  have hat := HAT.out
  have hv2 : ∀ k, (Value.slice (some ⟨g2, 0, none⟩) (s.given.length + 1) cap2).ownBlock = some k → F k ∨ W.heap.size ≤ k := fun k hk => by
    rcases hat with e | e
    · rw [e] at hk; exact .inl (fv k hk)
    · rw [e] at hk; simp at hk; omega
  have hv2s : (Value.slice (some ⟨g2, 0, none⟩) (s.given.length + 1) cap2).ownBlock ≠ some sb := by
    rcases hat with e | e
    · rw [e]; exact fun h => (nrow sb h).1 rfl
    · rw [e]; simp; omega
  have hv2m : (Value.slice (some ⟨g2, 0, none⟩) (s.given.length + 1) cap2).ownBlock ≠ some bm := by
    rcases hat with e | e
    · rw [e]; exact fun h => (nrow bm h).2 rfl
    · rw [e]; have := fb bm fm; simp; omega
  have hown : (w2.setCell ⟨sb, 3, none⟩ (Value.slice (some ⟨g2, 0, none⟩) (s.given.length + 1) cap2)).ownsRow 0 3 1 (Value.slice (some ⟨g2, 0, none⟩) (s.given.length + 1) cap2) (s.back f).given.length ((s.back f).given.map iv) := by
    have := ownsRow_setCell_other HO2.out (a := ⟨sb, 3, none⟩) hv2s (Value.slice (some ⟨g2, 0, none⟩) (s.given.length + 1) cap2)
    simpa [SV.back, iv] using this
  have hbm2 : BSet (w2.setCell ⟨sb, 3, none⟩ (Value.slice (some ⟨g2, 0, none⟩) (s.given.length + 1) cap2)) bm (s.taken.erase f) := by
    have k1 : Keeps (fun k => some k = (Value.slice A s.given.length c).ownBlock ∨ k = sb) w1 (w2.setCell ⟨sb, 3, none⟩ (Value.slice (some ⟨g2, 0, none⟩) (s.given.length + 1) cap2)) :=
      (((Keeps.refl _ w1).alloc _).grown hg2 (fun k hk => .inl (.inl hk.symm))).setCell (.inl (.inr rfl)) _
    refine HS1.out.keeps k1 ?_
    rintro (e | e)
    · exact (nrow bm e.symm).2 rfl
    · exact nms e
  refine ⟨rfl, fun k => F k ∨ (W.heap.size ≤ k ∧ k < w2.heap.size), ⟨(Value.slice (some ⟨g2, 0, none⟩) (s.given.length + 1) cap2), bm, HB2.out.set_ 3 _, hown, hbm2, .inl fs, .inl fm, fun k hk => ?_, fun k hk => ?_⟩, fun k hk => hk.imp id (·.1), K3⟩
  · rcases hv2 k hk with h | h
    · exact .inl h
    · exact .inr ⟨h, (HO2.out.lt k hk).2⟩
  · have := K2.size
    rcases hk with h | h
    · have := fb k h; simp; omega
    · simpa using h.2
end Go.Proofs.YtophcgbddccpeaaGreat

/- Contracts of the packages pte and its reference: numbers of addresses. -/
namespace Go.Proofs.YtophcgbddccpeaaGreat
open Go.RowKit

def levelB (n : Int) : Bool := n == 0 || n == 1 || n == 2
theorem level_cases {n : Int} (h : levelB n = true) : n = 0 ∨ n = 1 ∨ n = 2 := by simp [levelB] at h; omega
theorem level_not {n : Int} (h : levelB n = false) : n < 0 ∨ 2 < n := by simp [levelB] at h; omega
theorem levelB_eq (n : Int) : levelB n = (decide (0 ≤ n) && decide (n < 3)) := by
  rw [Bool.eq_iff_iff]; simp [levelB]; omega

theorem level_any (n : Int) (w : World) :
    Calls Tryz.prog 100 #[.int .i64 n] w fun e w' => e = .returned (.bool (levelB n)) ∧ w = w' := by
  rw [levelB_eq]
  go_enter Tryz.func100, Tryz.ntmps100
  go_wp2
  all_goals (go_ret; refine ⟨?_, rfl⟩; first | rfl | (simp [*]; done) | (simp [*]; omega))
theorem wrap_dbl (i : Nat) (h : i < 63) : IntKind.u64.wrap (((2 ^ i : Nat) : Int) * 2) = ((2 ^ (i + 1) : Nat) : Int) := by
  have h1 : 2 ^ i ≤ 2 ^ 62 := Nat.pow_le_pow_right (by decide) (by omega)
  rw [Nat.pow_succ]
  generalize 2 ^ i = P at *
  rw [IntWalk.u64_in _ (by omega)]
  omega
def fieldV (v a n : Nat) : Nat := v / 2 ^ a % 2 ^ n
theorem fieldV_lt (v a n : Nat) : fieldV v a n < 2 ^ n := Nat.mod_lt _ (Nat.two_pow_pos n)
theorem div_u64 (v P : Nat) (hv : v < 18446744073709551616) : IntKind.u64.wrap ((v : Int) / (P : Int)) = (v : Int) / (P : Int) := by
  have h : v / P ≤ v := Nat.div_le_self _ _
  rw [← Int.natCast_ediv]
  generalize v / P = x at *
  exact IntWalk.u64_in _ (by omega)
theorem fin_field (v P R : Nat) : ((v : Int) / (P : Int)).tmod (R : Int) = ((v / P % R : Nat) : Int) := by
  rw [← Int.natCast_ediv, Int.tmod_eq_emod_of_nonneg (Int.natCast_nonneg _), ← Int.natCast_emod]

/-! Numbers of an address. -/
def shV (n : Int) : Nat := if n = 0 then 12 else if n = 1 then 21 else 30
def indexV (va : Nat) (n : Int) : Nat := if levelB n then fieldV va (shV n) 9 else 0
def spanV (n : Int) : Nat := if levelB n then 2 ^ shV n else 0
theorem indexV_not (va : Nat) (n : Int) (h : levelB n = false) : indexV va n = 0 := by simp [indexV, h]
theorem spanV_not (n : Int) (h : levelB n = false) : spanV n = 0 := by simp [spanV, h]
theorem and_mask (v k : Nat) (m : Int) (hk : k ≤ 63) (hm : m = ((2 ^ k - 1 : Nat) : Int)) (hv : v < 18446744073709551616) : bits .and .u64 (v : Int) m = ((v % 2 ^ k : Nat) : Int) := by
  have h1 : 2 ^ k ≤ 2 ^ 63 := Nat.pow_le_pow_right (by decide) hk
  have h2 := Nat.two_pow_pos k
  rw [hm, bits_and_u64_nat _ _ hv (by omega), Nat.and_two_pow_sub_one_eq_mod]
theorem index_eq (va k : Nat) (d : Int) (hd : d = ((2 ^ k : Nat) : Int)) (hv : va < 18446744073709551616) : wrap64 (bits .and .u64 ((va : Int) / d) 511) = ((fieldV va k 9 : Nat) : Int) := by
  have h : va / 2 ^ k ≤ va := Nat.div_le_self _ _
  have h2 : va / 2 ^ k % 512 < 512 := Nat.mod_lt _ (by decide)
  unfold fieldV
  rw [hd, ← Int.natCast_ediv]
  generalize va / 2 ^ k = x at *
  rw [and_mask _ 9 511 (by decide) rfl (by omega), IntWalk.wrap64_in _ (by omega)]
theorem wrap_field (va k : Nat) : wrap64 ((fieldV va k 9 : Nat) : Int) = ((fieldV va k 9 : Nat) : Int) := by
  have := fieldV_lt va k 9
  exact IntWalk.wrap64_in _ (by omega)

theorem index_any (va : Nat) (n : Int) (w : World) (hv : va < 18446744073709551616) :
    Calls Tryz.prog 88 #[.int .u64 va, .int .i64 n] w fun e w' => e = .returned (.int .i64 ((indexV va n : Nat) : Int)) ∧ w = w' := by
  rcases Bool.eq_false_or_eq_true (levelB n) with h1 | h1
  · rcases level_cases h1 with rfl | rfl | rfl
    all_goals
      have H1 := Lib.hid h1
      have HV := Lib.hid hv
      clear h1 hv
      go_enter Tryz.func88, Tryz.ntmps88
      go_wp2_with (go_at_call 100; refine (level_any _ _).mono ?_; rintro e w' ⟨rfl, rfl⟩; rw [H1.out])
      go_ret
      refine ⟨?_, rfl⟩
      first
      | exact congrArg (fun x => Ending.returned (.int .i64 x)) (index_eq va 12 4096 rfl HV.out)
      | exact congrArg (fun x => Ending.returned (.int .i64 x)) (index_eq va 21 2097152 rfl HV.out)
      | exact congrArg (fun x => Ending.returned (.int .i64 x)) (index_eq va 30 1073741824 rfl HV.out)
  · have H1 := Lib.hid h1
    clear h1
    go_enter Tryz.func88, Tryz.ntmps88
    go_wp2_with (go_at_call 100; refine (level_any _ _).mono ?_; rintro e w' ⟨rfl, rfl⟩; rw [H1.out])
    go_ret
    exact ⟨by rw [indexV_not va n H1.out]; rfl, rfl⟩

theorem span_any (n : Int) (w : World) :
    Calls Tryz.prog 101 #[.int .i64 n] w fun e w' => e = .returned (.int .u64 ((spanV n : Nat) : Int)) ∧ w = w' := by
  rcases Bool.eq_false_or_eq_true (levelB n) with h1 | h1
  · rcases level_cases h1 with rfl | rfl | rfl
    all_goals
      have H1 := Lib.hid h1
      clear h1
      go_enter Tryz.func101, Tryz.ntmps101
      go_wp2_with (go_at_call 100; refine (level_any _ _).mono ?_; rintro e w' ⟨rfl, rfl⟩; rw [H1.out])
      go_ret
      exact ⟨rfl, rfl⟩
  · have H1 := Lib.hid h1
    clear h1
    go_enter Tryz.func101, Tryz.ntmps101
    go_wp2_with (go_at_call 100; refine (level_any _ _).mono ?_; rintro e w' ⟨rfl, rfl⟩; rw [H1.out])
    go_ret
    exact ⟨by rw [spanV_not n H1.out]; rfl, rfl⟩
end Go.Proofs.YtophcgbddccpeaaGreat

/- Contracts: Canonical, Vpn, Join, Leaf, Right. -/
namespace Go.Proofs.YtophcgbddccpeaaGreat
open Go.RowKit

def canonB (va : Nat) : Bool := ((fieldV va 38 26 : Nat) : Int) == 0 || ((fieldV va 38 26 : Nat) : Int) == 67108863

theorem canon_any (va : Nat) (w : World) (hv : va < 18446744073709551616) :
    Calls Tryz.prog 67 #[.int .u64 va] w fun e w' => e = .returned (.bool (canonB va)) ∧ w = w' := by
  have HV := Lib.hid hv
  clear hv
  go_enter Tryz.func67, Tryz.ntmps67
  go_wp2
  go_ret
  refine ⟨?_, rfl⟩
  refine congrArg (fun b => Ending.returned (.bool b)) ?_
  show (IntKind.u64.wrap (wrap64 (wrap64 (va : Int) * 33554432) / 33554432) == (va : Int)) = canonB va
  have hv := HV.out
  rw [Bool.eq_iff_iff]
  simp only [canonB, fieldV, beq_iff_eq, Bool.or_eq_true, IntKind.wrap_u64, wrap64, Nat.reducePow]
  omega

def vpnV (va : Nat) : Nat := va / 4096 % 134217728
theorem vpn_any (va : Nat) (w : World) (hv : va < 18446744073709551616) :
    Calls Tryz.prog 105 #[.int .u64 va] w fun e w' => e = .returned (.int .u64 ((vpnV va : Nat) : Int)) ∧ w = w' := by
  have HV := Lib.hid hv
  clear hv
  go_enter Tryz.func105, Tryz.ntmps105
  go_wp2
  go_ret
  refine ⟨?_, rfl⟩
  show Ending.returned (Value.int .u64 (bits .and .u64 ((va : Int) / 4096) 134217727)) = _
  have h : va / 4096 ≤ va := Nat.div_le_self _ _
  have hv := HV.out
  have e := and_mask (va / 4096) 27 134217727 (by decide) rfl (by omega)
  rw [show ((va : Int) / 4096) = ((va / 4096 : Nat) : Int) by omega, e]
  rfl

theorem and_high (x k j : Nat) (hx : x < 2 ^ (k + j)) : x &&& (2 ^ (k + j) - 2 ^ k) = x / 2 ^ k * 2 ^ k := by
  have e : 2 ^ (k + j) - 2 ^ k = 2 ^ k * (2 ^ j - 1) := by rw [Nat.pow_add, Nat.mul_sub, Nat.mul_one]
  rw [e]
  have h1 : (x &&& 2 ^ k * (2 ^ j - 1)) % 2 ^ k = 0 := by
    rw [Nat.and_mod_two_pow, Nat.mul_mod_right, Nat.and_zero]
  have h2 : (x &&& 2 ^ k * (2 ^ j - 1)) / 2 ^ k = x / 2 ^ k := by
    rw [Nat.and_div_two_pow, Nat.mul_div_cancel_left _ (Nat.two_pow_pos k), Nat.and_two_pow_sub_one_eq_mod]
    exact Nat.mod_eq_of_lt (Nat.div_lt_of_lt_mul (by rw [← Nat.pow_add]; exact hx))
  have h3 := Nat.div_add_mod (x &&& 2 ^ k * (2 ^ j - 1)) (2 ^ k)
  rw [h1, h2, Nat.add_zero, Nat.mul_comm] at h3
  exact h3.symm
theorem or_low (a b k : Nat) (hb : b < 2 ^ k) : a * 2 ^ k ||| b = a * 2 ^ k + b := by
  rw [Nat.mul_comm, ← Nat.two_pow_add_eq_or_of_lt hb]
theorem join_eq (ppn va k j S : Nat) (m : Int) (hk : k + j = 64) (hS : S = 2 ^ k) (hm : m = ((2 ^ k - 1 : Nat) : Int)) (hk1 : k ≤ 63) (hv : va < 18446744073709551616) :
    bits .or .u64 (bits .andNot .u64 (IntKind.u64.wrap ((ppn : Int) * 4096)) m) (bits .and .u64 (va : Int) m) = (((ppn * 4096 % 18446744073709551616) / S * S + va % S : Nat) : Int) := by
  have h1 : 2 ^ k ≤ 2 ^ 63 := Nat.pow_le_pow_right (by decide) hk1
  have h2 := Nat.two_pow_pos k
  have e1 : IntKind.u64.wrap ((ppn : Int) * 4096) = ((ppn * 4096 % 18446744073709551616 : Nat) : Int) := by rw [IntKind.wrap_u64]; omega
  have hlt : ppn * 4096 % 18446744073709551616 < 18446744073709551616 := Nat.mod_lt _ (by decide)
  rw [and_mask va k m hk1 hm hv, e1, hm]
  generalize ppn * 4096 % 18446744073709551616 = x at *
  have e2 := u64_andNot_nat x (2 ^ k - 1) hlt (by omega)
  rw [e2]
  have e3 : 18446744073709551615 - (2 ^ k - 1) = 2 ^ (k + j) - 2 ^ k := by
    rw [hk]; omega
  have hxx : x < 2 ^ (k + j) := by rw [hk]; exact hlt
  rw [e3, and_high x k j hxx]
  have h4 : x / 2 ^ k * 2 ^ k ≤ x := Nat.div_mul_le_self _ _
  have h5 : va % 2 ^ k < 2 ^ k := Nat.mod_lt _ h2
  rw [bits_or_u64_nat _ _ (by omega) (by omega), or_low _ _ _ h5, hS]

/-- A frame's number and an address. -/
def joinV (ppn va : Nat) (n : Int) : Nat := if levelB n then (ppn * 4096 % 18446744073709551616) / spanV n * spanV n + va % spanV n else 0

theorem join_any (ppn va : Nat) (n : Int) (w : World) (hp : ppn < 18446744073709551616) (hv : va < 18446744073709551616) :
    Calls Tryz.prog 83 #[.int .u64 ppn, .int .u64 va, .int .i64 n] w fun e w' => e = .returned (.int .u64 ((joinV ppn va n : Nat) : Int)) ∧ w = w' := by
  rcases Bool.eq_false_or_eq_true (levelB n) with h1 | h1
  · rcases level_cases h1 with rfl | rfl | rfl
    all_goals
      have H1 := Lib.hid h1
      have HV := Lib.hid hv
      have HP := Lib.hid hp
      clear h1 hv hp
      go_enter Tryz.func83, Tryz.ntmps83
      go_wp2_with (first | (go_at_call 100; refine (level_any _ _).mono ?_; rintro e w' ⟨rfl, rfl⟩; rw [H1.out]) | (go_at_call 101; refine (span_any _ _).mono ?_; rintro e w' ⟨rfl, rfl⟩; first | rw [show ((spanV 0 : Nat) : Int) = 4096 from rfl] | rw [show ((spanV 1 : Nat) : Int) = 2097152 from rfl] | rw [show ((spanV 2 : Nat) : Int) = 1073741824 from rfl]))
      go_ret
      refine ⟨?_, rfl⟩
      first
      | exact congrArg (fun x => Ending.returned (.int .u64 x)) (join_eq ppn va 12 52 4096 4095 rfl rfl rfl (by decide) HV.out)
      | exact congrArg (fun x => Ending.returned (.int .u64 x)) (join_eq ppn va 21 43 2097152 2097151 rfl rfl rfl (by decide) HV.out)
      | exact congrArg (fun x => Ending.returned (.int .u64 x)) (join_eq ppn va 30 34 1073741824 1073741823 rfl rfl rfl (by decide) HV.out)
  · have H1 := Lib.hid h1
    clear h1
    go_enter Tryz.func83, Tryz.ntmps83
    go_wp2_with (go_at_call 100; refine (level_any _ _).mono ?_; rintro e w' ⟨rfl, rfl⟩; rw [H1.out])
    go_ret
    exact ⟨by rw [joinV, H1.out]; rfl, rfl⟩
end Go.Proofs.YtophcgbddccpeaaGreat

/- Contracts: the reference's Join; Leaf, Right; flags; Put. -/
namespace Go.Proofs.YtophcgbddccpeaaGreat
open Go.RowKit

theorem at_eq (ppn : Nat) : ppn % 4503599627370496 * 4096 = ppn * 4096 % 18446744073709551616 := by omega
theorem rjoin_fin12 (ppn va : Nat) : IntKind.u64.wrap (IntKind.u64.wrap ((ppn : Int) * 4096 % 18446744073709551616 - ((ppn : Int) * 4096 % 18446744073709551616).tmod 4096) + (va : Int).tmod 4096) = ((ppn * 4096 % 18446744073709551616 / 4096 * 4096 + va % 4096 : Nat) : Int) := by
  rw [Int.tmod_eq_emod_of_nonneg (by omega), Int.tmod_eq_emod_of_nonneg (by omega), IntKind.wrap_u64, IntKind.wrap_u64]
  omega
theorem rjoin_fin21 (ppn va : Nat) : IntKind.u64.wrap (IntKind.u64.wrap ((ppn : Int) * 4096 % 18446744073709551616 - ((ppn : Int) * 4096 % 18446744073709551616).tmod 2097152) + (va : Int).tmod 2097152) = ((ppn * 4096 % 18446744073709551616 / 2097152 * 2097152 + va % 2097152 : Nat) : Int) := by
  rw [Int.tmod_eq_emod_of_nonneg (by omega), Int.tmod_eq_emod_of_nonneg (by omega), IntKind.wrap_u64, IntKind.wrap_u64]
  omega
theorem rjoin_fin30 (ppn va : Nat) : IntKind.u64.wrap (IntKind.u64.wrap ((ppn : Int) * 4096 % 18446744073709551616 - ((ppn : Int) * 4096 % 18446744073709551616).tmod 1073741824) + (va : Int).tmod 1073741824) = ((ppn * 4096 % 18446744073709551616 / 1073741824 * 1073741824 + va % 1073741824 : Nat) : Int) := by
  rw [Int.tmod_eq_emod_of_nonneg (by omega), Int.tmod_eq_emod_of_nonneg (by omega), IntKind.wrap_u64, IntKind.wrap_u64]
  omega
/-! Entries. -/
structure Pte where
  v : Bool
  r : Bool
  w : Bool
  x : Bool
  u : Bool
  g : Bool
  a : Bool
  d : Bool
  rsw : Int
  ppn : Int
def Pte.val (p : Pte) : Value := .agg #[.bool p.v, .bool p.r, .bool p.w, .bool p.x, .bool p.u, .bool p.g, .bool p.a, .bool p.d, .int .i64 p.rsw, .int .u64 p.ppn]

theorem leaf_any (v r w x u g a d : Bool) (rsw ppn : Int) (W : World) :
    Calls Tryz.prog 81 #[.agg #[.bool v, .bool r, .bool w, .bool x, .bool u, .bool g, .bool a, .bool d, .int .i64 rsw, .int .u64 ppn]] W fun e w' => e = .returned (.bool (r || x)) ∧ Below W.heap.size W w' := by
  cases r
  all_goals
    go_enter Tryz.func81, Tryz.ntmps81
    go_wp2
    go_ret
    exact ⟨rfl, (Below.refl _ _).alloc (Nat.le_refl _) _⟩
theorem right_any (v r w x u g a d : Bool) (rsw ppn : Int) (W : World) :
    Calls Tryz.prog 80 #[.agg #[.bool v, .bool r, .bool w, .bool x, .bool u, .bool g, .bool a, .bool d, .int .i64 rsw, .int .u64 ppn]] W fun e w' => e = .returned (.bool (v && (r || !w))) ∧ Below W.heap.size W w' := by
  cases v <;> cases r
  all_goals
    go_enter Tryz.func80, Tryz.ntmps80
    go_wp2
    go_ret
    exact ⟨rfl, (Below.refl _ _).alloc (Nat.le_refl _) _⟩

theorem flags_any (v r w x u g a d : Bool) (rsw ppn : Int) (W : World) :
    Calls Tryz.prog 89 #[.agg #[.bool v, .bool r, .bool w, .bool x, .bool u, .bool g, .bool a, .bool d, .int .i64 rsw, .int .u64 ppn]] W fun e w' => e = .returned (.agg #[.bool v, .bool r, .bool w, .bool x, .bool u, .bool g, .bool a, .bool d]) ∧ Below W.heap.size W w' := by
  go_enter Tryz.func89, Tryz.ntmps89
  go_wp2
  exact bodyPost_ret (v := .agg #[.bool v, .bool r, .bool w, .bool x, .bool u, .bool g, .bool a, .bool d]) (by simp [results, Tryz.results89, go_sem]) rfl ⟨rfl, by go_grown⟩

def bt (b : Bool) : Nat := if b then 1 else 0
/-- The word of an entry. -/
def putV (v r w x u g a d : Bool) (rsw ppn : Int) : Nat :=
  bt v + 2 * bt r + 4 * bt w + 8 * bt x + 16 * bt u + 32 * bt g + 64 * bt a + 128 * bt d + 256 * (rsw % 4).toNat + 1024 * (ppn.toNat % 17592186044416)

def lowL (l : List Bool) : Nat → Nat
  | 0 => 0
  | j + 1 => lowL l j + 2 ^ j * bt (l.getD j false)
theorem lowL_lt (l : List Bool) : ∀ j, lowL l j < 2 ^ j
  | 0 => by simp [lowL]
  | j + 1 => by
    have := lowL_lt l j
    have hb : 2 ^ j * bt (l.getD j false) ≤ 2 ^ j := by unfold bt; split <;> simp
    rw [lowL, Nat.pow_succ]
    omega
theorem or_pow (x i : Nat) (h : x / 2 ^ i % 2 = 0) : x ||| 2 ^ i = x + 2 ^ i := by
  have hp := Nat.two_pow_pos i
  have h1 : (x ||| 2 ^ i) % 2 ^ i = x % 2 ^ i := by rw [Nat.or_mod_two_pow, Nat.mod_self, Nat.or_zero]
  have h2 : (x ||| 2 ^ i) / 2 ^ i = x / 2 ^ i + 1 := by
    rw [Nat.or_div_two_pow, Nat.div_self hp]
    have := or_low (x / 2 ^ i / 2) 1 1 (by decide)
    rw [show x / 2 ^ i / 2 * 2 ^ 1 = x / 2 ^ i by omega] at this
    exact this
  have h3 := Nat.div_add_mod (x ||| 2 ^ i) (2 ^ i)
  have h4 := Nat.div_add_mod x (2 ^ i)
  rw [h1, h2, Nat.mul_add] at h3
  omega
def baseV (rsw ppn : Int) : Nat := 256 * (rsw % 4).toNat + 1024 * (ppn.toNat % 17592186044416)
theorem baseV_lt (rsw ppn : Int) : baseV rsw ppn < 18014398509481984 := by unfold baseV; omega
theorem i64_and3 (n : Int) : bits .and .i64 n 3 = n % 4 := by
  show IntKind.i64.wrap ((BitVec.ofInt 64 n &&& BitVec.ofInt 64 3).toNat : Int) = n % 4
  have e : (BitVec.ofInt 64 n &&& BitVec.ofInt 64 3).toNat = (n % 18446744073709551616).toNat % 4 := by
    rw [BitVec.toNat_and, show (BitVec.ofInt 64 3).toNat = 2 ^ 2 - 1 from rfl, Nat.and_two_pow_sub_one_eq_mod, BitVec.toNat_ofInt]
    rfl
  rw [e, IntKind.wrap_i64]
  omega
theorem base_eq (rsw ppn : Int) (hp : 0 ≤ ppn ∧ ppn < 18446744073709551616) :
    bits .or .u64 (IntKind.u64.wrap (bits .and .u64 ppn 17592186044415 * 1024)) (IntKind.u64.wrap (IntKind.u64.wrap (bits .and .i64 rsw 3) * 256)) = ((baseV rsw ppn : Nat) : Int) := by
  obtain ⟨P, rfl⟩ := Int.eq_ofNat_of_zero_le hp.1
  rw [and_mask P 44 17592186044415 (by decide) rfl (by omega), i64_and3]
  have hP : P % 2 ^ 44 < 17592186044416 := Nat.mod_lt _ (by decide)
  unfold baseV
  rw [show (P : Int).toNat = P from rfl, show (17592186044416 : Nat) = 2 ^ 44 from rfl]
  generalize P % 2 ^ 44 = q at *
  rw [IntWalk.u64_in ((q : Int) * 1024) (by omega), IntWalk.u64_in (rsw % 4) (by omega), IntWalk.u64_in (rsw % 4 * 256) (by omega)]
  have e1 : (q : Int) * 1024 = ((q * 2 ^ 10 : Nat) : Int) := by omega
  have e2 : rsw % 4 * 256 = ((256 * (rsw % 4).toNat : Nat) : Int) := by omega
  rw [e1, e2, bits_or_u64_nat _ _ (by omega) (by omega), or_low q _ 10 (by omega)]
  omega
theorem put_round (l : List Bool) (rsw ppn : Int) (j : Nat) (hj : j < 8) (hb : l.getD j false = true) :
    bits .or .u64 ((baseV rsw ppn + lowL l j : Nat) : Int) ((2 ^ j : Nat) : Int) = ((baseV rsw ppn + lowL l (j + 1) : Nat) : Int) := by
  have h1 := lowL_lt l j
  have h2 := baseV_lt rsw ppn
  have h3 : 2 ^ j ≤ 2 ^ 7 := Nat.pow_le_pow_right (by decide) (by omega)
  have h4 : baseV rsw ppn % 2 ^ (j + 1) = 0 := by
    have : baseV rsw ppn % 256 = 0 := by unfold baseV; omega
    refine Nat.mod_eq_zero_of_dvd (Nat.dvd_trans (Nat.pow_dvd_pow 2 (show j + 1 ≤ 8 by omega)) (Nat.dvd_of_mod_eq_zero this))
  have h5 : (baseV rsw ppn + lowL l j) / 2 ^ j % 2 = 0 := by
    obtain ⟨k, hk⟩ := Nat.dvd_of_mod_eq_zero h4
    rw [hk, Nat.pow_succ, Nat.mul_assoc, Nat.mul_add_div (Nat.two_pow_pos j), Nat.div_eq_of_lt h1]
    omega
  rw [bits_or_u64_nat _ _ (by omega) (by omega), or_pow _ _ h5]
  simp only [lowL, hb, bt, if_true]
  omega
theorem put_round' (l : List Bool) (rsw ppn : Int) (j : Nat) (hj : j < 8) (hb : l.getD j false = true) :
    bits .or .u64 (((baseV rsw ppn : Nat) : Int) + ((lowL l j : Nat) : Int)) (IntKind.u64.wrap ((2 : Int) ^ j)) = ((baseV rsw ppn + lowL l (j + 1) : Nat) : Int) := by
  have h3 : 2 ^ j ≤ 2 ^ 7 := Nat.pow_le_pow_right (by decide) (by omega)
  rw [← put_round l rsw ppn j hj hb]
  have e : (2 : Int) ^ j = ((2 ^ j : Nat) : Int) := by simp
  rw [e]
  generalize 2 ^ j = P at *
  rw [IntWalk.u64_in _ (by omega), Int.natCast_add]
theorem put_skip (l : List Bool) (rsw ppn : Int) (j : Nat) (hb : l.getD j false = false) : baseV rsw ppn + lowL l (j + 1) = baseV rsw ppn + lowL l j := by
  rw [lowL, hb]; simp [bt]
theorem put_last (v r w x u g a d : Bool) (rsw ppn : Int) : baseV rsw ppn + lowL [v, r, w, x, u, g, a, d] 8 = putV v r w x u g a d rsw ppn := by
  simp [lowL, putV, baseV]
  omega

theorem put_any (v r w x u g a d : Bool) (rsw ppn : Int) (W : World) (hp : 0 ≤ ppn ∧ ppn < 18446744073709551616) :
    Calls Tryz.prog 71 #[.agg #[.bool v, .bool r, .bool w, .bool x, .bool u, .bool g, .bool a, .bool d, .int .i64 rsw, .int .u64 ppn]] W fun e w' => e = .returned (.int .u64 ((putV v r w x u g a d rsw ppn : Nat) : Int)) ∧ Below W.heap.size W w' := by
  have HP := Lib.hid hp
  clear hp
  go_enter Tryz.func71, Tryz.ntmps71
  go_wp2_with (go_at_call 89; refine (flags_any _ _ _ _ _ _ _ _ _ _ _).mono ?_; rintro e w1 ⟨rfl, hb⟩)
  go_loop [3, 18] (fun x' i => ∃ j : Nat, j ≤ 8 ∧ i = .int .i64 j ∧ x' = .int .u64 ((baseV rsw ppn + lowL [v, r, w, x, u, g, a, d] j : Nat) : Int)) (fun _ i => (8 - intOf i).toNat)
  case atStart => exact ⟨0, by omega, rfl, by rw [base_eq rsw ppn HP.out]; rfl⟩
  case round =>
    obtain ⟨j, hj, rfl, rfl⟩ := hrel
    by_cases h0 : j < 8
    · have hidx : ∀ W', (Instr.index 167 (.agg #[.bool v, .bool r, .bool w, .bool x, .bool u, .bool g, .bool a, .bool d]) (.int .i64 (j : Int))).run Tryz.prog W' = .ok (.bool ([v, r, w, x, u, g, a, d].getD j false)) W' := by
        intro W'
        rcases (show j = 0 ∨ j = 1 ∨ j = 2 ∨ j = 3 ∨ j = 4 ∨ j = 5 ∨ j = 6 ∨ j = 7 by omega) with rfl | rfl | rfl | rfl | rfl | rfl | rfl | rfl <;> kernel_rfl
      have hr : [v, r, w, x, u, g, a, d].getD j false = true → _ := put_round' [v, r, w, x, u, g, a, d] rsw ppn j h0
      have hs := put_skip [v, r, w, x, u, g, a, d] rsw ppn j
      have HR := Lib.hid hr
      have HS := Lib.hid hs
      clear hr hs
      cases hbb : [v, r, w, x, u, g, a, d].getD j false with
      | false =>
        rw [hbb] at hidx
        have HB := Lib.hid hbb
        clear hbb
        go_wp2
        exact ⟨⟨j + 1, by omega, by go_num, by rw [HS.out HB.out]⟩, by simp [intOf]; omega⟩
      | true =>
        rw [hbb] at hidx
        have HB := Lib.hid hbb
        clear hbb
        go_wp2
        exact ⟨⟨j + 1, by omega, by go_num, by rw [HR.out HB.out]⟩, by simp [intOf]; omega⟩
    · obtain rfl : j = 8 := by omega
      go_wp2
      go_ret
      exact ⟨by rw [← put_last, Int.natCast_add]; rfl, ((Below.refl _ _).alloc (Nat.le_refl _) _).trans (hb.mono (by simp))⟩

theorem getfn_any (x : Nat) (i : Int) (p : Addr) (W : World) (hx : x < 18446744073709551616) (hi : 0 ≤ i) (hi2 : i ≤ 7) (hc : W.cell? p = some (.int .u64 (x : Int))) :
    Calls Tryz.prog 104 #[.int .i64 i, .pointer (some p)] W fun e w' => e = .returned (.bool (x / 2 ^ i.toNat % 2 == 1)) ∧ W = w' := by
  go_enter Tryz.func104, Tryz.ntmps104
  go_wp2
  go_ret
  refine ⟨congrArg (fun b => Ending.returned (.bool b)) ?_, rfl⟩
  show (bits .and .u64 ((x : Int) / 2 ^ i.toNat) 1 == 1) = _
  have h : x / 2 ^ i.toNat ≤ x := Nat.div_le_self _ _
  have e : ((x : Int) / 2 ^ i.toNat) = ((x / 2 ^ i.toNat : Nat) : Int) := by simp
  rw [e]
  generalize x / 2 ^ i.toNat = y at *
  rw [and_mask y 1 1 (by decide) rfl (by omega), show (2 : Nat) ^ 1 = 2 from rfl]
  rcases Nat.mod_two_eq_zero_or_one y with hy | hy <;> rw [hy] <;> rfl

def bitB (x i : Nat) : Bool := x / 2 ^ i % 2 == 1
/-- The entry of a word. -/
def entryV (x : Nat) : Value := .agg #[.bool (bitB x 0), .bool (bitB x 1), .bool (bitB x 2), .bool (bitB x 3), .bool (bitB x 4), .bool (bitB x 5), .bool (bitB x 6), .bool (bitB x 7), .int .i64 ((x / 256 % 4 : Nat) : Int), .int .u64 ((x / 1024 % 17592186044416 : Nat) : Int)]
end Go.Proofs.YtophcgbddccpeaaGreat

/- Contract of pte.Get, GetSatp. -/
namespace Go.Proofs.YtophcgbddccpeaaGreat
open Go.RowKit

theorem rsw_eq (x : Nat) (hx : x < 18446744073709551616) : wrap64 (bits .and .u64 ((x : Int) / 256) 3) = ((x / 256 % 4 : Nat) : Int) := by
  have e : ((x : Int) / 256) = ((x / 256 : Nat) : Int) := by omega
  rw [e, and_mask (x / 256) 2 3 (by decide) rfl (by omega), IntWalk.wrap64_in _ (by omega)]
theorem ppn_eq (x : Nat) (hx : x < 18446744073709551616) : bits .and .u64 (x : Int) 18014398509481983 / 1024 = ((x / 1024 % 17592186044416 : Nat) : Int) := by
  rw [and_mask x 54 18014398509481983 (by decide) rfl hx]
  omega
theorem ok_eq (x : Nat) (hx : x < 18446744073709551616) : (bits .andNot .u64 (x : Int) 18014398509481983 == 0) = (x / 18014398509481984 == 0) := by
  have h := u64_andNot_nat x (2 ^ 54 - 1) hx (by decide)
  rw [show ((2 ^ 54 - 1 : Nat) : Int) = 18014398509481983 from rfl, show 18446744073709551615 - (2 ^ 54 - 1) = 2 ^ (54 + 10) - 2 ^ 54 from rfl, and_high x 54 10 hx] at h
  rw [h, show (2 : Nat) ^ 54 = 18014398509481984 from rfl, Bool.eq_iff_iff]
  simp only [beq_iff_eq]
  omega
theorem entry_eq (x : Nat) (hx : x < 18446744073709551616) : Value.agg #[.bool (x % 2 == 1), .bool (x / 2 % 2 == 1), .bool (x / 4 % 2 == 1), .bool (x / 8 % 2 == 1), .bool (x / 16 % 2 == 1), .bool (x / 32 % 2 == 1), .bool (x / 64 % 2 == 1), .bool (x / 128 % 2 == 1), .int .i64 (wrap64 (bits .and .u64 ((x : Int) / 256) 3)), .int .u64 (bits .and .u64 (x : Int) 18014398509481983 / 1024)] = entryV x := by
  rw [rsw_eq x hx, ppn_eq x hx]
  simp [entryV, bitB]
theorem three (x : Nat) (W : World) : ∃ W3, W3 = ((W.alloc (.cells #[.int .u64 (x : Int)] 23)).alloc (.cells #[.bool false, .bool false, .bool false, .bool false, .bool false, .bool false, .bool false, .bool false, .int .i64 0, .int .u64 0] 96)).alloc (.cells #[.bool (x % 2 == 1), .bool (x / 2 % 2 == 1), .bool (x / 4 % 2 == 1), .bool (x / 8 % 2 == 1), .bool (x / 16 % 2 == 1), .bool (x / 32 % 2 == 1), .bool (x / 64 % 2 == 1), .bool (x / 128 % 2 == 1), .int .i64 (wrap64 (bits .and .u64 ((x : Int) / 256) 3)), .int .u64 (bits .and .u64 (x : Int) 18014398509481983 / 1024)] 96) ∧ Below W.heap.size W W3 ∧ W3.cell? ⟨W.heap.size, 0, none⟩ = some (.int .u64 (x : Int)) ∧ W3.heap.size = W.heap.size + 1 + 1 + 1 ∧ W3.cell? ⟨W.heap.size + 1 + 1, 0, none⟩ = some (.bool (x % 2 == 1)) ∧ W3.cell? ⟨W.heap.size + 1 + 1, 1, none⟩ = some (.bool (x / 2 % 2 == 1)) ∧ W3.cell? ⟨W.heap.size + 1 + 1, 2, none⟩ = some (.bool (x / 4 % 2 == 1)) ∧ W3.cell? ⟨W.heap.size + 1 + 1, 3, none⟩ = some (.bool (x / 8 % 2 == 1)) ∧ W3.cell? ⟨W.heap.size + 1 + 1, 4, none⟩ = some (.bool (x / 16 % 2 == 1)) ∧ W3.cell? ⟨W.heap.size + 1 + 1, 5, none⟩ = some (.bool (x / 32 % 2 == 1)) ∧ W3.cell? ⟨W.heap.size + 1 + 1, 6, none⟩ = some (.bool (x / 64 % 2 == 1)) ∧ W3.cell? ⟨W.heap.size + 1 + 1, 7, none⟩ = some (.bool (x / 128 % 2 == 1)) ∧ W3.cell? ⟨W.heap.size + 1 + 1, 8, none⟩ = some (.int .i64 (wrap64 (bits .and .u64 ((x : Int) / 256) 3))) ∧ W3.cell? ⟨W.heap.size + 1 + 1, 9, none⟩ = some (.int .u64 (bits .and .u64 (x : Int) 18014398509481983 / 1024)) ∧ W3.cell? ⟨W.heap.size + 1, 0, none⟩ = some (.bool false) ∧ W3.cell? ⟨W.heap.size + 1, 1, none⟩ = some (.bool false) ∧ W3.cell? ⟨W.heap.size + 1, 2, none⟩ = some (.bool false) ∧ W3.cell? ⟨W.heap.size + 1, 3, none⟩ = some (.bool false) ∧ W3.cell? ⟨W.heap.size + 1, 4, none⟩ = some (.bool false) ∧ W3.cell? ⟨W.heap.size + 1, 5, none⟩ = some (.bool false) ∧ W3.cell? ⟨W.heap.size + 1, 6, none⟩ = some (.bool false) ∧ W3.cell? ⟨W.heap.size + 1, 7, none⟩ = some (.bool false) ∧ W3.cell? ⟨W.heap.size + 1, 8, none⟩ = some (.int .i64 0) ∧ W3.cell? ⟨W.heap.size + 1, 9, none⟩ = some (.int .u64 0) ∧ (∀ i, W3.frozen? ⟨W.heap.size + 1, i, none⟩ = false) := by
  refine ⟨_, rfl, by go_grown, ?_⟩
  simp [go_sem]

theorem pte_save_set {g i : Nat} {w w' : World} {v : Value} (h : Save g w w') : Save g w (w'.setCell ⟨g, i, none⟩ v) := fun p hp => by
  rw [World.cell?_setCell_other _ _ _ _ (by rintro rfl; exact hp rfl)]; exact h p hp
theorem pte_save_drew {g : Nat} {w w' : World} (h : Save g w w') : Save g w.drew w'.drew := h
set_option maxHeartbeats 2000000 in
theorem get_any (x : Nat) (W : World) (hx : x < 18446744073709551616) :
    Calls Tryz.prog 87 #[.int .u64 (x : Int)] W fun e w' => e = .returned (.tuple #[entryV x, .bool (x / 18014398509481984 == 0)]) ∧ Below W.heap.size W w' := by
  have HX := Lib.hid hx
  clear hx
  have h3 := three x W
  have H3 := Lib.hid h3
  clear h3
  go_enter Tryz.func87, Tryz.ntmps87
  go_wp2_with (go_at_call 104; refine (getfn_any x _ _ _ HX.out (by decide) (by decide) (by simp)).mono ?_; rintro e w' ⟨rfl, rfl⟩)
  obtain ⟨W3, hW3, hb, hcx, hsz, hc0, hc1, hc2, hc3, hc4, hc5, hc6, hc7, hc8, hc9, hz0, hz1, hz2, hz3, hz4, hz5, hz6, hz7, hz8, hz9, hfz⟩ := H3.out
  rw [← hW3]
  clear hW3 H3
  have HB := Lib.hid hb
  clear hb
  have hs0 := fun W' (h : Save (W.heap.size + 1) W3.drew W') => (h ⟨W.heap.size + 1 + 1, 0, none⟩ (by simp)).trans hc0
  have hs1 := fun W' (h : Save (W.heap.size + 1) W3.drew W') => (h ⟨W.heap.size + 1 + 1, 1, none⟩ (by simp)).trans hc1
  have hs2 := fun W' (h : Save (W.heap.size + 1) W3.drew W') => (h ⟨W.heap.size + 1 + 1, 2, none⟩ (by simp)).trans hc2
  have hs3 := fun W' (h : Save (W.heap.size + 1) W3.drew W') => (h ⟨W.heap.size + 1 + 1, 3, none⟩ (by simp)).trans hc3
  have hs4 := fun W' (h : Save (W.heap.size + 1) W3.drew W') => (h ⟨W.heap.size + 1 + 1, 4, none⟩ (by simp)).trans hc4
  have hs5 := fun W' (h : Save (W.heap.size + 1) W3.drew W') => (h ⟨W.heap.size + 1 + 1, 5, none⟩ (by simp)).trans hc5
  have hs6 := fun W' (h : Save (W.heap.size + 1) W3.drew W') => (h ⟨W.heap.size + 1 + 1, 6, none⟩ (by simp)).trans hc6
  have hs7 := fun W' (h : Save (W.heap.size + 1) W3.drew W') => (h ⟨W.heap.size + 1 + 1, 7, none⟩ (by simp)).trans hc7
  have hs8 := fun W' (h : Save (W.heap.size + 1) W3.drew W') => (h ⟨W.heap.size + 1 + 1, 8, none⟩ (by simp)).trans hc8
  have hs9 := fun W' (h : Save (W.heap.size + 1) W3.drew W') => (h ⟨W.heap.size + 1 + 1, 9, none⟩ (by simp)).trans hc9
  have hsx := fun W' (h : Save (W.heap.size + 1) W3.drew W') => (h ⟨W.heap.size, 0, none⟩ (by simp)).trans hcx
  refine wp_region_plan_by (Save (W.heap.size + 1)) (later_save _) [(0, false), (1, false), (2, false), (3, false), (4, true), (5, false)] (by kernel_rfl) (by kernel_rfl) (fun _ d _ _ _ h => by cases d <;> exact h) ?_
  iterate 4 (refine plan_take (v := ?_) rfl (by kernel_rfl) ?_ ?_; rotate_left; (focus (intro w' hw'; try go_simp; try with_reducible rfl)); simp only [Act.put, List.setIfInBounds_toArray, List.set_cons_zero, List.set_cons_succ])
  refine plan_turn rfl (by kernel_rfl) (fun K hK => ?_)
  go_simp
  refine hK _ _ ⟨pte_save_drew (by repeat (first | (with_reducible exact (later_save _).refl _) | (with_reducible refine pte_save_set ?_))), ?_⟩
  iterate 1 (refine plan_take (v := ?_) rfl (by kernel_rfl) ?_ ?_; rotate_left; (focus (intro w' hw'; try go_simp; try with_reducible rfl)); simp only [Act.put, List.setIfInBounds_toArray, List.set_cons_zero, List.set_cons_succ])
  refine plan_end ?_
  clear hs0 hs1 hs2 hs3 hs4 hs5 hs6 hs7 hs8 hs9 hsx hc0 hc1 hc2 hc3 hc4 hc5 hc6 hc7 hc8 hc9 hcx
  go_wp2
  refine bodyPost_ret (v := .tuple #[.agg #[.bool (x % 2 == 1), .bool (x / 2 % 2 == 1), .bool (x / 4 % 2 == 1), .bool (x / 8 % 2 == 1), .bool (x / 16 % 2 == 1), .bool (x / 32 % 2 == 1), .bool (x / 64 % 2 == 1), .bool (x / 128 % 2 == 1), .int .i64 (wrap64 (bits .and .u64 ((x : Int) / 256) 3)), .int .u64 (bits .and .u64 (x : Int) 18014398509481983 / 1024)], .bool (bits .andNot .u64 (x : Int) 18014398509481983 == 0)]) (by simp [results, Tryz.results87, go_sem, hz0, hz1, hz2, hz3, hz4, hz5, hz6, hz7, hz8, hz9]) rfl ⟨?_, ?_⟩
  · rw [entry_eq x HX.out, ok_eq x HX.out]
  · have hB := HB.out
    refine Below.drew ?_
    repeat (first | (with_reducible exact hB) | (with_reducible refine Below.setCell ?_ (by simp) _))
end Go.Proofs.YtophcgbddccpeaaGreat

/- Contract of pte.GetSatp; the laws' first function. -/
namespace Go.Proofs.YtophcgbddccpeaaGreat
open Go.RowKit

theorem asid_eq (x : Nat) (hx : x < 18446744073709551616) : wrap64 (bits .and .u64 ((x : Int) / 17592186044416) 65535) = ((x / 17592186044416 % 65536 : Nat) : Int) := by
  have e : ((x : Int) / 17592186044416) = ((x / 17592186044416 : Nat) : Int) := by omega
  rw [e, and_mask (x / 17592186044416) 16 65535 (by decide) rfl (by omega), IntWalk.wrap64_in _ (by omega)]
theorem sppn_eq (x : Nat) (hx : x < 18446744073709551616) : bits .and .u64 (x : Int) 17592186044415 = ((x % 17592186044416 : Nat) : Int) := and_mask x 44 17592186044415 (by decide) rfl hx

theorem getsatp_yes (x : Nat) (b : Bool) (W : World) (hx : x < 18446744073709551616) (h : (b = false ∧ x / 1152921504606846976 = 0) ∨ (b = true ∧ x / 1152921504606846976 = 8)) :
    Calls Tryz.prog 45 #[.int .u64 (x : Int)] W fun e w' => e = .returned (.tuple #[.agg #[.bool b, .int .i64 ((x / 17592186044416 % 65536 : Nat) : Int), .int .u64 ((x % 17592186044416 : Nat) : Int)], .bool true]) ∧ Below W.heap.size W w' := by
  have HX := Lib.hid hx
  rcases h with ⟨rfl, h⟩ | ⟨rfl, h⟩
  · have e1 : ((x : Int) / 1152921504606846976) = ((x / 1152921504606846976 : Nat) : Int) := by omega
    rw [h] at e1
    clear h hx
    go_enter Tryz.func45, Tryz.ntmps45
    go_wp2
    refine bodyPost_ret (v := .tuple #[.agg #[.bool false, .int .i64 (wrap64 (bits .and .u64 ((x : Int) / 17592186044416) 65535)), .int .u64 (bits .and .u64 (x : Int) 17592186044415)], .bool true]) (by simp [results, Tryz.results45, go_sem]) rfl ⟨?_, by go_grown⟩
    rw [asid_eq x HX.out, sppn_eq x HX.out]
  · have e1 : ((x : Int) / 1152921504606846976) = ((x / 1152921504606846976 : Nat) : Int) := by omega
    rw [h] at e1
    clear h hx
    go_enter Tryz.func45, Tryz.ntmps45
    go_wp2
    refine bodyPost_ret (v := .tuple #[.agg #[.bool true, .int .i64 (wrap64 (bits .and .u64 ((x : Int) / 17592186044416) 65535)), .int .u64 (bits .and .u64 (x : Int) 17592186044415)], .bool true]) (by simp [results, Tryz.results45, go_sem]) rfl ⟨?_, by go_grown⟩
    rw [asid_eq x HX.out, sppn_eq x HX.out]

theorem getsatp_no (x : Nat) (W : World) (h0 : x / 1152921504606846976 ≠ 0) (h8 : x / 1152921504606846976 ≠ 8) :
    Calls Tryz.prog 45 #[.int .u64 (x : Int)] W fun e w' => e = .returned (.tuple #[.agg #[.bool false, .int .i64 0, .int .u64 0], .bool false]) ∧ Below W.heap.size W w' := by
  have n0 : (((x : Int) / 1152921504606846976) != 0) = true := by rw [bne_iff_ne]; omega
  have n8 : (((x : Int) / 1152921504606846976) != 8) = true := by rw [bne_iff_ne]; omega
  clear h0 h8
  go_enter Tryz.func45, Tryz.ntmps45
  go_wp2
  exact bodyPost_ret (v := .tuple #[.agg #[.bool false, .int .i64 0, .int .u64 0], .bool false]) (by simp [results, Tryz.results45, go_sem]) rfl ⟨rfl, by go_grown⟩

theorem entry_2247 : entryV 2247 = .agg #[.bool true, .bool true, .bool true, .bool false, .bool false, .bool false, .bool true, .bool true, .int .i64 0, .int .u64 2] := by
  simp [entryV, bitB]

theorem pte_cell_lt {w : World} {a : Addr} {v : Value} (h : w.cell? a = some v) : a.block < w.heap.size := World.block_lt_of_cell? _ _ h
theorem pte_cell_pass {w w' : World} {o : Obj} {p : Addr} {v : Value} (h : Below (w.alloc o).heap.size (w.alloc o) w') (hc : w.cell? p = some v) : w'.cell? p = some v := by
  have hl := pte_cell_lt hc
  rw [h.cell (by simp; omega), World.cell?_alloc_lt _ _ _ hl]
  exact hc
theorem pte_cell_new {w w' : World} {c : Array Value} {t : TypeId} {i : Nat} (h : Below (w.alloc (.cells c t)).heap.size (w.alloc (.cells c t)) w') : w'.cell? ⟨w.heap.size, i, none⟩ = c[i]? := by
  rw [h.cell (by simp), World.cell?_alloc_new]

end Go.Proofs.YtophcgbddccpeaaGreat

/- Contract of the reference's Get. -/
namespace Go.Proofs.YtophcgbddccpeaaGreat
open Go.RowKit

theorem pte_wp_world {P : Program} {c : Code} {Q : Exit → Act → World → Prop} {a : Act} {w : World} (h : ∀ w0, w0 = w → c.wp P Q a w0) : c.wp P Q a w := h w rfl

theorem rget_eq (x : Nat) : Value.agg #[.bool (((fieldV x 0 1 : Nat) : Int) == 1), .bool (((fieldV x 1 1 : Nat) : Int) == 1), .bool (((fieldV x 2 1 : Nat) : Int) == 1), .bool (((fieldV x 3 1 : Nat) : Int) == 1), .bool (((fieldV x 4 1 : Nat) : Int) == 1), .bool (((fieldV x 5 1 : Nat) : Int) == 1), .bool (((fieldV x 6 1 : Nat) : Int) == 1), .bool (((fieldV x 7 1 : Nat) : Int) == 1), .int .i64 (wrap64 ((fieldV x 8 2 : Nat) : Int)), .int .u64 ((fieldV x 10 44 : Nat) : Int)] = entryV x := by
  have h8 : fieldV x 8 2 < 4 := fieldV_lt x 8 2
  have e : ∀ j, (((fieldV x j 1 : Nat) : Int) == 1) = bitB x j := by
    intro j
    rw [Bool.eq_iff_iff]
    simp only [bitB, fieldV, beq_iff_eq, Nat.reducePow]
    omega
  rw [IntWalk.wrap64_in _ (by omega), e, e, e, e, e, e, e, e]
  rfl

end Go.Proofs.YtophcgbddccpeaaGreat

/- Contract of the reference's Put. -/
namespace Go.Proofs.YtophcgbddccpeaaGreat
open Go.RowKit

theorem bt_le (b : Bool) : bt b ≤ 1 := by cases b <;> decide

theorem tmod4 (n : Int) : (0 ≤ n.tmod 4 ∧ n.tmod 4 = n % 4) ∨ (n.tmod 4 < 0 ∧ n.tmod 4 + 4 = n % 4) := by
  by_cases h : 0 ≤ n
  · rw [Int.tmod_eq_emod_of_nonneg h]; omega
  · have h1 : (-n).tmod 4 = -n % 4 := Int.tmod_eq_emod_of_nonneg (by omega)
    rw [Int.neg_tmod] at h1
    omega

theorem rput_eq (v r w x u g a d : Bool) (rsw ppn Q : Int) (hp : 0 ≤ ppn ∧ ppn < 18446744073709551616) (hQ : Q = rsw % 4) :
    IntKind.u64.wrap (IntKind.u64.wrap (IntKind.u64.wrap (IntKind.u64.wrap (IntKind.u64.wrap (IntKind.u64.wrap (IntKind.u64.wrap (IntKind.u64.wrap (IntKind.u64.wrap ((bt v : Int) + IntKind.u64.wrap (2 * (bt r : Int))) + IntKind.u64.wrap (4 * (bt w : Int))) + IntKind.u64.wrap (8 * (bt x : Int))) + IntKind.u64.wrap (16 * (bt u : Int))) + IntKind.u64.wrap (32 * (bt g : Int))) + IntKind.u64.wrap (64 * (bt a : Int))) + IntKind.u64.wrap (128 * (bt d : Int))) + IntKind.u64.wrap (256 * IntKind.u64.wrap Q)) + IntKind.u64.wrap (1024 * ppn.tmod 17592186044416)) = ((putV v r w x u g a d rsw ppn : Nat) : Int) := by
  have := bt_le v
  have := bt_le r
  have := bt_le w
  have := bt_le x
  have := bt_le u
  have := bt_le g
  have := bt_le a
  have := bt_le d
  rw [Int.tmod_eq_emod_of_nonneg hp.1]
  have hq : 0 ≤ Q ∧ Q < 4 := by omega
  rw [IntWalk.u64_in (2 * (bt r : Int)) (by omega), IntWalk.u64_in ((bt v : Int) + (2 * (bt r : Int))) (by omega), IntWalk.u64_in (4 * (bt w : Int)) (by omega), IntWalk.u64_in (((bt v : Int) + (2 * (bt r : Int))) + (4 * (bt w : Int))) (by omega), IntWalk.u64_in (8 * (bt x : Int)) (by omega), IntWalk.u64_in ((((bt v : Int) + (2 * (bt r : Int))) + (4 * (bt w : Int))) + (8 * (bt x : Int))) (by omega), IntWalk.u64_in (16 * (bt u : Int)) (by omega), IntWalk.u64_in (((((bt v : Int) + (2 * (bt r : Int))) + (4 * (bt w : Int))) + (8 * (bt x : Int))) + (16 * (bt u : Int))) (by omega), IntWalk.u64_in (32 * (bt g : Int)) (by omega), IntWalk.u64_in ((((((bt v : Int) + (2 * (bt r : Int))) + (4 * (bt w : Int))) + (8 * (bt x : Int))) + (16 * (bt u : Int))) + (32 * (bt g : Int))) (by omega), IntWalk.u64_in (64 * (bt a : Int)) (by omega), IntWalk.u64_in (((((((bt v : Int) + (2 * (bt r : Int))) + (4 * (bt w : Int))) + (8 * (bt x : Int))) + (16 * (bt u : Int))) + (32 * (bt g : Int))) + (64 * (bt a : Int))) (by omega), IntWalk.u64_in (128 * (bt d : Int)) (by omega), IntWalk.u64_in ((((((((bt v : Int) + (2 * (bt r : Int))) + (4 * (bt w : Int))) + (8 * (bt x : Int))) + (16 * (bt u : Int))) + (32 * (bt g : Int))) + (64 * (bt a : Int))) + (128 * (bt d : Int))) (by omega), IntWalk.u64_in Q (by omega), IntWalk.u64_in (256 * Q) (by omega), IntWalk.u64_in (((((((((bt v : Int) + (2 * (bt r : Int))) + (4 * (bt w : Int))) + (8 * (bt x : Int))) + (16 * (bt u : Int))) + (32 * (bt g : Int))) + (64 * (bt a : Int))) + (128 * (bt d : Int))) + 256 * Q) (by omega), IntWalk.u64_in (1024 * (ppn % 17592186044416)) (by omega), IntWalk.u64_in ((((((((((bt v : Int) + (2 * (bt r : Int))) + (4 * (bt w : Int))) + (8 * (bt x : Int))) + (16 * (bt u : Int))) + (32 * (bt g : Int))) + (64 * (bt a : Int))) + (128 * (bt d : Int))) + 256 * Q) + 1024 * (ppn % 17592186044416)) (by omega)]
  unfold putV
  omega

end Go.Proofs.YtophcgbddccpeaaGreat

/- Contracts of both PutSatp, of the reference's GetSatp. -/
namespace Go.Proofs.YtophcgbddccpeaaGreat
open Go.RowKit

def satpB (asid ppn : Int) : Nat := ppn.toNat % 17592186044416 + 17592186044416 * (asid % 65536).toNat
def satpV (on : Bool) (asid ppn : Int) : Nat := satpB asid ppn + 9223372036854775808 * bt on
theorem satpB_lt (asid ppn : Int) : satpB asid ppn < 1152921504606846976 := by unfold satpB; omega
theorem i64_and16 (n : Int) : bits .and .i64 n 65535 = n % 65536 := by
  show IntKind.i64.wrap ((BitVec.ofInt 64 n &&& BitVec.ofInt 64 65535).toNat : Int) = n % 65536
  have e : (BitVec.ofInt 64 n &&& BitVec.ofInt 64 65535).toNat = (n % 18446744073709551616).toNat % 65536 := by
    rw [BitVec.toNat_and, show (BitVec.ofInt 64 65535).toNat = 2 ^ 16 - 1 from rfl, Nat.and_two_pow_sub_one_eq_mod, BitVec.toNat_ofInt]
    rfl
  rw [e, IntKind.wrap_i64]
  omega
theorem ps_base (asid ppn : Int) (hp : 0 ≤ ppn ∧ ppn < 18446744073709551616) :
    bits .or .u64 (bits .and .u64 ppn 17592186044415) (IntKind.u64.wrap (IntKind.u64.wrap (bits .and .i64 asid 65535) * 17592186044416)) = ((satpB asid ppn : Nat) : Int) := by
  obtain ⟨P, rfl⟩ := Int.eq_ofNat_of_zero_le hp.1
  rw [and_mask P 44 17592186044415 (by decide) rfl (by omega), i64_and16]
  have hP : P % 2 ^ 44 < 17592186044416 := Nat.mod_lt _ (by decide)
  unfold satpB
  rw [show (P : Int).toNat = P from rfl, show (17592186044416 : Nat) = 2 ^ 44 from rfl]
  generalize P % 2 ^ 44 = q at *
  rw [IntWalk.u64_in (asid % 65536) (by omega), IntWalk.u64_in (asid % 65536 * 17592186044416) (by omega)]
  have e2 : asid % 65536 * 17592186044416 = (((asid % 65536).toNat * 2 ^ 44 : Nat) : Int) := by omega
  rw [e2, bits_or_u64_nat _ _ (by omega) (by omega), Nat.or_comm, or_low _ q 44 (by omega)]
  omega
theorem ps_on (asid ppn : Int) : bits .or .u64 ((satpB asid ppn : Nat) : Int) 9223372036854775808 = ((satpV true asid ppn : Nat) : Int) := by
  have h := satpB_lt asid ppn
  have h2 := bits_or_u64_nat (satpB asid ppn) (2 ^ 63) (by omega) (by decide)
  rw [show ((2 ^ 63 : Nat) : Int) = 9223372036854775808 from rfl, or_pow _ 63 (by omega)] at h2
  rw [h2]
  unfold satpV bt
  simp

theorem putsatp_any (on : Bool) (asid ppn : Int) (W : World) (hp : 0 ≤ ppn ∧ ppn < 18446744073709551616) :
    Calls Tryz.prog 25 #[.agg #[.bool on, .int .i64 asid, .int .u64 ppn]] W fun e w' => e = .returned (.int .u64 ((satpV on asid ppn : Nat) : Int)) ∧ Below W.heap.size W w' := by
  have HE := Lib.hid (ps_base asid ppn hp)
  clear hp
  cases on
  all_goals
    go_enter Tryz.func25, Tryz.ntmps25
    go_wp2
    go_ret
    refine ⟨congrArg (fun n => Ending.returned (.int .u64 n)) ?_, by go_grown⟩
  · show bits .or .u64 (bits .and .u64 ppn 17592186044415) (IntKind.u64.wrap (IntKind.u64.wrap (bits .and .i64 asid 65535) * 17592186044416)) = _
    rw [HE.out]
    simp [satpV, bt]
  · show bits .or .u64 (bits .or .u64 (bits .and .u64 ppn 17592186044415) (IntKind.u64.wrap (IntKind.u64.wrap (bits .and .i64 asid 65535) * 17592186044416))) 9223372036854775808 = _
    rw [HE.out, ps_on]

theorem tmod16 (n : Int) : (0 ≤ n.tmod 65536 ∧ n.tmod 65536 = n % 65536) ∨ (n.tmod 65536 < 0 ∧ n.tmod 65536 + 65536 = n % 65536) := by
  by_cases h : 0 ≤ n
  · rw [Int.tmod_eq_emod_of_nonneg h]; omega
  · have h1 : (-n).tmod 65536 = -n % 65536 := Int.tmod_eq_emod_of_nonneg (by omega)
    rw [Int.neg_tmod] at h1
    omega
theorem rps_eq (on : Bool) (asid ppn Q : Int) (hp : 0 ≤ ppn ∧ ppn < 18446744073709551616) (hQ : Q = asid % 65536) :
    IntKind.u64.wrap (IntKind.u64.wrap (ppn.tmod 17592186044416 + IntKind.u64.wrap (17592186044416 * IntKind.u64.wrap Q)) + IntKind.u64.wrap (9223372036854775808 * ((bt on : Nat) : Int))) = ((satpV on asid ppn : Nat) : Int) := by
  have := bt_le on
  have hq : 0 ≤ Q ∧ Q < 65536 := by omega
  rw [Int.tmod_eq_emod_of_nonneg hp.1, IntWalk.u64_in Q (by omega), IntWalk.u64_in (17592186044416 * Q) (by omega), IntWalk.u64_in (9223372036854775808 * ((bt on : Nat) : Int)) (by omega),
    IntWalk.u64_in (ppn % 17592186044416 + 17592186044416 * Q) (by omega), IntWalk.u64_in _ (by omega)]
  unfold satpV satpB
  omega

end Go.Proofs.YtophcgbddccpeaaGreat

/- even, leads. -/
namespace Go.Proofs.YtophcgbddccpeaaGreat
open Go.RowKit

def evenB (ppn : Nat) (l : Nat) : Bool := ppn % 2 ^ (9 * l) == 0
theorem even_any (ppn l : Nat) (W : World) (hp : ppn < 18446744073709551616) (hl : l ≤ 2) :
    Calls Tryz.prog 97 #[.int .u64 (ppn : Int), .int .i64 (l : Int)] W fun e w' => e = .returned (.bool (evenB ppn l)) ∧ W = w' := by
  have h0 := aligned_eq ppn 0 0 (by decide) rfl hp
  have h1 := aligned_eq ppn 9 511 (by decide) rfl hp
  have h2 := aligned_eq ppn 18 262143 (by decide) rfl hp
  have H0 := Lib.hid h0
  have H1 := Lib.hid h1
  have H2 := Lib.hid h2
  clear h0 h1 h2
  rcases (show l = 0 ∨ l = 1 ∨ l = 2 by omega) with rfl | rfl | rfl
  · go_enter Tryz.func97, Tryz.ntmps97
    go_wp2_with fail
    go_ret
    exact ⟨by first | (rw [H0.out]; rfl) | (simp [evenB]), rfl⟩
  · go_enter Tryz.func97, Tryz.ntmps97
    go_wp2_with fail
    go_ret
    exact ⟨by rw [H1.out]; rfl, rfl⟩
  · go_enter Tryz.func97, Tryz.ntmps97
    go_wp2_with fail
    go_ret
    exact ⟨by rw [H2.out]; rfl, rfl⟩
theorem leads_any (v r w x u g a d : Bool) (rsw ppn : Int) (l : Nat) (W : World) (hl : l ≤ 2) :
    Calls Tryz.prog 98 #[.agg #[.bool v, .bool r, .bool w, .bool x, .bool u, .bool g, .bool a, .bool d, .int .i64 rsw, .int .u64 ppn], .int .i64 (l : Int)] W fun e w' => e = .returned (.bool (decide (0 < l) && !u && !a && !d)) ∧ Below W.heap.size W w' := by
  rcases (show l = 0 ∨ l = 1 ∨ l = 2 by omega) with rfl | rfl | rfl <;> cases u <;> cases a <;> cases d
  all_goals
    go_enter Tryz.func98, Tryz.ntmps98
    go_wp2_with fail
    go_ret
    exact ⟨rfl, (Below.refl _ _).alloc (Nat.le_refl _) _⟩
end Go.Proofs.YtophcgbddccpeaaGreat

/- Words of a memory: what is laid is read again, and all else stays. -/
namespace Go.Proofs.YtophcgbddccpeaaGreat
open Go.RowKit

theorem lw_append : ∀ (a b : List Nat), leNat (a ++ b) = leNat a + 256 ^ a.length * leNat b
  | [], b => by simp [leNat]
  | x :: r, b => by
    simp only [List.cons_append, leNat, lw_append r b, List.length_cons, Nat.pow_succ, Nat.mul_add]
    rw [← Nat.mul_assoc, Nat.mul_comm (256 ^ r.length) 256, Nat.add_assoc]
theorem lw_range (v : Nat) : ∀ n, leNat ((List.range n).map (byteOf v)) = v % 256 ^ n
  | 0 => by simp [leNat, Nat.mod_one]
  | n + 1 => by
    rw [List.range_succ, List.map_append, lw_append, lw_range v n]
    simp only [List.length_map, List.length_range, List.map_cons, List.map_nil, leNat, byteOf]
    rw [Nat.mul_zero, Nat.add_zero, Nat.pow_succ, Nat.mod_mul]
theorem chk8 {n a : Nat} (h : chkE n a 8 = 0) : a % 8 = 0 ∧ a < 4096 * n := by
  obtain ⟨h1, h2⟩ := chk_ok h
  refine ⟨by simpa [alignedB, sizeB] using h1, by omega⟩
theorem chk8_of {n a : Nat} (h1 : a % 8 = 0) (h2 : a < 4096 * n) : chkE n a 8 = 0 := by
  have h3 : alignedB a 8 = true := by simp [alignedB, sizeB, h1]
  unfold chkE
  rw [if_neg (by decide), h3, if_neg (by decide), if_neg (by omega)]
/-- All pages are whole. -/
def Full (S : Nat → List Nat) : Prop := ∀ k, (S k).length = 4096
theorem Full.empty : Full emptyS := fun _ => zero_len
theorem Full.store {S : Nat → List Nat} (h : Full S) (n a : Nat) (s : Int) (v : Nat) : Full (stR n S a s v) := fun k => by
  unfold stR
  split
  · unfold stS updS
    split
    · exact putL_length _ _ _ _
    · exact h k
  · exact h k
theorem ld_same {n a v : Nat} {S : Nat → List Nat} (ha : chkE n a 8 = 0) (hv : v < 18446744073709551616) : ldR n (stR n S a 8 v) a 8 = v := by
  obtain ⟨h1, h2⟩ := chk8 ha
  unfold ldR stR
  rw [if_pos ha, if_pos ha]
  unfold ldV stS updS getV
  rw [if_pos rfl]
  have e : ((putL (S (a / 4096)) (a % 4096) v (8 : Int).toNat).drop ((a % 4096 : Nat) : Int).toNat).take (8 : Int).toNat = (List.range 8).map (byteOf v) := by
    rw [Int.toNat_natCast, show (8 : Int).toNat = 8 from rfl]
    apply list_ext_getD
    · rw [List.length_take, List.length_drop, putL_length, List.length_map, List.length_range]; omega
    · intro i hi
      rw [List.length_take, List.length_drop, putL_length] at hi
      rw [List.getD_eq_getElem?_getD, List.getElem?_take, if_pos (by omega), ← List.getD_eq_getElem?_getD, getD_drop, putL_get _ _ _ _ _ (by omega), if_pos (by omega), List.getD_eq_getElem?_getD, List.getElem?_map, List.getElem?_range (by omega)]
      simp
  rw [e, lw_range]
  exact Nat.mod_eq_of_lt hv
theorem ld_other {n a b v : Nat} {S : Nat → List Nat} (hf : Full S) (hb : b % 8 = 0) (hne : a ≠ b) : ldR n (stR n S a 8 v) b 8 = ldR n S b 8 := by
  unfold ldR
  split
  · rename_i hbk
    unfold stR
    split
    · rename_i ha
      obtain ⟨h1, h2⟩ := chk8 ha
      unfold ldV stS updS
      split
      · rename_i h3
        have e : ((putL (S (a / 4096)) (a % 4096) v (8 : Int).toNat).drop ((b % 4096 : Nat) : Int).toNat).take (8 : Int).toNat = ((S (b / 4096)).drop ((b % 4096 : Nat) : Int).toNat).take (8 : Int).toNat := by
          rw [Int.toNat_natCast, show (8 : Int).toNat = 8 from rfl, h3]
          apply list_ext_getD
          · rw [List.length_take, List.length_drop, putL_length, List.length_take, List.length_drop, hf]
          · intro i hi
            rw [List.length_take, List.length_drop, putL_length] at hi
            rw [List.getD_eq_getElem?_getD, List.getElem?_take, if_pos (by omega), ← List.getD_eq_getElem?_getD, getD_drop, putL_get _ _ _ _ _ (by omega), if_neg (by omega), List.getD_eq_getElem?_getD (l := List.take _ _), List.getElem?_take, if_pos (by omega), ← List.getD_eq_getElem?_getD, getD_drop]
        unfold getV
        rw [e]
      · rfl
    · rfl
  · rfl
theorem ld_empty (n a : Nat) : ldR n emptyS a 8 = 0 := by
  unfold ldR
  split
  · unfold ldV getV
    apply leNat_zero
    intro i
    rw [List.getD_eq_getElem?_getD, List.getElem?_take]
    split
    · rw [← List.getD_eq_getElem?_getD, getD_drop]
      exact zeroL_get _
    · rfl
  · rfl
end Go.Proofs.YtophcgbddccpeaaGreat
