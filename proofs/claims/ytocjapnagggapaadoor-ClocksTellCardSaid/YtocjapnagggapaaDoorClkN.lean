/- first: what must be answered. -/
import Derived.Test.YtocjapnagggapaaDoorClkM
namespace Go.Proofs.YtocjapnagggapaaDoor
open Go.RowKit Go.ChangeShapes

def fct (n a : Nat) : Array Value := #[.int .i64 0, .int .i64 (n : Int), .int .i64 0, .bool true, .int .i64 0, .int .i64 0, .int .i64 0, .int .i64 0, .int .i64 0, .int .u64 0, .int .i64 0, .int .i64 2, .int .u64 (a : Int), .int .i64 8, .int .u64 0, .int .u64 0]
def did (a : Nat) : Array Value := #[.bool true, .int .i64 0, .int .i64 0, .int .i64 0, .int .i64 0, .int .i64 0, .int .u64 0, .int .i64 0, .int .i64 2, .int .u64 (a : Int), .int .i64 8, .int .u64 0, .int .u64 0]
theorem did_built (a : Nat) : Tryd.prog.built 38 [(0, .bool true), (4, .int .i64 2), (5, .int .u64 (a : Int)), (6, .int .i64 8)] = some (did a) := by kernel_rfl
theorem fct_built (n a : Nat) : Tryd.prog.built 40 [(1, .int .i64 (n : Int)), (3, .agg (did a))] = some (fct n a) := by kernel_rfl
theorem fct_row (n a : Nat) : rowT Tryd.prog 40 (fct n a).size = true := by rw [show (fct n a).size = 16 from rfl]; kernel_rfl
theorem fct_one (n a : Nat) : (fct n a).all (·.oneCell') = true := by simp [fct, Value.oneCell']
theorem wl_buildN {P : Program} {ops : Array Oper} {rest : List Oper} {o : Oper} {a : Act} {w : World} {Q : Exit → Act → World → Prop} (ty : TypeId) (parts : Array (Nat × Operand)) (vs : List (Nat × Value)) (ho : o.op = .build ty parts) (hg : o.guard = none)
    (hx0 : (parts.toList.map fun (i, x) => (i, a.eval x)) = vs) (zs : Array Value) (hz : P.built ty vs = some zs) (h : wpList P ops Q rest (a.put o.dst (.agg zs)) w) : wpList P ops Q (o :: rest) a w := by
  have hx : (parts.map fun (i, x) => (i, a.eval x)).toList = vs := by rw [Array.toList_map]; exact hx0
  refine wpList_build hg ty parts ho (by rw [hx, hz]; rfl) ?_
  rw [hx, hz]
  exact h
theorem exec_build {P : Program} {o : Oper} {a : Act} {w : World} (ty : TypeId) (parts : Array (Nat × Operand)) (vs : List (Nat × Value)) (ho : o.op = .build ty parts) (hx0 : (parts.toList.map fun (i, x) => (i, a.eval x)) = vs) (zs : Array Value) (hz : P.built ty vs = some zs) :
    (execOp a.eval o).run P w = .ok (.value (.agg zs)) w := by
  have hx : (parts.map fun (i, x) => (i, a.eval x)).toList = vs := by rw [Array.toList_map]; exact hx0
  unfold execOp
  simp only [ho, Sem.run_bind, run_build w ty _ zs (by rw [hx]; exact hz), Result.andThen_ok]
  rfl
set_option maxRecDepth 100000 in
set_option maxHeartbeats 4000000 in
theorem st_any (n a : Nat) (W : World) : Calls Tryd.prog 13 #[.int .i64 (n : Int), .int .u64 (a : Int)] W fun e w' => e = .returned (.agg (fct n a)) ∧ Ext W w' := by
  have zf := zero_fact
  have h1 := did_built a
  have h2 := fct_built n a
  have HB : Hid (Blk (W.alloc (.cells (fct n a) 40)) W.heap.size 40 (fct n a)) := Lib.hid (Blkf.new_at _ _ _ _ rfl)
  have HE := Lib.hid (ext_alloc' W (.cells (fct n a) 40))
  go_enter Tryd.func13, Tryd.ntmps13
  go_wp2_with (first | ((with_reducible refine wl_buildN 38 _ [(0, .bool true), (4, .int .i64 2), (5, .int .u64 (a : Int)), (6, .int .i64 8)] rfl rfl ?_ (did a) h1 ?_); exact rfl) | ((with_reducible refine wl_buildN 40 _ [(1, .int .i64 (n : Int)), (3, .agg (did a))] rfl rfl ?_ (fct n a) h2 ?_); exact rfl) | ((with_reducible refine wl_store_new 40 (.tmp 4) (.tmp 8) rfl ?_ W (World.heap W).size 40 factZ (fct n a) ?_ ?_ ?_ ?_ ?_ ?_ ?_ ?_); exact rfl; exact rfl; exact rfl; exact rfl; exact rfl; exact rfl; exact fct_row _ _; exact fct_one _ _))
  refine bodyPost_ret (res_cell rfl _ _ W.heap.size 40 (fct n a) rfl HB.out (fct_row _ _)) rfl ?_
  exact ⟨rfl, HE.out⟩
def fst3 : Nat → Fc
  | 0 => ⟨0, 2, 0, 8⟩
  | 1 => ⟨1, 2, 8, 8⟩
  | _ => ⟨1, 2, 4, 8⟩
def cst3 : Nat → Array Value
  | 0 => fct 0 0
  | 1 => fct 1 8
  | _ => fct 1 4
def flat3 : Array Value := ([Value.agg (fct 0 0), .agg (fct 1 8), .agg (fct 1 4)].flatMap fun v => v.cells.toList).toArray
theorem flat3_get : ∀ i, i < 3 → ∀ j, j < 16 → flat3[i * 16 + j]? = (cst3 i).toList[j]? := fun i hi j hj => by
  rcases (show i = 0 ∨ i = 1 ∨ i = 2 by omega) with rfl | rfl | rfl <;> rcases (show j = 0 ∨ j = 1 ∨ j = 2 ∨ j = 3 ∨ j = 4 ∨ j = 5 ∨ j = 6 ∨ j = 7 ∨ j = 8 ∨ j = 9 ∨ j = 10 ∨ j = 11 ∨ j = 12 ∨ j = 13 ∨ j = 14 ∨ j = 15 by omega) with rfl | rfl | rfl | rfl | rfl | rfl | rfl | rfl | rfl | rfl | rfl | rfl | rfl | rfl | rfl | rfl <;> rfl
theorem cst3_at : ∀ i, i < 3 → FcAt (cst3 i) (fst3 i) := fun i hi => by
  rcases (show i = 0 ∨ i = 1 ∨ i = 2 by omega) with rfl | rfl | rfl
  · exact ⟨rfl, rfl, rfl, rfl, rfl, fct_one _ _, by decide⟩
  · exact ⟨rfl, rfl, rfl, rfl, rfl, fct_one _ _, by decide⟩
  · exact ⟨rfl, rfl, rfl, rfl, rfl, fct_one _ _, by decide⟩
theorem fs3 {w : World} {b : Nat} (h : Blk w b 40 flat3) : FsAt w (some ⟨b, 0, none⟩) 3 cst3 fst3 := fun _ =>
  ⟨b, 0, rfl, h.lt, fun i hi => ⟨fun j v hj => by
    have hs : (cst3 i).size = 16 := (cst3_at i hi).size
    have hj16 : j < 16 := by
      rcases Nat.lt_or_ge j 16 with h1 | h1
      · exact h1
      · rw [List.getElem?_eq_none (by simpa [hs] using h1)] at hj; cases hj
    rw [h.cell, Nat.zero_add, flat3_get i hi j hj16]
    exact hj, cst3_at i hi⟩⟩
theorem fact_info : (Tryd.prog.info? 40).map (·.size) = some 16 := by kernel_rfl
theorem fact_zero : ((Tryd.prog.info? 40).bind (·.zero)).isSome = true := by kernel_rfl
theorem wl_fact3 {ops : Array Oper} {rest : List Oper} {o : Oper} {a : Act} {w : World} {Q : Exit → Act → World → Prop} (hg : o.guard = none) (ho : o.op = .buildSlice 22 3 #[(0, .tmp 5), (1, .tmp 7), (2, .tmp 9)])
    (h0 : a.eval (.tmp 5) = .agg (fct 0 0)) (h1 : a.eval (.tmp 7) = .agg (fct 1 8)) (h2 : a.eval (.tmp 9) = .agg (fct 1 4))
    (h : wpList Tryd.prog ops Q rest (a.put o.dst (.slice (some ⟨w.heap.size, 0, none⟩) 3 3)) (w.alloc (.cells flat3 40))) : wpList Tryd.prog ops Q (o :: rest) a w := by
  refine Go.Great.wpList_buildRows hg 22 40 #[(0, .tmp 5), (1, .tmp 7), (2, .tmp 9)] 16 [.agg (fct 0 0), .agg (fct 1 8), .agg (fct 1 4)] ho (fun i => 5 + 2 * i) w.heap.size rfl o.dst rfl Tryd.underlying22 fact_info fact_zero (by decide) (by decide) (by decide) rfl (fun v hv => ?_) (fun i hi => ?_) h
  · simp at hv
    rcases hv with rfl | rfl | rfl <;> rfl
  · match i, hi with
    | 0, _ => exact h0
    | 1, _ => exact h1
    | 2, _ => exact h2
def c12 : Nat → Nat := fun i => if i = 0 then 1 else if i = 1 then 2 else 0
theorem c12_built : Tryd.prog.built 26 [(0, .int .i64 1), (1, .int .i64 2)] = some (fnC 16 c12) := by kernel_rfl
theorem c12_ok : okC c12 := fun i hi => by
  rcases (show i = 0 ∨ i = 1 ∨ 2 ≤ i by omega) with rfl | rfl | h
  · rfl
  · rfl
  · show (Lit.int .i64 ((c12 i : Nat) : Int)).wf = true
    rw [show c12 i = 0 by unfold c12; rw [if_neg (by omega), if_neg (by omega)]]
    rfl
theorem x_eq : allEq (ciN (tellC fst3 2)) (ciN c12) = true := by kernel_rfl
theorem x_02 : aheadB (ciN (tellC fst3 0)) (ciN (tellC fst3 2)) = true := by kernel_rfl
theorem x_01 : aheadB (ciN (tellC fst3 0)) (ciN (tellC fst3 1)) = false := by kernel_rfl
theorem x_bes : besTot fst3 3 = 1 := by kernel_rfl
theorem x_ch : chB fst3 3 = 2 := by kernel_rfl
theorem x_last : lastN fst3 5 3 = 2 := by kernel_rfl
theorem eq_nat (W : World) (c d : Nat → Nat) (hc : okC c) (hd : okC d) : (binOp .eql 26 (.agg (fnC 16 c)) (.agg (fnC 16 d))).run Tryd.prog W = .ok (.bool (allEq (ciN c) (ciN d))) W := by
  have h := arr16_eq W (ciN c) (ciN d) hc hd
  have h' : (Op.equalIn 10000 26 (.agg (fnC 16 c)) (.agg (fnC 16 d))).run Tryd.prog W = .ok (allEq (ciN c) (ciN d)) W := h
  simp [binOp, Op.equal, Op.maxDepth, h']
theorem execOp_eql {o : Oper} {a : Act} {w : World} (t : TypeId) (hg : Tryd.prog.eqGuardType Tryd.prog.depth t = false) (x y : Operand) (u v : Array Value) {r : Bool} (ho : o.op = .binOp .eql t x y t) (hx : a.eval x = .agg u) (hy : a.eval y = .agg v) (h : (binOp .eql t (.agg u) (.agg v)).run Tryd.prog w = .ok (.bool r) w) : (execOp a.eval o).run Tryd.prog w = .ok (.value (.bool r)) w := by
  unfold execOp
  simp only [ho, hx, hy]
  simp [h, hg, eqGuard, Result.andThen]
end Go.Proofs.YtocjapnagggapaaDoor
