/- runriglaw13.TableFinds returns true for every input, and its arguments read as before. No condition. -/
import Derived.Test.YtbgagmpinekhpaaRows
import Derived.Test.YtbgagmpinekhpaaTmF
import Derived.Test.YtbgagmpinekhpaaOpen
import Derived.Test.YtbgagmpinekhpaaORows
import Derived.WalkKit
import Derived.ProofKit
import Derived.OpenShut
import Derived.ShutString
import Derived.ChangeOld
import Derived.Below
namespace Go.Proofs.Ytbgagmpinekhpaa.tableFinds
open Go.ChangeShapes Go.WideShapes Go.ChangeAt Go.RowKit
open Go.ChangeMaps (open_string shut_string)
set_option linter.unusedVariables false

theorem own : ownKnob Try.prog.godebug = none := by kernel_rfl
theorem laidOut : laidOutB Try.prog = true := by kernel_rfl

set_option maxRecDepth 100000 in
theorem open_27 {H : Type} {enc : TypeId × Value → H} {W : World} {r : Reach} {b0 base : Nat} {sp : Nat → Bool} {held : Bool} {v : Value} {d : DataW H} {p : List MemPlace} (hv : Value.okWide Try.prog W r b0 27 v) (h : DataW.Trod enc Try.prog W base sp held 27 v d p) :
    ∃ (a0 : Int) (a1 : Int) (a2 : Int) (a3 : Bool) (a4 : Bool) (a5 : Bool) (a6 : Bool) (a7 : Bool) (a8 : Bool) (a9 : Bool) (a10 : Bool) (a11 : Int) (a12 : Int), v = .agg #[.int .i64 a0, .int .i64 a1, .int .u64 a2, .bool a3, .bool a4, .bool a5, .bool a6, .bool a7, .bool a8, .bool a9, .bool a10, .int .i64 a11, .int .u64 a12] ∧ (Lit.int .i64 a0).wf = true ∧ (Lit.int .i64 a1).wf = true ∧ (Lit.int .u64 a2).wf = true ∧ (Lit.int .i64 a11).wf = true ∧ (Lit.int .u64 a12).wf = true := by
  obtain ⟨cs, rfl, hsz⟩ := okWide_row (.inl ⟨_, Try.underlying27⟩) hv
  obtain ⟨fuel, hf⟩ := h
  have g := trod_leaves 12 27 [3, 3, 23, 4, 4, 4, 4, 4, 4, 4, 4, 3, 23] (by kernel_rfl) _ _ _ hf
  obtain ⟨l⟩ := cs
  match l, hsz.trans (show Try.prog.cellsOf 27 = 13 by kernel_rfl) with
  | [c0, c1, c2, c3, c4, c5, c6, c7, c8, c9, c10, c11, c12], _ =>
    obtain ⟨m0, y0, t0⟩ := g 0 _ _ rfl rfl
    obtain ⟨a0, e0, _, w0⟩ := DataW.trod_int Try.underlying3 t0
    injection e0 with e0 _
    subst e0
    obtain ⟨m1, y1, t1⟩ := g 1 _ _ rfl rfl
    obtain ⟨a1, e1, _, w1⟩ := DataW.trod_int Try.underlying3 t1
    injection e1 with e1 _
    subst e1
    obtain ⟨m2, y2, t2⟩ := g 2 _ _ rfl rfl
    obtain ⟨a2, e2, _, w2⟩ := DataW.trod_int Try.underlying23 t2
    injection e2 with e2 _
    subst e2
    obtain ⟨m3, y3, t3⟩ := g 3 _ _ rfl rfl
    obtain ⟨a3, e3, _⟩ := DataW.trod_bool Try.underlying4 t3
    injection e3 with e3 _
    subst e3
    obtain ⟨m4, y4, t4⟩ := g 4 _ _ rfl rfl
    obtain ⟨a4, e4, _⟩ := DataW.trod_bool Try.underlying4 t4
    injection e4 with e4 _
    subst e4
    obtain ⟨m5, y5, t5⟩ := g 5 _ _ rfl rfl
    obtain ⟨a5, e5, _⟩ := DataW.trod_bool Try.underlying4 t5
    injection e5 with e5 _
    subst e5
    obtain ⟨m6, y6, t6⟩ := g 6 _ _ rfl rfl
    obtain ⟨a6, e6, _⟩ := DataW.trod_bool Try.underlying4 t6
    injection e6 with e6 _
    subst e6
    obtain ⟨m7, y7, t7⟩ := g 7 _ _ rfl rfl
    obtain ⟨a7, e7, _⟩ := DataW.trod_bool Try.underlying4 t7
    injection e7 with e7 _
    subst e7
    obtain ⟨m8, y8, t8⟩ := g 8 _ _ rfl rfl
    obtain ⟨a8, e8, _⟩ := DataW.trod_bool Try.underlying4 t8
    injection e8 with e8 _
    subst e8
    obtain ⟨m9, y9, t9⟩ := g 9 _ _ rfl rfl
    obtain ⟨a9, e9, _⟩ := DataW.trod_bool Try.underlying4 t9
    injection e9 with e9 _
    subst e9
    obtain ⟨m10, y10, t10⟩ := g 10 _ _ rfl rfl
    obtain ⟨a10, e10, _⟩ := DataW.trod_bool Try.underlying4 t10
    injection e10 with e10 _
    subst e10
    obtain ⟨m11, y11, t11⟩ := g 11 _ _ rfl rfl
    obtain ⟨a11, e11, _, w11⟩ := DataW.trod_int Try.underlying3 t11
    injection e11 with e11 _
    subst e11
    obtain ⟨m12, y12, t12⟩ := g 12 _ _ rfl rfl
    obtain ⟨a12, e12, _, w12⟩ := DataW.trod_int Try.underlying23 t12
    injection e12 with e12 _
    subst e12
    exact ⟨a0, a1, a2, a3, a4, a5, a6, a7, a8, a9, a10, a11, a12, rfl, w0, w1, w2, w11, w12⟩

set_option maxRecDepth 100000 in
theorem lifted (os : Os) (started : os.Started) (H : Type) (enc : TypeId × Value → H) :
    ReturnsInHanded {} Try.checked os 3 .any (Rows.tableFindsSpec.pre6 enc Try.prog Try.f3 Rows.tableFindsRow.domain false) (Rows.tableFindsSpec.post enc Try.prog Try.f3 false true false false) := by
  refine returnsInHanded_of_change_sized (C := Try.checked) own started (by kernel_rfl) Try.func3
    (ChangeSpec.witness6 (enc := enc) (C := Try.checked) false ⟨#[], #[.slice none 0 0, .agg #[.int .i64 0, .int .i64 0, .int .u64 0, .bool false, .bool false, .bool false, .bool false, .bool false, .bool false, .bool false, .bool false, .int .i64 0, .int .u64 0], .int .u64 0], []⟩ 8 (by kernel_rfl) (by kernel_rfl) (by kernel_rfl) (by kernel_rfl)) ?_
  intro W base args ds gs before hval0 hW hcnd hsz0 _
  have hsz : (DataW.weightsEach Try.prog (Try.f3.params.toList ++ Rows.tableFindsSpec.plain.varTypes Try.prog) (ds ++ gs)).all (· ≤ reachBytes) = true := hsz0
  clear hsz0
  have hval : ∀ (j : Nat) t v, Try.f3.params[j]? = some t → args[j]? = some v → Value.okWide Try.prog W .any base t v := hval0
  have hW' := hW
  obtain ⟨p, q, hA0, hV, rfl, hfz, hnd⟩ := hW
  have hA : DataW.TrodAll enc Try.prog W 0 (fun _ => true) true Try.f3.params.toList args.toList ds p := hA0
  rw [Try.params3] at hA hval hsz
  obtain ⟨v0, vs0, d0, ds0, p0, q0, hargs, rfl, rfl, h0, r0⟩ := trodAll_cons hA
  obtain ⟨v1, vs1, d1, ds1, p1, q1, rfl, rfl, rfl, h1, r1⟩ := trodAll_cons r0
  obtain ⟨v2, vs2, d2, ds2, p2, q2, rfl, rfl, rfl, h2, r2⟩ := trodAll_cons r1
  obtain ⟨rfl, rfl, rfl⟩ := trodAll_nil r2
  obtain rfl : args = #[v0, v1, v2] := by cases args; simp_all
  obtain ⟨rfl, rfl⟩ := trodVars_none hV
  have k0 := h0
  have lt0 : ∀ x ∈ p0, x.block < W.heap.size := by obtain ⟨m, hm⟩ := k0; exact DataW.trod_lt m _ _ _ hm
  have k1 := h1
  have lt1 : ∀ x ∈ p1, x.block < W.heap.size := by obtain ⟨m, hm⟩ := k1; exact DataW.trod_lt m _ _ _ hm
  have k2 := h2
  have lt2 : ∀ x ∈ p2, x.block < W.heap.size := by obtain ⟨m, hm⟩ := k2; exact DataW.trod_lt m _ _ _ hm
  obtain ⟨a0, len0, cap0, rfl⟩ := okWide_slice Try.underlying22 (hval 0 22 v0 rfl rfl)
  obtain ⟨w0, b0⟩ : IsRows [.int .i64, .int .i64, .int .u64, .bool, .bool, .bool, .bool, .bool, .bool, .bool, .bool, .int .i64, .int .u64] W a0 len0 cap0 ∧ 48 * cap0 ≤ 140737488351232 := by
    obtain ⟨fuel, hf⟩ := h0
    obtain ⟨a', l', c', hcs, hr, hx⟩ := open_rows Try.underlying22 (ls := [3, 3, 23, 4, 4, 4, 4, 4, 4, 4, 4, 3, 23]) (ks := [.int .i64, .int .i64, .int .u64, .bool, .bool, .bool, .bool, .bool, .bool, .bool, .bool, .int .i64, .int .u64]) (by kernel_rfl) (by kernel_rfl) (by kernel_rfl) hf
    simp [Value.cells] at hcs
    obtain ⟨rfl, rfl, rfl⟩ := hcs
    refine ⟨hr, ?_⟩
    rcases hx with ⟨_, h0⟩ | ⟨els, sp, hd, hl⟩
    · omega
    · have hd' : d0 = .slice els sp := hd
      subst hd'
      have h9 := sized_slice hsz (j := 0) (t := 22) (e := 27) rfl rfl Try.underlying22
      rw [show Try.prog.bytesOf 27 = 48 by kernel_rfl, hl] at h9
      simp only [reachBytes] at h9
      omega
  obtain ⟨a1_0, a1_1, a1_2, a1_3, a1_4, a1_5, a1_6, a1_7, a1_8, a1_9, a1_10, a1_11, a1_12, rfl, w1_0, w1_1, w1_2, w1_11, w1_12⟩ := open_27 (hval 1 27 v1 rfl rfl) h1
  obtain ⟨a2, rfl, _, _, w2⟩ := open_int Try.underlying23 (hval 2 23 v2 rfl rfl) h2
  clear hA0 hval0
  refine (Law.TableFinds a0 len0 cap0 a1_0 a1_1 a1_2 a1_3 a1_4 a1_5 a1_6 a1_7 a1_8 a1_9 a1_10 a1_11 a1_12 a2 W w0 b0 w1_0 w1_1 w1_2 w1_11 w1_12 w2).mono fun e W' ⟨he, bel⟩ => ?_
  subst he
  exact ⟨_, rfl, _, _, _, [], _, [], hW', trodAll_mk1 (shut_bool Try.underlying4 _), (trodAll_cons_mk (Below.trod laidOut (by kernel_rfl) (of_decide_eq_true (by kernel_rfl)) k0 bel lt0) (trodAll_cons_mk (Below.trod laidOut (by kernel_rfl) (of_decide_eq_true (by kernel_rfl)) k1 bel lt1) (trodAll_cons_mk (Below.trod laidOut (by kernel_rfl) (of_decide_eq_true (by kernel_rfl)) k2 bel lt2) trodAll_mk0))), rfl, bel.frame _, fun h => by cases h⟩

theorem over : Rows.tableFindsRow.holds Try.pinned (OpenSpec.ofChange Rows.tableFindsSpec) :=
  OpenClaim.holds_of_wide 3 Try.f3 rfl rfl rfl rfl rfl rfl rfl ⟨rfl, rfl, rfl, rfl, rfl⟩ rfl rfl rfl rfl rfl (by kernel_rfl) Try.func3 (by kernel_rfl)
    (of_decide_eq_true (by kernel_rfl)) (by unfold Func.isWrapper; first | (rw [if_pos (by decide +kernel)]; kernel_rfl) | (rw [if_neg (by decide +kernel)]; exact ⟨rfl, rfl⟩))
    (fun os started H enc _ => lifted os started H enc)

theorem proved : Rows.TableFindsSaid := over
#print axioms proved
end Go.Proofs.Ytbgagmpinekhpaa.tableFinds
