/- runriglaw11.TlbHolds returns true for every input, and its arguments read as before. No condition. -/
import Derived.Test.YtnjoobggcejgkaaRows
import Derived.Test.YtnjoobggcejgkaaTlbPd
import Derived.Test.YtnjoobggcejgkaaOpen
import Derived.WalkKit
import Derived.ProofKit
import Derived.OpenShut
import Derived.ShutString
import Derived.ChangeOld
import Derived.Below
namespace Go.Proofs.Ytnjoobggcejgkaa.tlbHolds
open Go.ChangeShapes Go.WideShapes Go.ChangeAt Go.RowKit
open Go.ChangeMaps (open_string shut_string)
set_option linter.unusedVariables false

theorem own : ownKnob Try.prog.godebug = none := by kernel_rfl
theorem laidOut : laidOutB Try.prog = true := by kernel_rfl

theorem open_45 {H : Type} {enc : TypeId × Value → H} {W : World} {r : Reach} {b0 base : Nat} {sp : Nat → Bool} {held : Bool} {v : Value} {d : DataW H} {p : List MemPlace} (hv : Value.okWide Try.prog W r b0 45 v) (h : DataW.Trod enc Try.prog W base sp held 45 v d p) :
    ∃ (a0 : Int) (a1 : Int) (a2 : Int) (a3 : Int) (a4 : Bool) (a5 : Bool) (a6 : Bool) (a7 : Bool) (a8 : Bool) (a9 : Bool) (a10 : Bool) (a11 : Bool) (a12 : Int) (a13 : Int) (a14 : Int) (a15 : Int), v = .agg #[.int .i64 a0, .int .i64 a1, .int .i64 a2, .int .u64 a3, .bool a4, .bool a5, .bool a6, .bool a7, .bool a8, .bool a9, .bool a10, .bool a11, .int .i64 a12, .int .u64 a13, .int .i64 a14, .int .u64 a15] ∧ (Lit.int .i64 a0).wf = true ∧ (Lit.int .i64 a1).wf = true ∧ (Lit.int .i64 a2).wf = true ∧ (Lit.int .u64 a3).wf = true ∧ (Lit.int .i64 a12).wf = true ∧ (Lit.int .u64 a13).wf = true ∧ (Lit.int .i64 a14).wf = true ∧ (Lit.int .u64 a15).wf = true := by
  obtain ⟨cs, rfl, hsz⟩ := okWide_row (.inl ⟨_, Try.underlying45⟩) hv
  obtain ⟨fuel, hf⟩ := h
  have g := trod_leaves 12 45 [3, 3, 3, 29, 4, 4, 4, 4, 4, 4, 4, 4, 3, 29, 3, 29] (by kernel_rfl) _ _ _ hf
  obtain ⟨l⟩ := cs
  match l, hsz.trans (show Try.prog.cellsOf 45 = 16 by kernel_rfl) with
  | [c0, c1, c2, c3, c4, c5, c6, c7, c8, c9, c10, c11, c12, c13, c14, c15], _ =>
    obtain ⟨m0, y0, t0⟩ := g 0 _ _ rfl rfl
    obtain ⟨a0, e0, _, w0⟩ := DataW.trod_int Try.underlying3 t0
    injection e0 with e0 _
    subst e0
    obtain ⟨m1, y1, t1⟩ := g 1 _ _ rfl rfl
    obtain ⟨a1, e1, _, w1⟩ := DataW.trod_int Try.underlying3 t1
    injection e1 with e1 _
    subst e1
    obtain ⟨m2, y2, t2⟩ := g 2 _ _ rfl rfl
    obtain ⟨a2, e2, _, w2⟩ := DataW.trod_int Try.underlying3 t2
    injection e2 with e2 _
    subst e2
    obtain ⟨m3, y3, t3⟩ := g 3 _ _ rfl rfl
    obtain ⟨a3, e3, _, w3⟩ := DataW.trod_int Try.underlying29 t3
    injection e3 with e3 _
    subst e3
    obtain ⟨m4, y4, t4⟩ := g 4 _ _ rfl rfl
    obtain ⟨a4, e4, _⟩ := DataW.trod_bool Try.underlying4 t4
    injection e4 with e4 _
    subst e4
    obtain ⟨m5, y5, t5⟩ := g 5 _ _ rfl rfl
    obtain ⟨a5, e5, _⟩ := DataW.trod_bool Try.underlying4 t5
    injection e5 with e5 _
    subst e5
    obtain ⟨m6, y6, t6⟩ := g 6 _ _ rfl rfl
    obtain ⟨a6, e6, _⟩ := DataW.trod_bool Try.underlying4 t6
    injection e6 with e6 _
    subst e6
    obtain ⟨m7, y7, t7⟩ := g 7 _ _ rfl rfl
    obtain ⟨a7, e7, _⟩ := DataW.trod_bool Try.underlying4 t7
    injection e7 with e7 _
    subst e7
    obtain ⟨m8, y8, t8⟩ := g 8 _ _ rfl rfl
    obtain ⟨a8, e8, _⟩ := DataW.trod_bool Try.underlying4 t8
    injection e8 with e8 _
    subst e8
    obtain ⟨m9, y9, t9⟩ := g 9 _ _ rfl rfl
    obtain ⟨a9, e9, _⟩ := DataW.trod_bool Try.underlying4 t9
    injection e9 with e9 _
    subst e9
    obtain ⟨m10, y10, t10⟩ := g 10 _ _ rfl rfl
    obtain ⟨a10, e10, _⟩ := DataW.trod_bool Try.underlying4 t10
    injection e10 with e10 _
    subst e10
    obtain ⟨m11, y11, t11⟩ := g 11 _ _ rfl rfl
    obtain ⟨a11, e11, _⟩ := DataW.trod_bool Try.underlying4 t11
    injection e11 with e11 _
    subst e11
    obtain ⟨m12, y12, t12⟩ := g 12 _ _ rfl rfl
    obtain ⟨a12, e12, _, w12⟩ := DataW.trod_int Try.underlying3 t12
    injection e12 with e12 _
    subst e12
    obtain ⟨m13, y13, t13⟩ := g 13 _ _ rfl rfl
    obtain ⟨a13, e13, _, w13⟩ := DataW.trod_int Try.underlying29 t13
    injection e13 with e13 _
    subst e13
    obtain ⟨m14, y14, t14⟩ := g 14 _ _ rfl rfl
    obtain ⟨a14, e14, _, w14⟩ := DataW.trod_int Try.underlying3 t14
    injection e14 with e14 _
    subst e14
    obtain ⟨m15, y15, t15⟩ := g 15 _ _ rfl rfl
    obtain ⟨a15, e15, _, w15⟩ := DataW.trod_int Try.underlying29 t15
    injection e15 with e15 _
    subst e15
    exact ⟨a0, a1, a2, a3, a4, a5, a6, a7, a8, a9, a10, a11, a12, a13, a14, a15, rfl, w0, w1, w2, w3, w12, w13, w14, w15⟩

set_option maxRecDepth 100000 in
theorem lifted (os : Os) (started : os.Started) (H : Type) (enc : TypeId × Value → H) :
    ReturnsInHanded {} Try.checked os 4 .any (Rows.tlbHoldsSpec.pre6 enc Try.prog Try.f4 Rows.tlbHoldsRow.domain false) (Rows.tlbHoldsSpec.post enc Try.prog Try.f4 false true false false) := by
  refine returnsInHanded_of_change (C := Try.checked) own started (by kernel_rfl) Try.func4
    (ChangeSpec.witness6 (enc := enc) (C := Try.checked) false ⟨#[], #[.int .u64 0, .int .u64 0, .agg #[.int .i64 0, .int .i64 0, .int .i64 0, .int .u64 0, .bool false, .bool false, .bool false, .bool false, .bool false, .bool false, .bool false, .bool false, .int .i64 0, .int .u64 0, .int .i64 0, .int .u64 0]], []⟩ 8 (by kernel_rfl) (by kernel_rfl) (by kernel_rfl) (by kernel_rfl)) ?_
  intro W base args ds gs before hval0 hW hcnd _
  have hval : ∀ (j : Nat) t v, Try.f4.params[j]? = some t → args[j]? = some v → Value.okWide Try.prog W .any base t v := hval0
  have hW' := hW
  obtain ⟨p, q, hA0, hV, rfl, hfz, hnd⟩ := hW
  have hA : DataW.TrodAll enc Try.prog W 0 (fun _ => true) true Try.f4.params.toList args.toList ds p := hA0
  rw [Try.params4] at hA hval
  obtain ⟨v0, vs0, d0, ds0, p0, q0, hargs, rfl, rfl, h0, r0⟩ := trodAll_cons hA
  obtain ⟨v1, vs1, d1, ds1, p1, q1, rfl, rfl, rfl, h1, r1⟩ := trodAll_cons r0
  obtain ⟨v2, vs2, d2, ds2, p2, q2, rfl, rfl, rfl, h2, r2⟩ := trodAll_cons r1
  obtain ⟨rfl, rfl, rfl⟩ := trodAll_nil r2
  obtain rfl : args = #[v0, v1, v2] := by cases args; simp_all
  obtain ⟨rfl, rfl⟩ := trodVars_none hV
  have k0 := h0
  have lt0 : ∀ x ∈ p0, x.block < W.heap.size := by obtain ⟨m, hm⟩ := k0; exact DataW.trod_lt m _ _ _ hm
  have k1 := h1
  have lt1 : ∀ x ∈ p1, x.block < W.heap.size := by obtain ⟨m, hm⟩ := k1; exact DataW.trod_lt m _ _ _ hm
  have k2 := h2
  have lt2 : ∀ x ∈ p2, x.block < W.heap.size := by obtain ⟨m, hm⟩ := k2; exact DataW.trod_lt m _ _ _ hm
  obtain ⟨a0, rfl, _, _, w0⟩ := open_int Try.underlying29 (hval 0 29 v0 rfl rfl) h0
  obtain ⟨a1, rfl, _, _, w1⟩ := open_int Try.underlying29 (hval 1 29 v1 rfl rfl) h1
  obtain ⟨a2_0, a2_1, a2_2, a2_3, a2_4, a2_5, a2_6, a2_7, a2_8, a2_9, a2_10, a2_11, a2_12, a2_13, a2_14, a2_15, rfl, w2_0, w2_1, w2_2, w2_3, w2_12, w2_13, w2_14, w2_15⟩ := open_45 (hval 2 45 v2 rfl rfl) h2
  clear hA0 hval0
  refine (Law.TlbHolds a0 a1 a2_0 a2_1 a2_2 a2_3 a2_4 a2_5 a2_6 a2_7 a2_8 a2_9 a2_10 a2_11 a2_12 a2_13 a2_14 a2_15 W w0 w1 w2_0 w2_1 w2_2 w2_3 w2_12 w2_13 w2_14 w2_15).mono fun e W' ⟨he, bel⟩ => ?_
  subst he
  exact ⟨_, rfl, _, _, _, [], _, [], hW', trodAll_mk1 (shut_bool Try.underlying4 _), (trodAll_cons_mk (Below.trod laidOut (by kernel_rfl) (of_decide_eq_true (by kernel_rfl)) k0 bel lt0) (trodAll_cons_mk (Below.trod laidOut (by kernel_rfl) (of_decide_eq_true (by kernel_rfl)) k1 bel lt1) (trodAll_cons_mk (Below.trod laidOut (by kernel_rfl) (of_decide_eq_true (by kernel_rfl)) k2 bel lt2) trodAll_mk0))), rfl, bel.frame _, fun h => by cases h⟩

theorem over : Rows.tlbHoldsRow.holds Try.pinned (OpenSpec.ofChange Rows.tlbHoldsSpec) :=
  OpenClaim.holds_of_wide 4 Try.f4 rfl rfl rfl rfl rfl rfl rfl ⟨rfl, rfl, rfl, rfl, rfl⟩ rfl rfl rfl rfl rfl (by kernel_rfl) Try.func4 (by kernel_rfl)
    (of_decide_eq_true (by kernel_rfl)) (by unfold Func.isWrapper; first | (rw [if_pos (by decide +kernel)]; kernel_rfl) | (rw [if_neg (by decide +kernel)]; exact ⟨rfl, rfl⟩))
    (fun os started H enc _ => lifted os started H enc)

theorem proved : Rows.TlbHoldsSaid := over
#print axioms proved
end Go.Proofs.Ytnjoobggcejgkaa.tlbHolds
