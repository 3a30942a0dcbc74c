/- runriglaw40.ClocksOrder returns true for every input, and its arguments read as before. No condition. -/
import Derived.Test.YtocjapnagggapaaDoorRows
import Derived.Test.YtocjapnagggapaaDoorClkR
import Derived.Test.YtocjapnagggapaaDoorOpen
import Derived.Test.YtocjapnagggapaaDoorTie
import Derived.Test.YtocjapnagggapaaDoorCards
import Derived.LaidMore
import Derived.Stop.Joined
import Derived.SevenTiedAt
import Derived.WalkKit
import Derived.ProofKit
import Derived.OpenShut
import Derived.ShutString
import Derived.ChangeOld
import Derived.Below
namespace Go.Proofs.YtocjapnagggapaaDoor.clocksOrder
open Go.ChangeShapes Go.WideShapes Go.ChangeAt Go.RowKit
open Go.ChangeMaps (open_string shut_string)
set_option linter.unusedVariables false

theorem own : ownKnob Tryd.prog.godebug = none := by kernel_rfl
theorem laidOut : laidOutB Tryd.prog = true := by kernel_rfl

set_option maxRecDepth 100000 in
theorem open_26 {H : Type} {enc : TypeId × Value → H} {W : World} {r : Reach} {b0 base : Nat} {sp : Nat → Bool} {held : Bool} {v : Value} {d : DataW H} {p : List MemPlace} (hv : Value.okWide Tryd.prog W r b0 26 v) (h : DataW.Trod enc Tryd.prog W base sp held 26 v d p) :
    ∃ (a0 : Int) (a1 : Int) (a2 : Int) (a3 : Int) (a4 : Int) (a5 : Int) (a6 : Int) (a7 : Int) (a8 : Int) (a9 : Int) (a10 : Int) (a11 : Int) (a12 : Int) (a13 : Int) (a14 : Int) (a15 : Int), v = .agg #[.int .i64 a0, .int .i64 a1, .int .i64 a2, .int .i64 a3, .int .i64 a4, .int .i64 a5, .int .i64 a6, .int .i64 a7, .int .i64 a8, .int .i64 a9, .int .i64 a10, .int .i64 a11, .int .i64 a12, .int .i64 a13, .int .i64 a14, .int .i64 a15] ∧ (Lit.int .i64 a0).wf = true ∧ (Lit.int .i64 a1).wf = true ∧ (Lit.int .i64 a2).wf = true ∧ (Lit.int .i64 a3).wf = true ∧ (Lit.int .i64 a4).wf = true ∧ (Lit.int .i64 a5).wf = true ∧ (Lit.int .i64 a6).wf = true ∧ (Lit.int .i64 a7).wf = true ∧ (Lit.int .i64 a8).wf = true ∧ (Lit.int .i64 a9).wf = true ∧ (Lit.int .i64 a10).wf = true ∧ (Lit.int .i64 a11).wf = true ∧ (Lit.int .i64 a12).wf = true ∧ (Lit.int .i64 a13).wf = true ∧ (Lit.int .i64 a14).wf = true ∧ (Lit.int .i64 a15).wf = true := by
  obtain ⟨cs, rfl, hsz⟩ := okWide_row (.inr ⟨_, _, Tryd.underlying26⟩) hv
  obtain ⟨fuel, hf⟩ := h
  have g := trod_leaves 12 26 [3, 3, 3, 3, 3, 3, 3, 3, 3, 3, 3, 3, 3, 3, 3, 3] (by kernel_rfl) _ _ _ hf
  obtain ⟨l⟩ := cs
  match l, hsz.trans (show Tryd.prog.cellsOf 26 = 16 by kernel_rfl) with
  | [c0, c1, c2, c3, c4, c5, c6, c7, c8, c9, c10, c11, c12, c13, c14, c15], _ =>
    obtain ⟨m0, y0, t0⟩ := g 0 _ _ rfl rfl
    obtain ⟨a0, e0, _, w0⟩ := DataW.trod_int Tryd.underlying3 t0
    injection e0 with e0 _
    subst e0
    obtain ⟨m1, y1, t1⟩ := g 1 _ _ rfl rfl
    obtain ⟨a1, e1, _, w1⟩ := DataW.trod_int Tryd.underlying3 t1
    injection e1 with e1 _
    subst e1
    obtain ⟨m2, y2, t2⟩ := g 2 _ _ rfl rfl
    obtain ⟨a2, e2, _, w2⟩ := DataW.trod_int Tryd.underlying3 t2
    injection e2 with e2 _
    subst e2
    obtain ⟨m3, y3, t3⟩ := g 3 _ _ rfl rfl
    obtain ⟨a3, e3, _, w3⟩ := DataW.trod_int Tryd.underlying3 t3
    injection e3 with e3 _
    subst e3
    obtain ⟨m4, y4, t4⟩ := g 4 _ _ rfl rfl
    obtain ⟨a4, e4, _, w4⟩ := DataW.trod_int Tryd.underlying3 t4
    injection e4 with e4 _
    subst e4
    obtain ⟨m5, y5, t5⟩ := g 5 _ _ rfl rfl
    obtain ⟨a5, e5, _, w5⟩ := DataW.trod_int Tryd.underlying3 t5
    injection e5 with e5 _
    subst e5
    obtain ⟨m6, y6, t6⟩ := g 6 _ _ rfl rfl
    obtain ⟨a6, e6, _, w6⟩ := DataW.trod_int Tryd.underlying3 t6
    injection e6 with e6 _
    subst e6
    obtain ⟨m7, y7, t7⟩ := g 7 _ _ rfl rfl
    obtain ⟨a7, e7, _, w7⟩ := DataW.trod_int Tryd.underlying3 t7
    injection e7 with e7 _
    subst e7
    obtain ⟨m8, y8, t8⟩ := g 8 _ _ rfl rfl
    obtain ⟨a8, e8, _, w8⟩ := DataW.trod_int Tryd.underlying3 t8
    injection e8 with e8 _
    subst e8
    obtain ⟨m9, y9, t9⟩ := g 9 _ _ rfl rfl
    obtain ⟨a9, e9, _, w9⟩ := DataW.trod_int Tryd.underlying3 t9
    injection e9 with e9 _
    subst e9
    obtain ⟨m10, y10, t10⟩ := g 10 _ _ rfl rfl
    obtain ⟨a10, e10, _, w10⟩ := DataW.trod_int Tryd.underlying3 t10
    injection e10 with e10 _
    subst e10
    obtain ⟨m11, y11, t11⟩ := g 11 _ _ rfl rfl
    obtain ⟨a11, e11, _, w11⟩ := DataW.trod_int Tryd.underlying3 t11
    injection e11 with e11 _
    subst e11
    obtain ⟨m12, y12, t12⟩ := g 12 _ _ rfl rfl
    obtain ⟨a12, e12, _, w12⟩ := DataW.trod_int Tryd.underlying3 t12
    injection e12 with e12 _
    subst e12
    obtain ⟨m13, y13, t13⟩ := g 13 _ _ rfl rfl
    obtain ⟨a13, e13, _, w13⟩ := DataW.trod_int Tryd.underlying3 t13
    injection e13 with e13 _
    subst e13
    obtain ⟨m14, y14, t14⟩ := g 14 _ _ rfl rfl
    obtain ⟨a14, e14, _, w14⟩ := DataW.trod_int Tryd.underlying3 t14
    injection e14 with e14 _
    subst e14
    obtain ⟨m15, y15, t15⟩ := g 15 _ _ rfl rfl
    obtain ⟨a15, e15, _, w15⟩ := DataW.trod_int Tryd.underlying3 t15
    injection e15 with e15 _
    subst e15
    exact ⟨a0, a1, a2, a3, a4, a5, a6, a7, a8, a9, a10, a11, a12, a13, a14, a15, rfl, w0, w1, w2, w3, w4, w5, w6, w7, w8, w9, w10, w11, w12, w13, w14, w15⟩

theorem door_met (os : Os) (args : Array Value) : laidMetH Tryd.prog Rows.clocksOrderRow.laid ((World.doorLaid Tryd.prog 24 os).forCall (fun _ _ => 0) ⟨#[], args, []⟩).memory :=
  laidMetH_of_parts3 (fuel := 8) (laidMet_of_run' 8 (by kernel_rfl) (by kernel_rfl)) (by kernel_rfl) (by kernel_rfl)
set_option maxRecDepth 100000 in
theorem lifted (os : Os) (started : os.Started) (H : Type) (enc : TypeId × Value → H) :
    ReturnsInHanded {} Tryd.checked os 4 .any (fun w args => (Rows.clocksOrderSpec.pre enc Tryd.prog Tryd.f4 [] false w args ∧ laidMetH Tryd.prog Rows.clocksOrderRow.laid w) ∧ sizedMet enc Tryd.prog Tryd.f4 (OpenSpec.ofChange Rows.clocksOrderSpec) false w args) (Rows.clocksOrderSpec.post enc Tryd.prog Tryd.f4 false true false false) := by
  refine returnsInHanded_of_change_and (C := Tryd.checked) (X := fun w _ => laidMetH Tryd.prog Rows.clocksOrderRow.laid w) (fun _ _ _ hh h => h.of_heap hh) own started (by kernel_rfl) Tryd.func4
    (ChangeSpec.witness_shaped (enc := enc) (C := Tryd.checked) (os := os) (X := fun w _ => laidMetH Tryd.prog Rows.clocksOrderRow.laid w) false (World.doorLaid Tryd.prog 24 os) #[.agg #[.int .i64 0, .int .i64 0, .int .i64 0, .int .i64 0, .int .i64 0, .int .i64 0, .int .i64 0, .int .i64 0, .int .i64 0, .int .i64 0, .int .i64 0, .int .i64 0, .int .i64 0, .int .i64 0, .int .i64 0, .int .i64 0], .agg #[.int .i64 0, .int .i64 0, .int .i64 0, .int .i64 0, .int .i64 0, .int .i64 0, .int .i64 0, .int .i64 0, .int .i64 0, .int .i64 0, .int .i64 0, .int .i64 0, .int .i64 0, .int .i64 0, .int .i64 0, .int .i64 0], .agg #[.int .i64 0, .int .i64 0, .int .i64 0, .int .i64 0, .int .i64 0, .int .i64 0, .int .i64 0, .int .i64 0, .int .i64 0, .int .i64 0, .int .i64 0, .int .i64 0, .int .i64 0, .int .i64 0, .int .i64 0, .int .i64 0]] 8 rfl (World.shaped_of_RefB (by kernel_rfl) (by kernel_rfl)) (by kernel_rfl) (by kernel_rfl) (by kernel_rfl) (door_met os _)) ?_
  intro W base args ds gs before hval0 hW hcnd hsz0 hL _
  have hsz : (DataW.weightsEach Tryd.prog (Tryd.f4.params.toList ++ Rows.clocksOrderSpec.plain.varTypes Tryd.prog) (ds ++ gs)).all (· ≤ reachBytes) = true := hsz0
  clear hsz0
  have hval : ∀ (j : Nat) t v, Tryd.f4.params[j]? = some t → args[j]? = some v → Value.okWide Tryd.prog W .any base t v := hval0
  have hW' := hW
  obtain ⟨p, q, hA0, hV, rfl, hfz, hnd⟩ := hW
  have hA : DataW.TrodAll enc Tryd.prog W 0 (fun _ => true) true Tryd.f4.params.toList args.toList ds p := hA0
  rw [Tryd.params4] at hA hval hsz
  obtain ⟨v0, vs0, d0, ds0, p0, q0, hargs, rfl, rfl, h0, r0⟩ := trodAll_cons hA
  obtain ⟨v1, vs1, d1, ds1, p1, q1, rfl, rfl, rfl, h1, r1⟩ := trodAll_cons r0
  obtain ⟨v2, vs2, d2, ds2, p2, q2, rfl, rfl, rfl, h2, r2⟩ := trodAll_cons r1
  obtain ⟨rfl, rfl, rfl⟩ := trodAll_nil r2
  obtain rfl : args = #[v0, v1, v2] := by cases args; simp_all
  obtain ⟨rfl, rfl⟩ := trodVars_none hV
  have k0 := h0
  have lt0 : ∀ x ∈ p0, x.block < W.heap.size := by obtain ⟨m, hm⟩ := k0; exact DataW.trod_lt m _ _ _ hm
  have k1 := h1
  have lt1 : ∀ x ∈ p1, x.block < W.heap.size := by obtain ⟨m, hm⟩ := k1; exact DataW.trod_lt m _ _ _ hm
  have k2 := h2
  have lt2 : ∀ x ∈ p2, x.block < W.heap.size := by obtain ⟨m, hm⟩ := k2; exact DataW.trod_lt m _ _ _ hm
  obtain ⟨a0_0, a0_1, a0_2, a0_3, a0_4, a0_5, a0_6, a0_7, a0_8, a0_9, a0_10, a0_11, a0_12, a0_13, a0_14, a0_15, rfl, w0_0, w0_1, w0_2, w0_3, w0_4, w0_5, w0_6, w0_7, w0_8, w0_9, w0_10, w0_11, w0_12, w0_13, w0_14, w0_15⟩ := open_26 (hval 0 26 v0 rfl rfl) h0
  obtain ⟨a1_0, a1_1, a1_2, a1_3, a1_4, a1_5, a1_6, a1_7, a1_8, a1_9, a1_10, a1_11, a1_12, a1_13, a1_14, a1_15, rfl, w1_0, w1_1, w1_2, w1_3, w1_4, w1_5, w1_6, w1_7, w1_8, w1_9, w1_10, w1_11, w1_12, w1_13, w1_14, w1_15⟩ := open_26 (hval 1 26 v1 rfl rfl) h1
  obtain ⟨a2_0, a2_1, a2_2, a2_3, a2_4, a2_5, a2_6, a2_7, a2_8, a2_9, a2_10, a2_11, a2_12, a2_13, a2_14, a2_15, rfl, w2_0, w2_1, w2_2, w2_3, w2_4, w2_5, w2_6, w2_7, w2_8, w2_9, w2_10, w2_11, w2_12, w2_13, w2_14, w2_15⟩ := open_26 (hval 2 26 v2 rfl rfl) h2
  clear hA0 hval0
  refine (Law.ClocksOrder a0_0 a0_1 a0_2 a0_3 a0_4 a0_5 a0_6 a0_7 a0_8 a0_9 a0_10 a0_11 a0_12 a0_13 a0_14 a0_15 a1_0 a1_1 a1_2 a1_3 a1_4 a1_5 a1_6 a1_7 a1_8 a1_9 a1_10 a1_11 a1_12 a1_13 a1_14 a1_15 a2_0 a2_1 a2_2 a2_3 a2_4 a2_5 a2_6 a2_7 a2_8 a2_9 a2_10 a2_11 a2_12 a2_13 a2_14 a2_15 W w0_0 w0_1 w0_2 w0_3 w0_4 w0_5 w0_6 w0_7 w0_8 w0_9 w0_10 w0_11 w0_12 w0_13 w0_14 w0_15 w1_0 w1_1 w1_2 w1_3 w1_4 w1_5 w1_6 w1_7 w1_8 w1_9 w1_10 w1_11 w1_12 w1_13 w1_14 w1_15 w2_0 w2_1 w2_2 w2_3 w2_4 w2_5 w2_6 w2_7 w2_8 w2_9 w2_10 w2_11 w2_12 w2_13 w2_14 w2_15 (of_laid hL)).mono fun e W' ⟨he, bel⟩ => ?_
  subst he
  exact ⟨_, rfl, _, _, _, [], _, [], hW', trodAll_mk1 (shut_bool Tryd.underlying4 _), (trodAll_cons_mk (Below.trod laidOut (by kernel_rfl) (of_decide_eq_true (by kernel_rfl)) k0 bel lt0) (trodAll_cons_mk (Below.trod laidOut (by kernel_rfl) (of_decide_eq_true (by kernel_rfl)) k1 bel lt1) (trodAll_cons_mk (Below.trod laidOut (by kernel_rfl) (of_decide_eq_true (by kernel_rfl)) k2 bel lt2) trodAll_mk0))), rfl, bel.frame _, fun h => by cases h⟩

theorem over : Rows.clocksOrderRow.holds Tryd.pinned (OpenSpec.ofChange Rows.clocksOrderSpec) :=
  OpenClaim.holds_of_wide 4 Tryd.f4 rfl rfl rfl rfl rfl rfl rfl ⟨rfl, rfl, rfl, rfl, rfl⟩ rfl rfl rfl rfl rfl (by kernel_rfl) Tryd.func4 (by kernel_rfl)
    (of_decide_eq_true (by kernel_rfl)) (by unfold Func.isWrapper; first | (rw [if_pos (by decide +kernel)]; kernel_rfl) | (rw [if_neg (by decide +kernel)]; exact ⟨rfl, rfl⟩))
    (fun os started H enc _ => lifted os started H enc)

theorem proved : Rows.ClocksOrderCardSaid :=
  Claim7.holds_tied_plain_at .later [] [.data, .data, .data] true (true, "9a45df345593a9ae26cd5211c76355d10c5af4f88bd9cf2ebc8c80a4da38425e") false
    over (fun _ h => by cases h) (by kernel_rfl) (fun _ h => by cases h) clocksOrder_row_tie rfl ⟨rfl, rfl⟩ (by kernel_rfl) rfl
    (fun f fn hf hfn => by
      obtain rfl : f = 4 := Option.some.inj ((show Tryd.prog.funcNamed "runrig/runriglaw40.ClocksOrder" = some 4 by kernel_rfl).symm.trans hf) |>.symm
      obtain rfl : fn = Tryd.f4 := (Option.some.inj (Tryd.func4.symm.trans hfn)).symm
      exact ⟨by kernel_rfl, fun j t ht => by
        rw [Tryd.params4] at ht
        have hw : ∀ t ∈ [26, 26, 26], Tryd.prog.wantsStandIn t = false := by
          intro t ht
          simp only [List.mem_cons, List.not_mem_nil, or_false] at ht
          rcases ht with rfl | rfl | rfl
          · exact (show Tryd.prog.wantsStandIn 26 = false by kernel_rfl)
          · exact (show Tryd.prog.wantsStandIn 26 = false by kernel_rfl)
          · exact (show Tryd.prog.wantsStandIn 26 = false by kernel_rfl)
        exact hw t (List.mem_of_getElem? (by simpa using ht))⟩)
    (by kernel_rfl)
#print axioms proved
end Go.Proofs.YtocjapnagggapaaDoor.clocksOrder
