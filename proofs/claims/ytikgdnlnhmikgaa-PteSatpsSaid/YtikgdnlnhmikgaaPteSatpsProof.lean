/- runriglaw08.PteSatps returns true for every input, and its arguments read as before. No condition. -/
import Derived.Test.YtikgdnlnhmikgaaRows
import Derived.Test.YtikgdnlnhmikgaaPteK
import Derived.Test.YtikgdnlnhmikgaaOpen
import Derived.WalkKit
import Derived.ProofKit
import Derived.OpenShut
import Derived.ShutString
import Derived.ChangeOld
import Derived.Below
namespace Go.Proofs.Ytikgdnlnhmikgaa.pteSatps
open Go.ChangeShapes Go.WideShapes Go.ChangeAt Go.RowKit
open Go.ChangeMaps (open_string shut_string)
set_option linter.unusedVariables false

theorem own : ownKnob Try.prog.godebug = none := by kernel_rfl
theorem laidOut : laidOutB Try.prog = true := by kernel_rfl

theorem open_31 {H : Type} {enc : TypeId × Value → H} {W : World} {r : Reach} {b0 base : Nat} {sp : Nat → Bool} {held : Bool} {v : Value} {d : DataW H} {p : List MemPlace} (hv : Value.okWide Try.prog W r b0 31 v) (h : DataW.Trod enc Try.prog W base sp held 31 v d p) :
    ∃ (a0 : Bool) (a1 : Int) (a2 : Int), v = .agg #[.bool a0, .int .i64 a1, .int .u64 a2] ∧ (Lit.int .i64 a1).wf = true ∧ (Lit.int .u64 a2).wf = true := by
  obtain ⟨cs, rfl, hsz⟩ := okWide_row (.inl ⟨_, Try.underlying31⟩) hv
  obtain ⟨fuel, hf⟩ := h
  have g := trod_leaves 12 31 [4, 3, 22] (by kernel_rfl) _ _ _ hf
  obtain ⟨l⟩ := cs
  match l, hsz.trans (show Try.prog.cellsOf 31 = 3 by kernel_rfl) with
  | [c0, c1, c2], _ =>
    obtain ⟨m0, y0, t0⟩ := g 0 _ _ rfl rfl
    obtain ⟨a0, e0, _⟩ := DataW.trod_bool Try.underlying4 t0
    injection e0 with e0 _
    subst e0
    obtain ⟨m1, y1, t1⟩ := g 1 _ _ rfl rfl
    obtain ⟨a1, e1, _, w1⟩ := DataW.trod_int Try.underlying3 t1
    injection e1 with e1 _
    subst e1
    obtain ⟨m2, y2, t2⟩ := g 2 _ _ rfl rfl
    obtain ⟨a2, e2, _, w2⟩ := DataW.trod_int Try.underlying22 t2
    injection e2 with e2 _
    subst e2
    exact ⟨a0, a1, a2, rfl, w1, w2⟩

set_option maxRecDepth 100000 in
theorem lifted (os : Os) (started : os.Started) (H : Type) (enc : TypeId × Value → H) :
    ReturnsInHanded {} Try.checked os 4 .any (Rows.pteSatpsSpec.pre6 enc Try.prog Try.f4 Rows.pteSatpsRow.domain false) (Rows.pteSatpsSpec.post enc Try.prog Try.f4 false true false false) := by
  refine returnsInHanded_of_change (C := Try.checked) own started (by kernel_rfl) Try.func4
    (ChangeSpec.witness6 (enc := enc) (C := Try.checked) false ⟨#[], #[.agg #[.bool false, .int .i64 0, .int .u64 0], .int .u64 0], []⟩ 8 (by kernel_rfl) (by kernel_rfl) (by kernel_rfl) (by kernel_rfl)) ?_
  intro W base args ds gs before hval0 hW hcnd _
  have hval : ∀ (j : Nat) t v, Try.f4.params[j]? = some t → args[j]? = some v → Value.okWide Try.prog W .any base t v := hval0
  have hW' := hW
  obtain ⟨p, q, hA0, hV, rfl, hfz, hnd⟩ := hW
  have hA : DataW.TrodAll enc Try.prog W 0 (fun _ => true) true Try.f4.params.toList args.toList ds p := hA0
  rw [Try.params4] at hA hval
  obtain ⟨v0, vs0, d0, ds0, p0, q0, hargs, rfl, rfl, h0, r0⟩ := trodAll_cons hA
  obtain ⟨v1, vs1, d1, ds1, p1, q1, rfl, rfl, rfl, h1, r1⟩ := trodAll_cons r0
  obtain ⟨rfl, rfl, rfl⟩ := trodAll_nil r1
  obtain rfl : args = #[v0, v1] := by cases args; simp_all
  obtain ⟨rfl, rfl⟩ := trodVars_none hV
  have k0 := h0
  have lt0 : ∀ x ∈ p0, x.block < W.heap.size := by obtain ⟨m, hm⟩ := k0; exact DataW.trod_lt m _ _ _ hm
  have k1 := h1
  have lt1 : ∀ x ∈ p1, x.block < W.heap.size := by obtain ⟨m, hm⟩ := k1; exact DataW.trod_lt m _ _ _ hm
  obtain ⟨a0_0, a0_1, a0_2, rfl, w0_1, w0_2⟩ := open_31 (hval 0 31 v0 rfl rfl) h0
  obtain ⟨a1, rfl, _, _, w1⟩ := open_int Try.underlying22 (hval 1 22 v1 rfl rfl) h1
  clear hA0 hval0
  refine (Law.PteSatps a0_0 a0_1 a0_2 a1 W w0_1 w0_2 w1).mono fun e W' ⟨he, bel⟩ => ?_
  subst he
  exact ⟨_, rfl, _, _, _, [], _, [], hW', trodAll_mk1 (shut_bool Try.underlying4 _), (trodAll_cons_mk (Below.trod laidOut (by kernel_rfl) (of_decide_eq_true (by kernel_rfl)) k0 bel lt0) (trodAll_cons_mk (Below.trod laidOut (by kernel_rfl) (of_decide_eq_true (by kernel_rfl)) k1 bel lt1) trodAll_mk0)), rfl, bel.frame _, fun h => by cases h⟩

theorem over : Rows.pteSatpsRow.holds Try.pinned (OpenSpec.ofChange Rows.pteSatpsSpec) :=
  OpenClaim.holds_of_wide 4 Try.f4 rfl rfl rfl rfl rfl rfl rfl ⟨rfl, rfl, rfl, rfl, rfl⟩ rfl rfl rfl rfl rfl (by kernel_rfl) Try.func4 (by kernel_rfl)
    (of_decide_eq_true (by kernel_rfl)) (by unfold Func.isWrapper; first | (rw [if_pos (by decide +kernel)]; kernel_rfl) | (rw [if_neg (by decide +kernel)]; exact ⟨rfl, rfl⟩))
    (fun os started H enc _ => lifted os started H enc)

theorem proved : Rows.PteSatpsSaid := over
#print axioms proved
end Go.Proofs.Ytikgdnlnhmikgaa.pteSatps
