/- runriglaw12.MmuPlays returns true for every input, and its arguments read as before. No condition. -/
import Derived.Test.YtecalibnnfcaeaaRows
import Derived.Test.YtecalibnnfcaeaaMm17
import Derived.Test.YtecalibnnfcaeaaOpen
import Derived.Test.YtecalibnnfcaeaaORows
import Derived.WalkKit
import Derived.ProofKit
import Derived.OpenShut
import Derived.ShutString
import Derived.ChangeOld
import Derived.Below
namespace Go.Proofs.Ytecalibnnfcaeaa.mmuPlays
open Go.ChangeShapes Go.WideShapes Go.ChangeAt Go.RowKit
open Go.ChangeMaps (open_string shut_string)
set_option linter.unusedVariables false

theorem own : ownKnob Try.prog.godebug = none := by kernel_rfl
theorem laidOut : laidOutB Try.prog = true := by kernel_rfl

set_option maxRecDepth 100000 in
theorem open_23 {H : Type} {enc : TypeId × Value → H} {W : World} {r : Reach} {b0 base : Nat} {sp : Nat → Bool} {held : Bool} {v : Value} {d : DataW H} {p : List MemPlace} (hv : Value.okWide Try.prog W r b0 23 v) (h : DataW.Trod enc Try.prog W base sp held 23 v d p) :
    ∃ (a0 : Int) (a1 : Int), v = .agg #[.int .u8 a0, .int .u8 a1] ∧ (Lit.int .u8 a0).wf = true ∧ (Lit.int .u8 a1).wf = true := by
  obtain ⟨cs, rfl, hsz⟩ := okWide_row (.inr ⟨_, _, Try.underlying23⟩) hv
  obtain ⟨fuel, hf⟩ := h
  have g := trod_leaves 12 23 [5, 5] (by kernel_rfl) _ _ _ hf
  obtain ⟨l⟩ := cs
  match l, hsz.trans (show Try.prog.cellsOf 23 = 2 by kernel_rfl) with
  | [c0, c1], _ =>
    obtain ⟨m0, y0, t0⟩ := g 0 _ _ rfl rfl
    obtain ⟨a0, e0, _, w0⟩ := DataW.trod_int Try.underlying5 t0
    injection e0 with e0 _
    subst e0
    obtain ⟨m1, y1, t1⟩ := g 1 _ _ rfl rfl
    obtain ⟨a1, e1, _, w1⟩ := DataW.trod_int Try.underlying5 t1
    injection e1 with e1 _
    subst e1
    exact ⟨a0, a1, rfl, w0, w1⟩

set_option maxRecDepth 100000 in
theorem lifted (os : Os) (started : os.Started) (H : Type) (enc : TypeId × Value → H) :
    ReturnsInHanded {} Try.checked os 3 .any (Rows.mmuPlaysSpec.pre6 enc Try.prog Try.f3 Rows.mmuPlaysRow.domain false) (Rows.mmuPlaysSpec.post enc Try.prog Try.f3 false true false false) := by
  refine returnsInHanded_of_change_sized (C := Try.checked) own started (by kernel_rfl) Try.func3
    (ChangeSpec.witness6 (enc := enc) (C := Try.checked) false ⟨#[], #[.slice none 0 0, .agg #[.int .u8 0, .int .u8 0], .slice none 0 0], []⟩ 8 (by kernel_rfl) (by kernel_rfl) (by kernel_rfl) (by kernel_rfl)) ?_
  intro W base args ds gs before hval0 hW hcnd hsz0 _
  have hsz : (DataW.weightsEach Try.prog (Try.f3.params.toList ++ Rows.mmuPlaysSpec.plain.varTypes Try.prog) (ds ++ gs)).all (· ≤ reachBytes) = true := hsz0
  clear hsz0
  have hval : ∀ (j : Nat) t v, Try.f3.params[j]? = some t → args[j]? = some v → Value.okWide Try.prog W .any base t v := hval0
  have hW' := hW
  obtain ⟨p, q, hA0, hV, rfl, hfz, hnd⟩ := hW
  have hA : DataW.TrodAll enc Try.prog W 0 (fun _ => true) true Try.f3.params.toList args.toList ds p := hA0
  rw [Try.params3] at hA hval hsz
  obtain ⟨v0, vs0, d0, ds0, p0, q0, hargs, rfl, rfl, h0, r0⟩ := trodAll_cons hA
  obtain ⟨v1, vs1, d1, ds1, p1, q1, rfl, rfl, rfl, h1, r1⟩ := trodAll_cons r0
  obtain ⟨v2, vs2, d2, ds2, p2, q2, rfl, rfl, rfl, h2, r2⟩ := trodAll_cons r1
  obtain ⟨rfl, rfl, rfl⟩ := trodAll_nil r2
  obtain rfl : args = #[v0, v1, v2] := by cases args; simp_all
  obtain ⟨rfl, rfl⟩ := trodVars_none hV
  have k0 := h0
  have lt0 : ∀ x ∈ p0, x.block < W.heap.size := by obtain ⟨m, hm⟩ := k0; exact DataW.trod_lt m _ _ _ hm
  have k1 := h1
  have lt1 : ∀ x ∈ p1, x.block < W.heap.size := by obtain ⟨m, hm⟩ := k1; exact DataW.trod_lt m _ _ _ hm
  have k2 := h2
  have lt2 : ∀ x ∈ p2, x.block < W.heap.size := by obtain ⟨m, hm⟩ := k2; exact DataW.trod_lt m _ _ _ hm
  obtain ⟨a0, len0, cap0, rfl⟩ := okWide_slice Try.underlying22 (hval 0 22 v0 rfl rfl)
  obtain ⟨w0, b0⟩ : IsRows [.int .u64, .int .u64] W a0 len0 cap0 ∧ 16 * cap0 ≤ 140737488351232 := by
    obtain ⟨fuel, hf⟩ := h0
    obtain ⟨a', l', c', hcs, hr, hx⟩ := open_rows Try.underlying22 (ls := [41, 41]) (ks := [.int .u64, .int .u64]) (by kernel_rfl) (by kernel_rfl) (by kernel_rfl) hf
    simp [Value.cells] at hcs
    obtain ⟨rfl, rfl, rfl⟩ := hcs
    refine ⟨hr, ?_⟩
    rcases hx with ⟨_, h0⟩ | ⟨els, sp, hd, hl⟩
    · omega
    · have hd' : d0 = .slice els sp := hd
      subst hd'
      have h9 := sized_slice hsz (j := 0) (t := 22) (e := 75) rfl rfl Try.underlying22
      rw [show Try.prog.bytesOf 75 = 16 by kernel_rfl, hl] at h9
      simp only [reachBytes] at h9
      omega
  obtain ⟨a1_0, a1_1, rfl, w1_0, w1_1⟩ := open_23 (hval 1 23 v1 rfl rfl) h1
  obtain ⟨a2, len2, cap2, rfl⟩ := okWide_slice Try.underlying24 (hval 2 24 v2 rfl rfl)
  obtain ⟨w2, b2⟩ : IsRows [.int .i64, .int .i64, .int .i64, .int .u64, .int .u64] W a2 len2 cap2 ∧ 40 * cap2 ≤ 140737488351232 := by
    obtain ⟨fuel, hf⟩ := h2
    obtain ⟨a', l', c', hcs, hr, hx⟩ := open_rows Try.underlying24 (ls := [3, 3, 3, 41, 41]) (ks := [.int .i64, .int .i64, .int .i64, .int .u64, .int .u64]) (by kernel_rfl) (by kernel_rfl) (by kernel_rfl) hf
    simp [Value.cells] at hcs
    obtain ⟨rfl, rfl, rfl⟩ := hcs
    refine ⟨hr, ?_⟩
    rcases hx with ⟨_, h0⟩ | ⟨els, sp, hd, hl⟩
    · omega
    · have hd' : d2 = .slice els sp := hd
      subst hd'
      have h9 := sized_slice hsz (j := 2) (t := 24) (e := 49) rfl rfl Try.underlying24
      rw [show Try.prog.bytesOf 49 = 40 by kernel_rfl, hl] at h9
      simp only [reachBytes] at h9
      omega
  clear hA0 hval0
  refine (Law.MmuPlays a0 len0 cap0 a1_0 a1_1 a2 len2 cap2 W w0 b0 w1_0 w1_1 w2 b2).mono fun e W' ⟨he, bel⟩ => ?_
  subst he
  exact ⟨_, rfl, _, _, _, [], _, [], hW', trodAll_mk1 (shut_bool Try.underlying4 _), (trodAll_cons_mk (Below.trod laidOut (by kernel_rfl) (of_decide_eq_true (by kernel_rfl)) k0 bel lt0) (trodAll_cons_mk (Below.trod laidOut (by kernel_rfl) (of_decide_eq_true (by kernel_rfl)) k1 bel lt1) (trodAll_cons_mk (Below.trod laidOut (by kernel_rfl) (of_decide_eq_true (by kernel_rfl)) k2 bel lt2) trodAll_mk0))), rfl, bel.frame _, fun h => by cases h⟩

theorem over : Rows.mmuPlaysRow.holds Try.pinned (OpenSpec.ofChange Rows.mmuPlaysSpec) :=
  OpenClaim.holds_of_wide 3 Try.f3 rfl rfl rfl rfl rfl rfl rfl ⟨rfl, rfl, rfl, rfl, rfl⟩ rfl rfl rfl rfl rfl (by kernel_rfl) Try.func3 (by kernel_rfl)
    (of_decide_eq_true (by kernel_rfl)) (by unfold Func.isWrapper; first | (rw [if_pos (by decide +kernel)]; kernel_rfl) | (rw [if_neg (by decide +kernel)]; exact ⟨rfl, rfl⟩))
    (fun os started H enc _ => lifted os started H enc)

theorem proved : Rows.MmuPlaysSaid := over
#print axioms proved
end Go.Proofs.Ytecalibnnfcaeaa.mmuPlays
