/- runriglaw40.ClocksTell returns true for every input, and its arguments read as before. No condition. -/
import Derived.Test.YtocjapnagggapaaDoorRows
import Derived.Test.YtocjapnagggapaaDoorCtH
import Derived.Test.YtocjapnagggapaaDoorOpen
import Derived.Test.YtocjapnagggapaaDoorORows
import Derived.Test.YtocjapnagggapaaDoorTie
import Derived.Test.YtocjapnagggapaaDoorCards
import Derived.LaidMore
import Derived.Stop.Joined
import Derived.SevenTiedAt
import Derived.WalkKit
import Derived.ProofKit
import Derived.OpenShut
import Derived.ShutString
import Derived.ChangeOld
import Derived.Below
namespace Go.Proofs.YtocjapnagggapaaDoor.clocksTell
open Go.ChangeShapes Go.WideShapes Go.ChangeAt Go.RowKit
open Go.ChangeMaps (open_string shut_string)
set_option linter.unusedVariables false

theorem own : ownKnob Tryd.prog.godebug = none := by kernel_rfl
theorem laidOut : laidOutB Tryd.prog = true := by kernel_rfl


theorem door_met (os : Os) (args : Array Value) : laidMetH Tryd.prog Rows.clocksTellRow.laid ((World.doorLaid Tryd.prog 24 os).forCall (fun _ _ => 0) ⟨#[], args, []⟩).memory :=
  laidMetH_of_parts3 (fuel := 8) (laidMet_of_run' 8 (by kernel_rfl) (by kernel_rfl)) (by kernel_rfl) (by kernel_rfl)
set_option maxRecDepth 100000 in
theorem lifted (os : Os) (started : os.Started) (H : Type) (enc : TypeId × Value → H) :
    ReturnsInHanded {} Tryd.checked os 3 .any (fun w args => (Rows.clocksTellSpec.pre enc Tryd.prog Tryd.f3 [] false w args ∧ laidMetH Tryd.prog Rows.clocksTellRow.laid w) ∧ sizedMet enc Tryd.prog Tryd.f3 (OpenSpec.ofChange Rows.clocksTellSpec) false w args) (Rows.clocksTellSpec.post enc Tryd.prog Tryd.f3 false true false false) := by
  refine returnsInHanded_of_change_and (C := Tryd.checked) (X := fun w _ => laidMetH Tryd.prog Rows.clocksTellRow.laid w) (fun _ _ _ hh h => h.of_heap hh) own started (by kernel_rfl) Tryd.func3
    (ChangeSpec.witness_shaped (enc := enc) (C := Tryd.checked) (os := os) (X := fun w _ => laidMetH Tryd.prog Rows.clocksTellRow.laid w) false (World.doorLaid Tryd.prog 24 os) #[.slice none 0 0] 8 rfl (World.shaped_of_RefB (by kernel_rfl) (by kernel_rfl)) (by kernel_rfl) (by kernel_rfl) (by kernel_rfl) (door_met os _)) ?_
  intro W base args ds gs before hval0 hW hcnd hsz0 hL _
  have hsz : (DataW.weightsEach Tryd.prog (Tryd.f3.params.toList ++ Rows.clocksTellSpec.plain.varTypes Tryd.prog) (ds ++ gs)).all (· ≤ reachBytes) = true := hsz0
  clear hsz0
  have hval : ∀ (j : Nat) t v, Tryd.f3.params[j]? = some t → args[j]? = some v → Value.okWide Tryd.prog W .any base t v := hval0
  have hW' := hW
  obtain ⟨p, q, hA0, hV, rfl, hfz, hnd⟩ := hW
  have hA : DataW.TrodAll enc Tryd.prog W 0 (fun _ => true) true Tryd.f3.params.toList args.toList ds p := hA0
  rw [Tryd.params3] at hA hval hsz
  obtain ⟨v0, vs0, d0, ds0, p0, q0, hargs, rfl, rfl, h0, r0⟩ := trodAll_cons hA
  obtain ⟨rfl, rfl, rfl⟩ := trodAll_nil r0
  obtain rfl : args = #[v0] := by cases args; simp_all
  obtain ⟨rfl, rfl⟩ := trodVars_none hV
  have k0 := h0
  have lt0 : ∀ x ∈ p0, x.block < W.heap.size := by obtain ⟨m, hm⟩ := k0; exact DataW.trod_lt m _ _ _ hm
  obtain ⟨a0, len0, cap0, rfl⟩ := okWide_slice Tryd.underlying22 (hval 0 22 v0 rfl rfl)
  obtain ⟨w0, b0⟩ : IsRows [.int .i64, .int .i64, .int .i64, .bool, .int .i64, .int .i64, .int .i64, .int .i64, .int .i64, .int .u64, .int .i64, .int .i64, .int .u64, .int .i64, .int .u64, .int .u64] W a0 len0 cap0 ∧ 128 * cap0 ≤ 140737488351232 := by
    obtain ⟨fuel, hf⟩ := h0
    obtain ⟨a', l', c', hcs, hr, hx⟩ := open_rows Tryd.underlying22 (ls := [3, 3, 3, 4, 32, 3, 3, 3, 3, 31, 35, 36, 31, 3, 31, 31]) (ks := [.int .i64, .int .i64, .int .i64, .bool, .int .i64, .int .i64, .int .i64, .int .i64, .int .i64, .int .u64, .int .i64, .int .i64, .int .u64, .int .i64, .int .u64, .int .u64]) (by kernel_rfl) (by kernel_rfl) (by kernel_rfl) hf
    simp [Value.cells] at hcs
    obtain ⟨rfl, rfl, rfl⟩ := hcs
    refine ⟨hr, ?_⟩
    rcases hx with ⟨_, h0⟩ | ⟨els, sp, hd, hl⟩
    · omega
    · have hd' : d0 = .slice els sp := hd
      subst hd'
      have h9 := sized_slice hsz (j := 0) (t := 22) (e := 40) rfl rfl Tryd.underlying22
      rw [show Tryd.prog.bytesOf 40 = 128 by kernel_rfl, hl] at h9
      simp only [reachBytes] at h9
      omega
  clear hA0 hval0
  refine (Law.ClocksTell a0 len0 cap0 W w0 b0 (of_laid hL)).mono fun e W' ⟨he, bel⟩ => ?_
  subst he
  exact ⟨_, rfl, _, _, _, [], _, [], hW', trodAll_mk1 (shut_bool Tryd.underlying4 _), (trodAll_cons_mk (Below.trod laidOut (by kernel_rfl) (of_decide_eq_true (by kernel_rfl)) k0 bel lt0) trodAll_mk0), rfl, bel.frame _, fun h => by cases h⟩

theorem over : Rows.clocksTellRow.holds Tryd.pinned (OpenSpec.ofChange Rows.clocksTellSpec) :=
  OpenClaim.holds_of_wide 3 Tryd.f3 rfl rfl rfl rfl rfl rfl rfl ⟨rfl, rfl, rfl, rfl, rfl⟩ rfl rfl rfl rfl rfl (by kernel_rfl) Tryd.func3 (by kernel_rfl)
    (of_decide_eq_true (by kernel_rfl)) (by unfold Func.isWrapper; first | (rw [if_pos (by decide +kernel)]; kernel_rfl) | (rw [if_neg (by decide +kernel)]; exact ⟨rfl, rfl⟩))
    (fun os started H enc _ => lifted os started H enc)

theorem proved : Rows.ClocksTellCardSaid :=
  Claim7.holds_tied_plain_at .later [] [.data, .data, .data] true (true, "9a45df345593a9ae26cd5211c76355d10c5af4f88bd9cf2ebc8c80a4da38425e") false
    over (fun _ h => by cases h) (by kernel_rfl) (fun _ h => by cases h) clocksTell_row_tie rfl ⟨rfl, rfl⟩ (by kernel_rfl) rfl
    (fun f fn hf hfn => by
      obtain rfl : f = 3 := Option.some.inj ((show Tryd.prog.funcNamed "runrig/runriglaw40.ClocksTell" = some 3 by kernel_rfl).symm.trans hf) |>.symm
      obtain rfl : fn = Tryd.f3 := (Option.some.inj (Tryd.func3.symm.trans hfn)).symm
      exact ⟨by kernel_rfl, fun j t ht => by
        rw [Tryd.params3] at ht
        have hw : ∀ t ∈ [22], Tryd.prog.wantsStandIn t = false := by
          intro t ht
          simp only [List.mem_cons, List.not_mem_nil, or_false] at ht
          rcases ht with rfl
          · exact (show Tryd.prog.wantsStandIn 22 = false by kernel_rfl)
        exact hw t (List.mem_of_getElem? (by simpa using ht))⟩)
    (by kernel_rfl)
#print axioms proved
end Go.Proofs.YtocjapnagggapaaDoor.clocksTell
