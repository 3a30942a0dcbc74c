/- What New makes; a nil receiver. -/
import Derived.Test.YtnjoobggcejgkaaTlbK
namespace Go.Proofs.Ytnjoobggcejgkaa
open Go.RowKit

theorem new_buf {W w' : World} {g m s : Nat} (hg : W.heap.size ≤ g) (hs : 0 < s) (h : NewRel W g m s w') :
    ∃ gs G, BufAt w' g gs G (emptyT s m) m ∧ (∀ k, bufF g gs G s k → W.heap.size ≤ k) ∧ Below W.heap.size W w' := by
  obtain ⟨Gl, v, hl, hX, hO, hE, hbs, hnd⟩ := h
  have hlen : (emptyT s m).length = s := by simp [emptyT]
  rcases hO.2 with ⟨_, h0⟩ | ⟨gs, cap, cur, rfl, hb, hh, hc, _, _, ht⟩
  · omega
  have hget : ∀ i, i < s → (emptyT s m).getD i [] = List.replicate m en0 := fun i hi => by
    unfold emptyT
    rw [List.getD_eq_getElem?_getD, List.getElem?_replicate, if_pos hi]
    rfl
  have hGi : ∀ i, i < s → Gl.getD i 0 ∈ Gl ∧ Gl[i]? = some (Gl.getD i 0) := fun i hi => by
    rw [List.getD_eq_getElem?_getD, List.getElem?_eq_getElem (by omega)]
    exact ⟨List.getElem_mem _, rfl⟩
  refine ⟨gs, fun i => Gl.getD i 0, ⟨⟨cap, by rw [hlen]; exact hX⟩, ⟨cur, hh, fun i hi => ?_⟩, fun i hi => ?_, fun i hi => ?_, fun i j hi hj e => ?_⟩, ?_, hE⟩
  · rw [hlen] at hi
    have e : cur[i]? = (Gl.map (SlOf · m))[i]? := by
      rw [← ht, List.getElem?_take, if_pos (by omega), Array.getElem?_toList]
    rw [e, List.getElem?_map, (hGi i hi).2]
    rfl
  · rw [hlen] at hi
    rw [hget i hi]; simp
  · rw [hlen] at hi
    rw [hget i hi]
    exact (hbs _ (hGi i hi).1).1
  · rw [hlen] at hi hj
    have h1 := (hGi i hi).2
    have h2 := (hGi j hj).2
    have e' : Gl.getD i 0 = Gl.getD j 0 := e
    rw [e'] at h1
    exact (List.getElem?_inj (by omega) hnd).1 (h1.trans h2.symm)
  · rintro k (e | e | ⟨i, hi, e⟩)
    · omega
    · omega
    · rw [e]; exact (hbs _ (hGi i hi).1).2
theorem empty_valid (s m : Nat) : Valid (emptyT s m) := by
  intro l hl e he hf
  unfold emptyT at hl
  have h1 := List.eq_of_mem_replicate hl
  rw [h1] at he
  have h2 := List.eq_of_mem_replicate he
  rw [h2] at hf
  exact absurd hf (by decide)
set_option maxHeartbeats 1000000 in
theorem find_nil (va : Nat) (asid : Int) (W : World) :
    Calls Try.prog 8 #[.pointer none, .int .u64 va, .int .i64 asid] W (FindR none W) := by
  have hc := (Below.refl W.heap.size W).alloc (Nat.le_refl _) (.cells #[.bool false, .bool false, .bool false, .bool false, .bool false, .bool false, .bool false, .bool false, .int .i64 0, .int .u64 0, .int .i64 0, .int .u64 0] 33)
  have hX : Blk (W.alloc (.cells #[.bool false, .bool false, .bool false, .bool false, .bool false, .bool false, .bool false, .bool false, .int .i64 0, .int .u64 0, .int .i64 0, .int .u64 0] 33)) W.heap.size 33 #[.bool false, .bool false, .bool false, .bool false, .bool false, .bool false, .bool false, .bool false, .int .i64 0, .int .u64 0, .int .i64 0, .int .u64 0] := Blkf.new_at _ _ _ _ rfl
  have HC0 := Lib.hid hc
  have HX0 := Lib.hid hX
  clear hc hX
  go_enter Try.func8, Try.ntmps8
  go_wp2_with fail
  generalize W.alloc (.cells #[.bool false, .bool false, .bool false, .bool false, .bool false, .bool false, .bool false, .bool false, .int .i64 0, .int .u64 0, .int .i64 0, .int .u64 0] 33) = W0 at *
  have hZ := HX0.out
  have hW := HC0.out
  have q0_ := hZ.cell 0
  have q1_ := hZ.cell 1
  have q2_ := hZ.cell 2
  have q3_ := hZ.cell 3
  have q4_ := hZ.cell 4
  have q5_ := hZ.cell 5
  have q6_ := hZ.cell 6
  have q7_ := hZ.cell 7
  have q8_ := hZ.cell 8
  have q9_ := hZ.cell 9
  have q10_ := hZ.cell 10
  have q11_ := hZ.cell 11
  refine bodyPost_ret (v := .tuple #[.agg #[.bool false, .bool false, .bool false, .bool false, .bool false, .bool false, .bool false, .bool false, .int .i64 0, .int .u64 0, .int .i64 0, .int .u64 0], .bool false]) (by simp [results, Try.results8, go_sem, q0_, q1_, q2_, q3_, q4_, q5_, q6_, q7_, q8_, q9_, q10_, q11_]) rfl ?_
  exact ⟨rfl, hW⟩
theorem fill_nil (va : Nat) (asid : Int) (lf : Lf) (pick : Int) (W : World) :
    Calls Try.prog 9 #[.pointer none, .int .u64 va, .int .i64 asid, lf.val, .int .i64 pick] W fun e w' => e = .returned (.bool false) ∧ Below W.heap.size W w' := by
  have HC0 := Lib.hid ((Below.refl W.heap.size W).alloc (Nat.le_refl _) (.cells #[.bool lf.v, .bool lf.r, .bool lf.w, .bool lf.x, .bool lf.u, .bool lf.g, .bool lf.a, .bool lf.d, .int .i64 lf.rsw, .int .u64 lf.ppn, .int .i64 lf.lev, .int .u64 lf.pos] 33))
  unfold Lf.val
  go_enter Try.func9, Try.ntmps9
  go_wp2
  go_ret
  exact ⟨rfl, HC0.out⟩
theorem fence_nil (V A : Value) (W : World) :
    Calls Try.prog 10 #[.pointer none, V, A] W fun e w' => e = .returned (.int .i64 0) ∧ W = w' := by
  go_enter Try.func10, Try.ntmps10
  go_wp2
  go_ret
  exact ⟨rfl, rfl⟩
theorem list_nil (W : World) :
    Calls Try.prog 12 #[.pointer none] W fun e w' => e = .returned (.slice none 0 0) ∧ W = w' := by
  go_enter Try.func12, Try.ntmps12
  go_wp2
  go_ret
  exact ⟨rfl, rfl⟩
theorem len_nil (W : World) :
    Calls Try.prog 11 #[.pointer none] W fun e w' => e = .returned (.int .i64 0) ∧ W = w' := by
  go_enter Try.func11, Try.ntmps11
  go_wp2_with fail
  refine (list_nil _).mono ?_
  rintro e w ⟨rfl, rfl⟩
  go_wp2
  go_ret
  exact ⟨rfl, rfl⟩
end Go.Proofs.Ytnjoobggcejgkaa
