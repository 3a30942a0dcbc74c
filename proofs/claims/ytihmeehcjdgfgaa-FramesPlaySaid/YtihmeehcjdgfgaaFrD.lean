/- Contract of the stock's Give. -/
import Derived.Test.YtihmeehcjdgfgaaFrC
namespace Go.Proofs.Ytihmeehcjdgfgaa
open Go.RowKit Go.Maps

section
variable {ops : Array Oper} {rest : List Oper} {o : Oper} {a : Act} {Q : Exit → Act → World → Prop}
theorem wpList_bdel (w : World) (hg : o.guard = none) (m x : Operand) (hop : o.op = Op.call { callee := Callee.builtin Builtin.delete, args := #[m, x], argTypes := #[44, 3] }) (b : Nat) (L : List Int) (f : Int)
    (hm : a.eval m = .map (some b)) (hx : a.eval x = .int .i64 f) (h : BSet w b L) (hf : (Lit.int .i64 f).wf = true) (hL : f ∈ L)
    (hK : ∀ w', BSet w' b (L.erase f) → w.grownBy w' (some b) → wpList Try.prog ops Q rest (a.put o.dst (.tuple #[])) w') : wpList Try.prog ops Q (o :: rest) a w := by
  refine wpList_plain hg fun K' hK' => ?_
  obtain ⟨w', hrun, r1, r2⟩ := h.del hf hL o.type
  unfold Oper.wp execOp
  simp only [hop, resolve, invoke, builtin, Sem.run_bind, Sem.run_pure, Result.andThen_ok, List.map_toArray, List.map_cons, List.map_nil, hm, hx, hrun]
  exact hK' _ _ (hK w' r1 r2)
end
theorem info3 : (Try.prog.info? 3).map (fun i => (i.zero, i.size, i.bytes)) = some (some (.int .i64 0), 1, 8) := by kernel_rfl
theorem reads_one (w : World) (t : TypeId) (u : Value) : Reads (w.alloc (.cells #[u] t)) (w.heap.size + 1) 1 (some ⟨w.heap.size, 0, none⟩) 1 [u] :=
  ⟨rfl, fun _ => ⟨_, rfl, Nat.lt_succ_self _, fun j v hj => by
    match j, hj with
    | 0, hj =>
      simp at hj
      subst hj
      show (w.alloc (.cells #[u] t)).cell? ⟨w.heap.size, 0, none⟩ = _
      rw [World.cell?_alloc_new]; rfl
    | j + 1, hj => simp at hj⟩⟩
theorem one_int (x : Int) : ∀ u ∈ [Value.int IntKind.i64 x], u.oneCell' = true := by
  intro u hu; simp at hu; subst hu; rfl

theorem give_none (sb : Nat) (F : Nat → Prop) (s : SV) (f : Int) (W : World) (h : StockAt W sb F s) (hf : (Lit.int .i64 f).wf = true) (hn : f ∉ s.taken) :
    Calls Try.prog 11 #[.pointer (some ⟨sb, 0, none⟩), .int .i64 f] W fun e w' => e = .returned (.int .i64 51) ∧ W = w' := by
  obtain ⟨v, bm, hb, _, hm, _⟩ := h
  have c4 : W.cell? ⟨sb, 4, none⟩ = some (.map (some bm)) := hb.cell 4
  have hl := hm.look hf
  rw [show decide (f ∈ s.taken) = false by simpa using hn] at hl
  clear hb hm hf hn
  go_enter Try.func11, Try.ntmps11
  go_wp2
  go_ret
  exact ⟨rfl, rfl⟩
/-- The stock after a step: its footprint may have grown by new blocks. -/
def StockTo (W : World) (sb : Nat) (F : Nat → Prop) (s : SV) (w' : World) : Prop := ∃ F', StockAt w' sb F' s ∧ (∀ k, F' k → F k ∨ W.heap.size ≤ k) ∧ Keeps F W w'
theorem give_ok (sb : Nat) (F : Nat → Prop) (s : SV) (f : Int) (W : World) (h : StockAt W sb F s) (hf : (Lit.int .i64 f).wf = true) (hn : f ∈ s.taken) (hlen : s.given.length ≤ 1048576) :
    Calls Try.prog 11 #[.pointer (some ⟨sb, 0, none⟩), .int .i64 f] W fun e w' => e = .returned (.int .i64 0) ∧ StockTo W sb F (s.back f) w' := by
  obtain ⟨v, bm, hb, ho, hm, fs, fm, fv, fb⟩ := h
  obtain ⟨i0, hi0, hz0, hz1, hz2⟩ := info_parts info3
  obtain ⟨A, c, rfl⟩ := row_slice ho
  have c4 : W.cell? ⟨sb, 4, none⟩ = some (.map (some bm)) := hb.cell 4
  have hl := hm.look hf
  rw [show decide (f ∈ s.taken) = true by simpa using hn] at hl
  have nms : bm ≠ sb := by
    obtain ⟨_, D, hD, _⟩ := hm
    exact map_ne_blk hD hb
  have nrow : ∀ k, (Value.slice A s.given.length c).ownBlock = some k → k ≠ sb ∧ k ≠ bm := fun k hk => ⟨fun e => row_ne_blk ho hb (by decide) (by rw [hk, e]), fun e => by
    obtain ⟨_, D, hD, _⟩ := hm
    exact row_ne_map ho hD (by rw [hk, e])⟩
  have HB := Lib.hid hb
  have HR := Lib.hid ho
  have HM := Lib.hid hm
  have HN := Lib.hid (And.intro nrow nms)
  have HF := Lib.hid (And.intro fs (And.intro fm (And.intro fv fb)))
  have HNT := Lib.hid hn
  have HW := Lib.hid hf
  have hsl := hb.lt
  clear ho hb hm fs fm fv fb hn hf nrow nms
  go_enter Try.func11, Try.ntmps11
  go_wp2_with (first
    | (at_delete; refine wpList_bdel _ rfl _ _ rfl bm s.taken f rfl rfl HM.out HW.out HNT.out ?_; intro w1 hset hgrow; have hb1 := HB.out.grown hgrow (by intro e; injection e with e; exact HN.out.2 e.symm); have c13 : w1.cell? ⟨sb, 3, none⟩ = some (.slice A s.given.length c) := hb1.cell 3; have K1 := (Keeps.refl (fun k => k = sb ∨ k = bm) W).grown hgrow (fun k hk => by injection hk with hk; exact .inl (.inr hk.symm)); have HO1 := Lib.hid (K1.row HR.out (fun k hk => by rintro (e | e); exact (HN.out.1 k hk).1 e; exact (HN.out.1 k hk).2 e)); have HS1 := Lib.hid hset; have HK1 := Lib.hid K1; have HB1 := Lib.hid hb1; have hsz1 : W.heap.size ≤ w1.heap.size := K1.size; clear hset hgrow hb1 K1 hl c4)
    | (at_builtin; refine wpList_append_any _ rfl (.tmp 25) (.tmp 27) _ rfl 0 3 i0 _ 1 8 Try.underlying22 hi0 hz0 hz1 hz2 rfl (by decide) _ s.given.length (s.given.map iv) rfl (HO1.out.alloc _) (w1.heap.size + 1) (some ⟨w1.heap.size, 0, none⟩) 1 1 [.int .i64 f] rfl (reads_one _ _ _) (one_int _) (by unfold maxLen; omega) (by omega) (Nat.zero_le _) ?_; intro v2 w2 hown hgrow hat; obtain ⟨g2, cap2, hv2e, _, _⟩ := hown.form (by omega); subst hv2e; have hb2 := (HB1.out.alloc (.cells #[.int .i64 f] 3)).grown hgrow (fun e => (HN.out.1 sb e.symm).1 rfl); have c23 : w2.cell? ⟨sb, 3, none⟩ = some (.slice A s.given.length c) := hb2.cell 3; have f23 := hb2.frozen 3; have HO2 := Lib.hid hown; have HG2 := Lib.hid hgrow; have HB2 := Lib.hid hb2; have HAT := Lib.hid hat; clear hown hgrow hb2 hat c13))
  go_ret
  obtain ⟨fs, fm, fv, fb⟩ := HF.out
  obtain ⟨nrow, nms⟩ := HN.out
  have hg2 := HG2.out
  have hs2 : w1.heap.size + 1 ≤ w2.heap.size := by have := hg2.size; simpa using this
  have K2 : Keeps F W w2 := ((HK1.out.mono (fun k hk => by rcases hk with rfl | rfl <;> assumption)).alloc _).grown hg2 (fun k hk => .inl (fv k hk))
  have K3 : Keeps F W (w2.setCell ⟨sb, 3, none⟩ (Value.slice (some ⟨g2, 0, none⟩) (s.given.length + 1) cap2)) := K2.setCell (.inl fs) _
  have hat := HAT.out
  have hv2 : ∀ k, (Value.slice (some ⟨g2, 0, none⟩) (s.given.length + 1) cap2).ownBlock = some k → F k ∨ W.heap.size ≤ k := fun k hk => by
    rcases hat with e | e
    · rw [e] at hk; exact .inl (fv k hk)
    · rw [e] at hk; simp at hk; omega
  have hv2s : (Value.slice (some ⟨g2, 0, none⟩) (s.given.length + 1) cap2).ownBlock ≠ some sb := by
    rcases hat with e | e
    · rw [e]; exact fun h => (nrow sb h).1 rfl
    · rw [e]; simp; omega
  have hv2m : (Value.slice (some ⟨g2, 0, none⟩) (s.given.length + 1) cap2).ownBlock ≠ some bm := by
    rcases hat with e | e
    · rw [e]; exact fun h => (nrow bm h).2 rfl
    · rw [e]; have := fb bm fm; simp; omega
  have hown : (w2.setCell ⟨sb, 3, none⟩ (Value.slice (some ⟨g2, 0, none⟩) (s.given.length + 1) cap2)).ownsRow 0 3 1 (Value.slice (some ⟨g2, 0, none⟩) (s.given.length + 1) cap2) (s.back f).given.length ((s.back f).given.map iv) := by
    have := ownsRow_setCell_other HO2.out (a := ⟨sb, 3, none⟩) hv2s (Value.slice (some ⟨g2, 0, none⟩) (s.given.length + 1) cap2)
    simpa [SV.back, iv] using this
  have hbm2 : BSet (w2.setCell ⟨sb, 3, none⟩ (Value.slice (some ⟨g2, 0, none⟩) (s.given.length + 1) cap2)) bm (s.taken.erase f) := by
    have k1 : Keeps (fun k => some k = (Value.slice A s.given.length c).ownBlock ∨ k = sb) w1 (w2.setCell ⟨sb, 3, none⟩ (Value.slice (some ⟨g2, 0, none⟩) (s.given.length + 1) cap2)) :=
      (((Keeps.refl _ w1).alloc _).grown hg2 (fun k hk => .inl (.inl hk.symm))).setCell (.inl (.inr rfl)) _
    refine HS1.out.keeps k1 ?_
    rintro (e | e)
    · exact (nrow bm e.symm).2 rfl
    · exact nms e
  refine ⟨rfl, fun k => F k ∨ (W.heap.size ≤ k ∧ k < w2.heap.size), ⟨(Value.slice (some ⟨g2, 0, none⟩) (s.given.length + 1) cap2), bm, HB2.out.set_ 3 _, hown, hbm2, .inl fs, .inl fm, fun k hk => ?_, fun k hk => ?_⟩, fun k hk => hk.imp id (·.1), K3⟩
  · rcases hv2 k hk with h | h
    · exact .inl h
    · exact .inr ⟨h, (HO2.out.lt k hk).2⟩
  · have := K2.size
    rcases hk with h | h
    · have := fb k h; simp; omega
    · simpa using h.2
end Go.Proofs.Ytihmeehcjdgfgaa
