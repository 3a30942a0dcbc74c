/- Turn and Cut where they may. -/
import Derived.Test.YtnnajaomajgoeaaNetJ
namespace Go.Proofs.Ytnnajaomajgoeaa
open Go.RowKit Go.ChangeShapes

theorem BagOpen.below {W w : World} {gb : Nat} {L : List (Pc × Value)} {lost : Int} {F : Nat → Prop} {k : Nat} {p : Pc} {u : Value} {g cap : Nat} {cur : Array Value} (o : BagOpen W gb L lost F k p u g cap cur) (hb : Below W.heap.size W w) : BagOpen w gb L lost F k p u g cap cur := by
  have hg := o.row.lt
  have hc : ∀ i, w.cell? ⟨g, i, none⟩ = W.cell? ⟨g, i, none⟩ := fun i => hb.cell (p := ⟨g, i, none⟩) hg
  exact ⟨o.lt, o.bag.below hb o.bag.lt, o.row.below hb hg, o.len, o.max, o.size, o.take, o.self, o.far, o.ne, (hc _).trans o.c0, (hc _).trans o.c1, (hc _).trans o.c2, (hc _).trans o.c3⟩
section
variable (gb : Nat) (L : List (Pc × Value)) (lost : Int) (F : Nat → Prop) (W : World)
set_option maxHeartbeats 1000000 in
theorem bturn_yes (k : Nat) (n : Int) (p : Pc) (u : Value) (h : BagAt W gb L lost F) (hx : L[k]? = some (p, u)) (hh : p.hurt = false) (hn0 : 0 ≤ n) (hm : n / 8 < (p.byt.length : Int)) (hw : -9223372036854775808 ≤ n ∧ n < 9223372036854775808) :
    Calls Try.prog 16 #[.pointer (some ⟨gb, 0, none⟩), .int .i64 (k : Int), .int .i64 n] W fun e w' => e = .returned (.bool true) ∧ ∃ u' F', BagAt w' gb (L.set k (⟨p.src, p.dst, turnL p.byt n, true⟩, u')) lost F' ∧ (∀ b, F' b → F b ∨ W.heap.size ≤ b) ∧ Keeps F W w' := by
  obtain ⟨g, cap, cur, o⟩ := h.opened hx
  obtain ⟨A, c, eu, hB, _, hlen, _⟩ := h.rd (p, u) (List.mem_of_getElem? hx)
  change u = .slice A p.byt.length c at eu
  subst eu
  have HB := Lib.hid h
  have HX := Lib.hid hx
  have HO := Lib.hid o
  have HBT := Lib.hid hB
  have HLN := Lib.hid hlen
  have HW := Lib.hid hw
  have r2 := o.c2
  have r3 := o.c3
  have c0 := o.bag.cell 0
  have hk := o.lt
  have HH := Lib.hid (here_lt hk)
  simp only [List.getElem?_toArray, List.getElem?_cons_zero] at c0
  rw [hh] at r3
  clear h hx o hB hlen hh
  obtain ⟨w0, w1⟩ := hw
  obtain ⟨m, hmm⟩ : ∃ m, m = p.byt.length := ⟨_, rfl⟩
  have HMM := Lib.hid hmm
  rw [← hmm] at r2 hm
  obtain ⟨t, ht⟩ : ∃ t, t = L.length := ⟨_, rfl⟩
  have HT := Lib.hid ht
  rw [← ht] at hk c0
  have hkI : (k : Int) < (t : Int) := by omega
  clear ht hmm
  go_enter Try.func16, Try.ntmps16
  go_wp2_with fail
  refine (bthere_any gb L lost k F _ HB.out).mono ?_
  rintro e w' ⟨rfl, rfl⟩
  rw [HH.out]
  go_wp2_with fail
  refine (turn_at A p.byt m c n _ HMM.out.symm (by rw [HMM.out]; exact HLN.out) HBT.out HW.out).mono ?_
  rintro e w1 ⟨v1, rfl, hu, hb1⟩
  obtain ⟨Av, cv, e0⟩ := prow_form hu
  subst e0
  have hu2 := rdb_of_own hu (turnL_lt HBT.out.1 n) (by rw [turnL_length]; exact HLN.out)
  have O1 := Lib.hid (HO.out.below hb1)
  have hub : ∀ b, (Value.slice Av (turnL p.byt n).length cv).ownBlock = some b → W.heap.size ≤ b ∧ b < w1.heap.size := fun b hb => hu.lt b hb
  have HUB := Lib.hid hub
  have HU := Lib.hid hu2
  have HB1 := Lib.hid hb1
  clear hu hu2 hb1 hub r2 r3 c0
  generalize ev : Value.slice Av (turnL p.byt n).length cv = V at *
  have HV := Lib.hid ev
  clear ev
  go_wp2_with fail
  refine (hurt_any gb g L.length cap k V (.slice A p.byt.length c) p.hurt (by rw [← HV.out]; rfl) w1 O1.out.lt (O1.out.bag.cell 0) O1.out.ne O1.out.c2 O1.out.c3 (fun i => Blk.frozen O1.out.row i) Av _ cv HV.out.symm).mono ?_
  rintro e w2 ⟨rfl, hw2⟩
  have HW2 := Lib.hid hw2
  clear hw2
  go_wp2_with fail
  go_ret
  have hlt := fun b (hb : V.ownBlock = some b) => HUB.out b hb
  have hFW := HB.out.lt
  have hBW := HB.out.self
  have res := bag_hurt (HB.out.below HB1.out) O1.out HX.out HU.out (fun b hb => ⟨fun e => by have := hFW gb hBW; have := (hlt b hb).1; omega, fun e => by have := hFW g HO.out.self; have := (hlt b hb).1; omega, (hlt b hb).2, fun j y hy _ e => by
    have := hFW b ((HB.out.rd y (List.mem_of_getElem? hy)).form.2 b e).1
    have := (hlt b hb).1
    omega⟩)
  rw [HW2.out] at res
  refine ⟨rfl, V, _, res.1, fun b hb => ?_, ((Keeps.of_below HB1.out).same res.2)⟩
  rcases hb with hb | hb
  · exact .inl hb
  · exact .inr (hlt b hb).1
set_option maxHeartbeats 1000000 in
theorem bcut_yes (k b : Nat) (p : Pc) (u : Value) (h : BagAt W gb L lost F) (hx : L[k]? = some (p, u)) (hh : p.hurt = false) (hm : b < p.byt.length) :
    Calls Try.prog 18 #[.pointer (some ⟨gb, 0, none⟩), .int .i64 (k : Int), .int .i64 (b : Int)] W fun e w' => e = .returned (.bool true) ∧ ∃ u' F', BagAt w' gb (L.set k (⟨p.src, p.dst, p.byt.take b, true⟩, u')) lost F' ∧ (∀ b, F' b → F b ∨ W.heap.size ≤ b) ∧ Keeps F W w' := by
  obtain ⟨g, cap, cur, o⟩ := h.opened hx
  obtain ⟨A, c, eu, hB, hc, hlen, hF⟩ := h.rd (p, u) (List.mem_of_getElem? hx)
  change u = .slice A p.byt.length c at eu
  subst eu
  have HB := Lib.hid h
  have HX := Lib.hid hx
  have HO := Lib.hid o
  have HBT := Lib.hid hB
  have HLN := Lib.hid hlen
  have HF := Lib.hid hF
  have HMB := Lib.hid hm
  have r2 := o.c2
  have r3 := o.c3
  have c0 := o.bag.cell 0
  have hk := o.lt
  have HH := Lib.hid (here_lt hk)
  simp only [List.getElem?_toArray, List.getElem?_cons_zero] at c0
  rw [hh] at r3
  obtain ⟨B, off, eA, _⟩ := hB.2 (by show 0 < p.byt.length; omega)
  subst eA
  change p.byt.length ≤ c at hc
  change p.byt.length ≤ 140737488355328 at hlen
  clear h hx o hB hh hF
  obtain ⟨m, hmm⟩ : ∃ m, m = p.byt.length := ⟨_, rfl⟩
  have HMM := Lib.hid hmm
  rw [← hmm] at r2 hm hc hlen
  have hbc : b ≤ c := by omega
  have hbm : (b : Int) < (m : Int) := by omega
  obtain ⟨t, ht⟩ : ∃ t, t = L.length := ⟨_, rfl⟩
  have HT := Lib.hid ht
  rw [← ht] at hk c0
  have hkI : (k : Int) < (t : Int) := by omega
  clear ht hmm
  go_enter Try.func18, Try.ntmps18
  go_wp2_with fail
  refine (bthere_any gb L lost k F _ HB.out).mono ?_
  rintro e w' ⟨rfl, rfl⟩
  rw [HH.out]
  go_wp2_with fail
  refine (hurt_any gb g L.length cap k (.slice (some ⟨B, off, none⟩) b b) (.slice (some ⟨B, off, none⟩) p.byt.length c) p.hurt rfl _ HO.out.lt (HO.out.bag.cell 0) HO.out.ne HO.out.c2 HO.out.c3 (fun i => Blk.frozen HO.out.row i) _ _ _ rfl).mono ?_
  rintro e w2 ⟨rfl, hw2⟩
  have HW2 := Lib.hid hw2
  clear hw2
  go_wp2_with fail
  go_ret
  have hown : ∀ x, (Value.slice (some ⟨B, off, none⟩) b b).ownBlock = some x → x = B := fun x hx => by simpa [Value.ownBlock] using hx.symm
  have hBF2 := HF.out ⟨B, off, none⟩ rfl
  have hBF := hBF2.1
  have hbl := HMB.out
  have hl := HLN.out
  have hu2 : RdB W F (.slice (some ⟨B, off, none⟩) b b) (p.byt.take b) := by
    have e : (p.byt.take b).length = b := by simp; omega
    refine ⟨some ⟨B, off, none⟩, b, by rw [e], bts_take HBT.out, by omega, by omega, fun a ea => ?_⟩
    injection ea with ea
    subst ea
    exact ⟨hBF.1, hBF2.2⟩
  have res := bag_hurt HB.out HO.out HX.out hu2 (fun x hx => by
    rw [hown x hx]
    refine ⟨hBF.2, fun e => HO.out.far _ (List.mem_of_getElem? HX.out) (by show some B = some g; rw [e]), HB.out.lt B hBF.1, fun j y hy hne e => ?_⟩
    exact apart_at HB.out.apart hy HX.out hne B e rfl)
  rw [HW2.out] at res
  refine ⟨rfl, _, _, res.1, fun x hx => ?_, res.2⟩
  rcases hx with hx | hx
  · exact .inl hx
  · rw [hown x hx]
    exact .inl hBF.1
end
end Go.Proofs.Ytnnajaomajgoeaa
