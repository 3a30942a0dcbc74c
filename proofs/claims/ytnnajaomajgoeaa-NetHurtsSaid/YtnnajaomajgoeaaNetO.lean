/- first. -/
import Derived.Test.YtnnajaomajgoeaaNetN
import Derived.Test.YtnnajaomajgoeaaCheckH
namespace Go.Proofs.Ytnnajaomajgoeaa
open Go.RowKit Go.ChangeShapes

theorem Moved.low {F F' : Nat → Prop} {W w' : World} {B : Nat} (h : Moved F F' W w') (hF : ∀ b, F b → B ≤ b) (hB : B ≤ W.heap.size) : (∀ b, F' b → B ≤ b) ∧ Below B W w' :=
  ⟨fun b hb => (h.1 b hb).elim (hF b) (fun h => Nat.le_trans hB h), h.2.below hF hB⟩
/-- A bag of this call's own. -/
def At (W0 : World) (w : World) (gb : Nat) (P : List Pc) (lost : Int) : Prop := ∃ F, Bag w gb P lost F ∧ (∀ b, F b → W0.heap.size ≤ b) ∧ Below W0.heap.size W0 w
theorem At.below {W0 w w' : World} {gb : Nat} {P : List Pc} {lost : Int} (h : At W0 w gb P lost) (hb : Below w.heap.size w w') : At W0 w' gb P lost := by
  obtain ⟨F, h1, h2, h3⟩ := h
  exact ⟨F, h1.below hb, h2, h3.trans (hb.mono h3.size)⟩
theorem At.old {W0 w : World} {gb : Nat} {P : List Pc} {lost : Int} (h : At W0 w gb P lost) : Below W0.heap.size W0 w := by
  obtain ⟨F, h1, h2, h3⟩ := h
  exact h3
theorem At.moved {W0 w w' : World} {gb : Nat} {P : List Pc} {lost : Int} {F F' : Nat → Prop} (h : Bag w' gb P lost F') (m : Moved F F' w w') (hF : ∀ b, F b → W0.heap.size ≤ b) (hb : Below W0.heap.size W0 w) : At W0 w' gb P lost :=
  ⟨F', h, (m.low hF hb.size).1, hb.trans (m.low hF hb.size).2⟩
section
variable {W0 w : World} {gb : Nat} {P : List Pc} {lost : Int}
theorem at_new (W0 : World) {w : World} (hb : Below W0.heap.size W0 w) : Calls Try.prog 7 #[] w fun e w' => e = .returned (.pointer (some ⟨w.heap.size, 0, none⟩)) ∧ At W0 w' w.heap.size [] 0 := by
  refine (New_any w).mono ?_
  rintro e w' ⟨rfl, h1, h2⟩
  exact ⟨rfl, _, h1, fun b e => e ▸ hb.size, hb.trans (h2.mono hb.size)⟩
theorem at_send (h : At W0 w gb P lost) (s d : Int) (A : Option Addr) (l : List Nat) (m c : Nat) (hB : Bts w A l) (hm : l.length = m) (hn : m ≤ 140737488355328) (hl : 0 ≤ lost ∧ lost < 1000000000) :
    Calls Try.prog 8 #[.pointer (some ⟨gb, 0, none⟩), .int .i64 s, .int .i64 d, .slice A m c] w fun e w' => e = .returned (.bool (decide (P.length < 4096))) ∧ At W0 w' gb (sendP P s d l) (lostP P lost) := by
  obtain ⟨F, h1, h2, h3⟩ := h
  refine (Send_any gb P lost F w s d A l m c h1 hB hm hn hl).mono ?_
  rintro e w' ⟨rfl, F', k1, k2⟩
  exact ⟨rfl, At.moved k1 k2 h2 h3⟩
theorem at_deliver (h : At W0 w gb P lost) (i : Int) :
    Calls Try.prog 10 #[.pointer (some ⟨gb, 0, none⟩), .int .i64 i] w fun e w' => ∃ A c, e = .returned (.tuple #[.agg #[.int .i64 (gotP P i).src, .int .i64 (gotP P i).dst, .slice A (gotP P i).byt.length c, .bool (gotP P i).hurt], .bool (hereB i P.length)]) ∧ At W0 w' gb (takeP P i) lost ∧ Bts w' A (gotP P i).byt := by
  obtain ⟨F, h1, h2, h3⟩ := h
  refine (Deliver_any gb P lost F w i h1).mono ?_
  rintro e w' ⟨u, F', rfl, k1, k2, A, c, rfl, k4, _⟩
  exact ⟨A, c, rfl, At.moved k1 k2 h2 h3, k4⟩
theorem at_drop (h : At W0 w gb P lost) (i : Int) :
    Calls Try.prog 13 #[.pointer (some ⟨gb, 0, none⟩), .int .i64 i] w fun e w' => e = .returned (.bool (hereB i P.length)) ∧ At W0 w' gb (takeP P i) lost := by
  obtain ⟨F, h1, h2, h3⟩ := h
  refine (Drop_any gb P lost F w i h1).mono ?_
  rintro e w' ⟨rfl, F', k1, k2⟩
  exact ⟨rfl, At.moved k1 k2 h2 h3⟩
theorem at_double (h : At W0 w gb P lost) (i : Int) :
    Calls Try.prog 14 #[.pointer (some ⟨gb, 0, none⟩), .int .i64 i] w fun e w' => e = .returned (.bool (mayD P i)) ∧ At W0 w' gb (doubleP P i) lost := by
  obtain ⟨F, h1, h2, h3⟩ := h
  refine (Double_any gb P lost F w i h1).mono ?_
  rintro e w' ⟨rfl, F', k1, k2⟩
  exact ⟨rfl, At.moved k1 k2 h2 h3⟩
theorem at_turn (h : At W0 w gb P lost) (i n : Int) (hw : -9223372036854775808 ≤ n ∧ n < 9223372036854775808) :
    Calls Try.prog 16 #[.pointer (some ⟨gb, 0, none⟩), .int .i64 i, .int .i64 n] w fun e w' => e = .returned (.bool (mayT P i n)) ∧ At W0 w' gb (turnP P i n) lost := by
  obtain ⟨F, h1, h2, h3⟩ := h
  refine (Turn_any gb P lost F w i n h1 hw).mono ?_
  rintro e w' ⟨rfl, F', k1, k2⟩
  exact ⟨rfl, At.moved k1 k2 h2 h3⟩
theorem at_cut (h : At W0 w gb P lost) (i n : Int) (hw : -9223372036854775808 ≤ n ∧ n < 9223372036854775808) :
    Calls Try.prog 18 #[.pointer (some ⟨gb, 0, none⟩), .int .i64 i, .int .i64 n] w fun e w' => e = .returned (.bool (mayC P i n)) ∧ At W0 w' gb (cutP P i n) lost := by
  obtain ⟨F, h1, h2, h3⟩ := h
  refine (Cut_any gb P lost F w i n h1 hw).mono ?_
  rintro e w' ⟨rfl, F', k1, k2⟩
  exact ⟨rfl, At.moved k1 k2 h2 h3⟩
theorem at_len (h : At W0 w gb P lost) : Calls Try.prog 20 #[.pointer (some ⟨gb, 0, none⟩)] w fun e w' => e = .returned (.int .i64 (P.length : Int)) ∧ w = w' := by
  obtain ⟨F, h1, h2, h3⟩ := h
  exact Len_any gb P lost F w h1
theorem at_lost (h : At W0 w gb P lost) : Calls Try.prog 21 #[.pointer (some ⟨gb, 0, none⟩)] w fun e w' => e = .returned (.int .i64 lost) ∧ w = w' := by
  obtain ⟨F, h1, h2, h3⟩ := h
  exact Lost_any gb P lost F w h1
theorem at_list (h : At W0 w gb P lost) (hl : P.length ≤ 4096) : Calls Try.prog 19 #[.pointer (some ⟨gb, 0, none⟩)] w fun e w' => ∃ v M, e = .returned v ∧ M.map (·.1) = P ∧ ListAt w' w.heap.size v M ∧ Below w.heap.size w w' := by
  obtain ⟨F, h1, h2, h3⟩ := h
  exact List_any gb P lost F w h1 hl
end
theorem ListAt.at_ {w : World} {base : Nat} {v : Value} {M : List (Pc × Value)} (h : ListAt w base v M) {k : Nat} {p : Pc} {u : Value} (hx : M[k]? = some (p, u)) : ∃ g cap A c, v = .slice (some ⟨g, 0, none⟩) M.length cap ∧ u = .slice A p.byt.length c ∧ Bts w A p.byt ∧ p.byt.length ≤ 140737488355328 ∧ g < w.heap.size ∧ base ≤ g ∧
    w.cell? ⟨g, k * 4, none⟩ = some (.int .i64 p.src) ∧ w.cell? ⟨g, k * 4 + 1, none⟩ = some (.int .i64 p.dst) ∧ w.cell? ⟨g, k * 4 + 2, none⟩ = some u ∧ w.cell? ⟨g, k * 4 + 3, none⟩ = some (.bool p.hurt) ∧ (∀ a, A = some a → base ≤ a.block ∧ a.block ≠ g ∧ a.block < w.heap.size) := by
  have hk := (List.getElem?_eq_some_iff.1 hx).1
  rcases h.1.2 with ⟨rfl, h0⟩ | ⟨g, cap, cur, rfl, hb, hg, hcap, hm, hs, hl⟩
  · omega
  obtain ⟨A, c, e, r1, r2, r3, r4⟩ := h.2.1 (p, u) (List.mem_of_getElem? hx)
  have hgb : Blk w g 37 cur := hg
  refine ⟨g, cap, A, c, rfl, e, r1, r3, hgb.lt, hb, (hgb.cell _).trans (pcC_cell hl hx 0 (by decide)), (hgb.cell _).trans (pcC_cell hl hx 1 (by decide)), (hgb.cell _).trans (pcC_cell hl hx 2 (by decide)), (hgb.cell _).trans (pcC_cell hl hx 3 (by decide)), fun a ea => ⟨(r4 a ea).1.1, fun e => (r4 a ea).1.2.1 (by rw [e]; rfl), (r4 a ea).1.2.2⟩⟩
theorem map_two {M : List (Pc × Value)} {a b : Pc} (h : M.map (·.1) = [a, b]) : ∃ u v, M = [(a, u), (b, v)] := by
  match M, h with
  | [(x, u), (y, v)], h => simp at h; obtain ⟨rfl, rfl⟩ := h; exact ⟨u, v, rfl⟩
  | [], h => simp at h
  | [x], h => simp at h
  | x :: y :: z :: r, h => simp at h
set_option maxRecDepth 100000 in
set_option maxHeartbeats 4000000 in
theorem first19 (W : World) : Calls Try.prog 6 #[] W fun e w' => e = .returned (.bool true) ∧ Below W.heap.size W w' := by
  go_enter Try.func6, Try.ntmps6
  go_wp2_with fail
  refine (at_new W (Below.refl _ W)).mono ?_
  rintro e w1 ⟨rfl, ha⟩
  have HA := Lib.hid ha
  clear ha
  generalize W.heap.size = gb at *
  have kc := fun (C : Array Value) (n c : Nat) => Lib.run_convert_bytes_const (P := Try.prog) w1 30 5 C n c Try.underlying30 Try.underlying5
  go_wp2_with fail
  clear kc
  refine (at_send (HA.out.below ((Below.refl _ _).alloc (Nat.le_refl _) _)) 0 1 _ [97] 1 1 (bts_lit w1 (1, 2) [97] (bytes_lt rfl) w1.heap.size rfl) rfl (by decide) (by decide)).mono ?_
  rintro e w2 ⟨rfl, ha⟩
  have HA := Lib.hid (show At W w2 gb [⟨0, 1, [97], false⟩] 0 from ha)
  clear ha
  rw [show decide (([] : List Pc).length < 4096) = true from rfl]
  have kc := fun (C : Array Value) (n c : Nat) => Lib.run_convert_bytes_const (P := Try.prog) w2 30 5 C n c Try.underlying30 Try.underlying5
  go_wp2_with fail
  clear kc
  refine (at_send (HA.out.below ((Below.refl _ _).alloc (Nat.le_refl _) _)) 1 0 _ [98] 1 1 (bts_lit w2 (1, 2) [98] (bytes_lt rfl) w2.heap.size rfl) rfl (by decide) (by decide)).mono ?_
  rintro e w3 ⟨rfl, ha⟩
  have HA := Lib.hid (show At W w3 gb [⟨0, 1, [97], false⟩, ⟨1, 0, [98], false⟩] 0 from ha)
  clear ha
  rw [show decide (([⟨0, 1, [97], false⟩] : List Pc).length < 4096) = true from rfl]
  go_wp2_with fail
  refine (at_double HA.out 0).mono ?_
  rintro e w4 ⟨rfl, ha⟩
  have HA := Lib.hid (show At W w4 gb [⟨0, 1, [97], false⟩, ⟨1, 0, [98], false⟩, ⟨0, 1, [97], false⟩] 0 from ha)
  clear ha
  rw [show mayD [⟨0, 1, [97], false⟩, ⟨1, 0, [98], false⟩] 0 = true from rfl]
  go_wp2_with fail
  refine (at_deliver HA.out 1).mono ?_
  rintro e w5 ⟨A, c, rfl, ha, hb⟩
  have HA := Lib.hid (show At W w5 gb [⟨0, 1, [97], false⟩, ⟨0, 1, [97], false⟩] 0 from ha)
  clear ha
  have HB := Lib.hid (show Bts w5 A [98] from hb)
  clear hb
  rw [show hereB 1 ([⟨0, 1, [97], false⟩, ⟨1, 0, [98], false⟩, ⟨0, 1, [97], false⟩] : List Pc).length = true from rfl, show gotP [⟨0, 1, [97], false⟩, ⟨1, 0, [98], false⟩, ⟨0, 1, [97], false⟩] 1 = ⟨1, 0, [98], false⟩ from rfl]
  simp only [List.length_cons, List.length_nil, Nat.zero_add]
  have HA := Lib.hid (HA.out.below ((Below.refl _ _).alloc (Nat.le_refl _) (.cells #[.int .i64 1, .int .i64 0, .slice A 1 c, .bool false] 37)))
  have hcv := conv_bts (c := c) (n := 1) (bts_below HB.out ((Below.refl _ _).alloc (Nat.le_refl _) (.cells #[.int .i64 1, .int .i64 0, .slice A 1 c, .bool false] 37))) rfl
  have hs : ((strB [98]).toList == [98]) = true := by rw [strB, ByteArray.toList_mk]; rfl
  go_wp2_with fail
  refine (at_len HA.out).mono ?_
  rintro e w' ⟨rfl, rfl⟩
  rw [show ((([⟨0, 1, [97], false⟩, ⟨0, 1, [97], false⟩] : List Pc).length : Nat) : Int) = 2 from rfl]
  clear hcv hs
  go_wp2_with fail
  refine (at_turn HA.out 0 1 (by decide)).mono ?_
  rintro e w6 ⟨rfl, ha⟩
  have HA := Lib.hid (show At W w6 gb [⟨0, 1, [99], true⟩, ⟨0, 1, [97], false⟩] 0 from ha)
  clear ha
  rw [show mayT [⟨0, 1, [97], false⟩, ⟨0, 1, [97], false⟩] 0 1 = true from rfl]
  go_wp2_with fail
  refine (at_turn HA.out 0 1 (by decide)).mono ?_
  rintro e w7 ⟨rfl, ha⟩
  have HA := Lib.hid (show At W w7 gb [⟨0, 1, [99], true⟩, ⟨0, 1, [97], false⟩] 0 from ha)
  clear ha
  rw [show mayT [⟨0, 1, [99], true⟩, ⟨0, 1, [97], false⟩] 0 1 = false from rfl]
  go_wp2_with fail
  refine (at_cut HA.out 0 0 (by decide)).mono ?_
  rintro e w8 ⟨rfl, ha⟩
  have HA := Lib.hid (show At W w8 gb [⟨0, 1, [99], true⟩, ⟨0, 1, [97], false⟩] 0 from ha)
  clear ha
  rw [show mayC [⟨0, 1, [99], true⟩, ⟨0, 1, [97], false⟩] 0 0 = false from rfl]
  go_wp2_with fail
  refine (at_list HA.out (by decide)).mono ?_
  rintro e w9 ⟨v, M, rfl, hM, hL, hb⟩
  obtain ⟨u0, u1, rfl⟩ := map_two hM
  have HA := Lib.hid (HA.out.below hb)
  obtain ⟨g, cap, A0, c0, rfl, eu, hB, _, hgl, _, _, _, r2, _, _⟩ := hL.at_ (k := 0) (p := ⟨0, 1, [99], true⟩) (u := u0) rfl
  change u0 = .slice A0 1 c0 at eu
  subst eu
  have hcv := conv_bts (c := c0) (n := 1) hB rfl
  have hs : ((strB [99]).toList == [99]) = true := by rw [strB, ByteArray.toList_mk]; rfl
  simp only [List.length_cons, List.length_nil, Nat.zero_add] at r2 ⊢
  clear hM hL hb hB
  go_wp2_with fail
  clear hcv hs r2
  refine (at_list HA.out (by decide)).mono ?_
  rintro e w10 ⟨v, M, rfl, hM, hL, hb⟩
  obtain ⟨u2, u3, rfl⟩ := map_two hM
  have HA := Lib.hid (HA.out.below hb)
  obtain ⟨g2, cap2, A1, c1, rfl, eu, hB, _, hgl2, _, _, _, r2, _, _⟩ := hL.at_ (k := 1) (p := ⟨0, 1, [97], false⟩) (u := u3) rfl
  change u3 = .slice A1 1 c1 at eu
  subst eu
  have hcv := conv_bts (c := c1) (n := 1) hB rfl
  have hs : ((strB [97]).toList == [97]) = true := by rw [strB, ByteArray.toList_mk]; rfl
  simp only [List.length_cons, List.length_nil, Nat.zero_add] at r2 ⊢
  clear hM hL hb hB
  go_wp2_with fail
  clear hcv hs r2
  refine (at_drop HA.out 2).mono ?_
  rintro e w11 ⟨rfl, ha⟩
  have HO := Lib.hid ha.old
  clear ha
  rw [show hereB 2 ([⟨0, 1, [99], true⟩, ⟨0, 1, [97], false⟩] : List Pc).length = false from rfl]
  go_wp2_with fail
  go_ret
  exact ⟨rfl, HO.out⟩
end Go.Proofs.Ytnnajaomajgoeaa
