/- The script's acts; both bags' methods in one world; bytes that are turned. -/
import Derived.Test.YtnnajaomajgoeaaNetV
import Derived.Test.YtnnajaomajgoeaaORows
namespace Go.Proofs.Ytnnajaomajgoeaa
open Go.RowKit Go.ChangeShapes

/-- An act in a slice. -/
def OpB (W : World) (b o : Nat) : Prop := ∃ (kind i n s d : Int) (A : Option Addr) (l : List Nat) (c : Nat),
  W.cell? ⟨b, o, none⟩ = some (.int .i64 kind) ∧ W.cell? ⟨b, o + 1, none⟩ = some (.int .i64 i) ∧ W.cell? ⟨b, o + 2, none⟩ = some (.int .i64 n) ∧ W.cell? ⟨b, o + 3, none⟩ = some (.int .i64 s) ∧ W.cell? ⟨b, o + 4, none⟩ = some (.int .i64 d) ∧ W.cell? ⟨b, o + 5, none⟩ = some (.slice A l.length c) ∧
  Bts W A l ∧ (-9223372036854775808 ≤ n ∧ n < 9223372036854775808)
theorem opb_of {w : World} {a : Option Addr} {len cap : Nat} (h : IsRows [.int .i64, .int .i64, .int .i64, .int .i64, .int .i64, .ints .u8] w a len cap) (hp : 0 < len) : ∃ b o, a = some ⟨b, o, none⟩ ∧ b < w.heap.size ∧ ∀ i, i < len → OpB w b (o + i * 6) := by
  rcases h with ⟨_, rfl, _⟩ | ⟨x, rfl, hl, hm, hc⟩
  · omega
  · obtain ⟨v, h0, _⟩ := hc 0 (by omega) 0 _ rfl
    obtain ⟨b, o, spot⟩ := x
    have hspot : spot = none := by simpa [Addr.add] using World.cell?_spot h0
    subst hspot
    have ea : ∀ k, (⟨b, o, none⟩ : Addr).add k = ⟨b, o + k, none⟩ := fun k => by unfold Addr.add; split <;> simp_all
    rw [ea] at h0
    refine ⟨b, o, rfl, World.block_lt_of_cell? _ _ h0, fun i hi => ?_⟩
    obtain ⟨_, k0, y0, rfl, _⟩ := hc i (by omega) 0 _ rfl
    obtain ⟨_, k1, y1, rfl, _⟩ := hc i (by omega) 1 _ rfl
    obtain ⟨_, k2, y2, rfl, w2⟩ := hc i (by omega) 2 _ rfl
    obtain ⟨_, k3, y3, rfl, _⟩ := hc i (by omega) 3 _ rfl
    obtain ⟨_, k4, y4, rfl, _⟩ := hc i (by omega) 4 _ rfl
    obtain ⟨_, k5, A, m, c, zs, rfl, hr⟩ := hc i (by omega) 5 _ rfl
    obtain ⟨l, hlm, hB, _⟩ := bts_of_row hr
    subst hlm
    rw [ea] at k0 k1 k2 k3 k4 k5
    simp only [List.length_cons, List.length_nil, Nat.zero_add, Nat.reduceAdd] at k0 k1 k2 k3 k4 k5
    refine ⟨y0, y1, y2, y3, y4, A, l, c, ?_, ?_, ?_, ?_, ?_, ?_, hB, i64_of_wf w2⟩
    · rw [Nat.add_zero] at k0; exact k0
    all_goals (rw [Nat.add_assoc]; assumption)
section
variable {W w w' : World} {gb xb : Nat} {P Q : List Pc} {loc : List (Nat × TypeId × Array Value)}
theorem np_start {w0 w1 : World} (h0 : Below W.heap.size W w0) (h1 : Bag w1 w0.heap.size [] 0 (fun b => b = w0.heap.size)) (h2 : Below w0.heap.size w0 w1) :
    NP W w0.heap.size w1.heap.size [] [] [] (w1.alloc (.cells #[.slice none 0 0, .int .i64 0] 29)) := by
  have hb : Below w1.heap.size w1 (w1.alloc (.cells #[.slice none 0 0, .int .i64 0] 29)) := (Below.refl _ _).alloc (Nat.le_refl _) _
  have hl := h1.lt _ rfl
  have hs := h2.size
  have h0s := h0.size
  refine ⟨⟨_, fun b => b = w1.heap.size, h1.below hb, ⟨⟨.slice none 0 0, Blkf.new_at _ _ _ _ rfl, World.ownsRow_nil _ _ _ _, fun k hk => by simp [Value.ownBlock] at hk⟩, rfl, fun k hk => by subst hk; simp⟩, fun b e1 e2 => by omega, fun b e => by omega, fun b e => by omega, fun p hp => by simp at hp⟩, (h0.trans (h2.mono h0s)).trans (hb.mono (by omega))⟩
theorem NP.ref (h : NP W gb xb P Q loc w) : ∃ A c, Blk w xb 29 #[.slice A Q.length c, .int .i64 0] := by
  obtain ⟨FB, FX, h1, h2, h3, h4, h5, h6⟩ := h.ex
  obtain ⟨v, k1, k2, _⟩ := h2.own
  obtain ⟨A, c, rfl⟩ := prow_form k2
  exact ⟨A, c, k1⟩
theorem NP.elem (h : NP W gb xb P Q loc w) {k : Nat} {p : Pc} (hx : Q[k]? = some p) : ∃ g cap, Blk w xb 29 #[.slice (some ⟨g, 0, none⟩) Q.length cap, .int .i64 0] ∧ g < w.heap.size ∧ w.cell? ⟨g, k * 4, none⟩ = some (.int .i64 p.src) ∧ w.cell? ⟨g, k * 4 + 1, none⟩ = some (.int .i64 p.dst) ∧ w.cell? ⟨g, k * 4 + 2, none⟩ = some (.string (strB p.byt)) ∧ w.cell? ⟨g, k * 4 + 3, none⟩ = some (.bool p.hurt) := by
  obtain ⟨FB, FX, h1, h2, h3, h4, h5, h6⟩ := h.ex
  obtain ⟨g, cap, cur, o⟩ := h2.opened hx
  exact ⟨g, cap, o.bag, o.row.lt, o.c0, o.c1, o.c2, o.c3⟩
theorem np_len (h : NP W gb xb P Q loc w) : Calls Try.prog 20 #[.pointer (some ⟨gb, 0, none⟩)] w fun e w' => e = .returned (.int .i64 (P.length : Int)) ∧ w = w' := by
  obtain ⟨FB, FX, h1, _⟩ := h.ex
  exact Len_any gb P 0 FB w h1
theorem np_lost (h : NP W gb xb P Q loc w) : Calls Try.prog 21 #[.pointer (some ⟨gb, 0, none⟩)] w fun e w' => e = .returned (.int .i64 0) ∧ w = w' := by
  obtain ⟨FB, FX, h1, _⟩ := h.ex
  exact Lost_any gb P 0 FB w h1
theorem np_list (h : NP W gb xb P Q loc w) (hl : P.length ≤ 4096) : Calls Try.prog 19 #[.pointer (some ⟨gb, 0, none⟩)] w fun e w' => ∃ v M, e = .returned v ∧ M.map (·.1) = P ∧ ListAt w' w.heap.size v M ∧ Below w.heap.size w w' := by
  obtain ⟨FB, FX, h1, _⟩ := h.ex
  exact List_any gb P 0 FB w h1 hl
theorem np_send (h : NP W gb xb P Q loc w) (s d : Int) (A : Option Addr) (l : List Nat) (m c : Nat) (hB : Bts w A l) (hm : l.length = m) (hn : m ≤ 140737488355328) (hP : P.length < 4096) :
    Calls Try.prog 8 #[.pointer (some ⟨gb, 0, none⟩), .int .i64 s, .int .i64 d, .slice A m c] w fun e w' => e = .returned (.bool true) ∧ NP W gb xb (sendP P s d l) Q loc w' ∧ Below W.heap.size w w' :=
  h.turnB fun F hF => (Send_any gb P 0 F w s d A l m c hF hB hm hn (by decide)).mono fun e w' ⟨h1, F', h2, h3⟩ => ⟨by rw [h1, decide_eq_true hP], F', by rw [lostP_small hP] at h2; exact h2, h3⟩
theorem np_rsend (h : NP W gb xb P Q loc w) (s d : Int) (l : List Nat) (hQ : Q.length < 4096) :
    Calls Try.prog 9 #[.pointer (some ⟨xb, 0, none⟩), .int .i64 s, .int .i64 d, .string (strB l)] w fun e w' => e = .returned (.bool true) ∧ NP W gb xb P (sendP Q s d l) loc w' ∧ Below W.heap.size w w' :=
  h.turnR fun F hF => rsend_any xb Q F w s d l hF hQ
theorem np_rtake (h : NP W gb xb P Q loc w) (i : Int) (hQ : Q.length < 4096) :
    Calls Try.prog 11 #[.pointer (some ⟨xb, 0, none⟩), .int .i64 i] w fun e w' => e = .returned (.tuple #[.agg #[.int .i64 (gotP Q i).src, .int .i64 (gotP Q i).dst, .string (strB (gotP Q i).byt), .bool (gotP Q i).hurt], .bool (hereB i Q.length)]) ∧ NP W gb xb P (takeP Q i) loc w' ∧ Below W.heap.size w w' :=
  h.turnR fun F hF => rtake_any xb Q F w i hF hQ
theorem np_drop (h : NP W gb xb P Q loc w) (i : Int) :
    Calls Try.prog 13 #[.pointer (some ⟨gb, 0, none⟩), .int .i64 i] w fun e w' => e = .returned (.bool (hereB i P.length)) ∧ NP W gb xb (takeP P i) Q loc w' ∧ Below W.heap.size w w' :=
  h.turnB fun F hF => Drop_any gb P 0 F w i hF
theorem np_double (h : NP W gb xb P Q loc w) (i : Int) :
    Calls Try.prog 14 #[.pointer (some ⟨gb, 0, none⟩), .int .i64 i] w fun e w' => e = .returned (.bool (mayD P i)) ∧ NP W gb xb (doubleP P i) Q loc w' ∧ Below W.heap.size w w' :=
  h.turnB fun F hF => Double_any gb P 0 F w i hF
theorem np_rdouble (h : NP W gb xb P Q loc w) (i : Int) (hQ : Q.length < 4096) :
    Calls Try.prog 15 #[.pointer (some ⟨xb, 0, none⟩), .int .i64 i] w fun e w' => e = .returned (.bool (mayD Q i)) ∧ NP W gb xb P (doubleP Q i) loc w' ∧ Below W.heap.size w w' :=
  h.turnR fun F hF => rdouble_any xb Q F w i hF hQ
theorem np_turn (h : NP W gb xb P Q loc w) (i n : Int) (hw : -9223372036854775808 ≤ n ∧ n < 9223372036854775808) :
    Calls Try.prog 16 #[.pointer (some ⟨gb, 0, none⟩), .int .i64 i, .int .i64 n] w fun e w' => e = .returned (.bool (mayT P i n)) ∧ NP W gb xb (turnP P i n) Q loc w' ∧ Below W.heap.size w w' :=
  h.turnB fun F hF => Turn_any gb P 0 F w i n hF hw
theorem np_rturn (h : NP W gb xb P Q loc w) (i n : Int) (hQ : Q.length < 4096) (hok : PcsOk Q) (hw : -9223372036854775808 ≤ n ∧ n < 9223372036854775808) :
    Calls Try.prog 17 #[.pointer (some ⟨xb, 0, none⟩), .int .i64 i, .int .i64 n, .bool false] w fun e w' => e = .returned (.bool (mayT Q i n)) ∧ NP W gb xb P (turnP Q i n) loc w' ∧ Below W.heap.size w w' :=
  h.turnR fun F hF => rturnP_any xb Q F w i n hF hQ hok hw
theorem np_cut (h : NP W gb xb P Q loc w) (i n : Int) (hw : -9223372036854775808 ≤ n ∧ n < 9223372036854775808) :
    Calls Try.prog 18 #[.pointer (some ⟨gb, 0, none⟩), .int .i64 i, .int .i64 n] w fun e w' => e = .returned (.bool (mayC P i n)) ∧ NP W gb xb (cutP P i n) Q loc w' ∧ Below W.heap.size w w' :=
  h.turnB fun F hF => Cut_any gb P 0 F w i n hF hw
theorem np_rcut (h : NP W gb xb P Q loc w) (i n : Int) (hQ : Q.length < 4096) (hw : -9223372036854775808 ≤ n ∧ n < 9223372036854775808) :
    Calls Try.prog 17 #[.pointer (some ⟨xb, 0, none⟩), .int .i64 i, .int .i64 n, .bool true] w fun e w' => e = .returned (.bool (mayC Q i n)) ∧ NP W gb xb P (cutP Q i n) loc w' ∧ Below W.heap.size w w' :=
  h.turnR fun F hF => rcutP_any xb Q F w i n hF hQ hw
end
/-- m cells from o on are bytes. -/
def U8s (cs : Array Value) (o m : Nat) : Prop := ∀ j, j < m → ∃ z, cs[o + j]? = some (.int .u8 z)
theorem U8s.set {cs : Array Value} {o m : Nat} (h : U8s cs o m) (k : Nat) (z : Int) : U8s (cs.setIfInBounds k (.int .u8 z)) o m := by
  intro j hj
  obtain ⟨y, hy⟩ := h j hj
  rw [Array.getElem?_setIfInBounds]
  split
  · split
    · exact ⟨z, rfl⟩
    · rename_i h1 h2
      subst h1
      rw [Array.getElem?_eq_none (by omega)] at hy
      cases hy
  · exact ⟨y, hy⟩
theorem u8s_of {w : World} {g o : Nat} {l : List Nat} {cs : Array Value} (h : Bts w (some ⟨g, o, none⟩) l) (hb : Blk w g 5 cs) (hl : l ≠ []) : U8s cs o l.length := by
  intro j hj
  obtain ⟨b, o', e, hc⟩ := h.2 (List.length_pos_iff.2 hl)
  injection e with e
  injection e with e1 e2
  subst e1 e2
  have h1 := hc j hj
  rw [hb.cell] at h1
  exact ⟨_, h1⟩
end Go.Proofs.Ytnnajaomajgoeaa
