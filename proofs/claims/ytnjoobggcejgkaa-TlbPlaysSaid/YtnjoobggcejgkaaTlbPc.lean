/- What must be answered ahead of everything else. -/
import Derived.Test.YtnjoobggcejgkaaTlbPb
namespace Go.Proofs.Ytnjoobggcejgkaa
open Go.RowKit

theorem BufAt.lt {w : World} {g gs : Nat} {G : Nat → Nat} {T : List (List En)} {m : Nat} (h : BufAt w g gs G T m) : ∀ k, bufF g gs G T.length k → k < w.heap.size := by
  rintro k (rfl | rfl | ⟨i, hi, rfl⟩)
  · obtain ⟨c, hc⟩ := h.head; exact hc.lt
  · obtain ⟨cur, ho, _⟩ := h.outer; exact ho.lt
  · exact (h.inner i hi).lt
/-- A buffer of the call's own, and locals that are leaves. -/
structure FS (W : World) (g gs : Nat) (G : Nat → Nat) (T : List (List En)) (m : Nat) (L : List (Nat × TypeId × Array Value)) (w : World) : Prop where
  buf : BufAt w g gs G T m
  low : ∀ k, bufF g gs G T.length k → W.heap.size ≤ k
  below : Below W.heap.size W w
  loc : ∀ p ∈ L, Blk w p.1 p.2.1 p.2.2 ∧ ¬ bufF g gs G T.length p.1
section
variable {W w w' : World} {g gs : Nat} {G : Nat → Nat} {T T' : List (List En)} {m : Nat} {L : List (Nat × TypeId × Array Value)}
theorem FS.start (hB : BufAt w g gs G T m) (hF : ∀ k, bufF g gs G T.length k → W.heap.size ≤ k) (hE : Below W.heap.size W w) : FS W g gs G T m [] w := ⟨hB, hF, hE, fun p hp => by simp at hp⟩
theorem FS.step (h : FS W g gs G T m L w) (hb : Below w.heap.size w w') : FS W g gs G T m L w' :=
  ⟨h.buf.below hb, h.low, h.below.trans (hb.mono h.below.size), fun p hp => ⟨(h.loc p hp).1.below hb (h.loc p hp).1.lt, (h.loc p hp).2⟩⟩
theorem FS.turn (h : FS W g gs G T m L w) (hB : BufAt w' g gs G T' m) (hk : Keeps (bufF g gs G T.length) w w') (hl : T'.length = T.length) : FS W g gs G T' m L w' :=
  ⟨hB, by rw [hl]; exact h.low, below_step h.below hk h.low h.below.size, fun p hp => ⟨hk.blk (h.loc p hp).1 (h.loc p hp).2, by rw [hl]; exact (h.loc p hp).2⟩⟩
theorem FS.push (h : FS W g gs G T m L w) (cs : Array Value) {n : Nat} (hn : n = w.heap.size) (t : TypeId := 33) : FS W g gs G T m ((n, t, cs) :: L) (w.alloc (.cells cs t)) := by
  subst hn
  refine ⟨(h.step ((Below.refl _ _).alloc (Nat.le_refl _) _)).buf, h.low, h.below.alloc h.below.size _, fun p hp => ?_⟩
  rcases List.mem_cons.1 hp with rfl | hp
  · exact ⟨Blkf.new_at _ _ _ _ rfl, fun hf => absurd (h.buf.lt _ hf) (Nat.lt_irrefl _)⟩
  · exact (h.step ((Below.refl _ _).alloc (Nat.le_refl _) _)).loc p hp
theorem FS.range (h : FS W g gs G T m L w) (i : Nat) (p : Nat × TypeId × Array Value) (hp : L[i]? = some p) : w.rangeAt p.1 0 p.2.2.toList := (h.loc p (List.mem_of_getElem? hp)).1.range
theorem FS.add (h : FS W g gs G T m L w) {b : Nat} {t : TypeId} {cs : Array Value} (hb : Blk w b t cs) (hne : ¬ bufF g gs G T.length b) : FS W g gs G T m ((b, t, cs) :: L) w :=
  ⟨h.buf, h.low, h.below, fun p hp => by
    rcases List.mem_cons.1 hp with rfl | hp
    · exact ⟨hb, hne⟩
    · exact h.loc p hp⟩
theorem FS.at_ (h : FS W g gs G T m L w) (i : Nat) (p : Nat × TypeId × Array Value) (hp : L[i]? = some p) : Blk w p.1 p.2.1 p.2.2 := (h.loc p (List.mem_of_getElem? hp)).1
end
theorem find_yes (g gs : Nat) (G : Nat → Nat) (T : List (List En)) (m : Nat) (va : Nat) (asid : Int) (l : Lf) (W : World) (hv : va < 18446744073709551616) (hn : 0 < T.length) (hn2 : T.length ≤ 64) (hm : m ≤ 8) (hB : BufAt W g gs G T m) (hval : Valid T) (hf : findS T va asid = some l) :
    Calls Try.prog 8 #[.pointer (some ⟨g, 0, none⟩), .int .u64 va, .int .i64 asid] W fun e w' => e = .returned (.tuple #[.agg l.cs, .bool true]) ∧ Below W.heap.size W w' :=
  (find_any g gs G T m va asid W hv hn hn2 hm hB hval).mono fun e w' ⟨h1, h2⟩ => ⟨by rw [h1, hf]; rfl, h2⟩
theorem find_not (g gs : Nat) (G : Nat → Nat) (T : List (List En)) (m : Nat) (va : Nat) (asid : Int) (W : World) (hv : va < 18446744073709551616) (hn : 0 < T.length) (hn2 : T.length ≤ 64) (hm : m ≤ 8) (hB : BufAt W g gs G T m) (hval : Valid T) (hf : findS T va asid = none) :
    Calls Try.prog 8 #[.pointer (some ⟨g, 0, none⟩), .int .u64 va, .int .i64 asid] W fun e w' => e = .returned (.tuple #[.agg lf0.cs, .bool false]) ∧ Below W.heap.size W w' :=
  (find_any g gs G T m va asid W hv hn hn2 hm hB hval).mono fun e w' ⟨h1, h2⟩ => ⟨by rw [h1, hf]; rfl, h2⟩
def x1 : Lf := ⟨true, true, false, false, false, false, false, false, 0, 7, 0, 0⟩
def y1 : Lf := ⟨true, true, false, false, false, false, false, false, 0, 512, 1, 0⟩
theorem x1_wf : LfWf x1 := by unfold LfWf; decide
theorem y1_wf : LfWf y1 := by unfold LfWf; decide
def T1 : List (List En) := fillS (emptyT 2 1) 4096 3 x1 0
def T2 : List (List En) := fillS T1 1073741824 3 y1 0
def T3 : List (List En) := fenceS T2 (some 1074934870) none
def T4 : List (List En) := fenceS T3 none none
theorem v1 : Valid T1 := valid_fill (empty_valid 2 1) _ _ _ _ (by decide)
theorem v2 : Valid T2 := valid_fill v1 _ _ _ _ (by decide)
theorem v3 : Valid T3 := valid_fence v2 _ _
theorem f1 : findS T2 8191 3 = some x1 := by rfl
theorem f2 : findS T2 1075838975 3 = some y1 := by rfl
theorem f3 : findS T2 4096 4 = none := by rfl
theorem f4 : (listT 0 T2).length = 2 := by rfl
theorem f5 : fenceN T2 (some 1074934870) none = 1 := by rfl
theorem f6 : fenceN T3 none none = 1 := by rfl
theorem len1 (T : List (List En)) (n : Nat) (h : (listT 0 T).length = n) (g gs : Nat) (G : Nat → Nat) (m : Nat) (W : World) (hn2 : T.length ≤ 64) (hm : m ≤ 8) (hB : BufAt W g gs G T m) :
    Calls Try.prog 11 #[.pointer (some ⟨g, 0, none⟩)] W fun e w' => e = .returned (.int .i64 n) ∧ Below W.heap.size W w' := by subst h; exact len_any g gs G T m W hn2 hm hB
set_option maxRecDepth 100000 in
set_option maxHeartbeats 4000000 in
theorem first_ok (W : World) : Calls Try.prog 5 #[] W fun e w' => e = .returned (.bool true) ∧ Below W.heap.size W w' := by
  go_enter Try.func5, Try.ntmps5
  go_wp2_with fail
  refine (new_yes 2 1 _ (by decide)).mono ?_
  rintro e w1 ⟨rfl, hn⟩
  obtain ⟨gs, G, hB, hF, hE⟩ := new_buf (Nat.le_refl _) (by decide) hn
  have S1 := Lib.hid (((FS.start hB hF hE).push x1.cs rfl).push y1.cs (n := w1.heap.size + 1) (by simp))
  clear hn hB hF hE
  go_wp2_with fail
  refine (fill_yes W.heap.size gs G (emptyT 2 1) 1 4096 3 x1 0 ((w1.alloc (.cells x1.cs 33)).alloc (.cells y1.cs 33)) (by decide) (by decide) (by decide) (by decide) (by decide) (by decide) S1.out.buf (by decide)).mono ?_
  rintro e w2 ⟨rfl, hB2, hK2⟩
  have S2 : Hid (FS W W.heap.size gs G T1 1 [(w1.heap.size + 1, 33, y1.cs), (w1.heap.size, 33, x1.cs)] w2) := Lib.hid (S1.out.turn hB2 hK2 rfl)
  clear hB2 hK2 S1
  go_wp2_with (first | ((with_reducible refine wl_load 33 (.tmp 4) rfl ?_ (w1.heap.size + 1) 0 y1.cs ?_ (S2.out.range 0 _ rfl) ?_ ?_); exact rfl; exact rfl; exact leaf_row y1))
  refine (fill_yes W.heap.size gs G T1 1 1073741824 3 y1 0 w2 (by decide) (by decide) (by decide) (by decide) (by decide) (by decide) S2.out.buf (by decide)).mono ?_
  rintro e w3 ⟨rfl, hB2, hK2⟩
  have S3 : Hid (FS W W.heap.size gs G T2 1 [(w1.heap.size + 1, 33, y1.cs), (w1.heap.size, 33, x1.cs)] w3) := Lib.hid (S2.out.turn hB2 hK2 rfl)
  clear hB2 hK2 S2
  go_wp2_with fail
  refine (find_yes W.heap.size gs G T2 1 8191 3 x1 w3 (by decide) (by decide) (by decide) (by decide) S3.out.buf v2 f1).mono ?_
  rintro e w4 ⟨rfl, hb⟩
  have S4 := Lib.hid ((S3.out.step hb).push x1.cs rfl)
  clear hb S3
  go_wp2_with (first | ((with_reducible refine wl_store_new 33 (.tmp 5) (.tmp 34) rfl ?_ w4 (World.heap w4).size 33 lf0.cs x1.cs ?_ ?_ ?_ ?_ ?_ ?_ ?_ ?_); exact rfl; exact rfl; exact rfl; exact rfl; exact rfl; exact rfl; exact leaf_row x1; exact lcs_one x1))
  refine (find_yes W.heap.size gs G T2 1 1075838975 3 y1 _ (by decide) (by decide) (by decide) (by decide) S4.out.buf v2 f2).mono ?_
  rintro e w5 ⟨rfl, hb⟩
  have S5 := Lib.hid ((S4.out.step hb).push y1.cs rfl)
  clear hb S4
  go_wp2_with (first | ((with_reducible refine wl_store_new 33 (.tmp 7) (.tmp 39) rfl ?_ w5 (World.heap w5).size 33 lf0.cs y1.cs ?_ ?_ ?_ ?_ ?_ ?_ ?_ ?_); exact rfl; exact rfl; exact rfl; exact rfl; exact rfl; exact rfl; exact leaf_row y1; exact lcs_one y1))
  refine (find_not W.heap.size gs G T2 1 4096 4 _ (by decide) (by decide) (by decide) (by decide) S5.out.buf v2 f3).mono ?_
  rintro e w6 ⟨rfl, hb⟩
  have S6 := Lib.hid ((S5.out.step hb).push lf0.cs rfl)
  clear hb S5
  have heq1 := fun W => leaf_same W x1 x1_wf
  have heq2 := fun W => leaf_same W y1 y1_wf
  go_wp2_with (first | ((with_reducible refine wl_store_new 33 (.tmp 9) (.tmp 44) rfl ?_ w6 (World.heap w6).size 33 lf0.cs lf0.cs ?_ ?_ ?_ ?_ ?_ ?_ ?_ ?_); exact rfl; exact rfl; exact rfl; exact rfl; exact rfl; exact rfl; exact leaf_row lf0; exact lcs_one lf0) | ((with_reducible refine wl_load 33 (.tmp 5) rfl ?_ w4.heap.size 0 x1.cs ?_ (S6.out.range 2 _ rfl) ?_ ?_); exact rfl; exact rfl; exact leaf_row x1) | ((with_reducible refine wl_load 33 (.tmp 3) rfl ?_ w1.heap.size 0 x1.cs ?_ (S6.out.range 4 _ rfl) ?_ ?_); exact rfl; exact rfl; exact leaf_row x1) | ((with_reducible refine wl_load 33 (.tmp 7) rfl ?_ w5.heap.size 0 y1.cs ?_ (S6.out.range 1 _ rfl) ?_ ?_); exact rfl; exact rfl; exact leaf_row y1) | ((with_reducible refine wl_load 33 (.tmp 4) rfl ?_ (w1.heap.size + 1) 0 y1.cs ?_ (S6.out.range 3 _ rfl) ?_ ?_); exact rfl; exact rfl; exact leaf_row y1))
  refine (len1 T2 2 f4 W.heap.size gs G 1 _ (by decide) (by decide) S6.out.buf).mono ?_
  rintro e w7 ⟨rfl, hb⟩
  have S7 := Lib.hid (S6.out.step hb)
  have HW : Hid (Below w7.heap.size w7 (w7.alloc (.cells #[.int .u64 1074934870] 29))) := Lib.hid ((Below.refl _ _).alloc (Nat.le_refl _) _)
  have HO : Hid (OneU (w7.alloc (.cells #[.int .u64 1074934870] 29)) (some 1074934870) (.slice (some ⟨w7.heap.size, 0, none⟩) 1 1)) := Lib.hid ⟨_, rfl, by rw [(Blkf.new_at w7 _ _ _ rfl).cell]; rfl⟩
  clear hb S6 heq1 heq2
  go_wp2_with fail
  refine (fence_any W.heap.size gs G T2 1 (some 1074934870) none _ _ _ (by simp) (by decide) (by decide) (by decide) (by decide) (S7.out.step HW.out).buf v2 HO.out rfl).mono ?_
  rintro e w8 ⟨rfl, hB2, hK2⟩
  have S8 : Hid (FS W W.heap.size gs G T3 1 _ w8) := Lib.hid ((S7.out.step HW.out).turn hB2 hK2 rfl)
  rw [f5]
  clear hB2 hK2 HO
  go_wp2_with fail
  refine (fence_any W.heap.size gs G T3 1 none none _ _ _ (by simp) (by decide) (by decide) (by decide) (by decide) S8.out.buf v3 rfl rfl).mono ?_
  rintro e w9 ⟨rfl, hB2, hK2⟩
  have S9 : Hid (FS W W.heap.size gs G T4 1 _ w9) := Lib.hid (S8.out.turn hB2 hK2 rfl)
  rw [f6]
  clear hB2 hK2
  go_wp2_with fail
  go_ret
  exact ⟨rfl, S9.out.below⟩
end Go.Proofs.Ytnjoobggcejgkaa
