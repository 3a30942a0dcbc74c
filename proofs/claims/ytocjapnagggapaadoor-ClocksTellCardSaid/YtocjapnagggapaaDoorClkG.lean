/- The clocks of facts: the walk. -/
import Derived.Test.YtocjapnagggapaaDoorClkF
import Derived.Test.YtocjapnagggapaaDoorReads
import Derived.Test.YtocjapnagggapaaDoorOpen
import Derived.Great.CaseRows
namespace Go.Proofs.YtocjapnagggapaaDoor
open Go.RowKit Go.Maps

/-- A row that grows, as an object. -/
def rowO (base : Nat) (e : TypeId) (size n : Nat) (v : Value) (xs : List Value) : Obj where
  At w F := w.ownsRow base e size v n xs ∧ ∀ b, F b ↔ v.ownBlock = some b
  keeps := fun ⟨h1, h2⟩ k hd => ⟨k.row h1 (fun g hg => hd g ((h2 g).2 hg)), h2⟩
  lt := fun ⟨h1, h2⟩ hb => (h1.lt _ ((h2 _).1 hb)).2
section
variable {W w w' : World} {os : List Obj} {base size n n' : Nat} {e : TypeId} {v v' : Value} {xs xs' : List Value}
theorem Objs.row0 (h : Objs W os w) (base : Nat) (e : TypeId) (size : Nat) : Objs W (rowO base e size 0 (.slice none 0 0) [] :: os) w :=
  h.add (F := fun _ => False) (Below.refl _ _) ⟨World.ownsRow_nil _ _ _ _, fun b => by simp [Value.ownBlock]⟩ (fun b hb => hb.elim)
theorem Objs.owns (h : Objs W os w) (i : Nat) (hi : os[i]? = some (rowO base e size n v xs)) : w.ownsRow base e size v n xs := by
  obtain ⟨F, h1, _⟩ := h.get i _ hi
  exact h1
theorem Objs.grow (h : Objs W os w) (i : Nat) (hi : os[i]? = some (rowO base e size n v xs)) (ho : w'.ownsRow base e size v' n' xs') (hg : w.grownBy w' v.ownBlock) (hat : v'.ownBlock = v.ownBlock ∨ v'.ownBlock = some w.heap.size) :
    Objs W (os.set i (rowO base e size n' v' xs')) w' := by
  obtain ⟨Fs, h1, h2, h3, h4⟩ := h.ex
  obtain ⟨F, hF⟩ := get_len h1 hi
  have hA := h2 i _ F hi hF
  refine (h.turned i (O' := rowO base e size n' v' xs') (F := F) (F' := fun b => v'.ownBlock = some b) h1 h2 h3 h4 hF ⟨ho, fun b => Iff.rfl⟩ (fun b hb => ?_) ⟨hg.os, hg.tape, hg.output, hg.size, fun j hj hne => hg.block j hj (fun e => hne ((hA.2 j).2 e.symm))⟩).1
  rcases hat with e | e
  · exact .inl ((hA.2 b).2 (by rw [← e]; exact hb))
  · rw [e] at hb
    injection hb with hb
    exact .inr (Nat.le_of_eq hb)
end
theorem row_form {w : World} {base s n : Nat} {e : TypeId} {v : Value} {xs : List Value} (h : w.ownsRow base e s v n xs) : ∃ A c, v = .slice A n c := by
  rcases h.2 with ⟨rfl, rfl⟩ | ⟨g, cap, _, rfl, _⟩
  · exact ⟨_, _, rfl⟩
  · exact ⟨_, _, rfl⟩
/-- Facts in memory. -/
def FsAt (w : World) (A : Option Addr) (len : Nat) (C : Nat → Array Value) (f : Nat → Fc) : Prop :=
  0 < len → ∃ b o, A = some ⟨b, o, none⟩ ∧ b < w.heap.size ∧ ∀ i, i < len → w.rangeAt b (o + i * 16) (C i).toList ∧ FcAt (C i) (f i)
theorem FsAt.below {w w' : World} {A : Option Addr} {len : Nat} {C : Nat → Array Value} {f : Nat → Fc} (h : FsAt w A len C f) (hb : Below w.heap.size w w') : FsAt w' A len C f := fun hp => by
  obtain ⟨b, o, e, hl, hc⟩ := h hp
  exact ⟨b, o, e, Nat.lt_of_lt_of_le hl hb.size, fun i hi => ⟨fun j v hj => (hb.cell (p := ⟨b, o + i * 16 + j, none⟩) hl).trans ((hc i hi).1 j v hj), (hc i hi).2⟩⟩
theorem FsAt.take {w : World} {A : Option Addr} {len n : Nat} {C : Nat → Array Value} {f : Nat → Fc} (h : FsAt w A len C f) (hn : n ≤ len) : FsAt w A n C f := fun hp => by
  obtain ⟨b, o, e, hl, hc⟩ := h (by omega)
  exact ⟨b, o, e, hl, fun i hi => hc i (by omega)⟩
def factZ : Array Value := #[.int .i64 0, .int .i64 0, .int .i64 0, .bool false, .int .i64 0, .int .i64 0, .int .i64 0, .int .i64 0, .int .i64 0, .int .u64 0, .int .i64 0, .int .i64 0, .int .u64 0, .int .i64 0, .int .u64 0, .int .u64 0]
theorem zero_fact (w : World) : (zeroValue 40).run Tryd.prog w = .ok (.agg factZ) w := by kernel_rfl
theorem info_arr : (Tryd.prog.info? 26).map (fun i => (i.zero, i.size, i.bytes)) = some (some (.agg (fnC 16 (fun _ => 0))), 16, 128) := by kernel_rfl
theorem arrz : Tryd.prog.built 26 [] = some (fnC 16 (fun _ => 0)) := by kernel_rfl
theorem book_built (mb : Nat) : Tryd.prog.built 49 [(1, .map (some mb))] = some (bookC (fun _ _ => 0) mb) := by kernel_rfl
/-- The cells of the clocks that have been told. -/
def clC (f : Nat → Fc) (k : Nat) : List Value := (List.range k).flatMap fun i => (fnC 16 (tellC f i)).toList
theorem clC_succ (f : Nat → Fc) (k : Nat) : clC f (k + 1) = clC f k ++ (fnC 16 (tellC f k)).toList := by unfold clC; rw [List.range_succ, List.flatMap_append]; simp
theorem clC_len (f : Nat → Fc) : ∀ k, (clC f k).length = k * 16
  | 0 => rfl
  | k + 1 => by rw [clC_succ, List.length_append, clC_len f k]; simp [fnC_size]; omega
theorem wl_row1 {ops : Array Oper} {rest : List Oper} {o : Oper} {a : Act} {w : World} {Q : Exit → Act → World → Prop} (hg : o.guard = none) (j : Nat) (c : Nat → Nat) (ho : o.op = .buildSlice 24 1 #[(0, .tmp j)]) (hv : a.eval (.tmp j) = .agg (fnC 16 c))
    (h : wpList Tryd.prog ops Q rest (a.put o.dst (.slice (some ⟨w.heap.size, 0, none⟩) 1 1)) (w.alloc (.cells (fnC 16 c) 26))) : wpList Tryd.prog ops Q (o :: rest) a w := by
  obtain ⟨ia, hi0, hz0, hz1, hz2⟩ := info_parts info_arr
  refine Go.Great.wpList_buildRows hg 24 26 #[(0, .tmp j)] 16 [.agg (fnC 16 c)] ho (fun _ => j) w.heap.size rfl o.dst rfl Tryd.underlying24 (by rw [hi0, ← hz1]; rfl) (by rw [hi0]; show ia.zero.isSome = true; rw [hz0]; rfl) (by decide) (Nat.lt_succ_self 0) (by show 1 * 16 ≤ 2 ^ 24; decide) rfl (fun v hv => by simp at hv; subst hv; exact fnC_size _ _) (fun i hi => ?_) ?_
  · obtain rfl : i = 0 := by simp at hi; exact hi
    exact hv
  · rw [show ([Value.agg (fnC 16 c)].flatMap fun v => v.cells.toList).toArray = fnC 16 c by simp [Value.cells]]
    exact h
theorem wl_build1 {P : Program} {ops : Array Oper} {rest : List Oper} {o : Oper} {a : Act} {w : World} {Q : Exit → Act → World → Prop} (ty : TypeId) (i : Nat) (x : Operand) (v : Value) (ho : o.op = .build ty #[(i, x)]) (hg : o.guard = none) (hx : a.eval x = v) (zs : Array Value) (hz : P.built ty [(i, v)] = some zs)
    (h : wpList P ops Q rest (a.put o.dst (.agg zs)) w) : wpList P ops Q (o :: rest) a w := by
  have e : (P.built ty ((#[(i, x)] : Array (Nat × Operand)).map fun (i, x) => (i, a.eval x)).toList) = some zs := by simpa [hx] using hz
  refine wpList_build hg ty #[(i, x)] ho (by rw [e]; rfl) ?_
  rw [e]
  exact h
theorem Objs.book0 {W w : World} {os : List Obj} (h : Objs W os w) : Objs W (bookO (w.heap.size + 1) 0 startS :: os) ((w.alloc (.map #[] 0)).alloc (.cells (bookC (fun _ _ => 0) w.heap.size) 49)) := by
  refine h.add (F := bkF (w.heap.size + 1) w.heap.size (fun _ => 0) [] (fun _ => False)) (((Below.refl _ _).alloc (Nat.le_refl _) _).alloc (by simp) _)
    ⟨w.heap.size, fun _ => 0, [], ⟨Blkf.new_at _ _ _ _ (by simp), (UMap.new w _).keeps (F := fun _ => False) (Keeps.of_below (ext_alloc' _ _)) (fun h => h), fun k hk => by simp at hk, fun k _ => ⟨rfl, rfl⟩, List.nodup_nil, fun k hk => by simp at hk, fun i j hi => by simp at hi, by omega, fun k hk => by simp at hk⟩, Nat.le_refl _, fun _ => Iff.rfl⟩ (fun b hb => ?_)
  rcases hb with hb | hb | ⟨k, hk, _⟩
  · omega
  · omega
  · simp at hk
theorem clk_one16 (c : Nat → Nat) : ∀ u ∈ (fnC 16 c).toList, u.oneCell' = true := by
  have h := fnC_one 16 c
  rw [Array.all_eq_true_iff_forall_mem] at h
  exact fun u hu => h u (by simpa using hu)
theorem reads_clk (w : World) (t : TypeId) (c : Nat → Nat) (n : Nat) (hn : n = w.heap.size) : Reads (w.alloc (.cells (fnC 16 c) t)) (n + 1) 16 (some ⟨n, 0, none⟩) 1 (fnC 16 c).toList := by
  subst hn
  exact ⟨by simp [fnC_size], fun _ => ⟨_, rfl, Nat.lt_succ_self _, fun j v hj => by
    have hb : Blk (w.alloc (.cells (fnC 16 c) t)) w.heap.size t (fnC 16 c) := Blkf.new_at _ _ _ _ rfl
    have := hb.range j v hj
    rw [Nat.zero_add] at this
    rw [Addr.add_mid, Nat.zero_add]
    exact this⟩⟩
theorem tell_lt (f : Nat → Fc) {k : Nat} (hk : k < 40) (n : Nat) (h : (f k).ok = true) : clockF (runS f k) (f k) n < 1000000 := by
  have e := tell_clk h
  unfold tellC at e
  rw [if_pos h] at e
  rw [e]
  have := clk_le (f := f) k n
  omega
set_option maxRecDepth 100000 in
set_option maxHeartbeats 4000000 in
theorem clocks_any (A : Option Addr) (len cap : Nat) (C : Nat → Array Value) (f : Nat → Fc) (W : World) (hl : len ≤ 40) (h : FsAt W A len C f) :
    Calls Tryd.prog 6 #[.slice A len cap] W fun e w' => ∃ v, e = .returned v ∧ w'.ownsRow W.heap.size 26 16 v len (clC f len) ∧ Below W.heap.size W w' := by
  obtain ⟨ia, hi0, hz0, hz1, hz2⟩ := info_parts info_arr
  have HFS := Lib.hid h
  have HO0 := Lib.hid (((Objs.nil (Below.refl W.heap.size W)).row0 W.heap.size 26 16).book0)
  have hbu := book_built W.heap.size
  have hmm := @run_makeMap Tryd.prog
  clear h
  go_enter Tryd.func6, Tryd.ntmps6
  go_wp2_with (first | ((with_reducible refine wl_build1 49 1 (.tmp 7) (.map (some W.heap.size)) rfl rfl ?_ (bookC (fun _ _ => 0) W.heap.size) hbu ?_); exact rfl))
  generalize W.heap.size + 1 = g at *
  go_loopw [4, 12] (fun v i wr => ∃ k : Nat, k ≤ len ∧ i = .int .i64 (k : Int) ∧ ∃ n, n ≤ 16 * k ∧ Objs W [bookO g n (runS f k), rowO W.heap.size 26 16 k v (clC f k)] wr) (fun _ i _ => len - (intOf i).toNat)
  case atStart => exact ⟨0, by omega, rfl, 0, by omega, HO0.out⟩
  clear HO0
  case round =>
    obtain ⟨k, hk, rfl, n, hn, hO⟩ := hrel
    obtain ⟨A1, cp, rfl⟩ := row_form (hO.owns 1 rfl)
    have HO := Lib.hid hO
    clear hO
    by_cases hkl : k < len
    · obtain ⟨b, o, rfl, hbl, hcc⟩ := HFS.out (by omega)
      obtain ⟨hrg, hfc⟩ := hcc k hkl
      have HC := Lib.hid hfc
      have HRG : Hid (wr.rangeAt b (o + k * 16) (C k).toList) := Lib.hid (fun j v hj => (HO.out.bel.cell (p := ⟨b, o + k * 16 + j, none⟩) hbl).trans (hrg j v hj))
      have hbx : Blk (wr.alloc (.cells (C k) 40)) wr.heap.size 40 (C k) := Blkf.new_at _ _ _ _ rfl
      have c1 : (wr.alloc (.cells (C k) 40)).cell? ⟨wr.heap.size, 1, none⟩ = some (.int .i64 (f k).node) := (hbx.cell 1).trans HC.out.node
      have HBX := Lib.hid hbx
      have HO1 := Lib.hid (HO.out.step (ext_alloc' wr (.cells (C k) 40)))
      have zf := zero_fact
      have hki : (k : Int) < (len : Int) := by omega
      clear HO hbx hrg hfc hcc hbl
      go_wp2_with (first | ((with_reducible refine wl_load 40 (.tmp 14) rfl ?_ b (o + k * 16) (C k) ?_ HRG.out ?_ ?_); exact rfl; exact rfl; exact HC.out.row) | ((with_reducible refine wl_store_new 40 (.tmp 6) (.tmp 15) rfl ?_ wr (World.heap wr).size 40 factZ (C k) ?_ ?_ ?_ ?_ ?_ ?_ ?_ ?_); exact rfl; exact rfl; exact rfl; exact rfl; exact rfl; exact (HC.out.size.symm); exact HC.out.row; exact HC.out.one))
      refine (node_any (f k).node _).mono ?_
      rintro e w2 ⟨rfl, hw2⟩
      rw [hw2] at HBX HO1
      clear c1 HRG zf hw2
      cases hok : (f k).ok with
      | false =>
        have hok' : (decide (0 ≤ (f k).node) && decide ((f k).node < 16)) = false := hok
        have HO2 := Lib.hid (HO1.out.step (ext_alloc' w2 (.cells (fnC 16 (fun _ => 0)) 26)))
        clear HO1
        rw [hok']
        clear hok'
        go_wp2_with (first | ((with_reducible refine wl_build0 26 rfl rfl (fnC 16 (fun _ => 0)) arrz ?_)) | ((with_reducible refine wl_row1 rfl 21 (fun _ => 0) rfl ?_ ?_); exact rfl) | (at_builtin; (refine wpList_append_any _ rfl (.tmp 20) (.tmp 22) _ rfl W.heap.size 26 ia _ 16 128 Tryd.underlying24 hi0 hz0 hz1 hz2 (fnC_size _ _) (by decide) _ k (clC f k) rfl (HO2.out.owns 1 rfl) (w2.heap.size + 1) (some ⟨w2.heap.size, 0, none⟩) 1 1 (fnC 16 (fun _ => 0)).toList rfl (reads_clk _ _ _ _ rfl) (clk_one16 _) (by unfold maxLen; omega) (by omega) (Nat.le_trans HO2.out.bel.size (Nat.le_refl _)) ?_; intro v3 w3 hown hgrow hat; have HF := Lib.hid (HO2.out.grow 1 rfl hown hgrow hat); clear hown hgrow hat)))
        go_roundw
        case rel => exact ⟨k + 1, hkl, by go_num, n, by omega, by
          have h := HF.out
          have e1 : runS f (k + 1) = runS f k := by rw [runS, stepS, if_neg (by rw [hok]; decide)]
          have e2 : tellC f k = fun _ => 0 := by unfold tellC; rw [if_neg (by rw [hok]; decide)]
          rw [e1, clC_succ, e2]
          exact h⟩
        case measure => simp [intOf]; omega
      | true =>
        have hok' : (decide (0 ≤ (f k).node) && decide ((f k).node < 16)) = true := hok
        rw [hok']
        clear hok'
        have hrf := HBX.out.range
        go_wp2_with (first | ((with_reducible refine wl_load 40 (.tmp 6) rfl ?_ (World.heap wr).size 0 (C k) ?_ hrf ?_ ?_); exact rfl; exact rfl; exact HC.out.row))
        clear hrf
        refine (meet_any g n (runS f k) (C k) (f k) [rowO W.heap.size 26 16 k (.slice A1 k cp) (clC f k)] W w2 (by omega) HC.out hok (tell_lt f (by omega) _ hok) HO1.out).mono ?_
        rintro e y3 ⟨rfl, hO3⟩
        have HO3 := Lib.hid (hO3.step (ext_alloc' y3 (.cells (fnC 16 (clockF (runS f k) (f k))) 26)))
        clear hO3 HO1 HBX
        have hsz := (f k).sz_le
        go_wp2_with (first | ((with_reducible refine wl_row1 rfl 27 (clockF (runS f k) (f k)) rfl ?_ ?_); exact rfl) | (at_builtin; (refine wpList_append_any _ rfl (.tmp 24) (.tmp 28) _ rfl W.heap.size 26 ia _ 16 128 Tryd.underlying24 hi0 hz0 hz1 hz2 (fnC_size _ _) (by decide) _ k (clC f k) rfl (HO3.out.owns 1 rfl) (y3.heap.size + 1) (some ⟨y3.heap.size, 0, none⟩) 1 1 (fnC 16 (clockF (runS f k) (f k))).toList rfl (reads_clk _ _ _ _ rfl) (clk_one16 _) (by unfold maxLen; omega) (by omega) (Nat.le_trans HO3.out.bel.size (Nat.le_refl _)) ?_; intro v3 w3 hown hgrow hat; have HF := Lib.hid (HO3.out.grow 1 rfl hown hgrow hat); clear hown hgrow hat)))
        go_roundw
        case rel => exact ⟨k + 1, hkl, by go_num, n + (f k).sz + (f k).sz, by omega, by
          have h := HF.out
          have e2 : tellC f k = clockF (runS f k) (f k) := by unfold tellC; rw [if_pos hok]
          rw [runS, clC_succ, e2]
          exact h⟩
        case measure => simp [intOf]; omega
    · obtain rfl : len = k := by omega
      go_wp2_with fail
      go_ret
      exact ⟨_, rfl, HO.out.owns 1 rfl, HO.out.bel⟩
end Go.Proofs.YtocjapnagggapaaDoor
