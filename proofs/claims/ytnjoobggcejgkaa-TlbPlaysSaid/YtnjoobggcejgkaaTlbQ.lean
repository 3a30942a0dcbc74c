/- The reference's put. -/
import Derived.Test.YtnjoobggcejgkaaTlbO
namespace Go.Proofs.Ytnjoobggcejgkaa
open Go.RowKit

def keepP (s y : Int) (L : List Sl) : List Sl := L.filter (fun x => !atB s y x)
theorem keep_skip {L : List Sl} {k : Nat} {x : Sl} {s y : Int} (h : L[k]? = some x) (hx : atB s y x = true) : keepP s y (L.take (k + 1)) = keepP s y (L.take k) := by
  unfold keepP
  rw [List.take_add_one, h, List.filter_append]
  simp [hx]
theorem keep_step {L : List Sl} {k : Nat} {x : Sl} {s y : Int} (h : L[k]? = some x) (hx : atB s y x = false) : keepP s y (L.take (k + 1)) = keepP s y (L.take k) ++ [x] := by
  unfold keepP
  rw [List.take_add_one, h, List.filter_append]
  simp [hx]
theorem atB_way {x y : Sl} (h : (y.way != x.way) = true) : atB x.set x.way y = false := by
  have : y.way ≠ x.way := by simpa using h
  simp [atB, this]
theorem atB_set {x y : Sl} (h : (y.set != x.set) = true) : atB x.set x.way y = false := by
  have : y.set ≠ x.set := by simpa using h
  simp [atB, this]
theorem keep_length (s y : Int) (L : List Sl) : (keepP s y L).length ≤ L.length := List.length_filter_le _ _
theorem slC_snoc (L : List Sl) (x : Sl) : slC (L ++ [x]) = slC L ++ x.vs := by rw [slC_append]; simp [slC]
theorem ex_row : rowT Try.prog 64 16 = true := by kernel_rfl
theorem ex_one (x : Sl) : (#[.int .i64 x.set, .int .i64 x.way, .int .i64 x.asid, .int .u64 x.page, .bool x.lf.v, .bool x.lf.r, .bool x.lf.w, .bool x.lf.x, .bool x.lf.u, .bool x.lf.g, .bool x.lf.a, .bool x.lf.d, .int .i64 x.lf.rsw, .int .u64 x.lf.ppn, .int .i64 x.lf.lev, .int .u64 x.lf.pos] : Array Value).all (·.oneCell') = true := cs_one x
/-- The reference's buffer holds other slots: nothing but it and new memory is touched. -/
def PutG (W : World) (gx : Nat) (G : Nat → Prop) (n m : Int) (L : List Sl) (w' : World) : Prop :=
  ∃ G', RefG w' gx G' n m L ∧ (∀ b, G' b → G b ∨ W.heap.size ≤ b) ∧ Keeps (fun b => b = gx) W w'
theorem putg_fin {W w : World} {gx base : Nat} {G : Nat → Prop} {n m : Int} {u v : Value} {L : List Sl} (hW : Below W.heap.size W w) (hbase : W.heap.size ≤ base) (hb : Blk W gx 43 #[.int .i64 n, .int .i64 m, u]) (hG : G gx)
    (hGl : ∀ g, G g → g < W.heap.size) (ho : w.ownsRow base 64 16 v L.length (slC L)) : PutG W gx G n m L (w.setCell ⟨gx, 2, none⟩ v) := by
  have hk := (Keeps.refl (fun g => g = gx) w).setCell (p := ⟨gx, 2, none⟩) (.inl rfl) v
  have hk0 : Keeps (fun g => g = gx) W (w.setCell ⟨gx, 2, none⟩ v) := (Keeps.of_below hW).same hk
  have ho2 := hk.row ho (fun g hg e => by have := (ho.lt g hg).1; have := hGl _ hG; omega)
  have hb2 := Blkf.set_ (hb.below hW hb.lt) 2 v
  obtain ⟨A, c, rfl⟩ := row_form ho
  refine ⟨fun g => g < (w.setCell ⟨gx, 2, none⟩ (.slice A L.length c)).heap.size ∧ (G g ∨ W.heap.size ≤ g), ⟨A, c, hb2, RdS.of_own ho2, ⟨Nat.lt_of_lt_of_le (hGl _ hG) hk0.size, .inl hG⟩, fun a e => ?_, fun g hg => hg.1⟩, fun g hg => hg.2, hk0⟩
  subst e
  have h1 := ho2.lt a.block rfl
  exact ⟨h1.2, .inr (Nat.le_trans hbase h1.1)⟩
set_option maxRecDepth 20000 in
set_option maxHeartbeats 4000000 in
theorem rput_any (gx : Nat) (nn mm : Int) (x : Sl) (G : Nat → Prop) (L : List Sl) (W : World) (hL : L.length ≤ 512) (h : RefG W gx G nn mm L) :
    Calls Try.prog 25 #[.pointer (some ⟨gx, 0, none⟩), .agg x.cs] W fun e w' => e = .returned (.tuple #[]) ∧ PutG W gx G nn mm (keepP x.set x.way L ++ [x]) w' := by
  obtain ⟨A, c, hb, hr, hG, _, hGl⟩ := h
  obtain ⟨i0, hi0, hz0, hz1, hz2⟩ := info_parts info_sl
  have hal := (Below.refl W.heap.size W).alloc (Nat.le_refl _) (.cells #[.int .i64 x.set, .int .i64 x.way, .int .i64 x.asid, .int .u64 x.page, .bool x.lf.v, .bool x.lf.r, .bool x.lf.w, .bool x.lf.x, .bool x.lf.u, .bool x.lf.g, .bool x.lf.a, .bool x.lf.d, .int .i64 x.lf.rsw, .int .u64 x.lf.ppn, .int .i64 x.lf.lev, .int .u64 x.lf.pos] 64)
  have HX := Lib.hid hb
  have HG := Lib.hid hG
  have HGL := Lib.hid hGl
  have HXL := Lib.hid hb.lt
  have c2 : (W.alloc (.cells #[.int .i64 x.set, .int .i64 x.way, .int .i64 x.asid, .int .u64 x.page, .bool x.lf.v, .bool x.lf.r, .bool x.lf.w, .bool x.lf.x, .bool x.lf.u, .bool x.lf.g, .bool x.lf.a, .bool x.lf.d, .int .i64 x.lf.rsw, .int .u64 x.lf.ppn, .int .i64 x.lf.lev, .int .u64 x.lf.pos] 64)).cell? ⟨gx, 2, none⟩ = some (.slice A L.length c) := (hb.alloc _).cell 2
  have HA0 := Lib.hid hal
  have HRW := Lib.hid (hr.below hal)
  have HBX := Lib.hid (Blkf.new_at W 64 (0, 0) #[.int .i64 x.set, .int .i64 x.way, .int .i64 x.asid, .int .u64 x.page, .bool x.lf.v, .bool x.lf.r, .bool x.lf.w, .bool x.lf.x, .bool x.lf.u, .bool x.lf.g, .bool x.lf.a, .bool x.lf.d, .int .i64 x.lf.rsw, .int .u64 x.lf.ppn, .int .i64 x.lf.lev, .int .u64 x.lf.pos] rfl)
  obtain ⟨n, hn⟩ : ∃ n, n = L.length := ⟨_, rfl⟩
  have HN := Lib.hid hn
  rw [← hn] at c2 hL
  rw [show Value.agg x.cs = .agg #[.int .i64 x.set, .int .i64 x.way, .int .i64 x.asid, .int .u64 x.page, .bool x.lf.v, .bool x.lf.r, .bool x.lf.w, .bool x.lf.x, .bool x.lf.u, .bool x.lf.g, .bool x.lf.a, .bool x.lf.d, .int .i64 x.lf.rsw, .int .u64 x.lf.ppn, .int .i64 x.lf.lev, .int .u64 x.lf.pos] from rfl]
  have HNL : Hid (n ≤ 512) := Lib.hid hL
  have hs0 : (W.alloc (.cells #[.int .i64 x.set, .int .i64 x.way, .int .i64 x.asid, .int .u64 x.page, .bool x.lf.v, .bool x.lf.r, .bool x.lf.w, .bool x.lf.x, .bool x.lf.u, .bool x.lf.g, .bool x.lf.a, .bool x.lf.d, .int .i64 x.lf.rsw, .int .u64 x.lf.ppn, .int .i64 x.lf.lev, .int .u64 x.lf.pos] 64)).heap.size = W.heap.size + 1 := by simp
  have HS0 := Lib.hid hs0
  clear hb hr hG hGl hal hn hL hs0
  go_enter Try.func25, Try.ntmps25
  go_wp2_with fail
  generalize W.alloc (.cells #[.int .i64 x.set, .int .i64 x.way, .int .i64 x.asid, .int .u64 x.page, .bool x.lf.v, .bool x.lf.r, .bool x.lf.w, .bool x.lf.x, .bool x.lf.u, .bool x.lf.g, .bool x.lf.a, .bool x.lf.d, .int .i64 x.lf.rsw, .int .u64 x.lf.ppn, .int .i64 x.lf.lev, .int .u64 x.lf.pos] 64) = W0 at *
  go_loopw [4, 12] (fun v i wr => ∃ k : Nat, k ≤ n ∧ i = .int .i64 k ∧ wr.ownsRow (W.heap.size + 1) 64 16 v (keepP x.set x.way (L.take k)).length (slC (keepP x.set x.way (L.take k))) ∧ Below (W.heap.size + 1) W0 wr) (fun _ i _ => n - (intOf i).toNat)
  case atStart => exact ⟨0, by omega, rfl, World.ownsRow_nil _ _ _ _, Below.refl _ _⟩
  clear c2
  case round =>
    obtain ⟨k, hk, rfl, ho, hbel⟩ := hrel
    obtain ⟨Av, cv, hv⟩ := row_form ho
    subst hv
    have hbel0 : Below W0.heap.size W0 wr := by rw [HS0.out]; exact hbel
    have HO := Lib.hid ho
    have HB := Lib.hid hbel
    have HBXr := Lib.hid (HBX.out.below hbel0 HBX.out.lt)
    have hsz : W.heap.size + 1 ≤ wr.heap.size := by have := hbel0.size; rw [HS0.out] at this; exact this
    have HSZ := Lib.hid hsz
    have hlen : (keepP x.set x.way (L.take k)).length ≤ n := Nat.le_trans (keep_length _ _ _) (by rw [List.length_take, HN.out]; exact Nat.min_le_right _ _)
    have HLN := Lib.hid hlen
    clear hbel ho hlen
    have hnb := HNL.out
    by_cases hkl : k < n
    · obtain ⟨y, hy⟩ : ∃ y, L[k]? = some y := ⟨_, List.getElem?_eq_getElem (by rw [← HN.out]; exact hkl)⟩
      obtain ⟨b, e, hrg⟩ := HRW.out.range (fun e => by rw [e] at hy; simp at hy)
      obtain rfl : A = some ⟨b, 0, none⟩ := by injection e
      clear e
      have HRG : Hid (wr.rangeAt b (k * 16) #[.int .i64 y.set, .int .i64 y.way, .int .i64 y.asid, .int .u64 y.page, .bool y.lf.v, .bool y.lf.r, .bool y.lf.w, .bool y.lf.x, .bool y.lf.u, .bool y.lf.g, .bool y.lf.a, .bool y.lf.d, .int .i64 y.lf.rsw, .int .u64 y.lf.ppn, .int .i64 y.lf.lev, .int .u64 y.lf.pos].toList) := Lib.hid (range_below (hrg k y hy) hbel0)
      have HY := Lib.hid hy
      clear hrg hy hbel0
      have hyc := Blkf.new_at wr 64 (0, 0) #[.int .i64 y.set, .int .i64 y.way, .int .i64 y.asid, .int .u64 y.page, .bool y.lf.v, .bool y.lf.r, .bool y.lf.w, .bool y.lf.x, .bool y.lf.u, .bool y.lf.g, .bool y.lf.a, .bool y.lf.d, .int .i64 y.lf.rsw, .int .u64 y.lf.ppn, .int .i64 y.lf.lev, .int .u64 y.lf.pos] rfl
      have HYB := Lib.hid hyc
      have y0 := hyc.cell 0
      have y1 := hyc.cell 1
      have x0 := (HBXr.out.alloc (.cells #[.int .i64 y.set, .int .i64 y.way, .int .i64 y.asid, .int .u64 y.page, .bool y.lf.v, .bool y.lf.r, .bool y.lf.w, .bool y.lf.x, .bool y.lf.u, .bool y.lf.g, .bool y.lf.a, .bool y.lf.d, .int .i64 y.lf.rsw, .int .u64 y.lf.ppn, .int .i64 y.lf.lev, .int .u64 y.lf.pos] 64)).cell 0
      have x1 := (HBXr.out.alloc (.cells #[.int .i64 y.set, .int .i64 y.way, .int .i64 y.asid, .int .u64 y.page, .bool y.lf.v, .bool y.lf.r, .bool y.lf.w, .bool y.lf.x, .bool y.lf.u, .bool y.lf.g, .bool y.lf.a, .bool y.lf.d, .int .i64 y.lf.rsw, .int .u64 y.lf.ppn, .int .i64 y.lf.lev, .int .u64 y.lf.pos] 64)).cell 1
      simp only [List.getElem?_toArray, List.getElem?_cons_zero, List.getElem?_cons_succ] at y0 y1 x0 x1
      have HOA := Lib.hid (HO.out.alloc (.cells #[.int .i64 y.set, .int .i64 y.way, .int .i64 y.asid, .int .u64 y.page, .bool y.lf.v, .bool y.lf.r, .bool y.lf.w, .bool y.lf.x, .bool y.lf.u, .bool y.lf.g, .bool y.lf.a, .bool y.lf.d, .int .i64 y.lf.rsw, .int .u64 y.lf.ppn, .int .i64 y.lf.lev, .int .u64 y.lf.pos] 64))
      have HBA := Lib.hid (HB.out.alloc hsz (.cells #[.int .i64 y.set, .int .i64 y.way, .int .i64 y.asid, .int .u64 y.page, .bool y.lf.v, .bool y.lf.r, .bool y.lf.w, .bool y.lf.x, .bool y.lf.u, .bool y.lf.g, .bool y.lf.a, .bool y.lf.d, .int .i64 y.lf.rsw, .int .u64 y.lf.ppn, .int .i64 y.lf.lev, .int .u64 y.lf.pos] 64))
      clear hyc
      cases h1 : (y.set != x.set)
      · have e1 : y.set = x.set := by simpa using h1
        cases h2 : (y.way != x.way)
        · have e2 : y.way = x.way := by simpa using h2
          have HK : Hid (keepP x.set x.way (L.take (k + 1)) = keepP x.set x.way (L.take k)) := Lib.hid (keep_skip HY.out (by unfold atB; rw [e1, e2]; simp))
          clear e1 e2
          go_wp2_with (first | ((with_reducible refine wl_load 64 (.tmp 14) rfl ?_ b (k * 16) #[.int .i64 y.set, .int .i64 y.way, .int .i64 y.asid, .int .u64 y.page, .bool y.lf.v, .bool y.lf.r, .bool y.lf.w, .bool y.lf.x, .bool y.lf.u, .bool y.lf.g, .bool y.lf.a, .bool y.lf.d, .int .i64 y.lf.rsw, .int .u64 y.lf.ppn, .int .i64 y.lf.lev, .int .u64 y.lf.pos] ?_ HRG.out ?_ ?_); exact rfl; exact rfl; exact ex_row) | ((with_reducible refine wl_store_new 64 (.tmp 6) (.tmp 15) rfl ?_ wr (World.heap wr).size 64 #[.int .i64 0, .int .i64 0, .int .i64 0, .int .u64 0, .bool false, .bool false, .bool false, .bool false, .bool false, .bool false, .bool false, .bool false, .int .i64 0, .int .u64 0, .int .i64 0, .int .u64 0] #[.int .i64 y.set, .int .i64 y.way, .int .i64 y.asid, .int .u64 y.page, .bool y.lf.v, .bool y.lf.r, .bool y.lf.w, .bool y.lf.x, .bool y.lf.u, .bool y.lf.g, .bool y.lf.a, .bool y.lf.d, .int .i64 y.lf.rsw, .int .u64 y.lf.ppn, .int .i64 y.lf.lev, .int .u64 y.lf.pos] ?_ ?_ ?_ ?_ ?_ ?_ ?_ ?_); exact rfl; exact rfl; exact rfl; exact rfl; exact rfl; exact rfl; exact ex_row; exact ex_one y))
          go_roundw
          case rel => exact ⟨k + 1, hkl, by go_num, by rw [HK.out]; exact HOA.out, HBA.out⟩
          case measure => simp [intOf]; omega
        · have HK : Hid (keepP x.set x.way (L.take (k + 1)) = keepP x.set x.way (L.take k) ++ [y]) := Lib.hid (keep_step HY.out (atB_way h2))
          clear e1
          generalize keepP x.set x.way (L.take k) = N at *
          go_wp2_with (first | ((with_reducible refine wl_load 64 (.tmp 14) rfl ?_ b (k * 16) #[.int .i64 y.set, .int .i64 y.way, .int .i64 y.asid, .int .u64 y.page, .bool y.lf.v, .bool y.lf.r, .bool y.lf.w, .bool y.lf.x, .bool y.lf.u, .bool y.lf.g, .bool y.lf.a, .bool y.lf.d, .int .i64 y.lf.rsw, .int .u64 y.lf.ppn, .int .i64 y.lf.lev, .int .u64 y.lf.pos] ?_ HRG.out ?_ ?_); exact rfl; exact rfl; exact ex_row) | ((with_reducible refine wl_store_new 64 (.tmp 6) (.tmp 15) rfl ?_ wr (World.heap wr).size 64 #[.int .i64 0, .int .i64 0, .int .i64 0, .int .u64 0, .bool false, .bool false, .bool false, .bool false, .bool false, .bool false, .bool false, .bool false, .int .i64 0, .int .u64 0, .int .i64 0, .int .u64 0] #[.int .i64 y.set, .int .i64 y.way, .int .i64 y.asid, .int .u64 y.page, .bool y.lf.v, .bool y.lf.r, .bool y.lf.w, .bool y.lf.x, .bool y.lf.u, .bool y.lf.g, .bool y.lf.a, .bool y.lf.d, .int .i64 y.lf.rsw, .int .u64 y.lf.ppn, .int .i64 y.lf.lev, .int .u64 y.lf.pos] ?_ ?_ ?_ ?_ ?_ ?_ ?_ ?_); exact rfl; exact rfl; exact rfl; exact rfl; exact rfl; exact rfl; exact ex_row; exact ex_one y) | ((with_reducible refine wl_load 64 (.tmp 6) rfl ?_ wr.heap.size 0 #[.int .i64 y.set, .int .i64 y.way, .int .i64 y.asid, .int .u64 y.page, .bool y.lf.v, .bool y.lf.r, .bool y.lf.w, .bool y.lf.x, .bool y.lf.u, .bool y.lf.g, .bool y.lf.a, .bool y.lf.d, .int .i64 y.lf.rsw, .int .u64 y.lf.ppn, .int .i64 y.lf.lev, .int .u64 y.lf.pos] ?_ HYB.out.range ?_ ?_); exact rfl; exact rfl; exact ex_row) | (at_builtin; (refine wpList_append_any _ rfl (.tmp 28) (.tmp 30) _ rfl (W.heap.size + 1) 64 i0 _ 16 72 Try.underlying39 hi0 hz0 hz1 hz2 rfl (by decide) _ N.length (slC N) rfl ((HO.out.alloc _).alloc _) (wr.heap.size + 1 + 1) (some ⟨wr.heap.size + 1, 0, none⟩) 1 1 (Sl.vs y) rfl (reads_sl_at _ _ y (wr.heap.size + 1) (by simp)) (one_sl _) (by unfold maxLen; have := HNL.out; have := HLN.out; omega) (by have := HNL.out; have := HLN.out; omega) (by simp; omega) ?_; intro v3 w3 hown hgrow hat; have HOWN := Lib.hid hown; have HE5 := Lib.hid ((HBA.out.alloc (Nat.le_trans HSZ.out (by simp)) _).grown hgrow (by have := HSZ.out; simp; omega) (fun g hg => (HO.out.lt g hg).1)); clear hown hgrow hat)))
          go_roundw
          case rel =>
            refine ⟨k + 1, hkl, by go_num, ?_, HE5.out⟩
            rw [HK.out, slC_snoc, List.length_append]
            exact HOWN.out
          case measure => simp [intOf]; omega
      · have HK : Hid (keepP x.set x.way (L.take (k + 1)) = keepP x.set x.way (L.take k) ++ [y]) := Lib.hid (keep_step HY.out (atB_set h1))
        generalize keepP x.set x.way (L.take k) = N at *
        go_wp2_with (first | ((with_reducible refine wl_load 64 (.tmp 14) rfl ?_ b (k * 16) #[.int .i64 y.set, .int .i64 y.way, .int .i64 y.asid, .int .u64 y.page, .bool y.lf.v, .bool y.lf.r, .bool y.lf.w, .bool y.lf.x, .bool y.lf.u, .bool y.lf.g, .bool y.lf.a, .bool y.lf.d, .int .i64 y.lf.rsw, .int .u64 y.lf.ppn, .int .i64 y.lf.lev, .int .u64 y.lf.pos] ?_ HRG.out ?_ ?_); exact rfl; exact rfl; exact ex_row) | ((with_reducible refine wl_store_new 64 (.tmp 6) (.tmp 15) rfl ?_ wr (World.heap wr).size 64 #[.int .i64 0, .int .i64 0, .int .i64 0, .int .u64 0, .bool false, .bool false, .bool false, .bool false, .bool false, .bool false, .bool false, .bool false, .int .i64 0, .int .u64 0, .int .i64 0, .int .u64 0] #[.int .i64 y.set, .int .i64 y.way, .int .i64 y.asid, .int .u64 y.page, .bool y.lf.v, .bool y.lf.r, .bool y.lf.w, .bool y.lf.x, .bool y.lf.u, .bool y.lf.g, .bool y.lf.a, .bool y.lf.d, .int .i64 y.lf.rsw, .int .u64 y.lf.ppn, .int .i64 y.lf.lev, .int .u64 y.lf.pos] ?_ ?_ ?_ ?_ ?_ ?_ ?_ ?_); exact rfl; exact rfl; exact rfl; exact rfl; exact rfl; exact rfl; exact ex_row; exact ex_one y) | ((with_reducible refine wl_load 64 (.tmp 6) rfl ?_ wr.heap.size 0 #[.int .i64 y.set, .int .i64 y.way, .int .i64 y.asid, .int .u64 y.page, .bool y.lf.v, .bool y.lf.r, .bool y.lf.w, .bool y.lf.x, .bool y.lf.u, .bool y.lf.g, .bool y.lf.a, .bool y.lf.d, .int .i64 y.lf.rsw, .int .u64 y.lf.ppn, .int .i64 y.lf.lev, .int .u64 y.lf.pos] ?_ HYB.out.range ?_ ?_); exact rfl; exact rfl; exact ex_row) | (at_builtin; (refine wpList_append_any _ rfl (.tmp 28) (.tmp 30) _ rfl (W.heap.size + 1) 64 i0 _ 16 72 Try.underlying39 hi0 hz0 hz1 hz2 rfl (by decide) _ N.length (slC N) rfl ((HO.out.alloc _).alloc _) (wr.heap.size + 1 + 1) (some ⟨wr.heap.size + 1, 0, none⟩) 1 1 (Sl.vs y) rfl (reads_sl_at _ _ y (wr.heap.size + 1) (by simp)) (one_sl _) (by unfold maxLen; have := HNL.out; have := HLN.out; omega) (by have := HNL.out; have := HLN.out; omega) (by simp; omega) ?_; intro v3 w3 hown hgrow hat; have HOWN := Lib.hid hown; have HE5 := Lib.hid ((HBA.out.alloc (Nat.le_trans HSZ.out (by simp)) _).grown hgrow (by have := HSZ.out; simp; omega) (fun g hg => (HO.out.lt g hg).1)); clear hown hgrow hat)))
        go_roundw
        case rel =>
            refine ⟨k + 1, hkl, by go_num, ?_, HE5.out⟩
            rw [HK.out, slC_snoc, List.length_append]
            exact HOWN.out
        case measure => simp [intOf]; omega
    · obtain rfl : n = k := by omega
      have HK : Hid (keepP x.set x.way (L.take n) = keepP x.set x.way L) := Lib.hid (by rw [List.take_of_length_le (by rw [HN.out]; exact Nat.le_refl _)])
      rw [HK.out] at HO HLN ⊢
      clear HK
      have hx2 := (HX.out.below (HA0.out.trans (Below.mono hbel0 (by rw [HS0.out]; omega))) HXL.out)
      have HX2 := Lib.hid hx2
      have HWW : Hid (Below W.heap.size W wr) := Lib.hid (HA0.out.trans (Below.mono hbel0 (by rw [HS0.out]; omega)))
      clear hx2 hbel0
      obtain ⟨N, hNE⟩ : ∃ N, keepP x.set x.way L = N := ⟨_, rfl⟩
      rw [hNE] at HO HLN ⊢
      have HNE := Lib.hid hNE
      clear hNE
      go_wp2_with (first | ((with_reducible refine wl_load 64 (.tmp 3) rfl ?_ W.heap.size 0 #[.int .i64 x.set, .int .i64 x.way, .int .i64 x.asid, .int .u64 x.page, .bool x.lf.v, .bool x.lf.r, .bool x.lf.w, .bool x.lf.x, .bool x.lf.u, .bool x.lf.g, .bool x.lf.a, .bool x.lf.d, .int .i64 x.lf.rsw, .int .u64 x.lf.ppn, .int .i64 x.lf.lev, .int .u64 x.lf.pos] ?_ HBXr.out.range ?_ ?_); exact rfl; exact rfl; exact ex_row) | (at_builtin; (refine wpList_append_any _ rfl (.tmp 34) (.tmp 36) _ rfl (W.heap.size + 1) 64 i0 _ 16 72 Try.underlying39 hi0 hz0 hz1 hz2 rfl (by decide) _ N.length (slC N) rfl (HO.out.alloc _) (wr.heap.size + 1) (some ⟨wr.heap.size, 0, none⟩) 1 1 (Sl.vs x) rfl (reads_sl_at _ _ x (wr.heap.size) rfl) (one_sl _) (by unfold maxLen; have := HNL.out; have := HLN.out; omega) (by have := HNL.out; have := HLN.out; omega) (by simp; omega) ?_; intro v3 w3 hown hgrow hat; have HW3 := Lib.hid ((HWW.out.alloc HWW.out.size _).grown hgrow (by have := HSZ.out; simp; omega) (fun g hg => Nat.le_trans (Nat.le_succ _) (HO.out.lt g hg).1)); have hb3 := HX.out.below HW3.out HXL.out; have f13 := Blk.frozen hb3 2; have c13 : w3.cell? ⟨gx, 2, none⟩ = some (.slice A L.length c) := hb3.cell 2; have l13 := hb3.lt; obtain ⟨A3, c3, hv3⟩ := row_form hown; subst hv3; have HOWN := Lib.hid hown; clear hown hgrow hat hb3)))
      refine bodyPost_end (results_none rfl _ _ _) rfl ?_
      rw [HNE.out]
      refine ⟨rfl, putg_fin HW3.out (Nat.le_succ _) HX.out HG.out HGL.out ?_⟩
      rw [slC_snoc, List.length_append]
      exact HOWN.out
end Go.Proofs.Ytnjoobggcejgkaa
