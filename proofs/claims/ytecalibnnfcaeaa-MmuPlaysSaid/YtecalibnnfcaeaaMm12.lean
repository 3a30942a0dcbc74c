/- Merged texts: TlbQ, TlbR. -/
import Derived.Test.YtecalibnnfcaeaaMm11
/- The reference's put. -/
namespace Go.Proofs.Ytecalibnnfcaeaa
open Go.RowKit

def keepP (s y : Int) (L : List Sl) : List Sl := L.filter (fun x => !atB s y x)
theorem keep_skip {L : List Sl} {k : Nat} {x : Sl} {s y : Int} (h : L[k]? = some x) (hx : atB s y x = true) : keepP s y (L.take (k + 1)) = keepP s y (L.take k) := by
  unfold keepP
  rw [List.take_add_one, h, List.filter_append]
  simp [hx]
theorem keep_step {L : List Sl} {k : Nat} {x : Sl} {s y : Int} (h : L[k]? = some x) (hx : atB s y x = false) : keepP s y (L.take (k + 1)) = keepP s y (L.take k) ++ [x] := by
  unfold keepP
  rw [List.take_add_one, h, List.filter_append]
  simp [hx]
theorem atB_way {x y : Sl} (h : (y.way != x.way) = true) : atB x.set x.way y = false := by
  have : y.way ≠ x.way := by simpa using h
  simp [atB, this]
theorem atB_set {x y : Sl} (h : (y.set != x.set) = true) : atB x.set x.way y = false := by
  have : y.set ≠ x.set := by simpa using h
  simp [atB, this]
theorem keep_length (s y : Int) (L : List Sl) : (keepP s y L).length ≤ L.length := List.length_filter_le _ _
theorem slC_snoc (L : List Sl) (x : Sl) : slC (L ++ [x]) = slC L ++ x.vs := by rw [slC_append]; simp [slC]
theorem ex_row : rowT Try.prog 99 16 = true := by kernel_rfl
theorem ex_one (x : Sl) : (#[.int .i64 x.set, .int .i64 x.way, .int .i64 x.asid, .int .u64 x.page, .bool x.lf.v, .bool x.lf.r, .bool x.lf.w, .bool x.lf.x, .bool x.lf.u, .bool x.lf.g, .bool x.lf.a, .bool x.lf.d, .int .i64 x.lf.rsw, .int .u64 x.lf.ppn, .int .i64 x.lf.lev, .int .u64 x.lf.pos] : Array Value).all (·.oneCell') = true := cs_one x
/-- The reference's buffer holds other slots: nothing but it and new memory is touched. -/
def PutG (W : World) (gx : Nat) (G : Nat → Prop) (n m : Int) (L : List Sl) (w' : World) : Prop :=
  ∃ G', RefG w' gx G' n m L ∧ (∀ b, G' b → G b ∨ W.heap.size ≤ b) ∧ Keeps (fun b => b = gx) W w'
theorem putg_fin {W w : World} {gx base : Nat} {G : Nat → Prop} {n m : Int} {u v : Value} {L : List Sl} (hW : Below W.heap.size W w) (hbase : W.heap.size ≤ base) (hb : Blk W gx 40 #[.int .i64 n, .int .i64 m, u]) (hG : G gx)
    (hGl : ∀ g, G g → g < W.heap.size) (ho : w.ownsRow base 99 16 v L.length (slC L)) : PutG W gx G n m L (w.setCell ⟨gx, 2, none⟩ v) := by
  have hk := (Keeps.refl (fun g => g = gx) w).setCell (p := ⟨gx, 2, none⟩) (.inl rfl) v
  have hk0 : Keeps (fun g => g = gx) W (w.setCell ⟨gx, 2, none⟩ v) := (Keeps.of_below hW).same hk
  have ho2 := hk.row ho (fun g hg e => by have := (ho.lt g hg).1; have := hGl _ hG; omega)
  have hb2 := Blkf.set_ (hb.below hW hb.lt) 2 v
  obtain ⟨A, c, rfl⟩ := tlb_row_form ho
  refine ⟨fun g => g < (w.setCell ⟨gx, 2, none⟩ (.slice A L.length c)).heap.size ∧ (G g ∨ W.heap.size ≤ g), ⟨A, c, hb2, RdS.of_own ho2, ⟨Nat.lt_of_lt_of_le (hGl _ hG) hk0.size, .inl hG⟩, fun a e => ?_, fun g hg => hg.1⟩, fun g hg => hg.2, hk0⟩
  subst e
  have h1 := ho2.lt a.block rfl
  exact ⟨h1.2, .inr (Nat.le_trans hbase h1.1)⟩
set_option maxRecDepth 20000 in
set_option maxHeartbeats 4000000 in
theorem tlb_rput_any (gx : Nat) (nn mm : Int) (x : Sl) (G : Nat → Prop) (L : List Sl) (W : World) (hL : L.length ≤ 512) (h : RefG W gx G nn mm L) :
    Calls Try.prog 70 #[.pointer (some ⟨gx, 0, none⟩), .agg x.cs] W fun e w' => e = .returned (.tuple #[]) ∧ PutG W gx G nn mm (keepP x.set x.way L ++ [x]) w' := by
  obtain ⟨A, c, hb, hr, hG, _, hGl⟩ := h
  obtain ⟨i0, hi0, hz0, hz1, hz2⟩ := info_parts info_sl
  have hal := (Below.refl W.heap.size W).alloc (Nat.le_refl _) (.cells #[.int .i64 x.set, .int .i64 x.way, .int .i64 x.asid, .int .u64 x.page, .bool x.lf.v, .bool x.lf.r, .bool x.lf.w, .bool x.lf.x, .bool x.lf.u, .bool x.lf.g, .bool x.lf.a, .bool x.lf.d, .int .i64 x.lf.rsw, .int .u64 x.lf.ppn, .int .i64 x.lf.lev, .int .u64 x.lf.pos] 99)
  have HX := Lib.hid hb
  have HG := Lib.hid hG
  have HGL := Lib.hid hGl
  have HXL := Lib.hid hb.lt
  have c2 : (W.alloc (.cells #[.int .i64 x.set, .int .i64 x.way, .int .i64 x.asid, .int .u64 x.page, .bool x.lf.v, .bool x.lf.r, .bool x.lf.w, .bool x.lf.x, .bool x.lf.u, .bool x.lf.g, .bool x.lf.a, .bool x.lf.d, .int .i64 x.lf.rsw, .int .u64 x.lf.ppn, .int .i64 x.lf.lev, .int .u64 x.lf.pos] 99)).cell? ⟨gx, 2, none⟩ = some (.slice A L.length c) := (hb.alloc _).cell 2
  have HA0 := Lib.hid hal
  have HRW := Lib.hid (hr.below hal)
  have HBX := Lib.hid (Blkf.new_at W 99 (0, 0) #[.int .i64 x.set, .int .i64 x.way, .int .i64 x.asid, .int .u64 x.page, .bool x.lf.v, .bool x.lf.r, .bool x.lf.w, .bool x.lf.x, .bool x.lf.u, .bool x.lf.g, .bool x.lf.a, .bool x.lf.d, .int .i64 x.lf.rsw, .int .u64 x.lf.ppn, .int .i64 x.lf.lev, .int .u64 x.lf.pos] rfl)
  obtain ⟨n, hn⟩ : ∃ n, n = L.length := ⟨_, rfl⟩
  have HN := Lib.hid hn
  rw [← hn] at c2 hL
  rw [show Value.agg x.cs = .agg #[.int .i64 x.set, .int .i64 x.way, .int .i64 x.asid, .int .u64 x.page, .bool x.lf.v, .bool x.lf.r, .bool x.lf.w, .bool x.lf.x, .bool x.lf.u, .bool x.lf.g, .bool x.lf.a, .bool x.lf.d, .int .i64 x.lf.rsw, .int .u64 x.lf.ppn, .int .i64 x.lf.lev, .int .u64 x.lf.pos] from rfl]
  have HNL : Hid (n ≤ 512) := Lib.hid hL
  have hs0 : (W.alloc (.cells #[.int .i64 x.set, .int .i64 x.way, .int .i64 x.asid, .int .u64 x.page, .bool x.lf.v, .bool x.lf.r, .bool x.lf.w, .bool x.lf.x, .bool x.lf.u, .bool x.lf.g, .bool x.lf.a, .bool x.lf.d, .int .i64 x.lf.rsw, .int .u64 x.lf.ppn, .int .i64 x.lf.lev, .int .u64 x.lf.pos] 99)).heap.size = W.heap.size + 1 := by simp
  have HS0 := Lib.hid hs0
  clear hb hr hG hGl hal hn hL hs0
  go_enter Try.func70, Try.ntmps70
  go_wp2_with fail
  generalize W.alloc (.cells #[.int .i64 x.set, .int .i64 x.way, .int .i64 x.asid, .int .u64 x.page, .bool x.lf.v, .bool x.lf.r, .bool x.lf.w, .bool x.lf.x, .bool x.lf.u, .bool x.lf.g, .bool x.lf.a, .bool x.lf.d, .int .i64 x.lf.rsw, .int .u64 x.lf.ppn, .int .i64 x.lf.lev, .int .u64 x.lf.pos] 99) = W0 at *
  go_loopw [4, 12] (fun v i wr => ∃ k : Nat, k ≤ n ∧ i = .int .i64 k ∧ wr.ownsRow (W.heap.size + 1) 99 16 v (keepP x.set x.way (L.take k)).length (slC (keepP x.set x.way (L.take k))) ∧ Below (W.heap.size + 1) W0 wr) (fun _ i _ => n - (intOf i).toNat)
  case atStart => exact ⟨0, by omega, rfl, World.ownsRow_nil _ _ _ _, Below.refl _ _⟩
  clear c2
  case round =>
    obtain ⟨k, hk, rfl, ho, hbel⟩ := hrel
    obtain ⟨Av, cv, hv⟩ := tlb_row_form ho
    subst hv
    have hbel0 : Below W0.heap.size W0 wr := by rw [HS0.out]; exact hbel
    have HO := Lib.hid ho
    have HB := Lib.hid hbel
    have HBXr := Lib.hid (HBX.out.below hbel0 HBX.out.lt)
    have hsz : W.heap.size + 1 ≤ wr.heap.size := by have := hbel0.size; rw [HS0.out] at this; exact this
    have HSZ := Lib.hid hsz
    have hlen : (keepP x.set x.way (L.take k)).length ≤ n := Nat.le_trans (keep_length _ _ _) (by rw [List.length_take, HN.out]; exact Nat.min_le_right _ _)
    have HLN := Lib.hid hlen
    clear hbel ho hlen
    have hnb := HNL.out
    by_cases hkl : k < n
    · obtain ⟨y, hy⟩ : ∃ y, L[k]? = some y := ⟨_, List.getElem?_eq_getElem (by rw [← HN.out]; exact hkl)⟩
      obtain ⟨b, e, hrg⟩ := HRW.out.range (fun e => by rw [e] at hy; simp at hy)
      obtain rfl : A = some ⟨b, 0, none⟩ := by injection e
      clear e
      have HRG : Hid (wr.rangeAt b (k * 16) #[.int .i64 y.set, .int .i64 y.way, .int .i64 y.asid, .int .u64 y.page, .bool y.lf.v, .bool y.lf.r, .bool y.lf.w, .bool y.lf.x, .bool y.lf.u, .bool y.lf.g, .bool y.lf.a, .bool y.lf.d, .int .i64 y.lf.rsw, .int .u64 y.lf.ppn, .int .i64 y.lf.lev, .int .u64 y.lf.pos].toList) := Lib.hid (range_below (hrg k y hy) hbel0)
      have HY := Lib.hid hy
      clear hrg hy hbel0
      have hyc := Blkf.new_at wr 99 (0, 0) #[.int .i64 y.set, .int .i64 y.way, .int .i64 y.asid, .int .u64 y.page, .bool y.lf.v, .bool y.lf.r, .bool y.lf.w, .bool y.lf.x, .bool y.lf.u, .bool y.lf.g, .bool y.lf.a, .bool y.lf.d, .int .i64 y.lf.rsw, .int .u64 y.lf.ppn, .int .i64 y.lf.lev, .int .u64 y.lf.pos] rfl
      have HYB := Lib.hid hyc
      have y0 := hyc.cell 0
      have y1 := hyc.cell 1
      have x0 := (HBXr.out.alloc (.cells #[.int .i64 y.set, .int .i64 y.way, .int .i64 y.asid, .int .u64 y.page, .bool y.lf.v, .bool y.lf.r, .bool y.lf.w, .bool y.lf.x, .bool y.lf.u, .bool y.lf.g, .bool y.lf.a, .bool y.lf.d, .int .i64 y.lf.rsw, .int .u64 y.lf.ppn, .int .i64 y.lf.lev, .int .u64 y.lf.pos] 99)).cell 0
      have x1 := (HBXr.out.alloc (.cells #[.int .i64 y.set, .int .i64 y.way, .int .i64 y.asid, .int .u64 y.page, .bool y.lf.v, .bool y.lf.r, .bool y.lf.w, .bool y.lf.x, .bool y.lf.u, .bool y.lf.g, .bool y.lf.a, .bool y.lf.d, .int .i64 y.lf.rsw, .int .u64 y.lf.ppn, .int .i64 y.lf.lev, .int .u64 y.lf.pos] 99)).cell 1
      simp only [List.getElem?_toArray, List.getElem?_cons_zero, List.getElem?_cons_succ] at y0 y1 x0 x1
      have HOA := Lib.hid (HO.out.alloc (.cells #[.int .i64 y.set, .int .i64 y.way, .int .i64 y.asid, .int .u64 y.page, .bool y.lf.v, .bool y.lf.r, .bool y.lf.w, .bool y.lf.x, .bool y.lf.u, .bool y.lf.g, .bool y.lf.a, .bool y.lf.d, .int .i64 y.lf.rsw, .int .u64 y.lf.ppn, .int .i64 y.lf.lev, .int .u64 y.lf.pos] 99))
      have HBA := Lib.hid (HB.out.alloc hsz (.cells #[.int .i64 y.set, .int .i64 y.way, .int .i64 y.asid, .int .u64 y.page, .bool y.lf.v, .bool y.lf.r, .bool y.lf.w, .bool y.lf.x, .bool y.lf.u, .bool y.lf.g, .bool y.lf.a, .bool y.lf.d, .int .i64 y.lf.rsw, .int .u64 y.lf.ppn, .int .i64 y.lf.lev, .int .u64 y.lf.pos] 99))
      clear hyc
      cases h1 : (y.set != x.set)
      · have e1 : y.set = x.set := by simpa using h1
        cases h2 : (y.way != x.way)
        · have e2 : y.way = x.way := by simpa using h2
          have HK : Hid (keepP x.set x.way (L.take (k + 1)) = keepP x.set x.way (L.take k)) := Lib.hid (keep_skip HY.out (by unfold atB; rw [e1, e2]; simp))
          clear e1 e2
          go_wp2_with (first | ((with_reducible refine wl_load 99 (.tmp 14) rfl ?_ b (k * 16) #[.int .i64 y.set, .int .i64 y.way, .int .i64 y.asid, .int .u64 y.page, .bool y.lf.v, .bool y.lf.r, .bool y.lf.w, .bool y.lf.x, .bool y.lf.u, .bool y.lf.g, .bool y.lf.a, .bool y.lf.d, .int .i64 y.lf.rsw, .int .u64 y.lf.ppn, .int .i64 y.lf.lev, .int .u64 y.lf.pos] ?_ HRG.out ?_ ?_); exact rfl; exact rfl; exact ex_row) | ((with_reducible refine wl_store_new 99 (.tmp 6) (.tmp 15) rfl ?_ wr (World.heap wr).size 99 #[.int .i64 0, .int .i64 0, .int .i64 0, .int .u64 0, .bool false, .bool false, .bool false, .bool false, .bool false, .bool false, .bool false, .bool false, .int .i64 0, .int .u64 0, .int .i64 0, .int .u64 0] #[.int .i64 y.set, .int .i64 y.way, .int .i64 y.asid, .int .u64 y.page, .bool y.lf.v, .bool y.lf.r, .bool y.lf.w, .bool y.lf.x, .bool y.lf.u, .bool y.lf.g, .bool y.lf.a, .bool y.lf.d, .int .i64 y.lf.rsw, .int .u64 y.lf.ppn, .int .i64 y.lf.lev, .int .u64 y.lf.pos] ?_ ?_ ?_ ?_ ?_ ?_ ?_ ?_); exact rfl; exact rfl; exact rfl; exact rfl; exact rfl; exact rfl; exact ex_row; exact ex_one y))
          go_roundw
          case rel => exact ⟨k + 1, hkl, by go_num, by rw [HK.out]; exact HOA.out, HBA.out⟩
          case measure => simp [intOf]; omega
        · have HK : Hid (keepP x.set x.way (L.take (k + 1)) = keepP x.set x.way (L.take k) ++ [y]) := Lib.hid (keep_step HY.out (atB_way h2))
          clear e1
          generalize keepP x.set x.way (L.take k) = N at *
          go_wp2_with (first | ((with_reducible refine wl_load 99 (.tmp 14) rfl ?_ b (k * 16) #[.int .i64 y.set, .int .i64 y.way, .int .i64 y.asid, .int .u64 y.page, .bool y.lf.v, .bool y.lf.r, .bool y.lf.w, .bool y.lf.x, .bool y.lf.u, .bool y.lf.g, .bool y.lf.a, .bool y.lf.d, .int .i64 y.lf.rsw, .int .u64 y.lf.ppn, .int .i64 y.lf.lev, .int .u64 y.lf.pos] ?_ HRG.out ?_ ?_); exact rfl; exact rfl; exact ex_row) | ((with_reducible refine wl_store_new 99 (.tmp 6) (.tmp 15) rfl ?_ wr (World.heap wr).size 99 #[.int .i64 0, .int .i64 0, .int .i64 0, .int .u64 0, .bool false, .bool false, .bool false, .bool false, .bool false, .bool false, .bool false, .bool false, .int .i64 0, .int .u64 0, .int .i64 0, .int .u64 0] #[.int .i64 y.set, .int .i64 y.way, .int .i64 y.asid, .int .u64 y.page, .bool y.lf.v, .bool y.lf.r, .bool y.lf.w, .bool y.lf.x, .bool y.lf.u, .bool y.lf.g, .bool y.lf.a, .bool y.lf.d, .int .i64 y.lf.rsw, .int .u64 y.lf.ppn, .int .i64 y.lf.lev, .int .u64 y.lf.pos] ?_ ?_ ?_ ?_ ?_ ?_ ?_ ?_); exact rfl; exact rfl; exact rfl; exact rfl; exact rfl; exact rfl; exact ex_row; exact ex_one y) | ((with_reducible refine wl_load 99 (.tmp 6) rfl ?_ wr.heap.size 0 #[.int .i64 y.set, .int .i64 y.way, .int .i64 y.asid, .int .u64 y.page, .bool y.lf.v, .bool y.lf.r, .bool y.lf.w, .bool y.lf.x, .bool y.lf.u, .bool y.lf.g, .bool y.lf.a, .bool y.lf.d, .int .i64 y.lf.rsw, .int .u64 y.lf.ppn, .int .i64 y.lf.lev, .int .u64 y.lf.pos] ?_ HYB.out.range ?_ ?_); exact rfl; exact rfl; exact ex_row) | (at_builtin; (refine wpList_append_any _ rfl (.tmp 28) (.tmp 30) _ rfl (W.heap.size + 1) 99 i0 _ 16 72 Try.underlying38 hi0 hz0 hz1 hz2 rfl (by decide) _ N.length (slC N) rfl ((HO.out.alloc _).alloc _) (wr.heap.size + 1 + 1) (some ⟨wr.heap.size + 1, 0, none⟩) 1 1 (Sl.vs y) rfl (reads_sl_at _ _ y (wr.heap.size + 1) (by simp)) (one_sl _) (by unfold maxLen; have := HNL.out; have := HLN.out; omega) (by have := HNL.out; have := HLN.out; omega) (by simp; omega) ?_; intro v3 w3 hown hgrow hat; have HOWN := Lib.hid hown; have HE5 := Lib.hid ((HBA.out.alloc (Nat.le_trans HSZ.out (by simp)) _).grown hgrow (by have := HSZ.out; simp; omega) (fun g hg => (HO.out.lt g hg).1)); clear hown hgrow hat)))
          go_roundw
          case rel =>
            refine ⟨k + 1, hkl, by go_num, ?_, HE5.out⟩
            rw [HK.out, slC_snoc, List.length_append]
            exact HOWN.out
          case measure => simp [intOf]; omega
      · have HK : Hid (keepP x.set x.way (L.take (k + 1)) = keepP x.set x.way (L.take k) ++ [y]) := Lib.hid (keep_step HY.out (atB_set h1))
        generalize keepP x.set x.way (L.take k) = N at *
        go_wp2_with (first | ((with_reducible refine wl_load 99 (.tmp 14) rfl ?_ b (k * 16) #[.int .i64 y.set, .int .i64 y.way, .int .i64 y.asid, .int .u64 y.page, .bool y.lf.v, .bool y.lf.r, .bool y.lf.w, .bool y.lf.x, .bool y.lf.u, .bool y.lf.g, .bool y.lf.a, .bool y.lf.d, .int .i64 y.lf.rsw, .int .u64 y.lf.ppn, .int .i64 y.lf.lev, .int .u64 y.lf.pos] ?_ HRG.out ?_ ?_); exact rfl; exact rfl; exact ex_row) | ((with_reducible refine wl_store_new 99 (.tmp 6) (.tmp 15) rfl ?_ wr (World.heap wr).size 99 #[.int .i64 0, .int .i64 0, .int .i64 0, .int .u64 0, .bool false, .bool false, .bool false, .bool false, .bool false, .bool false, .bool false, .bool false, .int .i64 0, .int .u64 0, .int .i64 0, .int .u64 0] #[.int .i64 y.set, .int .i64 y.way, .int .i64 y.asid, .int .u64 y.page, .bool y.lf.v, .bool y.lf.r, .bool y.lf.w, .bool y.lf.x, .bool y.lf.u, .bool y.lf.g, .bool y.lf.a, .bool y.lf.d, .int .i64 y.lf.rsw, .int .u64 y.lf.ppn, .int .i64 y.lf.lev, .int .u64 y.lf.pos] ?_ ?_ ?_ ?_ ?_ ?_ ?_ ?_); exact rfl; exact rfl; exact rfl; exact rfl; exact rfl; exact rfl; exact ex_row; exact ex_one y) | ((with_reducible refine wl_load 99 (.tmp 6) rfl ?_ wr.heap.size 0 #[.int .i64 y.set, .int .i64 y.way, .int .i64 y.asid, .int .u64 y.page, .bool y.lf.v, .bool y.lf.r, .bool y.lf.w, .bool y.lf.x, .bool y.lf.u, .bool y.lf.g, .bool y.lf.a, .bool y.lf.d, .int .i64 y.lf.rsw, .int .u64 y.lf.ppn, .int .i64 y.lf.lev, .int .u64 y.lf.pos] ?_ HYB.out.range ?_ ?_); exact rfl; exact rfl; exact ex_row) | (at_builtin; (refine wpList_append_any _ rfl (.tmp 28) (.tmp 30) _ rfl (W.heap.size + 1) 99 i0 _ 16 72 Try.underlying38 hi0 hz0 hz1 hz2 rfl (by decide) _ N.length (slC N) rfl ((HO.out.alloc _).alloc _) (wr.heap.size + 1 + 1) (some ⟨wr.heap.size + 1, 0, none⟩) 1 1 (Sl.vs y) rfl (reads_sl_at _ _ y (wr.heap.size + 1) (by simp)) (one_sl _) (by unfold maxLen; have := HNL.out; have := HLN.out; omega) (by have := HNL.out; have := HLN.out; omega) (by simp; omega) ?_; intro v3 w3 hown hgrow hat; have HOWN := Lib.hid hown; have HE5 := Lib.hid ((HBA.out.alloc (Nat.le_trans HSZ.out (by simp)) _).grown hgrow (by have := HSZ.out; simp; omega) (fun g hg => (HO.out.lt g hg).1)); clear hown hgrow hat)))
        go_roundw
        case rel =>
            refine ⟨k + 1, hkl, by go_num, ?_, HE5.out⟩
            rw [HK.out, slC_snoc, List.length_append]
            exact HOWN.out
        case measure => simp [intOf]; omega
    · obtain rfl : n = k := by omega
      have HK : Hid (keepP x.set x.way (L.take n) = keepP x.set x.way L) := Lib.hid (by rw [List.take_of_length_le (by rw [HN.out]; exact Nat.le_refl _)])
      rw [HK.out] at HO HLN ⊢
      clear HK
      have hx2 := (HX.out.below (HA0.out.trans (Below.mono hbel0 (by rw [HS0.out]; omega))) HXL.out)
      have HX2 := Lib.hid hx2
      have HWW : Hid (Below W.heap.size W wr) := Lib.hid (HA0.out.trans (Below.mono hbel0 (by rw [HS0.out]; omega)))
      clear hx2 hbel0
      obtain ⟨N, hNE⟩ : ∃ N, keepP x.set x.way L = N := ⟨_, rfl⟩
      rw [hNE] at HO HLN ⊢
      have HNE := Lib.hid hNE
      clear hNE
      go_wp2_with (first | ((with_reducible refine wl_load 99 (.tmp 3) rfl ?_ W.heap.size 0 #[.int .i64 x.set, .int .i64 x.way, .int .i64 x.asid, .int .u64 x.page, .bool x.lf.v, .bool x.lf.r, .bool x.lf.w, .bool x.lf.x, .bool x.lf.u, .bool x.lf.g, .bool x.lf.a, .bool x.lf.d, .int .i64 x.lf.rsw, .int .u64 x.lf.ppn, .int .i64 x.lf.lev, .int .u64 x.lf.pos] ?_ HBXr.out.range ?_ ?_); exact rfl; exact rfl; exact ex_row) | (at_builtin; (refine wpList_append_any _ rfl (.tmp 34) (.tmp 36) _ rfl (W.heap.size + 1) 99 i0 _ 16 72 Try.underlying38 hi0 hz0 hz1 hz2 rfl (by decide) _ N.length (slC N) rfl (HO.out.alloc _) (wr.heap.size + 1) (some ⟨wr.heap.size, 0, none⟩) 1 1 (Sl.vs x) rfl (reads_sl_at _ _ x (wr.heap.size) rfl) (one_sl _) (by unfold maxLen; have := HNL.out; have := HLN.out; omega) (by have := HNL.out; have := HLN.out; omega) (by simp; omega) ?_; intro v3 w3 hown hgrow hat; have HW3 := Lib.hid ((HWW.out.alloc HWW.out.size _).grown hgrow (by have := HSZ.out; simp; omega) (fun g hg => Nat.le_trans (Nat.le_succ _) (HO.out.lt g hg).1)); have hb3 := HX.out.below HW3.out HXL.out; have f13 := Blk.frozen hb3 2; have c13 : w3.cell? ⟨gx, 2, none⟩ = some (.slice A L.length c) := hb3.cell 2; have l13 := hb3.lt; obtain ⟨A3, c3, hv3⟩ := tlb_row_form hown; subst hv3; have HOWN := Lib.hid hown; clear hown hgrow hat hb3)))
      refine bodyPost_end (results_none rfl _ _ _) rfl ?_
      rw [HNE.out]
      refine ⟨rfl, putg_fin HW3.out (Nat.le_succ _) HX.out HG.out HGL.out ?_⟩
      rw [slC_snoc, List.length_append]
      exact HOWN.out
end Go.Proofs.Ytecalibnnfcaeaa

/- The reference's Fill. -/
namespace Go.Proofs.Ytecalibnnfcaeaa
open Go.RowKit

theorem idx_some {l : List En} {k : Nat} {e : En} {p : En → Bool} (he : l[k]? = some e) (hno : ∀ y ∈ l.take k, p y = false) (hp : p e = true) : l.findIdx? p = some k := by
  have hk : k < l.length := (List.getElem?_eq_some_iff.1 he).1
  rw [List.findIdx?_eq_some_iff_getElem]
  refine ⟨hk, ?_, fun j hj => ?_⟩
  · rw [List.getElem?_eq_getElem hk] at he
    injection he with he
    rw [he]
    exact hp
  · rw [hno (l[j]'(by omega)) (List.mem_take_iff_getElem.2 ⟨j, by omega, rfl⟩)]
    decide
theorem idx_none {l : List En} {k : Nat} {p : En → Bool} (hk : l.length ≤ k) (hno : ∀ y ∈ l.take k, p y = false) : l.findIdx? p = none := by
  rw [List.take_of_length_le hk] at hno
  rw [List.findIdx?_eq_none_iff]
  exact hno
theorem vic_same {l : List En} {n e : En} {k : Nat} {pick : Int} (he : l[k]? = some e) (hno : ∀ y ∈ l.take k, sameB n y = false) (hp : sameB n e = true) : victimN l n pick = k := by
  unfold victimN
  rw [idx_some he hno hp]
theorem vic_free {l : List En} {n e : En} {k m : Nat} {pick : Int} (hm : l.length = m) (hno : ∀ y ∈ l.take m, sameB n y = false) (he : l[k]? = some e) (hf : ∀ y ∈ l.take k, freeB y = false) (hp : freeB e = true) : victimN l n pick = k := by
  unfold victimN
  rw [idx_none (Nat.le_of_eq hm) hno, idx_some he hf hp]
theorem vic_pick {l : List En} {n : En} {m : Nat} {pick : Int} (hm : l.length = m) (hno : ∀ y ∈ l.take m, sameB n y = false) (hf : ∀ y ∈ l.take m, freeB y = false) : victimN l n pick = (absP pick).toNat % m := by
  unfold victimN
  rw [idx_none (Nat.le_of_eq hm) hno, idx_none (Nat.le_of_eq hm) hf, hm]
theorem el_row12 : rowT Try.prog 97 12 = true := by kernel_rfl
theorem PutG.mono {W W1 w' : World} {gx : Nat} {G : Nat → Prop} {n m : Int} {L : List Sl} (h : PutG W1 gx G n m L w') (hb : Below W.heap.size W W1) : PutG W gx G n m L w' := by
  obtain ⟨G', h1, h2, h3⟩ := h
  exact ⟨G', h1, fun b hb' => (h2 b hb').imp id (fun h => Nat.le_trans hb.size h), (Keeps.of_below hb).trans h3 (fun _ h => .inl h)⟩
/-- What Fill leaves behind. -/
def RFill (W : World) (gx : Nat) (G : Nat → Prop) (n m : Int) (T : List (List En)) (w' : World) : Prop := ∃ L', PutG W gx G n m L' w' ∧ L'.Perm (listT 0 T)
theorem fill_done {L : List Sl} {T : List (List En)} {n m q k va : Nat} {asid pick : Int} {lf : Tf} (hK : TOk T n m) (hP : L.Perm (listT 0 T)) (hq : q = pgN va lf.lev % n) (hql : q < n) (hv : victimN (T.getD q []) (fillE va asid lf) pick = k) (hk : k < m) :
    (keepP q k L ++ [(⟨q, k, asid, pgN va lf.lev, lf⟩ : Sl)]).Perm (listT 0 (fillS T va asid lf pick)) := by
  have e : fillQ T va lf = q := by unfold fillQ; rw [hK.len, hq]
  unfold fillS
  rw [e, hv]
  exact fill_perm hP (e := fillE va asid lf) rfl (by rw [hK.len]; exact hql) (by rw [hK.ways q hql]; exact hk)
theorem rfill_no (gx : Nat) (va : Nat) (asid : Int) (lf : Tf) (pick : Int) (W : World) (hl : levOK lf.lev = false) :
    Calls Try.prog 48 #[.pointer (some ⟨gx, 0, none⟩), .int .u64 (va : Int), .int .i64 asid, .agg lf.cs, .int .i64 pick] W fun e w' => e = .returned (.bool false) ∧ Below W.heap.size W w' := by
  have hb := Blkf.new_at W 97 (0, 0) lf.cs rfl
  have h10 := hb.cell 10
  rw [show lf.cs[10]? = some (.int .i64 lf.lev) from rfl] at h10
  have hw : Below W.heap.size W (W.alloc (.cells lf.cs 97)) := (Below.refl _ _).alloc (Nat.le_refl _) _
  have HW := Lib.hid hw
  clear hb hw
  rcases (show lf.lev < 0 ∨ 2 < lf.lev by simp [levOK] at hl; omega) with h | h
  · go_enter Try.func48, Try.ntmps48
    go_wp2_with fail
    go_ret
    exact ⟨rfl, HW.out⟩
  · have h2 : ¬ lf.lev < 0 := by omega
    go_enter Try.func48, Try.ntmps48
    go_wp2_with fail
    go_ret
    exact ⟨rfl, HW.out⟩
set_option maxRecDepth 100000 in
set_option maxHeartbeats 8000000 in
theorem rfill_yes (gx n m va : Nat) (asid : Int) (lf : Tf) (pick : Int) (G : Nat → Prop) (L : List Sl) (T : List (List En)) (W : World) (hv : va < 18446744073709551616) (hpk : -9223372036854775808 ≤ pick ∧ pick < 9223372036854775808) (hK : TOk T n m) (hR : RefG W gx G n m L) (hP : L.Perm (listT 0 T)) (hl : levOK lf.lev = true) :
    Calls Try.prog 48 #[.pointer (some ⟨gx, 0, none⟩), .int .u64 (va : Int), .int .i64 asid, .agg lf.cs, .int .i64 pick] W fun e w' => e = .returned (.bool true) ∧ RFill W gx G n m (fillS T va asid lf pick) w' := by
  have HV := Lib.hid hv
  have HPK := Lib.hid hpk
  have HK := Lib.hid hK
  have HR := Lib.hid hR
  have HP := Lib.hid hP
  have HLV := Lib.hid hl
  have HN := Lib.hid hK.n0
  have HM := Lib.hid hK.m8
  have HM0 := Lib.hid hK.m0
  have HNB := Lib.hid hK.n64
  have i1 : ¬ lf.lev < 0 := by simp [levOK] at hl; omega
  have i2 : ¬ 2 < lf.lev := by simp [levOK] at hl; omega
  have hb := Blkf.new_at W 97 (0, 0) #[.bool lf.v, .bool lf.r, .bool lf.w, .bool lf.x, .bool lf.u, .bool lf.g, .bool lf.a, .bool lf.d, .int .i64 lf.rsw, .int .u64 lf.ppn, .int .i64 lf.lev, .int .u64 lf.pos] rfl
  have hw : Below W.heap.size W (W.alloc (.cells #[.bool lf.v, .bool lf.r, .bool lf.w, .bool lf.x, .bool lf.u, .bool lf.g, .bool lf.a, .bool lf.d, .int .i64 lf.rsw, .int .u64 lf.ppn, .int .i64 lf.lev, .int .u64 lf.pos] 97)) := (Below.refl _ _).alloc (Nat.le_refl _) _
  have HBX := Lib.hid hb
  have HW0 := Lib.hid hw
  have h10 := hb.cell 10
  simp only [List.getElem?_toArray, List.getElem?_cons_zero, List.getElem?_cons_succ] at h10
  clear hv hpk hK hR hP hl hb hw
  rw [show Value.agg lf.cs = .agg #[.bool lf.v, .bool lf.r, .bool lf.w, .bool lf.x, .bool lf.u, .bool lf.g, .bool lf.a, .bool lf.d, .int .i64 lf.rsw, .int .u64 lf.ppn, .int .i64 lf.lev, .int .u64 lf.pos] from rfl]
  go_enter Try.func48, Try.ntmps48
  go_wp2_with fail
  generalize W.alloc (.cells #[.bool lf.v, .bool lf.r, .bool lf.w, .bool lf.x, .bool lf.u, .bool lf.g, .bool lf.a, .bool lf.d, .int .i64 lf.rsw, .int .u64 lf.ppn, .int .i64 lf.lev, .int .u64 lf.pos] 97) = W0 at *
  refine (rpage_any va lf.lev _ HV.out HLV.out).mono ?_
  rintro e w1 ⟨rfl, hb1⟩
  have HBX1 := Lib.hid (HBX.out.below hb1 HBX.out.lt)
  have HW1 := Lib.hid (HW0.out.trans (hb1.mono HW0.out.size))
  obtain ⟨A, c, hg, _⟩ := HR.out.below HW1.out
  have HG0 := Lib.hid hg
  clear h10 hb1 hg HBX HW0 i1 i2
  obtain ⟨pg, hpg⟩ : ∃ pg, pg = pgN va lf.lev := ⟨_, rfl⟩
  rw [← hpg]
  have HPG := Lib.hid hpg
  clear hpg
  have hs0 : ∀ W', Ext w1.drew W' → W'.cell? ⟨gx, 0, none⟩ = some (.int .i64 (n : Int)) := fun W' h => (h.cell HG0.out.drew.lt).trans (HG0.out.cell 0)
  have hz : ¬ (n = 0) := by have := HN.out; omega
  have hwn : IntKind.u64.wrap (n : Int) = (n : Int) := IntWalk.u64_in _ (by have := HNB.out; omega)
  go_wp2_with fail
  refine wp_region_plan [(0, false), (1, false), (2, false), (3, false), (4, false), (5, false), (6, false), (7, false), (8, false), (9, false), (10, false), (11, false), (12, true), (13, true)] (by kernel_rfl) (by kernel_rfl) (fun _ d _ _ _ h => by cases d <;> exact h) ?_
  iterate 10 (refine plan_take (v := ?_) rfl (by kernel_rfl) ?_ ?_; rotate_left; (focus (intro w' hw'; try go_simp; try with_reducible rfl)); simp only [Act.put, List.setIfInBounds_toArray, List.set_cons_zero, List.set_cons_succ])
  refine plan_take rfl (by kernel_rfl) (fun w' h' => run_load_op 97 (.tmp 8) rfl W.heap.size 0 #[.bool lf.v, .bool lf.r, .bool lf.w, .bool lf.x, .bool lf.u, .bool lf.g, .bool lf.a, .bool lf.d, .int .i64 lf.rsw, .int .u64 lf.ppn, .int .i64 lf.lev, .int .u64 lf.pos] rfl ((HBX1.out.drew.below h' HBX1.out.drew.lt).range) el_row12) ?_
  simp only [Act.put, List.setIfInBounds_toArray, List.set_cons_zero, List.set_cons_succ]
  iterate 1 (refine plan_take (v := ?_) rfl (by kernel_rfl) ?_ ?_; rotate_left; (focus (intro w' hw'; try go_simp; try with_reducible rfl)); simp only [Act.put, List.setIfInBounds_toArray, List.set_cons_zero, List.set_cons_succ])
  clear hs0 hz hwn
  rw [set_eq pg n HN.out HNB.out, show ((pg : Nat) : Int).tmod (n : Int) = ((pg : Nat) : Int) % (n : Int) from Int.tmod_eq_emod_of_nonneg (by omega)]
  obtain ⟨q, hq⟩ : ∃ q, q = pg % n := ⟨_, rfl⟩
  have HQL : Hid (q < n) := Lib.hid (by rw [hq]; exact Nat.mod_lt _ HN.out)
  rw [← hq]
  have HQ := Lib.hid hq
  clear hq
  refine plan_turn rfl (by kernel_rfl) (fun K hK => ?_)
  go_simp
  refine hK _ _ ⟨(Ext.refl _).alloc (Nat.le_refl _) _, ?_⟩
  clear hK K
  refine plan_last rfl (by kernel_rfl) (by kernel_rfl) (fun K hK => ?_)
  go_simp
  refine hK _ _ ?_
  clear hK K
  refine plan_end ?_
  have hs2 := (Blkf.new_at w1 99 (0, 0) #[.int .i64 (q : Int), .int .i64 0, .int .i64 asid, .int .u64 (pg : Int), .bool lf.v, .bool lf.r, .bool lf.w, .bool lf.x, .bool lf.u, .bool lf.g, .bool lf.a, .bool lf.d, .int .i64 lf.rsw, .int .u64 lf.ppn, .int .i64 lf.lev, .int .u64 lf.pos] rfl).drew
  have hal := ((Below.refl w1.heap.size w1).alloc (Nat.le_refl _) (.cells #[.int .i64 (q : Int), .int .i64 0, .int .i64 asid, .int .u64 (pg : Int), .bool lf.v, .bool lf.r, .bool lf.w, .bool lf.x, .bool lf.u, .bool lf.g, .bool lf.a, .bool lf.d, .int .i64 lf.rsw, .int .u64 lf.ppn, .int .i64 lf.lev, .int .u64 lf.pos] 99)).drew
  have HS2 : Hid (Blk (w1.alloc (.cells #[.int .i64 (q : Int), .int .i64 0, .int .i64 asid, .int .u64 (pg : Int), .bool lf.v, .bool lf.r, .bool lf.w, .bool lf.x, .bool lf.u, .bool lf.g, .bool lf.a, .bool lf.d, .int .i64 lf.rsw, .int .u64 lf.ppn, .int .i64 lf.lev, .int .u64 lf.pos] 99)).drew w1.heap.size 99 #[.int .i64 (q : Int), .int .i64 0, .int .i64 asid, .int .u64 (pg : Int), .bool lf.v, .bool lf.r, .bool lf.w, .bool lf.x, .bool lf.u, .bool lf.g, .bool lf.a, .bool lf.d, .int .i64 lf.rsw, .int .u64 lf.ppn, .int .i64 lf.lev, .int .u64 lf.pos]) := Lib.hid hs2
  have HX2 := Lib.hid (HBX1.out.below hal HBX1.out.lt)
  have HW2 := Lib.hid (HW1.out.trans (hal.mono HW1.out.size))
  have HSW : Hid (W.heap.size ≤ w1.heap.size) := Lib.hid HW1.out.size
  clear hs2 hal HBX1 HW1 HG0
  generalize (w1.alloc (.cells #[.int .i64 (q : Int), .int .i64 0, .int .i64 asid, .int .u64 (pg : Int), .bool lf.v, .bool lf.r, .bool lf.w, .bool lf.x, .bool lf.u, .bool lf.g, .bool lf.a, .bool lf.d, .int .i64 lf.rsw, .int .u64 lf.ppn, .int .i64 lf.lev, .int .u64 lf.pos] 99)).drew = w2 at *
  generalize w1.heap.size = sb at *
  go_wp2_with fail
  go_loopw [13] (fun i wr => ∃ k : Nat, k ≤ m ∧ i = .int .i64 k ∧ Below W.heap.size W wr ∧ Blk wr sb 99 #[.int .i64 (q : Int), .int .i64 0, .int .i64 asid, .int .u64 (pg : Int), .bool lf.v, .bool lf.r, .bool lf.w, .bool lf.x, .bool lf.u, .bool lf.g, .bool lf.a, .bool lf.d, .int .i64 lf.rsw, .int .u64 lf.ppn, .int .i64 lf.lev, .int .u64 lf.pos] ∧ Blk wr W.heap.size 97 #[.bool lf.v, .bool lf.r, .bool lf.w, .bool lf.x, .bool lf.u, .bool lf.g, .bool lf.a, .bool lf.d, .int .i64 lf.rsw, .int .u64 lf.ppn, .int .i64 lf.lev, .int .u64 lf.pos] ∧ ∀ y ∈ (T.getD q []).take k, sameB (fillE va asid lf) y = false) (fun i _ => m - (intOf i).toNat)
  case atStart => exact ⟨0, by omega, rfl, HW2.out, HS2.out, HX2.out, fun y hy => by simp at hy⟩
  clear HW2 HS2 HX2
  case round =>
    obtain ⟨k, hk, rfl, hbl, hS, hX, hno⟩ := hrel
    have HBE := Lib.hid hbl
    have HSE := Lib.hid hS
    have HXE := Lib.hid hX
    have HNO := Lib.hid hno
    obtain ⟨A, c, hg, _⟩ := HR.out.below hbl
    have hm1 := hg.cell 1
    have hq0 := hS.cell 0
    simp at hm1 hq0
    have hmb := HM.out
    clear hbl hS hX hno hg
    by_cases hkl : k < m
    · obtain ⟨e, he⟩ : ∃ e, (T.getD q [])[k]? = some e := ⟨_, List.getElem?_eq_getElem (by rw [HK.out.ways q HQL.out]; exact hkl)⟩
      have HE := Lib.hid he
      clear he
      go_wp2_with fail
      refine (rat_T gx n m n m L T q k _ HK.out (HR.out.below HBE.out).ref HP.out).mono ?_
      rintro _ w3 ⟨rfl, hb3⟩
      clear hm1 hq0
      have HX3 := Lib.hid (HXE.out.below hb3 HXE.out.lt)
      have HS3 := Lib.hid (HSE.out.below hb3 HSE.out.lt)
      have HB3 := Lib.hid (HBE.out.trans (hb3.mono HBE.out.size))
      clear hb3 HBE HXE HSE
      cases hf : e.full
      · rw [at_not HE.out hf]
        have HNX := Lib.hid (take_more HE.out HNO.out (show sameB (fillE va asid lf) e = false by unfold sameB; rw [hf]; rfl))
        have hal := (Below.refl w3.heap.size w3).alloc (Nat.le_refl _) (.cells sl0.cs 99)
        have HX4 := Lib.hid (HX3.out.below hal HX3.out.lt)
        have HS4 := Lib.hid (HS3.out.below hal HS3.out.lt)
        have HB4 := Lib.hid (HB3.out.trans (hal.mono HB3.out.size))
        clear hal hf
        go_wp2_with (first | ((with_reducible refine wl_store_new 99 (.tmp 14) (.tmp 57) rfl ?_ w3 (World.heap w3).size 99 #[.int .i64 0, .int .i64 0, .int .i64 0, .int .u64 0, .bool false, .bool false, .bool false, .bool false, .bool false, .bool false, .bool false, .bool false, .int .i64 0, .int .u64 0, .int .i64 0, .int .u64 0] sl0.cs ?_ ?_ ?_ ?_ ?_ ?_ ?_ ?_); exact rfl; exact rfl; exact rfl; exact rfl; exact rfl; exact rfl; exact slot_row sl0; exact cs_one sl0))
        go_roundw
        case rel => exact ⟨k + 1, hkl, by go_num, HB4.out, HS4.out, HX4.out, HNX.out⟩
        case measure => simp [intOf]; omega
      · rw [at_yes HE.out hf]
        obtain ⟨x, hx⟩ : ∃ x : Sl, x = ⟨q, k, e.asid, e.page, e.lf⟩ := ⟨_, rfl⟩
        have hxa : x.asid = e.asid := by rw [hx]
        have hxp : x.page = e.page := by rw [hx]
        have hxl : x.lf = e.lf := by rw [hx]
        rw [← hx, show ((some x).getD sl0).cs = x.cs from rfl, show (some x).isSome = true from rfl]
        have hal := (Below.refl w3.heap.size w3).alloc (Nat.le_refl _) (.cells x.cs 99)
        have HX4 := Lib.hid (HX3.out.below hal HX3.out.lt)
        have HS4 := Lib.hid (HS3.out.below hal HS3.out.lt)
        have HB4 := Lib.hid (HB3.out.trans (hal.mono HB3.out.size))
        have HL4 := Lib.hid (Blkf.new_at w3 99 (0, 0) x.cs rfl)
        have HHB : Hid (sameB (fillE va asid lf) e = ((x.lf.lev == lf.lev) && (((x.page : Int) == (pg : Int)) && (x.asid == asid)))) := Lib.hid (by unfold sameB fillE; rw [hf, nat_beq, hxa, hxp, hxl, HPG.out]; rfl)
        clear hal hf hx hxa hxp hxl HX3 HB3 HS3
        have v14 := HL4.out.cell 14
        have v3 := HL4.out.cell 3
        have v2 := HL4.out.cell 2
        have b10 := HX4.out.cell 10
        rw [show x.cs[14]? = some (.int .i64 x.lf.lev) from rfl] at v14
        rw [show x.cs[3]? = some (.int .u64 (x.page : Int)) from rfl] at v3
        rw [show x.cs[2]? = some (.int .i64 x.asid) from rfl] at v2
        simp only [List.getElem?_toArray, List.getElem?_cons_zero, List.getElem?_cons_succ] at b10
        cases h1 : (x.lf.lev == lf.lev)
        · have HNX := Lib.hid (take_more HE.out HNO.out (show sameB (fillE va asid lf) e = false by rw [HHB.out, h1]; rfl))
          go_wp2_with (first | ((with_reducible refine wl_store_new 99 (.tmp 14) (.tmp 57) rfl ?_ w3 (World.heap w3).size 99 #[.int .i64 0, .int .i64 0, .int .i64 0, .int .u64 0, .bool false, .bool false, .bool false, .bool false, .bool false, .bool false, .bool false, .bool false, .int .i64 0, .int .u64 0, .int .i64 0, .int .u64 0] x.cs ?_ ?_ ?_ ?_ ?_ ?_ ?_ ?_); exact rfl; exact rfl; exact rfl; exact rfl; exact rfl; exact rfl; exact slot_row x; exact cs_one x))
          go_roundw
          case rel => exact ⟨k + 1, hkl, by go_num, HB4.out, HS4.out, HX4.out, HNX.out⟩
          case measure => simp [intOf]; omega
        · cases h2 : ((x.page : Int) == (pg : Int))
          · have HNX := Lib.hid (take_more HE.out HNO.out (show sameB (fillE va asid lf) e = false by rw [HHB.out, h1, h2]; rfl))
            go_wp2_with (first | ((with_reducible refine wl_store_new 99 (.tmp 14) (.tmp 57) rfl ?_ w3 (World.heap w3).size 99 #[.int .i64 0, .int .i64 0, .int .i64 0, .int .u64 0, .bool false, .bool false, .bool false, .bool false, .bool false, .bool false, .bool false, .bool false, .int .i64 0, .int .u64 0, .int .i64 0, .int .u64 0] x.cs ?_ ?_ ?_ ?_ ?_ ?_ ?_ ?_); exact rfl; exact rfl; exact rfl; exact rfl; exact rfl; exact rfl; exact slot_row x; exact cs_one x))
            go_roundw
            case rel => exact ⟨k + 1, hkl, by go_num, HB4.out, HS4.out, HX4.out, HNX.out⟩
            case measure => simp [intOf]; omega
          · cases h3 : (x.asid == asid)
            · have HNX := Lib.hid (take_more HE.out HNO.out (show sameB (fillE va asid lf) e = false by rw [HHB.out, h1, h2, h3]; rfl))
              go_wp2_with (first | ((with_reducible refine wl_store_new 99 (.tmp 14) (.tmp 57) rfl ?_ w3 (World.heap w3).size 99 #[.int .i64 0, .int .i64 0, .int .i64 0, .int .u64 0, .bool false, .bool false, .bool false, .bool false, .bool false, .bool false, .bool false, .bool false, .int .i64 0, .int .u64 0, .int .i64 0, .int .u64 0] x.cs ?_ ?_ ?_ ?_ ?_ ?_ ?_ ?_); exact rfl; exact rfl; exact rfl; exact rfl; exact rfl; exact rfl; exact slot_row x; exact cs_one x))
              go_roundw
              case rel => exact ⟨k + 1, hkl, by go_num, HB4.out, HS4.out, HX4.out, HNX.out⟩
              case measure => simp [intOf]; omega
            · have HVK : Hid (victimN (T.getD q []) (fillE va asid lf) pick = k) := Lib.hid (vic_same HE.out HNO.out (by rw [HHB.out, h1, h2, h3]; rfl))
              have f1 := Blk.frozen HS4.out 1
              have l1 := HS4.out.lt
              have c1 := HS4.out.cell 1
              simp only [List.getElem?_toArray, List.getElem?_cons_zero, List.getElem?_cons_succ] at c1
              have HS5 : Hid (Blk ((w3.alloc (.cells x.cs 99)).setCell ⟨sb, 1, none⟩ (.int .i64 (k : Int))) sb 99 #[.int .i64 (q : Int), .int .i64 (k : Int), .int .i64 asid, .int .u64 (pg : Int), .bool lf.v, .bool lf.r, .bool lf.w, .bool lf.x, .bool lf.u, .bool lf.g, .bool lf.a, .bool lf.d, .int .i64 lf.rsw, .int .u64 lf.ppn, .int .i64 lf.lev, .int .u64 lf.pos]) := Lib.hid (HS4.out.set_ 1 _)
              have HB5 : Hid (Below W.heap.size W ((w3.alloc (.cells x.cs 99)).setCell ⟨sb, 1, none⟩ (.int .i64 (k : Int)))) := Lib.hid (HB4.out.setCell HSW.out _)
              go_wp2_with (first | ((with_reducible refine wl_store_new 99 (.tmp 14) (.tmp 57) rfl ?_ w3 (World.heap w3).size 99 #[.int .i64 0, .int .i64 0, .int .i64 0, .int .u64 0, .bool false, .bool false, .bool false, .bool false, .bool false, .bool false, .bool false, .bool false, .int .i64 0, .int .u64 0, .int .i64 0, .int .u64 0] x.cs ?_ ?_ ?_ ?_ ?_ ?_ ?_ ?_); exact rfl; exact rfl; exact rfl; exact rfl; exact rfl; exact rfl; exact slot_row x; exact cs_one x) | ((with_reducible refine wl_load 99 (.tmp 12) rfl ?_ sb 0 #[.int .i64 (q : Int), .int .i64 (k : Int), .int .i64 asid, .int .u64 (pg : Int), .bool lf.v, .bool lf.r, .bool lf.w, .bool lf.x, .bool lf.u, .bool lf.g, .bool lf.a, .bool lf.d, .int .i64 lf.rsw, .int .u64 lf.ppn, .int .i64 lf.lev, .int .u64 lf.pos] ?_ HS5.out.range ?_ ?_); exact rfl; exact rfl; exact ex_row))
              rw [show Value.agg #[.int .i64 (q : Int), .int .i64 (k : Int), .int .i64 asid, .int .u64 (pg : Int), .bool lf.v, .bool lf.r, .bool lf.w, .bool lf.x, .bool lf.u, .bool lf.g, .bool lf.a, .bool lf.d, .int .i64 lf.rsw, .int .u64 lf.ppn, .int .i64 lf.lev, .int .u64 lf.pos] = .agg (Sl.cs ⟨q, k, asid, pg, lf⟩) from rfl]
              refine (tlb_rput_any gx n m ⟨q, k, asid, pg, lf⟩ G L _ (HK.out.slots HP.out) (HR.out.below HB5.out)).mono ?_
              rintro _ w6 ⟨rfl, hput⟩
              have HPT := Lib.hid (hput.mono HB5.out)
              clear hput
              go_wp2_with fail
              go_ret
              refine ⟨rfl, _, HPT.out, ?_⟩
              rw [HPG.out]
              exact fill_done HK.out HP.out (by rw [HQ.out, HPG.out]) HQL.out HVK.out hkl
    · obtain rfl : m = k := by omega
      have HNS := Lib.hid HNO.out
      clear HNO
      go_wp2_with fail
      go_loopw [16] (fun i wr => ∃ k : Nat, k ≤ m ∧ i = .int .i64 k ∧ Below W.heap.size W wr ∧ Blk wr sb 99 #[.int .i64 (q : Int), .int .i64 0, .int .i64 asid, .int .u64 (pg : Int), .bool lf.v, .bool lf.r, .bool lf.w, .bool lf.x, .bool lf.u, .bool lf.g, .bool lf.a, .bool lf.d, .int .i64 lf.rsw, .int .u64 lf.ppn, .int .i64 lf.lev, .int .u64 lf.pos] ∧ ∀ y ∈ (T.getD q []).take k, freeB y = false) (fun i _ => m - (intOf i).toNat)
      case atStart => exact ⟨0, by omega, rfl, HBE.out, HSE.out, fun y hy => by simp at hy⟩
      clear HBE HSE HXE hm1 hq0
      case round =>
        obtain ⟨k, hk, rfl, hbl, hS, hno⟩ := hrel
        rename World => w2
        have HBE := Lib.hid hbl
        have HSE := Lib.hid hS
        have HNO := Lib.hid hno
        obtain ⟨A, c, hg, _⟩ := HR.out.below hbl
        have hm1 := hg.cell 1
        have hgl := hg.lt
        have hq0 := hS.cell 0
        simp at hm1 hq0
        clear hbl hS hno hg
        by_cases hkl : k < m
        · obtain ⟨e, he⟩ : ∃ e, (T.getD q [])[k]? = some e := ⟨_, List.getElem?_eq_getElem (by rw [HK.out.ways q HQL.out]; exact hkl)⟩
          have HE := Lib.hid he
          clear he
          go_wp2_with fail
          refine (rat_T gx n m n m L T q k _ HK.out (HR.out.below HBE.out).ref HP.out).mono ?_
          rintro _ w3 ⟨rfl, hb3⟩
          clear hm1 hq0 hgl
          have HS3 := Lib.hid (HSE.out.below hb3 HSE.out.lt)
          have HB3 := Lib.hid (HBE.out.trans (hb3.mono HBE.out.size))
          clear hb3 HBE HSE
          cases hf : e.full
          · rw [at_not HE.out hf]
            have HVK : Hid (victimN (T.getD q []) (fillE va asid lf) pick = k) := Lib.hid (vic_free (HK.out.ways q HQL.out) HNS.out HE.out HNO.out (by unfold freeB; rw [hf]; rfl))
            have hal := (Below.refl w3.heap.size w3).alloc (Nat.le_refl _) (.cells sl0.cs 99)
            have HS4 := Lib.hid (HS3.out.below hal HS3.out.lt)
            have HB4 := Lib.hid (HB3.out.trans (hal.mono HB3.out.size))
            clear hal hf
            have f1 := Blk.frozen HS4.out 1
            have l1 := HS4.out.lt
            have c1 := HS4.out.cell 1
            simp only [List.getElem?_toArray, List.getElem?_cons_zero, List.getElem?_cons_succ] at c1
            have HS5 : Hid (Blk ((w3.alloc (.cells sl0.cs 99)).setCell ⟨sb, 1, none⟩ (.int .i64 (k : Int))) sb 99 #[.int .i64 (q : Int), .int .i64 (k : Int), .int .i64 asid, .int .u64 (pg : Int), .bool lf.v, .bool lf.r, .bool lf.w, .bool lf.x, .bool lf.u, .bool lf.g, .bool lf.a, .bool lf.d, .int .i64 lf.rsw, .int .u64 lf.ppn, .int .i64 lf.lev, .int .u64 lf.pos]) := Lib.hid (HS4.out.set_ 1 _)
            have HB5 : Hid (Below W.heap.size W ((w3.alloc (.cells sl0.cs 99)).setCell ⟨sb, 1, none⟩ (.int .i64 (k : Int)))) := Lib.hid (HB4.out.setCell HSW.out _)
            go_wp2_with (first | ((with_reducible refine wl_store_new 99 (.tmp 17) (.tmp 99) rfl ?_ w3 (World.heap w3).size 99 #[.int .i64 0, .int .i64 0, .int .i64 0, .int .u64 0, .bool false, .bool false, .bool false, .bool false, .bool false, .bool false, .bool false, .bool false, .int .i64 0, .int .u64 0, .int .i64 0, .int .u64 0] sl0.cs ?_ ?_ ?_ ?_ ?_ ?_ ?_ ?_); exact rfl; exact rfl; exact rfl; exact rfl; exact rfl; exact rfl; exact slot_row sl0; exact cs_one sl0) | ((with_reducible refine wl_load 99 (.tmp 12) rfl ?_ sb 0 #[.int .i64 (q : Int), .int .i64 (k : Int), .int .i64 asid, .int .u64 (pg : Int), .bool lf.v, .bool lf.r, .bool lf.w, .bool lf.x, .bool lf.u, .bool lf.g, .bool lf.a, .bool lf.d, .int .i64 lf.rsw, .int .u64 lf.ppn, .int .i64 lf.lev, .int .u64 lf.pos] ?_ HS5.out.range ?_ ?_); exact rfl; exact rfl; exact ex_row))
            rw [show Value.agg #[.int .i64 (q : Int), .int .i64 (k : Int), .int .i64 asid, .int .u64 (pg : Int), .bool lf.v, .bool lf.r, .bool lf.w, .bool lf.x, .bool lf.u, .bool lf.g, .bool lf.a, .bool lf.d, .int .i64 lf.rsw, .int .u64 lf.ppn, .int .i64 lf.lev, .int .u64 lf.pos] = .agg (Sl.cs ⟨q, k, asid, pg, lf⟩) from rfl]
            refine (tlb_rput_any gx n m ⟨q, k, asid, pg, lf⟩ G L _ (HK.out.slots HP.out) (HR.out.below HB5.out)).mono ?_
            rintro _ w6 ⟨rfl, hput⟩
            have HPT := Lib.hid (hput.mono HB5.out)
            clear hput
            go_wp2_with fail
            go_ret
            refine ⟨rfl, _, HPT.out, ?_⟩
            rw [HPG.out]
            exact fill_done HK.out HP.out (by rw [HQ.out, HPG.out]) HQL.out HVK.out hkl
          · rw [at_yes HE.out hf]
            obtain ⟨x, hx⟩ : ∃ x : Sl, x = ⟨q, k, e.asid, e.page, e.lf⟩ := ⟨_, rfl⟩
            have HNX := Lib.hid (take_more HE.out HNO.out (show freeB e = false by unfold freeB; rw [hf]; rfl))
            rw [← hx, show ((some x).getD sl0).cs = x.cs from rfl, show (some x).isSome = true from rfl]
            have hal := (Below.refl w3.heap.size w3).alloc (Nat.le_refl _) (.cells x.cs 99)
            have HS4 := Lib.hid (HS3.out.below hal HS3.out.lt)
            have HB4 := Lib.hid (HB3.out.trans (hal.mono HB3.out.size))
            clear hal hf hx HB3 HS3
            go_wp2_with (first | ((with_reducible refine wl_store_new 99 (.tmp 17) (.tmp 99) rfl ?_ w3 (World.heap w3).size 99 #[.int .i64 0, .int .i64 0, .int .i64 0, .int .u64 0, .bool false, .bool false, .bool false, .bool false, .bool false, .bool false, .bool false, .bool false, .int .i64 0, .int .u64 0, .int .i64 0, .int .u64 0] x.cs ?_ ?_ ?_ ?_ ?_ ?_ ?_ ?_); exact rfl; exact rfl; exact rfl; exact rfl; exact rfl; exact rfl; exact slot_row x; exact cs_one x))
            go_roundw
            case rel => exact ⟨k + 1, hkl, by go_num, HB4.out, HS4.out, HNX.out⟩
            case measure => simp [intOf]; omega
        · obtain rfl : m = k := by omega
          obtain ⟨v, hvv⟩ : ∃ v, v = (absP pick).toNat % m := ⟨_, rfl⟩
          have hvl : v < m := by rw [hvv]; exact Nat.mod_lt _ HM0.out
          have hpm := pick_mod pick m HM0.out
          rw [← hvv] at hpm
          have HVK : Hid (victimN (T.getD q []) (fillE va asid lf) pick = v) := Lib.hid (by rw [vic_pick (HK.out.ways q HQL.out) HNS.out HNO.out, ← hvv])
          have HVL := Lib.hid hvl
          have hz : ¬ (m = 0) := by have := HM0.out; omega
          have p1 := HPK.out.1
          have p2 := HPK.out.2
          have f1 := Blk.frozen HSE.out 1
          have l1 := HSE.out.lt
          have c1 := HSE.out.cell 1
          simp only [List.getElem?_toArray, List.getElem?_cons_zero, List.getElem?_cons_succ] at c1
          have HS5 : Hid (Blk (w2.setCell ⟨sb, 1, none⟩ (.int .i64 (v : Int))) sb 99 #[.int .i64 (q : Int), .int .i64 (v : Int), .int .i64 asid, .int .u64 (pg : Int), .bool lf.v, .bool lf.r, .bool lf.w, .bool lf.x, .bool lf.u, .bool lf.g, .bool lf.a, .bool lf.d, .int .i64 lf.rsw, .int .u64 lf.ppn, .int .i64 lf.lev, .int .u64 lf.pos]) := Lib.hid (HSE.out.set_ 1 _)
          have HB5 : Hid (Below W.heap.size W (w2.setCell ⟨sb, 1, none⟩ (.int .i64 (v : Int)))) := Lib.hid (HBE.out.setCell HSW.out _)
          clear hvv hvl hq0
          by_cases hp : pick < 0
          · have ha : absP pick = -1 - pick := by unfold absP; rw [if_pos hp]
            rw [ha] at hpm
            have hpm2 : (-1 - pick) % (m : Int) = (v : Int) := by rw [← hpm, Int.tmod_eq_emod_of_nonneg (by omega)]
            clear ha
            go_wp2_with (first | ((with_reducible refine wl_load 99 (.tmp 12) rfl ?_ sb 0 #[.int .i64 (q : Int), .int .i64 (v : Int), .int .i64 asid, .int .u64 (pg : Int), .bool lf.v, .bool lf.r, .bool lf.w, .bool lf.x, .bool lf.u, .bool lf.g, .bool lf.a, .bool lf.d, .int .i64 lf.rsw, .int .u64 lf.ppn, .int .i64 lf.lev, .int .u64 lf.pos] ?_ HS5.out.range ?_ ?_); exact rfl; exact rfl; exact ex_row))
            rw [show Value.agg #[.int .i64 (q : Int), .int .i64 (v : Int), .int .i64 asid, .int .u64 (pg : Int), .bool lf.v, .bool lf.r, .bool lf.w, .bool lf.x, .bool lf.u, .bool lf.g, .bool lf.a, .bool lf.d, .int .i64 lf.rsw, .int .u64 lf.ppn, .int .i64 lf.lev, .int .u64 lf.pos] = .agg (Sl.cs ⟨q, v, asid, pg, lf⟩) from rfl]
            refine (tlb_rput_any gx n m ⟨q, v, asid, pg, lf⟩ G L _ (HK.out.slots HP.out) (HR.out.below HB5.out)).mono ?_
            rintro _ w6 ⟨rfl, hput⟩
            have HPT := Lib.hid (hput.mono HB5.out)
            clear hput
            go_wp2_with fail
            go_ret
            refine ⟨rfl, _, HPT.out, ?_⟩
            rw [HPG.out]
            exact fill_done HK.out HP.out (by rw [HQ.out, HPG.out]) HQL.out HVK.out HVL.out
          · have ha : absP pick = pick := by unfold absP; rw [if_neg hp]
            rw [ha] at hpm
            have hpm2 : pick % (m : Int) = (v : Int) := by rw [← hpm, Int.tmod_eq_emod_of_nonneg (by omega)]
            clear ha
            go_wp2_with (first | ((with_reducible refine wl_load 99 (.tmp 12) rfl ?_ sb 0 #[.int .i64 (q : Int), .int .i64 (v : Int), .int .i64 asid, .int .u64 (pg : Int), .bool lf.v, .bool lf.r, .bool lf.w, .bool lf.x, .bool lf.u, .bool lf.g, .bool lf.a, .bool lf.d, .int .i64 lf.rsw, .int .u64 lf.ppn, .int .i64 lf.lev, .int .u64 lf.pos] ?_ HS5.out.range ?_ ?_); exact rfl; exact rfl; exact ex_row))
            rw [show Value.agg #[.int .i64 (q : Int), .int .i64 (v : Int), .int .i64 asid, .int .u64 (pg : Int), .bool lf.v, .bool lf.r, .bool lf.w, .bool lf.x, .bool lf.u, .bool lf.g, .bool lf.a, .bool lf.d, .int .i64 lf.rsw, .int .u64 lf.ppn, .int .i64 lf.lev, .int .u64 lf.pos] = .agg (Sl.cs ⟨q, v, asid, pg, lf⟩) from rfl]
            refine (tlb_rput_any gx n m ⟨q, v, asid, pg, lf⟩ G L _ (HK.out.slots HP.out) (HR.out.below HB5.out)).mono ?_
            rintro _ w6 ⟨rfl, hput⟩
            have HPT := Lib.hid (hput.mono HB5.out)
            clear hput
            go_wp2_with fail
            go_ret
            refine ⟨rfl, _, HPT.out, ?_⟩
            rw [HPG.out]
            exact fill_done HK.out HP.out (by rw [HQ.out, HPG.out]) HQL.out HVK.out HVL.out
end Go.Proofs.Ytecalibnnfcaeaa
