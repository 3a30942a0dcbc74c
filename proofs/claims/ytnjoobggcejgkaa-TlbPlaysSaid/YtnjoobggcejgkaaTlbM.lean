/- The reference's buffer; at. -/
import Derived.Test.YtnjoobggcejgkaaTlbL
import Derived.Test.YtnjoobggcejgkaaWide
namespace Go.Proofs.Ytnjoobggcejgkaa
open Go.RowKit

def Sl.val (x : Sl) : Value := .agg #[.int .i64 x.set, .int .i64 x.way, .int .i64 x.asid, .int .u64 x.page, .bool x.lf.v, .bool x.lf.r, .bool x.lf.w, .bool x.lf.x, .bool x.lf.u, .bool x.lf.g, .bool x.lf.a, .bool x.lf.d, .int .i64 x.lf.rsw, .int .u64 x.lf.ppn, .int .i64 x.lf.lev, .int .u64 x.lf.pos]
def Sl.cs (x : Sl) : Array Value := #[.int .i64 x.set, .int .i64 x.way, .int .i64 x.asid, .int .u64 x.page, .bool x.lf.v, .bool x.lf.r, .bool x.lf.w, .bool x.lf.x, .bool x.lf.u, .bool x.lf.g, .bool x.lf.a, .bool x.lf.d, .int .i64 x.lf.rsw, .int .u64 x.lf.ppn, .int .i64 x.lf.lev, .int .u64 x.lf.pos]
theorem cs_size (x : Sl) : x.cs.size = 16 := rfl
theorem cs_toList (x : Sl) : x.cs.toList = x.vs := rfl
theorem cs_one (x : Sl) : x.cs.all (·.oneCell') = true := Array.all_eq_true_iff_forall_mem.2 fun u hu => one_sl x u (by rw [← cs_toList]; simpa using hu)
theorem val_cs (x : Sl) : x.val = .agg x.cs := rfl
theorem slot_row (x : Sl) : rowT Try.prog 64 x.cs.size = true := by rw [cs_size]; kernel_rfl
def sl0 : Sl := ⟨0, 0, 0, 0, lf0⟩
/-- A slice that reads as slots. -/
def RdS (w : World) (v : Value) (L : List Sl) : Prop := ∃ A c, v = .slice A L.length c ∧ (L ≠ [] → ∃ b, A = some ⟨b, 0, none⟩ ∧ ∀ k x, L[k]? = some x → ∀ j, j < 16 → w.cell? ⟨b, k * 16 + j, none⟩ = x.vs[j]?)
theorem RdS.below {w w' : World} {v : Value} {L : List Sl} (h : RdS w v L) (hb : Below w.heap.size w w') : RdS w' v L := by
  obtain ⟨A, c, e, h⟩ := h
  refine ⟨A, c, e, fun hne => ?_⟩
  obtain ⟨b, hA, hc⟩ := h hne
  refine ⟨b, hA, fun k x hx j hj => ?_⟩
  have h1 := hc k x hx j hj
  have h2 : x.vs[j]? = some (x.vs[j]'hj) := List.getElem?_eq_getElem hj
  rw [h2] at h1 ⊢
  rw [hb.cell (cell_lt h1)]
  exact h1
theorem RdS.of_own {w : World} {base : Nat} {v : Value} {L : List Sl} (h : w.ownsRow base 64 16 v L.length (slC L)) : RdS w v L := by
  rcases h.2 with ⟨rfl, h2⟩ | ⟨g, cap, cur, rfl, hb, hh, hc, _, _, ht⟩
  · exact ⟨none, 0, by rw [h2], fun hne => absurd (List.eq_nil_of_length_eq_zero h2) hne⟩
  · refine ⟨_, _, rfl, fun _ => ⟨g, rfl, fun k x hx j hj => ?_⟩⟩
    have hlt : k < L.length := (List.getElem?_eq_some_iff.1 hx).1
    rw [cell_of_row w g (k * 16 + j) cur _ _ hh, ← slC_get L k j x hx hj, ← ht, List.getElem?_take, if_pos (by omega), Array.getElem?_toList]
def atB (s y : Int) (x : Sl) : Bool := x.set == s && x.way == y
def atS (L : List Sl) (s y : Int) : Option Sl := L.find? (atB s y)
/-- The reference's buffer in memory. -/
def RefAt (w : World) (gx : Nat) (n m : Int) (L : List Sl) : Prop := ∃ v, Blk w gx 43 #[.int .i64 n, .int .i64 m, v] ∧ RdS w v L
theorem RefAt.below {w w' : World} {gx : Nat} {n m : Int} {L : List Sl} (h : RefAt w gx n m L) (hb : Below w.heap.size w w') : RefAt w' gx n m L := by
  obtain ⟨v, h1, h2⟩ := h
  exact ⟨v, h1.below hb h1.lt, h2.below hb⟩
theorem sfind_step {l : List Sl} {k : Nat} {x : Sl} {p : Sl → Bool} (hx : l[k]? = some x) (h : ∀ y ∈ l.take k, p y = false) (hp : p x = true) : l.find? p = some x := by
  have hk : k < l.length := (List.getElem?_eq_some_iff.1 hx).1
  have e : l = l.take k ++ x :: l.drop (k + 1) := by
    rw [List.getElem?_eq_getElem hk] at hx
    injection hx with hx
    rw [← hx, List.getElem_cons_drop, List.take_append_drop]
  rw [e, List.find?_append, List.find?_eq_none.2 (fun y hy => by rw [h y hy]; decide), Option.none_or, List.find?_cons, hp]
theorem sfind_none {l : List Sl} {k : Nat} {p : Sl → Bool} (hk : l.length ≤ k) (h : ∀ y ∈ l.take k, p y = false) : l.find? p = none := by
  rw [List.take_of_length_le hk] at h
  exact List.find?_eq_none.2 fun y hy => by rw [h y hy]; decide
theorem stake_more {l : List Sl} {k : Nat} {x : Sl} {p : Sl → Bool} (hx : l[k]? = some x) (h : ∀ y ∈ l.take k, p y = false) (hp : p x = false) : ∀ y ∈ l.take (k + 1), p y = false := by
  intro y hy
  rw [List.take_add_one, hx] at hy
  rcases List.mem_append.1 hy with hy | hy
  · exact h y hy
  · simp at hy; rw [hy]; exact hp
def AtR (r : Option Sl) (W : World) (e : Ending) (w' : World) : Prop :=
  e = .returned (.tuple #[(r.getD sl0).val, .bool r.isSome]) ∧ Below W.heap.size W w'
theorem RdS.range {w : World} {v : Value} {L : List Sl} (h : RdS w v L) (hne : L ≠ []) : ∃ b, v = .slice (some ⟨b, 0, none⟩) L.length (match v with | .slice _ _ c => c | _ => 0) ∧ ∀ k x, L[k]? = some x → w.rangeAt b (k * 16) x.cs.toList := by
  obtain ⟨A, c, rfl, h⟩ := h
  obtain ⟨b, rfl, hc⟩ := h hne
  refine ⟨b, rfl, fun k x hx j u hj => ?_⟩
  have hlt : j < 16 := (List.getElem?_eq_some_iff.1 hj).1
  rw [hc k x hx j hlt, ← cs_toList]
  exact hj
theorem sl0_cs : sl0.cs = #[.int .i64 0, .int .i64 0, .int .i64 0, .int .u64 0, .bool false, .bool false, .bool false, .bool false, .bool false, .bool false, .bool false, .bool false, .int .i64 0, .int .u64 0, .int .i64 0, .int .u64 0] := rfl
set_option maxRecDepth 100000 in
set_option maxHeartbeats 4000000 in
theorem at_any (gx : Nat) (nn mm : Int) (L : List Sl) (s y : Int) (W : World) (hL : L.length ≤ 1000) (hR : RefAt W gx nn mm L) :
    Calls Try.prog 24 #[.pointer (some ⟨gx, 0, none⟩), .int .i64 s, .int .i64 y] W (AtR (atS L s y) W) := by
  have hc := (Below.refl W.heap.size W).alloc (Nat.le_refl _) (.cells #[.int .i64 0, .int .i64 0, .int .i64 0, .int .u64 0, .bool false, .bool false, .bool false, .bool false, .bool false, .bool false, .bool false, .bool false, .int .i64 0, .int .u64 0, .int .i64 0, .int .u64 0] 64)
  have hX : Blk (W.alloc (.cells #[.int .i64 0, .int .i64 0, .int .i64 0, .int .u64 0, .bool false, .bool false, .bool false, .bool false, .bool false, .bool false, .bool false, .bool false, .int .i64 0, .int .u64 0, .int .i64 0, .int .u64 0] 64)) W.heap.size 64 #[.int .i64 0, .int .i64 0, .int .i64 0, .int .u64 0, .bool false, .bool false, .bool false, .bool false, .bool false, .bool false, .bool false, .bool false, .int .i64 0, .int .u64 0, .int .i64 0, .int .u64 0] := Blkf.new_at _ _ _ _ rfl
  obtain ⟨v, hg, hr⟩ := hR.below hc
  obtain ⟨n, hn⟩ : ∃ n, n = L.length := ⟨_, rfl⟩
  obtain ⟨A, c, rfl⟩ : ∃ A c, v = .slice A n c := by obtain ⟨A, c, e, _⟩ := hr; exact ⟨A, c, by rw [hn]; exact e⟩
  rw [← hn] at hL
  have HN := Lib.hid hn
  have HC0 := Lib.hid hc
  have HX0 := Lib.hid hX
  have HR := Lib.hid hr
  have r2 := hg.cell 2
  have rl := hg.lt
  simp at r2
  clear hc hX hg hr hR hn
  go_enter Try.func24, Try.ntmps24
  go_wp2_with fail
  generalize W.alloc (.cells #[.int .i64 0, .int .i64 0, .int .i64 0, .int .u64 0, .bool false, .bool false, .bool false, .bool false, .bool false, .bool false, .bool false, .bool false, .int .i64 0, .int .u64 0, .int .i64 0, .int .u64 0] 64) = W0 at *
  go_wp2_with fail
  go_loopw [15] (fun i wr => ∃ k : Nat, k ≤ n ∧ i = .int .i64 k ∧ Below W0.heap.size W0 wr ∧ ∀ x ∈ L.take k, atB s y x = false) (fun i _ => n - (intOf i).toNat)
  case atStart => exact ⟨0, by omega, rfl, Below.refl _ _, fun x hx => by simp at hx⟩
  case round =>
    obtain ⟨k, hk, rfl, hbel, hno⟩ := hrel
    have HBE := Lib.hid hbel
    have HNO := Lib.hid hno
    clear hbel hno r2 rl
    have HXW := Lib.hid (HX0.out.below HBE.out HX0.out.lt)
    have HCW := Lib.hid (HC0.out.trans (HBE.out.mono HC0.out.size))
    by_cases hkl : k < n
    · obtain ⟨x, hx⟩ : ∃ x, L[k]? = some x := ⟨_, List.getElem?_eq_getElem (by rw [← HN.out]; exact hkl)⟩
      have HX := Lib.hid hx
      obtain ⟨b, e, hrg⟩ := HR.out.range (fun e => by rw [e] at hx; simp at hx)
      obtain rfl : A = some ⟨b, 0, none⟩ := by injection e
      clear e
      have HRG := Lib.hid (range_below (hrg k x hx) HBE.out)
      clear hrg hx
      have x0 : x.cs[0]? = some (.int .i64 x.set) := rfl
      have x1 : x.cs[1]? = some (.int .i64 x.way) := rfl
      have hal := (Below.refl wr.heap.size wr).alloc (Nat.le_refl _) (.cells x.cs 64)
      have HAL := Lib.hid (HBE.out.trans (hal.mono HBE.out.size))
      have HAW := Lib.hid hal
      have HLB : Hid (Blk (wr.alloc (.cells x.cs 64)) wr.heap.size 64 x.cs) := Lib.hid (Blkf.new_at _ _ _ _ rfl)
      clear hal
      cases h1 : (x.set == s)
      · have HNX := Lib.hid (stake_more HX.out HNO.out (show atB s y x = false by unfold atB; rw [h1]; rfl))
        go_wp2_with (first | ((with_reducible refine wl_load 64 (.tmp 17) rfl ?_ b (k * 16) x.cs ?_ HRG.out ?_ ?_); exact rfl; exact rfl; exact slot_row x) | ((with_reducible refine wl_store_new 64 (.tmp 9) (.tmp 18) rfl ?_ wr wr.heap.size 64 #[.int .i64 0, .int .i64 0, .int .i64 0, .int .u64 0, .bool false, .bool false, .bool false, .bool false, .bool false, .bool false, .bool false, .bool false, .int .i64 0, .int .u64 0, .int .i64 0, .int .u64 0] x.cs ?_ ?_ ?_ ?_ ?_ ?_ ?_ ?_); exact rfl; exact rfl; exact rfl; exact rfl; exact rfl; exact rfl; exact slot_row x; exact cs_one x) | ((with_reducible refine wl_load 64 (.tmp 9) rfl ?_ wr.heap.size 0 x.cs ?_ HLB.out.range ?_ ?_); exact rfl; exact rfl; exact slot_row x) | ((with_reducible refine wl_store 64 (.tmp 6) (.tmp 29) rfl ?_ W.heap.size 64 _ x.cs ?_ ?_ (HXW.out.below HAW.out HXW.out.lt) ?_ ?_ ?_ ?_); exact rfl; exact rfl; exact rfl; exact rfl; exact slot_row x; exact cs_one x))
        exact ⟨⟨k + 1, hkl, by go_num, HAL.out, HNX.out⟩, by simp [intOf]; omega⟩
      · cases h2 : (x.way == y)
        · have HNX := Lib.hid (stake_more HX.out HNO.out (show atB s y x = false by unfold atB; rw [h2, Bool.and_false]))
          go_wp2_with (first | ((with_reducible refine wl_load 64 (.tmp 17) rfl ?_ b (k * 16) x.cs ?_ HRG.out ?_ ?_); exact rfl; exact rfl; exact slot_row x) | ((with_reducible refine wl_store_new 64 (.tmp 9) (.tmp 18) rfl ?_ wr wr.heap.size 64 #[.int .i64 0, .int .i64 0, .int .i64 0, .int .u64 0, .bool false, .bool false, .bool false, .bool false, .bool false, .bool false, .bool false, .bool false, .int .i64 0, .int .u64 0, .int .i64 0, .int .u64 0] x.cs ?_ ?_ ?_ ?_ ?_ ?_ ?_ ?_); exact rfl; exact rfl; exact rfl; exact rfl; exact rfl; exact rfl; exact slot_row x; exact cs_one x) | ((with_reducible refine wl_load 64 (.tmp 9) rfl ?_ wr.heap.size 0 x.cs ?_ HLB.out.range ?_ ?_); exact rfl; exact rfl; exact slot_row x) | ((with_reducible refine wl_store 64 (.tmp 6) (.tmp 29) rfl ?_ W.heap.size 64 _ x.cs ?_ ?_ (HXW.out.below HAW.out HXW.out.lt) ?_ ?_ ?_ ?_); exact rfl; exact rfl; exact rfl; exact rfl; exact slot_row x; exact cs_one x))
          exact ⟨⟨k + 1, hkl, by go_num, HAL.out, HNX.out⟩, by simp [intOf]; omega⟩
        · have HFND : Hid (atS L s y = some x) := Lib.hid (sfind_step HX.out HNO.out (by unfold atB; rw [h1, h2]; rfl))
          go_wp2_with (first | ((with_reducible refine wl_load 64 (.tmp 17) rfl ?_ b (k * 16) x.cs ?_ HRG.out ?_ ?_); exact rfl; exact rfl; exact slot_row x) | ((with_reducible refine wl_store_new 64 (.tmp 9) (.tmp 18) rfl ?_ wr wr.heap.size 64 #[.int .i64 0, .int .i64 0, .int .i64 0, .int .u64 0, .bool false, .bool false, .bool false, .bool false, .bool false, .bool false, .bool false, .bool false, .int .i64 0, .int .u64 0, .int .i64 0, .int .u64 0] x.cs ?_ ?_ ?_ ?_ ?_ ?_ ?_ ?_); exact rfl; exact rfl; exact rfl; exact rfl; exact rfl; exact rfl; exact slot_row x; exact cs_one x) | ((with_reducible refine wl_load 64 (.tmp 9) rfl ?_ wr.heap.size 0 x.cs ?_ HLB.out.range ?_ ?_); exact rfl; exact rfl; exact slot_row x) | ((with_reducible refine wl_store 64 (.tmp 6) (.tmp 29) rfl ?_ W.heap.size 64 _ x.cs ?_ ?_ (HXW.out.below HAW.out HXW.out.lt) ?_ ?_ ?_ ?_); exact rfl; exact rfl; exact rfl; exact rfl; exact slot_row x; exact cs_one x))
          refine bodyPost_ret (res_cell_slot (cs := x.cs) (v := .bool true) rfl _ _ W.heap.size 64 rfl rfl ((HXW.out.below HAW.out HXW.out.lt).setRow _) (slot_row x)) rfl ?_
          unfold AtR
          rw [HFND.out]
          exact ⟨rfl, below_setRow (HCW.out.trans (HAW.out.mono HCW.out.size)) (Nat.le_refl _) _⟩
    · obtain rfl : n = k := by omega
      have HFND : Hid (atS L s y = none) := Lib.hid (sfind_none (by rw [HN.out]; exact Nat.le_refl _) HNO.out)
      go_wp2_with ((with_reducible refine wl_store 64 (.tmp 6) (.tmp 31) rfl ?_ W.heap.size 64 _ sl0.cs ?_ ?_ HXW.out ?_ ?_ ?_ ?_); exact rfl; exact rfl; exact rfl; exact rfl; exact slot_row sl0; exact cs_one sl0)
      refine bodyPost_ret (res_cell_slot (cs := sl0.cs) (v := .bool false) rfl _ _ W.heap.size 64 rfl rfl (HXW.out.setRow _) (slot_row sl0)) rfl ?_
      unfold AtR
      rw [HFND.out]
      exact ⟨rfl, below_setRow HCW.out (Nat.le_refl _) _⟩
end Go.Proofs.Ytnjoobggcejgkaa
