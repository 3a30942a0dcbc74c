/- slices.Backward over bytes; the number of some bytes. -/
import Derived.RangeFuncNested
import Derived.RangeFuncBound
import Derived.RangeFuncCalls
import Derived.RangeFuncLeaves
import Derived.RangeFuncBox
import Derived.Shelf.Abstract
import Derived.WalkKit
import Derived.OwnWalkIn
import Derived.TacticsInMore
import Derived.LoopNIn
import Derived.LoopIn
import Derived.Test.YtkkgigdgbiklmaaDoorWordF
import Derived.Test.YtkkgigdgbiklmaaDoorSep
namespace Go.Proofs.YtkkgigdgbiklmaaDoor
open Go.RowKit Go.Shelf

attribute [local go_sem] Oper.semAt_some

/-- What has come when k rounds are over. -/
def upto {α : Type} (f : Nat → α) (k : Nat) : List α := (List.range k).map f
theorem upto_succ {α : Type} (f : Nat → α) (k : Nat) : upto f (k + 1) = upto f k ++ [f k] := by simp [upto, List.range_succ]
theorem upto_length {α : Type} (f : Nat → α) (k : Nat) : (upto f k).length = k := by simp [upto]
def bk (zs : List Int) (j : Nat) : Nat × Int := (zs.length - 1 - j, zs[zs.length - 1 - j]?.getD 0)
/-- Blocks below n₀ but for g stand as they stood. -/
def KB (g n₀ : Nat) : World → World → Prop := Keeps (fun b => b = g ∨ n₀ ≤ b)
theorem KB.of_below {g n₀ : Nat} {A B : World} (h : Below n₀ A B) : KB g n₀ A B := ⟨h.os, h.tape, h.output, h.size, fun i _ hf => h.block i (Nat.lt_of_not_le fun e => hf (.inr e))⟩
theorem KB.t {g n₀ : Nat} {A B C : World} (h : KB g n₀ A B) (k : KB g n₀ B C) : KB g n₀ A C := Keeps.same h k
theorem KB.cell {g n₀ : Nat} {A B : World} (h : KB g n₀ A B) {p : Addr} {v : Value} (hc : A.cell? p = some v) (hg : p.block ≠ g) (hn : p.block < n₀) : B.cell? p = some v := by
  have h2 := Keeps.block h p.block (cell_lt hc) (fun e => e.elim hg (fun e => by omega))
  rw [World.cell?_of_block h2]
  exact hc
set_option maxRecDepth 100000 in
set_option maxHeartbeats 2000000 in
theorem backward1_in (F : Fence) (n : Nat) (h8 : F.fn 48) (hro : F.round = none) (hn : 1 ≤ n) (l Bs g n₀ b off cap : Nat) (zs : List Int) (hreach : zs.length ≤ 140737488351232) (J Jx : List (Nat × Int) → World → Prop)
    (hY : ∀ pre x W, J pre W → pre.length < zs.length → YieldAt F (n - 1) Tryd.prog l #[.int .i64 (x.1 : Int), .int .u8 x.2] W fun e W' =>
      (e = .returned (.bool true) ∧ J (pre ++ [x]) W' ∧ KB g n₀ W W') ∨ (e = .returned (.bool false) ∧ Jx (pre ++ [x]) W'))
    (W : World) (hBs : W.cell? ⟨Bs, 0, none⟩ = some (.slice (some ⟨b, off, none⟩) zs.length cap)) (hBg : Bs ≠ g) (hBn : Bs < n₀) (hbg : b ≠ g) (hbn : b < n₀) (hc : ∀ j, j < zs.length → W.cell? ⟨b, off + j, none⟩ = some (.int .u8 (zs[j]?.getD 0))) (h0 : J [] W) :
    CallsIn F n Tryd.prog 48 #[.func (.yield l) #[] #[], .pointer (some ⟨Bs, 0, none⟩)] W fun e W' => (∃ v, e = .returned v) ∧
      ((∃ ys, ys = upto (bk zs) zs.length ∧ J ys W') ∨ (∃ pre, (∃ k, k ≤ zs.length ∧ pre = upto (bk zs) k) ∧ Jx pre W')) := by
  obtain ⟨len, hlen⟩ : ∃ len, len = zs.length := ⟨_, rfl⟩
  have HLEN := Lib.hid hlen
  rw [← hlen] at hBs hreach ⊢
  have HBS := Lib.hid hBs
  have HC := Lib.hid hc
  have HY := Lib.hid hY
  clear hc hY hlen
  refine callsIn_of_wp Tryd.func48 rfl h8 ?_ hro
  simp only [Tryd.ntmps48, List.size_toArray, List.length_cons, List.length_nil, Nat.reduceAdd, Nat.reduceSub, Array.replicate_succ, Array.replicate_zero, List.push_toArray, List.append_toArray, List.nil_append, List.cons_append]
  gi_wp2
  clear hBs
  gi_loopw [3] (fun i wr => ∃ m k : Nat, m + k = len ∧ i = .int .i64 ((m : Int) - 1) ∧ J (upto (bk zs) k) wr ∧ KB g n₀ W wr) (fun i _ => (intOf i + 1).toNat)
  case atStart => exact ⟨len, 0, by omega, by simp, h0, Keeps.refl _ _⟩
  case round =>
    obtain ⟨m, k, hmk, rfl, hJs, hnx⟩ := hrel
    cases m with
    | zero =>
      obtain rfl : k = len := by omega
      clear hmk
      gi_wp2
      go_end0
      exact ⟨⟨_, rfl⟩, .inl ⟨_, rfl, hJs⟩⟩
    | succ m =>
      rw [show ((m + 1 : Nat) : Int) - 1 = (m : Int) by omega]
      have hbk : bk zs k = (m, zs[m]?.getD 0) := by unfold bk; rw [← HLEN.out, show len - 1 - k = m by omega]
      obtain ⟨fn, tmps, assign, body, hy, hR⟩ := HY.out _ (bk zs k) wr hJs (by rw [upto_length, ← HLEN.out]; omega)
      rw [hbk] at hy
      dsimp only at hy
      have v0 := hnx.cell HBS.out hBg hBn
      have v1 := hnx.cell (HC.out m (by rw [← HLEN.out]; omega)) hbg hbn
      have HNX := Lib.hid hnx
      have HBK := Lib.hid hbk
      have hml : m < len := by omega
      have hmI : (m : Int) < (len : Int) := by omega
      clear hnx hbk
      gi_wp2
      refine hR.mono ?_
      rintro e W3 (⟨rfl, hJ3, hk3⟩ | ⟨rfl, hJx3⟩)
      · clear v0 v1
        gi_wp2
        go_roundw
        case rel => exact ⟨m, k + 1, by omega, by simp, by rw [upto_succ]; exact hJ3, HNX.out.t hk3⟩
        case measure => simp [intOf]
      · gi_wp2
        refine bodyPost_ret (results_none rfl _ _ _) rfl ?_
        exact ⟨⟨_, rfl⟩, .inr ⟨_, ⟨k + 1, by omega, (upto_succ _ _).symm⟩, hJx3⟩⟩
set_option maxHeartbeats 1000000 in
theorem backward_in (F : Fence) (n : Nat) (h6 : F.fn 33) (hro : F.round = none) (a : Option Addr) (len cap : Nat) (w : World) :
    CallsIn F n Tryd.prog 33 #[.slice a len cap] w fun e w' => e = .returned (.func (.func 48) #[] #[.pointer (some ⟨w.heap.size, 0, none⟩)]) ∧ w' = w.alloc (.cells #[.slice a len cap] 22) := by
  refine callsIn_of_wp Tryd.func33 rfl h6 ?_ hro
  simp only [Tryd.ntmps33, List.size_toArray, List.length_cons, List.length_nil, Nat.reduceAdd, Nat.reduceSub, Array.replicate_succ, Array.replicate_zero, List.push_toArray, List.append_toArray, List.nil_append, List.cons_append]
  gi_wp2
  go_ret
  exact ⟨rfl, rfl⟩
theorem backward_stops (F : Fence) (n : Nat) (h8 : F.fn 48) (hro : F.round = none) (hn : 1 ≤ n) (Bs g n₀ b off cap : Nat) (zs : List Int) (hreach : zs.length ≤ 140737488351232) (w : World) (hBs : Bs < w.heap.size) (hn₀ : n₀ ≤ w.heap.size) (hBg : Bs ≠ g) (hBn : Bs < n₀) (hbg : b ≠ g) (hbn : b < n₀)
    (hc : w.cell? ⟨Bs, 0, none⟩ = some (.slice (some ⟨b, off, none⟩) zs.length cap)) (hI : ∀ j, j < zs.length → w.cell? ⟨b, off + j, none⟩ = some (.int .u8 (zs[j]?.getD 0))) :
    SeqStopsK F n Tryd.prog 48 #[.pointer (some ⟨Bs, 0, none⟩)] (fun x : Nat × Int => #[Value.int .i64 (x.1 : Int), Value.int .u8 x.2]) (KB g n₀) (fun ys => ys = upto (bk zs) zs.length)
      (fun pre => ∃ k, k ≤ zs.length ∧ pre = upto (bk zs) k) zs.length w := fun l J Jx W hW _ _ hY h0 =>
  backward1_in F n h8 hro hn l Bs g n₀ b off cap zs hreach J Jx hY W ((hW.cell (p := ⟨Bs, 0, none⟩) hBs).trans hc) hBg hBn hbg hbn (fun j hj => (hW.cell (p := ⟨b, off + j, none⟩) (show b < _ by omega)).trans (hI j hj)) h0
/-- What number has when the bytes pre have come. -/
def stepI (s c : Int) : Int := bits .or .i64 (wrap64 (s * 256)) (wrap64 c)
def numF : List (Nat × Int) → Int := List.foldl (fun s x => stepI s x.2) 0
theorem numF_snoc (pre : List (Nat × Int)) (x : Nat × Int) : numF (pre ++ [x]) = stepI (numF pre) x.2 := by simp [numF]
set_option maxRecDepth 100000 in
set_option maxHeartbeats 2000000 in
theorem number_in (F : Fence) (n : Nat) (h3 : F.fn 19) (h5 : F.fn 33) (h7 : F.fn 48) (hro : F.round = none) (hn : 3 ≤ n) (b off cap : Nat) (zs : List Int) (hreach : zs.length ≤ 140737488351232) (w : World) (hb : b < w.heap.size) (hI : ∀ j, j < zs.length → w.cell? ⟨b, off + j, none⟩ = some (.int .u8 (zs[j]?.getD 0))) :
    CallsIn F n Tryd.prog 19 #[.slice (some ⟨b, off, none⟩) zs.length cap] w fun e W' => e = .returned (.int .i64 (numF (upto (bk zs) zs.length))) ∧ Below w.heap.size w W' := by
  have h1 : 1 ≤ n := by omega
  refine callsIn_of_wp_marks Tryd.func19 rfl h3 ?_ hro
  simp only [Tryd.ntmps19, List.size_toArray, List.length_cons, List.length_nil, Nat.reduceAdd, Nat.reduceSub, Array.replicate_succ, Array.replicate_zero, List.push_toArray, List.append_toArray, List.nil_append, List.cons_append]
  gi_wp2_with (gi_at_call 33; refine (backward_in F (n - 1) h5 hro _ _ _ _).mono ?_; rintro e w' ⟨rfl, rfl⟩)
  have bS := Boxed.new w 3 (.int .i64 0)
  have bN := Boxed.new (w.alloc (.cells #[.int .i64 0] 3)) 22 (.slice (some ⟨b, off, none⟩) zs.length cap)
  rw [World.size_alloc] at bN
  have hB0 : Below w.heap.size w ((w.alloc (.cells #[.int .i64 0] 3)).alloc (.cells #[.slice (some ⟨b, off, none⟩) zs.length cap] 22)) := ((Below.refl _ w).alloc (Nat.le_refl _) _).alloc (by simp) _
  have hsz : ((w.alloc (.cells #[.int .i64 0] 3)).alloc (.cells #[.slice (some ⟨b, off, none⟩) zs.length cap] 22)).heap.size = w.heap.size + 2 := by simp
  refine wpIn_rangeFunc_ownG hro h1 (gf := 48) (lb := #[.pointer (some ⟨w.heap.size + 1, 0, none⟩)]) rfl h7 (enters_of Tryd.func48 (by kernel_rfl) rfl)
    (backward_stops F (n - 1) h7 hro (by omega) (w.heap.size + 1) w.heap.size (w.heap.size + 2) b off cap zs hreach _ (by rw [hsz]; omega) (by rw [hsz]; omega) (by omega) (by omega) (by omega) (by omega) bN.cell (fun j hj => (hB0.cell (p := ⟨b, off + j, none⟩) hb).trans (hI j hj)))
    (fun h k => KB.t h k) (fun W l o o' hl h1 h2 h3 => KB.of_below (belowK_b (Nat.le_of_eq hsz.symm) W l o o' hl h1 h2 h3)) (Below.refl _ _) (fun _ => rfl)
    (fun pre W => (W.cell? ⟨w.heap.size, 0, none⟩ = some (.int .i64 (numF pre)) ∧ W.frozen? ⟨w.heap.size, 0, none⟩ = false) ∧ Below w.heap.size w W)
    (fun _ _ _ => False)
    (OwnFrom.and (Own.from (fun s A B row hs hg hr => ⟨cell_kept hs.1 hg hr, (frozen_kept hs.1 hg hr).trans hs.2⟩) _) (ownFrom_below (Nat.le_refl _) (by simp; omega)))
    (fun _ _ _ _ _ hs _ _ => hs)
    ⟨⟨(bS.alloc _).cell, (bS.alloc _).frozen⟩, hB0⟩
    (fun x => { tmps := #[.slice (some ⟨b, off, none⟩) zs.length cap, undef, .int .i64 0, .pointer (some ⟨w.heap.size, 0, none⟩), undef, .int .u8 x.2, .slice (some ⟨b, off, none⟩) zs.length cap, .func (.func 48) #[] #[.pointer (some ⟨w.heap.size + 1, 0, none⟩)], .int .i64 (x.1 : Int), .int .u8 x.2, undef, undef, undef, undef, undef, undef], defers := [] }) ?assign ?body ?done ?stop
  case assign =>
    intro l x W K hK
    gi_wp2
    exact hK
  case body =>
    rintro l pre x W ⟨⟨hc, hf⟩, hB⟩ _
    gi_wp2
    exact ⟨(KeepsOthers.setCell _ _ _).from _, (Keeps.refl _ W).setCell (p := ⟨w.heap.size, 0, none⟩) (.inl (.inl rfl)) _, ⟨by rw [numF_snoc]; exact World.cell?_setCell_same' _ _ _ (by rw [hc]; rfl), by rw [World.frozen?_setCell]; exact hf⟩, hB.setCell (p := ⟨w.heap.size, 0, none⟩) (Nat.le_refl _) _⟩
  case done =>
    rintro D ys W hD rfl ⟨⟨hc, _⟩, hB⟩ hK
    gi_wp2
    refine ⟨by simp, .inl ⟨_, _, rfl, run_takeDeferred hK, ?_⟩⟩
    exact ⟨_, results_tmp rfl _ _ _, rfl, hB.trans (belowK_b (w := w) (Nat.le_refl _) W D _ _ (by simp at hD; omega) hK rfl rfl)⟩
  case stop =>
    rintro D c pre W _ _ h _
    exact h.elim
theorem i64_or (a b : Nat) (ha : a < 9223372036854775808) (hb : b < 9223372036854775808) : bits .or .i64 (a : Int) (b : Int) = ((a ||| b : Nat) : Int) := by
  have h : bits .or .i64 (a : Int) (b : Int) = IntKind.i64.wrap ((BitVec.ofInt 64 (a : Int) ||| BitVec.ofInt 64 (b : Int)).toNat : Int) := rfl
  have ho : a ||| b < 9223372036854775808 := Nat.or_lt_two_pow (n := 63) ha hb
  rw [h, BitVec.toNat_or, BitVec.ofInt_natCast, BitVec.ofInt_natCast, BitVec.toNat_ofNat, BitVec.toNat_ofNat, Nat.mod_eq_of_lt (by omega), Nat.mod_eq_of_lt (by omega)]
  exact IntWalk.i64_in _ (by omega)
theorem stepI_nat (s c : Nat) (hs : s < 36028797018963968) (hc : c < 256) : stepI (s : Int) (c : Int) = ((c + 256 * s : Nat) : Int) := by
  unfold stepI
  have e1 : wrap64 ((s : Int) * 256) = ((s * 256 : Nat) : Int) := by unfold wrap64; omega
  have e2 : wrap64 (c : Int) = (c : Int) := by unfold wrap64; omega
  rw [e1, e2, i64_or _ _ (by omega) (by omega)]
  have := Nat.two_pow_add_eq_or_of_lt (i := 8) hc s
  rw [show s * 256 = 2 ^ 8 * s by omega, ← this]
  omega
theorem upto_bk (zs : List Int) : (upto (bk zs) zs.length).map (·.2) = zs.reverse := by
  apply List.ext_getElem
  · simp [upto]
  · intro i h1 h2
    have hi : i < zs.length := by simpa [upto] using h1
    simp only [upto, bk, List.getElem_map, List.getElem_range, List.getElem_reverse]
    rw [List.getElem?_eq_getElem (by omega)]
    rfl
theorem num_le : ∀ l : List Nat, (∀ x ∈ l, x < 256) → l.length ≤ 7 → (l.map (fun (x : Nat) => (x : Int))).foldr (fun c s => stepI s c) 0 = (leNat l : Int) ∧ leNat l < 256 ^ l.length
  | [], _, _ => ⟨rfl, by simp [leNat]⟩
  | b :: r, h, hn => by
    obtain ⟨h1, h2⟩ := num_le r (fun x hx => h x (by simp [hx])) (by simp at hn; omega)
    have hb := h b (by simp)
    have hr : r.length ≤ 6 := by simp at hn; omega
    have h3 : leNat r < 256 ^ 6 := Nat.lt_of_lt_of_le h2 (Nat.pow_le_pow_right (by decide) hr)
    refine ⟨?_, ?_⟩
    · rw [List.map_cons, List.foldr_cons, h1, stepI_nat _ _ (by omega) hb]
      rfl
    · show b + 256 * leNat r < 256 ^ (r.length + 1)
      rw [Nat.pow_succ]
      omega
theorem number_any (A : Option Addr) (l : List Nat) (n c : Nat) (w : World) (hB : Bts w A l) (hm : l.length = n) (h0 : 0 < n) (h7 : n ≤ 7) :
    Calls Tryd.prog 19 #[.slice A n c] w fun e w' => e = .returned (.int .i64 (leNat l : Int)) ∧ Below w.heap.size w w' := by
  subst hm
  obtain ⟨b, o, rfl, hc⟩ := hB.2 h0
  have hlt : b < w.heap.size := cell_lt (hc 0 h0)
  have hl : ∀ x ∈ l, x < 256 := by
    intro x hx
    obtain ⟨i, hi⟩ := List.getElem?_of_mem hx
    have := hB.1 i
    rw [List.getD_eq_getElem?_getD, hi] at this
    exact this
  have hz : (l.map (fun (x : Nat) => (x : Int))).length = l.length := List.length_map ..
  have h := number_in Fence.wide 3 trivial trivial trivial rfl (Nat.le_refl _) b o c (l.map (fun (x : Nat) => (x : Int))) (by rw [hz]; omega) w hlt (fun j hj => by
    rw [hc j (by rw [hz] at hj; exact hj), List.getElem?_map, List.getD_eq_getElem?_getD]
    rw [hz] at hj
    rw [List.getElem?_eq_getElem hj]
    rfl)
  rw [hz] at h
  refine (callsIn_wide.1 h).mono ?_
  rintro e w' ⟨rfl, hb⟩
  refine ⟨?_, hb⟩
  have e1 : numF (upto (bk (l.map (fun (x : Nat) => (x : Int)))) l.length) = (leNat l : Int) := by
    have e2 : ∀ L : List (Nat × Int), numF L = (L.map (·.2)).foldl stepI 0 := fun L => by unfold numF; rw [List.foldl_map]
    have e3 := upto_bk (l.map (fun (x : Nat) => (x : Int)))
    rw [hz] at e3
    rw [e2, e3, List.foldl_reverse]
    exact (num_le l hl h7).1
  rw [e1]
end Go.Proofs.YtkkgigdgbiklmaaDoor
