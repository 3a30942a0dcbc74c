/- The reference's numbers: of, low, high, bitlen, fit where nothing is cut. -/
import Derived.Test.YtoggkhaecafklaaCpxB
import Derived.Test.YtoggkhaecafklaaSep
namespace Go.Proofs.Ytoggkhaecafklaa
open Go.RowKit

theorem of_any (b : Nat) (W : World) (hb : b < 4294967296) :
    Calls Try.prog 40 #[.int .u64 b] W fun e w' => e = .returned (numV (nmMinus b) (nmMan b) (nmExp b) (nmKind b)) ∧ Below W.heap.size W w' := by
  go_enter Try.func40, Try.ntmps40
  go_wp2_with fail
  refine (parts_any b _ hb).mono ?_
  rintro e w1 ⟨rfl, rfl⟩
  generalize hm : nmMinus b = m at *
  generalize hn : nmMan b = n at *
  generalize hx : nmExp b = x at *
  generalize hk : nmKind b = k at *
  go_wp2
  refine bodyPost_ret (v := numV m n x k) (by simp [results, Try.results40, go_sem, numV]) rfl ⟨by rw [hm, hn, hx, hk], (Below.refl _ W).alloc (Nat.le_refl _) _⟩
def lowV (x : Nat) : Value := numV (nmMinus (x % 4294967296)) (nmMan (x % 4294967296)) (nmExp (x % 4294967296)) (nmKind (x % 4294967296))
def highV (x : Nat) : Value := numV (nmMinus (x / 4294967296)) (nmMan (x / 4294967296)) (nmExp (x / 4294967296)) (nmKind (x / 4294967296))
theorem low_any (x : Nat) (W : World) (hx : x < 18446744073709551616) :
    Calls Try.prog 29 #[.int .u64 x] W fun e w' => e = .returned (lowV x) ∧ Below W.heap.size W w' := by
  obtain ⟨y, hy⟩ : ∃ y, y = x % 4294967296 := ⟨_, rfl⟩
  have hd : (x : Int) % 4294967296 = (y : Int) := by rw [hy]; rfl
  have hy2 : y < 4294967296 := by omega
  have HY : Hid (lowV x = numV (nmMinus y) (nmMan y) (nmExp y) (nmKind y)) := Lib.hid (by rw [hy]; rfl)
  clear hy
  go_enter Try.func29, Try.ntmps29
  go_wp2_with fail
  refine (of_any y _ hy2).mono ?_
  rintro e w1 ⟨rfl, hb1⟩
  generalize nmMinus y = m at *
  generalize nmMan y = n at *
  generalize nmExp y = q at *
  generalize nmKind y = k at *
  unfold numV
  have HB1 := Lib.hid (((Below.refl _ W).alloc (Nat.le_refl _) (.cells #[.bool false, .int .u64 0, .int .i64 0, .int .i64 0] 40)).trans (hb1.mono (by simp)))
  have hR := (Blkf.new_at (n := W.heap.size) W 40 (0, 0) #[.bool false, .int .u64 0, .int .i64 0, .int .i64 0] rfl).below hb1 (by simp)
  have r0 := hR.cell 0
  have r1 := hR.cell 1
  have r2 := hR.cell 2
  have r3 := hR.cell 3
  have rl := hR.lt
  have rf := fun i => Blk.frozen hR i
  have hF := (((hR.set_ 0 (.bool m)).set_ 1 (.int .u64 n)).set_ 2 (.int .i64 q)).set_ 3 (.int .i64 k)
  have HF := Lib.hid hF
  clear hF hR hb1
  have HBF := Lib.hid ((((HB1.out.setCell (p := ⟨W.heap.size, 0, none⟩) (Nat.le_refl _) (.bool m)).setCell (p := ⟨W.heap.size, 1, none⟩) (Nat.le_refl _) (.int .u64 n)).setCell (p := ⟨W.heap.size, 2, none⟩) (Nat.le_refl _) (.int .i64 q)).setCell (p := ⟨W.heap.size, 3, none⟩) (Nat.le_refl _) (.int .i64 k))
  go_wp2
  have q0 := HF.out.cell 0
  have q1 := HF.out.cell 1
  have q2 := HF.out.cell 2
  have q3 := HF.out.cell 3
  simp only [List.setIfInBounds_toArray, List.set_cons_zero, List.set_cons_succ] at q0 q1 q2 q3
  exact bodyPost_ret (v := numV m n q k) (by simp [results, Try.results29, go_sem, numV, q0, q1, q2, q3]) rfl ⟨by rw [HY.out], HBF.out⟩
theorem high_any (x : Nat) (W : World) (hx : x < 18446744073709551616) :
    Calls Try.prog 30 #[.int .u64 x] W fun e w' => e = .returned (highV x) ∧ Below W.heap.size W w' := by
  obtain ⟨y, hy⟩ : ∃ y, y = x / 4294967296 := ⟨_, rfl⟩
  have hd : (x : Int) / 4294967296 = (y : Int) := by rw [hy]; rfl
  have hy2 : y < 4294967296 := by omega
  have HY : Hid (highV x = numV (nmMinus y) (nmMan y) (nmExp y) (nmKind y)) := Lib.hid (by rw [hy]; rfl)
  clear hy
  go_enter Try.func30, Try.ntmps30
  go_wp2_with fail
  refine (of_any y _ hy2).mono ?_
  rintro e w1 ⟨rfl, hb1⟩
  generalize nmMinus y = m at *
  generalize nmMan y = n at *
  generalize nmExp y = q at *
  generalize nmKind y = k at *
  unfold numV
  have HB1 := Lib.hid (((Below.refl _ W).alloc (Nat.le_refl _) (.cells #[.bool false, .int .u64 0, .int .i64 0, .int .i64 0] 40)).trans (hb1.mono (by simp)))
  have hR := (Blkf.new_at (n := W.heap.size) W 40 (0, 0) #[.bool false, .int .u64 0, .int .i64 0, .int .i64 0] rfl).below hb1 (by simp)
  have r0 := hR.cell 0
  have r1 := hR.cell 1
  have r2 := hR.cell 2
  have r3 := hR.cell 3
  have rl := hR.lt
  have rf := fun i => Blk.frozen hR i
  have hF := (((hR.set_ 0 (.bool m)).set_ 1 (.int .u64 n)).set_ 2 (.int .i64 q)).set_ 3 (.int .i64 k)
  have HF := Lib.hid hF
  clear hF hR hb1
  have HBF := Lib.hid ((((HB1.out.setCell (p := ⟨W.heap.size, 0, none⟩) (Nat.le_refl _) (.bool m)).setCell (p := ⟨W.heap.size, 1, none⟩) (Nat.le_refl _) (.int .u64 n)).setCell (p := ⟨W.heap.size, 2, none⟩) (Nat.le_refl _) (.int .i64 q)).setCell (p := ⟨W.heap.size, 3, none⟩) (Nat.le_refl _) (.int .i64 k))
  go_wp2
  have q0 := HF.out.cell 0
  have q1 := HF.out.cell 1
  have q2 := HF.out.cell 2
  have q3 := HF.out.cell 3
  simp only [List.setIfInBounds_toArray, List.set_cons_zero, List.set_cons_succ] at q0 q1 q2 q3
  exact bodyPost_ret (v := numV m n q k) (by simp [results, Try.results30, go_sem, numV, q0, q1, q2, q3]) rfl ⟨by rw [HY.out], HBF.out⟩
end Go.Proofs.Ytoggkhaecafklaa
