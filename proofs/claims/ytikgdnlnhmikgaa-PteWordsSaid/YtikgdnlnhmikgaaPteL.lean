/- The walk of the law PteWords. -/
import Derived.Test.YtikgdnlnhmikgaaPteH
import Derived.Test.YtikgdnlnhmikgaaOpen
namespace Go.Proofs.Ytikgdnlnhmikgaa
open Go.RowKit

theorem bt_bit (x i : Nat) : bt (bitB x i) = x / 2 ^ i % 2 := by
  unfold bt bitB
  rcases Nat.mod_two_eq_zero_or_one (x / 2 ^ i) with h | h <;> rw [h] <;> rfl
theorem put_get (x : Nat) : putV (bitB x 0) (bitB x 1) (bitB x 2) (bitB x 3) (bitB x 4) (bitB x 5) (bitB x 6) (bitB x 7) ((x / 256 % 4 : Nat) : Int) ((x / 1024 % 17592186044416 : Nat) : Int) = x % 18014398509481984 := by
  unfold putV
  simp only [bt_bit, Nat.reducePow]
  omega
theorem entry_back (x : Nat) : ∃ xv xr xw xx xu xg xa xd : Bool, ∃ xrsw xppn : Int, entryV x = .agg #[Value.bool xv, Value.bool xr, Value.bool xw, Value.bool xx, Value.bool xu, Value.bool xg, Value.bool xa, Value.bool xd, .int .i64 xrsw, .int .u64 xppn] ∧ (0 ≤ xppn ∧ xppn < 18446744073709551616) ∧ (((putV xv xr xw xx xu xg xa xd xrsw xppn : Nat) : Int) == (x : Int)) = (x / 18014398509481984 == 0) := by
  refine ⟨_, _, _, _, _, _, _, _, _, _, rfl, by omega, ?_⟩
  rw [put_get, Bool.eq_iff_iff]
  simp only [beq_iff_eq]
  omega
theorem entry_z (x : Nat) : ∃ zv zr zw zx zu zg za zd : Bool, ∃ zrsw zppn : Int, entryV x = .agg #[Value.bool zv, Value.bool zr, Value.bool zw, Value.bool zx, Value.bool zu, Value.bool zg, Value.bool za, Value.bool zd, .int .i64 zrsw, .int .u64 zppn] := ⟨_, _, _, _, _, _, _, _, _, _, rfl⟩
theorem putV_may (v r w x u g a d : Bool) (rsw ppn : Int) : (putV v r w x u g a d rsw ppn / 18014398509481984 == 0) = true := by
  have := bt_le v
  have := bt_le r
  have := bt_le w
  have := bt_le x
  have := bt_le u
  have := bt_le g
  have := bt_le a
  have := bt_le d
  rw [beq_iff_eq]
  unfold putV
  omega

namespace Law
set_option maxHeartbeats 8000000 in
theorem PteWords (pv pr pw px pu pg pa pd : Bool) (prsw pppn : Int) (a1 : Int) (w : World) (wa : (Lit.int .i64 prsw).wf = true) (wp : (Lit.int .u64 pppn).wf = true) (w1 : (Lit.int .u64 a1).wf = true) :
    Calls Try.prog 3 #[.agg #[Value.bool pv, Value.bool pr, Value.bool pw, Value.bool px, Value.bool pu, Value.bool pg, Value.bool pa, Value.bool pd, .int .i64 prsw, .int .u64 pppn], .int .u64 a1] w fun e w' => e = .returned (.bool true) ∧ Below w.heap.size w w' := by
  obtain ⟨v0, v1⟩ := u64_of_wf w1
  obtain ⟨x, rfl⟩ := Int.eq_ofNat_of_zero_le v0
  have hx : x < 18446744073709551616 := by omega
  have HX := Lib.hid hx
  have HP := Lib.hid (u64_of_wf wp)
  clear v0 v1 hx wa wp w1
  obtain ⟨xv, xr, xw, xx, xu, xg, xa, xd, xrsw, xppn, hE, hQ, hbk⟩ := entry_back x
  have hZ := entry_z (putV pv pr pw px pu pg pa pd prsw pppn)
  have hmay := putV_may pv pr pw px pu pg pa pd prsw pppn
  have hlt : putV pv pr pw px pu pg pa pd prsw pppn < 18446744073709551616 := by rw [beq_iff_eq] at hmay; omega
  generalize hB : (x / 18014398509481984 == 0) = B at hbk
  have HE := Lib.hid hE
  have HQ := Lib.hid hQ
  have HBK := Lib.hid hbk
  have HB0 := Lib.hid hB
  have HM := Lib.hid hmay
  have HL := Lib.hid hlt
  have HZ0 := Lib.hid hZ
  clear hE hQ hbk hB hmay hlt hZ
  obtain ⟨zv, zr, zw, zx, zu, zg, za, zd, zrsw, zppn, hz⟩ := HZ0.out
  have HZ := Lib.hid hz
  clear hz HZ0
  go_enter Try.func3, Try.ntmps3
  go_wp2_with fail
  refine (first_ok _).mono ?_
  rintro e w1 ⟨rfl, hb1⟩
  have HB1 := Lib.hid hb1
  have s1 := hb1.size
  have z1 : w.heap.size < w1.heap.size := by simp at s1; omega
  have q1 : ∀ j, w1.cell? ⟨w.heap.size, j, none⟩ = #[Value.bool pv, Value.bool pr, Value.bool pw, Value.bool px, Value.bool pu, Value.bool pg, Value.bool pa, Value.bool pd, .int .i64 prsw, .int .u64 pppn][j]? := fun j => cell_new hb1
  clear hb1 s1
  go_wp2_with fail
  refine (get_any x _ HX.out).mono ?_
  rintro e w2 ⟨rfl, hb2⟩
  rw [HE.out, HB0.out]
  have HB2 := Lib.hid hb2
  have z2 : w.heap.size < w2.heap.size := Nat.lt_of_lt_of_le z1 hb2.size
  have q2 : ∀ j, w2.cell? ⟨w.heap.size, j, none⟩ = #[Value.bool pv, Value.bool pr, Value.bool pw, Value.bool px, Value.bool pu, Value.bool pg, Value.bool pa, Value.bool pd, .int .i64 prsw, .int .u64 pppn][j]? := fun j => (hb2.cell z1).trans (q1 j)
  clear hb2
  go_wp2_with fail
  refine (rget_any x _ HX.out).mono ?_
  rintro e w3 ⟨rfl, hb3⟩
  rw [HE.out, HB0.out]
  have HB3 := Lib.hid hb3
  have s3 := hb3.size
  have z3 : w.heap.size < w3.heap.size := by simp at s3; omega
  have zx3 : w2.heap.size < w3.heap.size := by simp at s3; omega
  have q3 : ∀ j, w3.cell? ⟨w.heap.size, j, none⟩ = #[Value.bool pv, Value.bool pr, Value.bool pw, Value.bool px, Value.bool pu, Value.bool pg, Value.bool pa, Value.bool pd, .int .i64 prsw, .int .u64 pppn][j]? := fun j => ((hb3.cell (by simp; omega)).trans (World.cell?_alloc_lt _ _ _ z2)).trans (q2 j)
  have hx3f : ∀ j, w3.cell? ⟨w2.heap.size, j, none⟩ = #[Value.bool xv, Value.bool xr, Value.bool xw, Value.bool xx, Value.bool xu, Value.bool xg, Value.bool xa, Value.bool xd, .int .i64 xrsw, .int .u64 xppn][j]? := fun j => cell_new hb3
  clear hb3 s3
  have p0 : (w3).cell? ⟨w.heap.size, 0, none⟩ = some (Value.bool pv) := q3 0
  have p1 : (w3).cell? ⟨w.heap.size, 1, none⟩ = some (Value.bool pr) := q3 1
  have p2 : (w3).cell? ⟨w.heap.size, 2, none⟩ = some (Value.bool pw) := q3 2
  have p3 : (w3).cell? ⟨w.heap.size, 3, none⟩ = some (Value.bool px) := q3 3
  have p4 : (w3).cell? ⟨w.heap.size, 4, none⟩ = some (Value.bool pu) := q3 4
  have p5 : (w3).cell? ⟨w.heap.size, 5, none⟩ = some (Value.bool pg) := q3 5
  have p6 : (w3).cell? ⟨w.heap.size, 6, none⟩ = some (Value.bool pa) := q3 6
  have p7 : (w3).cell? ⟨w.heap.size, 7, none⟩ = some (Value.bool pd) := q3 7
  have p8 : (w3).cell? ⟨w.heap.size, 8, none⟩ = some (.int .i64 prsw) := q3 8
  have p9 : (w3).cell? ⟨w.heap.size, 9, none⟩ = some (.int .u64 pppn) := q3 9
  have x0 : (w3).cell? ⟨w2.heap.size, 0, none⟩ = some (Value.bool xv) := hx3f 0
  have x1 : (w3).cell? ⟨w2.heap.size, 1, none⟩ = some (Value.bool xr) := hx3f 1
  have x2 : (w3).cell? ⟨w2.heap.size, 2, none⟩ = some (Value.bool xw) := hx3f 2
  have x3 : (w3).cell? ⟨w2.heap.size, 3, none⟩ = some (Value.bool xx) := hx3f 3
  have x4 : (w3).cell? ⟨w2.heap.size, 4, none⟩ = some (Value.bool xu) := hx3f 4
  have x5 : (w3).cell? ⟨w2.heap.size, 5, none⟩ = some (Value.bool xg) := hx3f 5
  have x6 : (w3).cell? ⟨w2.heap.size, 6, none⟩ = some (Value.bool xa) := hx3f 6
  have x7 : (w3).cell? ⟨w2.heap.size, 7, none⟩ = some (Value.bool xd) := hx3f 7
  have x8 : (w3).cell? ⟨w2.heap.size, 8, none⟩ = some (.int .i64 xrsw) := hx3f 8
  have x9 : (w3).cell? ⟨w2.heap.size, 9, none⟩ = some (.int .u64 xppn) := hx3f 9
  clear q1 q2 q3 hx3f
  go_wp2_with fail
  refine (put_any _ _ _ _ _ _ _ _ _ _ _ HP.out).mono ?_
  rintro e w4 ⟨rfl, hb4⟩
  have HB4 := Lib.hid hb4
  replace p0 : (w4).cell? ⟨w.heap.size, 0, none⟩ = some (Value.bool pv) := cell_pass hb4 p0
  replace p1 : (w4).cell? ⟨w.heap.size, 1, none⟩ = some (Value.bool pr) := cell_pass hb4 p1
  replace p2 : (w4).cell? ⟨w.heap.size, 2, none⟩ = some (Value.bool pw) := cell_pass hb4 p2
  replace p3 : (w4).cell? ⟨w.heap.size, 3, none⟩ = some (Value.bool px) := cell_pass hb4 p3
  replace p4 : (w4).cell? ⟨w.heap.size, 4, none⟩ = some (Value.bool pu) := cell_pass hb4 p4
  replace p5 : (w4).cell? ⟨w.heap.size, 5, none⟩ = some (Value.bool pg) := cell_pass hb4 p5
  replace p6 : (w4).cell? ⟨w.heap.size, 6, none⟩ = some (Value.bool pa) := cell_pass hb4 p6
  replace p7 : (w4).cell? ⟨w.heap.size, 7, none⟩ = some (Value.bool pd) := cell_pass hb4 p7
  replace p8 : (w4).cell? ⟨w.heap.size, 8, none⟩ = some (.int .i64 prsw) := cell_pass hb4 p8
  replace p9 : (w4).cell? ⟨w.heap.size, 9, none⟩ = some (.int .u64 pppn) := cell_pass hb4 p9
  replace x0 : (w4).cell? ⟨w2.heap.size, 0, none⟩ = some (Value.bool xv) := cell_pass hb4 x0
  replace x1 : (w4).cell? ⟨w2.heap.size, 1, none⟩ = some (Value.bool xr) := cell_pass hb4 x1
  replace x2 : (w4).cell? ⟨w2.heap.size, 2, none⟩ = some (Value.bool xw) := cell_pass hb4 x2
  replace x3 : (w4).cell? ⟨w2.heap.size, 3, none⟩ = some (Value.bool xx) := cell_pass hb4 x3
  replace x4 : (w4).cell? ⟨w2.heap.size, 4, none⟩ = some (Value.bool xu) := cell_pass hb4 x4
  replace x5 : (w4).cell? ⟨w2.heap.size, 5, none⟩ = some (Value.bool xg) := cell_pass hb4 x5
  replace x6 : (w4).cell? ⟨w2.heap.size, 6, none⟩ = some (Value.bool xa) := cell_pass hb4 x6
  replace x7 : (w4).cell? ⟨w2.heap.size, 7, none⟩ = some (Value.bool xd) := cell_pass hb4 x7
  replace x8 : (w4).cell? ⟨w2.heap.size, 8, none⟩ = some (.int .i64 xrsw) := cell_pass hb4 x8
  replace x9 : (w4).cell? ⟨w2.heap.size, 9, none⟩ = some (.int .u64 xppn) := cell_pass hb4 x9
  have y0 : (w4).cell? ⟨w3.heap.size, 0, none⟩ = some (Value.bool xv) := cell_new hb4
  have y1 : (w4).cell? ⟨w3.heap.size, 1, none⟩ = some (Value.bool xr) := cell_new hb4
  have y2 : (w4).cell? ⟨w3.heap.size, 2, none⟩ = some (Value.bool xw) := cell_new hb4
  have y3 : (w4).cell? ⟨w3.heap.size, 3, none⟩ = some (Value.bool xx) := cell_new hb4
  have y4 : (w4).cell? ⟨w3.heap.size, 4, none⟩ = some (Value.bool xu) := cell_new hb4
  have y5 : (w4).cell? ⟨w3.heap.size, 5, none⟩ = some (Value.bool xg) := cell_new hb4
  have y6 : (w4).cell? ⟨w3.heap.size, 6, none⟩ = some (Value.bool xa) := cell_new hb4
  have y7 : (w4).cell? ⟨w3.heap.size, 7, none⟩ = some (Value.bool xd) := cell_new hb4
  have y8 : (w4).cell? ⟨w3.heap.size, 8, none⟩ = some (.int .i64 xrsw) := cell_new hb4
  have y9 : (w4).cell? ⟨w3.heap.size, 9, none⟩ = some (.int .u64 xppn) := cell_new hb4
  clear hb4
  go_wp2_with fail
  refine (get_any _ _ HL.out).mono ?_
  rintro e w5 ⟨rfl, hb5⟩
  rw [HZ.out, HM.out]
  have HB5 := Lib.hid hb5
  replace p0 : (w5).cell? ⟨w.heap.size, 0, none⟩ = some (Value.bool pv) := (hb5.cell (cell_lt p0)).trans p0
  replace p1 : (w5).cell? ⟨w.heap.size, 1, none⟩ = some (Value.bool pr) := (hb5.cell (cell_lt p1)).trans p1
  replace p2 : (w5).cell? ⟨w.heap.size, 2, none⟩ = some (Value.bool pw) := (hb5.cell (cell_lt p2)).trans p2
  replace p3 : (w5).cell? ⟨w.heap.size, 3, none⟩ = some (Value.bool px) := (hb5.cell (cell_lt p3)).trans p3
  replace p4 : (w5).cell? ⟨w.heap.size, 4, none⟩ = some (Value.bool pu) := (hb5.cell (cell_lt p4)).trans p4
  replace p5 : (w5).cell? ⟨w.heap.size, 5, none⟩ = some (Value.bool pg) := (hb5.cell (cell_lt p5)).trans p5
  replace p6 : (w5).cell? ⟨w.heap.size, 6, none⟩ = some (Value.bool pa) := (hb5.cell (cell_lt p6)).trans p6
  replace p7 : (w5).cell? ⟨w.heap.size, 7, none⟩ = some (Value.bool pd) := (hb5.cell (cell_lt p7)).trans p7
  replace p8 : (w5).cell? ⟨w.heap.size, 8, none⟩ = some (.int .i64 prsw) := (hb5.cell (cell_lt p8)).trans p8
  replace p9 : (w5).cell? ⟨w.heap.size, 9, none⟩ = some (.int .u64 pppn) := (hb5.cell (cell_lt p9)).trans p9
  replace x0 : (w5).cell? ⟨w2.heap.size, 0, none⟩ = some (Value.bool xv) := (hb5.cell (cell_lt x0)).trans x0
  replace x1 : (w5).cell? ⟨w2.heap.size, 1, none⟩ = some (Value.bool xr) := (hb5.cell (cell_lt x1)).trans x1
  replace x2 : (w5).cell? ⟨w2.heap.size, 2, none⟩ = some (Value.bool xw) := (hb5.cell (cell_lt x2)).trans x2
  replace x3 : (w5).cell? ⟨w2.heap.size, 3, none⟩ = some (Value.bool xx) := (hb5.cell (cell_lt x3)).trans x3
  replace x4 : (w5).cell? ⟨w2.heap.size, 4, none⟩ = some (Value.bool xu) := (hb5.cell (cell_lt x4)).trans x4
  replace x5 : (w5).cell? ⟨w2.heap.size, 5, none⟩ = some (Value.bool xg) := (hb5.cell (cell_lt x5)).trans x5
  replace x6 : (w5).cell? ⟨w2.heap.size, 6, none⟩ = some (Value.bool xa) := (hb5.cell (cell_lt x6)).trans x6
  replace x7 : (w5).cell? ⟨w2.heap.size, 7, none⟩ = some (Value.bool xd) := (hb5.cell (cell_lt x7)).trans x7
  replace x8 : (w5).cell? ⟨w2.heap.size, 8, none⟩ = some (.int .i64 xrsw) := (hb5.cell (cell_lt x8)).trans x8
  replace x9 : (w5).cell? ⟨w2.heap.size, 9, none⟩ = some (.int .u64 xppn) := (hb5.cell (cell_lt x9)).trans x9
  replace y0 : (w5).cell? ⟨w3.heap.size, 0, none⟩ = some (Value.bool xv) := (hb5.cell (cell_lt y0)).trans y0
  replace y1 : (w5).cell? ⟨w3.heap.size, 1, none⟩ = some (Value.bool xr) := (hb5.cell (cell_lt y1)).trans y1
  replace y2 : (w5).cell? ⟨w3.heap.size, 2, none⟩ = some (Value.bool xw) := (hb5.cell (cell_lt y2)).trans y2
  replace y3 : (w5).cell? ⟨w3.heap.size, 3, none⟩ = some (Value.bool xx) := (hb5.cell (cell_lt y3)).trans y3
  replace y4 : (w5).cell? ⟨w3.heap.size, 4, none⟩ = some (Value.bool xu) := (hb5.cell (cell_lt y4)).trans y4
  replace y5 : (w5).cell? ⟨w3.heap.size, 5, none⟩ = some (Value.bool xg) := (hb5.cell (cell_lt y5)).trans y5
  replace y6 : (w5).cell? ⟨w3.heap.size, 6, none⟩ = some (Value.bool xa) := (hb5.cell (cell_lt y6)).trans y6
  replace y7 : (w5).cell? ⟨w3.heap.size, 7, none⟩ = some (Value.bool xd) := (hb5.cell (cell_lt y7)).trans y7
  replace y8 : (w5).cell? ⟨w3.heap.size, 8, none⟩ = some (.int .i64 xrsw) := (hb5.cell (cell_lt y8)).trans y8
  replace y9 : (w5).cell? ⟨w3.heap.size, 9, none⟩ = some (.int .u64 xppn) := (hb5.cell (cell_lt y9)).trans y9
  clear hb5
  have hsp5 : w.heap.size < w5.heap.size := cell_lt p0
  go_wp2_with fail
  refine (rput_any _ _ _ _ _ _ _ _ _ _ _ HP.out).mono ?_
  rintro e w6 ⟨rfl, hb6⟩
  have HB6 := Lib.hid hb6
  replace p0 : (w6).cell? ⟨w.heap.size, 0, none⟩ = some (Value.bool pv) := cell_pass hb6 p0
  replace p1 : (w6).cell? ⟨w.heap.size, 1, none⟩ = some (Value.bool pr) := cell_pass hb6 p1
  replace p2 : (w6).cell? ⟨w.heap.size, 2, none⟩ = some (Value.bool pw) := cell_pass hb6 p2
  replace p3 : (w6).cell? ⟨w.heap.size, 3, none⟩ = some (Value.bool px) := cell_pass hb6 p3
  replace p4 : (w6).cell? ⟨w.heap.size, 4, none⟩ = some (Value.bool pu) := cell_pass hb6 p4
  replace p5 : (w6).cell? ⟨w.heap.size, 5, none⟩ = some (Value.bool pg) := cell_pass hb6 p5
  replace p6 : (w6).cell? ⟨w.heap.size, 6, none⟩ = some (Value.bool pa) := cell_pass hb6 p6
  replace p7 : (w6).cell? ⟨w.heap.size, 7, none⟩ = some (Value.bool pd) := cell_pass hb6 p7
  replace p8 : (w6).cell? ⟨w.heap.size, 8, none⟩ = some (.int .i64 prsw) := cell_pass hb6 p8
  replace p9 : (w6).cell? ⟨w.heap.size, 9, none⟩ = some (.int .u64 pppn) := cell_pass hb6 p9
  replace x0 : (w6).cell? ⟨w2.heap.size, 0, none⟩ = some (Value.bool xv) := cell_pass hb6 x0
  replace x1 : (w6).cell? ⟨w2.heap.size, 1, none⟩ = some (Value.bool xr) := cell_pass hb6 x1
  replace x2 : (w6).cell? ⟨w2.heap.size, 2, none⟩ = some (Value.bool xw) := cell_pass hb6 x2
  replace x3 : (w6).cell? ⟨w2.heap.size, 3, none⟩ = some (Value.bool xx) := cell_pass hb6 x3
  replace x4 : (w6).cell? ⟨w2.heap.size, 4, none⟩ = some (Value.bool xu) := cell_pass hb6 x4
  replace x5 : (w6).cell? ⟨w2.heap.size, 5, none⟩ = some (Value.bool xg) := cell_pass hb6 x5
  replace x6 : (w6).cell? ⟨w2.heap.size, 6, none⟩ = some (Value.bool xa) := cell_pass hb6 x6
  replace x7 : (w6).cell? ⟨w2.heap.size, 7, none⟩ = some (Value.bool xd) := cell_pass hb6 x7
  replace x8 : (w6).cell? ⟨w2.heap.size, 8, none⟩ = some (.int .i64 xrsw) := cell_pass hb6 x8
  replace x9 : (w6).cell? ⟨w2.heap.size, 9, none⟩ = some (.int .u64 xppn) := cell_pass hb6 x9
  replace y0 : (w6).cell? ⟨w3.heap.size, 0, none⟩ = some (Value.bool xv) := cell_pass hb6 y0
  replace y1 : (w6).cell? ⟨w3.heap.size, 1, none⟩ = some (Value.bool xr) := cell_pass hb6 y1
  replace y2 : (w6).cell? ⟨w3.heap.size, 2, none⟩ = some (Value.bool xw) := cell_pass hb6 y2
  replace y3 : (w6).cell? ⟨w3.heap.size, 3, none⟩ = some (Value.bool xx) := cell_pass hb6 y3
  replace y4 : (w6).cell? ⟨w3.heap.size, 4, none⟩ = some (Value.bool xu) := cell_pass hb6 y4
  replace y5 : (w6).cell? ⟨w3.heap.size, 5, none⟩ = some (Value.bool xg) := cell_pass hb6 y5
  replace y6 : (w6).cell? ⟨w3.heap.size, 6, none⟩ = some (Value.bool xa) := cell_pass hb6 y6
  replace y7 : (w6).cell? ⟨w3.heap.size, 7, none⟩ = some (Value.bool xd) := cell_pass hb6 y7
  replace y8 : (w6).cell? ⟨w3.heap.size, 8, none⟩ = some (.int .i64 xrsw) := cell_pass hb6 y8
  replace y9 : (w6).cell? ⟨w3.heap.size, 9, none⟩ = some (.int .u64 xppn) := cell_pass hb6 y9
  have z0 : (w6).cell? ⟨w5.heap.size, 0, none⟩ = some (Value.bool zv) := cell_new hb6
  have z1 : (w6).cell? ⟨w5.heap.size, 1, none⟩ = some (Value.bool zr) := cell_new hb6
  have z2 : (w6).cell? ⟨w5.heap.size, 2, none⟩ = some (Value.bool zw) := cell_new hb6
  have z3 : (w6).cell? ⟨w5.heap.size, 3, none⟩ = some (Value.bool zx) := cell_new hb6
  have z4 : (w6).cell? ⟨w5.heap.size, 4, none⟩ = some (Value.bool zu) := cell_new hb6
  have z5 : (w6).cell? ⟨w5.heap.size, 5, none⟩ = some (Value.bool zg) := cell_new hb6
  have z6 : (w6).cell? ⟨w5.heap.size, 6, none⟩ = some (Value.bool za) := cell_new hb6
  have z7 : (w6).cell? ⟨w5.heap.size, 7, none⟩ = some (Value.bool zd) := cell_new hb6
  have z8 : (w6).cell? ⟨w5.heap.size, 8, none⟩ = some (.int .i64 zrsw) := cell_new hb6
  have z9 : (w6).cell? ⟨w5.heap.size, 9, none⟩ = some (.int .u64 zppn) := cell_new hb6
  clear hb6
  go_wp2_with fail
  refine (rget_any _ _ HL.out).mono ?_
  rintro e w7 ⟨rfl, hb7⟩
  rw [HZ.out, HM.out]
  have HB7 := Lib.hid hb7
  replace p0 : (w7).cell? ⟨w.heap.size, 0, none⟩ = some (Value.bool pv) := (hb7.cell (cell_lt p0)).trans p0
  replace p1 : (w7).cell? ⟨w.heap.size, 1, none⟩ = some (Value.bool pr) := (hb7.cell (cell_lt p1)).trans p1
  replace p2 : (w7).cell? ⟨w.heap.size, 2, none⟩ = some (Value.bool pw) := (hb7.cell (cell_lt p2)).trans p2
  replace p3 : (w7).cell? ⟨w.heap.size, 3, none⟩ = some (Value.bool px) := (hb7.cell (cell_lt p3)).trans p3
  replace p4 : (w7).cell? ⟨w.heap.size, 4, none⟩ = some (Value.bool pu) := (hb7.cell (cell_lt p4)).trans p4
  replace p5 : (w7).cell? ⟨w.heap.size, 5, none⟩ = some (Value.bool pg) := (hb7.cell (cell_lt p5)).trans p5
  replace p6 : (w7).cell? ⟨w.heap.size, 6, none⟩ = some (Value.bool pa) := (hb7.cell (cell_lt p6)).trans p6
  replace p7 : (w7).cell? ⟨w.heap.size, 7, none⟩ = some (Value.bool pd) := (hb7.cell (cell_lt p7)).trans p7
  replace p8 : (w7).cell? ⟨w.heap.size, 8, none⟩ = some (.int .i64 prsw) := (hb7.cell (cell_lt p8)).trans p8
  replace p9 : (w7).cell? ⟨w.heap.size, 9, none⟩ = some (.int .u64 pppn) := (hb7.cell (cell_lt p9)).trans p9
  replace x0 : (w7).cell? ⟨w2.heap.size, 0, none⟩ = some (Value.bool xv) := (hb7.cell (cell_lt x0)).trans x0
  replace x1 : (w7).cell? ⟨w2.heap.size, 1, none⟩ = some (Value.bool xr) := (hb7.cell (cell_lt x1)).trans x1
  replace x2 : (w7).cell? ⟨w2.heap.size, 2, none⟩ = some (Value.bool xw) := (hb7.cell (cell_lt x2)).trans x2
  replace x3 : (w7).cell? ⟨w2.heap.size, 3, none⟩ = some (Value.bool xx) := (hb7.cell (cell_lt x3)).trans x3
  replace x4 : (w7).cell? ⟨w2.heap.size, 4, none⟩ = some (Value.bool xu) := (hb7.cell (cell_lt x4)).trans x4
  replace x5 : (w7).cell? ⟨w2.heap.size, 5, none⟩ = some (Value.bool xg) := (hb7.cell (cell_lt x5)).trans x5
  replace x6 : (w7).cell? ⟨w2.heap.size, 6, none⟩ = some (Value.bool xa) := (hb7.cell (cell_lt x6)).trans x6
  replace x7 : (w7).cell? ⟨w2.heap.size, 7, none⟩ = some (Value.bool xd) := (hb7.cell (cell_lt x7)).trans x7
  replace x8 : (w7).cell? ⟨w2.heap.size, 8, none⟩ = some (.int .i64 xrsw) := (hb7.cell (cell_lt x8)).trans x8
  replace x9 : (w7).cell? ⟨w2.heap.size, 9, none⟩ = some (.int .u64 xppn) := (hb7.cell (cell_lt x9)).trans x9
  replace y0 : (w7).cell? ⟨w3.heap.size, 0, none⟩ = some (Value.bool xv) := (hb7.cell (cell_lt y0)).trans y0
  replace y1 : (w7).cell? ⟨w3.heap.size, 1, none⟩ = some (Value.bool xr) := (hb7.cell (cell_lt y1)).trans y1
  replace y2 : (w7).cell? ⟨w3.heap.size, 2, none⟩ = some (Value.bool xw) := (hb7.cell (cell_lt y2)).trans y2
  replace y3 : (w7).cell? ⟨w3.heap.size, 3, none⟩ = some (Value.bool xx) := (hb7.cell (cell_lt y3)).trans y3
  replace y4 : (w7).cell? ⟨w3.heap.size, 4, none⟩ = some (Value.bool xu) := (hb7.cell (cell_lt y4)).trans y4
  replace y5 : (w7).cell? ⟨w3.heap.size, 5, none⟩ = some (Value.bool xg) := (hb7.cell (cell_lt y5)).trans y5
  replace y6 : (w7).cell? ⟨w3.heap.size, 6, none⟩ = some (Value.bool xa) := (hb7.cell (cell_lt y6)).trans y6
  replace y7 : (w7).cell? ⟨w3.heap.size, 7, none⟩ = some (Value.bool xd) := (hb7.cell (cell_lt y7)).trans y7
  replace y8 : (w7).cell? ⟨w3.heap.size, 8, none⟩ = some (.int .i64 xrsw) := (hb7.cell (cell_lt y8)).trans y8
  replace y9 : (w7).cell? ⟨w3.heap.size, 9, none⟩ = some (.int .u64 xppn) := (hb7.cell (cell_lt y9)).trans y9
  replace z0 : (w7).cell? ⟨w5.heap.size, 0, none⟩ = some (Value.bool zv) := (hb7.cell (cell_lt z0)).trans z0
  replace z1 : (w7).cell? ⟨w5.heap.size, 1, none⟩ = some (Value.bool zr) := (hb7.cell (cell_lt z1)).trans z1
  replace z2 : (w7).cell? ⟨w5.heap.size, 2, none⟩ = some (Value.bool zw) := (hb7.cell (cell_lt z2)).trans z2
  replace z3 : (w7).cell? ⟨w5.heap.size, 3, none⟩ = some (Value.bool zx) := (hb7.cell (cell_lt z3)).trans z3
  replace z4 : (w7).cell? ⟨w5.heap.size, 4, none⟩ = some (Value.bool zu) := (hb7.cell (cell_lt z4)).trans z4
  replace z5 : (w7).cell? ⟨w5.heap.size, 5, none⟩ = some (Value.bool zg) := (hb7.cell (cell_lt z5)).trans z5
  replace z6 : (w7).cell? ⟨w5.heap.size, 6, none⟩ = some (Value.bool za) := (hb7.cell (cell_lt z6)).trans z6
  replace z7 : (w7).cell? ⟨w5.heap.size, 7, none⟩ = some (Value.bool zd) := (hb7.cell (cell_lt z7)).trans z7
  replace z8 : (w7).cell? ⟨w5.heap.size, 8, none⟩ = some (.int .i64 zrsw) := (hb7.cell (cell_lt z8)).trans z8
  replace z9 : (w7).cell? ⟨w5.heap.size, 9, none⟩ = some (.int .u64 zppn) := (hb7.cell (cell_lt z9)).trans z9
  clear hb7
  go_wp2_with fail
  refine wp_world (fun W3 hW3 => ?_)
  replace p0 : (W3).cell? ⟨w.heap.size, 0, none⟩ = some (Value.bool pv) := by rw [hW3, World.cell?_alloc_lt _ _ _ (cell_lt p0)]; exact p0
  replace p1 : (W3).cell? ⟨w.heap.size, 1, none⟩ = some (Value.bool pr) := by rw [hW3, World.cell?_alloc_lt _ _ _ (cell_lt p1)]; exact p1
  replace p2 : (W3).cell? ⟨w.heap.size, 2, none⟩ = some (Value.bool pw) := by rw [hW3, World.cell?_alloc_lt _ _ _ (cell_lt p2)]; exact p2
  replace p3 : (W3).cell? ⟨w.heap.size, 3, none⟩ = some (Value.bool px) := by rw [hW3, World.cell?_alloc_lt _ _ _ (cell_lt p3)]; exact p3
  replace p4 : (W3).cell? ⟨w.heap.size, 4, none⟩ = some (Value.bool pu) := by rw [hW3, World.cell?_alloc_lt _ _ _ (cell_lt p4)]; exact p4
  replace p5 : (W3).cell? ⟨w.heap.size, 5, none⟩ = some (Value.bool pg) := by rw [hW3, World.cell?_alloc_lt _ _ _ (cell_lt p5)]; exact p5
  replace p6 : (W3).cell? ⟨w.heap.size, 6, none⟩ = some (Value.bool pa) := by rw [hW3, World.cell?_alloc_lt _ _ _ (cell_lt p6)]; exact p6
  replace p7 : (W3).cell? ⟨w.heap.size, 7, none⟩ = some (Value.bool pd) := by rw [hW3, World.cell?_alloc_lt _ _ _ (cell_lt p7)]; exact p7
  replace p8 : (W3).cell? ⟨w.heap.size, 8, none⟩ = some (.int .i64 prsw) := by rw [hW3, World.cell?_alloc_lt _ _ _ (cell_lt p8)]; exact p8
  replace p9 : (W3).cell? ⟨w.heap.size, 9, none⟩ = some (.int .u64 pppn) := by rw [hW3, World.cell?_alloc_lt _ _ _ (cell_lt p9)]; exact p9
  replace x0 : (W3).cell? ⟨w2.heap.size, 0, none⟩ = some (Value.bool xv) := by rw [hW3, World.cell?_alloc_lt _ _ _ (cell_lt x0)]; exact x0
  replace x1 : (W3).cell? ⟨w2.heap.size, 1, none⟩ = some (Value.bool xr) := by rw [hW3, World.cell?_alloc_lt _ _ _ (cell_lt x1)]; exact x1
  replace x2 : (W3).cell? ⟨w2.heap.size, 2, none⟩ = some (Value.bool xw) := by rw [hW3, World.cell?_alloc_lt _ _ _ (cell_lt x2)]; exact x2
  replace x3 : (W3).cell? ⟨w2.heap.size, 3, none⟩ = some (Value.bool xx) := by rw [hW3, World.cell?_alloc_lt _ _ _ (cell_lt x3)]; exact x3
  replace x4 : (W3).cell? ⟨w2.heap.size, 4, none⟩ = some (Value.bool xu) := by rw [hW3, World.cell?_alloc_lt _ _ _ (cell_lt x4)]; exact x4
  replace x5 : (W3).cell? ⟨w2.heap.size, 5, none⟩ = some (Value.bool xg) := by rw [hW3, World.cell?_alloc_lt _ _ _ (cell_lt x5)]; exact x5
  replace x6 : (W3).cell? ⟨w2.heap.size, 6, none⟩ = some (Value.bool xa) := by rw [hW3, World.cell?_alloc_lt _ _ _ (cell_lt x6)]; exact x6
  replace x7 : (W3).cell? ⟨w2.heap.size, 7, none⟩ = some (Value.bool xd) := by rw [hW3, World.cell?_alloc_lt _ _ _ (cell_lt x7)]; exact x7
  replace x8 : (W3).cell? ⟨w2.heap.size, 8, none⟩ = some (.int .i64 xrsw) := by rw [hW3, World.cell?_alloc_lt _ _ _ (cell_lt x8)]; exact x8
  replace x9 : (W3).cell? ⟨w2.heap.size, 9, none⟩ = some (.int .u64 xppn) := by rw [hW3, World.cell?_alloc_lt _ _ _ (cell_lt x9)]; exact x9
  replace y0 : (W3).cell? ⟨w3.heap.size, 0, none⟩ = some (Value.bool xv) := by rw [hW3, World.cell?_alloc_lt _ _ _ (cell_lt y0)]; exact y0
  replace y1 : (W3).cell? ⟨w3.heap.size, 1, none⟩ = some (Value.bool xr) := by rw [hW3, World.cell?_alloc_lt _ _ _ (cell_lt y1)]; exact y1
  replace y2 : (W3).cell? ⟨w3.heap.size, 2, none⟩ = some (Value.bool xw) := by rw [hW3, World.cell?_alloc_lt _ _ _ (cell_lt y2)]; exact y2
  replace y3 : (W3).cell? ⟨w3.heap.size, 3, none⟩ = some (Value.bool xx) := by rw [hW3, World.cell?_alloc_lt _ _ _ (cell_lt y3)]; exact y3
  replace y4 : (W3).cell? ⟨w3.heap.size, 4, none⟩ = some (Value.bool xu) := by rw [hW3, World.cell?_alloc_lt _ _ _ (cell_lt y4)]; exact y4
  replace y5 : (W3).cell? ⟨w3.heap.size, 5, none⟩ = some (Value.bool xg) := by rw [hW3, World.cell?_alloc_lt _ _ _ (cell_lt y5)]; exact y5
  replace y6 : (W3).cell? ⟨w3.heap.size, 6, none⟩ = some (Value.bool xa) := by rw [hW3, World.cell?_alloc_lt _ _ _ (cell_lt y6)]; exact y6
  replace y7 : (W3).cell? ⟨w3.heap.size, 7, none⟩ = some (Value.bool xd) := by rw [hW3, World.cell?_alloc_lt _ _ _ (cell_lt y7)]; exact y7
  replace y8 : (W3).cell? ⟨w3.heap.size, 8, none⟩ = some (.int .i64 xrsw) := by rw [hW3, World.cell?_alloc_lt _ _ _ (cell_lt y8)]; exact y8
  replace y9 : (W3).cell? ⟨w3.heap.size, 9, none⟩ = some (.int .u64 xppn) := by rw [hW3, World.cell?_alloc_lt _ _ _ (cell_lt y9)]; exact y9
  replace z0 : (W3).cell? ⟨w5.heap.size, 0, none⟩ = some (Value.bool zv) := by rw [hW3, World.cell?_alloc_lt _ _ _ (cell_lt z0)]; exact z0
  replace z1 : (W3).cell? ⟨w5.heap.size, 1, none⟩ = some (Value.bool zr) := by rw [hW3, World.cell?_alloc_lt _ _ _ (cell_lt z1)]; exact z1
  replace z2 : (W3).cell? ⟨w5.heap.size, 2, none⟩ = some (Value.bool zw) := by rw [hW3, World.cell?_alloc_lt _ _ _ (cell_lt z2)]; exact z2
  replace z3 : (W3).cell? ⟨w5.heap.size, 3, none⟩ = some (Value.bool zx) := by rw [hW3, World.cell?_alloc_lt _ _ _ (cell_lt z3)]; exact z3
  replace z4 : (W3).cell? ⟨w5.heap.size, 4, none⟩ = some (Value.bool zu) := by rw [hW3, World.cell?_alloc_lt _ _ _ (cell_lt z4)]; exact z4
  replace z5 : (W3).cell? ⟨w5.heap.size, 5, none⟩ = some (Value.bool zg) := by rw [hW3, World.cell?_alloc_lt _ _ _ (cell_lt z5)]; exact z5
  replace z6 : (W3).cell? ⟨w5.heap.size, 6, none⟩ = some (Value.bool za) := by rw [hW3, World.cell?_alloc_lt _ _ _ (cell_lt z6)]; exact z6
  replace z7 : (W3).cell? ⟨w5.heap.size, 7, none⟩ = some (Value.bool zd) := by rw [hW3, World.cell?_alloc_lt _ _ _ (cell_lt z7)]; exact z7
  replace z8 : (W3).cell? ⟨w5.heap.size, 8, none⟩ = some (.int .i64 zrsw) := by rw [hW3, World.cell?_alloc_lt _ _ _ (cell_lt z8)]; exact z8
  replace z9 : (W3).cell? ⟨w5.heap.size, 9, none⟩ = some (.int .u64 zppn) := by rw [hW3, World.cell?_alloc_lt _ _ _ (cell_lt z9)]; exact z9
  have v0 : (W3).cell? ⟨w7.heap.size, 0, none⟩ = some (Value.bool zv) := by rw [hW3, World.cell?_alloc_new]; rfl
  have v1 : (W3).cell? ⟨w7.heap.size, 1, none⟩ = some (Value.bool zr) := by rw [hW3, World.cell?_alloc_new]; rfl
  have v2 : (W3).cell? ⟨w7.heap.size, 2, none⟩ = some (Value.bool zw) := by rw [hW3, World.cell?_alloc_new]; rfl
  have v3 : (W3).cell? ⟨w7.heap.size, 3, none⟩ = some (Value.bool zx) := by rw [hW3, World.cell?_alloc_new]; rfl
  have v4 : (W3).cell? ⟨w7.heap.size, 4, none⟩ = some (Value.bool zu) := by rw [hW3, World.cell?_alloc_new]; rfl
  have v5 : (W3).cell? ⟨w7.heap.size, 5, none⟩ = some (Value.bool zg) := by rw [hW3, World.cell?_alloc_new]; rfl
  have v6 : (W3).cell? ⟨w7.heap.size, 6, none⟩ = some (Value.bool za) := by rw [hW3, World.cell?_alloc_new]; rfl
  have v7 : (W3).cell? ⟨w7.heap.size, 7, none⟩ = some (Value.bool zd) := by rw [hW3, World.cell?_alloc_new]; rfl
  have v8 : (W3).cell? ⟨w7.heap.size, 8, none⟩ = some (.int .i64 zrsw) := by rw [hW3, World.cell?_alloc_new]; rfl
  have v9 : (W3).cell? ⟨w7.heap.size, 9, none⟩ = some (.int .u64 zppn) := by rw [hW3, World.cell?_alloc_new]; rfl
  have hb : Below w.heap.size w W3 := by
    have b1 := (Below.refl w.heap.size w).alloc (Nat.le_refl _) (.cells #[Value.bool pv, Value.bool pr, Value.bool pw, Value.bool px, Value.bool pu, Value.bool pg, Value.bool pa, Value.bool pd, .int .i64 prsw, .int .u64 pppn] 24)
    have b2 := b1.trans (HB1.out.mono b1.size)
    have b3 := b2.trans (HB2.out.mono b2.size)
    have b4 := b3.alloc b3.size (.cells #[Value.bool xv, Value.bool xr, Value.bool xw, Value.bool xx, Value.bool xu, Value.bool xg, Value.bool xa, Value.bool xd, .int .i64 xrsw, .int .u64 xppn] 24)
    have b5 := b4.trans (HB3.out.mono b4.size)
    have b6 := b5.alloc b5.size (.cells #[Value.bool xv, Value.bool xr, Value.bool xw, Value.bool xx, Value.bool xu, Value.bool xg, Value.bool xa, Value.bool xd, .int .i64 xrsw, .int .u64 xppn] 24)
    have b7 := b6.trans (HB4.out.mono b6.size)
    have b8 := b7.trans (HB5.out.mono b7.size)
    have b9 := b8.alloc b8.size (.cells #[Value.bool zv, Value.bool zr, Value.bool zw, Value.bool zx, Value.bool zu, Value.bool zg, Value.bool za, Value.bool zd, .int .i64 zrsw, .int .u64 zppn] 24)
    have b10 := b9.trans (HB6.out.mono b9.size)
    have b11 := b10.trans (HB7.out.mono b10.size)
    rw [hW3]
    exact b11.alloc b11.size _
  have HB := Lib.hid hb
  clear hb hW3 HB1 HB2 HB3 HB4 HB5 HB6 HB7
  have p0s := fun W' (h : Ext W3.drew W') => (h.cell (p := ⟨w.heap.size, 0, none⟩) (cell_lt (w := W3) p0)).trans p0
  have p1s := fun W' (h : Ext W3.drew W') => (h.cell (p := ⟨w.heap.size, 1, none⟩) (cell_lt (w := W3) p1)).trans p1
  have p2s := fun W' (h : Ext W3.drew W') => (h.cell (p := ⟨w.heap.size, 2, none⟩) (cell_lt (w := W3) p2)).trans p2
  have p3s := fun W' (h : Ext W3.drew W') => (h.cell (p := ⟨w.heap.size, 3, none⟩) (cell_lt (w := W3) p3)).trans p3
  have p4s := fun W' (h : Ext W3.drew W') => (h.cell (p := ⟨w.heap.size, 4, none⟩) (cell_lt (w := W3) p4)).trans p4
  have p5s := fun W' (h : Ext W3.drew W') => (h.cell (p := ⟨w.heap.size, 5, none⟩) (cell_lt (w := W3) p5)).trans p5
  have p6s := fun W' (h : Ext W3.drew W') => (h.cell (p := ⟨w.heap.size, 6, none⟩) (cell_lt (w := W3) p6)).trans p6
  have p7s := fun W' (h : Ext W3.drew W') => (h.cell (p := ⟨w.heap.size, 7, none⟩) (cell_lt (w := W3) p7)).trans p7
  have p8s := fun W' (h : Ext W3.drew W') => (h.cell (p := ⟨w.heap.size, 8, none⟩) (cell_lt (w := W3) p8)).trans p8
  have p9s := fun W' (h : Ext W3.drew W') => (h.cell (p := ⟨w.heap.size, 9, none⟩) (cell_lt (w := W3) p9)).trans p9
  refine wp_region_plan [(0, false), (2, false), (1, true), (3, true), (4, false), (5, false), (6, false), (7, false), (8, false), (9, false), (10, false), (11, false), (12, false), (13, false), (14, false), (15, false), (16, false), (17, false), (18, false), (19, false), (20, false), (21, false), (22, false), (23, false), (24, false), (26, false), (28, false), (25, true), (27, false), (29, false), (30, false), (31, false)] (by kernel_rfl) (by kernel_rfl) (fun _ d _ _ _ h => by cases d <;> exact h) ?_
  iterate 2 (refine plan_take (v := ?_) rfl (by kernel_rfl) ?_ ?_; rotate_left; (focus (intro w' hw'; go_simp; try with_reducible rfl)); simp only [Act.put, List.setIfInBounds_toArray, List.set_cons_zero, List.set_cons_succ])
  refine plan_call rfl (by kernel_rfl) (by go_simp; exact ⟨rfl, rfl⟩) ?_
  refine (put_any _ _ _ _ _ _ _ _ _ _ _ HP.out).mono ?_
  rintro e wp ⟨rfl, hp⟩
  have HPP := Lib.hid hp
  refine ⟨_, rfl, hp, ?_⟩
  simp only [Act.put, List.setIfInBounds_toArray, List.set_cons_zero, List.set_cons_succ]
  clear hp
  clear p0s p1s p2s p3s p4s p5s p6s p7s p8s p9s
  refine plan_call rfl (by kernel_rfl) (by go_simp; exact ⟨rfl, rfl⟩) ?_
  refine (rput_any _ _ _ _ _ _ _ _ _ _ _ HP.out).mono ?_
  rintro e wq ⟨rfl, hq⟩
  have HPQ := Lib.hid hq
  refine ⟨_, rfl, hq, ?_⟩
  simp only [Act.put, List.setIfInBounds_toArray, List.set_cons_zero, List.set_cons_succ]
  clear hq
  have hg : Below W3.drew.heap.size W3.drew wq := HPP.out.trans (HPQ.out.mono HPP.out.size)
  replace x0 : (wq).cell? ⟨w2.heap.size, 0, none⟩ = some (Value.bool xv) := (hg.cell (cell_lt x0)).trans x0
  replace x1 : (wq).cell? ⟨w2.heap.size, 1, none⟩ = some (Value.bool xr) := (hg.cell (cell_lt x1)).trans x1
  replace x2 : (wq).cell? ⟨w2.heap.size, 2, none⟩ = some (Value.bool xw) := (hg.cell (cell_lt x2)).trans x2
  replace x3 : (wq).cell? ⟨w2.heap.size, 3, none⟩ = some (Value.bool xx) := (hg.cell (cell_lt x3)).trans x3
  replace x4 : (wq).cell? ⟨w2.heap.size, 4, none⟩ = some (Value.bool xu) := (hg.cell (cell_lt x4)).trans x4
  replace x5 : (wq).cell? ⟨w2.heap.size, 5, none⟩ = some (Value.bool xg) := (hg.cell (cell_lt x5)).trans x5
  replace x6 : (wq).cell? ⟨w2.heap.size, 6, none⟩ = some (Value.bool xa) := (hg.cell (cell_lt x6)).trans x6
  replace x7 : (wq).cell? ⟨w2.heap.size, 7, none⟩ = some (Value.bool xd) := (hg.cell (cell_lt x7)).trans x7
  replace x8 : (wq).cell? ⟨w2.heap.size, 8, none⟩ = some (.int .i64 xrsw) := (hg.cell (cell_lt x8)).trans x8
  replace x9 : (wq).cell? ⟨w2.heap.size, 9, none⟩ = some (.int .u64 xppn) := (hg.cell (cell_lt x9)).trans x9
  replace y0 : (wq).cell? ⟨w3.heap.size, 0, none⟩ = some (Value.bool xv) := (hg.cell (cell_lt y0)).trans y0
  replace y1 : (wq).cell? ⟨w3.heap.size, 1, none⟩ = some (Value.bool xr) := (hg.cell (cell_lt y1)).trans y1
  replace y2 : (wq).cell? ⟨w3.heap.size, 2, none⟩ = some (Value.bool xw) := (hg.cell (cell_lt y2)).trans y2
  replace y3 : (wq).cell? ⟨w3.heap.size, 3, none⟩ = some (Value.bool xx) := (hg.cell (cell_lt y3)).trans y3
  replace y4 : (wq).cell? ⟨w3.heap.size, 4, none⟩ = some (Value.bool xu) := (hg.cell (cell_lt y4)).trans y4
  replace y5 : (wq).cell? ⟨w3.heap.size, 5, none⟩ = some (Value.bool xg) := (hg.cell (cell_lt y5)).trans y5
  replace y6 : (wq).cell? ⟨w3.heap.size, 6, none⟩ = some (Value.bool xa) := (hg.cell (cell_lt y6)).trans y6
  replace y7 : (wq).cell? ⟨w3.heap.size, 7, none⟩ = some (Value.bool xd) := (hg.cell (cell_lt y7)).trans y7
  replace y8 : (wq).cell? ⟨w3.heap.size, 8, none⟩ = some (.int .i64 xrsw) := (hg.cell (cell_lt y8)).trans y8
  replace y9 : (wq).cell? ⟨w3.heap.size, 9, none⟩ = some (.int .u64 xppn) := (hg.cell (cell_lt y9)).trans y9
  replace z0 : (wq).cell? ⟨w5.heap.size, 0, none⟩ = some (Value.bool zv) := (hg.cell (cell_lt z0)).trans z0
  replace z1 : (wq).cell? ⟨w5.heap.size, 1, none⟩ = some (Value.bool zr) := (hg.cell (cell_lt z1)).trans z1
  replace z2 : (wq).cell? ⟨w5.heap.size, 2, none⟩ = some (Value.bool zw) := (hg.cell (cell_lt z2)).trans z2
  replace z3 : (wq).cell? ⟨w5.heap.size, 3, none⟩ = some (Value.bool zx) := (hg.cell (cell_lt z3)).trans z3
  replace z4 : (wq).cell? ⟨w5.heap.size, 4, none⟩ = some (Value.bool zu) := (hg.cell (cell_lt z4)).trans z4
  replace z5 : (wq).cell? ⟨w5.heap.size, 5, none⟩ = some (Value.bool zg) := (hg.cell (cell_lt z5)).trans z5
  replace z6 : (wq).cell? ⟨w5.heap.size, 6, none⟩ = some (Value.bool za) := (hg.cell (cell_lt z6)).trans z6
  replace z7 : (wq).cell? ⟨w5.heap.size, 7, none⟩ = some (Value.bool zd) := (hg.cell (cell_lt z7)).trans z7
  replace z8 : (wq).cell? ⟨w5.heap.size, 8, none⟩ = some (.int .i64 zrsw) := (hg.cell (cell_lt z8)).trans z8
  replace z9 : (wq).cell? ⟨w5.heap.size, 9, none⟩ = some (.int .u64 zppn) := (hg.cell (cell_lt z9)).trans z9
  replace v0 : (wq).cell? ⟨w7.heap.size, 0, none⟩ = some (Value.bool zv) := (hg.cell (cell_lt v0)).trans v0
  replace v1 : (wq).cell? ⟨w7.heap.size, 1, none⟩ = some (Value.bool zr) := (hg.cell (cell_lt v1)).trans v1
  replace v2 : (wq).cell? ⟨w7.heap.size, 2, none⟩ = some (Value.bool zw) := (hg.cell (cell_lt v2)).trans v2
  replace v3 : (wq).cell? ⟨w7.heap.size, 3, none⟩ = some (Value.bool zx) := (hg.cell (cell_lt v3)).trans v3
  replace v4 : (wq).cell? ⟨w7.heap.size, 4, none⟩ = some (Value.bool zu) := (hg.cell (cell_lt v4)).trans v4
  replace v5 : (wq).cell? ⟨w7.heap.size, 5, none⟩ = some (Value.bool zg) := (hg.cell (cell_lt v5)).trans v5
  replace v6 : (wq).cell? ⟨w7.heap.size, 6, none⟩ = some (Value.bool za) := (hg.cell (cell_lt v6)).trans v6
  replace v7 : (wq).cell? ⟨w7.heap.size, 7, none⟩ = some (Value.bool zd) := (hg.cell (cell_lt v7)).trans v7
  replace v8 : (wq).cell? ⟨w7.heap.size, 8, none⟩ = some (.int .i64 zrsw) := (hg.cell (cell_lt v8)).trans v8
  replace v9 : (wq).cell? ⟨w7.heap.size, 9, none⟩ = some (.int .u64 zppn) := (hg.cell (cell_lt v9)).trans v9
  have hbq := HB.out.drew.trans (hg.mono HB.out.size)
  have HBQ := Lib.hid hbq
  clear hbq hg HB HPP HPQ
  have x0s := fun W' (h : Ext wq W') => (h.cell (p := ⟨w2.heap.size, 0, none⟩) (cell_lt (w := wq) x0)).trans x0
  have x1s := fun W' (h : Ext wq W') => (h.cell (p := ⟨w2.heap.size, 1, none⟩) (cell_lt (w := wq) x1)).trans x1
  have x2s := fun W' (h : Ext wq W') => (h.cell (p := ⟨w2.heap.size, 2, none⟩) (cell_lt (w := wq) x2)).trans x2
  have x3s := fun W' (h : Ext wq W') => (h.cell (p := ⟨w2.heap.size, 3, none⟩) (cell_lt (w := wq) x3)).trans x3
  have x4s := fun W' (h : Ext wq W') => (h.cell (p := ⟨w2.heap.size, 4, none⟩) (cell_lt (w := wq) x4)).trans x4
  have x5s := fun W' (h : Ext wq W') => (h.cell (p := ⟨w2.heap.size, 5, none⟩) (cell_lt (w := wq) x5)).trans x5
  have x6s := fun W' (h : Ext wq W') => (h.cell (p := ⟨w2.heap.size, 6, none⟩) (cell_lt (w := wq) x6)).trans x6
  have x7s := fun W' (h : Ext wq W') => (h.cell (p := ⟨w2.heap.size, 7, none⟩) (cell_lt (w := wq) x7)).trans x7
  have x8s := fun W' (h : Ext wq W') => (h.cell (p := ⟨w2.heap.size, 8, none⟩) (cell_lt (w := wq) x8)).trans x8
  have x9s := fun W' (h : Ext wq W') => (h.cell (p := ⟨w2.heap.size, 9, none⟩) (cell_lt (w := wq) x9)).trans x9
  have y0s := fun W' (h : Ext wq W') => (h.cell (p := ⟨w3.heap.size, 0, none⟩) (cell_lt (w := wq) y0)).trans y0
  have y1s := fun W' (h : Ext wq W') => (h.cell (p := ⟨w3.heap.size, 1, none⟩) (cell_lt (w := wq) y1)).trans y1
  have y2s := fun W' (h : Ext wq W') => (h.cell (p := ⟨w3.heap.size, 2, none⟩) (cell_lt (w := wq) y2)).trans y2
  have y3s := fun W' (h : Ext wq W') => (h.cell (p := ⟨w3.heap.size, 3, none⟩) (cell_lt (w := wq) y3)).trans y3
  have y4s := fun W' (h : Ext wq W') => (h.cell (p := ⟨w3.heap.size, 4, none⟩) (cell_lt (w := wq) y4)).trans y4
  have y5s := fun W' (h : Ext wq W') => (h.cell (p := ⟨w3.heap.size, 5, none⟩) (cell_lt (w := wq) y5)).trans y5
  have y6s := fun W' (h : Ext wq W') => (h.cell (p := ⟨w3.heap.size, 6, none⟩) (cell_lt (w := wq) y6)).trans y6
  have y7s := fun W' (h : Ext wq W') => (h.cell (p := ⟨w3.heap.size, 7, none⟩) (cell_lt (w := wq) y7)).trans y7
  have y8s := fun W' (h : Ext wq W') => (h.cell (p := ⟨w3.heap.size, 8, none⟩) (cell_lt (w := wq) y8)).trans y8
  have y9s := fun W' (h : Ext wq W') => (h.cell (p := ⟨w3.heap.size, 9, none⟩) (cell_lt (w := wq) y9)).trans y9
  have z0s := fun W' (h : Ext wq W') => (h.cell (p := ⟨w5.heap.size, 0, none⟩) (cell_lt (w := wq) z0)).trans z0
  have z1s := fun W' (h : Ext wq W') => (h.cell (p := ⟨w5.heap.size, 1, none⟩) (cell_lt (w := wq) z1)).trans z1
  have z2s := fun W' (h : Ext wq W') => (h.cell (p := ⟨w5.heap.size, 2, none⟩) (cell_lt (w := wq) z2)).trans z2
  have z3s := fun W' (h : Ext wq W') => (h.cell (p := ⟨w5.heap.size, 3, none⟩) (cell_lt (w := wq) z3)).trans z3
  have z4s := fun W' (h : Ext wq W') => (h.cell (p := ⟨w5.heap.size, 4, none⟩) (cell_lt (w := wq) z4)).trans z4
  have z5s := fun W' (h : Ext wq W') => (h.cell (p := ⟨w5.heap.size, 5, none⟩) (cell_lt (w := wq) z5)).trans z5
  have z6s := fun W' (h : Ext wq W') => (h.cell (p := ⟨w5.heap.size, 6, none⟩) (cell_lt (w := wq) z6)).trans z6
  have z7s := fun W' (h : Ext wq W') => (h.cell (p := ⟨w5.heap.size, 7, none⟩) (cell_lt (w := wq) z7)).trans z7
  have z8s := fun W' (h : Ext wq W') => (h.cell (p := ⟨w5.heap.size, 8, none⟩) (cell_lt (w := wq) z8)).trans z8
  have z9s := fun W' (h : Ext wq W') => (h.cell (p := ⟨w5.heap.size, 9, none⟩) (cell_lt (w := wq) z9)).trans z9
  have v0s := fun W' (h : Ext wq W') => (h.cell (p := ⟨w7.heap.size, 0, none⟩) (cell_lt (w := wq) v0)).trans v0
  have v1s := fun W' (h : Ext wq W') => (h.cell (p := ⟨w7.heap.size, 1, none⟩) (cell_lt (w := wq) v1)).trans v1
  have v2s := fun W' (h : Ext wq W') => (h.cell (p := ⟨w7.heap.size, 2, none⟩) (cell_lt (w := wq) v2)).trans v2
  have v3s := fun W' (h : Ext wq W') => (h.cell (p := ⟨w7.heap.size, 3, none⟩) (cell_lt (w := wq) v3)).trans v3
  have v4s := fun W' (h : Ext wq W') => (h.cell (p := ⟨w7.heap.size, 4, none⟩) (cell_lt (w := wq) v4)).trans v4
  have v5s := fun W' (h : Ext wq W') => (h.cell (p := ⟨w7.heap.size, 5, none⟩) (cell_lt (w := wq) v5)).trans v5
  have v6s := fun W' (h : Ext wq W') => (h.cell (p := ⟨w7.heap.size, 6, none⟩) (cell_lt (w := wq) v6)).trans v6
  have v7s := fun W' (h : Ext wq W') => (h.cell (p := ⟨w7.heap.size, 7, none⟩) (cell_lt (w := wq) v7)).trans v7
  have v8s := fun W' (h : Ext wq W') => (h.cell (p := ⟨w7.heap.size, 8, none⟩) (cell_lt (w := wq) v8)).trans v8
  have v9s := fun W' (h : Ext wq W') => (h.cell (p := ⟨w7.heap.size, 9, none⟩) (cell_lt (w := wq) v9)).trans v9
  have hbk := HBK.out
  iterate 23 (refine plan_take (v := ?_) rfl (by kernel_rfl) ?_ ?_; rotate_left; (focus (intro w' hw'; go_simp; try with_reducible rfl)); simp only [Act.put, List.setIfInBounds_toArray, List.set_cons_zero, List.set_cons_succ])
  refine plan_call rfl (by kernel_rfl) (by go_simp; exact ⟨rfl, rfl⟩) ?_
  refine (put_any _ _ _ _ _ _ _ _ _ _ _ HQ.out).mono ?_
  rintro e wr ⟨rfl, hr⟩
  have HR := Lib.hid hr
  refine ⟨_, rfl, hr, ?_⟩
  simp only [Act.put, List.setIfInBounds_toArray, List.set_cons_zero, List.set_cons_succ]
  clear hr
  iterate 4 (refine plan_take (v := ?_) rfl (by kernel_rfl) ?_ ?_; rotate_left; (focus (intro w' hw'; go_simp; try with_reducible rfl)); simp only [Act.put, List.setIfInBounds_toArray, List.set_cons_zero, List.set_cons_succ])
  refine plan_end ?_
  clear x0s x1s x2s x3s x4s x5s x6s x7s x8s x9s y0s y1s y2s y3s y4s y5s y6s y7s y8s y9s z0s z1s z2s z3s z4s z5s z6s z7s z8s z9s v0s v1s v2s v3s v4s v5s v6s v7s v8s v9s
  go_wp2
  go_ret
  exact ⟨rfl, HBQ.out.trans (HR.out.mono HBQ.out.size)⟩
end Law
end Go.Proofs.Ytikgdnlnhmikgaa
