/- Contract of pte.GetSatp; the laws' first function. -/
import Derived.Test.YtikgdnlnhmikgaaPteD
namespace Go.Proofs.Ytikgdnlnhmikgaa
open Go.RowKit

theorem asid_eq (x : Nat) (hx : x < 18446744073709551616) : wrap64 (bits .and .u64 ((x : Int) / 17592186044416) 65535) = ((x / 17592186044416 % 65536 : Nat) : Int) := by
  have e : ((x : Int) / 17592186044416) = ((x / 17592186044416 : Nat) : Int) := by omega
  rw [e, and_mask (x / 17592186044416) 16 65535 (by decide) rfl (by omega), IntWalk.wrap64_in _ (by omega)]
theorem sppn_eq (x : Nat) (hx : x < 18446744073709551616) : bits .and .u64 (x : Int) 17592186044415 = ((x % 17592186044416 : Nat) : Int) := and_mask x 44 17592186044415 (by decide) rfl hx

theorem getsatp_yes (x : Nat) (b : Bool) (W : World) (hx : x < 18446744073709551616) (h : (b = false ∧ x / 1152921504606846976 = 0) ∨ (b = true ∧ x / 1152921504606846976 = 8)) :
    Calls Try.prog 12 #[.int .u64 (x : Int)] W fun e w' => e = .returned (.tuple #[.agg #[.bool b, .int .i64 ((x / 17592186044416 % 65536 : Nat) : Int), .int .u64 ((x % 17592186044416 : Nat) : Int)], .bool true]) ∧ Below W.heap.size W w' := by
  have HX := Lib.hid hx
  rcases h with ⟨rfl, h⟩ | ⟨rfl, h⟩
  · have e1 : ((x : Int) / 1152921504606846976) = ((x / 1152921504606846976 : Nat) : Int) := by omega
    rw [h] at e1
    clear h hx
    go_enter Try.func12, Try.ntmps12
    go_wp2
    refine bodyPost_ret (v := .tuple #[.agg #[.bool false, .int .i64 (wrap64 (bits .and .u64 ((x : Int) / 17592186044416) 65535)), .int .u64 (bits .and .u64 (x : Int) 17592186044415)], .bool true]) (by simp [results, Try.results12, go_sem]) rfl ⟨?_, by go_grown⟩
    rw [asid_eq x HX.out, sppn_eq x HX.out]
  · have e1 : ((x : Int) / 1152921504606846976) = ((x / 1152921504606846976 : Nat) : Int) := by omega
    rw [h] at e1
    clear h hx
    go_enter Try.func12, Try.ntmps12
    go_wp2
    refine bodyPost_ret (v := .tuple #[.agg #[.bool true, .int .i64 (wrap64 (bits .and .u64 ((x : Int) / 17592186044416) 65535)), .int .u64 (bits .and .u64 (x : Int) 17592186044415)], .bool true]) (by simp [results, Try.results12, go_sem]) rfl ⟨?_, by go_grown⟩
    rw [asid_eq x HX.out, sppn_eq x HX.out]

theorem getsatp_no (x : Nat) (W : World) (h0 : x / 1152921504606846976 ≠ 0) (h8 : x / 1152921504606846976 ≠ 8) :
    Calls Try.prog 12 #[.int .u64 (x : Int)] W fun e w' => e = .returned (.tuple #[.agg #[.bool false, .int .i64 0, .int .u64 0], .bool false]) ∧ Below W.heap.size W w' := by
  have n0 : (((x : Int) / 1152921504606846976) != 0) = true := by rw [bne_iff_ne]; omega
  have n8 : (((x : Int) / 1152921504606846976) != 8) = true := by rw [bne_iff_ne]; omega
  clear h0 h8
  go_enter Try.func12, Try.ntmps12
  go_wp2
  exact bodyPost_ret (v := .tuple #[.agg #[.bool false, .int .i64 0, .int .u64 0], .bool false]) (by simp [results, Try.results12, go_sem]) rfl ⟨rfl, by go_grown⟩

theorem entry_2247 : entryV 2247 = .agg #[.bool true, .bool true, .bool true, .bool false, .bool false, .bool false, .bool true, .bool true, .int .i64 0, .int .u64 2] := by
  simp [entryV, bitB]

theorem cell_lt {w : World} {a : Addr} {v : Value} (h : w.cell? a = some v) : a.block < w.heap.size := World.block_lt_of_cell? _ _ h
theorem cell_pass {w w' : World} {o : Obj} {p : Addr} {v : Value} (h : Below (w.alloc o).heap.size (w.alloc o) w') (hc : w.cell? p = some v) : w'.cell? p = some v := by
  have hl := cell_lt hc
  rw [h.cell (by simp; omega), World.cell?_alloc_lt _ _ _ hl]
  exact hc
theorem cell_new {w w' : World} {c : Array Value} {t : TypeId} {i : Nat} (h : Below (w.alloc (.cells c t)).heap.size (w.alloc (.cells c t)) w') : w'.cell? ⟨w.heap.size, i, none⟩ = c[i]? := by
  rw [h.cell (by simp), World.cell?_alloc_new]

theorem first_ok (W : World) :
    Calls Try.prog 7 #[] W fun e w' => e = .returned (.bool true) ∧ Below W.heap.size W w' := by
  go_enter Try.func7, Try.ntmps7
  go_wp2_with fail
  refine (put_any true true true false false false true true 0 2 _ (by decide)).mono ?_
  rintro e w1 ⟨rfl, hb1⟩
  rw [show ((putV true true true false false false true true 0 2 : Nat) : Int) = 2247 from rfl]
  have HB1 := Lib.hid hb1
  clear hb1
  go_wp2_with fail
  refine (get_any 2247 _ (by decide)).mono ?_
  rintro e w2 ⟨rfl, hb2⟩
  rw [entry_2247, show ((2247 / 18014398509481984 : Nat) == 0) = true from rfl]
  have HB2 := Lib.hid hb2
  clear hb2
  go_wp2_with fail
  refine (getsatp_yes 9223459997784997895 true _ (by decide) (.inr ⟨rfl, by decide⟩)).mono ?_
  rintro e w3 ⟨rfl, hb3⟩
  rw [show ((9223459997784997895 / 17592186044416 % 65536 : Nat) : Int) = 5 from rfl, show ((9223459997784997895 % 17592186044416 : Nat) : Int) = 7 from rfl]
  have HB3 := Lib.hid hb3
  clear hb3
  go_wp2_with fail
  refine (getsatp_no 10376293541461622784 _ (by decide) (by decide)).mono ?_
  rintro e w4 ⟨rfl, hb4⟩
  have HB4 := Lib.hid hb4
  clear hb4
  have s2 : w2.heap.size < w3.heap.size := by have := HB3.out.size; simp at this; omega
  have s3 : w3.heap.size < w4.heap.size := by have := HB4.out.size; simp at this; omega
  have s4 : w2.heap.size < w4.heap.size := by omega
  have p9 : w4.cell? ⟨w2.heap.size, 9, none⟩ = some (.int .u64 2) := cell_pass HB4.out (cell_new HB3.out)
  have p7 : w4.cell? ⟨w2.heap.size, 7, none⟩ = some (.bool true) := cell_pass HB4.out (cell_new HB3.out)
  have p3 : w4.cell? ⟨w2.heap.size, 3, none⟩ = some (.bool false) := cell_pass HB4.out (cell_new HB3.out)
  have q0 : w4.cell? ⟨w3.heap.size, 0, none⟩ = some (.bool true) := cell_new HB4.out
  have q1 : w4.cell? ⟨w3.heap.size, 1, none⟩ = some (.int .i64 5) := cell_new HB4.out
  have q2 : w4.cell? ⟨w3.heap.size, 2, none⟩ = some (.int .u64 7) := cell_new HB4.out
  go_wp2_with fail
  clear p9 p7 p3 q0 q1 q2
  refine (canon_any 18446743798831644672 _ (by decide)).mono ?_
  rintro e w' ⟨rfl, rfl⟩
  rw [show canonB 18446743798831644672 = true from by decide]
  go_wp2_with fail
  refine (canon_any 549755813888 _ (by decide)).mono ?_
  rintro e w' ⟨rfl, rfl⟩
  rw [show canonB 549755813888 = false from by decide]
  go_wp2_with fail
  refine (index_any 1075843072 1 _ (by decide)).mono ?_
  rintro e w' ⟨rfl, rfl⟩
  rw [show ((indexV 1075843072 1 : Nat) : Int) = 1 from by decide]
  go_wp2_with fail
  refine (span_any 1 _).mono ?_
  rintro e w' ⟨rfl, rfl⟩
  rw [show ((spanV 1 : Nat) : Int) = 2097152 from rfl]
  go_wp2
  go_ret
  refine ⟨rfl, ?_⟩
  have b1 := HB1.out
  have b2 := b1.trans (HB2.out.mono b1.size)
  have b3 := (b2.alloc b2.size _).trans (HB3.out.mono (Nat.le_trans b2.size (by simp)))
  have b4 := (b3.alloc b3.size _).trans (HB4.out.mono (Nat.le_trans b3.size (by simp)))
  exact b4.alloc b4.size _
end Go.Proofs.Ytikgdnlnhmikgaa
