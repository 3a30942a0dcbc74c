/- Contracts of the reference's side: its rows, which parts a kind uses, which instructions are right. -/
import Derived.Test.YtcmaneeoblmmmaaIsaB
namespace Go.Proofs.Ytcmaneeoblmmmaa
open Go.RowKit

def nameS : Nat → ByteArray
  | 0 => ⟨#[104, 97, 108, 116]⟩
  | 1 => ⟨#[108, 105]⟩
  | 2 => ⟨#[97, 100, 100, 105]⟩
  | 3 => ⟨#[115, 108, 108, 105]⟩
  | 4 => ⟨#[97, 100, 100]⟩
  | 5 => ⟨#[115, 117, 98]⟩
  | 6 => ⟨#[97, 110, 100]⟩
  | 7 => ⟨#[111, 114]⟩
  | 8 => ⟨#[120, 111, 114]⟩
  | 9 => ⟨#[115, 108, 116]⟩
  | 10 => ⟨#[99, 97, 100, 100]⟩
  | 11 => ⟨#[99, 115, 117, 98]⟩
  | 12 => ⟨#[99, 109, 117, 108]⟩
  | 13 => ⟨#[99, 99, 111, 110, 106]⟩
  | 14 => ⟨#[99, 110, 111, 114, 109]⟩
  | 15 => ⟨#[98, 101, 113]⟩
  | 16 => ⟨#[98, 110, 101]⟩
  | 17 => ⟨#[98, 108, 116]⟩
  | 18 => ⟨#[106, 97, 108]⟩
  | 19 => ⟨#[108, 98]⟩
  | 20 => ⟨#[108, 104]⟩
  | 21 => ⟨#[108, 119]⟩
  | 22 => ⟨#[108, 100]⟩
  | 23 => ⟨#[108, 98, 117]⟩
  | 24 => ⟨#[108, 104, 117]⟩
  | 25 => ⟨#[108, 119, 117]⟩
  | 26 => ⟨#[115, 98]⟩
  | 27 => ⟨#[115, 104]⟩
  | 28 => ⟨#[115, 119]⟩
  | 29 => ⟨#[115, 100]⟩
  | 30 => ⟨#[115, 119, 97, 112, 46, 119]⟩
  | 31 => ⟨#[115, 119, 97, 112, 46, 100]⟩
  | 32 => ⟨#[97, 109, 111, 97, 100, 100, 46, 119]⟩
  | 33 => ⟨#[97, 109, 111, 97, 100, 100, 46, 100]⟩
  | 34 => ⟨#[102, 101, 110, 99, 101]⟩
  | _ => ⟨#[]⟩
def rowCells : Array Value := #[.string ⟨#[104, 97, 108, 116]⟩, .string ⟨#[78]⟩, .int .i64 0, .string ⟨#[108, 105]⟩, .string ⟨#[73]⟩, .int .i64 0, .string ⟨#[97, 100, 100, 105]⟩, .string ⟨#[82, 73]⟩, .int .i64 0, .string ⟨#[115, 108, 108, 105]⟩, .string ⟨#[82, 73]⟩, .int .i64 0, .string ⟨#[97, 100, 100]⟩, .string ⟨#[82]⟩, .int .i64 0, .string ⟨#[115, 117, 98]⟩, .string ⟨#[82]⟩, .int .i64 0, .string ⟨#[97, 110, 100]⟩, .string ⟨#[82]⟩, .int .i64 0, .string ⟨#[111, 114]⟩, .string ⟨#[82]⟩, .int .i64 0, .string ⟨#[120, 111, 114]⟩, .string ⟨#[82]⟩, .int .i64 0, .string ⟨#[115, 108, 116]⟩, .string ⟨#[82]⟩, .int .i64 0, .string ⟨#[99, 97, 100, 100]⟩, .string ⟨#[82]⟩, .int .i64 0, .string ⟨#[99, 115, 117, 98]⟩, .string ⟨#[82]⟩, .int .i64 0, .string ⟨#[99, 109, 117, 108]⟩, .string ⟨#[82]⟩, .int .i64 0, .string ⟨#[99, 99, 111, 110, 106]⟩, .string ⟨#[85]⟩, .int .i64 0, .string ⟨#[99, 110, 111, 114, 109]⟩, .string ⟨#[85]⟩, .int .i64 0, .string ⟨#[98, 101, 113]⟩, .string ⟨#[66]⟩, .int .i64 0, .string ⟨#[98, 110, 101]⟩, .string ⟨#[66]⟩, .int .i64 0, .string ⟨#[98, 108, 116]⟩, .string ⟨#[66]⟩, .int .i64 0, .string ⟨#[106, 97, 108]⟩, .string ⟨#[74]⟩, .int .i64 0, .string ⟨#[108, 98]⟩, .string ⟨#[76]⟩, .int .i64 1, .string ⟨#[108, 104]⟩, .string ⟨#[76]⟩, .int .i64 2, .string ⟨#[108, 119]⟩, .string ⟨#[76]⟩, .int .i64 4, .string ⟨#[108, 100]⟩, .string ⟨#[76]⟩, .int .i64 8, .string ⟨#[108, 98, 117]⟩, .string ⟨#[76]⟩, .int .i64 1, .string ⟨#[108, 104, 117]⟩, .string ⟨#[76]⟩, .int .i64 2, .string ⟨#[108, 119, 117]⟩, .string ⟨#[76]⟩, .int .i64 4, .string ⟨#[115, 98]⟩, .string ⟨#[83]⟩, .int .i64 1, .string ⟨#[115, 104]⟩, .string ⟨#[83]⟩, .int .i64 2, .string ⟨#[115, 119]⟩, .string ⟨#[83]⟩, .int .i64 4, .string ⟨#[115, 100]⟩, .string ⟨#[83]⟩, .int .i64 8, .string ⟨#[115, 119, 97, 112, 46, 119]⟩, .string ⟨#[65]⟩, .int .i64 4, .string ⟨#[115, 119, 97, 112, 46, 100]⟩, .string ⟨#[65]⟩, .int .i64 8, .string ⟨#[97, 109, 111, 97, 100, 100, 46, 119]⟩, .string ⟨#[65]⟩, .int .i64 4, .string ⟨#[97, 109, 111, 97, 100, 100, 46, 100]⟩, .string ⟨#[65]⟩, .int .i64 8, .string ⟨#[102, 101, 110, 99, 101]⟩, .string ⟨#[78]⟩, .int .i64 0]
theorem row_cells (n : Nat) (hn : n < 35) : rowCells[n * 3]? = some (.string (nameS n)) ∧ rowCells[n * 3 + 1]? = some (.string (ks (kd n))) ∧ rowCells[n * 3 + 2]? = some (.int .i64 (sizeV n)) := by
  rcases (show n = 0 ∨ n = 1 ∨ n = 2 ∨ n = 3 ∨ n = 4 ∨ n = 5 ∨ n = 6 ∨ n = 7 ∨ n = 8 ∨ n = 9 ∨ n = 10 ∨ n = 11 ∨ n = 12 ∨ n = 13 ∨ n = 14 ∨ n = 15 ∨ n = 16 ∨ n = 17 ∨ n = 18 ∨ n = 19 ∨ n = 20 ∨ n = 21 ∨ n = 22 ∨ n = 23 ∨ n = 24 ∨ n = 25 ∨ n = 26 ∨ n = 27 ∨ n = 28 ∨ n = 29 ∨ n = 30 ∨ n = 31 ∨ n = 32 ∨ n = 33 ∨ n = 34 by omega) with rfl | rfl | rfl | rfl | rfl | rfl | rfl | rfl | rfl | rfl | rfl | rfl | rfl | rfl | rfl | rfl | rfl | rfl | rfl | rfl | rfl | rfl | rfl | rfl | rfl | rfl | rfl | rfl | rfl | rfl | rfl | rfl | rfl | rfl | rfl <;> exact ⟨rfl, rfl, rfl⟩
set_option maxRecDepth 8000 in
set_option maxHeartbeats 8000000 in
theorem rows_any (W : World) : Calls Try.prog 22 #[] W fun e w' => e = .returned (.slice (some ⟨W.heap.size, 0, none⟩) 35 35) ∧ W.alloc (.cells rowCells 36) = w' := by
  go_enter Try.func22, Try.ntmps22
  go_wp2
  go_ret
  exact ⟨rfl, rfl⟩

theorem of_yes (n : Nat) (W : World) (hn : n < 35) :
    Calls Try.prog 14 #[.int .i64 (n : Int)] W fun e w' => e = .returned (.tuple #[.agg #[.string (nameS n), .string (ks (kd n)), .int .i64 (sizeV n)], .bool true]) ∧ Below W.heap.size W w' := by
  obtain ⟨r0, r1, r2⟩ := row_cells n hn
  have HR0 := Lib.hid r0
  have HR1 := Lib.hid r1
  have HR2 := Lib.hid r2
  clear r0 r1 r2
  have e1 : decide ((35 : Int) ≤ (n : Int)) = false := by simp; omega
  go_enter Try.func14, Try.ntmps14
  go_wp2_with fail
  refine (rows_any _).mono ?_
  rintro e w1 ⟨rfl, hw1⟩
  have hz := (Blkf.new_at (n := W.heap.size) W 36 (0, 0) #[.string ⟨#[]⟩, .string ⟨#[]⟩, .int .i64 0] rfl).alloc (.cells rowCells 36)
  have hb1 : Below W.heap.size W w1 := by rw [← hw1]; go_grown
  rw [hw1] at hz
  have HZ := Lib.hid hz
  have HB1 := Lib.hid hb1
  clear hw1 hz hb1
  go_wp2_with fail
  refine (rows_any _).mono ?_
  rintro e w2 ⟨rfl, hw2⟩
  have hz : Blk w2 W.heap.size 36 #[.string ⟨#[]⟩, .string ⟨#[]⟩, .int .i64 0] := by rw [← hw2]; exact HZ.out.alloc _
  have c0 : w2.cell? ⟨w1.heap.size, n * 3, none⟩ = some (.string (nameS n)) := by rw [← hw2, World.cell?_alloc_new]; exact HR0.out
  have c1 : w2.cell? ⟨w1.heap.size, n * 3 + 1, none⟩ = some (.string (ks (kd n))) := by rw [← hw2, World.cell?_alloc_new]; exact HR1.out
  have c2 : w2.cell? ⟨w1.heap.size, n * 3 + 2, none⟩ = some (.int .i64 (sizeV n)) := by rw [← hw2, World.cell?_alloc_new]; exact HR2.out
  have z0 := hz.cell 0
  have z1 := hz.cell 1
  have z2 := hz.cell 2
  have zf := fun j => hz.frozen j
  simp only [List.getElem?_toArray, List.getElem?_cons_zero, List.getElem?_cons_succ] at z0 z1 z2
  have hb2 : Below W.heap.size W w2 := by rw [← hw2]; exact HB1.out.alloc HB1.out.size _
  have HB2 := Lib.hid hb2
  have ne : W.heap.size < w1.heap.size := HZ.out.lt
  clear hb2 hw2 HR0 HR1 HR2 hz
  go_wp2
  refine bodyPost_ret (v := .tuple #[.agg #[.string (nameS n), .string (ks (kd n)), .int .i64 (sizeV n)], .bool true]) (by simp [results, Try.results14, go_sem, z0, z1, z2]) rfl ⟨rfl, ?_⟩
  have hB := HB2.out
  repeat (first | (with_reducible exact hB) | (with_reducible refine Below.drew ?_) | (with_reducible refine Below.setCell ?_ (by simp) _))
theorem of_no (o : Int) (W : World) (ho : ¬ (0 ≤ o ∧ o < 35)) :
    Calls Try.prog 14 #[.int .i64 o] W fun e w' => e = .returned (.tuple #[.agg #[.string ⟨#[]⟩, .string ⟨#[]⟩, .int .i64 0], .bool false]) ∧ Below W.heap.size W w' := by
  rcases (show o < 0 ∨ (0 ≤ o ∧ 35 ≤ o) by omega) with h | ⟨h, h2⟩
  · clear ho
    go_enter Try.func14, Try.ntmps14
    go_wp2
    exact bodyPost_ret (v := .tuple #[.agg #[.string ⟨#[]⟩, .string ⟨#[]⟩, .int .i64 0], .bool false]) (by simp [results, Try.results14, go_sem]) rfl ⟨rfl, by go_grown⟩
  · clear ho
    have h3 : decide (o < 0) = false := by simp; omega
    go_enter Try.func14, Try.ntmps14
    go_wp2_with fail
    refine (rows_any _).mono ?_
    rintro e w1 ⟨rfl, rfl⟩
    go_wp2
    exact bodyPost_ret (v := .tuple #[.agg #[.string ⟨#[]⟩, .string ⟨#[]⟩, .int .i64 0], .bool false]) (by simp [results, Try.results14, go_sem]) rfl ⟨rfl, by go_grown⟩
end Go.Proofs.Ytcmaneeoblmmmaa
