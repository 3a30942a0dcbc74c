/- A memory: Page, SetPage. -/
import Derived.Test.YtmnpakfihfjfiaaPhyD
import Derived.Laws.AppendOwn
import Derived.Laws.MakeOwn
import Derived.Laws.OwnMore
namespace Go.Proofs.Ytmnpakfihfjfiaa
open Go.RowKit

/-- A page is handed back: a row of the call's own. -/
def PageR (l : List Nat) (W : World) (e : Ending) (w' : World) : Prop := ∃ v, e = .returned (.tuple #[v, .int .i64 0]) ∧ w'.ownsRow W.heap.size 5 1 v l.length (l.map bv) ∧ Below W.heap.size W w'
theorem frE_ok {n : Nat} {f : Int} (h : frE n f = 0) : ∃ k : Nat, f = (k : Int) ∧ k < n := by
  unfold frE at h
  split at h
  · omega
  · exact ⟨f.toNat, by omega, by omega⟩
theorem made_pg : (madeCells #[Value.int IntKind.u8 0] 4096).toList = zeroL.map bv := by
  rw [toList_madeCells_one]
  unfold zeroL
  rw [List.map_replicate]
  rfl
theorem zpg_list : zpg.toList = zeroL.map bv := by
  unfold zpg
  rw [List.toList_toArray]
theorem zero_len : zeroL.length = 4096 := List.length_replicate
theorem zpg_size : zpg.size = 4096 := by rw [← Array.length_toList, zpg_list, List.length_map, zero_len]
theorem made_pg1 (z : Array Value) (h : z = #[Value.int IntKind.u8 0]) (n : Nat) (hn : n = 4096) : madeCells z n = zpg := by
  subst h hn
  apply Array.toList_inj.1
  rw [made_pg, zpg_list]
theorem make_pg (W : World) : (Instr.makeSlice 78 (.int .i64 4096) (.int .i64 4096)).run Try.prog W = .ok (.slice (some ⟨W.heap.size, 0, none⟩) 4096 4096) (W.alloc (.cells zpg 5)) := by
  obtain ⟨i0, hi0, hz0, hz1, hz2⟩ := info_parts info5
  have h := run_make (P := Try.prog) W 78 5 i0 _ Try.underlying78 hi0 hz0 .i64 .i64 4096 4096 (by decide) (by decide) (by rw [hz2]; decide) (by decide)
  rw [hz1, made_pg1 (Value.int IntKind.u8 0).cells rfl (Int.toNat 4096 * 1) (by decide), show Int.toNat 4096 = 4096 from rfl] at h
  exact h
end Go.Proofs.Ytmnpakfihfjfiaa
