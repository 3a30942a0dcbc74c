/- Contract of word.Get. -/
import Derived.Test.YtkkgigdgbiklmaaDoorWordP
namespace Go.Proofs.YtkkgigdgbiklmaaDoor
open Go.RowKit

/-- A slice reads as bytes. -/
def Bts (w : World) (A : Option Addr) (l : List Nat) : Prop :=
  (∀ i, l.getD i 0 < 256) ∧ (0 < l.length → ∃ b o, A = some ⟨b, o, none⟩ ∧ ∀ i, i < l.length → w.cell? ⟨b, o + i, none⟩ = some (.int .u8 ((l.getD i 0 : Nat) : Int)))

def getV (l : List Nat) (a s : Int) : Nat := leNat ((l.drop a.toNat).take s.toNat)

theorem there_of {n a s : Int} (h : thereB n a s = true) : sizeB s = true ∧ 0 ≤ a ∧ a ≤ n ∧ s ≤ n - a := by
  simp [thereB] at h; exact ⟨h.1, h.2.1, h.2.2.1, h.2.2.2⟩

end Go.Proofs.YtkkgigdgbiklmaaDoor
