/- The reference's Get, whole. -/
import Derived.Test.YtidfhdkalnaddaaWireN
namespace Go.Proofs.Ytidfhdkalnaddaa
open Go.RowKit

theorem rget_any16 (A : Option Addr) (l : List Nat) (n c : Nat) (W : World) (hl : l.length = n) (hn : n ≤ 6000) (hc : n ≤ c) (hB : Bts W A l) :
    Calls Try.prog 14 #[.slice A n c] W (RGet l W) := by
  rcases Nat.lt_or_ge n 4 with h4 | h4
  · refine (rget_short A n c W h4).mono ?_
    rintro e w' ⟨rfl, hb⟩
    have ho : frameB l = false := by
      unfold frameB openB
      rw [decide_eq_false (by omega)]
      rfl
    exact ⟨hb, by rw [if_neg (by rw [ho]; decide)]⟩
  · obtain ⟨b, o, hA, -⟩ := hB.2 (by omega)
    cases ho : openB l with
    | false =>
      refine (rget_closed b o A hA l n c W hl (by omega) hc hB h4 ho).mono ?_
      rintro e w' ⟨rfl, hb⟩
      exact ⟨hb, by rw [if_neg (by unfold frameB; rw [ho]; simp)]⟩
    | true =>
      rcases Nat.lt_or_ge (n - 4) 23 with hs | hs
      · refine (rget_shortB b o A hA l n c W hl (by omega) hc hB h4 ho hs).mono ?_
        rintro e w' ⟨rfl, hb⟩
        refine ⟨hb, ?_⟩
        rw [if_neg ?_]
        unfold frameB headOK
        rw [decide_eq_false (by rw [List.length_take]; omega)]
        simp
      · exact rget_long b o A hA l n c W hl hn hc hB ho hs
end Go.Proofs.Ytidfhdkalnaddaa
