/- What the listed variables hold when the call begins. -/
import Derived.Test.YtocjapnagggapaaDoorRows
import Derived.Test.YtocjapnagggapaaDoorClkQ
import Derived.LaidMore
namespace Go.Proofs.YtocjapnagggapaaDoor
open Go.ChangeShapes Go.WideShapes Go.RowKit

def tab64 : List Nat := [0, 1, 56, 2, 57, 49, 28, 3, 61, 58, 42, 50, 38, 29, 17, 4, 62, 47, 59, 36, 45, 43, 51, 22, 53, 39, 33, 30, 24, 18, 12, 5, 63, 55, 48, 27, 60, 41, 37, 16, 46, 35, 44, 21, 52, 32, 23, 11, 54, 26, 40, 15, 34, 20, 31, 10, 25, 14, 19, 9, 13, 8, 7, 6]
theorem g64 : Tryd.prog.globalNamed "math/bits.deBruijn64tab" = some 2 := by kernel_rfl
theorem t64 : (Tryd.prog.globals[2]?).map (·.type) = some 96 := by kernel_rfl
theorem laid_is {H : Type} : (Rows.laid_math_bits_deBruijn64tab : DataW H) = .agg (tab64.map fun (k : Nat) => .lit (.int .u8 (k : Int))) := rfl
theorem of_laid {W : World} (h : laidMetH Tryd.prog [("math/bits.deBruijn32tab", Rows.laid_math_bits_deBruijn32tab), ("math/bits.deBruijn64tab", Rows.laid_math_bits_deBruijn64tab), ("internal/strconv.uint64pow10", Rows.laid_internal_strconv_uint64pow10)] W) : Tab W := by
  rw [MakeChecks.laidMetH_plain _ _ _ (by kernel_rfl)] at h
  obtain ⟨ps, ⟨_, _, _, _, _, _, _, _, _, _, ⟨g0, t0, cs0, f0, p0, q0, hg0, ht0, hv0, hd0, _⟩, _⟩, _⟩ := h
  obtain rfl := Option.some.inj (g64.symm.trans hg0)
  obtain rfl := Option.some.inj (t64.symm.trans ht0)
  rw [laid_is] at hd0
  obtain ⟨xs, m1, e1, hx1, hlen, hn, hel⟩ := DataW.trod_array Tryd.underlying96 hd0
  have c8 : Tryd.prog.cellsOf 5 = 1 := by kernel_rfl
  simp only [Prod.mk.injEq, DataW.agg.injEq] at hx1
  have h1 := hel 15 (by decide)
  rw [c8, Nat.mul_one, List.getElem?_eq_getElem (by omega)] at h1
  obtain ⟨k, e2, e3, _⟩ := DataW.trod_int Tryd.underlying5 h1
  have h2 : (xs.map (·.1))[15]? = some (.lit (.int .u8 k)) := by rw [List.getElem?_map, List.getElem?_eq_getElem (by omega), Option.map_some, e3]
  rw [← hx1.1, List.getElem?_map] at h2
  have h4 : tab64[15]? = some 4 := rfl
  rw [h4] at h2
  have hk : k = 4 := by
    simp at h2
    omega
  unfold Tab
  rw [World.var?_cell hg0 hv0 15]
  have h3 : (cs0.toList.drop 15)[0]? = some (.int .u8 k) := by
    have := congrArg (fun l => l[0]?) e2
    simpa [List.getElem?_take] using this
  rw [List.getElem?_drop, hk] at h3
  simpa using h3
end Go.Proofs.YtocjapnagggapaaDoor
