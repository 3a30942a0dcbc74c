/- What the listed variables hold when the call begins. -/
import Derived.Test.YtlmhmmlfodibgaaDoorRows
import Derived.Test.YtlmhmmlfodibgaaDoorNodI
import Derived.LaidMore
namespace Go.Proofs.YtlmhmmlfodibgaaDoor
open Go.ChangeShapes Go.WideShapes Go.RowKit

theorem g32 : Tryd.prog.globalNamed "math/bits.deBruijn32tab" = some 0 := by kernel_rfl
theorem t32 : (Tryd.prog.globals[0]?).map (·.type) = some 42 := by kernel_rfl
theorem laid_is {H : Type} : (Rows.laid_math_bits_deBruijn32tab : DataW H) = .agg (tab32.map fun (k : Nat) => .lit (.int .u8 (k : Int))) := rfl
theorem of_laid {W : World} (h : laidMetH Tryd.prog [("math/bits.deBruijn32tab", Rows.laid_math_bits_deBruijn32tab), ("math/bits.deBruijn64tab", Rows.laid_math_bits_deBruijn64tab), ("internal/strconv.uint64pow10", Rows.laid_internal_strconv_uint64pow10)] W) : Tab W := by
  rw [MakeChecks.laidMetH_plain _ _ _ (by kernel_rfl)] at h
  obtain ⟨ps, ⟨g0, t0, cs0, f0, p0, q0, hg0, ht0, hv0, hd0, _⟩, _⟩ := h
  obtain rfl := Option.some.inj (g32.symm.trans hg0)
  obtain rfl := Option.some.inj (t32.symm.trans ht0)
  rw [laid_is] at hd0
  obtain ⟨xs, m1, e1, hx1, hlen, hn, hel⟩ := DataW.trod_array Tryd.underlying42 hd0
  have c8 : Tryd.prog.cellsOf 5 = 1 := by kernel_rfl
  simp only [Prod.mk.injEq, DataW.agg.injEq] at hx1
  intro i hi
  have h1 := hel i hi
  rw [c8, Nat.mul_one, List.getElem?_eq_getElem (by omega)] at h1
  obtain ⟨k, e2, e3, _⟩ := DataW.trod_int Tryd.underlying5 h1
  have h2 : (xs.map (·.1))[i]? = some (.lit (.int .u8 k)) := by rw [List.getElem?_map, List.getElem?_eq_getElem (by omega), Option.map_some, e3]
  rw [← hx1.1, List.getElem?_map] at h2
  obtain ⟨y, hy, hyk⟩ := Option.map_eq_some_iff.1 h2
  have hk : k = (y : Int) := by injection hyk with hyk; injection hyk with _ hyk; exact hyk.symm
  have hgd : tab32.getD i 0 = y := by rw [List.getD_eq_getElem?_getD, hy]; rfl
  rw [hgd, ← hk, World.var?_cell hg0 hv0 i]
  have h3 : (cs0.toList.drop i)[0]? = some (.int .u8 k) := by
    have := congrArg (fun l => l[0]?) e2
    simpa [List.getElem?_take] using this
  rw [List.getElem?_drop] at h3
  simpa using h3
end Go.Proofs.YtlmhmmlfodibgaaDoor
