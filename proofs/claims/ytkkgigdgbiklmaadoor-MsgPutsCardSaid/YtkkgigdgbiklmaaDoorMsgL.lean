/- What the listed variables hold when the call begins. -/
import Derived.Test.YtkkgigdgbiklmaaDoorRows
import Derived.Test.YtkkgigdgbiklmaaDoorMsgD
import Derived.LaidMore
import Derived.Lib.LaidTab
namespace Go.Proofs.YtkkgigdgbiklmaaDoor
open Go.ChangeShapes Go.WideShapes Go.RowKit

theorem g32 : Tryd.prog.globalNamed "math/bits.deBruijn32tab" = some 1 := by kernel_rfl
theorem t32 : (Tryd.prog.globals[1]?).map (·.type) = some 100 := by kernel_rfl
theorem gpow : Tryd.prog.globalNamed "internal/strconv.uint64pow10" = some 0 := by kernel_rfl
theorem tpow : (Tryd.prog.globals[0]?).map (·.type) = some 96 := by kernel_rfl
theorem laid_is {H : Type} : (Rows.laid_math_bits_deBruijn32tab : DataW H) = .agg (tab32.map fun (k : Nat) => .lit (.int .u8 (k : Int))) := rfl
theorem laid_pow {H : Type} : (Rows.laid_internal_strconv_uint64pow10 : DataW H) = Lib.tabData .u64 Lib.pow10Tab := rfl
set_option maxRecDepth 100000 in
theorem of_laid {W : World} {d2 : DataW Unit} {n2 : String} {rest : List (String × DataW Unit)} (h : laidMetH Tryd.prog (("math/bits.deBruijn32tab", Rows.laid_math_bits_deBruijn32tab) :: (n2, d2) :: ("internal/strconv.uint64pow10", Rows.laid_internal_strconv_uint64pow10) :: rest) W)
    (hp : ((("math/bits.deBruijn32tab", (Rows.laid_math_bits_deBruijn32tab : DataW Unit)) :: (n2, d2) :: ("internal/strconv.uint64pow10", Rows.laid_internal_strconv_uint64pow10) :: rest).all fun x => x.2.handleName?.isNone) = true := by kernel_rfl) : FW W := by
  rw [MakeChecks.laidMetH_plain _ _ _ hp] at h
  obtain ⟨ps, ⟨g0, t0, cs0, f0, p0, q0, hg0, ht0, hv0, hd0, ⟨g1, t1, cs1, f1, p1, q1, hg1, ht1, hv1, hd1, ⟨g2, t2, cs2, f2, p2, q2, hg2, ht2, hv2, hd2, _⟩, _⟩, _⟩, _⟩ := h
  refine ⟨?_, ?_⟩
  · obtain rfl := Option.some.inj (g32.symm.trans hg0)
    obtain rfl := Option.some.inj (t32.symm.trans ht0)
    rw [laid_is] at hd0
    obtain ⟨xs, m1, e1, hx1, hlen, hn, hel⟩ := DataW.trod_array Tryd.underlying100 hd0
    have c8 : Tryd.prog.cellsOf 5 = 1 := by kernel_rfl
    simp only [Prod.mk.injEq, DataW.agg.injEq] at hx1
    intro i hi
    have h1 := hel i hi
    rw [c8, Nat.mul_one, List.getElem?_eq_getElem (by omega)] at h1
    obtain ⟨k, e2, e3, _⟩ := DataW.trod_int Tryd.underlying5 h1
    have h2 : (xs.map (·.1))[i]? = some (.lit (.int .u8 k)) := by rw [List.getElem?_map, List.getElem?_eq_getElem (by omega), Option.map_some, e3]
    rw [← hx1.1, List.getElem?_map] at h2
    obtain ⟨y, hy, hyk⟩ := Option.map_eq_some_iff.1 h2
    have hk : k = (y : Int) := by injection hyk with hyk; injection hyk with _ hyk; exact hyk.symm
    have hgd : tab32.getD i 0 = y := by rw [List.getD_eq_getElem?_getD, hy]; rfl
    rw [hgd, ← hk, World.var?_cell hg0 hv0 i]
    have h3 : (cs0.toList.drop i)[0]? = some (.int .u8 k) := by
      have := congrArg (fun l => l[0]?) e2
      simpa [List.getElem?_take] using this
    rw [List.getElem?_drop] at h3
    simpa using h3
  · obtain rfl := Option.some.inj (gpow.symm.trans hg2)
    obtain rfl := Option.some.inj (tpow.symm.trans ht2)
    rw [laid_pow] at hd2
    unfold Lib.TabIs
    rw [hv2, ← Lib.cells_of_tab Tryd.underlying96 Tryd.underlying40 (by kernel_rfl) (by kernel_rfl) hd2]
end Go.Proofs.YtkkgigdgbiklmaaDoor
