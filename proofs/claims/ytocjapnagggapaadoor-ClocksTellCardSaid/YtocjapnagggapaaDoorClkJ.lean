/- covers, Last: the walk. -/
import Derived.Test.YtocjapnagggapaaDoorClkI
namespace Go.Proofs.YtocjapnagggapaaDoor
open Go.RowKit Go.ChangeShapes

def offN (x : Fc) (a : Nat) : Nat := (a + 18446744073709551616 - x.addr) % 18446744073709551616
def covB (x : Fc) (a : Nat) : Bool := x.lays && decide (offN x a < x.sz)
theorem covers_any (cs : Array Value) (x : Fc) (a : Nat) (W : World) (ha : a < 18446744073709551616) (h : FcAt cs x) :
    Calls Tryd.prog 19 #[.agg cs, .int .u64 (a : Int)] W fun e w' => e = .returned (.bool (covB x a)) ∧ Ext W w' := by
  have hb : Blk (W.alloc (.cells cs 40)) W.heap.size 40 cs := Blkf.new_at _ _ _ _ rfl
  have HE := Lib.hid (ext_alloc' W (.cells cs 40))
  have HX := Lib.hid h
  have hsub : IntKind.u64.wrap ((a : Int) - (x.addr : Int)) = (offN x a : Int) := by have := h.lt; rw [IntKind.wrap_u64]; unfold offN; omega
  clear h
  go_enter Tryd.func19, Tryd.ntmps19
  go_wp2_with fail
  generalize W.alloc (.cells cs 40) = w1 at *
  have s1 : ∀ W', Ext w1.drew W' → W'.rangeAt W.heap.size 0 cs.toList := fun W' h => (Blkf.below hb.drew h hb.lt).range
  have s2 : ∀ W', Ext w1.drew W' → W'.cell? ⟨W.heap.size, 12, none⟩ = some (.int .u64 (x.addr : Int)) := fun W' h => (h.cell (p := ⟨W.heap.size, 12, none⟩) hb.lt).trans ((hb.drew.cell 12).trans HX.out.addr)
  clear hb
  cases hl : x.lays with
  | false =>
    refine wp_region_plan [(0, false), (1, true), (2, false), (3, false), (4, false), (5, false), (6, false), (7, false), (8, false), (9, false), (10, false), (11, false), (12, false)] (by kernel_rfl) (by kernel_rfl) (fun _ d _ _ _ h => by cases d <;> exact h) ?_
    refine plan_take (v := .agg cs) rfl (by kernel_rfl) (fun w' hw' => run_load_op 40 (.tmp 2) rfl W.heap.size 0 _ rfl (s1 w' hw') HX.out.row) ?_
    simp only [Act.put, List.setIfInBounds_toArray, List.set_cons_zero, List.set_cons_succ]
    refine plan_call rfl (by kernel_rfl) (by go_simp; exact ⟨rfl, rfl⟩) ?_
    refine (lays_any cs x w1.drew HX.out).mono ?_
    rintro e w2 ⟨rfl, hw2⟩
    have he2 : Ext w1.drew w2 := by rw [← hw2]; exact ext_alloc' _ _
    refine ⟨_, rfl, he2, ?_⟩
    simp only [Act.put, List.setIfInBounds_toArray, List.set_cons_zero, List.set_cons_succ]
    rw [hl]
    have HE2 : Hid (Ext W w2) := Lib.hid (Ext.trans (show Ext W w1.drew from HE.out.drew) he2)
    clear s1 s2 he2 hw2 HE
    iterate 1 (refine plan_take (v := ?_) rfl (by kernel_rfl) ?_ ?_; rotate_left; (focus (intro w' hw'; try go_simp; try with_reducible rfl)); simp only [Act.put, List.setIfInBounds_toArray, List.set_cons_zero, List.set_cons_succ])
    iterate 8 (refine plan_skip rfl (by kernel_rfl) ?_; simp only [Act.put, List.setIfInBounds_toArray, List.set_cons_zero, List.set_cons_succ])
    iterate 2 (refine plan_take (v := ?_) rfl (by kernel_rfl) ?_ ?_; rotate_left; (focus (intro w' hw'; try go_simp; try with_reducible rfl)); simp only [Act.put, List.setIfInBounds_toArray, List.set_cons_zero, List.set_cons_succ])
    refine plan_end ?_
    go_wp2_with fail
    go_ret
    exact ⟨by rw [show covB x a = (x.lays && decide (offN x a < x.sz)) from rfl, hl, Bool.false_and]; rfl, HE2.out⟩
  | true =>
    refine wp_region_plan [(0, false), (1, true), (2, false), (3, false), (4, false), (5, false), (6, false), (7, false), (8, false), (9, true), (10, false), (11, false), (12, false)] (by kernel_rfl) (by kernel_rfl) (fun _ d _ _ _ h => by cases d <;> exact h) ?_
    refine plan_take (v := .agg cs) rfl (by kernel_rfl) (fun w' hw' => run_load_op 40 (.tmp 2) rfl W.heap.size 0 _ rfl (s1 w' hw') HX.out.row) ?_
    simp only [Act.put, List.setIfInBounds_toArray, List.set_cons_zero, List.set_cons_succ]
    refine plan_call rfl (by kernel_rfl) (by go_simp; exact ⟨rfl, rfl⟩) ?_
    refine (lays_any cs x w1.drew HX.out).mono ?_
    rintro e w2 ⟨rfl, hw2⟩
    have he2 : Ext w1.drew w2 := by rw [← hw2]; exact ext_alloc' _ _
    refine ⟨_, rfl, he2, ?_⟩
    simp only [Act.put, List.setIfInBounds_toArray, List.set_cons_zero, List.set_cons_succ]
    rw [hl]
    have HE2 : Hid (Ext W w2) := Lib.hid (Ext.trans (show Ext W w1.drew from HE.out.drew) he2)
    have t1 : ∀ W', Ext w2 W' → W'.rangeAt W.heap.size 0 cs.toList := fun W' h => s1 W' (he2.trans h)
    have t2 := fun W' (h : Ext w2 W') => s2 W' (he2.trans h)
    clear s1 s2 he2 hw2 HE
    iterate 6 (refine plan_take (v := ?_) rfl (by kernel_rfl) ?_ ?_; rotate_left; (focus (intro w' hw'; try go_simp; try with_reducible rfl)); simp only [Act.put, List.setIfInBounds_toArray, List.set_cons_zero, List.set_cons_succ])
    refine plan_take (v := .agg cs) rfl (by kernel_rfl) (fun w' hw' => run_load_op 40 (.tmp 2) rfl W.heap.size 0 _ rfl (t1 w' hw') HX.out.row) ?_
    simp only [Act.put, List.setIfInBounds_toArray, List.set_cons_zero, List.set_cons_succ]
    refine plan_call rfl (by kernel_rfl) (by go_simp; exact ⟨rfl, rfl⟩) ?_
    refine (size_any cs x w2 HX.out).mono ?_
    rintro e w3 ⟨rfl, hw3⟩
    have he3 : Ext w2 w3 := by rw [← hw3]; exact ext_alloc' _ _
    refine ⟨_, rfl, he3, ?_⟩
    simp only [Act.put, List.setIfInBounds_toArray, List.set_cons_zero, List.set_cons_succ]
    have HE3 : Hid (Ext W w3) := Lib.hid (Ext.trans HE2.out he3)
    clear t1 t2 he3 hw3 HE2 hsub
    have HC : Hid (covB x a = decide (offN x a < x.sz)) := Lib.hid (by rw [show covB x a = (x.lays && decide (offN x a < x.sz)) from rfl, hl, Bool.true_and])
    generalize offN x a = d at *
    iterate 3 (refine plan_take (v := ?_) rfl (by kernel_rfl) ?_ ?_; rotate_left; (focus (intro w' hw'; try go_simp; try with_reducible rfl)); simp only [Act.put, List.setIfInBounds_toArray, List.set_cons_zero, List.set_cons_succ])
    refine plan_end ?_
    go_wp2_with fail
    go_ret
    exact ⟨by rw [HC.out]; simp, HE3.out⟩
/-- The last fact of the first n that lays a byte. -/
def lastN (f : Nat → Fc) (a : Nat) : Nat → Int
  | 0 => -1
  | n + 1 => if covB (f n) a then (n : Int) else lastN f a n
theorem last_any (A : Option Addr) (len cap : Nat) (C : Nat → Array Value) (f : Nat → Fc) (a : Nat) (W : World) (hl : len ≤ 1000) (ha : a < 18446744073709551616) (h : FsAt W A len C f) :
    Calls Tryd.prog 14 #[.slice A len cap, .int .u64 (a : Int)] W fun e w' => e = .returned (.int .i64 (lastN f a len)) ∧ Ext W w' := by
  have HFS := Lib.hid h
  have hw : IntKind.i64.wrap ((len : Int) - 1) = (len : Int) - 1 := by rw [IntKind.wrap_i64]; omega
  clear h
  go_enter Tryd.func14, Tryd.ntmps14
  go_wp2_with fail
  go_loopw [5] (fun i wr => ∃ n : Nat, n ≤ len ∧ i = .int .i64 ((n : Int) - 1) ∧ lastN f a len = lastN f a n ∧ Ext W wr) (fun i _ => (intOf i + 1).toNat)
  case atStart => exact ⟨len, Nat.le_refl _, rfl, rfl, Below.refl _ _⟩
  case round =>
    obtain ⟨n, hn, rfl, he, hE⟩ := hrel
    have HE := Lib.hid hE
    have HL := Lib.hid he
    clear hE he
    match n, hn, HL with
    | 0, hn, HL =>
      have h0 : ¬ (0 : Int) ≤ ((0 : Nat) : Int) - 1 := by decide
      go_wp2_with fail
      go_ret
      exact ⟨by rw [HL.out]; rfl, HE.out⟩
    | m + 1, hn, HL =>
      rw [show (((m + 1 : Nat) : Int) - 1) = (m : Int) by omega]
      obtain ⟨b, o, rfl, hbl, hcc⟩ := HFS.out (by omega)
      obtain ⟨hrg, hfc⟩ := hcc m (by omega)
      have HC := Lib.hid hfc
      have HRG : Hid (wr.rangeAt b (o + m * 16) (C m).toList) := Lib.hid (fun j v hj => (HE.out.cell (p := ⟨b, o + m * 16 + j, none⟩) hbl).trans (hrg j v hj))
      have hm0 : (0 : Int) ≤ (m : Int) := by omega
      have hml : (m : Int) < (len : Int) := by omega
      clear hbl hcc hrg hfc hw
      go_wp2_with (first | ((with_reducible refine wl_load 40 (.tmp 15) rfl ?_ b (o + m * 16) (C m) ?_ HRG.out ?_ ?_); exact rfl; exact rfl; exact HC.out.row))
      refine (covers_any (C m) (f m) a _ ha HC.out).mono ?_
      rintro e w2 ⟨rfl, hx⟩
      have HE2 := Lib.hid (HE.out.trans hx)
      clear hx
      cases hc : covB (f m) a with
      | true =>
        go_wp2_with fail
        go_ret
        exact ⟨by rw [HL.out, lastN, if_pos hc]; rfl, HE2.out⟩
      | false =>
        have hw2 : IntKind.i64.wrap ((m : Int) - 1) = (m : Int) - 1 := by rw [IntKind.wrap_i64]; omega
        go_wp2_with fail
        go_roundw
        case rel => exact ⟨m, by omega, rfl, by rw [HL.out, lastN, if_neg (by rw [hc]; decide)], HE2.out⟩
        case measure => simp [intOf] <;> omega
end Go.Proofs.YtocjapnagggapaaDoor
