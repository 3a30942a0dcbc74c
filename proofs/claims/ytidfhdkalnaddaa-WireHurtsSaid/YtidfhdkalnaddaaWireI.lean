/- Get: heads that are none. -/
import Derived.Test.YtidfhdkalnaddaaWireH
import Derived.Test.YtidfhdkalnaddaaCheckI
namespace Go.Proofs.Ytidfhdkalnaddaa
open Go.RowKit

set_option maxRecDepth 100000 in
set_option maxHeartbeats 2000000 in
theorem get_badhead (A : Option Addr) (l : List Nat) (n c : Nat) (W : World) (hl : l.length = n) (hn : n ≤ 1000000) (hc : n ≤ c) (hB : Bts W A l) (ho : openB l = true) (hh : headOK (l.take (n - 4)) = false) :
    Calls Try.prog 10 #[.slice A n c] W fun e w' => e = .returned (.tuple #[noneV, .bool false]) ∧ Below W.heap.size W w' := by
  have HB := Lib.hid hB
  have HB0 : Hid (Below W.heap.size W (W.alloc (.cells #[.int .i64 0, .int .i64 0, .bool false, .int .u64 0, .int .u64 0, .slice none 0 0] 25))) := Lib.hid ((Below.refl _ W).alloc (Nat.le_refl _) _)
  have hX := Blkf.new_at W 25 (0, 0) #[.int .i64 0, .int .i64 0, .bool false, .int .u64 0, .int .u64 0, .slice none 0 0] rfl
  have HX := Lib.hid hX
  obtain ⟨m, hm⟩ : ∃ m, m = n - 4 := ⟨_, rfl⟩
  have h4 : 4 ≤ l.length := by
    unfold openB at ho
    simp at ho
    exact ho.1
  obtain ⟨B, hBd⟩ : ∃ B, B = l.take m := ⟨_, rfl⟩
  have HBD := Lib.hid hBd
  rw [← hm, ← hBd] at hh
  have hml : B.length = m := by rw [hBd, List.length_take]; omega
  have HML := Lib.hid hml
  have hmb : m ≤ 1000000 := by omega
  clear hml
  have HMM := Lib.hid hm
  clear hB hX h4 hBd
  go_enter Try.func10, Try.ntmps10
  go_wp2_with fail
  refine wp_scope_jumps 0 (AtNone W W.heap.size) (fun _ _ => 0) rfl ?_ ?_
  · go_wp2_with fail
    refine (open_yes A l n c _ hl (by omega) hc (bts_below HB.out HB0.out) ho).mono ?_
    rintro e w1 ⟨v, rfl, hO, hb1⟩
    rw [← hm, ← HBD.out] at hO
    clear hm
    obtain ⟨A1, c1, rfl⟩ := row_form hO
    have hcap := own_cap hO
    have HB1 := Lib.hid (HB0.out.trans (hb1.mono HB0.out.size))
    have hX1 := HX.out.below hb1 HX.out.lt
    have HX1 := Lib.hid hX1
    have HBT : Hid (Bts w1 A1 B) := Lib.hid (by
      obtain ⟨A', c', e', h', -⟩ := bts_own hO (fun i => by rw [HBD.out]; exact getD_take_lt l m i HB.out.1) HML.out.symm
      injection e' with e'
      rw [e']
      exact h')
    have HO := Lib.hid hO
    clear hb1 hX1 hO
    rcases (show m < 23 ∨ (23 ≤ m ∧ B.getD 0 0 ≠ 82) ∨ (23 ≤ m ∧ B.getD 0 0 = 82 ∧ B.getD 1 0 ≠ 82) ∨ (23 ≤ m ∧ B.getD 0 0 = 82 ∧ B.getD 1 0 = 82 ∧ 1 < B.getD 2 0) by
      unfold headOK at hh
      rw [HML.out] at hh
      simp only [Bool.and_eq_false_iff, decide_eq_false_iff_not, beq_eq_false_iff_ne, ne_eq] at hh
      omega) with h | ⟨h, h0⟩ | ⟨h, h0, h1⟩ | ⟨h, h0, h1, h2⟩
    · clear hh
      go_wp2_with fail
      go_step3
      exact ⟨rfl, ⟨_, _, _, _, _, _, HX1.out⟩, Nat.le_refl _, HB1.out, _, _, _, _, _, _, _, _, _, _, _, _, _, _, _, _, _, _, _, _, _, _, _, _, _, _, _, _, _, _, _, _, _, _, _, _, _, _, _, _, _, _, _, _, _, _, _, _, _, _, _, _, _, _, _, _, _, _, _, _, _, _, _, _, _, _, _, _, _, _, _, _, _, _, _, _, _, _, _, _, _, _, _, rfl⟩
    · clear hh
      have e0 : (((B.getD 0 0 : Nat) : Int) != 82) = true := bne_iff_ne.2 (by omega)
      clear h0
      obtain ⟨k, cap, hv, hge, hlt⟩ := HO.out.form (by omega)
      injection hv with hv1 hv2 hv3
      subst hv1
      have hkg : k ≠ W.heap.size := by simp at hge; omega
      have HKG := Lib.hid hkg
      clear hge hlt hv2 hv3
      have c0 := bts_cell HBT.out 0 (by rw [HML.out]; omega)
      have c1' := bts_cell HBT.out 1 (by rw [HML.out]; omega)
      have c2 := bts_cell HBT.out 2 (by rw [HML.out]; omega)
      generalize B.getD 0 0 = x0 at *
      go_wp2_with fail
      go_step3
      exact ⟨rfl, ⟨_, _, _, _, _, _, HX1.out⟩, Nat.le_refl _, HB1.out, _, _, _, _, _, _, _, _, _, _, _, _, _, _, _, _, _, _, _, _, _, _, _, _, _, _, _, _, _, _, _, _, _, _, _, _, _, _, _, _, _, _, _, _, _, _, _, _, _, _, _, _, _, _, _, _, _, _, _, _, _, _, _, _, _, _, _, _, _, _, _, _, _, _, _, _, _, _, _, _, _, _, _, rfl⟩
    · clear hh
      have e1 : (((B.getD 1 0 : Nat) : Int) != 82) = true := bne_iff_ne.2 (by omega)
      clear h1
      obtain ⟨k, cap, hv, hge, hlt⟩ := HO.out.form (by omega)
      injection hv with hv1 hv2 hv3
      subst hv1
      have hkg : k ≠ W.heap.size := by simp at hge; omega
      have HKG := Lib.hid hkg
      clear hge hlt hv2 hv3
      have c0 := bts_cell HBT.out 0 (by rw [HML.out]; omega)
      have c1' := bts_cell HBT.out 1 (by rw [HML.out]; omega)
      have c2 := bts_cell HBT.out 2 (by rw [HML.out]; omega)
      rw [h0] at c0
      clear h0
      generalize B.getD 1 0 = x1 at *
      go_wp2_with fail
      go_step3
      exact ⟨rfl, ⟨_, _, _, _, _, _, HX1.out⟩, Nat.le_refl _, HB1.out, _, _, _, _, _, _, _, _, _, _, _, _, _, _, _, _, _, _, _, _, _, _, _, _, _, _, _, _, _, _, _, _, _, _, _, _, _, _, _, _, _, _, _, _, _, _, _, _, _, _, _, _, _, _, _, _, _, _, _, _, _, _, _, _, _, _, _, _, _, _, _, _, _, _, _, _, _, _, _, _, _, _, _, rfl⟩
    · clear hh
      have e2 : (1 : Int) < ((B.getD 2 0 : Nat) : Int) := by omega
      clear h2
      obtain ⟨k, cap, hv, hge, hlt⟩ := HO.out.form (by omega)
      injection hv with hv1 hv2 hv3
      subst hv1
      have hkg : k ≠ W.heap.size := by simp at hge; omega
      have HKG := Lib.hid hkg
      clear hge hlt hv2 hv3
      have c0 := bts_cell HBT.out 0 (by rw [HML.out]; omega)
      have c1' := bts_cell HBT.out 1 (by rw [HML.out]; omega)
      have c2 := bts_cell HBT.out 2 (by rw [HML.out]; omega)
      rw [h0] at c0
      rw [h1] at c1'
      clear h0 h1
      generalize B.getD 2 0 = x2 at *
      go_wp2_with fail
      go_step3
      exact ⟨rfl, ⟨_, _, _, _, _, _, HX1.out⟩, Nat.le_refl _, HB1.out, _, _, _, _, _, _, _, _, _, _, _, _, _, _, _, _, _, _, _, _, _, _, _, _, _, _, _, _, _, _, _, _, _, _, _, _, _, _, _, _, _, _, _, _, _, _, _, _, _, _, _, _, _, _, _, _, _, _, _, _, _, _, _, _, _, _, _, _, _, _, _, _, _, _, _, _, _, _, _, _, _, _, _, rfl⟩
  · rintro a w ⟨⟨c0, c1, c2, c3, c4, c5, hX⟩, hg, hb, u0, u1, u3, u4, u5, u6, u7, u8, u9, u10, u11, u12, u13, u14, u15, u16, u17, u18, u19, u20, u21, u22, u23, u24, u25, u26, u27, u28, u29, u30, u31, u32, u33, u34, u35, u36, u37, u38, u39, u40, u41, u42, u43, u44, u45, u46, u47, u48, u49, u50, u51, u52, u53, u54, u55, u56, u57, u58, u59, u60, u61, u62, u63, u64, u65, u66, u67, u68, u69, u70, u71, u72, u73, u74, u75, u76, u77, u78, u79, u80, u81, u82, u83, rfl⟩
    have xl := hX.lt
    have x0 := hX.cell 0
    have x1 := hX.cell 1
    have x2 := hX.cell 2
    have x3 := hX.cell 3
    have x4 := hX.cell 4
    have x5 := hX.cell 5
    have xf := fun i => hX.frozen i
    have HB2 := Lib.hid hb
    have HX2 := Lib.hid hX
    clear hb hX
    go_wp2
    have hZ := ((((((HX2.out.set_ 0 (.int .i64 0)).set_ 1 (.int .i64 0)).set_ 2 (.bool false)).set_ 3 (.int .u64 0)).set_ 4 (.int .u64 0)).set_ 5 (.slice none 0 0))
    have z0 := hZ.cell 0
    have z1 := hZ.cell 1
    have z2 := hZ.cell 2
    have z3 := hZ.cell 3
    have z4 := hZ.cell 4
    have z5 := hZ.cell 5
    have hBZ := (((((HB2.out.setCell (p := ⟨W.heap.size, 0, none⟩) (Nat.le_refl _) (.int .i64 0)).setCell (p := ⟨W.heap.size, 1, none⟩) (Nat.le_refl _) (.int .i64 0)).setCell (p := ⟨W.heap.size, 2, none⟩) (Nat.le_refl _) (.bool false)).setCell (p := ⟨W.heap.size, 3, none⟩) (Nat.le_refl _) (.int .u64 0)).setCell (p := ⟨W.heap.size, 4, none⟩) (Nat.le_refl _) (.int .u64 0)).setCell (p := ⟨W.heap.size, 5, none⟩) (Nat.le_refl _) (.slice none 0 0)
    simp only [Exit.jump]
    refine bodyPost_ret (v := .tuple #[noneV, .bool false]) (by simp [results, Try.results10, go_sem, noneV, frV, z0, z1, z2, z3, z4, z5]) rfl ⟨rfl, hBZ⟩
end Go.Proofs.Ytidfhdkalnaddaa
