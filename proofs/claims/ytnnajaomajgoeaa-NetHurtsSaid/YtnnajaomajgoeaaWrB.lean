/- Merged texts: WireG, WireH, WireI, WireJ, WireK. -/
import Derived.Test.YtnnajaomajgoeaaWrA
import Derived.WalkMore
import Derived.ScopeJumps
import Derived.Test.YtnnajaomajgoeaaSep
import Derived.Test.YtnnajaomajgoeaaPlanT
import Derived.Test.YtnnajaomajgoeaaPlanI
/- Get. -/
namespace Go.Proofs.Ytnnajaomajgoeaa
open Go.RowKit

/-- No frame. -/
def noneV : Value := frV 0 0 false 0 0 none 0 0
/-- What holds at the jump to 'none'. -/
def AtNone (W : World) (g : Nat) (a : Act) (w : World) : Prop := (∃ c0 c1 c2 c3 c4 c5, Blk w g 59 #[c0, c1, c2, c3, c4, c5]) ∧ W.heap.size ≤ g ∧ Below W.heap.size W w ∧
  ∃ u0 u1 u3 u4 u5 u6 u7 u8 u9 u10 u11 u12 u13 u14 u15 u16 u17 u18 u19 u20 u21 u22 u23 u24 u25 u26 u27 u28 u29 u30 u31 u32 u33 u34 u35 u36 u37 u38 u39 u40 u41 u42 u43 u44 u45 u46 u47 u48 u49 u50 u51 u52 u53 u54 u55 u56 u57 u58 u59 u60 u61 u62 u63 u64 u65 u66 u67 u68 u69 u70 u71 u72 u73 u74 u75 u76 u77 u78 u79 u80 u81 u82 u83 : Value, a = { tmps := #[u0, u1, (.pointer (some ⟨g, 0, none⟩) : Value), u3, u4, u5, u6, u7, u8, u9, u10, u11, u12, u13, u14, u15, u16, u17, u18, u19, u20, u21, u22, u23, u24, u25, u26, u27, u28, u29, u30, u31, u32, u33, u34, u35, u36, u37, u38, u39, u40, u41, u42, u43, u44, u45, u46, u47, u48, u49, u50, u51, u52, u53, u54, u55, u56, u57, u58, u59, u60, u61, u62, u63, u64, u65, u66, u67, u68, u69, u70, u71, u72, u73, u74, u75, u76, u77, u78, u79, u80, u81, u82, u83], defers := [] }
set_option maxRecDepth 100000 in
set_option maxHeartbeats 2000000 in
theorem get_closed (A : Option Addr) (l : List Nat) (n c : Nat) (W : World) (hl : l.length = n) (hn : n ≤ 1000000) (hc : n ≤ c) (hB : Bts W A l) (ho : openB l = false) :
    Calls Try.prog 23 #[.slice A n c] W fun e w' => e = .returned (.tuple #[noneV, .bool false]) ∧ Below W.heap.size W w' := by
  have HB := Lib.hid hB
  have HB0 : Hid (Below W.heap.size W (W.alloc (.cells #[.int .i64 0, .int .i64 0, .bool false, .int .u64 0, .int .u64 0, .slice none 0 0] 59))) := Lib.hid ((Below.refl _ W).alloc (Nat.le_refl _) _)
  have hX := Blkf.new_at W 59 (0, 0) #[.int .i64 0, .int .i64 0, .bool false, .int .u64 0, .int .u64 0, .slice none 0 0] rfl
  have HX := Lib.hid hX
  clear hB hX
  go_enter Try.func23, Try.ntmps23
  go_wp2_with fail
  refine wp_scope_jumps 0 (AtNone W W.heap.size) (fun _ _ => 0) rfl ?_ ?_
  · go_wp2_with fail
    refine (open_no A l n c _ hl (by omega) hc (bts_below HB.out HB0.out) ho).mono ?_
    rintro e w1 ⟨rfl, hb1⟩
    have HB1 := Lib.hid (HB0.out.trans (hb1.mono HB0.out.size))
    have hX1 := HX.out.below hb1 HX.out.lt
    have HX1 := Lib.hid hX1
    clear hb1 hX1
    go_wp2_with fail
    go_step3
    exact ⟨rfl, ⟨_, _, _, _, _, _, HX1.out⟩, Nat.le_refl _, HB1.out, _, _, _, _, _, _, _, _, _, _, _, _, _, _, _, _, _, _, _, _, _, _, _, _, _, _, _, _, _, _, _, _, _, _, _, _, _, _, _, _, _, _, _, _, _, _, _, _, _, _, _, _, _, _, _, _, _, _, _, _, _, _, _, _, _, _, _, _, _, _, _, _, _, _, _, _, _, _, _, _, _, _, _, rfl⟩
  · rintro a w ⟨⟨c0, c1, c2, c3, c4, c5, hX⟩, hg, hb, u0, u1, u3, u4, u5, u6, u7, u8, u9, u10, u11, u12, u13, u14, u15, u16, u17, u18, u19, u20, u21, u22, u23, u24, u25, u26, u27, u28, u29, u30, u31, u32, u33, u34, u35, u36, u37, u38, u39, u40, u41, u42, u43, u44, u45, u46, u47, u48, u49, u50, u51, u52, u53, u54, u55, u56, u57, u58, u59, u60, u61, u62, u63, u64, u65, u66, u67, u68, u69, u70, u71, u72, u73, u74, u75, u76, u77, u78, u79, u80, u81, u82, u83, rfl⟩
    have xl := hX.lt
    have x0 := hX.cell 0
    have x1 := hX.cell 1
    have x2 := hX.cell 2
    have x3 := hX.cell 3
    have x4 := hX.cell 4
    have x5 := hX.cell 5
    have xf := fun i => hX.frozen i
    have HB2 := Lib.hid hb
    have HX2 := Lib.hid hX
    clear hb hX
    go_wp2
    have hZ := ((((((HX2.out.set_ 0 (.int .i64 0)).set_ 1 (.int .i64 0)).set_ 2 (.bool false)).set_ 3 (.int .u64 0)).set_ 4 (.int .u64 0)).set_ 5 (.slice none 0 0))
    have z0 := hZ.cell 0
    have z1 := hZ.cell 1
    have z2 := hZ.cell 2
    have z3 := hZ.cell 3
    have z4 := hZ.cell 4
    have z5 := hZ.cell 5
    have hBZ := (((((HB2.out.setCell (p := ⟨W.heap.size, 0, none⟩) (Nat.le_refl _) (.int .i64 0)).setCell (p := ⟨W.heap.size, 1, none⟩) (Nat.le_refl _) (.int .i64 0)).setCell (p := ⟨W.heap.size, 2, none⟩) (Nat.le_refl _) (.bool false)).setCell (p := ⟨W.heap.size, 3, none⟩) (Nat.le_refl _) (.int .u64 0)).setCell (p := ⟨W.heap.size, 4, none⟩) (Nat.le_refl _) (.int .u64 0)).setCell (p := ⟨W.heap.size, 5, none⟩) (Nat.le_refl _) (.slice none 0 0)
    simp only [Exit.jump]
    refine bodyPost_ret (v := .tuple #[noneV, .bool false]) (by simp [results, Try.results23, go_sem, noneV, frV, z0, z1, z2, z3, z4, z5]) rfl ⟨rfl, hBZ⟩
end Go.Proofs.Ytnnajaomajgoeaa

/- Get: the fields. -/
namespace Go.Proofs.Ytnnajaomajgoeaa
open Go.RowKit

theorem later_keeps (F : Nat → Prop) : Later (Keeps F) := ⟨Keeps.refl F, Keeps.same⟩
theorem bts_apart {w w' : World} {F : Nat → Prop} {g o : Nat} {l : List Nat} (h : Bts w (some ⟨g, o, none⟩) l) (hk : Keeps F w w') (hg : ¬ F g) : Bts w' (some ⟨g, o, none⟩) l := by
  refine ⟨h.1, fun hl => ?_⟩
  obtain ⟨b, o', e, hc⟩ := h.2 hl
  injection e with e; injection e with e1 e2; subst e1 e2
  refine ⟨_, _, rfl, fun i hi => ?_⟩
  have := cell_lt (hc i hi)
  rw [← hc i hi]
  have hb := hk.block g this hg
  simp only [World.cell?, hb]
theorem get_at (A : Option Addr) (l : List Nat) (n c : Nat) (a s : Int) (w : World) (hl : l.length = n) (hn : n ≤ 9223372036854775807) (hB : Bts w A l) (ht : thereB n a s = true) :
    Calls Try.prog 39 #[.slice A n c, .int .i64 a, .int .i64 s] w fun e w' => e = .returned (.tuple #[.int .u64 (getV l a s), .bool true]) ∧ w = w' := by
  subst hl; exact get_yes A l c a s w hn hB ht
/-- The fields of an opened text. -/
def fF (B : List Nat) : Nat := B.getD 3 0
def fT (B : List Nat) : Nat := B.getD 4 0
def fB (B : List Nat) : Bool := B.getD 2 0 == 1
def fS (B : List Nat) : Nat := leNat ((B.drop 5).take 8)
def fA (B : List Nat) : Nat := leNat ((B.drop 13).take 8)
def fZ (B : List Nat) : Nat := leNat ((B.drop 21).take 2)
def headOK (B : List Nat) : Bool := decide (23 ≤ B.length) && B.getD 0 0 == 82 && B.getD 1 0 == 82 && decide (B.getD 2 0 ≤ 1)
def bodyOK (B : List Nat) : Bool := fZ B == B.length - 23 && rightF (fF B) (fT B) (fB B) (fS B) (B.length - 23)
def frameB (l : List Nat) : Bool := openB l && headOK (l.take (l.length - 4)) && bodyOK (l.take (l.length - 4))
theorem head_cases {B : List Nat} (h : headOK B = true) : 23 ≤ B.length ∧ B.getD 0 0 = 82 ∧ B.getD 1 0 = 82 ∧ B.getD 2 0 ≤ 1 := by
  simp [headOK] at h
  exact ⟨h.1.1.1, by simpa using h.1.1.2, by simpa using h.1.2, by simpa using h.2⟩
/-- Three stores into one block that wait for nothing: any order. -/
theorem pt_done {P : Program} {ops : Array Oper} {Q : Exit → Act → World → Prop} {R : World → World → Prop} {a : Act} {w : World} (S : World → Prop) {t : PT}
    (hS : ∀ w', S w' → Q .normal a w') (h : (∀ w', S w' → wpPT R P ops Q .done a w') → wpPT R P ops Q t a w) : wpPT R P ops Q t a w := h fun w' h' => hS w' h'
theorem bts_cell {w : World} {b : Nat} {l : List Nat} (h : Bts w (some ⟨b, 0, none⟩) l) (i : Nat) (hi : i < l.length) : w.cell? ⟨b, i, none⟩ = some (.int .u8 ((l.getD i 0 : Nat) : Int)) := by
  obtain ⟨b', o', e, hc⟩ := h.2 (by omega)
  injection e with e; injection e with e1 e2; subst e1 e2
  simpa using hc i hi
end Go.Proofs.Ytnnajaomajgoeaa

/- Get: heads that are none. -/
namespace Go.Proofs.Ytnnajaomajgoeaa
open Go.RowKit

set_option maxRecDepth 100000 in
set_option maxHeartbeats 2000000 in
theorem get_badhead (A : Option Addr) (l : List Nat) (n c : Nat) (W : World) (hl : l.length = n) (hn : n ≤ 1000000) (hc : n ≤ c) (hB : Bts W A l) (ho : openB l = true) (hh : headOK (l.take (n - 4)) = false) :
    Calls Try.prog 23 #[.slice A n c] W fun e w' => e = .returned (.tuple #[noneV, .bool false]) ∧ Below W.heap.size W w' := by
  have HB := Lib.hid hB
  have HB0 : Hid (Below W.heap.size W (W.alloc (.cells #[.int .i64 0, .int .i64 0, .bool false, .int .u64 0, .int .u64 0, .slice none 0 0] 59))) := Lib.hid ((Below.refl _ W).alloc (Nat.le_refl _) _)
  have hX := Blkf.new_at W 59 (0, 0) #[.int .i64 0, .int .i64 0, .bool false, .int .u64 0, .int .u64 0, .slice none 0 0] rfl
  have HX := Lib.hid hX
  obtain ⟨m, hm⟩ : ∃ m, m = n - 4 := ⟨_, rfl⟩
  have h4 : 4 ≤ l.length := by
    unfold openB at ho
    simp at ho
    exact ho.1
  obtain ⟨B, hBd⟩ : ∃ B, B = l.take m := ⟨_, rfl⟩
  have HBD := Lib.hid hBd
  rw [← hm, ← hBd] at hh
  have hml : B.length = m := by rw [hBd, List.length_take]; omega
  have HML := Lib.hid hml
  have hmb : m ≤ 1000000 := by omega
  clear hml
  have HMM := Lib.hid hm
  clear hB hX h4 hBd
  go_enter Try.func23, Try.ntmps23
  go_wp2_with fail
  refine wp_scope_jumps 0 (AtNone W W.heap.size) (fun _ _ => 0) rfl ?_ ?_
  · go_wp2_with fail
    refine (open_yes A l n c _ hl (by omega) hc (bts_below HB.out HB0.out) ho).mono ?_
    rintro e w1 ⟨v, rfl, hO, hb1⟩
    rw [← hm, ← HBD.out] at hO
    clear hm
    obtain ⟨A1, c1, rfl⟩ := row_form hO
    have hcap := own_cap hO
    have HB1 := Lib.hid (HB0.out.trans (hb1.mono HB0.out.size))
    have hX1 := HX.out.below hb1 HX.out.lt
    have HX1 := Lib.hid hX1
    have HBT : Hid (Bts w1 A1 B) := Lib.hid (by
      obtain ⟨A', c', e', h', -⟩ := bts_own hO (fun i => by rw [HBD.out]; exact getD_take_lt l m i HB.out.1) HML.out.symm
      injection e' with e'
      rw [e']
      exact h')
    have HO := Lib.hid hO
    clear hb1 hX1 hO
    rcases (show m < 23 ∨ (23 ≤ m ∧ B.getD 0 0 ≠ 82) ∨ (23 ≤ m ∧ B.getD 0 0 = 82 ∧ B.getD 1 0 ≠ 82) ∨ (23 ≤ m ∧ B.getD 0 0 = 82 ∧ B.getD 1 0 = 82 ∧ 1 < B.getD 2 0) by
      unfold headOK at hh
      rw [HML.out] at hh
      simp only [Bool.and_eq_false_iff, decide_eq_false_iff_not, beq_eq_false_iff_ne, ne_eq] at hh
      omega) with h | ⟨h, h0⟩ | ⟨h, h0, h1⟩ | ⟨h, h0, h1, h2⟩
    · clear hh
      go_wp2_with fail
      go_step3
      exact ⟨rfl, ⟨_, _, _, _, _, _, HX1.out⟩, Nat.le_refl _, HB1.out, _, _, _, _, _, _, _, _, _, _, _, _, _, _, _, _, _, _, _, _, _, _, _, _, _, _, _, _, _, _, _, _, _, _, _, _, _, _, _, _, _, _, _, _, _, _, _, _, _, _, _, _, _, _, _, _, _, _, _, _, _, _, _, _, _, _, _, _, _, _, _, _, _, _, _, _, _, _, _, _, _, _, _, rfl⟩
    · clear hh
      have e0 : (((B.getD 0 0 : Nat) : Int) != 82) = true := bne_iff_ne.2 (by omega)
      clear h0
      obtain ⟨k, cap, hv, hge, hlt⟩ := HO.out.form (by omega)
      injection hv with hv1 hv2 hv3
      subst hv1
      have hkg : k ≠ W.heap.size := by simp at hge; omega
      have HKG := Lib.hid hkg
      clear hge hlt hv2 hv3
      have c0 := bts_cell HBT.out 0 (by rw [HML.out]; omega)
      have c1' := bts_cell HBT.out 1 (by rw [HML.out]; omega)
      have c2 := bts_cell HBT.out 2 (by rw [HML.out]; omega)
      generalize B.getD 0 0 = x0 at *
      go_wp2_with fail
      go_step3
      exact ⟨rfl, ⟨_, _, _, _, _, _, HX1.out⟩, Nat.le_refl _, HB1.out, _, _, _, _, _, _, _, _, _, _, _, _, _, _, _, _, _, _, _, _, _, _, _, _, _, _, _, _, _, _, _, _, _, _, _, _, _, _, _, _, _, _, _, _, _, _, _, _, _, _, _, _, _, _, _, _, _, _, _, _, _, _, _, _, _, _, _, _, _, _, _, _, _, _, _, _, _, _, _, _, _, _, _, rfl⟩
    · clear hh
      have e1 : (((B.getD 1 0 : Nat) : Int) != 82) = true := bne_iff_ne.2 (by omega)
      clear h1
      obtain ⟨k, cap, hv, hge, hlt⟩ := HO.out.form (by omega)
      injection hv with hv1 hv2 hv3
      subst hv1
      have hkg : k ≠ W.heap.size := by simp at hge; omega
      have HKG := Lib.hid hkg
      clear hge hlt hv2 hv3
      have c0 := bts_cell HBT.out 0 (by rw [HML.out]; omega)
      have c1' := bts_cell HBT.out 1 (by rw [HML.out]; omega)
      have c2 := bts_cell HBT.out 2 (by rw [HML.out]; omega)
      rw [h0] at c0
      clear h0
      generalize B.getD 1 0 = x1 at *
      go_wp2_with fail
      go_step3
      exact ⟨rfl, ⟨_, _, _, _, _, _, HX1.out⟩, Nat.le_refl _, HB1.out, _, _, _, _, _, _, _, _, _, _, _, _, _, _, _, _, _, _, _, _, _, _, _, _, _, _, _, _, _, _, _, _, _, _, _, _, _, _, _, _, _, _, _, _, _, _, _, _, _, _, _, _, _, _, _, _, _, _, _, _, _, _, _, _, _, _, _, _, _, _, _, _, _, _, _, _, _, _, _, _, _, _, _, rfl⟩
    · clear hh
      have e2 : (1 : Int) < ((B.getD 2 0 : Nat) : Int) := by omega
      clear h2
      obtain ⟨k, cap, hv, hge, hlt⟩ := HO.out.form (by omega)
      injection hv with hv1 hv2 hv3
      subst hv1
      have hkg : k ≠ W.heap.size := by simp at hge; omega
      have HKG := Lib.hid hkg
      clear hge hlt hv2 hv3
      have c0 := bts_cell HBT.out 0 (by rw [HML.out]; omega)
      have c1' := bts_cell HBT.out 1 (by rw [HML.out]; omega)
      have c2 := bts_cell HBT.out 2 (by rw [HML.out]; omega)
      rw [h0] at c0
      rw [h1] at c1'
      clear h0 h1
      generalize B.getD 2 0 = x2 at *
      go_wp2_with fail
      go_step3
      exact ⟨rfl, ⟨_, _, _, _, _, _, HX1.out⟩, Nat.le_refl _, HB1.out, _, _, _, _, _, _, _, _, _, _, _, _, _, _, _, _, _, _, _, _, _, _, _, _, _, _, _, _, _, _, _, _, _, _, _, _, _, _, _, _, _, _, _, _, _, _, _, _, _, _, _, _, _, _, _, _, _, _, _, _, _, _, _, _, _, _, _, _, _, _, _, _, _, _, _, _, _, _, _, _, _, _, _, rfl⟩
  · rintro a w ⟨⟨c0, c1, c2, c3, c4, c5, hX⟩, hg, hb, u0, u1, u3, u4, u5, u6, u7, u8, u9, u10, u11, u12, u13, u14, u15, u16, u17, u18, u19, u20, u21, u22, u23, u24, u25, u26, u27, u28, u29, u30, u31, u32, u33, u34, u35, u36, u37, u38, u39, u40, u41, u42, u43, u44, u45, u46, u47, u48, u49, u50, u51, u52, u53, u54, u55, u56, u57, u58, u59, u60, u61, u62, u63, u64, u65, u66, u67, u68, u69, u70, u71, u72, u73, u74, u75, u76, u77, u78, u79, u80, u81, u82, u83, rfl⟩
    have xl := hX.lt
    have x0 := hX.cell 0
    have x1 := hX.cell 1
    have x2 := hX.cell 2
    have x3 := hX.cell 3
    have x4 := hX.cell 4
    have x5 := hX.cell 5
    have xf := fun i => hX.frozen i
    have HB2 := Lib.hid hb
    have HX2 := Lib.hid hX
    clear hb hX
    go_wp2
    have hZ := ((((((HX2.out.set_ 0 (.int .i64 0)).set_ 1 (.int .i64 0)).set_ 2 (.bool false)).set_ 3 (.int .u64 0)).set_ 4 (.int .u64 0)).set_ 5 (.slice none 0 0))
    have z0 := hZ.cell 0
    have z1 := hZ.cell 1
    have z2 := hZ.cell 2
    have z3 := hZ.cell 3
    have z4 := hZ.cell 4
    have z5 := hZ.cell 5
    have hBZ := (((((HB2.out.setCell (p := ⟨W.heap.size, 0, none⟩) (Nat.le_refl _) (.int .i64 0)).setCell (p := ⟨W.heap.size, 1, none⟩) (Nat.le_refl _) (.int .i64 0)).setCell (p := ⟨W.heap.size, 2, none⟩) (Nat.le_refl _) (.bool false)).setCell (p := ⟨W.heap.size, 3, none⟩) (Nat.le_refl _) (.int .u64 0)).setCell (p := ⟨W.heap.size, 4, none⟩) (Nat.le_refl _) (.int .u64 0)).setCell (p := ⟨W.heap.size, 5, none⟩) (Nat.le_refl _) (.slice none 0 0)
    simp only [Exit.jump]
    refine bodyPost_ret (v := .tuple #[noneV, .bool false]) (by simp [results, Try.results23, go_sem, noneV, frV, z0, z1, z2, z3, z4, z5]) rfl ⟨rfl, hBZ⟩
end Go.Proofs.Ytnnajaomajgoeaa

/- Get: the fields. -/
namespace Go.Proofs.Ytnnajaomajgoeaa
open Go.RowKit

theorem bts_set {w : World} {g k o i : Nat} {l : List Nat} {v : Value} (h : Bts w (some ⟨k, o, none⟩) l) (hk : k ≠ g) : Bts (w.setCell ⟨g, i, none⟩ v) (some ⟨k, o, none⟩) l :=
  bts_apart h ((Keeps.refl (fun x => x = g) w).setCell (p := ⟨g, i, none⟩) (.inl rfl) v) hk
theorem there_in {m p q : Nat} (h : p + q ≤ m) (hp : p ≤ m) (hq : sizeB q = true) : thereB m (p : Int) (q : Int) = true := by
  unfold thereB
  rw [hq, decide_eq_true (by omega : (0 : Int) ≤ p), decide_eq_true (by omega : (p : Int) ≤ m), decide_eq_true (by omega : (q : Int) ≤ m - p)]
  rfl
theorem field_lt (B : List Nat) (p q : Nat) (h : ∀ i : Nat, B.getD i 0 < 256) : leNat ((B.drop p).take q) < 256 ^ q := leNat_take_lt (B.drop p) q (fun i => getD_drop_lt B p h i)
theorem beq_one (x : Nat) : (x == 1) = (((x : Nat) : Int) == 1) := by
  by_cases h : x = 1
  · subst h; rfl
  · rw [beq_eq_false_iff_ne.2 h, beq_eq_false_iff_ne.2 (show ((x : Nat) : Int) ≠ 1 by omega)]
theorem Keeps.drews {F : Nat → Prop} {w w' : World} (h : Keeps F w w') : Keeps F w.drew w'.drew := ⟨h.os, h.tape, h.output, h.size, h.block⟩
theorem keeps_cell {F : Nat → Prop} {w w' : World} {p : Addr} {v : Value} (h : Keeps F w w') (hc : w.cell? p = some v) (hF : ¬ F p.block) : w'.cell? p = some v := by
  rw [World.cell?_of_block (h.block p.block (cell_lt hc) hF)]
  exact hc
def GetR (B : List Nat) (W : World) (e : Ending) (w' : World) : Prop :=
  Below W.heap.size W w' ∧ if bodyOK B then ∃ A' c', e = .returned (.tuple #[frV (fF B) (fT B) (fB B) (fS B) (fA B) A' (B.length - 23) c', .bool true]) ∧ Bts w' A' (B.drop 23)
  else e = .returned (.tuple #[noneV, .bool false])
set_option maxRecDepth 100000 in
set_option maxHeartbeats 2000000 in
theorem get_head (A : Option Addr) (l : List Nat) (n c : Nat) (W : World) (hl : l.length = n) (hn : n ≤ 1000000) (hc : n ≤ c) (hB : Bts W A l) (ho : openB l = true) (hh : headOK (l.take (n - 4)) = true) :
    Calls Try.prog 23 #[.slice A n c] W (GetR (l.take (n - 4)) W) := by
  have HB := Lib.hid hB
  have HB0 : Hid (Below W.heap.size W (W.alloc (.cells #[.int .i64 0, .int .i64 0, .bool false, .int .u64 0, .int .u64 0, .slice none 0 0] 59))) := Lib.hid ((Below.refl _ W).alloc (Nat.le_refl _) _)
  have hX := Blkf.new_at W 59 (0, 0) #[.int .i64 0, .int .i64 0, .bool false, .int .u64 0, .int .u64 0, .slice none 0 0] rfl
  have HX := Lib.hid hX
  obtain ⟨m, hm⟩ : ∃ m, m = n - 4 := ⟨_, rfl⟩
  have h4 : 4 ≤ l.length := by
    unfold openB at ho
    simp at ho
    exact ho.1
  obtain ⟨B, hBd⟩ : ∃ B, B = l.take m := ⟨_, rfl⟩
  have HBD := Lib.hid hBd
  rw [← hm, ← hBd] at hh
  have hml : B.length = m := by rw [hBd, List.length_take]; omega
  have HML := Lib.hid hml
  have hmb : m ≤ 1000000 := by omega
  obtain ⟨h23, h0, h1, h2⟩ := head_cases hh
  have hm23 : 23 ≤ m := by omega
  clear hml h23 hh
  have HMM := Lib.hid hm
  clear hB hX h4 hBd
  go_enter Try.func23, Try.ntmps23
  go_wp2_with fail
  refine wp_scope_jumps 0 (fun _ _ => False) (fun _ _ => 0) rfl ?_ ?_
  · go_wp2_with fail
    refine (open_yes A l n c _ hl (by omega) hc (bts_below HB.out HB0.out) ho).mono ?_
    rintro e w1 ⟨v, rfl, hO, hb1⟩
    rw [← hm, ← HBD.out] at hO
    clear hm
    obtain ⟨A1, c1, rfl⟩ := row_form hO
    have hcap := own_cap hO
    have HB1 := Lib.hid (HB0.out.trans (hb1.mono HB0.out.size))
    have hX1 := HX.out.below hb1 HX.out.lt
    have HX1 := Lib.hid hX1
    have HBT : Hid (Bts w1 A1 B) := Lib.hid (by
      obtain ⟨A', c', e', h', -⟩ := bts_own hO (fun i => by rw [HBD.out]; exact getD_take_lt l m i HB.out.1) HML.out.symm
      injection e' with e'
      rw [e']
      exact h')
    have HO := Lib.hid hO
    clear hb1 hX1 hO
    obtain ⟨k, cap, hv, hge, hlt⟩ := HO.out.form (by omega)
    injection hv with hv1 hv2 hv3
    subst hv1
    have hkg : k ≠ W.heap.size := by simp at hge; omega
    have HKG := Lib.hid hkg
    clear hge hlt hv2 hv3
    have c0 := bts_cell HBT.out 0 (by rw [HML.out]; omega)
    have c1' := bts_cell HBT.out 1 (by rw [HML.out]; omega)
    have c2 := bts_cell HBT.out 2 (by rw [HML.out]; omega)
    rw [h0] at c0
    rw [h1] at c1'
    have h2i : ((B.getD 2 0 : Nat) : Int) ≤ 1 := by omega
    have c3 := bts_cell HBT.out 3 (by rw [HML.out]; omega)
    have c4 := bts_cell HBT.out 4 (by rw [HML.out]; omega)
    generalize hx2 : B.getD 2 0 = x2 at *
    generalize hx3 : B.getD 3 0 = x3 at *
    generalize hx4 : B.getD 4 0 = x4 at *
    have HX2 := Lib.hid hx2
    have HX3 := Lib.hid hx3
    have HX4 := Lib.hid hx4
    clear hx2 hx3 hx4 h0 h1 h2
    have x0 := HX1.out.cell 0
    have x1 := HX1.out.cell 1
    have x2' := HX1.out.cell 2
    have x3' := HX1.out.cell 3
    have x4' := HX1.out.cell 4
    have x5' := HX1.out.cell 5
    have xl := HX1.out.lt
    have xf := fun i => HX1.out.frozen i
    go_wp2_with fail
    have b3 := HBT.out.1 3
    have b4 := HBT.out.1 4
    rw [HX3.out] at b3
    rw [HX4.out] at b4
    have i2 : (2 : Int) < (m : Int) := by omega
    have i3 : (3 : Int) < (m : Int) := by omega
    have i4 : (4 : Int) < (m : Int) := by omega
    have s2 := fun W' (h : Keeps (fun g => g = W.heap.size) w1.drew W') => keeps_cell h (show w1.drew.cell? ⟨k, 2, none⟩ = _ from c2) HKG.out
    have s3 := fun W' (h : Keeps (fun g => g = W.heap.size) w1.drew W') => keeps_cell h (show w1.drew.cell? ⟨k, 3, none⟩ = _ from c3) HKG.out
    have s4 := fun W' (h : Keeps (fun g => g = W.heap.size) w1.drew W') => keeps_cell h (show w1.drew.cell? ⟨k, 4, none⟩ = _ from c4) HKG.out
    refine wp_region_plan_by (Keeps (fun g => g = W.heap.size)) (later_keeps _) [(0, false), (1, false), (2, false), (3, false), (4, false), (5, false), (6, false), (7, false), (8, false), (9, false), (10, false), (11, false), (12, false), (13, true), (14, false), (15, true), (16, false), (17, true)] (by kernel_rfl) (by kernel_rfl) (fun _ d _ _ _ h => by cases d <;> exact h) ?_
    iterate 13 (refine plan_take (v := ?_) rfl (by kernel_rfl) ?_ ?_; rotate_left; (focus (intro w' hw'; try go_simp; try with_reducible rfl)); simp only [Act.put, List.setIfInBounds_toArray, List.set_cons_zero, List.set_cons_succ])
    refine plan_turn rfl (by kernel_rfl) (fun K hK => ?_)
    go_simp
    refine hK _ _ ⟨Keeps.drews ((Keeps.refl (fun g => g = W.heap.size) _).setCell (p := ⟨W.heap.size, _, none⟩) (.inl rfl) _), ?_⟩
    clear hK K
    iterate 1 (refine plan_take (v := ?_) rfl (by kernel_rfl) ?_ ?_; rotate_left; (focus (intro w' hw'; try go_simp; try with_reducible rfl)); simp only [Act.put, List.setIfInBounds_toArray, List.set_cons_zero, List.set_cons_succ])
    refine plan_turn rfl (by kernel_rfl) (fun K hK => ?_)
    go_simp
    refine hK _ _ ⟨Keeps.drews ((Keeps.refl (fun g => g = W.heap.size) _).setCell (p := ⟨W.heap.size, _, none⟩) (.inl rfl) _), ?_⟩
    clear hK K
    iterate 1 (refine plan_take (v := ?_) rfl (by kernel_rfl) ?_ ?_; rotate_left; (focus (intro w' hw'; try go_simp; try with_reducible rfl)); simp only [Act.put, List.setIfInBounds_toArray, List.set_cons_zero, List.set_cons_succ])
    refine plan_turn rfl (by kernel_rfl) (fun K hK => ?_)
    go_simp
    refine hK _ _ ⟨Keeps.drews ((Keeps.refl (fun g => g = W.heap.size) _).setCell (p := ⟨W.heap.size, _, none⟩) (.inl rfl) _), ?_⟩
    clear hK K
    refine plan_end ?_
    rw [show IntKind.i64.wrap (x3 : Int) = x3 from by rw [IntKind.wrap_i64]; omega, show IntKind.i64.wrap (x4 : Int) = x4 from by rw [IntKind.wrap_i64]; omega]
    have hXZ := (((HX1.out.set_ 2 (.bool ((x2 : Int) == 1))).set_ 0 (.int .i64 x3)).set_ 1 (.int .i64 x4)).drew
    have hKZ := ((((Keeps.refl (fun g => g = W.heap.size) w1).setCell (p := ⟨W.heap.size, 2, none⟩) (.inl rfl) (.bool ((x2 : Int) == 1))).setCell (p := ⟨W.heap.size, 0, none⟩) (.inl rfl) (.int .i64 x3)).setCell (p := ⟨W.heap.size, 1, none⟩) (.inl rfl) (.int .i64 x4)).drew
    generalize (((w1.setCell ⟨W.heap.size, 2, none⟩ (.bool ((x2 : Int) == 1))).setCell ⟨W.heap.size, 0, none⟩ (.int .i64 x3)).setCell ⟨W.heap.size, 1, none⟩ (.int .i64 x4)).drew = wz at *
    have HXZ := Lib.hid hXZ
    have HKZ := Lib.hid hKZ
    have z0 := hXZ.cell 0
    have z1 := hXZ.cell 1
    have z2 := hXZ.cell 2
    have z3 := hXZ.cell 3
    have z4 := hXZ.cell 4
    have z5 := hXZ.cell 5
    have zl := hXZ.lt
    have zf := fun i => hXZ.frozen i
    have HBZ := Lib.hid (bts_apart HBT.out hKZ HKG.out)
    clear hXZ hKZ x0 x1 x2' x3' x4' x5' xl xf c0 c1' c2 c3 c4 s2 s3 s4
    simp at z0 z1 z2 z3 z4 z5
    have HT5 := Lib.hid (there_in (m := m) (p := 5) (q := 8) (by omega) (by omega) (by decide))
    have HT13 := Lib.hid (there_in (m := m) (p := 13) (q := 8) (by omega) (by omega) (by decide))
    have HT21 := Lib.hid (there_in (m := 2) (p := 0) (q := 2) (by omega) (by omega) (by decide))
    go_wp2_with fail
    refine (get_at (some ⟨k, 0, none⟩) B m c1 5 8 _ HML.out (by omega) HBZ.out HT5.out).mono ?_
    rintro e w ⟨rfl, rfl⟩
    rw [show getV B 5 8 = fS B from rfl]
    have hsl : fS B < 18446744073709551616 := field_lt B 5 8 HBZ.out.1
    obtain ⟨s, hs⟩ : ∃ s, s = fS B := ⟨_, rfl⟩
    rw [← hs] at hsl ⊢
    have HS := Lib.hid hs
    clear hs
    go_wp2_with fail
    refine (get_at (some ⟨k, 0, none⟩) B m c1 13 8 _ HML.out (by omega) (bts_set HBZ.out HKG.out) HT13.out).mono ?_
    rintro e w ⟨rfl, rfl⟩
    rw [show getV B 13 8 = fA B from rfl]
    have hal : fA B < 18446744073709551616 := field_lt B 13 8 HBZ.out.1
    obtain ⟨ac, hac⟩ : ∃ ac, ac = fA B := ⟨_, rfl⟩
    rw [← hac] at hal ⊢
    have HAC := Lib.hid hac
    clear hac
    go_wp2_with fail
    refine (get_at (some ⟨k, 21, none⟩) ((B.drop 21).take 2) 2 (c1 - 21) 0 2 _ (by rw [List.length_take, List.length_drop, HML.out]; omega) (by omega) (bts_set (bts_set (bts_take (show Bts wz (some ⟨k, 21, none⟩) (B.drop 21) from Nat.zero_add 21 ▸ bts_drop 21 HBZ.out)) HKG.out) HKG.out) HT21.out).mono ?_
    rintro e w ⟨rfl, rfl⟩
    rw [show getV ((B.drop 21).take 2) 0 2 = fZ B from by simp [getV, fZ, List.take_take]]
    have hzl : fZ B < 65536 := field_lt B 21 2 HBZ.out.1
    obtain ⟨zz, hzz⟩ : ∃ zz, zz = fZ B := ⟨_, rfl⟩
    rw [← hzz] at hzl ⊢
    have HZZ := Lib.hid hzz
    clear hzz
    have HFB : Hid (fB B = ((x2 : Int) == 1)) := Lib.hid (by unfold fB; rw [HX2.out, beq_one])
    have HBO : Hid (bodyOK B = (zz == m - 23 && rightF x3 x4 ((x2 : Int) == 1) s (m - 23))) := Lib.hid (by
      unfold bodyOK
      rw [HFB.out, HML.out, ← HZZ.out, ← HS.out]
      unfold fF fT
      rw [HX3.out, HX4.out])
    have HBD0 : Hid (Bts wz (some ⟨k, 23, none⟩) (B.drop 23)) := Lib.hid (Nat.zero_add 23 ▸ bts_drop 23 HBZ.out)
    have HBW : Hid (Below W.heap.size W wz) := Lib.hid (HB1.out.trans (HKZ.out.below (fun i hi => by omega) HB1.out.size))
    by_cases hz : zz = m - 23
    · skip
      by_cases hc23 : c1 = 23
      · obtain rfl : m = 23 := by omega
        subst hc23
        subst hz
        go_wp2_with fail
        have hb0 := ((HBW.out.setCell (p := ⟨W.heap.size, 3, none⟩) (Nat.le_refl _) (.int .u64 s)).setCell (p := ⟨W.heap.size, 4, none⟩) (Nat.le_refl _) (.int .u64 ac)).setCell (p := ⟨W.heap.size, 5, none⟩) (Nat.le_refl _) (.slice (some ⟨k, 0, none⟩) 0 0)
        have HB0' := Lib.hid hb0
        clear hb0
        refine (right_any x3 x4 ((x2 : Int) == 1) s ac (some ⟨k, 0, none⟩) 0 0 _ (by omega)).mono ?_
        rintro e w2 ⟨rfl, hb2⟩
        have HB2 := Lib.hid (HB0'.out.trans (hb2.mono HB0'.out.size))
        have HK2 := Lib.hid hb2
        have hX2 := (((HXZ.out.set_ 3 (.int .u64 s)).set_ 4 (.int .u64 ac)).set_ 5 (.slice (some ⟨k, 0, none⟩) 0 0)).below hb2 (((HXZ.out.set_ 3 (.int .u64 s)).set_ 4 (.int .u64 ac)).set_ 5 (.slice (some ⟨k, 0, none⟩) 0 0)).lt
        have y0 := hX2.cell 0
        have y1 := hX2.cell 1
        have y2 := hX2.cell 2
        have y3 := hX2.cell 3
        have y4 := hX2.cell 4
        have y5 := hX2.cell 5
        have yl := hX2.lt
        have yf := fun i => hX2.frozen i
        have HX2' := Lib.hid hX2
        simp at y0 y1 y2 y3 y4 y5
        clear hX2 z0 z1 z2 z3 z4 z5 zl zf
        clear hb2
        cases hr : rightF x3 x4 ((x2 : Int) == 1) s (0)
        · have HBAD : Hid (bodyOK B = false) := Lib.hid (by rw [HBO.out, hr, Bool.and_false])
          go_wp2_with fail
          go_step3
          go_wp2
          have hZ := ((((((HX2'.out.set_ 0 (.int .i64 0)).set_ 1 (.int .i64 0)).set_ 2 (.bool false)).set_ 3 (.int .u64 0)).set_ 4 (.int .u64 0)).set_ 5 (.slice none 0 0))
          have q0 := hZ.cell 0
          have q1 := hZ.cell 1
          have q2 := hZ.cell 2
          have q3 := hZ.cell 3
          have q4 := hZ.cell 4
          have q5 := hZ.cell 5
          have hBZ := ((((((HB2.out.setCell (p := ⟨W.heap.size, 0, none⟩) (Nat.le_refl _) (.int .i64 0)).setCell (p := ⟨W.heap.size, 1, none⟩) (Nat.le_refl _) (.int .i64 0)).setCell (p := ⟨W.heap.size, 2, none⟩) (Nat.le_refl _) (.bool false)).setCell (p := ⟨W.heap.size, 3, none⟩) (Nat.le_refl _) (.int .u64 0)).setCell (p := ⟨W.heap.size, 4, none⟩) (Nat.le_refl _) (.int .u64 0)).setCell (p := ⟨W.heap.size, 5, none⟩) (Nat.le_refl _) (.slice none 0 0))
          refine bodyPost_ret (v := .tuple #[noneV, .bool false]) (by simp [results, Try.results23, go_sem, noneV, frV, q0, q1, q2, q3, q4, q5]) rfl ⟨hBZ, ?_⟩
          rw [← HMM.out, ← HBD.out, if_neg (by rw [HBAD.out]; decide)]
        · have HGOOD : Hid (bodyOK B = true) := Lib.hid (by rw [HBO.out, hr, beq_self_eq_true]; rfl)
          go_wp2
          simp only [Exit.jump]
          have hZ := ((((((HX2'.out.set_ 0 (.int .i64 x3)).set_ 1 (.int .i64 x4)).set_ 2 (.bool ((x2 : Int) == 1))).set_ 3 (.int .u64 s)).set_ 4 (.int .u64 ac)).set_ 5 (.slice (some ⟨k, 0, none⟩) 0 0))
          have q0 := hZ.cell 0
          have q1 := hZ.cell 1
          have q2 := hZ.cell 2
          have q3 := hZ.cell 3
          have q4 := hZ.cell 4
          have q5 := hZ.cell 5
          have hBZ := ((((((HB2.out.setCell (p := ⟨W.heap.size, 0, none⟩) (Nat.le_refl _) (.int .i64 x3)).setCell (p := ⟨W.heap.size, 1, none⟩) (Nat.le_refl _) (.int .i64 x4)).setCell (p := ⟨W.heap.size, 2, none⟩) (Nat.le_refl _) (.bool ((x2 : Int) == 1))).setCell (p := ⟨W.heap.size, 3, none⟩) (Nat.le_refl _) (.int .u64 s)).setCell (p := ⟨W.heap.size, 4, none⟩) (Nat.le_refl _) (.int .u64 ac)).setCell (p := ⟨W.heap.size, 5, none⟩) (Nat.le_refl _) (.slice (some ⟨k, 0, none⟩) 0 0))
          refine bodyPost_ret (v := .tuple #[frV x3 x4 ((x2 : Int) == 1) s ac (some ⟨k, 0, none⟩) 0 0, .bool true]) (by simp [results, Try.results23, go_sem, frV, q0, q1, q2, q3, q4, q5]) rfl ⟨hBZ, ?_⟩
          rw [← HMM.out, ← HBD.out, if_pos HGOOD.out]
          refine ⟨some ⟨k, 0, none⟩, 0, ?_, ?_⟩
          · rw [HML.out, HFB.out, ← HS.out, ← HAC.out]; unfold fF fT; rw [HX3.out, HX4.out]
          · rw [List.drop_eq_nil_of_le (by rw [HML.out]; exact Nat.le_refl _)]
            exact ⟨fun i => by simp, fun h => absurd h (by simp)⟩
      · subst hz
        go_wp2_with fail
        have hb0 := ((HBW.out.setCell (p := ⟨W.heap.size, 3, none⟩) (Nat.le_refl _) (.int .u64 s)).setCell (p := ⟨W.heap.size, 4, none⟩) (Nat.le_refl _) (.int .u64 ac)).setCell (p := ⟨W.heap.size, 5, none⟩) (Nat.le_refl _) (.slice (some ⟨k, 23, none⟩) (m - 23) (c1 - 23))
        have HB0' := Lib.hid hb0
        clear hb0
        refine (right_any x3 x4 ((x2 : Int) == 1) s ac (some ⟨k, 23, none⟩) (m - 23) (c1 - 23) _ (by omega)).mono ?_
        rintro e w2 ⟨rfl, hb2⟩
        have HB2 := Lib.hid (HB0'.out.trans (hb2.mono HB0'.out.size))
        have HK2 := Lib.hid hb2
        have hX2 := (((HXZ.out.set_ 3 (.int .u64 s)).set_ 4 (.int .u64 ac)).set_ 5 (.slice (some ⟨k, 23, none⟩) (m - 23) (c1 - 23))).below hb2 (((HXZ.out.set_ 3 (.int .u64 s)).set_ 4 (.int .u64 ac)).set_ 5 (.slice (some ⟨k, 23, none⟩) (m - 23) (c1 - 23))).lt
        have y0 := hX2.cell 0
        have y1 := hX2.cell 1
        have y2 := hX2.cell 2
        have y3 := hX2.cell 3
        have y4 := hX2.cell 4
        have y5 := hX2.cell 5
        have yl := hX2.lt
        have yf := fun i => hX2.frozen i
        have HX2' := Lib.hid hX2
        simp at y0 y1 y2 y3 y4 y5
        clear hX2 z0 z1 z2 z3 z4 z5 zl zf
        clear hb2
        cases hr : rightF x3 x4 ((x2 : Int) == 1) s ((m - 23))
        · have HBAD : Hid (bodyOK B = false) := Lib.hid (by rw [HBO.out, hr, Bool.and_false])
          go_wp2_with fail
          go_step3
          go_wp2
          have hZ := ((((((HX2'.out.set_ 0 (.int .i64 0)).set_ 1 (.int .i64 0)).set_ 2 (.bool false)).set_ 3 (.int .u64 0)).set_ 4 (.int .u64 0)).set_ 5 (.slice none 0 0))
          have q0 := hZ.cell 0
          have q1 := hZ.cell 1
          have q2 := hZ.cell 2
          have q3 := hZ.cell 3
          have q4 := hZ.cell 4
          have q5 := hZ.cell 5
          have hBZ := ((((((HB2.out.setCell (p := ⟨W.heap.size, 0, none⟩) (Nat.le_refl _) (.int .i64 0)).setCell (p := ⟨W.heap.size, 1, none⟩) (Nat.le_refl _) (.int .i64 0)).setCell (p := ⟨W.heap.size, 2, none⟩) (Nat.le_refl _) (.bool false)).setCell (p := ⟨W.heap.size, 3, none⟩) (Nat.le_refl _) (.int .u64 0)).setCell (p := ⟨W.heap.size, 4, none⟩) (Nat.le_refl _) (.int .u64 0)).setCell (p := ⟨W.heap.size, 5, none⟩) (Nat.le_refl _) (.slice none 0 0))
          refine bodyPost_ret (v := .tuple #[noneV, .bool false]) (by simp [results, Try.results23, go_sem, noneV, frV, q0, q1, q2, q3, q4, q5]) rfl ⟨hBZ, ?_⟩
          rw [← HMM.out, ← HBD.out, if_neg (by rw [HBAD.out]; decide)]
        · have HGOOD : Hid (bodyOK B = true) := Lib.hid (by rw [HBO.out, hr, beq_self_eq_true]; rfl)
          go_wp2
          simp only [Exit.jump]
          have hZ := ((((((HX2'.out.set_ 0 (.int .i64 x3)).set_ 1 (.int .i64 x4)).set_ 2 (.bool ((x2 : Int) == 1))).set_ 3 (.int .u64 s)).set_ 4 (.int .u64 ac)).set_ 5 (.slice (some ⟨k, 23, none⟩) (m - 23) (c1 - 23)))
          have q0 := hZ.cell 0
          have q1 := hZ.cell 1
          have q2 := hZ.cell 2
          have q3 := hZ.cell 3
          have q4 := hZ.cell 4
          have q5 := hZ.cell 5
          have hBZ := ((((((HB2.out.setCell (p := ⟨W.heap.size, 0, none⟩) (Nat.le_refl _) (.int .i64 x3)).setCell (p := ⟨W.heap.size, 1, none⟩) (Nat.le_refl _) (.int .i64 x4)).setCell (p := ⟨W.heap.size, 2, none⟩) (Nat.le_refl _) (.bool ((x2 : Int) == 1))).setCell (p := ⟨W.heap.size, 3, none⟩) (Nat.le_refl _) (.int .u64 s)).setCell (p := ⟨W.heap.size, 4, none⟩) (Nat.le_refl _) (.int .u64 ac)).setCell (p := ⟨W.heap.size, 5, none⟩) (Nat.le_refl _) (.slice (some ⟨k, 23, none⟩) (m - 23) (c1 - 23)))
          refine bodyPost_ret (v := .tuple #[frV x3 x4 ((x2 : Int) == 1) s ac (some ⟨k, 23, none⟩) (m - 23) (c1 - 23), .bool true]) (by simp [results, Try.results23, go_sem, frV, q0, q1, q2, q3, q4, q5]) rfl ⟨hBZ, ?_⟩
          rw [← HMM.out, ← HBD.out, if_pos HGOOD.out]
          refine ⟨some ⟨k, 23, none⟩, (c1 - 23), ?_, ?_⟩
          · rw [HML.out, HFB.out, ← HS.out, ← HAC.out]; unfold fF fT; rw [HX3.out, HX4.out]
          · exact bts_set (bts_set (bts_set (bts_set (bts_set (bts_set (bts_below (bts_set (bts_set (bts_set HBD0.out HKG.out) HKG.out) HKG.out) HK2.out) HKG.out) HKG.out) HKG.out) HKG.out) HKG.out) HKG.out
    · have hz' : ((zz : Int) == ((m - 23 : Nat) : Int)) = false := beq_eq_false_iff_ne.2 (by omega)
      have HBAD : Hid (bodyOK B = false) := Lib.hid (by rw [HBO.out, beq_eq_false_iff_ne.2 hz]; rfl)
      by_cases hc23 : c1 = 23
      · obtain rfl : m = 23 := by omega
        subst hc23
        have hz0 : ((zz : Int) == 0) = false := beq_eq_false_iff_ne.2 (by omega)
        clear hz
        go_wp2_with fail
        have hb0 := ((HBW.out.setCell (p := ⟨W.heap.size, 3, none⟩) (Nat.le_refl _) (.int .u64 s)).setCell (p := ⟨W.heap.size, 4, none⟩) (Nat.le_refl _) (.int .u64 ac)).setCell (p := ⟨W.heap.size, 5, none⟩) (Nat.le_refl _) (.slice (some ⟨k, 0, none⟩) 0 0)
        have HB2 := Lib.hid hb0
        clear hb0
        have hX2 := ((HXZ.out.set_ 3 (.int .u64 s)).set_ 4 (.int .u64 ac)).set_ 5 (.slice (some ⟨k, 0, none⟩) 0 0)
        have y0 := hX2.cell 0
        have y1 := hX2.cell 1
        have y2 := hX2.cell 2
        have y3 := hX2.cell 3
        have y4 := hX2.cell 4
        have y5 := hX2.cell 5
        have yl := hX2.lt
        have yf := fun i => hX2.frozen i
        have HX2' := Lib.hid hX2
        simp at y0 y1 y2 y3 y4 y5
        clear hX2 z0 z1 z2 z3 z4 z5 zl zf
        go_step3
        go_wp2
        have hZ := ((((((HX2'.out.set_ 0 (.int .i64 0)).set_ 1 (.int .i64 0)).set_ 2 (.bool false)).set_ 3 (.int .u64 0)).set_ 4 (.int .u64 0)).set_ 5 (.slice none 0 0))
        have q0 := hZ.cell 0
        have q1 := hZ.cell 1
        have q2 := hZ.cell 2
        have q3 := hZ.cell 3
        have q4 := hZ.cell 4
        have q5 := hZ.cell 5
        have hBZ := ((((((HB2.out.setCell (p := ⟨W.heap.size, 0, none⟩) (Nat.le_refl _) (.int .i64 0)).setCell (p := ⟨W.heap.size, 1, none⟩) (Nat.le_refl _) (.int .i64 0)).setCell (p := ⟨W.heap.size, 2, none⟩) (Nat.le_refl _) (.bool false)).setCell (p := ⟨W.heap.size, 3, none⟩) (Nat.le_refl _) (.int .u64 0)).setCell (p := ⟨W.heap.size, 4, none⟩) (Nat.le_refl _) (.int .u64 0)).setCell (p := ⟨W.heap.size, 5, none⟩) (Nat.le_refl _) (.slice none 0 0))
        refine bodyPost_ret (v := .tuple #[noneV, .bool false]) (by simp [results, Try.results23, go_sem, noneV, frV, q0, q1, q2, q3, q4, q5]) rfl ⟨hBZ, ?_⟩
        rw [← HMM.out, ← HBD.out, if_neg (by rw [HBAD.out]; decide)]
      · clear hz
        go_wp2_with fail
        have hb0 := ((HBW.out.setCell (p := ⟨W.heap.size, 3, none⟩) (Nat.le_refl _) (.int .u64 s)).setCell (p := ⟨W.heap.size, 4, none⟩) (Nat.le_refl _) (.int .u64 ac)).setCell (p := ⟨W.heap.size, 5, none⟩) (Nat.le_refl _) (.slice (some ⟨k, 23, none⟩) (m - 23) (c1 - 23))
        have HB2 := Lib.hid hb0
        clear hb0
        have hX2 := ((HXZ.out.set_ 3 (.int .u64 s)).set_ 4 (.int .u64 ac)).set_ 5 (.slice (some ⟨k, 23, none⟩) (m - 23) (c1 - 23))
        have y0 := hX2.cell 0
        have y1 := hX2.cell 1
        have y2 := hX2.cell 2
        have y3 := hX2.cell 3
        have y4 := hX2.cell 4
        have y5 := hX2.cell 5
        have yl := hX2.lt
        have yf := fun i => hX2.frozen i
        have HX2' := Lib.hid hX2
        simp at y0 y1 y2 y3 y4 y5
        clear hX2 z0 z1 z2 z3 z4 z5 zl zf
        go_step3
        go_wp2
        have hZ := ((((((HX2'.out.set_ 0 (.int .i64 0)).set_ 1 (.int .i64 0)).set_ 2 (.bool false)).set_ 3 (.int .u64 0)).set_ 4 (.int .u64 0)).set_ 5 (.slice none 0 0))
        have q0 := hZ.cell 0
        have q1 := hZ.cell 1
        have q2 := hZ.cell 2
        have q3 := hZ.cell 3
        have q4 := hZ.cell 4
        have q5 := hZ.cell 5
        have hBZ := ((((((HB2.out.setCell (p := ⟨W.heap.size, 0, none⟩) (Nat.le_refl _) (.int .i64 0)).setCell (p := ⟨W.heap.size, 1, none⟩) (Nat.le_refl _) (.int .i64 0)).setCell (p := ⟨W.heap.size, 2, none⟩) (Nat.le_refl _) (.bool false)).setCell (p := ⟨W.heap.size, 3, none⟩) (Nat.le_refl _) (.int .u64 0)).setCell (p := ⟨W.heap.size, 4, none⟩) (Nat.le_refl _) (.int .u64 0)).setCell (p := ⟨W.heap.size, 5, none⟩) (Nat.le_refl _) (.slice none 0 0))
        refine bodyPost_ret (v := .tuple #[noneV, .bool false]) (by simp [results, Try.results23, go_sem, noneV, frV, q0, q1, q2, q3, q4, q5]) rfl ⟨hBZ, ?_⟩
        rw [← HMM.out, ← HBD.out, if_neg (by rw [HBAD.out]; decide)]
  · intro a w h; exact h.elim
end Go.Proofs.Ytnnajaomajgoeaa

/- Get whole; the reference's Plain. -/
namespace Go.Proofs.Ytnnajaomajgoeaa
open Go.RowKit

/-- What Get answers. -/
def GetAny (l : List Nat) (W : World) (e : Ending) (w' : World) : Prop :=
  Below W.heap.size W w' ∧ if frameB l then ∃ A' c', e = .returned (.tuple #[frV (fF (l.take (l.length - 4))) (fT (l.take (l.length - 4))) (fB (l.take (l.length - 4))) (fS (l.take (l.length - 4))) (fA (l.take (l.length - 4))) A' ((l.take (l.length - 4)).length - 23) c', .bool true]) ∧ Bts w' A' ((l.take (l.length - 4)).drop 23)
  else e = .returned (.tuple #[noneV, .bool false])
theorem wget_any (A : Option Addr) (l : List Nat) (n c : Nat) (W : World) (hl : l.length = n) (hn : n ≤ 1000000) (hc : n ≤ c) (hB : Bts W A l) :
    Calls Try.prog 23 #[.slice A n c] W (GetAny l W) := by
  unfold GetAny frameB
  cases ho : openB l with
  | false =>
    refine (get_closed A l n c W hl hn hc hB ho).mono ?_
    rintro e w' ⟨rfl, hb⟩
    exact ⟨hb, by simp⟩
  | true =>
    cases hh : headOK (l.take (l.length - 4)) with
    | false =>
      refine (get_badhead A l n c W hl hn hc hB ho (by rw [← hl]; exact hh)).mono ?_
      rintro e w' ⟨rfl, hb⟩
      exact ⟨hb, by simp⟩
    | true =>
      refine (get_head A l n c W hl hn hc hB ho (by rw [← hl]; exact hh)).mono ?_
      intro e w' h
      unfold GetR at h
      rw [← hl] at h
      refine ⟨h.1, ?_⟩
      simp only [Bool.true_and]
      exact h.2
def plainP (f t s a : Nat) (BB : Bool) (l : List Nat) (i : Nat) (v : Value) (w : World) : Prop :=
  match i with
  | 7 => ∃ A c, v = .slice A 5 c ∧ Bts w A (headL f t BB)
  | 8 => v = .string (strB (headL f t BB))
  | 11 => ∃ A c, v = .slice A 8 c ∧ Bts w A (bytesOf s 8)
  | 12 => v = .string (strB (bytesOf s 8))
  | 13 => v = .string (strB (headL f t BB ++ bytesOf s 8))
  | 16 => ∃ A c, v = .slice A 8 c ∧ Bts w A (bytesOf a 8)
  | 17 => v = .string (strB (bytesOf a 8))
  | 18 => v = .string (strB (headL f t BB ++ bytesOf s 8 ++ bytesOf a 8))
  | 25 => ∃ A c, v = .slice A 2 c ∧ Bts w A (bytesOf l.length 2)
  | 26 => v = .string (strB (bytesOf l.length 2))
  | 27 => v = .string (strB (headL f t BB ++ bytesOf s 8 ++ bytesOf a 8 ++ bytesOf l.length 2))
  | 31 => v = .string (strB (headL f t BB ++ bytesOf s 8 ++ bytesOf a 8 ++ bytesOf l.length 2 ++ l))
  | 32 => v = .string (strB (headL f t BB ++ bytesOf s 8 ++ bytesOf a 8 ++ bytesOf l.length 2 ++ l))
  | _ => True
theorem plainP_later (f t s a : Nat) (b : Bool) (l : List Nat) (i : Nat) (v : Value) (w w' : World) (hr : Ext w w') (h : plainP f t s a b l i v w) : plainP f t s a b l i v w' := by
  unfold plainP at h ⊢
  split
  · exact (let ⟨A, c, e, hB⟩ := h; ⟨A, c, e, bts_below hB hr⟩)
  · exact h
  · exact (let ⟨A, c, e, hB⟩ := h; ⟨A, c, e, bts_below hB hr⟩)
  · exact h
  · exact h
  · exact (let ⟨A, c, e, hB⟩ := h; ⟨A, c, e, bts_below hB hr⟩)
  · exact h
  · exact h
  · exact (let ⟨A, c, e, hB⟩ := h; ⟨A, c, e, bts_below hB hr⟩)
  · exact h
  · exact h
  · exact h
  · exact h
  · trivial
end Go.Proofs.Ytnnajaomajgoeaa
