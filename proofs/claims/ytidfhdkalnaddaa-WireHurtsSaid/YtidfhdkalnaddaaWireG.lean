/- Get. -/
import Derived.Test.YtidfhdkalnaddaaWireF
import Derived.WalkMore
import Derived.ScopeJumps
namespace Go.Proofs.Ytidfhdkalnaddaa
open Go.RowKit

/-- No frame. -/
def noneV : Value := frV 0 0 false 0 0 none 0 0
/-- What holds at the jump to 'none'. -/
def AtNone (W : World) (g : Nat) (a : Act) (w : World) : Prop := (∃ c0 c1 c2 c3 c4 c5, Blk w g 25 #[c0, c1, c2, c3, c4, c5]) ∧ W.heap.size ≤ g ∧ Below W.heap.size W w ∧
  ∃ u0 u1 u3 u4 u5 u6 u7 u8 u9 u10 u11 u12 u13 u14 u15 u16 u17 u18 u19 u20 u21 u22 u23 u24 u25 u26 u27 u28 u29 u30 u31 u32 u33 u34 u35 u36 u37 u38 u39 u40 u41 u42 u43 u44 u45 u46 u47 u48 u49 u50 u51 u52 u53 u54 u55 u56 u57 u58 u59 u60 u61 u62 u63 u64 u65 u66 u67 u68 u69 u70 u71 u72 u73 u74 u75 u76 u77 u78 u79 u80 u81 u82 u83 : Value, a = { tmps := #[u0, u1, (.pointer (some ⟨g, 0, none⟩) : Value), u3, u4, u5, u6, u7, u8, u9, u10, u11, u12, u13, u14, u15, u16, u17, u18, u19, u20, u21, u22, u23, u24, u25, u26, u27, u28, u29, u30, u31, u32, u33, u34, u35, u36, u37, u38, u39, u40, u41, u42, u43, u44, u45, u46, u47, u48, u49, u50, u51, u52, u53, u54, u55, u56, u57, u58, u59, u60, u61, u62, u63, u64, u65, u66, u67, u68, u69, u70, u71, u72, u73, u74, u75, u76, u77, u78, u79, u80, u81, u82, u83], defers := [] }
set_option maxRecDepth 100000 in
set_option maxHeartbeats 2000000 in
theorem get_closed (A : Option Addr) (l : List Nat) (n c : Nat) (W : World) (hl : l.length = n) (hn : n ≤ 1000000) (hc : n ≤ c) (hB : Bts W A l) (ho : openB l = false) :
    Calls Try.prog 10 #[.slice A n c] W fun e w' => e = .returned (.tuple #[noneV, .bool false]) ∧ Below W.heap.size W w' := by
  have HB := Lib.hid hB
  have HB0 : Hid (Below W.heap.size W (W.alloc (.cells #[.int .i64 0, .int .i64 0, .bool false, .int .u64 0, .int .u64 0, .slice none 0 0] 25))) := Lib.hid ((Below.refl _ W).alloc (Nat.le_refl _) _)
  have hX := Blkf.new_at W 25 (0, 0) #[.int .i64 0, .int .i64 0, .bool false, .int .u64 0, .int .u64 0, .slice none 0 0] rfl
  have HX := Lib.hid hX
  clear hB hX
  go_enter Try.func10, Try.ntmps10
  go_wp2_with fail
  refine wp_scope_jumps 0 (AtNone W W.heap.size) (fun _ _ => 0) rfl ?_ ?_
  · go_wp2_with fail
    refine (open_no A l n c _ hl (by omega) hc (bts_below HB.out HB0.out) ho).mono ?_
    rintro e w1 ⟨rfl, hb1⟩
    have HB1 := Lib.hid (HB0.out.trans (hb1.mono HB0.out.size))
    have hX1 := HX.out.below hb1 HX.out.lt
    have HX1 := Lib.hid hX1
    clear hb1 hX1
    go_wp2_with fail
    go_step3
    exact ⟨rfl, ⟨_, _, _, _, _, _, HX1.out⟩, Nat.le_refl _, HB1.out, _, _, _, _, _, _, _, _, _, _, _, _, _, _, _, _, _, _, _, _, _, _, _, _, _, _, _, _, _, _, _, _, _, _, _, _, _, _, _, _, _, _, _, _, _, _, _, _, _, _, _, _, _, _, _, _, _, _, _, _, _, _, _, _, _, _, _, _, _, _, _, _, _, _, _, _, _, _, _, _, _, _, _, rfl⟩
  · rintro a w ⟨⟨c0, c1, c2, c3, c4, c5, hX⟩, hg, hb, u0, u1, u3, u4, u5, u6, u7, u8, u9, u10, u11, u12, u13, u14, u15, u16, u17, u18, u19, u20, u21, u22, u23, u24, u25, u26, u27, u28, u29, u30, u31, u32, u33, u34, u35, u36, u37, u38, u39, u40, u41, u42, u43, u44, u45, u46, u47, u48, u49, u50, u51, u52, u53, u54, u55, u56, u57, u58, u59, u60, u61, u62, u63, u64, u65, u66, u67, u68, u69, u70, u71, u72, u73, u74, u75, u76, u77, u78, u79, u80, u81, u82, u83, rfl⟩
    have xl := hX.lt
    have x0 := hX.cell 0
    have x1 := hX.cell 1
    have x2 := hX.cell 2
    have x3 := hX.cell 3
    have x4 := hX.cell 4
    have x5 := hX.cell 5
    have xf := fun i => hX.frozen i
    have HB2 := Lib.hid hb
    have HX2 := Lib.hid hX
    clear hb hX
    go_wp2
    have hZ := ((((((HX2.out.set_ 0 (.int .i64 0)).set_ 1 (.int .i64 0)).set_ 2 (.bool false)).set_ 3 (.int .u64 0)).set_ 4 (.int .u64 0)).set_ 5 (.slice none 0 0))
    have z0 := hZ.cell 0
    have z1 := hZ.cell 1
    have z2 := hZ.cell 2
    have z3 := hZ.cell 3
    have z4 := hZ.cell 4
    have z5 := hZ.cell 5
    have hBZ := (((((HB2.out.setCell (p := ⟨W.heap.size, 0, none⟩) (Nat.le_refl _) (.int .i64 0)).setCell (p := ⟨W.heap.size, 1, none⟩) (Nat.le_refl _) (.int .i64 0)).setCell (p := ⟨W.heap.size, 2, none⟩) (Nat.le_refl _) (.bool false)).setCell (p := ⟨W.heap.size, 3, none⟩) (Nat.le_refl _) (.int .u64 0)).setCell (p := ⟨W.heap.size, 4, none⟩) (Nat.le_refl _) (.int .u64 0)).setCell (p := ⟨W.heap.size, 5, none⟩) (Nat.le_refl _) (.slice none 0 0)
    simp only [Exit.jump]
    refine bodyPost_ret (v := .tuple #[noneV, .bool false]) (by simp [results, Try.results10, go_sem, noneV, frV, z0, z1, z2, z3, z4, z5]) rfl ⟨rfl, hBZ⟩
end Go.Proofs.Ytidfhdkalnaddaa
