/- The document's Get. -/
import Derived.Test.YtkkgigdgbiklmaaDoorMsgY
import Derived.Test.YtkkgigdgbiklmaaDoorMsgT
namespace Go.Proofs.YtkkgigdgbiklmaaDoor
open Go.RowKit

def rP (l : List Nat) : Nat := l.getD 3 0 + 256 * l.getD 4 0
def rS (l : List Nat) : Nat := l.getD 7 0 + 256 * l.getD 8 0
def rRight (l : List Nat) : Bool := rightM ((l.getD 0 0 : Nat) : Int) (rP l : Int) ((l.getD 1 0 : Nat) : Int) ((l.getD 2 0 : Nat) : Int) (rS l) (l.drop 11)
def rPut (l : List Nat) : List Nat := putL (l.getD 0 0) (rP l) (l.getD 1 0) (l.getD 2 0) (rS l) (l.drop 11)
def rgetB (l : List Nat) : Bool := l.getD 5 0 == 0 && (l.getD 6 0 == 0 && (rRight l && decide (rPut l = l)))
def RGetM (l : List Nat) (n : Nat) (W : World) (e : Ending) (w' : World) : Prop :=
  Below W.heap.size W w' ∧ if rgetB l then ∃ A' c', e = .returned (.tuple #[msV ((l.getD 0 0 : Nat) : Int) (rP l : Int) ((l.getD 1 0 : Nat) : Int) ((l.getD 2 0 : Nat) : Int) (rS l) A' (n - 11) c', .bool true]) ∧ Bts w' A' (l.drop 11) else e = .returned (.tuple #[zeroM, .bool false])
theorem right_bounds {k p nd h s : Nat} {D : List Nat} (hr : rightM (k : Int) (p : Int) (nd : Int) (h : Int) s D = true) : k ≤ 6 ∧ p < 65536 ∧ nd < 16 ∧ h ≤ 255 := by
  simp only [rightM, headB, Bool.and_eq_true, decide_eq_true_eq] at hr
  omega
theorem put_lt {k p nd h s : Nat} {D : List Nat} (hk : k ≤ 6) (hp : p < 65536) (hnd : nd < 16) (hh : h ≤ 255) (hs : s < 65536) (hD : ∀ i : Nat, D.getD i 0 < 256) (hl : D.length < 65536) (i : Nat) : (putL k p nd h s D).getD i 0 < 256 := by
  unfold putL
  rw [← put11_eq k p nd h s D.length hp hs hl]
  have h1 := put11_lt k p nd h s D.length hk hp hnd hh hs hl
  rw [List.getD_eq_getElem?_getD]
  rcases Nat.lt_or_ge i (put11 k p nd h s D.length).length with h2 | h2
  · rw [List.getElem?_append_left h2, ← List.getD_eq_getElem?_getD]; exact h1 i
  · rw [List.getElem?_append_right h2, ← List.getD_eq_getElem?_getD]; exact hD _
set_option maxHeartbeats 1000000 in
theorem rget_out (A : Option Addr) (n c : Nat) (W : World) (hn : n < 11 ∨ 4107 < n) :
    Calls Tryd.prog 9 #[.slice A n c] W fun e w' => e = .returned (.tuple #[zeroM, .bool false]) ∧ Below W.heap.size W w' := by
  have HE : Hid (Below W.heap.size W (W.alloc (.cells #[.int .i64 0, .int .i64 0, .int .i64 0, .int .i64 0, .int .u16 0, .slice none 0 0] 27))) := Lib.hid ((Below.refl _ W).alloc (Nat.le_refl _) _)
  rcases hn with hn | hn
  · have hnI : (n : Int) < 11 := by omega
    clear hn
    go_enter Tryd.func9, Tryd.ntmps9
    go_wp2_with fail
    refine bodyPost_ret (v := .tuple #[zeroM, .bool false]) (by simp [zeroM, results, Tryd.results9, go_sem]) rfl ?_
    exact ⟨rfl, HE.out⟩
  · have hnI : ¬ (n : Int) < 11 := by omega
    have hnJ : (4107 : Int) < (n : Int) := by omega
    clear hn
    go_enter Tryd.func9, Tryd.ntmps9
    go_wp2_with fail
    refine bodyPost_ret (v := .tuple #[zeroM, .bool false]) (by simp [zeroM, results, Tryd.results9, go_sem]) rfl ?_
    exact ⟨rfl, HE.out⟩
set_option maxRecDepth 100000 in
set_option maxHeartbeats 4000000 in
theorem rget_in (b o : Nat) (l : List Nat) (n c : Nat) (W : World) (hl : l.length = n) (hn : 11 ≤ n) (hn2 : n ≤ 4107) (hc : n ≤ c) (hB : Bts W (some ⟨b, o, none⟩) l) :
    Calls Tryd.prog 9 #[.slice (some ⟨b, o, none⟩) n c] W (RGetM l n W) := by
  obtain ⟨i0, hi0, hz0, hz1, hz2⟩ := info_parts info5
  have hnI : ¬ (n : Int) < 11 := by omega
  have hnJ : ¬ (4107 : Int) < (n : Int) := by omega
  have HE : Hid (Below W.heap.size W (W.alloc (.cells #[.int .i64 0, .int .i64 0, .int .i64 0, .int .i64 0, .int .u16 0, .slice none 0 0] 27))) := Lib.hid ((Below.refl _ W).alloc (Nat.le_refl _) _)
  have HX : Hid (Blk (W.alloc (.cells #[.int .i64 0, .int .i64 0, .int .i64 0, .int .i64 0, .int .u16 0, .slice none 0 0] 27)) W.heap.size 27 #[.int .i64 0, .int .i64 0, .int .i64 0, .int .i64 0, .int .u16 0, .slice none 0 0]) := Lib.hid (Blkf.new_at _ _ _ _ rfl)
  have HRB : Hid (W.heap.size < (W.alloc (.cells #[.int .i64 0, .int .i64 0, .int .i64 0, .int .i64 0, .int .u16 0, .slice none 0 0] 27)).heap.size) := Lib.hid (by rw [World.size_alloc]; omega)
  have HBT := Lib.hid (bts_below hB HE.out)
  have HLN := Lib.hid hl
  have HLD : Hid ((l.drop 11).length = n - 11) := Lib.hid (by rw [List.length_drop, hl])
  have HN := Lib.hid hn
  have HN2 := Lib.hid hn2
  have HC := Lib.hid hc
  have hc11 : 11 ≤ c := by omega
  obtain ⟨A3, hA3, hB3⟩ : ∃ A3 : Option Addr, (if c = 11 then some (⟨b, o, none⟩ : Addr) else some ⟨b, o + 11, none⟩) = A3 ∧ Bts W A3 (l.drop 11) := by
    by_cases h11 : c = 11
    · refine ⟨_, rfl, ?_⟩
      rw [if_pos h11]
      have e : l.drop 11 = [] := List.drop_eq_nil_of_le (by omega)
      rw [e]
      exact ⟨fun i => by simp, fun h => by simp at h⟩
    · refine ⟨_, rfl, ?_⟩
      rw [if_neg h11]
      refine ⟨fun i => by rw [List.getD_eq_getElem?_getD, List.getElem?_drop, ← List.getD_eq_getElem?_getD]; exact hB.1 _, fun hp => ⟨b, o + 11, rfl, fun i hi => ?_⟩⟩
      obtain ⟨b', o', e, hcl⟩ := hB.2 (by omega)
      injection e with e
      injection e with e1 e2
      subst e1 e2
      rw [List.length_drop] at hi
      rw [Nat.add_assoc, hcl (11 + i) (by omega), List.getD_eq_getElem?_getD, List.getD_eq_getElem?_getD, List.getElem?_drop]
  have HB3 := Lib.hid hB3
  have hbt1 := HBT.out
  obtain ⟨b', o', e, hcl⟩ := hbt1.2 (by rw [HLN.out]; omega)
  injection e with e
  injection e with e1 e2
  subst e1 e2
  have HCL : Hid (∀ i, i < n → (W.alloc (.cells #[.int .i64 0, .int .i64 0, .int .i64 0, .int .i64 0, .int .u16 0, .slice none 0 0] 27)).cell? ⟨b, o + i, none⟩ = some (.int .u8 ((l.getD i 0 : Nat) : Int))) := Lib.hid (fun i hi => hcl i (by rw [HLN.out]; exact hi))
  have HL : Hid (∀ i : Nat, l.getD i 0 < 256) := Lib.hid HBT.out.1
  clear hl hB hcl hbt1 hB3
  go_enter Tryd.func9, Tryd.ntmps9
  go_upto_region 3 with fail
  generalize W.alloc (.cells #[.int .i64 0, .int .i64 0, .int .i64 0, .int .i64 0, .int .u16 0, .slice none 0 0] 27) = w0 at *
  generalize hrb : W.heap.size = rb at *
  have HRE := Lib.hid hrb
  clear hrb
  obtain ⟨l0, hl0⟩ : ∃ x, x = l.getD 0 0 := ⟨_, rfl⟩
  have k0 := HCL.out 0 (by have := HN.out; omega)
  have q0 : l0 < 256 := by rw [hl0]; exact HL.out 0
  rw [← hl0] at k0
  obtain ⟨l1, hl1⟩ : ∃ x, x = l.getD 1 0 := ⟨_, rfl⟩
  have k1 := HCL.out 1 (by have := HN.out; omega)
  have q1 : l1 < 256 := by rw [hl1]; exact HL.out 1
  rw [← hl1] at k1
  obtain ⟨l2, hl2⟩ : ∃ x, x = l.getD 2 0 := ⟨_, rfl⟩
  have k2 := HCL.out 2 (by have := HN.out; omega)
  have q2 : l2 < 256 := by rw [hl2]; exact HL.out 2
  rw [← hl2] at k2
  obtain ⟨l3, hl3⟩ : ∃ x, x = l.getD 3 0 := ⟨_, rfl⟩
  have k3 := HCL.out 3 (by have := HN.out; omega)
  have q3 : l3 < 256 := by rw [hl3]; exact HL.out 3
  rw [← hl3] at k3
  obtain ⟨l4, hl4⟩ : ∃ x, x = l.getD 4 0 := ⟨_, rfl⟩
  have k4 := HCL.out 4 (by have := HN.out; omega)
  have q4 : l4 < 256 := by rw [hl4]; exact HL.out 4
  rw [← hl4] at k4
  obtain ⟨l7, hl7⟩ : ∃ x, x = l.getD 7 0 := ⟨_, rfl⟩
  have k7 := HCL.out 7 (by have := HN.out; omega)
  have q7 : l7 < 256 := by rw [hl7]; exact HL.out 7
  rw [← hl7] at k7
  obtain ⟨l8, hl8⟩ : ∃ x, x = l.getD 8 0 := ⟨_, rfl⟩
  have k8 := HCL.out 8 (by have := HN.out; omega)
  have q8 : l8 < 256 := by rw [hl8]; exact HL.out 8
  rw [← hl8] at k8
  rw [Nat.add_zero] at k0
  have hbl := cell_lt k0
  have HBL : Hid (b < w0.heap.size) := Lib.hid hbl
  obtain ⟨x4, hx4⟩ : ∃ x, x = 256 * l4 := ⟨_, rfl⟩
  obtain ⟨x8, hx8⟩ : ∃ x, x = 256 * l8 := ⟨_, rfl⟩
  obtain ⟨pw, hpw⟩ : ∃ x, x = l3 + x4 := ⟨_, rfl⟩
  obtain ⟨sw, hsw⟩ : ∃ x, x = l7 + x8 := ⟨_, rfl⟩
  have w0_ : IntKind.i64.wrap (l0 : Int) = (l0 : Int) := IntWalk.i64_in _ (by omega)
  have w1 : IntKind.i64.wrap (l1 : Int) = (l1 : Int) := IntWalk.i64_in _ (by omega)
  have w2 : IntKind.i64.wrap (l2 : Int) = (l2 : Int) := IntWalk.i64_in _ (by omega)
  have w3 : IntKind.i64.wrap (l3 : Int) = (l3 : Int) := IntWalk.i64_in _ (by omega)
  have w4 : IntKind.i64.wrap (l4 : Int) = (l4 : Int) := IntWalk.i64_in _ (by omega)
  have w7 : IntKind.u16.wrap (l7 : Int) = (l7 : Int) := by rw [IntKind.wrap_u16]; omega
  have w8 : IntKind.u16.wrap (l8 : Int) = (l8 : Int) := by rw [IntKind.wrap_u16]; omega
  have y4 : IntKind.i64.wrap (256 * (l4 : Int)) = (x4 : Int) := by rw [show 256 * (l4 : Int) = (x4 : Int) by omega]; exact IntWalk.i64_in _ (by omega)
  have y3 : IntKind.i64.wrap ((l3 : Int) + (x4 : Int)) = (pw : Int) := by rw [show (l3 : Int) + (x4 : Int) = (pw : Int) by omega]; exact IntWalk.i64_in _ (by omega)
  have y8 : IntKind.u16.wrap (256 * (l8 : Int)) = (x8 : Int) := by rw [show 256 * (l8 : Int) = (x8 : Int) by omega, IntKind.wrap_u16]; omega
  have y7 : IntKind.u16.wrap ((l7 : Int) + (x8 : Int)) = (sw : Int) := by rw [show (l7 : Int) + (x8 : Int) = (sw : Int) by omega, IntKind.wrap_u16]; omega
  have HPW : Hid (pw = rP l) := Lib.hid (by rw [hpw, hx4, hl3, hl4]; rfl)
  have HSW : Hid (sw = rS l) := Lib.hid (by rw [hsw, hx8, hl7, hl8]; rfl)
  have HL0 := Lib.hid hl0
  have HL1 := Lib.hid hl1
  have HL2 := Lib.hid hl2
  have HQ : Hid (l0 < 256 ∧ l1 < 256 ∧ l2 < 256 ∧ pw < 65536 ∧ sw < 65536) := Lib.hid ⟨q0, q1, q2, by omega, by omega⟩
  have s0 := fun (W' : World) (h : Ext w0.drew W') => (h.cell (p := ⟨b, o, none⟩) hbl).trans k0
  have s1 := fun (W' : World) (h : Ext w0.drew W') => (h.cell (p := ⟨b, o + 1, none⟩) hbl).trans k1
  have s2 := fun (W' : World) (h : Ext w0.drew W') => (h.cell (p := ⟨b, o + 2, none⟩) hbl).trans k2
  have s3 := fun (W' : World) (h : Ext w0.drew W') => (h.cell (p := ⟨b, o + 3, none⟩) hbl).trans k3
  have s4 := fun (W' : World) (h : Ext w0.drew W') => (h.cell (p := ⟨b, o + 4, none⟩) hbl).trans k4
  have s7 := fun (W' : World) (h : Ext w0.drew W') => (h.cell (p := ⟨b, o + 7, none⟩) hbl).trans k7
  have s8 := fun (W' : World) (h : Ext w0.drew W') => (h.cell (p := ⟨b, o + 8, none⟩) hbl).trans k8
  clear k0 k1 k2 k3 k4 k7 k8 hl0 hl1 hl2 hl3 hl4 hl7 hl8 hx4 hx8 hpw hsw q0 q1 q2 q3 q4 q7 q8
  have n0 : 0 < n := by omega
  have nI1 : (1 : Int) < (n : Int) := by omega
  have nI2 : (2 : Int) < (n : Int) := by omega
  have nI3 : (3 : Int) < (n : Int) := by omega
  have nI4 : (4 : Int) < (n : Int) := by omega
  have nI7 : (7 : Int) < (n : Int) := by omega
  have nI8 : (8 : Int) < (n : Int) := by omega
  go_wp2_with fail
  refine wp_region_plan [(0, false), (1, false), (2, false), (3, false), (4, false), (5, false), (6, false), (7, false), (8, false), (9, false), (10, false), (11, false), (12, false), (13, false), (14, false), (15, false), (16, false), (17, false), (18, false), (19, false), (20, false), (21, false), (22, false), (23, false), (24, false), (25, false), (26, false), (27, false), (28, false), (29, false), (30, false), (31, false), (32, false), (33, true), (34, true)] (by kernel_rfl) (by kernel_rfl) (fun _ d _ _ _ h => by cases d <;> exact h) ?_
  iterate 33 (refine plan_take (v := ?_) rfl (by kernel_rfl) ?_ ?_; rotate_left; (focus (intro w' hw'; try go_simp; try with_reducible rfl)); simp only [Act.put, List.setIfInBounds_toArray, List.set_cons_zero, List.set_cons_succ])
  clear s0 s1 s2 s3 s4 s7 s8 w0_ w1 w2 w3 w4 w7 w8 y3 y4 y7 y8 n0 nI1 nI2 nI3 nI4 nI7 nI8
  refine plan_turn rfl (by kernel_rfl) (fun K hK => ?_)
  go_simp
  refine hK _ _ ⟨(Ext.refl _).alloc (Nat.le_refl _) _, ?_⟩
  clear hK K
  have G1 : Hid (Blk (w0.alloc (.cells #[.int .i64 0, .int .i64 0, .int .i64 0, .int .i64 0, .int .u16 0, .slice none 0 0] 27)).drew w0.heap.size 27 #[.int .i64 0, .int .i64 0, .int .i64 0, .int .i64 0, .int .u16 0, .slice none 0 0]) := Lib.hid (Blkf.new_at _ _ _ _ rfl)
  have B1 : Hid (Below w0.heap.size w0 (w0.alloc (.cells #[.int .i64 0, .int .i64 0, .int .i64 0, .int .i64 0, .int .u16 0, .slice none 0 0] 27)).drew) := Lib.hid (((Below.refl _ w0).alloc (Nat.le_refl _) _).drew)
  generalize (w0.alloc (.cells #[.int .i64 0, .int .i64 0, .int .i64 0, .int .i64 0, .int .u16 0, .slice none 0 0] 27)).drew = w1 at *
  have HGR : Hid (rb < w0.heap.size) := HRB
  obtain ⟨g, hg⟩ : ∃ g, g = w0.heap.size := ⟨_, rfl⟩
  rw [← hg] at G1 HGR ⊢
  have X1 := Lib.hid (HX.out.below B1.out HX.out.lt)
  have E1 := Lib.hid (HE.out.trans (B1.out.mono (by rw [← HRE.out]; exact HE.out.size)))
  have BL1 := Lib.hid (bts_below HBT.out B1.out)
  have HGB : Hid (w0.heap.size ≤ g) := Lib.hid (by omega)
  clear hg B1 HX HE HBT HRB HCL
  have m0 := G1.out.cell 0
  have m1 := G1.out.cell 1
  have m2 := G1.out.cell 2
  have m3 := G1.out.cell 3
  have m4 := G1.out.cell 4
  have m5 := G1.out.cell 5
  simp only [List.getElem?_toArray, List.getElem?_cons_zero, List.getElem?_cons_succ] at m0 m1 m2 m3 m4 m5
  have z0 := Blk.frozen G1.out 0
  have z1 := Blk.frozen G1.out 1
  have z2 := Blk.frozen G1.out 2
  have z3 := Blk.frozen G1.out 3
  have z4 := Blk.frozen G1.out 4
  have z5 := Blk.frozen G1.out 5
  have gl := G1.out.lt
  refine plan_last rfl (by kernel_rfl) (by kernel_rfl) (fun K hK => ?_)
  go_simp
  refine hK _ _ ?_
  clear hK K m0 m1 m2 m3 m4 m5 z0 z1 z2 z3 z4 z5 gl
  refine plan_end ?_
  have G2 : Hid (Blk (set6 w1 g (.int .i64 (l0 : Int)) (.int .i64 (pw : Int)) (.int .i64 (l1 : Int)) (.int .i64 (l2 : Int)) (.int .u16 (sw : Int)) (.slice none 0 0)) g 27 _) := Lib.hid (set6_blk G1.out _ _ _ _ _ _)
  have K2 : Hid (Keeps (fun x => x = g) w1 (set6 w1 g (.int .i64 (l0 : Int)) (.int .i64 (pw : Int)) (.int .i64 (l1 : Int)) (.int .i64 (l2 : Int)) (.int .u16 (sw : Int)) (.slice none 0 0))) := Lib.hid (set6_keeps (Keeps.refl (fun x => x = g) w1) (.inl rfl) _ _ _ _ _ _)
  have BL2 := Lib.hid (bts_msg BL1.out (fun x => by simp) G1.out K2.out)
  have X2 := Lib.hid (K2.out.blk X1.out (by have := HGR.out; omega))
  have E2 := Lib.hid (E1.out.trans (K2.out.below (B := rb) (fun i e => by have := HGR.out; omega) (by have := E1.out.size; have := HRE.out; omega)))
  unfold set6 at G2 K2 BL2 X2 E2
  generalize (((((w1.setCell ⟨g, 0, none⟩ (.int .i64 (l0 : Int))).setCell ⟨g, 1, none⟩ (.int .i64 (pw : Int))).setCell ⟨g, 2, none⟩ (.int .i64 (l1 : Int))).setCell ⟨g, 3, none⟩ (.int .i64 (l2 : Int))).setCell ⟨g, 4, none⟩ (.int .u16 (sw : Int))).setCell ⟨g, 5, none⟩ (.slice none 0 0) = w2 at *
  clear G1 K2 BL1 X1 E1
  go_wp2_with fail
  have m5 := G2.out.cell 5
  have gl := G2.out.lt
  simp only [List.getElem?_toArray, List.getElem?_cons_zero, List.getElem?_cons_succ] at m5
  have s5 := fun (W' : World) (h : Ext w2.drew W') => (h.cell (p := ⟨g, 5, none⟩) gl).trans m5
  have n11 : (11 : Int) ≤ (n : Int) := by omega
  have hnc : (n : Int) ≤ (c : Int) := by omega
  have hnw : (n : Int) - 11 = ((n - 11 : Nat) : Int) := by omega
  refine wp_region_plan [(0, false), (1, false), (2, false), (3, false), (4, true), (5, false), (6, true)] (by kernel_rfl) (by kernel_rfl) (fun _ d _ _ _ h => by cases d <;> exact h) ?_
  iterate 4 (refine plan_take (v := ?_) rfl (by kernel_rfl) ?_ ?_; rotate_left; (focus (intro w' hw'; try go_simp; try with_reducible rfl)); simp only [Act.put, List.setIfInBounds_toArray, List.set_cons_zero, List.set_cons_succ])
  clear m5 s5 hnw
  refine plan_turn rfl (by kernel_rfl) (fun K hK => ?_)
  have HSZ : Hid (rb ≤ w2.heap.size) := Lib.hid (by have := E2.out.size; have := HRE.out; omega)
  have HRD : Hid (Reads w2.drew w2.heap.size 1 A3 (n - 11) ((l.drop 11).map bv)) := Lib.hid (by
    have h := reads_bts (bts_below (bts_below HB3.out (HRE.out ▸ E2.out : Below W.heap.size W w2)) (Below.refl _ w2).drew)
    rw [HLD.out] at h
    exact h)
  refine wp_append_any w2.drew (.tmp 48) (.tmp 50) _ rfl rb 5 i0 _ 1 1 Tryd.underlying22 hi0 hz0 hz1 hz2 rfl (by decide) _ 0 [] rfl ⟨rfl, .inl ⟨rfl, rfl⟩⟩ w2.heap.size A3 (n - 11) (c - 11) ((l.drop 11).map bv) rfl HRD.out (one_bv _) (by unfold maxLen; omega) (by omega) HSZ.out (fun v5 w5 hown hgrow hat => ?_)
  have X5 : Hid (Below w2.drew.heap.size w2.drew w5) := Lib.hid ((Below.refl _ w2.drew).grown hgrow (Nat.le_refl _) (fun k hk => by cases hk))
  refine hK _ _ ⟨X5.out, ?_⟩
  clear hK K hgrow
  have HAT := Lib.hid hat
  obtain ⟨A1, c1, e5, hB1, hlt1⟩ := bts_own (l := l.drop 11) hown HB3.out.1 (by rw [HLD.out]; omega)
  have HOW := Lib.hid hown
  rw [HLD.out] at e5
  have HB1 := Lib.hid hB1
  subst e5
  clear hown hat hB1 hlt1 HRD
  have B5 := Lib.hid ((Below.refl w2.heap.size w2).drew.trans X5.out)
  have G5 := Lib.hid (G2.out.drew.below X5.out G2.out.lt)
  have R5 := Lib.hid (X2.out.drew.below X5.out X2.out.lt)
  have BL5 := Lib.hid (bts_below BL2.out B5.out)
  have E5 := Lib.hid (E2.out.trans (B5.out.mono HSZ.out))
  clear G2 X2 BL2 E2 X5
  iterate 1 (refine plan_take (v := ?_) rfl (by kernel_rfl) ?_ ?_; rotate_left; (focus (intro w' hw'; try go_simp; try with_reducible rfl)); simp only [Act.put, List.setIfInBounds_toArray, List.set_cons_zero, List.set_cons_succ])
  have m5 := G5.out.cell 5
  have gl5 := G5.out.lt
  have z5 := Blk.frozen G5.out 5
  simp only [List.getElem?_toArray, List.getElem?_cons_zero, List.getElem?_cons_succ] at m5
  refine plan_last rfl (by kernel_rfl) (by kernel_rfl) (fun K hK => ?_)
  go_simp
  refine hK _ _ ?_
  clear hK K m5 z5 gl5 gl
  refine plan_end ?_
  have G6 : Hid (Blk (w5.setCell ⟨g, 5, none⟩ (.slice A1 (n - 11) c1)) g 27 #[.int .i64 (l0 : Int), .int .i64 (pw : Int), .int .i64 (l1 : Int), .int .i64 (l2 : Int), .int .u16 (sw : Int), .slice A1 (n - 11) c1]) := Lib.hid (Blkf.set_ G5.out 5 _)
  have K6 : Hid (Keeps (fun x => x = g) w5 (w5.setCell ⟨g, 5, none⟩ (.slice A1 (n - 11) c1))) := Lib.hid ((Keeps.refl (fun x => x = g) w5).setCell (p := ⟨g, 5, none⟩) (.inl rfl) _)
  have R6 := Lib.hid (K6.out.blk R5.out (by have := HGR.out; omega))
  have BL6 := Lib.hid (bts_msg BL5.out (fun x => by simp) G5.out K6.out)
  have HB6 := Lib.hid (bts_msg HB1.out (fun x => by simp) G5.out K6.out)
  have E6 := Lib.hid (E5.out.trans (K6.out.below (B := rb) (fun i e => by have := HGR.out; omega) (by have := E5.out.size; have := HRE.out; omega)))
  clear G5 K6 R5 BL5 HB1 E5 HOW HAT B5 HSZ
  generalize w5.setCell ⟨g, 5, none⟩ (.slice A1 (n - 11) c1) = w6 at *
  clear hA3 hbl HBL
  clear w5 w2 w1 HB3
  go_wp2_with fail
  obtain ⟨b', o', e, hcl⟩ := BL6.out.2 (by rw [HLN.out]; omega)
  injection e with e
  injection e with e1 e2
  subst e1 e2
  obtain ⟨l5, hl5⟩ : ∃ x, x = l.getD 5 0 := ⟨_, rfl⟩
  obtain ⟨l6, hl6⟩ : ∃ x, x = l.getD 6 0 := ⟨_, rfl⟩
  have k5 := hcl 5 (by rw [HLN.out]; omega)
  have k6 := hcl 6 (by rw [HLN.out]; omega)
  rw [← hl5] at k5
  rw [← hl6] at k6
  have hbl := cell_lt k5
  have hgl := G6.out.lt
  have m0 := fun (W' : World) (h : Ext w6.drew W') => (h.cell (p := ⟨g, 0, none⟩) hgl).trans (G6.out.cell 0)
  have m1 := fun (W' : World) (h : Ext w6.drew W') => (h.cell (p := ⟨g, 1, none⟩) hgl).trans (G6.out.cell 1)
  have m2 := fun (W' : World) (h : Ext w6.drew W') => (h.cell (p := ⟨g, 2, none⟩) hgl).trans (G6.out.cell 2)
  have m3 := fun (W' : World) (h : Ext w6.drew W') => (h.cell (p := ⟨g, 3, none⟩) hgl).trans (G6.out.cell 3)
  have m4 := fun (W' : World) (h : Ext w6.drew W') => (h.cell (p := ⟨g, 4, none⟩) hgl).trans (G6.out.cell 4)
  have m5 := fun (W' : World) (h : Ext w6.drew W') => (h.cell (p := ⟨g, 5, none⟩) hgl).trans (G6.out.cell 5)
  simp only [List.getElem?_toArray, List.getElem?_cons_zero, List.getElem?_cons_succ] at m0 m1 m2 m3 m4 m5
  have t5 := fun (W' : World) (h : Ext w6.drew W') => (h.cell (p := ⟨b, o + 5, none⟩) hbl).trans k5
  have t6 := fun (W' : World) (h : Ext w6.drew W') => (h.cell (p := ⟨b, o + 6, none⟩) hbl).trans k6
  have HL5 := Lib.hid hl5
  have HL6 := Lib.hid hl6
  have nI5 : (5 : Int) < (n : Int) := by omega
  have nI6 : (6 : Int) < (n : Int) := by omega
  clear hcl k5 k6 hl5 hl6
  by_cases h5 : l5 = 0
  · by_cases h6 : l6 = 0
    · have i5 : ((l5 : Int) != 0) = false := by rw [h5]; rfl
      have i6 : ((l6 : Int) != 0) = false := by rw [h6]; rfl
      have c5 : ((l5 : Int) == 0) = true := by rw [h5]; rfl
      have c6 : ((l6 : Int) == 0) = true := by rw [h6]; rfl
      have j5 : (l5 : Int) = 0 := by omega
      have j6 : (l6 : Int) = 0 := by omega
      have HF0 : Hid (rgetB l = (rRight l && decide (rPut l = l))) := Lib.hid (by unfold rgetB; rw [← HL5.out, ← HL6.out, h5, h6]; simp)
      clear h5 h6 i5 i6 c5 c6
      cases hr : rRight l with
      | false =>
        have HF : Hid (rgetB l = false) := Lib.hid (by rw [HF0.out, hr]; rfl)
        have HRR : Hid (rightM (l0 : Int) (pw : Int) (l1 : Int) (l2 : Int) sw (l.drop 11) = false) := Lib.hid (by rw [HL0.out, HL1.out, HL2.out, HPW.out, HSW.out]; exact hr)
        clear hr
        refine wp_region_plan [(0, false), (1, false), (2, false), (3, false), (4, false), (5, false), (6, false), (7, false), (8, false), (9, false), (10, false), (11, false), (12, true), (13, false), (14, false), (15, false), (16, false), (18, false), (19, false), (17, false), (20, false), (21, false)] (by kernel_rfl) (by kernel_rfl) (fun _ d _ _ _ h => by cases d <;> exact h) ?_
        iterate 12 (refine plan_take (v := ?_) rfl (by kernel_rfl) ?_ ?_; rotate_left; (focus (intro w' hw'; try go_simp; try with_reducible rfl)); simp only [Act.put, List.setIfInBounds_toArray, List.set_cons_zero, List.set_cons_succ])
        refine plan_call rfl (by kernel_rfl) (by go_simp; exact ⟨rfl, rfl⟩) ?_
        refine (rright_any (l0 : Int) (pw : Int) (l1 : Int) (l2 : Int) sw A1 (l.drop 11) (n - 11) c1 _ (bts_below HB6.out ((Below.refl _ w6).drew)) HLD.out (by omega)).mono ?_
        rintro e w7 ⟨rfl, hb7⟩
        rw [HRR.out]
        refine ⟨_, rfl, hb7, ?_⟩
        simp only [Act.put, List.setIfInBounds_toArray, List.set_cons_zero, List.set_cons_succ]
        have D7 : Hid (Below w6.heap.size w6 w7) := Lib.hid (((Below.refl w6.heap.size w6).drew).trans hb7)
        have R7 := Lib.hid (R6.out.drew.below hb7 R6.out.lt)
        have E7 := Lib.hid (E6.out.trans (D7.out.mono (by have := E6.out.size; have := HRE.out; omega)))
        clear hb7 D7 R6 E6 G6 HB6 BL6 t5 t6 m0 m1 m2 m3 m4 m5
        iterate 3 (refine plan_take (v := ?_) rfl (by kernel_rfl) ?_ ?_; rotate_left; (focus (intro w' hw'; try go_simp; try with_reducible rfl)); simp only [Act.put, List.setIfInBounds_toArray, List.set_cons_zero, List.set_cons_succ])
        iterate 5 (refine plan_skip rfl (by kernel_rfl) ?_; simp only [Act.put, List.setIfInBounds_toArray, List.set_cons_zero, List.set_cons_succ])
        iterate 1 (refine plan_take (v := ?_) rfl (by kernel_rfl) ?_ ?_; rotate_left; (focus (intro w' hw'; try go_simp; try with_reducible rfl)); simp only [Act.put, List.setIfInBounds_toArray, List.set_cons_zero, List.set_cons_succ])
        refine plan_end ?_
        have R_ := R7.out
        have e0 := R7.out.cell 0
        have e1 := R7.out.cell 1
        have e2 := R7.out.cell 2
        have e3 := R7.out.cell 3
        have e4 := R7.out.cell 4
        have e5 := R7.out.cell 5
        have f0 := Blk.frozen R7.out 0
        have f1 := Blk.frozen R7.out 1
        have f2 := Blk.frozen R7.out 2
        have f3 := Blk.frozen R7.out 3
        have f4 := Blk.frozen R7.out 4
        have f5 := Blk.frozen R7.out 5
        have rl := R7.out.lt
        simp only [List.getElem?_toArray, List.getElem?_cons_zero, List.getElem?_cons_succ] at e0 e1 e2 e3 e4 e5
        clear R_
        go_wp2_with fail
        refine bodyPost_ret (v := .tuple #[zeroM, .bool false]) (res_cell_slot Tryd.results9 _ _ rb 27 _ _ rfl rfl (set6_blk R7.out (.int .i64 0) (.int .i64 0) (.int .i64 0) (.int .i64 0) (.int .u16 0) (.slice none 0 0)) (by kernel_rfl)) rfl ?_
        unfold RGetM
        rw [HF.out, if_neg (by decide)]
        exact ⟨(HRE.out ▸ (E7.out.trans ((set6_keeps (Keeps.refl (fun x => x = rb) _) (.inl rfl) _ _ _ _ _ _).below (fun i e => by omega) (by have := E7.out.size; have := HRE.out; omega))) : Below W.heap.size W _), rfl⟩
      | true =>
        have HRR : Hid (rightM (l0 : Int) (pw : Int) (l1 : Int) (l2 : Int) sw (l.drop 11) = true) := Lib.hid (by rw [HL0.out, HL1.out, HL2.out, HPW.out, HSW.out]; exact hr)
        have HF1 : Hid (rgetB l = decide (rPut l = l)) := Lib.hid (by rw [HF0.out, hr]; simp)
        have HPE : Hid (rPut l = putL l0 pw l1 l2 sw (l.drop 11)) := Lib.hid (by unfold rPut; rw [HL0.out, HL1.out, HL2.out, HPW.out, HSW.out])
        have HBD := Lib.hid (right_bounds HRR.out)
        clear hr
        refine wp_region_plan [(0, false), (1, false), (2, false), (3, false), (4, false), (5, false), (6, false), (7, false), (8, false), (9, false), (10, false), (11, false), (12, true), (13, false), (14, false), (15, false), (16, false), (18, false), (19, false), (17, true), (20, false), (21, false)] (by kernel_rfl) (by kernel_rfl) (fun _ d _ _ _ h => by cases d <;> exact h) ?_
        iterate 12 (refine plan_take (v := ?_) rfl (by kernel_rfl) ?_ ?_; rotate_left; (focus (intro w' hw'; try go_simp; try with_reducible rfl)); simp only [Act.put, List.setIfInBounds_toArray, List.set_cons_zero, List.set_cons_succ])
        refine plan_call rfl (by kernel_rfl) (by go_simp; exact ⟨rfl, rfl⟩) ?_
        refine (rright_any (l0 : Int) (pw : Int) (l1 : Int) (l2 : Int) sw A1 (l.drop 11) (n - 11) c1 _ (bts_below HB6.out ((Below.refl _ w6).drew)) HLD.out (by omega)).mono ?_
        rintro e w7 ⟨rfl, hb7⟩
        rw [HRR.out]
        refine ⟨_, rfl, hb7, ?_⟩
        simp only [Act.put, List.setIfInBounds_toArray, List.set_cons_zero, List.set_cons_succ]
        have D7 : Hid (Below w6.heap.size w6 w7) := Lib.hid (((Below.refl w6.heap.size w6).drew).trans hb7)
        have R7 := Lib.hid (R6.out.drew.below hb7 R6.out.lt)
        have G7 := Lib.hid (G6.out.drew.below hb7 G6.out.lt)
        have HB7 := Lib.hid (bts_below HB6.out D7.out)
        have BL7 := Lib.hid (bts_below BL6.out D7.out)
        have E7 := Lib.hid (E6.out.trans (D7.out.mono (by have := E6.out.size; have := HRE.out; omega)))
        clear hb7 D7 R6 E6 G6 HB6 BL6 t5 t6 m0 m1 m2 m3 m4 m5
        have gl7 := G7.out.lt
        have m0 := fun (W' : World) (h : Ext w7 W') => (h.cell (p := ⟨g, 0, none⟩) gl7).trans (G7.out.cell 0)
        have m1 := fun (W' : World) (h : Ext w7 W') => (h.cell (p := ⟨g, 1, none⟩) gl7).trans (G7.out.cell 1)
        have m2 := fun (W' : World) (h : Ext w7 W') => (h.cell (p := ⟨g, 2, none⟩) gl7).trans (G7.out.cell 2)
        have m3 := fun (W' : World) (h : Ext w7 W') => (h.cell (p := ⟨g, 3, none⟩) gl7).trans (G7.out.cell 3)
        have m4 := fun (W' : World) (h : Ext w7 W') => (h.cell (p := ⟨g, 4, none⟩) gl7).trans (G7.out.cell 4)
        have m5 := fun (W' : World) (h : Ext w7 W') => (h.cell (p := ⟨g, 5, none⟩) gl7).trans (G7.out.cell 5)
        simp only [List.getElem?_toArray, List.getElem?_cons_zero, List.getElem?_cons_succ] at m0 m1 m2 m3 m4 m5
        have cv := fun (W' : World) (h : Ext w7 W') => conv_bts (c := c) (bts_below BL7.out h) HLN.out
        iterate 6 (refine plan_take (v := ?_) rfl (by kernel_rfl) ?_ ?_; rotate_left; (focus (intro w' hw'; try go_simp; try with_reducible rfl)); simp only [Act.put, List.setIfInBounds_toArray, List.set_cons_zero, List.set_cons_succ])
        refine plan_call rfl (by kernel_rfl) (by go_simp; exact ⟨rfl, rfl⟩) ?_
        refine (rput_yes l0 pw l1 l2 sw A1 (l.drop 11) (n - 11) c1 _ HB7.out HLD.out HBD.out.1 HBD.out.2.1 HBD.out.2.2.1 HBD.out.2.2.2 (by omega) (by have := HQ.out; omega)).mono ?_
        rintro e w8 ⟨rfl, hb8⟩
        refine ⟨_, rfl, hb8, ?_⟩
        simp only [Act.put, List.setIfInBounds_toArray, List.set_cons_zero, List.set_cons_succ]
        have R8 := Lib.hid (R7.out.below hb8 R7.out.lt)
        have G8 := Lib.hid (G7.out.below hb8 G7.out.lt)
        have HB8 := Lib.hid (bts_below HB7.out hb8)
        have E8 := Lib.hid (E7.out.trans (hb8.mono (by have := E7.out.size; have := HRE.out; omega)))
        clear hb8 R7 G7 HB7 E7 BL7 m0 m1 m2 m3 m4 m5 cv gl7
        by_cases hp : putL l0 pw l1 l2 sw (l.drop 11) = l
        · have HF : Hid (rgetB l = true) := Lib.hid (by rw [HF1.out, HPE.out]; exact decide_eq_true hp)
          rw [hp]
          clear hp
          iterate 2 (refine plan_take (v := ?_) rfl (by kernel_rfl) ?_ ?_; rotate_left; (focus (intro w' hw'; try go_simp; try with_reducible rfl)); simp only [Act.put, List.setIfInBounds_toArray, List.set_cons_zero, List.set_cons_succ])
          refine plan_end ?_
          have R_ := R8.out
          have e0 := R8.out.cell 0
          have e1 := R8.out.cell 1
          have e2 := R8.out.cell 2
          have e3 := R8.out.cell 3
          have e4 := R8.out.cell 4
          have e5 := R8.out.cell 5
          have f0 := Blk.frozen R8.out 0
          have f1 := Blk.frozen R8.out 1
          have f2 := Blk.frozen R8.out 2
          have f3 := Blk.frozen R8.out 3
          have f4 := Blk.frozen R8.out 4
          have f5 := Blk.frozen R8.out 5
          have rl := R8.out.lt
          simp only [List.getElem?_toArray, List.getElem?_cons_zero, List.getElem?_cons_succ] at e0 e1 e2 e3 e4 e5
          have m0 := G8.out.cell 0
          have m1 := G8.out.cell 1
          have m2 := G8.out.cell 2
          have m3 := G8.out.cell 3
          have m4 := G8.out.cell 4
          have m5 := G8.out.cell 5
          have gl := G8.out.lt
          simp only [List.getElem?_toArray, List.getElem?_cons_zero, List.getElem?_cons_succ] at m0 m1 m2 m3 m4 m5
          have hgr : rb ≠ g := by have := HGR.out; omega
          clear R_
          go_wp2_with fail
          refine bodyPost_ret (v := .tuple #[msV (l0 : Int) (pw : Int) (l1 : Int) (l2 : Int) sw A1 (n - 11) c1, .bool true]) (res_cell_slot Tryd.results9 _ _ rb 27 _ _ rfl rfl (set6_blk R8.out (.int .i64 (l0 : Int)) (.int .i64 (pw : Int)) (.int .i64 (l1 : Int)) (.int .i64 (l2 : Int)) (.int .u16 (sw : Int)) (.slice A1 (n - 11) c1)) (by kernel_rfl)) rfl ?_
          unfold RGetM
          rw [HF.out, if_pos rfl]
          refine ⟨(HRE.out ▸ (E8.out.trans ((set6_keeps (Keeps.refl (fun x => x = rb) _) (.inl rfl) _ _ _ _ _ _).below (fun i e => by omega) (by have := E8.out.size; have := HRE.out; omega))) : Below W.heap.size W _), A1, c1, ?_, bts_msg HB8.out (fun x => by simp) R8.out (set6_keeps (Keeps.refl (fun x => x = rb) _) (.inl rfl) _ _ _ _ _ _)⟩
          rw [← HL0.out, ← HL1.out, ← HL2.out, ← HPW.out, ← HSW.out]
        · have HF : Hid (rgetB l = false) := Lib.hid (by rw [HF1.out, HPE.out]; exact decide_eq_false hp)
          have hne : (strB (putL l0 pw l1 l2 sw (l.drop 11))).toList ≠ (strB l).toList := fun e => hp (strB_inj (put_lt HBD.out.1 HBD.out.2.1 HBD.out.2.2.1 HBD.out.2.2.2 (by have := HQ.out; omega) HB8.out.1 (by rw [HLD.out]; omega)) HL.out e)
          clear hp
          generalize strB (putL l0 pw l1 l2 sw (l.drop 11)) = T at *
          generalize strB l = T2 at *
          have hd2 : (T.toList == T2.toList) = false := beq_eq_false_iff_ne.2 hne
          iterate 2 (refine plan_take (v := ?_) rfl (by kernel_rfl) ?_ ?_; rotate_left; (focus (intro w' hw'; try go_simp; try with_reducible rfl)); simp only [Act.put, List.setIfInBounds_toArray, List.set_cons_zero, List.set_cons_succ])
          refine plan_end ?_
          have R_ := R8.out
          have e0 := R8.out.cell 0
          have e1 := R8.out.cell 1
          have e2 := R8.out.cell 2
          have e3 := R8.out.cell 3
          have e4 := R8.out.cell 4
          have e5 := R8.out.cell 5
          have f0 := Blk.frozen R8.out 0
          have f1 := Blk.frozen R8.out 1
          have f2 := Blk.frozen R8.out 2
          have f3 := Blk.frozen R8.out 3
          have f4 := Blk.frozen R8.out 4
          have f5 := Blk.frozen R8.out 5
          have rl := R8.out.lt
          simp only [List.getElem?_toArray, List.getElem?_cons_zero, List.getElem?_cons_succ] at e0 e1 e2 e3 e4 e5
          clear R_
          go_wp2_with fail
          refine bodyPost_ret (v := .tuple #[zeroM, .bool false]) (res_cell_slot Tryd.results9 _ _ rb 27 _ _ rfl rfl (set6_blk R8.out (.int .i64 0) (.int .i64 0) (.int .i64 0) (.int .i64 0) (.int .u16 0) (.slice none 0 0)) (by kernel_rfl)) rfl ?_
          unfold RGetM
          rw [HF.out, if_neg (by decide)]
          exact ⟨(HRE.out ▸ (E8.out.trans ((set6_keeps (Keeps.refl (fun x => x = rb) _) (.inl rfl) _ _ _ _ _ _).below (fun i e => by omega) (by have := E8.out.size; have := HRE.out; omega))) : Below W.heap.size W _), rfl⟩
    · have HF : Hid (rgetB l = false) := Lib.hid (by unfold rgetB; rw [← HL5.out, ← HL6.out, show (l6 == 0) = false by simpa using h6]; simp)
      have j5 : (l5 : Int) = 0 := by omega
      have i6 : ¬ (l6 : Int) = 0 := by omega
      have c6 : ((l6 : Int) != 0) = true := by simpa using i6
      clear h5 h6
      refine wp_region_plan [(0, false), (1, false), (2, false), (3, false), (4, false), (5, false), (6, false), (7, false), (8, false), (9, false), (10, false), (11, false), (12, false), (13, false), (14, false), (15, false), (16, false), (18, false), (19, false), (17, false), (20, false), (21, false)] (by kernel_rfl) (by kernel_rfl) (fun _ d _ _ _ h => by cases d <;> exact h) ?_
      iterate 11 (refine plan_take (v := ?_) rfl (by kernel_rfl) ?_ ?_; rotate_left; (focus (intro w' hw'; try go_simp; try with_reducible rfl)); simp only [Act.put, List.setIfInBounds_toArray, List.set_cons_zero, List.set_cons_succ])
      iterate 3 (refine plan_skip rfl (by kernel_rfl) ?_; simp only [Act.put, List.setIfInBounds_toArray, List.set_cons_zero, List.set_cons_succ])
      iterate 2 (refine plan_take (v := ?_) rfl (by kernel_rfl) ?_ ?_; rotate_left; (focus (intro w' hw'; try go_simp; try with_reducible rfl)); simp only [Act.put, List.setIfInBounds_toArray, List.set_cons_zero, List.set_cons_succ])
      iterate 5 (refine plan_skip rfl (by kernel_rfl) ?_; simp only [Act.put, List.setIfInBounds_toArray, List.set_cons_zero, List.set_cons_succ])
      iterate 1 (refine plan_take (v := ?_) rfl (by kernel_rfl) ?_ ?_; rotate_left; (focus (intro w' hw'; try go_simp; try with_reducible rfl)); simp only [Act.put, List.setIfInBounds_toArray, List.set_cons_zero, List.set_cons_succ])
      refine plan_end ?_
      have R7 := Lib.hid R6.out.drew
      have G7 := Lib.hid G6.out.drew
      have HB7 := Lib.hid (bts_below HB6.out ((Below.refl _ w6).drew))
      have E7 := Lib.hid E6.out.drew
      clear R6 G6 HB6 E6 BL6 t5 t6 m0 m1 m2 m3 m4 m5 hbl hgl
      generalize w6.drew = w7 at *
      have R_ := R7.out
      have e0 := R7.out.cell 0
      have e1 := R7.out.cell 1
      have e2 := R7.out.cell 2
      have e3 := R7.out.cell 3
      have e4 := R7.out.cell 4
      have e5 := R7.out.cell 5
      have f0 := Blk.frozen R7.out 0
      have f1 := Blk.frozen R7.out 1
      have f2 := Blk.frozen R7.out 2
      have f3 := Blk.frozen R7.out 3
      have f4 := Blk.frozen R7.out 4
      have f5 := Blk.frozen R7.out 5
      have rl := R7.out.lt
      simp only [List.getElem?_toArray, List.getElem?_cons_zero, List.getElem?_cons_succ] at e0 e1 e2 e3 e4 e5
      clear R_
      go_wp2_with fail
      refine bodyPost_ret (v := .tuple #[zeroM, .bool false]) (res_cell_slot Tryd.results9 _ _ rb 27 _ _ rfl rfl (set6_blk R7.out (.int .i64 0) (.int .i64 0) (.int .i64 0) (.int .i64 0) (.int .u16 0) (.slice none 0 0)) (by kernel_rfl)) rfl ?_
      unfold RGetM
      rw [HF.out, if_neg (by decide)]
      exact ⟨(HRE.out ▸ (E7.out.trans ((set6_keeps (Keeps.refl (fun x => x = rb) _) (.inl rfl) _ _ _ _ _ _).below (fun i e => by omega) (by have := E7.out.size; have := HRE.out; omega))) : Below W.heap.size W _), rfl⟩
  · have HF : Hid (rgetB l = false) := Lib.hid (by unfold rgetB; rw [← HL5.out, show (l5 == 0) = false by simpa using h5]; simp)
    have i5 : ¬ (l5 : Int) = 0 := by omega
    have c5 : ((l5 : Int) != 0) = true := by simpa using i5
    clear h5
    refine wp_region_plan [(0, false), (1, false), (2, false), (3, false), (4, false), (5, false), (6, false), (7, false), (8, false), (9, false), (10, false), (11, false), (12, false), (13, false), (14, false), (15, false), (16, false), (18, false), (19, false), (17, false), (20, false), (21, false)] (by kernel_rfl) (by kernel_rfl) (fun _ d _ _ _ h => by cases d <;> exact h) ?_
    iterate 5 (refine plan_take (v := ?_) rfl (by kernel_rfl) ?_ ?_; rotate_left; (focus (intro w' hw'; try go_simp; try with_reducible rfl)); simp only [Act.put, List.setIfInBounds_toArray, List.set_cons_zero, List.set_cons_succ])
    iterate 4 (refine plan_skip rfl (by kernel_rfl) ?_; simp only [Act.put, List.setIfInBounds_toArray, List.set_cons_zero, List.set_cons_succ])
    iterate 2 (refine plan_take (v := ?_) rfl (by kernel_rfl) ?_ ?_; rotate_left; (focus (intro w' hw'; try go_simp; try with_reducible rfl)); simp only [Act.put, List.setIfInBounds_toArray, List.set_cons_zero, List.set_cons_succ])
    iterate 3 (refine plan_skip rfl (by kernel_rfl) ?_; simp only [Act.put, List.setIfInBounds_toArray, List.set_cons_zero, List.set_cons_succ])
    iterate 2 (refine plan_take (v := ?_) rfl (by kernel_rfl) ?_ ?_; rotate_left; (focus (intro w' hw'; try go_simp; try with_reducible rfl)); simp only [Act.put, List.setIfInBounds_toArray, List.set_cons_zero, List.set_cons_succ])
    iterate 5 (refine plan_skip rfl (by kernel_rfl) ?_; simp only [Act.put, List.setIfInBounds_toArray, List.set_cons_zero, List.set_cons_succ])
    iterate 1 (refine plan_take (v := ?_) rfl (by kernel_rfl) ?_ ?_; rotate_left; (focus (intro w' hw'; try go_simp; try with_reducible rfl)); simp only [Act.put, List.setIfInBounds_toArray, List.set_cons_zero, List.set_cons_succ])
    refine plan_end ?_
    have R7 := Lib.hid R6.out.drew
    have G7 := Lib.hid G6.out.drew
    have HB7 := Lib.hid (bts_below HB6.out ((Below.refl _ w6).drew))
    have E7 := Lib.hid E6.out.drew
    clear R6 G6 HB6 E6 BL6 t5 t6 m0 m1 m2 m3 m4 m5 hbl hgl
    generalize w6.drew = w7 at *
    have R_ := R7.out
    have e0 := R7.out.cell 0
    have e1 := R7.out.cell 1
    have e2 := R7.out.cell 2
    have e3 := R7.out.cell 3
    have e4 := R7.out.cell 4
    have e5 := R7.out.cell 5
    have f0 := Blk.frozen R7.out 0
    have f1 := Blk.frozen R7.out 1
    have f2 := Blk.frozen R7.out 2
    have f3 := Blk.frozen R7.out 3
    have f4 := Blk.frozen R7.out 4
    have f5 := Blk.frozen R7.out 5
    have rl := R7.out.lt
    simp only [List.getElem?_toArray, List.getElem?_cons_zero, List.getElem?_cons_succ] at e0 e1 e2 e3 e4 e5
    clear R_
    go_wp2_with fail
    refine bodyPost_ret (v := .tuple #[zeroM, .bool false]) (res_cell_slot Tryd.results9 _ _ rb 27 _ _ rfl rfl (set6_blk R7.out (.int .i64 0) (.int .i64 0) (.int .i64 0) (.int .i64 0) (.int .u16 0) (.slice none 0 0)) (by kernel_rfl)) rfl ?_
    unfold RGetM
    rw [HF.out, if_neg (by decide)]
    exact ⟨(HRE.out ▸ (E7.out.trans ((set6_keeps (Keeps.refl (fun x => x = rb) _) (.inl rfl) _ _ _ _ _ _).below (fun i e => by omega) (by have := E7.out.size; have := HRE.out; omega))) : Below W.heap.size W _), rfl⟩
end Go.Proofs.YtkkgigdgbiklmaaDoor
