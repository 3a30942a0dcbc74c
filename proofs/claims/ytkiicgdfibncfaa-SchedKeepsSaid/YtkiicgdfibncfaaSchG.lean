/- An act of a kind. -/
import Derived.Test.YtkiicgdfibncfaaSchF
namespace Go.Proofs.Ytkiicgdfibncfaa
open Go.RowKit

def act1 (s : Int) (k : Nat) (nodes : Int) : Int × Int := if k = 0 then (intS s nodes, stS s nodes) else if k ≤ 5 then (intS s 8, stS s 8) else (0, s)
def act2 (s : Int) (k : Nat) : Int × Int := if k = 0 ∨ k = 4 ∨ k = 5 then (intS s 256, stS s 256) else (0, s)
def actV (s : Int) (k : Nat) (nodes : Int) : A3 := ((k : Int), (act1 s k nodes).1, (act2 (act1 s k nodes).2 k).1)
def actT (s : Int) (k : Nat) (nodes : Int) : Int := (act2 (act1 s k nodes).2 k).2
def actVal (x : A3) : Value := .agg #[.int .i64 x.1, .int .i64 x.2.1, .int .i64 x.2.2]
theorem three {w : World} {g : Nat} {t : TypeId} {c0 c1 c2 : Value} (h : Blk w g t #[c0, c1, c2]) : w.cell? ⟨g, 0, none⟩ = some c0 ∧ w.cell? ⟨g, 1, none⟩ = some c1 ∧ w.cell? ⟨g, 2, none⟩ = some c2 ∧
    w.frozen? ⟨g, 0, none⟩ = false ∧ w.frozen? ⟨g, 1, none⟩ = false ∧ w.frozen? ⟨g, 2, none⟩ = false ∧ g < w.heap.size := ⟨h.cell 0, h.cell 1, h.cell 2, h.frozen 0, h.frozen 1, h.frozen 2, h.lt⟩
set_option maxHeartbeats 4000000 in
theorem act_0 (sb : Nat) (s nodes : Int) (W : World) (h : Blk W sb 51 #[.int .u64 s]) (hn : nodes < 9223372036854775808) :
    Calls Try.prog 25 #[.pointer (some ⟨sb, 0, none⟩), .int .i64 0, .int .i64 nodes] W fun e w' => e = .returned (actVal (actV s 0 nodes)) ∧ Blk w' sb 51 #[.int .u64 (actT s 0 nodes)] ∧ Keeps (One sb) W w' := by
  have H := Lib.hid h
  have hsb := h.lt
  have HN := Lib.hid hn
  have hR := (Blkf.new_at (n := W.heap.size) W 48 (0, 0) #[.int .i64 0, .int .i64 0, .int .i64 0] rfl).alloc (.cells #[.int .i64 0, .int .i64 0, .int .i64 0] 48)
  have hA := Blkf.new_at (n := W.heap.size + 1) (W.alloc (.cells #[.int .i64 0, .int .i64 0, .int .i64 0] 48)) 48 (0, 0) #[.int .i64 0, .int .i64 0, .int .i64 0] (by simp)
  have HR := Lib.hid hR
  have HA := Lib.hid hA
  have HK0 : Hid (Keeps (One sb) W ((W.alloc (.cells #[.int .i64 0, .int .i64 0, .int .i64 0] 48)).alloc (.cells #[.int .i64 0, .int .i64 0, .int .i64 0] 48))) := Lib.hid (((Keeps.refl (One sb) W).alloc _).alloc _)
  have n0 : ¬ One sb W.heap.size := fun e => by unfold One at e; omega
  have n1 : ¬ One sb (W.heap.size + 1) := fun e => by unfold One at e; omega
  have N := Lib.hid (And.intro n0 n1)
  clear h hn hR hA n0 n1
  go_enter Try.func25, Try.ntmps25
  go_wp2_with fail
  refine (int_any sb s nodes _ ((H.out.alloc _).alloc _) HN.out).mono ?_
  rintro e w1 ⟨rfl, hb, hk⟩
  obtain ⟨a0, a1, a2, f0, f1, f2, la⟩ := three (hk.blk HA.out N.out.2)
  obtain ⟨r0, r1, r2, g0, g1, g2, lr⟩ := three (hk.blk HR.out N.out.1)
  have HA1 := Lib.hid ((hk.blk HA.out N.out.2).set_ 1 (.int .i64 (intS s nodes)))
  have HR1 := Lib.hid ((hk.blk HR.out N.out.1).far (p := ⟨W.heap.size + 1, 1, none⟩) (by simp) (.int .i64 (intS s nodes)))
  have HB1 := Lib.hid (hb.far (p := ⟨W.heap.size + 1, 1, none⟩) (by simp; omega) (.int .i64 (intS s nodes)))
  have HK1 := Lib.hid ((HK0.out.same hk).setCell (p := ⟨W.heap.size + 1, 1, none⟩) (.inr (by simp)) (.int .i64 (intS s nodes)))
  clear hk hb
  go_wp2_with fail
  refine (int_any sb _ 256 _ HB1.out (by decide)).mono ?_
  clear a0 a1 a2 f0 f1 f2 la r0 r1 r2 g0 g1 g2 lr
  rintro e w2 ⟨rfl, hb, hk⟩
  obtain ⟨a0, a1, a2, f0, f1, f2, la⟩ := three (hk.blk HA1.out N.out.2)
  obtain ⟨r0, r1, r2, g0, g1, g2, lr⟩ := three (hk.blk HR1.out N.out.1)
  have HR2 := Lib.hid ((hk.blk HR1.out N.out.1).far (p := ⟨W.heap.size + 1, 2, none⟩) (by simp) (.int .i64 (intS (stS s nodes) 256)))
  have HB2 := Lib.hid (hb.far (p := ⟨W.heap.size + 1, 2, none⟩) (by simp; omega) (.int .i64 (intS (stS s nodes) 256)))
  have HK2 := Lib.hid ((HK1.out.same hk).setCell (p := ⟨W.heap.size + 1, 2, none⟩) (.inr (by simp)) (.int .i64 (intS (stS s nodes) 256)))
  clear hk hb
  have HF := Lib.hid (((HR2.out.set_ 0 (.int .i64 0)).set_ 1 (.int .i64 (intS s nodes))).set_ 2 (.int .i64 (intS (stS s nodes) 256)))
  go_wp2
  obtain ⟨q0, q1, q2, _, _, _, _⟩ := three HF.out
  refine bodyPost_ret (v := actVal (0, intS s nodes, intS (stS s nodes) 256)) (by simp [results, Try.results25, go_sem, q0, q1, q2, actVal]) rfl ⟨rfl, ?_, ?_⟩
  · exact ((HB2.out.far (p := ⟨W.heap.size, 0, none⟩) (by simp; omega) _).far (p := ⟨W.heap.size, 1, none⟩) (by simp; omega) _).far (p := ⟨W.heap.size, 2, none⟩) (by simp; omega) _
  · exact ((HK2.out.setCell (p := ⟨W.heap.size, 0, none⟩) (.inr (Nat.le_refl _)) _).setCell (p := ⟨W.heap.size, 1, none⟩) (.inr (Nat.le_refl _)) _).setCell (p := ⟨W.heap.size, 2, none⟩) (.inr (Nat.le_refl _)) _
set_option maxHeartbeats 4000000 in
theorem act_1 (sb : Nat) (s nodes : Int) (W : World) (h : Blk W sb 51 #[.int .u64 s]) (hn : nodes < 9223372036854775808) :
    Calls Try.prog 25 #[.pointer (some ⟨sb, 0, none⟩), .int .i64 1, .int .i64 nodes] W fun e w' => e = .returned (actVal (actV s 1 nodes)) ∧ Blk w' sb 51 #[.int .u64 (actT s 1 nodes)] ∧ Keeps (One sb) W w' := by
  have H := Lib.hid h
  have hsb := h.lt
  have HN := Lib.hid hn
  have hR := (Blkf.new_at (n := W.heap.size) W 48 (0, 0) #[.int .i64 0, .int .i64 0, .int .i64 0] rfl).alloc (.cells #[.int .i64 1, .int .i64 0, .int .i64 0] 48)
  have hA := Blkf.new_at (n := W.heap.size + 1) (W.alloc (.cells #[.int .i64 0, .int .i64 0, .int .i64 0] 48)) 48 (0, 0) #[.int .i64 1, .int .i64 0, .int .i64 0] (by simp)
  have HR := Lib.hid hR
  have HA := Lib.hid hA
  have HK0 : Hid (Keeps (One sb) W ((W.alloc (.cells #[.int .i64 0, .int .i64 0, .int .i64 0] 48)).alloc (.cells #[.int .i64 1, .int .i64 0, .int .i64 0] 48))) := Lib.hid (((Keeps.refl (One sb) W).alloc _).alloc _)
  have n0 : ¬ One sb W.heap.size := fun e => by unfold One at e; omega
  have n1 : ¬ One sb (W.heap.size + 1) := fun e => by unfold One at e; omega
  have N := Lib.hid (And.intro n0 n1)
  clear h hn hR hA n0 n1
  go_enter Try.func25, Try.ntmps25
  go_wp2_with fail
  refine (int_any sb s 8 _ ((H.out.alloc _).alloc _) (by decide)).mono ?_
  rintro e w1 ⟨rfl, hb, hk⟩
  obtain ⟨a0, a1, a2, f0, f1, f2, la⟩ := three (hk.blk HA.out N.out.2)
  obtain ⟨r0, r1, r2, g0, g1, g2, lr⟩ := three (hk.blk HR.out N.out.1)
  have HA1 := Lib.hid ((hk.blk HA.out N.out.2).set_ 1 (.int .i64 (intS s 8)))
  have HR1 := Lib.hid ((hk.blk HR.out N.out.1).far (p := ⟨W.heap.size + 1, 1, none⟩) (by simp) (.int .i64 (intS s 8)))
  have HB1 := Lib.hid (hb.far (p := ⟨W.heap.size + 1, 1, none⟩) (by simp; omega) (.int .i64 (intS s 8)))
  have HK1 := Lib.hid ((HK0.out.same hk).setCell (p := ⟨W.heap.size + 1, 1, none⟩) (.inr (by simp)) (.int .i64 (intS s 8)))
  clear hk hb
  have HF := Lib.hid (((HR1.out.set_ 0 (.int .i64 1)).set_ 1 (.int .i64 (intS s 8))).set_ 2 (.int .i64 (0)))
  go_wp2
  obtain ⟨q0, q1, q2, _, _, _, _⟩ := three HF.out
  refine bodyPost_ret (v := actVal (1, intS s 8, 0)) (by simp [results, Try.results25, go_sem, q0, q1, q2, actVal]) rfl ⟨rfl, ?_, ?_⟩
  · exact ((HB1.out.far (p := ⟨W.heap.size, 0, none⟩) (by simp; omega) _).far (p := ⟨W.heap.size, 1, none⟩) (by simp; omega) _).far (p := ⟨W.heap.size, 2, none⟩) (by simp; omega) _
  · exact ((HK1.out.setCell (p := ⟨W.heap.size, 0, none⟩) (.inr (Nat.le_refl _)) _).setCell (p := ⟨W.heap.size, 1, none⟩) (.inr (Nat.le_refl _)) _).setCell (p := ⟨W.heap.size, 2, none⟩) (.inr (Nat.le_refl _)) _
set_option maxHeartbeats 4000000 in
theorem act_2 (sb : Nat) (s nodes : Int) (W : World) (h : Blk W sb 51 #[.int .u64 s]) (hn : nodes < 9223372036854775808) :
    Calls Try.prog 25 #[.pointer (some ⟨sb, 0, none⟩), .int .i64 2, .int .i64 nodes] W fun e w' => e = .returned (actVal (actV s 2 nodes)) ∧ Blk w' sb 51 #[.int .u64 (actT s 2 nodes)] ∧ Keeps (One sb) W w' := by
  have H := Lib.hid h
  have hsb := h.lt
  have HN := Lib.hid hn
  have hR := (Blkf.new_at (n := W.heap.size) W 48 (0, 0) #[.int .i64 0, .int .i64 0, .int .i64 0] rfl).alloc (.cells #[.int .i64 2, .int .i64 0, .int .i64 0] 48)
  have hA := Blkf.new_at (n := W.heap.size + 1) (W.alloc (.cells #[.int .i64 0, .int .i64 0, .int .i64 0] 48)) 48 (0, 0) #[.int .i64 2, .int .i64 0, .int .i64 0] (by simp)
  have HR := Lib.hid hR
  have HA := Lib.hid hA
  have HK0 : Hid (Keeps (One sb) W ((W.alloc (.cells #[.int .i64 0, .int .i64 0, .int .i64 0] 48)).alloc (.cells #[.int .i64 2, .int .i64 0, .int .i64 0] 48))) := Lib.hid (((Keeps.refl (One sb) W).alloc _).alloc _)
  have n0 : ¬ One sb W.heap.size := fun e => by unfold One at e; omega
  have n1 : ¬ One sb (W.heap.size + 1) := fun e => by unfold One at e; omega
  have N := Lib.hid (And.intro n0 n1)
  clear h hn hR hA n0 n1
  go_enter Try.func25, Try.ntmps25
  go_wp2_with fail
  refine (int_any sb s 8 _ ((H.out.alloc _).alloc _) (by decide)).mono ?_
  rintro e w1 ⟨rfl, hb, hk⟩
  obtain ⟨a0, a1, a2, f0, f1, f2, la⟩ := three (hk.blk HA.out N.out.2)
  obtain ⟨r0, r1, r2, g0, g1, g2, lr⟩ := three (hk.blk HR.out N.out.1)
  have HA1 := Lib.hid ((hk.blk HA.out N.out.2).set_ 1 (.int .i64 (intS s 8)))
  have HR1 := Lib.hid ((hk.blk HR.out N.out.1).far (p := ⟨W.heap.size + 1, 1, none⟩) (by simp) (.int .i64 (intS s 8)))
  have HB1 := Lib.hid (hb.far (p := ⟨W.heap.size + 1, 1, none⟩) (by simp; omega) (.int .i64 (intS s 8)))
  have HK1 := Lib.hid ((HK0.out.same hk).setCell (p := ⟨W.heap.size + 1, 1, none⟩) (.inr (by simp)) (.int .i64 (intS s 8)))
  clear hk hb
  have HF := Lib.hid (((HR1.out.set_ 0 (.int .i64 2)).set_ 1 (.int .i64 (intS s 8))).set_ 2 (.int .i64 (0)))
  go_wp2
  obtain ⟨q0, q1, q2, _, _, _, _⟩ := three HF.out
  refine bodyPost_ret (v := actVal (2, intS s 8, 0)) (by simp [results, Try.results25, go_sem, q0, q1, q2, actVal]) rfl ⟨rfl, ?_, ?_⟩
  · exact ((HB1.out.far (p := ⟨W.heap.size, 0, none⟩) (by simp; omega) _).far (p := ⟨W.heap.size, 1, none⟩) (by simp; omega) _).far (p := ⟨W.heap.size, 2, none⟩) (by simp; omega) _
  · exact ((HK1.out.setCell (p := ⟨W.heap.size, 0, none⟩) (.inr (Nat.le_refl _)) _).setCell (p := ⟨W.heap.size, 1, none⟩) (.inr (Nat.le_refl _)) _).setCell (p := ⟨W.heap.size, 2, none⟩) (.inr (Nat.le_refl _)) _
set_option maxHeartbeats 4000000 in
theorem act_3 (sb : Nat) (s nodes : Int) (W : World) (h : Blk W sb 51 #[.int .u64 s]) (hn : nodes < 9223372036854775808) :
    Calls Try.prog 25 #[.pointer (some ⟨sb, 0, none⟩), .int .i64 3, .int .i64 nodes] W fun e w' => e = .returned (actVal (actV s 3 nodes)) ∧ Blk w' sb 51 #[.int .u64 (actT s 3 nodes)] ∧ Keeps (One sb) W w' := by
  have H := Lib.hid h
  have hsb := h.lt
  have HN := Lib.hid hn
  have hR := (Blkf.new_at (n := W.heap.size) W 48 (0, 0) #[.int .i64 0, .int .i64 0, .int .i64 0] rfl).alloc (.cells #[.int .i64 3, .int .i64 0, .int .i64 0] 48)
  have hA := Blkf.new_at (n := W.heap.size + 1) (W.alloc (.cells #[.int .i64 0, .int .i64 0, .int .i64 0] 48)) 48 (0, 0) #[.int .i64 3, .int .i64 0, .int .i64 0] (by simp)
  have HR := Lib.hid hR
  have HA := Lib.hid hA
  have HK0 : Hid (Keeps (One sb) W ((W.alloc (.cells #[.int .i64 0, .int .i64 0, .int .i64 0] 48)).alloc (.cells #[.int .i64 3, .int .i64 0, .int .i64 0] 48))) := Lib.hid (((Keeps.refl (One sb) W).alloc _).alloc _)
  have n0 : ¬ One sb W.heap.size := fun e => by unfold One at e; omega
  have n1 : ¬ One sb (W.heap.size + 1) := fun e => by unfold One at e; omega
  have N := Lib.hid (And.intro n0 n1)
  clear h hn hR hA n0 n1
  go_enter Try.func25, Try.ntmps25
  go_wp2_with fail
  refine (int_any sb s 8 _ ((H.out.alloc _).alloc _) (by decide)).mono ?_
  rintro e w1 ⟨rfl, hb, hk⟩
  obtain ⟨a0, a1, a2, f0, f1, f2, la⟩ := three (hk.blk HA.out N.out.2)
  obtain ⟨r0, r1, r2, g0, g1, g2, lr⟩ := three (hk.blk HR.out N.out.1)
  have HA1 := Lib.hid ((hk.blk HA.out N.out.2).set_ 1 (.int .i64 (intS s 8)))
  have HR1 := Lib.hid ((hk.blk HR.out N.out.1).far (p := ⟨W.heap.size + 1, 1, none⟩) (by simp) (.int .i64 (intS s 8)))
  have HB1 := Lib.hid (hb.far (p := ⟨W.heap.size + 1, 1, none⟩) (by simp; omega) (.int .i64 (intS s 8)))
  have HK1 := Lib.hid ((HK0.out.same hk).setCell (p := ⟨W.heap.size + 1, 1, none⟩) (.inr (by simp)) (.int .i64 (intS s 8)))
  clear hk hb
  have HF := Lib.hid (((HR1.out.set_ 0 (.int .i64 3)).set_ 1 (.int .i64 (intS s 8))).set_ 2 (.int .i64 (0)))
  go_wp2
  obtain ⟨q0, q1, q2, _, _, _, _⟩ := three HF.out
  refine bodyPost_ret (v := actVal (3, intS s 8, 0)) (by simp [results, Try.results25, go_sem, q0, q1, q2, actVal]) rfl ⟨rfl, ?_, ?_⟩
  · exact ((HB1.out.far (p := ⟨W.heap.size, 0, none⟩) (by simp; omega) _).far (p := ⟨W.heap.size, 1, none⟩) (by simp; omega) _).far (p := ⟨W.heap.size, 2, none⟩) (by simp; omega) _
  · exact ((HK1.out.setCell (p := ⟨W.heap.size, 0, none⟩) (.inr (Nat.le_refl _)) _).setCell (p := ⟨W.heap.size, 1, none⟩) (.inr (Nat.le_refl _)) _).setCell (p := ⟨W.heap.size, 2, none⟩) (.inr (Nat.le_refl _)) _
set_option maxHeartbeats 4000000 in
theorem act_4 (sb : Nat) (s nodes : Int) (W : World) (h : Blk W sb 51 #[.int .u64 s]) (hn : nodes < 9223372036854775808) :
    Calls Try.prog 25 #[.pointer (some ⟨sb, 0, none⟩), .int .i64 4, .int .i64 nodes] W fun e w' => e = .returned (actVal (actV s 4 nodes)) ∧ Blk w' sb 51 #[.int .u64 (actT s 4 nodes)] ∧ Keeps (One sb) W w' := by
  have H := Lib.hid h
  have hsb := h.lt
  have HN := Lib.hid hn
  have hR := (Blkf.new_at (n := W.heap.size) W 48 (0, 0) #[.int .i64 0, .int .i64 0, .int .i64 0] rfl).alloc (.cells #[.int .i64 4, .int .i64 0, .int .i64 0] 48)
  have hA := Blkf.new_at (n := W.heap.size + 1) (W.alloc (.cells #[.int .i64 0, .int .i64 0, .int .i64 0] 48)) 48 (0, 0) #[.int .i64 4, .int .i64 0, .int .i64 0] (by simp)
  have HR := Lib.hid hR
  have HA := Lib.hid hA
  have HK0 : Hid (Keeps (One sb) W ((W.alloc (.cells #[.int .i64 0, .int .i64 0, .int .i64 0] 48)).alloc (.cells #[.int .i64 4, .int .i64 0, .int .i64 0] 48))) := Lib.hid (((Keeps.refl (One sb) W).alloc _).alloc _)
  have n0 : ¬ One sb W.heap.size := fun e => by unfold One at e; omega
  have n1 : ¬ One sb (W.heap.size + 1) := fun e => by unfold One at e; omega
  have N := Lib.hid (And.intro n0 n1)
  clear h hn hR hA n0 n1
  go_enter Try.func25, Try.ntmps25
  go_wp2_with fail
  refine (int_any sb s 8 _ ((H.out.alloc _).alloc _) (by decide)).mono ?_
  rintro e w1 ⟨rfl, hb, hk⟩
  obtain ⟨a0, a1, a2, f0, f1, f2, la⟩ := three (hk.blk HA.out N.out.2)
  obtain ⟨r0, r1, r2, g0, g1, g2, lr⟩ := three (hk.blk HR.out N.out.1)
  have HA1 := Lib.hid ((hk.blk HA.out N.out.2).set_ 1 (.int .i64 (intS s 8)))
  have HR1 := Lib.hid ((hk.blk HR.out N.out.1).far (p := ⟨W.heap.size + 1, 1, none⟩) (by simp) (.int .i64 (intS s 8)))
  have HB1 := Lib.hid (hb.far (p := ⟨W.heap.size + 1, 1, none⟩) (by simp; omega) (.int .i64 (intS s 8)))
  have HK1 := Lib.hid ((HK0.out.same hk).setCell (p := ⟨W.heap.size + 1, 1, none⟩) (.inr (by simp)) (.int .i64 (intS s 8)))
  clear hk hb
  go_wp2_with fail
  refine (int_any sb _ 256 _ HB1.out (by decide)).mono ?_
  clear a0 a1 a2 f0 f1 f2 la r0 r1 r2 g0 g1 g2 lr
  rintro e w2 ⟨rfl, hb, hk⟩
  obtain ⟨a0, a1, a2, f0, f1, f2, la⟩ := three (hk.blk HA1.out N.out.2)
  obtain ⟨r0, r1, r2, g0, g1, g2, lr⟩ := three (hk.blk HR1.out N.out.1)
  have HR2 := Lib.hid ((hk.blk HR1.out N.out.1).far (p := ⟨W.heap.size + 1, 2, none⟩) (by simp) (.int .i64 (intS (stS s 8) 256)))
  have HB2 := Lib.hid (hb.far (p := ⟨W.heap.size + 1, 2, none⟩) (by simp; omega) (.int .i64 (intS (stS s 8) 256)))
  have HK2 := Lib.hid ((HK1.out.same hk).setCell (p := ⟨W.heap.size + 1, 2, none⟩) (.inr (by simp)) (.int .i64 (intS (stS s 8) 256)))
  clear hk hb
  have HF := Lib.hid (((HR2.out.set_ 0 (.int .i64 4)).set_ 1 (.int .i64 (intS s 8))).set_ 2 (.int .i64 (intS (stS s 8) 256)))
  go_wp2
  obtain ⟨q0, q1, q2, _, _, _, _⟩ := three HF.out
  refine bodyPost_ret (v := actVal (4, intS s 8, intS (stS s 8) 256)) (by simp [results, Try.results25, go_sem, q0, q1, q2, actVal]) rfl ⟨rfl, ?_, ?_⟩
  · exact ((HB2.out.far (p := ⟨W.heap.size, 0, none⟩) (by simp; omega) _).far (p := ⟨W.heap.size, 1, none⟩) (by simp; omega) _).far (p := ⟨W.heap.size, 2, none⟩) (by simp; omega) _
  · exact ((HK2.out.setCell (p := ⟨W.heap.size, 0, none⟩) (.inr (Nat.le_refl _)) _).setCell (p := ⟨W.heap.size, 1, none⟩) (.inr (Nat.le_refl _)) _).setCell (p := ⟨W.heap.size, 2, none⟩) (.inr (Nat.le_refl _)) _
set_option maxHeartbeats 4000000 in
theorem act_5 (sb : Nat) (s nodes : Int) (W : World) (h : Blk W sb 51 #[.int .u64 s]) (hn : nodes < 9223372036854775808) :
    Calls Try.prog 25 #[.pointer (some ⟨sb, 0, none⟩), .int .i64 5, .int .i64 nodes] W fun e w' => e = .returned (actVal (actV s 5 nodes)) ∧ Blk w' sb 51 #[.int .u64 (actT s 5 nodes)] ∧ Keeps (One sb) W w' := by
  have H := Lib.hid h
  have hsb := h.lt
  have HN := Lib.hid hn
  have hR := (Blkf.new_at (n := W.heap.size) W 48 (0, 0) #[.int .i64 0, .int .i64 0, .int .i64 0] rfl).alloc (.cells #[.int .i64 5, .int .i64 0, .int .i64 0] 48)
  have hA := Blkf.new_at (n := W.heap.size + 1) (W.alloc (.cells #[.int .i64 0, .int .i64 0, .int .i64 0] 48)) 48 (0, 0) #[.int .i64 5, .int .i64 0, .int .i64 0] (by simp)
  have HR := Lib.hid hR
  have HA := Lib.hid hA
  have HK0 : Hid (Keeps (One sb) W ((W.alloc (.cells #[.int .i64 0, .int .i64 0, .int .i64 0] 48)).alloc (.cells #[.int .i64 5, .int .i64 0, .int .i64 0] 48))) := Lib.hid (((Keeps.refl (One sb) W).alloc _).alloc _)
  have n0 : ¬ One sb W.heap.size := fun e => by unfold One at e; omega
  have n1 : ¬ One sb (W.heap.size + 1) := fun e => by unfold One at e; omega
  have N := Lib.hid (And.intro n0 n1)
  clear h hn hR hA n0 n1
  go_enter Try.func25, Try.ntmps25
  go_wp2_with fail
  refine (int_any sb s 8 _ ((H.out.alloc _).alloc _) (by decide)).mono ?_
  rintro e w1 ⟨rfl, hb, hk⟩
  obtain ⟨a0, a1, a2, f0, f1, f2, la⟩ := three (hk.blk HA.out N.out.2)
  obtain ⟨r0, r1, r2, g0, g1, g2, lr⟩ := three (hk.blk HR.out N.out.1)
  have HA1 := Lib.hid ((hk.blk HA.out N.out.2).set_ 1 (.int .i64 (intS s 8)))
  have HR1 := Lib.hid ((hk.blk HR.out N.out.1).far (p := ⟨W.heap.size + 1, 1, none⟩) (by simp) (.int .i64 (intS s 8)))
  have HB1 := Lib.hid (hb.far (p := ⟨W.heap.size + 1, 1, none⟩) (by simp; omega) (.int .i64 (intS s 8)))
  have HK1 := Lib.hid ((HK0.out.same hk).setCell (p := ⟨W.heap.size + 1, 1, none⟩) (.inr (by simp)) (.int .i64 (intS s 8)))
  clear hk hb
  go_wp2_with fail
  refine (int_any sb _ 256 _ HB1.out (by decide)).mono ?_
  clear a0 a1 a2 f0 f1 f2 la r0 r1 r2 g0 g1 g2 lr
  rintro e w2 ⟨rfl, hb, hk⟩
  obtain ⟨a0, a1, a2, f0, f1, f2, la⟩ := three (hk.blk HA1.out N.out.2)
  obtain ⟨r0, r1, r2, g0, g1, g2, lr⟩ := three (hk.blk HR1.out N.out.1)
  have HR2 := Lib.hid ((hk.blk HR1.out N.out.1).far (p := ⟨W.heap.size + 1, 2, none⟩) (by simp) (.int .i64 (intS (stS s 8) 256)))
  have HB2 := Lib.hid (hb.far (p := ⟨W.heap.size + 1, 2, none⟩) (by simp; omega) (.int .i64 (intS (stS s 8) 256)))
  have HK2 := Lib.hid ((HK1.out.same hk).setCell (p := ⟨W.heap.size + 1, 2, none⟩) (.inr (by simp)) (.int .i64 (intS (stS s 8) 256)))
  clear hk hb
  have HF := Lib.hid (((HR2.out.set_ 0 (.int .i64 5)).set_ 1 (.int .i64 (intS s 8))).set_ 2 (.int .i64 (intS (stS s 8) 256)))
  go_wp2
  obtain ⟨q0, q1, q2, _, _, _, _⟩ := three HF.out
  refine bodyPost_ret (v := actVal (5, intS s 8, intS (stS s 8) 256)) (by simp [results, Try.results25, go_sem, q0, q1, q2, actVal]) rfl ⟨rfl, ?_, ?_⟩
  · exact ((HB2.out.far (p := ⟨W.heap.size, 0, none⟩) (by simp; omega) _).far (p := ⟨W.heap.size, 1, none⟩) (by simp; omega) _).far (p := ⟨W.heap.size, 2, none⟩) (by simp; omega) _
  · exact ((HK2.out.setCell (p := ⟨W.heap.size, 0, none⟩) (.inr (Nat.le_refl _)) _).setCell (p := ⟨W.heap.size, 1, none⟩) (.inr (Nat.le_refl _)) _).setCell (p := ⟨W.heap.size, 2, none⟩) (.inr (Nat.le_refl _)) _
set_option maxHeartbeats 4000000 in
theorem act_6 (sb : Nat) (s nodes : Int) (W : World) (h : Blk W sb 51 #[.int .u64 s]) (hn : nodes < 9223372036854775808) :
    Calls Try.prog 25 #[.pointer (some ⟨sb, 0, none⟩), .int .i64 6, .int .i64 nodes] W fun e w' => e = .returned (actVal (actV s 6 nodes)) ∧ Blk w' sb 51 #[.int .u64 (actT s 6 nodes)] ∧ Keeps (One sb) W w' := by
  have H := Lib.hid h
  have hsb := h.lt
  have HN := Lib.hid hn
  have hR := (Blkf.new_at (n := W.heap.size) W 48 (0, 0) #[.int .i64 0, .int .i64 0, .int .i64 0] rfl).alloc (.cells #[.int .i64 6, .int .i64 0, .int .i64 0] 48)
  have hA := Blkf.new_at (n := W.heap.size + 1) (W.alloc (.cells #[.int .i64 0, .int .i64 0, .int .i64 0] 48)) 48 (0, 0) #[.int .i64 6, .int .i64 0, .int .i64 0] (by simp)
  have HR := Lib.hid hR
  have HA := Lib.hid hA
  have HK0 : Hid (Keeps (One sb) W ((W.alloc (.cells #[.int .i64 0, .int .i64 0, .int .i64 0] 48)).alloc (.cells #[.int .i64 6, .int .i64 0, .int .i64 0] 48))) := Lib.hid (((Keeps.refl (One sb) W).alloc _).alloc _)
  have n0 : ¬ One sb W.heap.size := fun e => by unfold One at e; omega
  have n1 : ¬ One sb (W.heap.size + 1) := fun e => by unfold One at e; omega
  have N := Lib.hid (And.intro n0 n1)
  clear h hn hR hA n0 n1
  go_enter Try.func25, Try.ntmps25
  go_wp2
  refine bodyPost_ret (v := actVal (6, 0, 0)) (by simp [results, Try.results25, go_sem, actVal]) rfl ⟨rfl, (H.out.alloc _).alloc _, ((Keeps.refl (One sb) W).alloc _).alloc _⟩
theorem act_any (sb : Nat) (s nodes : Int) (k : Nat) (hk : k < 7) (W : World) (h : Blk W sb 51 #[.int .u64 s]) (hn : nodes < 9223372036854775808) :
    Calls Try.prog 25 #[.pointer (some ⟨sb, 0, none⟩), .int .i64 k, .int .i64 nodes] W fun e w' => e = .returned (actVal (actV s k nodes)) ∧ Blk w' sb 51 #[.int .u64 (actT s k nodes)] ∧ Keeps (One sb) W w' := by
  rcases (show k = 0 ∨ k = 1 ∨ k = 2 ∨ k = 3 ∨ k = 4 ∨ k = 5 ∨ k = 6 by omega) with rfl | rfl | rfl | rfl | rfl | rfl | rfl
  · exact act_0 sb s nodes W h hn
  · exact act_1 sb s nodes W h hn
  · exact act_2 sb s nodes W h hn
  · exact act_3 sb s nodes W h hn
  · exact act_4 sb s nodes W h hn
  · exact act_5 sb s nodes W h hn
  · exact act_6 sb s nodes W h hn
end Go.Proofs.Ytkiicgdfibncfaa
