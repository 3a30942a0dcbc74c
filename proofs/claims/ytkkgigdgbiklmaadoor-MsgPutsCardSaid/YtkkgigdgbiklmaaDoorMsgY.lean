/- The document's Put. -/
import Derived.Test.YtkkgigdgbiklmaaDoorMsgV
import Derived.Test.YtkkgigdgbiklmaaDoorMsgF
namespace Go.Proofs.YtkkgigdgbiklmaaDoor
open Go.RowKit

def put11 (k p nd h s n : Nat) : List Nat := [k, nd, h, p % 256, p / 256, 0, 0, s % 256, s / 256, n % 256, n / 256]
theorem put11_eq (k p nd h s n : Nat) (hp : p < 65536) (hs : s < 65536) (hn : n < 65536) : put11 k p nd h s n = putH k p nd h s n := by
  have b : ∀ v, bytesOf v 4 = [byteOf v 0, byteOf v 1, byteOf v 2, byteOf v 3] := fun _ => rfl
  have b2 : ∀ v, bytesOf v 2 = [byteOf v 0, byteOf v 1] := fun _ => rfl
  unfold put11 putH
  rw [b, b2, b2]
  simp [byteOf]
  omega
theorem add_strB (a b : List Nat) (h : a.length + b.length ≤ 1000000) (w : World) : (Op.stringOp .add (strB a) (strB b)).run Tryd.prog w = .ok (.string (strB (a ++ b))) w := by
  rw [run_string_add_sum w _ _ (by rw [strB_size, strB_size]; omega), strB_append]
theorem put11_lt (k p nd h s n : Nat) (hk : k ≤ 6) (hp : p < 65536) (hnd : nd < 16) (hh : h ≤ 255) (hs : s < 65536) (hn : n < 65536) (i : Nat) : (put11 k p nd h s n).getD i 0 < 256 := by
  unfold put11
  rcases (show i = 0 ∨ i = 1 ∨ i = 2 ∨ i = 3 ∨ i = 4 ∨ i = 5 ∨ i = 6 ∨ i = 7 ∨ i = 8 ∨ i = 9 ∨ i = 10 ∨ 11 ≤ i by omega) with e | e | e | e | e | e | e | e | e | e | e | e
  all_goals first | (subst e; simp; done) | (subst e; simp; omega) | (rw [List.getD_eq_getElem?_getD, List.getElem?_eq_none (by simpa using e)]; simp)
set_option maxRecDepth 100000 in
set_option maxHeartbeats 1000000 in
theorem rput_yes (k p nd h s : Nat) (A : Option Addr) (D : List Nat) (m c : Nat) (W : World) (hB : Bts W A D) (hm : D.length = m) (hk : k ≤ 6) (hp : p < 65536) (hnd : nd < 16) (hh : h ≤ 255) (hm4 : m ≤ 4096) (hs : s < 65536) :
    Calls Tryd.prog 14 #[msV k p nd h s A m c] W fun e w' => e = .returned (.string (strB (putL k p nd h s D))) ∧ Below W.heap.size W w' := by
  have HE : Hid (Below W.heap.size W (W.alloc (.cells #[.int .i64 k, .int .i64 p, .int .i64 nd, .int .i64 h, .int .u16 (s : Int), .slice A m c] 27))) := Lib.hid ((Below.refl _ W).alloc (Nat.le_refl _) _)
  have HX : Hid (Blk (W.alloc (.cells #[.int .i64 k, .int .i64 p, .int .i64 nd, .int .i64 h, .int .u16 (s : Int), .slice A m c] 27)) W.heap.size 27 #[.int .i64 k, .int .i64 p, .int .i64 nd, .int .i64 h, .int .u16 (s : Int), .slice A m c]) := Lib.hid (Blkf.new_at _ _ _ _ rfl)
  have HBT := Lib.hid (bts_below hB HE.out)
  have HPL : Hid (putL k p nd h s D = put11 k p nd h s m ++ D) := Lib.hid (by unfold putL; rw [hm, put11_eq k p nd h s m hp hs (by omega)])
  have HLT := Lib.hid (put11_lt k p nd h s m hk hp hnd hh hs (by omega))
  have HLD : Hid ((put11 k p nd h s m).length + D.length ≤ 1000000) := Lib.hid (by rw [hm]; simp [put11]; omega)
  obtain ⟨p0, hp0⟩ : ∃ x, x = p % 256 := ⟨_, rfl⟩
  obtain ⟨p1, hp1⟩ : ∃ x, x = p / 256 := ⟨_, rfl⟩
  obtain ⟨s0, hs0⟩ : ∃ x, x = s % 256 := ⟨_, rfl⟩
  obtain ⟨s1, hs1⟩ : ∃ x, x = s / 256 := ⟨_, rfl⟩
  obtain ⟨m0, hm0⟩ : ∃ x, x = m % 256 := ⟨_, rfl⟩
  obtain ⟨m1, hm1⟩ : ∃ x, x = m / 256 := ⟨_, rfl⟩
  have HU : Hid (put11 k p nd h s m = [k, nd, h, p0, p1, 0, 0, s0, s1, m0, m1]) := Lib.hid (by rw [hp0, hp1, hs0, hs1, hm0, hm1]; rfl)
  have k8 : IntKind.u8.wrap (k : Int) = (k : Int) := by rw [IntKind.wrap_u8]; omega
  have n8 : IntKind.u8.wrap (nd : Int) = (nd : Int) := by rw [IntKind.wrap_u8]; omega
  have h8 : IntKind.u8.wrap (h : Int) = (h : Int) := by rw [IntKind.wrap_u8]; omega
  have p8 : IntKind.u8.wrap ((p : Int) % 256) = (p0 : Int) := by rw [IntKind.wrap_u8]; omega
  have p9 : IntKind.u8.wrap ((p : Int) / 256) = (p1 : Int) := by rw [IntKind.wrap_u8]; omega
  have s8 : IntKind.u8.wrap ((s : Int) % 256) = (s0 : Int) := by rw [IntKind.wrap_u8]; omega
  have s9 : IntKind.u8.wrap ((s : Int) / 256) = (s1 : Int) := by rw [IntKind.wrap_u8]; omega
  have m8 : IntKind.u8.wrap ((m : Int) % 256) = (m0 : Int) := by rw [IntKind.wrap_u8]; omega
  have m9 : IntKind.u8.wrap ((m : Int) / 256) = (m1 : Int) := by rw [IntKind.wrap_u8]; omega
  have HM := Lib.hid hm
  unfold msV
  clear hB hm hp0 hp1 hs0 hs1 hm0 hm1
  go_enter Tryd.func14, Tryd.ntmps14
  go_upto_region 2 with fail
  obtain ⟨mb, hmb⟩ : ∃ mb, mb = W.heap.size := ⟨_, rfl⟩
  rw [← hmb] at HX ⊢
  clear hmb
  generalize W.alloc (.cells #[.int .i64 k, .int .i64 p, .int .i64 nd, .int .i64 h, .int .u16 (s : Int), .slice A m c] 27) = w0 at *
  have xl := HX.out.lt
  have x0 := HX.out.cell 0
  have x1 := HX.out.cell 1
  have x2 := HX.out.cell 2
  have x3 := HX.out.cell 3
  have x4 := HX.out.cell 4
  have x5 := HX.out.cell 5
  simp only [List.getElem?_toArray, List.getElem?_cons_zero, List.getElem?_cons_succ] at x0 x1 x2 x3 x4 x5
  have E1 : Hid (Below w0.heap.size w0 (w0.alloc (.cells #[.int .u8 (k : Int), .int .u8 (nd : Int), .int .u8 (h : Int), .int .u8 (p0 : Int), .int .u8 (p1 : Int), .int .u8 0, .int .u8 0, .int .u8 (s0 : Int), .int .u8 (s1 : Int), .int .u8 (m0 : Int), .int .u8 (m1 : Int)] 5))) := Lib.hid ((Below.refl _ w0).alloc (Nat.le_refl _) _)
  have cv1 : (convert 22 9 (.slice (some ⟨w0.heap.size, 0, none⟩) 11 11)).run Tryd.prog (w0.alloc (.cells #[.int .u8 (k : Int), .int .u8 (nd : Int), .int .u8 (h : Int), .int .u8 (p0 : Int), .int .u8 (p1 : Int), .int .u8 0, .int .u8 0, .int .u8 (s0 : Int), .int .u8 (s1 : Int), .int .u8 (m0 : Int), .int .u8 (m1 : Int)] 5)) = .ok (.string (strB (put11 k p nd h s m))) (w0.alloc (.cells #[.int .u8 (k : Int), .int .u8 (nd : Int), .int .u8 (h : Int), .int .u8 (p0 : Int), .int .u8 (p1 : Int), .int .u8 0, .int .u8 0, .int .u8 (s0 : Int), .int .u8 (s1 : Int), .int .u8 (m0 : Int), .int .u8 (m1 : Int)] 5)) := by
    have hb := bts_lit w0 (0, 0) (put11 k p nd h s m) HLT.out w0.heap.size rfl
    refine conv_bts (l := put11 k p nd h s m) ?_ rfl
    rw [HU.out] at hb ⊢
    exact hb
  have cv2 := conv_bts (c := c) (bts_below HBT.out E1.out) HM.out
  have ad := add_strB (put11 k p nd h s m) D HLD.out
  rw [← HPL.out] at ad
  obtain ⟨S, hS⟩ : ∃ S, S = strB (putL k p nd h s D) := ⟨_, rfl⟩
  rw [← hS] at ad
  have HSS := Lib.hid hS
  clear hS
  generalize strB (put11 k p nd h s m) = S1 at *
  generalize strB D = S2 at *
  go_wp2_with fail
  go_ret
  exact ⟨congrArg (fun x => Ending.returned (Value.string x)) HSS.out, HE.out.trans (E1.out.mono HE.out.size)⟩
end Go.Proofs.YtkkgigdgbiklmaaDoor
