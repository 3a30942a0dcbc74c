/- Two messages that are the same. -/
import Derived.Test.YtkkgigdgbiklmaaDoorMsgA
import Derived.Test.YtkkgigdgbiklmaaDoorWireB
namespace Go.Proofs.YtkkgigdgbiklmaaDoor
open Go.RowKit

theorem strB_inj {a b : List Nat} (ha : ∀ i : Nat, a.getD i 0 < 256) (hb : ∀ i : Nat, b.getD i 0 < 256) (h : (strB a).toList = (strB b).toList) : a = b := by
  replace h : a.map UInt8.ofNat = b.map UInt8.ofNat := by
    rw [strB, strB, ByteArray.toList_mk, ByteArray.toList_mk] at h
    exact h
  have hl : a.length = b.length := by have := congrArg List.length h; simpa using this
  apply List.ext_getElem? 
  intro i
  rcases Nat.lt_or_ge i a.length with h1 | h1
  · have h2 := congrArg (fun l => l[i]?) h
    simp only [List.getElem?_map] at h2
    have ha' := ha i
    have hb' := hb i
    rw [List.getD_eq_getElem?_getD, List.getElem?_eq_getElem h1] at ha'
    rw [List.getD_eq_getElem?_getD, List.getElem?_eq_getElem (by omega)] at hb'
    rw [List.getElem?_eq_getElem h1, List.getElem?_eq_getElem (by omega)] at h2 ⊢
    simp at h2 ha' hb' ⊢
    have h3 := congrArg UInt8.toNat h2
    simp at h3
    omega
  · rw [List.getElem?_eq_none h1, List.getElem?_eq_none (by omega)]
def sameM (k p nd h : Int) (s : Nat) (D : List Nat) (k' p' nd' h' : Int) (s' : Nat) (D' : List Nat) : Bool := decide (k = k' ∧ p = p' ∧ nd = nd' ∧ h = h' ∧ s = s' ∧ D = D')
theorem equal_any (A B : Option Addr) (l l' : List Nat) (n m c d : Nat) (W : World) (hl : l.length = n) (hl' : l'.length = m) (hA : Bts W A l) (hB : Bts W B l') :
    Calls Tryd.prog 24 #[.slice A n c, .slice B m d] W fun e w' => e = .returned (.bool (decide (l = l'))) ∧ W = w' := by
  have h1 := fun c => conv_bts (c := c) hA hl
  have h2 := fun c => conv_bts (c := c) hB hl'
  by_cases h : l = l'
  · subst h
    obtain rfl : n = m := by omega
    clear hA hB
    go_enter Tryd.func24, Tryd.ntmps24
    go_wp2
    go_ret
    exact ⟨by simp, rfl⟩
  · have hne : (strB l).toList ≠ (strB l').toList := fun e => h (strB_inj hA.1 hB.1 e)
    have hd : decide (l = l') = false := decide_eq_false h
    rw [hd]
    generalize strB l = T at *
    generalize strB l' = T2 at *
    have hd2 : decide (T.toList = T2.toList) = false := decide_eq_false hne
    clear hA hB h hd
    go_enter Tryd.func24, Tryd.ntmps24
    go_wp2
    go_ret
    exact ⟨by simp [hne], rfl⟩
set_option maxRecDepth 100000 in
set_option maxHeartbeats 4000000 in
theorem same_any (k p nd h : Int) (s : Nat) (A : Option Addr) (D : List Nat) (m c : Nat) (k' p' nd' h' : Int) (s' : Nat) (B : Option Addr) (D' : List Nat) (m' c' : Nat) (W : World) (hA : Bts W A D) (hm : D.length = m) (hB : Bts W B D') (hm' : D'.length = m') :
    Calls Tryd.prog 15 #[msV k p nd h s A m c, msV k' p' nd' h' s' B m' c'] W fun e w' => e = .returned (.bool (sameM k p nd h s D k' p' nd' h' s' D')) ∧ Below W.heap.size W w' := by
  have HE : Hid (Below W.heap.size W ((W.alloc (.cells #[.int .i64 k, .int .i64 p, .int .i64 nd, .int .i64 h, .int .u16 (s : Int), .slice A m c] 27)).alloc (.cells #[.int .i64 k', .int .i64 p', .int .i64 nd', .int .i64 h', .int .u16 (s' : Int), .slice B m' c'] 27))) := Lib.hid (((Below.refl _ W).alloc (Nat.le_refl _) _).alloc (by rw [World.size_alloc]; omega) _)
  have HAT := Lib.hid hA
  have HBT := Lib.hid hB
  have HM := Lib.hid hm
  have HM2 := Lib.hid hm'
  unfold msV
  clear hA hB hm hm'
  by_cases g0 : k ≠ k'
  · have HR : Hid (sameM k p nd h s D k' p' nd' h' s' D' = false) := Lib.hid (decide_eq_false fun e => by have := e.1; exact g0 this)
    rw [HR.out]
    have b0 : (k == k') = false := by simpa using g0
    have d0 : decide (k = k') = false := decide_eq_false g0
    go_enter Tryd.func15, Tryd.ntmps15
    go_wp2_with fail
    go_ret
    exact ⟨rfl, HE.out⟩
  obtain rfl : k = k' := Classical.byContradiction fun e => g0 e
  clear g0
  by_cases g1 : p ≠ p'
  · have HR : Hid (sameM k p nd h s D k p' nd' h' s' D' = false) := Lib.hid (decide_eq_false fun e => by have := e.2.1; exact g1 this)
    rw [HR.out]
    have b1 : (p == p') = false := by simpa using g1
    have d1 : decide (p = p') = false := decide_eq_false g1
    go_enter Tryd.func15, Tryd.ntmps15
    go_wp2_with fail
    go_ret
    exact ⟨rfl, HE.out⟩
  obtain rfl : p = p' := Classical.byContradiction fun e => g1 e
  clear g1
  by_cases g2 : nd ≠ nd'
  · have HR : Hid (sameM k p nd h s D k p nd' h' s' D' = false) := Lib.hid (decide_eq_false fun e => by have := e.2.2.1; exact g2 this)
    rw [HR.out]
    have b2 : (nd == nd') = false := by simpa using g2
    have d2 : decide (nd = nd') = false := decide_eq_false g2
    go_enter Tryd.func15, Tryd.ntmps15
    go_wp2_with fail
    go_ret
    exact ⟨rfl, HE.out⟩
  obtain rfl : nd = nd' := Classical.byContradiction fun e => g2 e
  clear g2
  by_cases g3 : h ≠ h'
  · have HR : Hid (sameM k p nd h s D k p nd h' s' D' = false) := Lib.hid (decide_eq_false fun e => by have := e.2.2.2.1; exact g3 this)
    rw [HR.out]
    have b3 : (h == h') = false := by simpa using g3
    have d3 : decide (h = h') = false := decide_eq_false g3
    go_enter Tryd.func15, Tryd.ntmps15
    go_wp2_with fail
    go_ret
    exact ⟨rfl, HE.out⟩
  obtain rfl : h = h' := Classical.byContradiction fun e => g3 e
  clear g3
  by_cases g4 : s ≠ s'
  · have HR : Hid (sameM k p nd h s D k p nd h s' D' = false) := Lib.hid (decide_eq_false fun e => by have := e.2.2.2.2.1; exact g4 this)
    rw [HR.out]
    have n4 : ¬ (s : Int) = (s' : Int) := by omega
    have b4 : ((s : Int) == (s' : Int)) = false := by simpa using n4
    have d4 : decide ((s : Int) = (s' : Int)) = false := decide_eq_false n4
    have d5 : decide (s = s') = false := decide_eq_false g4
    go_enter Tryd.func15, Tryd.ntmps15
    go_wp2_with fail
    go_ret
    exact ⟨rfl, HE.out⟩
  obtain rfl : s = s' := Classical.byContradiction fun e => g4 e
  clear g4
  have HR : Hid (sameM k p nd h s D k p nd h s D' = decide (D = D')) := Lib.hid (by simp [sameM])
  rw [HR.out]
  go_enter Tryd.func15, Tryd.ntmps15
  go_wp2_with fail
  refine (equal_any A B D D' m m' c c' _ HM.out HM2.out (bts_below HAT.out HE.out) (bts_below HBT.out HE.out)).mono ?_
  rintro e w1 ⟨rfl, rfl⟩
  go_wp2_with fail
  go_ret
  exact ⟨rfl, HE.out⟩
set_option maxRecDepth 100000 in
set_option maxHeartbeats 4000000 in
theorem rsame_any (k p nd h : Int) (s : Nat) (A : Option Addr) (D : List Nat) (m c : Nat) (k' p' nd' h' : Int) (s' : Nat) (B : Option Addr) (D' : List Nat) (m' c' : Nat) (W : World) (hA : Bts W A D) (hm : D.length = m) (hB : Bts W B D') (hm' : D'.length = m') :
    Calls Tryd.prog 10 #[msV k p nd h s A m c, msV k' p' nd' h' s' B m' c'] W fun e w' => e = .returned (.bool (sameM k p nd h s D k' p' nd' h' s' D')) ∧ Below W.heap.size W w' := by
  have HE : Hid (Below W.heap.size W ((W.alloc (.cells #[.int .i64 k, .int .i64 p, .int .i64 nd, .int .i64 h, .int .u16 (s : Int), .slice A m c] 27)).alloc (.cells #[.int .i64 k', .int .i64 p', .int .i64 nd', .int .i64 h', .int .u16 (s' : Int), .slice B m' c'] 27))) := Lib.hid (((Below.refl _ W).alloc (Nat.le_refl _) _).alloc (by rw [World.size_alloc]; omega) _)
  have HAT := Lib.hid hA
  have HBT := Lib.hid hB
  have HM := Lib.hid hm
  have HM2 := Lib.hid hm'
  unfold msV
  clear hA hB hm hm'
  by_cases g0 : k ≠ k'
  · have HR : Hid (sameM k p nd h s D k' p' nd' h' s' D' = false) := Lib.hid (decide_eq_false fun e => by have := e.1; exact g0 this)
    rw [HR.out]
    have b0 : (k == k') = false := by simpa using g0
    have d0 : decide (k = k') = false := decide_eq_false g0
    go_enter Tryd.func10, Tryd.ntmps10
    go_wp2_with fail
    go_ret
    exact ⟨rfl, HE.out⟩
  obtain rfl : k = k' := Classical.byContradiction fun e => g0 e
  clear g0
  by_cases g1 : p ≠ p'
  · have HR : Hid (sameM k p nd h s D k p' nd' h' s' D' = false) := Lib.hid (decide_eq_false fun e => by have := e.2.1; exact g1 this)
    rw [HR.out]
    have b1 : (p == p') = false := by simpa using g1
    have d1 : decide (p = p') = false := decide_eq_false g1
    go_enter Tryd.func10, Tryd.ntmps10
    go_wp2_with fail
    go_ret
    exact ⟨rfl, HE.out⟩
  obtain rfl : p = p' := Classical.byContradiction fun e => g1 e
  clear g1
  by_cases g2 : nd ≠ nd'
  · have HR : Hid (sameM k p nd h s D k p nd' h' s' D' = false) := Lib.hid (decide_eq_false fun e => by have := e.2.2.1; exact g2 this)
    rw [HR.out]
    have b2 : (nd == nd') = false := by simpa using g2
    have d2 : decide (nd = nd') = false := decide_eq_false g2
    go_enter Tryd.func10, Tryd.ntmps10
    go_wp2_with fail
    go_ret
    exact ⟨rfl, HE.out⟩
  obtain rfl : nd = nd' := Classical.byContradiction fun e => g2 e
  clear g2
  by_cases g3 : h ≠ h'
  · have HR : Hid (sameM k p nd h s D k p nd h' s' D' = false) := Lib.hid (decide_eq_false fun e => by have := e.2.2.2.1; exact g3 this)
    rw [HR.out]
    have b3 : (h == h') = false := by simpa using g3
    have d3 : decide (h = h') = false := decide_eq_false g3
    go_enter Tryd.func10, Tryd.ntmps10
    go_wp2_with fail
    go_ret
    exact ⟨rfl, HE.out⟩
  obtain rfl : h = h' := Classical.byContradiction fun e => g3 e
  clear g3
  by_cases g4 : s ≠ s'
  · have HR : Hid (sameM k p nd h s D k p nd h s' D' = false) := Lib.hid (decide_eq_false fun e => by have := e.2.2.2.2.1; exact g4 this)
    rw [HR.out]
    have n4 : ¬ (s : Int) = (s' : Int) := by omega
    have b4 : ((s : Int) == (s' : Int)) = false := by simpa using n4
    have d4 : decide ((s : Int) = (s' : Int)) = false := decide_eq_false n4
    have d5 : decide (s = s') = false := decide_eq_false g4
    go_enter Tryd.func10, Tryd.ntmps10
    go_wp2_with fail
    go_ret
    exact ⟨rfl, HE.out⟩
  obtain rfl : s = s' := Classical.byContradiction fun e => g4 e
  clear g4
  have HR : Hid (sameM k p nd h s D k p nd h s D' = decide (D = D')) := Lib.hid (by simp [sameM])
  rw [HR.out]
  have h1 := fun c => conv_bts (c := c) (bts_below HAT.out HE.out) HM.out
  have h2 := fun c => conv_bts (c := c) (bts_below HBT.out HE.out) HM2.out
  by_cases g : D = D'
  · subst g
    obtain rfl : m = m' := by rw [← HM.out, ← HM2.out]
    go_enter Tryd.func10, Tryd.ntmps10
    go_wp2_with fail
    go_ret
    exact ⟨by simp, HE.out⟩
  · have hne : (strB D).toList ≠ (strB D').toList := fun e => g (strB_inj HAT.out.1 HBT.out.1 e)
    rw [decide_eq_false g]
    generalize strB D = T at *
    generalize strB D' = T2 at *
    have hd2 : decide (T.toList = T2.toList) = false := decide_eq_false hne
    go_enter Tryd.func10, Tryd.ntmps10
    go_wp2_with fail
    go_ret
    exact ⟨by simp [hne], HE.out⟩
end Go.Proofs.YtkkgigdgbiklmaaDoor
