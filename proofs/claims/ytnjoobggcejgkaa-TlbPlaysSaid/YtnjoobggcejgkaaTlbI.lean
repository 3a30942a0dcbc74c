/- Fence: the walk. -/
import Derived.Test.YtnjoobggcejgkaaTlbH
namespace Go.Proofs.Ytnjoobggcejgkaa
open Go.RowKit

def FeR (W : World) (g gs : Nat) (G : Nat → Nat) (T : List (List En)) (m : Nat) (vo : Option Nat) (ao : Option Int) (i k : Nat) (wr : World) : Prop :=
  BufAt wr g gs G (midT T vo ao i k) m ∧ Keeps (bufF g gs G T.length) W wr
theorem valid_mid {T : List (List En)} (h : Valid T) {i k : Nat} {e : En} (hi : i < T.length) (he : (T.getD i [])[k]? = some e) : e.full = true → levOK e.lf.lev = true := by
  have hmem : (T.getD i []) ∈ T := by rw [List.getD_eq_getElem?_getD, List.getElem?_eq_getElem hi]; exact List.getElem_mem _
  exact h _ hmem e (List.mem_of_getElem? he)
theorem set_self {T : List (List En)} {a : Nat} : T.set a (T.getD a []) = T := by
  apply List.ext_getElem?
  intro i
  rcases Nat.lt_or_ge a T.length with h | h
  · by_cases hi : a = i
    · subst hi
      rw [List.getElem?_set_self h, List.getD_eq_getElem?_getD, List.getElem?_eq_getElem h]
      rfl
    · rw [List.getElem?_set_ne hi]
  · rw [List.set_eq_of_length_le h]
theorem cntT_le (T : List (List En)) (vo : Option Nat) (ao : Option Int) (m : Nat) : ∀ (a : Nat), a ≤ T.length → (∀ i, i < T.length → (T.getD i []).length = m) → cntT T vo ao a ≤ a * m
  | 0, _, _ => by simp [cntT, fenceN]
  | a + 1, h, hw => by
    have h1 := cntT_le T vo ao m a (by omega) hw
    have h2 := cntT_next T vo ao a m (by omega) (by rw [hw a (by omega)]; exact Nat.le_refl _)
    have h3 : cntW vo ao ((T.getD a []).take m) ≤ m := Nat.le_trans (List.countP_le_length) (by rw [List.length_take]; omega)
    rw [← h2, Nat.succ_mul]
    omega
set_option maxHeartbeats 4000000 in
theorem fence_any (g gs : Nat) (G : Nat → Nat) (T : List (List En)) (m : Nat) (vo : Option Nat) (ao : Option Int) (V A : Value) (W : World) (hv : ∀ va, vo = some va → va < 18446744073709551616) (hn : 0 < T.length) (hn2 : T.length ≤ 64) (hm0 : 0 < m) (hm : m ≤ 8) (hB : BufAt W g gs G T m) (hval : Valid T) (hV : OneU W vo V) (hA : OneI W ao A) :
    Calls Try.prog 10 #[.pointer (some ⟨g, 0, none⟩), V, A] W fun e w' => e = .returned (.int .i64 (fenceN T vo ao : Nat)) ∧ BufAt w' g gs G (fenceS T vo ao) m ∧ Keeps (bufF g gs G T.length) W w' := by
  have HB := Lib.hid hB
  have HV := Lib.hid hV
  have HA := Lib.hid hA
  obtain ⟨c, hc⟩ := hB.head
  obtain ⟨n, hnn⟩ : ∃ n, n = T.length := ⟨_, rfl⟩
  have HN := Lib.hid hnn
  have h0 := hc.cell 0
  have hgl := hc.lt
  simp at h0
  rw [← hnn] at hn hn2 h0
  clear hc hB hV hA hnn
  go_enter Try.func10, Try.ntmps10
  go_wp2_with fail
  go_loopw [7, 19] (fun cv i wr => ∃ a : Nat, a ≤ n ∧ i = .int .i64 a ∧ cv = .int .i64 (cntT T vo ao a : Nat) ∧ FeR W g gs G T m vo ao a 0 wr) (fun _ i _ => n - (intOf i).toNat)
  case atStart => exact ⟨0, by omega, rfl, rfl, by rw [midT_zero]; exact HB.out, Keeps.refl _ _⟩
  case round =>
    obtain ⟨a, ha, rfl, rfl, hB1, hK1⟩ := hrel
    have HB1 := Lib.hid hB1
    have HK1 := Lib.hid hK1
    clear hB1 hK1 h0
    by_cases hal : a < n
    · have HAL : Hid (a < T.length) := Lib.hid (by rw [← HN.out]; exact hal)
      obtain ⟨cur, ho, hcur⟩ := HB1.out.outer
      have hro := (ho.cell a).trans (hcur a (by rw [midT_length _ _ _ _ _ (Nat.le_of_lt HAL.out)]; exact HAL.out))
      clear ho hcur
      go_wp2_with fail
      clear hro
      go_loopw [7, 25] (fun cv i wr => ∃ k : Nat, k ≤ m ∧ i = .int .i64 k ∧ cv = .int .i64 (cntT T vo ao a + cntW vo ao ((T.getD a []).take k) : Nat) ∧ FeR W g gs G T m vo ao a k wr) (fun _ i _ => m - (intOf i).toNat)
      case atStart => exact ⟨0, by omega, rfl, by simp [cntW], HB1.out, HK1.out⟩
      case round =>
        obtain ⟨k, hk, rfl, rfl, hB2, hK2⟩ := hrel
        rename World => wr
        have HB2 := Lib.hid hB2
        have HK2 := Lib.hid hK2
        clear hB2 hK2
        have HWY : Hid ((T.getD a []).length = m) := Lib.hid (HB.out.ways a HAL.out)
        by_cases hkl : k < m
        · obtain ⟨e, he⟩ : ∃ e, (T.getD a [])[k]? = some e := ⟨_, List.getElem?_eq_getElem (by rw [HWY.out]; exact hkl)⟩
          have HE := Lib.hid he
          have HLV := Lib.hid (valid_mid hval HAL.out he)
          have HCN := Lib.hid (cnt_snoc vo ao _ k e he)
          have HML : Hid (a < (midT T vo ao a k).length) := Lib.hid (by rw [midT_length _ _ _ _ _ (Nat.le_of_lt HAL.out)]; exact HAL.out)
          have hme : ((midT T vo ao a k).getD a [])[k]? = some e := by rw [midT_self T vo ao a k HAL.out]; exact fenW_get vo ao _ k e he
          have HME := Lib.hid hme
          have hcw : cntT T vo ao a + cntW vo ao ((T.getD a []).take k) ≤ 1000 := by
            have h1 : cntT T vo ao a ≤ a * m := cntT_le T vo ao m a (Nat.le_of_lt HAL.out) HB.out.ways
            have h2 : cntW vo ao ((T.getD a []).take k) ≤ k := Nat.le_trans (List.countP_le_length) (by rw [List.length_take]; omega)
            have h3 : a * m ≤ 64 * 8 := Nat.mul_le_mul (by omega) hm
            omega
          generalize hcv : cntT T vo ao a + cntW vo ao ((T.getD a []).take k) = cv at *
          have HCV := Lib.hid hcv
          clear he hme hcv
          have c0 := HB2.out.cell HML.out k 0 e HME.out (by decide)
          have c1 := HB2.out.cell HML.out k 1 e HME.out (by decide)
          have c2 := HB2.out.cell HML.out k 2 e HME.out (by decide)
          have c3 := HB2.out.cell HML.out k 3 e HME.out (by decide)
          have c4 := HB2.out.cell HML.out k 4 e HME.out (by decide)
          have c5 := HB2.out.cell HML.out k 5 e HME.out (by decide)
          have c6 := HB2.out.cell HML.out k 6 e HME.out (by decide)
          have c7 := HB2.out.cell HML.out k 7 e HME.out (by decide)
          have c8 := HB2.out.cell HML.out k 8 e HME.out (by decide)
          have c9 := HB2.out.cell HML.out k 9 e HME.out (by decide)
          have c10 := HB2.out.cell HML.out k 10 e HME.out (by decide)
          have c11 := HB2.out.cell HML.out k 11 e HME.out (by decide)
          have c12 := HB2.out.cell HML.out k 12 e HME.out (by decide)
          have c13 := HB2.out.cell HML.out k 13 e HME.out (by decide)
          have c14 := HB2.out.cell HML.out k 14 e HME.out (by decide)
          simp [En.vs] at c0 c1 c2 c3 c4 c5 c6 c7 c8 c9 c10 c11 c12 c13 c14
          have hal2 := (Below.refl wr.heap.size wr).alloc (Nat.le_refl _) (.cells #[.bool e.full, .int .i64 e.asid, .int .u64 e.page, .bool e.lf.v, .bool e.lf.r, .bool e.lf.w, .bool e.lf.x, .bool e.lf.u, .bool e.lf.g, .bool e.lf.a, .bool e.lf.d, .int .i64 e.lf.rsw, .int .u64 e.lf.ppn, .int .i64 e.lf.lev, .int .u64 e.lf.pos] 59)
          have HAW := Lib.hid hal2
          clear hal2
          go_wp2_with fail
          refine (goes_any e vo ao V A _ hv HLV.out ((HV.out.far HB.out hm0 (by rw [← HN.out]; exact hn) HK2.out).below HAW.out) ((HA.out.far HB.out hm0 (by rw [← HN.out]; exact hn) HK2.out).below HAW.out)).mono ?_
          rintro r w3 ⟨rfl, hb⟩
          have hbb : Below wr.heap.size wr w3 := HAW.out.trans (hb.mono HAW.out.size)
          have HB3 := Lib.hid (HB2.out.below hbb)
          have HK3 := Lib.hid (HK2.out.same ((Keeps.of_below hbb)))
          clear hb hbb c0 c1 c2 c3 c4 c5 c6 c7 c8 c9 c10 c11 c12 c13 c14
          cases hgo : goesB e vo ao
          · rw [hgo] at HCN
            have HMM : Hid (midT T vo ao a (k + 1) = midT T vo ao a k) := Lib.hid (by
              rw [← midT_set T vo ao a k HAL.out, fenW_keep vo ao _ k e HE.out hgo, ← midT_self T vo ao a k HAL.out, set_self])
            clear hgo
            go_wp2_with fail
            refine ⟨⟨k + 1, hkl, by go_num, ?_, ?_, HK3.out⟩, by simp [intOf]; omega⟩
            · rw [HCN.out, ← HCV.out]; simp
            · rw [HMM.out]; exact HB3.out
          · rw [hgo] at HCN
            have HFE : Hid (fen vo ao e = en0) := Lib.hid (by unfold fen; rw [hgo]; rfl)
            clear hgo
            have hgb := HB3.out.inner a HML.out
            have z0 := HB3.out.cell HML.out k 0 e HME.out (by decide)
            have z1 := HB3.out.cell HML.out k 1 e HME.out (by decide)
            have z2 := HB3.out.cell HML.out k 2 e HME.out (by decide)
            have z3 := HB3.out.cell HML.out k 3 e HME.out (by decide)
            have z4 := HB3.out.cell HML.out k 4 e HME.out (by decide)
            have z5 := HB3.out.cell HML.out k 5 e HME.out (by decide)
            have z6 := HB3.out.cell HML.out k 6 e HME.out (by decide)
            have z7 := HB3.out.cell HML.out k 7 e HME.out (by decide)
            have z8 := HB3.out.cell HML.out k 8 e HME.out (by decide)
            have z9 := HB3.out.cell HML.out k 9 e HME.out (by decide)
            have z10 := HB3.out.cell HML.out k 10 e HME.out (by decide)
            have z11 := HB3.out.cell HML.out k 11 e HME.out (by decide)
            have z12 := HB3.out.cell HML.out k 12 e HME.out (by decide)
            have z13 := HB3.out.cell HML.out k 13 e HME.out (by decide)
            have z14 := HB3.out.cell HML.out k 14 e HME.out (by decide)
            simp [En.vs] at z0 z1 z2 z3 z4 z5 z6 z7 z8 z9 z10 z11 z12 z13 z14
            have zl := hgb.lt
            have zf := fun i => hgb.frozen i
            have HGB := Lib.hid hgb
            clear hgb
            go_wp2_with fail
            clear z0 z1 z2 z3 z4 z5 z6 z7 z8 z9 z10 z11 z12 z13 z14 zl zf
            have hZ := (((((((((((((((HGB.out.set_ (k * 15) (.bool false)).set_ (k * 15 + 1) (.int .i64 0)).set_ (k * 15 + 2) (.int .u64 0)).set_ (k * 15 + 3) (.bool false)).set_ (k * 15 + 4) (.bool false)).set_ (k * 15 + 5) (.bool false)).set_ (k * 15 + 6) (.bool false)).set_ (k * 15 + 7) (.bool false)).set_ (k * 15 + 8) (.bool false)).set_ (k * 15 + 9) (.bool false)).set_ (k * 15 + 10) (.bool false)).set_ (k * 15 + 11) (.int .i64 0)).set_ (k * 15 + 12) (.int .u64 0)).set_ (k * 15 + 13) (.int .i64 0)).set_ (k * 15 + 14) (.int .u64 0))
            have hKK := ((((((((((((((((Keeps.refl (fun x => x = G a) w3).setCell (p := ⟨G a, k * 15, none⟩) (.inl rfl) (.bool false)).setCell (p := ⟨G a, k * 15 + 1, none⟩) (.inl rfl) (.int .i64 0)).setCell (p := ⟨G a, k * 15 + 2, none⟩) (.inl rfl) (.int .u64 0)).setCell (p := ⟨G a, k * 15 + 3, none⟩) (.inl rfl) (.bool false)).setCell (p := ⟨G a, k * 15 + 4, none⟩) (.inl rfl) (.bool false)).setCell (p := ⟨G a, k * 15 + 5, none⟩) (.inl rfl) (.bool false)).setCell (p := ⟨G a, k * 15 + 6, none⟩) (.inl rfl) (.bool false)).setCell (p := ⟨G a, k * 15 + 7, none⟩) (.inl rfl) (.bool false)).setCell (p := ⟨G a, k * 15 + 8, none⟩) (.inl rfl) (.bool false)).setCell (p := ⟨G a, k * 15 + 9, none⟩) (.inl rfl) (.bool false)).setCell (p := ⟨G a, k * 15 + 10, none⟩) (.inl rfl) (.bool false)).setCell (p := ⟨G a, k * 15 + 11, none⟩) (.inl rfl) (.int .i64 0)).setCell (p := ⟨G a, k * 15 + 12, none⟩) (.inl rfl) (.int .u64 0)).setCell (p := ⟨G a, k * 15 + 13, none⟩) (.inl rfl) (.int .i64 0)).setCell (p := ⟨G a, k * 15 + 14, none⟩) (.inl rfl) (.int .u64 0))
            simp only [List.setIfInBounds_toArray] at hZ
            have hlen : k < ((midT T vo ao a k).getD a []).length := by rw [midT_self T vo ao a k HAL.out, fenW_length, HWY.out]; exact hkl
            have hZ2 : Blk (((((((((((((((w3.setCell ⟨G a, k * 15, none⟩ (.bool false)).setCell ⟨G a, k * 15 + 1, none⟩ (.int .i64 0)).setCell ⟨G a, k * 15 + 2, none⟩ (.int .u64 0)).setCell ⟨G a, k * 15 + 3, none⟩ (.bool false)).setCell ⟨G a, k * 15 + 4, none⟩ (.bool false)).setCell ⟨G a, k * 15 + 5, none⟩ (.bool false)).setCell ⟨G a, k * 15 + 6, none⟩ (.bool false)).setCell ⟨G a, k * 15 + 7, none⟩ (.bool false)).setCell ⟨G a, k * 15 + 8, none⟩ (.bool false)).setCell ⟨G a, k * 15 + 9, none⟩ (.bool false)).setCell ⟨G a, k * 15 + 10, none⟩ (.bool false)).setCell ⟨G a, k * 15 + 11, none⟩ (.int .i64 0)).setCell ⟨G a, k * 15 + 12, none⟩ (.int .u64 0)).setCell ⟨G a, k * 15 + 13, none⟩ (.int .i64 0)).setCell ⟨G a, k * 15 + 14, none⟩ (.int .u64 0)) (G a) 59 (waysC (((midT T vo ao a k).getD a []).set k en0)).toArray := by
              rw [← ways_set _ k en0 hlen]
              exact hZ
            generalize (((((((((((((((w3.setCell ⟨G a, k * 15, none⟩ (.bool false)).setCell ⟨G a, k * 15 + 1, none⟩ (.int .i64 0)).setCell ⟨G a, k * 15 + 2, none⟩ (.int .u64 0)).setCell ⟨G a, k * 15 + 3, none⟩ (.bool false)).setCell ⟨G a, k * 15 + 4, none⟩ (.bool false)).setCell ⟨G a, k * 15 + 5, none⟩ (.bool false)).setCell ⟨G a, k * 15 + 6, none⟩ (.bool false)).setCell ⟨G a, k * 15 + 7, none⟩ (.bool false)).setCell ⟨G a, k * 15 + 8, none⟩ (.bool false)).setCell ⟨G a, k * 15 + 9, none⟩ (.bool false)).setCell ⟨G a, k * 15 + 10, none⟩ (.bool false)).setCell ⟨G a, k * 15 + 11, none⟩ (.int .i64 0)).setCell ⟨G a, k * 15 + 12, none⟩ (.int .u64 0)).setCell ⟨G a, k * 15 + 13, none⟩ (.int .i64 0)).setCell ⟨G a, k * 15 + 14, none⟩ (.int .u64 0)) = w4 at *
            have HBF := Lib.hid (HB3.out.turn HML.out (by rw [List.length_set, midT_self T vo ao a k HAL.out, fenW_length, HWY.out]) hKK hZ2)
            have HKF : Hid (Keeps (bufF g gs G T.length) W w4) := Lib.hid (HK3.out.trans hKK (fun i hi => .inl (.inr (.inr ⟨a, HAL.out, hi⟩))))
            clear hZ hKK hZ2 hlen
            refine ⟨⟨k + 1, hkl, by go_num, ?_, ?_, HKF.out⟩, by simp [intOf]; omega⟩
            · rw [HCN.out, ← HCV.out]; simp; omega
            · have h1 := HBF.out
              rw [midT_self T vo ao a k HAL.out, ← HFE.out, ← fenW_step vo ao _ k e HE.out, midT_set T vo ao a k HAL.out] at h1
              exact h1
        · obtain rfl : m = k := by omega
          have HMN := Lib.hid (midT_next T vo ao a m HAL.out (by rw [HWY.out]; exact Nat.le_refl _))
          have HCX := Lib.hid (cntT_next T vo ao a m HAL.out (by rw [HWY.out]; exact Nat.le_refl _))
          have h1 := HB2.out
          rw [HMN.out] at h1
          have HB5 := Lib.hid h1
          clear h1
          rw [HCX.out]
          go_wp2_with fail
          exact ⟨⟨a + 1, hal, by go_num, rfl, HB5.out, HK2.out⟩, by simp [intOf]; omega⟩
    · obtain rfl : n = a := by omega
      have h1 := HB1.out
      rw [HN.out, midT_end] at h1
      have HB5 := Lib.hid h1
      have HCE : Hid (cntT T vo ao n = fenceN T vo ao) := Lib.hid (by unfold cntT; rw [HN.out, List.take_length])
      clear h1
      go_wp2
      go_ret
      exact ⟨by rw [HCE.out]; rfl, HB5.out, HK1.out⟩
end Go.Proofs.Ytnjoobggcejgkaa
