/- victim. -/
import Derived.Test.YtnjoobggcejgkaaTlbE
namespace Go.Proofs.Ytnjoobggcejgkaa
open Go.RowKit

theorem way_cell {w : World} {gi k j : Nat} {l : List En} {e : En} (h : Blk w gi 59 (waysC l).toArray) (he : l[k]? = some e) (hj : j < 15) : w.cell? ⟨gi, k * 15 + j, none⟩ = e.vs[j]? := by
  rw [h.cell, List.getElem?_toArray, waysC_get _ _ _ _ he hj]
theorem i64_not (p : Int) (h : -9223372036854775808 ≤ p ∧ p < 9223372036854775808) : bits .xor .i64 (-1) p = -1 - p := by
  show IntKind.i64.wrap ((BitVec.ofInt 64 (-1) ^^^ BitVec.ofInt 64 p).toNat : Int) = -1 - p
  have e : (BitVec.ofInt 64 (-1) ^^^ BitVec.ofInt 64 p).toNat = 18446744073709551615 - (p % 18446744073709551616).toNat := by
    rw [show BitVec.ofInt 64 (-1) = BitVec.allOnes 64 from by decide, BitVec.allOnes_xor, BitVec.toNat_not, BitVec.toNat_ofInt]
    rfl
  rw [e, IntKind.wrap_i64]
  omega
def absP (p : Int) : Int := if p < 0 then -1 - p else p
theorem pick_mod (pick : Int) (m : Nat) (hm : 0 < m) : (absP pick).tmod (m : Int) = (((absP pick).toNat % m : Nat) : Int) := by
  have h0 : 0 ≤ absP pick := by unfold absP; split <;> omega
  obtain ⟨x, hx⟩ := Int.eq_ofNat_of_zero_le h0
  rw [hx, Int.tmod_eq_emod_of_nonneg (by omega)]
  simp
def sameB (n e : En) : Bool := e.full && (e.lf.lev == n.lf.lev && (e.page == n.page && e.asid == n.asid))
def freeB (e : En) : Bool := !e.full
def emp (l : List En) : Int := match l.findIdx? freeB with
  | some i => i
  | none => -1
def victimN (l : List En) (n : En) (pick : Int) : Nat := match l.findIdx? (sameB n) with
  | some i => i
  | none => match l.findIdx? freeB with
    | some i => i
    | none => (absP pick).toNat % l.length
theorem emp_nil : emp [] = -1 := rfl
theorem emp_lt (l : List En) : emp l < l.length := by
  unfold emp
  split
  · rename_i i h
    have := (List.findIdx?_eq_some_iff_getElem.1 h).1
    omega
  · omega
theorem emp_snoc (l : List En) (e : En) : emp (l ++ [e]) = if emp l < 0 ∧ e.full = false then (l.length : Int) else emp l := by
  unfold emp
  rw [List.findIdx?_append]
  cases h : l.findIdx? freeB with
  | some i =>
    simp only [Option.some_or]
    rw [if_neg (by omega)]
  | none =>
    simp only [Option.none_or]
    cases hf : e.full with
    | true =>
      simp [List.findIdx?_cons, freeB, hf]
    | false =>
      simp [List.findIdx?_cons, freeB, hf]
theorem take_snoc {l : List En} {k : Nat} {e : En} (he : l[k]? = some e) : l.take (k + 1) = l.take k ++ [e] := by
  rw [List.take_add_one, he]; rfl
theorem victim_hit {l : List En} {n e : En} {k : Nat} {pick : Int} (he : l[k]? = some e) (hno : ∀ y ∈ l.take k, sameB n y = false) (hs : sameB n e = true) : victimN l n pick = k := by
  have hk : k < l.length := by
    rcases Nat.lt_or_ge k l.length with h1 | h1
    · exact h1
    · rw [List.getElem?_eq_none h1] at he; cases he
  have : l.findIdx? (sameB n) = some k := by
    rw [List.findIdx?_eq_some_iff_getElem]
    rw [List.getElem?_eq_getElem hk] at he
    injection he with he
    refine ⟨hk, by rw [he]; exact hs, fun j hj => ?_⟩
    rw [hno _ (List.mem_take_iff_getElem.2 ⟨j, by omega, rfl⟩)]
    decide
  unfold victimN
  rw [this]
theorem victim_miss {l : List En} {n : En} {pick : Int} (hno : ∀ y ∈ l.take l.length, sameB n y = false) : l.findIdx? (sameB n) = none := by
  rw [List.take_length] at hno
  rw [List.findIdx?_eq_none_iff]
  exact fun x hx => hno x hx
theorem victim_free {l : List En} {n : En} {pick : Int} (hno : ∀ y ∈ l.take l.length, sameB n y = false) (h : 0 ≤ emp l) : ((victimN l n pick : Nat) : Int) = emp l := by
  unfold victimN
  rw [victim_miss (pick := pick) hno]
  unfold emp at h ⊢
  cases hf : l.findIdx? freeB with
  | some i => rfl
  | none => rw [hf] at h; exact absurd h (by decide)
theorem victim_pick {l : List En} {n : En} {pick : Int} (hno : ∀ y ∈ l.take l.length, sameB n y = false) (h : emp l < 0) : victimN l n pick = (absP pick).toNat % l.length := by
  unfold victimN
  rw [victim_miss (pick := pick) hno]
  unfold emp at h
  cases hf : l.findIdx? freeB with
  | some i => rw [hf] at h; exact absurd h (by simp)
  | none => rfl
def VRel (W W0 : World) (l : List En) (n : En) (k : Nat) (em : Value) (wr : World) : Prop := Below W0.heap.size W0 wr ∧ em = .int .i64 (emp (l.take k)) ∧ ∀ y ∈ l.take k, sameB n y = false
set_option maxHeartbeats 4000000 in
theorem victim_any (gi : Nat) (l : List En) (m : Nat) (n : En) (pick : Int) (W : World) (hm : 0 < m) (hm2 : m ≤ 8) (hl : l.length = m) (hp : -9223372036854775808 ≤ pick ∧ pick < 9223372036854775808) (hB : Blk W gi 59 (waysC l).toArray) :
    Calls Try.prog 21 #[.slice (some ⟨gi, 0, none⟩) m m, n.val, .int .i64 pick] W fun e w' => e = .returned (.int .i64 (victimN l n pick : Nat)) ∧ Below W.heap.size W w' := by
  have hc := (Below.refl W.heap.size W).alloc (Nat.le_refl _) (.cells #[.bool n.full, .int .i64 n.asid, .int .u64 n.page, .bool n.lf.v, .bool n.lf.r, .bool n.lf.w, .bool n.lf.x, .bool n.lf.u, .bool n.lf.g, .bool n.lf.a, .bool n.lf.d, .int .i64 n.lf.rsw, .int .u64 n.lf.ppn, .int .i64 n.lf.lev, .int .u64 n.lf.pos] 59)
  have hX : Blk (W.alloc (.cells #[.bool n.full, .int .i64 n.asid, .int .u64 n.page, .bool n.lf.v, .bool n.lf.r, .bool n.lf.w, .bool n.lf.x, .bool n.lf.u, .bool n.lf.g, .bool n.lf.a, .bool n.lf.d, .int .i64 n.lf.rsw, .int .u64 n.lf.ppn, .int .i64 n.lf.lev, .int .u64 n.lf.pos] 59)) W.heap.size 59 #[.bool n.full, .int .i64 n.asid, .int .u64 n.page, .bool n.lf.v, .bool n.lf.r, .bool n.lf.w, .bool n.lf.x, .bool n.lf.u, .bool n.lf.g, .bool n.lf.a, .bool n.lf.d, .int .i64 n.lf.rsw, .int .u64 n.lf.ppn, .int .i64 n.lf.lev, .int .u64 n.lf.pos] := Blkf.new_at _ _ _ _ rfl
  have HB0 := Lib.hid (hB.below hc hB.lt)
  have HC0 := Lib.hid hc
  have HX0 := Lib.hid hX
  have HP := Lib.hid hp
  have HL := Lib.hid hl
  clear hc hX hB hp hl
  unfold En.val
  go_enter Try.func21, Try.ntmps21
  go_wp2_with fail
  generalize W.alloc (.cells #[.bool n.full, .int .i64 n.asid, .int .u64 n.page, .bool n.lf.v, .bool n.lf.r, .bool n.lf.w, .bool n.lf.x, .bool n.lf.u, .bool n.lf.g, .bool n.lf.a, .bool n.lf.d, .int .i64 n.lf.rsw, .int .u64 n.lf.ppn, .int .i64 n.lf.lev, .int .u64 n.lf.pos] 59) = W0 at *
  go_loopw [7, 12] (fun em i wr => ∃ k : Nat, k ≤ m ∧ i = .int .i64 k ∧ VRel W W0 l n k em wr) (fun _ i _ => m - (intOf i).toNat)
  case atStart => exact ⟨0, by omega, rfl, Below.refl _ _, rfl, fun y hy => by simp at hy⟩
  case round =>
    obtain ⟨k, hk, rfl, hbel, rfl, hno⟩ := hrel
    have HBE := Lib.hid hbel
    have HNO := Lib.hid hno
    clear hbel hno
    have HBW := Lib.hid (HB0.out.below HBE.out HB0.out.lt)
    have HXW := Lib.hid (HX0.out.below HBE.out HX0.out.lt)
    have HCW := Lib.hid (HC0.out.trans (HBE.out.mono HC0.out.size))
    have hel := emp_lt (l.take k)
    have HEL : Hid ((l.take k).length = k) := Lib.hid (by rw [List.length_take, HL.out]; omega)
    rw [HEL.out] at hel
    by_cases hkl : k < m
    · obtain ⟨e, he⟩ : ∃ e, l[k]? = some e := ⟨_, List.getElem?_eq_getElem (by rw [HL.out]; exact hkl)⟩
      have HE := Lib.hid he
      have HSN := Lib.hid (emp_snoc (l.take k) e)
      rw [HEL.out, ← take_snoc he] at HSN
      have HTM := Lib.hid (fun h => take_more he HNO.out h)
      have hge : -1 ≤ emp (l.take k) := by unfold emp; split <;> omega
      generalize hem : emp (l.take k) = em at *
      clear he hem
      have c0 := way_cell HBW.out HE.out (j := 0) (by decide)
      have c1 := way_cell HBW.out HE.out (j := 1) (by decide)
      have c2 := way_cell HBW.out HE.out (j := 2) (by decide)
      have c3 := way_cell HBW.out HE.out (j := 3) (by decide)
      have c4 := way_cell HBW.out HE.out (j := 4) (by decide)
      have c5 := way_cell HBW.out HE.out (j := 5) (by decide)
      have c6 := way_cell HBW.out HE.out (j := 6) (by decide)
      have c7 := way_cell HBW.out HE.out (j := 7) (by decide)
      have c8 := way_cell HBW.out HE.out (j := 8) (by decide)
      have c9 := way_cell HBW.out HE.out (j := 9) (by decide)
      have c10 := way_cell HBW.out HE.out (j := 10) (by decide)
      have c11 := way_cell HBW.out HE.out (j := 11) (by decide)
      have c12 := way_cell HBW.out HE.out (j := 12) (by decide)
      have c13 := way_cell HBW.out HE.out (j := 13) (by decide)
      have c14 := way_cell HBW.out HE.out (j := 14) (by decide)
      simp [En.vs] at c0 c1 c2 c3 c4 c5 c6 c7 c8 c9 c10 c11 c12 c13 c14
      have n1 := HXW.out.cell 1
      have n2 := HXW.out.cell 2
      have n13 := HXW.out.cell 13
      have nl := HXW.out.lt
      simp at n1 n2 n13
      have hal := (Below.refl wr.heap.size wr).alloc (Nat.le_refl _) (.cells #[.bool e.full, .int .i64 e.asid, .int .u64 e.page, .bool e.lf.v, .bool e.lf.r, .bool e.lf.w, .bool e.lf.x, .bool e.lf.u, .bool e.lf.g, .bool e.lf.a, .bool e.lf.d, .int .i64 e.lf.rsw, .int .u64 e.lf.ppn, .int .i64 e.lf.lev, .int .u64 e.lf.pos] 59)
      have HAL := Lib.hid (HBE.out.trans (hal.mono HBE.out.size))
      clear hal
      cases hf : e.full
      · have hs : sameB n e = false := by unfold sameB; rw [hf]; rfl
        have HS := Lib.hid (HTM.out hs)
        rw [hf] at HAL HSN
        by_cases h0 : em < 0
        · rw [if_pos ⟨h0, rfl⟩] at HSN
          clear hs
          go_wp2_with fail
          exact ⟨⟨k + 1, hkl, by go_num, HAL.out, by rw [HSN.out], HS.out⟩, by simp [intOf]; omega⟩
        · rw [if_neg (fun h => h0 h.1)] at HSN
          clear hs
          go_wp2_with fail
          exact ⟨⟨k + 1, hkl, by go_num, HAL.out, by rw [HSN.out], HS.out⟩, by simp [intOf]; omega⟩
      · rw [if_neg (by rw [hf]; simp)] at HSN
        rw [hf] at HAL
        cases hv1 : (e.lf.lev == n.lf.lev)
        · have hs : sameB n e = false := by unfold sameB; rw [hf, hv1]; simp
          have HS := Lib.hid (HTM.out hs)
          clear hs
          go_wp2_with fail
          exact ⟨⟨k + 1, hkl, by go_num, HAL.out, by rw [HSN.out], HS.out⟩, by simp [intOf]; omega⟩
        · skip
          cases hv2 : (e.page == n.page)
          · have hs : sameB n e = false := by unfold sameB; rw [hf, hv1, hv2]; simp
            have HS := Lib.hid (HTM.out hs)
            clear hs
            rw [← nat_beq] at hv2
            go_wp2_with fail
            exact ⟨⟨k + 1, hkl, by go_num, HAL.out, by rw [HSN.out], HS.out⟩, by simp [intOf]; omega⟩
          · skip
            cases hv3 : (e.asid == n.asid)
            · have hs : sameB n e = false := by unfold sameB; rw [hf, hv1, hv2, hv3]; simp
              have HS := Lib.hid (HTM.out hs)
              clear hs
              rw [← nat_beq] at hv2
              go_wp2_with fail
              exact ⟨⟨k + 1, hkl, by go_num, HAL.out, by rw [HSN.out], HS.out⟩, by simp [intOf]; omega⟩
            · skip
              have hs : sameB n e = true := by unfold sameB; rw [hf, hv1, hv2, hv3]; rfl
              have HV := Lib.hid (victim_hit (pick := pick) HE.out HNO.out hs)
              clear hs
              rw [← nat_beq] at hv2
              go_wp2_with fail
              go_ret
              exact ⟨by rw [HV.out]; rfl, HC0.out.trans (HAL.out.mono HC0.out.size)⟩
    · obtain rfl : m = k := by omega
      have hno : ∀ y ∈ l.take l.length, sameB n y = false := by rw [HL.out]; exact HNO.out
      have htl : l.take m = l := List.take_of_length_le (by rw [HL.out]; exact Nat.le_refl _)
      rw [htl] at hel ⊢
      have HVF := Lib.hid (fun h => victim_free (pick := pick) hno h)
      have HVP := Lib.hid (fun h => victim_pick (pick := pick) hno h)
      clear hno htl
      generalize hem : emp l = em at *
      clear hem
      by_cases h0 : 0 ≤ em
      · have HV := Lib.hid (HVF.out h0)
        go_wp2_with fail
        go_ret
        exact ⟨by rw [HV.out]; rfl, HCW.out⟩
      · have HV := Lib.hid (HVP.out (by omega))
        have hmz : ¬ (m : Int) = 0 := by omega
        have HPM := Lib.hid (pick_mod pick m hm)
        have HMM := Lib.hid HL.out
        by_cases hpn : pick < 0
        · have HAP : Hid (bits .xor .i64 (-1) pick = absP pick) := Lib.hid (by rw [i64_not pick HP.out]; unfold absP; rw [if_pos hpn])
          go_wp2_with fail
          go_ret
          refine ⟨?_, HCW.out⟩
          show Ending.returned (Value.int IntKind.i64 ((bits BinOp.xor IntKind.i64 (-1) pick).tmod (m : Int))) = _
          rw [HAP.out, HPM.out, HV.out, HMM.out]
        · have HAP : Hid (absP pick = pick) := Lib.hid (by unfold absP; rw [if_neg hpn])
          go_wp2_with fail
          go_ret
          refine ⟨?_, HCW.out⟩
          show Ending.returned (Value.int IntKind.i64 (pick % (m : Int))) = _
          rw [HV.out, HMM.out, ← HPM.out, HAP.out, Int.tmod_eq_emod_of_nonneg (by omega)]
end Go.Proofs.Ytnjoobggcejgkaa
