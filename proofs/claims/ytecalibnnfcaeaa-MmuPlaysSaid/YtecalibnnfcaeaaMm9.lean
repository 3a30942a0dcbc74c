/- Merged texts: TlbF, TlbG, TlbH, TlbI. -/
import Derived.Test.YtecalibnnfcaeaaMm8
/- victim. -/
namespace Go.Proofs.Ytecalibnnfcaeaa
open Go.RowKit

theorem way_cell {w : World} {gi k j : Nat} {l : List En} {e : En} (h : Blk w gi 110 (waysC l).toArray) (he : l[k]? = some e) (hj : j < 15) : w.cell? ⟨gi, k * 15 + j, none⟩ = e.vs[j]? := by
  rw [h.cell, List.getElem?_toArray, waysC_get _ _ _ _ he hj]
theorem i64_not (p : Int) (h : -9223372036854775808 ≤ p ∧ p < 9223372036854775808) : bits .xor .i64 (-1) p = -1 - p := by
  show IntKind.i64.wrap ((BitVec.ofInt 64 (-1) ^^^ BitVec.ofInt 64 p).toNat : Int) = -1 - p
  have e : (BitVec.ofInt 64 (-1) ^^^ BitVec.ofInt 64 p).toNat = 18446744073709551615 - (p % 18446744073709551616).toNat := by
    rw [show BitVec.ofInt 64 (-1) = BitVec.allOnes 64 from by decide, BitVec.allOnes_xor, BitVec.toNat_not, BitVec.toNat_ofInt]
    rfl
  rw [e, IntKind.wrap_i64]
  omega
def absP (p : Int) : Int := if p < 0 then -1 - p else p
theorem pick_mod (pick : Int) (m : Nat) (hm : 0 < m) : (absP pick).tmod (m : Int) = (((absP pick).toNat % m : Nat) : Int) := by
  have h0 : 0 ≤ absP pick := by unfold absP; split <;> omega
  obtain ⟨x, hx⟩ := Int.eq_ofNat_of_zero_le h0
  rw [hx, Int.tmod_eq_emod_of_nonneg (by omega)]
  simp
def sameB (n e : En) : Bool := e.full && (e.lf.lev == n.lf.lev && (e.page == n.page && e.asid == n.asid))
def freeB (e : En) : Bool := !e.full
def emp (l : List En) : Int := match l.findIdx? freeB with
  | some i => i
  | none => -1
def victimN (l : List En) (n : En) (pick : Int) : Nat := match l.findIdx? (sameB n) with
  | some i => i
  | none => match l.findIdx? freeB with
    | some i => i
    | none => (absP pick).toNat % l.length
theorem emp_nil : emp [] = -1 := rfl
theorem emp_lt (l : List En) : emp l < l.length := by
  unfold emp
  split
  · rename_i i h
    have := (List.findIdx?_eq_some_iff_getElem.1 h).1
    omega
  · omega
theorem emp_snoc (l : List En) (e : En) : emp (l ++ [e]) = if emp l < 0 ∧ e.full = false then (l.length : Int) else emp l := by
  unfold emp
  rw [List.findIdx?_append]
  cases h : l.findIdx? freeB with
  | some i =>
    simp only [Option.some_or]
    rw [if_neg (by omega)]
  | none =>
    simp only [Option.none_or]
    cases hf : e.full with
    | true =>
      simp [List.findIdx?_cons, freeB, hf]
    | false =>
      simp [List.findIdx?_cons, freeB, hf]
theorem take_snoc {l : List En} {k : Nat} {e : En} (he : l[k]? = some e) : l.take (k + 1) = l.take k ++ [e] := by
  rw [List.take_add_one, he]; rfl
theorem victim_hit {l : List En} {n e : En} {k : Nat} {pick : Int} (he : l[k]? = some e) (hno : ∀ y ∈ l.take k, sameB n y = false) (hs : sameB n e = true) : victimN l n pick = k := by
  have hk : k < l.length := by
    rcases Nat.lt_or_ge k l.length with h1 | h1
    · exact h1
    · rw [List.getElem?_eq_none h1] at he; cases he
  have : l.findIdx? (sameB n) = some k := by
    rw [List.findIdx?_eq_some_iff_getElem]
    rw [List.getElem?_eq_getElem hk] at he
    injection he with he
    refine ⟨hk, by rw [he]; exact hs, fun j hj => ?_⟩
    rw [hno _ (List.mem_take_iff_getElem.2 ⟨j, by omega, rfl⟩)]
    decide
  unfold victimN
  rw [this]
theorem victim_miss {l : List En} {n : En} {pick : Int} (hno : ∀ y ∈ l.take l.length, sameB n y = false) : l.findIdx? (sameB n) = none := by
  rw [List.take_length] at hno
  rw [List.findIdx?_eq_none_iff]
  exact fun x hx => hno x hx
theorem victim_free {l : List En} {n : En} {pick : Int} (hno : ∀ y ∈ l.take l.length, sameB n y = false) (h : 0 ≤ emp l) : ((victimN l n pick : Nat) : Int) = emp l := by
  unfold victimN
  rw [victim_miss (pick := pick) hno]
  unfold emp at h ⊢
  cases hf : l.findIdx? freeB with
  | some i => rfl
  | none => rw [hf] at h; exact absurd h (by decide)
theorem victim_pick {l : List En} {n : En} {pick : Int} (hno : ∀ y ∈ l.take l.length, sameB n y = false) (h : emp l < 0) : victimN l n pick = (absP pick).toNat % l.length := by
  unfold victimN
  rw [victim_miss (pick := pick) hno]
  unfold emp at h
  cases hf : l.findIdx? freeB with
  | some i => rw [hf] at h; exact absurd h (by simp)
  | none => rfl
def VRel (W W0 : World) (l : List En) (n : En) (k : Nat) (em : Value) (wr : World) : Prop := Below W0.heap.size W0 wr ∧ em = .int .i64 (emp (l.take k)) ∧ ∀ y ∈ l.take k, sameB n y = false
set_option maxHeartbeats 4000000 in
theorem victim_any (gi : Nat) (l : List En) (m : Nat) (n : En) (pick : Int) (W : World) (hm : 0 < m) (hm2 : m ≤ 8) (hl : l.length = m) (hp : -9223372036854775808 ≤ pick ∧ pick < 9223372036854775808) (hB : Blk W gi 110 (waysC l).toArray) :
    Calls Try.prog 91 #[.slice (some ⟨gi, 0, none⟩) m m, n.val, .int .i64 pick] W fun e w' => e = .returned (.int .i64 (victimN l n pick : Nat)) ∧ Below W.heap.size W w' := by
  have hc := (Below.refl W.heap.size W).alloc (Nat.le_refl _) (.cells #[.bool n.full, .int .i64 n.asid, .int .u64 n.page, .bool n.lf.v, .bool n.lf.r, .bool n.lf.w, .bool n.lf.x, .bool n.lf.u, .bool n.lf.g, .bool n.lf.a, .bool n.lf.d, .int .i64 n.lf.rsw, .int .u64 n.lf.ppn, .int .i64 n.lf.lev, .int .u64 n.lf.pos] 110)
  have hX : Blk (W.alloc (.cells #[.bool n.full, .int .i64 n.asid, .int .u64 n.page, .bool n.lf.v, .bool n.lf.r, .bool n.lf.w, .bool n.lf.x, .bool n.lf.u, .bool n.lf.g, .bool n.lf.a, .bool n.lf.d, .int .i64 n.lf.rsw, .int .u64 n.lf.ppn, .int .i64 n.lf.lev, .int .u64 n.lf.pos] 110)) W.heap.size 110 #[.bool n.full, .int .i64 n.asid, .int .u64 n.page, .bool n.lf.v, .bool n.lf.r, .bool n.lf.w, .bool n.lf.x, .bool n.lf.u, .bool n.lf.g, .bool n.lf.a, .bool n.lf.d, .int .i64 n.lf.rsw, .int .u64 n.lf.ppn, .int .i64 n.lf.lev, .int .u64 n.lf.pos] := Blkf.new_at _ _ _ _ rfl
  have HB0 := Lib.hid (hB.below hc hB.lt)
  have HC0 := Lib.hid hc
  have HX0 := Lib.hid hX
  have HP := Lib.hid hp
  have HL := Lib.hid hl
  clear hc hX hB hp hl
  unfold En.val
  go_enter Try.func91, Try.ntmps91
  go_wp2_with fail
  generalize W.alloc (.cells #[.bool n.full, .int .i64 n.asid, .int .u64 n.page, .bool n.lf.v, .bool n.lf.r, .bool n.lf.w, .bool n.lf.x, .bool n.lf.u, .bool n.lf.g, .bool n.lf.a, .bool n.lf.d, .int .i64 n.lf.rsw, .int .u64 n.lf.ppn, .int .i64 n.lf.lev, .int .u64 n.lf.pos] 110) = W0 at *
  go_loopw [7, 12] (fun em i wr => ∃ k : Nat, k ≤ m ∧ i = .int .i64 k ∧ VRel W W0 l n k em wr) (fun _ i _ => m - (intOf i).toNat)
  case atStart => exact ⟨0, by omega, rfl, Below.refl _ _, rfl, fun y hy => by simp at hy⟩
  case round =>
    obtain ⟨k, hk, rfl, hbel, rfl, hno⟩ := hrel
    have HBE := Lib.hid hbel
    have HNO := Lib.hid hno
    clear hbel hno
    have HBW := Lib.hid (HB0.out.below HBE.out HB0.out.lt)
    have HXW := Lib.hid (HX0.out.below HBE.out HX0.out.lt)
    have HCW := Lib.hid (HC0.out.trans (HBE.out.mono HC0.out.size))
    have hel := emp_lt (l.take k)
    have HEL : Hid ((l.take k).length = k) := Lib.hid (by rw [List.length_take, HL.out]; omega)
    rw [HEL.out] at hel
    by_cases hkl : k < m
    · obtain ⟨e, he⟩ : ∃ e, l[k]? = some e := ⟨_, List.getElem?_eq_getElem (by rw [HL.out]; exact hkl)⟩
      have HE := Lib.hid he
      have HSN := Lib.hid (emp_snoc (l.take k) e)
      rw [HEL.out, ← take_snoc he] at HSN
      have HTM := Lib.hid (fun h => take_more he HNO.out h)
      have hge : -1 ≤ emp (l.take k) := by unfold emp; split <;> omega
      generalize hem : emp (l.take k) = em at *
      clear he hem
      have c0 := way_cell HBW.out HE.out (j := 0) (by decide)
      have c1 := way_cell HBW.out HE.out (j := 1) (by decide)
      have c2 := way_cell HBW.out HE.out (j := 2) (by decide)
      have c3 := way_cell HBW.out HE.out (j := 3) (by decide)
      have c4 := way_cell HBW.out HE.out (j := 4) (by decide)
      have c5 := way_cell HBW.out HE.out (j := 5) (by decide)
      have c6 := way_cell HBW.out HE.out (j := 6) (by decide)
      have c7 := way_cell HBW.out HE.out (j := 7) (by decide)
      have c8 := way_cell HBW.out HE.out (j := 8) (by decide)
      have c9 := way_cell HBW.out HE.out (j := 9) (by decide)
      have c10 := way_cell HBW.out HE.out (j := 10) (by decide)
      have c11 := way_cell HBW.out HE.out (j := 11) (by decide)
      have c12 := way_cell HBW.out HE.out (j := 12) (by decide)
      have c13 := way_cell HBW.out HE.out (j := 13) (by decide)
      have c14 := way_cell HBW.out HE.out (j := 14) (by decide)
      simp [En.vs] at c0 c1 c2 c3 c4 c5 c6 c7 c8 c9 c10 c11 c12 c13 c14
      have n1 := HXW.out.cell 1
      have n2 := HXW.out.cell 2
      have n13 := HXW.out.cell 13
      have nl := HXW.out.lt
      simp at n1 n2 n13
      have hal := (Below.refl wr.heap.size wr).alloc (Nat.le_refl _) (.cells #[.bool e.full, .int .i64 e.asid, .int .u64 e.page, .bool e.lf.v, .bool e.lf.r, .bool e.lf.w, .bool e.lf.x, .bool e.lf.u, .bool e.lf.g, .bool e.lf.a, .bool e.lf.d, .int .i64 e.lf.rsw, .int .u64 e.lf.ppn, .int .i64 e.lf.lev, .int .u64 e.lf.pos] 110)
      have HAL := Lib.hid (HBE.out.trans (hal.mono HBE.out.size))
      clear hal
      cases hf : e.full
      · have hs : sameB n e = false := by unfold sameB; rw [hf]; rfl
        have HS := Lib.hid (HTM.out hs)
        rw [hf] at HAL HSN
        by_cases h0 : em < 0
        · rw [if_pos ⟨h0, rfl⟩] at HSN
          clear hs
          go_wp2_with fail
          exact ⟨⟨k + 1, hkl, by go_num, HAL.out, by rw [HSN.out], HS.out⟩, by simp [intOf]; omega⟩
        · rw [if_neg (fun h => h0 h.1)] at HSN
          clear hs
          go_wp2_with fail
          exact ⟨⟨k + 1, hkl, by go_num, HAL.out, by rw [HSN.out], HS.out⟩, by simp [intOf]; omega⟩
      · rw [if_neg (by rw [hf]; simp)] at HSN
        rw [hf] at HAL
        cases hv1 : (e.lf.lev == n.lf.lev)
        · have hs : sameB n e = false := by unfold sameB; rw [hf, hv1]; simp
          have HS := Lib.hid (HTM.out hs)
          clear hs
          go_wp2_with fail
          exact ⟨⟨k + 1, hkl, by go_num, HAL.out, by rw [HSN.out], HS.out⟩, by simp [intOf]; omega⟩
        · skip
          cases hv2 : (e.page == n.page)
          · have hs : sameB n e = false := by unfold sameB; rw [hf, hv1, hv2]; simp
            have HS := Lib.hid (HTM.out hs)
            clear hs
            rw [← nat_beq] at hv2
            go_wp2_with fail
            exact ⟨⟨k + 1, hkl, by go_num, HAL.out, by rw [HSN.out], HS.out⟩, by simp [intOf]; omega⟩
          · skip
            cases hv3 : (e.asid == n.asid)
            · have hs : sameB n e = false := by unfold sameB; rw [hf, hv1, hv2, hv3]; simp
              have HS := Lib.hid (HTM.out hs)
              clear hs
              rw [← nat_beq] at hv2
              go_wp2_with fail
              exact ⟨⟨k + 1, hkl, by go_num, HAL.out, by rw [HSN.out], HS.out⟩, by simp [intOf]; omega⟩
            · skip
              have hs : sameB n e = true := by unfold sameB; rw [hf, hv1, hv2, hv3]; rfl
              have HV := Lib.hid (victim_hit (pick := pick) HE.out HNO.out hs)
              clear hs
              rw [← nat_beq] at hv2
              go_wp2_with fail
              go_ret
              exact ⟨by rw [HV.out]; rfl, HC0.out.trans (HAL.out.mono HC0.out.size)⟩
    · obtain rfl : m = k := by omega
      have hno : ∀ y ∈ l.take l.length, sameB n y = false := by rw [HL.out]; exact HNO.out
      have htl : l.take m = l := List.take_of_length_le (by rw [HL.out]; exact Nat.le_refl _)
      rw [htl] at hel ⊢
      have HVF := Lib.hid (fun h => victim_free (pick := pick) hno h)
      have HVP := Lib.hid (fun h => victim_pick (pick := pick) hno h)
      clear hno htl
      generalize hem : emp l = em at *
      clear hem
      by_cases h0 : 0 ≤ em
      · have HV := Lib.hid (HVF.out h0)
        go_wp2_with fail
        go_ret
        exact ⟨by rw [HV.out]; rfl, HCW.out⟩
      · have HV := Lib.hid (HVP.out (by omega))
        have hmz : ¬ (m : Int) = 0 := by omega
        have HPM := Lib.hid (pick_mod pick m hm)
        have HMM := Lib.hid HL.out
        by_cases hpn : pick < 0
        · have HAP : Hid (bits .xor .i64 (-1) pick = absP pick) := Lib.hid (by rw [i64_not pick HP.out]; unfold absP; rw [if_pos hpn])
          go_wp2_with fail
          go_ret
          refine ⟨?_, HCW.out⟩
          show Ending.returned (Value.int IntKind.i64 ((bits BinOp.xor IntKind.i64 (-1) pick).tmod (m : Int))) = _
          rw [HAP.out, HPM.out, HV.out, HMM.out]
        · have HAP : Hid (absP pick = pick) := Lib.hid (by unfold absP; rw [if_neg hpn])
          go_wp2_with fail
          go_ret
          refine ⟨?_, HCW.out⟩
          show Ending.returned (Value.int IntKind.i64 (pick % (m : Int))) = _
          rw [HV.out, HMM.out, ← HPM.out, HAP.out, Int.tmod_eq_emod_of_nonneg (by omega)]
end Go.Proofs.Ytecalibnnfcaeaa

/- Fill. -/
namespace Go.Proofs.Ytecalibnnfcaeaa
open Go.RowKit

theorem ways_set : ∀ (l : List En) (k : Nat) (n : En), k < l.length → ((((((((((((((((waysC l).set (k * 15 + 0) (.bool n.full)).set (k * 15 + 1) (.int .i64 n.asid)).set (k * 15 + 2) (.int .u64 n.page)).set (k * 15 + 3) (.bool n.lf.v)).set (k * 15 + 4) (.bool n.lf.r)).set (k * 15 + 5) (.bool n.lf.w)).set (k * 15 + 6) (.bool n.lf.x)).set (k * 15 + 7) (.bool n.lf.u)).set (k * 15 + 8) (.bool n.lf.g)).set (k * 15 + 9) (.bool n.lf.a)).set (k * 15 + 10) (.bool n.lf.d)).set (k * 15 + 11) (.int .i64 n.lf.rsw)).set (k * 15 + 12) (.int .u64 n.lf.ppn)).set (k * 15 + 13) (.int .i64 n.lf.lev)).set (k * 15 + 14) (.int .u64 n.lf.pos)) = waysC (l.set k n)
  | [], k, n, h => by simp at h
  | e :: r, 0, n, _ => rfl
  | e :: r, k + 1, n, h => by
    have ih := ways_set r k n (by simpa using h)
    show _ = e.vs ++ waysC (r.set k n)
    rw [← ih]
    have hs : ∀ (xs : List Value) (j : Nat) (v : Value), (e.vs ++ xs).set ((k + 1) * 15 + j) v = e.vs ++ xs.set (k * 15 + j) v := fun xs j v => by
      rw [List.set_append_right _ _ (by rw [vs_length]; omega), vs_length, show (k + 1) * 15 + j - 15 = k * 15 + j by omega]
    show ((((((((((((((((e.vs ++ waysC r).set ((k + 1) * 15 + 0) (.bool n.full)).set ((k + 1) * 15 + 1) (.int .i64 n.asid)).set ((k + 1) * 15 + 2) (.int .u64 n.page)).set ((k + 1) * 15 + 3) (.bool n.lf.v)).set ((k + 1) * 15 + 4) (.bool n.lf.r)).set ((k + 1) * 15 + 5) (.bool n.lf.w)).set ((k + 1) * 15 + 6) (.bool n.lf.x)).set ((k + 1) * 15 + 7) (.bool n.lf.u)).set ((k + 1) * 15 + 8) (.bool n.lf.g)).set ((k + 1) * 15 + 9) (.bool n.lf.a)).set ((k + 1) * 15 + 10) (.bool n.lf.d)).set ((k + 1) * 15 + 11) (.int .i64 n.lf.rsw)).set ((k + 1) * 15 + 12) (.int .u64 n.lf.ppn)).set ((k + 1) * 15 + 13) (.int .i64 n.lf.lev)).set ((k + 1) * 15 + 14) (.int .u64 n.lf.pos)) = _
    simp only [hs]
def fillE (va : Nat) (asid : Int) (lf : Tf) : En := ⟨true, asid, pgN va lf.lev, lf⟩
def fillQ (T : List (List En)) (va : Nat) (lf : Tf) : Nat := pgN va lf.lev % T.length
def fillS (T : List (List En)) (va : Nat) (asid : Int) (lf : Tf) (pick : Int) : List (List En) :=
  T.set (fillQ T va lf) ((T.getD (fillQ T va lf) []).set (victimN (T.getD (fillQ T va lf) []) (fillE va asid lf) pick) (fillE va asid lf))
/-- One set's ways are others: the buffer is. -/
theorem BufAt.turn {w w' : World} {g gs : Nat} {G : Nat → Nat} {T : List (List En)} {m q : Nat} {l : List En} (h : BufAt w g gs G T m) (hq : q < T.length) (hl : l.length = m) (hk : Keeps (fun x => x = G q) w w') (hg : Blk w' (G q) 110 (waysC l).toArray) : BufAt w' g gs G (T.set q l) m := by
  obtain ⟨c, hc⟩ := h.head
  obtain ⟨cur, ho, hcur⟩ := h.outer
  have hi := h.inner q hq
  have n1 : g ≠ G q := fun e => blk_ne_blk hc hi (by decide) e
  have n2 : gs ≠ G q := fun e => blk_ne_blk ho hi (by decide) e
  refine ⟨⟨c, ?_⟩, ⟨cur, hk.blk ho n2, ?_⟩, ?_, ?_, ?_⟩
  · rw [List.length_set]; exact hk.blk hc n1
  · rw [List.length_set]; exact hcur
  · intro i hi'
    rw [List.length_set] at hi'
    by_cases hiq : i = q
    · subst hiq
      rw [List.getD_eq_getElem?_getD, List.getElem?_set_self hi']
      exact hl
    · rw [List.getD_eq_getElem?_getD, List.getElem?_set_ne (Ne.symm hiq), ← List.getD_eq_getElem?_getD]
      exact h.ways i hi'
  · intro i hi'
    rw [List.length_set] at hi'
    by_cases hiq : i = q
    · subst hiq
      rw [List.getD_eq_getElem?_getD, List.getElem?_set_self hi']
      exact hg
    · rw [List.getD_eq_getElem?_getD, List.getElem?_set_ne (Ne.symm hiq), ← List.getD_eq_getElem?_getD]
      exact hk.blk (h.inner i hi') (fun e => hiq (h.inj i q hi' hq e))
  · intro i j hi' hj'
    rw [List.length_set] at hi' hj'
    exact h.inj i j hi' hj'
theorem victim_lt (l : List En) (n : En) (pick : Int) (h : 0 < l.length) : victimN l n pick < l.length := by
  unfold victimN
  split
  · rename_i i hi
    exact (List.findIdx?_eq_some_iff_getElem.1 hi).1
  · split
    · rename_i i hi
      exact (List.findIdx?_eq_some_iff_getElem.1 hi).1
    · exact Nat.mod_lt _ h
theorem way_some {w : World} {gi k j : Nat} {l : List En} (h : Blk w gi 110 (waysC l).toArray) (hk : k < l.length) (hj : j < 15) : ∃ v, w.cell? ⟨gi, k * 15 + j, none⟩ = some v := by
  rw [way_cell h (List.getElem?_eq_getElem hk) hj]
  exact ⟨_, List.getElem?_eq_getElem (by rw [vs_length]; exact hj)⟩
def FillR (g gs : Nat) (G : Nat → Nat) (T' : List (List En)) (n m : Nat) (b : Bool) (W : World) (e : Ending) (w' : World) : Prop :=
  e = .returned (.bool b) ∧ BufAt w' g gs G T' m ∧ Keeps (bufF g gs G n) W w'
set_option maxHeartbeats 4000000 in
theorem fill_no (g gs : Nat) (G : Nat → Nat) (T : List (List En)) (m : Nat) (va : Nat) (asid : Int) (lf : Tf) (pick : Int) (W : World) (hB : BufAt W g gs G T m) (hl : levOK lf.lev = false) :
    Calls Try.prog 75 #[.pointer (some ⟨g, 0, none⟩), .int .u64 va, .int .i64 asid, lf.val, .int .i64 pick] W (FillR g gs G T T.length m false W) := by
  have hc := (Below.refl W.heap.size W).alloc (Nat.le_refl _) (.cells #[.bool lf.v, .bool lf.r, .bool lf.w, .bool lf.x, .bool lf.u, .bool lf.g, .bool lf.a, .bool lf.d, .int .i64 lf.rsw, .int .u64 lf.ppn, .int .i64 lf.lev, .int .u64 lf.pos] 97)
  have hX : Blk (W.alloc (.cells #[.bool lf.v, .bool lf.r, .bool lf.w, .bool lf.x, .bool lf.u, .bool lf.g, .bool lf.a, .bool lf.d, .int .i64 lf.rsw, .int .u64 lf.ppn, .int .i64 lf.lev, .int .u64 lf.pos] 97)) W.heap.size 97 #[.bool lf.v, .bool lf.r, .bool lf.w, .bool lf.x, .bool lf.u, .bool lf.g, .bool lf.a, .bool lf.d, .int .i64 lf.rsw, .int .u64 lf.ppn, .int .i64 lf.lev, .int .u64 lf.pos] := Blkf.new_at _ _ _ _ rfl
  have HB0 := Lib.hid (hB.below hc)
  have HC0 := Lib.hid hc
  have x10 := hX.cell 10
  have xl := hX.lt
  simp at x10
  clear hc hX hB
  unfold Tf.val FillR
  rcases (show lf.lev < 0 ∨ (0 ≤ lf.lev ∧ 2 < lf.lev) by simp [levOK] at hl; omega) with h | ⟨h, h'⟩
  · go_enter Try.func75, Try.ntmps75
    go_wp2
    go_ret
    exact ⟨rfl, HB0.out, Keeps.of_below HC0.out⟩
  · go_enter Try.func75, Try.ntmps75
    go_wp2
    go_ret
    exact ⟨rfl, HB0.out, Keeps.of_below HC0.out⟩
set_option maxHeartbeats 4000000 in
theorem fill_yes (g gs : Nat) (G : Nat → Nat) (T : List (List En)) (m : Nat) (va : Nat) (asid : Int) (lf : Tf) (pick : Int) (W : World) (hv : va < 18446744073709551616) (hp : -9223372036854775808 ≤ pick ∧ pick < 9223372036854775808) (hn : 0 < T.length) (hn2 : T.length ≤ 64) (hm0 : 0 < m) (hm : m ≤ 8) (hB : BufAt W g gs G T m) (hl : levOK lf.lev = true) :
    Calls Try.prog 75 #[.pointer (some ⟨g, 0, none⟩), .int .u64 va, .int .i64 asid, lf.val, .int .i64 pick] W (FillR g gs G (fillS T va asid lf pick) T.length m true W) := by
  have hc := (Below.refl W.heap.size W).alloc (Nat.le_refl _) (.cells #[.bool lf.v, .bool lf.r, .bool lf.w, .bool lf.x, .bool lf.u, .bool lf.g, .bool lf.a, .bool lf.d, .int .i64 lf.rsw, .int .u64 lf.ppn, .int .i64 lf.lev, .int .u64 lf.pos] 97)
  have hX : Blk (W.alloc (.cells #[.bool lf.v, .bool lf.r, .bool lf.w, .bool lf.x, .bool lf.u, .bool lf.g, .bool lf.a, .bool lf.d, .int .i64 lf.rsw, .int .u64 lf.ppn, .int .i64 lf.lev, .int .u64 lf.pos] 97)) W.heap.size 97 #[.bool lf.v, .bool lf.r, .bool lf.w, .bool lf.x, .bool lf.u, .bool lf.g, .bool lf.a, .bool lf.d, .int .i64 lf.rsw, .int .u64 lf.ppn, .int .i64 lf.lev, .int .u64 lf.pos] := Blkf.new_at _ _ _ _ rfl
  have HB0 := Lib.hid (hB.below hc)
  have HC0 := Lib.hid hc
  have HX0 := Lib.hid hX
  have HP := Lib.hid hp
  have x10 := hX.cell 10
  have xl := hX.lt
  simp at x10
  clear hc hX hB hp
  unfold Tf.val FillR
  have h0 : ¬ lf.lev < 0 := by simp [levOK] at hl; omega
  have h2 : ¬ 2 < lf.lev := by simp [levOK] at hl; omega
  go_enter Try.func75, Try.ntmps75
  go_wp2_with fail
  generalize W.alloc (.cells #[.bool lf.v, .bool lf.r, .bool lf.w, .bool lf.x, .bool lf.u, .bool lf.g, .bool lf.a, .bool lf.d, .int .i64 lf.rsw, .int .u64 lf.ppn, .int .i64 lf.lev, .int .u64 lf.pos] 97) = w0 at *
  clear x10 xl
  have t0 := fun W' (h : Ext w0.drew W') => (h.cell (p := ⟨W.heap.size, 0, none⟩) HX0.out.lt).trans (HX0.out.cell 0)
  have t1 := fun W' (h : Ext w0.drew W') => (h.cell (p := ⟨W.heap.size, 1, none⟩) HX0.out.lt).trans (HX0.out.cell 1)
  have t2 := fun W' (h : Ext w0.drew W') => (h.cell (p := ⟨W.heap.size, 2, none⟩) HX0.out.lt).trans (HX0.out.cell 2)
  have t3 := fun W' (h : Ext w0.drew W') => (h.cell (p := ⟨W.heap.size, 3, none⟩) HX0.out.lt).trans (HX0.out.cell 3)
  have t4 := fun W' (h : Ext w0.drew W') => (h.cell (p := ⟨W.heap.size, 4, none⟩) HX0.out.lt).trans (HX0.out.cell 4)
  have t5 := fun W' (h : Ext w0.drew W') => (h.cell (p := ⟨W.heap.size, 5, none⟩) HX0.out.lt).trans (HX0.out.cell 5)
  have t6 := fun W' (h : Ext w0.drew W') => (h.cell (p := ⟨W.heap.size, 6, none⟩) HX0.out.lt).trans (HX0.out.cell 6)
  have t7 := fun W' (h : Ext w0.drew W') => (h.cell (p := ⟨W.heap.size, 7, none⟩) HX0.out.lt).trans (HX0.out.cell 7)
  have t8 := fun W' (h : Ext w0.drew W') => (h.cell (p := ⟨W.heap.size, 8, none⟩) HX0.out.lt).trans (HX0.out.cell 8)
  have t9 := fun W' (h : Ext w0.drew W') => (h.cell (p := ⟨W.heap.size, 9, none⟩) HX0.out.lt).trans (HX0.out.cell 9)
  have t10 := fun W' (h : Ext w0.drew W') => (h.cell (p := ⟨W.heap.size, 10, none⟩) HX0.out.lt).trans (HX0.out.cell 10)
  have t11 := fun W' (h : Ext w0.drew W') => (h.cell (p := ⟨W.heap.size, 11, none⟩) HX0.out.lt).trans (HX0.out.cell 11)
  simp at t0 t1 t2 t3 t4 t5 t6 t7 t8 t9 t10 t11
  refine wp_region_plan [(0, false), (1, false), (2, false), (3, false), (4, false), (5, false), (6, false), (7, true), (8, true)] (by kernel_rfl) (by kernel_rfl) (fun _ d _ _ _ h => by cases d <;> exact h) ?_
  iterate 4 (refine plan_take (v := ?_) rfl (by kernel_rfl) ?_ ?_; rotate_left; (focus (intro w' hw'; try go_simp; try with_reducible rfl)); simp only [Act.put, List.setIfInBounds_toArray, List.set_cons_zero, List.set_cons_succ])
  refine plan_quiet rfl (by kernel_rfl) (fun w' => by go_simp; all_goals (first | exact ⟨rfl, rfl⟩ | rfl)) (fun w' hw' => tlb_page_any va lf.lev w' hv hl) ?_
  simp only [Act.put, List.setIfInBounds_toArray, List.set_cons_zero, List.set_cons_succ]
  iterate 2 (refine plan_take (v := ?_) rfl (by kernel_rfl) ?_ ?_; rotate_left; (focus (intro w' hw'; try go_simp; try with_reducible rfl)); simp only [Act.put, List.setIfInBounds_toArray, List.set_cons_zero, List.set_cons_succ])
  clear t0 t1 t2 t3 t4 t5 t6 t7 t8 t9 t10 t11
  refine plan_turn rfl (by kernel_rfl) (fun K hK => ?_)
  go_simp
  refine hK _ _ ⟨(Ext.refl _).alloc (Nat.le_refl _) _, ?_⟩
  clear hK K
  refine plan_last rfl (by kernel_rfl) (by kernel_rfl) (fun K hK => ?_)
  go_simp
  refine hK _ _ ?_
  clear hK K
  refine plan_end ?_
  have hE := ((Below.refl w0.heap.size w0).alloc (Nat.le_refl _) (.cells #[.bool true, .int .i64 asid, .int .u64 (pgN va lf.lev : Nat), .bool lf.v, .bool lf.r, .bool lf.w, .bool lf.x, .bool lf.u, .bool lf.g, .bool lf.a, .bool lf.d, .int .i64 lf.rsw, .int .u64 lf.ppn, .int .i64 lf.lev, .int .u64 lf.pos] 110)).drew
  have hY : Blk (w0.alloc (.cells #[.bool true, .int .i64 asid, .int .u64 (pgN va lf.lev : Nat), .bool lf.v, .bool lf.r, .bool lf.w, .bool lf.x, .bool lf.u, .bool lf.g, .bool lf.a, .bool lf.d, .int .i64 lf.rsw, .int .u64 lf.ppn, .int .i64 lf.lev, .int .u64 lf.pos] 110)).drew w0.heap.size 110 #[.bool true, .int .i64 asid, .int .u64 (pgN va lf.lev : Nat), .bool lf.v, .bool lf.r, .bool lf.w, .bool lf.x, .bool lf.u, .bool lf.g, .bool lf.a, .bool lf.d, .int .i64 lf.rsw, .int .u64 lf.ppn, .int .i64 lf.lev, .int .u64 lf.pos] := Blkf.new_at w0 _ _ _ rfl
  obtain ⟨b2, hb2⟩ : ∃ b, b = w0.heap.size := ⟨_, rfl⟩
  have HB1 := Lib.hid (HB0.out.below hE)
  have HC1 := Lib.hid (HC0.out.trans (hE.mono HC0.out.size))
  rw [← hb2] at hY ⊢
  have HB2 : Hid (W.heap.size ≤ b2) := Lib.hid (by rw [hb2]; exact HC0.out.size)
  have HOLD : Hid (∀ i, i < T.length → G i < b2) := Lib.hid (fun i hi => by rw [hb2]; exact (HB0.out.inner i hi).lt)
  generalize (w0.alloc (.cells #[.bool true, .int .i64 asid, .int .u64 (pgN va lf.lev : Nat), .bool lf.v, .bool lf.r, .bool lf.w, .bool lf.x, .bool lf.u, .bool lf.g, .bool lf.a, .bool lf.d, .int .i64 lf.rsw, .int .u64 lf.ppn, .int .i64 lf.lev, .int .u64 lf.pos] 110)).drew = w1 at *
  have HY1 := Lib.hid hY
  clear hE hY hb2
  have y2 := HY1.out.cell 2
  have yl := HY1.out.lt
  simp at y2
  go_wp2_with fail
  clear y2 yl
  refine (set_any g gs G T m (pgN va lf.lev) _ (Nat.lt_trans (pgN_lt va lf.lev) (by decide)) hn hn2 HB1.out).mono ?_
  rintro e w ⟨rfl, rfl⟩
  obtain ⟨q, hq⟩ : ∃ q, q = pgN va lf.lev % T.length := ⟨_, rfl⟩
  have hql : q < T.length := by rw [hq]; exact Nat.mod_lt _ hn
  rw [← hq]
  have HQ := Lib.hid hq
  have HQL := Lib.hid hql
  clear hq hql
  have HB2' := Lib.hid HB1.out.drew
  have HC2 := Lib.hid HC1.out.drew
  have HY2 := Lib.hid HY1.out.drew
  generalize w1.drew = w2 at *
  go_wp2_with fail
  have u0 := fun W' (h : Ext w2.drew W') => (h.cell (p := ⟨b2, 0, none⟩) HY2.out.lt).trans (HY2.out.cell 0)
  have u1 := fun W' (h : Ext w2.drew W') => (h.cell (p := ⟨b2, 1, none⟩) HY2.out.lt).trans (HY2.out.cell 1)
  have u2 := fun W' (h : Ext w2.drew W') => (h.cell (p := ⟨b2, 2, none⟩) HY2.out.lt).trans (HY2.out.cell 2)
  have u3 := fun W' (h : Ext w2.drew W') => (h.cell (p := ⟨b2, 3, none⟩) HY2.out.lt).trans (HY2.out.cell 3)
  have u4 := fun W' (h : Ext w2.drew W') => (h.cell (p := ⟨b2, 4, none⟩) HY2.out.lt).trans (HY2.out.cell 4)
  have u5 := fun W' (h : Ext w2.drew W') => (h.cell (p := ⟨b2, 5, none⟩) HY2.out.lt).trans (HY2.out.cell 5)
  have u6 := fun W' (h : Ext w2.drew W') => (h.cell (p := ⟨b2, 6, none⟩) HY2.out.lt).trans (HY2.out.cell 6)
  have u7 := fun W' (h : Ext w2.drew W') => (h.cell (p := ⟨b2, 7, none⟩) HY2.out.lt).trans (HY2.out.cell 7)
  have u8 := fun W' (h : Ext w2.drew W') => (h.cell (p := ⟨b2, 8, none⟩) HY2.out.lt).trans (HY2.out.cell 8)
  have u9 := fun W' (h : Ext w2.drew W') => (h.cell (p := ⟨b2, 9, none⟩) HY2.out.lt).trans (HY2.out.cell 9)
  have u10 := fun W' (h : Ext w2.drew W') => (h.cell (p := ⟨b2, 10, none⟩) HY2.out.lt).trans (HY2.out.cell 10)
  have u11 := fun W' (h : Ext w2.drew W') => (h.cell (p := ⟨b2, 11, none⟩) HY2.out.lt).trans (HY2.out.cell 11)
  have u12 := fun W' (h : Ext w2.drew W') => (h.cell (p := ⟨b2, 12, none⟩) HY2.out.lt).trans (HY2.out.cell 12)
  have u13 := fun W' (h : Ext w2.drew W') => (h.cell (p := ⟨b2, 13, none⟩) HY2.out.lt).trans (HY2.out.cell 13)
  have u14 := fun W' (h : Ext w2.drew W') => (h.cell (p := ⟨b2, 14, none⟩) HY2.out.lt).trans (HY2.out.cell 14)
  simp at u0 u1 u2 u3 u4 u5 u6 u7 u8 u9 u10 u11 u12 u13 u14
  refine wp_region_plan [(0, false), (1, false), (2, false), (3, false), (5, false), (4, true), (6, false), (7, true)] (by kernel_rfl) (by kernel_rfl) (fun _ d _ _ _ h => by cases d <;> exact h) ?_
  iterate 5 (refine plan_take (v := ?_) rfl (by kernel_rfl) ?_ ?_; rotate_left; (focus (intro w' hw'; try go_simp; try with_reducible rfl)); simp only [Act.put, List.setIfInBounds_toArray, List.set_cons_zero, List.set_cons_succ])
  clear u0 u1 u2 u3 u4 u5 u6 u7 u8 u9 u10 u11 u12 u13 u14
  obtain ⟨l, hl'⟩ : ∃ l, l = T.getD q [] := ⟨_, rfl⟩
  have HLL : Hid (l.length = m) := Lib.hid (by rw [hl']; exact HB2'.out.ways q HQL.out)
  have HG2 : Hid (Blk w2.drew (G q) 110 (waysC l).toArray) := Lib.hid (by rw [hl']; exact (HB2'.out.inner q HQL.out).drew)
  have HLE := Lib.hid hl'
  clear hl'
  refine plan_call rfl (by kernel_rfl) (by go_simp; exact ⟨rfl, rfl⟩) ?_
  refine (victim_any (G q) l m (fillE va asid lf) pick _ hm0 hm HLL.out HP.out HG2.out).mono ?_
  rintro e w3 ⟨rfl, hb⟩
  obtain ⟨vn, hvn⟩ : ∃ v, v = victimN l (fillE va asid lf) pick := ⟨_, rfl⟩
  have hvl : vn < m := by
    have := victim_lt l (fillE va asid lf) pick (by rw [HLL.out]; exact hm0)
    rw [hvn]
    rw [HLL.out] at this
    exact this
  rw [← hvn]
  have HVN := Lib.hid hvn
  have HG3 := Lib.hid (HG2.out.below hb HG2.out.lt)
  have HB3 := Lib.hid (HB2'.out.drew.below hb)
  have HC3 := Lib.hid (HC2.out.drew.trans (hb.mono HC2.out.size))
  refine ⟨_, rfl, hb, ?_⟩
  simp only [Act.put, List.setIfInBounds_toArray, List.set_cons_zero, List.set_cons_succ]
  clear hb hvn
  have hvi : (vn : Int) < (m : Int) := by omega
  iterate 1 (refine plan_take (v := ?_) rfl (by kernel_rfl) ?_ ?_; rotate_left; (focus (intro w' hw'; try go_simp; try with_reducible rfl)); simp only [Act.put, List.setIfInBounds_toArray, List.set_cons_zero, List.set_cons_succ])
  obtain ⟨eo, heo⟩ : ∃ eo, l[vn]? = some eo := ⟨_, List.getElem?_eq_getElem (by rw [HLL.out]; exact hvl)⟩
  have zl := HG3.out.lt
  have zf := fun i => HG3.out.frozen i
  have z0 := way_cell HG3.out heo (j := 0) (by decide)
  have z1 := way_cell HG3.out heo (j := 1) (by decide)
  have z2 := way_cell HG3.out heo (j := 2) (by decide)
  have z3 := way_cell HG3.out heo (j := 3) (by decide)
  have z4 := way_cell HG3.out heo (j := 4) (by decide)
  have z5 := way_cell HG3.out heo (j := 5) (by decide)
  have z6 := way_cell HG3.out heo (j := 6) (by decide)
  have z7 := way_cell HG3.out heo (j := 7) (by decide)
  have z8 := way_cell HG3.out heo (j := 8) (by decide)
  have z9 := way_cell HG3.out heo (j := 9) (by decide)
  have z10 := way_cell HG3.out heo (j := 10) (by decide)
  have z11 := way_cell HG3.out heo (j := 11) (by decide)
  have z12 := way_cell HG3.out heo (j := 12) (by decide)
  have z13 := way_cell HG3.out heo (j := 13) (by decide)
  have z14 := way_cell HG3.out heo (j := 14) (by decide)
  simp [En.vs] at z0 z1 z2 z3 z4 z5 z6 z7 z8 z9 z10 z11 z12 z13 z14
  clear heo
  refine plan_last rfl (by kernel_rfl) (by kernel_rfl) (fun K hK => ?_)
  go_simp
  refine hK _ _ ?_
  clear hK K z0 z1 z2 z3 z4 z5 z6 z7 z8 z9 z10 z11 z12 z13 z14 zl zf
  refine plan_end ?_
  have hZ := (((((((((((((((HG3.out.set_ (vn * 15) (.bool true)).set_ (vn * 15 + 1) (.int .i64 asid)).set_ (vn * 15 + 2) (.int .u64 (pgN va lf.lev : Nat))).set_ (vn * 15 + 3) (.bool lf.v)).set_ (vn * 15 + 4) (.bool lf.r)).set_ (vn * 15 + 5) (.bool lf.w)).set_ (vn * 15 + 6) (.bool lf.x)).set_ (vn * 15 + 7) (.bool lf.u)).set_ (vn * 15 + 8) (.bool lf.g)).set_ (vn * 15 + 9) (.bool lf.a)).set_ (vn * 15 + 10) (.bool lf.d)).set_ (vn * 15 + 11) (.int .i64 lf.rsw)).set_ (vn * 15 + 12) (.int .u64 lf.ppn)).set_ (vn * 15 + 13) (.int .i64 lf.lev)).set_ (vn * 15 + 14) (.int .u64 lf.pos))
  have hKK := ((((((((((((((((Keeps.refl (fun x => x = G q) w3).setCell (p := ⟨G q, vn * 15, none⟩) (.inl rfl) (.bool true)).setCell (p := ⟨G q, vn * 15 + 1, none⟩) (.inl rfl) (.int .i64 asid)).setCell (p := ⟨G q, vn * 15 + 2, none⟩) (.inl rfl) (.int .u64 (pgN va lf.lev : Nat))).setCell (p := ⟨G q, vn * 15 + 3, none⟩) (.inl rfl) (.bool lf.v)).setCell (p := ⟨G q, vn * 15 + 4, none⟩) (.inl rfl) (.bool lf.r)).setCell (p := ⟨G q, vn * 15 + 5, none⟩) (.inl rfl) (.bool lf.w)).setCell (p := ⟨G q, vn * 15 + 6, none⟩) (.inl rfl) (.bool lf.x)).setCell (p := ⟨G q, vn * 15 + 7, none⟩) (.inl rfl) (.bool lf.u)).setCell (p := ⟨G q, vn * 15 + 8, none⟩) (.inl rfl) (.bool lf.g)).setCell (p := ⟨G q, vn * 15 + 9, none⟩) (.inl rfl) (.bool lf.a)).setCell (p := ⟨G q, vn * 15 + 10, none⟩) (.inl rfl) (.bool lf.d)).setCell (p := ⟨G q, vn * 15 + 11, none⟩) (.inl rfl) (.int .i64 lf.rsw)).setCell (p := ⟨G q, vn * 15 + 12, none⟩) (.inl rfl) (.int .u64 lf.ppn)).setCell (p := ⟨G q, vn * 15 + 13, none⟩) (.inl rfl) (.int .i64 lf.lev)).setCell (p := ⟨G q, vn * 15 + 14, none⟩) (.inl rfl) (.int .u64 lf.pos))
  simp only [List.setIfInBounds_toArray] at hZ
  have hZ2 : Blk (((((((((((((((w3.setCell ⟨G q, vn * 15, none⟩ (.bool true)).setCell ⟨G q, vn * 15 + 1, none⟩ (.int .i64 asid)).setCell ⟨G q, vn * 15 + 2, none⟩ (.int .u64 (pgN va lf.lev : Nat))).setCell ⟨G q, vn * 15 + 3, none⟩ (.bool lf.v)).setCell ⟨G q, vn * 15 + 4, none⟩ (.bool lf.r)).setCell ⟨G q, vn * 15 + 5, none⟩ (.bool lf.w)).setCell ⟨G q, vn * 15 + 6, none⟩ (.bool lf.x)).setCell ⟨G q, vn * 15 + 7, none⟩ (.bool lf.u)).setCell ⟨G q, vn * 15 + 8, none⟩ (.bool lf.g)).setCell ⟨G q, vn * 15 + 9, none⟩ (.bool lf.a)).setCell ⟨G q, vn * 15 + 10, none⟩ (.bool lf.d)).setCell ⟨G q, vn * 15 + 11, none⟩ (.int .i64 lf.rsw)).setCell ⟨G q, vn * 15 + 12, none⟩ (.int .u64 lf.ppn)).setCell ⟨G q, vn * 15 + 13, none⟩ (.int .i64 lf.lev)).setCell ⟨G q, vn * 15 + 14, none⟩ (.int .u64 lf.pos)) (G q) 110 (waysC (l.set vn (fillE va asid lf))).toArray := by
    rw [← ways_set l vn (fillE va asid lf) (by rw [HLL.out]; exact hvl)]
    exact hZ
  generalize (((((((((((((((w3.setCell ⟨G q, vn * 15, none⟩ (.bool true)).setCell ⟨G q, vn * 15 + 1, none⟩ (.int .i64 asid)).setCell ⟨G q, vn * 15 + 2, none⟩ (.int .u64 (pgN va lf.lev : Nat))).setCell ⟨G q, vn * 15 + 3, none⟩ (.bool lf.v)).setCell ⟨G q, vn * 15 + 4, none⟩ (.bool lf.r)).setCell ⟨G q, vn * 15 + 5, none⟩ (.bool lf.w)).setCell ⟨G q, vn * 15 + 6, none⟩ (.bool lf.x)).setCell ⟨G q, vn * 15 + 7, none⟩ (.bool lf.u)).setCell ⟨G q, vn * 15 + 8, none⟩ (.bool lf.g)).setCell ⟨G q, vn * 15 + 9, none⟩ (.bool lf.a)).setCell ⟨G q, vn * 15 + 10, none⟩ (.bool lf.d)).setCell ⟨G q, vn * 15 + 11, none⟩ (.int .i64 lf.rsw)).setCell ⟨G q, vn * 15 + 12, none⟩ (.int .u64 lf.ppn)).setCell ⟨G q, vn * 15 + 13, none⟩ (.int .i64 lf.lev)).setCell ⟨G q, vn * 15 + 14, none⟩ (.int .u64 lf.pos)) = w4 at *
  have HBF := Lib.hid (HB3.out.turn HQL.out (l := l.set vn (fillE va asid lf)) (by rw [List.length_set]; exact HLL.out) hKK hZ2)
  have HKF : Hid (Keeps (bufF g gs G T.length) W w4) := Lib.hid ((Keeps.of_below HC3.out).trans hKK (fun i hi => .inl (.inr (.inr ⟨q, HQL.out, hi⟩))))
  clear hZ hKK hZ2
  go_wp2
  go_ret
  refine ⟨rfl, ?_, HKF.out⟩
  have hfin := HBF.out
  rw [HVN.out, HLE.out, HQ.out] at hfin
  exact hfin
end Go.Proofs.Ytecalibnnfcaeaa

/- Fence. -/
namespace Go.Proofs.Ytecalibnnfcaeaa
open Go.RowKit

/-- What a fence leaves of an entry. -/
def fen (vo : Option Nat) (ao : Option Int) (e : En) : En := if goesB e vo ao then en0 else e
def fenW (vo : Option Nat) (ao : Option Int) (l : List En) (k : Nat) : List En := (l.take k).map (fen vo ao) ++ l.drop k
def cntW (vo : Option Nat) (ao : Option Int) (l : List En) : Nat := l.countP (fun e => goesB e vo ao)
def fenceS (T : List (List En)) (vo : Option Nat) (ao : Option Int) : List (List En) := T.map (fun s => s.map (fen vo ao))
def fenceN (T : List (List En)) (vo : Option Nat) (ao : Option Int) : Nat := (T.map (cntW vo ao)).sum
theorem fenW_zero (vo : Option Nat) (ao : Option Int) (l : List En) : fenW vo ao l 0 = l := by simp [fenW]
theorem fenW_all (vo : Option Nat) (ao : Option Int) (l : List En) (k : Nat) (h : l.length ≤ k) : fenW vo ao l k = l.map (fen vo ao) := by
  simp [fenW, List.take_of_length_le h, List.drop_of_length_le h]
theorem fenW_length (vo : Option Nat) (ao : Option Int) (l : List En) (k : Nat) : (fenW vo ao l k).length = l.length := by
  simp [fenW]; omega
theorem fenW_get (vo : Option Nat) (ao : Option Int) (l : List En) (k : Nat) (e : En) (h : l[k]? = some e) : (fenW vo ao l k)[k]? = some e := by
  have hk : k < l.length := by
    rcases Nat.lt_or_ge k l.length with h1 | h1
    · exact h1
    · rw [List.getElem?_eq_none h1] at h; cases h
  unfold fenW
  rw [List.getElem?_append_right (by simp; omega)]
  simp
  rw [show k - min k l.length = 0 by omega, Nat.add_zero]
  exact h
theorem fenW_step (vo : Option Nat) (ao : Option Int) (l : List En) (k : Nat) (e : En) (h : l[k]? = some e) : fenW vo ao l (k + 1) = (fenW vo ao l k).set k (fen vo ao e) := by
  have hk : k < l.length := by
    rcases Nat.lt_or_ge k l.length with h1 | h1
    · exact h1
    · rw [List.getElem?_eq_none h1] at h; cases h
  unfold fenW
  rw [take_snoc h, List.map_append, List.set_append_right _ _ (by simp; omega)]
  have hd : l.drop k = e :: l.drop (k + 1) := by
    rw [List.drop_eq_getElem_cons hk]
    rw [List.getElem?_eq_getElem hk] at h
    injection h with h
    rw [h]
  rw [hd, show k - ((l.take k).map (fen vo ao)).length = 0 by simp; omega]
  simp
theorem fenW_keep (vo : Option Nat) (ao : Option Int) (l : List En) (k : Nat) (e : En) (h : l[k]? = some e) (hg : goesB e vo ao = false) : fenW vo ao l (k + 1) = fenW vo ao l k := by
  rw [fenW_step vo ao l k e h]
  have e1 : fen vo ao e = e := by unfold fen; rw [hg]; rfl
  rw [e1]
  apply List.ext_getElem?
  intro i
  by_cases hi : k = i
  · subst hi
    have := fenW_get vo ao l k e h
    rw [List.getElem?_set_self (by
      rcases Nat.lt_or_ge k (fenW vo ao l k).length with h1 | h1
      · exact h1
      · rw [List.getElem?_eq_none h1] at this; cases this), this]
  · rw [List.getElem?_set_ne hi]
theorem cnt_snoc (vo : Option Nat) (ao : Option Int) (l : List En) (k : Nat) (e : En) (h : l[k]? = some e) : cntW vo ao (l.take (k + 1)) = cntW vo ao (l.take k) + (if goesB e vo ao then 1 else 0) := by
  unfold cntW
  rw [take_snoc h, List.countP_append, List.countP_singleton]
/-- The first i sets fenced, of set i the first k ways. -/
def midT (T : List (List En)) (vo : Option Nat) (ao : Option Int) (i k : Nat) : List (List En) := (fenceS (T.take i) vo ao) ++ (match T[i]? with | some s => fenW vo ao s k :: T.drop (i + 1) | none => [])
theorem midT_length (T : List (List En)) (vo : Option Nat) (ao : Option Int) (i k : Nat) (hi : i ≤ T.length) : (midT T vo ao i k).length = T.length := by
  unfold midT fenceS
  rcases Nat.lt_or_ge i T.length with h | h
  · rw [List.getElem?_eq_getElem h]
    simp
    omega
  · rw [List.getElem?_eq_none h]
    simp
    omega
theorem midT_self (T : List (List En)) (vo : Option Nat) (ao : Option Int) (i k : Nat) (hi : i < T.length) : (midT T vo ao i k).getD i [] = fenW vo ao (T.getD i []) k := by
  unfold midT fenceS
  rw [List.getElem?_eq_getElem hi, List.getD_eq_getElem?_getD, List.getElem?_append_right (by simp; omega)]
  simp
  rw [show i - min i T.length = 0 by omega]
  simp [hi]
theorem midT_set (T : List (List En)) (vo : Option Nat) (ao : Option Int) (i k : Nat) (hi : i < T.length) : (midT T vo ao i k).set i (fenW vo ao (T.getD i []) (k + 1)) = midT T vo ao i (k + 1) := by
  unfold midT fenceS
  rw [List.getElem?_eq_getElem hi, List.set_append_right _ _ (by simp; omega)]
  simp
  rw [show i - min i T.length = 0 by omega]
  simp [hi]
theorem midT_next (T : List (List En)) (vo : Option Nat) (ao : Option Int) (i k : Nat) (hi : i < T.length) (hk : (T.getD i []).length ≤ k) : midT T vo ao i k = midT T vo ao (i + 1) 0 := by
  have hs : T.getD i [] = T[i] := by rw [List.getD_eq_getElem?_getD, List.getElem?_eq_getElem hi]; rfl
  rw [hs] at hk
  unfold midT fenceS
  rw [List.getElem?_eq_getElem hi]
  simp only
  rw [fenW_all _ _ _ _ hk, List.take_add_one, List.getElem?_eq_getElem hi, List.map_append]
  rcases Nat.lt_or_ge (i + 1) T.length with h | h
  · rw [List.getElem?_eq_getElem h]
    simp only [fenW_zero]
    rw [← List.drop_eq_getElem_cons h]
    simp
  · rw [List.getElem?_eq_none h, List.drop_of_length_le h]
    simp
theorem midT_zero (T : List (List En)) (vo : Option Nat) (ao : Option Int) : midT T vo ao 0 0 = T := by
  unfold midT fenceS
  cases T with
  | nil => rfl
  | cons s r => simp [fenW_zero]
theorem midT_end (T : List (List En)) (vo : Option Nat) (ao : Option Int) : midT T vo ao T.length 0 = fenceS T vo ao := by
  unfold midT
  rw [List.getElem?_eq_none (Nat.le_refl _), List.take_length, List.append_nil]
def cntT (T : List (List En)) (vo : Option Nat) (ao : Option Int) (i : Nat) : Nat := fenceN (T.take i) vo ao
theorem cntT_next (T : List (List En)) (vo : Option Nat) (ao : Option Int) (i k : Nat) (hi : i < T.length) (hk : (T.getD i []).length ≤ k) : cntT T vo ao i + cntW vo ao ((T.getD i []).take k) = cntT T vo ao (i + 1) := by
  unfold cntT fenceN
  rw [List.take_of_length_le hk, List.take_add_one, List.getElem?_eq_getElem hi, List.map_append, List.sum_append, List.getD_eq_getElem?_getD, List.getElem?_eq_getElem hi]
  simp
theorem keeps_cell0 {F : Nat → Prop} {w w' : World} {p : Addr} {v : Value} (h : Keeps F w w') (hc : w.cell? p = some v) (hF : ¬ F p.block) : w'.cell? p = some v := by
  rw [World.cell?_of_block (h.block p.block (cell_lt hc) hF)]
  exact hc
theorem OneU.far {w w' : World} {vo : Option Nat} {V : Value} {g gs : Nat} {G : Nat → Nat} {T : List (List En)} {m : Nat} (h : OneU w vo V) (hB : BufAt w g gs G T m) (hm : 0 < m) (hn : 0 < T.length) (hk : Keeps (bufF g gs G T.length) w w') : OneU w' vo V := by
  refine h.keep fun gv x hc => keeps_cell0 hk hc ?_
  rintro (e | e | ⟨i, hi, e⟩)
  · have e' : gv = g := e
    obtain ⟨c, hh⟩ := hB.head
    rw [e', hh.cell 0] at hc
    simp at hc
  · have e' : gv = gs := e
    obtain ⟨cur, ho, hcur⟩ := hB.outer
    rw [e', ho.cell 0] at hc
    rcases Nat.eq_zero_or_pos T.length with h0 | h0
    · exact absurd h0 (by omega)
    · rw [hcur 0 h0] at hc; simp at hc
  · have e' : gv = G i := e
    obtain ⟨x0, hx0⟩ : ∃ x0, (T.getD i [])[0]? = some x0 := ⟨_, List.getElem?_eq_getElem (by rw [hB.ways i hi]; exact hm)⟩
    have h1 := hB.cell hi 0 0 x0 hx0 (by decide)
    rw [e'] at hc
    rw [show (0 * 15 + 0 : Nat) = 0 from rfl, hc] at h1
    simp [En.vs] at h1
theorem OneI.far {w w' : World} {ao : Option Int} {V : Value} {g gs : Nat} {G : Nat → Nat} {T : List (List En)} {m : Nat} (h : OneI w ao V) (hB : BufAt w g gs G T m) (hm : 0 < m) (hn : 0 < T.length) (hk : Keeps (bufF g gs G T.length) w w') : OneI w' ao V := by
  refine h.keep fun gv x hc => keeps_cell0 hk hc ?_
  rintro (e | e | ⟨i, hi, e⟩)
  · have e' : gv = g := e
    obtain ⟨c, hh⟩ := hB.head
    rw [e', hh.cell 0] at hc
    simp at hc
  · have e' : gv = gs := e
    obtain ⟨cur, ho, hcur⟩ := hB.outer
    rw [e', ho.cell 0] at hc
    rcases Nat.eq_zero_or_pos T.length with h0 | h0
    · exact absurd h0 (by omega)
    · rw [hcur 0 h0] at hc; simp at hc
  · have e' : gv = G i := e
    obtain ⟨x0, hx0⟩ : ∃ x0, (T.getD i [])[0]? = some x0 := ⟨_, List.getElem?_eq_getElem (by rw [hB.ways i hi]; exact hm)⟩
    have h1 := hB.cell hi 0 0 x0 hx0 (by decide)
    rw [e'] at hc
    rw [show (0 * 15 + 0 : Nat) = 0 from rfl, hc] at h1
    simp [En.vs] at h1
end Go.Proofs.Ytecalibnnfcaeaa

/- Fence: the walk. -/
namespace Go.Proofs.Ytecalibnnfcaeaa
open Go.RowKit

def FeR (W : World) (g gs : Nat) (G : Nat → Nat) (T : List (List En)) (m : Nat) (vo : Option Nat) (ao : Option Int) (i k : Nat) (wr : World) : Prop :=
  BufAt wr g gs G (midT T vo ao i k) m ∧ Keeps (bufF g gs G T.length) W wr
theorem valid_mid {T : List (List En)} (h : Valid T) {i k : Nat} {e : En} (hi : i < T.length) (he : (T.getD i [])[k]? = some e) : e.full = true → levOK e.lf.lev = true := by
  have hmem : (T.getD i []) ∈ T := by rw [List.getD_eq_getElem?_getD, List.getElem?_eq_getElem hi]; exact List.getElem_mem _
  exact h _ hmem e (List.mem_of_getElem? he)
theorem set_self {T : List (List En)} {a : Nat} : T.set a (T.getD a []) = T := by
  apply List.ext_getElem?
  intro i
  rcases Nat.lt_or_ge a T.length with h | h
  · by_cases hi : a = i
    · subst hi
      rw [List.getElem?_set_self h, List.getD_eq_getElem?_getD, List.getElem?_eq_getElem h]
      rfl
    · rw [List.getElem?_set_ne hi]
  · rw [List.set_eq_of_length_le h]
theorem cntT_le (T : List (List En)) (vo : Option Nat) (ao : Option Int) (m : Nat) : ∀ (a : Nat), a ≤ T.length → (∀ i, i < T.length → (T.getD i []).length = m) → cntT T vo ao a ≤ a * m
  | 0, _, _ => by simp [cntT, fenceN]
  | a + 1, h, hw => by
    have h1 := cntT_le T vo ao m a (by omega) hw
    have h2 := cntT_next T vo ao a m (by omega) (by rw [hw a (by omega)]; exact Nat.le_refl _)
    have h3 : cntW vo ao ((T.getD a []).take m) ≤ m := Nat.le_trans (List.countP_le_length) (by rw [List.length_take]; omega)
    rw [← h2, Nat.succ_mul]
    omega
set_option maxHeartbeats 4000000 in
theorem fence_any (g gs : Nat) (G : Nat → Nat) (T : List (List En)) (m : Nat) (vo : Option Nat) (ao : Option Int) (V A : Value) (W : World) (hv : ∀ va, vo = some va → va < 18446744073709551616) (hn : 0 < T.length) (hn2 : T.length ≤ 64) (hm0 : 0 < m) (hm : m ≤ 8) (hB : BufAt W g gs G T m) (hval : Valid T) (hV : OneU W vo V) (hA : OneI W ao A) :
    Calls Try.prog 35 #[.pointer (some ⟨g, 0, none⟩), V, A] W fun e w' => e = .returned (.int .i64 (fenceN T vo ao : Nat)) ∧ BufAt w' g gs G (fenceS T vo ao) m ∧ Keeps (bufF g gs G T.length) W w' := by
  have HB := Lib.hid hB
  have HV := Lib.hid hV
  have HA := Lib.hid hA
  obtain ⟨c, hc⟩ := hB.head
  obtain ⟨n, hnn⟩ : ∃ n, n = T.length := ⟨_, rfl⟩
  have HN := Lib.hid hnn
  have h0 := hc.cell 0
  have hgl := hc.lt
  simp at h0
  rw [← hnn] at hn hn2 h0
  clear hc hB hV hA hnn
  go_enter Try.func35, Try.ntmps35
  go_wp2_with fail
  go_loopw [7, 19] (fun cv i wr => ∃ a : Nat, a ≤ n ∧ i = .int .i64 a ∧ cv = .int .i64 (cntT T vo ao a : Nat) ∧ FeR W g gs G T m vo ao a 0 wr) (fun _ i _ => n - (intOf i).toNat)
  case atStart => exact ⟨0, by omega, rfl, rfl, by rw [midT_zero]; exact HB.out, Keeps.refl _ _⟩
  case round =>
    obtain ⟨a, ha, rfl, rfl, hB1, hK1⟩ := hrel
    have HB1 := Lib.hid hB1
    have HK1 := Lib.hid hK1
    clear hB1 hK1 h0
    by_cases hal : a < n
    · have HAL : Hid (a < T.length) := Lib.hid (by rw [← HN.out]; exact hal)
      obtain ⟨cur, ho, hcur⟩ := HB1.out.outer
      have hro := (ho.cell a).trans (hcur a (by rw [midT_length _ _ _ _ _ (Nat.le_of_lt HAL.out)]; exact HAL.out))
      clear ho hcur
      go_wp2_with fail
      clear hro
      go_loopw [7, 25] (fun cv i wr => ∃ k : Nat, k ≤ m ∧ i = .int .i64 k ∧ cv = .int .i64 (cntT T vo ao a + cntW vo ao ((T.getD a []).take k) : Nat) ∧ FeR W g gs G T m vo ao a k wr) (fun _ i _ => m - (intOf i).toNat)
      case atStart => exact ⟨0, by omega, rfl, by simp [cntW], HB1.out, HK1.out⟩
      case round =>
        obtain ⟨k, hk, rfl, rfl, hB2, hK2⟩ := hrel
        rename World => wr
        have HB2 := Lib.hid hB2
        have HK2 := Lib.hid hK2
        clear hB2 hK2
        have HWY : Hid ((T.getD a []).length = m) := Lib.hid (HB.out.ways a HAL.out)
        by_cases hkl : k < m
        · obtain ⟨e, he⟩ : ∃ e, (T.getD a [])[k]? = some e := ⟨_, List.getElem?_eq_getElem (by rw [HWY.out]; exact hkl)⟩
          have HE := Lib.hid he
          have HLV := Lib.hid (valid_mid hval HAL.out he)
          have HCN := Lib.hid (cnt_snoc vo ao _ k e he)
          have HML : Hid (a < (midT T vo ao a k).length) := Lib.hid (by rw [midT_length _ _ _ _ _ (Nat.le_of_lt HAL.out)]; exact HAL.out)
          have hme : ((midT T vo ao a k).getD a [])[k]? = some e := by rw [midT_self T vo ao a k HAL.out]; exact fenW_get vo ao _ k e he
          have HME := Lib.hid hme
          have hcw : cntT T vo ao a + cntW vo ao ((T.getD a []).take k) ≤ 1000 := by
            have h1 : cntT T vo ao a ≤ a * m := cntT_le T vo ao m a (Nat.le_of_lt HAL.out) HB.out.ways
            have h2 : cntW vo ao ((T.getD a []).take k) ≤ k := Nat.le_trans (List.countP_le_length) (by rw [List.length_take]; omega)
            have h3 : a * m ≤ 64 * 8 := Nat.mul_le_mul (by omega) hm
            omega
          generalize hcv : cntT T vo ao a + cntW vo ao ((T.getD a []).take k) = cv at *
          have HCV := Lib.hid hcv
          clear he hme hcv
          have c0 := HB2.out.cell HML.out k 0 e HME.out (by decide)
          have c1 := HB2.out.cell HML.out k 1 e HME.out (by decide)
          have c2 := HB2.out.cell HML.out k 2 e HME.out (by decide)
          have c3 := HB2.out.cell HML.out k 3 e HME.out (by decide)
          have c4 := HB2.out.cell HML.out k 4 e HME.out (by decide)
          have c5 := HB2.out.cell HML.out k 5 e HME.out (by decide)
          have c6 := HB2.out.cell HML.out k 6 e HME.out (by decide)
          have c7 := HB2.out.cell HML.out k 7 e HME.out (by decide)
          have c8 := HB2.out.cell HML.out k 8 e HME.out (by decide)
          have c9 := HB2.out.cell HML.out k 9 e HME.out (by decide)
          have c10 := HB2.out.cell HML.out k 10 e HME.out (by decide)
          have c11 := HB2.out.cell HML.out k 11 e HME.out (by decide)
          have c12 := HB2.out.cell HML.out k 12 e HME.out (by decide)
          have c13 := HB2.out.cell HML.out k 13 e HME.out (by decide)
          have c14 := HB2.out.cell HML.out k 14 e HME.out (by decide)
          simp [En.vs] at c0 c1 c2 c3 c4 c5 c6 c7 c8 c9 c10 c11 c12 c13 c14
          have hal2 := (Below.refl wr.heap.size wr).alloc (Nat.le_refl _) (.cells #[.bool e.full, .int .i64 e.asid, .int .u64 e.page, .bool e.lf.v, .bool e.lf.r, .bool e.lf.w, .bool e.lf.x, .bool e.lf.u, .bool e.lf.g, .bool e.lf.a, .bool e.lf.d, .int .i64 e.lf.rsw, .int .u64 e.lf.ppn, .int .i64 e.lf.lev, .int .u64 e.lf.pos] 110)
          have HAW := Lib.hid hal2
          clear hal2
          go_wp2_with fail
          refine (goes_any e vo ao V A _ hv HLV.out ((HV.out.far HB.out hm0 (by rw [← HN.out]; exact hn) HK2.out).below HAW.out) ((HA.out.far HB.out hm0 (by rw [← HN.out]; exact hn) HK2.out).below HAW.out)).mono ?_
          rintro r w3 ⟨rfl, hb⟩
          have hbb : Below wr.heap.size wr w3 := HAW.out.trans (hb.mono HAW.out.size)
          have HB3 := Lib.hid (HB2.out.below hbb)
          have HK3 := Lib.hid (HK2.out.same ((Keeps.of_below hbb)))
          clear hb hbb c0 c1 c2 c3 c4 c5 c6 c7 c8 c9 c10 c11 c12 c13 c14
          cases hgo : goesB e vo ao
          · rw [hgo] at HCN
            have HMM : Hid (midT T vo ao a (k + 1) = midT T vo ao a k) := Lib.hid (by
              rw [← midT_set T vo ao a k HAL.out, fenW_keep vo ao _ k e HE.out hgo, ← midT_self T vo ao a k HAL.out, set_self])
            clear hgo
            go_wp2_with fail
            refine ⟨⟨k + 1, hkl, by go_num, ?_, ?_, HK3.out⟩, by simp [intOf]; omega⟩
            · rw [HCN.out, ← HCV.out]; simp
            · rw [HMM.out]; exact HB3.out
          · rw [hgo] at HCN
            have HFE : Hid (fen vo ao e = en0) := Lib.hid (by unfold fen; rw [hgo]; rfl)
            clear hgo
            have hgb := HB3.out.inner a HML.out
            have z0 := HB3.out.cell HML.out k 0 e HME.out (by decide)
            have z1 := HB3.out.cell HML.out k 1 e HME.out (by decide)
            have z2 := HB3.out.cell HML.out k 2 e HME.out (by decide)
            have z3 := HB3.out.cell HML.out k 3 e HME.out (by decide)
            have z4 := HB3.out.cell HML.out k 4 e HME.out (by decide)
            have z5 := HB3.out.cell HML.out k 5 e HME.out (by decide)
            have z6 := HB3.out.cell HML.out k 6 e HME.out (by decide)
            have z7 := HB3.out.cell HML.out k 7 e HME.out (by decide)
            have z8 := HB3.out.cell HML.out k 8 e HME.out (by decide)
            have z9 := HB3.out.cell HML.out k 9 e HME.out (by decide)
            have z10 := HB3.out.cell HML.out k 10 e HME.out (by decide)
            have z11 := HB3.out.cell HML.out k 11 e HME.out (by decide)
            have z12 := HB3.out.cell HML.out k 12 e HME.out (by decide)
            have z13 := HB3.out.cell HML.out k 13 e HME.out (by decide)
            have z14 := HB3.out.cell HML.out k 14 e HME.out (by decide)
            simp [En.vs] at z0 z1 z2 z3 z4 z5 z6 z7 z8 z9 z10 z11 z12 z13 z14
            have zl := hgb.lt
            have zf := fun i => hgb.frozen i
            have HGB := Lib.hid hgb
            clear hgb
            go_wp2_with fail
            clear z0 z1 z2 z3 z4 z5 z6 z7 z8 z9 z10 z11 z12 z13 z14 zl zf
            have hZ := (((((((((((((((HGB.out.set_ (k * 15) (.bool false)).set_ (k * 15 + 1) (.int .i64 0)).set_ (k * 15 + 2) (.int .u64 0)).set_ (k * 15 + 3) (.bool false)).set_ (k * 15 + 4) (.bool false)).set_ (k * 15 + 5) (.bool false)).set_ (k * 15 + 6) (.bool false)).set_ (k * 15 + 7) (.bool false)).set_ (k * 15 + 8) (.bool false)).set_ (k * 15 + 9) (.bool false)).set_ (k * 15 + 10) (.bool false)).set_ (k * 15 + 11) (.int .i64 0)).set_ (k * 15 + 12) (.int .u64 0)).set_ (k * 15 + 13) (.int .i64 0)).set_ (k * 15 + 14) (.int .u64 0))
            have hKK := ((((((((((((((((Keeps.refl (fun x => x = G a) w3).setCell (p := ⟨G a, k * 15, none⟩) (.inl rfl) (.bool false)).setCell (p := ⟨G a, k * 15 + 1, none⟩) (.inl rfl) (.int .i64 0)).setCell (p := ⟨G a, k * 15 + 2, none⟩) (.inl rfl) (.int .u64 0)).setCell (p := ⟨G a, k * 15 + 3, none⟩) (.inl rfl) (.bool false)).setCell (p := ⟨G a, k * 15 + 4, none⟩) (.inl rfl) (.bool false)).setCell (p := ⟨G a, k * 15 + 5, none⟩) (.inl rfl) (.bool false)).setCell (p := ⟨G a, k * 15 + 6, none⟩) (.inl rfl) (.bool false)).setCell (p := ⟨G a, k * 15 + 7, none⟩) (.inl rfl) (.bool false)).setCell (p := ⟨G a, k * 15 + 8, none⟩) (.inl rfl) (.bool false)).setCell (p := ⟨G a, k * 15 + 9, none⟩) (.inl rfl) (.bool false)).setCell (p := ⟨G a, k * 15 + 10, none⟩) (.inl rfl) (.bool false)).setCell (p := ⟨G a, k * 15 + 11, none⟩) (.inl rfl) (.int .i64 0)).setCell (p := ⟨G a, k * 15 + 12, none⟩) (.inl rfl) (.int .u64 0)).setCell (p := ⟨G a, k * 15 + 13, none⟩) (.inl rfl) (.int .i64 0)).setCell (p := ⟨G a, k * 15 + 14, none⟩) (.inl rfl) (.int .u64 0))
            simp only [List.setIfInBounds_toArray] at hZ
            have hlen : k < ((midT T vo ao a k).getD a []).length := by rw [midT_self T vo ao a k HAL.out, fenW_length, HWY.out]; exact hkl
            have hZ2 : Blk (((((((((((((((w3.setCell ⟨G a, k * 15, none⟩ (.bool false)).setCell ⟨G a, k * 15 + 1, none⟩ (.int .i64 0)).setCell ⟨G a, k * 15 + 2, none⟩ (.int .u64 0)).setCell ⟨G a, k * 15 + 3, none⟩ (.bool false)).setCell ⟨G a, k * 15 + 4, none⟩ (.bool false)).setCell ⟨G a, k * 15 + 5, none⟩ (.bool false)).setCell ⟨G a, k * 15 + 6, none⟩ (.bool false)).setCell ⟨G a, k * 15 + 7, none⟩ (.bool false)).setCell ⟨G a, k * 15 + 8, none⟩ (.bool false)).setCell ⟨G a, k * 15 + 9, none⟩ (.bool false)).setCell ⟨G a, k * 15 + 10, none⟩ (.bool false)).setCell ⟨G a, k * 15 + 11, none⟩ (.int .i64 0)).setCell ⟨G a, k * 15 + 12, none⟩ (.int .u64 0)).setCell ⟨G a, k * 15 + 13, none⟩ (.int .i64 0)).setCell ⟨G a, k * 15 + 14, none⟩ (.int .u64 0)) (G a) 110 (waysC (((midT T vo ao a k).getD a []).set k en0)).toArray := by
              rw [← ways_set _ k en0 hlen]
              exact hZ
            generalize (((((((((((((((w3.setCell ⟨G a, k * 15, none⟩ (.bool false)).setCell ⟨G a, k * 15 + 1, none⟩ (.int .i64 0)).setCell ⟨G a, k * 15 + 2, none⟩ (.int .u64 0)).setCell ⟨G a, k * 15 + 3, none⟩ (.bool false)).setCell ⟨G a, k * 15 + 4, none⟩ (.bool false)).setCell ⟨G a, k * 15 + 5, none⟩ (.bool false)).setCell ⟨G a, k * 15 + 6, none⟩ (.bool false)).setCell ⟨G a, k * 15 + 7, none⟩ (.bool false)).setCell ⟨G a, k * 15 + 8, none⟩ (.bool false)).setCell ⟨G a, k * 15 + 9, none⟩ (.bool false)).setCell ⟨G a, k * 15 + 10, none⟩ (.bool false)).setCell ⟨G a, k * 15 + 11, none⟩ (.int .i64 0)).setCell ⟨G a, k * 15 + 12, none⟩ (.int .u64 0)).setCell ⟨G a, k * 15 + 13, none⟩ (.int .i64 0)).setCell ⟨G a, k * 15 + 14, none⟩ (.int .u64 0)) = w4 at *
            have HBF := Lib.hid (HB3.out.turn HML.out (by rw [List.length_set, midT_self T vo ao a k HAL.out, fenW_length, HWY.out]) hKK hZ2)
            have HKF : Hid (Keeps (bufF g gs G T.length) W w4) := Lib.hid (HK3.out.trans hKK (fun i hi => .inl (.inr (.inr ⟨a, HAL.out, hi⟩))))
            clear hZ hKK hZ2 hlen
            refine ⟨⟨k + 1, hkl, by go_num, ?_, ?_, HKF.out⟩, by simp [intOf]; omega⟩
            · rw [HCN.out, ← HCV.out]; simp; omega
            · have h1 := HBF.out
              rw [midT_self T vo ao a k HAL.out, ← HFE.out, ← fenW_step vo ao _ k e HE.out, midT_set T vo ao a k HAL.out] at h1
              exact h1
        · obtain rfl : m = k := by omega
          have HMN := Lib.hid (midT_next T vo ao a m HAL.out (by rw [HWY.out]; exact Nat.le_refl _))
          have HCX := Lib.hid (cntT_next T vo ao a m HAL.out (by rw [HWY.out]; exact Nat.le_refl _))
          have h1 := HB2.out
          rw [HMN.out] at h1
          have HB5 := Lib.hid h1
          clear h1
          rw [HCX.out]
          go_wp2_with fail
          exact ⟨⟨a + 1, hal, by go_num, rfl, HB5.out, HK2.out⟩, by simp [intOf]; omega⟩
    · obtain rfl : n = a := by omega
      have h1 := HB1.out
      rw [HN.out, midT_end] at h1
      have HB5 := Lib.hid h1
      have HCE : Hid (cntT T vo ao n = fenceN T vo ao) := Lib.hid (by unfold cntT; rw [HN.out, List.take_length])
      clear h1
      go_wp2
      go_ret
      exact ⟨by rw [HCE.out]; rfl, HB5.out, HK1.out⟩
end Go.Proofs.Ytecalibnnfcaeaa
