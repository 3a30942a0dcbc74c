/- The reference's Fill. -/
import Derived.Test.YtnjoobggcejgkaaTlbQ
namespace Go.Proofs.Ytnjoobggcejgkaa
open Go.RowKit

theorem idx_some {l : List En} {k : Nat} {e : En} {p : En → Bool} (he : l[k]? = some e) (hno : ∀ y ∈ l.take k, p y = false) (hp : p e = true) : l.findIdx? p = some k := by
  have hk : k < l.length := (List.getElem?_eq_some_iff.1 he).1
  rw [List.findIdx?_eq_some_iff_getElem]
  refine ⟨hk, ?_, fun j hj => ?_⟩
  · rw [List.getElem?_eq_getElem hk] at he
    injection he with he
    rw [he]
    exact hp
  · rw [hno (l[j]'(by omega)) (List.mem_take_iff_getElem.2 ⟨j, by omega, rfl⟩)]
    decide
theorem idx_none {l : List En} {k : Nat} {p : En → Bool} (hk : l.length ≤ k) (hno : ∀ y ∈ l.take k, p y = false) : l.findIdx? p = none := by
  rw [List.take_of_length_le hk] at hno
  rw [List.findIdx?_eq_none_iff]
  exact hno
theorem vic_same {l : List En} {n e : En} {k : Nat} {pick : Int} (he : l[k]? = some e) (hno : ∀ y ∈ l.take k, sameB n y = false) (hp : sameB n e = true) : victimN l n pick = k := by
  unfold victimN
  rw [idx_some he hno hp]
theorem vic_free {l : List En} {n e : En} {k m : Nat} {pick : Int} (hm : l.length = m) (hno : ∀ y ∈ l.take m, sameB n y = false) (he : l[k]? = some e) (hf : ∀ y ∈ l.take k, freeB y = false) (hp : freeB e = true) : victimN l n pick = k := by
  unfold victimN
  rw [idx_none (Nat.le_of_eq hm) hno, idx_some he hf hp]
theorem vic_pick {l : List En} {n : En} {m : Nat} {pick : Int} (hm : l.length = m) (hno : ∀ y ∈ l.take m, sameB n y = false) (hf : ∀ y ∈ l.take m, freeB y = false) : victimN l n pick = (absP pick).toNat % m := by
  unfold victimN
  rw [idx_none (Nat.le_of_eq hm) hno, idx_none (Nat.le_of_eq hm) hf, hm]
theorem el_row12 : rowT Try.prog 33 12 = true := by kernel_rfl
theorem PutG.mono {W W1 w' : World} {gx : Nat} {G : Nat → Prop} {n m : Int} {L : List Sl} (h : PutG W1 gx G n m L w') (hb : Below W.heap.size W W1) : PutG W gx G n m L w' := by
  obtain ⟨G', h1, h2, h3⟩ := h
  exact ⟨G', h1, fun b hb' => (h2 b hb').imp id (fun h => Nat.le_trans hb.size h), (Keeps.of_below hb).trans h3 (fun _ h => .inl h)⟩
/-- What Fill leaves behind. -/
def RFill (W : World) (gx : Nat) (G : Nat → Prop) (n m : Int) (T : List (List En)) (w' : World) : Prop := ∃ L', PutG W gx G n m L' w' ∧ L'.Perm (listT 0 T)
theorem fill_done {L : List Sl} {T : List (List En)} {n m q k va : Nat} {asid pick : Int} {lf : Lf} (hK : TOk T n m) (hP : L.Perm (listT 0 T)) (hq : q = pgN va lf.lev % n) (hql : q < n) (hv : victimN (T.getD q []) (fillE va asid lf) pick = k) (hk : k < m) :
    (keepP q k L ++ [(⟨q, k, asid, pgN va lf.lev, lf⟩ : Sl)]).Perm (listT 0 (fillS T va asid lf pick)) := by
  have e : fillQ T va lf = q := by unfold fillQ; rw [hK.len, hq]
  unfold fillS
  rw [e, hv]
  exact fill_perm hP (e := fillE va asid lf) rfl (by rw [hK.len]; exact hql) (by rw [hK.ways q hql]; exact hk)
theorem rfill_no (gx : Nat) (va : Nat) (asid : Int) (lf : Lf) (pick : Int) (W : World) (hl : levOK lf.lev = false) :
    Calls Try.prog 13 #[.pointer (some ⟨gx, 0, none⟩), .int .u64 (va : Int), .int .i64 asid, .agg lf.cs, .int .i64 pick] W fun e w' => e = .returned (.bool false) ∧ Below W.heap.size W w' := by
  have hb := Blkf.new_at W 33 (0, 0) lf.cs rfl
  have h10 := hb.cell 10
  rw [show lf.cs[10]? = some (.int .i64 lf.lev) from rfl] at h10
  have hw : Below W.heap.size W (W.alloc (.cells lf.cs 33)) := (Below.refl _ _).alloc (Nat.le_refl _) _
  have HW := Lib.hid hw
  clear hb hw
  rcases (show lf.lev < 0 ∨ 2 < lf.lev by simp [levOK] at hl; omega) with h | h
  · go_enter Try.func13, Try.ntmps13
    go_wp2_with fail
    go_ret
    exact ⟨rfl, HW.out⟩
  · have h2 : ¬ lf.lev < 0 := by omega
    go_enter Try.func13, Try.ntmps13
    go_wp2_with fail
    go_ret
    exact ⟨rfl, HW.out⟩
set_option maxRecDepth 100000 in
set_option maxHeartbeats 8000000 in
theorem rfill_yes (gx n m va : Nat) (asid : Int) (lf : Lf) (pick : Int) (G : Nat → Prop) (L : List Sl) (T : List (List En)) (W : World) (hv : va < 18446744073709551616) (hpk : -9223372036854775808 ≤ pick ∧ pick < 9223372036854775808) (hK : TOk T n m) (hR : RefG W gx G n m L) (hP : L.Perm (listT 0 T)) (hl : levOK lf.lev = true) :
    Calls Try.prog 13 #[.pointer (some ⟨gx, 0, none⟩), .int .u64 (va : Int), .int .i64 asid, .agg lf.cs, .int .i64 pick] W fun e w' => e = .returned (.bool true) ∧ RFill W gx G n m (fillS T va asid lf pick) w' := by
  have HV := Lib.hid hv
  have HPK := Lib.hid hpk
  have HK := Lib.hid hK
  have HR := Lib.hid hR
  have HP := Lib.hid hP
  have HLV := Lib.hid hl
  have HN := Lib.hid hK.n0
  have HM := Lib.hid hK.m8
  have HM0 := Lib.hid hK.m0
  have HNB := Lib.hid hK.n64
  have i1 : ¬ lf.lev < 0 := by simp [levOK] at hl; omega
  have i2 : ¬ 2 < lf.lev := by simp [levOK] at hl; omega
  have hb := Blkf.new_at W 33 (0, 0) #[.bool lf.v, .bool lf.r, .bool lf.w, .bool lf.x, .bool lf.u, .bool lf.g, .bool lf.a, .bool lf.d, .int .i64 lf.rsw, .int .u64 lf.ppn, .int .i64 lf.lev, .int .u64 lf.pos] rfl
  have hw : Below W.heap.size W (W.alloc (.cells #[.bool lf.v, .bool lf.r, .bool lf.w, .bool lf.x, .bool lf.u, .bool lf.g, .bool lf.a, .bool lf.d, .int .i64 lf.rsw, .int .u64 lf.ppn, .int .i64 lf.lev, .int .u64 lf.pos] 33)) := (Below.refl _ _).alloc (Nat.le_refl _) _
  have HBX := Lib.hid hb
  have HW0 := Lib.hid hw
  have h10 := hb.cell 10
  simp only [List.getElem?_toArray, List.getElem?_cons_zero, List.getElem?_cons_succ] at h10
  clear hv hpk hK hR hP hl hb hw
  rw [show Value.agg lf.cs = .agg #[.bool lf.v, .bool lf.r, .bool lf.w, .bool lf.x, .bool lf.u, .bool lf.g, .bool lf.a, .bool lf.d, .int .i64 lf.rsw, .int .u64 lf.ppn, .int .i64 lf.lev, .int .u64 lf.pos] from rfl]
  go_enter Try.func13, Try.ntmps13
  go_wp2_with fail
  generalize W.alloc (.cells #[.bool lf.v, .bool lf.r, .bool lf.w, .bool lf.x, .bool lf.u, .bool lf.g, .bool lf.a, .bool lf.d, .int .i64 lf.rsw, .int .u64 lf.ppn, .int .i64 lf.lev, .int .u64 lf.pos] 33) = W0 at *
  refine (rpage_any va lf.lev _ HV.out HLV.out).mono ?_
  rintro e w1 ⟨rfl, hb1⟩
  have HBX1 := Lib.hid (HBX.out.below hb1 HBX.out.lt)
  have HW1 := Lib.hid (HW0.out.trans (hb1.mono HW0.out.size))
  obtain ⟨A, c, hg, _⟩ := HR.out.below HW1.out
  have HG0 := Lib.hid hg
  clear h10 hb1 hg HBX HW0 i1 i2
  obtain ⟨pg, hpg⟩ : ∃ pg, pg = pgN va lf.lev := ⟨_, rfl⟩
  rw [← hpg]
  have HPG := Lib.hid hpg
  clear hpg
  have hs0 : ∀ W', Ext w1.drew W' → W'.cell? ⟨gx, 0, none⟩ = some (.int .i64 (n : Int)) := fun W' h => (h.cell HG0.out.drew.lt).trans (HG0.out.cell 0)
  have hz : ¬ (n = 0) := by have := HN.out; omega
  have hwn : IntKind.u64.wrap (n : Int) = (n : Int) := IntWalk.u64_in _ (by have := HNB.out; omega)
  go_wp2_with fail
  refine wp_region_plan [(0, false), (1, false), (2, false), (3, false), (4, false), (5, false), (6, false), (7, false), (8, false), (9, false), (10, false), (11, false), (12, true), (13, true)] (by kernel_rfl) (by kernel_rfl) (fun _ d _ _ _ h => by cases d <;> exact h) ?_
  iterate 10 (refine plan_take (v := ?_) rfl (by kernel_rfl) ?_ ?_; rotate_left; (focus (intro w' hw'; try go_simp; try with_reducible rfl)); simp only [Act.put, List.setIfInBounds_toArray, List.set_cons_zero, List.set_cons_succ])
  refine plan_take rfl (by kernel_rfl) (fun w' h' => run_load_op 33 (.tmp 8) rfl W.heap.size 0 #[.bool lf.v, .bool lf.r, .bool lf.w, .bool lf.x, .bool lf.u, .bool lf.g, .bool lf.a, .bool lf.d, .int .i64 lf.rsw, .int .u64 lf.ppn, .int .i64 lf.lev, .int .u64 lf.pos] rfl ((HBX1.out.drew.below h' HBX1.out.drew.lt).range) el_row12) ?_
  simp only [Act.put, List.setIfInBounds_toArray, List.set_cons_zero, List.set_cons_succ]
  iterate 1 (refine plan_take (v := ?_) rfl (by kernel_rfl) ?_ ?_; rotate_left; (focus (intro w' hw'; try go_simp; try with_reducible rfl)); simp only [Act.put, List.setIfInBounds_toArray, List.set_cons_zero, List.set_cons_succ])
  clear hs0 hz hwn
  rw [set_eq pg n HN.out HNB.out, show ((pg : Nat) : Int).tmod (n : Int) = ((pg : Nat) : Int) % (n : Int) from Int.tmod_eq_emod_of_nonneg (by omega)]
  obtain ⟨q, hq⟩ : ∃ q, q = pg % n := ⟨_, rfl⟩
  have HQL : Hid (q < n) := Lib.hid (by rw [hq]; exact Nat.mod_lt _ HN.out)
  rw [← hq]
  have HQ := Lib.hid hq
  clear hq
  refine plan_turn rfl (by kernel_rfl) (fun K hK => ?_)
  go_simp
  refine hK _ _ ⟨(Ext.refl _).alloc (Nat.le_refl _) _, ?_⟩
  clear hK K
  refine plan_last rfl (by kernel_rfl) (by kernel_rfl) (fun K hK => ?_)
  go_simp
  refine hK _ _ ?_
  clear hK K
  refine plan_end ?_
  have hs2 := (Blkf.new_at w1 64 (0, 0) #[.int .i64 (q : Int), .int .i64 0, .int .i64 asid, .int .u64 (pg : Int), .bool lf.v, .bool lf.r, .bool lf.w, .bool lf.x, .bool lf.u, .bool lf.g, .bool lf.a, .bool lf.d, .int .i64 lf.rsw, .int .u64 lf.ppn, .int .i64 lf.lev, .int .u64 lf.pos] rfl).drew
  have hal := ((Below.refl w1.heap.size w1).alloc (Nat.le_refl _) (.cells #[.int .i64 (q : Int), .int .i64 0, .int .i64 asid, .int .u64 (pg : Int), .bool lf.v, .bool lf.r, .bool lf.w, .bool lf.x, .bool lf.u, .bool lf.g, .bool lf.a, .bool lf.d, .int .i64 lf.rsw, .int .u64 lf.ppn, .int .i64 lf.lev, .int .u64 lf.pos] 64)).drew
  have HS2 : Hid (Blk (w1.alloc (.cells #[.int .i64 (q : Int), .int .i64 0, .int .i64 asid, .int .u64 (pg : Int), .bool lf.v, .bool lf.r, .bool lf.w, .bool lf.x, .bool lf.u, .bool lf.g, .bool lf.a, .bool lf.d, .int .i64 lf.rsw, .int .u64 lf.ppn, .int .i64 lf.lev, .int .u64 lf.pos] 64)).drew w1.heap.size 64 #[.int .i64 (q : Int), .int .i64 0, .int .i64 asid, .int .u64 (pg : Int), .bool lf.v, .bool lf.r, .bool lf.w, .bool lf.x, .bool lf.u, .bool lf.g, .bool lf.a, .bool lf.d, .int .i64 lf.rsw, .int .u64 lf.ppn, .int .i64 lf.lev, .int .u64 lf.pos]) := Lib.hid hs2
  have HX2 := Lib.hid (HBX1.out.below hal HBX1.out.lt)
  have HW2 := Lib.hid (HW1.out.trans (hal.mono HW1.out.size))
  have HSW : Hid (W.heap.size ≤ w1.heap.size) := Lib.hid HW1.out.size
  clear hs2 hal HBX1 HW1 HG0
  generalize (w1.alloc (.cells #[.int .i64 (q : Int), .int .i64 0, .int .i64 asid, .int .u64 (pg : Int), .bool lf.v, .bool lf.r, .bool lf.w, .bool lf.x, .bool lf.u, .bool lf.g, .bool lf.a, .bool lf.d, .int .i64 lf.rsw, .int .u64 lf.ppn, .int .i64 lf.lev, .int .u64 lf.pos] 64)).drew = w2 at *
  generalize w1.heap.size = sb at *
  go_wp2_with fail
  go_loopw [13] (fun i wr => ∃ k : Nat, k ≤ m ∧ i = .int .i64 k ∧ Below W.heap.size W wr ∧ Blk wr sb 64 #[.int .i64 (q : Int), .int .i64 0, .int .i64 asid, .int .u64 (pg : Int), .bool lf.v, .bool lf.r, .bool lf.w, .bool lf.x, .bool lf.u, .bool lf.g, .bool lf.a, .bool lf.d, .int .i64 lf.rsw, .int .u64 lf.ppn, .int .i64 lf.lev, .int .u64 lf.pos] ∧ Blk wr W.heap.size 33 #[.bool lf.v, .bool lf.r, .bool lf.w, .bool lf.x, .bool lf.u, .bool lf.g, .bool lf.a, .bool lf.d, .int .i64 lf.rsw, .int .u64 lf.ppn, .int .i64 lf.lev, .int .u64 lf.pos] ∧ ∀ y ∈ (T.getD q []).take k, sameB (fillE va asid lf) y = false) (fun i _ => m - (intOf i).toNat)
  case atStart => exact ⟨0, by omega, rfl, HW2.out, HS2.out, HX2.out, fun y hy => by simp at hy⟩
  clear HW2 HS2 HX2
  case round =>
    obtain ⟨k, hk, rfl, hbl, hS, hX, hno⟩ := hrel
    have HBE := Lib.hid hbl
    have HSE := Lib.hid hS
    have HXE := Lib.hid hX
    have HNO := Lib.hid hno
    obtain ⟨A, c, hg, _⟩ := HR.out.below hbl
    have hm1 := hg.cell 1
    have hq0 := hS.cell 0
    simp at hm1 hq0
    have hmb := HM.out
    clear hbl hS hX hno hg
    by_cases hkl : k < m
    · obtain ⟨e, he⟩ : ∃ e, (T.getD q [])[k]? = some e := ⟨_, List.getElem?_eq_getElem (by rw [HK.out.ways q HQL.out]; exact hkl)⟩
      have HE := Lib.hid he
      clear he
      go_wp2_with fail
      refine (rat_T gx n m n m L T q k _ HK.out (HR.out.below HBE.out).ref HP.out).mono ?_
      rintro _ w3 ⟨rfl, hb3⟩
      clear hm1 hq0
      have HX3 := Lib.hid (HXE.out.below hb3 HXE.out.lt)
      have HS3 := Lib.hid (HSE.out.below hb3 HSE.out.lt)
      have HB3 := Lib.hid (HBE.out.trans (hb3.mono HBE.out.size))
      clear hb3 HBE HXE HSE
      cases hf : e.full
      · rw [at_not HE.out hf]
        have HNX := Lib.hid (take_more HE.out HNO.out (show sameB (fillE va asid lf) e = false by unfold sameB; rw [hf]; rfl))
        have hal := (Below.refl w3.heap.size w3).alloc (Nat.le_refl _) (.cells sl0.cs 64)
        have HX4 := Lib.hid (HX3.out.below hal HX3.out.lt)
        have HS4 := Lib.hid (HS3.out.below hal HS3.out.lt)
        have HB4 := Lib.hid (HB3.out.trans (hal.mono HB3.out.size))
        clear hal hf
        go_wp2_with (first | ((with_reducible refine wl_store_new 64 (.tmp 14) (.tmp 57) rfl ?_ w3 (World.heap w3).size 64 #[.int .i64 0, .int .i64 0, .int .i64 0, .int .u64 0, .bool false, .bool false, .bool false, .bool false, .bool false, .bool false, .bool false, .bool false, .int .i64 0, .int .u64 0, .int .i64 0, .int .u64 0] sl0.cs ?_ ?_ ?_ ?_ ?_ ?_ ?_ ?_); exact rfl; exact rfl; exact rfl; exact rfl; exact rfl; exact rfl; exact slot_row sl0; exact cs_one sl0))
        go_roundw
        case rel => exact ⟨k + 1, hkl, by go_num, HB4.out, HS4.out, HX4.out, HNX.out⟩
        case measure => simp [intOf]; omega
      · rw [at_yes HE.out hf]
        obtain ⟨x, hx⟩ : ∃ x : Sl, x = ⟨q, k, e.asid, e.page, e.lf⟩ := ⟨_, rfl⟩
        have hxa : x.asid = e.asid := by rw [hx]
        have hxp : x.page = e.page := by rw [hx]
        have hxl : x.lf = e.lf := by rw [hx]
        rw [← hx, show ((some x).getD sl0).cs = x.cs from rfl, show (some x).isSome = true from rfl]
        have hal := (Below.refl w3.heap.size w3).alloc (Nat.le_refl _) (.cells x.cs 64)
        have HX4 := Lib.hid (HX3.out.below hal HX3.out.lt)
        have HS4 := Lib.hid (HS3.out.below hal HS3.out.lt)
        have HB4 := Lib.hid (HB3.out.trans (hal.mono HB3.out.size))
        have HL4 := Lib.hid (Blkf.new_at w3 64 (0, 0) x.cs rfl)
        have HHB : Hid (sameB (fillE va asid lf) e = ((x.lf.lev == lf.lev) && (((x.page : Int) == (pg : Int)) && (x.asid == asid)))) := Lib.hid (by unfold sameB fillE; rw [hf, nat_beq, hxa, hxp, hxl, HPG.out]; rfl)
        clear hal hf hx hxa hxp hxl HX3 HB3 HS3
        have v14 := HL4.out.cell 14
        have v3 := HL4.out.cell 3
        have v2 := HL4.out.cell 2
        have b10 := HX4.out.cell 10
        rw [show x.cs[14]? = some (.int .i64 x.lf.lev) from rfl] at v14
        rw [show x.cs[3]? = some (.int .u64 (x.page : Int)) from rfl] at v3
        rw [show x.cs[2]? = some (.int .i64 x.asid) from rfl] at v2
        simp only [List.getElem?_toArray, List.getElem?_cons_zero, List.getElem?_cons_succ] at b10
        cases h1 : (x.lf.lev == lf.lev)
        · have HNX := Lib.hid (take_more HE.out HNO.out (show sameB (fillE va asid lf) e = false by rw [HHB.out, h1]; rfl))
          go_wp2_with (first | ((with_reducible refine wl_store_new 64 (.tmp 14) (.tmp 57) rfl ?_ w3 (World.heap w3).size 64 #[.int .i64 0, .int .i64 0, .int .i64 0, .int .u64 0, .bool false, .bool false, .bool false, .bool false, .bool false, .bool false, .bool false, .bool false, .int .i64 0, .int .u64 0, .int .i64 0, .int .u64 0] x.cs ?_ ?_ ?_ ?_ ?_ ?_ ?_ ?_); exact rfl; exact rfl; exact rfl; exact rfl; exact rfl; exact rfl; exact slot_row x; exact cs_one x))
          go_roundw
          case rel => exact ⟨k + 1, hkl, by go_num, HB4.out, HS4.out, HX4.out, HNX.out⟩
          case measure => simp [intOf]; omega
        · cases h2 : ((x.page : Int) == (pg : Int))
          · have HNX := Lib.hid (take_more HE.out HNO.out (show sameB (fillE va asid lf) e = false by rw [HHB.out, h1, h2]; rfl))
            go_wp2_with (first | ((with_reducible refine wl_store_new 64 (.tmp 14) (.tmp 57) rfl ?_ w3 (World.heap w3).size 64 #[.int .i64 0, .int .i64 0, .int .i64 0, .int .u64 0, .bool false, .bool false, .bool false, .bool false, .bool false, .bool false, .bool false, .bool false, .int .i64 0, .int .u64 0, .int .i64 0, .int .u64 0] x.cs ?_ ?_ ?_ ?_ ?_ ?_ ?_ ?_); exact rfl; exact rfl; exact rfl; exact rfl; exact rfl; exact rfl; exact slot_row x; exact cs_one x))
            go_roundw
            case rel => exact ⟨k + 1, hkl, by go_num, HB4.out, HS4.out, HX4.out, HNX.out⟩
            case measure => simp [intOf]; omega
          · cases h3 : (x.asid == asid)
            · have HNX := Lib.hid (take_more HE.out HNO.out (show sameB (fillE va asid lf) e = false by rw [HHB.out, h1, h2, h3]; rfl))
              go_wp2_with (first | ((with_reducible refine wl_store_new 64 (.tmp 14) (.tmp 57) rfl ?_ w3 (World.heap w3).size 64 #[.int .i64 0, .int .i64 0, .int .i64 0, .int .u64 0, .bool false, .bool false, .bool false, .bool false, .bool false, .bool false, .bool false, .bool false, .int .i64 0, .int .u64 0, .int .i64 0, .int .u64 0] x.cs ?_ ?_ ?_ ?_ ?_ ?_ ?_ ?_); exact rfl; exact rfl; exact rfl; exact rfl; exact rfl; exact rfl; exact slot_row x; exact cs_one x))
              go_roundw
              case rel => exact ⟨k + 1, hkl, by go_num, HB4.out, HS4.out, HX4.out, HNX.out⟩
              case measure => simp [intOf]; omega
            · have HVK : Hid (victimN (T.getD q []) (fillE va asid lf) pick = k) := Lib.hid (vic_same HE.out HNO.out (by rw [HHB.out, h1, h2, h3]; rfl))
              have f1 := Blk.frozen HS4.out 1
              have l1 := HS4.out.lt
              have c1 := HS4.out.cell 1
              simp only [List.getElem?_toArray, List.getElem?_cons_zero, List.getElem?_cons_succ] at c1
              have HS5 : Hid (Blk ((w3.alloc (.cells x.cs 64)).setCell ⟨sb, 1, none⟩ (.int .i64 (k : Int))) sb 64 #[.int .i64 (q : Int), .int .i64 (k : Int), .int .i64 asid, .int .u64 (pg : Int), .bool lf.v, .bool lf.r, .bool lf.w, .bool lf.x, .bool lf.u, .bool lf.g, .bool lf.a, .bool lf.d, .int .i64 lf.rsw, .int .u64 lf.ppn, .int .i64 lf.lev, .int .u64 lf.pos]) := Lib.hid (HS4.out.set_ 1 _)
              have HB5 : Hid (Below W.heap.size W ((w3.alloc (.cells x.cs 64)).setCell ⟨sb, 1, none⟩ (.int .i64 (k : Int)))) := Lib.hid (HB4.out.setCell HSW.out _)
              go_wp2_with (first | ((with_reducible refine wl_store_new 64 (.tmp 14) (.tmp 57) rfl ?_ w3 (World.heap w3).size 64 #[.int .i64 0, .int .i64 0, .int .i64 0, .int .u64 0, .bool false, .bool false, .bool false, .bool false, .bool false, .bool false, .bool false, .bool false, .int .i64 0, .int .u64 0, .int .i64 0, .int .u64 0] x.cs ?_ ?_ ?_ ?_ ?_ ?_ ?_ ?_); exact rfl; exact rfl; exact rfl; exact rfl; exact rfl; exact rfl; exact slot_row x; exact cs_one x) | ((with_reducible refine wl_load 64 (.tmp 12) rfl ?_ sb 0 #[.int .i64 (q : Int), .int .i64 (k : Int), .int .i64 asid, .int .u64 (pg : Int), .bool lf.v, .bool lf.r, .bool lf.w, .bool lf.x, .bool lf.u, .bool lf.g, .bool lf.a, .bool lf.d, .int .i64 lf.rsw, .int .u64 lf.ppn, .int .i64 lf.lev, .int .u64 lf.pos] ?_ HS5.out.range ?_ ?_); exact rfl; exact rfl; exact ex_row))
              rw [show Value.agg #[.int .i64 (q : Int), .int .i64 (k : Int), .int .i64 asid, .int .u64 (pg : Int), .bool lf.v, .bool lf.r, .bool lf.w, .bool lf.x, .bool lf.u, .bool lf.g, .bool lf.a, .bool lf.d, .int .i64 lf.rsw, .int .u64 lf.ppn, .int .i64 lf.lev, .int .u64 lf.pos] = .agg (Sl.cs ⟨q, k, asid, pg, lf⟩) from rfl]
              refine (rput_any gx n m ⟨q, k, asid, pg, lf⟩ G L _ (HK.out.slots HP.out) (HR.out.below HB5.out)).mono ?_
              rintro _ w6 ⟨rfl, hput⟩
              have HPT := Lib.hid (hput.mono HB5.out)
              clear hput
              go_wp2_with fail
              go_ret
              refine ⟨rfl, _, HPT.out, ?_⟩
              rw [HPG.out]
              exact fill_done HK.out HP.out (by rw [HQ.out, HPG.out]) HQL.out HVK.out hkl
    · obtain rfl : m = k := by omega
      have HNS := Lib.hid HNO.out
      clear HNO
      go_wp2_with fail
      go_loopw [16] (fun i wr => ∃ k : Nat, k ≤ m ∧ i = .int .i64 k ∧ Below W.heap.size W wr ∧ Blk wr sb 64 #[.int .i64 (q : Int), .int .i64 0, .int .i64 asid, .int .u64 (pg : Int), .bool lf.v, .bool lf.r, .bool lf.w, .bool lf.x, .bool lf.u, .bool lf.g, .bool lf.a, .bool lf.d, .int .i64 lf.rsw, .int .u64 lf.ppn, .int .i64 lf.lev, .int .u64 lf.pos] ∧ ∀ y ∈ (T.getD q []).take k, freeB y = false) (fun i _ => m - (intOf i).toNat)
      case atStart => exact ⟨0, by omega, rfl, HBE.out, HSE.out, fun y hy => by simp at hy⟩
      clear HBE HSE HXE hm1 hq0
      case round =>
        obtain ⟨k, hk, rfl, hbl, hS, hno⟩ := hrel
        rename World => w2
        have HBE := Lib.hid hbl
        have HSE := Lib.hid hS
        have HNO := Lib.hid hno
        obtain ⟨A, c, hg, _⟩ := HR.out.below hbl
        have hm1 := hg.cell 1
        have hgl := hg.lt
        have hq0 := hS.cell 0
        simp at hm1 hq0
        clear hbl hS hno hg
        by_cases hkl : k < m
        · obtain ⟨e, he⟩ : ∃ e, (T.getD q [])[k]? = some e := ⟨_, List.getElem?_eq_getElem (by rw [HK.out.ways q HQL.out]; exact hkl)⟩
          have HE := Lib.hid he
          clear he
          go_wp2_with fail
          refine (rat_T gx n m n m L T q k _ HK.out (HR.out.below HBE.out).ref HP.out).mono ?_
          rintro _ w3 ⟨rfl, hb3⟩
          clear hm1 hq0 hgl
          have HS3 := Lib.hid (HSE.out.below hb3 HSE.out.lt)
          have HB3 := Lib.hid (HBE.out.trans (hb3.mono HBE.out.size))
          clear hb3 HBE HSE
          cases hf : e.full
          · rw [at_not HE.out hf]
            have HVK : Hid (victimN (T.getD q []) (fillE va asid lf) pick = k) := Lib.hid (vic_free (HK.out.ways q HQL.out) HNS.out HE.out HNO.out (by unfold freeB; rw [hf]; rfl))
            have hal := (Below.refl w3.heap.size w3).alloc (Nat.le_refl _) (.cells sl0.cs 64)
            have HS4 := Lib.hid (HS3.out.below hal HS3.out.lt)
            have HB4 := Lib.hid (HB3.out.trans (hal.mono HB3.out.size))
            clear hal hf
            have f1 := Blk.frozen HS4.out 1
            have l1 := HS4.out.lt
            have c1 := HS4.out.cell 1
            simp only [List.getElem?_toArray, List.getElem?_cons_zero, List.getElem?_cons_succ] at c1
            have HS5 : Hid (Blk ((w3.alloc (.cells sl0.cs 64)).setCell ⟨sb, 1, none⟩ (.int .i64 (k : Int))) sb 64 #[.int .i64 (q : Int), .int .i64 (k : Int), .int .i64 asid, .int .u64 (pg : Int), .bool lf.v, .bool lf.r, .bool lf.w, .bool lf.x, .bool lf.u, .bool lf.g, .bool lf.a, .bool lf.d, .int .i64 lf.rsw, .int .u64 lf.ppn, .int .i64 lf.lev, .int .u64 lf.pos]) := Lib.hid (HS4.out.set_ 1 _)
            have HB5 : Hid (Below W.heap.size W ((w3.alloc (.cells sl0.cs 64)).setCell ⟨sb, 1, none⟩ (.int .i64 (k : Int)))) := Lib.hid (HB4.out.setCell HSW.out _)
            go_wp2_with (first | ((with_reducible refine wl_store_new 64 (.tmp 17) (.tmp 99) rfl ?_ w3 (World.heap w3).size 64 #[.int .i64 0, .int .i64 0, .int .i64 0, .int .u64 0, .bool false, .bool false, .bool false, .bool false, .bool false, .bool false, .bool false, .bool false, .int .i64 0, .int .u64 0, .int .i64 0, .int .u64 0] sl0.cs ?_ ?_ ?_ ?_ ?_ ?_ ?_ ?_); exact rfl; exact rfl; exact rfl; exact rfl; exact rfl; exact rfl; exact slot_row sl0; exact cs_one sl0) | ((with_reducible refine wl_load 64 (.tmp 12) rfl ?_ sb 0 #[.int .i64 (q : Int), .int .i64 (k : Int), .int .i64 asid, .int .u64 (pg : Int), .bool lf.v, .bool lf.r, .bool lf.w, .bool lf.x, .bool lf.u, .bool lf.g, .bool lf.a, .bool lf.d, .int .i64 lf.rsw, .int .u64 lf.ppn, .int .i64 lf.lev, .int .u64 lf.pos] ?_ HS5.out.range ?_ ?_); exact rfl; exact rfl; exact ex_row))
            rw [show Value.agg #[.int .i64 (q : Int), .int .i64 (k : Int), .int .i64 asid, .int .u64 (pg : Int), .bool lf.v, .bool lf.r, .bool lf.w, .bool lf.x, .bool lf.u, .bool lf.g, .bool lf.a, .bool lf.d, .int .i64 lf.rsw, .int .u64 lf.ppn, .int .i64 lf.lev, .int .u64 lf.pos] = .agg (Sl.cs ⟨q, k, asid, pg, lf⟩) from rfl]
            refine (rput_any gx n m ⟨q, k, asid, pg, lf⟩ G L _ (HK.out.slots HP.out) (HR.out.below HB5.out)).mono ?_
            rintro _ w6 ⟨rfl, hput⟩
            have HPT := Lib.hid (hput.mono HB5.out)
            clear hput
            go_wp2_with fail
            go_ret
            refine ⟨rfl, _, HPT.out, ?_⟩
            rw [HPG.out]
            exact fill_done HK.out HP.out (by rw [HQ.out, HPG.out]) HQL.out HVK.out hkl
          · rw [at_yes HE.out hf]
            obtain ⟨x, hx⟩ : ∃ x : Sl, x = ⟨q, k, e.asid, e.page, e.lf⟩ := ⟨_, rfl⟩
            have HNX := Lib.hid (take_more HE.out HNO.out (show freeB e = false by unfold freeB; rw [hf]; rfl))
            rw [← hx, show ((some x).getD sl0).cs = x.cs from rfl, show (some x).isSome = true from rfl]
            have hal := (Below.refl w3.heap.size w3).alloc (Nat.le_refl _) (.cells x.cs 64)
            have HS4 := Lib.hid (HS3.out.below hal HS3.out.lt)
            have HB4 := Lib.hid (HB3.out.trans (hal.mono HB3.out.size))
            clear hal hf hx HB3 HS3
            go_wp2_with (first | ((with_reducible refine wl_store_new 64 (.tmp 17) (.tmp 99) rfl ?_ w3 (World.heap w3).size 64 #[.int .i64 0, .int .i64 0, .int .i64 0, .int .u64 0, .bool false, .bool false, .bool false, .bool false, .bool false, .bool false, .bool false, .bool false, .int .i64 0, .int .u64 0, .int .i64 0, .int .u64 0] x.cs ?_ ?_ ?_ ?_ ?_ ?_ ?_ ?_); exact rfl; exact rfl; exact rfl; exact rfl; exact rfl; exact rfl; exact slot_row x; exact cs_one x))
            go_roundw
            case rel => exact ⟨k + 1, hkl, by go_num, HB4.out, HS4.out, HNX.out⟩
            case measure => simp [intOf]; omega
        · obtain rfl : m = k := by omega
          obtain ⟨v, hvv⟩ : ∃ v, v = (absP pick).toNat % m := ⟨_, rfl⟩
          have hvl : v < m := by rw [hvv]; exact Nat.mod_lt _ HM0.out
          have hpm := pick_mod pick m HM0.out
          rw [← hvv] at hpm
          have HVK : Hid (victimN (T.getD q []) (fillE va asid lf) pick = v) := Lib.hid (by rw [vic_pick (HK.out.ways q HQL.out) HNS.out HNO.out, ← hvv])
          have HVL := Lib.hid hvl
          have hz : ¬ (m = 0) := by have := HM0.out; omega
          have p1 := HPK.out.1
          have p2 := HPK.out.2
          have f1 := Blk.frozen HSE.out 1
          have l1 := HSE.out.lt
          have c1 := HSE.out.cell 1
          simp only [List.getElem?_toArray, List.getElem?_cons_zero, List.getElem?_cons_succ] at c1
          have HS5 : Hid (Blk (w2.setCell ⟨sb, 1, none⟩ (.int .i64 (v : Int))) sb 64 #[.int .i64 (q : Int), .int .i64 (v : Int), .int .i64 asid, .int .u64 (pg : Int), .bool lf.v, .bool lf.r, .bool lf.w, .bool lf.x, .bool lf.u, .bool lf.g, .bool lf.a, .bool lf.d, .int .i64 lf.rsw, .int .u64 lf.ppn, .int .i64 lf.lev, .int .u64 lf.pos]) := Lib.hid (HSE.out.set_ 1 _)
          have HB5 : Hid (Below W.heap.size W (w2.setCell ⟨sb, 1, none⟩ (.int .i64 (v : Int)))) := Lib.hid (HBE.out.setCell HSW.out _)
          clear hvv hvl hq0
          by_cases hp : pick < 0
          · have ha : absP pick = -1 - pick := by unfold absP; rw [if_pos hp]
            rw [ha] at hpm
            have hpm2 : (-1 - pick) % (m : Int) = (v : Int) := by rw [← hpm, Int.tmod_eq_emod_of_nonneg (by omega)]
            clear ha
            go_wp2_with (first | ((with_reducible refine wl_load 64 (.tmp 12) rfl ?_ sb 0 #[.int .i64 (q : Int), .int .i64 (v : Int), .int .i64 asid, .int .u64 (pg : Int), .bool lf.v, .bool lf.r, .bool lf.w, .bool lf.x, .bool lf.u, .bool lf.g, .bool lf.a, .bool lf.d, .int .i64 lf.rsw, .int .u64 lf.ppn, .int .i64 lf.lev, .int .u64 lf.pos] ?_ HS5.out.range ?_ ?_); exact rfl; exact rfl; exact ex_row))
            rw [show Value.agg #[.int .i64 (q : Int), .int .i64 (v : Int), .int .i64 asid, .int .u64 (pg : Int), .bool lf.v, .bool lf.r, .bool lf.w, .bool lf.x, .bool lf.u, .bool lf.g, .bool lf.a, .bool lf.d, .int .i64 lf.rsw, .int .u64 lf.ppn, .int .i64 lf.lev, .int .u64 lf.pos] = .agg (Sl.cs ⟨q, v, asid, pg, lf⟩) from rfl]
            refine (rput_any gx n m ⟨q, v, asid, pg, lf⟩ G L _ (HK.out.slots HP.out) (HR.out.below HB5.out)).mono ?_
            rintro _ w6 ⟨rfl, hput⟩
            have HPT := Lib.hid (hput.mono HB5.out)
            clear hput
            go_wp2_with fail
            go_ret
            refine ⟨rfl, _, HPT.out, ?_⟩
            rw [HPG.out]
            exact fill_done HK.out HP.out (by rw [HQ.out, HPG.out]) HQL.out HVK.out HVL.out
          · have ha : absP pick = pick := by unfold absP; rw [if_neg hp]
            rw [ha] at hpm
            have hpm2 : pick % (m : Int) = (v : Int) := by rw [← hpm, Int.tmod_eq_emod_of_nonneg (by omega)]
            clear ha
            go_wp2_with (first | ((with_reducible refine wl_load 64 (.tmp 12) rfl ?_ sb 0 #[.int .i64 (q : Int), .int .i64 (v : Int), .int .i64 asid, .int .u64 (pg : Int), .bool lf.v, .bool lf.r, .bool lf.w, .bool lf.x, .bool lf.u, .bool lf.g, .bool lf.a, .bool lf.d, .int .i64 lf.rsw, .int .u64 lf.ppn, .int .i64 lf.lev, .int .u64 lf.pos] ?_ HS5.out.range ?_ ?_); exact rfl; exact rfl; exact ex_row))
            rw [show Value.agg #[.int .i64 (q : Int), .int .i64 (v : Int), .int .i64 asid, .int .u64 (pg : Int), .bool lf.v, .bool lf.r, .bool lf.w, .bool lf.x, .bool lf.u, .bool lf.g, .bool lf.a, .bool lf.d, .int .i64 lf.rsw, .int .u64 lf.ppn, .int .i64 lf.lev, .int .u64 lf.pos] = .agg (Sl.cs ⟨q, v, asid, pg, lf⟩) from rfl]
            refine (rput_any gx n m ⟨q, v, asid, pg, lf⟩ G L _ (HK.out.slots HP.out) (HR.out.below HB5.out)).mono ?_
            rintro _ w6 ⟨rfl, hput⟩
            have HPT := Lib.hid (hput.mono HB5.out)
            clear hput
            go_wp2_with fail
            go_ret
            refine ⟨rfl, _, HPT.out, ?_⟩
            rw [HPG.out]
            exact fill_done HK.out HP.out (by rw [HQ.out, HPG.out]) HQL.out HVK.out HVL.out
end Go.Proofs.Ytnjoobggcejgkaa
