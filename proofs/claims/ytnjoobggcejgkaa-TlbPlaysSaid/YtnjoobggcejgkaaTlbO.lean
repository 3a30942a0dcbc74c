/- The reference's buffer with its rows; Find. -/
import Derived.Test.YtnjoobggcejgkaaTlbN
import Derived.Test.YtnjoobggcejgkaaTlbPc
import Derived.Test.YtnjoobggcejgkaaPlanT
namespace Go.Proofs.Ytnjoobggcejgkaa
open Go.RowKit

/-- A buffer of so many sets and ways. -/
structure TOk (T : List (List En)) (n m : Nat) : Prop where
  len : T.length = n
  n0 : 0 < n
  n64 : n ≤ 64
  m0 : 0 < m
  m8 : m ≤ 8
  ways : ∀ i, i < n → (T.getD i []).length = m
  val : Valid T
theorem TOk.slots {T : List (List En)} {n m : Nat} (h : TOk T n m) {L : List Sl} (hp : L.Perm (listT 0 T)) : L.length ≤ 512 := by
  rw [hp.length_eq]
  have h1 := listT_le m T 0 (fun s hs => by
    obtain ⟨i, hi, rfl⟩ := List.mem_iff_getElem.1 hs
    have := h.ways i (by rw [← h.len]; exact hi)
    rw [List.getD_eq_getElem?_getD, List.getElem?_eq_getElem hi] at this
    exact this)
  have h2 : T.length * m ≤ 64 * 8 := Nat.mul_le_mul (by rw [h.len]; exact h.n64) h.m8
  omega
theorem TOk.lev {T : List (List En)} {n m : Nat} (h : TOk T n m) {i k : Nat} {e : En} (hi : i < n) (he : (T.getD i [])[k]? = some e) (hf : e.full = true) : levOK e.lf.lev = true := by
  have hmem : (T.getD i []) ∈ T := by rw [List.getD_eq_getElem?_getD, List.getElem?_eq_getElem (by rw [h.len]; exact hi)]; exact List.getElem_mem _
  exact h.val _ hmem e (List.mem_of_getElem? he) hf
/-- The reference's buffer, its blocks all in G. -/
def RefG (w : World) (gx : Nat) (G : Nat → Prop) (n m : Int) (L : List Sl) : Prop :=
  ∃ A c, Blk w gx 43 #[.int .i64 n, .int .i64 m, .slice A L.length c] ∧ RdS w (.slice A L.length c) L ∧ G gx ∧ (∀ a, A = some a → G a.block) ∧ ∀ b, G b → b < w.heap.size
section
variable {w w' : World} {gx : Nat} {G F : Nat → Prop} {n m : Int} {L : List Sl}
theorem RefG.ref (h : RefG w gx G n m L) : RefAt w gx n m L := by
  obtain ⟨A, c, h1, h2, _⟩ := h
  exact ⟨_, h1, h2⟩
theorem RdS.keeps {v : Value} (h : RdS w v L) (k : Keeps F w w') (hd : ∀ a l c, v = .slice (some a) l c → ¬ F a.block) : RdS w' v L := by
  obtain ⟨A, c, e, h⟩ := h
  refine ⟨A, c, e, fun hne => ?_⟩
  obtain ⟨b, hA, hc⟩ := h hne
  refine ⟨b, hA, fun i x hx j hj => ?_⟩
  have h1 := hc i x hx j hj
  have h2 : x.vs[j]? = some (x.vs[j]'hj) := List.getElem?_eq_getElem hj
  rw [h2] at h1 ⊢
  have h3 := k.block b (cell_lt h1) (hd ⟨b, 0, none⟩ _ _ (by rw [e, hA]))
  simp only [World.cell?] at h1 ⊢
  rw [h3]
  exact h1
theorem RefG.keeps (h : RefG w gx G n m L) (k : Keeps F w w') (hd : ∀ g, G g → ¬ F g) : RefG w' gx G n m L := by
  obtain ⟨A, c, h1, h2, h3, h4, h5⟩ := h
  exact ⟨A, c, k.blk h1 (hd _ h3), h2.keeps k (fun a l c e => by injection e with e1; exact hd _ (h4 a e1)), h3, h4, fun g hg => Nat.lt_of_lt_of_le (h5 g hg) k.size⟩
theorem RefG.below (h : RefG w gx G n m L) (hb : Below w.heap.size w w') : RefG w' gx G n m L := h.keeps (F := fun _ => False) (Keeps.of_below hb) (fun _ _ h => h)
theorem RefG.lt (h : RefG w gx G n m L) : ∀ b, G b → b < w.heap.size := by
  obtain ⟨_, _, _, _, _, _, h⟩ := h
  exact h
theorem RefG.at0 (h : RefG w gx G n m L) : G gx := by
  obtain ⟨_, _, _, _, h, _⟩ := h
  exact h
end
theorem rat_T (gx n m : Nat) (nn mm : Int) (L : List Sl) (T : List (List En)) (s y : Nat) (W : World) (hK : TOk T n m) (hR : RefAt W gx nn mm L) (hP : L.Perm (listT 0 T)) :
    Calls Try.prog 24 #[.pointer (some ⟨gx, 0, none⟩), .int .i64 (s : Int), .int .i64 (y : Int)] W fun e w' =>
      e = .returned (.tuple #[.agg ((atT T s y).getD sl0).cs, .bool (atT T s y).isSome]) ∧ Below W.heap.size W w' :=
  (at_any gx nn mm L s y W (by have := hK.slots hP; omega) hR).mono fun e w' ⟨h1, h2⟩ => ⟨by rw [h1, at_perm hP]; rfl, h2⟩
theorem at_yes {T : List (List En)} {q k : Nat} {e : En} (he : (T.getD q [])[k]? = some e) (hf : e.full = true) : atT T q k = some ⟨q, k, e.asid, e.page, e.lf⟩ := by
  unfold atT
  rw [he]
  simp [entSl, hf]
theorem at_not {T : List (List En)} {q k : Nat} {e : En} (he : (T.getD q [])[k]? = some e) (hf : e.full = false) : atT T q k = none := by
  unfold atT
  rw [he]
  simp [entSl, hf]
theorem set_eq (p n : Nat) (h : 0 < n) (h2 : n ≤ 64) : IntKind.i64.wrap ((p : Int).tmod (n : Int)) = ((p % n : Nat) : Int) := by
  rw [Int.tmod_eq_emod_of_nonneg (by omega), ← Int.natCast_emod]
  have := Nat.mod_lt p h
  exact IntWalk.i64_in _ (by omega)
theorem slot_at (x : Sl) : x.cs[2]? = some (.int .i64 x.asid) ∧ x.cs[3]? = some (.int .u64 (x.page : Int)) ∧ x.cs[9]? = some (.bool x.lf.g) ∧ x.cs[14]? = some (.int .i64 x.lf.lev) := ⟨rfl, rfl, rfl, rfl⟩
theorem slot_leaf {w : World} {b : Nat} {x : Sl} (h : Blk w b 64 x.cs) : w.rangeAt b 4 x.lf.cs.toList := World.rangeAt_of_block h 4 12
set_option maxRecDepth 100000 in
set_option maxHeartbeats 4000000 in
theorem rfind_any (gx n m va : Nat) (asid : Int) (G : Nat → Prop) (L : List Sl) (T : List (List En)) (W : World) (hv : va < 18446744073709551616) (hK : TOk T n m) (hR : RefG W gx G n m L) (hP : L.Perm (listT 0 T)) :
    Calls Try.prog 15 #[.pointer (some ⟨gx, 0, none⟩), .int .u64 (va : Int), .int .i64 asid] W (FindR (findS T va asid) W) := by
  have HV := Lib.hid hv
  have HK := Lib.hid hK
  have HR := Lib.hid hR
  have HP := Lib.hid hP
  have hc := (Below.refl W.heap.size W).alloc (Nat.le_refl _) (.cells #[.bool false, .bool false, .bool false, .bool false, .bool false, .bool false, .bool false, .bool false, .int .i64 0, .int .u64 0, .int .i64 0, .int .u64 0] 33)
  have hX : Blk (W.alloc (.cells #[.bool false, .bool false, .bool false, .bool false, .bool false, .bool false, .bool false, .bool false, .int .i64 0, .int .u64 0, .int .i64 0, .int .u64 0] 33)) W.heap.size 33 #[.bool false, .bool false, .bool false, .bool false, .bool false, .bool false, .bool false, .bool false, .int .i64 0, .int .u64 0, .int .i64 0, .int .u64 0] := Blkf.new_at _ _ _ _ rfl
  have HC0 := Lib.hid hc
  have HX0 := Lib.hid hX
  have HN := Lib.hid hK.n0
  have HM := Lib.hid hK.m8
  have HNB := Lib.hid hK.n64
  clear hv hK hR hP hc hX
  go_enter Try.func15, Try.ntmps15
  go_wp2_with fail
  generalize W.alloc (.cells #[.bool false, .bool false, .bool false, .bool false, .bool false, .bool false, .bool false, .bool false, .int .i64 0, .int .u64 0, .int .i64 0, .int .u64 0] 33) = W0 at *
  go_loopw [8] (fun i wr => ∃ l : Nat, l ≤ 3 ∧ i = .int .i64 l ∧ Below W.heap.size W wr ∧ Blk wr W.heap.size 33 #[.bool false, .bool false, .bool false, .bool false, .bool false, .bool false, .bool false, .bool false, .int .i64 0, .int .u64 0, .int .i64 0, .int .u64 0] ∧ ∀ l' : Nat, l' < l → wayFind (T.getD (pgN va l' % n) []) l' va asid = none) (fun i _ => 3 - (intOf i).toNat)
  case atStart => exact ⟨0, by omega, rfl, HC0.out, HX0.out, fun l hl => absurd hl (by omega)⟩
  clear HC0 HX0
  case round =>
    obtain ⟨l, hl, rfl, hbl, hX, hN⟩ := hrel
    have HB1 := Lib.hid hbl
    have HX1 := Lib.hid hX
    have HN1 := Lib.hid hN
    clear hbl hX hN
    by_cases hl3 : l < 3
    · have HLO : Hid (levOK (l : Int) = true) := Lib.hid (by unfold levOK; rw [decide_eq_true (by omega), decide_eq_true (by omega)]; rfl)
      have hR1 := HR.out.below HB1.out
      obtain ⟨A, c, hg, _⟩ := id hR1
      have HG0 := Lib.hid hg
      have hs0 : ∀ W', Ext wr.drew W' → W'.cell? ⟨gx, 0, none⟩ = some (.int .i64 (n : Int)) := fun W' h => (h.cell HG0.out.drew.lt).trans (HG0.out.cell 0)
      have hs0' : ∀ W' w1, Below wr.drew.heap.size wr.drew w1 → Ext w1 W' → W'.cell? ⟨gx, 0, none⟩ = some (.int .i64 (n : Int)) := fun W' w1 hb h => hs0 W' (hb.trans (h.mono hb.size))
      clear hg hR1
      have hz : ¬ (n = 0) := by have := HN.out; omega
      have hwn : IntKind.u64.wrap (n : Int) = (n : Int) := IntWalk.u64_in _ (by have := HNB.out; omega)
      go_wp2_with fail
      refine wp_region_plan [(0, false), (1, false), (3, false), (4, false), (5, false), (6, false), (7, false), (2, true), (8, false), (9, false), (10, false)] (by kernel_rfl) (by kernel_rfl) (fun _ d _ _ _ h => by cases d <;> exact h) ?_
      iterate 7 (refine plan_take (v := ?_) rfl (by kernel_rfl) ?_ ?_; rotate_left; (focus (intro w' hw'; try go_simp; try with_reducible rfl)); simp only [Act.put, List.setIfInBounds_toArray, List.set_cons_zero, List.set_cons_succ])
      refine plan_call rfl (by kernel_rfl) (by go_simp; exact ⟨rfl, rfl⟩) ?_
      refine (rpage_any va (l : Int) _ HV.out HLO.out).mono ?_
      rintro e w1 ⟨rfl, hb1⟩
      have hs1 := fun W' h => hs0' W' w1 hb1 h
      refine ⟨_, rfl, hb1, ?_⟩
      simp only [Act.put, List.setIfInBounds_toArray, List.set_cons_zero, List.set_cons_succ]
      iterate 3 (refine plan_take (v := ?_) rfl (by kernel_rfl) ?_ ?_; rotate_left; (focus (intro w' hw'; try go_simp; try with_reducible rfl)); simp only [Act.put, List.setIfInBounds_toArray, List.set_cons_zero, List.set_cons_succ])
      refine plan_end ?_
      clear hs0 hs0' hs1 hz hwn
      rw [set_eq (pgN va l) n HN.out HNB.out, show ((pgN va l : Nat) : Int).tmod (n : Int) = ((pgN va l : Nat) : Int) % (n : Int) from Int.tmod_eq_emod_of_nonneg (by omega), show decide ((l : Int) < 3) = true from decide_eq_true (by omega)]
      obtain ⟨q, hq⟩ : ∃ q, q = pgN va l % n := ⟨_, rfl⟩
      have HQL : Hid (q < n) := Lib.hid (by rw [hq]; exact Nat.mod_lt _ HN.out)
      rw [← hq]
      have HQ := Lib.hid hq
      have HX2 := Lib.hid (HX1.out.drew.below hb1 HX1.out.drew.lt)
      have HB2 := Lib.hid (HB1.out.drew.trans (hb1.mono HB1.out.drew.size))
      clear hq hb1 HX1 HB1 HG0
      go_wp2_with fail
      go_loopw [10] (fun i wr => ∃ k : Nat, k ≤ m ∧ i = .int .i64 k ∧ Below W.heap.size W wr ∧ Blk wr W.heap.size 33 #[.bool false, .bool false, .bool false, .bool false, .bool false, .bool false, .bool false, .bool false, .int .i64 0, .int .u64 0, .int .i64 0, .int .u64 0] ∧ ∀ y ∈ (T.getD q []).take k, hitB l va asid y = false) (fun i _ => m - (intOf i).toNat)
      case atStart => exact ⟨0, by omega, rfl, HB2.out, HX2.out, fun y hy => by simp at hy⟩
      clear HX2 HB2
      case round =>
        obtain ⟨k, hk, rfl, hbl, hX, hno⟩ := hrel
        rename World => w2
        have HBE := Lib.hid hbl
        have HXE := Lib.hid hX
        have HNO := Lib.hid hno
        clear hbl hX hno
        obtain ⟨A, c, hg, _⟩ := HR.out.below HBE.out
        have hm1 := hg.cell 1
        simp at hm1
        clear hg
        by_cases hkl : k < m
        · obtain ⟨e, he⟩ : ∃ e, (T.getD q [])[k]? = some e := ⟨_, List.getElem?_eq_getElem (by rw [HK.out.ways q HQL.out]; exact hkl)⟩
          have HE := Lib.hid he
          clear he
          go_wp2_with fail
          refine (rat_T gx n m n m L T q k _ HK.out (HR.out.below HBE.out).ref HP.out).mono ?_
          rintro _ w3 ⟨rfl, hb3⟩
          clear hm1
          have HX3 := Lib.hid (HXE.out.below hb3 HXE.out.lt)
          have HB3 := Lib.hid (HBE.out.trans (hb3.mono HBE.out.size))
          clear hb3 HBE HXE
          cases hf : e.full
          · rw [at_not HE.out hf]
            have HNX := Lib.hid (take_more HE.out HNO.out (show hitB l va asid e = false by unfold hitB matchB hasB; rw [hf]; simp))
            have hal := (Below.refl w3.heap.size w3).alloc (Nat.le_refl _) (.cells sl0.cs 64)
            have HX4 := Lib.hid (HX3.out.below hal HX3.out.lt)
            have HB4 := Lib.hid (HB3.out.trans (hal.mono HB3.out.size))
            clear hal hf
            go_wp2_with (first | ((with_reducible refine wl_store_new 64 (.tmp 11) (.tmp 40) rfl ?_ w3 (World.heap w3).size 64 #[.int .i64 0, .int .i64 0, .int .i64 0, .int .u64 0, .bool false, .bool false, .bool false, .bool false, .bool false, .bool false, .bool false, .bool false, .int .i64 0, .int .u64 0, .int .i64 0, .int .u64 0] sl0.cs ?_ ?_ ?_ ?_ ?_ ?_ ?_ ?_); exact rfl; exact rfl; exact rfl; exact rfl; exact rfl; exact rfl; exact slot_row sl0; exact cs_one sl0))
            generalize w3.alloc (.cells sl0.cs 64) = w4 at *
            refine wp_region_plan [(0, false), (1, false), (2, false), (3, false), (4, false), (5, false), (6, false), (7, false), (8, false), (9, false), (10, false), (11, false), (12, false), (13, false), (14, false), (15, false), (16, false), (17, false), (18, false), (19, false), (20, false), (21, false), (22, false), (23, false), (24, false), (25, false), (26, false), (27, false)] (by kernel_rfl) (by kernel_rfl) (fun _ d _ _ _ h => by cases d <;> exact h) ?_
            iterate 2 (refine plan_take (v := ?_) rfl (by kernel_rfl) ?_ ?_; rotate_left; (focus (intro w' hw'; try go_simp; try with_reducible rfl)); simp only [Act.put, List.setIfInBounds_toArray, List.set_cons_zero, List.set_cons_succ])
            iterate 5 (refine plan_skip rfl (by kernel_rfl) ?_; simp only [Act.put, List.setIfInBounds_toArray, List.set_cons_zero, List.set_cons_succ])
            iterate 2 (refine plan_take (v := ?_) rfl (by kernel_rfl) ?_ ?_; rotate_left; (focus (intro w' hw'; try go_simp; try with_reducible rfl)); simp only [Act.put, List.setIfInBounds_toArray, List.set_cons_zero, List.set_cons_succ])
            iterate 6 (refine plan_skip rfl (by kernel_rfl) ?_; simp only [Act.put, List.setIfInBounds_toArray, List.set_cons_zero, List.set_cons_succ])
            iterate 2 (refine plan_take (v := ?_) rfl (by kernel_rfl) ?_ ?_; rotate_left; (focus (intro w' hw'; try go_simp; try with_reducible rfl)); simp only [Act.put, List.setIfInBounds_toArray, List.set_cons_zero, List.set_cons_succ])
            iterate 10 (refine plan_skip rfl (by kernel_rfl) ?_; simp only [Act.put, List.setIfInBounds_toArray, List.set_cons_zero, List.set_cons_succ])
            iterate 1 (refine plan_take (v := ?_) rfl (by kernel_rfl) ?_ ?_; rotate_left; (focus (intro w' hw'; try go_simp; try with_reducible rfl)); simp only [Act.put, List.setIfInBounds_toArray, List.set_cons_zero, List.set_cons_succ])
            refine plan_end ?_
            go_wp2_with fail
            have hw1 : wrap64 ((k : Int) + 1) = (k : Int) + 1 := IntWalk.wrap64_in _ (by have := HM.out; omega)
            rw [hw1]
            go_roundw
            case rel => exact ⟨k + 1, hkl, rfl, HB4.out.drew, HX4.out.drew, HNX.out⟩
            case measure => show m - ((k : Int) + 1).toNat < m - (k : Int).toNat; omega
          · rw [at_yes HE.out hf]
            obtain ⟨x, hx⟩ : ∃ x : Sl, x = ⟨q, k, e.asid, e.page, e.lf⟩ := ⟨_, rfl⟩
            have hxa : x.asid = e.asid := by rw [hx]
            have hxp : x.page = e.page := by rw [hx]
            have hxl : x.lf = e.lf := by rw [hx]
            have HLV : Hid (levOK e.lf.lev = true) := Lib.hid (HK.out.lev HQL.out HE.out hf)
            rw [← hx, show ((some x).getD sl0).cs = x.cs from rfl, show (some x).isSome = true from rfl]
            have hal := (Below.refl w3.heap.size w3).alloc (Nat.le_refl _) (.cells x.cs 64)
            have HX4 := Lib.hid (HX3.out.below hal HX3.out.lt)
            have HB4 := Lib.hid (HB3.out.trans (hal.mono HB3.out.size))
            have HL4 := Lib.hid (Blkf.new_at w3 64 (0, 0) x.cs rfl)
            have HHB : Hid (hitB l va asid e = ((x.lf.lev == (l : Int)) && ((x.page == pgN va e.lf.lev) && (x.asid == asid || x.lf.g)))) := Lib.hid (by unfold hitB matchB hasB; rw [hf, hxa, hxp, hxl]; rfl)
            have HXL := Lib.hid hxl
            clear hal hf hx hxa hxp hxl HX3 HB3
            have hv2 : ∀ W', Ext (w3.alloc (.cells x.cs 64)).drew W' → W'.cell? ⟨w3.heap.size, 2, none⟩ = some (.int .i64 x.asid) := fun W' h => (h.cell HL4.out.drew.lt).trans (HL4.out.cell 2)
            have hv3 : ∀ W', Ext (w3.alloc (.cells x.cs 64)).drew W' → W'.cell? ⟨w3.heap.size, 3, none⟩ = some (.int .u64 (x.page : Int)) := fun W' h => (h.cell HL4.out.drew.lt).trans (HL4.out.cell 3)
            have hv9 : ∀ W', Ext (w3.alloc (.cells x.cs 64)).drew W' → W'.cell? ⟨w3.heap.size, 9, none⟩ = some (.bool x.lf.g) := fun W' h => (h.cell HL4.out.drew.lt).trans (HL4.out.cell 9)
            have hv14 : ∀ W', Ext (w3.alloc (.cells x.cs 64)).drew W' → W'.cell? ⟨w3.heap.size, 14, none⟩ = some (.int .i64 x.lf.lev) := fun W' h => (h.cell HL4.out.drew.lt).trans (HL4.out.cell 14)
            cases h1 : (x.lf.lev == (l : Int))
            · have HNX := Lib.hid (take_more HE.out HNO.out (show hitB l va asid e = false by rw [HHB.out, h1]; rfl))
              clear HHB
              go_wp2_with (first | ((with_reducible refine wl_store_new 64 (.tmp 11) (.tmp 40) rfl ?_ w3 (World.heap w3).size 64 #[.int .i64 0, .int .i64 0, .int .i64 0, .int .u64 0, .bool false, .bool false, .bool false, .bool false, .bool false, .bool false, .bool false, .bool false, .int .i64 0, .int .u64 0, .int .i64 0, .int .u64 0] x.cs ?_ ?_ ?_ ?_ ?_ ?_ ?_ ?_); exact rfl; exact rfl; exact rfl; exact rfl; exact rfl; exact rfl; exact slot_row x; exact cs_one x))
              refine wp_region_plan [(0, false), (1, false), (2, false), (3, false), (4, false), (5, false), (6, false), (7, false), (8, false), (9, false), (10, false), (11, false), (12, false), (13, false), (14, false), (15, false), (16, false), (17, false), (18, false), (19, false), (20, false), (21, false), (22, false), (23, false), (24, false), (25, false), (26, false), (27, false)] (by kernel_rfl) (by kernel_rfl) (fun _ d _ _ _ h => by cases d <;> exact h) ?_
              iterate 9 (refine plan_take (v := ?_) rfl (by kernel_rfl) ?_ ?_; rotate_left; (focus (intro w' hw'; try go_simp; try with_reducible rfl)); simp only [Act.put, List.setIfInBounds_toArray, List.set_cons_zero, List.set_cons_succ])
              iterate 6 (refine plan_skip rfl (by kernel_rfl) ?_; simp only [Act.put, List.setIfInBounds_toArray, List.set_cons_zero, List.set_cons_succ])
              iterate 2 (refine plan_take (v := ?_) rfl (by kernel_rfl) ?_ ?_; rotate_left; (focus (intro w' hw'; try go_simp; try with_reducible rfl)); simp only [Act.put, List.setIfInBounds_toArray, List.set_cons_zero, List.set_cons_succ])
              iterate 10 (refine plan_skip rfl (by kernel_rfl) ?_; simp only [Act.put, List.setIfInBounds_toArray, List.set_cons_zero, List.set_cons_succ])
              iterate 1 (refine plan_take (v := ?_) rfl (by kernel_rfl) ?_ ?_; rotate_left; (focus (intro w' hw'; try go_simp; try with_reducible rfl)); simp only [Act.put, List.setIfInBounds_toArray, List.set_cons_zero, List.set_cons_succ])
              refine plan_end ?_
              clear hv2 hv3 hv9 hv14 h1
              go_wp2_with fail
              have hw1 : wrap64 ((k : Int) + 1) = (k : Int) + 1 := IntWalk.wrap64_in _ (by have := HM.out; omega)
              rw [hw1]
              go_roundw
              case rel => exact ⟨k + 1, hkl, rfl, HB4.out.drew, HX4.out.drew, HNX.out⟩
              case measure => show m - ((k : Int) + 1).toNat < m - (k : Int).toNat; omega
            · have hle : x.lf.lev = (l : Int) := by simpa using h1
              have HPN : Hid (pgN va e.lf.lev = pgN va l) := Lib.hid (by rw [← HXL.out, hle])
              have HLO2 : Hid (levOK (l : Int) = true) := Lib.hid (by rw [← hle, HXL.out]; exact HLV.out)
              clear hle
              go_wp2_with (first | ((with_reducible refine wl_store_new 64 (.tmp 11) (.tmp 40) rfl ?_ w3 (World.heap w3).size 64 #[.int .i64 0, .int .i64 0, .int .i64 0, .int .u64 0, .bool false, .bool false, .bool false, .bool false, .bool false, .bool false, .bool false, .bool false, .int .i64 0, .int .u64 0, .int .i64 0, .int .u64 0] x.cs ?_ ?_ ?_ ?_ ?_ ?_ ?_ ?_); exact rfl; exact rfl; exact rfl; exact rfl; exact rfl; exact rfl; exact slot_row x; exact cs_one x))
              refine wp_region_plan [(0, false), (1, false), (2, false), (3, false), (4, false), (5, false), (6, false), (7, false), (8, false), (9, false), (10, false), (11, false), (12, false), (13, true), (14, false), (15, false), (16, false), (17, false), (18, false), (19, false), (20, false), (21, false), (22, false), (23, false), (24, false), (25, false), (26, false), (27, false)] (by kernel_rfl) (by kernel_rfl) (fun _ d _ _ _ h => by cases d <;> exact h) ?_
              iterate 13 (refine plan_take (v := ?_) rfl (by kernel_rfl) ?_ ?_; rotate_left; (focus (intro w' hw'; try go_simp; try with_reducible rfl)); simp only [Act.put, List.setIfInBounds_toArray, List.set_cons_zero, List.set_cons_succ])
              refine plan_call rfl (by kernel_rfl) (by go_simp; exact ⟨rfl, rfl⟩) ?_
              refine (rpage_any va (l : Int) _ HV.out HLO2.out).mono ?_
              rintro _ w5 ⟨rfl, hb5⟩
              have HX5 := Lib.hid (HX4.out.drew.below hb5 HX4.out.drew.lt)
              have HB5 := Lib.hid (HB4.out.drew.trans (hb5.mono HB4.out.drew.size))
              have HL5 := Lib.hid (HL4.out.drew.below hb5 HL4.out.drew.lt)
              clear hv2 hv3 hv9 hv14 HX4 HB4 HL4
              have hv2 : ∀ W', Ext w5 W' → W'.cell? ⟨w3.heap.size, 2, none⟩ = some (.int .i64 x.asid) := fun W' h => (h.cell HL5.out.lt).trans (HL5.out.cell 2)
              have hv3 : ∀ W', Ext w5 W' → W'.cell? ⟨w3.heap.size, 3, none⟩ = some (.int .u64 (x.page : Int)) := fun W' h => (h.cell HL5.out.lt).trans (HL5.out.cell 3)
              refine ⟨_, rfl, hb5, ?_⟩
              simp only [Act.put, List.setIfInBounds_toArray, List.set_cons_zero, List.set_cons_succ]
              cases h2 : (((x.page : Nat) : Int) == ((pgN va l : Nat) : Int))
              · have HNX := Lib.hid (take_more HE.out HNO.out (show hitB l va asid e = false by rw [HHB.out, h1, HPN.out, ← nat_beq, h2]; rfl))
                iterate 3 (refine plan_take (v := ?_) rfl (by kernel_rfl) ?_ ?_; rotate_left; (focus (intro w' hw'; try go_simp; try with_reducible rfl)); simp only [Act.put, List.setIfInBounds_toArray, List.set_cons_zero, List.set_cons_succ])
                iterate 10 (refine plan_skip rfl (by kernel_rfl) ?_; simp only [Act.put, List.setIfInBounds_toArray, List.set_cons_zero, List.set_cons_succ])
                iterate 1 (refine plan_take (v := ?_) rfl (by kernel_rfl) ?_ ?_; rotate_left; (focus (intro w' hw'; try go_simp; try with_reducible rfl)); simp only [Act.put, List.setIfInBounds_toArray, List.set_cons_zero, List.set_cons_succ])
                refine plan_end ?_
                clear hv2 hv3 h1 h2 HHB
                go_wp2_with fail
                have hw1 : wrap64 ((k : Int) + 1) = (k : Int) + 1 := IntWalk.wrap64_in _ (by have := HM.out; omega)
                rw [hw1]
                go_roundw
                case rel => exact ⟨k + 1, hkl, rfl, HB5.out, HX5.out, HNX.out⟩
                case measure => show m - ((k : Int) + 1).toNat < m - (k : Int).toNat; omega
              · cases h3 : (x.asid == asid)
                · cases h4 : x.lf.g
                  · have HNX := Lib.hid (take_more HE.out HNO.out (show hitB l va asid e = false by rw [HHB.out, h1, HPN.out, ← nat_beq, h2, h3, h4]; rfl))
                    have hv9 : ∀ W', Ext w5 W' → W'.cell? ⟨w3.heap.size, 9, none⟩ = some (.bool false) := fun W' h => by rw [← h4]; exact (h.cell HL5.out.lt).trans (HL5.out.cell 9)
                    iterate 14 (refine plan_take (v := ?_) rfl (by kernel_rfl) ?_ ?_; rotate_left; (focus (intro w' hw'; try go_simp; try with_reducible rfl)); simp only [Act.put, List.setIfInBounds_toArray, List.set_cons_zero, List.set_cons_succ])
                    refine plan_end ?_
                    clear hv2 hv3 hv9 h1 h2 h3 HHB
                    go_wp2_with fail
                    have hw1 : wrap64 ((k : Int) + 1) = (k : Int) + 1 := IntWalk.wrap64_in _ (by have := HM.out; omega)
                    rw [hw1]
                    go_roundw
                    case rel => exact ⟨k + 1, hkl, rfl, HB5.out, HX5.out, HNX.out⟩
                    case measure => show m - ((k : Int) + 1).toNat < m - (k : Int).toNat; omega
                  · have HHT : Hid (hitB l va asid e = true) := Lib.hid (by rw [HHB.out, h1, HPN.out, ← nat_beq, h2, h3, h4]; rfl)
                    have hv9 : ∀ W', Ext w5 W' → W'.cell? ⟨w3.heap.size, 9, none⟩ = some (.bool true) := fun W' h => by rw [← h4]; exact (h.cell HL5.out.lt).trans (HL5.out.cell 9)
                    iterate 14 (refine plan_take (v := ?_) rfl (by kernel_rfl) ?_ ?_; rotate_left; (focus (intro w' hw'; try go_simp; try with_reducible rfl)); simp only [Act.put, List.setIfInBounds_toArray, List.set_cons_zero, List.set_cons_succ])
                    refine plan_end ?_
                    clear hv2 hv3 hv9 h1 h2 h3 HHB h4
                    go_wp2_with (first | ((with_reducible refine wl_load 33 (.tmp 70) rfl ?_ w3.heap.size 4 x.lf.cs ?_ (slot_leaf HL5.out) ?_ ?_); exact rfl; exact rfl; exact leaf_row x.lf) | ((with_reducible refine wl_store 33 (.tmp 6) (.tmp 71) rfl ?_ W.heap.size 33 #[.bool false, .bool false, .bool false, .bool false, .bool false, .bool false, .bool false, .bool false, .int .i64 0, .int .u64 0, .int .i64 0, .int .u64 0] x.lf.cs ?_ ?_ HX5.out ?_ ?_ ?_ ?_); exact rfl; exact rfl; exact rfl; exact rfl; exact leaf_row x.lf; exact lcs_one x.lf))
                    refine bodyPost_ret (res_cell_slot (cs := x.lf.cs) (v := .bool true) rfl _ _ W.heap.size 33 rfl rfl (HX5.out.setRow _) (leaf_row x.lf)) rfl ?_
                    unfold FindR
                    rw [find_hit hl3 (fun l' h' => by rw [HK.out.len]; exact HN1.out l' h') (x := e.lf) (by rw [HK.out.len, ← HQ.out]; unfold wayFind; rw [find_step HE.out HNO.out HHT.out]; rfl), HXL.out]
                    exact ⟨rfl, below_setRow HB5.out (Nat.le_refl _) _⟩
                · have HHT : Hid (hitB l va asid e = true) := Lib.hid (by rw [HHB.out, h1, HPN.out, ← nat_beq, h2, h3]; rfl)
                  iterate 8 (refine plan_take (v := ?_) rfl (by kernel_rfl) ?_ ?_; rotate_left; (focus (intro w' hw'; try go_simp; try with_reducible rfl)); simp only [Act.put, List.setIfInBounds_toArray, List.set_cons_zero, List.set_cons_succ])
                  iterate 4 (refine plan_skip rfl (by kernel_rfl) ?_; simp only [Act.put, List.setIfInBounds_toArray, List.set_cons_zero, List.set_cons_succ])
                  iterate 2 (refine plan_take (v := ?_) rfl (by kernel_rfl) ?_ ?_; rotate_left; (focus (intro w' hw'; try go_simp; try with_reducible rfl)); simp only [Act.put, List.setIfInBounds_toArray, List.set_cons_zero, List.set_cons_succ])
                  refine plan_end ?_
                  clear hv2 hv3 h1 h2 h3 HHB
                  go_wp2_with (first | ((with_reducible refine wl_load 33 (.tmp 70) rfl ?_ w3.heap.size 4 x.lf.cs ?_ (slot_leaf HL5.out) ?_ ?_); exact rfl; exact rfl; exact leaf_row x.lf) | ((with_reducible refine wl_store 33 (.tmp 6) (.tmp 71) rfl ?_ W.heap.size 33 #[.bool false, .bool false, .bool false, .bool false, .bool false, .bool false, .bool false, .bool false, .int .i64 0, .int .u64 0, .int .i64 0, .int .u64 0] x.lf.cs ?_ ?_ HX5.out ?_ ?_ ?_ ?_); exact rfl; exact rfl; exact rfl; exact rfl; exact leaf_row x.lf; exact lcs_one x.lf))
                  refine bodyPost_ret (res_cell_slot (cs := x.lf.cs) (v := .bool true) rfl _ _ W.heap.size 33 rfl rfl (HX5.out.setRow _) (leaf_row x.lf)) rfl ?_
                  unfold FindR
                  rw [find_hit hl3 (fun l' h' => by rw [HK.out.len]; exact HN1.out l' h') (x := e.lf) (by rw [HK.out.len, ← HQ.out]; unfold wayFind; rw [find_step HE.out HNO.out HHT.out]; rfl), HXL.out]
                  exact ⟨rfl, below_setRow HB5.out (Nat.le_refl _) _⟩
        · obtain rfl : m = k := by omega
          have HNX : Hid (∀ l' : Nat, l' < l + 1 → wayFind (T.getD (pgN va l' % n) []) l' va asid = none) := Lib.hid (fun l' h' => by
            rcases Nat.lt_or_ge l' l with h | h
            · exact HN1.out l' h
            · obtain rfl : l' = l := by omega
              rw [← HQ.out]
              unfold wayFind
              rw [find_none (k := m) (by rw [HK.out.ways q HQL.out]; exact Nat.le_refl _) HNO.out]
              rfl)
          go_wp2_with fail
          go_roundw
          case rel => exact ⟨l + 1, hl3, rfl, HBE.out, HXE.out, HNX.out⟩
          case measure => show 3 - ((l : Int) + 1).toNat < 3 - (l : Int).toNat; omega
    · obtain rfl : l = 3 := by omega
      have HF : Hid (findS T va asid = none) := Lib.hid (find_all (fun l' h' => by rw [HK.out.len]; exact HN1.out l' h'))
      go_wp2_with (first | ((with_reducible refine wl_store 33 (.tmp 6) (.tmp 72) rfl ?_ W.heap.size 33 #[.bool false, .bool false, .bool false, .bool false, .bool false, .bool false, .bool false, .bool false, .int .i64 0, .int .u64 0, .int .i64 0, .int .u64 0] #[.bool false, .bool false, .bool false, .bool false, .bool false, .bool false, .bool false, .bool false, .int .i64 0, .int .u64 0, .int .i64 0, .int .u64 0] ?_ ?_ HX1.out ?_ ?_ ?_ ?_); exact rfl; exact rfl; exact rfl; exact rfl; exact leaf_row lf0; exact lcs_one lf0))
      refine bodyPost_ret (res_cell_slot (cs := #[.bool false, .bool false, .bool false, .bool false, .bool false, .bool false, .bool false, .bool false, .int .i64 0, .int .u64 0, .int .i64 0, .int .u64 0]) (v := .bool false) rfl _ _ W.heap.size 33 rfl rfl (HX1.out.setRow _) (leaf_row lf0)) rfl ?_
      unfold FindR
      rw [HF.out]
      exact ⟨rfl, below_setRow HB1.out (Nat.le_refl _) _⟩
end Go.Proofs.Ytnjoobggcejgkaa
