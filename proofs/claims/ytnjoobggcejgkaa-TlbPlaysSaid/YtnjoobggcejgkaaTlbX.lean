/- TlbPlays. -/
import Derived.Test.YtnjoobggcejgkaaTlbW
import Derived.Test.YtnjoobggcejgkaaTlbPd
import Derived.Test.YtnjoobggcejgkaaPlanI
import Derived.Test.YtnjoobggcejgkaaORows
namespace Go.Proofs.Ytnjoobggcejgkaa
open Go.RowKit

theorem op_row (kind asid pick ova : Int) (l : Lf) : rowT Try.prog 45 (opC kind asid pick ova l).size = true := by
  show rowT Try.prog 45 16 = true
  kernel_rfl
theorem op_one (kind asid pick ova : Int) (l : Lf) : (opC kind asid pick ova l).all (·.oneCell') = true := by simp [opC, Value.oneCell']
/-- An act in a slice. -/
def OpR (W : World) (b o : Nat) : Prop := ∃ (kind asid pick : Int) (ova : Nat) (l : Lf), W.rangeAt b o (opC kind asid pick (ova : Int) l).toList ∧ ova < 18446744073709551616 ∧ (Lit.int .i64 asid).wf = true ∧ (-9223372036854775808 ≤ pick ∧ pick < 9223372036854775808) ∧ LfWf l
theorem ops_of {w : World} {a : Option Addr} {len cap : Nat} (h : IsRows [.int .i64, .int .i64, .int .i64, .int .u64, .bool, .bool, .bool, .bool, .bool, .bool, .bool, .bool, .int .i64, .int .u64, .int .i64, .int .u64] w a len cap) (hp : 0 < len) : ∃ b o, a = some ⟨b, o, none⟩ ∧ b < w.heap.size ∧ ∀ i, i < len → OpR w b (o + i * 16) := by
  rcases h with ⟨_, rfl, _⟩ | ⟨x, rfl, hl, hm, hc⟩
  · omega
  · obtain ⟨v, h0, _⟩ := hc 0 (by omega) 0 _ rfl
    obtain ⟨b, o, spot⟩ := x
    have hspot : spot = none := by simpa [Addr.add] using World.cell?_spot h0
    subst hspot
    have ea : ∀ k, (⟨b, o, none⟩ : Addr).add k = ⟨b, o + k, none⟩ := fun k => by unfold Addr.add; split <;> simp_all
    rw [ea] at h0
    refine ⟨b, o, rfl, World.block_lt_of_cell? _ _ h0, fun i hi => ?_⟩
    obtain ⟨_, k0, y0, rfl, _⟩ := hc i (by omega) 0 _ rfl
    obtain ⟨_, k1, y1, rfl, w1⟩ := hc i (by omega) 1 _ rfl
    obtain ⟨_, k2, y2, rfl, w2⟩ := hc i (by omega) 2 _ rfl
    obtain ⟨_, k3, y3, rfl, w3⟩ := hc i (by omega) 3 _ rfl
    obtain ⟨_, k4, y4, rfl⟩ := hc i (by omega) 4 _ rfl
    obtain ⟨_, k5, y5, rfl⟩ := hc i (by omega) 5 _ rfl
    obtain ⟨_, k6, y6, rfl⟩ := hc i (by omega) 6 _ rfl
    obtain ⟨_, k7, y7, rfl⟩ := hc i (by omega) 7 _ rfl
    obtain ⟨_, k8, y8, rfl⟩ := hc i (by omega) 8 _ rfl
    obtain ⟨_, k9, y9, rfl⟩ := hc i (by omega) 9 _ rfl
    obtain ⟨_, k10, y10, rfl⟩ := hc i (by omega) 10 _ rfl
    obtain ⟨_, k11, y11, rfl⟩ := hc i (by omega) 11 _ rfl
    obtain ⟨_, k12, y12, rfl, w12⟩ := hc i (by omega) 12 _ rfl
    obtain ⟨_, k13, y13, rfl, w13⟩ := hc i (by omega) 13 _ rfl
    obtain ⟨_, k14, y14, rfl, w14⟩ := hc i (by omega) 14 _ rfl
    obtain ⟨_, k15, y15, rfl, w15⟩ := hc i (by omega) 15 _ rfl
    obtain ⟨a3, rfl⟩ := Int.eq_ofNat_of_zero_le (u64_of_wf w3).1
    obtain ⟨a13, rfl⟩ := Int.eq_ofNat_of_zero_le (u64_of_wf w13).1
    obtain ⟨a15, rfl⟩ := Int.eq_ofNat_of_zero_le (u64_of_wf w15).1
    rw [ea] at k0 k1 k2 k3 k4 k5 k6 k7 k8 k9 k10 k11 k12 k13 k14 k15
    simp only [List.length_cons, List.length_nil, Nat.zero_add, Nat.reduceAdd] at k0 k1 k2 k3 k4 k5 k6 k7 k8 k9 k10 k11 k12 k13 k14 k15
    refine ⟨y0, y1, y2, a3, ⟨y4, y5, y6, y7, y8, y9, y10, y11, y12, a13, y14, a15⟩, fun j v hj => ?_, by have := (u64_of_wf w3).2; omega, w1, i64_of_wf w2, ⟨w12, w13, w14, w15⟩⟩
    rw [Nat.add_assoc]
    match j, hj with
    | 0, hj => exact k0.trans hj
    | 1, hj => exact k1.trans hj
    | 2, hj => exact k2.trans hj
    | 3, hj => exact k3.trans hj
    | 4, hj => exact k4.trans hj
    | 5, hj => exact k5.trans hj
    | 6, hj => exact k6.trans hj
    | 7, hj => exact k7.trans hj
    | 8, hj => exact k8.trans hj
    | 9, hj => exact k9.trans hj
    | 10, hj => exact k10.trans hj
    | 11, hj => exact k11.trans hj
    | 12, hj => exact k12.trans hj
    | 13, hj => exact k13.trans hj
    | 14, hj => exact k14.trans hj
    | 15, hj => exact k15.trans hj
    | j + 16, hj => exact absurd hj (by simp [opC])
/-- A slice of one, made here. -/
def U1 (b0 va : Nat) (v : Value) (w : World) : Prop := ∃ g, v = .slice (some ⟨g, 0, none⟩) 1 1 ∧ b0 ≤ g ∧ Blk w g 29 #[.int .u64 (va : Int)]
def I1 (b0 : Nat) (a : Int) (v : Value) (w : World) : Prop := ∃ g, v = .slice (some ⟨g, 0, none⟩) 1 1 ∧ b0 ≤ g ∧ Blk w g 3 #[.int .i64 a]
def vaP (b0 va : Nat) (a : Int) (i : Nat) (v : Value) (w : World) : Prop := if i = 2 ∨ i = 6 then U1 b0 va v w else I1 b0 a v w
theorem vaP_later (b0 va : Nat) (a : Int) : ∀ i v w w', Ext w w' → vaP b0 va a i v w → vaP b0 va a i v w' := by
  intro i v w w' h hp
  unfold vaP at hp ⊢
  split at hp
  · rename_i hi
    rw [if_pos hi]
    obtain ⟨g, e, h1, h2⟩ := hp
    exact ⟨g, e, h1, h2.below h h2.lt⟩
  · rename_i hi
    rw [if_neg hi]
    obtain ⟨g, e, h1, h2⟩ := hp
    exact ⟨g, e, h1, h2.below h h2.lt⟩
theorem TP.drew {W w : World} {g gs gx n m : Nat} {Gb : Nat → Nat} {G : Nat → Prop} {T T2 : List (List En)} {L : List Sl} {loc : List (Nat × TypeId × Array Value)} (h : TP W g gs Gb gx G n m T T2 L loc w) : TP W g gs Gb gx G n m T T2 L loc w.drew := h.step (Below.refl _ _).drew
set_option maxRecDepth 100000 in
set_option maxHeartbeats 16000000 in
theorem plays_yes (n m : Nat) (A : Option Addr) (len cap : Nat) (W : World) (hr : rightS n m = true) (hO : 0 < len → ∃ b o, A = some ⟨b, o, none⟩ ∧ b < W.heap.size ∧ ∀ i, i < len → OpR W b (o + i * 16)) (hlen : len ≤ 9223372036854775807) :
    Calls Try.prog 3 #[.int .i64 (n : Int), .int .i64 (m : Int), .slice A len cap] W fun e w' => e = .returned (.bool true) ∧ Below W.heap.size W w' := by
  have HRT := Lib.hid hr
  have HO := Lib.hid hO
  clear hr hO
  go_enter Try.func3, Try.ntmps3
  go_wp2_with fail
  refine (first_ok _).mono ?_
  rintro e w0 ⟨rfl, hb⟩
  have HB0 := Lib.hid hb
  clear hb
  go_wp2_with fail
  refine (new_yes n m _ HRT.out).mono ?_
  rintro e w1 ⟨rfl, hn⟩
  have HNR := Lib.hid hn
  clear hn
  go_wp2_with fail
  refine (right_any n m _).mono ?_
  rintro e w2 ⟨rfl, hb2⟩
  rw [HRT.out]
  obtain ⟨gs, Gb, hT⟩ := tp_start HRT.out HB0.out HNR.out hb2
  have HT0 := Lib.hid hT
  clear hT hb2 HNR
  go_wp2_with fail
  generalize w2.alloc (.cells #[.int .i64 (n : Int), .int .i64 (m : Int), .slice none 0 0] 43) = w3 at *
  generalize w2.heap.size = gx at *
  generalize w0.heap.size = g at *
  go_loopw [76] (fun i wr => ∃ k : Nat, k ≤ len ∧ k ≤ 80 ∧ i = .int .i64 k ∧ ∃ G T L, TP W g gs Gb gx G n m T T L [] wr) (fun i _ => len - (intOf i).toNat)
  case atStart => exact ⟨0, by omega, by omega, rfl, _, _, _, HT0.out⟩
  clear HT0 HB0
  case round =>
    obtain ⟨k, hk, hk80, rfl, G, T, L, ht⟩ := hrel
    have HT := Lib.hid ht
    clear ht
    by_cases hkl : k < len
    · obtain ⟨b, o, rfl, hbl, hc⟩ := HO.out (by omega)
      obtain ⟨kind, asid, pick, ova, l, hrg, hov, has, hpk, hlw⟩ := hc k hkl
      have HRG : Hid (wr.rangeAt b (o + k * 16) (opC kind asid pick (ova : Int) l).toList) := Lib.hid (range_below hrg HT.out.bel)
      have HOV := Lib.hid hov
      have HAS := Lib.hid has
      have HPK := Lib.hid hpk
      have HLW := Lib.hid hlw
      have S4 := Lib.hid (HT.out.push (opC kind asid pick (ova : Int) l) 45 rfl)
      clear hrg hov has hpk hlw hc hbl
      by_cases h80 : 80 ≤ k
      · have i80 : (80 : Int) ≤ (k : Int) := by omega
        clear HT
        have HT := Lib.hid (S4.out.only (loc' := []) (fun p hp => by simp at hp))
        clear S4
        go_wp2_with (first | ((with_reducible refine wl_load 45 (.tmp 79) rfl ?_ b (o + k * 16) (opC kind asid pick (ova : Int) l) ?_ HRG.out ?_ ?_); exact rfl; exact rfl; exact op_row _ _ _ _ _) | ((with_reducible refine wl_store_new 45 (.tmp 14) (.tmp 80) rfl ?_ wr (World.heap wr).size 45 (opC 0 0 0 0 lf0) (opC kind asid pick (ova : Int) l) ?_ ?_ ?_ ?_ ?_ ?_ ?_ ?_); exact rfl; exact rfl; exact rfl; exact rfl; exact rfl; exact rfl; exact op_row _ _ _ _ _; exact op_one _ _ _ _ _))
        refine (tp_blist HT.out).mono ?_
        rintro e w8 ⟨A1, c1, rfl, hr1, ht1⟩
        have HR1 := Lib.hid hr1
        have HT1 := Lib.hid ht1
        clear hr1 ht1
        go_wp2_with fail
        refine (tp_rlist HT1.out).mono ?_
        rintro e w9 ⟨A2, c2, rfl, hr2, hb9, ht2⟩
        have HR2 := Lib.hid hr2
        have HB9 := Lib.hid hb9
        have HT2 := Lib.hid ht2
        clear hr2 hb9 ht2
        go_wp2_with fail
        refine (same_any A1 A2 c1 c2 (listT 0 T) _ (by have := HT2.out.ok.slots (List.Perm.refl _); omega) (HR1.out.below HB9.out) HR2.out (slots_wf HT2.out.ok HT2.out.wf)).mono ?_
        rintro e w10 ⟨rfl, hb10⟩
        have HBZ := Lib.hid (HT2.out.bel.trans (hb10.mono HT2.out.bel.size))
        clear hb10
        go_wp2_with fail
        go_ret
        exact ⟨rfl, HBZ.out⟩
      · have i80 : ¬ (80 : Int) ≤ (k : Int) := by omega
        clear HT
        go_wp2_with (first | ((with_reducible refine wl_load 45 (.tmp 79) rfl ?_ b (o + k * 16) (opC kind asid pick (ova : Int) l) ?_ HRG.out ?_ ?_); exact rfl; exact rfl; exact op_row _ _ _ _ _) | ((with_reducible refine wl_store_new 45 (.tmp 14) (.tmp 80) rfl ?_ wr (World.heap wr).size 45 (opC 0 0 0 0 lf0) (opC kind asid pick (ova : Int) l) ?_ ?_ ?_ ?_ ?_ ?_ ?_ ?_); exact rfl; exact rfl; exact rfl; exact rfl; exact rfl; exact rfl; exact op_row _ _ _ _ _; exact op_one _ _ _ _ _))
        obtain ⟨ob, hob⟩ : ∃ ob, ob = wr.heap.size := ⟨_, rfl⟩
        rw [← hob] at S4 ⊢
        clear hob
        generalize wr.alloc (.cells (opC kind asid pick (ova : Int) l) 45) = w4 at *
        have hob2 := (S4.out.drew.at_ 0 _ rfl)
        have s1 := fun (W' : World) (h : Ext w4.drew W') => (h.cell (p := ⟨ob, 1, none⟩) hob2.lt).trans (hob2.cell 1)
        have s3 := fun (W' : World) (h : Ext w4.drew W') => (h.cell (p := ⟨ob, 3, none⟩) hob2.lt).trans (hob2.cell 3)
        simp only [show (opC kind asid pick (ova : Int) l)[1]? = some (.int .i64 asid) from rfl, show (opC kind asid pick (ova : Int) l)[3]? = some (.int .u64 (ova : Int)) from rfl] at s1 s3
        clear hob2
        refine wp_region_pt Ext later_ext (PT.steps [0, 1, 3, 4] (.rest 4 (doneL 8 [0, 1, 3, 4]))) (by kernel_rfl) (by kernel_rfl) (fun _ d _ _ _ h => by cases d <;> exact h) ?_
        unfold PT.steps
        iterate 4 (refine pt_take (v := ?_) rfl (by kernel_rfl) ?_ ?_; rotate_left; (focus (intro w' hw'; try go_simp; try with_reducible rfl)); simp only [Act.put, List.setIfInBounds_toArray, List.set_cons_zero, List.set_cons_succ])
        clear s1 s3
        refine pt_rest later_ext (vaP w4.heap.size ova asid) (ds := [(2, some 85), (5, some 88), (6, some 15), (7, some 16)]) rfl (by kernel_rfl) (vaP_later _ _ _) ?_ ?_
        · refine ⟨?_, ?_, ?_, ?_, trivial⟩
          · refine inv_op rfl (fun x w hw hp => ?_) rfl
            simp only [fill, Act.put, List.setIfInBounds_toArray, List.set_cons_zero, List.set_cons_succ]
            refine ⟨by kernel_rfl, fun K hK => ?_⟩
            go_simp
            refine hK _ _ ((Ext.refl _).alloc (Nat.le_refl _) _) ?_
            exact ⟨w.heap.size, rfl, hw.size, Blkf.new_at _ _ _ _ rfl⟩
          · refine inv_op rfl (fun x w hw hp => ?_) rfl
            simp only [fill, Act.put, List.setIfInBounds_toArray, List.set_cons_zero, List.set_cons_succ]
            refine ⟨by kernel_rfl, fun K hK => ?_⟩
            go_simp
            refine hK _ _ ((Ext.refl _).alloc (Nat.le_refl _) _) ?_
            exact ⟨w.heap.size, rfl, hw.size, Blkf.new_at _ _ _ _ rfl⟩
          · refine inv_pure later_ext rfl (fun x w hw hp => ?_) rfl
            have h2 := hp 2 (by kernel_rfl)
            simp only [fill, Act.put, List.setIfInBounds_toArray, List.set_cons_zero, List.set_cons_succ]
            refine ⟨by kernel_rfl, x 2, by go_simp, h2⟩
          · refine inv_pure later_ext rfl (fun x w hw hp => ?_) rfl
            have h2 := hp 5 (by kernel_rfl)
            simp only [fill, Act.put, List.setIfInBounds_toArray, List.set_cons_zero, List.set_cons_succ]
            refine ⟨by kernel_rfl, x 5, by go_simp, h2⟩
        · intro x w5 hx hpr
          obtain ⟨gv, ev, hgv, hbv⟩ : U1 w4.heap.size ova (x 6) w5 := hpr (6, some 15) (by simp)
          obtain ⟨ga, ea, hga, hba⟩ : I1 w4.heap.size asid (x 7) w5 := hpr (7, some 16) (by simp)
          clear hpr
          have S5 : Hid (TP W g gs Gb gx G n m T T L [(gv, 29, #[.int .u64 (ova : Int)]), (ga, 3, #[.int .i64 asid]), (ob, 45, (opC kind asid pick (ova : Int) l))] w5) := Lib.hid (((S4.out.drew.step hx).add hba (fun hf => by have := S4.out.ltB hf; omega) (fun hf => by have := S4.out.ref.lt _ hf; omega)).add hbv (fun hf => by have := S4.out.ltB hf; omega) (fun hf => by have := S4.out.ref.lt _ hf; omega))
          clear hx hbv hba hgv hga S4
          simp only [fill, Act.put, List.setIfInBounds_toArray, List.set_cons_zero, List.set_cons_succ]
          rw [ev, ea]
          clear ev ea
          generalize x 2 = x2
          generalize x 5 = x5
          clear x
          have q0 := (S5.out.at_ 2 _ rfl).cell 0
          rw [show (opC kind asid pick (ova : Int) l)[0]? = some (.int .i64 kind) from rfl] at q0
          obtain ⟨u, hu⟩ : ∃ u : Nat, IntKind.u64.wrap kind = (u : Int) := ⟨(IntKind.u64.wrap kind).toNat, by have := IntKind.wrap_u64 kind; omega⟩
          rcases (show u % 6 = 0 ∨ u % 6 = 1 ∨ u % 6 = 2 ∨ u % 6 = 3 ∨ u % 6 = 4 ∨ u % 6 = 5 by omega) with hm6 | hm6 | hm6 | hm6 | hm6 | hm6
          · have j0 : ((u : Int) % 6 == 0) = true := by rw [show (u : Int) % 6 = 0 by omega]; rfl
            have j2 : ((u : Int) % 6 == 2) = false := by rw [show (u : Int) % 6 = 0 by omega]; rfl
            have j3 : ((u : Int) % 6 == 3) = false := by rw [show (u : Int) % 6 = 0 by omega]; rfl
            have j4 : ((u : Int) % 6 == 4) = false := by rw [show (u : Int) % 6 = 0 by omega]; rfl
            have jg : decide ((1 : Int) < (u : Int) % 6) = false := by rw [show (u : Int) % 6 = 0 by omega]; rfl
            have jg2 : ¬ (1 : Int) < (u : Int) % 6 := by omega
            clear hm6
            go_wp2_with fail
            have hob2 := (S5.out.drew.at_ 2 _ rfl)
            have s1 := fun (W' : World) (h : W'.heap[ob]? = w5.drew.heap[ob]?) => (World.cell?_of_block (a := ⟨ob, 1, none⟩) h).trans (hob2.cell 1)
            have s2 := fun (W' : World) (h : W'.heap[ob]? = w5.drew.heap[ob]?) => (World.cell?_of_block (a := ⟨ob, 2, none⟩) h).trans (hob2.cell 2)
            have s3 := fun (W' : World) (h : W'.heap[ob]? = w5.drew.heap[ob]?) => (World.cell?_of_block (a := ⟨ob, 3, none⟩) h).trans (hob2.cell 3)
            simp only [show (opC kind asid pick (ova : Int) l)[1]? = some (.int .i64 asid) from rfl, show (opC kind asid pick (ova : Int) l)[2]? = some (.int .i64 pick) from rfl, show (opC kind asid pick (ova : Int) l)[3]? = some (.int .u64 (ova : Int)) from rfl] at s1 s2 s3
            have HOB2 := Lib.hid hob2
            clear hob2 q0
            refine wp_region_plan_by (fun u u' => u'.heap[ob]? = u.heap[ob]?) ⟨fun _ => rfl, fun h k => k.trans h⟩ [(0, false), (1, false), (2, false), (3, false), (4, false), (5, false), (6, false), (7, false), (8, false), (10, false), (11, false), (12, false), (13, false), (14, false), (15, false), (16, false), (17, false), (18, false), (9, true), (19, true), (20, false)] (by kernel_rfl) (by kernel_rfl) (fun _ d _ _ _ h => by cases d <;> exact h) ?_
            iterate 6 (refine plan_take (v := ?_) rfl (by kernel_rfl) ?_ ?_; rotate_left; (focus (intro w' hw'; try go_simp; try with_reducible rfl)); simp only [Act.put, List.setIfInBounds_toArray, List.set_cons_zero, List.set_cons_succ])
            refine plan_take rfl (by kernel_rfl) (fun w' h' => run_load_op 33 (.tmp 100) rfl ob 4 l.cs rfl (op_leaf (h'.trans HOB2.out)) (leaf_row l)) ?_
            simp only [Act.put, List.setIfInBounds_toArray, List.set_cons_zero, List.set_cons_succ]
            iterate 2 (refine plan_take (v := ?_) rfl (by kernel_rfl) ?_ ?_; rotate_left; (focus (intro w' hw'; try go_simp; try with_reducible rfl)); simp only [Act.put, List.setIfInBounds_toArray, List.set_cons_zero, List.set_cons_succ])
            iterate 6 (refine plan_take (v := ?_) rfl (by kernel_rfl) ?_ ?_; rotate_left; (focus (intro w' hw'; try go_simp; try with_reducible rfl)); simp only [Act.put, List.setIfInBounds_toArray, List.set_cons_zero, List.set_cons_succ])
            refine plan_take rfl (by kernel_rfl) (fun w' h' => run_load_op 33 (.tmp 110) rfl ob 4 l.cs rfl (op_leaf (h'.trans HOB2.out)) (leaf_row l)) ?_
            simp only [Act.put, List.setIfInBounds_toArray, List.set_cons_zero, List.set_cons_succ]
            iterate 2 (refine plan_take (v := ?_) rfl (by kernel_rfl) ?_ ?_; rotate_left; (focus (intro w' hw'; try go_simp; try with_reducible rfl)); simp only [Act.put, List.setIfInBounds_toArray, List.set_cons_zero, List.set_cons_succ])
            clear s1 s2 s3
            refine plan_call rfl (by kernel_rfl) (by go_simp; exact ⟨rfl, rfl⟩) ?_
            refine (tp_bfill S5.out.drew ova asid l pick HOV.out HPK.out HLW.out HAS.out).mono ?_
            rintro e wb ⟨rfl, htb⟩
            refine ⟨_, rfl, S5.out.drew.keep htb 2 _ rfl, ?_⟩
            simp only [Act.put, List.setIfInBounds_toArray, List.set_cons_zero, List.set_cons_succ]
            refine plan_call rfl (by kernel_rfl) (by go_simp; exact ⟨rfl, rfl⟩) ?_
            refine (tp_rfill htb ova asid l pick HOV.out HPK.out HLW.out HAS.out).mono ?_
            rintro e wc ⟨rfl, G1, L1, htc⟩
            refine ⟨_, rfl, htb.keep htc 2 _ rfl, ?_⟩
            simp only [Act.put, List.setIfInBounds_toArray, List.set_cons_zero, List.set_cons_succ]
            iterate 1 (refine plan_take (v := ?_) rfl (by kernel_rfl) ?_ ?_; rotate_left; (focus (intro w' hw'; try go_simp; try with_reducible rfl)); simp only [Act.put, List.setIfInBounds_toArray, List.set_cons_zero, List.set_cons_succ])
            refine plan_end ?_
            have S1 := Lib.hid htc
            clear htb htc S5 HOB2
            have q0 := (S1.out.at_ 2 _ rfl).cell 0
            have q1 := (S1.out.at_ 2 _ rfl).cell 1
            have q3 := (S1.out.at_ 2 _ rfl).cell 3
            rw [show (opC kind asid pick (ova : Int) l)[0]? = some (.int .i64 kind) from rfl] at q0
            rw [show (opC kind asid pick (ova : Int) l)[1]? = some (.int .i64 asid) from rfl] at q1
            rw [show (opC kind asid pick (ova : Int) l)[3]? = some (.int .u64 (ova : Int)) from rfl] at q3
            go_wp2_with fail
            refine (tp_bfind S1.out ova asid HOV.out).mono ?_
            rintro e w6 ⟨rfl, ht6⟩
            clear q0 q1 q3
            obtain ⟨fl, hfl⟩ : ∃ fl, fl = (findS (fillT T ova asid l pick) ova asid).getD lf0 := ⟨_, rfl⟩
            obtain ⟨fb, hfb⟩ : ∃ fb, fb = (findS (fillT T ova asid l pick) ova asid).isSome := ⟨_, rfl⟩
            have HFW : Hid (LfWf fl) := Lib.hid (by rw [hfl]; exact find_wf S1.out.wf)
            rw [← hfl, ← hfb]
            have HFL := Lib.hid hfl
            have HFB := Lib.hid hfb
            have S2 := Lib.hid (ht6.push fl.cs 33 rfl)
            clear hfl hfb ht6 S1
            have p0 := (S2.out.at_ 3 _ rfl).cell 0
            have p1 := (S2.out.at_ 3 _ rfl).cell 1
            have p3 := (S2.out.at_ 3 _ rfl).cell 3
            rw [show (opC kind asid pick (ova : Int) l)[0]? = some (.int .i64 kind) from rfl] at p0
            rw [show (opC kind asid pick (ova : Int) l)[1]? = some (.int .i64 asid) from rfl] at p1
            rw [show (opC kind asid pick (ova : Int) l)[3]? = some (.int .u64 (ova : Int)) from rfl] at p3
            go_wp2_with (first | ((with_reducible refine wl_store_new 33 (.tmp 17) (.tmp 145) rfl ?_ w6 (World.heap w6).size 33 lf0.cs fl.cs ?_ ?_ ?_ ?_ ?_ ?_ ?_ ?_); exact rfl; exact rfl; exact rfl; exact rfl; exact rfl; exact rfl; exact leaf_row fl; exact lcs_one fl))
            refine (tp_rfind S2.out ova asid HOV.out).mono ?_
            rintro e w7 ⟨rfl, ht7⟩
            clear p0 p1 p3
            rw [← HFL.out, ← HFB.out]
            have S3 := Lib.hid (ht7.push fl.cs 33 rfl)
            clear ht7 S2
            go_wp2_with (first | ((with_reducible refine wl_store_new 33 (.tmp 19) (.tmp 154) rfl ?_ w7 (World.heap w7).size 33 lf0.cs fl.cs ?_ ?_ ?_ ?_ ?_ ?_ ?_ ?_); exact rfl; exact rfl; exact rfl; exact rfl; exact rfl; exact rfl; exact leaf_row fl; exact lcs_one fl))
            have heq := fun W => leaf_same W fl HFW.out
            obtain ⟨Ax, cx, hgx, _⟩ := id S3.out.drew.ref
            have HGX := Lib.hid hgx
            have hs2 : ∀ W', Ext (w7.alloc (.cells fl.cs 33)).drew W' → W'.cell? ⟨gx, 2, none⟩ = some (.slice Ax L1.length cx) := fun W' h => (h.cell HGX.out.lt).trans (HGX.out.cell 2)
            clear hgx
            refine wp_region_plan [(0, false), (1, false), (2, false), (3, false), (4, false), (5, false), (6, false), (7, false), (8, false), (9, false), (11, false), (12, false), (13, false), (14, false), (15, false), (10, true), (16, false), (17, false)] (by kernel_rfl) (by kernel_rfl) (fun _ d _ _ _ h => by cases d <;> exact h) ?_
            refine plan_take rfl (by kernel_rfl) (fun w' h' => run_load_op 33 (.tmp 17) rfl (w6.heap.size) 0 fl.cs rfl (((S3.out.drew.at_ 1 _ rfl).below h' (S3.out.drew.at_ 1 _ rfl).lt).range) (leaf_row fl)) ?_
            simp only [Act.put, List.setIfInBounds_toArray, List.set_cons_zero, List.set_cons_succ]
            refine plan_take rfl (by kernel_rfl) (fun w' h' => run_load_op 33 (.tmp 19) rfl (w7.heap.size) 0 fl.cs rfl (((S3.out.drew.at_ 0 _ rfl).below h' (S3.out.drew.at_ 0 _ rfl).lt).range) (leaf_row fl)) ?_
            simp only [Act.put, List.setIfInBounds_toArray, List.set_cons_zero, List.set_cons_succ]
            iterate 13 (refine plan_take (v := ?_) rfl (by kernel_rfl) ?_ ?_; rotate_left; (focus (intro w' hw'; try go_simp; try with_reducible rfl)); simp only [Act.put, List.setIfInBounds_toArray, List.set_cons_zero, List.set_cons_succ])
            refine plan_call rfl (by kernel_rfl) (by go_simp; exact ⟨rfl, rfl⟩) ?_
            refine (tp_blen S3.out.drew).mono ?_
            rintro e w9 ⟨rfl, hb9⟩
            refine ⟨_, rfl, hb9, ?_⟩
            simp only [Act.put, List.setIfInBounds_toArray, List.set_cons_zero, List.set_cons_succ]
            iterate 2 (refine plan_take (v := ?_) rfl (by kernel_rfl) ?_ ?_; rotate_left; (focus (intro w' hw'; try go_simp; try with_reducible rfl)); simp only [Act.put, List.setIfInBounds_toArray, List.set_cons_zero, List.set_cons_succ])
            refine plan_end ?_
            have HT9 := Lib.hid ((S3.out.drew.step hb9).only (loc' := []) (fun p hp => by simp at hp))
            clear heq hs2 hb9 S3
            go_wp2_with fail
            go_roundw
            case rel => exact ⟨k + 1, hkl, by omega, by go_num, _, _, _, HT9.out⟩
            case measure => simp [intOf]; omega
          · have j0 : ((u : Int) % 6 == 0) = false := by rw [show (u : Int) % 6 = 1 by omega]; rfl
            have j2 : ((u : Int) % 6 == 2) = false := by rw [show (u : Int) % 6 = 1 by omega]; rfl
            have j3 : ((u : Int) % 6 == 3) = false := by rw [show (u : Int) % 6 = 1 by omega]; rfl
            have j4 : ((u : Int) % 6 == 4) = false := by rw [show (u : Int) % 6 = 1 by omega]; rfl
            have jg : decide ((1 : Int) < (u : Int) % 6) = false := by rw [show (u : Int) % 6 = 1 by omega]; rfl
            have jg2 : ¬ (1 : Int) < (u : Int) % 6 := by omega
            clear hm6
            have S1 := S5
            obtain ⟨L1, hL1⟩ : ∃ L1, L1 = L := ⟨_, rfl⟩
            rw [← hL1] at S1
            clear S5 hL1 q0
            have q0 := (S1.out.at_ 2 _ rfl).cell 0
            have q1 := (S1.out.at_ 2 _ rfl).cell 1
            have q3 := (S1.out.at_ 2 _ rfl).cell 3
            rw [show (opC kind asid pick (ova : Int) l)[0]? = some (.int .i64 kind) from rfl] at q0
            rw [show (opC kind asid pick (ova : Int) l)[1]? = some (.int .i64 asid) from rfl] at q1
            rw [show (opC kind asid pick (ova : Int) l)[3]? = some (.int .u64 (ova : Int)) from rfl] at q3
            go_wp2_with fail
            refine (tp_bfind S1.out ova asid HOV.out).mono ?_
            rintro e w6 ⟨rfl, ht6⟩
            clear q0 q1 q3
            obtain ⟨fl, hfl⟩ : ∃ fl, fl = (findS T ova asid).getD lf0 := ⟨_, rfl⟩
            obtain ⟨fb, hfb⟩ : ∃ fb, fb = (findS T ova asid).isSome := ⟨_, rfl⟩
            have HFW : Hid (LfWf fl) := Lib.hid (by rw [hfl]; exact find_wf S1.out.wf)
            rw [← hfl, ← hfb]
            have HFL := Lib.hid hfl
            have HFB := Lib.hid hfb
            have S2 := Lib.hid (ht6.push fl.cs 33 rfl)
            clear hfl hfb ht6 S1
            have p0 := (S2.out.at_ 3 _ rfl).cell 0
            have p1 := (S2.out.at_ 3 _ rfl).cell 1
            have p3 := (S2.out.at_ 3 _ rfl).cell 3
            rw [show (opC kind asid pick (ova : Int) l)[0]? = some (.int .i64 kind) from rfl] at p0
            rw [show (opC kind asid pick (ova : Int) l)[1]? = some (.int .i64 asid) from rfl] at p1
            rw [show (opC kind asid pick (ova : Int) l)[3]? = some (.int .u64 (ova : Int)) from rfl] at p3
            go_wp2_with (first | ((with_reducible refine wl_store_new 33 (.tmp 17) (.tmp 145) rfl ?_ w6 (World.heap w6).size 33 lf0.cs fl.cs ?_ ?_ ?_ ?_ ?_ ?_ ?_ ?_); exact rfl; exact rfl; exact rfl; exact rfl; exact rfl; exact rfl; exact leaf_row fl; exact lcs_one fl))
            refine (tp_rfind S2.out ova asid HOV.out).mono ?_
            rintro e w7 ⟨rfl, ht7⟩
            clear p0 p1 p3
            rw [← HFL.out, ← HFB.out]
            have S3 := Lib.hid (ht7.push fl.cs 33 rfl)
            clear ht7 S2
            go_wp2_with (first | ((with_reducible refine wl_store_new 33 (.tmp 19) (.tmp 154) rfl ?_ w7 (World.heap w7).size 33 lf0.cs fl.cs ?_ ?_ ?_ ?_ ?_ ?_ ?_ ?_); exact rfl; exact rfl; exact rfl; exact rfl; exact rfl; exact rfl; exact leaf_row fl; exact lcs_one fl))
            have heq := fun W => leaf_same W fl HFW.out
            obtain ⟨Ax, cx, hgx, _⟩ := id S3.out.drew.ref
            have HGX := Lib.hid hgx
            have hs2 : ∀ W', Ext (w7.alloc (.cells fl.cs 33)).drew W' → W'.cell? ⟨gx, 2, none⟩ = some (.slice Ax L1.length cx) := fun W' h => (h.cell HGX.out.lt).trans (HGX.out.cell 2)
            clear hgx
            refine wp_region_plan [(0, false), (1, false), (2, false), (3, false), (4, false), (5, false), (6, false), (7, false), (8, false), (9, false), (11, false), (12, false), (13, false), (14, false), (15, false), (10, true), (16, false), (17, false)] (by kernel_rfl) (by kernel_rfl) (fun _ d _ _ _ h => by cases d <;> exact h) ?_
            refine plan_take rfl (by kernel_rfl) (fun w' h' => run_load_op 33 (.tmp 17) rfl (w6.heap.size) 0 fl.cs rfl (((S3.out.drew.at_ 1 _ rfl).below h' (S3.out.drew.at_ 1 _ rfl).lt).range) (leaf_row fl)) ?_
            simp only [Act.put, List.setIfInBounds_toArray, List.set_cons_zero, List.set_cons_succ]
            refine plan_take rfl (by kernel_rfl) (fun w' h' => run_load_op 33 (.tmp 19) rfl (w7.heap.size) 0 fl.cs rfl (((S3.out.drew.at_ 0 _ rfl).below h' (S3.out.drew.at_ 0 _ rfl).lt).range) (leaf_row fl)) ?_
            simp only [Act.put, List.setIfInBounds_toArray, List.set_cons_zero, List.set_cons_succ]
            iterate 13 (refine plan_take (v := ?_) rfl (by kernel_rfl) ?_ ?_; rotate_left; (focus (intro w' hw'; try go_simp; try with_reducible rfl)); simp only [Act.put, List.setIfInBounds_toArray, List.set_cons_zero, List.set_cons_succ])
            refine plan_call rfl (by kernel_rfl) (by go_simp; exact ⟨rfl, rfl⟩) ?_
            refine (tp_blen S3.out.drew).mono ?_
            rintro e w9 ⟨rfl, hb9⟩
            refine ⟨_, rfl, hb9, ?_⟩
            simp only [Act.put, List.setIfInBounds_toArray, List.set_cons_zero, List.set_cons_succ]
            iterate 2 (refine plan_take (v := ?_) rfl (by kernel_rfl) ?_ ?_; rotate_left; (focus (intro w' hw'; try go_simp; try with_reducible rfl)); simp only [Act.put, List.setIfInBounds_toArray, List.set_cons_zero, List.set_cons_succ])
            refine plan_end ?_
            have HT9 := Lib.hid ((S3.out.drew.step hb9).only (loc' := []) (fun p hp => by simp at hp))
            clear heq hs2 hb9 S3
            go_wp2_with fail
            go_roundw
            case rel => exact ⟨k + 1, hkl, by omega, by go_num, _, _, _, HT9.out⟩
            case measure => simp [intOf]; omega
          · have j0 : ((u : Int) % 6 == 0) = false := by rw [show (u : Int) % 6 = 2 by omega]; rfl
            have j2 : ((u : Int) % 6 == 2) = true := by rw [show (u : Int) % 6 = 2 by omega]; rfl
            have j3 : ((u : Int) % 6 == 3) = false := by rw [show (u : Int) % 6 = 2 by omega]; rfl
            have j4 : ((u : Int) % 6 == 4) = false := by rw [show (u : Int) % 6 = 2 by omega]; rfl
            have jg : decide ((1 : Int) < (u : Int) % 6) = true := by rw [show (u : Int) % 6 = 2 by omega]; rfl
            have jg2 : (1 : Int) < (u : Int) % 6 := by omega
            clear hm6
            go_wp2_with fail
            refine (tp_bfence S5.out none none _ _ (fun v h => by cases h) rfl rfl).mono ?_
            rintro e wb ⟨rfl, htb⟩
            have SB := Lib.hid htb
            clear htb q0 S5
            go_wp2_with fail
            refine (tp_rfence SB.out none none _ _ (fun v h => by cases h) rfl rfl).mono ?_
            rintro e wc ⟨rfl, G1, L1, htc⟩
            have S1 := Lib.hid htc
            clear htc SB
            have q0 := (S1.out.at_ 2 _ rfl).cell 0
            have q1 := (S1.out.at_ 2 _ rfl).cell 1
            have q3 := (S1.out.at_ 2 _ rfl).cell 3
            rw [show (opC kind asid pick (ova : Int) l)[0]? = some (.int .i64 kind) from rfl] at q0
            rw [show (opC kind asid pick (ova : Int) l)[1]? = some (.int .i64 asid) from rfl] at q1
            rw [show (opC kind asid pick (ova : Int) l)[3]? = some (.int .u64 (ova : Int)) from rfl] at q3
            go_wp2_with fail
            refine (tp_bfind S1.out ova asid HOV.out).mono ?_
            rintro e w6 ⟨rfl, ht6⟩
            clear q0 q1 q3
            obtain ⟨fl, hfl⟩ : ∃ fl, fl = (findS (fenceS T none none) ova asid).getD lf0 := ⟨_, rfl⟩
            obtain ⟨fb, hfb⟩ : ∃ fb, fb = (findS (fenceS T none none) ova asid).isSome := ⟨_, rfl⟩
            have HFW : Hid (LfWf fl) := Lib.hid (by rw [hfl]; exact find_wf S1.out.wf)
            rw [← hfl, ← hfb]
            have HFL := Lib.hid hfl
            have HFB := Lib.hid hfb
            have S2 := Lib.hid (ht6.push fl.cs 33 rfl)
            clear hfl hfb ht6 S1
            have p0 := (S2.out.at_ 3 _ rfl).cell 0
            have p1 := (S2.out.at_ 3 _ rfl).cell 1
            have p3 := (S2.out.at_ 3 _ rfl).cell 3
            rw [show (opC kind asid pick (ova : Int) l)[0]? = some (.int .i64 kind) from rfl] at p0
            rw [show (opC kind asid pick (ova : Int) l)[1]? = some (.int .i64 asid) from rfl] at p1
            rw [show (opC kind asid pick (ova : Int) l)[3]? = some (.int .u64 (ova : Int)) from rfl] at p3
            go_wp2_with (first | ((with_reducible refine wl_store_new 33 (.tmp 17) (.tmp 145) rfl ?_ w6 (World.heap w6).size 33 lf0.cs fl.cs ?_ ?_ ?_ ?_ ?_ ?_ ?_ ?_); exact rfl; exact rfl; exact rfl; exact rfl; exact rfl; exact rfl; exact leaf_row fl; exact lcs_one fl))
            refine (tp_rfind S2.out ova asid HOV.out).mono ?_
            rintro e w7 ⟨rfl, ht7⟩
            clear p0 p1 p3
            rw [← HFL.out, ← HFB.out]
            have S3 := Lib.hid (ht7.push fl.cs 33 rfl)
            clear ht7 S2
            go_wp2_with (first | ((with_reducible refine wl_store_new 33 (.tmp 19) (.tmp 154) rfl ?_ w7 (World.heap w7).size 33 lf0.cs fl.cs ?_ ?_ ?_ ?_ ?_ ?_ ?_ ?_); exact rfl; exact rfl; exact rfl; exact rfl; exact rfl; exact rfl; exact leaf_row fl; exact lcs_one fl))
            have heq := fun W => leaf_same W fl HFW.out
            obtain ⟨Ax, cx, hgx, _⟩ := id S3.out.drew.ref
            have HGX := Lib.hid hgx
            have hs2 : ∀ W', Ext (w7.alloc (.cells fl.cs 33)).drew W' → W'.cell? ⟨gx, 2, none⟩ = some (.slice Ax L1.length cx) := fun W' h => (h.cell HGX.out.lt).trans (HGX.out.cell 2)
            clear hgx
            refine wp_region_plan [(0, false), (1, false), (2, false), (3, false), (4, false), (5, false), (6, false), (7, false), (8, false), (9, false), (11, false), (12, false), (13, false), (14, false), (15, false), (10, true), (16, false), (17, false)] (by kernel_rfl) (by kernel_rfl) (fun _ d _ _ _ h => by cases d <;> exact h) ?_
            refine plan_take rfl (by kernel_rfl) (fun w' h' => run_load_op 33 (.tmp 17) rfl (w6.heap.size) 0 fl.cs rfl (((S3.out.drew.at_ 1 _ rfl).below h' (S3.out.drew.at_ 1 _ rfl).lt).range) (leaf_row fl)) ?_
            simp only [Act.put, List.setIfInBounds_toArray, List.set_cons_zero, List.set_cons_succ]
            refine plan_take rfl (by kernel_rfl) (fun w' h' => run_load_op 33 (.tmp 19) rfl (w7.heap.size) 0 fl.cs rfl (((S3.out.drew.at_ 0 _ rfl).below h' (S3.out.drew.at_ 0 _ rfl).lt).range) (leaf_row fl)) ?_
            simp only [Act.put, List.setIfInBounds_toArray, List.set_cons_zero, List.set_cons_succ]
            iterate 13 (refine plan_take (v := ?_) rfl (by kernel_rfl) ?_ ?_; rotate_left; (focus (intro w' hw'; try go_simp; try with_reducible rfl)); simp only [Act.put, List.setIfInBounds_toArray, List.set_cons_zero, List.set_cons_succ])
            refine plan_call rfl (by kernel_rfl) (by go_simp; exact ⟨rfl, rfl⟩) ?_
            refine (tp_blen S3.out.drew).mono ?_
            rintro e w9 ⟨rfl, hb9⟩
            refine ⟨_, rfl, hb9, ?_⟩
            simp only [Act.put, List.setIfInBounds_toArray, List.set_cons_zero, List.set_cons_succ]
            iterate 2 (refine plan_take (v := ?_) rfl (by kernel_rfl) ?_ ?_; rotate_left; (focus (intro w' hw'; try go_simp; try with_reducible rfl)); simp only [Act.put, List.setIfInBounds_toArray, List.set_cons_zero, List.set_cons_succ])
            refine plan_end ?_
            have HT9 := Lib.hid ((S3.out.drew.step hb9).only (loc' := []) (fun p hp => by simp at hp))
            clear heq hs2 hb9 S3
            go_wp2_with fail
            go_roundw
            case rel => exact ⟨k + 1, hkl, by omega, by go_num, _, _, _, HT9.out⟩
            case measure => simp [intOf]; omega
          · have j0 : ((u : Int) % 6 == 0) = false := by rw [show (u : Int) % 6 = 3 by omega]; rfl
            have j2 : ((u : Int) % 6 == 2) = false := by rw [show (u : Int) % 6 = 3 by omega]; rfl
            have j3 : ((u : Int) % 6 == 3) = true := by rw [show (u : Int) % 6 = 3 by omega]; rfl
            have j4 : ((u : Int) % 6 == 4) = false := by rw [show (u : Int) % 6 = 3 by omega]; rfl
            have jg : decide ((1 : Int) < (u : Int) % 6) = true := by rw [show (u : Int) % 6 = 3 by omega]; rfl
            have jg2 : (1 : Int) < (u : Int) % 6 := by omega
            clear hm6
            go_wp2_with fail
            refine (tp_bfence S5.out (some ova) none _ _ (fun v h => by injection h with h; rw [← h]; exact HOV.out) ⟨gv, rfl, (S5.out.at_ 0 _ rfl).cell 0⟩ rfl).mono ?_
            rintro e wb ⟨rfl, htb⟩
            have SB := Lib.hid htb
            clear htb q0 S5
            go_wp2_with fail
            refine (tp_rfence SB.out (some ova) none _ _ (fun v h => by injection h with h; rw [← h]; exact HOV.out) ⟨gv, rfl, (SB.out.at_ 0 _ rfl).cell 0⟩ rfl).mono ?_
            rintro e wc ⟨rfl, G1, L1, htc⟩
            have S1 := Lib.hid htc
            clear htc SB
            have q0 := (S1.out.at_ 2 _ rfl).cell 0
            have q1 := (S1.out.at_ 2 _ rfl).cell 1
            have q3 := (S1.out.at_ 2 _ rfl).cell 3
            rw [show (opC kind asid pick (ova : Int) l)[0]? = some (.int .i64 kind) from rfl] at q0
            rw [show (opC kind asid pick (ova : Int) l)[1]? = some (.int .i64 asid) from rfl] at q1
            rw [show (opC kind asid pick (ova : Int) l)[3]? = some (.int .u64 (ova : Int)) from rfl] at q3
            go_wp2_with fail
            refine (tp_bfind S1.out ova asid HOV.out).mono ?_
            rintro e w6 ⟨rfl, ht6⟩
            clear q0 q1 q3
            obtain ⟨fl, hfl⟩ : ∃ fl, fl = (findS (fenceS T (some ova) none) ova asid).getD lf0 := ⟨_, rfl⟩
            obtain ⟨fb, hfb⟩ : ∃ fb, fb = (findS (fenceS T (some ova) none) ova asid).isSome := ⟨_, rfl⟩
            have HFW : Hid (LfWf fl) := Lib.hid (by rw [hfl]; exact find_wf S1.out.wf)
            rw [← hfl, ← hfb]
            have HFL := Lib.hid hfl
            have HFB := Lib.hid hfb
            have S2 := Lib.hid (ht6.push fl.cs 33 rfl)
            clear hfl hfb ht6 S1
            have p0 := (S2.out.at_ 3 _ rfl).cell 0
            have p1 := (S2.out.at_ 3 _ rfl).cell 1
            have p3 := (S2.out.at_ 3 _ rfl).cell 3
            rw [show (opC kind asid pick (ova : Int) l)[0]? = some (.int .i64 kind) from rfl] at p0
            rw [show (opC kind asid pick (ova : Int) l)[1]? = some (.int .i64 asid) from rfl] at p1
            rw [show (opC kind asid pick (ova : Int) l)[3]? = some (.int .u64 (ova : Int)) from rfl] at p3
            go_wp2_with (first | ((with_reducible refine wl_store_new 33 (.tmp 17) (.tmp 145) rfl ?_ w6 (World.heap w6).size 33 lf0.cs fl.cs ?_ ?_ ?_ ?_ ?_ ?_ ?_ ?_); exact rfl; exact rfl; exact rfl; exact rfl; exact rfl; exact rfl; exact leaf_row fl; exact lcs_one fl))
            refine (tp_rfind S2.out ova asid HOV.out).mono ?_
            rintro e w7 ⟨rfl, ht7⟩
            clear p0 p1 p3
            rw [← HFL.out, ← HFB.out]
            have S3 := Lib.hid (ht7.push fl.cs 33 rfl)
            clear ht7 S2
            go_wp2_with (first | ((with_reducible refine wl_store_new 33 (.tmp 19) (.tmp 154) rfl ?_ w7 (World.heap w7).size 33 lf0.cs fl.cs ?_ ?_ ?_ ?_ ?_ ?_ ?_ ?_); exact rfl; exact rfl; exact rfl; exact rfl; exact rfl; exact rfl; exact leaf_row fl; exact lcs_one fl))
            have heq := fun W => leaf_same W fl HFW.out
            obtain ⟨Ax, cx, hgx, _⟩ := id S3.out.drew.ref
            have HGX := Lib.hid hgx
            have hs2 : ∀ W', Ext (w7.alloc (.cells fl.cs 33)).drew W' → W'.cell? ⟨gx, 2, none⟩ = some (.slice Ax L1.length cx) := fun W' h => (h.cell HGX.out.lt).trans (HGX.out.cell 2)
            clear hgx
            refine wp_region_plan [(0, false), (1, false), (2, false), (3, false), (4, false), (5, false), (6, false), (7, false), (8, false), (9, false), (11, false), (12, false), (13, false), (14, false), (15, false), (10, true), (16, false), (17, false)] (by kernel_rfl) (by kernel_rfl) (fun _ d _ _ _ h => by cases d <;> exact h) ?_
            refine plan_take rfl (by kernel_rfl) (fun w' h' => run_load_op 33 (.tmp 17) rfl (w6.heap.size) 0 fl.cs rfl (((S3.out.drew.at_ 1 _ rfl).below h' (S3.out.drew.at_ 1 _ rfl).lt).range) (leaf_row fl)) ?_
            simp only [Act.put, List.setIfInBounds_toArray, List.set_cons_zero, List.set_cons_succ]
            refine plan_take rfl (by kernel_rfl) (fun w' h' => run_load_op 33 (.tmp 19) rfl (w7.heap.size) 0 fl.cs rfl (((S3.out.drew.at_ 0 _ rfl).below h' (S3.out.drew.at_ 0 _ rfl).lt).range) (leaf_row fl)) ?_
            simp only [Act.put, List.setIfInBounds_toArray, List.set_cons_zero, List.set_cons_succ]
            iterate 13 (refine plan_take (v := ?_) rfl (by kernel_rfl) ?_ ?_; rotate_left; (focus (intro w' hw'; try go_simp; try with_reducible rfl)); simp only [Act.put, List.setIfInBounds_toArray, List.set_cons_zero, List.set_cons_succ])
            refine plan_call rfl (by kernel_rfl) (by go_simp; exact ⟨rfl, rfl⟩) ?_
            refine (tp_blen S3.out.drew).mono ?_
            rintro e w9 ⟨rfl, hb9⟩
            refine ⟨_, rfl, hb9, ?_⟩
            simp only [Act.put, List.setIfInBounds_toArray, List.set_cons_zero, List.set_cons_succ]
            iterate 2 (refine plan_take (v := ?_) rfl (by kernel_rfl) ?_ ?_; rotate_left; (focus (intro w' hw'; try go_simp; try with_reducible rfl)); simp only [Act.put, List.setIfInBounds_toArray, List.set_cons_zero, List.set_cons_succ])
            refine plan_end ?_
            have HT9 := Lib.hid ((S3.out.drew.step hb9).only (loc' := []) (fun p hp => by simp at hp))
            clear heq hs2 hb9 S3
            go_wp2_with fail
            go_roundw
            case rel => exact ⟨k + 1, hkl, by omega, by go_num, _, _, _, HT9.out⟩
            case measure => simp [intOf]; omega
          · have j0 : ((u : Int) % 6 == 0) = false := by rw [show (u : Int) % 6 = 4 by omega]; rfl
            have j2 : ((u : Int) % 6 == 2) = false := by rw [show (u : Int) % 6 = 4 by omega]; rfl
            have j3 : ((u : Int) % 6 == 3) = false := by rw [show (u : Int) % 6 = 4 by omega]; rfl
            have j4 : ((u : Int) % 6 == 4) = true := by rw [show (u : Int) % 6 = 4 by omega]; rfl
            have jg : decide ((1 : Int) < (u : Int) % 6) = true := by rw [show (u : Int) % 6 = 4 by omega]; rfl
            have jg2 : (1 : Int) < (u : Int) % 6 := by omega
            clear hm6
            go_wp2_with fail
            refine (tp_bfence S5.out none (some asid) _ _ (fun v h => by cases h) rfl ⟨ga, rfl, (S5.out.at_ 1 _ rfl).cell 0⟩).mono ?_
            rintro e wb ⟨rfl, htb⟩
            have SB := Lib.hid htb
            clear htb q0 S5
            go_wp2_with fail
            refine (tp_rfence SB.out none (some asid) _ _ (fun v h => by cases h) rfl ⟨ga, rfl, (SB.out.at_ 1 _ rfl).cell 0⟩).mono ?_
            rintro e wc ⟨rfl, G1, L1, htc⟩
            have S1 := Lib.hid htc
            clear htc SB
            have q0 := (S1.out.at_ 2 _ rfl).cell 0
            have q1 := (S1.out.at_ 2 _ rfl).cell 1
            have q3 := (S1.out.at_ 2 _ rfl).cell 3
            rw [show (opC kind asid pick (ova : Int) l)[0]? = some (.int .i64 kind) from rfl] at q0
            rw [show (opC kind asid pick (ova : Int) l)[1]? = some (.int .i64 asid) from rfl] at q1
            rw [show (opC kind asid pick (ova : Int) l)[3]? = some (.int .u64 (ova : Int)) from rfl] at q3
            go_wp2_with fail
            refine (tp_bfind S1.out ova asid HOV.out).mono ?_
            rintro e w6 ⟨rfl, ht6⟩
            clear q0 q1 q3
            obtain ⟨fl, hfl⟩ : ∃ fl, fl = (findS (fenceS T none (some asid)) ova asid).getD lf0 := ⟨_, rfl⟩
            obtain ⟨fb, hfb⟩ : ∃ fb, fb = (findS (fenceS T none (some asid)) ova asid).isSome := ⟨_, rfl⟩
            have HFW : Hid (LfWf fl) := Lib.hid (by rw [hfl]; exact find_wf S1.out.wf)
            rw [← hfl, ← hfb]
            have HFL := Lib.hid hfl
            have HFB := Lib.hid hfb
            have S2 := Lib.hid (ht6.push fl.cs 33 rfl)
            clear hfl hfb ht6 S1
            have p0 := (S2.out.at_ 3 _ rfl).cell 0
            have p1 := (S2.out.at_ 3 _ rfl).cell 1
            have p3 := (S2.out.at_ 3 _ rfl).cell 3
            rw [show (opC kind asid pick (ova : Int) l)[0]? = some (.int .i64 kind) from rfl] at p0
            rw [show (opC kind asid pick (ova : Int) l)[1]? = some (.int .i64 asid) from rfl] at p1
            rw [show (opC kind asid pick (ova : Int) l)[3]? = some (.int .u64 (ova : Int)) from rfl] at p3
            go_wp2_with (first | ((with_reducible refine wl_store_new 33 (.tmp 17) (.tmp 145) rfl ?_ w6 (World.heap w6).size 33 lf0.cs fl.cs ?_ ?_ ?_ ?_ ?_ ?_ ?_ ?_); exact rfl; exact rfl; exact rfl; exact rfl; exact rfl; exact rfl; exact leaf_row fl; exact lcs_one fl))
            refine (tp_rfind S2.out ova asid HOV.out).mono ?_
            rintro e w7 ⟨rfl, ht7⟩
            clear p0 p1 p3
            rw [← HFL.out, ← HFB.out]
            have S3 := Lib.hid (ht7.push fl.cs 33 rfl)
            clear ht7 S2
            go_wp2_with (first | ((with_reducible refine wl_store_new 33 (.tmp 19) (.tmp 154) rfl ?_ w7 (World.heap w7).size 33 lf0.cs fl.cs ?_ ?_ ?_ ?_ ?_ ?_ ?_ ?_); exact rfl; exact rfl; exact rfl; exact rfl; exact rfl; exact rfl; exact leaf_row fl; exact lcs_one fl))
            have heq := fun W => leaf_same W fl HFW.out
            obtain ⟨Ax, cx, hgx, _⟩ := id S3.out.drew.ref
            have HGX := Lib.hid hgx
            have hs2 : ∀ W', Ext (w7.alloc (.cells fl.cs 33)).drew W' → W'.cell? ⟨gx, 2, none⟩ = some (.slice Ax L1.length cx) := fun W' h => (h.cell HGX.out.lt).trans (HGX.out.cell 2)
            clear hgx
            refine wp_region_plan [(0, false), (1, false), (2, false), (3, false), (4, false), (5, false), (6, false), (7, false), (8, false), (9, false), (11, false), (12, false), (13, false), (14, false), (15, false), (10, true), (16, false), (17, false)] (by kernel_rfl) (by kernel_rfl) (fun _ d _ _ _ h => by cases d <;> exact h) ?_
            refine plan_take rfl (by kernel_rfl) (fun w' h' => run_load_op 33 (.tmp 17) rfl (w6.heap.size) 0 fl.cs rfl (((S3.out.drew.at_ 1 _ rfl).below h' (S3.out.drew.at_ 1 _ rfl).lt).range) (leaf_row fl)) ?_
            simp only [Act.put, List.setIfInBounds_toArray, List.set_cons_zero, List.set_cons_succ]
            refine plan_take rfl (by kernel_rfl) (fun w' h' => run_load_op 33 (.tmp 19) rfl (w7.heap.size) 0 fl.cs rfl (((S3.out.drew.at_ 0 _ rfl).below h' (S3.out.drew.at_ 0 _ rfl).lt).range) (leaf_row fl)) ?_
            simp only [Act.put, List.setIfInBounds_toArray, List.set_cons_zero, List.set_cons_succ]
            iterate 13 (refine plan_take (v := ?_) rfl (by kernel_rfl) ?_ ?_; rotate_left; (focus (intro w' hw'; try go_simp; try with_reducible rfl)); simp only [Act.put, List.setIfInBounds_toArray, List.set_cons_zero, List.set_cons_succ])
            refine plan_call rfl (by kernel_rfl) (by go_simp; exact ⟨rfl, rfl⟩) ?_
            refine (tp_blen S3.out.drew).mono ?_
            rintro e w9 ⟨rfl, hb9⟩
            refine ⟨_, rfl, hb9, ?_⟩
            simp only [Act.put, List.setIfInBounds_toArray, List.set_cons_zero, List.set_cons_succ]
            iterate 2 (refine plan_take (v := ?_) rfl (by kernel_rfl) ?_ ?_; rotate_left; (focus (intro w' hw'; try go_simp; try with_reducible rfl)); simp only [Act.put, List.setIfInBounds_toArray, List.set_cons_zero, List.set_cons_succ])
            refine plan_end ?_
            have HT9 := Lib.hid ((S3.out.drew.step hb9).only (loc' := []) (fun p hp => by simp at hp))
            clear heq hs2 hb9 S3
            go_wp2_with fail
            go_roundw
            case rel => exact ⟨k + 1, hkl, by omega, by go_num, _, _, _, HT9.out⟩
            case measure => simp [intOf]; omega
          · have j0 : ((u : Int) % 6 == 0) = false := by rw [show (u : Int) % 6 = 5 by omega]; rfl
            have j2 : ((u : Int) % 6 == 2) = false := by rw [show (u : Int) % 6 = 5 by omega]; rfl
            have j3 : ((u : Int) % 6 == 3) = false := by rw [show (u : Int) % 6 = 5 by omega]; rfl
            have j4 : ((u : Int) % 6 == 4) = false := by rw [show (u : Int) % 6 = 5 by omega]; rfl
            have jg : decide ((1 : Int) < (u : Int) % 6) = true := by rw [show (u : Int) % 6 = 5 by omega]; rfl
            have jg2 : (1 : Int) < (u : Int) % 6 := by omega
            clear hm6
            go_wp2_with fail
            refine (tp_bfence S5.out (some ova) (some asid) _ _ (fun v h => by injection h with h; rw [← h]; exact HOV.out) ⟨gv, rfl, (S5.out.at_ 0 _ rfl).cell 0⟩ ⟨ga, rfl, (S5.out.at_ 1 _ rfl).cell 0⟩).mono ?_
            rintro e wb ⟨rfl, htb⟩
            have SB := Lib.hid htb
            clear htb q0 S5
            go_wp2_with fail
            refine (tp_rfence SB.out (some ova) (some asid) _ _ (fun v h => by injection h with h; rw [← h]; exact HOV.out) ⟨gv, rfl, (SB.out.at_ 0 _ rfl).cell 0⟩ ⟨ga, rfl, (SB.out.at_ 1 _ rfl).cell 0⟩).mono ?_
            rintro e wc ⟨rfl, G1, L1, htc⟩
            have S1 := Lib.hid htc
            clear htc SB
            have q0 := (S1.out.at_ 2 _ rfl).cell 0
            have q1 := (S1.out.at_ 2 _ rfl).cell 1
            have q3 := (S1.out.at_ 2 _ rfl).cell 3
            rw [show (opC kind asid pick (ova : Int) l)[0]? = some (.int .i64 kind) from rfl] at q0
            rw [show (opC kind asid pick (ova : Int) l)[1]? = some (.int .i64 asid) from rfl] at q1
            rw [show (opC kind asid pick (ova : Int) l)[3]? = some (.int .u64 (ova : Int)) from rfl] at q3
            go_wp2_with fail
            refine (tp_bfind S1.out ova asid HOV.out).mono ?_
            rintro e w6 ⟨rfl, ht6⟩
            clear q0 q1 q3
            obtain ⟨fl, hfl⟩ : ∃ fl, fl = (findS (fenceS T (some ova) (some asid)) ova asid).getD lf0 := ⟨_, rfl⟩
            obtain ⟨fb, hfb⟩ : ∃ fb, fb = (findS (fenceS T (some ova) (some asid)) ova asid).isSome := ⟨_, rfl⟩
            have HFW : Hid (LfWf fl) := Lib.hid (by rw [hfl]; exact find_wf S1.out.wf)
            rw [← hfl, ← hfb]
            have HFL := Lib.hid hfl
            have HFB := Lib.hid hfb
            have S2 := Lib.hid (ht6.push fl.cs 33 rfl)
            clear hfl hfb ht6 S1
            have p0 := (S2.out.at_ 3 _ rfl).cell 0
            have p1 := (S2.out.at_ 3 _ rfl).cell 1
            have p3 := (S2.out.at_ 3 _ rfl).cell 3
            rw [show (opC kind asid pick (ova : Int) l)[0]? = some (.int .i64 kind) from rfl] at p0
            rw [show (opC kind asid pick (ova : Int) l)[1]? = some (.int .i64 asid) from rfl] at p1
            rw [show (opC kind asid pick (ova : Int) l)[3]? = some (.int .u64 (ova : Int)) from rfl] at p3
            go_wp2_with (first | ((with_reducible refine wl_store_new 33 (.tmp 17) (.tmp 145) rfl ?_ w6 (World.heap w6).size 33 lf0.cs fl.cs ?_ ?_ ?_ ?_ ?_ ?_ ?_ ?_); exact rfl; exact rfl; exact rfl; exact rfl; exact rfl; exact rfl; exact leaf_row fl; exact lcs_one fl))
            refine (tp_rfind S2.out ova asid HOV.out).mono ?_
            rintro e w7 ⟨rfl, ht7⟩
            clear p0 p1 p3
            rw [← HFL.out, ← HFB.out]
            have S3 := Lib.hid (ht7.push fl.cs 33 rfl)
            clear ht7 S2
            go_wp2_with (first | ((with_reducible refine wl_store_new 33 (.tmp 19) (.tmp 154) rfl ?_ w7 (World.heap w7).size 33 lf0.cs fl.cs ?_ ?_ ?_ ?_ ?_ ?_ ?_ ?_); exact rfl; exact rfl; exact rfl; exact rfl; exact rfl; exact rfl; exact leaf_row fl; exact lcs_one fl))
            have heq := fun W => leaf_same W fl HFW.out
            obtain ⟨Ax, cx, hgx, _⟩ := id S3.out.drew.ref
            have HGX := Lib.hid hgx
            have hs2 : ∀ W', Ext (w7.alloc (.cells fl.cs 33)).drew W' → W'.cell? ⟨gx, 2, none⟩ = some (.slice Ax L1.length cx) := fun W' h => (h.cell HGX.out.lt).trans (HGX.out.cell 2)
            clear hgx
            refine wp_region_plan [(0, false), (1, false), (2, false), (3, false), (4, false), (5, false), (6, false), (7, false), (8, false), (9, false), (11, false), (12, false), (13, false), (14, false), (15, false), (10, true), (16, false), (17, false)] (by kernel_rfl) (by kernel_rfl) (fun _ d _ _ _ h => by cases d <;> exact h) ?_
            refine plan_take rfl (by kernel_rfl) (fun w' h' => run_load_op 33 (.tmp 17) rfl (w6.heap.size) 0 fl.cs rfl (((S3.out.drew.at_ 1 _ rfl).below h' (S3.out.drew.at_ 1 _ rfl).lt).range) (leaf_row fl)) ?_
            simp only [Act.put, List.setIfInBounds_toArray, List.set_cons_zero, List.set_cons_succ]
            refine plan_take rfl (by kernel_rfl) (fun w' h' => run_load_op 33 (.tmp 19) rfl (w7.heap.size) 0 fl.cs rfl (((S3.out.drew.at_ 0 _ rfl).below h' (S3.out.drew.at_ 0 _ rfl).lt).range) (leaf_row fl)) ?_
            simp only [Act.put, List.setIfInBounds_toArray, List.set_cons_zero, List.set_cons_succ]
            iterate 13 (refine plan_take (v := ?_) rfl (by kernel_rfl) ?_ ?_; rotate_left; (focus (intro w' hw'; try go_simp; try with_reducible rfl)); simp only [Act.put, List.setIfInBounds_toArray, List.set_cons_zero, List.set_cons_succ])
            refine plan_call rfl (by kernel_rfl) (by go_simp; exact ⟨rfl, rfl⟩) ?_
            refine (tp_blen S3.out.drew).mono ?_
            rintro e w9 ⟨rfl, hb9⟩
            refine ⟨_, rfl, hb9, ?_⟩
            simp only [Act.put, List.setIfInBounds_toArray, List.set_cons_zero, List.set_cons_succ]
            iterate 2 (refine plan_take (v := ?_) rfl (by kernel_rfl) ?_ ?_; rotate_left; (focus (intro w' hw'; try go_simp; try with_reducible rfl)); simp only [Act.put, List.setIfInBounds_toArray, List.set_cons_zero, List.set_cons_succ])
            refine plan_end ?_
            have HT9 := Lib.hid ((S3.out.drew.step hb9).only (loc' := []) (fun p hp => by simp at hp))
            clear heq hs2 hb9 S3
            go_wp2_with fail
            go_roundw
            case rel => exact ⟨k + 1, hkl, by omega, by go_num, _, _, _, HT9.out⟩
            case measure => simp [intOf]; omega
    · obtain rfl : len = k := by omega
      go_wp2_with fail
      refine (tp_blist HT.out).mono ?_
      rintro e w8 ⟨A1, c1, rfl, hr1, ht1⟩
      have HR1 := Lib.hid hr1
      have HT1 := Lib.hid ht1
      clear hr1 ht1
      go_wp2_with fail
      refine (tp_rlist HT1.out).mono ?_
      rintro e w9 ⟨A2, c2, rfl, hr2, hb9, ht2⟩
      have HR2 := Lib.hid hr2
      have HB9 := Lib.hid hb9
      have HT2 := Lib.hid ht2
      clear hr2 hb9 ht2
      go_wp2_with fail
      refine (same_any A1 A2 c1 c2 (listT 0 T) _ (by have := HT2.out.ok.slots (List.Perm.refl _); omega) (HR1.out.below HB9.out) HR2.out (slots_wf HT2.out.ok HT2.out.wf)).mono ?_
      rintro e w10 ⟨rfl, hb10⟩
      have HBZ := Lib.hid (HT2.out.bel.trans (hb10.mono HT2.out.bel.size))
      clear hb10
      go_wp2_with fail
      go_ret
      exact ⟨rfl, HBZ.out⟩
end Go.Proofs.Ytnjoobggcejgkaa
