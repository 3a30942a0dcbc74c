/- Merged texts: TabG, TabH, TabI, TabJ. -/
import Derived.Test.YtophcgbddccpeaaGreatSk6
import Derived.Test.YtophcgbddccpeaaGreatReads
/- An entry is taken away; tables are made. -/
namespace Go.Proofs.YtophcgbddccpeaaGreat
open Go.RowKit

def UnmapTo (c : TC) (σ : TS) (Fm Fs : Nat → Prop) (va : Nat) (W : World) (e : Ending) (w' : World) : Prop :=
  e = .returned (.tuple #[.agg (unmapR c σ va).1.cs, .int .i64 (unmapR c σ va).2.1]) ∧ TabTo W c (unmapR c σ va).2.2 Fm Fs w'
set_option maxRecDepth 100000 in
set_option maxHeartbeats 1500000 in
theorem unmap_err (c : TC) (σ : TS) (Fm Fs : Nat → Prop) (va : Nat) (W : World) (h : TabAt W c σ Fm Fs) (hv : va < 18446744073709551616) (e : Int) (hf : findT c σ va = .err e) :
    Calls Tryz.prog 47 #[.pointer (some ⟨c.tb, 0, none⟩), .int .u64 (va : Int)] W (UnmapTo c σ Fm Fs va W) := by
  have HE : Hid (Below W.heap.size W (W.alloc (.cells #[.bool false, .bool false, .bool false, .bool false, .bool false, .bool false, .bool false, .bool false, .int .i64 0, .int .u64 0] 96))) := Lib.hid ((Below.refl _ W).alloc (Nat.le_refl _) _)
  have HB : Hid (Blk (W.alloc (.cells #[.bool false, .bool false, .bool false, .bool false, .bool false, .bool false, .bool false, .bool false, .int .i64 0, .int .u64 0] 96)) W.heap.size 96 #[.bool false, .bool false, .bool false, .bool false, .bool false, .bool false, .bool false, .bool false, .int .i64 0, .int .u64 0]) := Lib.hid (Blkf.new_at _ _ _ _ rfl)
  have H0 := Lib.hid (h.below HE.out)
  have HPB : Hid (¬ TabF c Fm Fs W.heap.size) := Lib.hid (fun hf => Nat.lt_irrefl _ (h.lt hf))
  have HV := Lib.hid hv
  have HFD := Lib.hid hf
  clear h hv
  have HR : Hid (unmapR c σ va = (pte0, e, σ)) := Lib.hid (by unfold unmapR; rw [hf])
  have hne := findT_err hf
  have b1 : (e != 0) = true := by simpa using hne
  have b0 : (e == 0) = false := by simpa using hne
  clear hf
  go_enter Tryz.func47, Tryz.ntmps47
  go_upto_region 1 with fail
  obtain ⟨rb, hrb⟩ : ∃ q, q = W.heap.size := ⟨_, rfl⟩
  rw [← hrb] at HB HPB ⊢
  have HRB := Lib.hid hrb
  clear hrb
  generalize W.alloc (.cells #[.bool false, .bool false, .bool false, .bool false, .bool false, .bool false, .bool false, .bool false, .int .i64 0, .int .u64 0] 96) = w0 at *
  go_wp2_with fail
  refine (Find_t c σ Fm Fs va _ H0.out HV.out).mono ?_
  rintro e1 w1 ⟨rfl, hb⟩
  rw [HFD.out]
  have HB1 := Lib.hid (HB.out.below hb HB.out.lt)
  have H1 := Lib.hid (H0.out.below hb)
  have E1 := Lib.hid (HE.out.trans (hb.mono HE.out.size))
  clear hb H0 HB HE
  unfold fdV fdE
  have HB2 : Hid (Blk (w1.alloc (.cells #[.bool false, .bool false, .bool false, .bool false, .bool false, .bool false, .bool false, .bool false, .int .i64 0, .int .u64 0, .int .i64 0, .int .u64 0] 98)) rb 96 #[.bool false, .bool false, .bool false, .bool false, .bool false, .bool false, .bool false, .bool false, .int .i64 0, .int .u64 0]) := Lib.hid (HB1.out.alloc _)
  have E2 : Hid (Below W.heap.size W (w1.alloc (.cells #[.bool false, .bool false, .bool false, .bool false, .bool false, .bool false, .bool false, .bool false, .int .i64 0, .int .u64 0, .int .i64 0, .int .u64 0] 98))) := Lib.hid (E1.out.alloc E1.out.size _)
  have T2 : Hid (TabAt (w1.alloc (.cells #[.bool false, .bool false, .bool false, .bool false, .bool false, .bool false, .bool false, .bool false, .int .i64 0, .int .u64 0, .int .i64 0, .int .u64 0] 98)) c σ Fm Fs) := Lib.hid (H1.out.below ((Below.refl _ w1).alloc (Nat.le_refl _) _))
  go_upto_region 3 with fail
  generalize w1.alloc (.cells #[.bool false, .bool false, .bool false, .bool false, .bool false, .bool false, .bool false, .bool false, .int .i64 0, .int .u64 0, .int .i64 0, .int .u64 0] 98) = w2 at *
  have HB2' : Hid (Blk w2 rb 96 pte0.cs) := HB2
  go_wp2_with ((with_reducible refine wl_store 96 (.tmp 4) (.tmp 16) rfl ?_ rb 96 pte0.cs pte0.cs ?_ ?_ HB2'.out ?_ ?_ ?_ ?_); exact rfl; exact rfl; exact rfl; exact rfl; exact prow _; exact pcs_one _)
  have HB3 := Lib.hid (Blkf.setRow HB2'.out pte0.cs)
  have K3 : Hid (Keeps (fun b => b = rb) w2 (w2.setRow rb pte0.cs)) := Lib.hid (Keeps.setRow (F := fun b => b = rb) (Keeps.refl _ _) (.inl rfl) _)
  refine bodyPost_ret (v := .tuple #[.agg pte0.cs, .int .i64 e]) (res_cell_slot Tryz.results47 _ _ rb 96 _ _ rfl rfl HB3.out (prow _)) rfl ?_
  unfold UnmapTo
  rw [HR.out]
  have hb3 : Below W.heap.size W (w2.setRow rb pte0.cs) := E2.out.trans (K3.out.below (fun i e => by rw [e, HRB.out]; exact Nat.le_refl _) E2.out.size)
  exact ⟨rfl, Fm, Fs, T2.out.keeps K3.out (fun b hb e => HPB.out (e ▸ hb)), fun _ h => .inl h, fun _ h => .inl h, Keeps.of_below hb3⟩
set_option maxRecDepth 100000 in
set_option maxHeartbeats 1500000 in
theorem unmap_leaf (c : TC) (σ : TS) (Fm Fs : Nat → Prop) (va : Nat) (W : World) (h : TabAt W c σ Fm Fs) (hv : va < 18446744073709551616) (X L A : Nat) (hf : findT c σ va = .leaf X L A) :
    Calls Tryz.prog 47 #[.pointer (some ⟨c.tb, 0, none⟩), .int .u64 (va : Int)] W (UnmapTo c σ Fm Fs va W) := by
  have HE : Hid (Below W.heap.size W (W.alloc (.cells #[.bool false, .bool false, .bool false, .bool false, .bool false, .bool false, .bool false, .bool false, .int .i64 0, .int .u64 0] 96))) := Lib.hid ((Below.refl _ W).alloc (Nat.le_refl _) _)
  have HB : Hid (Blk (W.alloc (.cells #[.bool false, .bool false, .bool false, .bool false, .bool false, .bool false, .bool false, .bool false, .int .i64 0, .int .u64 0] 96)) W.heap.size 96 #[.bool false, .bool false, .bool false, .bool false, .bool false, .bool false, .bool false, .bool false, .int .i64 0, .int .u64 0]) := Lib.hid (Blkf.new_at _ _ _ _ rfl)
  have H0 := Lib.hid (h.below HE.out)
  have HPB : Hid (¬ TabF c Fm Fs W.heap.size) := Lib.hid (fun hf => Nat.lt_irrefl _ (h.lt hf))
  have HV := Lib.hid hv
  have HFD := Lib.hid hf
  clear h hv
  have HR : Hid (unmapR c σ va = (entP X, 0, ⟨stR c.n σ.S A 8 0, σ.k, σ.u⟩)) := Lib.hid (by unfold unmapR; rw [hf])
  clear hf
  go_enter Tryz.func47, Tryz.ntmps47
  go_upto_region 1 with fail
  obtain ⟨rb, hrb⟩ : ∃ q, q = W.heap.size := ⟨_, rfl⟩
  rw [← hrb] at HB HPB ⊢
  have HRB := Lib.hid hrb
  clear hrb
  generalize W.alloc (.cells #[.bool false, .bool false, .bool false, .bool false, .bool false, .bool false, .bool false, .bool false, .int .i64 0, .int .u64 0] 96) = w0 at *
  go_wp2_with fail
  refine (Find_t c σ Fm Fs va _ H0.out HV.out).mono ?_
  rintro e1 w1 ⟨rfl, hb⟩
  rw [HFD.out]
  have HB1 := Lib.hid (HB.out.below hb HB.out.lt)
  have H1 := Lib.hid (H0.out.below hb)
  have E1 := Lib.hid (HE.out.trans (hb.mono HE.out.size))
  clear hb H0 HB HE
  obtain ⟨hl2, ha8, han, hxx⟩ := findT_leaf HFD.out
  have HCK : Hid (chkE c.n A 8 = 0) := Lib.hid (chk8_of ha8 han)
  have hcn : c.n ≤ 1048576 := by
    obtain ⟨_, _, _, hm, _⟩ := H1.out.mem
    exact hm.n2
  have HAL : Hid (A < 18446744073709551616) := Lib.hid (by omega)
  clear ha8 han hxx hcn
  unfold fdV fdE
  obtain ⟨c0, hc0⟩ : ∃ q, q = bitB X 0 := ⟨_, rfl⟩
  obtain ⟨c1, hc1⟩ : ∃ q, q = bitB X 1 := ⟨_, rfl⟩
  obtain ⟨c2, hc2⟩ : ∃ q, q = bitB X 2 := ⟨_, rfl⟩
  obtain ⟨c3, hc3⟩ : ∃ q, q = bitB X 3 := ⟨_, rfl⟩
  obtain ⟨c4, hc4⟩ : ∃ q, q = bitB X 4 := ⟨_, rfl⟩
  obtain ⟨c5, hc5⟩ : ∃ q, q = bitB X 5 := ⟨_, rfl⟩
  obtain ⟨c6, hc6⟩ : ∃ q, q = bitB X 6 := ⟨_, rfl⟩
  obtain ⟨c7, hc7⟩ : ∃ q, q = bitB X 7 := ⟨_, rfl⟩
  obtain ⟨rq, hrq⟩ : ∃ q, q = (X : Int) / 256 % 4 := ⟨_, rfl⟩
  obtain ⟨pq, hpq⟩ : ∃ q, q = (X : Int) / 1024 % 17592186044416 := ⟨_, rfl⟩
  simp only [← hc0, ← hc1, ← hc2, ← hc3, ← hc4, ← hc5, ← hc6, ← hc7, ← hrq, ← hpq]
  have HEQ := Lib.hid (⟨hc0, hc1, hc2, hc3, hc4, hc5, hc6, hc7, hrq, hpq⟩ : c0 = bitB X 0 ∧ c1 = bitB X 1 ∧ c2 = bitB X 2 ∧ c3 = bitB X 3 ∧ c4 = bitB X 4 ∧ c5 = bitB X 5 ∧ c6 = bitB X 6 ∧ c7 = bitB X 7 ∧ rq = (X : Int) / 256 % 4 ∧ pq = (X : Int) / 1024 % 17592186044416)
  clear hc0 hc1 hc2 hc3 hc4 hc5 hc6 hc7 hrq hpq
  have HEP : Hid ((entP X).cs = #[.bool c0, .bool c1, .bool c2, .bool c3, .bool c4, .bool c5, .bool c6, .bool c7, .int .i64 rq, .int .u64 pq]) := Lib.hid (by
    obtain ⟨h0, h1, h2, h3, h4, h5, h6, h7, h8, h9⟩ := HEQ.out
    rw [h0, h1, h2, h3, h4, h5, h6, h7, h8, h9]
    unfold Pte.cs entP
    simp only [Int.natCast_emod, Int.natCast_ediv]
    rfl)
  have T2 : Hid (TabAt (w1.alloc (.cells #[.bool c0, .bool c1, .bool c2, .bool c3, .bool c4, .bool c5, .bool c6, .bool c7, .int .i64 rq, .int .u64 pq, .int .i64 (L : Int), .int .u64 (A : Int)] 98)) c σ Fm Fs) := Lib.hid (H1.out.below ((Below.refl _ w1).alloc (Nat.le_refl _) _))
  have B2 : Hid (Below W.heap.size W (w1.alloc (.cells #[.bool c0, .bool c1, .bool c2, .bool c3, .bool c4, .bool c5, .bool c6, .bool c7, .int .i64 rq, .int .u64 pq, .int .i64 (L : Int), .int .u64 (A : Int)] 98))) := Lib.hid (E1.out.alloc E1.out.size _)
  have HL2 : Hid (Blk (w1.alloc (.cells #[.bool c0, .bool c1, .bool c2, .bool c3, .bool c4, .bool c5, .bool c6, .bool c7, .int .i64 rq, .int .u64 pq, .int .i64 (L : Int), .int .u64 (A : Int)] 98)) w1.heap.size 98 #[.bool c0, .bool c1, .bool c2, .bool c3, .bool c4, .bool c5, .bool c6, .bool c7, .int .i64 rq, .int .u64 pq, .int .i64 (L : Int), .int .u64 (A : Int)]) := Lib.hid (Blkf.new_at _ _ _ _ rfl)
  have HB2 : Hid (Blk (w1.alloc (.cells #[.bool c0, .bool c1, .bool c2, .bool c3, .bool c4, .bool c5, .bool c6, .bool c7, .int .i64 rq, .int .u64 pq, .int .i64 (L : Int), .int .u64 (A : Int)] 98)) rb 96 pte0.cs) := Lib.hid (HB1.out.alloc (.cells #[.bool c0, .bool c1, .bool c2, .bool c3, .bool c4, .bool c5, .bool c6, .bool c7, .int .i64 rq, .int .u64 pq, .int .i64 (L : Int), .int .u64 (A : Int)] 98))
  have HLN : Hid (¬ TabF c Fm Fs w1.heap.size) := Lib.hid (fun hf => Nat.lt_irrefl _ (H1.out.lt hf))
  have HRL : Hid (rb ≠ w1.heap.size) := Lib.hid (by have := HB1.out.lt; omega)
  go_wp2_with fail
  generalize w1.alloc (.cells #[.bool c0, .bool c1, .bool c2, .bool c3, .bool c4, .bool c5, .bool c6, .bool c7, .int .i64 rq, .int .u64 pq, .int .i64 (L : Int), .int .u64 (A : Int)] 98) = w2 at *
  generalize w1.heap.size = lb at *
  have HD4 := Lib.hid (T2.out.hd.drew)
  have HL4 := Lib.hid (HL2.out.drew)
  have H5 : Hid (TabAt w2.drew c σ Fm Fs) := Lib.hid (T2.out.below (Below.refl _ w2).drew)
  have s0 := fun (W' : World) (h : Hold [c.tb, lb] w2.drew W') => (h.cell (b := c.tb) (by simp) 0).trans (HD4.out.cell 0)
  have l0 := fun (W' : World) (h : Hold [c.tb, lb] w2.drew W') => (h.cell (b := lb) (by simp) 0).trans (HL4.out.cell 0)
  have l1 := fun (W' : World) (h : Hold [c.tb, lb] w2.drew W') => (h.cell (b := lb) (by simp) 1).trans (HL4.out.cell 1)
  have l2 := fun (W' : World) (h : Hold [c.tb, lb] w2.drew W') => (h.cell (b := lb) (by simp) 2).trans (HL4.out.cell 2)
  have l3 := fun (W' : World) (h : Hold [c.tb, lb] w2.drew W') => (h.cell (b := lb) (by simp) 3).trans (HL4.out.cell 3)
  have l4 := fun (W' : World) (h : Hold [c.tb, lb] w2.drew W') => (h.cell (b := lb) (by simp) 4).trans (HL4.out.cell 4)
  have l5 := fun (W' : World) (h : Hold [c.tb, lb] w2.drew W') => (h.cell (b := lb) (by simp) 5).trans (HL4.out.cell 5)
  have l6 := fun (W' : World) (h : Hold [c.tb, lb] w2.drew W') => (h.cell (b := lb) (by simp) 6).trans (HL4.out.cell 6)
  have l7 := fun (W' : World) (h : Hold [c.tb, lb] w2.drew W') => (h.cell (b := lb) (by simp) 7).trans (HL4.out.cell 7)
  have l8 := fun (W' : World) (h : Hold [c.tb, lb] w2.drew W') => (h.cell (b := lb) (by simp) 8).trans (HL4.out.cell 8)
  have l9 := fun (W' : World) (h : Hold [c.tb, lb] w2.drew W') => (h.cell (b := lb) (by simp) 9).trans (HL4.out.cell 9)
  have l10 := fun (W' : World) (h : Hold [c.tb, lb] w2.drew W') => (h.cell (b := lb) (by simp) 10).trans (HL4.out.cell 10)
  have l11 := fun (W' : World) (h : Hold [c.tb, lb] w2.drew W') => (h.cell (b := lb) (by simp) 11).trans (HL4.out.cell 11)
  simp only [List.getElem?_toArray, List.getElem?_cons_zero, List.getElem?_cons_succ] at s0 l0 l1 l2 l3 l4 l5 l6 l7 l8 l9 l10 l11
  refine wp_region_plan_by (Hold [c.tb, lb]) (later_hold _) [(0, false), (1, false), (2, false), (3, false), (4, false), (5, false), (6, false), (7, false), (8, true), (9, true), (10, false)] (by kernel_rfl) (by kernel_rfl) (fun _ d _ _ _ h => by cases d <;> exact h) ?_
  iterate 8 (refine plan_take (v := ?_) rfl (by kernel_rfl) ?_ ?_; rotate_left; (focus (intro w' hw'; try go_simp; try with_reducible rfl)); simp only [Act.put, List.setIfInBounds_toArray, List.set_cons_zero, List.set_cons_succ])
  clear s0 l0 l1 l2 l3 l4 l5 l6 l7 l8 l9 l10 l11
  refine plan_call rfl (by kernel_rfl) (by go_simp; exact ⟨rfl, rfl⟩) ?_
  refine (Store_any c.gm c.n A 8 0 Fm σ.S _ H5.out.mem HAL.out (by decide)).mono ?_
  rintro e w6 ⟨rfl, hm6⟩
  rw [HCK.out]
  have K6 : Hid (Hold [c.tb, lb] w2.drew w6) := Lib.hid (by
    obtain ⟨_, _, _, k⟩ := hm6
    exact hold2_keeps k HD4.out.lt HL4.out.lt H5.out.tm (fun hf => HLN.out (.inl hf)))
  have HB6 : Hid (Blk w6 rb 96 pte0.cs) := Lib.hid (by
    obtain ⟨_, _, _, k⟩ := hm6
    exact k.blk HB2.out.drew (fun hf => HPB.out (.inl hf)))
  have T6 : Hid (TabTo w2 c ⟨stR c.n σ.S A 8 0, σ.k, σ.u⟩ Fm Fs w6) := Lib.hid (tab_up (Below.refl _ w2).drew (H5.out.mm hm6))
  clear hm6
  refine ⟨_, rfl, K6.out, ?_⟩
  simp only [Act.put, List.setIfInBounds_toArray, List.set_cons_zero, List.set_cons_succ]
  refine plan_turn rfl (by kernel_rfl) (fun K hK => ?_)
  refine wo_store_row 96 (.tmp 4) (.tmp 19) rfl rb 96 pte0.cs #[.bool c0, .bool c1, .bool c2, .bool c3, .bool c4, .bool c5, .bool c6, .bool c7, .int .i64 rq, .int .u64 pq] rfl rfl HB6.out rfl (by kernel_rfl) (by simp [Value.oneCell']) ?_
  refine hK _ _ ⟨fun b hb => setRow_other _ _ _ _ (fun e => by
    simp only [List.mem_cons, List.not_mem_nil, or_false] at hb
    rcases hb with h | h
    · exact HPB.out (.inr (.inr (by rw [← e, h])))
    · exact HRL.out (by rw [← e, h])), ?_⟩
  clear hK K
  have HB7 := Lib.hid (Blkf.setRow HB6.out #[.bool c0, .bool c1, .bool c2, .bool c3, .bool c4, .bool c5, .bool c6, .bool c7, .int .i64 rq, .int .u64 pq])
  have K7 : Hid (Keeps (fun b => b = rb) w6 (w6.setRow rb #[.bool c0, .bool c1, .bool c2, .bool c3, .bool c4, .bool c5, .bool c6, .bool c7, .int .i64 rq, .int .u64 pq])) := Lib.hid (Keeps.setRow (F := fun b => b = rb) (Keeps.refl _ _) (.inl rfl) _)
  generalize w6.setRow rb #[.bool c0, .bool c1, .bool c2, .bool c3, .bool c4, .bool c5, .bool c6, .bool c7, .int .i64 rq, .int .u64 pq] = w7 at *
  iterate 1 (refine plan_take (v := ?_) rfl (by kernel_rfl) ?_ ?_; rotate_left; (focus (intro w' hw'; try go_simp; try with_reducible rfl)); simp only [Act.put, List.setIfInBounds_toArray, List.set_cons_zero, List.set_cons_succ])
  refine plan_end ?_
  go_wp2_with fail
  refine bodyPost_ret (v := .tuple #[.agg #[.bool c0, .bool c1, .bool c2, .bool c3, .bool c4, .bool c5, .bool c6, .bool c7, .int .i64 rq, .int .u64 pq], .int .i64 0]) (res_cell_slot Tryz.results47 _ _ rb 96 _ _ rfl rfl HB7.out (by kernel_rfl)) rfl ?_
  unfold UnmapTo
  rw [HR.out]
  refine ⟨by rw [HEP.out], ?_⟩
  obtain ⟨Fm6, Fs6, h6, hF6, hG6, k6⟩ := T6.out
  have hnr : ¬ TabF c Fm6 Fs6 rb := by
    rintro (h | h | h)
    · exact (hF6 _ h).elim (fun h => HPB.out (.inl h)) (fun h => by have := HB2.out.lt; omega)
    · exact (hG6 _ h).elim (fun h => HPB.out (.inr (.inl h))) (fun h => by have := HB2.out.lt; omega)
    · exact HPB.out (.inr (.inr h))
  refine ⟨Fm6, Fs6, h6.keeps K7.out (fun b hb e => hnr (e ▸ hb)), fun b hb => (hF6 b hb).imp id (fun h => Nat.le_trans B2.out.size h), fun b hb => (hG6 b hb).imp id (fun h => Nat.le_trans B2.out.size h), ?_⟩
  have k1 : Keeps (TabF c Fm Fs) W w6 := (Keeps.of_below B2.out).trans k6 (fun i h => .inl h)
  exact k1.trans K7.out (fun i h => .inr (by rw [h, HRB.out]; exact Nat.le_refl _))
theorem Unmap_t (c : TC) (σ : TS) (Fm Fs : Nat → Prop) (va : Nat) (W : World) (h : TabAt W c σ Fm Fs) (hv : va < 18446744073709551616) :
    Calls Tryz.prog 47 #[.pointer (some ⟨c.tb, 0, none⟩), .int .u64 (va : Int)] W (UnmapTo c σ Fm Fs va W) := by
  cases hf : findT c σ va with
  | err e => exact unmap_err c σ Fm Fs va W h hv e hf
  | leaf X L A => exact unmap_leaf c σ Fm Fs va W h hv X L A hf
theorem Root_t (c : TC) (σ : TS) (Fm Fs : Nat → Prop) (W : World) (h : TabAt W c σ Fm Fs) :
    Calls Tryz.prog 26 #[.pointer (some ⟨c.tb, 0, none⟩)] W fun e w' => e = .returned (.int .i64 (c.root : Int)) ∧ W = w' := by
  have t2 := h.hd.cell 2
  simp only [List.getElem?_toArray, List.getElem?_cons_zero, List.getElem?_cons_succ] at t2
  clear h
  go_enter Tryz.func26, Tryz.ntmps26
  go_wp2_with fail
  go_ret
  exact ⟨rfl, rfl⟩
end Go.Proofs.YtophcgbddccpeaaGreat

/- Tables are made. -/
namespace Go.Proofs.YtophcgbddccpeaaGreat
open Go.RowKit

def TC.at_ (c : TC) (r : Nat) : TC := ⟨c.tb, c.gm, c.sb, c.n, c.first, c.N, r⟩
theorem TabAt.rooted {w : World} {c : TC} {σ : TS} {Fm Fs : Nat → Prop} (h : TabAt w c σ Fm Fs) (r : Nat) (hr : r < 1048576) : TabAt (w.setCell ⟨c.tb, 2, none⟩ (.int .i64 (r : Int))) (c.at_ r) σ Fm Fs := by
  obtain ⟨s, hs, ho⟩ := h.stk
  have k : Keeps (fun b => b = c.tb) w (w.setCell ⟨c.tb, 2, none⟩ (.int .i64 (r : Int))) := (Keeps.refl (fun b => b = c.tb) w).setCell (p := ⟨c.tb, 2, none⟩) (.inl rfl) _
  exact ⟨h.hd.set_ 2 _, h.mem.keeps k (fun b hb e => h.tm (e ▸ hb)), ⟨s, hs.keeps k (fun b hb e => h.ts (e ▸ hb)), ⟨ho.end_, ho.len, ho.all, ho.at_, ho.big⟩⟩, h.dis, h.tm, h.ts, fun b hb => Nat.lt_of_lt_of_le (h.ml b hb) k.size, h.ul, hr⟩
/-- What tables are made of. -/
structure NewIn (W : World) (c : TC) (S : Nat → List Nat) (k : Nat) (Fm Fs : Nat → Prop) : Prop where
  mem : Mem W c.gm Fm c.n S
  stk : ∃ s, StockAt W c.sb Fs s ∧ StkOK c k s
  dis : ∀ b, Fm b → ¬ Fs b
  ml : ∀ b, Fm b → b < W.heap.size
def newE (c : TC) (S : Nat → List Nat) (k : Nat) : Int := takeE c ⟨S, k, 0⟩
def newS (c : TC) (S : Nat → List Nat) (k : Nat) : TS := takeS c ⟨S, k, 0⟩
theorem NewIn.start {W : World} {c : TC} {S : Nat → List Nat} {k : Nat} {Fm Fs : Nat → Prop} (h : NewIn W c S k Fm Fs) (ht : c.tb = W.heap.size) (hr : c.root = 0) : TabAt (W.alloc (.cells #[.pointer (some ⟨c.gm, 0, none⟩), .pointer (some ⟨c.sb, 0, none⟩), .int .i64 0, .int .i64 0] 117)) c ⟨S, k, 0⟩ Fm Fs := by
  obtain ⟨s, hs, ho⟩ := h.stk
  have hb : Below W.heap.size W (W.alloc (.cells #[.pointer (some ⟨c.gm, 0, none⟩), .pointer (some ⟨c.sb, 0, none⟩), .int .i64 0, .int .i64 0] 117)) := (Below.refl _ _).alloc (Nat.le_refl _) _
  refine ⟨?_, h.mem.below hb, ⟨s, hs.keeps (G := fun _ => False) (Keeps.of_below hb) (fun _ _ h => h), ho⟩, h.dis, fun hf => ?_, fun hf => ?_, fun b hb' => Nat.lt_of_lt_of_le (h.ml b hb') hb.size, Nat.zero_le _, by rw [hr]; decide⟩
  · rw [hr]
    exact Blkf.new_at _ _ _ _ ht
  · have := h.ml _ hf; omega
  · have := hs.bound hf; omega
set_option maxRecDepth 100000 in
set_option maxHeartbeats 1500000 in
theorem tnew_yes (c : TC) (S : Nat → List Nat) (k : Nat) (Fm Fs : Nat → Prop) (W : World) (h : NewIn W c S k Fm Fs) (ht : c.tb = W.heap.size) (hr : c.root = 0) (hE : newE c S k = 0) :
    Calls Tryz.prog 22 #[.pointer (some ⟨c.gm, 0, none⟩), .pointer (some ⟨c.sb, 0, none⟩)] W fun e w' => e = .returned (.tuple #[.pointer (some ⟨c.tb, 0, none⟩), .int .i64 0]) ∧
      ∃ Fm' Fs', TabAt w' (c.at_ (c.first + k)) (newS c S k) Fm' Fs' ∧ (∀ b, Fm' b → Fm b ∨ W.heap.size ≤ b) ∧ (∀ b, Fs' b → Fs b ∨ W.heap.size ≤ b) ∧ Keeps (fun b => Fm b ∨ Fs b) W w' := by
  have H0 := Lib.hid (h.start ht hr)
  have HK : Hid (takeF c ⟨S, k, 0⟩ = ((c.first + k : Nat) : Int)) := Lib.hid (takeF_ok (σ := ⟨S, k, 0⟩) hE)
  obtain ⟨f, hf⟩ : ∃ f, f = c.first + k := ⟨_, rfl⟩
  have HFL : Hid (f < 1048576) := Lib.hid (by rw [hf]; exact take_lt (σ := ⟨S, k, 0⟩) hE (h.start ht hr))
  have HEE : Hid (takeE c ⟨S, k, 0⟩ = 0) := Lib.hid hE
  have HFF := Lib.hid hf
  have HT := Lib.hid ht
  rw [← hf]
  have HE : Hid (Below W.heap.size W (W.alloc (.cells #[.pointer (some ⟨c.gm, 0, none⟩), .pointer (some ⟨c.sb, 0, none⟩), .int .i64 0, .int .i64 0] 117))) := Lib.hid ((Below.refl _ W).alloc (Nat.le_refl _) _)
  have HMS : Hid (∀ b, TabF c Fm Fs b → (Fm b ∨ Fs b) ∨ W.heap.size ≤ b) := Lib.hid (fun b hb => by
    rcases hb with hb | hb | hb
    · exact .inl (.inl hb)
    · exact .inl (.inr hb)
    · right; omega)
  clear h hr hE hf
  go_enter Tryz.func22, Tryz.ntmps22
  go_upto_region 4 with fail
  rw [← HT.out]
  generalize W.alloc (.cells #[.pointer (some ⟨c.gm, 0, none⟩), .pointer (some ⟨c.sb, 0, none⟩), .int .i64 0, .int .i64 0] 117) = w0 at *
  clear ht
  go_wp2_with fail
  refine (take_any c ⟨S, k, 0⟩ Fm Fs _ H0.out).mono ?_
  rintro e w1 ⟨rfl, hT⟩
  rw [HEE.out, HK.out, ← HFF.out]
  obtain ⟨Fm1, Fs1, h1, hF1, hG1, k1⟩ := hT
  have H1 := Lib.hid h1
  have K1 := Lib.hid k1
  have HF1 := Lib.hid hF1
  have HG1 := Lib.hid hG1
  have t2 := h1.hd.cell 2
  have tl := h1.hd.lt
  have z2 := Blk.frozen h1.hd 2
  simp only [List.getElem?_toArray, List.getElem?_cons_zero, List.getElem?_cons_succ] at t2
  clear h1 hF1 hG1 k1
  go_wp2_with fail
  go_ret2
  have k2 : Keeps (fun b => b = c.tb) w1 (w1.setCell ⟨c.tb, 2, none⟩ (.int .i64 (f : Int))) := (Keeps.refl (fun b => b = c.tb) w1).setCell (p := ⟨c.tb, 2, none⟩) (.inl rfl) _
  refine ⟨rfl, Fm1, Fs1, H1.out.rooted f HFL.out, fun b hb => (HF1.out b hb).imp id (fun h => Nat.le_trans HE.out.size h), fun b hb => (HG1.out b hb).imp id (fun h => Nat.le_trans HE.out.size h), ?_⟩
  have k3 : Keeps (fun b => Fm b ∨ Fs b) W w1 := (Keeps.of_below (F := fun b => Fm b ∨ Fs b) HE.out).trans K1.out HMS.out
  exact k3.trans k2 (fun b hb => .inr (by rw [hb, HT.out]; exact Nat.le_refl _))
set_option maxRecDepth 100000 in
set_option maxHeartbeats 1500000 in
theorem tnew_no (c : TC) (S : Nat → List Nat) (k : Nat) (Fm Fs : Nat → Prop) (W : World) (h : NewIn W c S k Fm Fs) (ht : c.tb = W.heap.size) (hr : c.root = 0) (hE : newE c S k ≠ 0) :
    Calls Tryz.prog 22 #[.pointer (some ⟨c.gm, 0, none⟩), .pointer (some ⟨c.sb, 0, none⟩)] W fun e w' => e = .returned (.tuple #[.pointer none, .int .i64 (newE c S k)]) ∧ Keeps (fun b => Fm b ∨ Fs b) W w' := by
  have H0 := Lib.hid (h.start ht hr)
  have HT := Lib.hid ht
  have HE : Hid (Below W.heap.size W (W.alloc (.cells #[.pointer (some ⟨c.gm, 0, none⟩), .pointer (some ⟨c.sb, 0, none⟩), .int .i64 0, .int .i64 0] 117))) := Lib.hid ((Below.refl _ W).alloc (Nat.le_refl _) _)
  have HMS : Hid (∀ b, TabF c Fm Fs b → (Fm b ∨ Fs b) ∨ W.heap.size ≤ b) := Lib.hid (fun b hb => by
    rcases hb with hb | hb | hb
    · exact .inl (.inl hb)
    · exact .inl (.inr hb)
    · right; omega)
  have HEE : Hid (takeE c ⟨S, k, 0⟩ = newE c S k) := Lib.hid rfl
  have b0 : (newE c S k == 0) = false := by simpa using hE
  have b1 : (newE c S k != 0) = true := by simpa using hE
  generalize newE c S k = E at *
  clear h hr
  go_enter Tryz.func22, Tryz.ntmps22
  go_upto_region 4 with fail
  rw [← HT.out]
  generalize W.alloc (.cells #[.pointer (some ⟨c.gm, 0, none⟩), .pointer (some ⟨c.sb, 0, none⟩), .int .i64 0, .int .i64 0] 117) = w0 at *
  clear ht
  go_wp2_with fail
  refine (take_any c ⟨S, k, 0⟩ Fm Fs _ H0.out).mono ?_
  rintro e w1 ⟨rfl, hT⟩
  rw [HEE.out]
  have K1 : Hid (Keeps (TabF c Fm Fs) w0 w1) := Lib.hid (by obtain ⟨_, _, _, _, _, k⟩ := hT; exact k)
  clear hT
  generalize takeF c ⟨S, k, 0⟩ = F at *
  go_wp2_with fail
  go_ret2
  exact ⟨rfl, (Keeps.of_below (F := fun b => Fm b ∨ Fs b) HE.out).trans K1.out HMS.out⟩
theorem tnew_nil (v : Value) (W : World) :
    Calls Tryz.prog 22 #[.pointer none, v] W fun e w' => e = .returned (.tuple #[.pointer none, .int .i64 1]) ∧ W = w' := by
  go_enter Tryz.func22, Tryz.ntmps22
  go_wp2_with fail
  go_ret2
  exact ⟨rfl, rfl⟩
end Go.Proofs.YtophcgbddccpeaaGreat

/- Pages that are mapped, as the program lists them. -/
namespace Go.Proofs.YtophcgbddccpeaaGreat
open Go.RowKit

def canV (va : Nat) : Nat := if va / 274877906944 % 2 = 1 then va + 18446743523953737728 else va
theorem canV_lt {va : Nat} (h : va < 549755813888) : canV va < 18446744073709551616 := by unfold canV; split <;> omega
theorem canonical_any (va : Nat) (W : World) (hv : va < 549755813888) :
    Calls Tryz.prog 103 #[.int .u64 (va : Int)] W fun e w' => e = .returned (.int .u64 ((canV va : Nat) : Int)) ∧ W = w' := by
  have hc : canV va = if va / 274877906944 % 2 = 1 then va + 18446743523953737728 else va := rfl
  generalize canV va = z at *
  have HC : Hid (IntKind.u64.wrap (wrap64 ((va : Int) * 33554432) / 33554432) = (z : Int)) := Lib.hid (by
    rw [hc, IntKind.wrap_u64]
    unfold wrap64
    split <;> omega)
  clear hc
  go_enter Tryz.func103, Tryz.ntmps103
  go_wp2_with fail
  go_ret
  exact ⟨congrArg (fun x => Ending.returned (Value.int .u64 x)) HC.out, rfl⟩
/-- A page that is mapped. -/
structure Mp where
  va : Nat
  lev : Nat
  p : Pte
def Mp.vs (m : Mp) : List Value := [.int .u64 (m.va : Int), .int .i64 (m.lev : Int)] ++ m.p.cs.toList
theorem one_mp (L : List Mp) : ∀ u ∈ L.flatMap Mp.vs, u.oneCell' = true := by
  intro u hu
  obtain ⟨m, _, hm⟩ := List.mem_flatMap.1 hu
  unfold Mp.vs Pte.cs at hm
  simp only [List.cons_append, List.nil_append, List.mem_cons, List.not_mem_nil, or_false] at hm
  rcases hm with rfl | rfl | rfl | rfl | rfl | rfl | rfl | rfl | rfl | rfl | rfl | rfl <;> rfl
theorem mvs_len (L : List Mp) : (L.flatMap Mp.vs).length = L.length * 12 := by
  induction L with
  | nil => rfl
  | cons m L ih => rw [List.flatMap_cons, List.length_append, ih, List.length_cons]; unfold Mp.vs Pte.cs; simp; omega
def OwnM (base : Nat) (w : World) (v : Value) (L : List Mp) : Prop := w.ownsRow base 102 12 v L.length (L.flatMap Mp.vs)
theorem infoM : (Tryz.prog.info? 102).map (fun i => (i.zero, i.size, i.bytes)) = some (some (.agg #[.int .u64 0, .int .i64 0, .bool false, .bool false, .bool false, .bool false, .bool false, .bool false, .bool false, .bool false, .int .i64 0, .int .u64 0]), 12, 40) := by kernel_rfl
theorem OwnM.below {base : Nat} {w w' : World} {v : Value} {L : List Mp} (h : OwnM base w v L) (hb : Below w.heap.size w w') : OwnM base w' v L := own_below h hb
theorem OwnM.form {base : Nat} {w : World} {v : Value} {L : List Mp} (h : OwnM base w v L) : ∃ A c, v = .slice A L.length c := by
  rcases h.2 with ⟨rfl, h0⟩ | ⟨g, cap, cur, rfl, _⟩
  · exact ⟨none, 0, by rw [h0]⟩
  · exact ⟨_, _, rfl⟩
theorem OwnM.nil (base : Nat) (w : World) : OwnM base w (.slice none 0 0) [] := ⟨rfl, .inl ⟨rfl, rfl⟩⟩
theorem own_appM {base n m : Nat} {w : World} {v : Value} {L L' : List Mp} (h : w.ownsRow base 102 12 v (n + m) (L.flatMap Mp.vs ++ L'.flatMap Mp.vs)) (hn : n = L.length) (hm : m = L'.length) : OwnM base w v (L ++ L') := by
  subst hn hm
  unfold OwnM
  rw [List.length_append, List.flatMap_append]
  exact h
def RetM (L : List Mp) (W : World) (e : Ending) (w' : World) : Prop := ∃ v, e = .returned v ∧ OwnM W.heap.size w' v L ∧ Below W.heap.size W w'
theorem reads_new {size n : Nat} (w : World) (cs : Array Value) (T : TypeId) (h : cs.size = n * size) : Reads (w.alloc (.cells cs T)) (w.heap.size + 1) size (some ⟨w.heap.size, 0, none⟩) n cs.toList := by
  refine ⟨by simpa using h, fun _ => ⟨_, rfl, Nat.lt_succ_self _, fun j u hu => ?_⟩⟩
  have e : (⟨w.heap.size, 0, none⟩ : Addr).add j = ⟨w.heap.size, j, none⟩ := by unfold Addr.add; split <;> simp_all
  rw [e, World.cell?_alloc_new]
  simpa using hu
theorem vs_ent (v l x : Nat) : (⟨v, l, entP x⟩ : Mp).vs = [.int .u64 (v : Int), .int .i64 (l : Int), .bool (bitB x 0), .bool (bitB x 1), .bool (bitB x 2), .bool (bitB x 3), .bool (bitB x 4), .bool (bitB x 5), .bool (bitB x 6), .bool (bitB x 7), .int .i64 ((x : Int) / 256 % 4), .int .u64 ((x : Int) / 1024 % 17592186044416)] := by
  simp [Mp.vs, Pte.cs, entP]
theorem range_next {α : Type} (f : Nat → List α) (k : Nat) : (List.range (k + 1)).flatMap f = (List.range k).flatMap f ++ f k := by
  rw [List.range_succ, List.flatMap_append]; simp
def wdX (n : Nat) (S : Nat → List Nat) (t i : Nat) : Nat := ldR n S (t * 4096 + 8 * i) 8
def pgAt (n : Nat) (S : Nat → List Nat) (rec : Nat → Nat → List Mp) (l t fr i : Nat) : List Mp :=
  if wdX n S t i = 0 then [] else if leafX (wdX n S t i) then [⟨canV (fr + i * spN l), l, entP (wdX n S t i)⟩] else rec (ppnX (wdX n S t i)) (fr + i * spN l)
def pagesM (n : Nat) (S : Nat → List Nat) : Nat → Nat → Nat → List Mp
  | 0, t, fr => (List.range 512).flatMap (pgAt n S (fun _ _ => []) 0 t fr)
  | l + 1, t, fr => (List.range 512).flatMap (pgAt n S (pagesM n S l) (l + 1) t fr)
def PgOK (n : Nat) (S : Nat → List Nat) : Nat → Nat → Prop
  | 0, t => ∀ i, i < 512 → wdX n S t i = 0 ∨ leafX (wdX n S t i) = true
  | l + 1, t => ∀ i, i < 512 → wdX n S t i = 0 ∨ leafX (wdX n S t i) = true ∨ PgOK n S l (ppnX (wdX n S t i))
theorem flat_le {f : Nat → List Mp} {B : Nat} (h : ∀ i, (f i).length ≤ B) : ∀ k, ((List.range k).flatMap f).length ≤ k * B
  | 0 => by simp
  | k + 1 => by
    rw [List.range_succ, List.flatMap_append, List.length_append]
    have := flat_le h k
    have h2 := h k
    simp only [List.flatMap_cons, List.flatMap_nil, List.append_nil]
    rw [Nat.succ_mul]
    omega
theorem pgAt_len {n : Nat} {S : Nat → List Nat} {rec : Nat → Nat → List Mp} {B l t fr : Nat} (hB : 1 ≤ B) (h : ∀ a b, (rec a b).length ≤ B) (i : Nat) : (pgAt n S rec l t fr i).length ≤ B := by
  unfold pgAt
  split
  · simp
  · split
    · simpa using hB
    · exact h _ _
theorem pages_len (n : Nat) (S : Nat → List Nat) : ∀ (l t fr : Nat), (pagesM n S l t fr).length ≤ 512 ^ (l + 1)
  | 0, t, fr => Nat.le_trans (flat_le (fun i => pgAt_len (Nat.le_refl 1) (fun _ _ => by simp) i) 512) (by decide)
  | l + 1, t, fr => by
    have h := flat_le (fun i => pgAt_len (n := n) (S := S) (l := l + 1) (t := t) (fr := fr) (Nat.one_le_two_pow (n := 0) |> fun _ => Nat.one_le_pow (l + 1) 512 (by decide)) (fun a b => pages_len n S l a b) i) 512
    rw [Nat.pow_succ, Nat.mul_comm]
    exact h
set_option maxRecDepth 100000 in
set_option maxHeartbeats 2000000 in
theorem pages_round (c : TC) (σ : TS) (Fm Fs : Nat → Prop) (l t fr B : Nat) (rec : Nat → Nat → List Mp) (OKc : Nat → Prop) (W : World) (h : TabAt W c σ Fm Fs) (hl : l ≤ 2) (ht : t < 17592186044416) (hfr : fr + 512 * spN l ≤ 549755813888) (hB1 : 1 ≤ B) (hB : B ≤ 262144)
    (hlen : ∀ a b, (rec a b).length ≤ B) (hok : ∀ i, i < 512 → wdX c.n σ.S t i = 0 ∨ leafX (wdX c.n σ.S t i) = true ∨ OKc (ppnX (wdX c.n σ.S t i)))
    (hrec : ∀ (t' fr' : Nat) (W' : World), TabAt W' c σ Fm Fs → t' < 17592186044416 → fr' + spN l ≤ 549755813888 → OKc t' → Calls Tryz.prog 86 #[.pointer (some ⟨c.tb, 0, none⟩), .int .u64 (t' : Int), .int .u64 (fr' : Int), .int .i64 ((l : Int) - 1)] W' (RetM (rec t' fr') W')) :
    Calls Tryz.prog 86 #[.pointer (some ⟨c.tb, 0, none⟩), .int .u64 (t : Int), .int .u64 (fr : Int), .int .i64 (l : Int)] W (RetM ((List.range 512).flatMap (pgAt c.n σ.S rec l t fr)) W) := by
  obtain ⟨ti, hi0, hz0, hz1, hz2⟩ := info_parts infoM
  have HT := Lib.hid h
  have HSP := Lib.hid (span_sp hl)
  have hspb : spN l ≤ 1073741824 := by
    rcases (show l = 0 ∨ l = 1 ∨ l = 2 by omega) with rfl | rfl | rfl <;> decide
  have hsp1 : 1 ≤ spN l := by
    rcases (show l = 0 ∨ l = 1 ∨ l = 2 by omega) with rfl | rfl | rfl <;> decide
  have HPL := Lib.hid (fun i => pgAt_len (n := c.n) (S := σ.S) (l := l) (t := t) (fr := fr) hB1 hlen i)
  have HFL := Lib.hid (fun k => flat_le (fun i => pgAt_len (n := c.n) (S := σ.S) (l := l) (t := t) (fr := fr) hB1 hlen i) k)
  have HREC := Lib.hid hrec
  have HLEN := Lib.hid hlen
  have HOK := Lib.hid hok
  obtain ⟨sp, hsp⟩ : ∃ q, q = spN l := ⟨_, rfl⟩
  rw [← hsp] at HSP hspb hfr hsp1
  have HSPE := Lib.hid hsp
  clear h hlen hok hrec hsp
  go_enter Tryz.func86, Tryz.ntmps86
  go_wp2_with fail
  go_loopw [9, 16] (fun v i wr => ∃ k : Nat, k ≤ 512 ∧ i = .int .i64 (k : Int) ∧ OwnM W.heap.size wr v ((List.range k).flatMap (pgAt c.n σ.S rec l t fr)) ∧ Below W.heap.size W wr) (fun _ i _ => 512 - (intOf i).toNat)
  case atStart => exact ⟨0, by omega, rfl, OwnM.nil _ _, Below.refl _ _⟩
  case round =>
    obtain ⟨k, hk, rfl, hO, hE⟩ := hrel
    have HO := Lib.hid hO
    have HE := Lib.hid hE
    have H1 := Lib.hid (HT.out.below hE)
    clear hO hE
    by_cases hk5 : k < 512
    · have hkI : (k : Int) < 512 := by omega
      obtain ⟨L, hL⟩ : ∃ L, L = (List.range k).flatMap (pgAt c.n σ.S rec l t fr) := ⟨_, rfl⟩
      have HLL := Lib.hid hL
      have HLB : Hid (L.length ≤ 134217728) := Lib.hid (by
        rw [hL]
        exact Nat.le_trans (HFL.out k) (Nat.le_trans (Nat.mul_le_mul hk hB) (by decide)))
      rw [← hL] at HO
      obtain ⟨A9, c9, e9⟩ := HO.out.form
      obtain ⟨n9, hn9⟩ : ∃ n, n = L.length := ⟨_, rfl⟩
      rw [← hn9] at e9
      subst e9
      have HN9 := Lib.hid hn9
      clear hL hn9
      obtain ⟨ks, hks⟩ : ∃ q, q = k * sp := ⟨_, rfl⟩
      have hksb : ks ≤ 511 * sp := by rw [hks]; exact Nat.mul_le_mul_right _ (by omega)
      obtain ⟨va, hva⟩ : ∃ q, q = fr + ks := ⟨_, rfl⟩
      have HVA : Hid (va = fr + k * spN l) := Lib.hid (by rw [hva, hks, HSPE.out])
      have HVB : Hid (va + sp ≤ 549755813888) := Lib.hid (by omega)
      obtain ⟨a, ha⟩ : ∃ q, q = t * 4096 + 8 * k := ⟨_, rfl⟩
      have HA : Hid (a = t * 4096 + 8 * k) := Lib.hid ha
      have hab : a < 18446744073709551616 := by omega
      have HAB := Lib.hid hab
      have HVL : Hid (va < 549755813888) := Lib.hid (by omega)
      have y1 : IntKind.u64.wrap (k : Int) = (k : Int) := by rw [IntKind.wrap_u64]; omega
      have y2 : IntKind.u64.wrap ((k : Int) * (sp : Int)) = (ks : Int) := by rw [show (k : Int) * (sp : Int) = (ks : Int) by rw [hks]; push_cast; rfl, IntKind.wrap_u64]; omega
      have y3 : IntKind.u64.wrap (va : Int) = (va : Int) := by rw [IntKind.wrap_u64]; omega
      have y4 : (fr : Int) + (ks : Int) = (va : Int) := by omega
      have t0 := H1.out.hd.cell 0
      have tl := H1.out.hd.lt
      simp only [List.getElem?_toArray, List.getElem?_cons_zero, List.getElem?_cons_succ] at t0
      have y5 : IntKind.u64.wrap (8 * (k : Int)) = 8 * (k : Int) := by rw [IntKind.wrap_u64]; omega
      have y6 : (t : Int) * 4096 + 8 * (k : Int) = (a : Int) := by omega
      clear hks hksb hva ha hab hfr hspb hsp1
      go_wp2_with fail
      refine (span_any (l : Int) _).mono ?_
      rintro e w1 ⟨rfl, rfl⟩
      rw [HSP.out]
      go_wp2_with fail
      refine (Load_any c.gm c.n a 8 Fm σ.S _ H1.out.mem HAB.out).mono ?_
      rintro e w1 ⟨rfl, rfl⟩
      obtain ⟨x, hx⟩ : ∃ x, x = ldR c.n σ.S a 8 := ⟨_, rfl⟩
      have HX : Hid (x = wdX c.n σ.S t k) := Lib.hid (by rw [hx, HA.out]; rfl)
      have HXL : Hid (x < 18446744073709551616) := Lib.hid (by rw [hx]; exact Mem.ld_lt H1.out.mem a)
      rw [← hx]
      clear hx t0 tl
      go_wp2_with fail
      refine (get_any x _ HXL.out).mono ?_
      rintro e w2 ⟨rfl, hb⟩
      have HB2 := Lib.hid hb
      clear hb y1 y2 y3 y4 y5 y6
      have HEW := Lib.hid (HE.out.trans (HB2.out.mono HE.out.size))
      by_cases h0 : x = 0
      · have HPG : Hid ((List.range (k + 1)).flatMap (pgAt c.n σ.S rec l t fr) = L) := Lib.hid (by
          rw [range_next, ← HLL.out]
          unfold pgAt
          rw [← HX.out, if_pos h0, List.append_nil])
        have i0 : (x : Int) = 0 := by omega
        have hz : entryV x = .agg #[.bool false, .bool false, .bool false, .bool false, .bool false, .bool false, .bool false, .bool false, .int .i64 0, .int .u64 0] := by rw [h0]; rfl
        rw [hz]
        clear h0 hz
        have HO2 := Lib.hid (HO.out.below (HB2.out.trans (((Below.refl _ w2).alloc (Nat.le_refl _) (.cells #[.bool false, .bool false, .bool false, .bool false, .bool false, .bool false, .bool false, .bool false, .int .i64 0, .int .u64 0] 96)).mono HB2.out.size)))
        have HE2 := Lib.hid (HEW.out.alloc HEW.out.size (.cells #[.bool false, .bool false, .bool false, .bool false, .bool false, .bool false, .bool false, .bool false, .int .i64 0, .int .u64 0] 96))
        go_wp2_with fail
        go_roundw
        case rel => exact ⟨k + 1, by omega, by go_num, by rw [HPG.out]; exact HO2.out, HE2.out⟩
        case measure => simp [intOf]; omega
      · have i0 : ¬ (x : Int) = 0 := by omega
        have b0 : ((x : Int) == 0) = false := by simpa using i0
        have b1 : ((x : Int) != 0) = true := by simpa using i0
        unfold entryV
        go_wp2_with fail
        refine (leafx_any x _).mono ?_
        rintro e w3 ⟨rfl, hb3⟩
        have HL3 : Hid (Blk w3 w2.heap.size 96 #[.bool (bitB x 0), .bool (bitB x 1), .bool (bitB x 2), .bool (bitB x 3), .bool (bitB x 4), .bool (bitB x 5), .bool (bitB x 6), .bool (bitB x 7), .int .i64 ((x : Int) / 256 % 4), .int .u64 ((x : Int) / 1024 % 17592186044416)]) := Lib.hid ((Blkf.new_at w2 _ _ _ rfl).below hb3 (by rw [World.size_alloc]; omega))
        have B3 : Hid (Below wr.heap.size wr w3) := Lib.hid (HB2.out.trans ((((Below.refl _ w2).alloc (Nat.le_refl _) _).trans (hb3.mono (by simp))).mono HB2.out.size))
        have HLB3 : Hid (wr.heap.size ≤ w2.heap.size) := Lib.hid HB2.out.size
        generalize w2.heap.size = lb at *
        have HO3 := Lib.hid (HO.out.below B3.out)
        have HE3 := Lib.hid (HE.out.trans (B3.out.mono HE.out.size))
        have H3 := Lib.hid (H1.out.below B3.out)
        have HGL : Hid (∀ g, (Value.slice A9 n9 c9).ownBlock = some g → g < lb) := Lib.hid (fun g hg => Nat.lt_of_lt_of_le (World.ownsRow.lt HO.out g hg).2 HLB3.out)
        clear hb3 HO HE H1 HB2 HEW
        cases hlf : leafX x with
        | true =>
          have HPG : Hid ((List.range (k + 1)).flatMap (pgAt c.n σ.S rec l t fr) = L ++ [⟨canV va, l, entP x⟩]) := Lib.hid (by
            rw [range_next, ← HLL.out]
            unfold pgAt
            rw [← HX.out, if_neg h0, if_pos hlf, ← HVA.out])
          clear h0 hlf
          have HL4 := Lib.hid HL3.out.drew
          go_wp2_with fail
          have b0 := fun (W' : World) (h : Hold [lb] w3.drew W') => (h.cell (List.mem_singleton.2 rfl) 0).trans (HL4.out.cell 0)
          have b1 := fun (W' : World) (h : Hold [lb] w3.drew W') => (h.cell (List.mem_singleton.2 rfl) 1).trans (HL4.out.cell 1)
          have b2 := fun (W' : World) (h : Hold [lb] w3.drew W') => (h.cell (List.mem_singleton.2 rfl) 2).trans (HL4.out.cell 2)
          have b3 := fun (W' : World) (h : Hold [lb] w3.drew W') => (h.cell (List.mem_singleton.2 rfl) 3).trans (HL4.out.cell 3)
          have b4 := fun (W' : World) (h : Hold [lb] w3.drew W') => (h.cell (List.mem_singleton.2 rfl) 4).trans (HL4.out.cell 4)
          have b5 := fun (W' : World) (h : Hold [lb] w3.drew W') => (h.cell (List.mem_singleton.2 rfl) 5).trans (HL4.out.cell 5)
          have b6 := fun (W' : World) (h : Hold [lb] w3.drew W') => (h.cell (List.mem_singleton.2 rfl) 6).trans (HL4.out.cell 6)
          have b7 := fun (W' : World) (h : Hold [lb] w3.drew W') => (h.cell (List.mem_singleton.2 rfl) 7).trans (HL4.out.cell 7)
          have b8 := fun (W' : World) (h : Hold [lb] w3.drew W') => (h.cell (List.mem_singleton.2 rfl) 8).trans (HL4.out.cell 8)
          have b9 := fun (W' : World) (h : Hold [lb] w3.drew W') => (h.cell (List.mem_singleton.2 rfl) 9).trans (HL4.out.cell 9)
          simp only [List.getElem?_toArray, List.getElem?_cons_zero, List.getElem?_cons_succ] at b0 b1 b2 b3 b4 b5 b6 b7 b8 b9
          refine wp_region_plan_by (Hold [lb]) (later_hold _) [(0, false), (1, false), (3, false), (4, false), (2, false), (5, false), (6, true), (7, true), (8, false)] (by kernel_rfl) (by kernel_rfl) (fun _ d _ _ _ h => by cases d <;> exact h) ?_
          iterate 4 (refine plan_take (v := ?_) rfl (by kernel_rfl) ?_ ?_; rotate_left; (focus (intro w' hw'; try go_simp; try with_reducible rfl)); simp only [Act.put, List.setIfInBounds_toArray, List.set_cons_zero, List.set_cons_succ])
          clear b0 b1 b2 b3 b4 b5 b6 b7 b8 b9
          refine plan_quiet rfl (by kernel_rfl) (fun w' => by go_simp; all_goals (first | exact ⟨rfl, rfl⟩ | rfl)) (fun w' hw' => canonical_any va w' HVL.out) ?_
          simp only [Act.put, List.setIfInBounds_toArray, List.set_cons_zero, List.set_cons_succ]
          iterate 1 (refine plan_take (v := ?_) rfl (by kernel_rfl) ?_ ?_; rotate_left; (focus (intro w' hw'; try go_simp; try with_reducible rfl)); simp only [Act.put, List.setIfInBounds_toArray, List.set_cons_zero, List.set_cons_succ])
          refine plan_turn rfl (by kernel_rfl) (fun K hK => ?_)
          go_simp
          refine hK _ _ ⟨Hold.below ((Below.refl _ _).alloc (Nat.le_refl _) _) (fun b hb => by rw [List.mem_singleton.1 hb]; exact HL4.out.lt), ?_⟩
          clear hK K
          have HR5 : Hid (Reads (w3.alloc (.cells #[.int .u64 ((canV va : Nat) : Int), .int .i64 (l : Int), .bool (bitB x 0), .bool (bitB x 1), .bool (bitB x 2), .bool (bitB x 3), .bool (bitB x 4), .bool (bitB x 5), .bool (bitB x 6), .bool (bitB x 7), .int .i64 ((x : Int) / 256 % 4), .int .u64 ((x : Int) / 1024 % 17592186044416)] 102)).drew (w3.heap.size + 1) 12 (some ⟨w3.heap.size, 0, none⟩) 1 (([⟨canV va, l, entP x⟩] : List Mp).flatMap Mp.vs)) := Lib.hid (by
            rw [List.flatMap_cons, List.flatMap_nil, List.append_nil, vs_ent]
            exact (reads_new w3 #[.int .u64 ((canV va : Nat) : Int), .int .i64 (l : Int), .bool (bitB x 0), .bool (bitB x 1), .bool (bitB x 2), .bool (bitB x 3), .bool (bitB x 4), .bool (bitB x 5), .bool (bitB x 6), .bool (bitB x 7), .int .i64 ((x : Int) / 256 % 4), .int .u64 ((x : Int) / 1024 % 17592186044416)] 102 rfl).drew)
          have B5 : Hid (Below w3.heap.size w3 (w3.alloc (.cells #[.int .u64 ((canV va : Nat) : Int), .int .i64 (l : Int), .bool (bitB x 0), .bool (bitB x 1), .bool (bitB x 2), .bool (bitB x 3), .bool (bitB x 4), .bool (bitB x 5), .bool (bitB x 6), .bool (bitB x 7), .int .i64 ((x : Int) / 256 % 4), .int .u64 ((x : Int) / 1024 % 17592186044416)] 102)).drew) := Lib.hid (((Below.refl _ w3).alloc (Nat.le_refl _) _).drew)
          generalize (w3.alloc (.cells #[.int .u64 ((canV va : Nat) : Int), .int .i64 (l : Int), .bool (bitB x 0), .bool (bitB x 1), .bool (bitB x 2), .bool (bitB x 3), .bool (bitB x 4), .bool (bitB x 5), .bool (bitB x 6), .bool (bitB x 7), .int .i64 ((x : Int) / 256 % 4), .int .u64 ((x : Int) / 1024 % 17592186044416)] 102)).drew = w5 at *
          have HO5 := Lib.hid (HO3.out.below B5.out)
          have HE5 := Lib.hid (HE3.out.trans (B5.out.mono HE3.out.size))
          have HL5 : Hid (lb < w5.heap.size) := Lib.hid (Nat.lt_of_lt_of_le HL3.out.lt B5.out.size)
          generalize w3.heap.size = mb at *
          refine plan_turn rfl (by kernel_rfl) (fun K hK => ?_)
          have hmx : n9 ≤ 134217728 := by rw [HN9.out]; exact HLB.out
          have ho5 := HO5.out
          unfold OwnM at ho5
          rw [← HN9.out] at ho5
          refine wp_append_any w5 (.tmp 60) (.tmp 66) _ rfl W.heap.size 102 ti _ 12 40 Tryz.underlying91 hi0 hz0 hz1 hz2 rfl (by decide) (.slice A9 n9 c9) n9 (L.flatMap Mp.vs) rfl ho5 (mb + 1) (some ⟨mb, 0, none⟩) 1 1 (([⟨canV va, l, entP x⟩] : List Mp).flatMap Mp.vs) rfl HR5.out (one_mp _) (by unfold maxLen; omega) (by omega) HE5.out.size (fun v6 w6 hown hgrow hat => ?_)
          have HE6 := Lib.hid (below_grown ho5 HE5.out hgrow HE5.out.size)
          have HO6 := Lib.hid (own_appM (L := L) (L' := [⟨canV va, l, entP x⟩]) hown HN9.out rfl)
          refine hK _ _ ⟨fun b hb => by
            rw [List.mem_singleton.1 hb]
            exact hgrow.block lb HL5.out (fun e => by have := HGL.out lb e.symm; omega), ?_⟩
          clear hK K hown hgrow hat hmx ho5
          iterate 1 (refine plan_take (v := ?_) rfl (by kernel_rfl) ?_ ?_; rotate_left; (focus (intro w' hw'; try go_simp; try with_reducible rfl)); simp only [Act.put, List.setIfInBounds_toArray, List.set_cons_zero, List.set_cons_succ])
          refine plan_end ?_
          go_wp2_with fail
          go_roundw
          case rel => exact ⟨k + 1, by omega, by go_num, by rw [HPG.out]; exact HO6.out, HE6.out⟩
          case measure => simp [intOf]; omega
        | false =>
          have HPG : Hid ((List.range (k + 1)).flatMap (pgAt c.n σ.S rec l t fr) = L ++ rec (ppnX x) va) := Lib.hid (by
            rw [range_next, ← HLL.out]
            unfold pgAt
            rw [← HX.out, if_neg h0, if_neg (by rw [hlf]; decide), ← HVA.out])
          have HOC : Hid (OKc (ppnX x)) := Lib.hid (by
            have h1 := HOK.out k hk5
            rw [← HX.out] at h1
            rcases h1 with h1 | h1 | h1
            · exact absurd h1 h0
            · rw [hlf] at h1; cases h1
            · exact h1)
          clear h0 hlf
          have px := ppn_x x
          have b9 := HL3.out.cell 9
          have bl := HL3.out.lt
          simp only [List.getElem?_toArray, List.getElem?_cons_zero, List.getElem?_cons_succ] at b9
          go_wp2_with fail
          refine (HREC.out (ppnX x) va w3 H3.out (ppnX_lt x) (by rw [← HSPE.out]; exact HVB.out) HOC.out).mono ?_
          rintro e w4 ⟨v4, rfl, hO4, hb4⟩
          obtain ⟨L4, hL4⟩ : ∃ L4, L4 = rec (ppnX x) va := ⟨_, rfl⟩
          have HL4B : Hid (L4.length ≤ 262144) := Lib.hid (by rw [hL4]; exact Nat.le_trans (HLEN.out _ _) hB)
          rw [← hL4] at hO4 HPG
          obtain ⟨A4, c4, e4⟩ := hO4.form
          obtain ⟨n4, hn4⟩ : ∃ n, n = L4.length := ⟨_, rfl⟩
          rw [← hn4] at e4
          subst e4
          have HN4 := Lib.hid hn4
          have HR4 : Hid (Reads w4 w4.heap.size 12 A4 n4 (L4.flatMap Mp.vs)) := Lib.hid (by
            have h := hO4
            unfold OwnM at h
            rw [← hn4] at h
            exact Reads.of_own h)
          have HO4 := Lib.hid (HO3.out.below hb4)
          have HE4 := Lib.hid (HE3.out.trans (hb4.mono HE3.out.size))
          have ho4 := HO4.out
          unfold OwnM at ho4
          rw [← HN9.out] at ho4
          have HOO := Lib.hid ho4
          clear hL4 hn4 hO4 hb4 ho4 b9 bl px
          go_wp2_with (at_builtin; refine wpList_append_any _ rfl (.tmp 45) (.tmp 52) _ rfl W.heap.size 102 ti _ 12 40 Tryz.underlying91 hi0 hz0 hz1 hz2 rfl (by decide) (.slice A9 n9 c9) n9 (L.flatMap Mp.vs) rfl HOO.out w4.heap.size A4 n4 c4 (L4.flatMap Mp.vs) rfl HR4.out (one_mp _) (by have h1 := HN9.out; have h2 := HLB.out; have h3 := HN4.out; have h4 := HL4B.out; unfold maxLen; omega) (by have h1 := HN9.out; have h2 := HLB.out; have h3 := HN4.out; have h4 := HL4B.out; omega) HE4.out.size ?_; intro v6 w6 hown hgrow hat; have HE6 := Lib.hid (below_grown HOO.out HE4.out hgrow HE4.out.size); have HO6 := Lib.hid (own_appM (L := L) (L' := L4) hown HN9.out HN4.out); clear hown hgrow hat)
          go_roundw
          case rel => exact ⟨k + 1, by omega, by go_num, by rw [HPG.out]; exact HO6.out, HE6.out⟩
          case measure => simp [intOf]; omega
    · have hkI : ¬ (k : Int) < 512 := by omega
      obtain rfl : k = 512 := by omega
      clear hk hk5
      go_wp2_with fail
      go_ret
      exact ⟨_, rfl, HO.out, HE.out⟩
theorem pages_any (c : TC) (σ : TS) (Fm Fs : Nat → Prop) : ∀ (l t fr : Nat) (W : World), TabAt W c σ Fm Fs → l ≤ 2 → t < 17592186044416 → fr + 512 * spN l ≤ 549755813888 → PgOK c.n σ.S l t →
    Calls Tryz.prog 86 #[.pointer (some ⟨c.tb, 0, none⟩), .int .u64 (t : Int), .int .u64 (fr : Int), .int .i64 (l : Int)] W (RetM (pagesM c.n σ.S l t fr) W)
  | 0, t, fr, W, h, hl, ht, hfr, hok => pages_round c σ Fm Fs 0 t fr 1 (fun _ _ => []) (fun _ => False) W h hl ht hfr (by decide) (by decide) (fun _ _ => by simp) (fun i hi => (hok i hi).imp id .inl) (fun _ _ _ _ _ _ hf => hf.elim)
  | l + 1, t, fr, W, h, hl, ht, hfr, hok => pages_round c σ Fm Fs (l + 1) t fr (512 ^ (l + 1)) (pagesM c.n σ.S l) (PgOK c.n σ.S l) W h hl ht hfr (Nat.one_le_pow _ _ (by decide)) (by rcases (show l = 0 ∨ l = 1 by omega) with rfl | rfl <;> decide) (fun a b => pages_len c.n σ.S l a b) hok
      (fun t' fr' W' h' ht' hf' hok' => by
        have h2 := pages_any c σ Fm Fs l t' fr' W' h' (by omega) ht' (by
          have e : 512 * spN l = spN (l + 1) := by
            unfold spN
            rw [Nat.mul_left_comm, show 9 * (l + 1) = 9 + 9 * l by omega, Nat.pow_add]
          rw [e]; exact hf') hok'
        rw [show (((l + 1 : Nat) : Int) - 1) = (l : Int) by omega]
        exact h2)
set_option maxHeartbeats 400000 in
theorem Pages_t (c : TC) (σ : TS) (Fm Fs : Nat → Prop) (W : World) (h : TabAt W c σ Fm Fs) (hok : PgOK c.n σ.S 2 c.root) :
    Calls Tryz.prog 62 #[.pointer (some ⟨c.tb, 0, none⟩)] W (RetM (pagesM c.n σ.S 2 c.root 0) W) := by
  have t2 := h.hd.cell 2
  simp only [List.getElem?_toArray, List.getElem?_cons_zero, List.getElem?_cons_succ] at t2
  have hw : IntKind.u64.wrap (c.root : Int) = (c.root : Int) := by rw [IntKind.wrap_u64]; have := h.rl; omega
  have HP := Lib.hid (pages_any c σ Fm Fs 2 c.root 0 W h (by decide) (by have := h.rl; omega) (by decide) hok)
  clear h hok
  go_enter Tryz.func62, Tryz.ntmps62
  go_wp2_with fail
  refine HP.out.mono ?_
  rintro e w1 ⟨v, rfl, h1, h2⟩
  have H1 := Lib.hid h1
  have H2 := Lib.hid h2
  clear h1 h2
  go_wp2_with fail
  go_ret
  exact ⟨_, rfl, H1.out, H2.out⟩
theorem Pages_nil (W : World) : Calls Tryz.prog 62 #[.pointer none] W fun e w' => e = .returned (.slice none 0 0) ∧ W = w' := by
  go_enter Tryz.func62, Tryz.ntmps62
  go_wp2_with fail
  go_ret
  exact ⟨rfl, rfl⟩
end Go.Proofs.YtophcgbddccpeaaGreat

/- Plain laws: words of tables, bases of addresses. -/
namespace Go.Proofs.YtophcgbddccpeaaGreat
open Go.RowKit

theorem wd_store {n t t' i i' v : Nat} {S : Nat → List Nat} (hf : Full S) (ht : t < n) (hi : i < 512) (hi' : i' < 512) (hv : v < 18446744073709551616) : wdX n (stR n S (t * 4096 + 8 * i) 8 v) t' i' = if t' = t ∧ i' = i then v else wdX n S t' i' := by
  unfold wdX
  by_cases h : t' = t ∧ i' = i
  · rw [if_pos h, h.1, h.2]
    exact ld_same (chk8_of (by omega) (by omega)) hv
  · rw [if_neg h]
    exact ld_other hf (by omega) (by omega)
theorem Full.upd {S : Nat → List Nat} (h : Full S) (k : Nat) : Full (updS S k zeroL) := fun j => by
  unfold updS
  split
  · exact zero_len
  · exact h j
theorem wd_zero {n k t i : Nat} {S : Nat → List Nat} (hi : i < 512) : wdX n (updS S k zeroL) t i = if t = k then 0 else wdX n S t i := by
  unfold wdX ldR
  have hd : (t * 4096 + 8 * i) / 4096 = t := by omega
  by_cases h : t = k
  · rw [if_pos h]
    split
    · unfold ldV updS getV
      rw [hd, if_pos h]
      apply leNat_zero
      intro j
      rw [List.getD_eq_getElem?_getD, List.getElem?_take]
      split
      · rw [← List.getD_eq_getElem?_getD, getD_drop]
        exact zeroL_get _
      · rfl
    · rfl
  · rw [if_neg h]
    split
    · unfold ldV updS
      rw [hd, if_neg h]
    · rfl
def baseN (va l : Nat) : Nat := va / spN l * spN l
theorem base_eq_sub (va l : Nat) : baseN va l = va - va % spN l := by
  unfold baseN
  have := Nat.div_add_mod va (spN l)
  rw [Nat.mul_comm] at this
  omega
theorem sp0 : spN 0 = 4096 := rfl
theorem sp1 : spN 1 = 2097152 := rfl
theorem sp2 : spN 2 = 1073741824 := rfl
theorem lev3 {l : Nat} (h : l ≤ 2) : l = 0 ∨ l = 1 ∨ l = 2 := by omega
theorem idx_eq (va : Nat) {l : Nat} (h : l ≤ 2) : indexV va (l : Int) = va / spN l % 512 := by
  rcases lev3 h with rfl | rfl | rfl <;> rfl
theorem idx_lt (va l : Nat) : indexV va (l : Int) < 512 := by
  unfold indexV
  split
  · exact fieldV_lt _ _ _
  · decide
theorem base_iff {va vb l : Nat} (h : l ≤ 2) : baseN va l = baseN vb l ↔ va / spN l = vb / spN l := by
  unfold baseN
  rcases lev3 h with rfl | rfl | rfl
  · rw [sp0]; omega
  · rw [sp1]; omega
  · rw [sp2]; omega
theorem base_up {va vb l : Nat} (h : l ≤ 1) : baseN va l = baseN vb l ↔ (baseN va (l + 1) = baseN vb (l + 1) ∧ indexV va (l : Int) = indexV vb (l : Int)) := by
  rw [base_iff (by omega), base_iff (by omega), idx_eq _ (by omega), idx_eq _ (by omega)]
  rcases (show l = 0 ∨ l = 1 by omega) with rfl | rfl
  · rw [show 0 + 1 = 1 from rfl, sp0, sp1]; omega
  · rw [show 1 + 1 = 2 from rfl, sp1, sp2]; omega
theorem canon_iff (va : Nat) (hv : va < 18446744073709551616) : canonB va = true ↔ (va / 274877906944 = 0 ∨ va / 274877906944 = 67108863) := by
  unfold canonB fieldV
  rw [Bool.or_eq_true, beq_iff_eq, beq_iff_eq, show 2 ^ 38 = 274877906944 from rfl, show 2 ^ 26 = 67108864 from rfl]
  omega
theorem base_top {va vb : Nat} (ha : va < 18446744073709551616) (hb : vb < 18446744073709551616) (ca : canonB va = true) (cb : canonB vb = true) : baseN va 2 = baseN vb 2 ↔ indexV va 2 = indexV vb 2 := by
  rw [base_iff (by decide)]
  have e1 := idx_eq va (l := 2) (by decide)
  have e2 := idx_eq vb (l := 2) (by decide)
  rw [show ((2 : Nat) : Int) = 2 from rfl] at e1 e2
  rw [e1, e2, sp2]
  have h1 := (canon_iff va ha).1 ca
  have h2 := (canon_iff vb hb).1 cb
  omega
theorem base_base {va l k : Nat} (h : l ≤ k) (hk : k ≤ 2) : baseN (baseN va l) k = baseN va k := by
  unfold baseN
  rcases lev3 hk with rfl | rfl | rfl
  · obtain rfl : l = 0 := by omega
    rw [sp0]; omega
  · rcases (show l = 0 ∨ l = 1 by omega) with rfl | rfl
    · rw [sp0, sp1]; omega
    · rw [sp1]; omega
  · rcases lev3 (show l ≤ 2 by omega) with rfl | rfl | rfl
    · rw [sp0, sp2]; omega
    · rw [sp1, sp2]; omega
    · rw [sp2]; omega
theorem base_le (va l : Nat) : baseN va l ≤ va := Nat.div_mul_le_self _ _
theorem base_canon {va l : Nat} (h : l ≤ 2) : canonB (baseN va l) = canonB va := by
  have e : baseN va l = besV va 0 l := by rw [base_eq_sub]; unfold besV; simp
  rw [e]
  exact bes_canon h
theorem base_idx {va l : Nat} (h : l ≤ 2) : indexV (baseN va l) (l : Int) = indexV va (l : Int) := by
  have e : baseN va l = besV va 0 l := by rw [base_eq_sub]; unfold besV; simp
  rw [e]
  exact (bes_index h l (Nat.le_refl _)).symm
theorem at_eq' {va t l : Nat} (ht : t < 1048576) : atX va t l = t * 4096 + 8 * indexV va (l : Int) := by
  have := idx_lt va l
  unfold atX
  omega
end Go.Proofs.YtophcgbddccpeaaGreat
