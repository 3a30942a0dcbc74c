/- Merged texts: TabW, TabX, TabY, TabZ, TbA. -/
import Derived.Test.YtbgagmpinekhpaaTm5
import Derived.Test.YtbgagmpinekhpaaORows
/- The reference's tables: Pages (an insertion sort), Same. -/
namespace Go.Proofs.Ytbgagmpinekhpaa
open Go.RowKit

theorem sort_step {L : List Mp} {k : Nat} {m : Mp} (h : L[k]? = some m) : sortM (L.take (k + 1)) = insM (sortM (L.take k)) m := by
  unfold sortM
  rw [List.take_add_one, h, List.foldl_append]
  rfl
theorem sort_len : ∀ (L out : List Mp), (L.foldl insM out).length = out.length + L.length
  | [], out => by simp
  | m :: L, out => by rw [List.foldl_cons, sort_len L, ins_len, List.length_cons]; omega
theorem pos_stop {out : List Mp} {v i : Nat} {m : Mp} (h : out[i]? = some m) (hm : ¬ v < m.va) : posN out v (i + 1) = i + 1 := by
  unfold posN
  rw [h]
  simp only
  rw [if_neg hm]
theorem pos_go {out : List Mp} {v i : Nat} {m : Mp} (h : out[i]? = some m) (hm : v < m.va) : posN out v (i + 1) = posN out v i := by
  rw [posN, h]
  simp only
  rw [if_pos hm]
/-- The list while its upper part is moved up by one. -/
def mvL (S : List Mp) (m : Mp) (j : Nat) : List Mp := (S ++ [m]).take (j + 1) ++ S.drop j
theorem mv_start (S : List Mp) (m : Mp) : mvL S m S.length = S ++ [m] := by
  unfold mvL
  rw [List.take_of_length_le (by simp), List.drop_length, List.append_nil]
theorem mv_len (S : List Mp) (m : Mp) (j : Nat) (h : j ≤ S.length) : (mvL S m j).length = S.length + 1 := by
  unfold mvL
  simp
  omega
theorem mv_get {S : List Mp} {m e : Mp} {j : Nat} (h : S[j]? = some e) : (mvL S m (j + 1))[j]? = some e := by
  have hj := (List.getElem?_eq_some_iff.1 h).1
  unfold mvL
  rw [List.getElem?_append_left (by simp; omega), List.getElem?_take, if_pos (by omega), List.getElem?_append_left hj, h]
theorem mv_step {S : List Mp} {m e : Mp} {j : Nat} (h : S[j]? = some e) : (mvL S m (j + 1)).set (j + 1) e = mvL S m j := by
  have hj := (List.getElem?_eq_some_iff.1 h).1
  have he : S[j] = e := (List.getElem?_eq_some_iff.1 h).2
  unfold mvL
  have hl : ((S ++ [m]).take (j + 1)).length = j + 1 := by simp; omega
  rw [List.take_add_one (i := j + 1), List.append_assoc, List.set_append_right _ _ (by rw [hl]; exact Nat.le_refl _), hl, Nat.sub_self]
  have : ((S ++ [m])[j + 1]?).toList = [(S ++ [m])[j + 1]'(by simp; omega)] := by rw [List.getElem?_eq_getElem (by simp; omega)]; rfl
  rw [this, List.singleton_append, List.set_cons_zero]
  congr 1
  rw [List.drop_eq_getElem_cons hj, he]
theorem mv_end {S : List Mp} {m : Mp} {p : Nat} (h : p ≤ S.length) : (mvL S m p).set p m = S.take p ++ m :: S.drop p := by
  unfold mvL
  have hl : ((S ++ [m]).take p).length = p := by simp; omega
  rw [List.take_add_one, List.append_assoc, List.set_append_right _ _ (by rw [hl]; exact Nat.le_refl _), hl, Nat.sub_self]
  have : ((S ++ [m])[p]?).toList = [(S ++ [m])[p]'(by simp; omega)] := by rw [List.getElem?_eq_getElem (by simp; omega)]; rfl
  rw [this, List.singleton_append, List.set_cons_zero, List.take_append_of_le_length h]
theorem ownM_set {w : World} {base g n cap : Nat} {L : List Mp} (h : OwnM base w (.slice (some ⟨g, 0, none⟩) n cap) L) (hn : n = L.length) {i : Nat} {e y : Mp} (hi : L[i]? = some e) : OwnM base (w.setCells g (i * 12) y.cs.toList) (.slice (some ⟨g, 0, none⟩) n cap) (L.set i y) := by
  subst hn
  have hil := (List.getElem?_eq_some_iff.1 hi).1
  have h1 := own_set h (i * 12) y.cs.toList (by rw [mcs_list, mvs_12]; omega)
  unfold OwnM
  rw [List.length_set, flat_set mvs_12 L i e y 0 y.vs hi (by rw [mvs_12]; omega) (by simp [mvs_12])]
  exact h1
theorem ownM_range {w : World} {base g n cap : Nat} {L : List Mp} (h : OwnM base w (.slice (some ⟨g, 0, none⟩) n cap) L) {i : Nat} {e : Mp} (hi : L[i]? = some e) : g < w.heap.size ∧ w.rangeAt g (i * 12) e.cs.toList := by
  obtain ⟨A, c, hv⟩ := h.form
  injection hv with h1 h2 h3
  subst h2
  have hr := RdX.of_own mvs_12 (show w.ownsRow base 62 12 (.slice (some ⟨g, 0, none⟩) L.length cap) L.length (L.flatMap Mp.vs) from h) rfl
  obtain ⟨b, e1, hl, hc⟩ := hr (fun e0 => by rw [e0] at hi; simp at hi)
  injection e1 with e1
  injection e1 with e1
  subst e1
  exact ⟨hl, hc i e hi⟩
theorem ownM_some {w : World} {base : Nat} {v : Value} {L : List Mp} (h : OwnM base w v L) (hl : 0 < L.length) : ∃ g cap, v = .slice (some ⟨g, 0, none⟩) L.length cap ∧ base ≤ g ∧ g < w.heap.size := by
  have hlt := h.lt
  rcases h.2 with ⟨h1, h2⟩ | ⟨g, cap, cur, h1, hb, _⟩
  · omega
  · exact ⟨g, cap, h1, hb, (hlt g (by rw [h1]; rfl)).2⟩
theorem ownM_there {w : World} {base g n cap : Nat} {L : List Mp} (h : OwnM base w (.slice (some ⟨g, 0, none⟩) n cap) L) {i : Nat} (hi : i < n) : w.there g (i * 12) 12 := by
  obtain ⟨A, c, hv⟩ := h.form
  injection hv with h1 h2 h3
  subst h2
  exact own_there (show w.ownsRow base 62 12 (.slice (some ⟨g, 0, none⟩) L.length cap) L.length (L.flatMap Mp.vs) from h) (i * 12) 12 (by omega)
theorem ex_row12 : rowT Try.prog 62 12 = true := by kernel_rfl
theorem ownM_k {base : Nat} {w : World} {v : Value} {S : List Mp} {k : Nat} (h : OwnM base w v S) (hk : S.length = k) : w.ownsRow base 62 12 v k (S.flatMap Mp.vs) := by subst hk; exact h
theorem sort_app {W w2 w3 : World} {A1 : Option Addr} {k c1 pb : Nat} {S : List Mp} {m : Mp} {v3 : Value} {cs ce : Array Value} (ho : OwnM W.heap.size w2 (.slice A1 k c1) S) (hk : S.length = k) (hE : Below W.heap.size W w2) (hB : Blk w2 pb 62 cs) (hol : ∀ g2, A1 = some ⟨g2, 0, none⟩ → g2 ≠ pb)
    (hown : w3.ownsRow W.heap.size 62 12 v3 (k + 1) (S.flatMap Mp.vs ++ m.vs)) (hgrow : (w2.alloc (.cells ce 62)).grownBy w3 (Value.slice A1 k c1).ownBlock) (hat : v3.ownBlock = (Value.slice A1 k c1).ownBlock ∨ v3.ownBlock = some (w2.alloc (.cells ce 62)).heap.size) :
    ∃ g3 c3, v3 = .slice (some ⟨g3, 0, none⟩) (k + 1) c3 ∧ Hid (OwnM W.heap.size w3 (.slice (some ⟨g3, 0, none⟩) (k + 1) c3) (S ++ [m])) ∧ Hid (Below W.heap.size W w3) ∧ Hid (Blk w3 pb 62 cs) ∧ Hid (W.heap.size ≤ g3) ∧ Hid (g3 ≠ pb) := by
  have hpl := hB.lt
  have hO2 : OwnM W.heap.size w3 v3 (S ++ [m]) := own_appM (L := S) (L' := [m]) (by simpa using hown) hk.symm rfl
  obtain ⟨g3, c3, e3, hg3, hg3l⟩ := ownM_some hO2 (by simp)
  rw [List.length_append, hk] at e3
  subst e3
  have hnp : (Value.slice A1 k c1).ownBlock ≠ some pb := by
    intro e
    rcases ho.2 with ⟨h1, _⟩ | ⟨g, cap, cur, h1, _⟩
    · rw [h1] at e; simp [Value.ownBlock] at e
    · injection h1 with h1 _ _
      subst h1
      simp only [Value.ownBlock, Option.some.injEq] at e
      exact hol g rfl e
  refine ⟨g3, c3, rfl, Lib.hid hO2, Lib.hid ((hE.alloc hE.size _).grown hgrow (Nat.le_trans hE.size (by simp)) (fun k hk => (ho.lt k hk).1)), Lib.hid ((hB.alloc _).grown hgrow (fun e => hnp e.symm)), Lib.hid hg3, Lib.hid (fun e => ?_)⟩
  rcases hat with h1 | h1
  · rw [← h1] at hnp
    simp only [Value.ownBlock] at hnp
    exact hnp (by rw [e])
  · simp only [Value.ownBlock, Option.some.injEq] at h1
    have : g3 = w2.heap.size + 1 := by simpa using h1
    omega
set_option maxRecDepth 100000 in
set_option maxHeartbeats 4000000 in
theorem rpages_any (rb : Nat) (c : TC) (x : XS) (F : Nat → Prop) (W : World) (h : XAt W rb c x F) (hroom : Roomy x) :
    Calls Try.prog 23 #[.pointer (some ⟨rb, 0, none⟩)] W (RetM (sortM x.L) W) := by
  obtain ⟨im0, hi0, hz0, hz1, hz2⟩ := info_parts infoM
  obtain ⟨A, cA, B, cB, hb, hr, _, hm, _⟩ := h.forms
  have t0 := hb.cell 0
  have tl := hb.lt
  simp only [List.getElem?_toArray, List.getElem?_cons_zero, List.getElem?_cons_succ] at t0
  obtain ⟨n, hn⟩ : ∃ n, n = x.L.length := ⟨_, rfl⟩
  rw [← hn] at t0
  have HR := Lib.hid hr
  have HN := Lib.hid hn
  have HNB : Hid (n ≤ 100000) := Lib.hid (by rw [hn]; exact hroom.1)
  have hm2 : n ≤ 9223372036854775807 := by have := HNB.out; omega
  clear h hb hr hm hn hroom
  go_enter Try.func23, Try.ntmps23
  go_wp2_with fail
  go_loopw [3, 13] (fun v i wr => ∃ k : Nat, k ≤ n ∧ i = .int .i64 k ∧ OwnM W.heap.size wr v (sortM (x.L.take k)) ∧ Below W.heap.size W wr) (fun _ i _ => n - (intOf i).toNat)
  case atStart => exact ⟨0, by omega, rfl, OwnM.nil _ _, Below.refl _ _⟩
  case round =>
    obtain ⟨k, hk, rfl, hO, hE⟩ := hrel
    have HE := Lib.hid hE
    have HO := Lib.hid hO
    obtain ⟨S, hS⟩ : ∃ S, S = sortM (x.L.take k) := ⟨_, rfl⟩
    have HSS := Lib.hid hS
    have HSL : Hid (S.length = k) := Lib.hid (by rw [hS]; unfold sortM; rw [sort_len, List.length_take, ← HN.out]; simp; omega)
    rw [← hS] at HO
    obtain ⟨A1, c1, e1⟩ := HO.out.form
    rw [HSL.out] at e1
    subst e1
    clear hO hE hS t0 tl
    by_cases hkl : k < n
    · obtain ⟨m, hx⟩ : ∃ m, x.L[k]? = some m := ⟨_, List.getElem?_eq_getElem (by rw [← HN.out]; exact hkl)⟩
      have HX := Lib.hid hx
      obtain ⟨g, e, _, hrg⟩ := HR.out (fun e => by rw [e] at hx; simp at hx)
      subst e
      obtain ⟨mva, mlev, ⟨v, r, w, x', u, g', a, d, rsw, ppn⟩⟩ := m
      have HRG : Hid (wr.rangeAt g (k * 12) #[.int .u64 (mva : Int), .int .i64 (mlev : Int), .bool v, .bool r, .bool w, .bool x', .bool u, .bool g', .bool a, .bool d, .int .i64 rsw, .int .u64 ppn].toList) := Lib.hid (range_below (hrg k _ hx) HE.out)
      clear hrg hx
      have HAL : Hid (Below wr.heap.size wr (wr.alloc (.cells #[.int .u64 (mva : Int), .int .i64 (mlev : Int), .bool v, .bool r, .bool w, .bool x', .bool u, .bool g', .bool a, .bool d, .int .i64 rsw, .int .u64 ppn] 62))) := Lib.hid ((Below.refl wr.heap.size wr).alloc (Nat.le_refl _) _)
      have HLB : Hid (Blk (wr.alloc (.cells #[.int .u64 (mva : Int), .int .i64 (mlev : Int), .bool v, .bool r, .bool w, .bool x', .bool u, .bool g', .bool a, .bool d, .int .i64 rsw, .int .u64 ppn] 62)) wr.heap.size 62 #[.int .u64 (mva : Int), .int .i64 (mlev : Int), .bool v, .bool r, .bool w, .bool x', .bool u, .bool g', .bool a, .bool d, .int .i64 rsw, .int .u64 ppn]) := Lib.hid (Blkf.new_at _ _ _ _ rfl)
      go_wp2_with (first | ((with_reducible refine wl_load 62 (.tmp 15) rfl ?_ g (k * 12) #[.int .u64 (mva : Int), .int .i64 (mlev : Int), .bool v, .bool r, .bool w, .bool x', .bool u, .bool g', .bool a, .bool d, .int .i64 rsw, .int .u64 ppn] ?_ HRG.out ?_ ?_); exact rfl; exact rfl; exact ex_row12) | ((with_reducible refine wl_store_new 62 (.tmp 5) (.tmp 16) rfl ?_ wr (World.heap wr).size 62 #[.int .u64 0, .int .i64 0, .bool false, .bool false, .bool false, .bool false, .bool false, .bool false, .bool false, .bool false, .int .i64 0, .int .u64 0] #[.int .u64 (mva : Int), .int .i64 (mlev : Int), .bool v, .bool r, .bool w, .bool x', .bool u, .bool g', .bool a, .bool d, .int .i64 rsw, .int .u64 ppn] ?_ ?_ ?_ ?_ ?_ ?_ ?_ ?_); exact rfl; exact rfl; exact rfl; exact rfl; exact rfl; exact rfl; exact ex_row12; exact (mcs_one (⟨mva, mlev, ⟨v, r, w, x', u, g', a, d, rsw, ppn⟩⟩ : Mp))))
      have HO1 := Lib.hid (HO.out.below HAL.out)
      have HE1 := Lib.hid (HE.out.trans (HAL.out.mono HE.out.size))
      have HOL : Hid (∀ g2, A1 = some ⟨g2, 0, none⟩ → g2 ≠ wr.heap.size) := Lib.hid (fun g2 e => by have := (HO.out.lt g2 (by rw [e]; rfl)).2; omega)
      have HPB : Hid (W.heap.size ≤ wr.heap.size) := Lib.hid HE.out.size
      clear HAL HO HE HRG
      generalize wr.alloc (.cells #[.int .u64 (mva : Int), .int .i64 (mlev : Int), .bool v, .bool r, .bool w, .bool x', .bool u, .bool g', .bool a, .bool d, .int .i64 rsw, .int .u64 ppn] 62) = w1 at *
      generalize wr.heap.size = pb at *
      clear wr
      go_loopw [6] (fun i wi => ∃ j : Nat, j ≤ k ∧ i = .int .i64 j ∧ posN S mva j = posN S mva k ∧ Below w1.heap.size w1 wi) (fun i _ => (intOf i).toNat)
      case atStart => exact ⟨k, Nat.le_refl _, rfl, rfl, Below.refl _ _⟩
      case round =>
        obtain ⟨j, hj, rfl, hpos, hbi⟩ := hrel
        have HPOS := Lib.hid hpos
        have HBI := Lib.hid hbi
        clear hpos hbi
        have HO2 := Lib.hid (HO1.out.below HBI.out)
        have HE2 := Lib.hid (HE1.out.trans (HBI.out.mono HE1.out.size))
        have HLB2 := Lib.hid (HLB.out.below HBI.out HLB.out.lt)
        cases j with
        | zero =>
          have HP : Hid (posN S mva k = 0) := Lib.hid (by rw [← HPOS.out]; rfl)
          go_wp2_with fail
          refine wp_region_plan [(0, false), (1, false), (2, false), (3, false), (4, false), (5, false), (6, false), (7, false), (8, false), (9, false), (10, false), (11, false), (12, false)] (by kernel_rfl) (by kernel_rfl) (fun _ d _ _ _ h => by cases d <;> exact h) ?_
          iterate 3 (refine plan_take (v := ?_) rfl (by kernel_rfl) ?_ ?_; rotate_left; (focus (intro w' hw'; try go_simp; try with_reducible rfl)); simp only [Act.put, List.setIfInBounds_toArray, List.set_cons_zero, List.set_cons_succ])
          iterate 9 (refine plan_skip rfl (by kernel_rfl) ?_; simp only [Act.put, List.setIfInBounds_toArray, List.set_cons_zero, List.set_cons_succ])
          iterate 1 (refine plan_take (v := ?_) rfl (by kernel_rfl) ?_ ?_; rotate_left; (focus (intro w' hw'; try go_simp; try with_reducible rfl)); simp only [Act.put, List.setIfInBounds_toArray, List.set_cons_zero, List.set_cons_succ])
          refine plan_end ?_
          have HO3 := Lib.hid (HO2.out.below (Below.refl _ wr).drew)
          have HE3 := Lib.hid HE2.out.drew
          have HLB3 := Lib.hid HLB2.out.drew
          have HPK : Hid (0 ≤ k) := Lib.hid (by rw [← HP.out]; exact posN_le S mva k)
          clear HO2 HE2 HLB2 HPOS HBI
          generalize wr.drew = w2 at *
          go_wp2_with (first | ((with_reducible refine wl_load 62 (.tmp 5) rfl ?_ pb 0 #[.int .u64 (mva : Int), .int .i64 (mlev : Int), .bool v, .bool r, .bool w, .bool x', .bool u, .bool g', .bool a, .bool d, .int .i64 rsw, .int .u64 ppn] ?_ HLB3.out.range ?_ ?_); exact rfl; exact rfl; exact ex_row12) | (at_builtin; refine wpList_append_any _ rfl (.tmp 34) (.tmp 36) _ rfl W.heap.size 62 im0 _ 12 40 Try.underlying40 hi0 hz0 hz1 hz2 rfl (by decide) _ k (S.flatMap Mp.vs) rfl ((Keeps.of_below (F := fun _ => False) ((Below.refl _ w2).alloc (Nat.le_refl _) (.cells #[.int .u64 (mva : Int), .int .i64 (mlev : Int), .bool v, .bool r, .bool w, .bool x', .bool u, .bool g', .bool a, .bool d, .int .i64 rsw, .int .u64 ppn] 62))).row (ownM_k HO3.out HSL.out) (fun _ _ h => h)) (w2.heap.size + 1) (some ⟨w2.heap.size, 0, none⟩) 1 1 (⟨mva, mlev, ⟨v, r, w, x', u, g', a, d, rsw, ppn⟩⟩ : Mp).vs rfl (reads_new w2 #[.int .u64 (mva : Int), .int .i64 (mlev : Int), .bool v, .bool r, .bool w, .bool x', .bool u, .bool g', .bool a, .bool d, .int .i64 rsw, .int .u64 ppn] 62 rfl) (mvs_one _) (by unfold maxLen; have := HNB.out; omega) (by have := HNB.out; omega) (Nat.le_trans HE3.out.size (by simp)) ?_; intro v3 w3 hown hgrow hat; obtain ⟨g3, c3, e3, HO4, HE4, HLB4, HG3, HNE⟩ := sort_app HO3.out HSL.out HE3.out HLB3.out HOL.out hown hgrow hat; subst e3; clear hown hgrow hat; obtain ⟨N1, hN1⟩ : ∃ N1, N1 = k + 1 := ⟨_, rfl⟩; rw [← hN1] at HO4 ⊢; have kn : (N1 : Int) - 1 = (k : Int) := (by omega); have HN1 := Lib.hid hN1; clear hN1))
          have HAT : Hid (OwnM W.heap.size w3 (.slice (some ⟨g3, 0, none⟩) N1 c3) (mvL S (⟨mva, mlev, ⟨v, r, w, x', u, g', a, d, rsw, ppn⟩⟩ : Mp) k)) := Lib.hid (by rw [← HSL.out, mv_start]; exact HO4.out)
          have HNM : Hid (W.heap.size ≤ w3.heap.size) := Lib.hid HE4.out.size
          clear HO4 HO3 HE3 HLB3 HOL kn
          go_loopw [7] (fun i w4 => ∃ j : Nat, 0 ≤ j ∧ j ≤ k ∧ i = .int .i64 j ∧ OwnM W.heap.size w4 (.slice (some ⟨g3, 0, none⟩) N1 c3) (mvL S (⟨mva, mlev, ⟨v, r, w, x', u, g', a, d, rsw, ppn⟩⟩ : Mp) j) ∧ Below W.heap.size W w4 ∧ Blk w4 pb 62 #[.int .u64 (mva : Int), .int .i64 (mlev : Int), .bool v, .bool r, .bool w, .bool x', .bool u, .bool g', .bool a, .bool d, .int .i64 rsw, .int .u64 ppn]) (fun i _ => (intOf i).toNat)
          case atStart => exact ⟨k, HPK.out, Nat.le_refl _, by go_num, HAT.out, HE4.out, HLB4.out⟩
          clear HAT HE4 HLB4
          case round =>
            obtain ⟨j, hpj, hjk, rfl, hO, hE, hB⟩ := hrel
            have HO5 := Lib.hid hO
            have HE5 := Lib.hid hE
            have HLB5 := Lib.hid hB
            have HK1 : Hid (N1 = k + 1 ∧ k ≤ 100000) := Lib.hid ⟨HN1.out, by have := HNB.out; omega⟩
            clear hO hE hB
            by_cases hpj2 : j = 0
            · have n5 : ¬ 0 < j := by omega
              have d5 : decide (0 < j) = false := decide_eq_false n5
              have n6 : ¬ ((0 : Nat) : Int) < (j : Int) := by omega
              have n7 : ((0 : Nat) : Int) < (N1 : Int) := by have := HK1.out; omega
              have n8 : 0 < N1 := by have := HK1.out; omega
              have HTH : Hid (World.there wr g3 (0 * 12) (#[.int .u64 (mva : Int), .int .i64 (mlev : Int), .bool v, .bool r, .bool w, .bool x', .bool u, .bool g', .bool a, .bool d, .int .i64 rsw, .int .u64 ppn] : Array Value).size) := Lib.hid (ownM_there HO5.out n8)
              have HJP := Lib.hid hpj2
              clear hpj hpj2
              go_wp2_with (first | ((with_reducible refine wl_load 62 (.tmp 5) rfl ?_ pb 0 #[.int .u64 (mva : Int), .int .i64 (mlev : Int), .bool v, .bool r, .bool w, .bool x', .bool u, .bool g', .bool a, .bool d, .int .i64 rsw, .int .u64 ppn] ?_ HLB5.out.range ?_ ?_); exact rfl; exact rfl; exact ex_row12) | ((with_reducible refine wl_store_mid 62 (.tmp 57) (.tmp 56) rfl ?_ g3 (0 * 12) #[.int .u64 (mva : Int), .int .i64 (mlev : Int), .bool v, .bool r, .bool w, .bool x', .bool u, .bool g', .bool a, .bool d, .int .i64 rsw, .int .u64 ppn] ?_ ?_ HTH.out ?_ ?_ ?_); exact rfl; exact rfl; exact rfl; exact ex_row12; exact (mcs_one (⟨mva, mlev, ⟨v, r, w, x', u, g', a, d, rsw, ppn⟩⟩ : Mp))))
              have HO6 : Hid (OwnM W.heap.size (wr.setCells g3 (0 * 12) #[.int .u64 (mva : Int), .int .i64 (mlev : Int), .bool v, .bool r, .bool w, .bool x', .bool u, .bool g', .bool a, .bool d, .int .i64 rsw, .int .u64 ppn].toList) (.slice (some ⟨g3, 0, none⟩) N1 c3) (insM S (⟨mva, mlev, ⟨v, r, w, x', u, g', a, d, rsw, ppn⟩⟩ : Mp))) := Lib.hid (by
                have h0 := HO5.out
                rw [HJP.out] at h0
                have hl : N1 = (mvL S (⟨mva, mlev, ⟨v, r, w, x', u, g', a, d, rsw, ppn⟩⟩ : Mp) (0)).length := by rw [mv_len _ _ _ (by rw [HSL.out]; exact HPK.out), HSL.out]; exact HK1.out.1
                obtain ⟨e0, he0⟩ : ∃ e0, (mvL S (⟨mva, mlev, ⟨v, r, w, x', u, g', a, d, rsw, ppn⟩⟩ : Mp) (0))[0]? = some e0 := ⟨_, List.getElem?_eq_getElem (by rw [← hl]; exact n8)⟩
                have h1 := ownM_set (y := (⟨mva, mlev, ⟨v, r, w, x', u, g', a, d, rsw, ppn⟩⟩ : Mp)) h0 hl he0
                rw [mv_end (by rw [HSL.out]; exact HPK.out)] at h1
                have h2 : insM S (⟨mva, mlev, ⟨v, r, w, x', u, g', a, d, rsw, ppn⟩⟩ : Mp) = S.take (0) ++ (⟨mva, mlev, ⟨v, r, w, x', u, g', a, d, rsw, ppn⟩⟩ : Mp) :: S.drop (0) := by
                  unfold insM
                  rw [HSL.out]
                  show List.take (posN S mva k) S ++ _ :: List.drop (posN S mva k) S = _
                  rw [HP.out]
                rw [h2]
                exact h1)
              have HE6 : Hid (Below W.heap.size W (wr.setCells g3 (0 * 12) #[.int .u64 (mva : Int), .int .i64 (mlev : Int), .bool v, .bool r, .bool w, .bool x', .bool u, .bool g', .bool a, .bool d, .int .i64 rsw, .int .u64 ppn].toList)) := Lib.hid (below_cells HE5.out g3 _ _ HG3.out HE5.out.size)
              go_roundw
              case rel => exact ⟨k + 1, hkl, by go_num, by rw [sort_step HX.out, ← HSS.out]; exact HO6.out, HE6.out⟩
              case measure => simp [intOf]; omega
            · obtain ⟨j1, hj1⟩ : ∃ j1, j = j1 + 1 := ⟨j - 1, by omega⟩
              have n5 : 0 < j := by omega
              have d5 : decide (0 < j) = true := decide_eq_true n5
              have n6 : ((0 : Nat) : Int) < (j : Int) := by omega
              have n7 : (j : Int) - 1 = (j1 : Int) := by omega
              have n8 : (j1 : Int) < (N1 : Int) := by have := HK1.out; omega
              have n9 : (j : Int) < (N1 : Int) := by have := HK1.out; omega
              have n10 : j < N1 := by have := HK1.out; omega
              have HJ1 := Lib.hid hj1
              have hj1k : j1 < k := by omega
              have HJJ : Hid (0 ≤ j1) := Lib.hid (by omega)
              obtain ⟨e, he⟩ : ∃ e, S[j1]? = some e := ⟨_, List.getElem?_eq_getElem (by rw [HSL.out]; exact hj1k)⟩
              have HSE := Lib.hid he
              have HRE : Hid (wr.rangeAt g3 (j1 * 12) e.cs.toList) := Lib.hid ((ownM_range HO5.out (by rw [hj1]; exact mv_get he)).2)
              have HTH : Hid (World.there wr g3 (j * 12) e.cs.size) := Lib.hid (ownM_there HO5.out n10)
              clear he hj1 hpj hpj2
              go_wp2_with (first | ((with_reducible refine wl_load 62 (.tmp 51) rfl ?_ g3 (j1 * 12) e.cs ?_ HRE.out ?_ ?_); exact rfl; exact rfl; exact mrow e) | ((with_reducible refine wl_store_mid 62 (.tmp 53) (.tmp 52) rfl ?_ g3 (j * 12) e.cs ?_ ?_ HTH.out ?_ ?_ ?_); exact rfl; exact rfl; exact rfl; exact mrow e; exact mcs_one e))
              have HO6 : Hid (OwnM W.heap.size (wr.setCells g3 (j * 12) e.cs.toList) (.slice (some ⟨g3, 0, none⟩) N1 c3) (mvL S (⟨mva, mlev, ⟨v, r, w, x', u, g', a, d, rsw, ppn⟩⟩ : Mp) j1)) := Lib.hid (by
                have h0 := HO5.out
                have hl : N1 = (mvL S (⟨mva, mlev, ⟨v, r, w, x', u, g', a, d, rsw, ppn⟩⟩ : Mp) j).length := by rw [mv_len _ _ _ (by rw [HSL.out]; exact hjk), HSL.out]; exact HK1.out.1
                obtain ⟨e0, he0⟩ : ∃ e0, (mvL S (⟨mva, mlev, ⟨v, r, w, x', u, g', a, d, rsw, ppn⟩⟩ : Mp) j)[j]? = some e0 := ⟨_, List.getElem?_eq_getElem (by rw [← hl]; exact n10)⟩
                have h1 := ownM_set (y := e) h0 hl he0
                have h2 := mv_step (m := (⟨mva, mlev, ⟨v, r, w, x', u, g', a, d, rsw, ppn⟩⟩ : Mp)) HSE.out
                rw [← HJ1.out] at h2
                rw [h2] at h1
                exact h1)
              have HE6 : Hid (Below W.heap.size W (wr.setCells g3 (j * 12) e.cs.toList)) := Lib.hid (below_cells HE5.out g3 _ _ HG3.out HE5.out.size)
              have HLB6 : Hid (Blk (wr.setCells g3 (j * 12) e.cs.toList) pb 62 #[.int .u64 (mva : Int), .int .i64 (mlev : Int), .bool v, .bool r, .bool w, .bool x', .bool u, .bool g', .bool a, .bool d, .int .i64 rsw, .int .u64 ppn]) := Lib.hid ((setCells_keeps g3 _ _ wr).blk HLB5.out (fun e => HNE.out e.symm))
              go_roundw
              case rel => exact ⟨j1, HJJ.out, by omega, by go_num, HO6.out, HE6.out, HLB6.out⟩
              case measure => simp [intOf]; omega
        | succ j =>
          obtain ⟨e, he⟩ : ∃ e, S[j]? = some e := ⟨_, List.getElem?_eq_getElem (by rw [HSL.out]; omega)⟩
          obtain ⟨g2, c2, e2, hg2, hgl⟩ := ownM_some HO2.out (by rw [HSL.out]; omega)
          injection e2 with e2 e3 e4
          subst e2
          clear e3 e4
          have hrr := (ownM_range HO2.out he).2
          have HEX := Lib.hid he
          have ce : wr.cell? ⟨g2, j * 12, none⟩ = some (.int .u64 (e.va : Int)) := hrr 0 _ rfl
          have pl := HLB2.out.lt
          have s0 := fun (W' : World) (h : Ext wr.drew W') => (h.cell (p := ⟨g2, j * 12, none⟩) hgl).trans ce
          have s1 := fun (W' : World) (h : Ext wr.drew W') => (h.cell (p := ⟨pb, 0, none⟩) pl).trans (HLB2.out.drew.cell 0)
          simp only [List.getElem?_toArray, List.getElem?_cons_zero, List.getElem?_cons_succ] at s1
          have jg : (0 : Int) < ((j + 1 : Nat) : Int) := by omega
          have jd : decide ((0 : Int) < ((j + 1 : Nat) : Int)) = true := decide_eq_true jg
          have jw : IntKind.i64.wrap (((j + 1 : Nat) : Int) - 1) = (j : Int) := by rw [IntKind.wrap_i64]; have := HNB.out; omega
          have jk : j < k := by omega
          have jd2 : decide (0 < j + 1) = true := by simp
          have jk1 : (j : Int) < (k : Int) := by omega
          have jk0 : (0 : Int) ≤ (j : Int) := by omega
          clear he hrr ce
          obtain ⟨J, hJ⟩ : ∃ J, J = j + 1 := ⟨_, rfl⟩
          rw [← hJ] at jg jd jd2 jw hj ⊢
          have HJ := Lib.hid hJ
          clear hJ
          have jw2 : (J : Int) - 1 = (j : Int) := by have := HJ.out; omega
          have jw3 : IntKind.i64.wrap (j : Int) = (j : Int) := by rw [IntKind.wrap_i64]; have := HNB.out; omega
          by_cases hgt : mva < e.va
          · have d1 : decide ((mva : Int) < (e.va : Int)) = true := decide_eq_true (by omega)
            have d2 : decide (mva < e.va) = true := decide_eq_true hgt
            have HNX : Hid (posN S mva j = posN S mva k) := Lib.hid (by rw [← HPOS.out, pos_go HEX.out hgt])
            clear hgt
            go_wp2_with fail
            refine wp_region_plan [(0, false), (1, false), (2, false), (3, false), (4, false), (5, false), (6, false), (7, false), (8, false), (9, false), (10, false), (11, false), (12, false)] (by kernel_rfl) (by kernel_rfl) (fun _ d _ _ _ h => by cases d <;> exact h) ?_
            iterate 13 (refine plan_take (v := ?_) rfl (by kernel_rfl) ?_ ?_; rotate_left; (focus (intro w' hw'; try go_simp; try with_reducible rfl)); simp only [Act.put, List.setIfInBounds_toArray, List.set_cons_zero, List.set_cons_succ])
            refine plan_end ?_
            clear s0 s1 pl jw jw3
            have HB3 := Lib.hid HBI.out.drew
            go_wp2_with fail
            go_roundw
            case rel => exact ⟨j, by omega, by go_num, HNX.out, HB3.out⟩
            case measure => simp [intOf]; omega
          · have d1 : decide ((mva : Int) < (e.va : Int)) = false := decide_eq_false (by omega)
            have d2 : decide (mva < e.va) = false := decide_eq_false hgt
            have HP : Hid (posN S mva k = J) := Lib.hid (by rw [← HPOS.out, pos_stop HEX.out hgt, HJ.out])
            clear hgt
            go_wp2_with fail
            refine wp_region_plan [(0, false), (1, false), (2, false), (3, false), (4, false), (5, false), (6, false), (7, false), (8, false), (9, false), (10, false), (11, false), (12, false)] (by kernel_rfl) (by kernel_rfl) (fun _ d _ _ _ h => by cases d <;> exact h) ?_
            iterate 13 (refine plan_take (v := ?_) rfl (by kernel_rfl) ?_ ?_; rotate_left; (focus (intro w' hw'; try go_simp; try with_reducible rfl)); simp only [Act.put, List.setIfInBounds_toArray, List.set_cons_zero, List.set_cons_succ])
            refine plan_end ?_
            clear s0 s1 pl jw jw3 jk1 jk0 jw2
            have HO3 := Lib.hid (HO2.out.below (Below.refl _ wr).drew)
            have HE3 := Lib.hid HE2.out.drew
            have HLB3 := Lib.hid HLB2.out.drew
            have HPK : Hid (J ≤ k) := Lib.hid (by rw [← HP.out]; exact posN_le S mva k)
            clear HO2 HE2 HLB2 HPOS HBI
            generalize wr.drew = w2 at *
            go_wp2_with (first | ((with_reducible refine wl_load 62 (.tmp 5) rfl ?_ pb 0 #[.int .u64 (mva : Int), .int .i64 (mlev : Int), .bool v, .bool r, .bool w, .bool x', .bool u, .bool g', .bool a, .bool d, .int .i64 rsw, .int .u64 ppn] ?_ HLB3.out.range ?_ ?_); exact rfl; exact rfl; exact ex_row12) | (at_builtin; refine wpList_append_any _ rfl (.tmp 34) (.tmp 36) _ rfl W.heap.size 62 im0 _ 12 40 Try.underlying40 hi0 hz0 hz1 hz2 rfl (by decide) _ k (S.flatMap Mp.vs) rfl ((Keeps.of_below (F := fun _ => False) ((Below.refl _ w2).alloc (Nat.le_refl _) (.cells #[.int .u64 (mva : Int), .int .i64 (mlev : Int), .bool v, .bool r, .bool w, .bool x', .bool u, .bool g', .bool a, .bool d, .int .i64 rsw, .int .u64 ppn] 62))).row (ownM_k HO3.out HSL.out) (fun _ _ h => h)) (w2.heap.size + 1) (some ⟨w2.heap.size, 0, none⟩) 1 1 (⟨mva, mlev, ⟨v, r, w, x', u, g', a, d, rsw, ppn⟩⟩ : Mp).vs rfl (reads_new w2 #[.int .u64 (mva : Int), .int .i64 (mlev : Int), .bool v, .bool r, .bool w, .bool x', .bool u, .bool g', .bool a, .bool d, .int .i64 rsw, .int .u64 ppn] 62 rfl) (mvs_one _) (by unfold maxLen; have := HNB.out; omega) (by have := HNB.out; omega) (Nat.le_trans HE3.out.size (by simp)) ?_; intro v3 w3 hown hgrow hat; obtain ⟨g3, c3, e3, HO4, HE4, HLB4, HG3, HNE⟩ := sort_app HO3.out HSL.out HE3.out HLB3.out HOL.out hown hgrow hat; subst e3; clear hown hgrow hat; obtain ⟨N1, hN1⟩ : ∃ N1, N1 = k + 1 := ⟨_, rfl⟩; rw [← hN1] at HO4 ⊢; have kn : (N1 : Int) - 1 = (k : Int) := (by omega); have HN1 := Lib.hid hN1; clear hN1))
            have HAT : Hid (OwnM W.heap.size w3 (.slice (some ⟨g3, 0, none⟩) N1 c3) (mvL S (⟨mva, mlev, ⟨v, r, w, x', u, g', a, d, rsw, ppn⟩⟩ : Mp) k)) := Lib.hid (by rw [← HSL.out, mv_start]; exact HO4.out)
            have HNM : Hid (W.heap.size ≤ w3.heap.size) := Lib.hid HE4.out.size
            clear HO4 HO3 HE3 HLB3 HOL kn
            go_loopw [7] (fun i w4 => ∃ j : Nat, J ≤ j ∧ j ≤ k ∧ i = .int .i64 j ∧ OwnM W.heap.size w4 (.slice (some ⟨g3, 0, none⟩) N1 c3) (mvL S (⟨mva, mlev, ⟨v, r, w, x', u, g', a, d, rsw, ppn⟩⟩ : Mp) j) ∧ Below W.heap.size W w4 ∧ Blk w4 pb 62 #[.int .u64 (mva : Int), .int .i64 (mlev : Int), .bool v, .bool r, .bool w, .bool x', .bool u, .bool g', .bool a, .bool d, .int .i64 rsw, .int .u64 ppn]) (fun i _ => (intOf i).toNat)
            case atStart => exact ⟨k, HPK.out, Nat.le_refl _, by go_num, HAT.out, HE4.out, HLB4.out⟩
            clear HAT HE4 HLB4
            case round =>
              obtain ⟨j, hpj, hjk, rfl, hO, hE, hB⟩ := hrel
              have HO5 := Lib.hid hO
              have HE5 := Lib.hid hE
              have HLB5 := Lib.hid hB
              have HK1 : Hid (N1 = k + 1 ∧ k ≤ 100000) := Lib.hid ⟨HN1.out, by have := HNB.out; omega⟩
              clear hO hE hB
              by_cases hpj2 : j = J
              · have n5 : ¬ J < j := by omega
                have d5 : decide (J < j) = false := decide_eq_false n5
                have n6 : ¬ ((J : Nat) : Int) < (j : Int) := by omega
                have n7 : ((J : Nat) : Int) < (N1 : Int) := by have := HK1.out; omega
                have n8 : J < N1 := by have := HK1.out; omega
                have HTH : Hid (World.there wr g3 (J * 12) (#[.int .u64 (mva : Int), .int .i64 (mlev : Int), .bool v, .bool r, .bool w, .bool x', .bool u, .bool g', .bool a, .bool d, .int .i64 rsw, .int .u64 ppn] : Array Value).size) := Lib.hid (ownM_there HO5.out n8)
                have HJP := Lib.hid hpj2
                clear hpj hpj2
                go_wp2_with (first | ((with_reducible refine wl_load 62 (.tmp 5) rfl ?_ pb 0 #[.int .u64 (mva : Int), .int .i64 (mlev : Int), .bool v, .bool r, .bool w, .bool x', .bool u, .bool g', .bool a, .bool d, .int .i64 rsw, .int .u64 ppn] ?_ HLB5.out.range ?_ ?_); exact rfl; exact rfl; exact ex_row12) | ((with_reducible refine wl_store_mid 62 (.tmp 57) (.tmp 56) rfl ?_ g3 (J * 12) #[.int .u64 (mva : Int), .int .i64 (mlev : Int), .bool v, .bool r, .bool w, .bool x', .bool u, .bool g', .bool a, .bool d, .int .i64 rsw, .int .u64 ppn] ?_ ?_ HTH.out ?_ ?_ ?_); exact rfl; exact rfl; exact rfl; exact ex_row12; exact (mcs_one (⟨mva, mlev, ⟨v, r, w, x', u, g', a, d, rsw, ppn⟩⟩ : Mp))))
                have HO6 : Hid (OwnM W.heap.size (wr.setCells g3 (J * 12) #[.int .u64 (mva : Int), .int .i64 (mlev : Int), .bool v, .bool r, .bool w, .bool x', .bool u, .bool g', .bool a, .bool d, .int .i64 rsw, .int .u64 ppn].toList) (.slice (some ⟨g3, 0, none⟩) N1 c3) (insM S (⟨mva, mlev, ⟨v, r, w, x', u, g', a, d, rsw, ppn⟩⟩ : Mp))) := Lib.hid (by
                  have h0 := HO5.out
                  rw [HJP.out] at h0
                  have hl : N1 = (mvL S (⟨mva, mlev, ⟨v, r, w, x', u, g', a, d, rsw, ppn⟩⟩ : Mp) (J)).length := by rw [mv_len _ _ _ (by rw [HSL.out]; exact HPK.out), HSL.out]; exact HK1.out.1
                  obtain ⟨e0, he0⟩ : ∃ e0, (mvL S (⟨mva, mlev, ⟨v, r, w, x', u, g', a, d, rsw, ppn⟩⟩ : Mp) (J))[J]? = some e0 := ⟨_, List.getElem?_eq_getElem (by rw [← hl]; exact n8)⟩
                  have h1 := ownM_set (y := (⟨mva, mlev, ⟨v, r, w, x', u, g', a, d, rsw, ppn⟩⟩ : Mp)) h0 hl he0
                  rw [mv_end (by rw [HSL.out]; exact HPK.out)] at h1
                  have h2 : insM S (⟨mva, mlev, ⟨v, r, w, x', u, g', a, d, rsw, ppn⟩⟩ : Mp) = S.take (J) ++ (⟨mva, mlev, ⟨v, r, w, x', u, g', a, d, rsw, ppn⟩⟩ : Mp) :: S.drop (J) := by
                    unfold insM
                    rw [HSL.out]
                    show List.take (posN S mva k) S ++ _ :: List.drop (posN S mva k) S = _
                    rw [HP.out]
                  rw [h2]
                  exact h1)
                have HE6 : Hid (Below W.heap.size W (wr.setCells g3 (J * 12) #[.int .u64 (mva : Int), .int .i64 (mlev : Int), .bool v, .bool r, .bool w, .bool x', .bool u, .bool g', .bool a, .bool d, .int .i64 rsw, .int .u64 ppn].toList)) := Lib.hid (below_cells HE5.out g3 _ _ HG3.out HE5.out.size)
                go_roundw
                case rel => exact ⟨k + 1, hkl, by go_num, by rw [sort_step HX.out, ← HSS.out]; exact HO6.out, HE6.out⟩
                case measure => simp [intOf]; omega
              · obtain ⟨j1, hj1⟩ : ∃ j1, j = j1 + 1 := ⟨j - 1, by omega⟩
                have n5 : J < j := by omega
                have d5 : decide (J < j) = true := decide_eq_true n5
                have n6 : ((J : Nat) : Int) < (j : Int) := by omega
                have n7 : (j : Int) - 1 = (j1 : Int) := by omega
                have n8 : (j1 : Int) < (N1 : Int) := by have := HK1.out; omega
                have n9 : (j : Int) < (N1 : Int) := by have := HK1.out; omega
                have n10 : j < N1 := by have := HK1.out; omega
                have HJ1 := Lib.hid hj1
                have hj1k : j1 < k := by omega
                have HJJ : Hid (J ≤ j1) := Lib.hid (by omega)
                obtain ⟨e, he⟩ : ∃ e, S[j1]? = some e := ⟨_, List.getElem?_eq_getElem (by rw [HSL.out]; exact hj1k)⟩
                have HSE := Lib.hid he
                have HRE : Hid (wr.rangeAt g3 (j1 * 12) e.cs.toList) := Lib.hid ((ownM_range HO5.out (by rw [hj1]; exact mv_get he)).2)
                have HTH : Hid (World.there wr g3 (j * 12) e.cs.size) := Lib.hid (ownM_there HO5.out n10)
                clear he hj1 hpj hpj2
                go_wp2_with (first | ((with_reducible refine wl_load 62 (.tmp 51) rfl ?_ g3 (j1 * 12) e.cs ?_ HRE.out ?_ ?_); exact rfl; exact rfl; exact mrow e) | ((with_reducible refine wl_store_mid 62 (.tmp 53) (.tmp 52) rfl ?_ g3 (j * 12) e.cs ?_ ?_ HTH.out ?_ ?_ ?_); exact rfl; exact rfl; exact rfl; exact mrow e; exact mcs_one e))
                have HO6 : Hid (OwnM W.heap.size (wr.setCells g3 (j * 12) e.cs.toList) (.slice (some ⟨g3, 0, none⟩) N1 c3) (mvL S (⟨mva, mlev, ⟨v, r, w, x', u, g', a, d, rsw, ppn⟩⟩ : Mp) j1)) := Lib.hid (by
                  have h0 := HO5.out
                  have hl : N1 = (mvL S (⟨mva, mlev, ⟨v, r, w, x', u, g', a, d, rsw, ppn⟩⟩ : Mp) j).length := by rw [mv_len _ _ _ (by rw [HSL.out]; exact hjk), HSL.out]; exact HK1.out.1
                  obtain ⟨e0, he0⟩ : ∃ e0, (mvL S (⟨mva, mlev, ⟨v, r, w, x', u, g', a, d, rsw, ppn⟩⟩ : Mp) j)[j]? = some e0 := ⟨_, List.getElem?_eq_getElem (by rw [← hl]; exact n10)⟩
                  have h1 := ownM_set (y := e) h0 hl he0
                  have h2 := mv_step (m := (⟨mva, mlev, ⟨v, r, w, x', u, g', a, d, rsw, ppn⟩⟩ : Mp)) HSE.out
                  rw [← HJ1.out] at h2
                  rw [h2] at h1
                  exact h1)
                have HE6 : Hid (Below W.heap.size W (wr.setCells g3 (j * 12) e.cs.toList)) := Lib.hid (below_cells HE5.out g3 _ _ HG3.out HE5.out.size)
                have HLB6 : Hid (Blk (wr.setCells g3 (j * 12) e.cs.toList) pb 62 #[.int .u64 (mva : Int), .int .i64 (mlev : Int), .bool v, .bool r, .bool w, .bool x', .bool u, .bool g', .bool a, .bool d, .int .i64 rsw, .int .u64 ppn]) := Lib.hid ((setCells_keeps g3 _ _ wr).blk HLB5.out (fun e => HNE.out e.symm))
                go_roundw
                case rel => exact ⟨j1, HJJ.out, by omega, by go_num, HO6.out, HE6.out, HLB6.out⟩
                case measure => simp [intOf]; omega
    · obtain rfl : n = k := by omega
      have HFIN : Hid (S = sortM x.L) := Lib.hid (by rw [HSS.out, List.take_of_length_le (by rw [← HN.out]; exact Nat.le_refl _)])
      go_wp2_with fail
      go_ret
      exact ⟨_, rfl, by rw [← HFIN.out]; exact HO.out, HE.out⟩
end Go.Proofs.Ytbgagmpinekhpaa

/- Same; tables that are nil; what the methods come to, whole. -/
namespace Go.Proofs.Ytbgagmpinekhpaa
open Go.RowKit

def MpWf (m : Mp) : Prop := PteWf m.p ∧ m.va < 18446744073709551616 ∧ m.lev ≤ 2
def Mp.lits (m : Mp) : List Lit := [.int .u64 (m.va : Int), .int .i64 (m.lev : Int)] ++ m.p.lits
theorem c_mapped : Try.prog.cellsOf 62 = 12 := by kernel_rfl
theorem key_mapped (d : Nat) (m : Mp) (h : MpWf m) : Try.prog.keyLits (d + 4) 62 m.cs.toList = some m.lits := by
  obtain ⟨h1, h2, h3⟩ := h
  have hp := key_pte' (d + 1) m.p h1
  have e1 := wfu (n := (m.va : Int)) (by omega) (by omega)
  have e2 := wf64 (n := (m.lev : Int)) (by omega) (by omega)
  rw [mcs_list]
  unfold Program.keyLits Mp.vs Mp.lits
  unfold Pte.cs at *
  simp [Try.underlying62, c_mapped, c_pte, c_int, c_u64, key_int, key_u64, hp, e1, e2]
theorem mp_same (W : World) (m : Mp) (h : MpWf m) : (Op.equalIn 10000 62 (.agg m.cs) (.agg m.cs)).run Try.prog W = .ok true W := by
  have hd := run_equalIn_deep (P := Try.prog) 9994 6 62 (by kernel_rfl)
  obtain ⟨r, hr, hi⟩ := hd W 6 6 _ _ _ _ (by kernel_rfl : (Value.agg m.cs).formed Try.prog 62 = true) (by kernel_rfl : (Value.agg m.cs).formed Try.prog 62 = true) (key_mapped 2 m h) (key_mapped 2 m h)
  rw [hi.2 rfl] at hr
  exact hr
theorem range_drew {w : World} {b o : Nat} {l : List Value} (h : w.rangeAt b o l) : w.drew.rangeAt b o l := h
set_option maxHeartbeats 1000000 in
theorem rsame_any (A1 A2 : Option Addr) (n c1 c2 : Nat) (L : List Mp) (W : World) (hn : n = L.length) (hL : n ≤ 9223372036854775807) (h1 : RdX Mp.vs 12 W A1 L) (h2 : RdX Mp.vs 12 W A2 L) (hw : ∀ m ∈ L, MpWf m) :
    Calls Try.prog 11 #[.slice A1 n c1, .slice A2 n c2] W fun e w' => e = .returned (.bool true) ∧ Below W.heap.size W w' := by
  have H1 := Lib.hid h1
  have H2 := Lib.hid h2
  have HW := Lib.hid hw
  have HN := Lib.hid hn
  clear h1 h2 hw hn
  go_enter Try.func11, Try.ntmps11
  go_wp2_with fail
  go_loopw [13] (fun i wr => ∃ k : Nat, k ≤ n ∧ i = .int .i64 k ∧ Below W.heap.size W wr) (fun i _ => n - (intOf i).toNat)
  case atStart => exact ⟨0, by omega, rfl, Below.refl _ _⟩
  case round =>
    obtain ⟨k, hk, rfl, hb⟩ := hrel
    have HB := Lib.hid hb
    clear hb
    by_cases hkl : k < n
    · obtain ⟨x, hx⟩ : ∃ x, L[k]? = some x := ⟨_, List.getElem?_eq_getElem (by rw [← HN.out]; exact hkl)⟩
      have hne : L ≠ [] := fun e => by rw [e] at hx; simp at hx
      obtain ⟨b1, e1, _, r1⟩ := H1.out hne
      obtain ⟨b2, e2, _, r2⟩ := H2.out hne
      subst e1
      subst e2
      have R1 : Hid (World.rangeAt wr.drew b1 (k * 12) x.cs.toList) := Lib.hid (range_drew (range_below (r1 k x hx) HB.out))
      have R2 : Hid (World.rangeAt wr.drew b2 (k * 12) x.cs.toList) := Lib.hid (range_drew (range_below (r2 k x hx) HB.out))
      have HXW := Lib.hid (HW.out x (List.mem_of_getElem? hx))
      clear r1 r2 hne hx
      have hki : (k : Int) < (n : Int) := by omega
      go_wp2_with fail
      have heq := fun W => mp_same W x HXW.out
      refine wp_region_plan [(0, false), (1, false), (2, false), (3, false), (4, false), (5, false), (6, false), (7, false), (8, false)] (by kernel_rfl) (by kernel_rfl) (fun _ d _ _ _ h => by cases d <;> exact h) ?_
      iterate 3 (refine plan_take (v := ?_) rfl (by kernel_rfl) ?_ ?_; rotate_left; (focus (intro w' hw'; try go_simp; try with_reducible rfl)); simp only [Act.put, List.setIfInBounds_toArray, List.set_cons_zero, List.set_cons_succ])
      refine plan_take rfl (by kernel_rfl) (fun w' h' => run_load_op 62 (.tmp 18) rfl b1 (k * 12) x.cs rfl (range_below R1.out h') (mrow x)) ?_
      simp only [Act.put, List.setIfInBounds_toArray, List.set_cons_zero, List.set_cons_succ]
      iterate 3 (refine plan_take (v := ?_) rfl (by kernel_rfl) ?_ ?_; rotate_left; (focus (intro w' hw'; try go_simp; try with_reducible rfl)); simp only [Act.put, List.setIfInBounds_toArray, List.set_cons_zero, List.set_cons_succ])
      refine plan_take rfl (by kernel_rfl) (fun w' h' => run_load_op 62 (.tmp 22) rfl b2 (k * 12) x.cs rfl (range_below R2.out h') (mrow x)) ?_
      simp only [Act.put, List.setIfInBounds_toArray, List.set_cons_zero, List.set_cons_succ]
      iterate 1 (refine plan_take (v := ?_) rfl (by kernel_rfl) ?_ ?_; rotate_left; (focus (intro w' hw'; try go_simp; try with_reducible rfl)); simp only [Act.put, List.setIfInBounds_toArray, List.set_cons_zero, List.set_cons_succ])
      refine plan_end ?_
      clear heq
      go_wp2_with fail
      go_roundw
      case rel => exact ⟨k + 1, hkl, by go_num, HB.out.drew⟩
      case measure => simp [intOf]; omega
    · obtain rfl : n = k := by omega
      go_wp2_with fail
      go_ret
      exact ⟨rfl, HB.out⟩
theorem Map_t (c : TC) (σ : TS) (Fm Fs : Nat → Prop) (va : Nat) (p : Pte) (l : Int) (W : World) (h : TabAt W c σ Fm Fs) (hv : va < 18446744073709551616) (hw : PteWf p) :
    Calls Try.prog 9 #[.pointer (some ⟨c.tb, 0, none⟩), .int .u64 (va : Int), .int .i64 l, .agg p.cs] W fun e w' => e = .returned (.int .i64 (mapR c σ va l p).1) ∧ TabTo W c (mapR c σ va l p).2 Fm Fs w' := by
  obtain ⟨h1, h2⟩ := u64_of_wf hw.2
  have hp : (⟨p.v, p.r, p.w, p.x, p.u, p.g, p.a, p.d, p.rsw, ((p.ppn.toNat : Nat) : Int)⟩ : Pte) = p := by rw [show ((p.ppn.toNat : Nat) : Int) = p.ppn by omega]
  by_cases hb : canonB va = true ∧ mayB p l = true
  · obtain ⟨h0, h3⟩ := may_lev hb.2
    have hl : ((l.toNat : Nat) : Int) = l := by omega
    have := map_yes c σ Fm Fs va p.v p.r p.w p.x p.u p.g p.a p.d p.rsw p.ppn.toNat l.toNat W h hv hw.1 (by omega) hb.1 (by rw [hp, hl]; exact hb.2) (by omega)
    rw [hp, hl, show ((p.ppn.toNat : Nat) : Int) = p.ppn by omega] at this
    exact this
  · have := map_no c σ Fm Fs va p.v p.r p.w p.x p.u p.g p.a p.d p.rsw p.ppn.toNat l W h hv hw.1 (by omega) (fun hc => by rw [hp]; cases e : mayB p l with | true => exact absurd ⟨hc, e⟩ hb | false => rfl)
    rw [hp, show ((p.ppn.toNat : Nat) : Int) = p.ppn by omega] at this
    exact this
theorem Change_t (c : TC) (σ : TS) (Fm Fs : Nat → Prop) (va : Nat) (p : Pte) (W : World) (h : TabAt W c σ Fm Fs) (hv : va < 18446744073709551616) (hw : PteWf p) :
    Calls Try.prog 15 #[.pointer (some ⟨c.tb, 0, none⟩), .int .u64 (va : Int), .agg p.cs] W fun e w' => e = .returned (.int .i64 (changeR c σ va p).1) ∧ TabTo W c (changeR c σ va p).2 Fm Fs w' := by
  obtain ⟨h1, h2⟩ := u64_of_wf hw.2
  have hp : (⟨p.v, p.r, p.w, p.x, p.u, p.g, p.a, p.d, p.rsw, ((p.ppn.toNat : Nat) : Int)⟩ : Pte) = p := by rw [show ((p.ppn.toNat : Nat) : Int) = p.ppn by omega]
  cases hf : findT c σ va with
  | err e =>
    have := change_err c σ Fm Fs va p.v p.r p.w p.x p.u p.g p.a p.d p.rsw p.ppn.toNat W h hv hw.1 (by omega) e hf
    rw [hp, show ((p.ppn.toNat : Nat) : Int) = p.ppn by omega] at this
    exact this
  | leaf X L A =>
    have := change_leaf c σ Fm Fs va p.v p.r p.w p.x p.u p.g p.a p.d p.rsw p.ppn.toNat W h hv hw.1 (by omega) X L A hf
    rw [hp, show ((p.ppn.toNat : Nat) : Int) = p.ppn by omega] at this
    exact this
section
variable (W : World)
theorem Root_nil : Calls Try.prog 16 #[.pointer none] W fun e w' => e = .returned (.int .i64 (-1)) ∧ W = w' := by
  go_enter Try.func16, Try.ntmps16
  go_wp2_with fail
  go_ret
  exact ⟨rfl, rfl⟩
theorem Used_nil : Calls Try.prog 17 #[.pointer none] W fun e w' => e = .returned (.int .i64 0) ∧ W = w' := by
  go_enter Try.func17, Try.ntmps17
  go_wp2_with fail
  go_ret
  exact ⟨rfl, rfl⟩
theorem Find_nil (va : Int) : Calls Try.prog 12 #[.pointer none, .int .u64 va] W fun e w' => e = .returned (.tuple #[.agg lf0.cs, .int .i64 1]) ∧ Below W.heap.size W w' := by
  have hb := (Below.refl W.heap.size W).alloc (Nat.le_refl _) (.cells #[.bool false, .bool false, .bool false, .bool false, .bool false, .bool false, .bool false, .bool false, .int .i64 0, .int .u64 0, .int .i64 0, .int .u64 0] 44)
  have HPB : Hid (Blk (W.alloc (.cells #[.bool false, .bool false, .bool false, .bool false, .bool false, .bool false, .bool false, .bool false, .int .i64 0, .int .u64 0, .int .i64 0, .int .u64 0] 44)) W.heap.size 44 lf0.cs) := Lib.hid (Blkf.new_at _ _ _ _ rfl)
  have HB := Lib.hid hb
  clear hb
  go_enter Try.func12, Try.ntmps12
  go_wp2_with (first | ((with_reducible refine wl_store 44 (.tmp 4) (.tmp 7) rfl ?_ W.heap.size 44 _ lf0.cs ?_ ?_ HPB.out ?_ ?_ ?_ ?_); exact rfl; exact rfl; exact rfl; exact rfl; exact lrow lf0; exact lcs_one lf0))
  refine bodyPost_ret (res_cell_slot (cs := lf0.cs) (v := .int .i64 1) rfl _ _ W.heap.size 44 rfl rfl HPB.out (lrow lf0)) rfl ?_
  exact ⟨rfl, HB.out⟩
theorem Unmap_nil (va : Int) : Calls Try.prog 13 #[.pointer none, .int .u64 va] W fun e w' => e = .returned (.tuple #[.agg pte0.cs, .int .i64 1]) ∧ Below W.heap.size W w' := by
  have HB : Hid (Below W.heap.size W (W.alloc (.cells #[.bool false, .bool false, .bool false, .bool false, .bool false, .bool false, .bool false, .bool false, .int .i64 0, .int .u64 0] 25))) := Lib.hid ((Below.refl W.heap.size W).alloc (Nat.le_refl _) _)
  have HPB : Hid (Blk (W.alloc (.cells #[.bool false, .bool false, .bool false, .bool false, .bool false, .bool false, .bool false, .bool false, .int .i64 0, .int .u64 0] 25)) W.heap.size 25 pte0.cs) := Lib.hid (Blkf.new_at _ _ _ _ rfl)
  go_enter Try.func13, Try.ntmps13
  go_wp2_with fail
  generalize W.alloc (.cells #[.bool false, .bool false, .bool false, .bool false, .bool false, .bool false, .bool false, .bool false, .int .i64 0, .int .u64 0] 25) = w0 at *
  refine (Find_nil _ va).mono ?_
  rintro e w1 ⟨rfl, hb1⟩
  have HB1 := Lib.hid (HB.out.trans (hb1.mono HB.out.size))
  have HPB1 := Lib.hid (HPB.out.below hb1 HPB.out.lt)
  have HB2 : Hid (Below W.heap.size W (w1.alloc (.cells lf0.cs 44))) := Lib.hid (HB1.out.alloc HB1.out.size _)
  have HPB2 := Lib.hid (HPB1.out.alloc (.cells lf0.cs 44))
  clear hb1 HB HPB HB1 HPB1
  go_wp2_with (first | ((with_reducible refine wl_store_new 44 (.tmp 6) (.tmp 12) rfl ?_ w1 (World.heap w1).size 44 lf0.cs lf0.cs ?_ ?_ ?_ ?_ ?_ ?_ ?_ ?_); exact rfl; exact rfl; exact rfl; exact rfl; exact rfl; exact rfl; exact lrow lf0; exact lcs_one lf0) | ((with_reducible refine wl_store 25 (.tmp 4) (.tmp 16) rfl ?_ W.heap.size 25 pte0.cs pte0.cs ?_ ?_ HPB2.out ?_ ?_ ?_ ?_); exact rfl; exact rfl; exact rfl; exact rfl; exact prow pte0; exact pcs_one pte0))
  refine bodyPost_ret (res_cell_slot (cs := pte0.cs) (v := .int .i64 1) rfl _ _ W.heap.size 25 rfl rfl (HPB2.out.setRow _) (prow pte0)) rfl ?_
  exact ⟨rfl, below_setRow HB2.out (Nat.le_refl _) _⟩
theorem Change_nil (va : Int) (p : Pte) : Calls Try.prog 15 #[.pointer none, .int .u64 va, .agg p.cs] W fun e w' => e = .returned (.int .i64 1) ∧ Below W.heap.size W w' := by
  have HB : Hid (Below W.heap.size W (W.alloc (.cells p.cs 25))) := Lib.hid ((Below.refl W.heap.size W).alloc (Nat.le_refl _) _)
  go_enter Try.func15, Try.ntmps15
  go_wp2_with fail
  generalize W.alloc (.cells p.cs 25) = w0 at *
  refine (Find_nil _ va).mono ?_
  rintro e w1 ⟨rfl, hb1⟩
  have HB1 := Lib.hid (HB.out.trans (hb1.mono HB.out.size))
  have HB2 : Hid (Below W.heap.size W (w1.alloc (.cells lf0.cs 44))) := Lib.hid (HB1.out.alloc HB1.out.size _)
  clear hb1 HB HB1
  go_wp2_with (first | ((with_reducible refine wl_store_new 44 (.tmp 7) (.tmp 13) rfl ?_ w1 (World.heap w1).size 44 lf0.cs lf0.cs ?_ ?_ ?_ ?_ ?_ ?_ ?_ ?_); exact rfl; exact rfl; exact rfl; exact rfl; exact rfl; exact rfl; exact lrow lf0; exact lcs_one lf0))
  go_ret
  exact ⟨rfl, HB2.out⟩
theorem Map_nil (va l : Int) (p : Pte) : Calls Try.prog 9 #[.pointer none, .int .u64 va, .int .i64 l, .agg p.cs] W fun e w' => e = .returned (.int .i64 1) ∧ Below W.heap.size W w' := by
  have HB : Hid (Below W.heap.size W (W.alloc (.cells p.cs 25))) := Lib.hid ((Below.refl W.heap.size W).alloc (Nat.le_refl _) _)
  go_enter Try.func9, Try.ntmps9
  go_wp2_with fail
  go_ret
  exact ⟨rfl, HB.out⟩
end
end Go.Proofs.Ytbgagmpinekhpaa

/- Tables of the program, the reference's tables and locals in one world. -/
namespace Go.Proofs.Ytbgagmpinekhpaa
open Go.RowKit

/-- The reference's tables, if there are any. -/
inductive RO where
  | none
  | some (rb : Nat) (y : XS)
def RO.At (c : TC) : RO → World → (Nat → Prop) → Prop
  | .none, _, F => ∀ b, ¬ F b
  | .some rb y, w, F => XAt w rb c y F
abbrev Loc := List (Nat × TypeId × Array Value)
structure TP (W : World) (c : TC) (x : XS) (o : RO) (loc : Loc) (w : World) : Prop where
  ex : ∃ σ Fm Fs FX, TabAt w c σ Fm Fs ∧ Like c σ x ∧ o.At c w FX ∧ (∀ b, TabF c Fm Fs b → ¬ FX b) ∧ (∀ b, TabF c Fm Fs b → W.heap.size ≤ b) ∧ (∀ b, FX b → W.heap.size ≤ b) ∧
    ∀ p ∈ loc, Blk w p.1 p.2.1 p.2.2 ∧ W.heap.size ≤ p.1 ∧ ¬ TabF c Fm Fs p.1 ∧ ¬ FX p.1
  bel : Below W.heap.size W w
section
variable {W w w' : World} {c : TC} {x x' y y' : XS} {o : RO} {rb : Nat} {loc loc' : Loc} {F H : Nat → Prop}
theorem RO.At.keeps (h : o.At c w F) (k : Keeps H w w') (hd : ∀ b, F b → ¬ H b) : o.At c w' F := by
  cases o with
  | none => exact h
  | some rb y => exact XAt.keeps h k hd
theorem RO.At.lt (h : o.At c w F) {b : Nat} (hb : F b) : b < w.heap.size := by
  cases o with
  | none => exact absurd hb (h b)
  | some rb y => exact XAt.lt h b hb
theorem TP.step (h : TP W c x o loc w) (hb : Below w.heap.size w w') : TP W c x o loc w' := by
  obtain ⟨σ, Fm, Fs, FX, h1, h2, h3, h4, h5, h6, h7⟩ := h.ex
  have k : Keeps (fun _ => False) w w' := Keeps.of_below hb
  exact ⟨⟨σ, Fm, Fs, FX, h1.below hb, h2, h3.keeps k (fun _ _ h => h), h4, h5, h6, fun p hp => ⟨(h7 p hp).1.below hb (h7 p hp).1.lt, (h7 p hp).2⟩⟩, h.bel.trans (hb.mono h.bel.size)⟩
theorem TP.drew (h : TP W c x o loc w) : TP W c x o loc w.drew := h.step (Below.refl _ _).drew
theorem TP.add {b : Nat} {t : TypeId} {cs : Array Value} {w0 : World} (h : TP W c x o loc w0) (hs : Below w0.heap.size w0 w) (hb : Blk w b t cs) (hw : w0.heap.size ≤ b) : TP W c x o ((b, t, cs) :: loc) w := by
  have hst := h.step hs
  obtain ⟨σ, Fm, Fs, FX, h1, h2, h3, h4, h5, h6, h7⟩ := h.ex
  have k : Keeps (fun _ => False) w0 w := Keeps.of_below hs
  refine ⟨⟨σ, Fm, Fs, FX, h1.below hs, h2, h3.keeps k (fun _ _ h => h), h4, h5, h6, fun p hp => ?_⟩, hst.bel⟩
  rcases List.mem_cons.1 hp with rfl | hp
  · exact ⟨hb, Nat.le_trans h.bel.size hw, fun e => absurd (h1.lt e) (by show ¬ b < _; omega), fun e => absurd (h3.lt e) (by show ¬ b < _; omega)⟩
  · exact ⟨(h7 p hp).1.below hs (h7 p hp).1.lt, (h7 p hp).2⟩
theorem TP.push (h : TP W c x o loc w) (cs : Array Value) (t : TypeId) {b : Nat} (hb : b = w.heap.size) : TP W c x o ((b, t, cs) :: loc) (w.alloc (.cells cs t)) := by
  subst hb
  exact h.add ((Below.refl _ _).alloc (Nat.le_refl _) _) (Blkf.new_at _ _ _ _ rfl) (Nat.le_refl _)
theorem TP.only (h : TP W c x o loc w) (hl : ∀ p ∈ loc', p ∈ loc) : TP W c x o loc' w := by
  obtain ⟨σ, Fm, Fs, FX, h1, h2, h3, h4, h5, h6, h7⟩ := h.ex
  exact ⟨⟨σ, Fm, Fs, FX, h1, h2, h3, h4, h5, h6, fun p hp => h7 p (hl p hp)⟩, h.bel⟩
theorem TP.at_ (h : TP W c x o loc w) (i : Nat) (p : Nat × TypeId × Array Value) (hp : loc[i]? = some p) : Blk w p.1 p.2.1 p.2.2 := by
  obtain ⟨σ, Fm, Fs, FX, h1, h2, h3, h4, h5, h6, h7⟩ := h.ex
  exact (h7 p (List.mem_of_getElem? hp)).1
theorem TP.all (h : TP W c x o loc w) : ∀ p ∈ loc, Blk w p.1 p.2.1 p.2.2 := by
  obtain ⟨σ, Fm, Fs, FX, h1, h2, h3, h4, h5, h6, h7⟩ := h.ex
  exact fun p hp => (h7 p hp).1
theorem TP.same (h : TP W c x o loc w) {c' : TC} {o' : RO} (h' : TP W c' x' o' loc w') (i : Nat) (p : Nat × TypeId × Array Value) (hp : loc[i]? = some p) : w'.heap[p.1]? = w.heap[p.1]? := (h'.at_ i p hp).trans (h.at_ i p hp).symm
theorem TP.turnP {f : FuncId} {args : Array Value} {r : Value} (h : TP W c x o loc w) (hc : ∀ σ Fm Fs, TabAt w c σ Fm Fs → Like c σ x → Calls Try.prog f args w fun e w' => e = .returned r ∧ ∃ σ', Like c σ' x' ∧ TabTo w c σ' Fm Fs w') :
    Calls Try.prog f args w fun e w' => e = .returned r ∧ TP W c x' o loc w' ∧ Below W.heap.size w w' := by
  obtain ⟨σ, Fm, Fs, FX, h1, h2, h3, h4, h5, h6, h7⟩ := h.ex
  refine (hc σ Fm Fs h1 h2).mono ?_
  rintro e w' ⟨rfl, σ', k1, Fm', Fs', k2, k3, k4, k5⟩
  have hb := k5.below (B := W.heap.size) h5 h.bel.size
  have hF : ∀ b, TabF c Fm' Fs' b → TabF c Fm Fs b ∨ w.heap.size ≤ b := by
    rintro b (hb | hb | hb)
    · exact (k3 b hb).imp .inl id
    · exact (k4 b hb).imp (fun h => .inr (.inl h)) id
    · exact .inl (.inr (.inr hb))
  refine ⟨rfl, ⟨⟨σ', Fm', Fs', FX, k2, k1, h3.keeps k5 (fun b hx hb => h4 b hb hx), fun b hb hx => ?_, fun b hb => ?_, h6, fun p hp => ?_⟩, h.bel.trans hb⟩, hb⟩
  · rcases hF b hb with h8 | h8
    · exact h4 b h8 hx
    · have := h3.lt hx; omega
  · rcases hF b hb with h8 | h8
    · exact h5 b h8
    · exact Nat.le_trans h.bel.size h8
  · obtain ⟨q1, q2, q3, q4⟩ := h7 p hp
    refine ⟨k5.blk q1 q3, q2, fun e => ?_, q4⟩
    rcases hF _ e with h8 | h8
    · exact q3 h8
    · exact absurd q1.lt (by omega)
theorem TP.turnR {f : FuncId} {args : Array Value} {r : Value} (h : TP W c x (.some rb y) loc w) (hc : ∀ F, XAt w rb c y F → Calls Try.prog f args w fun e w' => e = .returned r ∧ XTo w rb c y' F w') :
    Calls Try.prog f args w fun e w' => e = .returned r ∧ TP W c x (.some rb y') loc w' ∧ Below W.heap.size w w' := by
  obtain ⟨σ, Fm, Fs, FX, h1, h2, h3, h4, h5, h6, h7⟩ := h.ex
  refine (hc FX h3).mono ?_
  rintro e w' ⟨rfl, F', k1, k2, k3⟩
  have hb := k3.below (B := W.heap.size) h6 h.bel.size
  refine ⟨rfl, ⟨⟨σ, Fm, Fs, F', h1.keeps k3 h4, h2, k1, fun b hb hx => ?_, h5, fun b hb => ?_, fun p hp => ?_⟩, h.bel.trans hb⟩, hb⟩
  · rcases k2 b hx with h8 | h8
    · exact h4 b hb h8
    · have := h1.lt hb; omega
  · rcases k2 b hb with h8 | h8
    · exact h6 b h8
    · exact Nat.le_trans h.bel.size h8
  · obtain ⟨q1, q2, q3, q4⟩ := h7 p hp
    refine ⟨k3.blk q1 q4, q2, q3, fun e => ?_⟩
    rcases k2 _ e with h8 | h8
    · exact q4 h8
    · exact absurd q1.lt (by omega)
/-- The reference's tables are made. -/
theorem TP.addRef (h : TP W c x .none loc w) (hb : Below w.heap.size w w') (hx : XAt w' rb c y F) (hF : ∀ b, F b → w.heap.size ≤ b) : TP W c x (.some rb y) loc w' := by
  have hst := h.step hb
  obtain ⟨σ, Fm, Fs, FX, h1, h2, h3, h4, h5, h6, h7⟩ := h.ex
  exact ⟨⟨σ, Fm, Fs, F, h1.below hb, h2, hx, fun b hb hf => by have := h1.lt hb; have := hF b hf; omega, h5, fun b hb => Nat.le_trans h.bel.size (hF b hb), fun p hp => ⟨(h7 p hp).1.below hb (h7 p hp).1.lt, (h7 p hp).2.1, (h7 p hp).2.2.1, fun e => absurd (h7 p hp).1.lt (by have := hF _ e; omega)⟩⟩, hst.bel⟩
theorem TP.ref (h : TP W c x (.some rb y) loc w) : ∃ F, XAt w rb c y F := by
  obtain ⟨σ, Fm, Fs, FX, h1, h2, h3, _⟩ := h.ex
  exact ⟨FX, h3⟩
end
section
variable {W w w' : World} {c : TC} {x y : XS} {o : RO} {rb : Nat} {loc : Loc}
theorem tp_map (h : TP W c x o loc w) (va : Nat) (l : Int) (p : Pte) (hv : va < 18446744073709551616) (hw : PteWf p) :
    Calls Try.prog 9 #[.pointer (some ⟨c.tb, 0, none⟩), .int .u64 (va : Int), .int .i64 l, .agg p.cs] w fun e w' => e = .returned (.int .i64 (mapL c x va l p).1) ∧ TP W c (mapL c x va l p).2 o loc w' ∧ Below W.heap.size w w' :=
  h.turnP fun σ Fm Fs h1 h2 => by
    obtain ⟨k1, k2⟩ := map_law h2 hv l hw
    rw [← k1]
    exact (Map_t c σ Fm Fs va p l w h1 hv hw).mono fun e w' ⟨e1, e2⟩ => ⟨e1, _, k2, e2⟩
theorem tp_change (h : TP W c x o loc w) (va : Nat) (p : Pte) (hv : va < 18446744073709551616) (hw : PteWf p) :
    Calls Try.prog 15 #[.pointer (some ⟨c.tb, 0, none⟩), .int .u64 (va : Int), .agg p.cs] w fun e w' => e = .returned (.int .i64 (changeL x va p).1) ∧ TP W c (changeL x va p).2 o loc w' ∧ Below W.heap.size w w' :=
  h.turnP fun σ Fm Fs h1 h2 => by
    obtain ⟨k1, k2⟩ := change_law h2 hv hw
    rw [← k1]
    exact (Change_t c σ Fm Fs va p w h1 hv hw).mono fun e w' ⟨e1, e2⟩ => ⟨e1, _, k2, e2⟩
theorem tp_unmap (h : TP W c x o loc w) (va : Nat) (hv : va < 18446744073709551616) :
    Calls Try.prog 13 #[.pointer (some ⟨c.tb, 0, none⟩), .int .u64 (va : Int)] w fun e w' => e = .returned (.tuple #[.agg (unmapL x va).1.cs, .int .i64 (unmapL x va).2.1]) ∧ TP W c (unmapL x va).2.2 o loc w' ∧ Below W.heap.size w w' :=
  h.turnP fun σ Fm Fs h1 h2 => by
    obtain ⟨k1, k2, k3⟩ := unmap_law h2 hv
    rw [← k1, ← k2]
    exact (Unmap_t c σ Fm Fs va w h1 hv).mono fun e w' ⟨e1, e2⟩ => ⟨e1, _, k3, e2⟩
theorem tp_rmap (h : TP W c x (.some rb y) loc w) (va : Nat) (l : Int) (p : Pte) (hv : va < 18446744073709551616) (hw : PteWf p) (hs : Small c y) (hk : y.k ≤ c.N) (hr : Roomy y) :
    Calls Try.prog 18 #[.pointer (some ⟨rb, 0, none⟩), .int .u64 (va : Int), .int .i64 l, .agg p.cs] w fun e w' => e = .returned (.int .i64 (mapL c y va l p).1) ∧ TP W c x (.some rb (mapL c y va l p).2) loc w' ∧ Below W.heap.size w w' :=
  h.turnR fun F hx => rmap_any rb c y F w p va l hx hv hw hs hk hr
theorem tp_rchange (h : TP W c x (.some rb y) loc w) (va : Nat) (p : Pte) (hv : va < 18446744073709551616) (hw : PteWf p) (hr : Roomy y) :
    Calls Try.prog 19 #[.pointer (some ⟨rb, 0, none⟩), .int .u64 (va : Int), .agg p.cs] w fun e w' => e = .returned (.int .i64 (changeL y va p).1) ∧ TP W c x (.some rb (changeL y va p).2) loc w' ∧ Below W.heap.size w w' :=
  h.turnR fun F hx => rchange_any rb c y F w p va hx hv hw hr
theorem tp_runmap (h : TP W c x (.some rb y) loc w) (va : Nat) (hv : va < 18446744073709551616) (hr : Roomy y) :
    Calls Try.prog 20 #[.pointer (some ⟨rb, 0, none⟩), .int .u64 (va : Int)] w fun e w' => e = .returned (.tuple #[.agg (unmapL y va).1.cs, .int .i64 (unmapL y va).2.1]) ∧ TP W c x (.some rb (unmapL y va).2.2) loc w' ∧ Below W.heap.size w w' :=
  h.turnR fun F hx => runmap_any rb c y F w va hx hv hr
theorem tp_rholds (h : TP W c x (.some rb y) loc w) (va : Nat) (hv : va < 18446744073709551616) :
    Calls Try.prog 21 #[.pointer (some ⟨rb, 0, none⟩), .int .u64 (va : Int)] w fun e w' => e = .returned (.int .i64 (idxV (holdsI y.L va))) ∧ Below w.heap.size w w' := by
  obtain ⟨F, hx⟩ := h.ref
  exact rholds_any rb c y F w va hx hv
/-- A page's leaf, found at some place. -/
def Pte.leaf (p : Pte) (lev pos : Int) : Lf := ⟨p.v, p.r, p.w, p.x, p.u, p.g, p.a, p.d, p.rsw, p.ppn, lev, pos⟩
def foundE (L : List Mp) (va : Nat) : Int := if (holdsI L va).isSome then 0 else 51
theorem tp_find (h : TP W c x o loc w) (va : Nat) (hv : va < 18446744073709551616) :
    Calls Try.prog 12 #[.pointer (some ⟨c.tb, 0, none⟩), .int .u64 (va : Int)] w fun e w' => Below w.heap.size w w' ∧ ∃ lf : Lf, e = .returned (.tuple #[.agg lf.cs, .int .i64 (foundE x.L va)]) ∧ ∀ i m, holdsI x.L va = some i → x.L[i]? = some m → ∃ pos, lf = m.p.leaf m.lev pos := by
  obtain ⟨σ, Fm, Fs, FX, h1, h2, _⟩ := h.ex
  have hf := h2.inv.found hv
  refine (Find_t c σ Fm Fs va w h1 hv).mono ?_
  rintro e w' ⟨rfl, hb⟩
  refine ⟨hb, fdL (findT c σ va), ?_, fun i m hi hm => ?_⟩
  · rw [← fdV_cs]
    unfold foundE
    cases e : holdsI x.L va with
    | none => rw [e] at hf; simp only at hf; rw [hf]; rfl
    | some i =>
      rw [e] at hf
      obtain ⟨m, t, g1, g2, gc, g3, g4, g5, g6⟩ := hf
      rw [g5]; rfl
  · rw [hi] at hf
    obtain ⟨m', t, g1, g2, gc, g3, g4, g5, g6⟩ := hf
    rw [hm] at g1
    injection g1 with g1
    subst g1
    refine ⟨((atX va t m.lev : Nat) : Int), ?_⟩
    rw [g5]
    have e1 : fdL (.leaf m.p.word m.lev (atX va t m.lev)) = (entP m.p.word).leaf m.lev ((atX va t m.lev : Nat) : Int) := rfl
    rw [e1, g6]
theorem tp_used (h : TP W c x o loc w) : Calls Try.prog 17 #[.pointer (some ⟨c.tb, 0, none⟩)] w fun e w' => e = .returned (.int .i64 (x.k : Int)) ∧ w = w' := by
  obtain ⟨σ, Fm, Fs, FX, h1, h2, _⟩ := h.ex
  rw [← h2.u]
  exact Used_t c σ Fm Fs w h1
theorem tp_root (h : TP W c x o loc w) : Calls Try.prog 16 #[.pointer (some ⟨c.tb, 0, none⟩)] w fun e w' => e = .returned (.int .i64 (c.root : Int)) ∧ w = w' := by
  obtain ⟨σ, Fm, Fs, FX, h1, h2, _⟩ := h.ex
  exact Root_t c σ Fm Fs w h1
theorem tp_sused (h : TP W c x o loc w) : Calls Try.prog 22 #[.pointer (some ⟨c.sb, 0, none⟩)] w fun e w' => e = .returned (.int .i64 (x.k : Int)) ∧ w = w' := by
  obtain ⟨σ, Fm, Fs, FX, h1, h2, _⟩ := h.ex
  obtain ⟨s, hs, ho⟩ := h1.stk
  rw [← h2.k, ← ho.len]
  exact used_any c.sb Fs s w hs
/-- An own row of pages is a block of its own. -/
theorem OwnM.blk {base : Nat} {w : World} {v : Value} {L : List Mp} (h : OwnM base w v L) : ∃ A n cp, v = .slice A n cp ∧ n = L.length ∧ (L = [] ∨ ∃ g cur, A = some ⟨g, 0, none⟩ ∧ base ≤ g ∧ Blk w g 62 cur ∧ ∀ w' : World, Blk w' g 62 cur → RdX Mp.vs 12 w' A L) := by
  rcases h.2 with ⟨h1, h2⟩ | ⟨g, cap, cur, h1, hb, hh, hc, hm, hs, ht⟩
  · exact ⟨_, _, _, h1, h2.symm, .inl (List.eq_nil_of_length_eq_zero h2)⟩
  · refine ⟨_, _, _, h1, rfl, .inr ⟨g, cur, rfl, hb, hh, fun w' hw' => ?_⟩⟩
    exact RdX.of_own (base := base) (e := 62) mvs_12 ⟨h.1, .inr ⟨g, cap, cur, rfl, hb, hw', hc, hm, hs, ht⟩⟩ rfl
def RowsAt (v : Value) (L : List Mp) (ex : Loc) : Prop := ∃ A cp, v = .slice A L.length cp ∧ ∀ w' : World, (∀ p ∈ ex, Blk w' p.1 p.2.1 p.2.2) → RdX Mp.vs 12 w' A L
theorem tp_rows {w0 : World} {base : Nat} {v : Value} {L : List Mp} (h : TP W c x o loc w0) (hb : Below w0.heap.size w0 w) (hO : OwnM base w v L) (hbase : w0.heap.size ≤ base) : ∃ ex, TP W c x o (ex ++ loc) w ∧ RowsAt v L ex := by
  obtain ⟨A, n, cp, rfl, hn, hr⟩ := hO.blk
  subst hn
  rcases hr with rfl | ⟨g, cur, rfl, hg, hB, hr⟩
  · exact ⟨[], h.step hb, A, cp, rfl, fun w' _ hne => absurd rfl hne⟩
  · exact ⟨[(g, 62, cur)], h.add hb hB (Nat.le_trans hbase hg), _, cp, rfl, fun w' hw' => hr w' (hw' _ (List.mem_singleton.2 rfl))⟩
theorem tp_pages (h : TP W c x o loc w) : Calls Try.prog 10 #[.pointer (some ⟨c.tb, 0, none⟩)] w fun e w' => ∃ v ex, e = .returned v ∧ TP W c x o (ex ++ loc) w' ∧ RowsAt v (sortM x.L) ex ∧ (sortM x.L).length = x.L.length ∧ ∀ m ∈ sortM x.L, MpWf m := by
  obtain ⟨σ, Fm, Fs, FX, h1, h2, _⟩ := h.ex
  obtain ⟨p1, p2, p3, p4⟩ := h2.inv.pages_sort
  obtain ⟨s1, s2, s3⟩ := sort_spec p4
  refine (Pages_t c σ Fm Fs w h1 p3).mono ?_
  rintro e w' ⟨v, rfl, hO, hb⟩
  rw [p1] at hO
  obtain ⟨ex, k1, k2⟩ := tp_rows h hb hO (Nat.le_refl _)
  exact ⟨v, ex, rfl, k1, k2, s3, fun m hm => by
    obtain ⟨q1, q2, _, _, _, q6⟩ := h2.inv.pg m ((s2 m).1 hm)
    exact ⟨q6, q2, q1⟩⟩
theorem tp_rpages (h : TP W c x (.some rb y) loc w) (hr : Roomy y) : Calls Try.prog 23 #[.pointer (some ⟨rb, 0, none⟩)] w fun e w' => ∃ v ex, e = .returned v ∧ TP W c x (.some rb y) (ex ++ loc) w' ∧ RowsAt v (sortM y.L) ex := by
  obtain ⟨F, hx⟩ := h.ref
  refine (rpages_any rb c y F w hx hr).mono ?_
  rintro e w' ⟨v, rfl, hO, hb⟩
  obtain ⟨ex, k1, k2⟩ := tp_rows h hb hO (Nat.le_refl _)
  exact ⟨v, ex, rfl, k1, k2⟩
end
end Go.Proofs.Ytbgagmpinekhpaa

/- Tables are made in a world; first. -/
namespace Go.Proofs.Ytbgagmpinekhpaa
open Go.RowKit

section
variable {W w0 w1 w2 : World} {g n N first : Nat}
structure Made (W w0 w1 w2 : World) (g n N first : Nat) : Prop where
  hb0 : Below W.heap.size W w0
  hm : Mem w1 g (fun b => w0.heap.size ≤ b) n emptyS
  hb1 : Below w0.heap.size w0 w1
  hs : StockAt w2 (w1.heap.size + 1) (fun g => g = w1.heap.size ∨ g = w1.heap.size + 1) ⟨(first : Int), (first : Int), (first : Int) + (N : Int), [], []⟩
  hb2 : Below w1.heap.size w1 w2
  hn : n ≤ 1048576
  hbig : first + N ≤ 1048576
def cN (w1 w2 : World) (g n N first : Nat) : TC := ⟨w2.heap.size, g, w1.heap.size + 1, n, first, N, 0⟩
theorem Made.newIn (h : Made W w0 w1 w2 g n N first) : NewIn w2 (cN w1 w2 g n N first) emptyS 0 (fun b => w0.heap.size ≤ b ∧ b < w1.heap.size) (fun g => g = w1.heap.size ∨ g = w1.heap.size + 1) := by
  refine ⟨h.hm.tight.below h.hb2, ⟨_, h.hs, ⟨?_, rfl, fun f hf => by simp at hf, .inl ⟨rfl, ?_, Nat.zero_le _⟩, h.hbig⟩⟩, fun b hb hb2 => ?_, fun b hb => Nat.lt_of_lt_of_le hb.2 h.hb2.size⟩
  · show (first : Int) + (N : Int) = ((first + N : Nat) : Int)
    omega
  · show (first : Int) = ((first + 0 : Nat) : Int)
    omega
  · rcases hb2 with e | e <;> omega
theorem Made.yes (h : Made W w0 w1 w2 g n N first) (hE : newE (cN w1 w2 g n N first) emptyS 0 = 0) :
    Calls Try.prog 8 #[.pointer (some ⟨g, 0, none⟩), .pointer (some ⟨w1.heap.size + 1, 0, none⟩)] w2 fun e w' => e = .returned (.tuple #[.pointer (some ⟨w2.heap.size, 0, none⟩), .int .i64 0]) ∧ TP W ((cN w1 w2 g n N first).at_ (first + 0)) ⟨[], [], 1⟩ .none [] w' := by
  refine (tnew_yes (cN w1 w2 g n N first) emptyS 0 _ _ w2 h.newIn rfl rfl hE).mono ?_
  rintro e w' ⟨rfl, Fm', Fs', k1, k2, k3, k4⟩
  have hs0 := h.hb0.size
  have hs1 := h.hb1.size
  have hs2 := h.hb2.size
  have hbel : Below W.heap.size W w2 := (h.hb0.trans (h.hb1.mono hs0)).trans (h.hb2.mono (Nat.le_trans hs0 hs1))
  have hW2 := hbel.size
  refine ⟨rfl, ⟨_, Fm', Fs', fun _ => False, k1, start_law (cN w1 w2 g n N first) h.hn hE, fun b hb => hb, fun b _ hb => hb, fun b hb => ?_, fun b hb => hb.elim, fun p hp => by simp at hp⟩, hbel.trans (k4.below (fun i hi => ?_) hW2)⟩
  · rcases hb with hb | hb | hb
    · rcases k2 b hb with h1 | h1
      · exact Nat.le_trans hs0 h1.1
      · exact Nat.le_trans hW2 h1
    · rcases k3 b hb with h1 | h1
      · rcases h1 with e | e
        · rw [e]; omega
        · rw [e]; omega
      · exact Nat.le_trans hW2 h1
    · rw [hb]; exact hW2
  · rcases hi with hi | hi
    · exact Nat.le_trans hs0 hi.1
    · rcases hi with e | e
      · rw [e]; omega
      · rw [e]; omega
theorem Made.no (h : Made W w0 w1 w2 g n N first) (hE : newE (cN w1 w2 g n N first) emptyS 0 ≠ 0) :
    Calls Try.prog 8 #[.pointer (some ⟨g, 0, none⟩), .pointer (some ⟨w1.heap.size + 1, 0, none⟩)] w2 fun e w' => e = .returned (.tuple #[.pointer none, .int .i64 (newE (cN w1 w2 g n N first) emptyS 0)]) ∧ Below W.heap.size W w' := by
  refine (tnew_no (cN w1 w2 g n N first) emptyS 0 _ _ w2 h.newIn rfl rfl hE).mono ?_
  rintro e w' ⟨rfl, k4⟩
  have hs0 := h.hb0.size
  have hs1 := h.hb1.size
  have hbel : Below W.heap.size W w2 := (h.hb0.trans (h.hb1.mono hs0)).trans (h.hb2.mono (Nat.le_trans hs0 hs1))
  refine ⟨rfl, hbel.trans (k4.below (fun i hi => ?_) hbel.size)⟩
  rcases hi with hi | hi
  · exact Nat.le_trans hs0 hi.1
  · rcases hi with e | e
    · rw [e]; omega
    · rw [e]; omega
end
def fp : Pte := ⟨true, true, false, false, false, false, false, false, 0, 14⟩
theorem fp_wf : PteWf fp := by unfold PteWf fp; decide
theorem pte0_wf : PteWf pte0 := by unfold PteWf pte0; decide
def fT : List Tb := [⟨1, 1073741824, 3⟩, ⟨0, 1073741824, 4⟩]
def fm0 : Mp := ⟨1073741824, 0, fp⟩
def fm1 : Mp := ⟨1073745920, 0, fp⟩
def fx1 : XS := ⟨[fm0], fT, 3⟩
def fx2 : XS := ⟨[fm0, fm1], fT, 3⟩
def fx3 : XS := ⟨[fm1], fT, 3⟩
section
variable (tb gm sb : Nat)
def fc : TC := ⟨tb, gm, sb, 16, 2, 12, 2⟩
theorem f_map1 : mapL (fc tb gm sb) ⟨[], [], 1⟩ 1073741824 0 fp = (0, fx1) := by kernel_rfl
theorem f_map2 : mapL (fc tb gm sb) fx1 1073745920 0 fp = (0, fx2) := by kernel_rfl
theorem f_map3 : mapL (fc tb gm sb) fx2 1073746211 0 fp = (130, fx2) := by kernel_rfl
end
theorem f_hold1 : holdsI fx2.L 1073745928 = some 1 := by kernel_rfl
theorem f_unmap : unmapL fx2 1073745919 = (fp, 0, fx3) := by kernel_rfl
theorem f_hold2 : foundE fx3.L 1073741824 = 51 := by kernel_rfl
theorem f_change : changeL fx3 1073745920 pte0 = (2, fx3) := by kernel_rfl
theorem pte_same (W : World) (p : Pte) (h : PteWf p) : (Op.equalIn 10000 25 (.agg p.cs) (.agg p.cs)).run Try.prog W = .ok true W := pte_dec p p h h true (by simp) W
theorem leaf_range {w : World} {g : Nat} {p : Pte} {lev pos : Int} (h : Blk w g 44 (p.leaf lev pos).cs) : w.rangeAt g 0 p.cs.toList := fun j u hj => by
  have hl : j < 10 := (List.getElem?_eq_some_iff.1 hj).1
  rw [Nat.zero_add, h.cell, ← hj]
  rcases (show j = 0 ∨ j = 1 ∨ j = 2 ∨ j = 3 ∨ j = 4 ∨ j = 5 ∨ j = 6 ∨ j = 7 ∨ j = 8 ∨ j = 9 by omega) with rfl | rfl | rfl | rfl | rfl | rfl | rfl | rfl | rfl | rfl <;> rfl
set_option maxRecDepth 100000 in
set_option maxHeartbeats 4000000 in
theorem first13 (W : World) : Calls Try.prog 5 #[] W fun e w' => e = .returned (.bool true) ∧ Below W.heap.size W w' := by
  go_enter Try.func5, Try.ntmps5
  go_wp2_with fail
  refine (new_yes 16 W (by decide) (by decide)).mono ?_
  rintro e w1 ⟨g, rfl, hm, hb1⟩
  have HM := Lib.hid hm
  have HB1 := Lib.hid hb1
  clear hm hb1
  go_wp2_with fail
  refine (frames_new_yes 2 12 w1 (by decide) (by decide) (by decide) (by decide)).mono ?_
  rintro e w2 ⟨rfl, hs, hb2⟩
  have HMD : Hid (Made W W w1 w2 g 16 12 2) := Lib.hid ⟨Below.refl _ _, HM.out, HB1.out, hs, hb2, by decide, by decide⟩
  clear hs hb2 HM HB1
  go_wp2_with fail
  refine (HMD.out.yes (by kernel_rfl)).mono ?_
  rintro e w3 ⟨rfl, ht3⟩
  rw [show (cN w1 w2 g 16 12 2).at_ (2 + 0) = fc w2.heap.size g (w1.heap.size + 1) from rfl] at ht3
  have T3 := Lib.hid ht3
  clear ht3 HMD
  generalize w2.heap.size = tb at *
  generalize w1.heap.size + 1 = sb at *
  clear w1 w2
  have T4 : Hid (TP W (fc tb g sb) ⟨[], [], 1⟩ .none [(w3.heap.size, 25, fp.cs)] (w3.alloc (.cells #[.bool true, .bool true, .bool false, .bool false, .bool false, .bool false, .bool false, .bool false, .int .i64 0, .int .u64 14] 25))) := Lib.hid (T3.out.push fp.cs _ rfl)
  clear T3
  go_wp2_with (first | ((with_reducible refine wl_load 25 (.tmp 7) rfl ?_ w3.heap.size 0 fp.cs ?_ (T4.out.at_ 0 _ rfl).range ?_ ?_); exact rfl; exact rfl; exact prow fp))
  generalize w3.alloc (.cells #[.bool true, .bool true, .bool false, .bool false, .bool false, .bool false, .bool false, .bool false, .int .i64 0, .int .u64 14] 25) = w4 at *
  generalize w3.heap.size = pb at *
  refine (tp_map T4.out 1073741824 0 fp (by decide) fp_wf).mono ?_
  rintro e w5 ⟨rfl, ht, _⟩
  rw [f_map1] at ht ⊢
  have T5 := Lib.hid ht
  clear ht T4
  go_wp2_with (first | ((with_reducible refine wl_load 25 (.tmp 7) rfl ?_ pb 0 fp.cs ?_ (T5.out.at_ 0 _ rfl).range ?_ ?_); exact rfl; exact rfl; exact prow fp))
  refine (tp_map T5.out 1073745920 0 fp (by decide) fp_wf).mono ?_
  rintro e w6 ⟨rfl, ht, _⟩
  rw [f_map2] at ht ⊢
  have T6 := Lib.hid ht
  clear ht T5
  go_wp2_with (first | ((with_reducible refine wl_load 25 (.tmp 7) rfl ?_ pb 0 fp.cs ?_ (T6.out.at_ 0 _ rfl).range ?_ ?_); exact rfl; exact rfl; exact prow fp))
  refine (tp_map T6.out 1073746211 0 fp (by decide) fp_wf).mono ?_
  rintro e w7 ⟨rfl, ht, _⟩
  rw [f_map3] at ht ⊢
  have T7 := Lib.hid ht
  clear ht T6
  go_wp2_with fail
  refine (tp_find T7.out 1073745928 (by decide)).mono ?_
  rintro e w8 ⟨hb8, lf, rfl, hlf⟩
  obtain ⟨pos, hl⟩ := hlf 1 fm1 f_hold1 rfl
  subst hl
  rw [show foundE fx2.L 1073745928 = 0 from by kernel_rfl]
  have T8 : Hid (TP W (fc tb g sb) fx2 .none [(w8.heap.size, 44, (fp.leaf 0 pos).cs), (pb, 25, fp.cs)] (w8.alloc (.cells (fp.leaf 0 pos).cs 44))) := Lib.hid ((T7.out.step hb8).push _ _ rfl)
  clear hlf hb8 T7
  obtain ⟨lf, hlf⟩ : ∃ q, q = fp.leaf 0 pos := ⟨_, rfl⟩
  rw [show fm1.p.leaf (fm1.lev : Int) pos = lf from hlf.symm]
  rw [← hlf] at T8
  have HLF := Lib.hid hlf
  clear hlf
  go_wp2_with (first | ((with_reducible refine wl_store_new 44 (.tmp 8) (.tmp 56) rfl ?_ w8 (World.heap w8).size 44 lf0.cs lf.cs ?_ ?_ ?_ ?_ ?_ ?_ ?_ ?_); exact rfl; exact rfl; exact rfl; exact rfl; exact rfl; exact rfl; exact lrow lf; exact lcs_one lf))
  generalize w8.alloc (.cells lf.cs 44) = w9 at *
  generalize w8.heap.size = lb at *
  refine (tp_unmap T8.out 1073745919 (by decide)).mono ?_
  rintro e w10 ⟨rfl, ht, _⟩
  rw [f_unmap] at ht ⊢
  have T9 : Hid (TP W (fc tb g sb) fx3 .none [(w10.heap.size, 25, fp.cs), (lb, 44, lf.cs), (pb, 25, fp.cs)] (w10.alloc (.cells fp.cs 25))) := Lib.hid (ht.push _ _ rfl)
  clear ht T8
  go_wp2_with (first | ((with_reducible refine wl_store_new 25 (.tmp 10) (.tmp 61) rfl ?_ w10 (World.heap w10).size 25 pte0.cs fp.cs ?_ ?_ ?_ ?_ ?_ ?_ ?_ ?_); exact rfl; exact rfl; exact rfl; exact rfl; exact rfl; exact rfl; exact prow fp; exact pcs_one fp))
  generalize w10.alloc (.cells fp.cs 25) = w11 at *
  generalize w10.heap.size = qb at *
  refine (tp_find T9.out 1073741824 (by decide)).mono ?_
  rintro e w12 ⟨hb12, lf2, rfl, _⟩
  rw [f_hold2]
  have T10 : Hid (TP W (fc tb g sb) fx3 .none [(w12.heap.size, 44, lf2.cs), (qb, 25, fp.cs), (lb, 44, lf.cs), (pb, 25, fp.cs)] (w12.alloc (.cells lf2.cs 44))) := Lib.hid ((T9.out.step hb12).push _ _ rfl)
  clear hb12 T9
  go_wp2_with (first | ((with_reducible refine wl_store_new 44 (.tmp 12) (.tmp 66) rfl ?_ w12 (World.heap w12).size 44 lf0.cs lf2.cs ?_ ?_ ?_ ?_ ?_ ?_ ?_ ?_); exact rfl; exact rfl; exact rfl; exact rfl; exact rfl; exact rfl; exact lrow lf2; exact lcs_one lf2))
  generalize w12.alloc (.cells lf2.cs 44) = w13 at *
  generalize w12.heap.size = lb2 at *
  refine (tp_used T10.out).mono ?_
  rintro e w' ⟨rfl, rfl⟩
  rw [show fx3.k = 3 from rfl]
  go_wp2_with fail
  refine (tp_root T10.out).mono ?_
  rintro e w' ⟨rfl, rfl⟩
  rw [show (fc tb g sb).root = 2 from rfl]
  have HL : Hid (World.rangeAt w13 lb 0 fp.cs.toList) := Lib.hid (leaf_range (lev := 0) (pos := pos) (by rw [← HLF.out]; exact T10.out.at_ 2 _ rfl))
  have heq := fun W => pte_same W fp fp_wf
  have pl := (T10.out.at_ 2 _ rfl).lt
  simp only at pl
  go_wp2_with (first | ((with_reducible refine wl_load 25 (.tmp 81) rfl ?_ lb 0 fp.cs ?_ HL.out ?_ ?_); exact rfl; exact rfl; exact prow fp) | ((with_reducible refine wl_load 25 (.tmp 7) rfl ?_ pb 0 fp.cs ?_ (T10.out.at_ 3 _ rfl).range ?_ ?_); exact rfl; exact rfl; exact prow fp) | ((with_reducible refine wl_load 25 (.tmp 10) rfl ?_ qb 0 fp.cs ?_ (T10.out.at_ 1 _ rfl).range ?_ ?_); exact rfl; exact rfl; exact prow fp))
  refine (tp_change T10.out 1073745920 pte0 (by decide) pte0_wf).mono ?_
  rintro e w14 ⟨rfl, ht, _⟩
  rw [f_change] at ht ⊢
  have T11 := Lib.hid ht
  clear ht T10 HL heq pl
  go_wp2_with fail
  refine (tp_pages T11.out).mono ?_
  rintro e w15 ⟨v, ex, rfl, ht, ⟨A, cp, rfl, _⟩, hln, _⟩
  rw [show (sortM fx3.L).length = 1 from hln]
  have T12 := Lib.hid ht.bel
  clear ht hln T11
  go_wp2_with fail
  go_ret
  exact ⟨rfl, T12.out⟩
end Go.Proofs.Ytbgagmpinekhpaa

/- Plain laws of what is mapped; the acts of a script. -/
namespace Go.Proofs.Ytbgagmpinekhpaa
open Go.RowKit

theorem mapX_spec (c : TC) (va l : Nat) (p : Pte) : ∀ (d : Nat) (x : XS), x.k ≤ c.N →
    (((mapX c va l p d x).1 = 0 ∧ (mapX c va l p d x).2.L = x.L ++ [⟨baseN va l, l, p⟩]) ∨ ((mapX c va l p d x).1 ≠ 0 ∧ (mapX c va l p d x).2.L = x.L)) ∧ (mapX c va l p d x).2.k ≤ c.N ∧ (mapX c va l p d x).2.T.length ≤ x.T.length + d
  | 0, x, h => by
    unfold mapX
    split
    · exact ⟨.inl ⟨rfl, rfl⟩, h, Nat.le_refl _⟩
    · exact ⟨.inr ⟨fun e => absurd (show (130 : Int) = 0 from e) (by decide), rfl⟩, h, Nat.le_refl _⟩
  | d + 1, x, h => by
    unfold mapX
    split
    · exact ⟨.inr ⟨fun e => absurd (show (130 : Int) = 0 from e) (by decide), rfl⟩, h, Nat.le_add_right _ _⟩
    · split
      · obtain ⟨r1, r2, r3⟩ := mapX_spec c va l p d x h
        exact ⟨r1, r2, by omega⟩
      · split
        · exact ⟨.inr ⟨fun e => absurd (show (50 : Int) = 0 from e) (by decide), rfl⟩, h, Nat.le_add_right _ _⟩
        · split
          · exact ⟨.inr ⟨fun e => absurd (show (61 : Int) = 0 from e) (by decide), rfl⟩, h, Nat.le_add_right _ _⟩
          · rename_i h1 _
            obtain ⟨r1, r2, r3⟩ := mapX_spec c va l p d ⟨x.L, x.T ++ [⟨l + d, baseN va (l + (d + 1)), c.first + x.k⟩], x.k + 1⟩ (by show x.k + 1 ≤ c.N; omega)
            refine ⟨r1, r2, ?_⟩
            have : (x.T ++ [(⟨l + d, baseN va (l + (d + 1)), c.first + x.k⟩ : Tb)]).length = x.T.length + 1 := by simp
            have r3' : _ ≤ (x.T ++ [(⟨l + d, baseN va (l + (d + 1)), c.first + x.k⟩ : Tb)]).length + d := r3
            omega
theorem mapL_spec (c : TC) (x : XS) (va : Nat) (l : Int) (p : Pte) (h : x.k ≤ c.N) :
    (((mapL c x va l p).1 = 0 ∧ (mapL c x va l p).2.L = x.L ++ [⟨baseN va l.toNat, l.toNat, p⟩] ∧ canonB va = true ∧ mayB p l = true) ∨ ((mapL c x va l p).1 ≠ 0 ∧ (mapL c x va l p).2.L = x.L)) ∧ (mapL c x va l p).2.k ≤ c.N ∧ (mapL c x va l p).2.T.length ≤ x.T.length + 2 := by
  unfold mapL
  by_cases hb : (canonB va && mayB p l) = true
  · rw [if_pos hb]
    rw [Bool.and_eq_true] at hb
    obtain ⟨r1, r2, r3⟩ := mapX_spec c va l.toNat p (2 - l.toNat) x h
    refine ⟨r1.imp (fun h => ⟨h.1, h.2, hb.1, hb.2⟩) id, r2, by omega⟩
  · rw [if_neg hb]
    exact ⟨.inr ⟨fun e => absurd (show (2 : Int) = 0 from e) (by decide), rfl⟩, h, Nat.le_add_right _ _⟩
section
variable {c : TC} {σ : TS} {L : List Mp} {T : List Tb} {x : XS}
theorem Inv.tab_ge (h : Inv c σ L T) {va j k f : Nat} (hf : tabF c.root T va j = some f) (hjk : j ≤ k) (hk : k ≤ 2) : ∃ g, tabF c.root T va k = some g := by
  by_cases e2 : k = 2
  · subst e2; exact ⟨_, tab_top _ _ _⟩
  · by_cases ej : j = k
    · subst ej; exact ⟨f, hf⟩
    · obtain rfl : j = 0 := by omega
      obtain rfl : k = 1 := by omega
      exact h.above hf
/-- Pages that hold one address are of one level. -/
theorem Inv.one_page (h : Inv c σ L T) {va j k : Nat} {m1 m2 : Mp} (hj : j ≤ 2) (hk : k ≤ 2) (h1 : pageP L va j = some m1) (h2 : pageP L va k = some m2) : j = k := by
  have key : ∀ {j k : Nat} {m1 m2 : Mp}, j ≤ 2 → k ≤ 2 → pageP L va j = some m1 → pageP L va k = some m2 → ¬ j < k := by
    intro j k m1 m2 hj hk h1 h2 hlt
    obtain ⟨t, ht⟩ := h.page_tab h1 hj
    obtain ⟨g, hg⟩ := h.tab_ge ht (show j ≤ k - 1 by omega) (by omega)
    rw [h.below_page h2 (by omega)] at hg
    cases hg
  rcases Nat.lt_trichotomy j k with hlt | he | hlt
  · exact absurd hlt (key hj hk h1 h2)
  · exact he
  · exact absurd hlt (key hk hj h2 h1)
theorem page_idx {va l : Nat} {m : Mp} (h : pageP L va l = some m) : ∃ i, pageI L va l = some i ∧ L[i]? = some m := by
  cases e : pageI L va l with
  | none => rw [pageI_none e] at h; cases h
  | some i =>
    obtain ⟨m2, h1, h2⟩ := pageI_some e
    rw [h] at h2
    injection h2 with h2
    exact ⟨i, rfl, by rw [h1, h2]⟩
theorem idx_none {va l : Nat} (h : pageP L va l = none) : pageI L va l = none := by
  cases e : pageI L va l with
  | none => rfl
  | some i =>
    obtain ⟨m2, _, h2⟩ := pageI_some e
    rw [h] at h2; cases h2
theorem Inv.holds_page (h : Inv c σ L T) {va l : Nat} {m : Mp} (hc : canonB va = true) (hl : l ≤ 2) (hp : pageP L va l = some m) : ∃ i, holdsI L va = some i ∧ L[i]? = some m := by
  obtain ⟨i, h1, h2⟩ := page_idx hp
  refine ⟨i, ?_, h2⟩
  have low : ∀ k, k < l → pageI L va k = none := fun k hk => by
    refine idx_none ?_
    cases e : pageP L va k with
    | none => rfl
    | some m2 => exact absurd (h.one_page (by omega) hl e hp) (by omega)
  unfold holdsI
  rw [if_pos hc]
  rcases lev3 hl with rfl | rfl | rfl
  · rw [h1]
  · rw [low 0 (by decide), h1]
  · rw [low 0 (by decide), low 1 (by decide), h1]
theorem Inv.there (h : Inv c σ L T) {va l : Nat} {m : Mp} (k : Nat) (p : Pte) (hp : pageP L va l = some m) : ∀ d, l + d ≤ 2 → mapX c va l p d ⟨L, T, k⟩ = (130, ⟨L, T, k⟩)
  | 0, hl => by
    unfold mapX
    rw [if_neg (fun hh => by rw [hp] at hh; cases hh.1)]
  | d + 1, hl => by
    have e1 : pageP L va (l + (d + 1)) = none := by
      cases e : pageP L va (l + (d + 1)) with
      | none => rfl
      | some m2 => exact absurd (h.one_page (by omega) hl hp e) (by omega)
    obtain ⟨t, ht⟩ := h.page_tab hp (by omega)
    obtain ⟨g, hg⟩ := h.tab_ge ht (show l ≤ l + d by omega) (by omega)
    unfold mapX
    simp only [e1, hg]
    exact h.there k p hp d (by omega)
theorem holdsI_page {va i : Nat} (h : holdsI L va = some i) : ∃ k m, k ≤ 2 ∧ canonB va = true ∧ L[i]? = some m ∧ pageP L va k = some m := by
  unfold holdsI at h
  split at h
  · rename_i hc
    split at h
    · rename_i e; injection h with h; subst h; obtain ⟨m, h1, h2⟩ := pageI_some e; exact ⟨0, m, by decide, hc, h1, h2⟩
    · split at h
      · rename_i e; injection h with h; subst h; obtain ⟨m, h1, h2⟩ := pageI_some e; exact ⟨1, m, by decide, hc, h1, h2⟩
      · obtain ⟨m, h1, h2⟩ := pageI_some h; exact ⟨2, m, by decide, hc, h1, h2⟩
  · cases h
/-- What is known where a page has just been added. -/
structure Added (c : TC) (Lx : List Mp) (x : XS) (va l o : Nat) (p : Pte) : Prop where
  hold : ∃ i, holdsI x.L (besV va o l) = some i ∧ x.L[i]? = some ⟨baseN va l, l, p⟩
  there : mapL c x (besV va o l) (l : Int) p = (130, x)
  unmap : unmapL x (besV va o l) = (p, 0, ⟨Lx, x.T, x.k⟩)
  none : holdsI Lx va = none
theorem Inv.added (h : Inv c σ x.L x.T) {Lx : List Mp} {va l : Nat} (o : Nat) {p : Pte} (hx : x.L = Lx ++ [⟨baseN va l, l, p⟩]) (hv : va < 18446744073709551616) (hc : canonB va = true) (hl : l ≤ 2) (hm : mayB p (l : Int) = true) : Added c Lx x va l o p := by
  have hbb : baseN (besV va o l) l = baseN va l := by
    refine (base_iff hl).2 ?_
    unfold besV spN
    rcases lev3 hl with rfl | rfl | rfl <;> simp <;> omega
  have hcb : canonB (besV va o l) = true := by rw [bes_canon hl]; exact hc
  have hmem : (⟨baseN va l, l, p⟩ : Mp) ∈ x.L := by rw [hx]; simp
  have hpb : pageP x.L (besV va o l) l = some ⟨baseN va l, l, p⟩ := (page_iff h.pkey).2 ⟨hmem, rfl, hbb.symm⟩
  have hpv : pageP x.L va l = some ⟨baseN va l, l, p⟩ := (page_iff h.pkey).2 ⟨hmem, rfl, rfl⟩
  obtain ⟨i, hi, hxi⟩ := h.holds_page hcb hl hpb
  have hk := h.pkey
  rw [hx] at hk
  have hap := List.pairwise_append.1 hk
  have hil : i = Lx.length := by
    have hlt := (List.getElem?_eq_some_iff.1 hxi).1
    rw [hx, List.length_append] at hlt
    simp only [List.length_cons, List.length_nil] at hlt
    rcases Nat.lt_or_ge i Lx.length with h1 | h1
    · rw [hx, List.getElem?_append_left h1] at hxi
      exact absurd ⟨rfl, rfl⟩ (hap.2.2 _ (List.mem_of_getElem? hxi) _ (List.mem_singleton.2 rfl))
    · omega
  refine ⟨⟨i, hi, hxi⟩, ?_, ?_, ?_⟩
  · unfold mapL
    rw [if_pos (by rw [hcb, hm]; rfl), show ((l : Nat) : Int).toNat = l by omega]
    have := h.there x.k p hpb (2 - l) (by omega)
    exact this
  · unfold unmapL
    rw [hi]
    simp only
    rw [hxi]
    simp only
    have : x.L.eraseIdx i = Lx := by
      rw [hx, hil, List.eraseIdx_append_of_length_le (Nat.le_refl _)]
      simp
    rw [this]
  · cases e : holdsI Lx va with
    | none => rfl
    | some j =>
      obtain ⟨k, m2, hk2, _, hj, hp2⟩ := holdsI_page e
      have hp3 : pageP x.L va k = some m2 := by
        rw [hx]
        unfold pageP at hp2 ⊢
        rw [List.find?_append, hp2]
        rfl
      have e3 := h.one_page hk2 hl hp3 hpv
      obtain ⟨g1, g2, g3⟩ := page_some hp2
      exact absurd ⟨by rw [g2, e3], by rw [g3, e3]⟩ (hap.2.2 m2 g1 _ (List.mem_singleton.2 rfl))
end
theorem TP.like {W w : World} {c : TC} {x : XS} {o : RO} {loc : Loc} (h : TP W c x o loc w) : ∃ σ, Like c σ x := by
  obtain ⟨σ, Fm, Fs, FX, h1, h2, _⟩ := h.ex
  exact ⟨σ, h2⟩
/-- An act's cells. -/
def opC (kind lev va : Int) (p : Pte) : Array Value := #[.int .i64 kind, .int .i64 lev, .int .u64 va, .bool p.v, .bool p.r, .bool p.w, .bool p.x, .bool p.u, .bool p.g, .bool p.a, .bool p.d, .int .i64 p.rsw, .int .u64 p.ppn]
theorem op_pte {w : World} {b : Nat} {kind lev va : Int} {p : Pte} (h : Blk w b 27 (opC kind lev va p)) : w.rangeAt b 3 p.cs.toList := World.rangeAt_of_block h 3 10
theorem op_row (kind lev va : Int) (p : Pte) : rowT Try.prog 27 (opC kind lev va p).size = true := by
  show rowT Try.prog 27 13 = true
  kernel_rfl
theorem op_one (kind lev va : Int) (p : Pte) : (opC kind lev va p).all (·.oneCell') = true := by simp [opC, Value.oneCell']
def opZ : Array Value := #[.int .i64 0, .int .i64 0, .int .u64 0, .bool false, .bool false, .bool false, .bool false, .bool false, .bool false, .bool false, .bool false, .int .i64 0, .int .u64 0]
theorem op_0 (kind lev va : Int) (p : Pte) : (opC kind lev va p)[0]? = some (.int .i64 kind) := rfl
theorem op_1 (kind lev va : Int) (p : Pte) : (opC kind lev va p)[1]? = some (.int .i64 lev) := rfl
theorem op_2 (kind lev va : Int) (p : Pte) : (opC kind lev va p)[2]? = some (.int .u64 va) := rfl
/-- An act in a slice. -/
def OpR (W : World) (b o : Nat) : Prop := ∃ (kind lev : Int) (va : Nat) (p : Pte), W.rangeAt b o (opC kind lev (va : Int) p).toList ∧ va < 18446744073709551616 ∧ PteWf p ∧ (-9223372036854775808 ≤ kind ∧ kind < 9223372036854775808)
theorem ops_of {w : World} {a : Option Addr} {len cap : Nat} (h : IsRows [.int .i64, .int .i64, .int .u64, .bool, .bool, .bool, .bool, .bool, .bool, .bool, .bool, .int .i64, .int .u64] w a len cap) (hp : 0 < len) : ∃ b o, a = some ⟨b, o, none⟩ ∧ b < w.heap.size ∧ ∀ i, i < len → OpR w b (o + i * 13) := by
  rcases h with ⟨_, rfl, _⟩ | ⟨x, rfl, hl, hm, hc⟩
  · omega
  · obtain ⟨v, h0, _⟩ := hc 0 (by omega) 0 _ rfl
    obtain ⟨b, o, spot⟩ := x
    have hspot : spot = none := by simpa [Addr.add] using World.cell?_spot h0
    subst hspot
    have ea : ∀ k, (⟨b, o, none⟩ : Addr).add k = ⟨b, o + k, none⟩ := fun k => by unfold Addr.add; split <;> simp_all
    rw [ea] at h0
    refine ⟨b, o, rfl, World.block_lt_of_cell? _ _ h0, fun i hi => ?_⟩
    obtain ⟨_, k0, y0, rfl, w0⟩ := hc i (by omega) 0 _ rfl
    obtain ⟨_, k1, y1, rfl, w1⟩ := hc i (by omega) 1 _ rfl
    obtain ⟨_, k2, y2, rfl, w2⟩ := hc i (by omega) 2 _ rfl
    obtain ⟨_, k3, y3, rfl⟩ := hc i (by omega) 3 _ rfl
    obtain ⟨_, k4, y4, rfl⟩ := hc i (by omega) 4 _ rfl
    obtain ⟨_, k5, y5, rfl⟩ := hc i (by omega) 5 _ rfl
    obtain ⟨_, k6, y6, rfl⟩ := hc i (by omega) 6 _ rfl
    obtain ⟨_, k7, y7, rfl⟩ := hc i (by omega) 7 _ rfl
    obtain ⟨_, k8, y8, rfl⟩ := hc i (by omega) 8 _ rfl
    obtain ⟨_, k9, y9, rfl⟩ := hc i (by omega) 9 _ rfl
    obtain ⟨_, k10, y10, rfl⟩ := hc i (by omega) 10 _ rfl
    obtain ⟨_, k11, y11, rfl, w11⟩ := hc i (by omega) 11 _ rfl
    obtain ⟨_, k12, y12, rfl, w12⟩ := hc i (by omega) 12 _ rfl
    obtain ⟨a2, rfl⟩ := Int.eq_ofNat_of_zero_le (u64_of_wf w2).1
    rw [ea] at k0 k1 k2 k3 k4 k5 k6 k7 k8 k9 k10 k11 k12
    simp only [List.length_cons, List.length_nil, Nat.zero_add, Nat.reduceAdd] at k0 k1 k2 k3 k4 k5 k6 k7 k8 k9 k10 k11 k12
    refine ⟨y0, y1, a2, ⟨y3, y4, y5, y6, y7, y8, y9, y10, y11, y12⟩, fun j v hj => ?_, by have := (u64_of_wf w2).2; omega, ⟨w11, w12⟩, i64_of_wf w0⟩
    rw [Nat.add_assoc]
    match j, hj with
    | 0, hj => exact k0.trans hj
    | 1, hj => exact k1.trans hj
    | 2, hj => exact k2.trans hj
    | 3, hj => exact k3.trans hj
    | 4, hj => exact k4.trans hj
    | 5, hj => exact k5.trans hj
    | 6, hj => exact k6.trans hj
    | 7, hj => exact k7.trans hj
    | 8, hj => exact k8.trans hj
    | 9, hj => exact k9.trans hj
    | 10, hj => exact k10.trans hj
    | 11, hj => exact k11.trans hj
    | 12, hj => exact k12.trans hj
    | j + 13, hj => exact absurd hj (by simp [opC])
end Go.Proofs.Ytbgagmpinekhpaa
