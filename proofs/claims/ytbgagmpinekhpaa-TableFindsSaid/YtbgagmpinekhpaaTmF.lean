/- Merged texts: TbB. -/
import Derived.Test.YtbgagmpinekhpaaTm6
/- TableFinds: what is mapped is found all over its page. No condition. -/
namespace Go.Proofs.Ytbgagmpinekhpaa
open Go.RowKit

theorem besV_def (va o l : Nat) : besV va o l = va - va % spN l + o % spN l := rfl
set_option maxRecDepth 100000 in
set_option maxHeartbeats 8000000 in
theorem finds_walk (A : Option Addr) (len cap : Nat) (kind lev : Int) (va other : Nat) (p : Pte) (W : World) (hO : 0 < len → ∃ b o, A = some ⟨b, o, none⟩ ∧ b < W.heap.size ∧ ∀ i, i < len → OpR W b (o + i * 13)) (hlen : len ≤ 9223372036854775807) (hv : va < 18446744073709551616) (hot : other < 18446744073709551616) (hw : PteWf p) :
    Calls Try.prog 3 #[.slice A len cap, .agg (opC kind lev (va : Int) p), .int .u64 (other : Int)] W fun e w' => e = .returned (.bool true) ∧ Below W.heap.size W w' := by
  have HO := Lib.hid hO
  have HV := Lib.hid hv
  have HOT := Lib.hid hot
  have HWF := Lib.hid hw
  have HA : Hid (Below W.heap.size W (W.alloc (.cells (opC kind lev (va : Int) p) 27))) := Lib.hid ((Below.refl _ _).alloc (Nat.le_refl _) _)
  have HOB : Hid (Blk (W.alloc (.cells (opC kind lev (va : Int) p) 27)) W.heap.size 27 (opC kind lev (va : Int) p)) := Lib.hid (Blkf.new_at _ _ _ _ rfl)
  clear hO hv hot hw
  go_enter Try.func3, Try.ntmps3
  go_wp2_with fail
  obtain ⟨w0, hw0⟩ : ∃ q, q = W.alloc (.cells (opC kind lev (va : Int) p) 27) := ⟨_, rfl⟩
  rw [← hw0] at HA HOB ⊢
  obtain ⟨ob, hob⟩ : ∃ q, q = W.heap.size := ⟨_, rfl⟩
  rw [← hob] at HOB ⊢
  clear hw0 hob
  refine (first13 _).mono ?_
  rintro e w1 ⟨rfl, hb1⟩
  have HB1 := Lib.hid hb1
  clear hb1
  go_wp2_with fail
  refine (new_yes 80 w1 (by decide) (by decide)).mono ?_
  rintro e w2 ⟨g, rfl, hm, hb2⟩
  have HM := Lib.hid hm
  have HB2 := Lib.hid hb2
  clear hm hb2
  go_wp2_with fail
  refine (frames_new_yes 0 80 w2 (by decide) (by decide) (by decide) (by decide)).mono ?_
  rintro e w3 ⟨rfl, hs, hb3⟩
  have HMD : Hid (Made w0 w1 w2 w3 g 80 80 0) := Lib.hid ⟨HB1.out, HM.out, HB2.out, hs, hb3, by decide, by decide⟩
  clear hs hb3 HM HB2 HB1
  go_wp2_with fail
  refine (HMD.out.yes (by kernel_rfl)).mono ?_
  rintro e w4 ⟨rfl, ht4⟩
  obtain ⟨c, hc⟩ : ∃ c : TC, c = (cN w2 w3 g 80 80 0).at_ (0 + 0) := ⟨_, rfl⟩
  have HCN : Hid (c.N = 80) := Lib.hid (by rw [hc]; rfl)
  rw [show w3.heap.size = c.tb from by rw [hc]; rfl]
  rw [← hc] at ht4
  have T4 := Lib.hid ht4
  clear ht4 HMD hc
  go_wp2_with fail
  go_loopw [44] (fun i wr => ∃ (k : Nat) (x : XS), k ≤ len ∧ i = .int .i64 k ∧ TP w0 c x .none [] wr ∧ x.k ≤ 80 ∧ x.L.length ≤ k ∧ x.L.length ≤ 20) (fun i _ => len - (intOf i).toNat)
  case atStart => exact ⟨0, ⟨[], [], 1⟩, by omega, rfl, T4.out, by decide, by decide, by decide⟩
  clear T4
  case round =>
    obtain ⟨k, x, hk, rfl, ht, hx, hxl, hx20⟩ := hrel
    have HXL := Lib.hid hxl
    have HL20 := Lib.hid hx20
    have HT := Lib.hid ht
    have HXK := Lib.hid hx
    clear ht hx hxl hx20
    by_cases hkl : k < len
    · obtain ⟨b, o, rfl, hbl, hcc⟩ := HO.out (by omega)
      obtain ⟨ki, le, va2, p2, hrg, hv2, hw2, hki⟩ := hcc k hkl
      have hbl0 : b < w0.heap.size := Nat.lt_of_lt_of_le hbl HA.out.size
      have HRG : Hid (World.rangeAt wr b (o + k * 13) (opC ki le (va2 : Int) p2).toList) := Lib.hid (range_below (range_below hrg HA.out) HT.out.bel)
      have HV2 := Lib.hid hv2
      have HW2 := Lib.hid hw2
      have S5 : Hid (TP w0 c x .none [(wr.heap.size, 27, opC ki le (va2 : Int) p2)] (wr.alloc (.cells (opC ki le (va2 : Int) p2) 27))) := Lib.hid (HT.out.push _ _ rfl)
      clear hrg hv2 hw2 hki hcc hbl
      by_cases h20 : k < 20
      · have i20 : (k : Int) < 20 := by omega
        have q1 := ((S5.out.at_ 0 _ rfl).cell 1).trans (op_1 ki le (va2 : Int) p2)
        have q2 := ((S5.out.at_ 0 _ rfl).cell 2).trans (op_2 ki le (va2 : Int) p2)
        have ql := (S5.out.at_ 0 _ rfl).lt
        simp only at q1 q2 ql
        clear HT
        go_wp2_with (first | ((with_reducible refine wl_load 27 (.tmp 47) rfl ?_ b (o + k * 13) (opC ki le (va2 : Int) p2) ?_ HRG.out ?_ ?_); exact rfl; exact rfl; exact op_row _ _ _ _) | ((with_reducible refine wl_store_new 27 (.tmp 14) (.tmp 48) rfl ?_ wr (World.heap wr).size 27 opZ (opC ki le (va2 : Int) p2) ?_ ?_ ?_ ?_ ?_ ?_ ?_ ?_); exact rfl; exact rfl; exact rfl; exact rfl; exact rfl; exact rfl; exact op_row _ _ _ _; exact op_one _ _ _ _) | ((with_reducible refine wl_load 25 (.tmp 56) rfl ?_ wr.heap.size 3 p2.cs ?_ (op_pte (S5.out.at_ 0 _ rfl)) ?_ ?_); exact rfl; exact rfl; exact prow p2))
        refine (tp_map S5.out va2 le p2 HV2.out HW2.out).mono ?_
        rintro e w6 ⟨rfl, ht, _⟩
        have T6 := Lib.hid (ht.only (loc' := []) (fun p hp => by simp at hp))
        have HK6 : Hid ((mapL c x va2 le p2).2.k ≤ 80) := Lib.hid (by have := (mapL_spec c x va2 le p2 (by rw [HCN.out]; exact HXK.out)).2.1; rw [HCN.out] at this; exact this)
        have HL6 : Hid ((mapL c x va2 le p2).2.L.length ≤ k + 1 ∧ (mapL c x va2 le p2).2.L.length ≤ 20) := Lib.hid (by
          have h9 := HXL.out
          have h8 := HL20.out
          rcases (mapL_spec c x va2 le p2 (by rw [HCN.out]; exact HXK.out)).1 with ⟨_, h, _⟩ | ⟨_, h⟩
          · rw [h, List.length_append]; simp only [List.length_cons, List.length_nil]; omega
          · rw [h]; omega)
        clear ht S5 q1 q2 ql HRG
        go_wp2_with fail
        go_roundw
        case rel => exact ⟨k + 1, _, hkl, by go_num, T6.out, HK6.out, HL6.out.1, HL6.out.2⟩
        case measure => simp [intOf]; omega
      · have i20 : ¬ (k : Int) < 20 := by omega
        have T6 := Lib.hid (S5.out.only (loc' := []) (fun p hp => by simp at hp))
        clear HT
        go_wp2_with (first | ((with_reducible refine wl_load 27 (.tmp 47) rfl ?_ b (o + k * 13) (opC ki le (va2 : Int) p2) ?_ HRG.out ?_ ?_); exact rfl; exact rfl; exact op_row _ _ _ _) | ((with_reducible refine wl_store_new 27 (.tmp 14) (.tmp 48) rfl ?_ wr (World.heap wr).size 27 opZ (opC ki le (va2 : Int) p2) ?_ ?_ ?_ ?_ ?_ ?_ ?_ ?_); exact rfl; exact rfl; exact rfl; exact rfl; exact rfl; exact rfl; exact op_row _ _ _ _; exact op_one _ _ _ _))
        go_roundw
        case rel => exact ⟨k + 1, x, hkl, by go_num, T6.out, HXK.out, by have := HXL.out; omega, HL20.out⟩
        case measure => simp [intOf]; omega
    · obtain rfl : len = k := by omega
      clear HO
      go_wp2_with fail
      refine (tp_pages HT.out).mono ?_
      rintro e w5 ⟨v, ex, rfl, ht5, hrow, hsl, hwf⟩
      obtain ⟨Aw, cw, rfl, hrd⟩ := hrow
      have HSL := Lib.hid hsl
      have HSW := Lib.hid hwf
      have HRD := Lib.hid hrd
      rw [List.append_nil] at ht5
      have T5 := Lib.hid ht5
      obtain ⟨n, hn⟩ : ∃ n, n = (sortM x.L).length := ⟨_, rfl⟩
      rw [← hn]
      have HN := Lib.hid hn
      have HNB : Hid (n ≤ 9223372036854775807) := Lib.hid (by rw [hn, hsl]; have := HXL.out; omega)
      have HNL : Hid (n = x.L.length) := Lib.hid (by rw [hn, hsl])
      have B5 := Lib.hid (HOB.out.below HT.out.bel HOB.out.lt)
      have HOB5 := Lib.hid (HOB.out.below ht5.bel HOB.out.lt)
      clear ht5 hrd hsl hwf HT hn B5
      have q1 := (HOB5.out.cell 1).trans (op_1 kind lev (va : Int) p)
      have q2 := (HOB5.out.cell 2).trans (op_2 kind lev (va : Int) p)
      have ql := HOB5.out.lt
      go_wp2_with (first | ((with_reducible refine wl_load 25 (.tmp 67) rfl ?_ ob 3 p.cs ?_ (op_pte HOB5.out) ?_ ?_); exact rfl; exact rfl; exact prow p))
      refine (tp_map T5.out va lev p HV.out HWF.out).mono ?_
      rintro e w6 ⟨rfl, ht6, _⟩
      have HSP := Lib.hid (mapL_spec c x va lev p (by rw [HCN.out]; exact HXK.out))
      have T6 := Lib.hid ht6
      clear ht6 T5 q1 q2 ql HOB5
      obtain ⟨E, hE⟩ : ∃ q, q = (mapL c x va lev p).1 := ⟨_, rfl⟩
      obtain ⟨x6, hx6⟩ : ∃ q, q = (mapL c x va lev p).2 := ⟨_, rfl⟩
      rw [← hE, ← hx6] at HSP
      rw [← hx6] at T6
      rw [← hE]
      clear hE hx6
      by_cases hz : E = 0
      · have HADD : Hid (x6.L = x.L ++ [⟨baseN va lev.toNat, lev.toNat, p⟩] ∧ canonB va = true ∧ mayB p lev = true) := Lib.hid (by
          rcases HSP.out.1 with h | h
          · exact h.2
          · exact absurd hz h.1)
        have hlv := may_lev HADD.out.2.2
        obtain ⟨l, rfl⟩ : ∃ l : Nat, lev = (l : Int) := ⟨lev.toNat, by omega⟩
        rw [Int.toNat_natCast] at HADD
        have HL2 : Hid (l ≤ 2) := Lib.hid (by omega)
        subst hz
        have HAD : Hid (Added c x.L x6 va l other p) := Lib.hid (by
          obtain ⟨σ, hlk⟩ := T6.out.like
          exact hlk.inv.added other HADD.out.1 HV.out HADD.out.2.1 HL2.out HADD.out.2.2)
        have HLN : Hid (x6.L.length = n + 1) := Lib.hid (by rw [HADD.out.1, List.length_append, HNL.out]; rfl)
        have HBT : Hid (besV va other l < 18446744073709551616) := Lib.hid (bes_lt HL2.out HV.out)
        obtain ⟨sp, hsp⟩ : ∃ q, q = spN l := ⟨_, rfl⟩
        obtain ⟨l9, hl9⟩ : ∃ q, q = 9 * l := ⟨_, rfl⟩
        obtain ⟨m1, hm1⟩ : ∃ q, q = va % sp := ⟨_, rfl⟩
        obtain ⟨m2, hm2⟩ : ∃ q, q = other % sp := ⟨_, rfl⟩
        obtain ⟨b1, hb1⟩ : ∃ q, q = va - m1 := ⟨_, rfl⟩
        obtain ⟨inn, hinn⟩ : ∃ q, q = besV va other l := ⟨_, rfl⟩
        have hin2 : inn = b1 + m2 := by rw [hinn, hb1, hm1, hm2, hsp]; rfl
        have hle1 : m1 ≤ va := by rw [hm1]; exact Nat.mod_le _ _
        have hsp1 : 1 ≤ sp := by rw [hsp]; rcases lev3 HL2.out with rfl | rfl | rfl <;> decide
        have hinlt : inn < 18446744073709551616 := by rw [hinn]; exact HBT.out
        have HINN := Lib.hid hinn
        have HSPN := Lib.hid hsp
        have c3 : ∀ w' : World, (Op.shift BinOp.shl IntKind.u64 4096 IntKind.i64 (l9 : Int)).run Try.prog w' = .ok (.int .u64 (sp : Int)) w' := fun w' => by
          rw [hl9, hsp]
          rcases lev3 HL2.out with rfl | rfl | rfl <;> kernel_rfl
        have c4 : IntKind.u64.wrap (4096 * 2 ^ l9) = (sp : Int) := by
          rw [hl9, hsp]
          rcases lev3 HL2.out with rfl | rfl | rfl <;> rfl
        have i9 : 9 * (l : Int) = (l9 : Int) := by omega
        have i9b : (l9 : Int) ≤ 18 := by omega
        have e1 : (va : Int).tmod (sp : Int) = (m1 : Int) := by rw [hm1, ← Int.ofNat_tmod]
        have e1w : IntKind.u64.wrap (m1 : Int) = (m1 : Int) := by rw [IntKind.wrap_u64]; have := HV.out; omega
        have e2 : (va : Int) - (m1 : Int) = (b1 : Int) := by omega
        have e2w : IntKind.u64.wrap (b1 : Int) = (b1 : Int) := by rw [IntKind.wrap_u64]; have := HV.out; omega
        have e3 : (other : Int).tmod (sp : Int) = (m2 : Int) := by rw [hm2, ← Int.ofNat_tmod]
        have e3w : IntKind.u64.wrap (m2 : Int) = (m2 : Int) := by rw [IntKind.wrap_u64]; omega
        have E4 : Hid ((b1 : Int) + (m2 : Int) = (inn : Int)) := Lib.hid (by omega)
        have e4 := E4.out
        have e4w : IntKind.u64.wrap (inn : Int) = (inn : Int) := by rw [IntKind.wrap_u64]; omega
        have z1 : ¬ sp = 0 := by omega
        have z2 : ¬ (sp : Int) = 0 := by omega
        have HINL := Lib.hid hinlt
        have HOB6 := Lib.hid (HOB.out.below T6.out.bel HOB.out.lt)
        have q1 := (HOB6.out.cell 1).trans (op_1 kind (l : Int) (va : Int) p)
        have ql := HOB6.out.lt
        have s2 := fun (W' : World) (h : Ext w6.drew W') => (h.cell (p := ⟨ob, 2, none⟩) ql).trans ((HOB6.out.drew.cell 2).trans (op_2 kind (l : Int) (va : Int) p))
        clear hsp hl9 hm1 hm2 hb1 hinn hin2 hle1 hsp1 hinlt hlv
        go_wp2_with fail
        refine wp_region_plan [(0, false), (1, false), (2, false), (3, false), (4, false), (5, false), (6, false), (7, false), (8, false), (9, false), (10, false), (11, false)] (by kernel_rfl) (by kernel_rfl) (fun _ d _ _ _ h => by cases d <;> exact h) ?_
        iterate 12 (refine plan_take (v := ?_) rfl (by kernel_rfl) ?_ ?_; rotate_left; (focus (intro w' hw'; try go_simp; try with_reducible rfl)); simp only [Act.put, List.setIfInBounds_toArray, List.set_cons_zero, List.set_cons_succ])
        refine plan_end ?_
        clear s2 c3 c4 i9 i9b e1 e1w e2 e2w e3 e3w e4 e4w z1 z2 q1 ql HOB6
        have T7 := Lib.hid T6.out.drew
        clear T6
        generalize w6.drew = w7 at *
        obtain ⟨i, hi, hxi⟩ := HAD.out.hold
        rw [← HINN.out] at hi
        have HF : Hid (foundE x6.L inn = 0) := Lib.hid (by unfold foundE; rw [hi]; rfl)
        have HI := Lib.hid hi
        have HXI := Lib.hid hxi
        have HTH : Hid (mapL c x6 inn (l : Int) p = (130, x6)) := Lib.hid (by rw [HINN.out]; exact HAD.out.there)
        have HUN : Hid (unmapL x6 inn = (p, 0, ⟨x.L, x6.T, x6.k⟩)) := Lib.hid (by rw [HINN.out]; exact HAD.out.unmap)
        have HNO : Hid (foundE x.L va = 51) := Lib.hid (by unfold foundE; rw [HAD.out.none]; rfl)
        obtain ⟨n1, hn1⟩ : ∃ q, q = n + 1 := ⟨_, rfl⟩
        rw [← hn1] at HLN
        have HN1 := Lib.hid hn1
        clear hi hxi hn1 HAD
        go_wp2_with fail
        refine (tp_find T7.out inn HINL.out).mono ?_
        rintro e w8 ⟨hb8, lf, rfl, hlf⟩
        rw [HF.out]
        obtain ⟨pos, hl⟩ := hlf i _ HI.out HXI.out
        have HLF : Hid (lf = p.leaf (l : Int) pos) := Lib.hid hl
        have T8 : Hid (TP w0 c x6 .none ((w8.heap.size, 44, lf.cs) :: ex) (w8.alloc (.cells lf.cs 44))) := Lib.hid ((T7.out.step hb8).push _ _ rfl)
        clear hlf hl hb8 T7
        have HL8 : Hid (World.rangeAt (w8.alloc (.cells lf.cs 44)) w8.heap.size 0 p.cs.toList) := Lib.hid (leaf_range (lev := (l : Int)) (pos := pos) (by rw [← HLF.out]; exact T8.out.at_ 0 _ rfl))
        have HOB8 := Lib.hid (HOB.out.below T8.out.bel HOB.out.lt)
        have q1 := (HOB8.out.cell 1).trans (op_1 kind (l : Int) (va : Int) p)
        have ql := HOB8.out.lt
        have r1 : (w8.alloc (.cells lf.cs 44)).cell? ⟨w8.heap.size, 10, none⟩ = some (.int .i64 (l : Int)) := ((T8.out.at_ 0 _ rfl).cell 10).trans (by rw [HLF.out]; rfl)
        have heq := fun W => pte_same W p HWF.out
        go_wp2_with (first | ((with_reducible refine wl_store_new 44 (.tmp 18) (.tmp 94) rfl ?_ w8 (World.heap w8).size 44 lf0.cs lf.cs ?_ ?_ ?_ ?_ ?_ ?_ ?_ ?_); exact rfl; exact rfl; exact rfl; exact rfl; exact rfl; exact rfl; exact lrow lf; exact lcs_one lf) | ((with_reducible refine wl_load 25 (.tmp 99) rfl ?_ w8.heap.size 0 p.cs ?_ HL8.out ?_ ?_); exact rfl; exact rfl; exact prow p) | ((with_reducible refine wl_load 25 (.tmp 101) rfl ?_ ob 3 p.cs ?_ (op_pte HOB8.out) ?_ ?_); exact rfl; exact rfl; exact prow p) | ((with_reducible refine wl_load 25 (.tmp 117) rfl ?_ ob 3 p.cs ?_ (op_pte HOB8.out) ?_ ?_); exact rfl; exact rfl; exact prow p))
        clear r1 q1 ql heq HL8 HOB8
        generalize w8.alloc (.cells lf.cs 44) = w9 at *
        generalize w8.heap.size = lb at *
        refine (tp_map T8.out inn (l : Int) p HINL.out HWF.out).mono ?_
        rintro e w10 ⟨rfl, ht, _⟩
        rw [HTH.out] at ht ⊢
        have T10 := Lib.hid ht
        clear ht T8
        go_wp2_with fail
        refine (tp_pages T10.out).mono ?_
        rintro e w11 ⟨v2, ex2, rfl, ht11, ⟨A2, c2, rfl, _⟩, hln2, _⟩
        rw [hln2, HLN.out]
        have T11 : Hid (TP w0 c x6 .none ex w11) := Lib.hid (ht11.only (fun p hp => by simp [hp]))
        have nn1 : (n : Int) + 1 = (n1 : Int) := by have := HN1.out; omega
        have nn2 : (n1 : Int) ≤ 9223372036854775807 := by have := HN1.out; have := HNL.out; have := HXL.out; have := HL20.out; omega
        clear ht11 hln2 T10
        go_wp2_with fail
        refine (tp_unmap T11.out inn HINL.out).mono ?_
        rintro e w12 ⟨rfl, ht, _⟩
        rw [HUN.out] at ht ⊢
        have T12 : Hid (TP w0 c ⟨x.L, x6.T, x6.k⟩ .none ((w12.heap.size, 25, p.cs) :: ex) (w12.alloc (.cells p.cs 25))) := Lib.hid (ht.push _ _ rfl)
        clear ht T11 nn1 nn2
        have HOB12 := Lib.hid (HOB.out.below T12.out.bel HOB.out.lt)
        have q2 := (HOB12.out.cell 2).trans (op_2 kind (l : Int) (va : Int) p)
        have ql := HOB12.out.lt
        go_wp2_with (first | ((with_reducible refine wl_store_new 25 (.tmp 20) (.tmp 135) rfl ?_ w12 (World.heap w12).size 25 pte0.cs p.cs ?_ ?_ ?_ ?_ ?_ ?_ ?_ ?_); exact rfl; exact rfl; exact rfl; exact rfl; exact rfl; exact rfl; exact prow p; exact pcs_one p))
        clear q2 ql HOB12
        generalize w12.alloc (.cells p.cs 25) = w13 at *
        generalize w12.heap.size = qb at *
        refine (tp_find T12.out va HV.out).mono ?_
        rintro e w14 ⟨hb14, lf2, rfl, _⟩
        rw [HNO.out]
        have T14 : Hid (TP w0 c ⟨x.L, x6.T, x6.k⟩ .none ((w14.heap.size, 44, lf2.cs) :: (qb, 25, p.cs) :: ex) (w14.alloc (.cells lf2.cs 44))) := Lib.hid ((T12.out.step hb14).push _ _ rfl)
        clear hb14 T12
        have HOB14 := Lib.hid (HOB.out.below T14.out.bel HOB.out.lt)
        have heq := fun W => pte_same W p HWF.out
        go_wp2_with (first | ((with_reducible refine wl_store_new 44 (.tmp 22) (.tmp 142) rfl ?_ w14 (World.heap w14).size 44 lf0.cs lf2.cs ?_ ?_ ?_ ?_ ?_ ?_ ?_ ?_); exact rfl; exact rfl; exact rfl; exact rfl; exact rfl; exact rfl; exact lrow lf2; exact lcs_one lf2) | ((with_reducible refine wl_load 25 (.tmp 20) rfl ?_ qb 0 p.cs ?_ (T14.out.at_ 1 _ rfl).range ?_ ?_); exact rfl; exact rfl; exact prow p) | ((with_reducible refine wl_load 25 (.tmp 148) rfl ?_ ob 3 p.cs ?_ (op_pte HOB14.out) ?_ ?_); exact rfl; exact rfl; exact prow p))
        clear heq HOB14
        generalize w14.alloc (.cells lf2.cs 44) = w15 at *
        generalize w14.heap.size = lb2 at *
        refine (tp_pages T14.out).mono ?_
        rintro e w16 ⟨v3, ex3, rfl, ht16, hrow3, _, _⟩
        obtain ⟨A3, c3, rfl, hrd3⟩ := hrow3
        rw [show (sortM (⟨x.L, x6.T, x6.k⟩ : XS).L).length = n from HN.out.symm]
        have HRD3 := Lib.hid hrd3
        have T16 := Lib.hid ht16
        clear hrd3 ht16 T14
        go_wp2_with fail
        refine (rsame_any A3 Aw n c3 cw (sortM x.L) w16 HN.out HNB.out (HRD3.out w16 (fun p hp => T16.out.all p (by simp [hp]))) (HRD.out w16 (fun p hp => T16.out.all p (by simp [hp]))) HSW.out).mono ?_
        rintro e w17 ⟨rfl, hb17⟩
        have HB17 : Hid (Below W.heap.size W w17) := Lib.hid ((HA.out.trans (T16.out.bel.mono HA.out.size)).trans (hb17.mono (Nat.le_trans HA.out.size T16.out.bel.size)))
        clear hb17
        go_wp2_with fail
        go_ret
        exact ⟨rfl, HB17.out⟩
      · have HL : Hid (x6.L = x.L) := Lib.hid (by
          rcases HSP.out.1 with h | h
          · exact absurd h.1 hz
          · exact h.2)
        have b1 : (E != 0) = true := by simpa using hz
        have b0 : (E == 0) = false := by simpa using hz
        clear HSP hz
        go_wp2_with fail
        refine (tp_pages T6.out).mono ?_
        rintro e w7 ⟨v2, ex2, rfl, ht7, hrow2, _, _⟩
        rw [HL.out] at hrow2
        obtain ⟨A2, c2, rfl, hrd2⟩ := hrow2
        rw [← HN.out]
        have HRD2 := Lib.hid hrd2
        have T7 := Lib.hid ht7
        clear hrd2 ht7
        go_wp2_with fail
        refine (rsame_any A2 Aw n c2 cw (sortM x.L) w7 HN.out HNB.out (HRD2.out w7 (fun p hp => T7.out.all p (by simp [hp]))) (HRD.out w7 (fun p hp => T7.out.all p (by simp [hp]))) HSW.out).mono ?_
        rintro e w8 ⟨rfl, hb8⟩
        have HB8 : Hid (Below W.heap.size W w8) := Lib.hid ((HA.out.trans (T7.out.bel.mono HA.out.size)).trans (hb8.mono (Nat.le_trans HA.out.size T7.out.bel.size)))
        clear hb8
        go_wp2_with fail
        go_ret
        exact ⟨rfl, HB8.out⟩
theorem rows_len {ks : List LK} {w : World} {a : Option Addr} {len cap : Nat} (h : IsRows ks w a len cap) : len ≤ 9223372036854775807 := by
  rcases h with ⟨_, h, _⟩ | ⟨x, _, h, h2, _⟩
  · omega
  · exact Nat.le_trans h (Nat.le_trans h2 (by decide))
theorem Law.TableFinds (A : Option Addr) (len cap : Nat) (kind lev va : Int) (v r w x u g a d : Bool) (rsw ppn other : Int) (W : World) (hz : IsRows [.int .i64, .int .i64, .int .u64, .bool, .bool, .bool, .bool, .bool, .bool, .bool, .bool, .int .i64, .int .u64] W A len cap) (_ : 48 * cap ≤ 140737488351232) (_ : (Lit.int .i64 kind).wf = true) (_ : (Lit.int .i64 lev).wf = true) (hva : (Lit.int .u64 va).wf = true)
    (hrs : (Lit.int .i64 rsw).wf = true) (hpp : (Lit.int .u64 ppn).wf = true) (hot : (Lit.int .u64 other).wf = true) :
    Calls Try.prog 3 #[.slice A len cap, .agg #[.int .i64 kind, .int .i64 lev, .int .u64 va, .bool v, .bool r, .bool w, .bool x, .bool u, .bool g, .bool a, .bool d, .int .i64 rsw, .int .u64 ppn], .int .u64 other] W fun e w' => e = .returned (.bool true) ∧ Below W.heap.size W w' := by
  obtain ⟨va, rfl⟩ := Int.eq_ofNat_of_zero_le (u64_of_wf hva).1
  obtain ⟨other, rfl⟩ := Int.eq_ofNat_of_zero_le (u64_of_wf hot).1
  exact finds_walk A len cap kind lev va other ⟨v, r, w, x, u, g, a, d, rsw, ppn⟩ W (fun hp => ops_of hz hp) (rows_len hz) (by have := (u64_of_wf hva).2; omega) (by have := (u64_of_wf hot).2; omega) ⟨hrs, hpp⟩
end Go.Proofs.Ytbgagmpinekhpaa
