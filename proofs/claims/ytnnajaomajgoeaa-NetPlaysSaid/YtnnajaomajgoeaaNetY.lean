/- NetPlays: bags answer every script as the reference does. No condition. -/
import Derived.Test.YtnnajaomajgoeaaNetX
import Derived.Test.YtnnajaomajgoeaaPlanI
import Derived.Deep.CutBlock
namespace Go.Proofs.Ytnnajaomajgoeaa
open Go.RowKit Go.ChangeShapes

set_option maxRecDepth 100000 in
set_option maxHeartbeats 16000000 in
theorem plays_any (A : Option Addr) (len cap : Nat) (W : World) (hO : 0 < len → ∃ b o, A = some ⟨b, o, none⟩ ∧ b < W.heap.size ∧ ∀ i, i < len → OpB W b (o + i * 6)) (hlen : len ≤ 9223372036854775807) :
    Calls Try.prog 3 #[.slice A len cap] W fun e w' => e = .returned (.bool true) ∧ Below W.heap.size W w' := by
  obtain ⟨i0, hi0, hz0, hz1, hz2⟩ := info_parts info5
  have HO := Lib.hid hO
  clear hO
  go_enter Try.func3, Try.ntmps3
  go_wp2_with fail
  refine (first19 _).mono ?_
  rintro e w0 ⟨rfl, hb⟩
  have HB0 := Lib.hid hb
  clear hb
  go_wp2_with fail
  refine (New_any _).mono ?_
  rintro e w1 ⟨rfl, hn1, hn2⟩
  have HT0 := Lib.hid (np_start HB0.out hn1 hn2)
  clear hn1 hn2 HB0
  go_wp2_with fail
  generalize w1.alloc (.cells #[.slice none 0 0, .int .i64 0] 29) = w2 at *
  generalize w1.heap.size = xb at *
  generalize w0.heap.size = gb at *
  go_loopw [27] (fun i wr => ∃ k : Nat, k ≤ len ∧ k ≤ 100 ∧ i = .int .i64 k ∧ ∃ P, NP W gb xb P P [] wr ∧ PcsOk P ∧ P.length ≤ k) (fun i _ => len - (intOf i).toNat)
  case atStart => exact ⟨0, by omega, by omega, rfl, [], HT0.out, fun p hp => by simp at hp, by simp⟩
  clear HT0
  case round =>
    obtain ⟨k, hk, hk100, rfl, P, ht, hok, hPk⟩ := hrel
    have HT := Lib.hid ht
    have HOK := Lib.hid hok
    have HPK := Lib.hid hPk
    clear ht hok hPk
    by_cases hkl : k < len
    · obtain ⟨b, o, rfl, hbl, hc⟩ := HO.out (by omega)
      obtain ⟨kind, oi, on, os, od, B, l, c, r0, r1, r2, r3, r4, r5, hB, hon⟩ := hc k hkl
      have bel := HT.out.bel
      have r0 := (bel.cell (p := ⟨b, o + k * 6, none⟩) hbl).trans r0
      have r1 := (bel.cell (p := ⟨b, o + k * 6 + 1, none⟩) hbl).trans r1
      have r2 := (bel.cell (p := ⟨b, o + k * 6 + 2, none⟩) hbl).trans r2
      have r3 := (bel.cell (p := ⟨b, o + k * 6 + 3, none⟩) hbl).trans r3
      have r4 := (bel.cell (p := ⟨b, o + k * 6 + 4, none⟩) hbl).trans r4
      have r5 := (bel.cell (p := ⟨b, o + k * 6 + 5, none⟩) hbl).trans r5
      obtain ⟨m, hm⟩ : ∃ m, m = l.length := ⟨_, rfl⟩
      rw [← hm] at r5
      have HM := Lib.hid hm
      have HBT := Lib.hid hB
      have HON := Lib.hid hon
      have hblr : b < wr.heap.size := Nat.lt_of_lt_of_le hbl bel.size
      have S4 := Lib.hid (HT.out.push #[.int .i64 kind, .int .i64 oi, .int .i64 on, .int .i64 os, .int .i64 od, .slice B m c] 32 rfl)
      have BEL := Lib.hid bel
      clear hB hon hc hbl bel hm
      by_cases h100 : 100 ≤ k
      · have i100 : (100 : Int) ≤ (k : Int) := by omega
        have HE := Lib.hid S4.out.bel
        clear HT S4
        go_wp2_with fail
        go_ret
        exact ⟨rfl, HE.out⟩
      · have i100 : ¬ (100 : Int) ≤ (k : Int) := by omega
        by_cases h300 : 300 < m
        · have i300 : (300 : Int) < (m : Int) := by omega
          have HE := Lib.hid S4.out.bel
          clear HT S4
          go_wp2_with fail
          go_ret
          exact ⟨rfl, HE.out⟩
        · have i300 : ¬ (300 : Int) < (m : Int) := by omega
          obtain ⟨u, hu⟩ : ∃ u : Nat, IntKind.u64.wrap kind = (u : Int) := ⟨(IntKind.u64.wrap kind).toNat, by have := IntKind.wrap_u64 kind; omega⟩
          clear HT
          obtain ⟨ob, hob⟩ : ∃ ob, ob = wr.heap.size := ⟨_, rfl⟩
          go_upto_block 2 with fail
          rw [← hob] at S4 ⊢
          clear hob r0 r1 r2 r3 r4 r5
          generalize wr.alloc (.cells #[.int .i64 kind, .int .i64 oi, .int .i64 on, .int .i64 os, .int .i64 od, .slice B m c] 32) = w4 at *
          go_cut [27] from 27 to 233 (fun i w => i = .int .i64 (k : Int) ∧ ∃ P2, NP W gb xb P2 P2 [] w ∧ PcsOk P2 ∧ P2.length ≤ k + 1)
          case first =>
            rcases (show u % 6 = 0 ∨ u % 6 = 1 ∨ u % 6 = 2 ∨ u % 6 = 3 ∨ u % 6 = 4 ∨ u % 6 = 5 by omega) with hm6 | hm6 | hm6 | hm6 | hm6 | hm6
            · as_aux_lemma =>
                have j0 : ((u : Int) % 6 == 0) = true := by rw [show (u : Int) % 6 = 0 by omega]; rfl
                clear hm6
                have q5 := (S4.out.at_ 0 _ rfl).cell 5
                simp only [List.getElem?_toArray, List.getElem?_cons_zero, List.getElem?_cons_succ] at q5
                have hobl := (S4.out.at_ 0 _ rfl).lt
                have hrd := reads_bts (bts_below HBT.out S4.out.bel)
                have HRD : Hid (Reads w4 w4.heap.size 1 B m (l.map bv)) := Lib.hid (by rw [HM.out]; exact hrd)
                clear hrd
                go_wp2_with (at_builtin; refine wpList_append_any _ rfl (.tmp 59) (.tmp 61) _ rfl w4.heap.size 5 i0 _ 1 1 Try.underlying30 hi0 hz0 hz1 hz2 rfl (by decide) _ 0 [] rfl (empty_own w4) w4.heap.size B m c (l.map bv) rfl (HRD.out.alloc (Nat.le_refl _) _) (one_bv l) (by unfold maxLen; omega) (by omega) (by simp) ?_; intro v2 w5 hown hgrow hat; rw [Nat.zero_add, List.nil_append] at hown; obtain ⟨Ab, cb, ex, e2, hnp, hex⟩ := np_own S4.out (copy_below hgrow) hown HBT.out.1 HM.out; subst e2; have S5 := Lib.hid hnp; have HEX := Lib.hid hex; clear hown hgrow hat hnp hex q5)
                clear HRD S4
                have hob2 := (S5.out.drew.at_ 0 _ rfl)
                have s3 := fun (W' : World) (h : W'.heap[ob]? = w5.drew.heap[ob]? ∧ Below W.heap.size w5.drew W') => (World.cell?_of_block (a := ⟨ob, 3, none⟩) h.1).trans (hob2.cell 3)
                have s4 := fun (W' : World) (h : W'.heap[ob]? = w5.drew.heap[ob]? ∧ Below W.heap.size w5.drew W') => (World.cell?_of_block (a := ⟨ob, 4, none⟩) h.1).trans (hob2.cell 4)
                have s5 := fun (W' : World) (h : W'.heap[ob]? = w5.drew.heap[ob]? ∧ Below W.heap.size w5.drew W') => (World.cell?_of_block (a := ⟨ob, 5, none⟩) h.1).trans (hob2.cell 5)
                simp only [List.getElem?_toArray, List.getElem?_cons_zero, List.getElem?_cons_succ] at s3 s4 s5
                obtain ⟨T, hT⟩ : ∃ T, T = strB l := ⟨_, rfl⟩
                have HT := Lib.hid hT
                have hcv := fun (W' : World) (h : W'.heap[ob]? = w5.drew.heap[ob]? ∧ Below W.heap.size w5.drew W') => conv_bts (c := c) (bts_below HBT.out (S5.out.drew.bel.trans h.2)) HM.out.symm
                rw [← hT] at hcv
                clear hob2 hT
                refine wp_region_plan_by (fun u u' => u'.heap[ob]? = u.heap[ob]? ∧ Below W.heap.size u u') ⟨fun _ => ⟨rfl, Below.refl _ _⟩, fun h k => ⟨k.1.trans h.1, h.2.trans k.2⟩⟩ [(0, false), (1, false), (2, false), (3, false), (4, false), (5, false), (7, false), (8, false), (9, false), (10, false), (11, false), (12, false), (13, false), (14, false), (6, true), (15, true), (16, false)] (by kernel_rfl) (by kernel_rfl) (fun _ d _ _ _ h => by cases d <;> exact h) ?_
                iterate 14 (refine plan_take (v := ?_) rfl (by kernel_rfl) ?_ ?_; rotate_left; (focus (intro w' hw'; try go_simp; try with_reducible rfl)); simp only [Act.put, List.setIfInBounds_toArray, List.set_cons_zero, List.set_cons_succ])
                clear s3 s4 s5 hcv
                refine plan_call rfl (by kernel_rfl) (by go_simp; exact ⟨rfl, rfl⟩) ?_
                refine (np_send S5.out.drew os od Ab l m cb (HEX.out.bts (fun p hp => S5.out.drew.all p (by simp [hp]))) HM.out.symm (by omega) (by have := HPK.out; omega)).mono ?_
                rintro e w6 ⟨rfl, ht6, hb6⟩
                refine ⟨_, rfl, ⟨S5.out.drew.same ht6 0 _ rfl, hb6⟩, ?_⟩
                simp only [Act.put, List.setIfInBounds_toArray, List.set_cons_zero, List.set_cons_succ]
                have S6 := Lib.hid ht6
                clear ht6 hb6 S5
                refine plan_call rfl (by kernel_rfl) (by go_simp; exact ⟨rfl, rfl⟩) ?_
                rw [HT.out]
                refine (np_rsend S6.out os od l (by have := HPK.out; omega)).mono ?_
                rintro e w7 ⟨rfl, ht7, hb7⟩
                refine ⟨_, rfl, ⟨S6.out.same ht7 0 _ rfl, hb7⟩, ?_⟩
                simp only [Act.put, List.setIfInBounds_toArray, List.set_cons_zero, List.set_cons_succ]
                have S7 := Lib.hid ht7
                have HLM := HM
                clear ht7 hb7 S6 HT
                iterate 1 (refine plan_take (v := ?_) rfl (by kernel_rfl) ?_ ?_; rotate_left; (focus (intro w' hw'; try go_simp; try with_reducible rfl)); simp only [Act.put, List.setIfInBounds_toArray, List.set_cons_zero, List.set_cons_succ])
                refine plan_end ?_
                go_wp2_with fail
                go_loopw [82] (fun i wl => ∃ t : Nat, t ≤ m ∧ i = .int .i64 t ∧ Inc w7 wl Ab m) (fun i _ => m - (intOf i).toNat)
                case atStart => exact ⟨0, by omega, rfl, HEX.out.inc (fun p hp => S7.out.all p (by simp [hp])) HLM.out⟩
                case round =>
                  obtain ⟨t, ht, rfl, hI⟩ := hrel
                  have HI := Lib.hid hI
                  by_cases htp : t < m
                  · obtain ⟨gi, og, z, eA, hcz, hfz, hgz, hset⟩ := hI.at_ htp
                    subst eA
                    have HSET := Lib.hid hset
                    have htI : (t : Int) < (m : Int) := by omega
                    have htI0 : (0 : Int) ≤ (t : Int) := by omega
                    clear hI hset
                    go_wp2_with fail
                    go_roundw
                    case rel => exact ⟨t + 1, by omega, by go_num, HSET.out _⟩
                    case measure => simp [intOf]; omega
                  · obtain rfl : t = m := by omega
                    clear hI
                    have HFIN : Hid (∃ P2, NP W gb xb P2 P2 [] wr ∧ PcsOk P2 ∧ P2.length ≤ k + 1) := Lib.hid ⟨_, S7.out.inc HI.out (fun g o h0 e => by
                      obtain ⟨p, hp, e2⟩ := HEX.out.mem HLM.out g o h0 e
                      exact ⟨p, by simp [hp], e2⟩), HOK.out.send os od l HBT.out.1 (by have := HM.out; omega), by have := sendP_len P os od l; have := HPK.out; omega⟩
                    clear HI
                    go_wp2_with fail
                    go_meet
                    case rel => exact ⟨rfl, HFIN.out⟩
            · as_aux_lemma =>
                have j0 : ((u : Int) % 6 == 0) = false := by rw [show (u : Int) % 6 = 1 by omega]; rfl
                have j1 : ((u : Int) % 6 == 1) = true := by rw [show (u : Int) % 6 = 1 by omega]; rfl
                clear hm6
                have q1 := (S4.out.at_ 0 _ rfl).cell 1
                simp only [List.getElem?_toArray, List.getElem?_cons_zero, List.getElem?_cons_succ] at q1
                go_wp2_with fail
                clear q1
                refine (np_deliver S4.out oi).mono ?_
                rintro e w5 ⟨Ab, cb, rfl, htk, _⟩
                obtain ⟨gp, hgp⟩ : ∃ gp, gp = gotP P oi := ⟨_, rfl⟩
                have hgok := got_ok HOK.out oi
                rw [← hgp] at htk hgok ⊢
                have HGP := Lib.hid hgp
                obtain ⟨hb, hhb⟩ : ∃ hb, hb = hereB oi P.length := ⟨_, rfl⟩
                rw [← hhb]
                have HHB := Lib.hid hhb
                obtain ⟨ex, hnp, hex⟩ := htk.exb
                have HEX := Lib.hid hex
                obtain ⟨gm, hgm⟩ : ∃ gm, gm = gp.byt.length := ⟨_, rfl⟩
                have hgm3 : gm ≤ 300 := by rw [hgm]; exact hgok.2
                have HLM := Lib.hid hgm
                rw [← hgm]
                have S5 : Hid (NP W gb xb (takeP P oi) P ((w5.heap.size, 37, #[.int .i64 gp.src, .int .i64 gp.dst, .slice Ab gm cb, .bool gp.hurt]) :: (ob, 32, #[.int .i64 kind, .int .i64 oi, .int .i64 on, .int .i64 os, .int .i64 od, .slice B m c]) :: ex) (w5.alloc (.cells #[.int .i64 gp.src, .int .i64 gp.dst, .slice Ab gm cb, .bool gp.hurt] 37))) := Lib.hid (hnp.push _ _ rfl)
                clear htk hgok hgp hhb hnp hex hgm S4
                have q1 := (S5.out.at_ 1 _ rfl).cell 1
                simp only [List.getElem?_toArray, List.getElem?_cons_zero, List.getElem?_cons_succ] at q1
                go_wp2_with fail
                clear q1
                obtain ⟨pb, hpb⟩ : ∃ pb, pb = w5.heap.size := ⟨_, rfl⟩
                rw [← hpb] at S5 ⊢
                clear hpb
                generalize w5.alloc (.cells #[.int .i64 gp.src, .int .i64 gp.dst, .slice Ab gm cb, .bool gp.hurt] 37) = w6 at *
                refine (np_rtake S5.out oi (by have := HPK.out; omega)).mono ?_
                rintro e w7 ⟨rfl, ht7, _⟩
                rw [← HGP.out, ← HHB.out]
                obtain ⟨T, hT⟩ : ∃ T, T = strB gp.byt := ⟨_, rfl⟩
                have HT := Lib.hid hT
                rw [← hT]
                have S7 := Lib.hid (ht7.push #[.int .i64 gp.src, .int .i64 gp.dst, .string T, .bool gp.hurt] 41 rfl)
                clear ht7 S5 hT
                have a0 := (S7.out.at_ 0 _ rfl).cell 0
                have a1 := (S7.out.at_ 0 _ rfl).cell 1
                have a2 := (S7.out.at_ 0 _ rfl).cell 2
                have a3 := (S7.out.at_ 0 _ rfl).cell 3
                have b0 := (S7.out.at_ 1 _ rfl).cell 0
                have b1 := (S7.out.at_ 1 _ rfl).cell 1
                have b2 := (S7.out.at_ 1 _ rfl).cell 2
                have b3 := (S7.out.at_ 1 _ rfl).cell 3
                simp only [List.getElem?_toArray, List.getElem?_cons_zero, List.getElem?_cons_succ] at a0 a1 a2 a3 b0 b1 b2 b3
                go_wp2_with fail
                clear a0 a1 a2 a3 b0 b1 b2 b3
                rw [HT.out]
                refine (same_any gp.src gp.dst gp.hurt gp.byt Ab gm cb _ (HEX.out.bts (fun p hp => (HT.out ▸ S7.out).all p (by simp [hp]))) HLM.out.symm).mono ?_
                rintro e w8 ⟨rfl, hb8⟩
                have S8 := Lib.hid ((HT.out ▸ S7.out).step hb8)
                have HLB := Lib.hid (S8.out.at_ 1 _ rfl)
                have v2 := (S8.out.at_ 1 _ rfl).cell 2
                simp only [List.getElem?_toArray, List.getElem?_cons_zero, List.getElem?_cons_succ] at v2
                clear hb8 S7 HT
                go_wp2_with fail
                clear v2
                go_loopw [120] (fun i wl => ∃ t : Nat, t ≤ gm ∧ i = .int .i64 t ∧ Inc w8 wl Ab gm) (fun i _ => gm - (intOf i).toNat)
                case atStart => exact ⟨0, by omega, rfl, HEX.out.inc (fun p hp => S8.out.all p (by simp [hp])) HLM.out⟩
                case round =>
                  obtain ⟨t, ht, rfl, hI⟩ := hrel
                  have HI := Lib.hid hI
                  have v2 := (hI.blk HLB.out (by decide)).cell 2
                  simp only [List.getElem?_toArray, List.getElem?_cons_zero, List.getElem?_cons_succ] at v2
                  by_cases htp : t < gm
                  · obtain ⟨gi, og, z, eA, hcz, hfz, hgz, hset⟩ := hI.at_ htp
                    subst eA
                    have HSET := Lib.hid hset
                    have htI : (t : Int) < (gm : Int) := by omega
                    have htI0 : (0 : Int) ≤ (t : Int) := by omega
                    clear hI hset
                    go_wp2_with fail
                    go_roundw
                    case rel => exact ⟨t + 1, by omega, by go_num, HSET.out _⟩
                    case measure => simp [intOf]; omega
                  · obtain rfl : t = gm := by omega
                    clear hI
                    have HFIN : Hid (∃ P2, NP W gb xb P2 P2 [] wr ∧ PcsOk P2 ∧ P2.length ≤ k + 1) := Lib.hid ⟨_, S8.out.inc HI.out (fun g o h0 e => by
                      obtain ⟨p, hp, e2⟩ := HEX.out.mem HLM.out g o h0 e
                      exact ⟨p, by simp [hp], e2⟩), HOK.out.take oi, by have := takeP_len P oi; have := HPK.out; omega⟩
                    clear HI
                    go_wp2_with fail
                    go_meet
                    case rel => exact ⟨rfl, HFIN.out⟩
            · as_aux_lemma =>
                have j0 : ((u : Int) % 6 == 0) = false := by rw [show (u : Int) % 6 = 2 by omega]; rfl
                have j1 : ((u : Int) % 6 == 1) = false := by rw [show (u : Int) % 6 = 2 by omega]; rfl
                have j2 : ((u : Int) % 6 == 2) = true := by rw [show (u : Int) % 6 = 2 by omega]; rfl
                clear hm6
                have q1 := (S4.out.at_ 0 _ rfl).cell 1
                simp only [List.getElem?_toArray, List.getElem?_cons_zero, List.getElem?_cons_succ] at q1
                go_wp2_with fail
                clear q1
                refine (np_rtake S4.out oi (by have := HPK.out; omega)).mono ?_
                rintro e w5 ⟨rfl, ht5, _⟩
                obtain ⟨T, hT⟩ : ∃ T, T = strB (gotP P oi).byt := ⟨_, rfl⟩
                rw [← hT]
                clear hT
                generalize (gotP P oi).src = gsrc at *
                generalize (gotP P oi).dst = gdst at *
                generalize (gotP P oi).hurt = ghurt at *
                obtain ⟨hb, hhb⟩ : ∃ hb, hb = hereB oi P.length := ⟨_, rfl⟩
                rw [← hhb]
                have HHB := Lib.hid hhb
                clear hhb
                have S5 := Lib.hid (ht5.push #[.int .i64 gsrc, .int .i64 gdst, .string T, .bool ghurt] 41 rfl)
                clear ht5 S4
                have q1 := (S5.out.at_ 1 _ rfl).cell 1
                simp only [List.getElem?_toArray, List.getElem?_cons_zero, List.getElem?_cons_succ] at q1
                go_wp2_with fail
                refine (np_drop S5.out oi).mono ?_
                rintro e w6 ⟨rfl, ht6, _⟩
                have S6 := Lib.hid (ht6.only (loc' := []) (fun p hp => by simp at hp))
                clear ht6 S5 q1
                rw [← HHB.out]
                have HFIN : Hid (∃ P2, NP W gb xb P2 P2 [] w6 ∧ PcsOk P2 ∧ P2.length ≤ k + 1) := Lib.hid ⟨_, S6.out, HOK.out.take oi, by have := takeP_len P oi; have := HPK.out; omega⟩
                clear HPK HOK S6
                go_wp2_with fail
                go_meet
                case rel => exact ⟨rfl, HFIN.out⟩
            · as_aux_lemma =>
                have j0 : ((u : Int) % 6 == 0) = false := by rw [show (u : Int) % 6 = 3 by omega]; rfl
                have j1 : ((u : Int) % 6 == 1) = false := by rw [show (u : Int) % 6 = 3 by omega]; rfl
                have j2 : ((u : Int) % 6 == 2) = false := by rw [show (u : Int) % 6 = 3 by omega]; rfl
                have j3 : ((u : Int) % 6 == 3) = true := by rw [show (u : Int) % 6 = 3 by omega]; rfl
                clear hm6
                go_wp2_with fail
                have hob2 := (S4.out.drew.at_ 0 _ rfl)
                have s1 := fun (W' : World) (h : W'.heap[ob]? = w4.drew.heap[ob]?) => (World.cell?_of_block (a := ⟨ob, 1, none⟩) h).trans (hob2.cell 1)
                simp only [List.getElem?_toArray, List.getElem?_cons_zero, List.getElem?_cons_succ] at s1
                clear hob2
                refine wp_region_plan_by (fun u u' => u'.heap[ob]? = u.heap[ob]?) ⟨fun _ => rfl, fun h k => k.trans h⟩ [(0, false), (1, false), (2, false), (4, false), (5, false), (6, false), (3, true), (7, true), (8, false)] (by kernel_rfl) (by kernel_rfl) (fun _ d _ _ _ h => by cases d <;> exact h) ?_
                iterate 6 (refine plan_take (v := ?_) rfl (by kernel_rfl) ?_ ?_; rotate_left; (focus (intro w' hw'; try go_simp; try with_reducible rfl)); simp only [Act.put, List.setIfInBounds_toArray, List.set_cons_zero, List.set_cons_succ])
                clear s1
                refine plan_call rfl (by kernel_rfl) (by go_simp; exact ⟨rfl, rfl⟩) ?_
                refine (np_double S4.out.drew oi).mono ?_
                rintro e w5 ⟨rfl, ht5, _⟩
                refine ⟨_, rfl, S4.out.drew.same ht5 0 _ rfl, ?_⟩
                simp only [Act.put, List.setIfInBounds_toArray, List.set_cons_zero, List.set_cons_succ]
                have S5 := Lib.hid ht5
                clear ht5
                refine plan_call rfl (by kernel_rfl) (by go_simp; exact ⟨rfl, rfl⟩) ?_
                refine (np_rdouble S5.out oi (by have := HPK.out; omega)).mono ?_
                rintro e w6 ⟨rfl, ht6, _⟩
                refine ⟨_, rfl, S5.out.same ht6 0 _ rfl, ?_⟩
                simp only [Act.put, List.setIfInBounds_toArray, List.set_cons_zero, List.set_cons_succ]
                have S6 := Lib.hid (ht6.only (loc' := []) (fun p hp => by simp at hp))
                clear ht6 S4 S5
                generalize mayD P oi = mb at *
                iterate 1 (refine plan_take (v := ?_) rfl (by kernel_rfl) ?_ ?_; rotate_left; (focus (intro w' hw'; try go_simp; try with_reducible rfl)); simp only [Act.put, List.setIfInBounds_toArray, List.set_cons_zero, List.set_cons_succ])
                refine plan_end ?_
                have HFIN : Hid (∃ P2, NP W gb xb P2 P2 [] w6 ∧ PcsOk P2 ∧ P2.length ≤ k + 1) := Lib.hid ⟨_, S6.out, HOK.out.double oi, by have := doubleP_len P oi; have := HPK.out; omega⟩
                clear HPK HOK S6
                go_wp2_with fail
                go_meet
                case rel => exact ⟨rfl, HFIN.out⟩
            · as_aux_lemma =>
                have j0 : ((u : Int) % 6 == 0) = false := by rw [show (u : Int) % 6 = 4 by omega]; rfl
                have j1 : ((u : Int) % 6 == 1) = false := by rw [show (u : Int) % 6 = 4 by omega]; rfl
                have j2 : ((u : Int) % 6 == 2) = false := by rw [show (u : Int) % 6 = 4 by omega]; rfl
                have j3 : ((u : Int) % 6 == 3) = false := by rw [show (u : Int) % 6 = 4 by omega]; rfl
                have j4 : ((u : Int) % 6 == 4) = true := by rw [show (u : Int) % 6 = 4 by omega]; rfl
                clear hm6
                go_wp2_with fail
                have hob2 := (S4.out.drew.at_ 0 _ rfl)
                have s1 := fun (W' : World) (h : W'.heap[ob]? = w4.drew.heap[ob]?) => (World.cell?_of_block (a := ⟨ob, 1, none⟩) h).trans (hob2.cell 1)
                have s2 := fun (W' : World) (h : W'.heap[ob]? = w4.drew.heap[ob]?) => (World.cell?_of_block (a := ⟨ob, 2, none⟩) h).trans (hob2.cell 2)
                simp only [List.getElem?_toArray, List.getElem?_cons_zero, List.getElem?_cons_succ] at s1 s2
                clear hob2
                refine wp_region_plan_by (fun u u' => u'.heap[ob]? = u.heap[ob]?) ⟨fun _ => rfl, fun h k => k.trans h⟩ [(0, false), (1, false), (2, false), (3, false), (4, false), (6, false), (7, false), (8, false), (9, false), (10, false), (5, true), (11, true), (12, false)] (by kernel_rfl) (by kernel_rfl) (fun _ d _ _ _ h => by cases d <;> exact h) ?_
                iterate 10 (refine plan_take (v := ?_) rfl (by kernel_rfl) ?_ ?_; rotate_left; (focus (intro w' hw'; try go_simp; try with_reducible rfl)); simp only [Act.put, List.setIfInBounds_toArray, List.set_cons_zero, List.set_cons_succ])
                clear s1 s2
                refine plan_call rfl (by kernel_rfl) (by go_simp; exact ⟨rfl, rfl⟩) ?_
                refine (np_turn S4.out.drew oi on HON.out).mono ?_
                rintro e w5 ⟨rfl, ht5, _⟩
                refine ⟨_, rfl, S4.out.drew.same ht5 0 _ rfl, ?_⟩
                simp only [Act.put, List.setIfInBounds_toArray, List.set_cons_zero, List.set_cons_succ]
                have S5 := Lib.hid ht5
                clear ht5
                refine plan_call rfl (by kernel_rfl) (by go_simp; exact ⟨rfl, rfl⟩) ?_
                refine (np_rturn S5.out oi on (by have := HPK.out; omega) HOK.out HON.out).mono ?_
                rintro e w6 ⟨rfl, ht6, _⟩
                refine ⟨_, rfl, S5.out.same ht6 0 _ rfl, ?_⟩
                simp only [Act.put, List.setIfInBounds_toArray, List.set_cons_zero, List.set_cons_succ]
                have S6 := Lib.hid (ht6.only (loc' := []) (fun p hp => by simp at hp))
                clear ht6 S4 S5
                generalize mayT P oi on = mb at *
                iterate 1 (refine plan_take (v := ?_) rfl (by kernel_rfl) ?_ ?_; rotate_left; (focus (intro w' hw'; try go_simp; try with_reducible rfl)); simp only [Act.put, List.setIfInBounds_toArray, List.set_cons_zero, List.set_cons_succ])
                refine plan_end ?_
                have HFIN : Hid (∃ P2, NP W gb xb P2 P2 [] w6 ∧ PcsOk P2 ∧ P2.length ≤ k + 1) := Lib.hid ⟨_, S6.out, HOK.out.turn oi on, by have := turnP_len P oi on; have := HPK.out; omega⟩
                clear HPK HOK S6
                go_wp2_with fail
                go_meet
                case rel => exact ⟨rfl, HFIN.out⟩
            · as_aux_lemma =>
                have j0 : ((u : Int) % 6 == 0) = false := by rw [show (u : Int) % 6 = 5 by omega]; rfl
                have j1 : ((u : Int) % 6 == 1) = false := by rw [show (u : Int) % 6 = 5 by omega]; rfl
                have j2 : ((u : Int) % 6 == 2) = false := by rw [show (u : Int) % 6 = 5 by omega]; rfl
                have j3 : ((u : Int) % 6 == 3) = false := by rw [show (u : Int) % 6 = 5 by omega]; rfl
                have j4 : ((u : Int) % 6 == 4) = false := by rw [show (u : Int) % 6 = 5 by omega]; rfl
                clear hm6
                go_wp2_with fail
                have hob2 := (S4.out.drew.at_ 0 _ rfl)
                have s1 := fun (W' : World) (h : W'.heap[ob]? = w4.drew.heap[ob]?) => (World.cell?_of_block (a := ⟨ob, 1, none⟩) h).trans (hob2.cell 1)
                have s2 := fun (W' : World) (h : W'.heap[ob]? = w4.drew.heap[ob]?) => (World.cell?_of_block (a := ⟨ob, 2, none⟩) h).trans (hob2.cell 2)
                simp only [List.getElem?_toArray, List.getElem?_cons_zero, List.getElem?_cons_succ] at s1 s2
                clear hob2
                refine wp_region_plan_by (fun u u' => u'.heap[ob]? = u.heap[ob]?) ⟨fun _ => rfl, fun h k => k.trans h⟩ [(0, false), (1, false), (2, false), (3, false), (4, false), (6, false), (7, false), (8, false), (9, false), (10, false), (5, true), (11, true), (12, false)] (by kernel_rfl) (by kernel_rfl) (fun _ d _ _ _ h => by cases d <;> exact h) ?_
                iterate 10 (refine plan_take (v := ?_) rfl (by kernel_rfl) ?_ ?_; rotate_left; (focus (intro w' hw'; try go_simp; try with_reducible rfl)); simp only [Act.put, List.setIfInBounds_toArray, List.set_cons_zero, List.set_cons_succ])
                clear s1 s2
                refine plan_call rfl (by kernel_rfl) (by go_simp; exact ⟨rfl, rfl⟩) ?_
                refine (np_cut S4.out.drew oi on HON.out).mono ?_
                rintro e w5 ⟨rfl, ht5, _⟩
                refine ⟨_, rfl, S4.out.drew.same ht5 0 _ rfl, ?_⟩
                simp only [Act.put, List.setIfInBounds_toArray, List.set_cons_zero, List.set_cons_succ]
                have S5 := Lib.hid ht5
                clear ht5
                refine plan_call rfl (by kernel_rfl) (by go_simp; exact ⟨rfl, rfl⟩) ?_
                refine (np_rcut S5.out oi on (by have := HPK.out; omega) HON.out).mono ?_
                rintro e w6 ⟨rfl, ht6, _⟩
                refine ⟨_, rfl, S5.out.same ht6 0 _ rfl, ?_⟩
                simp only [Act.put, List.setIfInBounds_toArray, List.set_cons_zero, List.set_cons_succ]
                have S6 := Lib.hid (ht6.only (loc' := []) (fun p hp => by simp at hp))
                clear ht6 S4 S5
                generalize mayC P oi on = mb at *
                iterate 1 (refine plan_take (v := ?_) rfl (by kernel_rfl) ?_ ?_; rotate_left; (focus (intro w' hw'; try go_simp; try with_reducible rfl)); simp only [Act.put, List.setIfInBounds_toArray, List.set_cons_zero, List.set_cons_succ])
                refine plan_end ?_
                have HFIN : Hid (∃ P2, NP W gb xb P2 P2 [] w6 ∧ PcsOk P2 ∧ P2.length ≤ k + 1) := Lib.hid ⟨_, S6.out, HOK.out.cut oi on, by have := cutP_len P oi on; have := HPK.out; omega⟩
                clear HPK HOK S6
                go_wp2_with fail
                go_meet
                case rel => exact ⟨rfl, HFIN.out⟩
          case rest =>
            as_aux_lemma =>
              obtain ⟨rfl, P2, ht6, hp2⟩ := hcut
              have S6 := Lib.hid ht6
              have HP2 := Lib.hid hp2
              clear ht6 hp2
              go_wp2_with fail
              refine (np_list S6.out (by have := HP2.out.2; omega)).mono ?_
              rintro e w8 ⟨v, M, rfl, hM, hL, hb8⟩
              obtain ⟨Av, cv, rfl⟩ := prow_form hL.1
              obtain ⟨n, hn⟩ : ∃ n, n = P2.length := ⟨_, rfl⟩
              have hMl : M.length = n := by rw [hn, ← hM, List.length_map]
              have hn96 : n ≤ 101 := by have := HP2.out.2; omega
              have HN := Lib.hid hn
              have HML := Lib.hid hMl
              have HM2 := Lib.hid hM
              have HL := Lib.hid (Lp.start hL hb8)
              have S8 := Lib.hid (S6.out.step hb8)
              obtain ⟨A2, c2, hx⟩ := S8.out.drew.ref
              have s0 := fun (W' : World) (h : Ext w8.drew W') => (h.cell (p := ⟨xb, 0, none⟩) hx.lt).trans (hx.cell 0)
              have s1 := fun (W' : World) (h : Ext w8.drew W') => (h.cell (p := ⟨xb, 1, none⟩) hx.lt).trans (hx.cell 1)
              simp only [List.getElem?_toArray, List.getElem?_cons_zero, List.getElem?_cons_succ] at s0 s1
              rw [← hn] at s0
              rw [hMl]
              clear hL hb8 hx hn hMl hM
              go_wp2_with fail
              refine wp_region_plan [(0, false), (1, false), (2, false), (3, false), (4, false), (5, false), (6, false), (7, false), (8, false), (9, false), (11, false), (12, false), (13, false), (14, false), (15, false), (10, false), (16, false), (17, false), (18, false), (19, false), (21, false), (22, false), (23, false), (24, false), (20, false), (25, false), (26, false)] (by kernel_rfl) (by kernel_rfl) (fun _ d _ _ _ h => by cases d <;> exact h) ?_
              iterate 15 (refine plan_take (v := ?_) rfl (by kernel_rfl) ?_ ?_; rotate_left; (focus (intro w' hw'; try go_simp; try with_reducible rfl)); simp only [Act.put, List.setIfInBounds_toArray, List.set_cons_zero, List.set_cons_succ])
              refine plan_quiet rfl (by kernel_rfl) (fun w' => by go_simp; all_goals (first | exact ⟨rfl, rfl⟩ | rfl)) (fun w' hw' => (np_lenN (S8.out.drew.step hw') HN.out)) ?_
              simp only [Act.put, List.setIfInBounds_toArray, List.set_cons_zero, List.set_cons_succ]
              iterate 8 (refine plan_take (v := ?_) rfl (by kernel_rfl) ?_ ?_; rotate_left; (focus (intro w' hw'; try go_simp; try with_reducible rfl)); simp only [Act.put, List.setIfInBounds_toArray, List.set_cons_zero, List.set_cons_succ])
              refine plan_quiet rfl (by kernel_rfl) (fun w' => by go_simp; all_goals (first | exact ⟨rfl, rfl⟩ | rfl)) (fun w' hw' => (np_lost (S8.out.drew.step hw'))) ?_
              simp only [Act.put, List.setIfInBounds_toArray, List.set_cons_zero, List.set_cons_succ]
              iterate 2 (refine plan_take (v := ?_) rfl (by kernel_rfl) ?_ ?_; rotate_left; (focus (intro w' hw'; try go_simp; try with_reducible rfl)); simp only [Act.put, List.setIfInBounds_toArray, List.set_cons_zero, List.set_cons_succ])
              refine plan_end ?_
              clear s0 s1
              go_wp2_with fail
              go_loopw [203] (fun i wl => ∃ j : Nat, j ≤ n ∧ i = .int .i64 j ∧ Lp wc wl (.slice Av M.length cv) M j) (fun i _ => n - (intOf i).toNat)
              case atStart => exact ⟨0, by omega, rfl, HL.out.below (Below.refl _ _).drew⟩
              case round =>
                obtain ⟨j, hj, rfl, hlp⟩ := hrel
                have HLP := Lib.hid hlp
                clear hlp HL
                by_cases hjn : j < n
                · obtain ⟨p, up, hx⟩ : ∃ p up, M[j]? = some (p, up) := ⟨_, _, List.getElem?_eq_getElem (by rw [HML.out]; exact hjn)⟩
                  have hpx : P2[j]? = some p := by rw [← HM2.out, List.getElem?_map, hx]; rfl
                  obtain ⟨g, cap2, Ap, cp, ev, eu, hBp, hgl, l0, l1, l2, l3⟩ := HLP.out.at_ hx
                  injection ev with e1 e2 e3
                  subst e1
                  subst e3
                  subst eu
                  clear e2
                  obtain ⟨pm, hpm⟩ : ∃ pm, pm = p.byt.length := ⟨_, rfl⟩
                  have hpm3 : pm ≤ 300 := by rw [hpm]; exact (HP2.out.1 p (List.mem_of_getElem? hpx)).2
                  have HPM := Lib.hid hpm
                  rw [← hpm] at l2 hx
                  have HX := Lib.hid hx
                  have HPX := Lib.hid hpx
                  have HBP := Lib.hid hBp
                  have hjI : (j : Int) < (n : Int) := by omega
                  have hjI0 : (0 : Int) ≤ (j : Int) := by omega
                  clear hpm hx hpx hBp
                  go_wp2_with fail
                  clear l0 l1 l2 l3
                  have LA := Lib.hid (HLP.out.below ((Below.refl _ wr).alloc (Nat.le_refl _) (.cells #[.int .i64 p.src, .int .i64 p.dst, .slice Ap pm cp, .bool p.hurt] 37)))
                  have BA := Lib.hid (bts_below HBP.out ((Below.refl _ wr).alloc (Nat.le_refl _) (.cells #[.int .i64 p.src, .int .i64 p.dst, .slice Ap pm cp, .bool p.hurt] 37)))
                  have hlb : Blk (wr.alloc (.cells #[.int .i64 p.src, .int .i64 p.dst, .slice Ap pm cp, .bool p.hurt] 37)) wr.heap.size 37 #[.int .i64 p.src, .int .i64 p.dst, .slice Ap pm cp, .bool p.hurt] := Blkf.new_at _ _ _ _ rfl
                  clear HLP HBP
                  generalize wr.alloc (.cells #[.int .i64 p.src, .int .i64 p.dst, .slice Ap pm cp, .bool p.hurt] 37) = w10 at *
                  obtain ⟨lb, hlbe⟩ : ∃ lb, lb = wr.heap.size := ⟨_, rfl⟩
                  rw [← hlbe] at hlb ⊢
                  clear hlbe
                  have S10 := Lib.hid (S6.out.step LA.out.1)
                  obtain ⟨g2, cap3, hxb, hg2, x0, x1, x2, x3⟩ := S10.out.drew.elem HPX.out
                  obtain ⟨T, hT⟩ : ∃ T, T = strB p.byt := ⟨_, rfl⟩
                  have HT := Lib.hid hT
                  rw [← hT] at x2
                  have hxc := hxb.cell 0
                  simp only [List.getElem?_toArray, List.getElem?_cons_zero] at hxc
                  rw [← HN.out] at hxc
                  have b0 := fun (W' : World) (h : Ext w10.drew W') => (h.cell (p := ⟨xb, 0, none⟩) hxb.lt).trans hxc
                  have t0 := fun (W' : World) (h : Ext w10.drew W') => (h.cell (p := ⟨lb, 0, none⟩) hlb.lt).trans (hlb.cell 0)
                  have t1 := fun (W' : World) (h : Ext w10.drew W') => (h.cell (p := ⟨lb, 1, none⟩) hlb.lt).trans (hlb.cell 1)
                  have t2 := fun (W' : World) (h : Ext w10.drew W') => (h.cell (p := ⟨lb, 2, none⟩) hlb.lt).trans (hlb.cell 2)
                  have t3 := fun (W' : World) (h : Ext w10.drew W') => (h.cell (p := ⟨lb, 3, none⟩) hlb.lt).trans (hlb.cell 3)
                  have y0 := fun (W' : World) (h : Ext w10.drew W') => (h.cell (p := ⟨g2, j * 4, none⟩) hg2).trans x0
                  have y1 := fun (W' : World) (h : Ext w10.drew W') => (h.cell (p := ⟨g2, j * 4 + 1, none⟩) hg2).trans x1
                  have y2 := fun (W' : World) (h : Ext w10.drew W') => (h.cell (p := ⟨g2, j * 4 + 2, none⟩) hg2).trans x2
                  have y3 := fun (W' : World) (h : Ext w10.drew W') => (h.cell (p := ⟨g2, j * 4 + 3, none⟩) hg2).trans x3
                  simp only [List.getElem?_toArray, List.getElem?_cons_zero, List.getElem?_cons_succ] at t0 t1 t2 t3
                  have HLB := Lib.hid hlb
                  clear hT hxb hg2 x0 x1 x2 x3 hxc hlb
                  refine wp_region_plan [(0, false), (1, false), (2, false), (3, false), (4, false), (5, false), (6, false), (7, false), (8, true), (9, false)] (by kernel_rfl) (by kernel_rfl) (fun _ d _ _ _ h => by cases d <;> exact h) ?_
                  iterate 8 (refine plan_take (v := ?_) rfl (by kernel_rfl) ?_ ?_; rotate_left; (focus (intro w' hw'; try go_simp; try with_reducible rfl)); simp only [Act.put, List.setIfInBounds_toArray, List.set_cons_zero, List.set_cons_succ])
                  clear b0 t0 t1 t2 t3 y0 y1 y2 y3
                  refine plan_call rfl (by kernel_rfl) (by go_simp; exact ⟨rfl, rfl⟩) ?_
                  rw [HT.out]
                  refine (same_any p.src p.dst p.hurt p.byt Ap pm cp w10.drew BA.out HPM.out.symm).mono ?_
                  rintro e w11 ⟨rfl, hb11⟩
                  refine ⟨_, rfl, hb11, ?_⟩
                  simp only [Act.put, List.setIfInBounds_toArray, List.set_cons_zero, List.set_cons_succ]
                  iterate 1 (refine plan_take (v := ?_) rfl (by kernel_rfl) ?_ ?_; rotate_left; (focus (intro w' hw'; try go_simp; try with_reducible rfl)); simp only [Act.put, List.setIfInBounds_toArray, List.set_cons_zero, List.set_cons_succ])
                  refine plan_end ?_
                  have L11 := Lib.hid ((LA.out.below (Below.refl _ _).drew).below hb11)
                  have hlb11 := HLB.out.drew.below hb11 HLB.out.lt
                  have HLB11 := Lib.hid hlb11
                  have v2 := hlb11.cell 2
                  simp only [List.getElem?_toArray, List.getElem?_cons_zero, List.getElem?_cons_succ] at v2
                  clear hb11 hlb11 LA BA HLB S10 HT
                  go_wp2_with fail
                  clear v2
                  go_loopw [221] (fun i w12 => ∃ t : Nat, t ≤ pm ∧ i = .int .i64 t ∧ Inc w11 w12 Ap pm) (fun i _ => pm - (intOf i).toNat)
                  case atStart => exact ⟨0, by omega, rfl, L11.out.inc0 HX.out HPM.out⟩
                  case round =>
                    obtain ⟨t, ht, rfl, hI⟩ := hrel
                    have HI := Lib.hid hI
                    have v2 := (hI.blk HLB11.out (by decide)).cell 2
                    simp only [List.getElem?_toArray, List.getElem?_cons_zero, List.getElem?_cons_succ] at v2
                    by_cases htp : t < pm
                    · obtain ⟨gi, og, z, eA, hcz, hfz, hgz, hset⟩ := hI.at_ htp
                      subst eA
                      have HSET := Lib.hid hset
                      have htI : (t : Int) < (pm : Int) := by omega
                      have htI0 : (0 : Int) ≤ (t : Int) := by omega
                      clear hI hset
                      go_wp2_with fail
                      go_roundw
                      case rel => exact ⟨t + 1, by omega, by go_num, HSET.out _⟩
                      case measure => simp [intOf]; omega
                    · obtain rfl : t = pm := by omega
                      clear hI
                      go_wp2_with fail
                      go_roundw
                      case rel => exact ⟨j + 1, by omega, by go_num, L11.out.next HX.out HPM.out HI.out⟩
                      case measure => simp [intOf]; omega
                · obtain rfl : j = n := by omega
                  have HNP := Lib.hid (S6.out.step HLP.out.1)
                  clear HLP
                  go_wp2_with fail
                  go_roundw
                  case rel =>
                    exact ⟨k + 1, hkl, by omega, by go_num, P2, HNP.out, HP2.out.1, HP2.out.2⟩
                  case measure => simp [intOf]; omega
    · obtain rfl : len = k := by omega
      go_wp2_with fail
      go_ret
      exact ⟨rfl, HT.out.bel⟩
theorem Law.NetPlays (a : Option Addr) (len cap : Nat) (W : World) (hz : IsRows [.int .i64, .int .i64, .int .i64, .int .i64, .int .i64, .ints .u8] W a len cap) (_ : 64 * cap ≤ 140737488351232) :
    Calls Try.prog 3 #[.slice a len cap] W fun e w' => e = .returned (.bool true) ∧ Below W.heap.size W w' := by
  have hl : len ≤ 9223372036854775807 := by
    rcases hz with ⟨_, h, _⟩ | ⟨x, _, h, h2, _⟩
    · omega
    · exact Nat.le_trans h (Nat.le_trans h2 (by decide))
  exact plays_any a len cap W (fun hp => opb_of hz hp) hl
end Go.Proofs.Ytnnajaomajgoeaa
