/- NetHurts: of frames that went through the bag those that were hurt are told to be none, all others are what was sent. No condition. -/
import Derived.Test.YtnnajaomajgoeaaHurA
import Derived.Deep.CutBlock
namespace Go.Proofs.Ytnnajaomajgoeaa
open Go.RowKit Go.ChangeShapes

set_option maxRecDepth 100000 in
set_option maxHeartbeats 16000000 in
theorem hurts_any (A : Option Addr) (len cap : Nat) (W : World) (hO : 0 < len → ∃ b o, A = some ⟨b, o, none⟩ ∧ b < W.heap.size ∧ ∀ i, i < len → OpB W b (o + i * 6)) (hlen : len ≤ 9223372036854775807) :
    Calls Try.prog 5 #[.slice A len cap] W fun e w' => e = .returned (.bool true) ∧ Below W.heap.size W w' := by
  have HO := Lib.hid hO
  clear hO
  go_enter Try.func5, Try.ntmps5
  go_wp2_with fail
  refine (first19 _).mono ?_
  rintro e w0 ⟨rfl, hb⟩
  have HB0 := Lib.hid hb
  clear hb
  go_wp2_with fail
  refine (New_any _).mono ?_
  rintro e w1 ⟨rfl, hn1, hn2⟩
  have HT0 := Lib.hid (nb_start HB0.out hn1 hn2)
  clear hn1 hn2 HB0
  go_wp2_with fail
  generalize w0.heap.size = gb at *
  go_loopw [18, 4] (fun i nn wr => ∃ k : Nat, k ≤ len ∧ k ≤ 80 ∧ i = .int .i64 k ∧ ∃ q : Nat, q ≤ k ∧ nn = .int .u64 (q : Int) ∧ ∃ P, NB W gb P [] wr ∧ AllOK q P ∧ P.length ≤ k) (fun i _ _ => len - (intOf i).toNat)
  case atStart => exact ⟨0, by omega, by omega, rfl, 0, by omega, rfl, [], HT0.out, fun p hp => by simp at hp, by simp⟩
  clear HT0
  case round =>
    obtain ⟨k, hk, hk80, rfl, q, hqk, rfl, P, ht, hok, hPk⟩ := hrel
    have HT := Lib.hid ht
    have HOK := Lib.hid hok
    have HPK := Lib.hid hPk
    clear ht hok hPk
    by_cases hkl : k < len
    · obtain ⟨b, o, rfl, hbl, hc⟩ := HO.out (by omega)
      obtain ⟨kind, oi, on, os, od, B, l, c, r0, r1, r2, r3, r4, r5, hB, hlc, hon⟩ := hc k hkl
      have bel := HT.out.bel
      have r0 := (bel.cell (p := ⟨b, o + k * 6, none⟩) hbl).trans r0
      have r1 := (bel.cell (p := ⟨b, o + k * 6 + 1, none⟩) hbl).trans r1
      have r2 := (bel.cell (p := ⟨b, o + k * 6 + 2, none⟩) hbl).trans r2
      have r3 := (bel.cell (p := ⟨b, o + k * 6 + 3, none⟩) hbl).trans r3
      have r4 := (bel.cell (p := ⟨b, o + k * 6 + 4, none⟩) hbl).trans r4
      have r5 := (bel.cell (p := ⟨b, o + k * 6 + 5, none⟩) hbl).trans r5
      obtain ⟨m, hm⟩ : ∃ m, m = l.length := ⟨_, rfl⟩
      rw [← hm] at r5 hlc
      have HM := Lib.hid hm
      have HBT := Lib.hid hB
      have HON := Lib.hid hon
      have hblr : b < wr.heap.size := Nat.lt_of_lt_of_le hbl bel.size
      have S4 := Lib.hid (HT.out.push #[.int .i64 kind, .int .i64 oi, .int .i64 on, .int .i64 os, .int .i64 od, .slice B m c] 32 rfl)
      clear hB hon hc hbl bel hm
      by_cases h80 : 80 ≤ k
      · have i80 : (80 : Int) ≤ (k : Int) := by omega
        have HE := Lib.hid S4.out.bel
        clear HT S4
        go_wp2_with fail
        go_ret
        exact ⟨rfl, HE.out⟩
      · have i80 : ¬ (80 : Int) ≤ (k : Int) := by omega
        obtain ⟨u, hu⟩ : ∃ u : Nat, IntKind.u64.wrap kind = (u : Int) := ⟨(IntKind.u64.wrap kind).toNat, by have := IntKind.wrap_u64 kind; omega⟩
        clear HT
        obtain ⟨ob, hob⟩ : ∃ ob, ob = wr.heap.size := ⟨_, rfl⟩
        go_upto_block 2 with fail
        rw [← hob] at S4 ⊢
        clear hob r0 r1 r2 r3 r4 r5
        generalize wr.alloc (.cells #[.int .i64 kind, .int .i64 oi, .int .i64 on, .int .i64 os, .int .i64 od, .slice B m c] 32) = w4 at *
        go_cut [18, 4] from 18 to 130 (fun i nn w => i = .int .i64 (k : Int) ∧ ∃ q : Nat, q ≤ k + 1 ∧ nn = .int .u64 (q : Int) ∧ ∃ P2, NB W gb P2 [(ob, 32, #[.int .i64 kind, .int .i64 oi, .int .i64 on, .int .i64 os, .int .i64 od, .slice B m c])] w ∧ AllOK q P2 ∧ P2.length ≤ k + 1)
        case first =>
          rcases (show u % 6 = 0 ∨ u % 6 = 1 ∨ u % 6 = 2 ∨ u % 6 = 3 ∨ u % 6 = 4 ∨ u % 6 = 5 by omega) with hm6 | hm6 | hm6 | hm6 | hm6 | hm6
          · as_aux_lemma =>
              have j0 : ((u : Int) % 6 == 0) = true := by rw [show (u : Int) % 6 = 0 by omega]; rfl
              have j2 : ((u : Int) % 6 == 2) = false := by rw [show (u : Int) % 6 = 0 by omega]; rfl
              have j3 : ((u : Int) % 6 == 3) = false := by rw [show (u : Int) % 6 = 0 by omega]; rfl
              have j4 : ((u : Int) % 6 == 4) = false := by rw [show (u : Int) % 6 = 0 by omega]; rfl
              have j5 : ((u : Int) % 6 == 5) = false := by rw [show (u : Int) % 6 = 0 by omega]; rfl
              clear hm6
              have q5 := (S4.out.at_ 0 _ rfl).cell 5
              simp only [List.getElem?_toArray, List.getElem?_cons_zero, List.getElem?_cons_succ] at q5
              have hobl := (S4.out.at_ 0 _ rfl).lt
              obtain ⟨dm, hdm⟩ : ∃ dm, dm = min m 50 := ⟨_, rfl⟩
              have hdm2 : dm ≤ 50 := by omega
              have hdmc : dm ≤ c := by omega
              have HD : Hid (Bts w4 B (l.take dm)) := Lib.hid (bts_take (bts_below HBT.out S4.out.bel))
              have HDL : Hid ((l.take dm).length = dm) := Lib.hid (by rw [List.length_take, ← HM.out]; omega)
              have hmin : (if (50 : Int) < (m : Int) then (50 : Int) else (m : Int)) = (dm : Int) := by split <;> omega
              have hmin2 : min (m : Int) 50 = (dm : Int) := by omega
              have HDM := Lib.hid hdm
              clear hdm
              go_wp2_with fail
              have hp := put_here (q + 1) (l.take dm) B dm c w4 (by omega) (by omega) HDL.out hdm2 HD.out
              rw [show ((q + 1 : Nat) : Int) = (q : Int) + 1 by omega] at hp
              refine hp.mono ?_
              rintro e w5 ⟨A', c', rfl, hB', hb5⟩
              clear hp hmin hmin2 q5 hobl
              have HB5 := Lib.hid hB'
              have S5 := Lib.hid (S4.out.step hb5)
              obtain ⟨fm, hfm⟩ : ∃ fm, fm = (FrL (q + 1) (l.take dm)).length := ⟨_, rfl⟩
              have hfm7 : fm ≤ 77 := by rw [hfm, frL_length _ _ (by omega) (by rw [HDL.out]; exact hdm2), HDL.out]; omega
              have HFM := Lib.hid hfm
              rw [← hfm]
              clear hB' hb5 S4 hfm
              go_wp2_with fail
              refine (nb_send S5.out A' _ fm c' HB5.out HFM.out.symm (by omega) (by have := HPK.out; omega)).mono ?_
              rintro e w6 ⟨rfl, ht6⟩
              have HFIN : Hid (∃ P2, NB W gb P2 [(ob, 32, #[.int .i64 kind, .int .i64 oi, .int .i64 on, .int .i64 os, .int .i64 od, .slice B m c])] w6 ∧ AllOK (q + 1) P2 ∧ P2.length ≤ k + 1) := Lib.hid ⟨_, ht6, HOK.out.send (l.take dm) (by rw [HDL.out]; exact hdm2) HD.out.1, by have := (show (sendP P 0 1 (FrL (q + 1) (l.take dm))).length ≤ P.length + 1 by unfold sendP; split <;> simp); have := HPK.out; omega⟩
              clear ht6 HPK HOK S5
              go_wp2_with fail
              go_meet
              case rel => exact ⟨rfl, q + 1, by omega, by simp, HFIN.out⟩
          · as_aux_lemma =>
              have j0 : ((u : Int) % 6 == 0) = false := by rw [show (u : Int) % 6 = 1 by omega]; rfl
              have j2 : ((u : Int) % 6 == 2) = false := by rw [show (u : Int) % 6 = 1 by omega]; rfl
              have j3 : ((u : Int) % 6 == 3) = false := by rw [show (u : Int) % 6 = 1 by omega]; rfl
              have j4 : ((u : Int) % 6 == 4) = false := by rw [show (u : Int) % 6 = 1 by omega]; rfl
              have j5 : ((u : Int) % 6 == 5) = false := by rw [show (u : Int) % 6 = 1 by omega]; rfl
              clear hm6
              have HFIN : Hid (∃ P2, NB W gb P2 [(ob, 32, #[.int .i64 kind, .int .i64 oi, .int .i64 on, .int .i64 os, .int .i64 od, .slice B m c])] w4 ∧ AllOK q P2 ∧ P2.length ≤ k + 1) := Lib.hid ⟨P, S4.out, HOK.out, by have := HPK.out; omega⟩
              clear HPK HOK S4
              go_wp2_with fail
              go_meet
              case rel => exact ⟨rfl, q, by omega, rfl, HFIN.out⟩
          · as_aux_lemma =>
              have j0 : ((u : Int) % 6 == 0) = false := by rw [show (u : Int) % 6 = 2 by omega]; rfl
              have j2 : ((u : Int) % 6 == 2) = true := by rw [show (u : Int) % 6 = 2 by omega]; rfl
              have j3 : ((u : Int) % 6 == 3) = false := by rw [show (u : Int) % 6 = 2 by omega]; rfl
              have j4 : ((u : Int) % 6 == 4) = false := by rw [show (u : Int) % 6 = 2 by omega]; rfl
              have j5 : ((u : Int) % 6 == 5) = false := by rw [show (u : Int) % 6 = 2 by omega]; rfl
              clear hm6
              have q1 := (S4.out.at_ 0 _ rfl).cell 1
              simp only [List.getElem?_toArray, List.getElem?_cons_zero, List.getElem?_cons_succ] at q1
              have hobl := (S4.out.at_ 0 _ rfl).lt
              go_wp2_with fail
              refine (nb_drop S4.out oi).mono ?_
              rintro e w6 ⟨rfl, ht6⟩
              have HFIN : Hid (∃ P2, NB W gb P2 [(ob, 32, #[.int .i64 kind, .int .i64 oi, .int .i64 on, .int .i64 os, .int .i64 od, .slice B m c])] w6 ∧ AllOK q P2 ∧ P2.length ≤ k + 1) := Lib.hid ⟨_, ht6, HOK.out.take oi, by have := (show (takeP P oi).length ≤ P.length by unfold takeP; split; (rw [List.length_eraseIdx]; split <;> omega); omega); have := HPK.out; omega⟩
              clear ht6 HPK HOK S4 q1
              go_wp2_with fail
              go_meet
              case rel => exact ⟨rfl, q, by omega, rfl, HFIN.out⟩
          · as_aux_lemma =>
              have j0 : ((u : Int) % 6 == 0) = false := by rw [show (u : Int) % 6 = 3 by omega]; rfl
              have j2 : ((u : Int) % 6 == 2) = false := by rw [show (u : Int) % 6 = 3 by omega]; rfl
              have j3 : ((u : Int) % 6 == 3) = true := by rw [show (u : Int) % 6 = 3 by omega]; rfl
              have j4 : ((u : Int) % 6 == 4) = false := by rw [show (u : Int) % 6 = 3 by omega]; rfl
              have j5 : ((u : Int) % 6 == 5) = false := by rw [show (u : Int) % 6 = 3 by omega]; rfl
              clear hm6
              have q1 := (S4.out.at_ 0 _ rfl).cell 1
              simp only [List.getElem?_toArray, List.getElem?_cons_zero, List.getElem?_cons_succ] at q1
              have hobl := (S4.out.at_ 0 _ rfl).lt
              go_wp2_with fail
              refine (nb_double S4.out oi).mono ?_
              rintro e w6 ⟨rfl, ht6⟩
              have HFIN : Hid (∃ P2, NB W gb P2 [(ob, 32, #[.int .i64 kind, .int .i64 oi, .int .i64 on, .int .i64 os, .int .i64 od, .slice B m c])] w6 ∧ AllOK q P2 ∧ P2.length ≤ k + 1) := Lib.hid ⟨_, ht6, HOK.out.double oi, by have := (show (doubleP P oi).length ≤ P.length + 1 by unfold doubleP; split <;> simp); have := HPK.out; omega⟩
              clear ht6 HPK HOK S4 q1
              go_wp2_with fail
              go_meet
              case rel => exact ⟨rfl, q, by omega, rfl, HFIN.out⟩
          · as_aux_lemma =>
              have j0 : ((u : Int) % 6 == 0) = false := by rw [show (u : Int) % 6 = 4 by omega]; rfl
              have j2 : ((u : Int) % 6 == 2) = false := by rw [show (u : Int) % 6 = 4 by omega]; rfl
              have j3 : ((u : Int) % 6 == 3) = false := by rw [show (u : Int) % 6 = 4 by omega]; rfl
              have j4 : ((u : Int) % 6 == 4) = true := by rw [show (u : Int) % 6 = 4 by omega]; rfl
              have j5 : ((u : Int) % 6 == 5) = false := by rw [show (u : Int) % 6 = 4 by omega]; rfl
              clear hm6
              have q1 := (S4.out.at_ 0 _ rfl).cell 1
              have q2 := (S4.out.at_ 0 _ rfl).cell 2
              simp only [List.getElem?_toArray, List.getElem?_cons_zero, List.getElem?_cons_succ] at q1 q2
              have hobl := (S4.out.at_ 0 _ rfl).lt
              go_wp2_with fail
              refine (nb_turn S4.out oi on HON.out).mono ?_
              rintro e w6 ⟨rfl, ht6⟩
              have HFIN : Hid (∃ P2, NB W gb P2 [(ob, 32, #[.int .i64 kind, .int .i64 oi, .int .i64 on, .int .i64 os, .int .i64 od, .slice B m c])] w6 ∧ AllOK q P2 ∧ P2.length ≤ k + 1) := Lib.hid ⟨_, ht6, HOK.out.turn oi on, by have := (show (turnP P oi on).length ≤ P.length by unfold turnP hurtP; split <;> simp); have := HPK.out; omega⟩
              clear ht6 HPK HOK S4 q1 q2
              go_wp2_with fail
              go_meet
              case rel => exact ⟨rfl, q, by omega, rfl, HFIN.out⟩
          · as_aux_lemma =>
              have j0 : ((u : Int) % 6 == 0) = false := by rw [show (u : Int) % 6 = 5 by omega]; rfl
              have j2 : ((u : Int) % 6 == 2) = false := by rw [show (u : Int) % 6 = 5 by omega]; rfl
              have j3 : ((u : Int) % 6 == 3) = false := by rw [show (u : Int) % 6 = 5 by omega]; rfl
              have j4 : ((u : Int) % 6 == 4) = false := by rw [show (u : Int) % 6 = 5 by omega]; rfl
              have j5 : ((u : Int) % 6 == 5) = true := by rw [show (u : Int) % 6 = 5 by omega]; rfl
              clear hm6
              have q1 := (S4.out.at_ 0 _ rfl).cell 1
              have q2 := (S4.out.at_ 0 _ rfl).cell 2
              simp only [List.getElem?_toArray, List.getElem?_cons_zero, List.getElem?_cons_succ] at q1 q2
              have hobl := (S4.out.at_ 0 _ rfl).lt
              go_wp2_with fail
              refine (nb_cut S4.out oi on HON.out).mono ?_
              rintro e w6 ⟨rfl, ht6⟩
              have HFIN : Hid (∃ P2, NB W gb P2 [(ob, 32, #[.int .i64 kind, .int .i64 oi, .int .i64 on, .int .i64 os, .int .i64 od, .slice B m c])] w6 ∧ AllOK q P2 ∧ P2.length ≤ k + 1) := Lib.hid ⟨_, ht6, HOK.out.cut oi on, by have := (show (cutP P oi on).length ≤ P.length by unfold cutP hurtP; split <;> simp); have := HPK.out; omega⟩
              clear ht6 HPK HOK S4 q1 q2
              go_wp2_with fail
              go_meet
              case rel => exact ⟨rfl, q, by omega, rfl, HFIN.out⟩
        case rest =>
          as_aux_lemma =>
            obtain ⟨rfl, q2, hq2, rfl, P2, ht6, hok2, hP2⟩ := hcut
            have S6 := Lib.hid ht6
            have HOK2 := Lib.hid hok2
            have HP2 := Lib.hid hP2
            clear ht6 hok2 hP2 S4 HOK HPK
            go_wp2_with fail
            refine (nb_list S6.out (by have := HP2.out; omega)).mono ?_
            rintro e w8 ⟨v, M, rfl, hM, hL, hb8⟩
            obtain ⟨Av, cv, rfl⟩ := prow_form hL.1
            obtain ⟨n, hn⟩ : ∃ n, n = M.length := ⟨_, rfl⟩
            have hn96 : n ≤ 81 := by
              have h1 : P2.length = n := by rw [← hM, List.length_map, hn]
              have := HP2.out
              omega
            have HN := Lib.hid hn
            have HM2 := Lib.hid hM
            have HL := Lib.hid hL
            rw [← hn]
            have S8 := Lib.hid (S6.out.step hb8)
            clear hL hb8 hn hM S6
            go_wp2_with fail
            go_loopw [82] (fun i wl => ∃ j : Nat, j ≤ n ∧ i = .int .i64 j ∧ Below w8.heap.size w8 wl) (fun i _ => n - (intOf i).toNat)
            case atStart => exact ⟨0, by omega, rfl, Below.refl _ _⟩
            case round =>
              obtain ⟨j, hj, rfl, hbw⟩ := hrel
              have HBW := Lib.hid hbw
              clear hbw
              by_cases hjn : j < n
              · obtain ⟨p, up, hx⟩ : ∃ p up, M[j]? = some (p, up) := ⟨_, _, List.getElem?_eq_getElem (by rw [← HN.out]; exact hjn)⟩
                have hpx : FrOK q2 p := HOK2.out p (by rw [← HM2.out]; exact List.mem_map.2 ⟨(p, up), List.mem_of_getElem? hx, rfl⟩)
                obtain ⟨g, cap2, Ap, cp, ev, eu, hBp, hpl, hgl, _, l0, l1, l2, l3, _⟩ := (HL.out.below HBW.out).at_ hx
                injection ev with e1 e2 e3
                subst e1
                subst e3
                subst eu
                clear e2
                have hcp := HL.out.cap hx
                obtain ⟨pm, hpm⟩ : ∃ pm, pm = p.byt.length := ⟨_, rfl⟩
                have hpm7 : pm ≤ 77 := by rw [hpm]; exact hpx.len (by omega)
                have HPM := Lib.hid hpm
                have HPX := Lib.hid hpx
                have HBP := Lib.hid hBp
                rw [hpx.1] at l0
                rw [hpx.2.1] at l1
                rw [← hpm] at l2 hcp
                have HCP := Lib.hid hcp
                have hjI : (j : Int) < (n : Int) := by omega
                have hjI0 : (0 : Int) ≤ (j : Int) := by omega
                clear hpm hx hpx hBp hpl hcp
                go_wp2_with fail
                clear l0 l1 l2 l3
                have BA := Lib.hid (bts_below HBP.out ((Below.refl _ wr).alloc (Nat.le_refl _) (.cells #[.int .i64 0, .int .i64 1, .slice Ap pm cp, .bool p.hurt] 37)))
                have hlb : Blk (wr.alloc (.cells #[.int .i64 0, .int .i64 1, .slice Ap pm cp, .bool p.hurt] 37)) wr.heap.size 37 #[.int .i64 0, .int .i64 1, .slice Ap pm cp, .bool p.hurt] := Blkf.new_at _ _ _ _ rfl
                have HB2 := Lib.hid (HBW.out.alloc HBW.out.size (.cells #[.int .i64 0, .int .i64 1, .slice Ap pm cp, .bool p.hurt] 37))
                clear HBW HBP
                obtain ⟨lb, hlbe⟩ : ∃ lb, lb = wr.heap.size := ⟨_, rfl⟩
                rw [← hlbe] at hlb ⊢
                clear hlbe
                generalize wr.alloc (.cells #[.int .i64 0, .int .i64 1, .slice Ap pm cp, .bool p.hurt] 37) = w10 at *
                have HLB := Lib.hid hlb
                clear hlb
                refine (get_here q2 p Ap pm cp w10 HPX.out (by omega) HPM.out.symm HCP.out BA.out).mono ?_
                rintro e w11 ⟨ff, ft, fb, fs, fa, A', n', c', rfl, hfs, hb11⟩
                have hlb := HLB.out.below hb11 HLB.out.lt
                have y0 := hlb.cell 0
                have y1 := hlb.cell 1
                have y3 := hlb.cell 3
                have yl := hlb.lt
                simp only [List.getElem?_toArray, List.getElem?_cons_zero, List.getElem?_cons_succ] at y0 y1 y3
                have HB3 := Lib.hid ((HB2.out.trans (hb11.mono HB2.out.size)).alloc ((HB2.out.trans (hb11.mono HB2.out.size)).size) (.cells #[.int .i64 ff, .int .i64 ft, .bool fb, .int .u64 fs, .int .u64 fa, .slice A' n' c'] 59))
                clear hb11 hlb BA HB2 HLB HPX
                cases hh : p.hurt with
                | true =>
                  rw [hh] at y3
                  clear hfs hh
                  go_wp2_with fail
                  go_roundw
                  case rel => exact ⟨j + 1, by omega, by go_num, HB3.out⟩
                  case measure => simp [intOf]; omega
                | false =>
                  rw [hh] at y3
                  obtain ⟨f1, f2⟩ := hfs hh
                  have g1 : (1 : Int) ≤ (fs : Int) := by omega
                  have g2 : (fs : Int) ≤ (q2 : Int) := by omega
                  clear hfs hh
                  go_wp2_with fail
                  go_roundw
                  case rel => exact ⟨j + 1, by omega, by go_num, HB3.out⟩
                  case measure => simp [intOf]; omega
              · obtain rfl : j = n := by omega
                have S9 := Lib.hid (S8.out.step HBW.out)
                clear HBW S8 HL
                have z0 := (S9.out.at_ 0 _ rfl).cell 0
                have z1 := (S9.out.at_ 0 _ rfl).cell 1
                simp only [List.getElem?_toArray, List.getElem?_cons_zero, List.getElem?_cons_succ] at z0 z1
                by_cases h1 : u % 6 = 1
                · have j1 : ((u : Int) % 6 == 1) = true := by rw [show (u : Int) % 6 = 1 by omega]; rfl
                  clear h1
                  go_wp2_with fail
                  refine (nb_deliver S9.out oi).mono ?_
                  rintro e w12 ⟨vd, rfl, ht12⟩
                  have S12 := Lib.hid (ht12.only (loc' := []) (fun p hp => by simp at hp))
                  clear ht12 S9 z0 z1
                  go_wp2_with fail
                  go_roundw
                  case rel => exact ⟨k + 1, hkl, by omega, by go_num, q2, hq2, rfl, _, S12.out, HOK2.out.take oi, by have := (show (takeP P2 oi).length ≤ P2.length by unfold takeP; split; (rw [List.length_eraseIdx]; split <;> omega); omega); have := HP2.out; omega⟩
                  case measure => simp [intOf]; omega
                · have j1 : ((u : Int) % 6 == 1) = false := by simp; omega
                  clear h1
                  go_wp2_with fail
                  go_roundw
                  case rel => exact ⟨k + 1, hkl, by omega, by go_num, q2, hq2, rfl, P2, S9.out.only (fun p hp => by simp at hp), HOK2.out, HP2.out⟩
                  case measure => simp [intOf]; omega
    · obtain rfl : len = k := by omega
      go_wp2_with fail
      go_ret
      exact ⟨rfl, HT.out.bel⟩
theorem Law.NetHurts (a : Option Addr) (len cap : Nat) (W : World) (hz : IsRows [.int .i64, .int .i64, .int .i64, .int .i64, .int .i64, .ints .u8] W a len cap) (_ : 64 * cap ≤ 140737488351232) :
    Calls Try.prog 5 #[.slice a len cap] W fun e w' => e = .returned (.bool true) ∧ Below W.heap.size W w' := by
  have hl : len ≤ 9223372036854775807 := by
    rcases hz with ⟨_, h, _⟩ | ⟨x, _, h, h2, _⟩
    · omega
    · exact Nat.le_trans h (Nat.le_trans h2 (by decide))
  exact hurts_any a len cap W (fun hp => opb_of hz hp) hl
end Go.Proofs.Ytnnajaomajgoeaa
