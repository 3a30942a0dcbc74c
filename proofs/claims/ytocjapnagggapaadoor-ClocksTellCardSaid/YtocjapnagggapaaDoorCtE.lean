/- The reference's Clocks: the walk. -/
import Derived.Test.YtocjapnagggapaaDoorCtD
namespace Go.Proofs.YtocjapnagggapaaDoor
open Go.RowKit

theorem zero_arr (w : World) : (zeroValue 26).run Tryd.prog w = .ok (.agg (fnC 16 (fun _ => 0))) w := by kernel_rfl
set_option maxRecDepth 100000 in
set_option maxHeartbeats 8000000 in
theorem rclocks_any (A : Option Addr) (len cap : Nat) (C : Nat → Array Value) (f : Nat → Fc) (W : World) (hl : len ≤ 40) (h : FsAt W A len C f) :
    Calls Tryd.prog 7 #[.slice A len cap] W fun e w' => ∃ A2 c2, e = .returned (.slice A2 len c2) ∧ CsAt w' A2 len (tellC f) ∧ Ext W w' := by
  obtain ⟨ia, hi0, hz0, hz1, hz2⟩ := info_parts info_arr
  have HFS := Lib.hid h
  have za := zero_arr
  clear h
  go_enter Tryd.func7, Tryd.ntmps7
  go_wp2_with fail
  refine (rahead_any A len cap C f W hl HFS.out).mono ?_
  rintro e w1 ⟨ob, G, rfl, hR⟩
  have HRW := Lib.hid hR
  have HFS1 := Lib.hid (HFS.out.below hR.e)
  have HO0 := Lib.hid ((Objs.nil (Below.refl w1.heap.size w1)).row0 w1.heap.size 26 16)
  clear hR
  go_wp2_with fail
  go_loopw [3, 12] (fun v i wr => ∃ k : Nat, k ≤ len ∧ i = .int .i64 (k : Int) ∧ Objs w1 [rowO w1.heap.size 26 16 k v (clC f k)] wr) (fun _ i _ => len - (intOf i).toNat)
  case atStart => exact ⟨0, by omega, rfl, HO0.out⟩
  clear HO0
  case round =>
    obtain ⟨i, hi, rfl, hO⟩ := hrel
    obtain ⟨A1, cp, rfl⟩ := row_form (hO.owns 0 rfl)
    have HO := Lib.hid hO
    clear hO
    by_cases hil : i < len
    · obtain ⟨b, o, rfl, hbl, hcc⟩ := HFS1.out (by omega)
      have HCC := Lib.hid hcc
      have HBK := Lib.hid hbl
      have hii : (i : Int) < (len : Int) := by omega
      have oc : wr.cell? ⟨ob, i, none⟩ = some (.slice (some ⟨G i, 0, none⟩) len len) := (HO.out.bel.cell (p := ⟨ob, i, none⟩) HRW.out.out.lt).trans ((HRW.out.out.cell i).trans ((vC_get _ hil).trans (by unfold outV; rw [if_pos hil])))
      have ol : ob < wr.heap.size := Nat.lt_of_lt_of_le HRW.out.out.lt HO.out.bel.size
      have HO1 := Lib.hid (HO.out.push (fnC 16 (fun _ => 0)) 26 rfl)
      have c1 : (wr.alloc (.cells (fnC 16 (fun _ => 0)) 26)).cell? ⟨b, o + i * 16 + 1, none⟩ = some (.int .i64 (f i).node) := (HO1.out.bel.cell (p := ⟨b, o + i * 16 + 1, none⟩) hbl).trans ((hcc i hil).1 1 _ (by rw [Array.getElem?_toList]; exact (hcc i hil).2.node))
      have hbl1 : b < (wr.alloc (.cells (fnC 16 (fun _ => 0)) 26)).heap.size := Nat.lt_of_lt_of_le hbl HO1.out.bel.size
      clear HO hcc hbl
      go_upto_region 6 with fail
      generalize wr.alloc (.cells (fnC 16 (fun _ => 0)) 26) = w2 at *
      generalize wr.heap.size = cb at *
      clear oc ol
      rcases ok3 (f i) with ⟨h1, ho⟩ | ⟨h1, h2, ho⟩ | ⟨h1, h2, ho⟩
      · have HS : Hid (Objs w1 [blkO cb 26 (fnC 16 (fun nd => rowN f (ancG f len i) i nd 0)), rowO w1.heap.size 26 16 i (.slice A1 i cp) (clC f i)] w2) := Lib.hid (by
          rw [show (fun nd => rowN f (ancG f len i) i nd 0) = fun _ => 0 by funext nd; rw [rowN, if_neg (by rw [ho]; decide)]]
          exact HO1.out)
        clear HO1
        go_wp2_with fail
        go_loopw [39] (fun q wx => ∃ k : Nat, k ≤ len ∧ q = .int .i64 (k : Int) ∧ Objs w1 [blkO cb 26 (fnC 16 (fun nd => rowN f (ancG f len i) i nd k)), rowO w1.heap.size 26 16 i (.slice A1 i cp) (clC f i)] wx) (fun q _ => len - (intOf q).toNat)
        case atStart => exact ⟨0, by omega, rfl, HS.out⟩
        clear HS
        case round =>
          obtain ⟨k, hk, rfl, hO⟩ := hrel
          rename World => wx
          have HO := Lib.hid hO
          clear hO
          by_cases hkl : k < len
          · have hkk : (k : Int) < (len : Int) := by omega
            have hE := HO.out.bel
            have rc : wx.cell? ⟨G i, k, none⟩ = some (.bool (ancG f len i k)) := (hE.cell (p := ⟨G i, k, none⟩) (HRW.out.row i hil).lt).trans (((HRW.out.row i hil).cell k).trans (vC_get _ hkl))
            have rl : G i < wx.heap.size := Nat.lt_of_lt_of_le (HRW.out.row i hil).lt hE.size
            cases hr : ancG f len i k with
            | false =>
              rw [hr] at rc
              have HF : Hid (Objs w1 [blkO cb 26 (fnC 16 (fun nd => rowN f (ancG f len i) i nd (k + 1))), rowO w1.heap.size 26 16 i (.slice A1 i cp) (clC f i)] wx) := Lib.hid (by
                have e : (fun nd => rowN f (ancG f len i) i nd (k + 1)) = fun nd => rowN f (ancG f len i) i nd k := by funext nd; rw [rowN, hr]; rfl
                rw [e]; exact HO.out)
              clear HO hE
              go_wp2_with fail
              go_roundw
              case rel => exact ⟨k + 1, hkl, by go_num, HF.out⟩
              case measure => simp [intOf]; omega
            | true =>
              rw [hr] at rc
              have hok : (f k).ok = true := ((ancG_iff len i hil k).1 hr).ok.2
              obtain ⟨hn16, hnode⟩ := Fc.ok_lt hok
              have c1 : wx.cell? ⟨b, o + k * 16 + 1, none⟩ = some (.int .i64 ((f k).nd : Int)) := (hE.cell (p := ⟨b, o + k * 16 + 1, none⟩) HBK.out).trans (((HCC.out k hkl).1 1 _ (by rw [Array.getElem?_toList]; exact (HCC.out k hkl).2.node)).trans (by rw [hnode]))
              have c2 : b < wx.heap.size := Nat.lt_of_lt_of_le HBK.out hE.size
              have i0 : (0 : Int) ≤ ((f k).nd : Int) := by omega
              have i1 : ((f k).nd : Int) < 16 := by omega
              have hcb := HO.out.blk 0 rfl
              have cc0 : wx.cell? ⟨cb, (f k).nd, none⟩ = some (.int .i64 (rowN f (ancG f len i) i (f k).nd k : Int)) := (hcb.cell _).trans (fnC_get _ hn16)
              have cl := hcb.lt
              have cf := Blk.frozen hcb (f k).nd
              have hle : rowN f (ancG f len i) i (f k).nd k ≤ k + 1 := by
                rw [rowN_cnt]
                have := cnt_le (fun j => ancG f len i j && decide ((f j).nd = (f k).nd)) k
                unfold one
                split <;> (try split) <;> omega
              have hadd : IntKind.i64.wrap ((rowN f (ancG f len i) i (f k).nd k : Int) + 1) = ((rowN f (ancG f len i) i (f k).nd k + 1 : Nat) : Int) := by rw [IntKind.wrap_i64]; omega
              have HF : Hid (Objs w1 [blkO cb 26 (fnC 16 (fun nd => rowN f (ancG f len i) i nd (k + 1))), rowO w1.heap.size 26 16 i (.slice A1 i cp) (clC f i)] (wx.setCell ⟨cb, (f k).nd, none⟩ (.int .i64 ((rowN f (ancG f len i) i (f k).nd k + 1 : Nat) : Int)))) := Lib.hid (by
                have h := HO.out.set_ 0 rfl (f k).nd (.int .i64 ((rowN f (ancG f len i) i (f k).nd k + 1 : Nat) : Int))
                rw [fnC_set _ hn16] at h
                have e : (fun j => if j = (f k).nd then rowN f (ancG f len i) i (f k).nd k + 1 else rowN f (ancG f len i) i j k) = fun nd => rowN f (ancG f len i) i nd (k + 1) := by
                  funext nd
                  rw [rowN, hr]
                  by_cases e : nd = (f k).nd
                  · subst e; simp [one]
                  · rw [if_neg e]; simp [one, show ¬ (f k).nd = nd from fun h => e h.symm]
                rw [e] at h
                exact h)
              clear HO hE hcb hnode
              generalize rowN f (ancG f len i) i (f k).nd k + 1 = q1 at *
              go_wp2_with fail
              go_roundw
              case rel => exact ⟨k + 1, hkl, by go_num, HF.out⟩
              case measure => simp [intOf]; omega
          · obtain rfl : k = len := by omega
            obtain ⟨cc, hcc⟩ : ∃ cc, cc = fun nd => rowN f (ancG f k i) i nd k := ⟨_, rfl⟩
            have HCCE : Hid (cc = tellC f i) := Lib.hid (by rw [hcc]; funext nd; exact rowN_tell hil nd)
            rw [← hcc] at HO
            have hrf := (HO.out.blk 0 rfl).range
            have HA := Lib.hid (((HO.out.step (ext_alloc' wx (.cells (fnC 16 cc) 26)))).drop 1)
            go_wp2_with (first | ((with_reducible refine wl_load 26 (.tmp 6) rfl ?_ cb 0 (fnC 16 cc) ?_ hrf ?_ ?_); exact rfl; exact rfl; exact arr_row _) | ((with_reducible refine wl_row1 rfl 56 cc rfl ?_ ?_); exact rfl) | (at_builtin; (refine wpList_append_any _ rfl (.tmp 55) (.tmp 57) _ rfl w1.heap.size 26 ia _ 16 128 Tryd.underlying24 hi0 hz0 hz1 hz2 (fnC_size _ _) (by decide) _ i (clC f i) rfl (HA.out.owns 0 rfl) (wx.heap.size + 1) (some ⟨wx.heap.size, 0, none⟩) 1 1 (fnC 16 cc).toList rfl (reads_clk _ _ _ _ rfl) (clk_one16 _) (by unfold maxLen; omega) (by omega) (Nat.le_trans HA.out.bel.size (Nat.le_refl _)) ?_; intro v3 w3 hown hgrow hat; have HF := Lib.hid (HA.out.grow 0 rfl hown hgrow hat); clear hown hgrow hat)))
            go_roundw
            case rel => exact ⟨i + 1, hil, by go_num, by
              have h := HF.out
              rw [clC_succ, ← HCCE.out]
              exact h⟩
            case measure => simp [intOf]; omega
      · have HS : Hid (Objs w1 [blkO cb 26 (fnC 16 (fun nd => rowN f (ancG f len i) i nd 0)), rowO w1.heap.size 26 16 i (.slice A1 i cp) (clC f i)] w2) := Lib.hid (by
          rw [show (fun nd => rowN f (ancG f len i) i nd 0) = fun _ => 0 by funext nd; rw [rowN, if_neg (by rw [ho]; decide)]]
          exact HO1.out)
        clear HO1
        go_wp2_with fail
        go_loopw [39] (fun q wx => ∃ k : Nat, k ≤ len ∧ q = .int .i64 (k : Int) ∧ Objs w1 [blkO cb 26 (fnC 16 (fun nd => rowN f (ancG f len i) i nd k)), rowO w1.heap.size 26 16 i (.slice A1 i cp) (clC f i)] wx) (fun q _ => len - (intOf q).toNat)
        case atStart => exact ⟨0, by omega, rfl, HS.out⟩
        clear HS
        case round =>
          obtain ⟨k, hk, rfl, hO⟩ := hrel
          rename World => wx
          have HO := Lib.hid hO
          clear hO
          by_cases hkl : k < len
          · have hkk : (k : Int) < (len : Int) := by omega
            have hE := HO.out.bel
            have rc : wx.cell? ⟨G i, k, none⟩ = some (.bool (ancG f len i k)) := (hE.cell (p := ⟨G i, k, none⟩) (HRW.out.row i hil).lt).trans (((HRW.out.row i hil).cell k).trans (vC_get _ hkl))
            have rl : G i < wx.heap.size := Nat.lt_of_lt_of_le (HRW.out.row i hil).lt hE.size
            cases hr : ancG f len i k with
            | false =>
              rw [hr] at rc
              have HF : Hid (Objs w1 [blkO cb 26 (fnC 16 (fun nd => rowN f (ancG f len i) i nd (k + 1))), rowO w1.heap.size 26 16 i (.slice A1 i cp) (clC f i)] wx) := Lib.hid (by
                have e : (fun nd => rowN f (ancG f len i) i nd (k + 1)) = fun nd => rowN f (ancG f len i) i nd k := by funext nd; rw [rowN, hr]; rfl
                rw [e]; exact HO.out)
              clear HO hE
              go_wp2_with fail
              go_roundw
              case rel => exact ⟨k + 1, hkl, by go_num, HF.out⟩
              case measure => simp [intOf]; omega
            | true =>
              rw [hr] at rc
              have hok : (f k).ok = true := ((ancG_iff len i hil k).1 hr).ok.2
              obtain ⟨hn16, hnode⟩ := Fc.ok_lt hok
              have c1 : wx.cell? ⟨b, o + k * 16 + 1, none⟩ = some (.int .i64 ((f k).nd : Int)) := (hE.cell (p := ⟨b, o + k * 16 + 1, none⟩) HBK.out).trans (((HCC.out k hkl).1 1 _ (by rw [Array.getElem?_toList]; exact (HCC.out k hkl).2.node)).trans (by rw [hnode]))
              have c2 : b < wx.heap.size := Nat.lt_of_lt_of_le HBK.out hE.size
              have i0 : (0 : Int) ≤ ((f k).nd : Int) := by omega
              have i1 : ((f k).nd : Int) < 16 := by omega
              have hcb := HO.out.blk 0 rfl
              have cc0 : wx.cell? ⟨cb, (f k).nd, none⟩ = some (.int .i64 (rowN f (ancG f len i) i (f k).nd k : Int)) := (hcb.cell _).trans (fnC_get _ hn16)
              have cl := hcb.lt
              have cf := Blk.frozen hcb (f k).nd
              have hle : rowN f (ancG f len i) i (f k).nd k ≤ k + 1 := by
                rw [rowN_cnt]
                have := cnt_le (fun j => ancG f len i j && decide ((f j).nd = (f k).nd)) k
                unfold one
                split <;> (try split) <;> omega
              have hadd : IntKind.i64.wrap ((rowN f (ancG f len i) i (f k).nd k : Int) + 1) = ((rowN f (ancG f len i) i (f k).nd k + 1 : Nat) : Int) := by rw [IntKind.wrap_i64]; omega
              have HF : Hid (Objs w1 [blkO cb 26 (fnC 16 (fun nd => rowN f (ancG f len i) i nd (k + 1))), rowO w1.heap.size 26 16 i (.slice A1 i cp) (clC f i)] (wx.setCell ⟨cb, (f k).nd, none⟩ (.int .i64 ((rowN f (ancG f len i) i (f k).nd k + 1 : Nat) : Int)))) := Lib.hid (by
                have h := HO.out.set_ 0 rfl (f k).nd (.int .i64 ((rowN f (ancG f len i) i (f k).nd k + 1 : Nat) : Int))
                rw [fnC_set _ hn16] at h
                have e : (fun j => if j = (f k).nd then rowN f (ancG f len i) i (f k).nd k + 1 else rowN f (ancG f len i) i j k) = fun nd => rowN f (ancG f len i) i nd (k + 1) := by
                  funext nd
                  rw [rowN, hr]
                  by_cases e : nd = (f k).nd
                  · subst e; simp [one]
                  · rw [if_neg e]; simp [one, show ¬ (f k).nd = nd from fun h => e h.symm]
                rw [e] at h
                exact h)
              clear HO hE hcb hnode
              generalize rowN f (ancG f len i) i (f k).nd k + 1 = q1 at *
              go_wp2_with fail
              go_roundw
              case rel => exact ⟨k + 1, hkl, by go_num, HF.out⟩
              case measure => simp [intOf]; omega
          · obtain rfl : k = len := by omega
            obtain ⟨cc, hcc⟩ : ∃ cc, cc = fun nd => rowN f (ancG f k i) i nd k := ⟨_, rfl⟩
            have HCCE : Hid (cc = tellC f i) := Lib.hid (by rw [hcc]; funext nd; exact rowN_tell hil nd)
            rw [← hcc] at HO
            have hrf := (HO.out.blk 0 rfl).range
            have HA := Lib.hid (((HO.out.step (ext_alloc' wx (.cells (fnC 16 cc) 26)))).drop 1)
            go_wp2_with (first | ((with_reducible refine wl_load 26 (.tmp 6) rfl ?_ cb 0 (fnC 16 cc) ?_ hrf ?_ ?_); exact rfl; exact rfl; exact arr_row _) | ((with_reducible refine wl_row1 rfl 56 cc rfl ?_ ?_); exact rfl) | (at_builtin; (refine wpList_append_any _ rfl (.tmp 55) (.tmp 57) _ rfl w1.heap.size 26 ia _ 16 128 Tryd.underlying24 hi0 hz0 hz1 hz2 (fnC_size _ _) (by decide) _ i (clC f i) rfl (HA.out.owns 0 rfl) (wx.heap.size + 1) (some ⟨wx.heap.size, 0, none⟩) 1 1 (fnC 16 cc).toList rfl (reads_clk _ _ _ _ rfl) (clk_one16 _) (by unfold maxLen; omega) (by omega) (Nat.le_trans HA.out.bel.size (Nat.le_refl _)) ?_; intro v3 w3 hown hgrow hat; have HF := Lib.hid (HA.out.grow 0 rfl hown hgrow hat); clear hown hgrow hat)))
            go_roundw
            case rel => exact ⟨i + 1, hil, by go_num, by
              have h := HF.out
              rw [clC_succ, ← HCCE.out]
              exact h⟩
            case measure => simp [intOf]; omega
      · obtain ⟨hm16, hmnode⟩ := Fc.ok_lt ho
        rw [hmnode] at c1 h1 h2
        have hcb := HO1.out.blk 0 rfl
        have cc0 := (hcb.cell (f i).nd).trans (fnC_get _ hm16)
        have cl := hcb.lt
        have cf := Blk.frozen hcb (f i).nd
        have HS : Hid (Objs w1 [blkO cb 26 (fnC 16 (fun nd => rowN f (ancG f len i) i nd 0)), rowO w1.heap.size 26 16 i (.slice A1 i cp) (clC f i)] (w2.setCell ⟨cb, (f i).nd, none⟩ (.int .i64 1))) := Lib.hid (by
          have h := HO1.out.set_ 0 rfl (f i).nd (.int .i64 ((1 : Nat) : Int))
          rw [fnC_set _ hm16] at h
          have e : (fun j => if j = (f i).nd then 1 else 0) = fun nd => rowN f (ancG f len i) i nd 0 := by
            funext nd
            rw [rowN, if_pos ho]
            by_cases e : nd = (f i).nd
            · subst e; simp [one]
            · rw [if_neg e]; simp [one, show ¬ (f i).nd = nd from fun h => e h.symm]
          rw [e] at h
          exact h)
        clear HO1 hcb hmnode
        go_wp2_with fail
        go_loopw [39] (fun q wx => ∃ k : Nat, k ≤ len ∧ q = .int .i64 (k : Int) ∧ Objs w1 [blkO cb 26 (fnC 16 (fun nd => rowN f (ancG f len i) i nd k)), rowO w1.heap.size 26 16 i (.slice A1 i cp) (clC f i)] wx) (fun q _ => len - (intOf q).toNat)
        case atStart => exact ⟨0, by omega, rfl, HS.out⟩
        clear HS
        case round =>
          obtain ⟨k, hk, rfl, hO⟩ := hrel
          rename World => wx
          have HO := Lib.hid hO
          clear hO
          by_cases hkl : k < len
          · have hkk : (k : Int) < (len : Int) := by omega
            have hE := HO.out.bel
            have rc : wx.cell? ⟨G i, k, none⟩ = some (.bool (ancG f len i k)) := (hE.cell (p := ⟨G i, k, none⟩) (HRW.out.row i hil).lt).trans (((HRW.out.row i hil).cell k).trans (vC_get _ hkl))
            have rl : G i < wx.heap.size := Nat.lt_of_lt_of_le (HRW.out.row i hil).lt hE.size
            cases hr : ancG f len i k with
            | false =>
              rw [hr] at rc
              have HF : Hid (Objs w1 [blkO cb 26 (fnC 16 (fun nd => rowN f (ancG f len i) i nd (k + 1))), rowO w1.heap.size 26 16 i (.slice A1 i cp) (clC f i)] wx) := Lib.hid (by
                have e : (fun nd => rowN f (ancG f len i) i nd (k + 1)) = fun nd => rowN f (ancG f len i) i nd k := by funext nd; rw [rowN, hr]; rfl
                rw [e]; exact HO.out)
              clear HO hE
              go_wp2_with fail
              go_roundw
              case rel => exact ⟨k + 1, hkl, by go_num, HF.out⟩
              case measure => simp [intOf]; omega
            | true =>
              rw [hr] at rc
              have hok : (f k).ok = true := ((ancG_iff len i hil k).1 hr).ok.2
              obtain ⟨hn16, hnode⟩ := Fc.ok_lt hok
              have c1 : wx.cell? ⟨b, o + k * 16 + 1, none⟩ = some (.int .i64 ((f k).nd : Int)) := (hE.cell (p := ⟨b, o + k * 16 + 1, none⟩) HBK.out).trans (((HCC.out k hkl).1 1 _ (by rw [Array.getElem?_toList]; exact (HCC.out k hkl).2.node)).trans (by rw [hnode]))
              have c2 : b < wx.heap.size := Nat.lt_of_lt_of_le HBK.out hE.size
              have i0 : (0 : Int) ≤ ((f k).nd : Int) := by omega
              have i1 : ((f k).nd : Int) < 16 := by omega
              have hcb := HO.out.blk 0 rfl
              have cc0 : wx.cell? ⟨cb, (f k).nd, none⟩ = some (.int .i64 (rowN f (ancG f len i) i (f k).nd k : Int)) := (hcb.cell _).trans (fnC_get _ hn16)
              have cl := hcb.lt
              have cf := Blk.frozen hcb (f k).nd
              have hle : rowN f (ancG f len i) i (f k).nd k ≤ k + 1 := by
                rw [rowN_cnt]
                have := cnt_le (fun j => ancG f len i j && decide ((f j).nd = (f k).nd)) k
                unfold one
                split <;> (try split) <;> omega
              have hadd : IntKind.i64.wrap ((rowN f (ancG f len i) i (f k).nd k : Int) + 1) = ((rowN f (ancG f len i) i (f k).nd k + 1 : Nat) : Int) := by rw [IntKind.wrap_i64]; omega
              have HF : Hid (Objs w1 [blkO cb 26 (fnC 16 (fun nd => rowN f (ancG f len i) i nd (k + 1))), rowO w1.heap.size 26 16 i (.slice A1 i cp) (clC f i)] (wx.setCell ⟨cb, (f k).nd, none⟩ (.int .i64 ((rowN f (ancG f len i) i (f k).nd k + 1 : Nat) : Int)))) := Lib.hid (by
                have h := HO.out.set_ 0 rfl (f k).nd (.int .i64 ((rowN f (ancG f len i) i (f k).nd k + 1 : Nat) : Int))
                rw [fnC_set _ hn16] at h
                have e : (fun j => if j = (f k).nd then rowN f (ancG f len i) i (f k).nd k + 1 else rowN f (ancG f len i) i j k) = fun nd => rowN f (ancG f len i) i nd (k + 1) := by
                  funext nd
                  rw [rowN, hr]
                  by_cases e : nd = (f k).nd
                  · subst e; simp [one]
                  · rw [if_neg e]; simp [one, show ¬ (f k).nd = nd from fun h => e h.symm]
                rw [e] at h
                exact h)
              clear HO hE hcb hnode
              generalize rowN f (ancG f len i) i (f k).nd k + 1 = q1 at *
              go_wp2_with fail
              go_roundw
              case rel => exact ⟨k + 1, hkl, by go_num, HF.out⟩
              case measure => simp [intOf]; omega
          · obtain rfl : k = len := by omega
            obtain ⟨cc, hcc⟩ : ∃ cc, cc = fun nd => rowN f (ancG f k i) i nd k := ⟨_, rfl⟩
            have HCCE : Hid (cc = tellC f i) := Lib.hid (by rw [hcc]; funext nd; exact rowN_tell hil nd)
            rw [← hcc] at HO
            have hrf := (HO.out.blk 0 rfl).range
            have HA := Lib.hid (((HO.out.step (ext_alloc' wx (.cells (fnC 16 cc) 26)))).drop 1)
            go_wp2_with (first | ((with_reducible refine wl_load 26 (.tmp 6) rfl ?_ cb 0 (fnC 16 cc) ?_ hrf ?_ ?_); exact rfl; exact rfl; exact arr_row _) | ((with_reducible refine wl_row1 rfl 56 cc rfl ?_ ?_); exact rfl) | (at_builtin; (refine wpList_append_any _ rfl (.tmp 55) (.tmp 57) _ rfl w1.heap.size 26 ia _ 16 128 Tryd.underlying24 hi0 hz0 hz1 hz2 (fnC_size _ _) (by decide) _ i (clC f i) rfl (HA.out.owns 0 rfl) (wx.heap.size + 1) (some ⟨wx.heap.size, 0, none⟩) 1 1 (fnC 16 cc).toList rfl (reads_clk _ _ _ _ rfl) (clk_one16 _) (by unfold maxLen; omega) (by omega) (Nat.le_trans HA.out.bel.size (Nat.le_refl _)) ?_; intro v3 w3 hown hgrow hat; have HF := Lib.hid (HA.out.grow 0 rfl hown hgrow hat); clear hown hgrow hat)))
            go_roundw
            case rel => exact ⟨i + 1, hil, by go_num, by
              have h := HF.out
              rw [clC_succ, ← HCCE.out]
              exact h⟩
            case measure => simp [intOf]; omega
    · obtain rfl : len = i := by omega
      go_wp2_with fail
      go_ret
      exact ⟨A1, cp, rfl, csAt_of (HO.out.owns 0 rfl), Below.trans HRW.out.e (HO.out.bel.mono HRW.out.e.size)⟩
end Go.Proofs.YtocjapnagggapaaDoor
