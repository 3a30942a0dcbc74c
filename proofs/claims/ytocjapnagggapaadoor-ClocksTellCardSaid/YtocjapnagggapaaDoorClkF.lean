/- A fact met: the walk. -/
import Derived.Test.YtocjapnagggapaaDoorClkE
namespace Go.Proofs.YtocjapnagggapaaDoor
open Go.RowKit Go.Maps

theorem joinK_join (f d : Nat → Nat) : fnC 16 (joinK 0 f d 16) = fnC 16 (joinC f d) := fnC_congr fun i hi => by unfold joinK joinC; rw [if_pos (by omega), Nat.sub_zero]
theorem joinK_told (la to d : Nat → Nat) : fnC 32 (joinK 16 (twoF la to) d 16) = cellC la (joinC to d) := fnC_congr fun i hi => by
  unfold joinK twoF joinC
  by_cases h : i < 16
  · rw [if_neg (by omega), if_pos h, if_pos h]
  · rw [if_pos (by omega), if_neg h, if_neg h]
theorem putK_two (la to c d : Nat → Nat) : fnC 32 (putK 16 (putK 0 (twoF la to) c 16) d 16) = cellC c d := fnC_congr fun i hi => by
  unfold putK twoF
  by_cases h : i < 16
  · rw [if_neg (by omega), if_pos (by omega), if_pos h, Nat.sub_zero]
  · rw [if_pos (by omega), if_neg h]
theorem laid_range {w : World} {p : Nat} {t : TypeId} {la to : Nat → Nat} (h : Blk w p t (cellC la to)) : w.rangeAt p 0 (fnC 16 la).toList :=
  range_fn h (by decide) (fun i hi => by unfold twoF; rw [Nat.zero_add, if_pos hi])
theorem told_range {w : World} {p : Nat} {t : TypeId} {la to : Nat → Nat} (h : Blk w p t (cellC la to)) : w.rangeAt p 16 (fnC 16 to).toList :=
  range_fn h (by decide) (fun i hi => by unfold twoF; rw [if_neg (by omega), Nat.add_sub_cancel_left])
theorem byte_wrap (x : Fc) (k : Nat) : IntKind.u64.wrap ((x.addr : Int) + (k : Int)) = (x.byte k : Int) := by rw [IntKind.wrap_u64]; unfold Fc.byte; omega
theorem clkz : Tryd.prog.built 46 [] = some (fnC 16 (fun _ => 0)) := by kernel_rfl
theorem zero_clk (w : World) : (zeroValue 46).run Tryd.prog w = .ok (.agg (fnC 16 (fun _ => 0))) w := by kernel_rfl
theorem book_range {w : World} {g mb : Nat} {nd : Nat → Nat → Nat} {p : Nat} (h : Blk w g 49 (bookC nd mb)) (hp : p < 16) : w.rangeAt g (p * 16) (fnC 16 (nd p)).toList := fun j v hv => by
  have hj : j < 16 := by
    rcases Nat.lt_or_ge j 16 with h1 | h1
    · exact h1
    · rw [List.getElem?_eq_none (by simpa [fnC_size] using h1)] at hv; cases hv
  rw [h.cell, bookC_get _ _ (by omega), show (p * 16 + j) / 16 = p by omega, show (p * 16 + j) % 16 = j by omega]
  have := fnC_get (nd p) (n := 16) hj
  rw [← this, ← hv]
  simp
theorem book_there {W w : World} {os : List Obj} {g n p : Nat} {s : Bk} {c : Nat → Nat} (h : Objs W (bookO g n s :: os) w) (hp : p < 16) : w.there g (p * 16) (fnC 16 c).size := by
  obtain ⟨F, mb, loc, K, hB, _⟩ := h.get 0 _ rfl
  rw [fnC_size]
  intro j hj
  exact ⟨by rw [hB.head.cell, bookC_get _ _ (by omega)]; rfl, Blk.frozen hB.head _⟩
theorem Objs.bookSet {W w : World} {os : List Obj} {g n p : Nat} {s : Bk} (h : Objs W (bookO g n s :: os) w) (hp : p < 16) (c : Nat → Nat) : Objs W (bookO g n ⟨updC s.nd p c, s.la, s.to⟩ :: os) (w.setCells g (p * 16) (fnC 16 c).toList) := by
  obtain ⟨Fs, h1, h2, h3, h4⟩ := h.ex
  match Fs, h1, h2, h3, h4 with
  | F :: Fr, h1, h2, h3, h4 =>
    obtain ⟨mb, loc, K, hB, hK, hF⟩ := h2 0 _ F rfl rfl
    have hlen : (fnC 16 c).toList.length = 16 := by simp [fnC_size]
    obtain ⟨cs', g1, g2, g3⟩ := setCells_get g _ (fnC 16 c).toList (p * 16) w _ hB.head (by rw [bookC_size, hlen]; omega)
    have e : cs' = bookC (updC s.nd p c) mb := by
      apply Array.ext_getElem?
      intro i
      rw [g3 i, hlen]
      rcases Nat.lt_or_ge i 256 with hi | hi
      · rw [bookC_get (updC s.nd p c) _ hi]
        unfold updC
        by_cases h4 : p * 16 ≤ i ∧ i < p * 16 + 16
        · rw [if_pos h4, if_pos (show i / 16 = p by omega)]
          have := fnC_get c (n := 16) (i := i - p * 16) (by omega)
          rw [show i % 16 = i - p * 16 by omega, ← this]
          simp
        · rw [if_neg h4, bookC_get _ _ hi, if_neg (by omega)]
      · rw [if_neg (by omega)]
        rcases Nat.eq_or_lt_of_le hi with e | hi2
        · rw [← e, bookC_map, bookC_map]
        · rw [Array.getElem?_eq_none (by rw [bookC_size]; omega), Array.getElem?_eq_none (by rw [bookC_size]; omega)]
    have hk : Keeps (fun x => x = g) w (w.setCells g (p * 16) (fnC 16 c).toList) := setCells_keep w g _ _
    rw [e] at g1
    exact (h.turned 0 (O' := bookO g n ⟨updC s.nd p c, s.la, s.to⟩) (F := F) (F' := F) h1 h2 h3 h4 rfl ⟨mb, loc, K, ⟨g1, hB.mp.keeps hk hB.apart.1, fun k hk' hh => hk.blk (hB.page k hk' hh) (hB.apart.2 k hk').1, hB.zero, hB.nd, hB.lt, hB.inj, hB.apart⟩, hK, hF⟩ (fun b hb => .inl hb) (hk.mono fun x e => (hF x).2 (.inl e))).1
/-- The book, and what meet holds beside it. -/
abbrev mL (g n : Nat) (s : Bk) (b5 rb fb : Nat) (c z : Nat → Nat) (cs : Array Value) (os : List Obj) : List Obj :=
  bookO g n s :: blkO b5 46 (fnC 16 c) :: blkO rb 46 (fnC 16 z) :: blkO fb 40 cs :: os
set_option maxRecDepth 100000 in
set_option maxHeartbeats 4000000 in
theorem meet_any (g n : Nat) (s : Bk) (cs : Array Value) (x : Fc) (os : List Obj) (W w : World) (hn : n + 16 ≤ 1000) (hx : FcAt cs x) (hok : x.ok = true) (hlt : clockF s x x.nd < 1000000) (h : Objs W (bookO g n s :: os) w) :
    Calls Tryd.prog 17 #[.pointer (some ⟨g, 0, none⟩), .agg cs] w fun e w' => e = .returned (.agg (fnC 16 (clockF s x))) ∧ Objs W (bookO g (n + x.sz + x.sz) (stepS s x) :: os) w' := by
  obtain ⟨hnd, hnode⟩ := Fc.ok_lt hok
  have HX := Lib.hid hx
  have HLT := Lib.hid hlt
  have HW := Lib.hid h.bel.size
  have h1 := h.push cs 40 rfl
  have h2 := h1.push (fnC 16 (fun _ => 0)) 46 (b := w.heap.size + 1) (by simp)
  have HO2 := Lib.hid h2
  have hsz : ((w.alloc (.cells cs 40)).alloc (.cells (fnC 16 (fun _ => 0)) 46)).heap.size = w.heap.size + 2 := by simp
  have HSZ := Lib.hid hsz
  clear h h1 h2 hx hlt hsz
  have z46 := zero_clk
  go_enter Tryd.func17, Tryd.ntmps17
  go_wp2_with fail
  generalize (w.alloc (.cells cs 40)).alloc (.cells (fnC 16 (fun _ => 0)) 46) = w2 at *
  have hfb := HO2.out.blk 1 rfl
  obtain ⟨F, ⟨mb, loc, K, hBK, _⟩⟩ := HO2.out.get 2 _ rfl
  have s1 : ∀ W', Ext w2.drew W' → W'.cell? ⟨w.heap.size, 1, none⟩ = some (.int .i64 (x.nd : Int)) := fun W' h => (h.cell (p := ⟨w.heap.size, 1, none⟩) hfb.lt).trans ((hfb.drew.cell 1).trans (by rw [HX.out.node, hnode]))
  have s2 : ∀ W', Ext w2.drew W' → W'.rangeAt g (x.nd * 16) (fnC 16 (s.nd x.nd)).toList := fun W' h => book_range ((Blkf.below hBK.head.drew h hBK.head.lt)) hnd
  have i0 : (0 : Int) ≤ (x.nd : Int) := by omega
  have i1 : (x.nd : Int) < 16 := by omega
  clear hfb hBK
  refine wp_region_plan [(0, false), (1, false), (2, false), (3, false), (4, false), (5, false), (6, false), (7, true), (8, true)] (by kernel_rfl) (by kernel_rfl) (fun _ d _ _ _ h => by cases d <;> exact h) ?_
  iterate 6 (refine plan_take (v := ?_) rfl (by kernel_rfl) ?_ ?_; rotate_left; (focus (intro w' hw'; try go_simp; try with_reducible rfl)); simp only [Act.put, List.setIfInBounds_toArray, List.set_cons_zero, List.set_cons_succ])
  refine plan_take (v := .agg (fnC 16 (s.nd x.nd))) rfl (by kernel_rfl) (fun w' hw' => run_load_op 46 (.tmp 15) rfl g (x.nd * 16) _ rfl (s2 w' hw') (clk_row _)) ?_
  simp only [Act.put, List.setIfInBounds_toArray, List.set_cons_zero, List.set_cons_succ]
  clear s1 s2
  refine plan_turn rfl (by kernel_rfl) (fun K hK => ?_)
  go_simp
  refine hK _ _ ⟨(Ext.refl _).alloc (Nat.le_refl _) _, ?_⟩
  clear hK K
  have HO3 := Lib.hid (HO2.out.drew.push (fnC 16 (fun _ => 0)) 46 (b := w2.heap.size) rfl)
  clear HO2
  refine plan_last rfl (by kernel_rfl) (by kernel_rfl) (fun K hK => ?_)
  refine wo_row 46 (.tmp 5) (.tmp 16) rfl w2.heap.size 46 (fnC 16 (fun _ => 0)) (fnC 16 (s.nd x.nd)) rfl rfl (HO3.out.blk 0 rfl) (by rw [fnC_size, fnC_size]) (clk_row _) (fnC_one _ _) ?_
  refine hK _ _ ?_
  clear hK K
  have HO4 : Hid (Objs W (mL g n s w2.heap.size (w.heap.size + 1) w.heap.size (s.nd x.nd) (fun _ => 0) cs os) ((w2.alloc (.cells (fnC 16 (fun _ => 0)) 46)).drew.setRow w2.heap.size (fnC 16 (s.nd x.nd)))) := Lib.hid ((HO3.out.row 0 rfl (fnC 16 (s.nd x.nd))).front [_, _, _])
  clear HO3
  refine plan_end ?_
  generalize (w2.alloc (.cells (fnC 16 (fun _ => 0)) 46)).drew.setRow w2.heap.size (fnC 16 (s.nd x.nd)) = w4 at *
  clear HSZ
  generalize w2.heap.size = b5 at *
  generalize w.heap.size + 1 = rb at *
  generalize w.heap.size = fb at *
  have hrf := (HO4.out.blk 3 rfl).range
  go_wp2_with (first | ((with_reducible refine wl_load 40 (.tmp 3) rfl ?_ fb 0 cs ?_ hrf ?_ ?_); exact rfl; exact rfl; exact HX.out.row))
  clear hrf
  refine (size_any cs x w4 HX.out).mono ?_
  rintro e w5 ⟨rfl, hw5⟩
  have HO5 : Hid (Objs W (mL g (n + 0) s b5 rb fb (gatherI s x 0) (fun _ => 0) cs os) w5) := Lib.hid (by rw [← hw5]; exact HO4.out.step (ext_alloc' _ _))
  clear hw5 HO4
  go_wp2_with fail
  go_loopw [19] (fun i wr => ∃ k : Nat, k ≤ x.sz ∧ i = .int .u64 (k : Int) ∧ Objs W (mL g (n + k) s b5 rb fb (gatherI s x k) (fun _ => 0) cs os) wr) (fun i _ => x.sz - (intOf i).toNat)
  case atStart => exact ⟨0, by omega, rfl, HO5.out⟩
  clear HO5
  case round =>
    obtain ⟨k, hk, rfl, hO⟩ := hrel
    have HO := Lib.hid hO
    clear hO
    by_cases hks : k < x.sz
    · have hki : (k : Int) < (x.sz : Int) := by omega
      have hk8 : k < 8 := by have := x.sz_le; omega
      have hwb := byte_wrap x k
      have hbx := HO.out.blk 3 rfl
      have c12 : wr.cell? ⟨fb, 12, none⟩ = some (.int .u64 (x.addr : Int)) := (hbx.cell 12).trans HX.out.addr
      have hfl := hbx.lt
      clear hbx
      go_wp2_with fail
      clear c12 hfl hwb
      refine (cell_any g (n + k) (x.byte k) s _ W _ (by unfold Fc.byte; omega) (by omega) HO.out).mono ?_
      rintro e w6 ⟨p, rfl, hO6⟩
      have HO6 := Lib.hid hO6
      clear hO6 HO
      have hr := laid_range (HO6.out.blk 0 rfl)
      go_wp2_with (first | ((with_reducible refine wl_load 46 (.tmp 31) rfl ?_ p 0 (fnC 16 (s.la (x.byte k))) ?_ hr ?_ ?_); exact rfl; exact rfl; exact clk_row _))
      clear hr
      refine (HO6.out.joinO 2 rfl 0 (s.la (x.byte k)) (by decide)).mono ?_
      rintro e w7 ⟨rfl, hO7⟩
      have HO7 : Hid (Objs W (blkO p 74 (cellC (s.la (x.byte k)) (s.to (x.byte k))) :: holeO g (n + k + 1) s (x.byte k) p :: blkO b5 46 (fnC 16 (joinC (gatherI s x k) (s.la (x.byte k)))) :: blkO rb 46 (fnC 16 (fun _ => 0)) :: blkO fb 40 cs :: os) w7) := Lib.hid (by rw [← joinK_join]; exact hO7)
      clear hO7 HO6
      have hrf := (HO7.out.blk 4 rfl).range
      go_wp2_with (first | ((with_reducible refine wl_load 40 (.tmp 3) rfl ?_ fb 0 cs ?_ hrf ?_ ?_); exact rfl; exact rfl; exact HX.out.row))
      clear hrf
      refine (lays_any cs x w7 HX.out).mono ?_
      rintro e w8 ⟨rfl, hw8⟩
      have HO8 := Lib.hid (HO7.out.step (ext_alloc' w7 (.cells cs 40)))
      rw [hw8] at HO8
      clear hw8 HO7
      cases hl : x.lays with
      | false =>
        have hG : gatherI s x (k + 1) = joinC (gatherI s x k) (s.la (x.byte k)) := by rw [gatherI, if_neg (by rw [hl]; decide)]
        have HF : Hid (Objs W (mL g (n + (k + 1)) s b5 rb fb (gatherI s x (k + 1)) (fun _ => 0) cs os) w8) := Lib.hid (by
          have h := HO8.out.close
          rw [putS_same] at h
          rw [hG]; exact h)
        clear HO8 hG
        go_wp2_with fail
        go_roundw
        case rel => exact ⟨k + 1, hks, by go_num, HF.out⟩
        case measure => simp [intOf]; omega
      | true =>
        have hG : gatherI s x (k + 1) = joinC (joinC (gatherI s x k) (s.la (x.byte k))) (s.to (x.byte k)) := by rw [gatherI, if_pos hl]
        have hr := told_range (HO8.out.blk 0 rfl)
        go_wp2_with (first | ((with_reducible refine wl_load 46 (.tmp 38) rfl ?_ p 16 (fnC 16 (s.to (x.byte k))) ?_ hr ?_ ?_); exact rfl; exact rfl; exact clk_row _))
        clear hr
        refine (HO8.out.joinO 2 rfl 0 (s.to (x.byte k)) (by decide)).mono ?_
        rintro e w9 ⟨rfl, hO9⟩
        have HF : Hid (Objs W (mL g (n + (k + 1)) s b5 rb fb (gatherI s x (k + 1)) (fun _ => 0) cs os) w9) := Lib.hid (by
          have h := Objs.close hO9
          rw [putS_same] at h
          unfold mL
          rw [hG, ← joinK_join]; exact h)
        clear HO8 hO9 hG
        go_wp2_with fail
        go_roundw
        case rel => exact ⟨k + 1, hks, by go_num, HF.out⟩
        case measure => simp [intOf]; omega
    · obtain rfl : k = x.sz := by omega
      have hbc := HO.out.blk 1 rfl
      have hbx := HO.out.blk 3 rfl
      have c1 : wr.cell? ⟨fb, 1, none⟩ = some (.int .i64 (x.nd : Int)) := (hbx.cell 1).trans (by rw [HX.out.node, hnode])
      have cc : wr.cell? ⟨b5, x.nd, none⟩ = some (.int .i64 (gatherI s x x.sz x.nd : Int)) := (hbc.cell _).trans (fnC_get _ hnd)
      have hfl := hbx.lt
      have hbl := hbc.lt
      have hfz := Blk.frozen hbc x.nd
      have hadd : IntKind.i64.wrap ((gatherI s x x.sz x.nd : Int) + 1) = (clockF s x x.nd : Int) := by
        have := HLT.out
        have e : clockF s x x.nd = gatherI s x x.sz x.nd + 1 := by unfold clockF one; simp
        rw [e] at this ⊢
        rw [IntKind.wrap_i64]; omega
      have HO9 : Hid (Objs W (mL g (n + x.sz) s b5 rb fb (clockF s x) (fun _ => 0) cs os) (wr.setCell ⟨b5, x.nd, none⟩ (.int .i64 (clockF s x x.nd : Int)))) := Lib.hid (by
        have h := HO.out.set_ 1 rfl x.nd (.int .i64 (clockF s x x.nd : Int))
        rw [fnC_set _ hnd, show (fun j => if j = x.nd then clockF s x x.nd else gatherI s x x.sz j) = clockF s x by
          funext j
          by_cases e : j = x.nd
          · rw [if_pos e, e]
          · have e2 : ¬ x.nd = j := fun h => e h.symm
            rw [if_neg e]; unfold clockF one; simp [e2]] at h
        exact h)
      clear hbx hbc
      have hrf := (HO9.out.blk 3 rfl).range
      go_wp2_with (first | ((with_reducible refine wl_load 40 (.tmp 3) rfl ?_ fb 0 cs ?_ hrf ?_ ?_); exact rfl; exact rfl; exact HX.out.row))
      clear hrf c1 cc hfl hbl hfz hadd HO
      generalize wr.setCell ⟨b5, x.nd, none⟩ (.int .i64 (clockF s x x.nd : Int)) = y1 at *
      refine (size_any cs x y1 HX.out).mono ?_
      rintro e y2 ⟨rfl, hy2⟩
      have HO10 : Hid (Objs W (mL g (n + x.sz + 0) (midS s x (clockF s x) 0) b5 rb fb (clockF s x) (fun _ => 0) cs os) y2) := Lib.hid (by rw [← hy2]; exact HO9.out.step (ext_alloc' _ _))
      clear hy2 HO9
      go_wp2_with fail
      go_loopw [50] (fun i wr => ∃ k : Nat, k ≤ x.sz ∧ i = .int .u64 (k : Int) ∧ Objs W (mL g (n + x.sz + k) (midS s x (clockF s x) k) b5 rb fb (clockF s x) (fun _ => 0) cs os) wr) (fun i _ => x.sz - (intOf i).toNat)
      case atStart => exact ⟨0, by omega, rfl, HO10.out⟩
      clear HO10
      case round =>
        obtain ⟨k, hk, rfl, hO⟩ := hrel
        have HO := Lib.hid hO
        clear hO
        by_cases hks : k < x.sz
        · have hki : (k : Int) < (x.sz : Int) := by omega
          have hk8 : k < 8 := by have := x.sz_le; omega
          have hwb := byte_wrap x k
          have hbx := HO.out.blk 3 rfl
          have c12 : wr.cell? ⟨fb, 12, none⟩ = some (.int .u64 (x.addr : Int)) := (hbx.cell 12).trans HX.out.addr
          have hfl := hbx.lt
          clear hbx
          go_wp2_with fail
          clear c12 hfl hwb
          refine (cell_any g (n + x.sz + k) (x.byte k) (midS s x (clockF s x) k) _ W _ (by unfold Fc.byte; omega) (by have := x.sz_le; omega) HO.out).mono ?_
          rintro e w6 ⟨p, rfl, hO6⟩
          have HO6 := Lib.hid hO6
          clear hO6 HO
          have hrf := (HO6.out.blk 4 rfl).range
          go_wp2_with (first | ((with_reducible refine wl_load 40 (.tmp 3) rfl ?_ fb 0 cs ?_ hrf ?_ ?_); exact rfl; exact rfl; exact HX.out.row))
          clear hrf
          refine (lays_any cs x w6 HX.out).mono ?_
          rintro e w8 ⟨rfl, hw8⟩
          have HO8 := Lib.hid (HO6.out.step (ext_alloc' w6 (.cells cs 40)))
          rw [hw8] at HO8
          clear hw8 HO6
          cases hl : x.lays with
          | true =>
            have hM : midS s x (clockF s x) (k + 1) = putS (midS s x (clockF s x) k) (x.byte k) (clockF s x) (fun _ => 0) := by rw [midS, if_pos hl]; rfl
            have hrc := (HO8.out.blk 2 rfl).range
            have HM1 := Lib.hid (HO8.out.mid 0 (d := clockF s x) (off := 0) rfl (by decide))
            have HM2 := Lib.hid (HM1.out.mid 0 (d := fun _ => 0) (off := 16) rfl (by decide))
            have ht1 := there_fn (off := 0) (d := clockF s x) (HO8.out.blk 0 rfl) (by decide)
            have ht2 := there_fn (off := 16) (d := fun _ => 0) (HM1.out.blk 0 rfl) (by decide)
            go_wp2_with (first | ((with_reducible refine wl_load 46 (.tmp 5) rfl ?_ b5 0 (fnC 16 (clockF s x)) ?_ hrc ?_ ?_); exact rfl; exact rfl; exact clk_row _) | ((with_reducible refine wl_build0 46 rfl rfl (fnC 16 (fun _ => 0)) clkz ?_)) | ((with_reducible refine wl_mid 46 (.tmp 67) (.tmp 64) rfl ?_ p 0 (fnC 16 (clockF s x)) ?_ ?_ ht1 (clk_row _) (fnC_one _ _) ?_); exact rfl; exact rfl; exact rfl) | ((with_reducible refine wl_mid 46 (.tmp 69) (.tmp 65) rfl ?_ p 16 (fnC 16 (fun _ => 0)) ?_ ?_ ht2 (clk_row _) (fnC_one _ _) ?_); exact rfl; exact rfl; exact rfl))
            go_roundw
            case rel => exact ⟨k + 1, hks, by go_num, by
              have h := HM2.out
              rw [putK_two] at h
              have h := Objs.close h
              rw [hM]; exact h⟩
            case measure => simp [intOf]; omega
          | false =>
            have hM : midS s x (clockF s x) (k + 1) = putS (midS s x (clockF s x) k) (x.byte k) ((midS s x (clockF s x) k).la (x.byte k)) (joinC ((midS s x (clockF s x) k).to (x.byte k)) (clockF s x)) := by
              rw [midS, if_neg (by rw [hl]; decide)]
              unfold putS
              congr 1
              funext j
              unfold updC
              split
              · rename_i e; rw [e]
              · rfl
            have hrc : ∀ W', SameL [b5] w8.drew W' → W'.rangeAt b5 0 (fnC 16 (clockF s x)).toList := fun W' h => (h.blk (by simp) ((HO8.out.blk 2 rfl).drew)).range
            go_wp2_with fail
            refine wp_region_plan_by (SameL [b5]) (later_same _) [(0, false), (1, false), (2, false), (3, false), (4, true)] (by kernel_rfl) (by kernel_rfl) (fun _ d _ _ _ h => by cases d <;> exact h) ?_
            iterate 3 (refine plan_take (v := ?_) rfl (by kernel_rfl) ?_ ?_; rotate_left; (focus (intro w' hw'; try go_simp; try with_reducible rfl)); simp only [Act.put, List.setIfInBounds_toArray, List.set_cons_zero, List.set_cons_succ])
            refine plan_take (v := .agg (fnC 16 (clockF s x))) rfl (by kernel_rfl) (fun w' hw' => run_load_op 46 (.tmp 5) rfl b5 0 _ rfl (hrc w' hw') (clk_row _)) ?_
            simp only [Act.put, List.setIfInBounds_toArray, List.set_cons_zero, List.set_cons_succ]
            refine plan_call rfl (by kernel_rfl) (by go_simp; exact ⟨rfl, rfl⟩) ?_
            refine (HO8.out.drew.joinO 0 rfl 16 (clockF s x) (by decide)).mono ?_
            rintro e w9 ⟨rfl, hO9⟩
            have hsm : SameL [b5] w8.drew w9 := fun q hq => by
              simp only [List.mem_singleton] at hq
              subst hq
              exact (hO9.blk 2 rfl).trans (HO8.out.drew.blk 2 rfl).symm
            refine ⟨_, rfl, hsm, ?_⟩
            simp only [Act.put, List.setIfInBounds_toArray, List.set_cons_zero, List.set_cons_succ]
            refine plan_end ?_
            have HF : Hid (Objs W (mL g (n + x.sz + (k + 1)) (midS s x (clockF s x) (k + 1)) b5 rb fb (clockF s x) (fun _ => 0) cs os) w9) := Lib.hid (by
              rw [joinK_told] at hO9
              have h := Objs.close hO9
              rw [hM]; exact h)
            clear HO8 hO9 hsm hrc hM
            go_wp2_with fail
            go_roundw
            case rel => exact ⟨k + 1, hks, by go_num, HF.out⟩
            case measure => simp [intOf]; omega
        · obtain rfl : k = x.sz := by omega
          have hbx := HO.out.blk 3 rfl
          have hbc := HO.out.blk 1 rfl
          have i0 : (0 : Int) ≤ (x.nd : Int) := by omega
          have i1 : (x.nd : Int) < 16 := by omega
          have s1 : ∀ W', Ext wr.drew W' → W'.cell? ⟨fb, 1, none⟩ = some (.int .i64 (x.nd : Int)) := fun W' h => (h.cell (p := ⟨fb, 1, none⟩) hbx.lt).trans ((hbx.drew.cell 1).trans (by rw [HX.out.node, hnode]))
          have s2 : ∀ W', Ext wr.drew W' → W'.rangeAt b5 0 (fnC 16 (clockF s x)).toList := fun W' h => (Blkf.below hbc.drew h hbc.lt).range
          clear hbx hbc
          go_wp2_with fail
          refine wp_region_plan [(0, false), (1, false), (2, false), (3, false), (4, false), (5, false), (6, false), (7, true)] (by kernel_rfl) (by kernel_rfl) (fun _ d _ _ _ h => by cases d <;> exact h) ?_
          iterate 3 (refine plan_take (v := ?_) rfl (by kernel_rfl) ?_ ?_; rotate_left; (focus (intro w' hw'; try go_simp; try with_reducible rfl)); simp only [Act.put, List.setIfInBounds_toArray, List.set_cons_zero, List.set_cons_succ])
          refine plan_take (v := .agg (fnC 16 (clockF s x))) rfl (by kernel_rfl) (fun w' hw' => run_load_op 46 (.tmp 5) rfl b5 0 _ rfl (s2 w' hw') (clk_row _)) ?_
          simp only [Act.put, List.setIfInBounds_toArray, List.set_cons_zero, List.set_cons_succ]
          iterate 3 (refine plan_take (v := ?_) rfl (by kernel_rfl) ?_ ?_; rotate_left; (focus (intro w' hw'; try go_simp; try with_reducible rfl)); simp only [Act.put, List.setIfInBounds_toArray, List.set_cons_zero, List.set_cons_succ])
          clear s1 s2
          refine plan_last rfl (by kernel_rfl) (by kernel_rfl) (fun K hK => ?_)
          refine wo_store 46 (.tmp 82) (.tmp 79) rfl g (x.nd * 16) (fnC 16 (clockF s x)) rfl rfl (book_there HO.out.drew hnd) (clk_row _) (fnC_one _ _) ?_
          refine hK _ _ ?_
          clear hK K
          have HF := Lib.hid (HO.out.drew.bookSet hnd (clockF s x))
          clear HO
          refine plan_end ?_
          generalize wr.drew.setCells g (x.nd * 16) (fnC 16 (clockF s x)).toList = y3 at *
          have hrc := (HF.out.blk 1 rfl).range
          have HBR := Lib.hid (HF.out.blk 2 rfl)
          have HF2 := Lib.hid (HF.out.row 2 rfl (fnC 16 (clockF s x)))
          go_wp2_with (first | ((with_reducible refine wl_load 46 (.tmp 5) rfl ?_ b5 0 (fnC 16 (clockF s x)) ?_ hrc ?_ ?_); exact rfl; exact rfl; exact clk_row _) | ((with_reducible refine wl_store 46 (.tmp 4) (.tmp 83) rfl ?_ rb 46 (fnC 16 (fun _ => 0)) (fnC 16 (clockF s x)) ?_ ?_ HBR.out ?_ ?_ ?_ ?_); exact rfl; exact rfl; exact rfl; exact rfl; exact clk_row _; exact fnC_one _ _))
          refine bodyPost_ret (res_cell rfl _ _ rb 46 (fnC 16 (clockF s x)) rfl (HF2.out.blk 2 rfl) (clk_row _)) rfl ?_
          refine ⟨rfl, ?_⟩
          have h := HF2.out.sub (os' := bookO g (n + x.sz + x.sz) ⟨updC (midS s x (clockF s x) x.sz).nd x.nd (clockF s x), (midS s x (clockF s x) x.sz).la, (midS s x (clockF s x) x.sz).to⟩ :: os) (fun i => if i = 0 then 0 else i + 3) (fun i O hO => by
            cases i with
            | zero => exact hO
            | succ i => exact hO) (fun i j _ _ e => by split at e <;> split at e <;> omega)
          unfold stepS
          rw [if_pos hok]
          exact h
end Go.Proofs.YtocjapnagggapaaDoor
