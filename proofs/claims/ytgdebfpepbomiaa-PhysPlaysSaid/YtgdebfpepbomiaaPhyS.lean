/- PhysPlays. -/
import Derived.Test.YtgdebfpepbomiaaPhyT
import Derived.Test.YtgdebfpepbomiaaORows
namespace Go.Proofs.Ytgdebfpepbomiaa
open Go.RowKit

structure OpV where
  kind : Int
  size : Int
  frame : Int
  at_ : Nat
  v : Nat
  A : Option Addr
  l : List Nat
  c : Nat
structure OpAt (w : World) (b p : Nat) (x : OpV) : Prop where
  c0 : w.cell? ⟨b, p, none⟩ = some (.int .i64 x.kind)
  c1 : w.cell? ⟨b, p + 1, none⟩ = some (.int .i64 x.size)
  c2 : w.cell? ⟨b, p + 2, none⟩ = some (.int .i64 x.frame)
  c3 : w.cell? ⟨b, p + 3, none⟩ = some (.int .u64 (x.at_ : Int))
  c4 : w.cell? ⟨b, p + 4, none⟩ = some (.int .u64 (x.v : Int))
  c5 : w.cell? ⟨b, p + 5, none⟩ = some (.slice x.A x.l.length x.c)
  hb : Bts w x.A x.l
  ha : x.at_ < 18446744073709551616
  hv : x.v < 18446744073709551616
theorem ops_of {w : World} {a : Option Addr} {len cap : Nat} (h : IsRows [.int .i64, .int .i64, .int .i64, .int .u64, .int .u64, .ints .u8] w a len cap) (hp : 0 < len) : ∃ b o, a = some ⟨b, o, none⟩ ∧ b < w.heap.size ∧ ∀ i, i < len → ∃ x, OpAt w b (o + i * 6) x := by
  rcases h with ⟨_, rfl, _⟩ | ⟨x, rfl, hl, hm, hc⟩
  · omega
  · obtain ⟨v, h0, _⟩ := hc 0 (by omega) 0 _ rfl
    obtain ⟨b, o, spot⟩ := x
    have hspot : spot = none := by simpa [Addr.add] using World.cell?_spot h0
    subst hspot
    have ea : ∀ k, (⟨b, o, none⟩ : Addr).add k = ⟨b, o + k, none⟩ := fun k => by unfold Addr.add; split <;> simp_all
    rw [ea] at h0
    refine ⟨b, o, rfl, World.block_lt_of_cell? _ _ h0, fun i hi => ?_⟩
    obtain ⟨_, k0, y0, rfl, _⟩ := hc i (by omega) 0 _ rfl
    obtain ⟨_, k1, y1, rfl, _⟩ := hc i (by omega) 1 _ rfl
    obtain ⟨_, k2, y2, rfl, _⟩ := hc i (by omega) 2 _ rfl
    obtain ⟨_, k3, y3, rfl, w3⟩ := hc i (by omega) 3 _ rfl
    obtain ⟨_, k4, y4, rfl, w4⟩ := hc i (by omega) 4 _ rfl
    obtain ⟨_, k5, A, l5, c5, zs, rfl, w5⟩ := hc i (by omega) 5 _ rfl
    obtain ⟨a3, rfl⟩ := Int.eq_ofNat_of_zero_le (u64_of_wf w3).1
    obtain ⟨a4, rfl⟩ := Int.eq_ofNat_of_zero_le (u64_of_wf w4).1
    obtain ⟨l, rfl, hB, _⟩ := bts_of_row w5
    rw [ea] at k0 k1 k2 k3 k4 k5
    exact ⟨⟨y0, y1, y2, a3, a4, A, l, c5⟩, k0, k1, k2, k3, k4, k5, hB, by show a3 < _; have := (u64_of_wf w3).2; omega, by show a4 < _; have := (u64_of_wf w4).2; omega⟩
theorem Play.drew {W w : World} {P : Nat → Prop} {gm xb n : Nat} {L : List (Nat × Nat)} {S : Nat → List Nat} (h : Play W P gm xb n L S w) : Play W P gm xb n L S w.drew := h.keep (H := fun _ => False) (Keeps.refl _ _).drew (fun _ h => h.elim)
theorem play_start {W w1 : World} {g n : Nat} (h : Mem w1 g (fun b => W.heap.size ≤ b) n emptyS) (hb : Below W.heap.size W w1) : Play W (fun _ => False) g w1.heap.size n [] emptyS (w1.alloc (.cells #[.int .i64 (n : Int), .slice none 0 0] 40)) := by
  have ha : Below w1.heap.size w1 (w1.alloc (.cells #[.int .i64 (n : Int), .slice none 0 0] 40)) := (Below.refl _ _).alloc (Nat.le_refl _) _
  refine ⟨fun b => W.heap.size ≤ b ∧ b < w1.heap.size, fun b => b = w1.heap.size, h.tight.below ha, ⟨none, 0, Blkf.new_at _ _ _ _ rfl, fun h => by simp at h, rfl, fun g hg => by subst hg; simp⟩, fun b hb' => ⟨hb'.1, by simp; omega⟩, fun b hb' => by subst hb'; exact hb.size, fun b h1 h2 => by omega, fun b h => h.elim, hb.alloc hb.size _⟩
set_option maxHeartbeats 4000000 in
set_option maxRecDepth 20000 in
theorem plays_some (fr b o len cap : Nat) (W : World) (hf : fr < 256) (hbl : b < W.heap.size) (hO : ∀ i, i < len → ∃ x, OpAt W b (o + i * 6) x) (hlen : len ≤ 9223372036854775807) :
    Calls Try.prog 4 #[.int .u8 (fr : Int), .slice (some ⟨b, o, none⟩) len cap] W fun e w' => e = .returned (.bool true) ∧ Below W.heap.size W w' := by
  have HO := Lib.hid hO
  have hfi : (fr : Int) < 256 := by omega
  have hmod : (fr : Int) % 4 = ((fr % 4 : Nat) : Int) := by simp
  have HMOD := Lib.hid hmod
  clear hO hmod
  go_enter Try.func4, Try.ntmps4
  go_wp2_with fail
  refine (first_ok _).mono ?_
  rintro e w0 ⟨rfl, hb⟩
  have HB0 := Lib.hid hb
  clear hb
  go_wp2_with fail
  rw [HMOD.out, show (1 : Int) + ((fr % 4 : Nat) : Int) = ((1 + fr % 4 : Nat) : Int) from rfl]
  have HN : Hid (1 ≤ 1 + fr % 4 ∧ 1 + fr % 4 ≤ 4) := Lib.hid (by omega)
  generalize 1 + fr % 4 = n at *
  refine (new_yes n _ HN.out.1 (by have := HN.out.2; omega)).mono ?_
  rintro e w1 ⟨g, rfl, hm, hb⟩
  have HP0 := Lib.hid (play_start (W := W) (hm.mono (fun b hb' => Nat.le_trans HB0.out.size hb')) (HB0.out.trans (hb.mono HB0.out.size)))
  clear hm hb
  go_wp2_with fail
  generalize w1.alloc (.cells #[.int .i64 (n : Int), .slice none 0 0] 40) = W1 at *
  generalize w1.heap.size = xb at *
  go_wp2_with fail
  go_loopw [42] (fun i wr => ∃ k : Nat, k ≤ len ∧ i = .int .i64 k ∧ ∃ L S, Play W (fun _ => False) g xb n L S wr ∧ Rel n L S) (fun i _ => len - (intOf i).toNat)
  case atStart => exact ⟨0, by omega, rfl, [], emptyS, HP0.out, Rel.empty n⟩
  case round =>
    obtain ⟨k, hk, rfl, L, S, hp, hr⟩ := hrel
    have HP := Lib.hid hp
    have HR := Lib.hid hr
    clear hp hr
    by_cases hkl : k < len
    · obtain ⟨x, hx⟩ := HO.out k hkl
      have hbel := HP.out.bel
      have c0 := (hbel.cell (p := ⟨b, o + k * 6, none⟩) hbl).trans hx.c0
      have c1 := (hbel.cell (p := ⟨b, o + k * 6 + 1, none⟩) hbl).trans hx.c1
      have c2 := (hbel.cell (p := ⟨b, o + k * 6 + 2, none⟩) hbl).trans hx.c2
      have c3 := (hbel.cell (p := ⟨b, o + k * 6 + 3, none⟩) hbl).trans hx.c3
      have c4 := (hbel.cell (p := ⟨b, o + k * 6 + 4, none⟩) hbl).trans hx.c4
      have c5 := (hbel.cell (p := ⟨b, o + k * 6 + 5, none⟩) hbl).trans hx.c5
      have HHB := Lib.hid hx.hb
      have HHA := Lib.hid hx.ha
      have HHV := Lib.hid hx.hv
      clear hbel hx
      obtain ⟨kind, size, frame, at_, v, A, l, c⟩ := x
      simp only at c0 c1 c2 c3 c4 c5 HHB HHA HHV
      by_cases h60 : 60 ≤ k
      · have i60 : (60 : Int) ≤ (k : Int) := by omega
        go_wp2_with fail
        obtain ⟨F, G, g1, _⟩ := HP.out
        refine (frames_any g F n S _ (g1.below ((Below.refl _ _).alloc (Nat.le_refl _) _))).mono ?_
        rintro e w ⟨rfl, rfl⟩
        go_wp2_with fail
        go_ret
        exact ⟨rfl, HP.out.bel.alloc HP.out.bel.size _⟩
      · have i60 : ¬ (60 : Int) ≤ (k : Int) := by omega
        by_cases h5 : 5000 < l.length
        · have i5 : (5000 : Int) < (l.length : Int) := by omega
          go_wp2_with fail
          obtain ⟨F, G, g1, _⟩ := HP.out
          refine (frames_any g F n S _ (g1.below ((Below.refl _ _).alloc (Nat.le_refl _) _))).mono ?_
          rintro e w ⟨rfl, rfl⟩
          go_wp2_with fail
          go_ret
          exact ⟨rfl, HP.out.bel.alloc HP.out.bel.size _⟩
        · have i5 : ¬ (5000 : Int) < (l.length : Int) := by omega
          obtain ⟨u, hu⟩ : ∃ u : Nat, IntKind.u64.wrap kind = (u : Int) := ⟨(IntKind.u64.wrap kind).toNat, by rw [IntKind.wrap_u64]; omega⟩
          have hub : (u : Int) < 18446744073709551616 := by rw [← hu, IntKind.wrap_u64]; omega
          have hal : Below wr.heap.size wr (wr.alloc (.cells #[.int .i64 kind, .int .i64 size, .int .i64 frame, .int .u64 (at_ : Int), .int .u64 (v : Int), .slice A l.length c] 42)) := (Below.refl _ _).alloc (Nat.le_refl _) _
          have HPO := Lib.hid ((HP.out.add (b := wr.heap.size) hal (Nat.le_refl _) (by simp)).only (Q := fun c => c = wr.heap.size) (fun b hb => .inr hb))
          have HOB : Hid (Blk (wr.alloc (.cells #[.int .i64 kind, .int .i64 size, .int .i64 frame, .int .u64 (at_ : Int), .int .u64 (v : Int), .slice A l.length c] 42)) wr.heap.size 42 #[.int .i64 kind, .int .i64 size, .int .i64 frame, .int .u64 (at_ : Int), .int .u64 (v : Int), .slice A l.length c]) := Lib.hid (Blkf.new_at _ _ _ _ rfl)
          have HBO := Lib.hid (bts_below HHB.out (HP.out.bel.trans (hal.mono HP.out.bel.size)))
          clear hal
          rcases (show u % 5 = 0 ∨ u % 5 = 2 ∨ u % 5 = 4 ∨ (u % 5 = 1 ∨ u % 5 = 3) by omega) with hm | hm | hm | hm
          · have j0 : ((u : Int) % 5 == 0) = true := by rw [show (u : Int) % 5 = 0 by omega]; rfl
            have j2 : ((u : Int) % 5 == 2) = false := by rw [show (u : Int) % 5 = 0 by omega]; rfl
            have j4 : ((u : Int) % 5 == 4) = false := by rw [show (u : Int) % 5 = 0 by omega]; rfl
            clear hm
            go_wp2_with fail
            generalize wr.alloc (.cells #[.int .i64 kind, .int .i64 size, .int .i64 frame, .int .u64 (at_ : Int), .int .u64 (v : Int), .slice A l.length c] 42) = w2 at *
            generalize hob : wr.heap.size = ob at *
            clear c0 c1 c2 c3 c4 c5
            have hob2 := HOB.out
            have s1 := fun (W' : World) (h : W'.heap[ob]? = w2.drew.heap[ob]?) => (World.cell?_of_block (a := ⟨ob, 1, none⟩) h).trans (hob2.cell 1)
            have s3 := fun (W' : World) (h : W'.heap[ob]? = w2.drew.heap[ob]?) => (World.cell?_of_block (a := ⟨ob, 3, none⟩) h).trans (hob2.cell 3)
            have s4 := fun (W' : World) (h : W'.heap[ob]? = w2.drew.heap[ob]?) => (World.cell?_of_block (a := ⟨ob, 4, none⟩) h).trans (hob2.cell 4)
            simp at s1 s3 s4
            clear hob2
            refine wp_region_plan_by (fun u u' => u'.heap[ob]? = u.heap[ob]?) ⟨fun _ => rfl, fun h k => k.trans h⟩ [(0, false), (1, false), (2, false), (3, false), (4, false), (5, false), (6, false), (8, false), (9, false), (10, false), (11, false), (12, false), (13, false), (14, false), (7, true), (15, true), (16, false)] (by kernel_rfl) (by kernel_rfl) (fun _ d _ _ _ h => by cases d <;> exact h) ?_
            iterate 14 (refine plan_take (v := ?_) rfl (by kernel_rfl) ?_ ?_; rotate_left; (focus (intro w' hw'; go_simp; try with_reducible rfl)); simp only [Act.put, List.setIfInBounds_toArray, List.set_cons_zero, List.set_cons_succ])
            clear s1 s3 s4
            refine plan_call rfl (by kernel_rfl) (by go_simp; exact ⟨rfl, rfl⟩) ?_
            refine (p_store HPO.out.drew at_ v size HHA.out HHV.out).mono ?_
            rintro e w3 ⟨rfl, hp3, hs3⟩
            refine ⟨_, rfl, hs3 ob rfl, ?_⟩
            simp only [Act.put, List.setIfInBounds_toArray, List.set_cons_zero, List.set_cons_succ]
            refine plan_call rfl (by kernel_rfl) (by go_simp; exact ⟨rfl, rfl⟩) ?_
            refine (p_rstore hp3 at_ v size HN.out.2 HHA.out HHV.out (by have := HR.out.short; have := HN.out.2; omega)).mono ?_
            rintro e w4 ⟨rfl, hp4, hs4⟩
            refine ⟨_, rfl, hs4 ob rfl, ?_⟩
            simp only [Act.put, List.setIfInBounds_toArray, List.set_cons_zero, List.set_cons_succ]
            have hob4 : Blk w4 ob 42 _ := (hs4 ob rfl).trans ((hs3 ob rfl).trans HOB.out)
            have HP4 := Lib.hid hp4
            have HR4 := Lib.hid (HR.out.store at_ size v)
            clear hp3 hs3 hp4 hs4
            iterate 1 (refine plan_take (v := ?_) rfl (by kernel_rfl) ?_ ?_; rotate_left; (focus (intro w' hw'; go_simp; try with_reducible rfl)); simp only [Act.put, List.setIfInBounds_toArray, List.set_cons_zero, List.set_cons_succ])
            refine plan_end ?_
            have d1 := hob4.cell 1
            have d3 := hob4.cell 3
            simp at d1 d3
            clear hob4
            generalize hz : chkE n at_ size = z at *
            go_wp2_with fail
            refine (p_load HP4.out at_ size HHA.out).mono ?_
            rintro e w ⟨rfl, rfl⟩
            go_wp2_with fail
            refine (p_rload HP4.out at_ size HN.out.2 HHA.out (by have := HR4.out.short; have := HN.out.2; omega) HR4.out.b).mono ?_
            rintro e w9 ⟨rfl, hb⟩
            rw [HR4.out.load]
            have HP9 := Lib.hid ((HP4.out.below hb).only (Q := fun _ => False) (fun _ h => h.elim))
            generalize ldR n (stR n S at_ size v) at_ size = x9
            rw [hz]
            clear hb
            go_wp2_with fail
            go_roundw
            case rel => exact ⟨k + 1, hkl, by go_num, (stE n L at_ size v), (stR n S at_ size v), HP9.out, HR4.out⟩
            case measure => simp [intOf]; omega
          · have j0 : ((u : Int) % 5 == 0) = false := by rw [show (u : Int) % 5 = 2 by omega]; rfl
            have j2 : ((u : Int) % 5 == 2) = true := by rw [show (u : Int) % 5 = 2 by omega]; rfl
            have j4 : ((u : Int) % 5 == 4) = false := by rw [show (u : Int) % 5 = 2 by omega]; rfl
            clear hm
            go_wp2_with fail
            generalize wr.alloc (.cells #[.int .i64 kind, .int .i64 size, .int .i64 frame, .int .u64 (at_ : Int), .int .u64 (v : Int), .slice A l.length c] 42) = w2 at *
            generalize hob : wr.heap.size = ob at *
            clear c0 c1 c2 c3 c4 c5
            refine (p_swap HPO.out at_ v size HHA.out HHV.out).mono ?_
            rintro e w3 ⟨rfl, hp3, hs3⟩
            have HP3 := Lib.hid hp3
            have hob3 : Blk w3 ob 42 _ := (hs3 ob rfl).trans HOB.out
            have HOB3 := Lib.hid hob3
            have d1 := hob3.cell 1
            have d3 := hob3.cell 3
            simp at d1 d3
            clear hp3 hs3 hob3
            go_wp2_with fail
            refine (p_rload HP3.out at_ size HN.out.2 HHA.out (by have := HR.out.short; have := HN.out.2; omega) HR.out.b).mono ?_
            rintro e w5 ⟨rfl, hb5⟩
            rw [HR.out.load]
            have HP5 := Lib.hid (HP3.out.below hb5)
            have hob5 : Blk w5 ob 42 _ := HOB3.out.below hb5 HOB3.out.lt
            have HOB5 := Lib.hid hob5
            clear d1 d3
            have d1 := hob5.cell 1
            have d3 := hob5.cell 3
            have d4 := hob5.cell 4
            simp at d1 d3 d4
            clear hb5 hob5
            go_wp2_with fail
            refine (p_rstore HP5.out at_ v size HN.out.2 HHA.out HHV.out (by have := HR.out.short; have := HN.out.2; omega)).mono ?_
            rintro e w4 ⟨rfl, hp4, hs4⟩
            have hob4 : Blk w4 ob 42 _ := (hs4 ob rfl).trans HOB5.out
            have HP4 := Lib.hid hp4
            have HR4 := Lib.hid (HR.out.store at_ size v)
            clear d1 d3 d4 hp4 hs4
            have d1 := hob4.cell 1
            have d3 := hob4.cell 3
            simp at d1 d3
            clear hob4
            generalize ldR n S at_ size = y3 at *
            generalize hz : chkE n at_ size = z at *
            go_wp2_with fail
            refine (p_load HP4.out at_ size HHA.out).mono ?_
            rintro e w ⟨rfl, rfl⟩
            go_wp2_with fail
            refine (p_rload HP4.out at_ size HN.out.2 HHA.out (by have := HR4.out.short; have := HN.out.2; omega) HR4.out.b).mono ?_
            rintro e w9 ⟨rfl, hb⟩
            rw [HR4.out.load]
            have HP9 := Lib.hid ((HP4.out.below hb).only (Q := fun _ => False) (fun _ h => h.elim))
            generalize ldR n (stR n S at_ size v) at_ size = x9
            rw [hz]
            clear hb
            go_wp2_with fail
            go_roundw
            case rel => exact ⟨k + 1, hkl, by go_num, (stE n L at_ size v), (stR n S at_ size v), HP9.out, HR4.out⟩
            case measure => simp [intOf]; omega
          · have j0 : ((u : Int) % 5 == 0) = false := by rw [show (u : Int) % 5 = 4 by omega]; rfl
            have j2 : ((u : Int) % 5 == 2) = false := by rw [show (u : Int) % 5 = 4 by omega]; rfl
            have j4 : ((u : Int) % 5 == 4) = true := by rw [show (u : Int) % 5 = 4 by omega]; rfl
            clear hm
            obtain ⟨i0, hi0, hz0, hz1, hz2⟩ := info_parts info5
            have hsz : (wr.alloc (.cells #[.int .i64 kind, .int .i64 size, .int .i64 frame, .int .u64 (at_ : Int), .int .u64 (v : Int), .slice A l.length c] 42)).heap.size = wr.heap.size + 1 := by simp
            have HSZ := Lib.hid hsz
            have HRD : Hid (Reads ((wr.alloc (.cells #[.int .i64 kind, .int .i64 size, .int .i64 frame, .int .u64 (at_ : Int), .int .u64 (v : Int), .slice A l.length c] 42)).alloc (.cells #[] 5)) (wr.heap.size + 1) 1 A l.length (l.map bv)) := Lib.hid (by
              have := (reads_bts HBO.out).alloc (Nat.le_refl _) (.cells #[] 5)
              rw [hsz] at this
              exact this)
            have HOW : Hid (((wr.alloc (.cells #[.int .i64 kind, .int .i64 size, .int .i64 frame, .int .u64 (at_ : Int), .int .u64 (v : Int), .slice A l.length c] 42)).alloc (.cells #[] 5)).ownsRow (wr.heap.size + 1) 5 1 (.slice (some ⟨wr.heap.size + 1, 0, none⟩) 0 0) 0 []) := Lib.hid (by
              have := World.ownsRow_made (e := 5) (size := 1) (wr.alloc (.cells #[.int .i64 kind, .int .i64 size, .int .i64 frame, .int .u64 (at_ : Int), .int .u64 (v : Int), .slice A l.length c] 42)) #[] 0 (Nat.le_refl _) (by unfold maxLen; omega) rfl
              rw [hsz] at this
              exact this)
            clear hsz
            have hl5 : l.length ≤ 5000 := by omega
            go_wp2_with (at_builtin; go_loud (refine wpList_append_any _ rfl (.tmp 154) (.tmp 156) _ rfl (wr.heap.size + 1) 5 i0 _ 1 1 Try.underlying29 hi0 hz0 hz1 hz2 rfl (by decide) (.slice (some ⟨wr.heap.size + 1, 0, none⟩) 0 0) 0 [] rfl HOW.out (wr.heap.size + 1) A l.length c (l.map bv) rfl HRD.out (one_bv l) (by unfold maxLen; omega) (by omega) (by simp) ?_; intro v5 w5 hown hgrow hat; rw [Nat.zero_add, List.nil_append, ← HSZ.out] at hown; have HO5 := Lib.hid hown; have HG5 := Lib.hid hgrow; obtain ⟨A5, q5, hv5⟩ := row_form hown; subst hv5; clear hown hgrow hat))
            generalize wr.alloc (.cells #[.int .i64 kind, .int .i64 size, .int .i64 frame, .int .u64 (at_ : Int), .int .u64 (v : Int), .slice A l.length c] 42) = w2 at *
            generalize hob : wr.heap.size = ob at *
            clear c0 c1 c2 c3 c4 c5
            have hb5 : Below w2.heap.size w2 w5 := ((Below.refl _ w2).alloc (Nat.le_refl _) _).grown HG5.out (by simp) (fun k hk => by cases hk; exact Nat.le_of_eq HSZ.out)
            obtain ⟨rb, A', q', e5, hA5, hp5, hu5⟩ := play_row HPO.out rfl HO5.out hb5
            obtain rfl : A5 = A' := by injection e5
            obtain rfl : q5 = q' := by injection e5
            clear e5
            obtain ⟨A', q', e5, hB5, _⟩ := bts_own HO5.out HHB.out.1 rfl
            obtain rfl : A5 = A' := by injection e5
            clear e5
            have hob5 : Blk w5 ob 42 _ := HOB.out.below hb5 HOB.out.lt
            have HOL := Lib.hid HOB.out.lt
            have HP5 := Lib.hid hp5
            have HU5 := Lib.hid hu5
            have HA5 := Lib.hid hA5
            have HB5 := Lib.hid hB5
            have HOB5 := Lib.hid hob5
            have s2 := fun (W' : World) (h : W'.heap[ob]? = w5.drew.heap[ob]?) => (World.cell?_of_block (a := ⟨ob, 2, none⟩) h).trans (hob5.cell 2)
            have s5 := fun (W' : World) (h : W'.heap[ob]? = w5.drew.heap[ob]?) => (World.cell?_of_block (a := ⟨ob, 5, none⟩) h).trans (hob5.cell 5)
            simp at s2 s5
            clear hb5 hp5 hu5 hA5 hB5 hob5 hi0 hz0 hz1 hz2
            refine wp_region_plan_by (fun u u' => u'.heap[ob]? = u.heap[ob]?) ⟨fun _ => rfl, fun h k => k.trans h⟩ [(0, false), (1, false), (2, false), (3, false), (5, false), (6, false), (7, false), (8, false), (9, false), (4, true), (10, true), (11, false)] (by kernel_rfl) (by kernel_rfl) (fun _ d _ _ _ h => by cases d <;> exact h) ?_
            iterate 9 (refine plan_take (v := ?_) rfl (by kernel_rfl) ?_ ?_; rotate_left; (focus (intro w' hw'; go_simp; try with_reducible rfl)); simp only [Act.put, List.setIfInBounds_toArray, List.set_cons_zero, List.set_cons_succ])
            clear s2 s5
            refine plan_call rfl (by kernel_rfl) (by go_simp; exact ⟨rfl, rfl⟩) ?_
            refine (p_set HP5.out.drew frame A5 l l.length q5 rfl HB5.out).mono ?_
            rintro e w6 ⟨rfl, hp6, hs6⟩
            refine ⟨_, rfl, hs6 ob (.inl rfl), ?_⟩
            simp only [Act.put, List.setIfInBounds_toArray, List.set_cons_zero, List.set_cons_succ]
            refine plan_call rfl (by kernel_rfl) (by go_simp; exact ⟨rfl, rfl⟩) ?_
            refine (p_rset hp6 frame A l l.length c rfl (bts_below HHB.out hp6.bel) HN.out.2 (by have := HR.out.short; have := HN.out.2; omega) (fun x hx => by have := HR.out.lt x hx; have := HN.out.2; omega)).mono ?_
            rintro e w7 ⟨rfl, hp7, hs7⟩
            refine ⟨_, rfl, hs7 ob (.inl rfl), ?_⟩
            simp only [Act.put, List.setIfInBounds_toArray, List.set_cons_zero, List.set_cons_succ]
            have HOB7 : Hid (Blk w7 ob 42 _) := Lib.hid ((hs7 ob (.inl rfl)).trans ((hs6 ob (.inl rfl)).trans HOB5.out))
            have HU7 : Hid (RowU w7 rb l.length) := Lib.hid (HU5.out.block (fun h0 => (hs7 rb (.inr ⟨h0, rfl⟩)).trans (hs6 rb (.inr ⟨h0, rfl⟩))))
            have HP7 := Lib.hid hp7
            have HR7 := Lib.hid (HR.out.setp frame l HHB.out.1)
            clear hp6 hs6 hp7 hs7
            iterate 1 (refine plan_take (v := ?_) rfl (by kernel_rfl) ?_ ?_; rotate_left; (focus (intro w' hw'; go_simp; try with_reducible rfl)); simp only [Act.put, List.setIfInBounds_toArray, List.set_cons_zero, List.set_cons_succ])
            refine plan_end ?_
            generalize setC n frame l = z3 at *
            go_wp2_with fail
            go_loopw [172] (fun i wq => ∃ j : Nat, j ≤ l.length ∧ i = .int .i64 j ∧ RowU wq rb l.length ∧ Keeps (fun b => 0 < l.length ∧ b = rb) w7 wq) (fun i _ => l.length - (intOf i).toNat)
            case atStart => exact ⟨0, Nat.zero_le _, rfl, HU7.out, Keeps.refl _ _⟩
            case round =>
              obtain ⟨j, hj, rfl, hu8, hk8⟩ := hrel
              rename World => w8
              have HU8 := Lib.hid hu8
              have HK8 := Lib.hid hk8
              by_cases hjm : j < l.length
              · obtain ⟨rfl, hrb⟩ := HA5.out (by omega)
                obtain ⟨⟨y, s0⟩, f0⟩ := hu8 j hjm
                clear hu8 hk8
                go_wp2_with fail
                go_roundw
                case rel => exact ⟨j + 1, by omega, by go_num, HU8.out.set j _, HK8.out.setCell (p := ⟨rb, j, none⟩) (.inl ⟨by omega, rfl⟩) _⟩
                case measure => simp [intOf]; omega
              · obtain rfl : j = l.length := by omega
                have hob8 : Blk w8 ob 42 _ := hk8.blk HOB7.out (fun e => by have := (HA5.out e.1).2; have := HOL.out; omega)
                have HP8 := Lib.hid (HP7.out.keep hk8 (fun b hb => ⟨.inr hb, by have := (HA5.out hb.1).2; have := HPO.out.bel.size; omega⟩))
                have d1 := hob8.cell 1
                have d3 := hob8.cell 3
                simp at d1 d3
                clear hu8 hk8 hob8
                go_wp2_with fail
                refine (p_load HP8.out at_ size HHA.out).mono ?_
                rintro e w ⟨rfl, rfl⟩
                go_wp2_with fail
                refine (p_rload HP8.out at_ size HN.out.2 HHA.out (by have := HR7.out.short; have := HN.out.2; omega) HR7.out.b).mono ?_
                rintro e w9 ⟨rfl, hb⟩
                rw [HR7.out.load]
                have HP9 := Lib.hid ((HP8.out.below hb).only (Q := fun _ => False) (fun _ h => h.elim))
                generalize ldR n (setS n S frame l) at_ size = x9
                generalize chkE n at_ size = z9 at *
                clear hb
                go_wp2_with fail
                go_roundw
                case rel => exact ⟨k + 1, hkl, by go_num, setL n L frame l, setS n S frame l, HP9.out, HR7.out⟩
                case measure => simp [intOf]; omega
          · have j0 : ((u : Int) % 5 == 0) = false := by rcases hm with hm | hm; rw [show (u : Int) % 5 = 1 by omega]; rfl; rw [show (u : Int) % 5 = 3 by omega]; rfl
            have j2 : ((u : Int) % 5 == 2) = false := by rcases hm with hm | hm; rw [show (u : Int) % 5 = 1 by omega]; rfl; rw [show (u : Int) % 5 = 3 by omega]; rfl
            have j4 : ((u : Int) % 5 == 4) = false := by rcases hm with hm | hm; rw [show (u : Int) % 5 = 1 by omega]; rfl; rw [show (u : Int) % 5 = 3 by omega]; rfl
            clear hm
            go_wp2_with fail
            generalize wr.alloc (.cells #[.int .i64 kind, .int .i64 size, .int .i64 frame, .int .u64 (at_ : Int), .int .u64 (v : Int), .slice A l.length c] 42) = w2 at *
            generalize hob : wr.heap.size = ob at *
            clear c0 c1 c2 c3 c4 c5
            have HPL : Hid (∀ i, (pgL n S frame).getD i 0 < 256) := Lib.hid (fun i => by
              obtain ⟨F, G, g1, _⟩ := HPO.out
              obtain ⟨mb, loc, K, g1, _⟩ := g1
              unfold pgL
              split
              · exact g1.pgLt _ i
              · exact Nat.zero_lt_succ _)
            refine (p_page HPO.out frame).mono ?_
            rintro e w3 ⟨v3, rfl, ho, hb⟩
            obtain ⟨m, hm⟩ : ∃ m, (pgL n S frame).length = m := ⟨_, rfl⟩
            obtain ⟨rb, A3, q3, rfl, hA3, hp3, hu3⟩ := play_row HPO.out hm ho hb
            obtain ⟨A3', q3', e3, hB3, _⟩ := bts_own ho HPL.out rfl
            obtain rfl : A3 = A3' := by injection e3
            clear e3
            have HP3 := Lib.hid hp3
            have HU3 := Lib.hid hu3
            have HA3 := Lib.hid hA3
            have HB3 := Lib.hid hB3
            have HM := Lib.hid hm
            have hob3 : Blk w3 ob 42 _ := HOB.out.below hb HOB.out.lt
            have HOB3 := Lib.hid hob3
            have HOL := Lib.hid HOB.out.lt
            have d2 := hob3.cell 2
            simp at d2
            clear hp3 hu3 hA3 hB3 hob3 ho hb hm
            go_wp2_with fail
            refine (p_rpage HP3.out frame HR.out HN.out.2).mono ?_
            rintro e w4 ⟨v4, rfl, ho, hb⟩
            obtain ⟨A4, q4, rfl, hB4, _⟩ := bts_own ho HPL.out rfl
            rw [HM.out]
            have hcv3 := conv_bts (c := q3) (bts_below HB3.out hb) HM.out
            have hcv4 := conv_bts (c := q4) hB4 HM.out
            have hm6 : m ≤ 4096 := by
              rw [← HM.out]
              unfold pgL
              split
              · exact Nat.le_of_eq (HR.out.len _)
              · exact Nat.zero_le _
            have HP4 := Lib.hid (HP3.out.below hb)
            have HU4 := Lib.hid (HU3.out.below hb)
            have hob4 : Blk w4 ob 42 _ := HOB3.out.below hb HOB3.out.lt
            have HOB4 := Lib.hid hob4
            generalize strB (pgL n S frame) = t3 at *
            generalize frE n frame = z3 at *
            clear ho hb hB4 hob4 d2
            go_wp2_with fail
            clear hcv3 hcv4
            go_loopw [85] (fun i wq => ∃ j : Nat, j ≤ m ∧ i = .int .i64 j ∧ RowU wq rb m ∧ Keeps (fun b => 0 < m ∧ b = rb) w4 wq) (fun i _ => m - (intOf i).toNat)
            case atStart => exact ⟨0, Nat.zero_le _, rfl, HU4.out, Keeps.refl _ _⟩
            case round =>
              obtain ⟨j, hj, rfl, hu5, hk5⟩ := hrel
              rename World => w5
              have HU5 := Lib.hid hu5
              have HK5 := Lib.hid hk5
              by_cases hjm : j < m
              · obtain ⟨rfl, hrb⟩ := HA3.out (by omega)
                obtain ⟨⟨y, s0⟩, f0⟩ := hu5 j hjm
                clear hu5 hk5
                go_wp2_with fail
                go_roundw
                case rel => exact ⟨j + 1, by omega, by go_num, HU5.out.set j _, HK5.out.setCell (p := ⟨rb, j, none⟩) (.inl ⟨by omega, rfl⟩) _⟩
                case measure => simp [intOf]; omega
              · obtain rfl : j = m := by omega
                have hob5 : Blk w5 ob 42 _ := hk5.blk HOB4.out (fun e => by have := (HA3.out e.1).2; have := HOL.out; omega)
                have HP7 := Lib.hid (HP4.out.keep hk5 (fun b hb => ⟨.inr hb, by have := (HA3.out hb.1).2; have := HPO.out.bel.size; omega⟩))
                have d1 := hob5.cell 1
                have d3 := hob5.cell 3
                simp at d1 d3
                clear hu5 hk5 hob5
                go_wp2_with fail
                refine (p_load HP7.out at_ size HHA.out).mono ?_
                rintro e w ⟨rfl, rfl⟩
                go_wp2_with fail
                refine (p_rload HP7.out at_ size HN.out.2 HHA.out (by have := HR.out.short; have := HN.out.2; omega) HR.out.b).mono ?_
                rintro e w9 ⟨rfl, hb⟩
                rw [HR.out.load]
                have HP9 := Lib.hid ((HP7.out.below hb).only (Q := fun _ => False) (fun _ h => h.elim))
                generalize ldR n S at_ size = x9
                generalize chkE n at_ size = z9 at *
                clear hb
                go_wp2_with fail
                go_roundw
                case rel => exact ⟨k + 1, hkl, by go_num, L, S, HP9.out, HR.out⟩
                case measure => simp [intOf]; omega
    · obtain rfl : k = len := by omega
      go_wp2_with fail
      obtain ⟨F, G, g1, _⟩ := HP.out
      refine (frames_any g F n S _ g1).mono ?_
      rintro e w ⟨rfl, rfl⟩
      go_wp2_with fail
      go_ret
      exact ⟨rfl, HP.out.bel⟩
end Go.Proofs.Ytgdebfpepbomiaa
