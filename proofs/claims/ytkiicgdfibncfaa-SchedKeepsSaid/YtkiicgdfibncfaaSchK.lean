/- Weave. -/
import Derived.Test.YtkiicgdfibncfaaSchI
import Derived.Test.YtkiicgdfibncfaaSchJ
namespace Go.Proofs.Ytkiicgdfibncfaa
open Go.RowKit

/-- Slices that read as lists, in blocks below B. -/
def VsRd (B : Nat) (w : World) (vs : List Value) (Ls : List (List A3)) : Prop := vs.length = Ls.length ∧ ∀ i, i < Ls.length → ∃ v, vs[i]? = some v ∧ RdA (fun g => g < B) w v (subs Ls i)
theorem VsRd.keeps {B : Nat} {w w' : World} {vs : List Value} {Ls : List (List A3)} {G : Nat → Prop} (h : VsRd B w vs Ls) (k : Keeps G w w') (hG : ∀ g, G g → B ≤ g) : VsRd B w' vs Ls :=
  ⟨h.1, fun i hi => by
    obtain ⟨v, hv, hr⟩ := h.2 i hi
    exact ⟨v, hv, hr.keeps k (fun g hg hg2 => by have := hG g hg2; omega)⟩⟩
/-- A slice of slices that reads as lists of acts. -/
def RdLL (B : Nat) (w : World) (v : Value) (Ls : List (List A3)) : Prop := ∃ A c vs, v = .slice A Ls.length c ∧ Reads w B 1 A Ls.length vs ∧ VsRd B w vs Ls
theorem rda_one {B : Nat} {w : World} {v : Value} {l : List A3} (h : RdA (fun g => g < B) w v l) : ∃ A c, v = .slice A l.length c := by
  obtain ⟨A, c, h, _⟩ := h
  exact ⟨A, c, h⟩
theorem vs_one {B : Nat} {w : World} {vs : List Value} {Ls : List (List A3)} (h : VsRd B w vs Ls) : ∀ u ∈ vs, u.oneCell' = true := by
  intro u hu
  obtain ⟨i, hi⟩ := List.getElem?_of_mem hu
  have hl : i < Ls.length := by rw [← h.1]; exact (List.getElem?_eq_some_iff.1 hi).1
  obtain ⟨v, hv, hr⟩ := h.2 i hl
  rw [hi] at hv
  injection hv with hv
  subst hv
  obtain ⟨A, c, rfl⟩ := rda_one hr
  rfl
theorem row_slice1 {w : World} {base n : Nat} {e : TypeId} {v : Value} {xs : List Value} (h : w.ownsRow base e 1 v n xs) : ∃ A c, v = .slice A n c := by
  rcases h.2 with ⟨rfl, rfl⟩ | ⟨g, cap, _, rfl, _⟩
  · exact ⟨_, _, rfl⟩
  · exact ⟨_, _, rfl⟩
theorem info_acts : (Try.prog.info? 34).map (fun i => (i.zero, i.size, i.bytes)) = some (some (.slice none 0 0), 1, 24) := by kernel_rfl
theorem lens_length (r : List (List A3)) : (lens r).length = r.length := by simp [lens]
theorem rows_ne {w : World} {B B' s s' n n' : Nat} {e e' : TypeId} {v v' : Value} {xs xs' : List Value} (h : w.ownsRow B e s v n xs) (h' : w.ownsRow B' e' s' v' n' xs') (hne : e ≠ e') : ∀ g, v.ownBlock = some g → v'.ownBlock ≠ some g := by
  intro g hg hg'
  rcases h'.2 with ⟨rfl, _⟩ | ⟨g2, cap, cur, rfl, _, hh, _⟩
  · simp [Value.ownBlock] at hg'
  · have : g2 = g := by simpa [Value.ownBlock] using hg'
    subst this
    exact row_ne_blk (t := e') (cs := cur) (fr := (0, 0)) h hh hne hg
theorem rows_ne' {w : World} {B B' s s' n n' : Nat} {e e' : TypeId} {v v' : Value} {xs xs' : List Value} (h : w.ownsRow B e s v n xs) (h' : w.ownsRow B' e' s' v' n' xs') (hne : e ≠ e') : v.ownBlock = none ∨ v.ownBlock ≠ v'.ownBlock := by
  cases hv : v.ownBlock with
  | none => exact .inl rfl
  | some g => exact .inr (fun e => rows_ne h h' hne g hv e.symm)
theorem VsRd.set_ {B : Nat} {w : World} {vs : List Value} {Ls : List (List A3)} (h : VsRd B w vs Ls) {i : Nat} {u : Value} {t : List A3} (hu : RdA (fun g => g < B) w u t) : VsRd B w (vs.set i u) (Ls.set i t) := by
  refine ⟨by simp [h.1], fun j hj => ?_⟩
  have hj' : j < Ls.length := by simpa using hj
  by_cases hij : i = j
  · subst hij
    refine ⟨u, by rw [List.getElem?_set_self (by rw [h.1]; exact hj')], ?_⟩
    have : subs (Ls.set i t) i = t := by unfold subs; rw [List.getD_eq_getElem?_getD, List.getElem?_set_self hj']; rfl
    rw [this]
    exact hu
  · obtain ⟨v, hv, hr⟩ := h.2 j hj'
    refine ⟨v, by rw [List.getElem?_set_ne hij]; exact hv, ?_⟩
    have : subs (Ls.set i t) j = subs Ls j := by unfold subs; rw [List.getD_eq_getElem?_getD, List.getElem?_set_ne hij, ← List.getD_eq_getElem?_getD]
    rw [this]
    exact hr
theorem rda_tail {F : Nat → Prop} {w : World} {b o c : Nat} {x : A3} {l : List A3} (hF : F b) (hb : b < w.heap.size) (hc : l.length + 1 ≤ c)
    (h : ∀ k y, (x :: l)[k]? = some y → w.cell? ⟨b, o + k * 3, none⟩ = some (.int .i64 y.1) ∧ w.cell? ⟨b, o + k * 3 + 1, none⟩ = some (.int .i64 y.2.1) ∧ w.cell? ⟨b, o + k * 3 + 2, none⟩ = some (.int .i64 y.2.2)) :
    RdA F w (.slice (some ⟨b, o + 3, none⟩) l.length (c - 1)) l :=
  ⟨_, _, rfl, by omega, fun _ => ⟨b, o + 3, rfl, hF, hb, fun k y hk => by
    have := h (k + 1) y (by simpa using hk)
    rw [show o + 3 + k * 3 = o + (k + 1) * 3 by omega]
    exact this⟩⟩
theorem rda_nil (F : Nat → Prop) (w : World) (A : Option Addr) (c : Nat) : RdA F w (.slice A 0 c) [] := ⟨A, c, rfl, Nat.zero_le _, fun h => absurd rfl h⟩
def WvRel (W : World) (sb : Nat) (A : Option Addr) (m c : Nat) (all : List A3) (k : Nat) (v : Value) (wr : World) : Prop :=
  ∃ rem s out vs, rem.length = m ∧ tot (lens rem) = k ∧ out ++ weave k rem s = all ∧ OwnA W.heap.size wr v out ∧ wr.ownsRow W.heap.size 34 1 (.slice A m c) m vs ∧
    VsRd W.heap.size wr vs rem ∧ Blk wr sb 51 #[.int .u64 s] ∧ Keeps (fun g => W.heap.size ≤ g) W wr
set_option maxHeartbeats 4000000 in
theorem weave_any (seed : Int) (v : Value) (Ls : List (List A3)) (W : World) (h : RdLL W.heap.size W v Ls) (hm : Ls.length ≤ 100) (hN : tot (lens Ls) ≤ 100000) :
    Calls Try.prog 19 #[.int .u64 seed, v] W fun e w' => ∃ v, e = .returned v ∧ OwnA W.heap.size w' v (weave (tot (lens Ls)) Ls seed) ∧ Below W.heap.size W w' := by
  obtain ⟨A, c, vs, rfl, hR, hV⟩ := h
  obtain ⟨i0, hi0, hz0, hz1, hz2⟩ := info_parts info_act
  obtain ⟨j0, hj0, hy0, hy1, hy2⟩ := info_parts info_acts
  have HR := Lib.hid hR
  have HV := Lib.hid hV
  clear hR hV
  go_enter Try.func19, Try.ntmps19
  go_wp2_with (at_builtin; (refine wpList_append_any _ rfl (.const (.slice none 0 0)) (.tmp 14) _ rfl W.heap.size 34 j0 _ 1 24 Try.underlying41 hj0 hy0 hy1 hy2 rfl (by decide) _ 0 [] rfl (World.ownsRow_nil _ _ _ _) W.heap.size A Ls.length c vs rfl HR.out (vs_one HV.out) (by unfold maxLen; omega) (by omega) (Nat.le_refl _) ?_; intro v1 w1 hown hgrow hat; rw [Nat.zero_add, List.nil_append] at hown; obtain ⟨A1, c1, rfl⟩ := row_slice1 hown; have HO := Lib.hid hown; have HK := Lib.hid (show Keeps (fun g => W.heap.size ≤ g) W w1 from (Keeps.refl _ _).grown hgrow (fun g hg => by cases hg)); clear hown hgrow hat))
  have HV1 := Lib.hid (HV.out.keeps HK.out (fun g h => h))
  have hsz1 : W.heap.size ≤ w1.heap.size := HK.out.size
  obtain ⟨m, hmm⟩ : ∃ m, m = Ls.length := ⟨_, rfl⟩
  rw [← hmm] at hm
  have HM := Lib.hid hmm
  have HLM : Hid ((lens Ls).length = m) := Lib.hid (by rw [lens_length, hmm])
  rw [← hmm]
  rw [← hmm] at HO
  generalize hN2 : tot (lens Ls) = N at *
  have HN := Lib.hid hN2
  clear hmm hN2
  go_wp2_with fail
  go_loop [6, 18] (fun v i => ∃ k q : Nat, k ≤ m ∧ i = .int .i64 k ∧ v = .int .i64 q ∧ q + tot ((lens Ls).drop k) = N) (fun _ i => m - (intOf i).toNat)
  case atStart => exact ⟨0, 0, by omega, rfl, rfl, by simpa using HN.out⟩
  case round =>
    obtain ⟨k, q, hk, rfl, rfl, hq⟩ := hrel
    by_cases hkl : k < m
    · obtain ⟨g1, cp1, hve, hg1, hgl1⟩ := HO.out.form (by omega)
      injection hve with hve1 _ _
      subst hve1
      obtain ⟨u, hu, A2, c2, rfl, _⟩ := HV1.out.2 k (by rw [← HM.out]; exact hkl)
      have hcell : w1.cell? ⟨g1, k, none⟩ = some (.slice A2 (subs Ls k).length c2) := by rw [HO.out.cellAt k (by omega)]; exact hu
      have hd := tot_drop (lens Ls) k (by rw [HLM.out]; exact hkl)
      rw [lens_getD] at hd
      have hq2 : q + (subs Ls k).length + tot ((lens Ls).drop (k + 1)) = N := by omega
      have hqb : q + (subs Ls k).length ≤ 100000 := by omega
      clear hd hq hu
      go_wp2_with fail
      go_round
      case rel => exact ⟨k + 1, q + (subs Ls k).length, hkl, by go_num, by go_num, hq2⟩
      case measure => simp [intOf]; omega
    · obtain rfl : k = m := by omega
      have hq3 : q = N := by
        have : tot ((lens Ls).drop k) = 0 := by rw [List.drop_eq_nil_of_le (by rw [HLM.out]; exact Nat.le_refl _)]; rfl
        omega
      subst hq3
      clear hq hkl hk
      go_wp2_with fail
      refine (new_any seed _).mono ?_
      rintro e w2 ⟨rfl, rfl⟩
      have HO2 := Lib.hid (HO.out.alloc (.cells #[.int .u64 seed] 51))
      have HK2 := Lib.hid (HK.out.alloc (.cells #[.int .u64 seed] 51))
      have HV2 := Lib.hid (HV1.out.keeps ((Keeps.refl (fun _ => False) w1).alloc (.cells #[.int .u64 seed] 51)) (fun g h => h.elim))
      go_wp2_with fail
      go_loopw [6, 10] (fun n v wr => ∃ r : Nat, r ≤ q ∧ n = .int .i64 r ∧ WvRel W w1.heap.size A1 k c1 (weave q Ls seed) r v wr) (fun n _ _ => (intOf n).toNat)
      case atStart => exact ⟨q, Nat.le_refl _, rfl, Ls, seed, [], vs, HM.out.symm, HN.out, rfl, World.ownsRow_nil _ _ _ _, HO2.out, HV2.out, Blkf.new_at _ _ _ _ rfl, HK2.out⟩
      case round =>
        obtain ⟨r, hrq, rfl, rem, s, out, us, hrl, hrt, hall, hOut, hLeft, hVs, hB, hKw⟩ := hrel
        obtain ⟨A3, c3, rfl, _⟩ := hOut.rd
        have HAll := Lib.hid hall
        have HOut := Lib.hid hOut
        have HLeft := Lib.hid hLeft
        have HVs := Lib.hid hVs
        have HB := Lib.hid hB
        have HKw := Lib.hid hKw
        have HRL := Lib.hid hrl
        clear hall hOut hLeft hVs hB hKw hrl
        by_cases hr0 : 0 < r
        · obtain ⟨r', rfl⟩ : ∃ r', r = r' + 1 := ⟨r - 1, by omega⟩
          obtain ⟨x, tl, hx, hil, hw, ht2⟩ := weave_step r' rem s hrt
          have hat := intS_lt s (r' + 1) (by omega)
          obtain ⟨p0, hp0⟩ : ∃ p : Nat, intS s (r' + 1 : Nat) = p := ⟨_, (Int.toNat_of_nonneg hat.1).symm⟩
          rw [hp0] at hx hil hw ht2 hat
          rw [Int.toNat_natCast] at hx hil hw ht2
          generalize hI : pick (lens rem) p0 = I at hx hil hw ht2
          have HX := Lib.hid hx
          have HW := Lib.hid hw
          have HT2 := Lib.hid ht2
          have HI := Lib.hid hI
          have HRT := Lib.hid hrt
          have HP0 := Lib.hid hp0
          have hout : out.length + (r' + 1) = q := by
            have h1 := congrArg List.length HAll.out
            rw [List.length_append, weave_len _ _ _ hrt, weave_len _ _ _ HN.out] at h1
            exact h1
          have hIk : I < k := by rw [← HRL.out]; exact hil
          have hpt : p0 < r' + 1 := by omega
          clear hx hw ht2 hI hrt hp0 hil hat
          go_wp2_with fail
          refine (int_any w1.heap.size s ((r' : Int) + 1) _ HB.out (by omega)).mono ?_
          rintro e w3 ⟨rfl, hb3, hk3⟩
          rw [show intS s ((r' : Int) + 1) = (p0 : Int) from HP0.out]
          have HB3 := Lib.hid hb3
          have HOut3 := Lib.hid (row_one HOut.out HB.out (by decide) hk3)
          have HLeft3 := Lib.hid (row_one HLeft.out HB.out (by decide) hk3)
          have HVs3 := Lib.hid (HVs.out.keeps hk3 (fun g hg => by unfold One at hg; omega))
          have HKw3 := Lib.hid (HKw.out.same (hk3.mono (G := fun g => W.heap.size ≤ g) (fun g hg => by unfold One at hg; omega)))
          clear hb3 hk3
          obtain ⟨g1, cp1, hve, hg1, hgl1⟩ := HLeft3.out.form (by omega)
          injection hve with hve1 _ hve3
          subst hve1
          subst hve3
          go_wp2_with fail
          go_loop [10, 11, 38] (fun o a i => o = .slice A3 out.length c3 ∧ ∃ j p : Nat, j ≤ I ∧ i = .int .i64 j ∧ a = .int .i64 p ∧ pick ((lens rem).drop j) p + j = I ∧ p ≤ p0) (fun _ _ i => k - (intOf i).toNat)
          case atStart => exact ⟨rfl, 0, p0, by omega, rfl, rfl, by simpa using HI.out, Nat.le_refl _⟩
          case round =>
            obtain ⟨rfl, j, p, hj, rfl, rfl, hpk, hpp⟩ := hrel
            have hjk : j < k := by omega
            have hjl : j < (lens rem).length := by rw [lens_length, HRL.out]; exact hjk
            obtain ⟨u, hu, hrd⟩ := HVs3.out.2 j (by rw [HRL.out]; exact hjk)
            obtain ⟨A2, c2, rfl⟩ := rda_one hrd
            have hcell : w3.cell? ⟨g1, j, none⟩ = some (.slice A2 (subs rem j).length c2) := by rw [HLeft3.out.cellAt j (by omega)]; exact hu
            by_cases hlt : p < (subs rem j).length
            · have hz := pick_hit (lens rem) j p hjl (by rw [lens_getD]; exact hlt)
              have hjI : j = I := by omega
              subst hjI
              rw [HX.out] at hcell hlt hrd hu
              have HU := Lib.hid hu
              obtain ⟨A2', c2', hve, hcc, hne⟩ := hrd
              obtain ⟨b, o, rfl, hbB, hbl, hcs⟩ := hne (by simp)
              obtain ⟨d0, d1, d2⟩ := hcs 0 x rfl
              rw [Nat.zero_mul, Nat.add_zero] at d0 d1 d2
              have HCS := Lib.hid hcs
              clear hcs hne hu
              injection hve with hve1 _ hve3
              subst hve1
              subst hve3
              rw [List.length_cons] at hcell hlt
              have HCC := Lib.hid hcc
              have hl9 : tl.length + 1 ≤ c2 := by simpa using hcc
              rcases (show (tl = [] ∧ c2 = 1) ∨ c2 ≠ 1 from by
                by_cases h1 : c2 = 1
                · exact .inl ⟨List.eq_nil_of_length_eq_zero (by omega), h1⟩
                · exact .inr h1) with ⟨rfl, rfl⟩ | hc1
              · clear hcc
                go_wp2_with (at_builtin; go_loud (refine wpList_append_any _ rfl (.tmp 47) (.tmp 51) _ rfl W.heap.size 48 i0 _ 3 24 Try.underlying34 hi0 hz0 hz1 hz2 rfl (by decide) _ out.length (actsC out) rfl (HOut3.out.alloc _) (w3.heap.size + 1) (some ⟨w3.heap.size, 0, none⟩) 1 1 (actC x) rfl (reads_act w3 _ x) (one_act _) (by unfold maxLen; omega) (by omega) (by simp; omega) ?_; intro v4 w4 hown hgrow hat; have HLeft4 := Lib.hid (World.ownsRow.kept (HLeft3.out.alloc _) hgrow (rows_ne' HLeft3.out HOut3.out (by decide))); have hfr4 := HLeft4.out.frozenAt j; have hcell4 := (HLeft4.out.cellAt j (by omega)).trans HU.out; have hgl4 : g1 < w4.heap.size := (HLeft4.out.lt g1 rfl).2; have HK4 := Lib.hid (Keeps.grown (Keeps.alloc (Keeps.refl (fun g => W.heap.size ≤ g) w3) _) hgrow (fun g hg => .inl (HOut3.out.lt g hg).1)); have HB4 := Lib.hid (Blkf.grown (HB3.out.alloc _) hgrow (fun e => row_ne_blk HOut3.out HB3.out (by decide) e.symm)); have HOut4 : Hid (OwnA W.heap.size w4 v4 (out ++ [x])) := Lib.hid (by unfold OwnA; rw [actsC_append, List.length_append]; simpa [actsC] using hown); clear hown hgrow hat))
                have HL5 := Lib.hid (HLeft4.out.stored j (.slice (some ⟨b, o, none⟩) 0 0))
                have HK5 := Lib.hid ((HKw3.out.same HK4.out).setCell (p := ⟨g1, j, none⟩) (.inl hg1) (.slice (some ⟨b, o, none⟩) 0 0))
                have HB5 := Lib.hid (HB4.out.far (p := ⟨g1, j, none⟩) (fun e => row_ne_blk HLeft4.out HB4.out (by decide) (congrArg some e.symm)) (.slice (some ⟨b, o, none⟩) 0 0))
                have HO5 := Lib.hid (HOut4.out.kept HL5.out.2 (rows_ne' HOut4.out HLeft4.out (by decide)))
                have HV5 := Lib.hid ((HVs3.out.keeps ((HK4.out).setCell (p := ⟨g1, j, none⟩) (.inl hg1) (.slice (some ⟨b, o, none⟩) 0 0)) (fun g h => h)).set_ (i := j) (u := (.slice (some ⟨b, o, none⟩) 0 0)) (t := []) ((rda_nil (fun g => g < W.heap.size) w3 (some ⟨b, o, none⟩) 0).keeps ((HK4.out).setCell (p := ⟨g1, j, none⟩) (.inl hg1) (.slice (some ⟨b, o, none⟩) 0 0)) (fun g h1 h2 => absurd (show g < W.heap.size from h1) (Nat.not_lt.2 h2))))
                go_roundw
                case rel => exact ⟨r', by omega, by go_num, rem.set j [], _, out ++ [x], us.set j (.slice (some ⟨b, o, none⟩) 0 0), by simpa using HRL.out, HT2.out, by rw [← HAll.out, HW.out, List.append_assoc]; rfl, HO5.out, HL5.out.1, HV5.out, HB5.out, HK5.out⟩
                case measure => simp [intOf]
              · have hcc2 : tl.length + 1 ≤ c2 := by simpa using hcc
                clear hcc
                go_wp2_with (at_builtin; go_loud (refine wpList_append_any _ rfl (.tmp 47) (.tmp 51) _ rfl W.heap.size 48 i0 _ 3 24 Try.underlying34 hi0 hz0 hz1 hz2 rfl (by decide) _ out.length (actsC out) rfl (HOut3.out.alloc _) (w3.heap.size + 1) (some ⟨w3.heap.size, 0, none⟩) 1 1 (actC x) rfl (reads_act w3 _ x) (one_act _) (by unfold maxLen; omega) (by omega) (by simp; omega) ?_; intro v4 w4 hown hgrow hat; have HLeft4 := Lib.hid (World.ownsRow.kept (HLeft3.out.alloc _) hgrow (rows_ne' HLeft3.out HOut3.out (by decide))); have hfr4 := HLeft4.out.frozenAt j; have hcell4 := (HLeft4.out.cellAt j (by omega)).trans HU.out; have hgl4 : g1 < w4.heap.size := (HLeft4.out.lt g1 rfl).2; have HK4 := Lib.hid (Keeps.grown (Keeps.alloc (Keeps.refl (fun g => W.heap.size ≤ g) w3) _) hgrow (fun g hg => .inl (HOut3.out.lt g hg).1)); have HB4 := Lib.hid (Blkf.grown (HB3.out.alloc _) hgrow (fun e => row_ne_blk HOut3.out HB3.out (by decide) e.symm)); have HOut4 : Hid (OwnA W.heap.size w4 v4 (out ++ [x])) := Lib.hid (by unfold OwnA; rw [actsC_append, List.length_append]; simpa [actsC] using hown); clear hown hgrow hat))
                have HL5 := Lib.hid (HLeft4.out.stored j (.slice (some ⟨b, o + 3, none⟩) tl.length (c2 - 1)))
                have HK5 := Lib.hid ((HKw3.out.same HK4.out).setCell (p := ⟨g1, j, none⟩) (.inl hg1) (.slice (some ⟨b, o + 3, none⟩) tl.length (c2 - 1)))
                have HB5 := Lib.hid (HB4.out.far (p := ⟨g1, j, none⟩) (fun e => row_ne_blk HLeft4.out HB4.out (by decide) (congrArg some e.symm)) (.slice (some ⟨b, o + 3, none⟩) tl.length (c2 - 1)))
                have HO5 := Lib.hid (HOut4.out.kept HL5.out.2 (rows_ne' HOut4.out HLeft4.out (by decide)))
                have HV5 := Lib.hid ((HVs3.out.keeps ((HK4.out).setCell (p := ⟨g1, j, none⟩) (.inl hg1) (.slice (some ⟨b, o + 3, none⟩) tl.length (c2 - 1))) (fun g h => h)).set_ (i := j) (u := (.slice (some ⟨b, o + 3, none⟩) tl.length (c2 - 1))) (t := tl) ((rda_tail (F := fun g => g < W.heap.size) hbB hbl (by simpa using HCC.out) HCS.out).keeps ((HK4.out).setCell (p := ⟨g1, j, none⟩) (.inl hg1) (.slice (some ⟨b, o + 3, none⟩) tl.length (c2 - 1))) (fun g h1 h2 => absurd (show g < W.heap.size from h1) (Nat.not_lt.2 h2))))
                go_roundw
                case rel => exact ⟨r', by omega, by go_num, rem.set j tl, _, out ++ [x], us.set j (.slice (some ⟨b, o + 3, none⟩) tl.length (c2 - 1)), by simpa using HRL.out, HT2.out, by rw [← HAll.out, HW.out, List.append_assoc]; rfl, HO5.out, HL5.out.1, HV5.out, HB5.out, HK5.out⟩
                case measure => simp [intOf]
            · have hstep := pick_step (lens rem) j p hjl (by rw [lens_getD]; exact hlt)
              rw [lens_getD] at hstep
              have hpk2 : pick ((lens rem).drop (j + 1)) (p - (subs rem j).length) + (j + 1) = I := by omega
              have hle : (subs rem j).length ≤ p := by omega
              have hjI : j < I := by omega
              have HPK := Lib.hid hpk2
              clear hstep hpk hpk2 hu hrd
              generalize (subs rem j).length = L at *
              go_wp2_with fail
              go_round
              case rel => exact ⟨rfl, j + 1, p - L, hjI, by go_num, by go_num, HPK.out, by omega⟩
              case measure => simp [intOf]; omega
        · obtain rfl : r = 0 := by omega
          go_wp2
          go_ret
          refine ⟨_, rfl, ?_, HKw.out.below (fun i hi => hi) (Nat.le_refl _)⟩
          have := HAll.out
          rw [weave, List.append_nil] at this
          rw [HN.out, ← this]
          exact HOut.out
end Go.Proofs.Ytkiicgdfibncfaa
