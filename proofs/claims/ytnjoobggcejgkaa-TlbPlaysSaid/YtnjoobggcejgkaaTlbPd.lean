/- TlbHolds: what is filled in is found. -/
import Derived.Test.YtnjoobggcejgkaaTlbPc
import Derived.Test.YtnjoobggcejgkaaPlanT
namespace Go.Proofs.Ytnjoobggcejgkaa
open Go.RowKit

/-- An act's cells. -/
def opC (kind asid pick ova : Int) (l : Lf) : Array Value := #[.int .i64 kind, .int .i64 asid, .int .i64 pick, .int .u64 ova, .bool l.v, .bool l.r, .bool l.w, .bool l.x, .bool l.u, .bool l.g, .bool l.a, .bool l.d, .int .i64 l.rsw, .int .u64 l.ppn, .int .i64 l.lev, .int .u64 l.pos]
theorem op_leaf {w : World} {b : Nat} {kind asid pick ova : Int} {l : Lf} (h : Blk w b 45 (opC kind asid pick ova l)) : w.rangeAt b 4 l.cs.toList := World.rangeAt_of_block h 4 12
theorem find_opt (g gs : Nat) (G : Nat → Nat) (T : List (List En)) (m : Nat) (va : Nat) (asid : Int) (l : Lf) (W : World) (hv : va < 18446744073709551616) (hn : 0 < T.length) (hn2 : T.length ≤ 64) (hm : m ≤ 8) (hB : BufAt W g gs G T m) (hval : Valid T) (hf : findS T va asid = if l.g then some l else none) :
    Calls Try.prog 8 #[.pointer (some ⟨g, 0, none⟩), .int .u64 va, .int .i64 asid] W fun e w' => (∃ z : Lf, e = .returned (.tuple #[.agg z.cs, .bool l.g])) ∧ Below W.heap.size W w' :=
  (find_any g gs G T m va asid W hv hn hn2 hm hB hval).mono fun e w' ⟨h1, h2⟩ => ⟨⟨(findS T va asid).getD lf0, by rw [h1, hf]; cases l.g <;> rfl⟩, h2⟩
set_option maxRecDepth 100000 in
set_option maxHeartbeats 4000000 in
theorem holds_walk (va other : Nat) (kind asid pick ova : Int) (l : Lf) (W : World) (hv : va < 18446744073709551616) (has : -9223372036854775808 ≤ asid ∧ asid < 9223372036854775808) (hpk : -9223372036854775808 ≤ pick ∧ pick < 9223372036854775808) (hwf : LfWf l) :
    Calls Try.prog 4 #[.int .u64 va, .int .u64 other, .agg (opC kind asid pick ova l)] W fun e w' => e = .returned (.bool true) ∧ Below W.heap.size W w' := by
  have hA : Below W.heap.size W (W.alloc (.cells (opC kind asid pick ova l) 45)) := (Below.refl _ _).alloc (Nat.le_refl _) _
  have hX : Blk (W.alloc (.cells (opC kind asid pick ova l) 45)) W.heap.size 45 (opC kind asid pick ova l) := Blkf.new_at _ _ _ _ rfl
  have HA := Lib.hid hA
  have HX := Lib.hid hX
  have HV := Lib.hid hv
  have HPK := Lib.hid hpk
  have HAS := Lib.hid has
  have HWF := Lib.hid hwf
  clear hA hX hv hpk hwf has
  go_enter Try.func4, Try.ntmps4
  go_wp2_with fail
  refine (first_ok _).mono ?_
  rintro e w1 ⟨rfl, hb⟩
  have HX1 := Lib.hid (HX.out.below hb HX.out.lt)
  have HA1 := Lib.hid (HA.out.trans (hb.mono HA.out.size))
  clear hb HX HA
  go_wp2_with fail
  refine (new_yes 4 2 _ (by decide)).mono ?_
  rintro e w2 ⟨rfl, hn⟩
  obtain ⟨gs, G, hB, hF, hE⟩ := new_buf (Nat.le_refl _) (by decide) hn
  have S2 := Lib.hid ((FS.start hB (fun k hk => Nat.le_trans HA1.out.size (hF k hk)) (HA1.out.trans (hE.mono HA1.out.size))).add (HX1.out.below hE HX1.out.lt) (fun h => by have := hF _ h; have := HX1.out.lt; omega))
  have r1 := (S2.out.at_ 0 _ rfl).cell 1
  have e1 : (opC kind asid pick ova l)[1]? = some (.int .i64 asid) := rfl
  have e2 : (opC kind asid pick ova l)[2]? = some (.int .i64 pick) := rfl
  have e3 : (opC kind asid pick ova l)[14]? = some (.int .i64 l.lev) := rfl
  have e4 : (opC kind asid pick ova l)[9]? = some (.bool l.g) := rfl
  clear hn hB hF hE HX1 HA1
  go_wp2_with fail
  refine (find_not w1.heap.size gs G (emptyT 4 2) 2 va asid _ HV.out (by decide) (by decide) (by decide) S2.out.buf (empty_valid 4 2) (find_empty va asid)).mono ?_
  rintro e w3 ⟨rfl, hb⟩
  have S3 := Lib.hid ((S2.out.step hb).push lf0.cs rfl)
  have r1 := (S3.out.at_ 1 _ rfl).cell 1
  have r2 := (S3.out.at_ 1 _ rfl).cell 2
  clear hb S2
  go_wp2_with (first | ((with_reducible refine wl_store_new 33 (.tmp 9) (.tmp 32) rfl ?_ w3 (World.heap w3).size 33 lf0.cs lf0.cs ?_ ?_ ?_ ?_ ?_ ?_ ?_ ?_); exact rfl; exact rfl; exact rfl; exact rfl; exact rfl; exact rfl; exact leaf_row lf0; exact lcs_one lf0) | ((with_reducible refine wl_load 33 (.tmp 40) rfl ?_ W.heap.size 4 l.cs ?_ (op_leaf (S3.out.at_ 1 _ rfl)) ?_ ?_); exact rfl; exact rfl; exact leaf_row l))
  cases hbad : levOK l.lev
  · refine (fill_no w1.heap.size gs G (emptyT 4 2) 2 va asid l pick _ S3.out.buf hbad).mono ?_
    rintro e w4 ⟨rfl, hB2, hK2⟩
    have S4 := Lib.hid (S3.out.turn hB2 hK2 rfl)
    have hlv : ¬ (0 ≤ l.lev ∧ l.lev ≤ 2) := by simpa [levOK] using hbad
    have r3 := (S4.out.at_ 1 _ rfl).cell 14
    clear hB2 hK2 S3 hbad r1 r2
    by_cases hneg : l.lev < 0
    · clear hlv
      go_wp2_with fail
      go_ret
      exact ⟨rfl, S4.out.below⟩
    · have hbig : l.lev > 2 := by omega
      clear hlv
      go_wp2_with fail
      go_ret
      exact ⟨rfl, S4.out.below⟩
  · refine (fill_yes w1.heap.size gs G (emptyT 4 2) 2 va asid l pick _ HV.out HPK.out (by decide) (by decide) (by decide) (by decide) S3.out.buf hbad).mono ?_
    rintro e w4 ⟨rfl, hB2, hK2⟩
    have S4 := Lib.hid (S3.out.turn hB2 hK2 (fillS_length _ _ _ _ _))
    obtain ⟨a', ha'⟩ : ∃ a', a' = bits .xor .i64 asid 1 := ⟨_, rfl⟩
    have hne : a' ≠ asid := by rw [ha']; exact i64_xor1 asid HAS.out
    have HH := Lib.hid (held_fill va other asid a' l pick HV.out hbad hne)
    have HXO := Lib.hid ha'.symm
    have hin := (in_page va other l.lev HV.out hbad).2
    obtain ⟨sp, p, q, s, hsp, h0, h1, h2, h3, h4⟩ := in_steps va other l.lev HV.out hbad
    have HIN := Lib.hid hin
    have H1 := Lib.hid h1
    have H2 := Lib.hid h2
    have H3 := Lib.hid h3
    have H4 := Lib.hid h4
    have hl0 : 0 ≤ l.lev := by simp [levOK] at hbad; omega
    have hl2 : l.lev ≤ 2 := by simp [levOK] at hbad; omega
    generalize fillS (emptyT 4 2) va asid l pick = T at *
    generalize inN va other l.lev = inn at *
    have r3 := (S4.out.at_ 1 _ rfl).cell 14
    have HL := Lib.hid hbad
    clear hB2 hK2 S3 hbad r1 r2 h1 h2 h3 h4 hin hne ha'
    have hsp0 : ¬ (sp : Int) = 0 := by omega
    have hsp1 : ¬ sp = 0 := by omega
    go_wp2_with fail
    have h1 := H1.out
    have h2 := H2.out
    have h3 := H3.out
    have h4 := H4.out
    refine wp_region_plan [(0, false), (1, false), (2, false), (3, false), (4, false), (5, false), (6, false), (7, false), (8, false), (9, false)] (by kernel_rfl) (by kernel_rfl) (fun _ d _ _ _ h => by cases d <;> exact h) ?_
    iterate 10 (refine plan_take (v := ?_) rfl (by kernel_rfl) ?_ ?_; rotate_left; (focus (intro w' hw'; try go_simp; try with_reducible rfl)); simp only [Act.put, List.setIfInBounds_toArray, List.set_cons_zero, List.set_cons_succ])
    refine plan_end ?_
    clear h0 h1 h2 h3 h4 hsp0 hsp1 hsp r3 hl0 hl2
    have S5 := Lib.hid (S4.out.step (Below.refl _ _).drew)
    have r1 := (S5.out.at_ 1 _ rfl).cell 1
    go_wp2_with fail
    refine (find_yes w1.heap.size gs G T 2 inn asid l _ HIN.out (by rw [HH.out.len]; decide) (by rw [HH.out.len]; decide) (by decide) S5.out.buf HH.out.val HH.out.f2).mono ?_
    rintro e w5 ⟨rfl, hb⟩
    have S6 := Lib.hid ((S5.out.step hb).push l.cs rfl)
    have r1 := (S6.out.at_ 2 _ rfl).cell 1
    have heq := fun W => leaf_same W l HWF.out
    have hxo := HXO.out
    clear hb S4 S5
    go_wp2_with (first | ((with_reducible refine wl_store_new 33 (.tmp 13) (.tmp 81) rfl ?_ w5 (World.heap w5).size 33 lf0.cs l.cs ?_ ?_ ?_ ?_ ?_ ?_ ?_ ?_); exact rfl; exact rfl; exact rfl; exact rfl; exact rfl; exact rfl; exact leaf_row l; exact lcs_one l) | ((with_reducible refine wl_load 33 (.tmp 86) rfl ?_ w5.heap.size 0 l.cs ?_ (S6.out.range 0 _ rfl) ?_ ?_); exact rfl; exact rfl; exact leaf_row l) | ((with_reducible refine wl_load 33 (.tmp 13) rfl ?_ w5.heap.size 0 l.cs ?_ (S6.out.range 0 _ rfl) ?_ ?_); exact rfl; exact rfl; exact leaf_row l) | ((with_reducible refine wl_load 33 (.tmp 87) rfl ?_ W.heap.size 4 l.cs ?_ (op_leaf (S6.out.at_ 2 _ rfl)) ?_ ?_); exact rfl; exact rfl; exact leaf_row l))
    refine (find_opt w1.heap.size gs G T 2 inn a' l _ HIN.out (by rw [HH.out.len]; decide) (by rw [HH.out.len]; decide) (by decide) S6.out.buf HH.out.val HH.out.f3).mono ?_
    rintro e w6 ⟨⟨z, rfl⟩, hb⟩
    have S7 := Lib.hid ((S6.out.step hb).push z.cs rfl)
    have r1 := (S7.out.at_ 3 _ rfl).cell 1
    have r9 := (S7.out.at_ 3 _ rfl).cell 9
    have hW1 : Below (w6.alloc (.cells z.cs 33)).heap.size (w6.alloc (.cells z.cs 33)) ((w6.alloc (.cells z.cs 33)).alloc (.cells #[.int .u64 inn] 29)) := (Below.refl _ _).alloc (Nat.le_refl _) _
    have r8 := ((S7.out.step hW1).at_ 3 _ rfl).cell 1
    have HW : Hid (Below (w6.alloc (.cells z.cs 33)).heap.size (w6.alloc (.cells z.cs 33)) (((w6.alloc (.cells z.cs 33)).alloc (.cells #[.int .u64 inn] 29)).alloc (.cells #[.int .i64 a'] 3))) := Lib.hid (((Below.refl _ _).alloc (Nat.le_refl _) _).alloc (by simp) _)
    have HO : Hid (OneU (((w6.alloc (.cells z.cs 33)).alloc (.cells #[.int .u64 inn] 29)).alloc (.cells #[.int .i64 a'] 3)) (some inn) (.slice (some ⟨w6.heap.size + 1, 0, none⟩) 1 1)) := Lib.hid ⟨_, rfl, by rw [((Blkf.new_at (w6.alloc (.cells z.cs 33)) _ _ _ (by simp)).alloc _).cell]; rfl⟩
    have HI : Hid (OneI (((w6.alloc (.cells z.cs 33)).alloc (.cells #[.int .u64 inn] 29)).alloc (.cells #[.int .i64 a'] 3)) (some a') (.slice (some ⟨w6.heap.size + 1 + 1, 0, none⟩) 1 1)) := Lib.hid ⟨_, rfl, by rw [(Blkf.new_at _ _ _ _ (by simp)).cell]; rfl⟩
    clear hb S6 hW1 heq
    go_wp2_with (first | ((with_reducible refine wl_store_new 33 (.tmp 15) (.tmp 98) rfl ?_ w6 (World.heap w6).size 33 lf0.cs z.cs ?_ ?_ ?_ ?_ ?_ ?_ ?_ ?_); exact rfl; exact rfl; exact rfl; exact rfl; exact rfl; exact rfl; exact leaf_row z; exact lcs_one z))
    refine (fence_any w1.heap.size gs G T 2 (some inn) (some a') _ _ _ (fun _ h => by injection h with h; rw [← h]; exact HIN.out) (by rw [HH.out.len]; decide) (by rw [HH.out.len]; decide) (by decide) (by decide) (S7.out.step HW.out).buf HH.out.val HO.out HI.out).mono ?_
    rintro e w7 ⟨rfl, hB2, hK2⟩
    rw [HH.out.n1]
    rw [HH.out.t1] at hB2
    have S8 := Lib.hid ((S7.out.step HW.out).turn hB2 hK2 rfl)
    have HW8 : Hid (Below w7.heap.size w7 (w7.alloc (.cells #[.int .u64 inn] 29))) := Lib.hid ((Below.refl _ _).alloc (Nat.le_refl _) _)
    have HO8 : Hid (OneU (w7.alloc (.cells #[.int .u64 inn] 29)) (some inn) (.slice (some ⟨w7.heap.size, 0, none⟩) 1 1)) := Lib.hid ⟨_, rfl, by rw [(Blkf.new_at w7 _ _ _ rfl).cell]; rfl⟩
    clear hB2 hK2 S7 HW HO HI r1 r9 r8
    go_wp2_with fail
    refine (fence_any w1.heap.size gs G T 2 (some inn) none _ _ _ (fun _ h => by injection h with h; rw [← h]; exact HIN.out) (by rw [HH.out.len]; decide) (by rw [HH.out.len]; decide) (by decide) (by decide) (S8.out.step HW8.out).buf HH.out.val HO8.out rfl).mono ?_
    rintro e w8 ⟨rfl, hB2, hK2⟩
    rw [HH.out.n2]
    rw [HH.out.t2] at hB2
    have S9 := Lib.hid ((S8.out.step HW8.out).turn hB2 hK2 (by rw [HH.out.len]; rfl))
    have r1 := (S9.out.at_ 3 _ rfl).cell 1
    clear hB2 hK2 S8 HW8 HO8
    go_wp2_with fail
    refine (find_not w1.heap.size gs G (emptyT 4 2) 2 va asid _ HV.out (by decide) (by decide) (by decide) S9.out.buf (empty_valid 4 2) (find_empty va asid)).mono ?_
    rintro e w9 ⟨rfl, hb⟩
    have S10 := Lib.hid ((S9.out.step hb).push lf0.cs rfl)
    clear hb S9 r1
    go_wp2_with (first | ((with_reducible refine wl_store_new 33 (.tmp 18) (.tmp 127) rfl ?_ w9 (World.heap w9).size 33 lf0.cs lf0.cs ?_ ?_ ?_ ?_ ?_ ?_ ?_ ?_); exact rfl; exact rfl; exact rfl; exact rfl; exact rfl; exact rfl; exact leaf_row lf0; exact lcs_one lf0))
    refine (len1 (emptyT 4 2) 0 rfl w1.heap.size gs G 2 _ (by decide) (by decide) S10.out.buf).mono ?_
    rintro e w10 ⟨rfl, hb⟩
    have S11 := Lib.hid (S10.out.step hb)
    clear hb S10
    go_wp2_with fail
    go_ret
    exact ⟨rfl, S11.out.below⟩
theorem i64_wf {x : Int} (h : (Lit.int .i64 x).wf = true) : -9223372036854775808 ≤ x ∧ x < 9223372036854775808 := i64_of_wf h
theorem Law.TlbHolds (va other kind asid pick ova : Int) (v r w x u g a d : Bool) (rsw ppn lev pos : Int) (W : World) (hva : (Lit.int .u64 va).wf = true) (hot : (Lit.int .u64 other).wf = true) (_ : (Lit.int .i64 kind).wf = true) (has : (Lit.int .i64 asid).wf = true) (hpk : (Lit.int .i64 pick).wf = true) (_ : (Lit.int .u64 ova).wf = true)
    (hrs : (Lit.int .i64 rsw).wf = true) (hpp : (Lit.int .u64 ppn).wf = true) (hle : (Lit.int .i64 lev).wf = true) (hpo : (Lit.int .u64 pos).wf = true) :
    Calls Try.prog 4 #[.int .u64 va, .int .u64 other, .agg #[.int .i64 kind, .int .i64 asid, .int .i64 pick, .int .u64 ova, .bool v, .bool r, .bool w, .bool x, .bool u, .bool g, .bool a, .bool d, .int .i64 rsw, .int .u64 ppn, .int .i64 lev, .int .u64 pos]] W fun e w' => e = .returned (.bool true) ∧ Below W.heap.size W w' := by
  obtain ⟨va, rfl⟩ := Int.eq_ofNat_of_zero_le (u64_of_wf hva).1
  obtain ⟨other, rfl⟩ := Int.eq_ofNat_of_zero_le (u64_of_wf hot).1
  obtain ⟨ppn, rfl⟩ := Int.eq_ofNat_of_zero_le (u64_of_wf hpp).1
  obtain ⟨pos, rfl⟩ := Int.eq_ofNat_of_zero_le (u64_of_wf hpo).1
  exact holds_walk va other kind asid pick ova ⟨v, r, w, x, u, g, a, d, rsw, ppn, lev, pos⟩ W (by have := (u64_of_wf hva).2; omega) (i64_wf has) (i64_wf hpk) ⟨hrs, hpp, hle, hpo⟩
end Go.Proofs.Ytnjoobggcejgkaa
