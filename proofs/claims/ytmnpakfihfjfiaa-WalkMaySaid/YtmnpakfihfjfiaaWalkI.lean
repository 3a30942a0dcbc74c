/- first. -/
import Derived.Test.YtmnpakfihfjfiaaWalkH
import Derived.Test.YtmnpakfihfjfiaaWalkJ
namespace Go.Proofs.Ytmnpakfihfjfiaa
open Go.RowKit

theorem fdAt_lead {n : Nat} {S : Nat → List Nat} {va l t a x : Nat} {k : Fd} (ha : atX va t l = a) (hx : ldR n S a 8 = x) (hc : chkE n a 8 = 0) (hg : goodX x = true) (hl : leafX x = false) (hd : leadX x l = true) : fdAt n S va l t k = k := by
  unfold fdAt
  rw [ha, hx, if_pos hc, if_pos hg, if_neg (by rw [hl]; decide), if_pos hd]
theorem fdAt_end {n : Nat} {S : Nat → List Nat} {va l t a x : Nat} {k : Fd} (ha : atX va t l = a) (hx : ldR n S a 8 = x) (hc : chkE n a 8 = 0) (hg : goodX x = true) (hl : leafX x = true) (hd : evenB (ppnX x) l = true) : fdAt n S va l t k = .leaf x l a := by
  unfold fdAt
  rw [ha, hx, if_pos hc, if_pos hg, if_pos hl, if_pos hd]
theorem fdAt_bad {n : Nat} {S : Nat → List Nat} {va l t a x : Nat} {k : Fd} (ha : atX va t l = a) (hx : ldR n S a 8 = x) (hc : chkE n a 8 = 0) (hg : goodX x = false) : fdAt n S va l t k = .err 51 := by
  unfold fdAt
  rw [ha, hx, if_pos hc, if_neg (by rw [hg]; decide)]
def ws0 : List (Nat × Nat) := [(0, 1025), (4096, 2049), (8200, 3295)]
def S0 : Nat → List Nat := laidS 4 ws0
theorem S0_eq : S0 = stR 4 (stR 4 (stR 4 emptyS 0 8 1025) 4096 8 2049) 8200 8 3295 := rfl
theorem S0_0 : ldR 4 S0 0 8 = 1025 := by
  rw [S0_eq, ld_other (((Full.empty.store _ _ _ _)).store _ _ _ _) (by decide) (by decide), ld_other (Full.empty.store _ _ _ _) (by decide) (by decide), ld_same (by decide) (by decide)]
theorem S0_1 : ldR 4 S0 4096 8 = 2049 := by
  rw [S0_eq, ld_other (((Full.empty.store _ _ _ _)).store _ _ _ _) (by decide) (by decide), ld_same (by decide) (by decide)]
theorem S0_2 : ldR 4 S0 8200 8 = 3295 := by
  rw [S0_eq, ld_same (by decide) (by decide)]
theorem S0_3 : ldR 4 S0 8208 8 = 0 := by
  rw [S0_eq, ld_other (((Full.empty.store _ _ _ _)).store _ _ _ _) (by decide) (by decide), ld_other (Full.empty.store _ _ _ _) (by decide) (by decide), ld_other Full.empty (by decide) (by decide), ld_empty]
theorem find0 : findW 4 S0 true 0 4660 = .leaf 3295 0 8200 := by
  unfold findW
  rw [if_pos rfl, if_pos (by decide)]
  show fdAt 4 S0 4660 2 0 _ = _
  rw [fdAt_lead (a := 0) (x := 1025) (by decide) S0_0 (by decide) (by decide) (by decide) (by decide), show ldR 4 S0 (atX 4660 0 (1 + 1)) 8 = 1025 from S0_0]
  show fdAt 4 S0 4660 1 1 _ = _
  rw [fdAt_lead (a := 4096) (x := 2049) (by decide) S0_1 (by decide) (by decide) (by decide) (by decide), show ldR 4 S0 (atX 4660 (ppnX 1025) (0 + 1)) 8 = 2049 from S0_1]
  show fdAt 4 S0 4660 0 2 _ = _
  rw [fdAt_end (a := 8200) (x := 3295) (by decide) S0_2 (by decide) (by decide) (by decide) (by decide)]
theorem find1 : findW 4 S0 true 0 8756 = .err 51 := by
  unfold findW
  rw [if_pos rfl, if_pos (by decide)]
  show fdAt 4 S0 8756 2 0 _ = _
  rw [fdAt_lead (a := 0) (x := 1025) (by decide) S0_0 (by decide) (by decide) (by decide) (by decide), show ldR 4 S0 (atX 8756 0 (1 + 1)) 8 = 1025 from S0_0]
  show fdAt 4 S0 8756 1 1 _ = _
  rw [fdAt_lead (a := 4096) (x := 2049) (by decide) S0_1 (by decide) (by decide) (by decide) (by decide), show ldR 4 S0 (atX 8756 (ppnX 1025) (0 + 1)) 8 = 2049 from S0_1]
  show fdAt 4 S0 8756 0 2 _ = _
  rw [fdAt_bad (a := 8208) (x := 0) (by decide) S0_3 (by decide) (by decide)]
theorem wd0 (W : World) : WdAt (W.alloc (.cells #[.int .u64 0, .int .u64 1025, .int .u64 4096, .int .u64 2049, .int .u64 8200, .int .u64 3295] 51)) (some ⟨W.heap.size, 0, none⟩) ws0 := fun _ => by
  have hb := Blkf.new_at W 51 (0, 0) #[.int .u64 0, .int .u64 1025, .int .u64 4096, .int .u64 2049, .int .u64 8200, .int .u64 3295] rfl
  refine ⟨_, 0, rfl, hb.lt, fun k x hx => ?_⟩
  have hk : k < 3 := (List.getElem?_eq_some_iff.1 hx).1
  rcases (show k = 0 ∨ k = 1 ∨ k = 2 by omega) with rfl | rfl | rfl <;> (injection hx with hx; subst hx; exact ⟨hb.cell _, hb.cell _, by decide, by decide⟩)
/-- What Walk returns. -/
def wkL (fd : Fd) (a : Int) (user sum mxr : Bool) : Lf :=
  match fd with
  | .err _ => lf0
  | .leaf x l p => if checkX x a user sum mxr then fdL (.leaf x l p) else lf0
theorem wkV_cs (fd : Fd) (a : Int) (user sum mxr : Bool) : wkV fd a user sum mxr = .agg (wkL fd a user sum mxr).cs := by
  cases fd with
  | err e => rfl
  | leaf x l p =>
    simp only [wkV, wkL]
    split
    · exact fdV_cs _
    · rfl
theorem wk0 : wkL (findW 4 S0 true 0 4660) 2 true false false = fdL (.leaf 3295 0 8200) ∧ wkC (findW 4 S0 true 0 4660) 2 true false false = -1 := by
  rw [find0]
  exact ⟨rfl, rfl⟩
theorem wk1 : wkL (findW 4 S0 true 0 8756) 1 true false false = lf0 ∧ wkC (findW 4 S0 true 0 8756) 1 true false false = 13 := by
  rw [find1]
  exact ⟨rfl, rfl⟩
/-- Both memories, and locals. -/
structure PS (W : World) (gm xb n : Nat) (L : List (Nat × Nat)) (S : Nat → List Nat) (loc : List (Nat × TypeId × Array Value)) (w : World) : Prop where
  play : Play W (fun _ => False) gm xb n L S w
  loc : ∀ p ∈ loc, Blk w p.1 p.2.1 p.2.2
section
variable {W w w' : World} {gm xb n : Nat} {L : List (Nat × Nat)} {S : Nat → List Nat} {loc : List (Nat × TypeId × Array Value)}
theorem PS.step (h : PS W gm xb n L S loc w) (hb : Below w.heap.size w w') : PS W gm xb n L S loc w' := ⟨h.play.below hb, fun p hp => (h.loc p hp).below hb (h.loc p hp).lt⟩
theorem PS.push (h : PS W gm xb n L S loc w) (cs : Array Value) (t : TypeId) {b : Nat} (hb : b = w.heap.size) : PS W gm xb n L S ((b, t, cs) :: loc) (w.alloc (.cells cs t)) := by
  subst hb
  have h1 := h.step ((Below.refl w.heap.size w).alloc (Nat.le_refl _) (.cells cs t))
  refine ⟨h1.play, fun p hp => ?_⟩
  rcases List.mem_cons.1 hp with rfl | hp
  · exact Blkf.new_at _ _ _ _ rfl
  · exact h1.loc p hp
theorem PS.at_ (h : PS W gm xb n L S loc w) (i : Nat) (p : Nat × TypeId × Array Value) (hp : loc[i]? = some p) : Blk w p.1 p.2.1 p.2.2 := h.loc p (List.mem_of_getElem? hp)
theorem PS.range (h : PS W gm xb n L S loc w) (i : Nat) (p : Nat × TypeId × Array Value) (hp : loc[i]? = some p) : w.rangeAt p.1 0 p.2.2.toList := (h.at_ i p hp).range
theorem PS.walk (h : PS W gm xb n L S loc w) (va ppn : Nat) (asid a : Int) (on user sum mxr : Bool) (hv : va < 18446744073709551616) (hp : ppn < 18446744073709551616) :
    Calls Try.prog 7 #[.pointer (some ⟨gm, 0, none⟩), .agg #[.bool on, .int .i64 asid, .int .u64 (ppn : Int)], .int .u64 (va : Int), .int .i64 a, .agg #[.bool user, .bool sum, .bool mxr]] w fun e w' =>
      e = .returned (.tuple #[.agg (wkL (findW n S on ppn va) a user sum mxr).cs, .int .i64 (wkC (findW n S on ppn va) a user sum mxr)]) ∧ PS W gm xb n L S loc w' := by
  obtain ⟨F, G, g1, _⟩ := h.play
  exact (walk_any gm n va ppn asid a on user sum mxr F S w g1 hv hp).mono fun e w' ⟨h1, h2⟩ => ⟨by rw [h1, wkV_cs], h.step h2⟩
theorem PS.find (h : PS W gm xb n L S loc w) (va ppn : Nat) (asid : Int) (on : Bool) (hv : va < 18446744073709551616) (hp : ppn < 18446744073709551616) :
    Calls Try.prog 9 #[.pointer (some ⟨gm, 0, none⟩), .agg #[.bool on, .int .i64 asid, .int .u64 (ppn : Int)], .int .u64 (va : Int)] w fun e w' =>
      e = .returned (.tuple #[.agg (fdL (findW n S on ppn va)).cs, .int .i64 (fdE (findW n S on ppn va))]) ∧ PS W gm xb n L S loc w' := by
  obtain ⟨F, G, g1, _⟩ := h.play
  exact (Find_any gm n va ppn asid on F S w g1 hv hp).mono fun e w' ⟨h1, h2⟩ => ⟨by rw [h1, fdV_cs], h.step h2⟩
end
theorem place_c (x l a va : Nat) (W : World) (hv : va < 18446744073709551616) :
    Calls Try.prog 10 #[.agg (fdL (.leaf x l a)).cs, .int .u64 (va : Int)] W fun e w' => e = .returned (.int .u64 ((joinV (ppnX x) va (l : Int) : Nat) : Int)) ∧ Below W.heap.size W w' := by
  rw [← fdV_cs]
  exact place_leaf x l a va W hv
theorem find_nil_c (va : Nat) (on : Bool) (asid ppn : Int) (W : World) :
    Calls Try.prog 9 #[.pointer none, .agg #[.bool on, .int .i64 asid, .int .u64 ppn], .int .u64 (va : Int)] W fun e w' => e = .returned (.tuple #[.agg lf0.cs, .int .i64 1]) ∧ Below W.heap.size W w' := find_nil va on asid ppn W
set_option maxRecDepth 20000 in
set_option maxHeartbeats 4000000 in
theorem first_ok (W : World) : Calls Try.prog 5 #[] W fun e w' => e = .returned (.bool true) ∧ Below W.heap.size W w' := by
  go_enter Try.func5, Try.ntmps5
  go_wp2_with fail
  refine (laid_any 4 _ 3 3 ws0 _ (by decide) (by decide) rfl (wd0 W) (by decide)).mono ?_
  rintro e w1 ⟨g, xb, L, rfl, hp, hr⟩
  have e0 : laidS 4 (ws0.take 60) = S0 := rfl
  rw [e0] at hp
  have S1 : Hid (PS (W.alloc (.cells #[.int .u64 0, .int .u64 1025, .int .u64 4096, .int .u64 2049, .int .u64 8200, .int .u64 3295] 51)) g xb 4 L S0 [(w1.heap.size, 31, #[.bool true, .int .i64 0, .int .u64 0])] (w1.alloc (.cells #[.bool true, .int .i64 0, .int .u64 0] 31))) := Lib.hid (PS.push ⟨hp, fun p hp => by simp at hp⟩ _ _ rfl)
  clear hp hr e0
  go_wp2_with fail
  refine (S1.out.walk 4660 0 0 2 true true false false (by decide) (by decide)).mono ?_
  rintro e w2 ⟨rfl, hs2⟩
  rw [wk0.1, wk0.2]
  have S2 := Lib.hid (hs2.push (fdL (.leaf 3295 0 8200)).cs 38 rfl)
  have d0 := (S2.out.at_ 1 _ rfl).cell 0
  have d1 := (S2.out.at_ 1 _ rfl).cell 1
  have d2 := (S2.out.at_ 1 _ rfl).cell 2
  simp at d0 d1 d2
  clear hs2 S1
  go_wp2_with (first | ((with_reducible refine wl_store_new 38 (.tmp 4) (.tmp 24) rfl ?_ w2 (World.heap w2).size 38 lf0.cs (fdL (.leaf 3295 0 8200)).cs ?_ ?_ ?_ ?_ ?_ ?_ ?_ ?_); exact rfl; exact rfl; exact rfl; exact rfl; exact rfl; exact rfl; exact lrow _; exact lcs_one _))
  refine (S2.out.walk 8756 0 0 1 true true false false (by decide) (by decide)).mono ?_
  rintro e w3 ⟨rfl, hs3⟩
  rw [wk1.1, wk1.2]
  have S3 := Lib.hid (hs3.push lf0.cs 38 rfl)
  clear d0 d1 d2
  have d0 := (S3.out.at_ 2 _ rfl).cell 0
  have d1 := (S3.out.at_ 2 _ rfl).cell 1
  have d2 := (S3.out.at_ 2 _ rfl).cell 2
  simp at d0 d1 d2
  clear hs3 S2
  go_wp2_with (first | ((with_reducible refine wl_store_new 38 (.tmp 6) (.tmp 31) rfl ?_ w3 (World.heap w3).size 38 lf0.cs lf0.cs ?_ ?_ ?_ ?_ ?_ ?_ ?_ ?_); exact rfl; exact rfl; exact rfl; exact rfl; exact rfl; exact rfl; exact lrow _; exact lcs_one _))
  refine (find_nil_c 0 true 0 0 _).mono ?_
  rintro e w4 ⟨rfl, hb4⟩
  have S4 := Lib.hid ((S3.out.step hb4).push lf0.cs 38 rfl)
  clear d0 d1 d2 hb4 S3
  have d0 := (S4.out.at_ 2 _ rfl).cell 10
  have d1 := (S4.out.at_ 2 _ rfl).cell 11
  rw [lcs_10] at d0
  rw [lcs_11] at d1
  simp only [fdL] at d0 d1
  go_wp2_with (first | ((with_reducible refine wl_store_new 38 (.tmp 8) (.tmp 36) rfl ?_ w4 (World.heap w4).size 38 lf0.cs lf0.cs ?_ ?_ ?_ ?_ ?_ ?_ ?_ ?_); exact rfl; exact rfl; exact rfl; exact rfl; exact rfl; exact rfl; exact lrow _; exact lcs_one _) | ((with_reducible refine wl_load 38 (.tmp 4) rfl ?_ w2.heap.size 0 (fdL (.leaf 3295 0 8200)).cs ?_ (S4.out.range 2 _ rfl) ?_ ?_); exact rfl; exact rfl; exact lrow _))
  refine (place_c 3295 0 8200 4660 _ (by decide)).mono ?_
  rintro e w5 ⟨rfl, hb5⟩
  rw [show joinV (ppnX 3295) 4660 (((0 : Nat)) : Int) = 12852 from rfl]
  have HB := Lib.hid ((S4.out.step hb5).play.bel)
  clear d0 d1 hb5 S4
  go_wp2_with fail
  go_ret
  exact ⟨rfl, ((Below.refl _ _).alloc (Nat.le_refl _) _).trans (HB.out.mono (by simp))⟩
end Go.Proofs.Ytmnpakfihfjfiaa
