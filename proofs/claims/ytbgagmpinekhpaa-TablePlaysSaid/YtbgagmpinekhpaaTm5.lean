/- Merged texts: TabT, TabU, TabV. -/
import Derived.Test.YtbgagmpinekhpaaTm4
import Derived.Test.YtbgagmpinekhpaaPlanI
/- The reference's tables: Map. -/
namespace Go.Proofs.Ytbgagmpinekhpaa
open Go.RowKit

theorem own_mono {w : World} {b b' : Nat} {e : TypeId} {s n : Nat} {v : Value} {xs : List Value} (h : w.ownsRow b' e s v n xs) (hb : b ≤ b') : w.ownsRow b e s v n xs := by
  refine ⟨h.1, ?_⟩
  rcases h.2 with h' | ⟨g, cap, cur, a1, a2, a3⟩
  · exact .inl h'
  · exact .inr ⟨g, cap, cur, a1, Nat.le_trans hb a2, a3⟩
theorem infoT : (Try.prog.info? 94).map (fun i => (i.zero, i.size, i.bytes)) = some (some (.agg #[.int .i64 0, .int .u64 0]), 2, 16) := by kernel_rfl
theorem mp_reads {w : World} {g : Nat} {cs : Array Value} {m : Mp} (hb : Blk w g 62 cs) (e : cs.toList = m.vs) : Reads w w.heap.size 12 (some ⟨g, 0, none⟩) 1 m.vs := by
  refine ⟨by rw [mvs_12], fun _ => ⟨_, rfl, hb.lt, fun j u hu => ?_⟩⟩
  have e2 : (⟨g, 0, none⟩ : Addr).add j = ⟨g, j, none⟩ := by unfold Addr.add; split <;> simp_all
  rw [e2, hb.cell, ← Array.getElem?_toList, e]
  exact hu
section
variable {W w w' : World} {rb : Nat} {c : TC} {x : XS} {F H : Nat → Prop}
theorem XAt.readL (h : XAt w rb c x F) : ∃ A cA, w.cell? ⟨rb, 0, none⟩ = some (.slice A x.L.length cA) ∧ Reads w w.heap.size 12 A x.L.length (x.L.flatMap Mp.vs) ∧ rb < w.heap.size := by
  obtain ⟨vL, vT, h1, h2, h3, h4, h5⟩ := h.own
  obtain ⟨A, cA, rfl⟩ := own_form h2
  exact ⟨A, cA, h1.cell 0, Reads.of_own h2, h1.lt⟩
theorem XAt.readT (h : XAt w rb c x F) : ∃ A cA, w.cell? ⟨rb, 1, none⟩ = some (.slice A x.T.length cA) ∧ Reads w w.heap.size 2 A x.T.length (x.T.flatMap Tb.vs) ∧ rb < w.heap.size := by
  obtain ⟨vL, vT, h1, h2, h3, h4, h5⟩ := h.own
  obtain ⟨A, cA, rfl⟩ := own_form h3
  exact ⟨A, cA, h1.cell 1, Reads.of_own h3, h1.lt⟩
/-- The receiver's own cells may be written. -/
theorem XAt.room (h : XAt w rb c x F) (i : Nat) (hi : i < 6) : (∃ u, w.cell? ⟨rb, i, none⟩ = some u) ∧ w.frozen? ⟨rb, i, none⟩ = false := by
  obtain ⟨vL, vT, h1, h2, h3, h4, h5⟩ := h.own
  exact ⟨⟨_, (h1.cell i).trans (Array.getElem?_eq_getElem (show i < 6 from hi))⟩, Blk.frozen h1 i⟩
end
theorem pcs_row : rowT Try.prog 25 10 = true := by kernel_rfl
/-- What the tables' lists may hold. -/
def Roomy (x : XS) : Prop := x.L.length ≤ 100000 ∧ x.T.length ≤ 100000
section
variable (rb : Nat) (c : TC) (x0 : XS) (F : Nat → Prop) (W : World) (v r w x u g a d : Bool) (rsw : Int) (ppn va : Nat)
theorem rmap_bad (l : Int) (h : XAt W rb c x0 F) (hv : va < 18446744073709551616) (hr : (Lit.int .i64 rsw).wf = true) (hp : ppn < 18446744073709551616) (hbad : (canonB va && mayB (⟨v, r, w, x, u, g, a, d, rsw, (ppn : Int)⟩ : Pte) l) = false) :
    Calls Try.prog 18 #[.pointer (some ⟨rb, 0, none⟩), .int .u64 (va : Int), .int .i64 l, .agg #[.bool v, .bool r, .bool w, .bool x, .bool u, .bool g, .bool a, .bool d, .int .i64 rsw, .int .u64 (ppn : Int)]] W fun e w' => e = .returned (.int .i64 2) ∧ XTo W rb c x0 F w' := by
  have HX := Lib.hid h
  have HV := Lib.hid hv
  have HRS := Lib.hid hr
  have HPP := Lib.hid hp
  have HE : Hid (Below W.heap.size W (W.alloc (.cells #[.bool v, .bool r, .bool w, .bool x, .bool u, .bool g, .bool a, .bool d, .int .i64 rsw, .int .u64 (ppn : Int)] 25))) := Lib.hid ((Below.refl _ W).alloc (Nat.le_refl _) _)
  have HPB : Hid (Blk (W.alloc (.cells #[.bool v, .bool r, .bool w, .bool x, .bool u, .bool g, .bool a, .bool d, .int .i64 rsw, .int .u64 (ppn : Int)] 25)) W.heap.size 25 #[.bool v, .bool r, .bool w, .bool x, .bool u, .bool g, .bool a, .bool d, .int .i64 rsw, .int .u64 (ppn : Int)]) := Lib.hid (Blkf.new_at _ _ _ _ rfl)
  cases hc : canonB va with
  | false =>
    have HCN := Lib.hid hc
    clear h hv hr hp hbad hc
    go_enter Try.func18, Try.ntmps18
    go_wp2_with fail
    refine (rcanon_any va _ HV.out).mono ?_
    rintro e w' ⟨rfl, rfl⟩
    rw [HCN.out]
    go_wp2_with fail
    go_ret
    exact ⟨rfl, HX.out.to_below HE.out⟩
  | true =>
    have HCN := Lib.hid hc
    rw [hc, Bool.true_and] at hbad
    have HMY := Lib.hid hbad
    clear h hv hr hp hbad hc
    go_enter Try.func18, Try.ntmps18
    go_wp2_with fail
    generalize (W.alloc (.cells #[.bool v, .bool r, .bool w, .bool x, .bool u, .bool g, .bool a, .bool d, .int .i64 rsw, .int .u64 (ppn : Int)] 25)) = w0 at *
    refine (rcanon_any va _ HV.out).mono ?_
    rintro e w' ⟨rfl, rfl⟩
    rw [HCN.out]
    have hbl := HPB.out.lt
    have hrg : w0.rangeAt W.heap.size 0 #[.bool v, .bool r, .bool w, .bool x, .bool u, .bool g, .bool a, .bool d, .int .i64 rsw, .int .u64 (ppn : Int)].toList := HPB.out.range
    have HRG := Lib.hid hrg
    clear hrg
    go_wp2_with (first | ((with_reducible refine wl_load 25 (.tmp 7) rfl ?_ W.heap.size 0 #[.bool v, .bool r, .bool w, .bool x, .bool u, .bool g, .bool a, .bool d, .int .i64 rsw, .int .u64 (ppn : Int)] ?_ HRG.out ?_ ?_); exact rfl; exact rfl; exact pcs_row))
    refine (rmay_any v r w x u g a d rsw ppn l _ HRS.out HPP.out).mono ?_
    rintro e w2 ⟨rfl, hb2⟩
    rw [HMY.out]
    have H2 := Lib.hid (HX.out.to_below (HE.out.trans (hb2.mono HE.out.size)))
    clear hb2 hbl
    go_wp2_with fail
    go_ret
    exact ⟨rfl, H2.out⟩
set_option maxRecDepth 100000 in
set_option maxHeartbeats 8000000 in
theorem rmap_ok (lev : Nat) (h : XAt W rb c x0 F) (hv : va < 18446744073709551616) (hr : (Lit.int .i64 rsw).wf = true) (hp : ppn < 18446744073709551616) (hcn : canonB va = true) (hlv : lev ≤ 2) (hmy : mayB (⟨v, r, w, x, u, g, a, d, rsw, (ppn : Int)⟩ : Pte) (lev : Int) = true) (hs : Small c x0) (hk : x0.k ≤ c.N) (hroom : Roomy x0) :
    Calls Try.prog 18 #[.pointer (some ⟨rb, 0, none⟩), .int .u64 (va : Int), .int .i64 (lev : Int), .agg #[.bool v, .bool r, .bool w, .bool x, .bool u, .bool g, .bool a, .bool d, .int .i64 rsw, .int .u64 (ppn : Int)]] W fun e w' => e = .returned (.int .i64 (mapX c va lev (⟨v, r, w, x, u, g, a, d, rsw, (ppn : Int)⟩ : Pte) (2 - lev) x0).1) ∧ XTo W rb c (mapX c va lev (⟨v, r, w, x, u, g, a, d, rsw, (ppn : Int)⟩ : Pte) (2 - lev) x0).2 F w' := by
  obtain ⟨im0, hi0, hz0, hz1, hz2⟩ := info_parts infoM
  obtain ⟨im1, hj0, hj1, hj2, hj3⟩ := info_parts infoT
  have HX := Lib.hid h
  have HV := Lib.hid hv
  have HRS := Lib.hid hr
  have HPP := Lib.hid hp
  have HCN := Lib.hid hcn
  have HMY := Lib.hid hmy
  have HSM := Lib.hid hs
  have HKN := Lib.hid hk
  have HROOM := Lib.hid hroom
  have HLV := Lib.hid hlv
  have HE : Hid (Below W.heap.size W (W.alloc (.cells #[.bool v, .bool r, .bool w, .bool x, .bool u, .bool g, .bool a, .bool d, .int .i64 rsw, .int .u64 (ppn : Int)] 25))) := Lib.hid ((Below.refl _ W).alloc (Nat.le_refl _) _)
  have HPB0 : Hid (Blk (W.alloc (.cells #[.bool v, .bool r, .bool w, .bool x, .bool u, .bool g, .bool a, .bool d, .int .i64 rsw, .int .u64 (ppn : Int)] 25)) W.heap.size 25 #[.bool v, .bool r, .bool w, .bool x, .bool u, .bool g, .bool a, .bool d, .int .i64 rsw, .int .u64 (ppn : Int)]) := Lib.hid (Blkf.new_at _ _ _ _ rfl)
  have hlI : (lev : Int) ≤ 2 := by omega
  obtain ⟨res, hres⟩ : ∃ q, q = mapX c va lev (⟨v, r, w, x, u, g, a, d, rsw, (ppn : Int)⟩ : Pte) (2 - lev) x0 := ⟨_, rfl⟩
  rw [← hres]
  have HRES0 := Lib.hid hres
  clear h hv hr hp hcn hmy hs hk hroom hres hlv
  go_enter Try.func18, Try.ntmps18
  go_wp2_with fail
  generalize (W.alloc (.cells #[.bool v, .bool r, .bool w, .bool x, .bool u, .bool g, .bool a, .bool d, .int .i64 rsw, .int .u64 (ppn : Int)] 25)) = w0 at *
  refine (rcanon_any va _ HV.out).mono ?_
  rintro e w' ⟨rfl, rfl⟩
  rw [HCN.out]
  have hbl := HPB0.out.lt
  have hrg : w0.rangeAt W.heap.size 0 #[.bool v, .bool r, .bool w, .bool x, .bool u, .bool g, .bool a, .bool d, .int .i64 rsw, .int .u64 (ppn : Int)].toList := HPB0.out.range
  have HRG := Lib.hid hrg
  clear hrg
  go_wp2_with (first | ((with_reducible refine wl_load 25 (.tmp 7) rfl ?_ W.heap.size 0 #[.bool v, .bool r, .bool w, .bool x, .bool u, .bool g, .bool a, .bool d, .int .i64 rsw, .int .u64 (ppn : Int)] ?_ HRG.out ?_ ?_); exact rfl; exact rfl; exact pcs_row))
  refine (rmay_any v r w x u g a d rsw ppn (lev : Int) _ HRS.out HPP.out).mono ?_
  rintro e w2 ⟨rfl, hb2⟩
  rw [HMY.out]
  have HPB2 := Lib.hid (HPB0.out.below hb2 hbl)
  have HX2 := Lib.hid (HX.out.keeps (Keeps.of_below (F := fun _ => False) (HE.out.trans (hb2.mono HE.out.size))) (fun _ _ h => h))
  have HB2 := Lib.hid (HE.out.trans (hb2.mono HE.out.size))
  have HWW : Hid (∀ w9 x9, XTo w2 rb c x9 F w9 → XTo W rb c x9 F w9) := Lib.hid (fun w9 x9 h9 => xto_trans (fun _ h => .inl h) (Keeps.of_below HB2.out) h9)
  have HPN : Hid (¬ F W.heap.size) := Lib.hid (fun e => Nat.lt_irrefl _ (HX.out.lt _ e))
  clear hb2 HRG HPB0 HE hbl HCN HMY HRS
  generalize W.heap.size = pb at *
  clear w0
  go_wp2_with fail
  go_loopw [9] (fun i wr => ∃ (dd : Nat) (x1 : XS), i = .int .i64 ((lev + dd : Nat) : Int) ∧ lev + dd ≤ 2 ∧ XTo w2 rb c x1 F wr ∧ mapX c va lev (⟨v, r, w, x, u, g, a, d, rsw, (ppn : Int)⟩ : Pte) dd x1 = res ∧ x1.k ≤ c.N ∧ x1.L.length ≤ 100000 ∧ x1.T.length + dd ≤ 100002) (fun i _ => (intOf i).toNat)
  case atStart => exact ⟨2 - lev, x0, by rw [show lev + (2 - lev) = 2 by have := HLV.out; omega]; rfl, by have := HLV.out; omega, ⟨F, HX2.out, fun _ h => .inl h, Keeps.refl _ _⟩, HRES0.out.symm, HKN.out, HROOM.out.1, by have := HROOM.out.2; omega⟩
  case round =>
    obtain ⟨dd, x1, rfl, hdd, hto, hres, hk1, hl1, hl2⟩ := hrel
    have HKN := Lib.hid hk1
    have HLEN : Hid (x1.L.length ≤ 100000 ∧ x1.T.length + dd ≤ 100002) := Lib.hid ⟨hl1, hl2⟩
    have HDD := Lib.hid hdd
    have HRES := Lib.hid hres
    have HPB := Lib.hid (by obtain ⟨_, _, _, k⟩ := hto; exact k.blk HPB2.out HPN.out)
    obtain ⟨F1, h1, hF1, k1⟩ := hto
    have H1 := Lib.hid h1
    have HCC : Hid (∀ w3 x3, XTo wr rb c x3 F1 w3 → XTo w2 rb c x3 F w3) := Lib.hid (fun w3 x3 h3 => xto_trans hF1 k1 h3)
    clear hk1 hl1 hl2 hres h1 hF1 k1 HX2 HPB2 HRES0
    cases dd with
    | zero =>
      simp only [Nat.add_zero] at HDD ⊢
      have HRESE : Hid (res = if pageP x1.L va lev = none ∧ (lev = 0 ∨ tabF c.root x1.T va (lev - 1) = none) then ((0 : Int), (⟨x1.L ++ [⟨baseN va lev, lev, (⟨v, r, w, x, u, g, a, d, rsw, (ppn : Int)⟩ : Pte)⟩], x1.T, x1.k⟩ : XS)) else (130, x1)) := Lib.hid (by rw [← HRES.out]; rfl)
      cases hpg : pageI x1.L va lev with
      | some j =>
        have HPG : Hid (idxV (pageI x1.L va lev) = (j : Int)) := Lib.hid (by rw [hpg]; rfl)
        have HRES1 : Hid (res = (130, x1)) := Lib.hid (by
          rw [HRESE.out, if_neg]
          rintro ⟨h1, _⟩
          obtain ⟨m, _, h2⟩ := pageI_some hpg
          rw [h1] at h2; cases h2)
        have hj : (j : Int) < 9223372036854775807 := by
          have h1 := (List.findIdx?_eq_some_iff_getElem.1 hpg).1
          have := HLEN.out.1
          omega
        have h0 : (0 : Int) ≤ (j : Int) := by omega
        have d0 : decide ((0 : Int) ≤ (j : Int)) = true := decide_eq_true h0
        clear hpg
        go_wp2_with fail
        refine (rpage_any rb c x1 F1 wr va lev H1.out HLV.out HV.out).mono ?_
        rintro e w3 ⟨rfl, hb3⟩
        rw [HPG.out]
        have HTB := Lib.hid (H1.out.to_below hb3)
        clear hb3
        go_wp2_with fail
        go_ret
        exact ⟨by rw [HRES1.out]; rfl, by rw [HRES1.out]; exact HWW.out _ _ (HCC.out _ _ HTB.out)⟩
      | none =>
        have HPG : Hid (idxV (pageI x1.L va lev) = -1) := Lib.hid (by rw [hpg]; rfl)
        have hpp := pageI_none hpg
        clear hpg
        by_cases hl0 : lev = 0
        · have HRES1 : Hid (res.1 = 0) := Lib.hid (by rw [HRESE.out, if_pos ⟨hpp, .inl hl0⟩])
          have HRES2 : Hid (res.2 = ⟨x1.L ++ [⟨baseN va lev, lev, (⟨v, r, w, x, u, g, a, d, rsw, (ppn : Int)⟩ : Pte)⟩], x1.T, x1.k⟩) := Lib.hid (by rw [HRESE.out, if_pos ⟨hpp, .inl hl0⟩])
          have i0 : ¬ (0 : Int) < (lev : Int) := by omega
          have d0 : decide ((0 : Int) < (lev : Int)) = false := decide_eq_false i0
          clear hpp hl0 HRES HRESE
          go_wp2_with fail
          refine (rpage_any rb c x1 F1 wr va lev H1.out HLV.out HV.out).mono ?_
          rintro e w3 ⟨rfl, hb3⟩
          rw [HPG.out]
          have H3 := Lib.hid (H1.out.below hb3)
          have HCC3 : Hid (∀ w9 x9, XTo w3 rb c x9 F1 w9 → XTo w2 rb c x9 F w9) := Lib.hid (fun w9 x9 h9 => HCC.out _ _ (xto_trans (fun _ h => .inl h) (Keeps.of_below hb3) h9))
          have HPB3 := Lib.hid (HPB.out.below hb3 HPB.out.lt)
          clear hb3 H1 HCC HPB
          go_upto_region 15 with fail
          obtain ⟨A, cA, c0, hR, hlt⟩ := H3.out.readL
          obtain ⟨n, hn⟩ : ∃ n, n = x1.L.length := ⟨_, rfl⟩
          have HN := Lib.hid hn
          have HNB : Hid (n ≤ 100001) := Lib.hid (by rw [hn]; have := HLEN.out.1; omega)
          rw [← hn] at c0 hR
          have HRn := Lib.hid hR
          obtain ⟨bs, hbs⟩ : ∃ bs, bs = baseN va lev := ⟨_, rfl⟩
          have HBS := Lib.hid hbs
          have HBC : Hid (∀ w' : World, Calls Try.prog 39 #[.int .u64 (va : Int), .int .i64 (lev : Int)] w' fun e w'' => e = .returned (.int .u64 (bs : Int)) ∧ w' = w'') := Lib.hid (fun w' => by rw [hbs]; exact rbase_any va lev w' HLV.out HV.out)
          clear hn hR hbs
          have hpr : (w3.drew).rangeAt pb 0 #[.bool v, .bool r, .bool w, .bool x, .bool u, .bool g, .bool a, .bool d, .int .i64 rsw, .int .u64 (ppn : Int)].toList := HPB3.out.range
          have HPR := Lib.hid hpr
          have HPL : Hid (pb < w3.heap.size) := Lib.hid HPB3.out.lt
          clear hpr
          refine wp_region_plan_by (fun u u' => Below w3.heap.size u u') ⟨fun u => Below.refl _ u, fun h k => h.trans k⟩ [(0, false), (2, false), (3, false), (4, false), (5, false), (7, false), (8, false), (10, false), (11, false), (1, true), (6, true), (9, false), (12, false), (13, true), (14, true), (15, false), (16, false), (17, true)] (by kernel_rfl) (by kernel_rfl) (fun _ d _ _ _ h => by cases d <;> exact h) ?_
          have s0 : ∀ W' : World, Below w3.heap.size w3.drew W' → W'.cell? ⟨rb, 0, none⟩ = some (.slice A n cA) := fun W' h => (h.cell (p := ⟨rb, 0, none⟩) hlt).trans c0
          iterate 8 (refine plan_take (v := ?_) rfl (by kernel_rfl) ?_ ?_; rotate_left; (focus (intro w' hw'; try go_simp; try with_reducible rfl)); simp only [Act.put, List.setIfInBounds_toArray, List.set_cons_zero, List.set_cons_succ])
          refine plan_take rfl (by kernel_rfl) (fun w' h' => run_load_op 25 (.tmp 7) rfl pb 0 #[.bool v, .bool r, .bool w, .bool x, .bool u, .bool g, .bool a, .bool d, .int .i64 rsw, .int .u64 (ppn : Int)] rfl (range_below (w := w3.drew) HPR.out h') pcs_row) ?_
          (try simp only [Act.put, List.setIfInBounds_toArray, List.set_cons_zero, List.set_cons_succ])
          have HC : Hid (Below w3.heap.size w3 w3.drew) := Lib.hid ((Below.refl _ w3).drew)
          clear s0 c0
          generalize w3.drew = y at *
          refine plan_turn rfl (by kernel_rfl) (fun K hK => ?_)
          go_simp
          refine hK _ _ ⟨(Below.refl _ _).alloc HC.out.size _, ?_⟩
          clear hK K
          (try simp only [Act.put, List.setIfInBounds_toArray, List.set_cons_zero, List.set_cons_succ])
          have hE : Below y.heap.size y (y.alloc (.cells #[] 62)) := (Below.refl _ _).alloc (Nat.le_refl _) _
          have HO : Hid ((y.alloc (.cells #[] 62)).ownsRow w3.heap.size 62 12 (.slice (some ⟨y.heap.size, 0, none⟩) 0 0) 0 []) := Lib.hid (own_mono (World.ownsRow_made y #[] 0 (Nat.le_refl _) (by unfold maxLen; omega) rfl) HC.out.size)
          have HC := Lib.hid (HC.out.trans (hE.mono HC.out.size))
          clear hE
          generalize y.alloc (.cells #[] 62) = y1 at *
          generalize y.heap.size = g0 at *
          refine plan_turn rfl (by kernel_rfl) (fun K hK => ?_)
          refine wp_append_any y1 (.tmp 74) (.tmp 78) _ rfl w3.heap.size 62 im0 _ 12 40 Try.underlying40 hi0 hz0 hz1 hz2 rfl (by decide) (.slice (some ⟨g0, 0, none⟩) 0 0) 0 [] rfl HO.out w3.heap.size A n cA (x1.L.flatMap Mp.vs) rfl (HRn.out.below HC.out) (one_mp _) (by unfold maxLen; have := HNB.out; omega) (by have := HNB.out; omega) HC.out.size ?_
          intro v2 y2 hown hgrow hat
          refine hK _ _ ⟨(Below.refl _ _).grown hgrow HC.out.size (fun k hk => (HO.out.lt k hk).1), ?_⟩
          clear hK K
          (try simp only [Act.put, List.setIfInBounds_toArray, List.set_cons_zero, List.set_cons_succ])
          rw [Nat.zero_add, List.nil_append] at hown
          have HC := Lib.hid (HC.out.grown hgrow HC.out.size (fun k hk => (HO.out.lt k hk).1))
          have HO := Lib.hid hown
          obtain ⟨A2, c2, e2⟩ := own_form hown
          subst e2
          clear hown hgrow hat
          refine plan_quiet rfl (by kernel_rfl) (fun w' => by go_simp; all_goals (first | exact ⟨rfl, rfl⟩ | rfl)) (fun w' hw' => (HBC.out w')) ?_
          simp only [Act.put, List.setIfInBounds_toArray, List.set_cons_zero, List.set_cons_succ]
          iterate 1 (refine plan_take (v := ?_) rfl (by kernel_rfl) ?_ ?_; rotate_left; (focus (intro w' hw'; try go_simp; try with_reducible rfl)); simp only [Act.put, List.setIfInBounds_toArray, List.set_cons_zero, List.set_cons_succ])
          refine plan_turn rfl (by kernel_rfl) (fun K hK => ?_)
          go_simp
          refine hK _ _ ⟨(Below.refl _ _).alloc HC.out.size _, ?_⟩
          clear hK K
          (try simp only [Act.put, List.setIfInBounds_toArray, List.set_cons_zero, List.set_cons_succ])
          have hE : Below y2.heap.size y2 (y2.alloc (.cells #[.int .u64 (bs : Int), .int .i64 (lev : Int), .bool v, .bool r, .bool w, .bool x, .bool u, .bool g, .bool a, .bool d, .int .i64 rsw, .int .u64 (ppn : Int)] 62)) := (Below.refl _ _).alloc (Nat.le_refl _) _
          have HG : Hid (Blk (y2.alloc (.cells #[.int .u64 (bs : Int), .int .i64 (lev : Int), .bool v, .bool r, .bool w, .bool x, .bool u, .bool g, .bool a, .bool d, .int .i64 rsw, .int .u64 (ppn : Int)] 62)) y2.heap.size 62 #[.int .u64 (bs : Int), .int .i64 (lev : Int), .bool v, .bool r, .bool w, .bool x, .bool u, .bool g, .bool a, .bool d, .int .i64 rsw, .int .u64 (ppn : Int)]) := Lib.hid (Blkf.new_at _ _ _ _ rfl)
          have HO := Lib.hid ((Keeps.of_below (F := fun _ => False) hE).row HO.out (fun _ _ h => h))
          have HC := Lib.hid (HC.out.trans (hE.mono HC.out.size))
          clear hE
          generalize y2.alloc (.cells #[.int .u64 (bs : Int), .int .i64 (lev : Int), .bool v, .bool r, .bool w, .bool x, .bool u, .bool g, .bool a, .bool d, .int .i64 rsw, .int .u64 (ppn : Int)] 62) = y3 at *
          generalize y2.heap.size = g1 at *
          refine plan_turn rfl (by kernel_rfl) (fun K hK => ?_)
          refine wp_append_any y3 (.tmp 79) (.tmp 86) _ rfl w3.heap.size 62 im0 _ 12 40 Try.underlying40 hi0 hz0 hz1 hz2 rfl (by decide) _ n (x1.L.flatMap Mp.vs) rfl HO.out y3.heap.size (some ⟨g1, 0, none⟩) 1 1 (⟨bs, lev, (⟨v, r, w, x, u, g, a, d, rsw, (ppn : Int)⟩ : Pte)⟩ : Mp).vs rfl (mp_reads (m := ⟨bs, lev, (⟨v, r, w, x, u, g, a, d, rsw, (ppn : Int)⟩ : Pte)⟩) HG.out rfl) (mvs_one _) (by unfold maxLen; have := HNB.out; omega) (by have := HNB.out; omega) HC.out.size ?_
          intro v3 y4 hown hgrow hat
          refine hK _ _ ⟨(Below.refl _ _).grown hgrow HC.out.size (fun k hk => (HO.out.lt k hk).1), ?_⟩
          clear hK K
          (try simp only [Act.put, List.setIfInBounds_toArray, List.set_cons_zero, List.set_cons_succ])
          have HB3 : Hid (Below w3.heap.size w3 y4) := Lib.hid (HC.out.grown hgrow HC.out.size (fun k hk => (HO.out.lt k hk).1))
          obtain ⟨A3, c3, e3⟩ := own_form hown
          subst e3
          have HO3 := Lib.hid hown
          obtain ⟨⟨u3, k3⟩, f3⟩ := (H3.out.below HB3.out).room 0 (by decide)
          have l3 : rb < y4.heap.size := Nat.lt_of_lt_of_le hlt HB3.out.size
          clear hown hgrow hat
          iterate 2 (refine plan_take (v := ?_) rfl (by kernel_rfl) ?_ ?_; rotate_left; (focus (intro w' hw'; try go_simp; try with_reducible rfl)); simp only [Act.put, List.setIfInBounds_toArray, List.set_cons_zero, List.set_cons_succ])
          refine plan_last rfl (by kernel_rfl) (by kernel_rfl) (fun K hK => ?_)
          go_simp
          refine hK _ _ ?_
          clear hK K f3 k3 l3
          refine plan_end ?_
          go_wp2_with fail
          go_ret
          have hfl : (x1.L ++ [(⟨baseN va lev, lev, (⟨v, r, w, x, u, g, a, d, rsw, (ppn : Int)⟩ : Pte)⟩ : Mp)]).flatMap Mp.vs = x1.L.flatMap Mp.vs ++ (⟨bs, lev, (⟨v, r, w, x, u, g, a, d, rsw, (ppn : Int)⟩ : Pte)⟩ : Mp).vs := by rw [List.flatMap_append, HBS.out]; simp
          refine ⟨by rw [HRES1.out]; rfl, HWW.out _ _ ?_⟩
          rw [HRES2.out]
          exact HCC3.out _ _ (H3.out.putL HB3.out (n := n + 1) (by rw [hfl]; exact HO3.out) (by rw [List.length_append, HN.out]; rfl))
        · have hl1 : 0 < lev := by omega
          obtain ⟨l1, hll⟩ : ∃ l1, lev = l1 + 1 := ⟨lev - 1, by omega⟩
          have i0 : (0 : Int) < (lev : Int) := by omega
          have d0 : decide ((0 : Int) < (lev : Int)) = true := decide_eq_true i0
          have i1 : (lev : Int) - 1 = (l1 : Int) := by omega
          have HL1 : Hid (l1 ≤ 1 ∧ lev - 1 = l1) := Lib.hid ⟨by have := HLV.out; omega, by omega⟩
          have hl1b : (l1 : Int) ≤ 1 := by have := HL1.out; omega
          clear hll
          cases hld : laidB x1.T va l1 with
          | true =>
            have HLD := Lib.hid hld
            have HRES1 : Hid (res = (130, x1)) := Lib.hid (by
              rw [HRESE.out, if_neg]
              rintro ⟨_, h2⟩
              rcases h2 with h2 | h2
              · exact hl0 h2
              · rw [HL1.out.2] at h2
                rw [laid_tab c.root x1.T va l1 (by have := HL1.out; omega), h2] at hld
                cases hld)
            clear hld hpp hl0
            go_wp2_with fail
            refine (rpage_any rb c x1 F1 wr va lev H1.out HLV.out HV.out).mono ?_
            rintro e w3 ⟨rfl, hb3⟩
            rw [HPG.out]
            have HB3 := Lib.hid hb3
            clear hb3
            go_wp2_with fail
            refine (rlaid_any rb c x1 F1 w3 va l1 (H1.out.below HB3.out) HL1.out.1 HV.out).mono ?_
            rintro e w4 ⟨rfl, hb4⟩
            rw [HLD.out]
            have HTB := Lib.hid (H1.out.to_below (HB3.out.trans (hb4.mono HB3.out.size)))
            clear hb4
            go_wp2_with fail
            go_ret
            exact ⟨by rw [HRES1.out]; rfl, by rw [HRES1.out]; exact HWW.out _ _ (HCC.out _ _ HTB.out)⟩
          | false =>
            have HLD := Lib.hid hld
            have hcd : pageP x1.L va lev = none ∧ (lev = 0 ∨ tabF c.root x1.T va (lev - 1) = none) := ⟨hpp, .inr (by
              rw [HL1.out.2]
              rw [laid_tab c.root x1.T va l1 (by have := HL1.out; omega)] at hld
              cases e : tabF c.root x1.T va l1 with
              | none => rfl
              | some q => rw [e] at hld; cases hld)⟩
            have HRES1 : Hid (res.1 = 0) := Lib.hid (by rw [HRESE.out, if_pos hcd])
            have HRES2 : Hid (res.2 = ⟨x1.L ++ [⟨baseN va lev, lev, (⟨v, r, w, x, u, g, a, d, rsw, (ppn : Int)⟩ : Pte)⟩], x1.T, x1.k⟩) := Lib.hid (by rw [HRESE.out, if_pos hcd])
            clear hld hpp hl0 hcd HRES HRESE
            go_wp2_with fail
            refine (rpage_any rb c x1 F1 wr va lev H1.out HLV.out HV.out).mono ?_
            rintro e w3 ⟨rfl, hb3⟩
            rw [HPG.out]
            have HB3 := Lib.hid hb3
            clear hb3
            go_wp2_with fail
            refine (rlaid_any rb c x1 F1 w3 va l1 (H1.out.below HB3.out) HL1.out.1 HV.out).mono ?_
            rintro e w4 ⟨rfl, hb4⟩
            rw [HLD.out]
            have HB4 := Lib.hid (HB3.out.trans (hb4.mono HB3.out.size))
            clear hb4
            have H3 := Lib.hid (H1.out.below HB4.out)
            have HCC3 : Hid (∀ w9 x9, XTo w4 rb c x9 F1 w9 → XTo w2 rb c x9 F w9) := Lib.hid (fun w9 x9 h9 => HCC.out _ _ (xto_trans (fun _ h => .inl h) (Keeps.of_below HB4.out) h9))
            have HPB3 := Lib.hid (HPB.out.below HB4.out HPB.out.lt)
            clear HB3 HB4 H1 HCC HPB
            go_upto_region 15 with fail
            obtain ⟨A, cA, c0, hR, hlt⟩ := H3.out.readL
            obtain ⟨n, hn⟩ : ∃ n, n = x1.L.length := ⟨_, rfl⟩
            have HN := Lib.hid hn
            have HNB : Hid (n ≤ 100001) := Lib.hid (by rw [hn]; have := HLEN.out.1; omega)
            rw [← hn] at c0 hR
            have HRn := Lib.hid hR
            obtain ⟨bs, hbs⟩ : ∃ bs, bs = baseN va lev := ⟨_, rfl⟩
            have HBS := Lib.hid hbs
            have HBC : Hid (∀ w' : World, Calls Try.prog 39 #[.int .u64 (va : Int), .int .i64 (lev : Int)] w' fun e w'' => e = .returned (.int .u64 (bs : Int)) ∧ w' = w'') := Lib.hid (fun w' => by rw [hbs]; exact rbase_any va lev w' HLV.out HV.out)
            clear hn hR hbs
            have hpr : (w4.drew).rangeAt pb 0 #[.bool v, .bool r, .bool w, .bool x, .bool u, .bool g, .bool a, .bool d, .int .i64 rsw, .int .u64 (ppn : Int)].toList := HPB3.out.range
            have HPR := Lib.hid hpr
            have HPL : Hid (pb < w4.heap.size) := Lib.hid HPB3.out.lt
            clear hpr
            refine wp_region_plan_by (fun u u' => Below w4.heap.size u u') ⟨fun u => Below.refl _ u, fun h k => h.trans k⟩ [(0, false), (2, false), (3, false), (4, false), (5, false), (7, false), (8, false), (10, false), (11, false), (1, true), (6, true), (9, false), (12, false), (13, true), (14, true), (15, false), (16, false), (17, true)] (by kernel_rfl) (by kernel_rfl) (fun _ d _ _ _ h => by cases d <;> exact h) ?_
            have s0 : ∀ W' : World, Below w4.heap.size w4.drew W' → W'.cell? ⟨rb, 0, none⟩ = some (.slice A n cA) := fun W' h => (h.cell (p := ⟨rb, 0, none⟩) hlt).trans c0
            iterate 8 (refine plan_take (v := ?_) rfl (by kernel_rfl) ?_ ?_; rotate_left; (focus (intro w' hw'; try go_simp; try with_reducible rfl)); simp only [Act.put, List.setIfInBounds_toArray, List.set_cons_zero, List.set_cons_succ])
            refine plan_take rfl (by kernel_rfl) (fun w' h' => run_load_op 25 (.tmp 7) rfl pb 0 #[.bool v, .bool r, .bool w, .bool x, .bool u, .bool g, .bool a, .bool d, .int .i64 rsw, .int .u64 (ppn : Int)] rfl (range_below (w := w4.drew) HPR.out h') pcs_row) ?_
            (try simp only [Act.put, List.setIfInBounds_toArray, List.set_cons_zero, List.set_cons_succ])
            have HC : Hid (Below w4.heap.size w4 w4.drew) := Lib.hid ((Below.refl _ w4).drew)
            clear s0 c0
            generalize w4.drew = y at *
            refine plan_turn rfl (by kernel_rfl) (fun K hK => ?_)
            go_simp
            refine hK _ _ ⟨(Below.refl _ _).alloc HC.out.size _, ?_⟩
            clear hK K
            (try simp only [Act.put, List.setIfInBounds_toArray, List.set_cons_zero, List.set_cons_succ])
            have hE : Below y.heap.size y (y.alloc (.cells #[] 62)) := (Below.refl _ _).alloc (Nat.le_refl _) _
            have HO : Hid ((y.alloc (.cells #[] 62)).ownsRow w4.heap.size 62 12 (.slice (some ⟨y.heap.size, 0, none⟩) 0 0) 0 []) := Lib.hid (own_mono (World.ownsRow_made y #[] 0 (Nat.le_refl _) (by unfold maxLen; omega) rfl) HC.out.size)
            have HC := Lib.hid (HC.out.trans (hE.mono HC.out.size))
            clear hE
            generalize y.alloc (.cells #[] 62) = y1 at *
            generalize y.heap.size = g0 at *
            refine plan_turn rfl (by kernel_rfl) (fun K hK => ?_)
            refine wp_append_any y1 (.tmp 74) (.tmp 78) _ rfl w4.heap.size 62 im0 _ 12 40 Try.underlying40 hi0 hz0 hz1 hz2 rfl (by decide) (.slice (some ⟨g0, 0, none⟩) 0 0) 0 [] rfl HO.out w4.heap.size A n cA (x1.L.flatMap Mp.vs) rfl (HRn.out.below HC.out) (one_mp _) (by unfold maxLen; have := HNB.out; omega) (by have := HNB.out; omega) HC.out.size ?_
            intro v2 y2 hown hgrow hat
            refine hK _ _ ⟨(Below.refl _ _).grown hgrow HC.out.size (fun k hk => (HO.out.lt k hk).1), ?_⟩
            clear hK K
            (try simp only [Act.put, List.setIfInBounds_toArray, List.set_cons_zero, List.set_cons_succ])
            rw [Nat.zero_add, List.nil_append] at hown
            have HC := Lib.hid (HC.out.grown hgrow HC.out.size (fun k hk => (HO.out.lt k hk).1))
            have HO := Lib.hid hown
            obtain ⟨A2, c2, e2⟩ := own_form hown
            subst e2
            clear hown hgrow hat
            refine plan_quiet rfl (by kernel_rfl) (fun w' => by go_simp; all_goals (first | exact ⟨rfl, rfl⟩ | rfl)) (fun w' hw' => (HBC.out w')) ?_
            simp only [Act.put, List.setIfInBounds_toArray, List.set_cons_zero, List.set_cons_succ]
            iterate 1 (refine plan_take (v := ?_) rfl (by kernel_rfl) ?_ ?_; rotate_left; (focus (intro w' hw'; try go_simp; try with_reducible rfl)); simp only [Act.put, List.setIfInBounds_toArray, List.set_cons_zero, List.set_cons_succ])
            refine plan_turn rfl (by kernel_rfl) (fun K hK => ?_)
            go_simp
            refine hK _ _ ⟨(Below.refl _ _).alloc HC.out.size _, ?_⟩
            clear hK K
            (try simp only [Act.put, List.setIfInBounds_toArray, List.set_cons_zero, List.set_cons_succ])
            have hE : Below y2.heap.size y2 (y2.alloc (.cells #[.int .u64 (bs : Int), .int .i64 (lev : Int), .bool v, .bool r, .bool w, .bool x, .bool u, .bool g, .bool a, .bool d, .int .i64 rsw, .int .u64 (ppn : Int)] 62)) := (Below.refl _ _).alloc (Nat.le_refl _) _
            have HG : Hid (Blk (y2.alloc (.cells #[.int .u64 (bs : Int), .int .i64 (lev : Int), .bool v, .bool r, .bool w, .bool x, .bool u, .bool g, .bool a, .bool d, .int .i64 rsw, .int .u64 (ppn : Int)] 62)) y2.heap.size 62 #[.int .u64 (bs : Int), .int .i64 (lev : Int), .bool v, .bool r, .bool w, .bool x, .bool u, .bool g, .bool a, .bool d, .int .i64 rsw, .int .u64 (ppn : Int)]) := Lib.hid (Blkf.new_at _ _ _ _ rfl)
            have HO := Lib.hid ((Keeps.of_below (F := fun _ => False) hE).row HO.out (fun _ _ h => h))
            have HC := Lib.hid (HC.out.trans (hE.mono HC.out.size))
            clear hE
            generalize y2.alloc (.cells #[.int .u64 (bs : Int), .int .i64 (lev : Int), .bool v, .bool r, .bool w, .bool x, .bool u, .bool g, .bool a, .bool d, .int .i64 rsw, .int .u64 (ppn : Int)] 62) = y3 at *
            generalize y2.heap.size = g1 at *
            refine plan_turn rfl (by kernel_rfl) (fun K hK => ?_)
            refine wp_append_any y3 (.tmp 79) (.tmp 86) _ rfl w4.heap.size 62 im0 _ 12 40 Try.underlying40 hi0 hz0 hz1 hz2 rfl (by decide) _ n (x1.L.flatMap Mp.vs) rfl HO.out y3.heap.size (some ⟨g1, 0, none⟩) 1 1 (⟨bs, lev, (⟨v, r, w, x, u, g, a, d, rsw, (ppn : Int)⟩ : Pte)⟩ : Mp).vs rfl (mp_reads (m := ⟨bs, lev, (⟨v, r, w, x, u, g, a, d, rsw, (ppn : Int)⟩ : Pte)⟩) HG.out rfl) (mvs_one _) (by unfold maxLen; have := HNB.out; omega) (by have := HNB.out; omega) HC.out.size ?_
            intro v3 y4 hown hgrow hat
            refine hK _ _ ⟨(Below.refl _ _).grown hgrow HC.out.size (fun k hk => (HO.out.lt k hk).1), ?_⟩
            clear hK K
            (try simp only [Act.put, List.setIfInBounds_toArray, List.set_cons_zero, List.set_cons_succ])
            have HB3 : Hid (Below w4.heap.size w4 y4) := Lib.hid (HC.out.grown hgrow HC.out.size (fun k hk => (HO.out.lt k hk).1))
            obtain ⟨A3, c3, e3⟩ := own_form hown
            subst e3
            have HO3 := Lib.hid hown
            obtain ⟨⟨u3, k3⟩, f3⟩ := (H3.out.below HB3.out).room 0 (by decide)
            have l3 : rb < y4.heap.size := Nat.lt_of_lt_of_le hlt HB3.out.size
            clear hown hgrow hat
            iterate 2 (refine plan_take (v := ?_) rfl (by kernel_rfl) ?_ ?_; rotate_left; (focus (intro w' hw'; try go_simp; try with_reducible rfl)); simp only [Act.put, List.setIfInBounds_toArray, List.set_cons_zero, List.set_cons_succ])
            refine plan_last rfl (by kernel_rfl) (by kernel_rfl) (fun K hK => ?_)
            go_simp
            refine hK _ _ ?_
            clear hK K f3 k3 l3
            refine plan_end ?_
            go_wp2_with fail
            go_ret
            have hfl : (x1.L ++ [(⟨baseN va lev, lev, (⟨v, r, w, x, u, g, a, d, rsw, (ppn : Int)⟩ : Pte)⟩ : Mp)]).flatMap Mp.vs = x1.L.flatMap Mp.vs ++ (⟨bs, lev, (⟨v, r, w, x, u, g, a, d, rsw, (ppn : Int)⟩ : Pte)⟩ : Mp).vs := by rw [List.flatMap_append, HBS.out]; simp
            refine ⟨by rw [HRES1.out]; rfl, HWW.out _ _ ?_⟩
            rw [HRES2.out]
            exact HCC3.out _ _ (H3.out.putL HB3.out (n := n + 1) (by rw [hfl]; exact HO3.out) (by rw [List.length_append, HN.out]; rfl))
    | succ dd =>
      obtain ⟨L, hL⟩ : ∃ q, q = lev + (dd + 1) := ⟨_, rfl⟩
      obtain ⟨L1, hL1⟩ : ∃ q, q = lev + dd := ⟨_, rfl⟩
      have HRESE : Hid (res = match pageP x1.L va L with
          | some _ => (130, x1)
          | none => match tabF c.root x1.T va L1 with
            | some _ => mapX c va lev (⟨v, r, w, x, u, g, a, d, rsw, (ppn : Int)⟩ : Pte) dd x1
            | none => if x1.k = c.N then (50, x1) else if c.n ≤ c.first + x1.k then (61, x1) else mapX c va lev (⟨v, r, w, x, u, g, a, d, rsw, (ppn : Int)⟩ : Pte) dd ⟨x1.L, x1.T ++ [⟨L1, baseN va L, c.first + x1.k⟩], x1.k + 1⟩) := Lib.hid (by rw [← HRES.out, hL, hL1]; rfl)
      rw [← hL] at HDD ⊢
      have gL : (lev : Int) < (L : Int) := by omega
      have dL : decide ((lev : Int) < (L : Int)) = true := decide_eq_true gL
      have iL : (L : Int) - 1 = (L1 : Int) := by omega
      have HLL : Hid (L ≤ 2 ∧ L1 ≤ 1 ∧ L1 = lev + dd ∧ L = L1 + 1) := Lib.hid ⟨HDD.out, by have := HDD.out; omega, hL1, by omega⟩
      have hL1b : (L1 : Int) ≤ 1 := by have := HLL.out; omega
      clear hL hL1 HRES
      cases hpg : pageI x1.L va L with
      | some j =>
        have HPG : Hid (idxV (pageI x1.L va L) = (j : Int)) := Lib.hid (by rw [hpg]; rfl)
        have HRES1 : Hid (res = (130, x1)) := Lib.hid (by
          obtain ⟨m, _, h2⟩ := pageI_some hpg
          rw [HRESE.out, h2])
        have hj : (j : Int) < 9223372036854775807 := by
          have h1 := (List.findIdx?_eq_some_iff_getElem.1 hpg).1
          have := HLEN.out.1
          omega
        have h0 : (0 : Int) ≤ (j : Int) := by omega
        have d0 : decide ((0 : Int) ≤ (j : Int)) = true := decide_eq_true h0
        clear hpg
        go_wp2_with fail
        refine (rpage_any rb c x1 F1 wr va L H1.out HLL.out.1 HV.out).mono ?_
        rintro e w3 ⟨rfl, hb3⟩
        rw [HPG.out]
        have HTB := Lib.hid (H1.out.to_below hb3)
        clear hb3
        go_wp2_with fail
        go_ret
        exact ⟨by rw [HRES1.out]; rfl, by rw [HRES1.out]; exact HWW.out _ _ (HCC.out _ _ HTB.out)⟩
      | none =>
        have HPG : Hid (idxV (pageI x1.L va L) = -1) := Lib.hid (by rw [hpg]; rfl)
        have HPP := Lib.hid (pageI_none hpg)
        clear hpg
        go_wp2_with fail
        refine (rpage_any rb c x1 F1 wr va L H1.out HLL.out.1 HV.out).mono ?_
        rintro e w3 ⟨rfl, hb3⟩
        rw [HPG.out]
        have HB3 := Lib.hid hb3
        clear hb3
        cases hld : laidB x1.T va L1 with
        | true =>
          have HLD := Lib.hid hld
          have HNX : Hid (mapX c va lev (⟨v, r, w, x, u, g, a, d, rsw, (ppn : Int)⟩ : Pte) dd x1 = res) := Lib.hid (by
            rw [HRESE.out, HPP.out]
            rw [laid_tab c.root x1.T va L1 (by have := HLL.out; omega)] at hld
            cases e : tabF c.root x1.T va L1 with
            | none => rw [e] at hld; cases hld
            | some q => rfl)
          clear hld
          go_wp2_with fail
          refine (rlaid_any rb c x1 F1 w3 va L1 (H1.out.below HB3.out) HLL.out.2.1 HV.out).mono ?_
          rintro e w4 ⟨rfl, hb4⟩
          rw [HLD.out]
          have HTB := Lib.hid (HCC.out _ _ (H1.out.to_below (HB3.out.trans (hb4.mono HB3.out.size))))
          clear hb4
          go_wp2_with fail
          go_roundw
          case rel => exact ⟨dd, x1, by rw [← HLL.out.2.2.1], by have := HLL.out; omega, HTB.out, HNX.out, HKN.out, HLEN.out.1, by have := HLEN.out.2; omega⟩
          case measure => simp [intOf]; omega
        | false =>
          have HLD := Lib.hid hld
          have HTN : Hid (tabF c.root x1.T va L1 = none) := Lib.hid (by
            rw [laid_tab c.root x1.T va L1 (by have := HLL.out; omega)] at hld
            cases e : tabF c.root x1.T va L1 with
            | none => rfl
            | some q => rw [e] at hld; cases hld)
          clear hld
          go_wp2_with fail
          refine (rlaid_any rb c x1 F1 w3 va L1 (H1.out.below HB3.out) HLL.out.2.1 HV.out).mono ?_
          rintro e w4 ⟨rfl, hb4⟩
          rw [HLD.out]
          have HB4 := Lib.hid (HB3.out.trans (hb4.mono HB3.out.size))
          clear hb4 HB3
          have HSM1 : Hid (Small c x1) := Lib.hid ⟨HSM.out.1, HSM.out.2.1, HSM.out.2.2.1, Nat.le_trans HKN.out HSM.out.2.1⟩
          go_wp2_with fail
          refine (rtake_any rb c x1 F1 w4 (H1.out.below HB4.out) HSM1.out).mono ?_
          rintro e w5 ⟨rfl, ht5⟩
          by_cases hE : rtakeE c x1 = 0
          · have HXE : Hid (rtakeX c x1 = ⟨x1.L, x1.T, x1.k + 1⟩ ∧ x1.k ≠ c.N ∧ ¬ c.n ≤ c.first + x1.k) := Lib.hid (by
              unfold rtakeE at hE
              unfold rtakeX
              by_cases h1 : x1.k = c.N
              · rw [if_pos h1] at hE; cases hE
              · rw [if_neg h1] at hE ⊢
                by_cases h2 : c.n ≤ c.first + x1.k
                · rw [if_pos h2] at hE; cases hE
                · rw [if_neg h2]; exact ⟨rfl, h1, h2⟩)
            have HNX : Hid (mapX c va lev (⟨v, r, w, x, u, g, a, d, rsw, (ppn : Int)⟩ : Pte) dd ⟨x1.L, x1.T ++ [⟨L1, baseN va L, c.first + x1.k⟩], x1.k + 1⟩ = res) := Lib.hid (by
              rw [HRESE.out, HPP.out, HTN.out]
              simp only
              rw [if_neg HXE.out.2.1, if_neg HXE.out.2.2])
            rw [HXE.out.1] at ht5
            have HEE := Lib.hid hE
            rw [HEE.out]
            clear hE
            obtain ⟨F5, h5, hF5, k5⟩ := ht5
            have H5 := Lib.hid h5
            have HCC5 : Hid (∀ w9 x9, XTo w5 rb c x9 F5 w9 → XTo w2 rb c x9 F w9) := Lib.hid (fun w9 x9 h9 => HCC.out _ _ (xto_trans (fun _ h => .inl h) (Keeps.of_below HB4.out) (xto_trans hF5 k5 h9)))
            clear h5 hF5 k5 HB4 H1 HCC
            obtain ⟨A, cA, c0, hR, hlt⟩ := H5.out.readT
            simp only at c0 hR
            obtain ⟨n, hn⟩ : ∃ n, n = x1.T.length := ⟨_, rfl⟩
            have HN := Lib.hid hn
            have HNB : Hid (n ≤ 100002) := Lib.hid (by rw [hn]; have := HLEN.out.2; omega)
            rw [← hn] at c0 hR
            have HRn := Lib.hid hR
            obtain ⟨bs, hbs⟩ : ∃ bs, bs = baseN va L := ⟨_, rfl⟩
            have HBS := Lib.hid hbs
            clear hn hR hbs
            go_wp2_with (at_builtin; refine wpList_append_any _ rfl (.tmp 41) (.tmp 45) _ rfl w5.heap.size 94 im1 _ 2 16 Try.underlying63 hj0 hj1 hj2 hj3 rfl (by decide) _ 0 [] rfl (World.ownsRow_made w5 #[] 0 (Nat.le_refl _) (by unfold maxLen; omega) rfl) w5.heap.size A n cA (x1.T.flatMap Tb.vs) rfl (HRn.out.alloc (Nat.le_refl _) _) (one_tb _) (by unfold maxLen; have := HNB.out; omega) (by have := HNB.out; omega) (by simp) ?_; intro v2 w6 hown hgrow hat; rw [Nat.zero_add, List.nil_append] at hown; have HO := Lib.hid hown; have HB6 : Hid (Below w5.heap.size w5 w6) := Lib.hid (((Below.refl _ w5).alloc (Nat.le_refl _) _).grown hgrow (by simp) (fun k hk => by cases hk; exact Nat.le_refl _)); obtain ⟨A2, c2, e2⟩ := own_form HO.out; subst e2; clear hown hgrow hat)
            refine (rbase_any va L _ HLL.out.1 HV.out).mono ?_
            rintro e w' ⟨rfl, rfl⟩
            rw [← HBS.out]
            go_wp2_with (at_builtin; refine wpList_append_any _ rfl (.tmp 46) (.tmp 53) _ rfl w5.heap.size 94 im1 _ 2 16 Try.underlying63 hj0 hj1 hj2 hj3 rfl (by decide) _ n (x1.T.flatMap Tb.vs) rfl ((Keeps.of_below (F := fun _ => False) ((Below.refl _ w6).alloc (Nat.le_refl _) _)).row HO.out (fun _ _ h => h)) (w6.heap.size + 1) (some ⟨w6.heap.size, 0, none⟩) 1 1 [.int .i64 (L1 : Int), .int .u64 (bs : Int)] rfl (reads_new w6 #[.int .i64 (L1 : Int), .int .u64 (bs : Int)] 94 rfl) (by intro u hu; simp only [List.mem_cons, List.not_mem_nil, or_false] at hu; rcases hu with rfl | rfl <;> rfl) (by unfold maxLen; have := HNB.out; omega) (by have := HNB.out; omega) (Nat.le_trans HB6.out.size (by simp)) ?_; intro v3 w7 hown hgrow hat; have HO3 := Lib.hid hown; have HB7 : Hid (Below w5.heap.size w5 w7) := Lib.hid ((HB6.out.alloc HB6.out.size _).grown hgrow (Nat.le_trans HB6.out.size (by simp)) (fun k hk => (HO.out.lt k hk).1)); obtain ⟨A3, c3, e3⟩ := own_form HO3.out; subst e3; obtain ⟨⟨u3, k3⟩, f3⟩ := (H5.out.below HB7.out).room 1 (by decide); have l3 : rb < w7.heap.size := Nat.lt_of_lt_of_le hlt HB7.out.size; clear hown hgrow hat)
            have HTB := Lib.hid (HCC5.out _ _ (H5.out.putT (T' := x1.T ++ [⟨L1, baseN va L, c.first + x1.k⟩]) HB7.out (n := n + 1) (by
              have e : (x1.T ++ [(⟨L1, baseN va L, c.first + x1.k⟩ : Tb)]).flatMap Tb.vs = x1.T.flatMap Tb.vs ++ [.int .i64 (L1 : Int), .int .u64 (bs : Int)] := by rw [List.flatMap_append, HBS.out]; simp [Tb.vs]
              rw [e]; exact HO3.out) (by rw [List.length_append, HN.out]; rfl)))
            go_roundw
            case rel => exact ⟨dd, _, by rw [← HLL.out.2.2.1], by have := HLL.out; omega, HTB.out, HNX.out, by have := HXE.out.2.1; have := HKN.out; show x1.k + 1 ≤ c.N; omega, HLEN.out.1, by show (x1.T ++ _).length + dd ≤ 100002; rw [List.length_append]; have := HLEN.out.2; simp only [List.length_cons, List.length_nil]; omega⟩
            case measure => simp [intOf]; omega
          · have HXE : Hid (rtakeX c x1 = x1 ∧ res = (rtakeE c x1, x1)) := Lib.hid (by
              rw [HRESE.out, HPP.out, HTN.out]
              simp only
              unfold rtakeE at hE ⊢
              unfold rtakeX
              by_cases h1 : x1.k = c.N
              · rw [if_pos h1, if_pos h1, if_pos h1]; exact ⟨rfl, rfl⟩
              · rw [if_neg h1] at hE
                rw [if_neg h1, if_neg h1, if_neg h1]
                by_cases h2 : c.n ≤ c.first + x1.k
                · rw [if_pos h2, if_pos h2, if_pos h2]; exact ⟨rfl, rfl⟩
                · rw [if_neg h2] at hE; exact absurd rfl hE)
            rw [HXE.out.1] at ht5
            have HTB := Lib.hid (HCC.out _ _ (xto_trans (fun _ h => .inl h) (Keeps.of_below HB4.out) ht5))
            have HRES1 := Lib.hid HXE.out.2
            generalize rtakeE c x1 = E at *
            have b1 : (E != 0) = true := by simpa using hE
            have b0 : (E == 0) = false := by simpa using hE
            clear hE ht5
            go_wp2_with fail
            go_ret
            exact ⟨by rw [HRES1.out]; rfl, by rw [HRES1.out]; exact HWW.out _ _ HTB.out⟩
end
end Go.Proofs.Ytbgagmpinekhpaa

/- The reference's tables: Map whole, Change, Unmap. -/
namespace Go.Proofs.Ytbgagmpinekhpaa
open Go.RowKit

/-- Cells laid over cells. -/
def layC : Array Value → Nat → List Value → Array Value
  | cs, _, [] => cs
  | cs, o, v :: r => layC (cs.setIfInBounds o v) (o + 1) r
theorem layC_size : ∀ (vs : List Value) (cs : Array Value) (o : Nat), (layC cs o vs).size = cs.size
  | [], _, _ => rfl
  | v :: r, cs, o => by rw [layC, layC_size r]; simp
theorem layC_list : ∀ (vs : List Value) (cs : Array Value) (o : Nat), o + vs.length ≤ cs.size → (layC cs o vs).toList = cs.toList.take o ++ vs ++ cs.toList.drop (o + vs.length)
  | [], cs, o, h => by simp [layC]
  | v :: r, cs, o, h => by
    have hl : o + (r.length + 1) ≤ cs.size := by simpa using h
    have ho : o < cs.toList.length := by simp; omega
    rw [layC, layC_list r _ _ (by simp; omega)]
    rw [Array.toList_setIfInBounds, List.length_cons, show o + (r.length + 1) = o + 1 + r.length by omega, List.drop_set_of_lt (by omega)]
    have e : (cs.toList.set o v).take (o + 1) = cs.toList.take o ++ [v] := by
      rw [List.take_add_one, List.take_set_of_le (Nat.le_refl _), List.getElem?_set_self ho]
      rfl
    rw [e, List.append_assoc, List.append_assoc, List.append_assoc]
    rfl
theorem Blkf.setCells {g : Nat} {t : TypeId} {fr : Nat × Nat} : ∀ (vs : List Value) (o : Nat) {w : World} {cs : Array Value}, Blkf w g t fr cs → Blkf (w.setCells g o vs) g t fr (layC cs o vs)
  | [], _, _, _, h => h
  | v :: r, o, _, _, h => Blkf.setCells r (o + 1) (h.set_ o v)
theorem own_set {w : World} {base : Nat} {e : TypeId} {s g n cap : Nat} {xs : List Value} (h : w.ownsRow base e s (.slice (some ⟨g, 0, none⟩) n cap) n xs) (o : Nat) (vs : List Value) (ho : o + vs.length ≤ n * s) :
    (w.setCells g o vs).ownsRow base e s (.slice (some ⟨g, 0, none⟩) n cap) n (xs.take o ++ vs ++ xs.drop (o + vs.length)) := by
  obtain ⟨hl, h⟩ := h
  refine ⟨by simp [hl]; omega, ?_⟩
  rcases h with ⟨h1, _⟩ | ⟨g', cap', cur, h1, hb, hh, hc, hm, hs, ht⟩
  · cases h1
  · injection h1 with h1 _ h3
    injection h1 with h1
    injection h1 with h1
    subst h1
    subst h3
    have hsz : n * s ≤ cur.size := by rw [hs]; exact Nat.mul_le_mul_right s hc
    refine .inr ⟨g, cap, layC cur o vs, rfl, hb, Blkf.setCells vs o hh, hc, hm, by rw [layC_size, hs], ?_⟩
    rw [layC_list vs cur o (by omega), ← ht, List.take_take, List.drop_take, Nat.min_eq_left (by omega : o ≤ n * s)]
    rw [List.take_append, List.take_of_length_le (by simp; omega)]
    congr 1
    congr 1
    simp
    omega
theorem flat_set {α : Type} {f : α → List Value} {s : Nat} (hs : ∀ x, (f x).length = s) : ∀ (L : List α) (i : Nat) (m y : α) (o : Nat) (vs : List Value), L[i]? = some m → o + vs.length ≤ s → f y = (f m).take o ++ vs ++ (f m).drop (o + vs.length) →
    (L.set i y).flatMap f = (L.flatMap f).take (i * s + o) ++ vs ++ (L.flatMap f).drop (i * s + o + vs.length)
  | [], i, m, y, o, vs, hi, _, _ => by simp at hi
  | x :: L, 0, m, y, o, vs, hi, ho, hy => by
    simp only [List.getElem?_cons_zero, Option.some.injEq] at hi
    subst hi
    rw [List.set_cons_zero, List.flatMap_cons, List.flatMap_cons, hy, Nat.zero_mul, Nat.zero_add, List.take_append_of_le_length (by rw [hs]; omega), List.drop_append_of_le_length (by rw [hs]; omega)]
    simp only [List.append_assoc]
  | x :: L, i + 1, m, y, o, vs, hi, ho, hy => by
    rw [List.getElem?_cons_succ] at hi
    rw [List.set_cons_succ, List.flatMap_cons, List.flatMap_cons, flat_set hs L i m y o vs hi ho hy, Nat.succ_mul]
    have h1 : (f x).length = s := hs x
    have e1 : i * s + s + o = (f x).length + (i * s + o) := by omega
    have e2 : i * s + s + o + vs.length = (f x).length + (i * s + o + vs.length) := by omega
    rw [e2, e1, List.take_length_add_append, List.drop_length_add_append]
    simp only [List.append_assoc]
theorem own_there {w : World} {base : Nat} {e : TypeId} {s g n cap : Nat} {xs : List Value} (h : w.ownsRow base e s (.slice (some ⟨g, 0, none⟩) n cap) n xs) (o k : Nat) (ho : o + k ≤ n * s) : w.there g o k := by
  rcases h.2 with ⟨h1, _⟩ | ⟨g', cap', cur, h1, hb, hh, hc, hm, hs, ht⟩
  · cases h1
  · injection h1 with h1 _ h3
    injection h1 with h1
    injection h1 with h1
    subst h1
    subst h3
    have hg : Blk w g e cur := hh
    have hsz : n * s ≤ cur.size := by rw [hs]; exact Nat.mul_le_mul_right s hc
    intro j hj
    refine ⟨?_, Blk.frozen hg _⟩
    rw [hg.cell, Array.getElem?_eq_getElem (by omega)]
    rfl
theorem wl_store_mid {P : Program} {ops : Array Oper} {rest : List Oper} {o : Oper} {a : Act} {w : World} {Q : Exit → Act → World → Prop} (ty : TypeId) (x y : Operand) (ho : o.op = .store ty x y) (hgd : Region.wanted o (yielded ops a.tmps) = true) (b off : Nat) (cs : Array Value) (hx : a.eval x = .pointer (some ⟨b, off, none⟩)) (hy : a.eval y = .agg cs)
    (ht : w.there b off cs.size) (hr : rowT P ty cs.size = true) (h1 : cs.all (·.oneCell') = true) (h : wpList P ops Q rest (a.put o.dst undef) (w.setCells b off cs.toList)) : wpList P ops Q (o :: rest) a w :=
  BigFrame.wpList_want hgd fun K hK => wo_store ty x y ho b off cs hx hy ht hr h1 (hK _ _ h)
theorem below_cells {B : Nat} {W w : World} (h : Below B W w) (g o : Nat) (vs : List Value) (hg : B ≤ g) (hs : B ≤ w.heap.size) : Below B W (w.setCells g o vs) := h.trans ((setCells_keeps g vs o w).below (fun i e => by rw [e]; exact hg) hs)
theorem pcs_range {w : World} {g k : Nat} {m : Mp} (h : w.rangeAt g (k * 12) m.cs.toList) : w.rangeAt g (k * 12 + 2) m.p.cs.toList := fun j u hj => by
  have h2 := h (2 + j) u (by
    rw [mcs_list]
    unfold Mp.vs
    rw [List.getElem?_append_right (by simp)]
    simpa using hj)
  rw [Nat.add_assoc]
  exact h2
/-- The reference's tables laid open at one page. -/
structure XOpen (w : World) (rb : Nat) (L : List Mp) (k : Nat) (m : Mp) (g cap : Nat) : Prop where
  cell : w.cell? ⟨rb, 0, none⟩ = some (.slice (some ⟨g, 0, none⟩) L.length cap)
  lt : rb < w.heap.size
  glt : g < w.heap.size
  len : L.length ≤ cap
  max : cap ≤ maxLen
  ix : k < L.length
  rng : w.rangeAt g (k * 12) m.cs.toList
  rd : ∀ a n, a + n ≤ L.length → ∀ ad, (0 < n → ad = some ⟨g, a * 12, none⟩) → Reads w w.heap.size 12 ad n (((L.drop a).take n).flatMap Mp.vs)
theorem flat_sub {α : Type} {f : α → List Value} {s : Nat} (hs : ∀ x, (f x).length = s) (L : List α) (a n : Nat) : ((L.drop a).take n).flatMap f = ((L.flatMap f).drop (a * s)).take (n * s) := by
  have hd : ∀ (L : List α) (a : Nat), (L.drop a).flatMap f = (L.flatMap f).drop (a * s) := by
    intro L
    induction L with
    | nil => intro a; simp
    | cons x L ih =>
      intro a
      cases a with
      | zero => simp
      | succ a =>
        rw [List.drop_succ_cons, ih, List.flatMap_cons, Nat.succ_mul, show a * s + s = (f x).length + a * s by rw [hs]; omega, List.drop_length_add_append]
  have ht : ∀ (L : List α) (n : Nat), (L.take n).flatMap f = (L.flatMap f).take (n * s) := by
    intro L
    induction L with
    | nil => intro n; simp
    | cons x L ih =>
      intro n
      cases n with
      | zero => simp
      | succ n =>
        rw [List.take_succ_cons, List.flatMap_cons, ih, List.flatMap_cons, Nat.succ_mul, show n * s + s = (f x).length + n * s by rw [hs]; omega, List.take_length_add_append]
  rw [ht, hd]
section
variable {W w w' : World} {rb : Nat} {c : TC} {x : XS} {F H : Nat → Prop}
theorem XAt.openL (h : XAt w rb c x F) {k : Nat} {m : Mp} (hx : x.L[k]? = some m) : ∃ g cap, XOpen w rb x.L k m g cap := by
  have hk := (List.getElem?_eq_some_iff.1 hx).1
  obtain ⟨vL, vT, h1, h2, h3, h4, h5⟩ := h.own
  have hR : ∀ A cA, vL = .slice A x.L.length cA → RdX Mp.vs 12 w A x.L := fun A cA e => by subst e; exact RdX.of_own mvs_12 h2 rfl
  rcases h2.2 with ⟨rfl, h0⟩ | ⟨g, cap, cur, rfl, _, hg, hcap, hm, hs, hl⟩
  · omega
  have hgb : Blk w g 62 cur := hg
  obtain ⟨b, e, hgl, hrg⟩ := hR _ _ rfl (fun e => by rw [e] at hk; exact absurd hk (Nat.not_lt_zero _))
  injection e with e
  injection e with e
  subst e
  refine ⟨g, cap, h1.cell 0, h1.lt, hgb.lt, hcap, hm, hk, hrg k m hx, fun a n ha ad had => ⟨?_, fun hn => ⟨⟨g, a * 12, none⟩, had hn, hgb.lt, fun j u hu => ?_⟩⟩⟩
  · rw [fl_len mvs_12]; simp; omega
  · rw [flat_sub mvs_12, List.getElem?_take] at hu
    split at hu
    · rename_i hj
      rw [List.getElem?_drop, ← hl, List.getElem?_take, if_pos (by omega), Array.getElem?_toList] at hu
      rw [Addr.add_mid]
      exact (hgb.cell _).trans hu
    · cases hu
end
theorem holdsI_some {L : List Mp} {va i : Nat} (h : holdsI L va = some i) : ∃ m, L[i]? = some m := by
  unfold holdsI at h
  split at h
  · split at h
    · rename_i e; injection h with h; subst h; obtain ⟨m, h1, _⟩ := pageI_some e; exact ⟨m, h1⟩
    · split at h
      · rename_i e; injection h with h; subst h; obtain ⟨m, h1, _⟩ := pageI_some e; exact ⟨m, h1⟩
      · obtain ⟨m, h1, _⟩ := pageI_some h; exact ⟨m, h1⟩
  · cases h
section
variable (rb : Nat) (c : TC) (x : XS) (F : Nat → Prop) (W : World)
theorem rmap_any (p : Pte) (va : Nat) (l : Int) (h : XAt W rb c x F) (hv : va < 18446744073709551616) (hw : PteWf p) (hs : Small c x) (hk : x.k ≤ c.N) (hr : Roomy x) :
    Calls Try.prog 18 #[.pointer (some ⟨rb, 0, none⟩), .int .u64 (va : Int), .int .i64 l, .agg p.cs] W fun e w' => e = .returned (.int .i64 (mapL c x va l p).1) ∧ XTo W rb c (mapL c x va l p).2 F w' := by
  obtain ⟨h1, h2⟩ := u64_of_wf hw.2
  have hp : (⟨p.v, p.r, p.w, p.x, p.u, p.g, p.a, p.d, p.rsw, ((p.ppn.toNat : Nat) : Int)⟩ : Pte) = p := by rw [show ((p.ppn.toNat : Nat) : Int) = p.ppn by omega]
  unfold mapL
  by_cases hb : (canonB va && mayB p l) = true
  · rw [if_pos hb]
    rw [Bool.and_eq_true] at hb
    obtain ⟨h0, h3⟩ := may_lev hb.2
    have hl : ((l.toNat : Nat) : Int) = l := by omega
    have := rmap_ok rb c x F W p.v p.r p.w p.x p.u p.g p.a p.d p.rsw p.ppn.toNat va l.toNat h hv hw.1 (by omega) hb.1 (by omega) (by rw [hp, hl]; exact hb.2) hs hk hr
    rw [hp, hl, show ((p.ppn.toNat : Nat) : Int) = p.ppn by omega] at this
    exact this
  · rw [if_neg hb]
    have := rmap_bad rb c x F W p.v p.r p.w p.x p.u p.g p.a p.d p.rsw p.ppn.toNat va l h hv hw.1 (by omega) (by rw [hp]; simpa using hb)
    rw [show ((p.ppn.toNat : Nat) : Int) = p.ppn by omega] at this
    exact this
set_option maxRecDepth 100000 in
set_option maxHeartbeats 2000000 in
theorem rchange_none (p : Pte) (va : Nat) (h : XAt W rb c x F) (hv : va < 18446744073709551616) (hw : PteWf p) (hhi : holdsI x.L va = none) :
    Calls Try.prog 19 #[.pointer (some ⟨rb, 0, none⟩), .int .u64 (va : Int), .agg p.cs] W fun e w' => e = .returned (.int .i64 51) ∧ XTo W rb c x F w' := by
  obtain ⟨im0, hi0, hz0, hz1, hz2⟩ := info_parts infoM
  have HX := Lib.hid h
  have HV := Lib.hid hv
  have HWF := Lib.hid hw
  have HHI := Lib.hid hhi
  have HE : Hid (Below W.heap.size W (W.alloc (.cells p.cs 25))) := Lib.hid ((Below.refl _ W).alloc (Nat.le_refl _) _)
  have HPB0 : Hid (Blk (W.alloc (.cells p.cs 25)) W.heap.size 25 p.cs) := Lib.hid (Blkf.new_at _ _ _ _ rfl)
  clear h hv hw hhi
  go_enter Try.func19, Try.ntmps19
  go_wp2_with fail
  generalize W.alloc (.cells p.cs 25) = w0 at *
  have H0 := Lib.hid (HX.out.keeps (H := fun _ => False) (Keeps.of_below HE.out) (fun _ _ h => h))
  refine (rholds_any rb c x F w0 va H0.out HV.out).mono ?_
  rintro e w1 ⟨rfl, hb1⟩
  rw [HHI.out]
  have HPB1 := Lib.hid (HPB0.out.below hb1 HPB0.out.lt)
  have H1 := Lib.hid (H0.out.below hb1)
  have HT1 := Lib.hid (HX.out.to_below (HE.out.trans (hb1.mono HE.out.size)))
  have HTT : Hid (∀ w9 x9, XTo w1 rb c x9 F w9 → XTo W rb c x9 F w9) := Lib.hid (fun w9 x9 h9 => xto_trans (fun _ h => .inl h) (Keeps.of_below (HE.out.trans (hb1.mono HE.out.size))) h9)
  clear hb1 H0 HPB0 HE
  generalize W.heap.size = pb at *
  rw [show idxV none = -1 from rfl]
  go_wp2_with fail
  go_ret
  exact ⟨rfl, HT1.out⟩
set_option maxRecDepth 100000 in
set_option maxHeartbeats 2000000 in
theorem rchange_bad (p : Pte) (va i : Nat) (m : Mp) (h : XAt W rb c x F) (hv : va < 18446744073709551616) (hw : PteWf p) (hroom : Roomy x) (hhi : holdsI x.L va = some i) (hx : x.L[i]? = some m) (hm : mayB p (m.lev : Int) = false) :
    Calls Try.prog 19 #[.pointer (some ⟨rb, 0, none⟩), .int .u64 (va : Int), .agg p.cs] W fun e w' => e = .returned (.int .i64 2) ∧ XTo W rb c x F w' := by
  obtain ⟨im0, hi0, hz0, hz1, hz2⟩ := info_parts infoM
  have HX := Lib.hid h
  have HV := Lib.hid hv
  have HWF := Lib.hid hw
  have HHI := Lib.hid hhi
  have HE : Hid (Below W.heap.size W (W.alloc (.cells p.cs 25))) := Lib.hid ((Below.refl _ W).alloc (Nat.le_refl _) _)
  have HPB0 : Hid (Blk (W.alloc (.cells p.cs 25)) W.heap.size 25 p.cs) := Lib.hid (Blkf.new_at _ _ _ _ rfl)
  have HLB : Hid (x.L.length ≤ 100000) := Lib.hid hroom.1
  have HXI := Lib.hid hx
  have HMY := Lib.hid hm
  clear h hv hw hhi hroom hx hm
  go_enter Try.func19, Try.ntmps19
  go_wp2_with fail
  generalize W.alloc (.cells p.cs 25) = w0 at *
  have H0 := Lib.hid (HX.out.keeps (H := fun _ => False) (Keeps.of_below HE.out) (fun _ _ h => h))
  refine (rholds_any rb c x F w0 va H0.out HV.out).mono ?_
  rintro e w1 ⟨rfl, hb1⟩
  rw [HHI.out]
  have HPB1 := Lib.hid (HPB0.out.below hb1 HPB0.out.lt)
  have H1 := Lib.hid (H0.out.below hb1)
  have HT1 := Lib.hid (HX.out.to_below (HE.out.trans (hb1.mono HE.out.size)))
  have HTT : Hid (∀ w9 x9, XTo w1 rb c x9 F w9 → XTo W rb c x9 F w9) := Lib.hid (fun w9 x9 h9 => xto_trans (fun _ h => .inl h) (Keeps.of_below (HE.out.trans (hb1.mono HE.out.size))) h9)
  clear hb1 H0 HPB0 HE
  generalize W.heap.size = pb at *
  obtain ⟨g, cap, o⟩ := H1.out.openL HXI.out
  have HOP := Lib.hid o
  obtain ⟨n, hn⟩ : ∃ n, n = x.L.length := ⟨_, rfl⟩
  have HN := Lib.hid hn
  have HNB : Hid (n ≤ 100000) := Lib.hid (by rw [hn]; exact HLB.out)
  have hin := o.ix
  rw [← hn] at hin
  have c0 := o.cell
  rw [← hn] at c0
  have hlt := o.lt
  have hglt := o.glt
  have cl : w1.cell? ⟨g, i * 12 + 1, none⟩ = some (.int .i64 (m.lev : Int)) := o.rng 1 _ rfl
  clear o hn
  have hiI : (i : Int) < (n : Int) := by omega
  have hi9 : (0 : Int) ≤ (i : Int) := by omega
  have hiB : (i : Int) < 100000 := by have := HNB.out; omega
  have hd0 : decide ((i : Int) < 0) = false := decide_eq_false (by omega)
  rw [show idxV (some i) = (i : Int) from rfl]
  go_wp2_with fail
  have s0 := fun (W' : World) (h : Ext w1.drew W') => (h.cell (p := ⟨rb, 0, none⟩) hlt).trans c0
  have s1 := fun (W' : World) (h : Ext w1.drew W') => (h.cell (p := ⟨g, i * 12 + 1, none⟩) hglt).trans cl
  refine wp_region_plan [(0, false), (1, false), (2, false), (3, false), (4, false), (5, false), (6, false), (7, false), (8, false), (9, true), (10, false)] (by kernel_rfl) (by kernel_rfl) (fun _ d _ _ _ h => by cases d <;> exact h) ?_
  refine plan_take rfl (by kernel_rfl) (fun w' h' => run_load_op 25 (.tmp 5) rfl pb 0 p.cs rfl (range_below (w := w1.drew) HPB1.out.range h') (prow p)) ?_
  (try simp only [Act.put, List.setIfInBounds_toArray, List.set_cons_zero, List.set_cons_succ])
  iterate 8 (refine plan_take (v := ?_) rfl (by kernel_rfl) ?_ ?_; rotate_left; (focus (intro w' hw'; try go_simp; try with_reducible rfl)); simp only [Act.put, List.setIfInBounds_toArray, List.set_cons_zero, List.set_cons_succ])
  refine plan_call rfl (by kernel_rfl) (by go_simp; exact ⟨rfl, rfl⟩) ?_
  refine (rpcs_any p (m.lev : Int) _ HWF.out).mono ?_
  rintro e w2 ⟨rfl, hb2⟩
  rw [HMY.out]
  refine ⟨_, rfl, hb2, ?_⟩
  simp only [Act.put, List.setIfInBounds_toArray, List.set_cons_zero, List.set_cons_succ]
  iterate 1 (refine plan_take (v := ?_) rfl (by kernel_rfl) ?_ ?_; rotate_left; (focus (intro w' hw'; try go_simp; try with_reducible rfl)); simp only [Act.put, List.setIfInBounds_toArray, List.set_cons_zero, List.set_cons_succ])
  refine plan_end ?_
  have HB2 : Hid (Below w1.heap.size w1 w2) := Lib.hid ((Below.refl _ w1).drew.trans hb2)
  clear hb2 s0 s1 c0 cl
  have HTB := Lib.hid (HTT.out _ _ (H1.out.to_below HB2.out))
  go_wp2_with fail
  go_ret
  exact ⟨rfl, HTB.out⟩
set_option maxRecDepth 100000 in
set_option maxHeartbeats 2000000 in
theorem rchange_ok (p : Pte) (va i : Nat) (m : Mp) (h : XAt W rb c x F) (hv : va < 18446744073709551616) (hw : PteWf p) (hroom : Roomy x) (hhi : holdsI x.L va = some i) (hx : x.L[i]? = some m) (hm : mayB p (m.lev : Int) = true) :
    Calls Try.prog 19 #[.pointer (some ⟨rb, 0, none⟩), .int .u64 (va : Int), .agg p.cs] W fun e w' => e = .returned (.int .i64 0) ∧ XTo W rb c ⟨x.L.set i ⟨m.va, m.lev, p⟩, x.T, x.k⟩ F w' := by
  obtain ⟨im0, hi0, hz0, hz1, hz2⟩ := info_parts infoM
  have HX := Lib.hid h
  have HV := Lib.hid hv
  have HWF := Lib.hid hw
  have HHI := Lib.hid hhi
  have HE : Hid (Below W.heap.size W (W.alloc (.cells p.cs 25))) := Lib.hid ((Below.refl _ W).alloc (Nat.le_refl _) _)
  have HPB0 : Hid (Blk (W.alloc (.cells p.cs 25)) W.heap.size 25 p.cs) := Lib.hid (Blkf.new_at _ _ _ _ rfl)
  have HLB : Hid (x.L.length ≤ 100000) := Lib.hid hroom.1
  have HXI := Lib.hid hx
  have HMY := Lib.hid hm
  clear h hv hw hhi hroom hx hm
  go_enter Try.func19, Try.ntmps19
  go_wp2_with fail
  generalize W.alloc (.cells p.cs 25) = w0 at *
  have H0 := Lib.hid (HX.out.keeps (H := fun _ => False) (Keeps.of_below HE.out) (fun _ _ h => h))
  refine (rholds_any rb c x F w0 va H0.out HV.out).mono ?_
  rintro e w1 ⟨rfl, hb1⟩
  rw [HHI.out]
  have HPB1 := Lib.hid (HPB0.out.below hb1 HPB0.out.lt)
  have H1 := Lib.hid (H0.out.below hb1)
  have HT1 := Lib.hid (HX.out.to_below (HE.out.trans (hb1.mono HE.out.size)))
  have HTT : Hid (∀ w9 x9, XTo w1 rb c x9 F w9 → XTo W rb c x9 F w9) := Lib.hid (fun w9 x9 h9 => xto_trans (fun _ h => .inl h) (Keeps.of_below (HE.out.trans (hb1.mono HE.out.size))) h9)
  clear hb1 H0 HPB0 HE
  generalize W.heap.size = pb at *
  obtain ⟨g, cap, o⟩ := H1.out.openL HXI.out
  have HOP := Lib.hid o
  obtain ⟨n, hn⟩ : ∃ n, n = x.L.length := ⟨_, rfl⟩
  have HN := Lib.hid hn
  have HNB : Hid (n ≤ 100000) := Lib.hid (by rw [hn]; exact HLB.out)
  have hin := o.ix
  rw [← hn] at hin
  have c0 := o.cell
  rw [← hn] at c0
  have hlt := o.lt
  have hglt := o.glt
  have cl : w1.cell? ⟨g, i * 12 + 1, none⟩ = some (.int .i64 (m.lev : Int)) := o.rng 1 _ rfl
  clear o hn
  have hiI : (i : Int) < (n : Int) := by omega
  have hi9 : (0 : Int) ≤ (i : Int) := by omega
  have hiB : (i : Int) < 100000 := by have := HNB.out; omega
  have hd0 : decide ((i : Int) < 0) = false := decide_eq_false (by omega)
  rw [show idxV (some i) = (i : Int) from rfl]
  go_wp2_with fail
  have s0 := fun (W' : World) (h : Ext w1.drew W') => (h.cell (p := ⟨rb, 0, none⟩) hlt).trans c0
  have s1 := fun (W' : World) (h : Ext w1.drew W') => (h.cell (p := ⟨g, i * 12 + 1, none⟩) hglt).trans cl
  refine wp_region_plan [(0, false), (1, false), (2, false), (3, false), (4, false), (5, false), (6, false), (7, false), (8, false), (9, true), (10, false)] (by kernel_rfl) (by kernel_rfl) (fun _ d _ _ _ h => by cases d <;> exact h) ?_
  refine plan_take rfl (by kernel_rfl) (fun w' h' => run_load_op 25 (.tmp 5) rfl pb 0 p.cs rfl (range_below (w := w1.drew) HPB1.out.range h') (prow p)) ?_
  (try simp only [Act.put, List.setIfInBounds_toArray, List.set_cons_zero, List.set_cons_succ])
  iterate 8 (refine plan_take (v := ?_) rfl (by kernel_rfl) ?_ ?_; rotate_left; (focus (intro w' hw'; try go_simp; try with_reducible rfl)); simp only [Act.put, List.setIfInBounds_toArray, List.set_cons_zero, List.set_cons_succ])
  refine plan_call rfl (by kernel_rfl) (by go_simp; exact ⟨rfl, rfl⟩) ?_
  refine (rpcs_any p (m.lev : Int) _ HWF.out).mono ?_
  rintro e w2 ⟨rfl, hb2⟩
  rw [HMY.out]
  refine ⟨_, rfl, hb2, ?_⟩
  simp only [Act.put, List.setIfInBounds_toArray, List.set_cons_zero, List.set_cons_succ]
  iterate 1 (refine plan_take (v := ?_) rfl (by kernel_rfl) ?_ ?_; rotate_left; (focus (intro w' hw'; try go_simp; try with_reducible rfl)); simp only [Act.put, List.setIfInBounds_toArray, List.set_cons_zero, List.set_cons_succ])
  refine plan_end ?_
  have HB2 : Hid (Below w1.heap.size w1 w2) := Lib.hid ((Below.refl _ w1).drew.trans hb2)
  clear hb2 s0 s1 c0 cl
  have HPB2 := Lib.hid (HPB1.out.below HB2.out HPB1.out.lt)
  have H2 := Lib.hid (H1.out.below HB2.out)
  have HTT2 : Hid (∀ w9 x9, XTo w2 rb c x9 F w9 → XTo W rb c x9 F w9) := Lib.hid (fun w9 x9 h9 => HTT.out _ _ (xto_trans (fun _ h => .inl h) (Keeps.of_below HB2.out) h9))
  clear HPB1 H1 HTT HB2 HOP hlt hglt
  obtain ⟨g, cap, o⟩ := H2.out.openL HXI.out
  have c0 := o.cell
  have hlt := o.lt
  have hR := o.rd 0 x.L.length (by omega) (some ⟨g, 0, none⟩) (fun _ => by rw [Nat.zero_mul])
  rw [List.drop_zero, List.take_length] at hR
  rw [← HN.out] at c0 hR
  have HRn := Lib.hid hR
  clear o hR
  go_wp2_with (first | (at_builtin; refine wpList_append_any _ rfl (.tmp 25) (.tmp 29) _ rfl w2.heap.size 62 im0 _ 12 40 Try.underlying40 hi0 hz0 hz1 hz2 rfl (by decide) _ 0 [] rfl (World.ownsRow_made w2 #[] 0 (Nat.le_refl _) (by unfold maxLen; omega) rfl) w2.heap.size (some ⟨g, 0, none⟩) n cap (x.L.flatMap Mp.vs) rfl (HRn.out.alloc (Nat.le_refl _) _) (one_mp _) (by unfold maxLen; have := HNB.out; omega) (by have := HNB.out; omega) (by simp) ?_; intro v2 w3 hown hgrow hat; rw [Nat.zero_add, List.nil_append] at hown; have HO := Lib.hid hown; have HB3 : Hid (Below w2.heap.size w2 w3) := Lib.hid (((Below.refl _ w2).alloc (Nat.le_refl _) _).grown hgrow (by simp) (fun k hk => by cases hk; exact Nat.le_refl _)); obtain ⟨A2, c2, e2⟩ := own_form HO.out; subst e2; obtain ⟨g2, hA2, hg2⟩ : ∃ g2, A2 = some ⟨g2, 0, none⟩ ∧ w2.heap.size ≤ g2 := (by rcases HO.out.2 with ⟨h1, h2⟩ | ⟨g', cap', cur, h1, hb, _⟩; (exfalso; omega); (injection h1 with h1; exact ⟨g', h1, hb⟩)); subst hA2; have HG2 := Lib.hid hg2; have HPB3 := Lib.hid (HPB2.out.below HB3.out HPB2.out.lt); have HB4 : Hid (Below w2.heap.size w2 (w3.setCells g2 (i * 12 + 2) p.cs.toList)) := Lib.hid (below_cells HB3.out g2 _ _ hg2 HB3.out.size); obtain ⟨⟨u3, k3⟩, f3⟩ := (H2.out.below HB4.out).room 0 (by decide); have l3 : rb < (w3.setCells g2 (i * 12 + 2) p.cs.toList).heap.size := Nat.lt_of_lt_of_le hlt HB4.out.size; have HTH : Hid (World.there w3 g2 (i * 12 + 2) p.cs.size) := Lib.hid (own_there HO.out (i * 12 + 2) 10 (by omega)); clear hown hgrow hat hg2) | ((with_reducible refine wl_load 25 (.tmp 5) rfl ?_ pb 0 p.cs ?_ HPB3.out.range ?_ ?_); exact rfl; exact rfl; exact prow p) | ((with_reducible refine wl_store_mid 25 (.tmp 35) (.tmp 33) rfl ?_ g2 (i * 12 + 2) p.cs ?_ ?_ HTH.out ?_ ?_ ?_); exact rfl; exact rfl; exact rfl; exact prow p; exact pcs_one p))
  have HOS : Hid (World.ownsRow (w3.setCells g2 (i * 12 + 2) p.cs.toList) w2.heap.size 62 12 (.slice (some ⟨g2, 0, none⟩) n c2) n ((x.L.set i ⟨m.va, m.lev, p⟩).flatMap Mp.vs)) := Lib.hid (by
    have h1 := own_set HO.out (i * 12 + 2) p.cs.toList (by show i * 12 + 2 + 10 ≤ n * 12; omega)
    rw [flat_set mvs_12 x.L i m ⟨m.va, m.lev, p⟩ 2 p.cs.toList HXI.out (by show 2 + 10 ≤ 12; omega) (by simp [Mp.vs, Pte.cs])]
    exact h1)
  have HTB := Lib.hid (HTT2.out _ _ (H2.out.putL HB4.out HOS.out (by rw [List.length_set, HN.out])))
  go_ret
  exact ⟨rfl, HTB.out⟩
end
end Go.Proofs.Ytbgagmpinekhpaa

/- The reference's tables: Unmap. -/
namespace Go.Proofs.Ytbgagmpinekhpaa
open Go.RowKit

section
variable (rb : Nat) (c : TC) (x : XS) (F : Nat → Prop) (W : World)
set_option maxRecDepth 100000 in
set_option maxHeartbeats 2000000 in
theorem runmap_none (va : Nat) (h : XAt W rb c x F) (hv : va < 18446744073709551616) (hhi : holdsI x.L va = none) :
    Calls Try.prog 20 #[.pointer (some ⟨rb, 0, none⟩), .int .u64 (va : Int)] W fun e w' => e = .returned (.tuple #[.agg pte0.cs, .int .i64 51]) ∧ XTo W rb c x F w' := by
  obtain ⟨im0, hi0, hz0, hz1, hz2⟩ := info_parts infoM
  have HX := Lib.hid h
  have HV := Lib.hid hv
  have HHI := Lib.hid hhi
  have HE : Hid (Below W.heap.size W (W.alloc (.cells #[.bool false, .bool false, .bool false, .bool false, .bool false, .bool false, .bool false, .bool false, .int .i64 0, .int .u64 0] 25))) := Lib.hid ((Below.refl _ W).alloc (Nat.le_refl _) _)
  have HPB0 : Hid (Blk (W.alloc (.cells #[.bool false, .bool false, .bool false, .bool false, .bool false, .bool false, .bool false, .bool false, .int .i64 0, .int .u64 0] 25)) W.heap.size 25 pte0.cs) := Lib.hid (Blkf.new_at _ _ _ _ rfl)
  clear h hv hhi
  go_enter Try.func20, Try.ntmps20
  go_wp2_with fail
  generalize W.alloc (.cells #[.bool false, .bool false, .bool false, .bool false, .bool false, .bool false, .bool false, .bool false, .int .i64 0, .int .u64 0] 25) = w0 at *
  have H0 := Lib.hid (HX.out.keeps (H := fun _ => False) (Keeps.of_below HE.out) (fun _ _ h => h))
  refine (rholds_any rb c x F w0 va H0.out HV.out).mono ?_
  rintro e w1 ⟨rfl, hb1⟩
  rw [HHI.out]
  have HPB1 := Lib.hid (HPB0.out.below hb1 HPB0.out.lt)
  have H1 := Lib.hid (H0.out.below hb1)
  have HB1 := Lib.hid (HE.out.trans (hb1.mono HE.out.size))
  clear hb1 H0 HPB0 HE
  rw [show idxV none = -1 from rfl]
  go_wp2_with (first | ((with_reducible refine wl_store 25 (.tmp 4) (.tmp 13) rfl ?_ W.heap.size 25 pte0.cs pte0.cs ?_ ?_ HPB1.out ?_ ?_ ?_ ?_); exact rfl; exact rfl; exact rfl; exact rfl; exact prow pte0; exact pcs_one pte0))
  refine bodyPost_ret (res_cell_slot (cs := pte0.cs) (v := .int .i64 51) rfl _ _ W.heap.size 25 rfl rfl (HPB1.out.setRow _) (prow pte0)) rfl ?_
  exact ⟨rfl, HX.out.to_below (below_setRow HB1.out (Nat.le_refl _) _)⟩
set_option maxRecDepth 100000 in
set_option maxHeartbeats 2000000 in
theorem runmap_some (va i : Nat) (m : Mp) (h : XAt W rb c x F) (hv : va < 18446744073709551616) (hroom : Roomy x) (hhi : holdsI x.L va = some i) (hx : x.L[i]? = some m) :
    Calls Try.prog 20 #[.pointer (some ⟨rb, 0, none⟩), .int .u64 (va : Int)] W fun e w' => e = .returned (.tuple #[.agg m.p.cs, .int .i64 0]) ∧ XTo W rb c ⟨x.L.eraseIdx i, x.T, x.k⟩ F w' := by
  obtain ⟨im0, hi0, hz0, hz1, hz2⟩ := info_parts infoM
  have HX := Lib.hid h
  have HV := Lib.hid hv
  have HHI := Lib.hid hhi
  have HE : Hid (Below W.heap.size W (W.alloc (.cells #[.bool false, .bool false, .bool false, .bool false, .bool false, .bool false, .bool false, .bool false, .int .i64 0, .int .u64 0] 25))) := Lib.hid ((Below.refl _ W).alloc (Nat.le_refl _) _)
  have HPB0 : Hid (Blk (W.alloc (.cells #[.bool false, .bool false, .bool false, .bool false, .bool false, .bool false, .bool false, .bool false, .int .i64 0, .int .u64 0] 25)) W.heap.size 25 pte0.cs) := Lib.hid (Blkf.new_at _ _ _ _ rfl)
  have HLB : Hid (x.L.length ≤ 100000) := Lib.hid hroom.1
  have HXI := Lib.hid hx
  clear h hv hhi hroom hx
  go_enter Try.func20, Try.ntmps20
  go_wp2_with fail
  generalize W.alloc (.cells #[.bool false, .bool false, .bool false, .bool false, .bool false, .bool false, .bool false, .bool false, .int .i64 0, .int .u64 0] 25) = w0 at *
  have H0 := Lib.hid (HX.out.keeps (H := fun _ => False) (Keeps.of_below HE.out) (fun _ _ h => h))
  refine (rholds_any rb c x F w0 va H0.out HV.out).mono ?_
  rintro e w1 ⟨rfl, hb1⟩
  rw [HHI.out]
  have HPB1 := Lib.hid (HPB0.out.below hb1 HPB0.out.lt)
  have H1 := Lib.hid (H0.out.below hb1)
  have HB1 := Lib.hid (HE.out.trans (hb1.mono HE.out.size))
  clear hb1 H0 HPB0 HE
  obtain ⟨g, cap, o⟩ := H1.out.openL HXI.out
  obtain ⟨n, hn⟩ : ∃ n, n = x.L.length := ⟨_, rfl⟩
  have HN := Lib.hid hn
  have HNB : Hid (n ≤ 100000) := Lib.hid (by rw [hn]; exact HLB.out)
  have hin := o.ix
  rw [← hn] at hin
  have c0 := o.cell
  rw [← hn] at c0
  have hlt := o.lt
  have hcap := o.len
  rw [← hn] at hcap
  have hcm : cap ≤ 9223372036854775807 := Nat.le_trans o.max (by decide)
  have HRG := Lib.hid (pcs_range o.rng)
  obtain ⟨A, hA, hrd⟩ : ∃ A : Addr, (if cap = i + 1 then some (⟨g, 0, none⟩ : Addr) else some ⟨g, (i + 1) * 12, none⟩) = some A ∧ Hid (Reads w1 w1.heap.size 12 (some A) (n - (i + 1)) (((x.L.drop (i + 1)).take (n - (i + 1))).flatMap Mp.vs)) := by
    by_cases hc : cap = i + 1
    · exact ⟨⟨g, 0, none⟩, by simp [hc], Lib.hid (o.rd (i + 1) _ (by omega) _ (fun h0 => by omega))⟩
    · exact ⟨⟨g, (i + 1) * 12, none⟩, by simp [hc], Lib.hid (o.rd (i + 1) _ (by omega) _ (fun h0 => rfl))⟩
  have hR0 := o.rd 0 i (by omega) (some ⟨g, 0, none⟩) (fun _ => by rw [Nat.zero_mul])
  rw [List.drop_zero] at hR0
  have HR0 := Lib.hid hR0
  clear o hn hR0
  have hiI : (i : Int) < (n : Int) := by omega
  have hi9 : (0 : Int) ≤ (i : Int) := by omega
  have hi1 : (i : Int) + 1 ≤ (n : Int) := by omega
  have hi2 : (0 : Int) ≤ (i : Int) + 1 := by omega
  have hic : i ≤ cap := by omega
  have hw1 : wrap64 ((i : Int) + 1) = (i : Int) + 1 := by have := HNB.out; unfold wrap64; omega
  have hw2 : IntKind.wrap .i64 ((i : Int) + 1) = (i : Int) + 1 := IntWalk.i64_in _ (by have := HNB.out; omega)
  rw [show idxV (some i) = (i : Int) from rfl]
  go_wp2_with (first | ((with_reducible refine wl_load 25 (.tmp 20) rfl ?_ g (i * 12 + 2) m.p.cs ?_ HRG.out ?_ ?_); exact rfl; exact rfl; exact prow m.p) | ((with_reducible refine wl_store_new 25 (.tmp 7) (.tmp 21) rfl ?_ w1 (World.heap w1).size 25 pte0.cs m.p.cs ?_ ?_ ?_ ?_ ?_ ?_ ?_ ?_); exact rfl; exact rfl; exact rfl; exact rfl; exact rfl; exact rfl; exact prow m.p; exact pcs_one m.p))
  have hal : Below w1.heap.size w1 (w1.alloc (.cells m.p.cs 25)) := (Below.refl _ _).alloc (Nat.le_refl _) _
  have HPB2 := Lib.hid (HPB1.out.below hal HPB1.out.lt)
  have HQB2 : Hid (Blk (w1.alloc (.cells m.p.cs 25)) w1.heap.size 25 m.p.cs) := Lib.hid (Blkf.new_at _ _ _ _ rfl)
  have H2 := Lib.hid (H1.out.below hal)
  have HR02 := Lib.hid (HR0.out.below hal)
  have HRD2 := Lib.hid (hrd.out.below hal)
  have HQS : Hid (w1.heap.size ≤ (w1.alloc (.cells m.p.cs 25)).heap.size) := Lib.hid hal.size
  have c0 := (hal.cell (p := ⟨rb, 0, none⟩) hlt).trans c0
  have hlt2 : rb < (w1.alloc (.cells m.p.cs 25)).heap.size := Nat.lt_of_lt_of_le hlt hal.size
  have HB2 := Lib.hid (HB1.out.trans (hal.mono HB1.out.size))
  have HPQ : Hid (W.heap.size ≤ w1.heap.size) := Lib.hid HB1.out.size
  clear hal HPB1 H1 HB1 hlt HR0 hrd HRG
  have HQL : Hid (w1.heap.size < (w1.alloc (.cells m.p.cs 25)).heap.size) := Lib.hid HQB2.out.lt
  generalize w1.heap.size = qb at *
  generalize w1.alloc (.cells m.p.cs 25) = w2 at *
  refine wp_region_plan_by (fun u u' => Below w2.heap.size u u') ⟨fun u => Below.refl _ u, fun h k => h.trans k⟩ [(0, false), (2, false), (3, false), (4, false), (5, false), (6, false), (7, false), (9, false), (10, false), (11, false), (12, false), (13, false), (14, false), (15, false), (1, true), (8, true), (16, true), (17, false), (18, false), (19, true)] (by kernel_rfl) (by kernel_rfl) (fun _ d _ _ _ h => by cases d <;> exact h) ?_
  have s0 : ∀ W' : World, Below w2.heap.size w2.drew W' → W'.cell? ⟨rb, 0, none⟩ = some (.slice (some ⟨g, 0, none⟩) n cap) := fun W' h => (h.cell (p := ⟨rb, 0, none⟩) hlt2).trans c0
  iterate 14 (refine plan_take (v := ?_) rfl (by kernel_rfl) ?_ ?_; rotate_left; (focus (intro w' hw'; try go_simp; try with_reducible rfl)); simp only [Act.put, List.setIfInBounds_toArray, List.set_cons_zero, List.set_cons_succ])
  clear s0 c0
  have HC : Hid (Below w2.heap.size w2 w2.drew) := Lib.hid ((Below.refl _ w2).drew)
  generalize w2.drew = y at *
  refine plan_turn rfl (by kernel_rfl) (fun K hK => ?_)
  go_simp
  refine hK _ _ ⟨(Below.refl _ _).alloc HC.out.size _, ?_⟩
  clear hK K
  (try simp only [Act.put, List.setIfInBounds_toArray, List.set_cons_zero, List.set_cons_succ])
  have hE : Below y.heap.size y (y.alloc (.cells #[] 62)) := (Below.refl _ _).alloc (Nat.le_refl _) _
  have HO1 : Hid ((y.alloc (.cells #[] 62)).ownsRow w2.heap.size 62 12 (.slice (some ⟨y.heap.size, 0, none⟩) 0 0) 0 []) := Lib.hid (own_mono (World.ownsRow_made y #[] 0 (Nat.le_refl _) (by unfold maxLen; omega) rfl) HC.out.size)
  have HC := Lib.hid (HC.out.trans (hE.mono HC.out.size))
  clear hE
  generalize y.alloc (.cells #[] 62) = y1 at *
  generalize y.heap.size = g0 at *
  refine plan_turn rfl (by kernel_rfl) (fun K hK => ?_)
  refine wp_append_any y1 (.tmp 23) (.tmp 29) _ rfl w2.heap.size 62 im0 _ 12 40 Try.underlying40 hi0 hz0 hz1 hz2 rfl (by decide) (.slice (some ⟨g0, 0, none⟩) 0 0) 0 [] rfl HO1.out qb (some ⟨g, 0, none⟩) i cap ((x.L.take i).flatMap Mp.vs) rfl (HR02.out.below (HC.out.mono HQS.out)) (one_mp _) (by unfold maxLen; have := HNB.out; omega) (by have := HNB.out; omega) HC.out.size ?_
  intro v2 y2 hown hgrow hat
  refine hK _ _ ⟨(Below.refl _ _).grown hgrow HC.out.size (fun k hk => (HO1.out.lt k hk).1), ?_⟩
  clear hK K
  (try simp only [Act.put, List.setIfInBounds_toArray, List.set_cons_zero, List.set_cons_succ])
  rw [Nat.zero_add, List.nil_append] at hown
  have HC := Lib.hid (HC.out.grown hgrow HC.out.size (fun k hk => (HO1.out.lt k hk).1))
  have HO2 := Lib.hid hown
  clear hown hgrow hat HO1
  refine plan_turn rfl (by kernel_rfl) (fun K hK => ?_)
  refine wp_append_any y2 (.tmp 30) (.tmp 37) _ rfl w2.heap.size 62 im0 _ 12 40 Try.underlying40 hi0 hz0 hz1 hz2 rfl (by decide) v2 i ((x.L.take i).flatMap Mp.vs) rfl HO2.out qb (some A) (n - (i + 1)) (cap - (i + 1)) (((x.L.drop (i + 1)).take (n - (i + 1))).flatMap Mp.vs) rfl (HRD2.out.below (HC.out.mono HQS.out)) (one_mp _) (by unfold maxLen; have := HNB.out; omega) (by have := HNB.out; omega) HC.out.size ?_
  intro v3 y3 hown hgrow hat
  refine hK _ _ ⟨(Below.refl _ _).grown hgrow HC.out.size (fun k hk => (HO2.out.lt k hk).1), ?_⟩
  clear hK K
  (try simp only [Act.put, List.setIfInBounds_toArray, List.set_cons_zero, List.set_cons_succ])
  have HC := Lib.hid (HC.out.grown hgrow HC.out.size (fun k hk => (HO2.out.lt k hk).1))
  obtain ⟨A3, c3, e3⟩ := own_form hown
  subst e3
  have HO3 := Lib.hid hown
  obtain ⟨⟨u3, k3⟩, f3⟩ := (H2.out.below HC.out).room 0 (by decide)
  have l3 : rb < y3.heap.size := Nat.lt_of_lt_of_le hlt2 HC.out.size
  clear hown hgrow hat
  iterate 2 (refine plan_take (v := ?_) rfl (by kernel_rfl) ?_ ?_; rotate_left; (focus (intro w' hw'; try go_simp; try with_reducible rfl)); simp only [Act.put, List.setIfInBounds_toArray, List.set_cons_zero, List.set_cons_succ])
  refine plan_last rfl (by kernel_rfl) (by kernel_rfl) (fun K hK => ?_)
  go_simp
  refine hK _ _ ?_
  clear hK K f3 k3 l3
  refine plan_end ?_
  have hfl : (x.L.eraseIdx i).flatMap Mp.vs = (x.L.take i).flatMap Mp.vs ++ ((x.L.drop (i + 1)).take (n - (i + 1))).flatMap Mp.vs := by
    rw [List.take_of_length_le (l := x.L.drop (i + 1)) (by rw [List.length_drop, HN.out]; exact Nat.le_refl _), ← List.flatMap_append, List.eraseIdx_eq_take_drop_succ]
  obtain ⟨F', hx', hF', hk'⟩ := H2.out.putL (L' := x.L.eraseIdx i) HC.out (n := i + (n - (i + 1))) (by rw [hfl]; exact HO3.out) (by rw [List.length_eraseIdx, if_pos (by rw [← HN.out]; exact hin), ← HN.out]; omega)
  have HTO : Hid (XTo w2 rb c ⟨x.L.eraseIdx i, x.T, x.k⟩ F _) := Lib.hid ⟨F', hx', hF', hk'⟩
  have HPN : Hid (¬ F W.heap.size ∧ ¬ F qb) := Lib.hid ⟨fun e => Nat.lt_irrefl _ (HX.out.lt _ e), fun e => Nat.lt_irrefl _ (Nat.lt_of_lt_of_le (HX.out.lt _ e) HPQ.out)⟩
  have HPB4 := Lib.hid (hk'.blk HPB2.out HPN.out.1)
  have HQB4 := Lib.hid (hk'.blk HQB2.out HPN.out.2)
  clear hfl hx' hF' hk' HPB2 HQB2
  generalize y3.setCell ⟨rb, 0, none⟩ (.slice A3 (i + (n - (i + 1))) c3) = w4 at *
  go_wp2_with (first | ((with_reducible refine wl_load 25 (.tmp 7) rfl ?_ qb 0 m.p.cs ?_ HQB4.out.range ?_ ?_); exact rfl; exact rfl; exact prow m.p) | ((with_reducible refine wl_store 25 (.tmp 4) (.tmp 41) rfl ?_ W.heap.size 25 pte0.cs m.p.cs ?_ ?_ HPB4.out ?_ ?_ ?_ ?_); exact rfl; exact rfl; exact rfl; exact rfl; exact prow m.p; exact pcs_one m.p))
  refine bodyPost_ret (res_cell_slot (cs := m.p.cs) (v := .int .i64 0) rfl _ _ W.heap.size 25 rfl rfl (HPB4.out.setRow _) (prow m.p)) rfl ?_
  obtain ⟨F', hx', hF', hk'⟩ := HTO.out
  have kW : Keeps F W w4 := (Keeps.of_below HB2.out).same hk'
  refine ⟨rfl, F', hx'.keeps ((Keeps.refl (fun b => b = W.heap.size) w4).setRow (.inl rfl) _) (fun b hb e => ?_), fun b hb => (hF' b hb).imp id (fun h => Nat.le_trans HB2.out.size h), kW.setRow (.inr (Nat.le_refl _)) _⟩
  rcases hF' b hb with h1 | h1
  · exact HPN.out.1 (e ▸ h1)
  · have := HQL.out
    have := HPQ.out
    omega
theorem runmap_any (va : Nat) (h : XAt W rb c x F) (hv : va < 18446744073709551616) (hroom : Roomy x) :
    Calls Try.prog 20 #[.pointer (some ⟨rb, 0, none⟩), .int .u64 (va : Int)] W fun e w' => e = .returned (.tuple #[.agg (unmapL x va).1.cs, .int .i64 (unmapL x va).2.1]) ∧ XTo W rb c (unmapL x va).2.2 F w' := by
  unfold unmapL
  cases e : holdsI x.L va with
  | none => exact runmap_none rb c x F W va h hv e
  | some i =>
    obtain ⟨m, hm⟩ := holdsI_some e
    simp only [hm]
    exact runmap_some rb c x F W va i m h hv hroom e hm
theorem rchange_any (p : Pte) (va : Nat) (h : XAt W rb c x F) (hv : va < 18446744073709551616) (hw : PteWf p) (hroom : Roomy x) :
    Calls Try.prog 19 #[.pointer (some ⟨rb, 0, none⟩), .int .u64 (va : Int), .agg p.cs] W fun e w' => e = .returned (.int .i64 (changeL x va p).1) ∧ XTo W rb c (changeL x va p).2 F w' := by
  unfold changeL
  cases e : holdsI x.L va with
  | none => exact rchange_none rb c x F W p va h hv hw e
  | some i =>
    obtain ⟨m, hm⟩ := holdsI_some e
    simp only [hm]
    by_cases hb : mayB p (m.lev : Int) = true
    · rw [if_pos hb]
      exact rchange_ok rb c x F W p va i m h hv hw hroom e hm hb
    · rw [if_neg hb]
      exact rchange_bad rb c x F W p va i m h hv hw hroom e hm (by simpa using hb)
end
end Go.Proofs.Ytbgagmpinekhpaa
