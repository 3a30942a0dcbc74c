/- Find. -/
import Derived.Test.YtnjoobggcejgkaaTlbD
namespace Go.Proofs.Ytnjoobggcejgkaa
open Go.RowKit

/-- The entries of a buffer are of levels that there are. -/
def Valid (T : List (List En)) : Prop := ∀ s ∈ T, ∀ e ∈ s, e.full = true → levOK e.lf.lev = true
def hitB (lev : Int) (va : Nat) (asid : Int) (e : En) : Bool := e.lf.lev == lev && matchB e va asid
def wayFind (l : List En) (lev : Int) (va : Nat) (asid : Int) : Option Lf := (l.find? (hitB lev va asid)).map (·.lf)
def findS (T : List (List En)) (va : Nat) (asid : Int) : Option Lf :=
  (wayFind (T.getD (pgN va 0 % T.length) []) 0 va asid).or ((wayFind (T.getD (pgN va 1 % T.length) []) 1 va asid).or (wayFind (T.getD (pgN va 2 % T.length) []) 2 va asid))
/-- What a look-up answers. -/
def FindR (r : Option Lf) (W : World) (e : Ending) (w' : World) : Prop :=
  e = .returned (.tuple #[(r.getD lf0).val, .bool r.isSome]) ∧ Below W.heap.size W w'
theorem find_step {l : List En} {k : Nat} {x : En} {p : En → Bool} (hx : l[k]? = some x) (h : ∀ y ∈ l.take k, p y = false) (hp : p x = true) : l.find? p = some x := by
  have e : l = l.take k ++ x :: l.drop (k + 1) := by
    have hk : k < l.length := by
      rcases Nat.lt_or_ge k l.length with h1 | h1
      · exact h1
      · rw [List.getElem?_eq_none h1] at hx; cases hx
    rw [List.getElem?_eq_getElem hk] at hx
    injection hx with hx
    rw [← hx, List.getElem_cons_drop, List.take_append_drop]
  rw [e, List.find?_append, List.find?_eq_none.2 (fun y hy => by rw [h y hy]; decide), Option.none_or, List.find?_cons, hp]
theorem find_none {l : List En} {k : Nat} {p : En → Bool} (hk : l.length ≤ k) (h : ∀ y ∈ l.take k, p y = false) : l.find? p = none := by
  rw [List.take_of_length_le hk] at h
  exact List.find?_eq_none.2 fun y hy => by rw [h y hy]; decide
theorem take_more {l : List En} {k : Nat} {x : En} {p : En → Bool} (hx : l[k]? = some x) (h : ∀ y ∈ l.take k, p y = false) (hp : p x = false) : ∀ y ∈ l.take (k + 1), p y = false := by
  intro y hy
  rw [List.take_add_one, hx] at hy
  rcases List.mem_append.1 hy with hy | hy
  · exact h y hy
  · simp at hy; rw [hy]; exact hp
theorem find_hit {T : List (List En)} {va : Nat} {asid : Int} {l : Nat} {x : Lf} (hl : l < 3) (h : ∀ l' : Nat, l' < l → wayFind (T.getD (pgN va l' % T.length) []) l' va asid = none) (hx : wayFind (T.getD (pgN va l % T.length) []) l va asid = some x) : findS T va asid = some x := by
  unfold findS
  rcases (show l = 0 ∨ l = 1 ∨ l = 2 by omega) with rfl | rfl | rfl
  · have e0 : wayFind (T.getD (pgN va 0 % T.length) []) 0 va asid = some x := hx
    rw [e0, Option.some_or]
  · have e0 : wayFind (T.getD (pgN va 0 % T.length) []) 0 va asid = none := h 0 (by omega)
    have e1 : wayFind (T.getD (pgN va 1 % T.length) []) 1 va asid = some x := hx
    rw [e0, Option.none_or, e1, Option.some_or]
  · have e0 : wayFind (T.getD (pgN va 0 % T.length) []) 0 va asid = none := h 0 (by omega)
    have e1 : wayFind (T.getD (pgN va 1 % T.length) []) 1 va asid = none := h 1 (by omega)
    have e2 : wayFind (T.getD (pgN va 2 % T.length) []) 2 va asid = some x := hx
    rw [e0, Option.none_or, e1, Option.none_or, e2]
theorem find_all {T : List (List En)} {va : Nat} {asid : Int} (h : ∀ l' : Nat, l' < 3 → wayFind (T.getD (pgN va l' % T.length) []) l' va asid = none) : findS T va asid = none := by
  unfold findS
  have e0 : wayFind (T.getD (pgN va 0 % T.length) []) 0 va asid = none := h 0 (by omega)
  have e1 : wayFind (T.getD (pgN va 1 % T.length) []) 1 va asid = none := h 1 (by omega)
  have e2 : wayFind (T.getD (pgN va 2 % T.length) []) 2 va asid = none := h 2 (by omega)
  rw [e0, Option.none_or, e1, Option.none_or, e2]
def ORel (W : World) (g gs : Nat) (G : Nat → Nat) (T : List (List En)) (m va : Nat) (asid : Int) (l : Nat) (wr : World) : Prop :=
  BufAt wr g gs G T m ∧ Blk wr W.heap.size 33 #[.bool false, .bool false, .bool false, .bool false, .bool false, .bool false, .bool false, .bool false, .int .i64 0, .int .u64 0, .int .i64 0, .int .u64 0] ∧ Below W.heap.size W wr ∧ ∀ l' : Nat, l' < l → wayFind (T.getD (pgN va l' % T.length) []) l' va asid = none
def FRel (b : Nat) (w : World) (l : List En) (lev : Int) (va : Nat) (asid : Int) (k : Nat) (wr : World) : Prop := Below w.heap.size w wr ∧ ∀ y ∈ l.take k, hitB lev va asid y = false
set_option maxHeartbeats 4000000 in
theorem find_any (g gs : Nat) (G : Nat → Nat) (T : List (List En)) (m : Nat) (va : Nat) (asid : Int) (W : World) (hv : va < 18446744073709551616) (hn : 0 < T.length) (hn2 : T.length ≤ 64) (hm : m ≤ 8) (hB : BufAt W g gs G T m) (hval : Valid T) :
    Calls Try.prog 8 #[.pointer (some ⟨g, 0, none⟩), .int .u64 va, .int .i64 asid] W (FindR (findS T va asid) W) := by
  have hc := (Below.refl W.heap.size W).alloc (Nat.le_refl _) (.cells #[.bool false, .bool false, .bool false, .bool false, .bool false, .bool false, .bool false, .bool false, .int .i64 0, .int .u64 0, .int .i64 0, .int .u64 0] 33)
  have hX : Blk (W.alloc (.cells #[.bool false, .bool false, .bool false, .bool false, .bool false, .bool false, .bool false, .bool false, .int .i64 0, .int .u64 0, .int .i64 0, .int .u64 0] 33)) W.heap.size 33 #[.bool false, .bool false, .bool false, .bool false, .bool false, .bool false, .bool false, .bool false, .int .i64 0, .int .u64 0, .int .i64 0, .int .u64 0] := Blkf.new_at _ _ _ _ rfl
  have HB0 := Lib.hid (hB.below hc)
  have HC0 := Lib.hid hc
  have HX0 := Lib.hid hX
  clear hc hX hB
  go_enter Try.func8, Try.ntmps8
  go_wp2_with fail
  generalize W.alloc (.cells #[.bool false, .bool false, .bool false, .bool false, .bool false, .bool false, .bool false, .bool false, .int .i64 0, .int .u64 0, .int .i64 0, .int .u64 0] 33) = W0 at *
  go_loopw [14] (fun i wr => ∃ l : Nat, l ≤ 3 ∧ i = .int .i64 l ∧ ORel W g gs G T m va asid l wr) (fun i _ => 3 - (intOf i).toNat)
  case atStart => exact ⟨0, by omega, rfl, HB0.out, HX0.out, HC0.out, fun l hl => absurd hl (by omega)⟩
  case round =>
    obtain ⟨l, hl, rfl, hB, hX, hC, hN⟩ := hrel
    have HB1 := Lib.hid hB
    have HX1 := Lib.hid hX
    have HC1 := Lib.hid hC
    have HN1 := Lib.hid hN
    clear hB hX hC hN
    by_cases hl3 : l < 3
    · have hlo : levOK (l : Int) = true := by unfold levOK; rw [decide_eq_true (by omega), decide_eq_true (by omega)]; rfl
      go_wp2_with fail
      refine (page_any va (l : Int) _ hv hlo).mono ?_
      rintro e w ⟨rfl, rfl⟩
      go_wp2_with fail
      refine (set_any g gs G T m (pgN va l) _ (Nat.lt_trans (pgN_lt va l) (by decide)) hn hn2 HB1.out).mono ?_
      rintro e w ⟨rfl, rfl⟩
      obtain ⟨q, hq⟩ : ∃ q, q = pgN va l % T.length := ⟨_, rfl⟩
      have hql : q < T.length := by rw [hq]; exact Nat.mod_lt _ hn
      rw [← hq]
      have HQ := Lib.hid hq
      have HQL := Lib.hid hql
      clear hq hql
      have HX2 := Lib.hid HX1.out.drew
      have HB2 := Lib.hid HB1.out.drew
      have HC2 := Lib.hid HC1.out.drew
      rename World => w1
      generalize w1.drew = w2 at *
      go_wp2_with fail
      go_loopw [23] (fun i wr => ∃ k : Nat, k ≤ m ∧ i = .int .i64 k ∧ FRel W.heap.size w2 (T.getD q []) l va asid k wr) (fun i _ => m - (intOf i).toNat)
      case atStart => exact ⟨0, by omega, rfl, Below.refl _ _, fun y hy => by simp at hy⟩
      case round =>
        obtain ⟨k, hk, rfl, hbel, hno⟩ := hrel
        have HBE := Lib.hid hbel
        have HNO := Lib.hid hno
        clear hbel hno
        have HBW := Lib.hid (HB2.out.below HBE.out)
        have HXW := Lib.hid (HX2.out.below HBE.out HX2.out.lt)
        have HCW := Lib.hid (HC2.out.trans (HBE.out.mono HC2.out.size))
        by_cases hkl : k < m
        · obtain ⟨e, he⟩ : ∃ e, (T.getD q [])[k]? = some e := by
            have := HB2.out.ways q HQL.out
            exact ⟨_, List.getElem?_eq_getElem (by omega)⟩
          have HE := Lib.hid he
          have hlv : e.full = true → levOK e.lf.lev = true := by
            have hmem : (T.getD q []) ∈ T := by rw [List.getD_eq_getElem?_getD, List.getElem?_eq_getElem HQL.out]; exact List.getElem_mem _
            exact hval _ hmem e (List.mem_of_getElem? he)
          have HLV := Lib.hid hlv
          clear he hlv
          have c0 := HBW.out.cell HQL.out k 0 e HE.out (by decide)
          have c1 := HBW.out.cell HQL.out k 1 e HE.out (by decide)
          have c2 := HBW.out.cell HQL.out k 2 e HE.out (by decide)
          have c3 := HBW.out.cell HQL.out k 3 e HE.out (by decide)
          have c4 := HBW.out.cell HQL.out k 4 e HE.out (by decide)
          have c5 := HBW.out.cell HQL.out k 5 e HE.out (by decide)
          have c6 := HBW.out.cell HQL.out k 6 e HE.out (by decide)
          have c7 := HBW.out.cell HQL.out k 7 e HE.out (by decide)
          have c8 := HBW.out.cell HQL.out k 8 e HE.out (by decide)
          have c9 := HBW.out.cell HQL.out k 9 e HE.out (by decide)
          have c10 := HBW.out.cell HQL.out k 10 e HE.out (by decide)
          have c11 := HBW.out.cell HQL.out k 11 e HE.out (by decide)
          have c12 := HBW.out.cell HQL.out k 12 e HE.out (by decide)
          have c13 := HBW.out.cell HQL.out k 13 e HE.out (by decide)
          have c14 := HBW.out.cell HQL.out k 14 e HE.out (by decide)
          simp [En.vs] at c0 c1 c2 c3 c4 c5 c6 c7 c8 c9 c10 c11 c12 c13 c14
          have hal := (Below.refl wr.heap.size wr).alloc (Nat.le_refl _) (.cells #[.bool e.full, .int .i64 e.asid, .int .u64 e.page, .bool e.lf.v, .bool e.lf.r, .bool e.lf.w, .bool e.lf.x, .bool e.lf.u, .bool e.lf.g, .bool e.lf.a, .bool e.lf.d, .int .i64 e.lf.rsw, .int .u64 e.lf.ppn, .int .i64 e.lf.lev, .int .u64 e.lf.pos] 59)
          have HAL := Lib.hid hal
          clear hal
          cases hlev : (e.lf.lev == (l : Int))
          · have hhit : hitB l va asid e = false := by unfold hitB; rw [hlev]; rfl
            have HHIT := Lib.hid hhit
            clear hhit
            go_wp2_with fail
            exact ⟨⟨k + 1, hkl, by go_num, HBE.out.trans (HAL.out.mono HBE.out.size), take_more HE.out HNO.out HHIT.out⟩, by simp [intOf]; omega⟩
          · go_wp2_with fail
            refine (matches_any e va asid _ hv HLV.out).mono ?_
            rintro r w ⟨rfl, hb⟩
            have hY0 : Blk (wr.alloc (.cells #[.bool e.full, .int .i64 e.asid, .int .u64 e.page, .bool e.lf.v, .bool e.lf.r, .bool e.lf.w, .bool e.lf.x, .bool e.lf.u, .bool e.lf.g, .bool e.lf.a, .bool e.lf.d, .int .i64 e.lf.rsw, .int .u64 e.lf.ppn, .int .i64 e.lf.lev, .int .u64 e.lf.pos] 59)) wr.heap.size 59 #[.bool e.full, .int .i64 e.asid, .int .u64 e.page, .bool e.lf.v, .bool e.lf.r, .bool e.lf.w, .bool e.lf.x, .bool e.lf.u, .bool e.lf.g, .bool e.lf.a, .bool e.lf.d, .int .i64 e.lf.rsw, .int .u64 e.lf.ppn, .int .i64 e.lf.lev, .int .u64 e.lf.pos] := Blkf.new_at _ _ _ _ rfl
            have hY := hY0.below hb hY0.lt
            have hbb : Below wr.heap.size wr w := HAL.out.trans (hb.mono HAL.out.size)
            have hXX := HXW.out.below hbb HXW.out.lt
            have HBB := Lib.hid hbb
            have HYY := Lib.hid hY
            have HXX := Lib.hid hXX
            clear hY0 hY hbb hXX hb c0 c1 c2 c3 c4 c5 c6 c7 c8 c9 c10 c11 c12 c13 c14
            cases hmt : matchB e va asid
            · have hhit : hitB l va asid e = false := by unfold hitB; rw [hmt, Bool.and_false]
              have HHIT := Lib.hid hhit
              clear hhit hmt
              go_wp2_with fail
              exact ⟨⟨k + 1, hkl, by go_num, HBE.out.trans (HBB.out.mono HBE.out.size), take_more HE.out HNO.out HHIT.out⟩, by simp [intOf]; omega⟩
            · have hhit : hitB l va asid e = true := by unfold hitB; rw [hmt, hlev]; rfl
              have hfnd : wayFind (T.getD q []) l va asid = some e.lf := by unfold wayFind; rw [find_step HE.out HNO.out hhit]; rfl
              have HFND := Lib.hid (find_hit hl3 HN1.out (HQ.out ▸ hfnd))
              clear hhit hmt hfnd hlev
              have y0 := HYY.out.cell 0
              have y1 := HYY.out.cell 1
              have y2 := HYY.out.cell 2
              have y3 := HYY.out.cell 3
              have y4 := HYY.out.cell 4
              have y5 := HYY.out.cell 5
              have y6 := HYY.out.cell 6
              have y7 := HYY.out.cell 7
              have y8 := HYY.out.cell 8
              have y9 := HYY.out.cell 9
              have y10 := HYY.out.cell 10
              have y11 := HYY.out.cell 11
              have y12 := HYY.out.cell 12
              have y13 := HYY.out.cell 13
              have y14 := HYY.out.cell 14
              have x0 := HXX.out.cell 0
              have x1 := HXX.out.cell 1
              have x2 := HXX.out.cell 2
              have x3 := HXX.out.cell 3
              have x4 := HXX.out.cell 4
              have x5 := HXX.out.cell 5
              have x6 := HXX.out.cell 6
              have x7 := HXX.out.cell 7
              have x8 := HXX.out.cell 8
              have x9 := HXX.out.cell 9
              have x10 := HXX.out.cell 10
              have x11 := HXX.out.cell 11
              have yl := HYY.out.lt
              have xl := HXX.out.lt
              have xf := fun i => HXX.out.frozen i
              simp at y0 y1 y2 y3 y4 y5 y6 y7 y8 y9 y10 y11 y12 y13 y14 x0 x1 x2 x3 x4 x5 x6 x7 x8 x9 x10 x11
              go_wp2
              have hZ := ((((((((((((HXX.out.set_ 0 (.bool e.lf.v)).set_ 1 (.bool e.lf.r)).set_ 2 (.bool e.lf.w)).set_ 3 (.bool e.lf.x)).set_ 4 (.bool e.lf.u)).set_ 5 (.bool e.lf.g)).set_ 6 (.bool e.lf.a)).set_ 7 (.bool e.lf.d)).set_ 8 (.int .i64 e.lf.rsw)).set_ 9 (.int .u64 e.lf.ppn)).set_ 10 (.int .i64 e.lf.lev)).set_ 11 (.int .u64 e.lf.pos))
              have hW := (((((((((((((HCW.out.trans (HBB.out.mono HCW.out.size)).setCell (p := ⟨W.heap.size, 0, none⟩) (Nat.le_refl _) (.bool e.lf.v)).setCell (p := ⟨W.heap.size, 1, none⟩) (Nat.le_refl _) (.bool e.lf.r)).setCell (p := ⟨W.heap.size, 2, none⟩) (Nat.le_refl _) (.bool e.lf.w)).setCell (p := ⟨W.heap.size, 3, none⟩) (Nat.le_refl _) (.bool e.lf.x)).setCell (p := ⟨W.heap.size, 4, none⟩) (Nat.le_refl _) (.bool e.lf.u)).setCell (p := ⟨W.heap.size, 5, none⟩) (Nat.le_refl _) (.bool e.lf.g)).setCell (p := ⟨W.heap.size, 6, none⟩) (Nat.le_refl _) (.bool e.lf.a)).setCell (p := ⟨W.heap.size, 7, none⟩) (Nat.le_refl _) (.bool e.lf.d)).setCell (p := ⟨W.heap.size, 8, none⟩) (Nat.le_refl _) (.int .i64 e.lf.rsw)).setCell (p := ⟨W.heap.size, 9, none⟩) (Nat.le_refl _) (.int .u64 e.lf.ppn)).setCell (p := ⟨W.heap.size, 10, none⟩) (Nat.le_refl _) (.int .i64 e.lf.lev)).setCell (p := ⟨W.heap.size, 11, none⟩) (Nat.le_refl _) (.int .u64 e.lf.pos))
              have q0_ := hZ.cell 0
              have q1_ := hZ.cell 1
              have q2_ := hZ.cell 2
              have q3_ := hZ.cell 3
              have q4_ := hZ.cell 4
              have q5_ := hZ.cell 5
              have q6_ := hZ.cell 6
              have q7_ := hZ.cell 7
              have q8_ := hZ.cell 8
              have q9_ := hZ.cell 9
              have q10_ := hZ.cell 10
              have q11_ := hZ.cell 11
              refine bodyPost_ret (v := .tuple #[.agg #[.bool e.lf.v, .bool e.lf.r, .bool e.lf.w, .bool e.lf.x, .bool e.lf.u, .bool e.lf.g, .bool e.lf.a, .bool e.lf.d, .int .i64 e.lf.rsw, .int .u64 e.lf.ppn, .int .i64 e.lf.lev, .int .u64 e.lf.pos], .bool true]) (by simp [results, Try.results8, go_sem, q0_, q1_, q2_, q3_, q4_, q5_, q6_, q7_, q8_, q9_, q10_, q11_]) rfl ?_
              unfold FindR
              rw [HFND.out]
              exact ⟨rfl, hW⟩
        · obtain rfl : m = k := by omega
          have hnn : wayFind (T.getD q []) l va asid = none := by unfold wayFind; rw [find_none (by rw [HB2.out.ways q HQL.out]; exact Nat.le_refl _) HNO.out]; rfl
          have HNN : Hid (∀ l' : Nat, l' < l + 1 → wayFind (T.getD (pgN va l' % T.length) []) l' va asid = none) := Lib.hid (fun l' hl' => by
            rcases (show l' < l ∨ l' = l by omega) with h | h
            · exact HN1.out l' h
            · rw [h, ← HQ.out]; exact hnn)
          clear hnn
          go_wp2_with fail
          exact ⟨⟨l + 1, by omega, by go_num, HBW.out, HXW.out, HCW.out, HNN.out⟩, by simp [intOf]; omega⟩
    · obtain rfl : l = 3 := by omega
      have HFND := Lib.hid (find_all HN1.out)
      have x0 := HX1.out.cell 0
      have x1 := HX1.out.cell 1
      have x2 := HX1.out.cell 2
      have x3 := HX1.out.cell 3
      have x4 := HX1.out.cell 4
      have x5 := HX1.out.cell 5
      have x6 := HX1.out.cell 6
      have x7 := HX1.out.cell 7
      have x8 := HX1.out.cell 8
      have x9 := HX1.out.cell 9
      have x10 := HX1.out.cell 10
      have x11 := HX1.out.cell 11
      have xl := HX1.out.lt
      have xf := fun i => HX1.out.frozen i
      simp at x0 x1 x2 x3 x4 x5 x6 x7 x8 x9 x10 x11
      go_wp2
      have hZ := ((((((((((((HX1.out.set_ 0 (.bool false)).set_ 1 (.bool false)).set_ 2 (.bool false)).set_ 3 (.bool false)).set_ 4 (.bool false)).set_ 5 (.bool false)).set_ 6 (.bool false)).set_ 7 (.bool false)).set_ 8 (.int .i64 0)).set_ 9 (.int .u64 0)).set_ 10 (.int .i64 0)).set_ 11 (.int .u64 0))
      have hW := ((((((((((((HC1.out.setCell (p := ⟨W.heap.size, 0, none⟩) (Nat.le_refl _) (.bool false)).setCell (p := ⟨W.heap.size, 1, none⟩) (Nat.le_refl _) (.bool false)).setCell (p := ⟨W.heap.size, 2, none⟩) (Nat.le_refl _) (.bool false)).setCell (p := ⟨W.heap.size, 3, none⟩) (Nat.le_refl _) (.bool false)).setCell (p := ⟨W.heap.size, 4, none⟩) (Nat.le_refl _) (.bool false)).setCell (p := ⟨W.heap.size, 5, none⟩) (Nat.le_refl _) (.bool false)).setCell (p := ⟨W.heap.size, 6, none⟩) (Nat.le_refl _) (.bool false)).setCell (p := ⟨W.heap.size, 7, none⟩) (Nat.le_refl _) (.bool false)).setCell (p := ⟨W.heap.size, 8, none⟩) (Nat.le_refl _) (.int .i64 0)).setCell (p := ⟨W.heap.size, 9, none⟩) (Nat.le_refl _) (.int .u64 0)).setCell (p := ⟨W.heap.size, 10, none⟩) (Nat.le_refl _) (.int .i64 0)).setCell (p := ⟨W.heap.size, 11, none⟩) (Nat.le_refl _) (.int .u64 0))
      have q0_ := hZ.cell 0
      have q1_ := hZ.cell 1
      have q2_ := hZ.cell 2
      have q3_ := hZ.cell 3
      have q4_ := hZ.cell 4
      have q5_ := hZ.cell 5
      have q6_ := hZ.cell 6
      have q7_ := hZ.cell 7
      have q8_ := hZ.cell 8
      have q9_ := hZ.cell 9
      have q10_ := hZ.cell 10
      have q11_ := hZ.cell 11
      refine bodyPost_ret (v := .tuple #[.agg #[.bool false, .bool false, .bool false, .bool false, .bool false, .bool false, .bool false, .bool false, .int .i64 0, .int .u64 0, .int .i64 0, .int .u64 0], .bool false]) (by simp [results, Try.results8, go_sem, q0_, q1_, q2_, q3_, q4_, q5_, q6_, q7_, q8_, q9_, q10_, q11_]) rfl ?_
      unfold FindR
      rw [HFND.out]
      exact ⟨rfl, hW⟩
end Go.Proofs.Ytnjoobggcejgkaa
