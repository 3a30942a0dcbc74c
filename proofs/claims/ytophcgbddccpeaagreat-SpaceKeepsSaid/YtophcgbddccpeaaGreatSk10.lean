/- Merged texts: TlbD, TlbE, TlbF, TlbG. -/
import Derived.Test.YtophcgbddccpeaaGreatSk9
/- Buffers in memory; set. -/
namespace Go.Proofs.YtophcgbddccpeaaGreat
open Go.RowKit

def waysC : List En → List Value
  | [] => []
  | e :: r => e.vs ++ waysC r
theorem vs_length (e : En) : e.vs.length = 15 := rfl
theorem waysC_length : ∀ l : List En, (waysC l).length = l.length * 15
  | [] => rfl
  | e :: r => by
    show (e.vs ++ waysC r).length = _
    rw [List.length_append, vs_length, waysC_length r, List.length_cons]
    omega
theorem waysC_get : ∀ (l : List En) (k j : Nat) (e : En), l[k]? = some e → j < 15 → (waysC l)[k * 15 + j]? = e.vs[j]?
  | [], k, j, e, h, _ => by simp at h
  | x :: r, 0, j, e, h, hj => by
    simp at h
    subst h
    show (x.vs ++ waysC r)[0 * 15 + j]? = _
    rw [Nat.zero_mul, Nat.zero_add, List.getElem?_append_left (by rw [vs_length]; exact hj)]
  | x :: r, k + 1, j, e, h, hj => by
    show (x.vs ++ waysC r)[(k + 1) * 15 + j]? = _
    rw [List.getElem?_append_right (by rw [vs_length]; omega), vs_length, show (k + 1) * 15 + j - 15 = k * 15 + j by omega]
    exact waysC_get r k j e (by simpa using h) hj
/-- A buffer: its sets' row in block gs, set i's ways in block G i. -/
structure BufAt (w : World) (g gs : Nat) (G : Nat → Nat) (T : List (List En)) (m : Nat) : Prop where
  head : ∃ c, Blk w g 111 #[.slice (some ⟨gs, 0, none⟩) T.length c]
  outer : ∃ cur, Blk w gs 112 cur ∧ ∀ i, i < T.length → cur[i]? = some (.slice (some ⟨G i, 0, none⟩) m m)
  ways : ∀ i, i < T.length → (T.getD i []).length = m
  inner : ∀ i, i < T.length → Blk w (G i) 152 (waysC (T.getD i [])).toArray
  inj : ∀ i j, i < T.length → j < T.length → G i = G j → i = j
/-- The blocks of a buffer. -/
def bufF (g gs : Nat) (G : Nat → Nat) (n : Nat) (k : Nat) : Prop := k = g ∨ k = gs ∨ ∃ i, i < n ∧ k = G i
section
variable {w w' : World} {g gs : Nat} {G : Nat → Nat} {T : List (List En)} {m : Nat}
theorem BufAt.move (h : BufAt w g gs G T m) (hk : ∀ k, k < w.heap.size → bufF g gs G T.length k → w'.heap[k]? = w.heap[k]?) : BufAt w' g gs G T m := by
  obtain ⟨c, hc⟩ := h.head
  obtain ⟨cur, ho, hcur⟩ := h.outer
  exact ⟨⟨c, (hk g hc.lt (.inl rfl)).trans hc⟩, ⟨cur, (hk gs ho.lt (.inr (.inl rfl))).trans ho, hcur⟩, h.ways, fun i hi => (hk (G i) (h.inner i hi).lt (.inr (.inr ⟨i, hi, rfl⟩))).trans (h.inner i hi), h.inj⟩
theorem BufAt.below (h : BufAt w g gs G T m) (hb : Below w.heap.size w w') : BufAt w' g gs G T m := h.move fun k hk _ => hb.block k hk
theorem BufAt.drew (h : BufAt w g gs G T m) : BufAt w.drew g gs G T m := h.move fun _ _ _ => rfl
theorem BufAt.cell (h : BufAt w g gs G T m) {i : Nat} (hi : i < T.length) (k j : Nat) (e : En) (hk : (T.getD i [])[k]? = some e) (hj : j < 15) : w.cell? ⟨G i, k * 15 + j, none⟩ = e.vs[j]? := by
  rw [(h.inner i hi).cell, List.getElem?_toArray, waysC_get _ _ _ _ hk hj]
end
set_option maxHeartbeats 1000000 in
theorem set_any (g gs : Nat) (G : Nat → Nat) (T : List (List En)) (m : Nat) (p : Nat) (W : World) (hp : p < 18446744073709551616) (hn : 0 < T.length) (hn2 : T.length ≤ 64) (hB : BufAt W g gs G T m) :
    Calls Tryz.prog 93 #[.pointer (some ⟨g, 0, none⟩), .int .u64 p] W fun e w' => e = .returned (.slice (some ⟨G (p % T.length), 0, none⟩) m m) ∧ W.drew = w' := by
  obtain ⟨c, hc⟩ := hB.head
  obtain ⟨cur, ho, hcur⟩ := hB.outer
  have hlt : p % T.length < T.length := Nat.mod_lt _ hn
  have hi := hcur _ hlt
  have HC := Lib.hid hc
  have HO := Lib.hid ho
  have HI := Lib.hid hi
  have hlt2 : p % T.length < 64 := by omega
  generalize hq : p % T.length = q at *
  generalize hn' : T.length = n at *
  have hpq : (p : Int).tmod (n : Int) = (q : Int) := by
    rw [Int.tmod_eq_emod_of_nonneg (by omega), ← hq]
    simp
  have hw : IntKind.u64.wrap (n : Int) = (n : Int) := by rw [IntKind.wrap_u64]; omega
  have hn0 : ¬ (n : Int) = 0 := by omega
  have hn0' : ¬ n = 0 := by omega
  have hql : (q : Int) < (n : Int) := by omega
  clear hc ho hcur hi hB hq hn'
  go_enter Tryz.func93, Tryz.ntmps93
  go_wp2_with fail
  have s0 := fun W' (h : Ext W.drew W') => (h.cell (p := ⟨g, 0, none⟩) HC.out.lt).trans (HC.out.cell 0)
  have s1 := fun W' (h : Ext W.drew W') => (h.cell (p := ⟨gs, q, none⟩) HO.out.lt).trans ((HO.out.cell q).trans HI.out)
  simp at s0
  refine wp_region_plan [(0, false), (1, false), (2, false), (3, false), (4, false), (5, false), (6, false), (7, false), (8, false), (9, false), (10, false), (11, false), (12, false), (13, false), (14, false)] (by kernel_rfl) (by kernel_rfl) (fun _ d _ _ _ h => by cases d <;> exact h) ?_
  iterate 15 (refine plan_take (v := ?_) rfl (by kernel_rfl) ?_ ?_; rotate_left; (focus (intro w' hw'; try go_simp; try with_reducible rfl)); simp only [Act.put, List.setIfInBounds_toArray, List.set_cons_zero, List.set_cons_succ])
  refine plan_end ?_
  clear s0 s1
  go_wp2
  go_ret
  exact ⟨rfl, rfl⟩
end Go.Proofs.YtophcgbddccpeaaGreat

/- Find. -/
namespace Go.Proofs.YtophcgbddccpeaaGreat
open Go.RowKit

/-- The entries of a buffer are of levels that there are. -/
def Valid (T : List (List En)) : Prop := ∀ s ∈ T, ∀ e ∈ s, e.full = true → levOK e.lf.lev = true
def hitB (lev : Int) (va : Nat) (asid : Int) (e : En) : Bool := e.lf.lev == lev && matchB e va asid
def wayFind (l : List En) (lev : Int) (va : Nat) (asid : Int) : Option Tf := (l.find? (hitB lev va asid)).map (·.lf)
def findS (T : List (List En)) (va : Nat) (asid : Int) : Option Tf :=
  (wayFind (T.getD (pgN va 0 % T.length) []) 0 va asid).or ((wayFind (T.getD (pgN va 1 % T.length) []) 1 va asid).or (wayFind (T.getD (pgN va 2 % T.length) []) 2 va asid))
/-- What a look-up answers. -/
def FindR (r : Option Tf) (W : World) (e : Ending) (w' : World) : Prop :=
  e = .returned (.tuple #[(r.getD tlb_lf0).val, .bool r.isSome]) ∧ Below W.heap.size W w'
theorem find_step {l : List En} {k : Nat} {x : En} {p : En → Bool} (hx : l[k]? = some x) (h : ∀ y ∈ l.take k, p y = false) (hp : p x = true) : l.find? p = some x := by
  have e : l = l.take k ++ x :: l.drop (k + 1) := by
    have hk : k < l.length := by
      rcases Nat.lt_or_ge k l.length with h1 | h1
      · exact h1
      · rw [List.getElem?_eq_none h1] at hx; cases hx
    rw [List.getElem?_eq_getElem hk] at hx
    injection hx with hx
    rw [← hx, List.getElem_cons_drop, List.take_append_drop]
  rw [e, List.find?_append, List.find?_eq_none.2 (fun y hy => by rw [h y hy]; decide), Option.none_or, List.find?_cons, hp]
theorem find_none {l : List En} {k : Nat} {p : En → Bool} (hk : l.length ≤ k) (h : ∀ y ∈ l.take k, p y = false) : l.find? p = none := by
  rw [List.take_of_length_le hk] at h
  exact List.find?_eq_none.2 fun y hy => by rw [h y hy]; decide
theorem take_more {l : List En} {k : Nat} {x : En} {p : En → Bool} (hx : l[k]? = some x) (h : ∀ y ∈ l.take k, p y = false) (hp : p x = false) : ∀ y ∈ l.take (k + 1), p y = false := by
  intro y hy
  rw [List.take_add_one, hx] at hy
  rcases List.mem_append.1 hy with hy | hy
  · exact h y hy
  · simp at hy; rw [hy]; exact hp
theorem find_hit {T : List (List En)} {va : Nat} {asid : Int} {l : Nat} {x : Tf} (hl : l < 3) (h : ∀ l' : Nat, l' < l → wayFind (T.getD (pgN va l' % T.length) []) l' va asid = none) (hx : wayFind (T.getD (pgN va l % T.length) []) l va asid = some x) : findS T va asid = some x := by
  unfold findS
  rcases (show l = 0 ∨ l = 1 ∨ l = 2 by omega) with rfl | rfl | rfl
  · have e0 : wayFind (T.getD (pgN va 0 % T.length) []) 0 va asid = some x := hx
    rw [e0, Option.some_or]
  · have e0 : wayFind (T.getD (pgN va 0 % T.length) []) 0 va asid = none := h 0 (by omega)
    have e1 : wayFind (T.getD (pgN va 1 % T.length) []) 1 va asid = some x := hx
    rw [e0, Option.none_or, e1, Option.some_or]
  · have e0 : wayFind (T.getD (pgN va 0 % T.length) []) 0 va asid = none := h 0 (by omega)
    have e1 : wayFind (T.getD (pgN va 1 % T.length) []) 1 va asid = none := h 1 (by omega)
    have e2 : wayFind (T.getD (pgN va 2 % T.length) []) 2 va asid = some x := hx
    rw [e0, Option.none_or, e1, Option.none_or, e2]
theorem find_all {T : List (List En)} {va : Nat} {asid : Int} (h : ∀ l' : Nat, l' < 3 → wayFind (T.getD (pgN va l' % T.length) []) l' va asid = none) : findS T va asid = none := by
  unfold findS
  have e0 : wayFind (T.getD (pgN va 0 % T.length) []) 0 va asid = none := h 0 (by omega)
  have e1 : wayFind (T.getD (pgN va 1 % T.length) []) 1 va asid = none := h 1 (by omega)
  have e2 : wayFind (T.getD (pgN va 2 % T.length) []) 2 va asid = none := h 2 (by omega)
  rw [e0, Option.none_or, e1, Option.none_or, e2]
def ORel (W : World) (g gs : Nat) (G : Nat → Nat) (T : List (List En)) (m va : Nat) (asid : Int) (l : Nat) (wr : World) : Prop :=
  BufAt wr g gs G T m ∧ Blk wr W.heap.size 98 #[.bool false, .bool false, .bool false, .bool false, .bool false, .bool false, .bool false, .bool false, .int .i64 0, .int .u64 0, .int .i64 0, .int .u64 0] ∧ Below W.heap.size W wr ∧ ∀ l' : Nat, l' < l → wayFind (T.getD (pgN va l' % T.length) []) l' va asid = none
def FRel (b : Nat) (w : World) (l : List En) (lev : Int) (va : Nat) (asid : Int) (k : Nat) (wr : World) : Prop := Below w.heap.size w wr ∧ ∀ y ∈ l.take k, hitB lev va asid y = false
set_option maxHeartbeats 4000000 in
theorem tlb_find_any (g gs : Nat) (G : Nat → Nat) (T : List (List En)) (m : Nat) (va : Nat) (asid : Int) (W : World) (hv : va < 18446744073709551616) (hn : 0 < T.length) (hn2 : T.length ≤ 64) (hm : m ≤ 8) (hB : BufAt W g gs G T m) (hval : Valid T) :
    Calls Tryz.prog 77 #[.pointer (some ⟨g, 0, none⟩), .int .u64 va, .int .i64 asid] W (FindR (findS T va asid) W) := by
  have hc := (Below.refl W.heap.size W).alloc (Nat.le_refl _) (.cells #[.bool false, .bool false, .bool false, .bool false, .bool false, .bool false, .bool false, .bool false, .int .i64 0, .int .u64 0, .int .i64 0, .int .u64 0] 98)
  have hX : Blk (W.alloc (.cells #[.bool false, .bool false, .bool false, .bool false, .bool false, .bool false, .bool false, .bool false, .int .i64 0, .int .u64 0, .int .i64 0, .int .u64 0] 98)) W.heap.size 98 #[.bool false, .bool false, .bool false, .bool false, .bool false, .bool false, .bool false, .bool false, .int .i64 0, .int .u64 0, .int .i64 0, .int .u64 0] := Blkf.new_at _ _ _ _ rfl
  have HB0 := Lib.hid (hB.below hc)
  have HC0 := Lib.hid hc
  have HX0 := Lib.hid hX
  clear hc hX hB
  go_enter Tryz.func77, Tryz.ntmps77
  go_wp2_with fail
  generalize W.alloc (.cells #[.bool false, .bool false, .bool false, .bool false, .bool false, .bool false, .bool false, .bool false, .int .i64 0, .int .u64 0, .int .i64 0, .int .u64 0] 98) = W0 at *
  go_loopw [14] (fun i wr => ∃ l : Nat, l ≤ 3 ∧ i = .int .i64 l ∧ ORel W g gs G T m va asid l wr) (fun i _ => 3 - (intOf i).toNat)
  case atStart => exact ⟨0, by omega, rfl, HB0.out, HX0.out, HC0.out, fun l hl => absurd hl (by omega)⟩
  case round =>
    obtain ⟨l, hl, rfl, hB, hX, hC, hN⟩ := hrel
    have HB1 := Lib.hid hB
    have HX1 := Lib.hid hX
    have HC1 := Lib.hid hC
    have HN1 := Lib.hid hN
    clear hB hX hC hN
    by_cases hl3 : l < 3
    · have hlo : levOK (l : Int) = true := by unfold levOK; rw [decide_eq_true (by omega), decide_eq_true (by omega)]; rfl
      go_wp2_with fail
      refine (tlb_page_any va (l : Int) _ hv hlo).mono ?_
      rintro e w ⟨rfl, rfl⟩
      go_wp2_with fail
      refine (set_any g gs G T m (pgN va l) _ (Nat.lt_trans (pgN_lt va l) (by decide)) hn hn2 HB1.out).mono ?_
      rintro e w ⟨rfl, rfl⟩
      obtain ⟨q, hq⟩ : ∃ q, q = pgN va l % T.length := ⟨_, rfl⟩
      have hql : q < T.length := by rw [hq]; exact Nat.mod_lt _ hn
      rw [← hq]
      have HQ := Lib.hid hq
      have HQL := Lib.hid hql
      clear hq hql
      have HX2 := Lib.hid HX1.out.drew
      have HB2 := Lib.hid HB1.out.drew
      have HC2 := Lib.hid HC1.out.drew
      rename World => w1
      generalize w1.drew = w2 at *
      go_wp2_with fail
      go_loopw [23] (fun i wr => ∃ k : Nat, k ≤ m ∧ i = .int .i64 k ∧ FRel W.heap.size w2 (T.getD q []) l va asid k wr) (fun i _ => m - (intOf i).toNat)
      case atStart => exact ⟨0, by omega, rfl, Below.refl _ _, fun y hy => by simp at hy⟩
      case round =>
        obtain ⟨k, hk, rfl, hbel, hno⟩ := hrel
        have HBE := Lib.hid hbel
        have HNO := Lib.hid hno
        clear hbel hno
        have HBW := Lib.hid (HB2.out.below HBE.out)
        have HXW := Lib.hid (HX2.out.below HBE.out HX2.out.lt)
        have HCW := Lib.hid (HC2.out.trans (HBE.out.mono HC2.out.size))
        by_cases hkl : k < m
        · obtain ⟨e, he⟩ : ∃ e, (T.getD q [])[k]? = some e := by
            have := HB2.out.ways q HQL.out
            exact ⟨_, List.getElem?_eq_getElem (by omega)⟩
          have HE := Lib.hid he
          have hlv : e.full = true → levOK e.lf.lev = true := by
            have hmem : (T.getD q []) ∈ T := by rw [List.getD_eq_getElem?_getD, List.getElem?_eq_getElem HQL.out]; exact List.getElem_mem _
            exact hval _ hmem e (List.mem_of_getElem? he)
          have HLV := Lib.hid hlv
          clear he hlv
          have c0 := HBW.out.cell HQL.out k 0 e HE.out (by decide)
          have c1 := HBW.out.cell HQL.out k 1 e HE.out (by decide)
          have c2 := HBW.out.cell HQL.out k 2 e HE.out (by decide)
          have c3 := HBW.out.cell HQL.out k 3 e HE.out (by decide)
          have c4 := HBW.out.cell HQL.out k 4 e HE.out (by decide)
          have c5 := HBW.out.cell HQL.out k 5 e HE.out (by decide)
          have c6 := HBW.out.cell HQL.out k 6 e HE.out (by decide)
          have c7 := HBW.out.cell HQL.out k 7 e HE.out (by decide)
          have c8 := HBW.out.cell HQL.out k 8 e HE.out (by decide)
          have c9 := HBW.out.cell HQL.out k 9 e HE.out (by decide)
          have c10 := HBW.out.cell HQL.out k 10 e HE.out (by decide)
          have c11 := HBW.out.cell HQL.out k 11 e HE.out (by decide)
          have c12 := HBW.out.cell HQL.out k 12 e HE.out (by decide)
          have c13 := HBW.out.cell HQL.out k 13 e HE.out (by decide)
          have c14 := HBW.out.cell HQL.out k 14 e HE.out (by decide)
          simp [En.vs] at c0 c1 c2 c3 c4 c5 c6 c7 c8 c9 c10 c11 c12 c13 c14
          have hal := (Below.refl wr.heap.size wr).alloc (Nat.le_refl _) (.cells #[.bool e.full, .int .i64 e.asid, .int .u64 e.page, .bool e.lf.v, .bool e.lf.r, .bool e.lf.w, .bool e.lf.x, .bool e.lf.u, .bool e.lf.g, .bool e.lf.a, .bool e.lf.d, .int .i64 e.lf.rsw, .int .u64 e.lf.ppn, .int .i64 e.lf.lev, .int .u64 e.lf.pos] 152)
          have HAL := Lib.hid hal
          clear hal
          cases hlev : (e.lf.lev == (l : Int))
          · have hhit : hitB l va asid e = false := by unfold hitB; rw [hlev]; rfl
            have HHIT := Lib.hid hhit
            clear hhit
            go_wp2_with fail
            exact ⟨⟨k + 1, hkl, by go_num, HBE.out.trans (HAL.out.mono HBE.out.size), take_more HE.out HNO.out HHIT.out⟩, by simp [intOf]; omega⟩
          · go_wp2_with fail
            refine (matches_any e va asid _ hv HLV.out).mono ?_
            rintro r w ⟨rfl, hb⟩
            have hY0 : Blk (wr.alloc (.cells #[.bool e.full, .int .i64 e.asid, .int .u64 e.page, .bool e.lf.v, .bool e.lf.r, .bool e.lf.w, .bool e.lf.x, .bool e.lf.u, .bool e.lf.g, .bool e.lf.a, .bool e.lf.d, .int .i64 e.lf.rsw, .int .u64 e.lf.ppn, .int .i64 e.lf.lev, .int .u64 e.lf.pos] 152)) wr.heap.size 152 #[.bool e.full, .int .i64 e.asid, .int .u64 e.page, .bool e.lf.v, .bool e.lf.r, .bool e.lf.w, .bool e.lf.x, .bool e.lf.u, .bool e.lf.g, .bool e.lf.a, .bool e.lf.d, .int .i64 e.lf.rsw, .int .u64 e.lf.ppn, .int .i64 e.lf.lev, .int .u64 e.lf.pos] := Blkf.new_at _ _ _ _ rfl
            have hY := hY0.below hb hY0.lt
            have hbb : Below wr.heap.size wr w := HAL.out.trans (hb.mono HAL.out.size)
            have hXX := HXW.out.below hbb HXW.out.lt
            have HBB := Lib.hid hbb
            have HYY := Lib.hid hY
            have HXX := Lib.hid hXX
            clear hY0 hY hbb hXX hb c0 c1 c2 c3 c4 c5 c6 c7 c8 c9 c10 c11 c12 c13 c14
            cases hmt : matchB e va asid
            · have hhit : hitB l va asid e = false := by unfold hitB; rw [hmt, Bool.and_false]
              have HHIT := Lib.hid hhit
              clear hhit hmt
              go_wp2_with fail
              exact ⟨⟨k + 1, hkl, by go_num, HBE.out.trans (HBB.out.mono HBE.out.size), take_more HE.out HNO.out HHIT.out⟩, by simp [intOf]; omega⟩
            · have hhit : hitB l va asid e = true := by unfold hitB; rw [hmt, hlev]; rfl
              have hfnd : wayFind (T.getD q []) l va asid = some e.lf := by unfold wayFind; rw [find_step HE.out HNO.out hhit]; rfl
              have HFND := Lib.hid (find_hit hl3 HN1.out (HQ.out ▸ hfnd))
              clear hhit hmt hfnd hlev
              have y0 := HYY.out.cell 0
              have y1 := HYY.out.cell 1
              have y2 := HYY.out.cell 2
              have y3 := HYY.out.cell 3
              have y4 := HYY.out.cell 4
              have y5 := HYY.out.cell 5
              have y6 := HYY.out.cell 6
              have y7 := HYY.out.cell 7
              have y8 := HYY.out.cell 8
              have y9 := HYY.out.cell 9
              have y10 := HYY.out.cell 10
              have y11 := HYY.out.cell 11
              have y12 := HYY.out.cell 12
              have y13 := HYY.out.cell 13
              have y14 := HYY.out.cell 14
              have x0 := HXX.out.cell 0
              have x1 := HXX.out.cell 1
              have x2 := HXX.out.cell 2
              have x3 := HXX.out.cell 3
              have x4 := HXX.out.cell 4
              have x5 := HXX.out.cell 5
              have x6 := HXX.out.cell 6
              have x7 := HXX.out.cell 7
              have x8 := HXX.out.cell 8
              have x9 := HXX.out.cell 9
              have x10 := HXX.out.cell 10
              have x11 := HXX.out.cell 11
              have yl := HYY.out.lt
              have xl := HXX.out.lt
              have xf := fun i => HXX.out.frozen i
              simp at y0 y1 y2 y3 y4 y5 y6 y7 y8 y9 y10 y11 y12 y13 y14 x0 x1 x2 x3 x4 x5 x6 x7 x8 x9 x10 x11
              go_wp2
              have hZ := ((((((((((((HXX.out.set_ 0 (.bool e.lf.v)).set_ 1 (.bool e.lf.r)).set_ 2 (.bool e.lf.w)).set_ 3 (.bool e.lf.x)).set_ 4 (.bool e.lf.u)).set_ 5 (.bool e.lf.g)).set_ 6 (.bool e.lf.a)).set_ 7 (.bool e.lf.d)).set_ 8 (.int .i64 e.lf.rsw)).set_ 9 (.int .u64 e.lf.ppn)).set_ 10 (.int .i64 e.lf.lev)).set_ 11 (.int .u64 e.lf.pos))
              have hW := (((((((((((((HCW.out.trans (HBB.out.mono HCW.out.size)).setCell (p := ⟨W.heap.size, 0, none⟩) (Nat.le_refl _) (.bool e.lf.v)).setCell (p := ⟨W.heap.size, 1, none⟩) (Nat.le_refl _) (.bool e.lf.r)).setCell (p := ⟨W.heap.size, 2, none⟩) (Nat.le_refl _) (.bool e.lf.w)).setCell (p := ⟨W.heap.size, 3, none⟩) (Nat.le_refl _) (.bool e.lf.x)).setCell (p := ⟨W.heap.size, 4, none⟩) (Nat.le_refl _) (.bool e.lf.u)).setCell (p := ⟨W.heap.size, 5, none⟩) (Nat.le_refl _) (.bool e.lf.g)).setCell (p := ⟨W.heap.size, 6, none⟩) (Nat.le_refl _) (.bool e.lf.a)).setCell (p := ⟨W.heap.size, 7, none⟩) (Nat.le_refl _) (.bool e.lf.d)).setCell (p := ⟨W.heap.size, 8, none⟩) (Nat.le_refl _) (.int .i64 e.lf.rsw)).setCell (p := ⟨W.heap.size, 9, none⟩) (Nat.le_refl _) (.int .u64 e.lf.ppn)).setCell (p := ⟨W.heap.size, 10, none⟩) (Nat.le_refl _) (.int .i64 e.lf.lev)).setCell (p := ⟨W.heap.size, 11, none⟩) (Nat.le_refl _) (.int .u64 e.lf.pos))
              have q0_ := hZ.cell 0
              have q1_ := hZ.cell 1
              have q2_ := hZ.cell 2
              have q3_ := hZ.cell 3
              have q4_ := hZ.cell 4
              have q5_ := hZ.cell 5
              have q6_ := hZ.cell 6
              have q7_ := hZ.cell 7
              have q8_ := hZ.cell 8
              have q9_ := hZ.cell 9
              have q10_ := hZ.cell 10
              have q11_ := hZ.cell 11
              refine bodyPost_ret (v := .tuple #[.agg #[.bool e.lf.v, .bool e.lf.r, .bool e.lf.w, .bool e.lf.x, .bool e.lf.u, .bool e.lf.g, .bool e.lf.a, .bool e.lf.d, .int .i64 e.lf.rsw, .int .u64 e.lf.ppn, .int .i64 e.lf.lev, .int .u64 e.lf.pos], .bool true]) (by simp [results, Tryz.results77, go_sem, q0_, q1_, q2_, q3_, q4_, q5_, q6_, q7_, q8_, q9_, q10_, q11_]) rfl ?_
              unfold FindR
              rw [HFND.out]
              exact ⟨rfl, hW⟩
        · obtain rfl : m = k := by omega
          have hnn : wayFind (T.getD q []) l va asid = none := by unfold wayFind; rw [find_none (by rw [HB2.out.ways q HQL.out]; exact Nat.le_refl _) HNO.out]; rfl
          have HNN : Hid (∀ l' : Nat, l' < l + 1 → wayFind (T.getD (pgN va l' % T.length) []) l' va asid = none) := Lib.hid (fun l' hl' => by
            rcases (show l' < l ∨ l' = l by omega) with h | h
            · exact HN1.out l' h
            · rw [h, ← HQ.out]; exact hnn)
          clear hnn
          go_wp2_with fail
          exact ⟨⟨l + 1, by omega, by go_num, HBW.out, HXW.out, HCW.out, HNN.out⟩, by simp [intOf]; omega⟩
    · obtain rfl : l = 3 := by omega
      have HFND := Lib.hid (find_all HN1.out)
      have x0 := HX1.out.cell 0
      have x1 := HX1.out.cell 1
      have x2 := HX1.out.cell 2
      have x3 := HX1.out.cell 3
      have x4 := HX1.out.cell 4
      have x5 := HX1.out.cell 5
      have x6 := HX1.out.cell 6
      have x7 := HX1.out.cell 7
      have x8 := HX1.out.cell 8
      have x9 := HX1.out.cell 9
      have x10 := HX1.out.cell 10
      have x11 := HX1.out.cell 11
      have xl := HX1.out.lt
      have xf := fun i => HX1.out.frozen i
      simp at x0 x1 x2 x3 x4 x5 x6 x7 x8 x9 x10 x11
      go_wp2
      have hZ := ((((((((((((HX1.out.set_ 0 (.bool false)).set_ 1 (.bool false)).set_ 2 (.bool false)).set_ 3 (.bool false)).set_ 4 (.bool false)).set_ 5 (.bool false)).set_ 6 (.bool false)).set_ 7 (.bool false)).set_ 8 (.int .i64 0)).set_ 9 (.int .u64 0)).set_ 10 (.int .i64 0)).set_ 11 (.int .u64 0))
      have hW := ((((((((((((HC1.out.setCell (p := ⟨W.heap.size, 0, none⟩) (Nat.le_refl _) (.bool false)).setCell (p := ⟨W.heap.size, 1, none⟩) (Nat.le_refl _) (.bool false)).setCell (p := ⟨W.heap.size, 2, none⟩) (Nat.le_refl _) (.bool false)).setCell (p := ⟨W.heap.size, 3, none⟩) (Nat.le_refl _) (.bool false)).setCell (p := ⟨W.heap.size, 4, none⟩) (Nat.le_refl _) (.bool false)).setCell (p := ⟨W.heap.size, 5, none⟩) (Nat.le_refl _) (.bool false)).setCell (p := ⟨W.heap.size, 6, none⟩) (Nat.le_refl _) (.bool false)).setCell (p := ⟨W.heap.size, 7, none⟩) (Nat.le_refl _) (.bool false)).setCell (p := ⟨W.heap.size, 8, none⟩) (Nat.le_refl _) (.int .i64 0)).setCell (p := ⟨W.heap.size, 9, none⟩) (Nat.le_refl _) (.int .u64 0)).setCell (p := ⟨W.heap.size, 10, none⟩) (Nat.le_refl _) (.int .i64 0)).setCell (p := ⟨W.heap.size, 11, none⟩) (Nat.le_refl _) (.int .u64 0))
      have q0_ := hZ.cell 0
      have q1_ := hZ.cell 1
      have q2_ := hZ.cell 2
      have q3_ := hZ.cell 3
      have q4_ := hZ.cell 4
      have q5_ := hZ.cell 5
      have q6_ := hZ.cell 6
      have q7_ := hZ.cell 7
      have q8_ := hZ.cell 8
      have q9_ := hZ.cell 9
      have q10_ := hZ.cell 10
      have q11_ := hZ.cell 11
      refine bodyPost_ret (v := .tuple #[.agg #[.bool false, .bool false, .bool false, .bool false, .bool false, .bool false, .bool false, .bool false, .int .i64 0, .int .u64 0, .int .i64 0, .int .u64 0], .bool false]) (by simp [results, Tryz.results77, go_sem, q0_, q1_, q2_, q3_, q4_, q5_, q6_, q7_, q8_, q9_, q10_, q11_]) rfl ?_
      unfold FindR
      rw [HFND.out]
      exact ⟨rfl, hW⟩
end Go.Proofs.YtophcgbddccpeaaGreat

/- victim. -/
namespace Go.Proofs.YtophcgbddccpeaaGreat
open Go.RowKit

theorem way_cell {w : World} {gi k j : Nat} {l : List En} {e : En} (h : Blk w gi 152 (waysC l).toArray) (he : l[k]? = some e) (hj : j < 15) : w.cell? ⟨gi, k * 15 + j, none⟩ = e.vs[j]? := by
  rw [h.cell, List.getElem?_toArray, waysC_get _ _ _ _ he hj]
theorem i64_not (p : Int) (h : -9223372036854775808 ≤ p ∧ p < 9223372036854775808) : bits .xor .i64 (-1) p = -1 - p := by
  show IntKind.i64.wrap ((BitVec.ofInt 64 (-1) ^^^ BitVec.ofInt 64 p).toNat : Int) = -1 - p
  have e : (BitVec.ofInt 64 (-1) ^^^ BitVec.ofInt 64 p).toNat = 18446744073709551615 - (p % 18446744073709551616).toNat := by
    rw [show BitVec.ofInt 64 (-1) = BitVec.allOnes 64 from by decide, BitVec.allOnes_xor, BitVec.toNat_not, BitVec.toNat_ofInt]
    rfl
  rw [e, IntKind.wrap_i64]
  omega
def absP (p : Int) : Int := if p < 0 then -1 - p else p
theorem pick_mod (pick : Int) (m : Nat) (hm : 0 < m) : (absP pick).tmod (m : Int) = (((absP pick).toNat % m : Nat) : Int) := by
  have h0 : 0 ≤ absP pick := by unfold absP; split <;> omega
  obtain ⟨x, hx⟩ := Int.eq_ofNat_of_zero_le h0
  rw [hx, Int.tmod_eq_emod_of_nonneg (by omega)]
  simp
def sameB (n e : En) : Bool := e.full && (e.lf.lev == n.lf.lev && (e.page == n.page && e.asid == n.asid))
def freeB (e : En) : Bool := !e.full
def emp (l : List En) : Int := match l.findIdx? freeB with
  | some i => i
  | none => -1
def victimN (l : List En) (n : En) (pick : Int) : Nat := match l.findIdx? (sameB n) with
  | some i => i
  | none => match l.findIdx? freeB with
    | some i => i
    | none => (absP pick).toNat % l.length
theorem emp_nil : emp [] = -1 := rfl
theorem emp_lt (l : List En) : emp l < l.length := by
  unfold emp
  split
  · rename_i i h
    have := (List.findIdx?_eq_some_iff_getElem.1 h).1
    omega
  · omega
theorem emp_snoc (l : List En) (e : En) : emp (l ++ [e]) = if emp l < 0 ∧ e.full = false then (l.length : Int) else emp l := by
  unfold emp
  rw [List.findIdx?_append]
  cases h : l.findIdx? freeB with
  | some i =>
    simp only [Option.some_or]
    rw [if_neg (by omega)]
  | none =>
    simp only [Option.none_or]
    cases hf : e.full with
    | true =>
      simp [List.findIdx?_cons, freeB, hf]
    | false =>
      simp [List.findIdx?_cons, freeB, hf]
theorem take_snoc {l : List En} {k : Nat} {e : En} (he : l[k]? = some e) : l.take (k + 1) = l.take k ++ [e] := by
  rw [List.take_add_one, he]; rfl
theorem victim_hit {l : List En} {n e : En} {k : Nat} {pick : Int} (he : l[k]? = some e) (hno : ∀ y ∈ l.take k, sameB n y = false) (hs : sameB n e = true) : victimN l n pick = k := by
  have hk : k < l.length := by
    rcases Nat.lt_or_ge k l.length with h1 | h1
    · exact h1
    · rw [List.getElem?_eq_none h1] at he; cases he
  have : l.findIdx? (sameB n) = some k := by
    rw [List.findIdx?_eq_some_iff_getElem]
    rw [List.getElem?_eq_getElem hk] at he
    injection he with he
    refine ⟨hk, by rw [he]; exact hs, fun j hj => ?_⟩
    rw [hno _ (List.mem_take_iff_getElem.2 ⟨j, by omega, rfl⟩)]
    decide
  unfold victimN
  rw [this]
theorem victim_miss {l : List En} {n : En} {pick : Int} (hno : ∀ y ∈ l.take l.length, sameB n y = false) : l.findIdx? (sameB n) = none := by
  rw [List.take_length] at hno
  rw [List.findIdx?_eq_none_iff]
  exact fun x hx => hno x hx
theorem victim_free {l : List En} {n : En} {pick : Int} (hno : ∀ y ∈ l.take l.length, sameB n y = false) (h : 0 ≤ emp l) : ((victimN l n pick : Nat) : Int) = emp l := by
  unfold victimN
  rw [victim_miss (pick := pick) hno]
  unfold emp at h ⊢
  cases hf : l.findIdx? freeB with
  | some i => rfl
  | none => rw [hf] at h; exact absurd h (by decide)
theorem victim_pick {l : List En} {n : En} {pick : Int} (hno : ∀ y ∈ l.take l.length, sameB n y = false) (h : emp l < 0) : victimN l n pick = (absP pick).toNat % l.length := by
  unfold victimN
  rw [victim_miss (pick := pick) hno]
  unfold emp at h
  cases hf : l.findIdx? freeB with
  | some i => rw [hf] at h; exact absurd h (by simp)
  | none => rfl
def VRel (W W0 : World) (l : List En) (n : En) (k : Nat) (em : Value) (wr : World) : Prop := Below W0.heap.size W0 wr ∧ em = .int .i64 (emp (l.take k)) ∧ ∀ y ∈ l.take k, sameB n y = false
set_option maxHeartbeats 4000000 in
theorem victim_any (gi : Nat) (l : List En) (m : Nat) (n : En) (pick : Int) (W : World) (hm : 0 < m) (hm2 : m ≤ 8) (hl : l.length = m) (hp : -9223372036854775808 ≤ pick ∧ pick < 9223372036854775808) (hB : Blk W gi 152 (waysC l).toArray) :
    Calls Tryz.prog 99 #[.slice (some ⟨gi, 0, none⟩) m m, n.val, .int .i64 pick] W fun e w' => e = .returned (.int .i64 (victimN l n pick : Nat)) ∧ Below W.heap.size W w' := by
  have hc := (Below.refl W.heap.size W).alloc (Nat.le_refl _) (.cells #[.bool n.full, .int .i64 n.asid, .int .u64 n.page, .bool n.lf.v, .bool n.lf.r, .bool n.lf.w, .bool n.lf.x, .bool n.lf.u, .bool n.lf.g, .bool n.lf.a, .bool n.lf.d, .int .i64 n.lf.rsw, .int .u64 n.lf.ppn, .int .i64 n.lf.lev, .int .u64 n.lf.pos] 152)
  have hX : Blk (W.alloc (.cells #[.bool n.full, .int .i64 n.asid, .int .u64 n.page, .bool n.lf.v, .bool n.lf.r, .bool n.lf.w, .bool n.lf.x, .bool n.lf.u, .bool n.lf.g, .bool n.lf.a, .bool n.lf.d, .int .i64 n.lf.rsw, .int .u64 n.lf.ppn, .int .i64 n.lf.lev, .int .u64 n.lf.pos] 152)) W.heap.size 152 #[.bool n.full, .int .i64 n.asid, .int .u64 n.page, .bool n.lf.v, .bool n.lf.r, .bool n.lf.w, .bool n.lf.x, .bool n.lf.u, .bool n.lf.g, .bool n.lf.a, .bool n.lf.d, .int .i64 n.lf.rsw, .int .u64 n.lf.ppn, .int .i64 n.lf.lev, .int .u64 n.lf.pos] := Blkf.new_at _ _ _ _ rfl
  have HB0 := Lib.hid (hB.below hc hB.lt)
  have HC0 := Lib.hid hc
  have HX0 := Lib.hid hX
  have HP := Lib.hid hp
  have HL := Lib.hid hl
  clear hc hX hB hp hl
  unfold En.val
  go_enter Tryz.func99, Tryz.ntmps99
  go_wp2_with fail
  generalize W.alloc (.cells #[.bool n.full, .int .i64 n.asid, .int .u64 n.page, .bool n.lf.v, .bool n.lf.r, .bool n.lf.w, .bool n.lf.x, .bool n.lf.u, .bool n.lf.g, .bool n.lf.a, .bool n.lf.d, .int .i64 n.lf.rsw, .int .u64 n.lf.ppn, .int .i64 n.lf.lev, .int .u64 n.lf.pos] 152) = W0 at *
  go_loopw [7, 12] (fun em i wr => ∃ k : Nat, k ≤ m ∧ i = .int .i64 k ∧ VRel W W0 l n k em wr) (fun _ i _ => m - (intOf i).toNat)
  case atStart => exact ⟨0, by omega, rfl, Below.refl _ _, rfl, fun y hy => by simp at hy⟩
  case round =>
    obtain ⟨k, hk, rfl, hbel, rfl, hno⟩ := hrel
    have HBE := Lib.hid hbel
    have HNO := Lib.hid hno
    clear hbel hno
    have HBW := Lib.hid (HB0.out.below HBE.out HB0.out.lt)
    have HXW := Lib.hid (HX0.out.below HBE.out HX0.out.lt)
    have HCW := Lib.hid (HC0.out.trans (HBE.out.mono HC0.out.size))
    have hel := emp_lt (l.take k)
    have HEL : Hid ((l.take k).length = k) := Lib.hid (by rw [List.length_take, HL.out]; omega)
    rw [HEL.out] at hel
    by_cases hkl : k < m
    · obtain ⟨e, he⟩ : ∃ e, l[k]? = some e := ⟨_, List.getElem?_eq_getElem (by rw [HL.out]; exact hkl)⟩
      have HE := Lib.hid he
      have HSN := Lib.hid (emp_snoc (l.take k) e)
      rw [HEL.out, ← take_snoc he] at HSN
      have HTM := Lib.hid (fun h => take_more he HNO.out h)
      have hge : -1 ≤ emp (l.take k) := by unfold emp; split <;> omega
      generalize hem : emp (l.take k) = em at *
      clear he hem
      have c0 := way_cell HBW.out HE.out (j := 0) (by decide)
      have c1 := way_cell HBW.out HE.out (j := 1) (by decide)
      have c2 := way_cell HBW.out HE.out (j := 2) (by decide)
      have c3 := way_cell HBW.out HE.out (j := 3) (by decide)
      have c4 := way_cell HBW.out HE.out (j := 4) (by decide)
      have c5 := way_cell HBW.out HE.out (j := 5) (by decide)
      have c6 := way_cell HBW.out HE.out (j := 6) (by decide)
      have c7 := way_cell HBW.out HE.out (j := 7) (by decide)
      have c8 := way_cell HBW.out HE.out (j := 8) (by decide)
      have c9 := way_cell HBW.out HE.out (j := 9) (by decide)
      have c10 := way_cell HBW.out HE.out (j := 10) (by decide)
      have c11 := way_cell HBW.out HE.out (j := 11) (by decide)
      have c12 := way_cell HBW.out HE.out (j := 12) (by decide)
      have c13 := way_cell HBW.out HE.out (j := 13) (by decide)
      have c14 := way_cell HBW.out HE.out (j := 14) (by decide)
      simp [En.vs] at c0 c1 c2 c3 c4 c5 c6 c7 c8 c9 c10 c11 c12 c13 c14
      have n1 := HXW.out.cell 1
      have n2 := HXW.out.cell 2
      have n13 := HXW.out.cell 13
      have nl := HXW.out.lt
      simp at n1 n2 n13
      have hal := (Below.refl wr.heap.size wr).alloc (Nat.le_refl _) (.cells #[.bool e.full, .int .i64 e.asid, .int .u64 e.page, .bool e.lf.v, .bool e.lf.r, .bool e.lf.w, .bool e.lf.x, .bool e.lf.u, .bool e.lf.g, .bool e.lf.a, .bool e.lf.d, .int .i64 e.lf.rsw, .int .u64 e.lf.ppn, .int .i64 e.lf.lev, .int .u64 e.lf.pos] 152)
      have HAL := Lib.hid (HBE.out.trans (hal.mono HBE.out.size))
      clear hal
      cases hf : e.full
      · have hs : sameB n e = false := by unfold sameB; rw [hf]; rfl
        have HS := Lib.hid (HTM.out hs)
        rw [hf] at HAL HSN
        by_cases h0 : em < 0
        · rw [if_pos ⟨h0, rfl⟩] at HSN
          clear hs
          go_wp2_with fail
          exact ⟨⟨k + 1, hkl, by go_num, HAL.out, by rw [HSN.out], HS.out⟩, by simp [intOf]; omega⟩
        · rw [if_neg (fun h => h0 h.1)] at HSN
          clear hs
          go_wp2_with fail
          exact ⟨⟨k + 1, hkl, by go_num, HAL.out, by rw [HSN.out], HS.out⟩, by simp [intOf]; omega⟩
      · rw [if_neg (by rw [hf]; simp)] at HSN
        rw [hf] at HAL
        cases hv1 : (e.lf.lev == n.lf.lev)
        · have hs : sameB n e = false := by unfold sameB; rw [hf, hv1]; simp
          have HS := Lib.hid (HTM.out hs)
          clear hs
          go_wp2_with fail
          exact ⟨⟨k + 1, hkl, by go_num, HAL.out, by rw [HSN.out], HS.out⟩, by simp [intOf]; omega⟩
        · skip
          cases hv2 : (e.page == n.page)
          · have hs : sameB n e = false := by unfold sameB; rw [hf, hv1, hv2]; simp
            have HS := Lib.hid (HTM.out hs)
            clear hs
            rw [← nat_beq] at hv2
            go_wp2_with fail
            exact ⟨⟨k + 1, hkl, by go_num, HAL.out, by rw [HSN.out], HS.out⟩, by simp [intOf]; omega⟩
          · skip
            cases hv3 : (e.asid == n.asid)
            · have hs : sameB n e = false := by unfold sameB; rw [hf, hv1, hv2, hv3]; simp
              have HS := Lib.hid (HTM.out hs)
              clear hs
              rw [← nat_beq] at hv2
              go_wp2_with fail
              exact ⟨⟨k + 1, hkl, by go_num, HAL.out, by rw [HSN.out], HS.out⟩, by simp [intOf]; omega⟩
            · skip
              have hs : sameB n e = true := by unfold sameB; rw [hf, hv1, hv2, hv3]; rfl
              have HV := Lib.hid (victim_hit (pick := pick) HE.out HNO.out hs)
              clear hs
              rw [← nat_beq] at hv2
              go_wp2_with fail
              go_ret
              exact ⟨by rw [HV.out]; rfl, HC0.out.trans (HAL.out.mono HC0.out.size)⟩
    · obtain rfl : m = k := by omega
      have hno : ∀ y ∈ l.take l.length, sameB n y = false := by rw [HL.out]; exact HNO.out
      have htl : l.take m = l := List.take_of_length_le (by rw [HL.out]; exact Nat.le_refl _)
      rw [htl] at hel ⊢
      have HVF := Lib.hid (fun h => victim_free (pick := pick) hno h)
      have HVP := Lib.hid (fun h => victim_pick (pick := pick) hno h)
      clear hno htl
      generalize hem : emp l = em at *
      clear hem
      by_cases h0 : 0 ≤ em
      · have HV := Lib.hid (HVF.out h0)
        go_wp2_with fail
        go_ret
        exact ⟨by rw [HV.out]; rfl, HCW.out⟩
      · have HV := Lib.hid (HVP.out (by omega))
        have hmz : ¬ (m : Int) = 0 := by omega
        have HPM := Lib.hid (pick_mod pick m hm)
        have HMM := Lib.hid HL.out
        by_cases hpn : pick < 0
        · have HAP : Hid (bits .xor .i64 (-1) pick = absP pick) := Lib.hid (by rw [i64_not pick HP.out]; unfold absP; rw [if_pos hpn])
          go_wp2_with fail
          go_ret
          refine ⟨?_, HCW.out⟩
          show Ending.returned (Value.int IntKind.i64 ((bits BinOp.xor IntKind.i64 (-1) pick).tmod (m : Int))) = _
          rw [HAP.out, HPM.out, HV.out, HMM.out]
        · have HAP : Hid (absP pick = pick) := Lib.hid (by unfold absP; rw [if_neg hpn])
          go_wp2_with fail
          go_ret
          refine ⟨?_, HCW.out⟩
          show Ending.returned (Value.int IntKind.i64 (pick % (m : Int))) = _
          rw [HV.out, HMM.out, ← HPM.out, HAP.out, Int.tmod_eq_emod_of_nonneg (by omega)]
end Go.Proofs.YtophcgbddccpeaaGreat

/- Fill. -/
namespace Go.Proofs.YtophcgbddccpeaaGreat
open Go.RowKit

theorem ways_set : ∀ (l : List En) (k : Nat) (n : En), k < l.length → ((((((((((((((((waysC l).set (k * 15 + 0) (.bool n.full)).set (k * 15 + 1) (.int .i64 n.asid)).set (k * 15 + 2) (.int .u64 n.page)).set (k * 15 + 3) (.bool n.lf.v)).set (k * 15 + 4) (.bool n.lf.r)).set (k * 15 + 5) (.bool n.lf.w)).set (k * 15 + 6) (.bool n.lf.x)).set (k * 15 + 7) (.bool n.lf.u)).set (k * 15 + 8) (.bool n.lf.g)).set (k * 15 + 9) (.bool n.lf.a)).set (k * 15 + 10) (.bool n.lf.d)).set (k * 15 + 11) (.int .i64 n.lf.rsw)).set (k * 15 + 12) (.int .u64 n.lf.ppn)).set (k * 15 + 13) (.int .i64 n.lf.lev)).set (k * 15 + 14) (.int .u64 n.lf.pos)) = waysC (l.set k n)
  | [], k, n, h => by simp at h
  | e :: r, 0, n, _ => rfl
  | e :: r, k + 1, n, h => by
    have ih := ways_set r k n (by simpa using h)
    show _ = e.vs ++ waysC (r.set k n)
    rw [← ih]
    have hs : ∀ (xs : List Value) (j : Nat) (v : Value), (e.vs ++ xs).set ((k + 1) * 15 + j) v = e.vs ++ xs.set (k * 15 + j) v := fun xs j v => by
      rw [List.set_append_right _ _ (by rw [vs_length]; omega), vs_length, show (k + 1) * 15 + j - 15 = k * 15 + j by omega]
    show ((((((((((((((((e.vs ++ waysC r).set ((k + 1) * 15 + 0) (.bool n.full)).set ((k + 1) * 15 + 1) (.int .i64 n.asid)).set ((k + 1) * 15 + 2) (.int .u64 n.page)).set ((k + 1) * 15 + 3) (.bool n.lf.v)).set ((k + 1) * 15 + 4) (.bool n.lf.r)).set ((k + 1) * 15 + 5) (.bool n.lf.w)).set ((k + 1) * 15 + 6) (.bool n.lf.x)).set ((k + 1) * 15 + 7) (.bool n.lf.u)).set ((k + 1) * 15 + 8) (.bool n.lf.g)).set ((k + 1) * 15 + 9) (.bool n.lf.a)).set ((k + 1) * 15 + 10) (.bool n.lf.d)).set ((k + 1) * 15 + 11) (.int .i64 n.lf.rsw)).set ((k + 1) * 15 + 12) (.int .u64 n.lf.ppn)).set ((k + 1) * 15 + 13) (.int .i64 n.lf.lev)).set ((k + 1) * 15 + 14) (.int .u64 n.lf.pos)) = _
    simp only [hs]
def fillE (va : Nat) (asid : Int) (lf : Tf) : En := ⟨true, asid, pgN va lf.lev, lf⟩
def fillQ (T : List (List En)) (va : Nat) (lf : Tf) : Nat := pgN va lf.lev % T.length
def fillS (T : List (List En)) (va : Nat) (asid : Int) (lf : Tf) (pick : Int) : List (List En) :=
  T.set (fillQ T va lf) ((T.getD (fillQ T va lf) []).set (victimN (T.getD (fillQ T va lf) []) (fillE va asid lf) pick) (fillE va asid lf))
/-- One set's ways are others: the buffer is. -/
theorem BufAt.turn {w w' : World} {g gs : Nat} {G : Nat → Nat} {T : List (List En)} {m q : Nat} {l : List En} (h : BufAt w g gs G T m) (hq : q < T.length) (hl : l.length = m) (hk : Keeps (fun x => x = G q) w w') (hg : Blk w' (G q) 152 (waysC l).toArray) : BufAt w' g gs G (T.set q l) m := by
  obtain ⟨c, hc⟩ := h.head
  obtain ⟨cur, ho, hcur⟩ := h.outer
  have hi := h.inner q hq
  have n1 : g ≠ G q := fun e => blk_ne_blk hc hi (by decide) e
  have n2 : gs ≠ G q := fun e => blk_ne_blk ho hi (by decide) e
  refine ⟨⟨c, ?_⟩, ⟨cur, hk.blk ho n2, ?_⟩, ?_, ?_, ?_⟩
  · rw [List.length_set]; exact hk.blk hc n1
  · rw [List.length_set]; exact hcur
  · intro i hi'
    rw [List.length_set] at hi'
    by_cases hiq : i = q
    · subst hiq
      rw [List.getD_eq_getElem?_getD, List.getElem?_set_self hi']
      exact hl
    · rw [List.getD_eq_getElem?_getD, List.getElem?_set_ne (Ne.symm hiq), ← List.getD_eq_getElem?_getD]
      exact h.ways i hi'
  · intro i hi'
    rw [List.length_set] at hi'
    by_cases hiq : i = q
    · subst hiq
      rw [List.getD_eq_getElem?_getD, List.getElem?_set_self hi']
      exact hg
    · rw [List.getD_eq_getElem?_getD, List.getElem?_set_ne (Ne.symm hiq), ← List.getD_eq_getElem?_getD]
      exact hk.blk (h.inner i hi') (fun e => hiq (h.inj i q hi' hq e))
  · intro i j hi' hj'
    rw [List.length_set] at hi' hj'
    exact h.inj i j hi' hj'
theorem victim_lt (l : List En) (n : En) (pick : Int) (h : 0 < l.length) : victimN l n pick < l.length := by
  unfold victimN
  split
  · rename_i i hi
    exact (List.findIdx?_eq_some_iff_getElem.1 hi).1
  · split
    · rename_i i hi
      exact (List.findIdx?_eq_some_iff_getElem.1 hi).1
    · exact Nat.mod_lt _ h
theorem way_some {w : World} {gi k j : Nat} {l : List En} (h : Blk w gi 152 (waysC l).toArray) (hk : k < l.length) (hj : j < 15) : ∃ v, w.cell? ⟨gi, k * 15 + j, none⟩ = some v := by
  rw [way_cell h (List.getElem?_eq_getElem hk) hj]
  exact ⟨_, List.getElem?_eq_getElem (by rw [vs_length]; exact hj)⟩
def FillR (g gs : Nat) (G : Nat → Nat) (T' : List (List En)) (n m : Nat) (b : Bool) (W : World) (e : Ending) (w' : World) : Prop :=
  e = .returned (.bool b) ∧ BufAt w' g gs G T' m ∧ Keeps (bufF g gs G n) W w'
set_option maxHeartbeats 4000000 in
theorem fill_no (g gs : Nat) (G : Nat → Nat) (T : List (List En)) (m : Nat) (va : Nat) (asid : Int) (lf : Tf) (pick : Int) (W : World) (hB : BufAt W g gs G T m) (hl : levOK lf.lev = false) :
    Calls Tryz.prog 79 #[.pointer (some ⟨g, 0, none⟩), .int .u64 va, .int .i64 asid, lf.val, .int .i64 pick] W (FillR g gs G T T.length m false W) := by
  have hc := (Below.refl W.heap.size W).alloc (Nat.le_refl _) (.cells #[.bool lf.v, .bool lf.r, .bool lf.w, .bool lf.x, .bool lf.u, .bool lf.g, .bool lf.a, .bool lf.d, .int .i64 lf.rsw, .int .u64 lf.ppn, .int .i64 lf.lev, .int .u64 lf.pos] 98)
  have hX : Blk (W.alloc (.cells #[.bool lf.v, .bool lf.r, .bool lf.w, .bool lf.x, .bool lf.u, .bool lf.g, .bool lf.a, .bool lf.d, .int .i64 lf.rsw, .int .u64 lf.ppn, .int .i64 lf.lev, .int .u64 lf.pos] 98)) W.heap.size 98 #[.bool lf.v, .bool lf.r, .bool lf.w, .bool lf.x, .bool lf.u, .bool lf.g, .bool lf.a, .bool lf.d, .int .i64 lf.rsw, .int .u64 lf.ppn, .int .i64 lf.lev, .int .u64 lf.pos] := Blkf.new_at _ _ _ _ rfl
  have HB0 := Lib.hid (hB.below hc)
  have HC0 := Lib.hid hc
  have x10 := hX.cell 10
  have xl := hX.lt
  simp at x10
  clear hc hX hB
  unfold Tf.val FillR
  rcases (show lf.lev < 0 ∨ (0 ≤ lf.lev ∧ 2 < lf.lev) by simp [levOK] at hl; omega) with h | ⟨h, h'⟩
  · go_enter Tryz.func79, Tryz.ntmps79
    go_wp2
    go_ret
    exact ⟨rfl, HB0.out, Keeps.of_below HC0.out⟩
  · go_enter Tryz.func79, Tryz.ntmps79
    go_wp2
    go_ret
    exact ⟨rfl, HB0.out, Keeps.of_below HC0.out⟩
set_option maxHeartbeats 4000000 in
theorem fill_yes (g gs : Nat) (G : Nat → Nat) (T : List (List En)) (m : Nat) (va : Nat) (asid : Int) (lf : Tf) (pick : Int) (W : World) (hv : va < 18446744073709551616) (hp : -9223372036854775808 ≤ pick ∧ pick < 9223372036854775808) (hn : 0 < T.length) (hn2 : T.length ≤ 64) (hm0 : 0 < m) (hm : m ≤ 8) (hB : BufAt W g gs G T m) (hl : levOK lf.lev = true) :
    Calls Tryz.prog 79 #[.pointer (some ⟨g, 0, none⟩), .int .u64 va, .int .i64 asid, lf.val, .int .i64 pick] W (FillR g gs G (fillS T va asid lf pick) T.length m true W) := by
  have hc := (Below.refl W.heap.size W).alloc (Nat.le_refl _) (.cells #[.bool lf.v, .bool lf.r, .bool lf.w, .bool lf.x, .bool lf.u, .bool lf.g, .bool lf.a, .bool lf.d, .int .i64 lf.rsw, .int .u64 lf.ppn, .int .i64 lf.lev, .int .u64 lf.pos] 98)
  have hX : Blk (W.alloc (.cells #[.bool lf.v, .bool lf.r, .bool lf.w, .bool lf.x, .bool lf.u, .bool lf.g, .bool lf.a, .bool lf.d, .int .i64 lf.rsw, .int .u64 lf.ppn, .int .i64 lf.lev, .int .u64 lf.pos] 98)) W.heap.size 98 #[.bool lf.v, .bool lf.r, .bool lf.w, .bool lf.x, .bool lf.u, .bool lf.g, .bool lf.a, .bool lf.d, .int .i64 lf.rsw, .int .u64 lf.ppn, .int .i64 lf.lev, .int .u64 lf.pos] := Blkf.new_at _ _ _ _ rfl
  have HB0 := Lib.hid (hB.below hc)
  have HC0 := Lib.hid hc
  have HX0 := Lib.hid hX
  have HP := Lib.hid hp
  have x10 := hX.cell 10
  have xl := hX.lt
  simp at x10
  clear hc hX hB hp
  unfold Tf.val FillR
  have h0 : ¬ lf.lev < 0 := by simp [levOK] at hl; omega
  have h2 : ¬ 2 < lf.lev := by simp [levOK] at hl; omega
  go_enter Tryz.func79, Tryz.ntmps79
  go_wp2_with fail
  generalize W.alloc (.cells #[.bool lf.v, .bool lf.r, .bool lf.w, .bool lf.x, .bool lf.u, .bool lf.g, .bool lf.a, .bool lf.d, .int .i64 lf.rsw, .int .u64 lf.ppn, .int .i64 lf.lev, .int .u64 lf.pos] 98) = w0 at *
  clear x10 xl
  have t0 := fun W' (h : Ext w0.drew W') => (h.cell (p := ⟨W.heap.size, 0, none⟩) HX0.out.lt).trans (HX0.out.cell 0)
  have t1 := fun W' (h : Ext w0.drew W') => (h.cell (p := ⟨W.heap.size, 1, none⟩) HX0.out.lt).trans (HX0.out.cell 1)
  have t2 := fun W' (h : Ext w0.drew W') => (h.cell (p := ⟨W.heap.size, 2, none⟩) HX0.out.lt).trans (HX0.out.cell 2)
  have t3 := fun W' (h : Ext w0.drew W') => (h.cell (p := ⟨W.heap.size, 3, none⟩) HX0.out.lt).trans (HX0.out.cell 3)
  have t4 := fun W' (h : Ext w0.drew W') => (h.cell (p := ⟨W.heap.size, 4, none⟩) HX0.out.lt).trans (HX0.out.cell 4)
  have t5 := fun W' (h : Ext w0.drew W') => (h.cell (p := ⟨W.heap.size, 5, none⟩) HX0.out.lt).trans (HX0.out.cell 5)
  have t6 := fun W' (h : Ext w0.drew W') => (h.cell (p := ⟨W.heap.size, 6, none⟩) HX0.out.lt).trans (HX0.out.cell 6)
  have t7 := fun W' (h : Ext w0.drew W') => (h.cell (p := ⟨W.heap.size, 7, none⟩) HX0.out.lt).trans (HX0.out.cell 7)
  have t8 := fun W' (h : Ext w0.drew W') => (h.cell (p := ⟨W.heap.size, 8, none⟩) HX0.out.lt).trans (HX0.out.cell 8)
  have t9 := fun W' (h : Ext w0.drew W') => (h.cell (p := ⟨W.heap.size, 9, none⟩) HX0.out.lt).trans (HX0.out.cell 9)
  have t10 := fun W' (h : Ext w0.drew W') => (h.cell (p := ⟨W.heap.size, 10, none⟩) HX0.out.lt).trans (HX0.out.cell 10)
  have t11 := fun W' (h : Ext w0.drew W') => (h.cell (p := ⟨W.heap.size, 11, none⟩) HX0.out.lt).trans (HX0.out.cell 11)
  simp at t0 t1 t2 t3 t4 t5 t6 t7 t8 t9 t10 t11
  refine wp_region_plan [(0, false), (1, false), (2, false), (3, false), (4, false), (5, false), (6, false), (7, true), (8, true)] (by kernel_rfl) (by kernel_rfl) (fun _ d _ _ _ h => by cases d <;> exact h) ?_
  iterate 4 (refine plan_take (v := ?_) rfl (by kernel_rfl) ?_ ?_; rotate_left; (focus (intro w' hw'; try go_simp; try with_reducible rfl)); simp only [Act.put, List.setIfInBounds_toArray, List.set_cons_zero, List.set_cons_succ])
  refine plan_quiet rfl (by kernel_rfl) (fun w' => by go_simp; all_goals (first | exact ⟨rfl, rfl⟩ | rfl)) (fun w' hw' => tlb_page_any va lf.lev w' hv hl) ?_
  simp only [Act.put, List.setIfInBounds_toArray, List.set_cons_zero, List.set_cons_succ]
  iterate 2 (refine plan_take (v := ?_) rfl (by kernel_rfl) ?_ ?_; rotate_left; (focus (intro w' hw'; try go_simp; try with_reducible rfl)); simp only [Act.put, List.setIfInBounds_toArray, List.set_cons_zero, List.set_cons_succ])
  clear t0 t1 t2 t3 t4 t5 t6 t7 t8 t9 t10 t11
  refine plan_turn rfl (by kernel_rfl) (fun K hK => ?_)
  go_simp
  refine hK _ _ ⟨(Ext.refl _).alloc (Nat.le_refl _) _, ?_⟩
  clear hK K
  refine plan_last rfl (by kernel_rfl) (by kernel_rfl) (fun K hK => ?_)
  go_simp
  refine hK _ _ ?_
  clear hK K
  refine plan_end ?_
  have hE := ((Below.refl w0.heap.size w0).alloc (Nat.le_refl _) (.cells #[.bool true, .int .i64 asid, .int .u64 (pgN va lf.lev : Nat), .bool lf.v, .bool lf.r, .bool lf.w, .bool lf.x, .bool lf.u, .bool lf.g, .bool lf.a, .bool lf.d, .int .i64 lf.rsw, .int .u64 lf.ppn, .int .i64 lf.lev, .int .u64 lf.pos] 152)).drew
  have hY : Blk (w0.alloc (.cells #[.bool true, .int .i64 asid, .int .u64 (pgN va lf.lev : Nat), .bool lf.v, .bool lf.r, .bool lf.w, .bool lf.x, .bool lf.u, .bool lf.g, .bool lf.a, .bool lf.d, .int .i64 lf.rsw, .int .u64 lf.ppn, .int .i64 lf.lev, .int .u64 lf.pos] 152)).drew w0.heap.size 152 #[.bool true, .int .i64 asid, .int .u64 (pgN va lf.lev : Nat), .bool lf.v, .bool lf.r, .bool lf.w, .bool lf.x, .bool lf.u, .bool lf.g, .bool lf.a, .bool lf.d, .int .i64 lf.rsw, .int .u64 lf.ppn, .int .i64 lf.lev, .int .u64 lf.pos] := Blkf.new_at w0 _ _ _ rfl
  obtain ⟨b2, hb2⟩ : ∃ b, b = w0.heap.size := ⟨_, rfl⟩
  have HB1 := Lib.hid (HB0.out.below hE)
  have HC1 := Lib.hid (HC0.out.trans (hE.mono HC0.out.size))
  rw [← hb2] at hY ⊢
  have HB2 : Hid (W.heap.size ≤ b2) := Lib.hid (by rw [hb2]; exact HC0.out.size)
  have HOLD : Hid (∀ i, i < T.length → G i < b2) := Lib.hid (fun i hi => by rw [hb2]; exact (HB0.out.inner i hi).lt)
  generalize (w0.alloc (.cells #[.bool true, .int .i64 asid, .int .u64 (pgN va lf.lev : Nat), .bool lf.v, .bool lf.r, .bool lf.w, .bool lf.x, .bool lf.u, .bool lf.g, .bool lf.a, .bool lf.d, .int .i64 lf.rsw, .int .u64 lf.ppn, .int .i64 lf.lev, .int .u64 lf.pos] 152)).drew = w1 at *
  have HY1 := Lib.hid hY
  clear hE hY hb2
  have y2 := HY1.out.cell 2
  have yl := HY1.out.lt
  simp at y2
  go_wp2_with fail
  clear y2 yl
  refine (set_any g gs G T m (pgN va lf.lev) _ (Nat.lt_trans (pgN_lt va lf.lev) (by decide)) hn hn2 HB1.out).mono ?_
  rintro e w ⟨rfl, rfl⟩
  obtain ⟨q, hq⟩ : ∃ q, q = pgN va lf.lev % T.length := ⟨_, rfl⟩
  have hql : q < T.length := by rw [hq]; exact Nat.mod_lt _ hn
  rw [← hq]
  have HQ := Lib.hid hq
  have HQL := Lib.hid hql
  clear hq hql
  have HB2' := Lib.hid HB1.out.drew
  have HC2 := Lib.hid HC1.out.drew
  have HY2 := Lib.hid HY1.out.drew
  generalize w1.drew = w2 at *
  go_wp2_with fail
  have u0 := fun W' (h : Ext w2.drew W') => (h.cell (p := ⟨b2, 0, none⟩) HY2.out.lt).trans (HY2.out.cell 0)
  have u1 := fun W' (h : Ext w2.drew W') => (h.cell (p := ⟨b2, 1, none⟩) HY2.out.lt).trans (HY2.out.cell 1)
  have u2 := fun W' (h : Ext w2.drew W') => (h.cell (p := ⟨b2, 2, none⟩) HY2.out.lt).trans (HY2.out.cell 2)
  have u3 := fun W' (h : Ext w2.drew W') => (h.cell (p := ⟨b2, 3, none⟩) HY2.out.lt).trans (HY2.out.cell 3)
  have u4 := fun W' (h : Ext w2.drew W') => (h.cell (p := ⟨b2, 4, none⟩) HY2.out.lt).trans (HY2.out.cell 4)
  have u5 := fun W' (h : Ext w2.drew W') => (h.cell (p := ⟨b2, 5, none⟩) HY2.out.lt).trans (HY2.out.cell 5)
  have u6 := fun W' (h : Ext w2.drew W') => (h.cell (p := ⟨b2, 6, none⟩) HY2.out.lt).trans (HY2.out.cell 6)
  have u7 := fun W' (h : Ext w2.drew W') => (h.cell (p := ⟨b2, 7, none⟩) HY2.out.lt).trans (HY2.out.cell 7)
  have u8 := fun W' (h : Ext w2.drew W') => (h.cell (p := ⟨b2, 8, none⟩) HY2.out.lt).trans (HY2.out.cell 8)
  have u9 := fun W' (h : Ext w2.drew W') => (h.cell (p := ⟨b2, 9, none⟩) HY2.out.lt).trans (HY2.out.cell 9)
  have u10 := fun W' (h : Ext w2.drew W') => (h.cell (p := ⟨b2, 10, none⟩) HY2.out.lt).trans (HY2.out.cell 10)
  have u11 := fun W' (h : Ext w2.drew W') => (h.cell (p := ⟨b2, 11, none⟩) HY2.out.lt).trans (HY2.out.cell 11)
  have u12 := fun W' (h : Ext w2.drew W') => (h.cell (p := ⟨b2, 12, none⟩) HY2.out.lt).trans (HY2.out.cell 12)
  have u13 := fun W' (h : Ext w2.drew W') => (h.cell (p := ⟨b2, 13, none⟩) HY2.out.lt).trans (HY2.out.cell 13)
  have u14 := fun W' (h : Ext w2.drew W') => (h.cell (p := ⟨b2, 14, none⟩) HY2.out.lt).trans (HY2.out.cell 14)
  simp at u0 u1 u2 u3 u4 u5 u6 u7 u8 u9 u10 u11 u12 u13 u14
  refine wp_region_plan [(0, false), (1, false), (2, false), (3, false), (5, false), (4, true), (6, false), (7, true)] (by kernel_rfl) (by kernel_rfl) (fun _ d _ _ _ h => by cases d <;> exact h) ?_
  iterate 5 (refine plan_take (v := ?_) rfl (by kernel_rfl) ?_ ?_; rotate_left; (focus (intro w' hw'; try go_simp; try with_reducible rfl)); simp only [Act.put, List.setIfInBounds_toArray, List.set_cons_zero, List.set_cons_succ])
  clear u0 u1 u2 u3 u4 u5 u6 u7 u8 u9 u10 u11 u12 u13 u14
  obtain ⟨l, hl'⟩ : ∃ l, l = T.getD q [] := ⟨_, rfl⟩
  have HLL : Hid (l.length = m) := Lib.hid (by rw [hl']; exact HB2'.out.ways q HQL.out)
  have HG2 : Hid (Blk w2.drew (G q) 152 (waysC l).toArray) := Lib.hid (by rw [hl']; exact (HB2'.out.inner q HQL.out).drew)
  have HLE := Lib.hid hl'
  clear hl'
  refine plan_call rfl (by kernel_rfl) (by go_simp; exact ⟨rfl, rfl⟩) ?_
  refine (victim_any (G q) l m (fillE va asid lf) pick _ hm0 hm HLL.out HP.out HG2.out).mono ?_
  rintro e w3 ⟨rfl, hb⟩
  obtain ⟨vn, hvn⟩ : ∃ v, v = victimN l (fillE va asid lf) pick := ⟨_, rfl⟩
  have hvl : vn < m := by
    have := victim_lt l (fillE va asid lf) pick (by rw [HLL.out]; exact hm0)
    rw [hvn]
    rw [HLL.out] at this
    exact this
  rw [← hvn]
  have HVN := Lib.hid hvn
  have HG3 := Lib.hid (HG2.out.below hb HG2.out.lt)
  have HB3 := Lib.hid (HB2'.out.drew.below hb)
  have HC3 := Lib.hid (HC2.out.drew.trans (hb.mono HC2.out.size))
  refine ⟨_, rfl, hb, ?_⟩
  simp only [Act.put, List.setIfInBounds_toArray, List.set_cons_zero, List.set_cons_succ]
  clear hb hvn
  have hvi : (vn : Int) < (m : Int) := by omega
  iterate 1 (refine plan_take (v := ?_) rfl (by kernel_rfl) ?_ ?_; rotate_left; (focus (intro w' hw'; try go_simp; try with_reducible rfl)); simp only [Act.put, List.setIfInBounds_toArray, List.set_cons_zero, List.set_cons_succ])
  obtain ⟨eo, heo⟩ : ∃ eo, l[vn]? = some eo := ⟨_, List.getElem?_eq_getElem (by rw [HLL.out]; exact hvl)⟩
  have zl := HG3.out.lt
  have zf := fun i => HG3.out.frozen i
  have z0 := way_cell HG3.out heo (j := 0) (by decide)
  have z1 := way_cell HG3.out heo (j := 1) (by decide)
  have z2 := way_cell HG3.out heo (j := 2) (by decide)
  have z3 := way_cell HG3.out heo (j := 3) (by decide)
  have z4 := way_cell HG3.out heo (j := 4) (by decide)
  have z5 := way_cell HG3.out heo (j := 5) (by decide)
  have z6 := way_cell HG3.out heo (j := 6) (by decide)
  have z7 := way_cell HG3.out heo (j := 7) (by decide)
  have z8 := way_cell HG3.out heo (j := 8) (by decide)
  have z9 := way_cell HG3.out heo (j := 9) (by decide)
  have z10 := way_cell HG3.out heo (j := 10) (by decide)
  have z11 := way_cell HG3.out heo (j := 11) (by decide)
  have z12 := way_cell HG3.out heo (j := 12) (by decide)
  have z13 := way_cell HG3.out heo (j := 13) (by decide)
  have z14 := way_cell HG3.out heo (j := 14) (by decide)
  simp [En.vs] at z0 z1 z2 z3 z4 z5 z6 z7 z8 z9 z10 z11 z12 z13 z14
  clear heo
  refine plan_last rfl (by kernel_rfl) (by kernel_rfl) (fun K hK => ?_)
  go_simp
  refine hK _ _ ?_
  clear hK K z0 z1 z2 z3 z4 z5 z6 z7 z8 z9 z10 z11 z12 z13 z14 zl zf
  refine plan_end ?_
  have hZ := (((((((((((((((HG3.out.set_ (vn * 15) (.bool true)).set_ (vn * 15 + 1) (.int .i64 asid)).set_ (vn * 15 + 2) (.int .u64 (pgN va lf.lev : Nat))).set_ (vn * 15 + 3) (.bool lf.v)).set_ (vn * 15 + 4) (.bool lf.r)).set_ (vn * 15 + 5) (.bool lf.w)).set_ (vn * 15 + 6) (.bool lf.x)).set_ (vn * 15 + 7) (.bool lf.u)).set_ (vn * 15 + 8) (.bool lf.g)).set_ (vn * 15 + 9) (.bool lf.a)).set_ (vn * 15 + 10) (.bool lf.d)).set_ (vn * 15 + 11) (.int .i64 lf.rsw)).set_ (vn * 15 + 12) (.int .u64 lf.ppn)).set_ (vn * 15 + 13) (.int .i64 lf.lev)).set_ (vn * 15 + 14) (.int .u64 lf.pos))
  have hKK := ((((((((((((((((Keeps.refl (fun x => x = G q) w3).setCell (p := ⟨G q, vn * 15, none⟩) (.inl rfl) (.bool true)).setCell (p := ⟨G q, vn * 15 + 1, none⟩) (.inl rfl) (.int .i64 asid)).setCell (p := ⟨G q, vn * 15 + 2, none⟩) (.inl rfl) (.int .u64 (pgN va lf.lev : Nat))).setCell (p := ⟨G q, vn * 15 + 3, none⟩) (.inl rfl) (.bool lf.v)).setCell (p := ⟨G q, vn * 15 + 4, none⟩) (.inl rfl) (.bool lf.r)).setCell (p := ⟨G q, vn * 15 + 5, none⟩) (.inl rfl) (.bool lf.w)).setCell (p := ⟨G q, vn * 15 + 6, none⟩) (.inl rfl) (.bool lf.x)).setCell (p := ⟨G q, vn * 15 + 7, none⟩) (.inl rfl) (.bool lf.u)).setCell (p := ⟨G q, vn * 15 + 8, none⟩) (.inl rfl) (.bool lf.g)).setCell (p := ⟨G q, vn * 15 + 9, none⟩) (.inl rfl) (.bool lf.a)).setCell (p := ⟨G q, vn * 15 + 10, none⟩) (.inl rfl) (.bool lf.d)).setCell (p := ⟨G q, vn * 15 + 11, none⟩) (.inl rfl) (.int .i64 lf.rsw)).setCell (p := ⟨G q, vn * 15 + 12, none⟩) (.inl rfl) (.int .u64 lf.ppn)).setCell (p := ⟨G q, vn * 15 + 13, none⟩) (.inl rfl) (.int .i64 lf.lev)).setCell (p := ⟨G q, vn * 15 + 14, none⟩) (.inl rfl) (.int .u64 lf.pos))
  simp only [List.setIfInBounds_toArray] at hZ
  have hZ2 : Blk (((((((((((((((w3.setCell ⟨G q, vn * 15, none⟩ (.bool true)).setCell ⟨G q, vn * 15 + 1, none⟩ (.int .i64 asid)).setCell ⟨G q, vn * 15 + 2, none⟩ (.int .u64 (pgN va lf.lev : Nat))).setCell ⟨G q, vn * 15 + 3, none⟩ (.bool lf.v)).setCell ⟨G q, vn * 15 + 4, none⟩ (.bool lf.r)).setCell ⟨G q, vn * 15 + 5, none⟩ (.bool lf.w)).setCell ⟨G q, vn * 15 + 6, none⟩ (.bool lf.x)).setCell ⟨G q, vn * 15 + 7, none⟩ (.bool lf.u)).setCell ⟨G q, vn * 15 + 8, none⟩ (.bool lf.g)).setCell ⟨G q, vn * 15 + 9, none⟩ (.bool lf.a)).setCell ⟨G q, vn * 15 + 10, none⟩ (.bool lf.d)).setCell ⟨G q, vn * 15 + 11, none⟩ (.int .i64 lf.rsw)).setCell ⟨G q, vn * 15 + 12, none⟩ (.int .u64 lf.ppn)).setCell ⟨G q, vn * 15 + 13, none⟩ (.int .i64 lf.lev)).setCell ⟨G q, vn * 15 + 14, none⟩ (.int .u64 lf.pos)) (G q) 152 (waysC (l.set vn (fillE va asid lf))).toArray := by
    rw [← ways_set l vn (fillE va asid lf) (by rw [HLL.out]; exact hvl)]
    exact hZ
  generalize (((((((((((((((w3.setCell ⟨G q, vn * 15, none⟩ (.bool true)).setCell ⟨G q, vn * 15 + 1, none⟩ (.int .i64 asid)).setCell ⟨G q, vn * 15 + 2, none⟩ (.int .u64 (pgN va lf.lev : Nat))).setCell ⟨G q, vn * 15 + 3, none⟩ (.bool lf.v)).setCell ⟨G q, vn * 15 + 4, none⟩ (.bool lf.r)).setCell ⟨G q, vn * 15 + 5, none⟩ (.bool lf.w)).setCell ⟨G q, vn * 15 + 6, none⟩ (.bool lf.x)).setCell ⟨G q, vn * 15 + 7, none⟩ (.bool lf.u)).setCell ⟨G q, vn * 15 + 8, none⟩ (.bool lf.g)).setCell ⟨G q, vn * 15 + 9, none⟩ (.bool lf.a)).setCell ⟨G q, vn * 15 + 10, none⟩ (.bool lf.d)).setCell ⟨G q, vn * 15 + 11, none⟩ (.int .i64 lf.rsw)).setCell ⟨G q, vn * 15 + 12, none⟩ (.int .u64 lf.ppn)).setCell ⟨G q, vn * 15 + 13, none⟩ (.int .i64 lf.lev)).setCell ⟨G q, vn * 15 + 14, none⟩ (.int .u64 lf.pos)) = w4 at *
  have HBF := Lib.hid (HB3.out.turn HQL.out (l := l.set vn (fillE va asid lf)) (by rw [List.length_set]; exact HLL.out) hKK hZ2)
  have HKF : Hid (Keeps (bufF g gs G T.length) W w4) := Lib.hid ((Keeps.of_below HC3.out).trans hKK (fun i hi => .inl (.inr (.inr ⟨q, HQL.out, hi⟩))))
  clear hZ hKK hZ2
  go_wp2
  go_ret
  refine ⟨rfl, ?_, HKF.out⟩
  have hfin := HBF.out
  rw [HVN.out, HLE.out, HQ.out] at hfin
  exact hfin
end Go.Proofs.YtophcgbddccpeaaGreat
