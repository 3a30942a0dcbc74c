/- Merged texts: TlbH, TlbI, TlbJ. -/
import Derived.Test.YtophcgbddccpeaaGreatSk10
/- Fence. -/
namespace Go.Proofs.YtophcgbddccpeaaGreat
open Go.RowKit

/-- What a fence leaves of an entry. -/
def fen (vo : Option Nat) (ao : Option Int) (e : En) : En := if goesB e vo ao then en0 else e
def fenW (vo : Option Nat) (ao : Option Int) (l : List En) (k : Nat) : List En := (l.take k).map (fen vo ao) ++ l.drop k
def cntW (vo : Option Nat) (ao : Option Int) (l : List En) : Nat := l.countP (fun e => goesB e vo ao)
def fenceS (T : List (List En)) (vo : Option Nat) (ao : Option Int) : List (List En) := T.map (fun s => s.map (fen vo ao))
def fenceN (T : List (List En)) (vo : Option Nat) (ao : Option Int) : Nat := (T.map (cntW vo ao)).sum
theorem fenW_zero (vo : Option Nat) (ao : Option Int) (l : List En) : fenW vo ao l 0 = l := by simp [fenW]
theorem fenW_all (vo : Option Nat) (ao : Option Int) (l : List En) (k : Nat) (h : l.length ≤ k) : fenW vo ao l k = l.map (fen vo ao) := by
  simp [fenW, List.take_of_length_le h, List.drop_of_length_le h]
theorem fenW_length (vo : Option Nat) (ao : Option Int) (l : List En) (k : Nat) : (fenW vo ao l k).length = l.length := by
  simp [fenW]; omega
theorem fenW_get (vo : Option Nat) (ao : Option Int) (l : List En) (k : Nat) (e : En) (h : l[k]? = some e) : (fenW vo ao l k)[k]? = some e := by
  have hk : k < l.length := by
    rcases Nat.lt_or_ge k l.length with h1 | h1
    · exact h1
    · rw [List.getElem?_eq_none h1] at h; cases h
  unfold fenW
  rw [List.getElem?_append_right (by simp; omega)]
  simp
  rw [show k - min k l.length = 0 by omega, Nat.add_zero]
  exact h
theorem fenW_step (vo : Option Nat) (ao : Option Int) (l : List En) (k : Nat) (e : En) (h : l[k]? = some e) : fenW vo ao l (k + 1) = (fenW vo ao l k).set k (fen vo ao e) := by
  have hk : k < l.length := by
    rcases Nat.lt_or_ge k l.length with h1 | h1
    · exact h1
    · rw [List.getElem?_eq_none h1] at h; cases h
  unfold fenW
  rw [take_snoc h, List.map_append, List.set_append_right _ _ (by simp; omega)]
  have hd : l.drop k = e :: l.drop (k + 1) := by
    rw [List.drop_eq_getElem_cons hk]
    rw [List.getElem?_eq_getElem hk] at h
    injection h with h
    rw [h]
  rw [hd, show k - ((l.take k).map (fen vo ao)).length = 0 by simp; omega]
  simp
theorem fenW_keep (vo : Option Nat) (ao : Option Int) (l : List En) (k : Nat) (e : En) (h : l[k]? = some e) (hg : goesB e vo ao = false) : fenW vo ao l (k + 1) = fenW vo ao l k := by
  rw [fenW_step vo ao l k e h]
  have e1 : fen vo ao e = e := by unfold fen; rw [hg]; rfl
  rw [e1]
  apply List.ext_getElem?
  intro i
  by_cases hi : k = i
  · subst hi
    have := fenW_get vo ao l k e h
    rw [List.getElem?_set_self (by
      rcases Nat.lt_or_ge k (fenW vo ao l k).length with h1 | h1
      · exact h1
      · rw [List.getElem?_eq_none h1] at this; cases this), this]
  · rw [List.getElem?_set_ne hi]
theorem cnt_snoc (vo : Option Nat) (ao : Option Int) (l : List En) (k : Nat) (e : En) (h : l[k]? = some e) : cntW vo ao (l.take (k + 1)) = cntW vo ao (l.take k) + (if goesB e vo ao then 1 else 0) := by
  unfold cntW
  rw [take_snoc h, List.countP_append, List.countP_singleton]
/-- The first i sets fenced, of set i the first k ways. -/
def midT (T : List (List En)) (vo : Option Nat) (ao : Option Int) (i k : Nat) : List (List En) := (fenceS (T.take i) vo ao) ++ (match T[i]? with | some s => fenW vo ao s k :: T.drop (i + 1) | none => [])
theorem midT_length (T : List (List En)) (vo : Option Nat) (ao : Option Int) (i k : Nat) (hi : i ≤ T.length) : (midT T vo ao i k).length = T.length := by
  unfold midT fenceS
  rcases Nat.lt_or_ge i T.length with h | h
  · rw [List.getElem?_eq_getElem h]
    simp
    omega
  · rw [List.getElem?_eq_none h]
    simp
    omega
theorem midT_self (T : List (List En)) (vo : Option Nat) (ao : Option Int) (i k : Nat) (hi : i < T.length) : (midT T vo ao i k).getD i [] = fenW vo ao (T.getD i []) k := by
  unfold midT fenceS
  rw [List.getElem?_eq_getElem hi, List.getD_eq_getElem?_getD, List.getElem?_append_right (by simp; omega)]
  simp
  rw [show i - min i T.length = 0 by omega]
  simp [hi]
theorem midT_set (T : List (List En)) (vo : Option Nat) (ao : Option Int) (i k : Nat) (hi : i < T.length) : (midT T vo ao i k).set i (fenW vo ao (T.getD i []) (k + 1)) = midT T vo ao i (k + 1) := by
  unfold midT fenceS
  rw [List.getElem?_eq_getElem hi, List.set_append_right _ _ (by simp; omega)]
  simp
  rw [show i - min i T.length = 0 by omega]
  simp [hi]
theorem midT_next (T : List (List En)) (vo : Option Nat) (ao : Option Int) (i k : Nat) (hi : i < T.length) (hk : (T.getD i []).length ≤ k) : midT T vo ao i k = midT T vo ao (i + 1) 0 := by
  have hs : T.getD i [] = T[i] := by rw [List.getD_eq_getElem?_getD, List.getElem?_eq_getElem hi]; rfl
  rw [hs] at hk
  unfold midT fenceS
  rw [List.getElem?_eq_getElem hi]
  simp only
  rw [fenW_all _ _ _ _ hk, List.take_add_one, List.getElem?_eq_getElem hi, List.map_append]
  rcases Nat.lt_or_ge (i + 1) T.length with h | h
  · rw [List.getElem?_eq_getElem h]
    simp only [fenW_zero]
    rw [← List.drop_eq_getElem_cons h]
    simp
  · rw [List.getElem?_eq_none h, List.drop_of_length_le h]
    simp
theorem midT_zero (T : List (List En)) (vo : Option Nat) (ao : Option Int) : midT T vo ao 0 0 = T := by
  unfold midT fenceS
  cases T with
  | nil => rfl
  | cons s r => simp [fenW_zero]
theorem midT_end (T : List (List En)) (vo : Option Nat) (ao : Option Int) : midT T vo ao T.length 0 = fenceS T vo ao := by
  unfold midT
  rw [List.getElem?_eq_none (Nat.le_refl _), List.take_length, List.append_nil]
def cntT (T : List (List En)) (vo : Option Nat) (ao : Option Int) (i : Nat) : Nat := fenceN (T.take i) vo ao
theorem cntT_next (T : List (List En)) (vo : Option Nat) (ao : Option Int) (i k : Nat) (hi : i < T.length) (hk : (T.getD i []).length ≤ k) : cntT T vo ao i + cntW vo ao ((T.getD i []).take k) = cntT T vo ao (i + 1) := by
  unfold cntT fenceN
  rw [List.take_of_length_le hk, List.take_add_one, List.getElem?_eq_getElem hi, List.map_append, List.sum_append, List.getD_eq_getElem?_getD, List.getElem?_eq_getElem hi]
  simp
theorem keeps_cell0 {F : Nat → Prop} {w w' : World} {p : Addr} {v : Value} (h : Keeps F w w') (hc : w.cell? p = some v) (hF : ¬ F p.block) : w'.cell? p = some v := by
  rw [World.cell?_of_block (h.block p.block (cell_lt hc) hF)]
  exact hc
theorem OneU.far {w w' : World} {vo : Option Nat} {V : Value} {g gs : Nat} {G : Nat → Nat} {T : List (List En)} {m : Nat} (h : OneU w vo V) (hB : BufAt w g gs G T m) (hm : 0 < m) (hn : 0 < T.length) (hk : Keeps (bufF g gs G T.length) w w') : OneU w' vo V := by
  refine h.keep fun gv x hc => keeps_cell0 hk hc ?_
  rintro (e | e | ⟨i, hi, e⟩)
  · have e' : gv = g := e
    obtain ⟨c, hh⟩ := hB.head
    rw [e', hh.cell 0] at hc
    simp at hc
  · have e' : gv = gs := e
    obtain ⟨cur, ho, hcur⟩ := hB.outer
    rw [e', ho.cell 0] at hc
    rcases Nat.eq_zero_or_pos T.length with h0 | h0
    · exact absurd h0 (by omega)
    · rw [hcur 0 h0] at hc; simp at hc
  · have e' : gv = G i := e
    obtain ⟨x0, hx0⟩ : ∃ x0, (T.getD i [])[0]? = some x0 := ⟨_, List.getElem?_eq_getElem (by rw [hB.ways i hi]; exact hm)⟩
    have h1 := hB.cell hi 0 0 x0 hx0 (by decide)
    rw [e'] at hc
    rw [show (0 * 15 + 0 : Nat) = 0 from rfl, hc] at h1
    simp [En.vs] at h1
theorem OneI.far {w w' : World} {ao : Option Int} {V : Value} {g gs : Nat} {G : Nat → Nat} {T : List (List En)} {m : Nat} (h : OneI w ao V) (hB : BufAt w g gs G T m) (hm : 0 < m) (hn : 0 < T.length) (hk : Keeps (bufF g gs G T.length) w w') : OneI w' ao V := by
  refine h.keep fun gv x hc => keeps_cell0 hk hc ?_
  rintro (e | e | ⟨i, hi, e⟩)
  · have e' : gv = g := e
    obtain ⟨c, hh⟩ := hB.head
    rw [e', hh.cell 0] at hc
    simp at hc
  · have e' : gv = gs := e
    obtain ⟨cur, ho, hcur⟩ := hB.outer
    rw [e', ho.cell 0] at hc
    rcases Nat.eq_zero_or_pos T.length with h0 | h0
    · exact absurd h0 (by omega)
    · rw [hcur 0 h0] at hc; simp at hc
  · have e' : gv = G i := e
    obtain ⟨x0, hx0⟩ : ∃ x0, (T.getD i [])[0]? = some x0 := ⟨_, List.getElem?_eq_getElem (by rw [hB.ways i hi]; exact hm)⟩
    have h1 := hB.cell hi 0 0 x0 hx0 (by decide)
    rw [e'] at hc
    rw [show (0 * 15 + 0 : Nat) = 0 from rfl, hc] at h1
    simp [En.vs] at h1
end Go.Proofs.YtophcgbddccpeaaGreat

/- Fence: the walk. -/
namespace Go.Proofs.YtophcgbddccpeaaGreat
open Go.RowKit

def FeR (W : World) (g gs : Nat) (G : Nat → Nat) (T : List (List En)) (m : Nat) (vo : Option Nat) (ao : Option Int) (i k : Nat) (wr : World) : Prop :=
  BufAt wr g gs G (midT T vo ao i k) m ∧ Keeps (bufF g gs G T.length) W wr
theorem valid_mid {T : List (List En)} (h : Valid T) {i k : Nat} {e : En} (hi : i < T.length) (he : (T.getD i [])[k]? = some e) : e.full = true → levOK e.lf.lev = true := by
  have hmem : (T.getD i []) ∈ T := by rw [List.getD_eq_getElem?_getD, List.getElem?_eq_getElem hi]; exact List.getElem_mem _
  exact h _ hmem e (List.mem_of_getElem? he)
theorem set_self {T : List (List En)} {a : Nat} : T.set a (T.getD a []) = T := by
  apply List.ext_getElem?
  intro i
  rcases Nat.lt_or_ge a T.length with h | h
  · by_cases hi : a = i
    · subst hi
      rw [List.getElem?_set_self h, List.getD_eq_getElem?_getD, List.getElem?_eq_getElem h]
      rfl
    · rw [List.getElem?_set_ne hi]
  · rw [List.set_eq_of_length_le h]
theorem cntT_le (T : List (List En)) (vo : Option Nat) (ao : Option Int) (m : Nat) : ∀ (a : Nat), a ≤ T.length → (∀ i, i < T.length → (T.getD i []).length = m) → cntT T vo ao a ≤ a * m
  | 0, _, _ => by simp [cntT, fenceN]
  | a + 1, h, hw => by
    have h1 := cntT_le T vo ao m a (by omega) hw
    have h2 := cntT_next T vo ao a m (by omega) (by rw [hw a (by omega)]; exact Nat.le_refl _)
    have h3 : cntW vo ao ((T.getD a []).take m) ≤ m := Nat.le_trans (List.countP_le_length) (by rw [List.length_take]; omega)
    rw [← h2, Nat.succ_mul]
    omega
set_option maxHeartbeats 4000000 in
theorem fence_any (g gs : Nat) (G : Nat → Nat) (T : List (List En)) (m : Nat) (vo : Option Nat) (ao : Option Int) (V A : Value) (W : World) (hv : ∀ va, vo = some va → va < 18446744073709551616) (hn : 0 < T.length) (hn2 : T.length ≤ 64) (hm0 : 0 < m) (hm : m ≤ 8) (hB : BufAt W g gs G T m) (hval : Valid T) (hV : OneU W vo V) (hA : OneI W ao A) :
    Calls Tryz.prog 49 #[.pointer (some ⟨g, 0, none⟩), V, A] W fun e w' => e = .returned (.int .i64 (fenceN T vo ao : Nat)) ∧ BufAt w' g gs G (fenceS T vo ao) m ∧ Keeps (bufF g gs G T.length) W w' := by
  have HB := Lib.hid hB
  have HV := Lib.hid hV
  have HA := Lib.hid hA
  obtain ⟨c, hc⟩ := hB.head
  obtain ⟨n, hnn⟩ : ∃ n, n = T.length := ⟨_, rfl⟩
  have HN := Lib.hid hnn
  have h0 := hc.cell 0
  have hgl := hc.lt
  simp at h0
  rw [← hnn] at hn hn2 h0
  clear hc hB hV hA hnn
  go_enter Tryz.func49, Tryz.ntmps49
  go_wp2_with fail
  go_loopw [7, 19] (fun cv i wr => ∃ a : Nat, a ≤ n ∧ i = .int .i64 a ∧ cv = .int .i64 (cntT T vo ao a : Nat) ∧ FeR W g gs G T m vo ao a 0 wr) (fun _ i _ => n - (intOf i).toNat)
  case atStart => exact ⟨0, by omega, rfl, rfl, by rw [midT_zero]; exact HB.out, Keeps.refl _ _⟩
  case round =>
    obtain ⟨a, ha, rfl, rfl, hB1, hK1⟩ := hrel
    have HB1 := Lib.hid hB1
    have HK1 := Lib.hid hK1
    clear hB1 hK1 h0
    by_cases hal : a < n
    · have HAL : Hid (a < T.length) := Lib.hid (by rw [← HN.out]; exact hal)
      obtain ⟨cur, ho, hcur⟩ := HB1.out.outer
      have hro := (ho.cell a).trans (hcur a (by rw [midT_length _ _ _ _ _ (Nat.le_of_lt HAL.out)]; exact HAL.out))
      clear ho hcur
      go_wp2_with fail
      clear hro
      go_loopw [7, 25] (fun cv i wr => ∃ k : Nat, k ≤ m ∧ i = .int .i64 k ∧ cv = .int .i64 (cntT T vo ao a + cntW vo ao ((T.getD a []).take k) : Nat) ∧ FeR W g gs G T m vo ao a k wr) (fun _ i _ => m - (intOf i).toNat)
      case atStart => exact ⟨0, by omega, rfl, by simp [cntW], HB1.out, HK1.out⟩
      case round =>
        obtain ⟨k, hk, rfl, rfl, hB2, hK2⟩ := hrel
        rename World => wr
        have HB2 := Lib.hid hB2
        have HK2 := Lib.hid hK2
        clear hB2 hK2
        have HWY : Hid ((T.getD a []).length = m) := Lib.hid (HB.out.ways a HAL.out)
        by_cases hkl : k < m
        · obtain ⟨e, he⟩ : ∃ e, (T.getD a [])[k]? = some e := ⟨_, List.getElem?_eq_getElem (by rw [HWY.out]; exact hkl)⟩
          have HE := Lib.hid he
          have HLV := Lib.hid (valid_mid hval HAL.out he)
          have HCN := Lib.hid (cnt_snoc vo ao _ k e he)
          have HML : Hid (a < (midT T vo ao a k).length) := Lib.hid (by rw [midT_length _ _ _ _ _ (Nat.le_of_lt HAL.out)]; exact HAL.out)
          have hme : ((midT T vo ao a k).getD a [])[k]? = some e := by rw [midT_self T vo ao a k HAL.out]; exact fenW_get vo ao _ k e he
          have HME := Lib.hid hme
          have hcw : cntT T vo ao a + cntW vo ao ((T.getD a []).take k) ≤ 1000 := by
            have h1 : cntT T vo ao a ≤ a * m := cntT_le T vo ao m a (Nat.le_of_lt HAL.out) HB.out.ways
            have h2 : cntW vo ao ((T.getD a []).take k) ≤ k := Nat.le_trans (List.countP_le_length) (by rw [List.length_take]; omega)
            have h3 : a * m ≤ 64 * 8 := Nat.mul_le_mul (by omega) hm
            omega
          generalize hcv : cntT T vo ao a + cntW vo ao ((T.getD a []).take k) = cv at *
          have HCV := Lib.hid hcv
          clear he hme hcv
          have c0 := HB2.out.cell HML.out k 0 e HME.out (by decide)
          have c1 := HB2.out.cell HML.out k 1 e HME.out (by decide)
          have c2 := HB2.out.cell HML.out k 2 e HME.out (by decide)
          have c3 := HB2.out.cell HML.out k 3 e HME.out (by decide)
          have c4 := HB2.out.cell HML.out k 4 e HME.out (by decide)
          have c5 := HB2.out.cell HML.out k 5 e HME.out (by decide)
          have c6 := HB2.out.cell HML.out k 6 e HME.out (by decide)
          have c7 := HB2.out.cell HML.out k 7 e HME.out (by decide)
          have c8 := HB2.out.cell HML.out k 8 e HME.out (by decide)
          have c9 := HB2.out.cell HML.out k 9 e HME.out (by decide)
          have c10 := HB2.out.cell HML.out k 10 e HME.out (by decide)
          have c11 := HB2.out.cell HML.out k 11 e HME.out (by decide)
          have c12 := HB2.out.cell HML.out k 12 e HME.out (by decide)
          have c13 := HB2.out.cell HML.out k 13 e HME.out (by decide)
          have c14 := HB2.out.cell HML.out k 14 e HME.out (by decide)
          simp [En.vs] at c0 c1 c2 c3 c4 c5 c6 c7 c8 c9 c10 c11 c12 c13 c14
          have hal2 := (Below.refl wr.heap.size wr).alloc (Nat.le_refl _) (.cells #[.bool e.full, .int .i64 e.asid, .int .u64 e.page, .bool e.lf.v, .bool e.lf.r, .bool e.lf.w, .bool e.lf.x, .bool e.lf.u, .bool e.lf.g, .bool e.lf.a, .bool e.lf.d, .int .i64 e.lf.rsw, .int .u64 e.lf.ppn, .int .i64 e.lf.lev, .int .u64 e.lf.pos] 152)
          have HAW := Lib.hid hal2
          clear hal2
          go_wp2_with fail
          refine (goes_any e vo ao V A _ hv HLV.out ((HV.out.far HB.out hm0 (by rw [← HN.out]; exact hn) HK2.out).below HAW.out) ((HA.out.far HB.out hm0 (by rw [← HN.out]; exact hn) HK2.out).below HAW.out)).mono ?_
          rintro r w3 ⟨rfl, hb⟩
          have hbb : Below wr.heap.size wr w3 := HAW.out.trans (hb.mono HAW.out.size)
          have HB3 := Lib.hid (HB2.out.below hbb)
          have HK3 := Lib.hid (HK2.out.same ((Keeps.of_below hbb)))
          clear hb hbb c0 c1 c2 c3 c4 c5 c6 c7 c8 c9 c10 c11 c12 c13 c14
          cases hgo : goesB e vo ao
          · rw [hgo] at HCN
            have HMM : Hid (midT T vo ao a (k + 1) = midT T vo ao a k) := Lib.hid (by
              rw [← midT_set T vo ao a k HAL.out, fenW_keep vo ao _ k e HE.out hgo, ← midT_self T vo ao a k HAL.out, set_self])
            clear hgo
            go_wp2_with fail
            refine ⟨⟨k + 1, hkl, by go_num, ?_, ?_, HK3.out⟩, by simp [intOf]; omega⟩
            · rw [HCN.out, ← HCV.out]; simp
            · rw [HMM.out]; exact HB3.out
          · rw [hgo] at HCN
            have HFE : Hid (fen vo ao e = en0) := Lib.hid (by unfold fen; rw [hgo]; rfl)
            clear hgo
            have hgb := HB3.out.inner a HML.out
            have z0 := HB3.out.cell HML.out k 0 e HME.out (by decide)
            have z1 := HB3.out.cell HML.out k 1 e HME.out (by decide)
            have z2 := HB3.out.cell HML.out k 2 e HME.out (by decide)
            have z3 := HB3.out.cell HML.out k 3 e HME.out (by decide)
            have z4 := HB3.out.cell HML.out k 4 e HME.out (by decide)
            have z5 := HB3.out.cell HML.out k 5 e HME.out (by decide)
            have z6 := HB3.out.cell HML.out k 6 e HME.out (by decide)
            have z7 := HB3.out.cell HML.out k 7 e HME.out (by decide)
            have z8 := HB3.out.cell HML.out k 8 e HME.out (by decide)
            have z9 := HB3.out.cell HML.out k 9 e HME.out (by decide)
            have z10 := HB3.out.cell HML.out k 10 e HME.out (by decide)
            have z11 := HB3.out.cell HML.out k 11 e HME.out (by decide)
            have z12 := HB3.out.cell HML.out k 12 e HME.out (by decide)
            have z13 := HB3.out.cell HML.out k 13 e HME.out (by decide)
            have z14 := HB3.out.cell HML.out k 14 e HME.out (by decide)
            simp [En.vs] at z0 z1 z2 z3 z4 z5 z6 z7 z8 z9 z10 z11 z12 z13 z14
            have zl := hgb.lt
            have zf := fun i => hgb.frozen i
            have HGB := Lib.hid hgb
            clear hgb
            go_wp2_with fail
            clear z0 z1 z2 z3 z4 z5 z6 z7 z8 z9 z10 z11 z12 z13 z14 zl zf
            have hZ := (((((((((((((((HGB.out.set_ (k * 15) (.bool false)).set_ (k * 15 + 1) (.int .i64 0)).set_ (k * 15 + 2) (.int .u64 0)).set_ (k * 15 + 3) (.bool false)).set_ (k * 15 + 4) (.bool false)).set_ (k * 15 + 5) (.bool false)).set_ (k * 15 + 6) (.bool false)).set_ (k * 15 + 7) (.bool false)).set_ (k * 15 + 8) (.bool false)).set_ (k * 15 + 9) (.bool false)).set_ (k * 15 + 10) (.bool false)).set_ (k * 15 + 11) (.int .i64 0)).set_ (k * 15 + 12) (.int .u64 0)).set_ (k * 15 + 13) (.int .i64 0)).set_ (k * 15 + 14) (.int .u64 0))
            have hKK := ((((((((((((((((Keeps.refl (fun x => x = G a) w3).setCell (p := ⟨G a, k * 15, none⟩) (.inl rfl) (.bool false)).setCell (p := ⟨G a, k * 15 + 1, none⟩) (.inl rfl) (.int .i64 0)).setCell (p := ⟨G a, k * 15 + 2, none⟩) (.inl rfl) (.int .u64 0)).setCell (p := ⟨G a, k * 15 + 3, none⟩) (.inl rfl) (.bool false)).setCell (p := ⟨G a, k * 15 + 4, none⟩) (.inl rfl) (.bool false)).setCell (p := ⟨G a, k * 15 + 5, none⟩) (.inl rfl) (.bool false)).setCell (p := ⟨G a, k * 15 + 6, none⟩) (.inl rfl) (.bool false)).setCell (p := ⟨G a, k * 15 + 7, none⟩) (.inl rfl) (.bool false)).setCell (p := ⟨G a, k * 15 + 8, none⟩) (.inl rfl) (.bool false)).setCell (p := ⟨G a, k * 15 + 9, none⟩) (.inl rfl) (.bool false)).setCell (p := ⟨G a, k * 15 + 10, none⟩) (.inl rfl) (.bool false)).setCell (p := ⟨G a, k * 15 + 11, none⟩) (.inl rfl) (.int .i64 0)).setCell (p := ⟨G a, k * 15 + 12, none⟩) (.inl rfl) (.int .u64 0)).setCell (p := ⟨G a, k * 15 + 13, none⟩) (.inl rfl) (.int .i64 0)).setCell (p := ⟨G a, k * 15 + 14, none⟩) (.inl rfl) (.int .u64 0))
            simp only [List.setIfInBounds_toArray] at hZ
            have hlen : k < ((midT T vo ao a k).getD a []).length := by rw [midT_self T vo ao a k HAL.out, fenW_length, HWY.out]; exact hkl
            have hZ2 : Blk (((((((((((((((w3.setCell ⟨G a, k * 15, none⟩ (.bool false)).setCell ⟨G a, k * 15 + 1, none⟩ (.int .i64 0)).setCell ⟨G a, k * 15 + 2, none⟩ (.int .u64 0)).setCell ⟨G a, k * 15 + 3, none⟩ (.bool false)).setCell ⟨G a, k * 15 + 4, none⟩ (.bool false)).setCell ⟨G a, k * 15 + 5, none⟩ (.bool false)).setCell ⟨G a, k * 15 + 6, none⟩ (.bool false)).setCell ⟨G a, k * 15 + 7, none⟩ (.bool false)).setCell ⟨G a, k * 15 + 8, none⟩ (.bool false)).setCell ⟨G a, k * 15 + 9, none⟩ (.bool false)).setCell ⟨G a, k * 15 + 10, none⟩ (.bool false)).setCell ⟨G a, k * 15 + 11, none⟩ (.int .i64 0)).setCell ⟨G a, k * 15 + 12, none⟩ (.int .u64 0)).setCell ⟨G a, k * 15 + 13, none⟩ (.int .i64 0)).setCell ⟨G a, k * 15 + 14, none⟩ (.int .u64 0)) (G a) 152 (waysC (((midT T vo ao a k).getD a []).set k en0)).toArray := by
              rw [← ways_set _ k en0 hlen]
              exact hZ
            generalize (((((((((((((((w3.setCell ⟨G a, k * 15, none⟩ (.bool false)).setCell ⟨G a, k * 15 + 1, none⟩ (.int .i64 0)).setCell ⟨G a, k * 15 + 2, none⟩ (.int .u64 0)).setCell ⟨G a, k * 15 + 3, none⟩ (.bool false)).setCell ⟨G a, k * 15 + 4, none⟩ (.bool false)).setCell ⟨G a, k * 15 + 5, none⟩ (.bool false)).setCell ⟨G a, k * 15 + 6, none⟩ (.bool false)).setCell ⟨G a, k * 15 + 7, none⟩ (.bool false)).setCell ⟨G a, k * 15 + 8, none⟩ (.bool false)).setCell ⟨G a, k * 15 + 9, none⟩ (.bool false)).setCell ⟨G a, k * 15 + 10, none⟩ (.bool false)).setCell ⟨G a, k * 15 + 11, none⟩ (.int .i64 0)).setCell ⟨G a, k * 15 + 12, none⟩ (.int .u64 0)).setCell ⟨G a, k * 15 + 13, none⟩ (.int .i64 0)).setCell ⟨G a, k * 15 + 14, none⟩ (.int .u64 0)) = w4 at *
            have HBF := Lib.hid (HB3.out.turn HML.out (by rw [List.length_set, midT_self T vo ao a k HAL.out, fenW_length, HWY.out]) hKK hZ2)
            have HKF : Hid (Keeps (bufF g gs G T.length) W w4) := Lib.hid (HK3.out.trans hKK (fun i hi => .inl (.inr (.inr ⟨a, HAL.out, hi⟩))))
            clear hZ hKK hZ2 hlen
            refine ⟨⟨k + 1, hkl, by go_num, ?_, ?_, HKF.out⟩, by simp [intOf]; omega⟩
            · rw [HCN.out, ← HCV.out]; simp; omega
            · have h1 := HBF.out
              rw [midT_self T vo ao a k HAL.out, ← HFE.out, ← fenW_step vo ao _ k e HE.out, midT_set T vo ao a k HAL.out] at h1
              exact h1
        · obtain rfl : m = k := by omega
          have HMN := Lib.hid (midT_next T vo ao a m HAL.out (by rw [HWY.out]; exact Nat.le_refl _))
          have HCX := Lib.hid (cntT_next T vo ao a m HAL.out (by rw [HWY.out]; exact Nat.le_refl _))
          have h1 := HB2.out
          rw [HMN.out] at h1
          have HB5 := Lib.hid h1
          clear h1
          rw [HCX.out]
          go_wp2_with fail
          exact ⟨⟨a + 1, hal, by go_num, rfl, HB5.out, HK2.out⟩, by simp [intOf]; omega⟩
    · obtain rfl : n = a := by omega
      have h1 := HB1.out
      rw [HN.out, midT_end] at h1
      have HB5 := Lib.hid h1
      have HCE : Hid (cntT T vo ao n = fenceN T vo ao) := Lib.hid (by unfold cntT; rw [HN.out, List.take_length])
      clear h1
      go_wp2
      go_ret
      exact ⟨by rw [HCE.out]; rfl, HB5.out, HK1.out⟩
end Go.Proofs.YtophcgbddccpeaaGreat

/- List, Len. -/
namespace Go.Proofs.YtophcgbddccpeaaGreat
open Go.RowKit

structure Sl where
  (set way asid : Int)
  (page : Nat)
  (lf : Tf)
def Sl.vs (x : Sl) : List Value := [.int .i64 x.set, .int .i64 x.way, .int .i64 x.asid, .int .u64 x.page, .bool x.lf.v, .bool x.lf.r, .bool x.lf.w, .bool x.lf.x, .bool x.lf.u, .bool x.lf.g, .bool x.lf.a, .bool x.lf.d, .int .i64 x.lf.rsw, .int .u64 x.lf.ppn, .int .i64 x.lf.lev, .int .u64 x.lf.pos]
def slC : List Sl → List Value
  | [] => []
  | x :: r => x.vs ++ slC r
theorem slC_append (a b : List Sl) : slC (a ++ b) = slC a ++ slC b := by
  induction a with
  | nil => rfl
  | cons x r ih =>
    show x.vs ++ slC (r ++ b) = x.vs ++ slC r ++ slC b
    rw [ih, List.append_assoc]
theorem slC_length : ∀ l : List Sl, (slC l).length = l.length * 16
  | [] => rfl
  | x :: r => by
    show (x.vs ++ slC r).length = _
    rw [List.length_append, slC_length r, List.length_cons]
    show 16 + _ = _
    omega
theorem slC_get : ∀ (l : List Sl) (k j : Nat) (x : Sl), l[k]? = some x → j < 16 → (slC l)[k * 16 + j]? = x.vs[j]?
  | [], k, j, e, h, _ => by simp at h
  | x :: r, 0, j, e, h, hj => by
    simp at h
    subst h
    show (x.vs ++ slC r)[0 * 16 + j]? = _
    rw [Nat.zero_mul, Nat.zero_add, List.getElem?_append_left (show j < 16 from hj)]
  | x :: r, k + 1, j, e, h, hj => by
    show (x.vs ++ slC r)[(k + 1) * 16 + j]? = _
    rw [List.getElem?_append_right (show 16 ≤ (k + 1) * 16 + j by omega)]
    show (slC r)[(k + 1) * 16 + j - 16]? = _
    rw [show (k + 1) * 16 + j - 16 = k * 16 + j by omega]
    exact slC_get r k j e (by simpa using h) hj
theorem tlb_row_form {w : World} {base s n : Nat} {e : TypeId} {v : Value} {xs : List Value} (h : w.ownsRow base e s v n xs) : ∃ A c, v = .slice A n c := by
  rcases h.2 with ⟨rfl, rfl⟩ | ⟨g, cap, _, rfl, _⟩
  · exact ⟨_, _, rfl⟩
  · exact ⟨_, _, rfl⟩
theorem info_sl : (Tryz.prog.info? 100).map (fun i => (i.zero, i.size, i.bytes)) = some (some (.agg #[.int .i64 0, .int .i64 0, .int .i64 0, .int .u64 0, .bool false, .bool false, .bool false, .bool false, .bool false, .bool false, .bool false, .bool false, .int .i64 0, .int .u64 0, .int .i64 0, .int .u64 0]), 16, 72) := by kernel_rfl
theorem one_sl (x : Sl) : ∀ u ∈ x.vs, u.oneCell' = true := by
  intro u hu
  simp [Sl.vs] at hu
  rcases hu with rfl | rfl | rfl | rfl | rfl | rfl | rfl | rfl | rfl | rfl | rfl | rfl | rfl | rfl | rfl | rfl <;> rfl
theorem reads_sl (w : World) (t : TypeId) (x : Sl) : Reads (w.alloc (.cells #[.int .i64 x.set, .int .i64 x.way, .int .i64 x.asid, .int .u64 x.page, .bool x.lf.v, .bool x.lf.r, .bool x.lf.w, .bool x.lf.x, .bool x.lf.u, .bool x.lf.g, .bool x.lf.a, .bool x.lf.d, .int .i64 x.lf.rsw, .int .u64 x.lf.ppn, .int .i64 x.lf.lev, .int .u64 x.lf.pos] t)) (w.heap.size + 1) 16 (some ⟨w.heap.size, 0, none⟩) 1 x.vs :=
  ⟨rfl, fun _ => ⟨_, rfl, Nat.lt_succ_self _, fun j v hj => by
    have hb := Blkf.new_at w t (0, 0) #[.int .i64 x.set, .int .i64 x.way, .int .i64 x.asid, .int .u64 x.page, .bool x.lf.v, .bool x.lf.r, .bool x.lf.w, .bool x.lf.x, .bool x.lf.u, .bool x.lf.g, .bool x.lf.a, .bool x.lf.d, .int .i64 x.lf.rsw, .int .u64 x.lf.ppn, .int .i64 x.lf.lev, .int .u64 x.lf.pos] rfl
    match j, hj with
    | 0, hj => exact (hb.cell 0).trans hj
    | 1, hj => exact (hb.cell 1).trans hj
    | 2, hj => exact (hb.cell 2).trans hj
    | 3, hj => exact (hb.cell 3).trans hj
    | 4, hj => exact (hb.cell 4).trans hj
    | 5, hj => exact (hb.cell 5).trans hj
    | 6, hj => exact (hb.cell 6).trans hj
    | 7, hj => exact (hb.cell 7).trans hj
    | 8, hj => exact (hb.cell 8).trans hj
    | 9, hj => exact (hb.cell 9).trans hj
    | 10, hj => exact (hb.cell 10).trans hj
    | 11, hj => exact (hb.cell 11).trans hj
    | 12, hj => exact (hb.cell 12).trans hj
    | 13, hj => exact (hb.cell 13).trans hj
    | 14, hj => exact (hb.cell 14).trans hj
    | 15, hj => exact (hb.cell 15).trans hj
    | j + 16, hj => exact absurd hj (by simp [Sl.vs])⟩⟩
theorem reads_sl_at (w : World) (t : TypeId) (x : Sl) (n : Nat) (hn : n = w.heap.size) : Reads (w.alloc (.cells #[.int .i64 x.set, .int .i64 x.way, .int .i64 x.asid, .int .u64 x.page, .bool x.lf.v, .bool x.lf.r, .bool x.lf.w, .bool x.lf.x, .bool x.lf.u, .bool x.lf.g, .bool x.lf.a, .bool x.lf.d, .int .i64 x.lf.rsw, .int .u64 x.lf.ppn, .int .i64 x.lf.lev, .int .u64 x.lf.pos] t)) (n + 1) 16 (some ⟨n, 0, none⟩) 1 x.vs := by subst hn; exact reads_sl w t x
/-- The listing of a set's ways from number k on. -/
def listW (i k : Nat) : List En → List Sl
  | [] => []
  | e :: r => (if e.full then [⟨i, k, e.asid, e.page, e.lf⟩] else []) ++ listW i (k + 1) r
def listT (i : Nat) : List (List En) → List Sl
  | [] => []
  | s :: r => listW i 0 s ++ listT (i + 1) r
theorem listW_snoc (i : Nat) (e : En) : ∀ (l : List En) (k : Nat), listW i k (l ++ [e]) = listW i k l ++ (if e.full then [⟨i, (k + l.length : Nat), e.asid, e.page, e.lf⟩] else [])
  | [], k => by simp [listW]
  | x :: r, k => by
    show (if x.full then [(⟨i, k, x.asid, x.page, x.lf⟩ : Sl)] else []) ++ listW i (k + 1) (r ++ [e]) = (if x.full then [(⟨i, k, x.asid, x.page, x.lf⟩ : Sl)] else []) ++ listW i (k + 1) r ++ _
    rw [listW_snoc i e r (k + 1), List.append_assoc, List.length_cons, show k + 1 + r.length = k + (r.length + 1) by omega]
theorem listT_snoc (s : List En) : ∀ (T : List (List En)) (i : Nat), listT i (T ++ [s]) = listT i T ++ listW (i + T.length) 0 s
  | [], i => by simp [listT]
  | x :: r, i => by
    show listW i 0 x ++ listT (i + 1) (r ++ [s]) = listW i 0 x ++ listT (i + 1) r ++ _
    rw [listT_snoc s r (i + 1), List.append_assoc, List.length_cons, show i + 1 + r.length = i + (r.length + 1) by omega]
theorem listW_le (i : Nat) : ∀ (l : List En) (k : Nat), (listW i k l).length ≤ l.length
  | [], k => Nat.le_refl _
  | e :: r, k => by
    show ((if e.full then [(⟨i, k, e.asid, e.page, e.lf⟩ : Sl)] else []) ++ listW i (k + 1) r).length ≤ _
    have := listW_le i r (k + 1)
    rw [List.length_append, List.length_cons]
    split <;> simp <;> omega
theorem listT_le (m : Nat) : ∀ (T : List (List En)) (i : Nat), (∀ s ∈ T, s.length = m) → (listT i T).length ≤ T.length * m
  | [], i, _ => Nat.zero_le _
  | s :: r, i, h => by
    show (listW i 0 s ++ listT (i + 1) r).length ≤ _
    have h1 := listW_le i s 0
    have h2 := listT_le m r (i + 1) (fun x hx => h x (by simp [hx]))
    have h3 := h s (by simp)
    rw [List.length_append, List.length_cons, Nat.succ_mul]
    omega
def LiR (W : World) (T : List (List En)) (v : Value) (L : List Sl) (wr : World) : Prop := wr.ownsRow W.heap.size 100 16 v L.length (slC L) ∧ Below W.heap.size W wr
set_option maxHeartbeats 4000000 in
theorem list_any (g gs : Nat) (G : Nat → Nat) (T : List (List En)) (m : Nat) (W : World) (hn2 : T.length ≤ 64) (hm : m ≤ 8) (hB : BufAt W g gs G T m) :
    Calls Tryz.prog 63 #[.pointer (some ⟨g, 0, none⟩)] W fun e w' => ∃ v, e = .returned v ∧ LiR W T v (listT 0 T) w' := by
  obtain ⟨i0, hi0, hz0, hz1, hz2⟩ := info_parts info_sl
  have HB := Lib.hid hB
  obtain ⟨c, hc⟩ := hB.head
  obtain ⟨n, hnn⟩ : ∃ n, n = T.length := ⟨_, rfl⟩
  have HN := Lib.hid hnn
  have h0 := hc.cell 0
  have hgl := hc.lt
  simp at h0
  rw [← hnn] at hn2 h0
  clear hc hB hnn
  go_enter Tryz.func63, Tryz.ntmps63
  go_wp2_with fail
  go_loopw [3, 15] (fun v i wr => ∃ a : Nat, a ≤ n ∧ i = .int .i64 a ∧ LiR W T v (listT 0 (T.take a)) wr) (fun _ i _ => n - (intOf i).toNat)
  case atStart => exact ⟨0, by omega, rfl, World.ownsRow_nil _ _ _ _, Below.refl _ _⟩
  case round =>
    obtain ⟨a, ha, rfl, hO, hE⟩ := hrel
    have HO1 := Lib.hid hO
    have HE1 := Lib.hid hE
    have HB1 := Lib.hid (HB.out.below hE)
    clear hO hE h0
    by_cases hal : a < n
    · have HAL : Hid (a < T.length) := Lib.hid (by rw [← HN.out]; exact hal)
      obtain ⟨cur, ho, hcur⟩ := HB1.out.outer
      have hro := (ho.cell a).trans (hcur a HAL.out)
      clear ho hcur
      go_wp2_with fail
      clear hro
      go_loopw [3, 22] (fun v i wr => ∃ k : Nat, k ≤ m ∧ i = .int .i64 k ∧ LiR W T v (listT 0 (T.take a) ++ listW a 0 ((T.getD a []).take k)) wr) (fun _ i _ => m - (intOf i).toNat)
      case atStart => exact ⟨0, by omega, rfl, by rw [List.take_zero]; show LiR W T _ (_ ++ []) _; rw [List.append_nil]; exact ⟨HO1.out, HE1.out⟩⟩
      case round =>
        obtain ⟨k, hk, rfl, hO, hE⟩ := hrel
        rename World => wr
        have HO2 := Lib.hid hO
        have HE2 := Lib.hid hE
        have HB2 := Lib.hid (HB.out.below hE)
        have HWY : Hid ((T.getD a []).length = m) := Lib.hid (HB.out.ways a HAL.out)
        have hsz := hE.size
        clear hO hE
        by_cases hkl : k < m
        · obtain ⟨e, he⟩ : ∃ e, (T.getD a [])[k]? = some e := ⟨_, List.getElem?_eq_getElem (by rw [HWY.out]; exact hkl)⟩
          have HST : Hid (listT 0 (T.take a) ++ listW a 0 ((T.getD a []).take (k + 1)) = (listT 0 (T.take a) ++ listW a 0 ((T.getD a []).take k)) ++ (if e.full then [⟨a, k, e.asid, e.page, e.lf⟩] else [])) := Lib.hid (by
            rw [take_snoc he, listW_snoc, List.append_assoc, Nat.zero_add, List.length_take, HWY.out, Nat.min_eq_left (by omega)])
          have HLN : Hid ((listT 0 (T.take a) ++ listW a 0 ((T.getD a []).take k)).length ≤ 600) := Lib.hid (by
            have h1 := listT_le m (T.take a) 0 (fun s hs => by
              obtain ⟨i, hi, rfl⟩ := List.mem_take_iff_getElem.1 hs
              have := HB.out.ways i (by omega)
              rw [List.getD_eq_getElem?_getD, List.getElem?_eq_getElem (by omega)] at this
              exact this)
            have h2 := listW_le a ((T.getD a []).take k) 0
            rw [List.length_take] at h1 h2
            rw [List.length_append]
            have h3 : min a T.length * m ≤ 64 * 8 := Nat.mul_le_mul (by omega) hm
            omega)
          generalize listT 0 (T.take a) ++ listW a 0 ((T.getD a []).take k) = L at *
          have HE := Lib.hid he
          clear he
          obtain ⟨A1, c1, rfl⟩ := tlb_row_form HO2.out
          have c0 := HB2.out.cell HAL.out k 0 e HE.out (by decide)
          have c1 := HB2.out.cell HAL.out k 1 e HE.out (by decide)
          have c2 := HB2.out.cell HAL.out k 2 e HE.out (by decide)
          have c3 := HB2.out.cell HAL.out k 3 e HE.out (by decide)
          have c4 := HB2.out.cell HAL.out k 4 e HE.out (by decide)
          have c5 := HB2.out.cell HAL.out k 5 e HE.out (by decide)
          have c6 := HB2.out.cell HAL.out k 6 e HE.out (by decide)
          have c7 := HB2.out.cell HAL.out k 7 e HE.out (by decide)
          have c8 := HB2.out.cell HAL.out k 8 e HE.out (by decide)
          have c9 := HB2.out.cell HAL.out k 9 e HE.out (by decide)
          have c10 := HB2.out.cell HAL.out k 10 e HE.out (by decide)
          have c11 := HB2.out.cell HAL.out k 11 e HE.out (by decide)
          have c12 := HB2.out.cell HAL.out k 12 e HE.out (by decide)
          have c13 := HB2.out.cell HAL.out k 13 e HE.out (by decide)
          have c14 := HB2.out.cell HAL.out k 14 e HE.out (by decide)
          simp [En.vs] at c0 c1 c2 c3 c4 c5 c6 c7 c8 c9 c10 c11 c12 c13 c14
          have hal2 := (Below.refl wr.heap.size wr).alloc (Nat.le_refl _) (.cells #[.bool e.full, .int .i64 e.asid, .int .u64 e.page, .bool e.lf.v, .bool e.lf.r, .bool e.lf.w, .bool e.lf.x, .bool e.lf.u, .bool e.lf.g, .bool e.lf.a, .bool e.lf.d, .int .i64 e.lf.rsw, .int .u64 e.lf.ppn, .int .i64 e.lf.lev, .int .u64 e.lf.pos] 152)
          have HAW := Lib.hid (HE2.out.trans (hal2.mono HE2.out.size))
          have HOW := Lib.hid (HO2.out.alloc (.cells #[.bool e.full, .int .i64 e.asid, .int .u64 e.page, .bool e.lf.v, .bool e.lf.r, .bool e.lf.w, .bool e.lf.x, .bool e.lf.u, .bool e.lf.g, .bool e.lf.a, .bool e.lf.d, .int .i64 e.lf.rsw, .int .u64 e.lf.ppn, .int .i64 e.lf.lev, .int .u64 e.lf.pos] 152))
          clear hal2
          cases hf : e.full
          · rw [hf] at HAW HOW HST
            go_wp2_with fail
            refine ⟨⟨k + 1, hkl, by go_num, ?_⟩, by simp [intOf]; omega⟩
            rw [HST.out]
            show LiR W T _ (L ++ []) _
            rw [List.append_nil]
            exact ⟨HOW.out, HAW.out⟩
          · rw [hf] at HAW HOW HST
            go_wp2_with (at_builtin; (refine wpList_append_any _ rfl (.tmp 29) (.tmp 39) _ rfl W.heap.size 100 i0 _ 16 72 Tryz.underlying93 hi0 hz0 hz1 hz2 rfl (by decide) _ L.length (slC L) rfl (HOW.out.alloc _) (wr.heap.size + 1 + 1) (some ⟨wr.heap.size + 1, 0, none⟩) 1 1 (Sl.vs ⟨a, k, e.asid, e.page, e.lf⟩) rfl (reads_sl_at _ _ ⟨a, k, e.asid, e.page, e.lf⟩ (wr.heap.size + 1) (by simp)) (one_sl _) (by unfold maxLen; have := HLN.out; omega) (by have := HLN.out; omega) (by simp; omega) ?_; intro v2 w2 hown hgrow hat; have HO5 := Lib.hid hown; have HE5 := Lib.hid ((HAW.out.alloc HAW.out.size _).grown hgrow (Nat.le_trans HAW.out.size (by simp)) (fun g hg => (HOW.out.lt g hg).1)); clear hown hgrow hat))
            refine ⟨⟨k + 1, hkl, by go_num, ?_⟩, by simp [intOf]; omega⟩
            rw [HST.out]
            refine ⟨?_, HE5.out⟩
            have h1 := HO5.out
            rw [show (slC L ++ Sl.vs ⟨a, k, e.asid, e.page, e.lf⟩) = slC (L ++ [⟨a, k, e.asid, e.page, e.lf⟩]) from by rw [slC_append]; simp [slC]] at h1
            rw [show L.length + 1 = (L ++ [(⟨a, k, e.asid, e.page, e.lf⟩ : Sl)]).length from by simp] at h1
            exact h1
        · obtain rfl : m = k := by omega
          have HNX : Hid (listT 0 (T.take a) ++ listW a 0 ((T.getD a []).take m) = listT 0 (T.take (a + 1))) := Lib.hid (by
            have hs : T.getD a [] = T[a]'HAL.out := by rw [List.getD_eq_getElem?_getD, List.getElem?_eq_getElem HAL.out]; rfl
            have ht : (T.getD a []).take m = T[a]'HAL.out := by rw [List.take_of_length_le (Nat.le_of_eq HWY.out), hs]
            rw [ht, List.take_add_one, List.getElem?_eq_getElem HAL.out]
            show _ = listT 0 (T.take a ++ [T[a]'HAL.out])
            rw [listT_snoc, List.length_take, Nat.min_eq_left (Nat.le_of_lt HAL.out), Nat.zero_add])
          go_wp2_with fail
          exact ⟨⟨a + 1, hal, by go_num, by rw [← HNX.out]; exact ⟨HO2.out, HE2.out⟩⟩, by simp [intOf]; omega⟩
    · obtain rfl : n = a := by omega
      go_wp2
      go_ret
      refine ⟨_, rfl, ?_⟩
      have h1 := HO1.out
      rw [HN.out, List.take_length] at h1
      exact ⟨h1, HE1.out⟩
end Go.Proofs.YtophcgbddccpeaaGreat
