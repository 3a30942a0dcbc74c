/- SchedWeaves, SchedKeeps. -/
import Derived.Test.YtkiicgdfibncfaaSchQ
import Derived.Test.YtkiicgdfibncfaaSchR
import Derived.Test.YtkiicgdfibncfaaORows
namespace Go.Proofs.Ytkiicgdfibncfaa
open Go.RowKit Go.ChangeShapes

def numAt (w : World) (b o : Nat) : Int := match w.cell? ⟨b, o, none⟩ with
  | some (.int _ x) => x
  | _ => 0
def listAt (w : World) (b o n : Nat) : List A3 := (List.range n).map (fun i => (numAt w b (o + i * 3), numAt w b (o + i * 3 + 1), numAt w b (o + i * 3 + 2)))
theorem rd_of_cells {w : World} {x : Addr} {len cap : Nat} (hl : len ≤ cap) (h : ∀ i, i < cap → ∀ j, j < 3 → ∃ z, w.cell? (x.add (i * 3 + j)) = some (.int .i64 z)) :
    ∃ l, l.length = len ∧ RdA (fun g => g < w.heap.size) w (.slice (some x) len cap) l := by
  rcases Nat.eq_zero_or_pos len with rfl | hp
  · exact ⟨[], rfl, rda_nil _ _ _ _⟩
  · obtain ⟨z0, h0⟩ := h 0 (by omega) 0 (by omega)
    obtain ⟨b, o, spot⟩ := x
    have hspot : spot = none := by simpa [Addr.add] using World.cell?_spot h0
    subst hspot
    have ea : ∀ k, (⟨b, o, none⟩ : Addr).add k = ⟨b, o + k, none⟩ := fun k => by unfold Addr.add; split <;> simp_all
    have hb : b < w.heap.size := by rw [ea] at h0; exact World.block_lt_of_cell? _ _ h0
    have hn : ∀ i, i < cap → ∀ j, j < 3 → w.cell? ⟨b, o + (i * 3 + j), none⟩ = some (.int .i64 (numAt w b (o + (i * 3 + j)))) := fun i hi j hj => by
      obtain ⟨z, hz⟩ := h i hi j hj
      rw [ea] at hz
      have : numAt w b (o + (i * 3 + j)) = z := by unfold numAt; rw [hz]
      rw [this]
      exact hz
    refine ⟨listAt w b o len, by simp [listAt], some ⟨b, o, none⟩, cap, by simp [listAt], by simpa [listAt] using hl, fun _ => ⟨b, o, rfl, hb, hb, fun k x hx => ?_⟩⟩
    have hk : k < len := by simpa [listAt] using (List.getElem?_eq_some_iff.1 hx).1
    have hxe : x = (numAt w b (o + k * 3), numAt w b (o + k * 3 + 1), numAt w b (o + k * 3 + 2)) := by
      unfold listAt at hx
      rw [List.getElem?_map, List.getElem?_range hk] at hx
      simpa using hx.symm
    subst hxe
    exact ⟨by simpa using hn k (by omega) 0 (by omega), by simpa [Nat.add_assoc] using hn k (by omega) 1 (by omega), by simpa [Nat.add_assoc] using hn k (by omega) 2 (by omega)⟩
theorem k3 {α : Type} (a : α) (j : Nat) (hj : j < 3) : ([a, a, a] : List α)[j]? = some a := by
  rcases (show j = 0 ∨ j = 1 ∨ j = 2 by omega) with rfl | rfl | rfl <;> rfl
theorem rows_acts {w : World} {a : Option Addr} {len cap : Nat} (h : IsRows [.int .i64, .int .i64, .int .i64] w a len cap) : ∃ l, l.length = len ∧ RdA (fun g => g < w.heap.size) w (.slice a len cap) l := by
  rcases h with ⟨rfl, rfl, rfl⟩ | ⟨x, rfl, hl, hm, hc⟩
  · exact ⟨[], rfl, rda_nil _ _ _ _⟩
  · exact rd_of_cells hl (fun i hi j hj => by
      obtain ⟨v, hv, z, rfl, _⟩ := hc i hi j _ (k3 _ j hj)
      exact ⟨z, hv⟩)
theorem introws_acts {w : World} {a : Option Addr} {len cap : Nat} (h : IntRows [.i64, .i64, .i64] w a len cap) : ∃ l, l.length = len ∧ RdA (fun g => g < w.heap.size) w (.slice a len cap) l := by
  rcases h with ⟨rfl, rfl, rfl⟩ | ⟨x, rfl, hl, hm, hc⟩
  · exact ⟨[], rfl, rda_nil _ _ _ _⟩
  · exact rd_of_cells hl (fun i hi j hj => by
      obtain ⟨z, hv, _⟩ := hc i hi j _ (k3 _ j hj)
      exact ⟨z, hv⟩)
theorem choose_list {α : Type} : ∀ (n : Nat) (P : Nat → α → Prop), (∀ i, i < n → ∃ x, P i x) → ∃ l : List α, l.length = n ∧ ∀ i, i < n → ∃ x, l[i]? = some x ∧ P i x
  | 0, P, h => ⟨[], rfl, fun i hi => by omega⟩
  | n + 1, P, h => by
    obtain ⟨l, hl, hp⟩ := choose_list n P (fun i hi => h i (by omega))
    obtain ⟨x, hx⟩ := h n (by omega)
    refine ⟨l ++ [x], by simp [hl], fun i hi => ?_⟩
    rcases Nat.lt_or_ge i n with h1 | h1
    · obtain ⟨y, hy, hpy⟩ := hp i h1
      exact ⟨y, by rw [List.getElem?_append_left (by omega)]; exact hy, hpy⟩
    · obtain rfl : i = n := by omega
      exact ⟨x, by rw [List.getElem?_append_right (by omega), hl, Nat.sub_self]; rfl, hx⟩
theorem rows_ll {w : World} {a : Option Addr} {len cap : Nat} (h : IsRows [.structs [.i64, .i64, .i64]] w a len cap) : ∃ Ls : List (List A3), Ls.length = len ∧ RdLL w.heap.size w (.slice a len cap) Ls := by
  rcases h with ⟨rfl, rfl, rfl⟩ | ⟨x, rfl, hl, hm, hc⟩
  · exact ⟨[], rfl, none, 0, [], rfl, Reads.none_, rfl, fun i hi => absurd hi (Nat.not_lt_zero _)⟩
  · obtain ⟨ps, hpl, hp⟩ := choose_list len (fun i (p : Value × List A3) => w.cell? (x.add i) = some p.1 ∧ RdA (fun g => g < w.heap.size) w p.1 p.2) (fun i hi => by
      obtain ⟨v, hv, A, l, c, rfl, hr⟩ := hc i (by omega) 0 _ rfl
      obtain ⟨l', hl', hrd⟩ := introws_acts hr
      exact ⟨(.slice A l c, l'), by simpa using hv, hrd⟩)
    have hsub : ∀ i p, ps[i]? = some p → subs (ps.map (·.2)) i = p.2 := fun i p h => by
      unfold subs
      rw [List.getD_eq_getElem?_getD, List.getElem?_map, h]
      rfl
    refine ⟨ps.map (·.2), by simp [hpl], some x, cap, ps.map (·.1), by simp [hpl], ⟨by simp, fun h0 => ⟨x, rfl, ?_, fun j u hu => ?_⟩⟩, by simp, fun i hi => ?_⟩
    · obtain ⟨p, hp1, hp2, _⟩ := hp 0 (by simp [hpl] at h0; omega)
      have := World.block_lt_of_cell? _ _ hp2
      simpa [block_of_add] using this
    · rw [List.getElem?_map] at hu
      cases hpj : ps[j]? with
      | none => rw [hpj] at hu; simp at hu
      | some p =>
        rw [hpj] at hu
        injection hu with hu
        subst hu
        obtain ⟨p', hp1, hp2, _⟩ := hp j (by have := (List.getElem?_eq_some_iff.1 hpj).1; omega)
        rw [hpj] at hp1
        injection hp1 with hp1
        subst hp1
        exact hp2
    · obtain ⟨p, hp1, hp2, hp3⟩ := hp i (by simpa [hpl] using hi)
      refine ⟨p.1, by rw [List.getElem?_map, hp1]; rfl, ?_⟩
      rw [hsub i p hp1]
      exact hp3
theorem RdLL.below {w w' : World} {v : Value} {Ls : List (List A3)} (h : RdLL w.heap.size w v Ls) (hb : Below w.heap.size w w') : RdLL w'.heap.size w' v Ls := by
  obtain ⟨A, c, vs, rfl, hR, hV⟩ := h
  refine ⟨A, c, vs, rfl, (hR.below hb).more hb.size, hV.1, fun i hi => ?_⟩
  obtain ⟨v, hv, hr⟩ := hV.2 i hi
  exact ⟨v, hv, (hr.keeps (Keeps.of_below (F := fun _ => False) hb) (fun _ _ h => h)).mono (fun g hg => Nat.lt_of_lt_of_le hg hb.size)⟩
theorem tot_le : ∀ (l : List Nat) (b : Nat), (∀ x ∈ l, x ≤ b) → tot l ≤ l.length * b
  | [], b, h => by simp [tot]
  | x :: l, b, h => by
    have h1 := tot_le l b (fun y hy => h y (List.mem_cons_of_mem _ hy))
    have h2 := h x (List.mem_cons_self ..)
    simp only [tot, List.length_cons, Nat.succ_mul]
    omega
set_option maxHeartbeats 4000000 in
theorem Law.SchedWeaves (seed : Int) (a : Option Addr) (len cap : Nat) (W : World) (_ : (Lit.int .u64 seed).wf = true) (hz : IsRows [.structs [.i64, .i64, .i64]] W a len cap) (_ : 24 * cap ≤ 140737488351232) :
    Calls Try.prog 6 #[.int .u64 seed, .slice a len cap] W fun e w' => e = .returned (.bool true) ∧ Below W.heap.size W w' := by
  obtain ⟨Ls, hll, hrd⟩ := rows_ll hz
  have HRD := Lib.hid hrd
  have HLL := Lib.hid hll
  have hcap : len ≤ 9223372036854775807 := by
    rcases hz with ⟨_, rfl, _⟩ | ⟨_, _, h1, h2, _⟩
    · omega
    · unfold maxLen at h2; omega
  clear hrd hll hz
  by_cases h9 : 9 < len
  · have h9' : (9 : Int) < (len : Int) := by omega
    go_enter Try.func6, Try.ntmps6
    go_wp2_with fail
    refine (first_ok _).mono ?_
    rintro e w1 ⟨rfl, hb1⟩
    have HB1 := Lib.hid hb1
    clear hb1
    go_wp2
    go_ret
    exact ⟨rfl, HB1.out⟩
  · have h9' : ¬ (9 : Int) < (len : Int) := by omega
    have hl9 : len ≤ 9 := by omega
    go_enter Try.func6, Try.ntmps6
    go_wp2_with fail
    refine (first_ok _).mono ?_
    rintro e w1 ⟨rfl, hb1⟩
    have HB1 := Lib.hid hb1
    have HRD1 := Lib.hid (HRD.out.below hb1)
    clear hb1
    obtain ⟨A', c', vs, hve, hR, hV⟩ := HRD1.out
    injection hve with hve1 hve2 hve3
    subst hve1
    subst hve3
    have HR := Lib.hid hR
    have HV := Lib.hid hV
    clear hR hV hve2
    go_wp2_with fail
    go_loop [14] (fun i => ∃ k : Nat, k ≤ len ∧ i = .int .i64 k ∧ ∀ j, j < k → (subs Ls j).length ≤ 40) (fun i => len - (intOf i).toNat)
    case atStart => exact ⟨0, by omega, rfl, fun j hj => by omega⟩
    case round =>
      obtain ⟨k, hk, rfl, h40⟩ := hrel
      have H40 := Lib.hid h40
      clear h40
      by_cases hkl : k < len
      · have hR := HR.out
        rw [HLL.out] at hR
        obtain ⟨b, o, rfl, hbB, hbl, hvs⟩ := reads_form hR (by omega)
        obtain ⟨u, hu, hrd⟩ := HV.out.2 k (by rw [HLL.out]; exact hkl)
        obtain ⟨UA, uc, rfl⟩ := rda_one hrd
        have hcell := (hvs k hkl).trans hu
        clear hR hvs hu hrd
        by_cases hle : (subs Ls k).length ≤ 40
        · have hle' : ¬ (40 : Int) < ((subs Ls k).length : Int) := by omega
          have HLE := Lib.hid hle
          clear hle
          generalize hsl : (subs Ls k).length = sl at *
          have HSL := Lib.hid hsl
          clear hsl
          go_wp2_with fail
          go_round
          case rel => exact ⟨k + 1, hkl, by go_num, fun j hj => by
            rcases Nat.lt_or_ge j k with h | h
            · exact H40.out j h
            · obtain rfl : j = k := by omega
              rw [HSL.out]; exact HLE.out⟩
          case measure => simp [intOf]; omega
        · have hle' : (40 : Int) < ((subs Ls k).length : Int) := by omega
          generalize (subs Ls k).length = sl at *
          go_wp2
          go_ret
          exact ⟨rfl, HB1.out⟩
      · obtain rfl : k = len := by omega
        have htot : tot (lens Ls) ≤ 360 := by
          have := tot_le (lens Ls) 40 (fun x hx => by
            obtain ⟨i, hi⟩ := List.getElem?_of_mem hx
            have h1 : i < (lens Ls).length := (List.getElem?_eq_some_iff.1 hi).1
            have h2 := lens_getD Ls i
            rw [List.getD_eq_getElem?_getD, hi] at h2
            have h3 := H40.out i (by rw [lens_length, HLL.out] at h1; exact h1)
            simp at h2
            omega)
          rw [lens_length, HLL.out] at this
          omega
        have HT := Lib.hid htot
        clear htot
        go_wp2_with fail
        refine (weave_any seed _ Ls _ HRD1.out (by rw [HLL.out]; omega) (by have := HT.out; omega)).mono ?_
        rintro e w2 ⟨u, rfl, ho2, hb2⟩
        have HO2 := Lib.hid ho2
        have HRD2 := Lib.hid (HRD1.out.below hb2)
        have HB2 := Lib.hid (HB1.out.trans (hb2.mono HB1.out.size))
        clear ho2 hb2
        go_wp2_with fail
        refine (rweave_any seed _ Ls _ HRD2.out (by rw [HLL.out]; omega) (by have := HT.out; omega)).mono ?_
        rintro e w3 ⟨v, rfl, ho3, hb3⟩
        have HO3 := Lib.hid ho3
        have HU3 := Lib.hid ((HO2.out.rdB).keeps (Keeps.of_below (F := fun _ => False) hb3) (fun _ _ h => h))
        have HB3 := Lib.hid (HB2.out.trans (hb3.mono HB2.out.size))
        clear ho3 hb3
        go_wp2_with fail
        refine (same_any _ _ u v _ _ HU3.out HO3.out.rdB (by rw [weave_len _ _ _ rfl]; have := HT.out; omega)).mono ?_
        rintro e w4 ⟨rfl, hb4⟩
        have HB4 := Lib.hid (HB3.out.trans (hb4.mono HB3.out.size))
        clear hb4
        go_wp2
        go_ret
        exact ⟨rfl, HB4.out⟩
end Go.Proofs.Ytkiicgdfibncfaa
