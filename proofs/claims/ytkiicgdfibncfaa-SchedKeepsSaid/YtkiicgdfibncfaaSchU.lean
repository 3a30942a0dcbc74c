/- SchedKeeps. -/
import Derived.Test.YtkiicgdfibncfaaSchS
import Derived.Test.YtkiicgdfibncfaaSchT
import Derived.DeepKeys
namespace Go.Proofs.Ytkiicgdfibncfaa
open Go.RowKit Go.ChangeShapes

theorem Parts.part_rd {base lb : Nat} {w : World} {n : Nat} {l : List A3} {vs : List Value} (h : Parts base lb w n l vs) (i : Nat) (hi : i ≤ n) : ∃ v, vs[i]? = some v ∧ w.cell? ⟨lb, i, none⟩ = some v ∧ RdA (fun g => base ≤ g ∧ g < w.heap.size) w v (part n l i) := by
  obtain ⟨v, hv, ho⟩ := h.own i hi
  refine ⟨v, hv, ?_, ho.rdB⟩
  rw [h.row.cellAt i (by omega)]
  exact hv
theorem key1 (n : Int) (h : (Lit.int .i64 n).wf = true) : Try.prog.keyLits 4 3 [.int .i64 n] = some [.int .i64 n] := by
  unfold Program.keyLits
  simp [Try.underlying3, h]
theorem key7 (a b c d e f g : Int) (ha : (Lit.int .i64 a).wf = true) (hb : (Lit.int .i64 b).wf = true) (hc : (Lit.int .i64 c).wf = true) (hd : (Lit.int .i64 d).wf = true) (he : (Lit.int .i64 e).wf = true) (hf : (Lit.int .i64 f).wf = true) (hg : (Lit.int .i64 g).wf = true) :
    Try.prog.keyLits 5 38 [.int .i64 a, .int .i64 b, .int .i64 c, .int .i64 d, .int .i64 e, .int .i64 f, .int .i64 g] = some [.int .i64 a, .int .i64 b, .int .i64 c, .int .i64 d, .int .i64 e, .int .i64 f, .int .i64 g] := by
  have e7 : Try.prog.cellsOf 38 = 7 := by kernel_rfl
  have e1 : Try.prog.cellsOf 3 = 1 := by kernel_rfl
  unfold Program.keyLits
  simp [Try.underlying38, e7, e1, List.range, List.range.loop, key1 _ ha, key1 _ hb, key1 _ hc, key1 _ hd, key1 _ he, key1 _ hf, key1 _ hg]
theorem arr7_eq (W : World) (a b c d e f g : Int) (ha : (Lit.int .i64 a).wf = true) (hb : (Lit.int .i64 b).wf = true) (hc : (Lit.int .i64 c).wf = true) (hd : (Lit.int .i64 d).wf = true) (he : (Lit.int .i64 e).wf = true) (hf : (Lit.int .i64 f).wf = true) (hg : (Lit.int .i64 g).wf = true) :
    (Op.equalIn 10000 38 (.agg #[.int .i64 a, .int .i64 b, .int .i64 c, .int .i64 d, .int .i64 e, .int .i64 f, .int .i64 g]) (.agg #[.int .i64 a, .int .i64 b, .int .i64 c, .int .i64 d, .int .i64 e, .int .i64 f, .int .i64 g])).run Try.prog W = .ok true W := by
  have h := run_equalIn_deep (P := Try.prog) 9995 5 38 (by kernel_rfl)
  have hla := key7 a b c d e f g ha hb hc hd he hf hg
  obtain ⟨r, hr, hi⟩ := h W 5 5 _ _ _ _ (by kernel_rfl : (Value.agg #[.int .i64 a, .int .i64 b, .int .i64 c, .int .i64 d, .int .i64 e, .int .i64 f, .int .i64 g]).formed Try.prog 38 = true) (by kernel_rfl : (Value.agg #[.int .i64 a, .int .i64 b, .int .i64 c, .int .i64 d, .int .i64 e, .int .i64 f, .int .i64 g]).formed Try.prog 38 = true) hla hla
  rw [hi.2 rfl] at hr
  exact hr
theorem cnt_wf (l : List A3) (k : Nat) (h : l.length ≤ 200) : (Lit.int .i64 (cnt l k : Int)).wf = true := by
  have := cnt_le l k
  simp [Lit.wf, IntKind.min, IntKind.max, IntKind.signed, IntKind.bits]
  omega
def KpRel (W1 w : World) (k : Nat) (wr : World) : Prop := Below w.heap.size w wr
set_option maxRecDepth 100000 in
set_option maxHeartbeats 1500000 in
theorem Law.SchedKeeps (seed : Int) (a : Option Addr) (len cap : Nat) (nodes : Int) (W : World) (_ : (Lit.int .u64 seed).wf = true) (hz : IsRows [.int .i64, .int .i64, .int .i64] W a len cap) (_ : 24 * cap ≤ 140737488351232) (_ : (Lit.int .i64 nodes).wf = true) :
    Calls Try.prog 7 #[.int .u64 seed, .slice a len cap, .int .i64 nodes] W fun e w' => e = .returned (.bool true) ∧ Below W.heap.size W w' := by
  obtain ⟨l, hll, hrd⟩ := rows_acts hz
  have HRD := Lib.hid hrd
  have HLL := Lib.hid hll
  have hcap : len ≤ 9223372036854775807 := by
    rcases hz with ⟨_, rfl, _⟩ | ⟨_, _, h1, h2, _⟩
    · omega
    · unfold maxLen at h2; omega
  clear hrd hll hz
  by_cases h9 : 200 < len
  · have h9' : (200 : Int) < (len : Int) := by omega
    go_enter Try.func7, Try.ntmps7
    go_wp2_with fail
    refine (first_ok _).mono ?_
    rintro e w1 ⟨rfl, hb1⟩
    have HB1 := Lib.hid hb1
    clear hb1
    go_wp2
    go_ret
    exact ⟨rfl, HB1.out⟩
  · have h9' : ¬ (200 : Int) < (len : Int) := by omega
    have hl9 : len ≤ 200 := by omega
    have m1 := clamp (a := nodes) rfl
    have m2 := clamp16 nodes.toNat
    have hN16 : min nodes.toNat 16 ≤ 16 := by omega
    have HSP := Lib.hid (fun v (l : List A3) W => split_any v nodes l W)
    generalize min nodes.toNat 16 = N at *
    generalize nodes.toNat = M at *
    clear h9
    go_enter Try.func7, Try.ntmps7
    go_wp2_with fail
    refine (first_ok _).mono ?_
    rintro e w1 ⟨rfl, hb1⟩
    have HB1 := Lib.hid hb1
    have HRD1 := Lib.hid ((HRD.out.keeps (Keeps.of_below (F := fun _ => False) hb1) (fun _ _ h => h)).mono (G := fun g => g < w1.heap.size) (fun g hg => Nat.lt_of_lt_of_le hg hb1.size))
    clear hb1
    go_wp2_with fail
    refine (HSP.out _ l _ HRD1.out (by rw [HLL.out]; omega)).mono ?_
    rintro e w2 ⟨u, rfl, lb, vs, rfl, hP, hb2⟩
    have HP := Lib.hid hP
    have HB2 := Lib.hid (HB1.out.trans (hb2.mono HB1.out.size))
    have HRD2 := Lib.hid ((HRD1.out.keeps (Keeps.of_below (F := fun _ => False) hb2) (fun _ _ h => h)).mono (G := fun g => g < w2.heap.size) (fun g hg => Nat.lt_of_lt_of_le hg hb2.size))
    have HS2 := Lib.hid hb2.size
    clear hP hb2
    go_wp2_with fail
    refine (weave_any seed _ (splitL N l) _ HP.out.rd (by simp [splitL]; omega) (by rw [tot_split, HLL.out]; omega)).mono ?_
    rintro e w3 ⟨v, rfl, hO3, hb3⟩
    rw [tot_split] at hO3
    generalize hwv : weave l.length (splitL N l) seed = wv at hO3
    have HWV := Lib.hid hwv
    have HWL : Hid (wv.length = len) := Lib.hid (by rw [← hwv, weave_len _ _ _ (tot_split N l), HLL.out])
    have HCA : Hid (cntA wv = cntA l) := Lib.hid (by rw [← hwv]; exact cntA_weave N l seed)
    have HPA : Hid (∀ i, i ≤ N → part N wv i = part N l i) := Lib.hid (fun i hi => by rw [← hwv]; exact part_again N l seed i hi)
    clear hwv
    have HO3 := Lib.hid hO3
    have HP3 := Lib.hid (HP.out.keeps (Keeps.of_below (F := fun _ => False) hb3) (fun _ h => h.elim))
    have HB3 := Lib.hid (HB2.out.trans (hb3.mono HB2.out.size))
    have HRD3 := Lib.hid ((HRD2.out.keeps (Keeps.of_below (F := fun _ => False) hb3) (fun _ _ h => h)).mono (G := fun g => g < w3.heap.size) (fun g hg => Nat.lt_of_lt_of_le hg hb3.size))
    obtain ⟨Av, cv, rfl, _⟩ := hO3.rd
    rw [HWL.out]
    rw [HWL.out] at HO3
    clear hO3 hb3
    go_wp2_with fail
    refine (kinds_any _ wv _ (HO3.out.rdB.mono (fun g hg => hg.2)) (by rw [HWL.out]; omega)).mono ?_
    rintro e w4 ⟨rfl, hb4⟩
    rw [HCA.out]
    have HO4 := Lib.hid (HO3.out.rdB.keeps (Keeps.of_below (F := fun _ => False) hb4) (fun _ _ h => h))
    have HP4 := Lib.hid (HP3.out.keeps (Keeps.of_below (F := fun _ => False) hb4) (fun _ h => h.elim))
    have HB4 := Lib.hid (HB3.out.trans (hb4.mono HB3.out.size))
    have HRD4 := Lib.hid ((HRD3.out.keeps (Keeps.of_below (F := fun _ => False) hb4) (fun _ _ h => h)).mono (G := fun g => g < w4.heap.size) (fun g hg => Nat.lt_of_lt_of_le hg hb4.size))
    have HS4 := Lib.hid hb4.size
    clear hb4
    go_wp2_with fail
    refine (kinds_any _ l _ HRD4.out (by rw [HLL.out]; omega)).mono ?_
    rintro e w5 ⟨rfl, hb5⟩
    have HO5 := Lib.hid ((HO4.out.keeps (Keeps.of_below (F := fun _ => False) hb5) (fun _ _ h => h)).mono (G := fun g => g < w5.heap.size) (fun g hg => by have := HS4.out; have := hb5.size; omega))
    have HP5 := Lib.hid (HP4.out.keeps (Keeps.of_below (F := fun _ => False) hb5) (fun _ h => h.elim))
    have HB5 := Lib.hid (HB4.out.trans (hb5.mono HB4.out.size))
    clear hb5
    unfold cntA
    have hl200 : l.length ≤ 200 := by rw [HLL.out]; exact hl9
    have heq := fun W => arr7_eq W (cnt l 0) (cnt l 1) (cnt l 2) (cnt l 3) (cnt l 4) (cnt l 5) (cnt l 6) (cnt_wf l 0 hl200) (cnt_wf l 1 hl200) (cnt_wf l 2 hl200) (cnt_wf l 3 hl200) (cnt_wf l 4 hl200) (cnt_wf l 5 hl200) (cnt_wf l 6 hl200)
    clear hl200
    go_wp2_with fail
    clear heq
    refine (HSP.out _ wv _ HO5.out (by rw [HWL.out]; omega)).mono ?_
    rintro e w6 ⟨u6, rfl, lb6, vs6, rfl, hQ, hb6⟩
    have HQ := Lib.hid hQ
    have HP6 := Lib.hid (HP5.out.keeps (Keeps.of_below (F := fun _ => False) hb6) (fun _ h => h.elim))
    have HB6 := Lib.hid (HB5.out.trans (hb6.mono HB5.out.size))
    clear hQ hb6
    go_wp2_with fail
    have m3 : ((N : Int) + 1 - 1) = (N : Int) := by omega
    go_loopw [50] (fun i wr => ∃ k : Nat, k ≤ N + 1 ∧ i = .int .i64 k ∧ Below w6.heap.size w6 wr) (fun i _ => N + 1 - (intOf i).toNat)
    case atStart => exact ⟨0, by omega, rfl, Below.refl _ _⟩
    case round =>
      obtain ⟨k, hk, rfl, hbw⟩ := hrel
      have HW := Lib.hid hbw
      clear hbw
      by_cases hkl : k < N + 1
      · have HPr := Lib.hid (HP6.out.keeps (Keeps.of_below (F := fun _ => False) HW.out) (fun _ h => h.elim))
        have HQr := Lib.hid (HQ.out.keeps (Keeps.of_below (F := fun _ => False) HW.out) (fun _ h => h.elim))
        obtain ⟨u, hu, hcu, hru⟩ := HPr.out.part_rd k (by omega)
        obtain ⟨v, hv, hcv, hrv⟩ := HQr.out.part_rd k (by omega)
        rw [HPA.out k (by omega)] at hrv
        obtain ⟨UA, uc, rfl, _, hrc⟩ := (show RdA _ wr u (part N l k) from hru)
        obtain ⟨VA, vc, rfl, _, _⟩ := (show RdA _ wr v (part N l k) from hrv)
        have hlp : (HPr.out.row.lt _ rfl).2 = (HPr.out.row.lt _ rfl).2 := rfl
        have hlb : lb < wr.heap.size := (HPr.out.row.lt _ rfl).2
        have hlb6 : lb6 < wr.heap.size := (HQr.out.row.lt _ rfl).2
        have HRU := Lib.hid hru
        have HRV := Lib.hid hrv
        have HRC := Lib.hid hrc
        have HLP : Hid ((part N l k).length ≤ 200) := Lib.hid (Nat.le_trans (List.length_filter_le _ _) (by rw [HLL.out]; exact hl9))
        have HPH := Lib.hid (fun (hk : k < N) x hx => part_has N l k hk x hx)
        have HNth := Lib.hid (fun (j : Nat) x (h : (part N l k)[j]? = some x) => (List.mem_of_getElem? h : x ∈ part N l k))
        have hlp := HLP.out
        generalize hpl : (part N l k).length = pl at *
        have HPL := Lib.hid hpl
        clear hu hv hru hrv hrc hpl
        go_wp2_with fail
        have hkN : (k : Int) < (N : Int) + 1 := by omega
        have s0 := fun W' (h : Ext wr.drew W') => (h.cell (p := ⟨lb, k, none⟩) hlb).trans hcu
        have s1 := fun W' (h : Ext wr.drew W') => (h.cell (p := ⟨lb6, k, none⟩) hlb6).trans hcv
        refine wp_region_plan [(0, false), (1, false), (2, false), (3, false), (4, false), (5, false), (6, false), (7, false), (8, true), (9, false)] (by kernel_rfl) (by kernel_rfl) (fun _ d _ _ _ h => by cases d <;> exact h) ?_
        iterate 8 (refine plan_take (v := ?_) rfl (by kernel_rfl) ?_ ?_; rotate_left; (focus (intro w' hw'; go_simp; try with_reducible rfl)); simp only [Act.put, List.setIfInBounds_toArray, List.set_cons_zero, List.set_cons_succ])
        clear s0 s1
        refine plan_call rfl (by kernel_rfl) (by go_simp; exact ⟨rfl, rfl⟩) ?_
        have hru := HRU.out
        have hrv := HRV.out
        refine (same_any _ _ _ _ (part N l k) _ (hru.keeps ((Keeps.refl (fun _ => False) wr).drew) (fun _ _ h => h)) (hrv.keeps ((Keeps.refl (fun _ => False) wr).drew) (fun _ _ h => h)) (by rw [HPL.out]; omega)).mono ?_
        clear hru hrv
        rintro e w7 ⟨rfl, hb7⟩
        have k7 : Keeps (fun _ => False) wr w7 := ((Keeps.refl (fun _ => False) wr).drew).same (Keeps.of_below hb7)
        have hcu7 : w7.cell? ⟨lb, k, none⟩ = some (.slice UA pl uc) := (World.cell?_of_block (a := ⟨lb, k, none⟩) (k7.block lb hlb (fun h => h))).trans hcu
        have hl7 : lb < w7.heap.size := Nat.lt_of_lt_of_le hlb k7.size
        have HK7 := Lib.hid k7
        have HW7 := Lib.hid (HW.out.drew.trans (hb7.mono HW.out.drew.size))
        refine ⟨_, rfl, hb7, ?_⟩
        simp only [Act.put, List.setIfInBounds_toArray, List.set_cons_zero, List.set_cons_succ]
        clear hb7 k7
        iterate 1 (refine plan_take (v := ?_) rfl (by kernel_rfl) ?_ ?_; rotate_left; (focus (intro w' hw'; go_simp; try with_reducible rfl)); simp only [Act.put, List.setIfInBounds_toArray, List.set_cons_zero, List.set_cons_succ])
        refine plan_end ?_
        go_wp2_with fail
        go_loopw [68] (fun i w => ∃ j : Nat, j ≤ pl ∧ i = .int .i64 j ∧ Below w7.heap.size w7 w) (fun i _ => pl - (intOf i).toNat)
        case atStart => exact ⟨0, by omega, rfl, Below.refl _ _⟩
        case round =>
          rename World => w8
          obtain ⟨j, hj, rfl, hbw2⟩ := hrel
          have HW2 := Lib.hid hbw2
          clear hbw2
          by_cases hjl : j < pl
          · have hjp : j < (part N l k).length := by rw [HPL.out]; exact hjl
            obtain ⟨x, hx⟩ : ∃ x, (part N l k)[j]? = some x := ⟨_, List.getElem?_eq_getElem hjp⟩
            obtain ⟨b, o, rfl, hbB, hbl, hcs⟩ := HRC.out (by intro e; rw [e] at hjp; simp at hjp)
            obtain ⟨d0, d1, d2⟩ := hcs j x hx
            have e8 : ∀ i, w8.cell? ⟨b, i, none⟩ = wr.cell? ⟨b, i, none⟩ := fun i => by
              rw [HW2.out.cell (p := ⟨b, i, none⟩) (Nat.lt_of_lt_of_le hbl HK7.out.size)]
              exact World.cell?_of_block (a := ⟨b, i, none⟩) (HK7.out.block b hbl (fun h => h))
            rw [← e8] at d0 d1 d2
            have hb8 : b < w8.heap.size := Nat.lt_of_lt_of_le (Nat.lt_of_lt_of_le hbl HK7.out.size) HW2.out.size
            have hmem := HNth.out j x hx
            clear hcs hx e8
            obtain ⟨xa, xb, xc⟩ := x
            by_cases hkN2 : k < N
            · obtain ⟨q0, q1⟩ := HPH.out hkN2 _ hmem
              have q0' : xa = 0 := q0
              have q1' : xb = (k : Int) := q1
              subst q0'
              subst q1'
              clear q0 q1 hmem
              have hkN3 : (k : Int) < (N : Int) := by omega
              go_wp2_with fail
              go_roundw
              case rel => exact ⟨j + 1, by omega, by go_num, HW2.out.alloc HW2.out.size _⟩
              case measure => simp [intOf]; omega
            · have hkN3 : ¬ (k : Int) < (N : Int) := by omega
              clear hmem
              by_cases ha : xa = 0
              · subst ha
                by_cases hb : xb = (k : Int)
                · subst hb
                  go_wp2_with fail
                  go_roundw
                  case rel => exact ⟨j + 1, by omega, by go_num, HW2.out.alloc HW2.out.size _⟩
                  case measure => simp [intOf]; omega
                · have hb' : (xb == (k : Int)) = false := by simpa using hb
                  go_wp2_with fail
                  go_roundw
                  case rel => exact ⟨j + 1, by omega, by go_num, HW2.out.alloc HW2.out.size _⟩
                  case measure => simp [intOf]; omega
              · have ha' : (xa == 0) = false := by simpa using ha
                go_wp2_with fail
                go_roundw
                case rel => exact ⟨j + 1, by omega, by go_num, HW2.out.alloc HW2.out.size _⟩
                case measure => simp [intOf]; omega
          · obtain rfl : j = pl := by omega
            go_wp2_with fail
            go_roundw
            case rel => exact ⟨k + 1, by omega, by go_num, HW7.out.trans (HW2.out.mono HW7.out.size)⟩
            case measure => simp [intOf]; omega
      · obtain rfl : k = N + 1 := by omega
        go_wp2
        go_ret
        exact ⟨rfl, HB6.out.trans (HW.out.mono HB6.out.size)⟩
end Go.Proofs.Ytkiicgdfibncfaa
