/- The reference's bag: Hurt. -/
import Derived.Test.YtnnajaomajgoeaaNetS
namespace Go.Proofs.Ytnnajaomajgoeaa
open Go.RowKit Go.ChangeShapes

theorem strB_take (l : List Nat) (n : Nat) : (strB l).extract 0 n = strB (l.take n) := by
  apply ByteArray.ext
  rw [ByteArray.data_extract]
  simp [strB]
/-- An element of an own row is another. -/
theorem own_put {w : World} {base n cap g k : Nat} {t : TypeId} {Z : List (Pc × Value)} {x y : Pc × Value} (h : w.ownsRow base t 4 (.slice (some ⟨g, 0, none⟩) n cap) n (pcC Z)) (hx : Z[k]? = some x) :
    ((((w.setCell ⟨g, k * 4, none⟩ (.int .i64 y.1.src)).setCell ⟨g, k * 4 + 1, none⟩ (.int .i64 y.1.dst)).setCell ⟨g, k * 4 + 2, none⟩ y.2).setCell ⟨g, k * 4 + 3, none⟩ (.bool y.1.hurt)).ownsRow base t 4 (.slice (some ⟨g, 0, none⟩) n cap) n (pcC (Z.set k y)) := by
  have hk := (List.getElem?_eq_some_iff.1 hx).1
  have hl := h.1
  rw [pcC_length] at hl
  refine ⟨by rw [pcC_length, List.length_set]; exact hl, ?_⟩
  rcases h.2 with ⟨e, h0⟩ | ⟨g', c', cur, e, hb, hg, hc, hm, hs, ht⟩
  · cases e
  · injection e with e1 e2 e3
    injection e1 with e1
    injection e1 with e1
    subst e1 e3
    have hgb : Blk w g t cur := hg
    refine .inr ⟨g, cap, _, rfl, hb, Blkf.set_ (Blkf.set_ (Blkf.set_ (Blkf.set_ hgb _ _) _ _) _ _) _ _, hc, hm, by simp [hs], ?_⟩
    rw [Array.toList_setIfInBounds, Array.toList_setIfInBounds, Array.toList_setIfInBounds, Array.toList_setIfInBounds, set_take (by omega), set_take (by omega), set_take (by omega), set_take (by omega), ht]
    exact pcC_put Z k x y hx
theorem own_there {w : World} {base n cap g k : Nat} {t : TypeId} {Z : List (Pc × Value)} {x : Pc × Value} (h : w.ownsRow base t 4 (.slice (some ⟨g, 0, none⟩) n cap) n (pcC Z)) (hx : Z[k]? = some x) :
    w.cell? ⟨g, k * 4, none⟩ = some (.int .i64 x.1.src) ∧ w.cell? ⟨g, k * 4 + 1, none⟩ = some (.int .i64 x.1.dst) ∧ w.cell? ⟨g, k * 4 + 2, none⟩ = some x.2 ∧ w.cell? ⟨g, k * 4 + 3, none⟩ = some (.bool x.1.hurt) ∧ (∀ i, w.frozen? ⟨g, i, none⟩ = false) ∧ g < w.heap.size ∧ base ≤ g := by
  have hk := (List.getElem?_eq_some_iff.1 hx).1
  have hl := h.1
  rw [pcC_length] at hl
  rcases h.2 with ⟨e, h0⟩ | ⟨g', c', cur, e, hb, hg, hc, hm, hs, ht⟩
  · cases e
  · injection e with e1 e2 e3
    injection e1 with e1
    injection e1 with e1
    subst e1 e3
    have hgb : Blk w g t cur := hg
    rw [show n = Z.length by omega] at ht
    exact ⟨(hgb.cell _).trans (pcC_cell ht hx 0 (by decide)), (hgb.cell _).trans (pcC_cell ht hx 1 (by decide)), (hgb.cell _).trans (pcC_cell ht hx 2 (by decide)), (hgb.cell _).trans (pcC_cell ht hx 3 (by decide)), fun i => Blk.frozen hgb i, hgb.lt, hb⟩
theorem own_some {w : World} {base n : Nat} {t : TypeId} {v : Value} {xs : List Value} (h : w.ownsRow base t 4 v n xs) (hn : 0 < n) : ∃ g cap, v = .slice (some ⟨g, 0, none⟩) n cap := by
  rcases h.2 with ⟨e, h0⟩ | ⟨g', c', cur, e, _⟩
  · omega
  · exact ⟨g', c', e⟩
theorem rq_set (Q : List Pc) (k : Nat) (y : Pc) : rq (Q.set k y) = (rq Q).set k (y, .string (strB y.byt)) := by
  unfold rq
  rw [List.map_set]
theorem rhurt_fin {W Wp w2 : World} {xb k n c2 g2 : Nat} {Q : List Pc} {lost : Int} {F : Nat → Prop} {p : Pc} {l' : List Nat} {T : ByteArray} (h : RAt W xb Q lost F) (h0 : Below W.heap.size W Wp) (hc : Below Wp.heap.size Wp w2) (ho : w2.ownsRow Wp.heap.size 41 4 (.slice (some ⟨g2, 0, none⟩) n c2) n (pcC (rq Q))) (hx : Q[k]? = some p) (hT : T = strB l') (hn : n = Q.length) (hg : Wp.heap.size ≤ g2) :
    ∃ F', RAt (((((w2.setCell ⟨g2, k * 4, none⟩ (.int .i64 p.src)).setCell ⟨g2, k * 4 + 1, none⟩ (.int .i64 p.dst)).setCell ⟨g2, k * 4 + 2, none⟩ (.string T)).setCell ⟨g2, k * 4 + 3, none⟩ (.bool true)).setCell ⟨xb, 0, none⟩ (.slice (some ⟨g2, 0, none⟩) n c2)) xb (Q.set k ⟨p.src, p.dst, l', true⟩) lost F' ∧
      Moved F F' W (((((w2.setCell ⟨g2, k * 4, none⟩ (.int .i64 p.src)).setCell ⟨g2, k * 4 + 1, none⟩ (.int .i64 p.dst)).setCell ⟨g2, k * 4 + 2, none⟩ (.string T)).setCell ⟨g2, k * 4 + 3, none⟩ (.bool true)).setCell ⟨xb, 0, none⟩ (.slice (some ⟨g2, 0, none⟩) n c2)) := by
  subst hT
  have h3 := own_put ho (y := (⟨p.src, p.dst, l', true⟩, .string (strB l'))) (rq_get hx)
  have hs := ((((hc.setCell (p := ⟨g2, k * 4, none⟩) hg (.int .i64 p.src)).setCell (p := ⟨g2, k * 4 + 1, none⟩) hg (.int .i64 p.dst)).setCell (p := ⟨g2, k * 4 + 2, none⟩) hg (.string (strB l'))).setCell (p := ⟨g2, k * 4 + 3, none⟩) hg (.bool true))
  obtain ⟨F', hr, hm⟩ := (h.below h0).store hs (v' := .slice (some ⟨g2, 0, none⟩) n c2) (n := n) (Q' := Q.set k ⟨p.src, p.dst, l', true⟩) (by rw [rq_set]; exact h3) (by rw [List.length_set]; exact hn)
  exact ⟨F', hr, (Moved.of_below h0).trans hm⟩
theorem conv_str2 (w : World) (l : List Nat) (S : ByteArray) (m : Nat) (hl : ∀ i : Nat, l.getD i 0 < 256) (hS : S = strB l) (hm : m = l.length) : ∃ A c w', (convert 9 30 (.string S)).run Try.prog w = .ok (.slice A m c) w' ∧ Bts w' A l ∧ Below w.heap.size w w' := by
  subst hS hm
  obtain ⟨c, w', h1, h2, h3, _⟩ := conv_str w l hl
  exact ⟨_, c, w', h1, h2, h3⟩
section
variable (xb : Nat) (Q : List Pc) (lost : Int) (F : Nat → Prop) (W : World)
theorem rhurt_no0 (i n : Int) (cut : Bool) (h : RAt W xb Q lost F) (hi : hereB i Q.length = false) :
    Calls Try.prog 17 #[.pointer (some ⟨xb, 0, none⟩), .int .i64 i, .int .i64 n, .bool cut] W fun e w' => e = .returned (.bool false) ∧ W = w' := by
  have HB := Lib.hid h
  have HI := Lib.hid hi
  clear h hi
  go_enter Try.func17, Try.ntmps17
  go_wp2_with fail
  refine (rhas_any xb Q lost F _ i HB.out).mono ?_
  rintro e w' ⟨rfl, rfl⟩
  rw [HI.out]
  go_wp2_with fail
  go_ret
  exact ⟨rfl, rfl⟩
set_option maxHeartbeats 1000000 in
theorem rhurt_no (k : Nat) (n : Int) (cut : Bool) (p : Pc) (h : RAt W xb Q lost F) (hx : Q[k]? = some p) (hno : p.hurt = true ∨ n < 0 ∨ (cut = true ∧ (p.byt.length : Int) ≤ n) ∨ (cut = false ∧ (p.byt.length : Int) ≤ n / 8)) (hw : -9223372036854775808 ≤ n ∧ n < 9223372036854775808) :
    Calls Try.prog 17 #[.pointer (some ⟨xb, 0, none⟩), .int .i64 (k : Int), .int .i64 n, .bool cut] W fun e w' => e = .returned (.bool false) ∧ Below W.heap.size W w' := by
  obtain ⟨g, cap, cur, o⟩ := h.opened hx
  have HB := Lib.hid h
  have hk := o.lt
  have HHERE := Lib.hid (here_lt hk)
  have c0 := o.bag.cell 0
  have r0 := o.c0
  have r1 := o.c1
  have r2 := o.c2
  have r3 := o.c3
  have hlt := o.bag.lt
  have hltg := o.row.lt
  simp only [List.getElem?_toArray, List.getElem?_cons_zero] at c0
  obtain ⟨t, ht⟩ : ∃ t, t = Q.length := ⟨_, rfl⟩
  rw [← ht] at c0 hk
  have hkI : (k : Int) < (t : Int) := by omega
  have hkI0 : (0 : Int) ≤ (k : Int) := by omega
  obtain ⟨w0, w1⟩ := hw
  obtain ⟨S, hS⟩ : ∃ S, S = strB p.byt := ⟨_, rfl⟩
  have hsz : S.size = p.byt.length := by rw [hS]; exact strB_size _
  rw [← hS] at r2
  generalize p.byt.length = m at *
  clear h hx o ht hS
  generalize p.hurt = ph at *
  cases ph with
  | true =>
    clear hno
    go_enter Try.func17, Try.ntmps17
    go_wp2_with fail
    refine (rhas_any xb Q lost F _ (k : Int) HB.out).mono ?_
    rintro e w' ⟨rfl, rfl⟩
    rw [HHERE.out]
    go_wp2_with fail
    go_ret
    exact ⟨rfl, Below.refl _ _⟩
  | false =>
    by_cases hn : n < 0
    · clear hno
      go_enter Try.func17, Try.ntmps17
      go_wp2_with fail
      refine (rhas_any xb Q lost F _ (k : Int) HB.out).mono ?_
      rintro e w' ⟨rfl, rfl⟩
      rw [HHERE.out]
      go_wp2_with fail
      go_ret
      exact ⟨rfl, Below.refl _ _⟩
    · have hn0 : 0 ≤ n := by omega
      cases cut with
      | true =>
        have hm : (m : Int) ≤ n := by
          rcases hno with hno | hno | ⟨_, hno⟩ | ⟨hno, _⟩
          · cases hno
          · omega
          · exact hno
          · cases hno
        clear hno
        go_enter Try.func17, Try.ntmps17
        go_wp2_with fail
        refine (rhas_any xb Q lost F _ (k : Int) HB.out).mono ?_
        rintro e w' ⟨rfl, rfl⟩
        rw [HHERE.out]
        go_wp2_with fail
        go_ret
        exact ⟨rfl, (Below.refl _ _).alloc (Nat.le_refl _) _⟩
      | false =>
        have hm : (m : Int) ≤ n / 8 := by
          rcases hno with hno | hno | ⟨hno, _⟩ | ⟨_, hno⟩
          · cases hno
          · omega
          · cases hno
          · exact hno
        clear hno
        go_enter Try.func17, Try.ntmps17
        go_wp2_with fail
        refine (rhas_any xb Q lost F _ (k : Int) HB.out).mono ?_
        rintro e w' ⟨rfl, rfl⟩
        rw [HHERE.out]
        go_wp2_with fail
        go_ret
        exact ⟨rfl, (Below.refl _ _).alloc (Nat.le_refl _) _⟩
set_option maxHeartbeats 2000000 in
theorem rhurt_cut (k b : Nat) (p : Pc) (h : RAt W xb Q lost F) (hq : Q.length ≤ 4096) (hx : Q[k]? = some p) (hh : p.hurt = false) (hm : b < p.byt.length) :
    Calls Try.prog 17 #[.pointer (some ⟨xb, 0, none⟩), .int .i64 (k : Int), .int .i64 (b : Int), .bool true] W fun e w' => e = .returned (.bool true) ∧ ∃ F', RAt w' xb (Q.set k ⟨p.src, p.dst, p.byt.take b, true⟩) lost F' ∧ Moved F F' W w' := by
  obtain ⟨i0, hi0, hz0, hz1, hz2⟩ := info_parts info_rp
  obtain ⟨g, cap, cur, o⟩ := h.opened hx
  have HB := Lib.hid h
  have HO := Lib.hid o
  have HQ := Lib.hid hq
  have HX := Lib.hid hx
  have hk := o.lt
  have HK := Lib.hid hk
  have HHERE := Lib.hid (here_lt hk)
  have c0 := o.bag.cell 0
  have r0 := o.c0
  have r1 := o.c1
  have r2 := o.c2
  have r3 := o.c3
  rw [hh] at r3
  have hlt := o.bag.lt
  have hltg := o.row.lt
  have hR0 := o.reads 0 Q.length (by omega) (some ⟨g, 0, none⟩) (fun _ => rfl)
  rw [List.drop_zero, List.take_length] at hR0
  have HR0 := Lib.hid hR0
  simp only [List.getElem?_toArray, List.getElem?_cons_zero] at c0
  obtain ⟨n, hn⟩ : ∃ n, n = Q.length := ⟨_, rfl⟩
  have HN := Lib.hid hn
  rw [← hn] at c0 hk
  have HRn : Hid (Reads W W.heap.size 4 (some ⟨g, 0, none⟩) n (pcC (rq Q))) := by rw [HN.out]; exact Lib.hid HR0.out
  have hkI : (k : Int) < (n : Int) := by omega
  have hkI0 : (0 : Int) ≤ (k : Int) := by omega
  obtain ⟨S, hS⟩ : ∃ S, S = strB p.byt := ⟨_, rfl⟩
  have hsz : S.size = p.byt.length := by rw [hS]; exact strB_size _
  have hex : S.extract 0 b = strB (p.byt.take b) := by rw [hS]; exact strB_take _ _
  rw [← hS] at r2
  have HM := Lib.hid hm
  obtain ⟨m, hmm⟩ : ∃ m, m = p.byt.length := ⟨_, rfl⟩
  rw [← hmm] at hm hsz
  have hbI : (b : Int) < (m : Int) := by omega
  have hb0 : (0 : Int) ≤ (b : Int) := by omega
  have hnb : ¬ m ≤ b := by omega
  obtain ⟨T, hT⟩ : ∃ T, T = strB (p.byt.take b) := ⟨_, rfl⟩
  rw [← hT] at hex
  have HT := Lib.hid hT
  clear h hq hx hh o hn hS hR0 HR0 hmm hT
  go_enter Try.func17, Try.ntmps17
  go_wp2_with fail
  refine (rhas_any xb Q lost F _ (k : Int) HB.out).mono ?_
  rintro e w' ⟨rfl, rfl⟩
  rw [HHERE.out]
  obtain ⟨Wp, hWp⟩ : ∃ Wp, Wp = W.alloc (.cells #[.int .i64 p.src, .int .i64 p.dst, .string T, .bool true] 41) := ⟨_, rfl⟩
  have hb0p : Below W.heap.size W Wp := by rw [hWp]; exact (Below.refl _ W).alloc (Nat.le_refl _) _
  have hbp : Blk Wp W.heap.size 41 #[.int .i64 p.src, .int .i64 p.dst, .string T, .bool true] := by rw [hWp]; exact Blkf.new_at W _ _ _ rfl
  have hsp : Wp.heap.size = W.heap.size + 1 := by rw [hWp]; simp
  have HWP := Lib.hid hWp
  have HB0P := Lib.hid hb0p
  have HBP := Lib.hid hbp
  have HSP := Lib.hid hsp
  clear hWp hb0p hbp hsp
  go_wp2_with (at_builtin; (refine wpList_append_any _ rfl (.tmp 61) (.tmp 65) _ rfl Wp.heap.size 41 i0 _ 4 40 Try.underlying27 hi0 hz0 hz1 hz2 rfl (by decide) _ 0 [] rfl (by rw [← HWP.out]; rw [← HSP.out]; exact World.ownsRow_made Wp #[] 0 (Nat.le_refl _) (by unfold maxLen; omega) rfl) W.heap.size (some ⟨g, 0, none⟩) n cap (pcC (rq Q)) rfl (by rw [← HWP.out]; exact ((HRn.out.below HB0P.out).alloc (by rw [HSP.out]; omega) _)) (one_pcC (rq_one Q)) (by unfold maxLen; have := HN.out; have := HQ.out; omega) (by have := HN.out; have := HQ.out; omega) (by rw [← HWP.out]; simp) ?_; intro v2 w2 hown hgrow hat; rw [← HWP.out] at hgrow; rw [Nat.zero_add, List.nil_append] at hown; have HC : Hid (Below Wp.heap.size Wp w2) := Lib.hid (((Below.refl _ Wp).alloc (Nat.le_refl _) _).grown hgrow (by simp) (fun k hk => by cases hk; rw [HSP.out]; exact Nat.le_refl _)); obtain ⟨g2, c2, e2⟩ := own_some hown (by omega); subst e2; obtain ⟨q0, q1, q2, q3, qf, ql, qb⟩ := own_there hown (rq_get HX.out); have HO2 := Lib.hid hown; have hbp := HBP.out.below HC.out (by rw [HSP.out]; omega); have e0 := hbp.cell 0; have e1 := hbp.cell 1; have e2 := hbp.cell 2; have e3 := hbp.cell 3; have f0 := qf (k * 4); have f1 := qf (k * 4 + 1); have f2 := qf (k * 4 + 2); have f3 := qf (k * 4 + 3); have lp := hbp.lt; have hx3 := (HO.out.bag.below HB0P.out hlt).below HC.out (Nat.lt_of_lt_of_le hlt HB0P.out.size); have k3 := hx3.cell 0; have k4 := Blk.frozen hx3 0; have l3 := hx3.lt; simp only [List.getElem?_toArray, List.getElem?_cons_zero, List.getElem?_cons_succ] at e0 e1 e2 e3 k3; have nx : xb ≠ g2 := (by have := HB0P.out.size; omega); have nw : W.heap.size ≠ g2 := (by have := HSP.out; omega); have QB := Lib.hid qb; clear hown hgrow hat hbp hx3 qf qb r0 r1 r2 r3 c0))
  go_ret
  exact ⟨rfl, rhurt_fin HB.out HB0P.out HC.out HO2.out HX.out HT.out HN.out QB.out⟩
set_option maxHeartbeats 2000000 in
theorem rhurt_turn (k : Nat) (b : Int) (p : Pc) (h : RAt W xb Q lost F) (hq : Q.length ≤ 4096) (hx : Q[k]? = some p) (hh : p.hurt = false) (hb0 : 0 ≤ b) (hm : b / 8 < (p.byt.length : Int)) (hl : ∀ i : Nat, p.byt.getD i 0 < 256) (hlen : p.byt.length ≤ 140737488355328) (hw : -9223372036854775808 ≤ b ∧ b < 9223372036854775808) :
    Calls Try.prog 17 #[.pointer (some ⟨xb, 0, none⟩), .int .i64 (k : Int), .int .i64 b, .bool false] W fun e w' => e = .returned (.bool true) ∧ ∃ F', RAt w' xb (Q.set k ⟨p.src, p.dst, turnL p.byt b, true⟩) lost F' ∧ Moved F F' W w' := by
  obtain ⟨i0, hi0, hz0, hz1, hz2⟩ := info_parts info_rp
  obtain ⟨g, cap, cur, o⟩ := h.opened hx
  have HB := Lib.hid h
  have HO := Lib.hid o
  have HQ := Lib.hid hq
  have HX := Lib.hid hx
  have hk := o.lt
  have HK := Lib.hid hk
  have HHERE := Lib.hid (here_lt hk)
  have c0 := o.bag.cell 0
  have r0 := o.c0
  have r1 := o.c1
  have r2 := o.c2
  have r3 := o.c3
  rw [hh] at r3
  have hlt := o.bag.lt
  have hltg := o.row.lt
  have hR0 := o.reads 0 Q.length (by omega) (some ⟨g, 0, none⟩) (fun _ => rfl)
  rw [List.drop_zero, List.take_length] at hR0
  have HR0 := Lib.hid hR0
  simp only [List.getElem?_toArray, List.getElem?_cons_zero] at c0
  obtain ⟨n, hn⟩ : ∃ n, n = Q.length := ⟨_, rfl⟩
  have HN := Lib.hid hn
  rw [← hn] at c0 hk
  have HRn : Hid (Reads W W.heap.size 4 (some ⟨g, 0, none⟩) n (pcC (rq Q))) := by rw [HN.out]; exact Lib.hid HR0.out
  have hkI : (k : Int) < (n : Int) := by omega
  have hkI0 : (0 : Int) ≤ (k : Int) := by omega
  obtain ⟨S, hS⟩ : ∃ S, S = strB p.byt := ⟨_, rfl⟩
  have hsz : S.size = p.byt.length := by rw [hS]; exact strB_size _
  rw [← hS] at r2
  have HM := Lib.hid hm
  obtain ⟨m, hmm⟩ : ∃ m, m = p.byt.length := ⟨_, rfl⟩
  rw [← hmm] at hm hsz
  have HL := Lib.hid hl
  have HLEN := Lib.hid hlen
  have HBW := Lib.hid hw
  obtain ⟨w0, w1⟩ := hw
  obtain ⟨T, hT⟩ : ∃ T, T = strB (turnL p.byt b) := ⟨_, rfl⟩
  have HT := Lib.hid hT
  have HS := Lib.hid hS
  have HMM := Lib.hid hmm
  clear h hq hx hh o hn hS hR0 HR0 hmm hT hl hlen
  go_enter Try.func17, Try.ntmps17
  go_wp2_with fail
  refine (rhas_any xb Q lost F _ (k : Int) HB.out).mono ?_
  rintro e w' ⟨rfl, rfl⟩
  rw [HHERE.out]
  obtain ⟨Ac, cc, w0, hcv, hB0, hbl0⟩ := conv_str2 (W.alloc (.cells #[.int .i64 p.src, .int .i64 p.dst, .string S, .bool false] 41)) p.byt S m HL.out HS.out HMM.out
  have bp : Blk (W.alloc (.cells #[.int .i64 p.src, .int .i64 p.dst, .string S, .bool false] 41)) W.heap.size 41 #[.int .i64 p.src, .int .i64 p.dst, .string S, .bool false] := Blkf.new_at W _ _ _ rfl
  have bp0 := bp.below hbl0 (by simp)
  have hb00 : Below W.heap.size W w0 := ((Below.refl _ W).alloc (Nat.le_refl _) _).trans (hbl0.mono (by simp))
  have HB0 := Lib.hid hB0
  have HBP0 := Lib.hid bp0
  have HB00 := Lib.hid hb00
  clear hB0 bp bp0 hbl0 hb00
  go_wp2_with fail
  clear hcv
  refine (rturn_at Ac p.byt m cc b w0 HMM.out.symm (by rw [HMM.out]; exact HLEN.out) HB0.out HBW.out).mono ?_
  rintro e w1 ⟨v, rfl, ho, hb1⟩
  obtain ⟨A2, c2, rfl, hB1, _⟩ := bts_own ho (turnL_lt HL.out b) rfl
  have hcv := conv_bts (c := c2) hB1 rfl
  rw [← HT.out] at hcv
  have bp1 := HBP0.out.below hb1 HBP0.out.lt
  have fp := Blk.frozen bp1
  have fp2 := fp 2
  have fp3 := fp 3
  have ep2 := bp1.cell 2
  have ep3 := bp1.cell 3
  simp only [List.getElem?_toArray, List.getElem?_cons_zero, List.getElem?_cons_succ] at ep2 ep3
  have lp1 := bp1.lt
  have HBP1 := Lib.hid bp1
  have HB01 : Hid (Below W.heap.size W w1) := Lib.hid (HB00.out.trans (hb1.mono HB00.out.size))
  clear ho hB1 hb1 bp1 fp
  have c01 := (HB01.out.cell (p := ⟨xb, 0, none⟩) hlt).trans c0
  have nx0 : xb ≠ W.heap.size := by omega
  have lx1 : xb < w1.heap.size := Nat.lt_of_lt_of_le hlt HB01.out.size
  clear c0
  obtain ⟨Wp, hWp⟩ : ∃ Wp, Wp = (w1.setCell ⟨W.heap.size, 2, none⟩ (.string T)).setCell ⟨W.heap.size, 3, none⟩ (.bool true) := ⟨_, rfl⟩
  have hb0p : Below W.heap.size W Wp := by rw [hWp]; exact (HB01.out.setCell (p := ⟨W.heap.size, 2, none⟩) (Nat.le_refl _) _).setCell (p := ⟨W.heap.size, 3, none⟩) (Nat.le_refl _) _
  have hbp : Blk Wp W.heap.size 41 #[.int .i64 p.src, .int .i64 p.dst, .string T, .bool true] := by rw [hWp]; exact Blkf.set_ (Blkf.set_ HBP1.out 2 (.string T)) 3 (.bool true)
  have hsp : Wp.heap.size = w1.heap.size := by rw [hWp]; simp
  have HWP := Lib.hid hWp
  have HB0P := Lib.hid hb0p
  have HBP := Lib.hid hbp
  have HSP := Lib.hid hsp
  clear hWp hb0p hbp hsp
  go_wp2_with (at_builtin; (refine wpList_append_any _ rfl (.tmp 61) (.tmp 65) _ rfl Wp.heap.size 41 i0 _ 4 40 Try.underlying27 hi0 hz0 hz1 hz2 rfl (by decide) _ 0 [] rfl (by rw [← HWP.out]; rw [← HSP.out]; exact World.ownsRow_made Wp #[] 0 (Nat.le_refl _) (by unfold maxLen; omega) rfl) W.heap.size (some ⟨g, 0, none⟩) n cap (pcC (rq Q)) rfl (by rw [← HWP.out]; exact ((HRn.out.below HB0P.out).alloc (by rw [HSP.out]; omega) _)) (one_pcC (rq_one Q)) (by unfold maxLen; have := HN.out; have := HQ.out; omega) (by have := HN.out; have := HQ.out; omega) (by rw [← HWP.out]; simp) ?_; intro v2 w2 hown hgrow hat; rw [← HWP.out] at hgrow; rw [Nat.zero_add, List.nil_append] at hown; have HC : Hid (Below Wp.heap.size Wp w2) := Lib.hid (((Below.refl _ Wp).alloc (Nat.le_refl _) _).grown hgrow (by simp) (fun k hk => by cases hk; rw [HSP.out]; exact Nat.le_refl _)); obtain ⟨g2, c2, e2⟩ := own_some hown (by omega); subst e2; obtain ⟨q0, q1, q2, q3, qf, ql, qb⟩ := own_there hown (rq_get HX.out); have HO2 := Lib.hid hown; have hbp := HBP.out.below HC.out (by rw [HSP.out]; omega); have e0 := hbp.cell 0; have e1 := hbp.cell 1; have e2 := hbp.cell 2; have e3 := hbp.cell 3; have f0 := qf (k * 4); have f1 := qf (k * 4 + 1); have f2 := qf (k * 4 + 2); have f3 := qf (k * 4 + 3); have lp := hbp.lt; have hx3 := (HO.out.bag.below HB0P.out hlt).below HC.out (Nat.lt_of_lt_of_le hlt HB0P.out.size); have k3 := hx3.cell 0; have k4 := Blk.frozen hx3 0; have l3 := hx3.lt; simp only [List.getElem?_toArray, List.getElem?_cons_zero, List.getElem?_cons_succ] at e0 e1 e2 e3 k3; have nx : xb ≠ g2 := (by have := HB0P.out.size; omega); have nw : W.heap.size ≠ g2 := (by have := HSP.out; omega); have QB := Lib.hid qb; clear hown hgrow hat hbp hx3 qf qb r0 r1 r2 r3 c01))
  go_ret
  exact ⟨rfl, rhurt_fin HB.out HB0P.out HC.out HO2.out HX.out HT.out HN.out QB.out⟩
end
end Go.Proofs.Ytnnajaomajgoeaa
