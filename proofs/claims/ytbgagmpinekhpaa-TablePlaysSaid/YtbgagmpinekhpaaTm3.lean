/- Merged texts: TabI, TabJ, TabK, TabL, TabM, TabN, TabO, TabP. -/
import Derived.Test.YtbgagmpinekhpaaTm2
import Derived.Test.YtbgagmpinekhpaaReads
/- Pages that are mapped, as the program lists them. -/
namespace Go.Proofs.Ytbgagmpinekhpaa
open Go.RowKit

def canV (va : Nat) : Nat := if va / 274877906944 % 2 = 1 then va + 18446743523953737728 else va
theorem canV_lt {va : Nat} (h : va < 549755813888) : canV va < 18446744073709551616 := by unfold canV; split <;> omega
theorem canonical_any (va : Nat) (W : World) (hv : va < 549755813888) :
    Calls Try.prog 53 #[.int .u64 (va : Int)] W fun e w' => e = .returned (.int .u64 ((canV va : Nat) : Int)) ∧ W = w' := by
  have hc : canV va = if va / 274877906944 % 2 = 1 then va + 18446743523953737728 else va := rfl
  generalize canV va = z at *
  have HC : Hid (IntKind.u64.wrap (wrap64 ((va : Int) * 33554432) / 33554432) = (z : Int)) := Lib.hid (by
    rw [hc, IntKind.wrap_u64]
    unfold wrap64
    split <;> omega)
  clear hc
  go_enter Try.func53, Try.ntmps53
  go_wp2_with fail
  go_ret
  exact ⟨congrArg (fun x => Ending.returned (Value.int .u64 x)) HC.out, rfl⟩
/-- A page that is mapped. -/
structure Mp where
  va : Nat
  lev : Nat
  p : Pte
def Mp.vs (m : Mp) : List Value := [.int .u64 (m.va : Int), .int .i64 (m.lev : Int)] ++ m.p.cs.toList
theorem one_mp (L : List Mp) : ∀ u ∈ L.flatMap Mp.vs, u.oneCell' = true := by
  intro u hu
  obtain ⟨m, _, hm⟩ := List.mem_flatMap.1 hu
  unfold Mp.vs Pte.cs at hm
  simp only [List.cons_append, List.nil_append, List.mem_cons, List.not_mem_nil, or_false] at hm
  rcases hm with rfl | rfl | rfl | rfl | rfl | rfl | rfl | rfl | rfl | rfl | rfl | rfl <;> rfl
theorem mvs_len (L : List Mp) : (L.flatMap Mp.vs).length = L.length * 12 := by
  induction L with
  | nil => rfl
  | cons m L ih => rw [List.flatMap_cons, List.length_append, ih, List.length_cons]; unfold Mp.vs Pte.cs; simp; omega
def OwnM (base : Nat) (w : World) (v : Value) (L : List Mp) : Prop := w.ownsRow base 62 12 v L.length (L.flatMap Mp.vs)
theorem infoM : (Try.prog.info? 62).map (fun i => (i.zero, i.size, i.bytes)) = some (some (.agg #[.int .u64 0, .int .i64 0, .bool false, .bool false, .bool false, .bool false, .bool false, .bool false, .bool false, .bool false, .int .i64 0, .int .u64 0]), 12, 40) := by kernel_rfl
theorem OwnM.below {base : Nat} {w w' : World} {v : Value} {L : List Mp} (h : OwnM base w v L) (hb : Below w.heap.size w w') : OwnM base w' v L := own_below h hb
theorem OwnM.form {base : Nat} {w : World} {v : Value} {L : List Mp} (h : OwnM base w v L) : ∃ A c, v = .slice A L.length c := by
  rcases h.2 with ⟨rfl, h0⟩ | ⟨g, cap, cur, rfl, _⟩
  · exact ⟨none, 0, by rw [h0]⟩
  · exact ⟨_, _, rfl⟩
theorem OwnM.nil (base : Nat) (w : World) : OwnM base w (.slice none 0 0) [] := ⟨rfl, .inl ⟨rfl, rfl⟩⟩
theorem own_appM {base n m : Nat} {w : World} {v : Value} {L L' : List Mp} (h : w.ownsRow base 62 12 v (n + m) (L.flatMap Mp.vs ++ L'.flatMap Mp.vs)) (hn : n = L.length) (hm : m = L'.length) : OwnM base w v (L ++ L') := by
  subst hn hm
  unfold OwnM
  rw [List.length_append, List.flatMap_append]
  exact h
def RetM (L : List Mp) (W : World) (e : Ending) (w' : World) : Prop := ∃ v, e = .returned v ∧ OwnM W.heap.size w' v L ∧ Below W.heap.size W w'
theorem reads_new {size n : Nat} (w : World) (cs : Array Value) (T : TypeId) (h : cs.size = n * size) : Reads (w.alloc (.cells cs T)) (w.heap.size + 1) size (some ⟨w.heap.size, 0, none⟩) n cs.toList := by
  refine ⟨by simpa using h, fun _ => ⟨_, rfl, Nat.lt_succ_self _, fun j u hu => ?_⟩⟩
  have e : (⟨w.heap.size, 0, none⟩ : Addr).add j = ⟨w.heap.size, j, none⟩ := by unfold Addr.add; split <;> simp_all
  rw [e, World.cell?_alloc_new]
  simpa using hu
theorem vs_ent (v l x : Nat) : (⟨v, l, entP x⟩ : Mp).vs = [.int .u64 (v : Int), .int .i64 (l : Int), .bool (bitB x 0), .bool (bitB x 1), .bool (bitB x 2), .bool (bitB x 3), .bool (bitB x 4), .bool (bitB x 5), .bool (bitB x 6), .bool (bitB x 7), .int .i64 ((x : Int) / 256 % 4), .int .u64 ((x : Int) / 1024 % 17592186044416)] := by
  simp [Mp.vs, Pte.cs, entP]
theorem range_next {α : Type} (f : Nat → List α) (k : Nat) : (List.range (k + 1)).flatMap f = (List.range k).flatMap f ++ f k := by
  rw [List.range_succ, List.flatMap_append]; simp
def wdX (n : Nat) (S : Nat → List Nat) (t i : Nat) : Nat := ldR n S (t * 4096 + 8 * i) 8
def pgAt (n : Nat) (S : Nat → List Nat) (rec : Nat → Nat → List Mp) (l t fr i : Nat) : List Mp :=
  if wdX n S t i = 0 then [] else if leafX (wdX n S t i) then [⟨canV (fr + i * spN l), l, entP (wdX n S t i)⟩] else rec (ppnX (wdX n S t i)) (fr + i * spN l)
def pagesM (n : Nat) (S : Nat → List Nat) : Nat → Nat → Nat → List Mp
  | 0, t, fr => (List.range 512).flatMap (pgAt n S (fun _ _ => []) 0 t fr)
  | l + 1, t, fr => (List.range 512).flatMap (pgAt n S (pagesM n S l) (l + 1) t fr)
def PgOK (n : Nat) (S : Nat → List Nat) : Nat → Nat → Prop
  | 0, t => ∀ i, i < 512 → wdX n S t i = 0 ∨ leafX (wdX n S t i) = true
  | l + 1, t => ∀ i, i < 512 → wdX n S t i = 0 ∨ leafX (wdX n S t i) = true ∨ PgOK n S l (ppnX (wdX n S t i))
theorem flat_le {f : Nat → List Mp} {B : Nat} (h : ∀ i, (f i).length ≤ B) : ∀ k, ((List.range k).flatMap f).length ≤ k * B
  | 0 => by simp
  | k + 1 => by
    rw [List.range_succ, List.flatMap_append, List.length_append]
    have := flat_le h k
    have h2 := h k
    simp only [List.flatMap_cons, List.flatMap_nil, List.append_nil]
    rw [Nat.succ_mul]
    omega
theorem pgAt_len {n : Nat} {S : Nat → List Nat} {rec : Nat → Nat → List Mp} {B l t fr : Nat} (hB : 1 ≤ B) (h : ∀ a b, (rec a b).length ≤ B) (i : Nat) : (pgAt n S rec l t fr i).length ≤ B := by
  unfold pgAt
  split
  · simp
  · split
    · simpa using hB
    · exact h _ _
theorem pages_len (n : Nat) (S : Nat → List Nat) : ∀ (l t fr : Nat), (pagesM n S l t fr).length ≤ 512 ^ (l + 1)
  | 0, t, fr => Nat.le_trans (flat_le (fun i => pgAt_len (Nat.le_refl 1) (fun _ _ => by simp) i) 512) (by decide)
  | l + 1, t, fr => by
    have h := flat_le (fun i => pgAt_len (n := n) (S := S) (l := l + 1) (t := t) (fr := fr) (Nat.one_le_two_pow (n := 0) |> fun _ => Nat.one_le_pow (l + 1) 512 (by decide)) (fun a b => pages_len n S l a b) i) 512
    rw [Nat.pow_succ, Nat.mul_comm]
    exact h
set_option maxRecDepth 100000 in
set_option maxHeartbeats 2000000 in
theorem pages_round (c : TC) (σ : TS) (Fm Fs : Nat → Prop) (l t fr B : Nat) (rec : Nat → Nat → List Mp) (OKc : Nat → Prop) (W : World) (h : TabAt W c σ Fm Fs) (hl : l ≤ 2) (ht : t < 17592186044416) (hfr : fr + 512 * spN l ≤ 549755813888) (hB1 : 1 ≤ B) (hB : B ≤ 262144)
    (hlen : ∀ a b, (rec a b).length ≤ B) (hok : ∀ i, i < 512 → wdX c.n σ.S t i = 0 ∨ leafX (wdX c.n σ.S t i) = true ∨ OKc (ppnX (wdX c.n σ.S t i)))
    (hrec : ∀ (t' fr' : Nat) (W' : World), TabAt W' c σ Fm Fs → t' < 17592186044416 → fr' + spN l ≤ 549755813888 → OKc t' → Calls Try.prog 32 #[.pointer (some ⟨c.tb, 0, none⟩), .int .u64 (t' : Int), .int .u64 (fr' : Int), .int .i64 ((l : Int) - 1)] W' (RetM (rec t' fr') W')) :
    Calls Try.prog 32 #[.pointer (some ⟨c.tb, 0, none⟩), .int .u64 (t : Int), .int .u64 (fr : Int), .int .i64 (l : Int)] W (RetM ((List.range 512).flatMap (pgAt c.n σ.S rec l t fr)) W) := by
  obtain ⟨ti, hi0, hz0, hz1, hz2⟩ := info_parts infoM
  have HT := Lib.hid h
  have HSP := Lib.hid (span_sp hl)
  have hspb : spN l ≤ 1073741824 := by
    rcases (show l = 0 ∨ l = 1 ∨ l = 2 by omega) with rfl | rfl | rfl <;> decide
  have hsp1 : 1 ≤ spN l := by
    rcases (show l = 0 ∨ l = 1 ∨ l = 2 by omega) with rfl | rfl | rfl <;> decide
  have HPL := Lib.hid (fun i => pgAt_len (n := c.n) (S := σ.S) (l := l) (t := t) (fr := fr) hB1 hlen i)
  have HFL := Lib.hid (fun k => flat_le (fun i => pgAt_len (n := c.n) (S := σ.S) (l := l) (t := t) (fr := fr) hB1 hlen i) k)
  have HREC := Lib.hid hrec
  have HLEN := Lib.hid hlen
  have HOK := Lib.hid hok
  obtain ⟨sp, hsp⟩ : ∃ q, q = spN l := ⟨_, rfl⟩
  rw [← hsp] at HSP hspb hfr hsp1
  have HSPE := Lib.hid hsp
  clear h hlen hok hrec hsp
  go_enter Try.func32, Try.ntmps32
  go_wp2_with fail
  go_loopw [9, 16] (fun v i wr => ∃ k : Nat, k ≤ 512 ∧ i = .int .i64 (k : Int) ∧ OwnM W.heap.size wr v ((List.range k).flatMap (pgAt c.n σ.S rec l t fr)) ∧ Below W.heap.size W wr) (fun _ i _ => 512 - (intOf i).toNat)
  case atStart => exact ⟨0, by omega, rfl, OwnM.nil _ _, Below.refl _ _⟩
  case round =>
    obtain ⟨k, hk, rfl, hO, hE⟩ := hrel
    have HO := Lib.hid hO
    have HE := Lib.hid hE
    have H1 := Lib.hid (HT.out.below hE)
    clear hO hE
    by_cases hk5 : k < 512
    · have hkI : (k : Int) < 512 := by omega
      obtain ⟨L, hL⟩ : ∃ L, L = (List.range k).flatMap (pgAt c.n σ.S rec l t fr) := ⟨_, rfl⟩
      have HLL := Lib.hid hL
      have HLB : Hid (L.length ≤ 134217728) := Lib.hid (by
        rw [hL]
        exact Nat.le_trans (HFL.out k) (Nat.le_trans (Nat.mul_le_mul hk hB) (by decide)))
      rw [← hL] at HO
      obtain ⟨A9, c9, e9⟩ := HO.out.form
      obtain ⟨n9, hn9⟩ : ∃ n, n = L.length := ⟨_, rfl⟩
      rw [← hn9] at e9
      subst e9
      have HN9 := Lib.hid hn9
      clear hL hn9
      obtain ⟨ks, hks⟩ : ∃ q, q = k * sp := ⟨_, rfl⟩
      have hksb : ks ≤ 511 * sp := by rw [hks]; exact Nat.mul_le_mul_right _ (by omega)
      obtain ⟨va, hva⟩ : ∃ q, q = fr + ks := ⟨_, rfl⟩
      have HVA : Hid (va = fr + k * spN l) := Lib.hid (by rw [hva, hks, HSPE.out])
      have HVB : Hid (va + sp ≤ 549755813888) := Lib.hid (by omega)
      obtain ⟨a, ha⟩ : ∃ q, q = t * 4096 + 8 * k := ⟨_, rfl⟩
      have HA : Hid (a = t * 4096 + 8 * k) := Lib.hid ha
      have hab : a < 18446744073709551616 := by omega
      have HAB := Lib.hid hab
      have HVL : Hid (va < 549755813888) := Lib.hid (by omega)
      have y1 : IntKind.u64.wrap (k : Int) = (k : Int) := by rw [IntKind.wrap_u64]; omega
      have y2 : IntKind.u64.wrap ((k : Int) * (sp : Int)) = (ks : Int) := by rw [show (k : Int) * (sp : Int) = (ks : Int) by rw [hks]; push_cast; rfl, IntKind.wrap_u64]; omega
      have y3 : IntKind.u64.wrap (va : Int) = (va : Int) := by rw [IntKind.wrap_u64]; omega
      have y4 : (fr : Int) + (ks : Int) = (va : Int) := by omega
      have t0 := H1.out.hd.cell 0
      have tl := H1.out.hd.lt
      simp only [List.getElem?_toArray, List.getElem?_cons_zero, List.getElem?_cons_succ] at t0
      have y5 : IntKind.u64.wrap (8 * (k : Int)) = 8 * (k : Int) := by rw [IntKind.wrap_u64]; omega
      have y6 : (t : Int) * 4096 + 8 * (k : Int) = (a : Int) := by omega
      clear hks hksb hva ha hab hfr hspb hsp1
      go_wp2_with fail
      refine (span_any (l : Int) _).mono ?_
      rintro e w1 ⟨rfl, rfl⟩
      rw [HSP.out]
      go_wp2_with fail
      refine (Load_any c.gm c.n a 8 Fm σ.S _ H1.out.mem HAB.out).mono ?_
      rintro e w1 ⟨rfl, rfl⟩
      obtain ⟨x, hx⟩ : ∃ x, x = ldR c.n σ.S a 8 := ⟨_, rfl⟩
      have HX : Hid (x = wdX c.n σ.S t k) := Lib.hid (by rw [hx, HA.out]; rfl)
      have HXL : Hid (x < 18446744073709551616) := Lib.hid (by rw [hx]; exact Mem.ld_lt H1.out.mem a)
      rw [← hx]
      clear hx t0 tl
      go_wp2_with fail
      refine (get_any x _ HXL.out).mono ?_
      rintro e w2 ⟨rfl, hb⟩
      have HB2 := Lib.hid hb
      clear hb y1 y2 y3 y4 y5 y6
      have HEW := Lib.hid (HE.out.trans (HB2.out.mono HE.out.size))
      by_cases h0 : x = 0
      · have HPG : Hid ((List.range (k + 1)).flatMap (pgAt c.n σ.S rec l t fr) = L) := Lib.hid (by
          rw [range_next, ← HLL.out]
          unfold pgAt
          rw [← HX.out, if_pos h0, List.append_nil])
        have i0 : (x : Int) = 0 := by omega
        have hz : entryV x = .agg #[.bool false, .bool false, .bool false, .bool false, .bool false, .bool false, .bool false, .bool false, .int .i64 0, .int .u64 0] := by rw [h0]; rfl
        rw [hz]
        clear h0 hz
        have HO2 := Lib.hid (HO.out.below (HB2.out.trans (((Below.refl _ w2).alloc (Nat.le_refl _) (.cells #[.bool false, .bool false, .bool false, .bool false, .bool false, .bool false, .bool false, .bool false, .int .i64 0, .int .u64 0] 25)).mono HB2.out.size)))
        have HE2 := Lib.hid (HEW.out.alloc HEW.out.size (.cells #[.bool false, .bool false, .bool false, .bool false, .bool false, .bool false, .bool false, .bool false, .int .i64 0, .int .u64 0] 25))
        go_wp2_with fail
        go_roundw
        case rel => exact ⟨k + 1, by omega, by go_num, by rw [HPG.out]; exact HO2.out, HE2.out⟩
        case measure => simp [intOf]; omega
      · have i0 : ¬ (x : Int) = 0 := by omega
        have b0 : ((x : Int) == 0) = false := by simpa using i0
        have b1 : ((x : Int) != 0) = true := by simpa using i0
        unfold entryV
        go_wp2_with fail
        refine (leafx_any x _).mono ?_
        rintro e w3 ⟨rfl, hb3⟩
        have HL3 : Hid (Blk w3 w2.heap.size 25 #[.bool (bitB x 0), .bool (bitB x 1), .bool (bitB x 2), .bool (bitB x 3), .bool (bitB x 4), .bool (bitB x 5), .bool (bitB x 6), .bool (bitB x 7), .int .i64 ((x : Int) / 256 % 4), .int .u64 ((x : Int) / 1024 % 17592186044416)]) := Lib.hid ((Blkf.new_at w2 _ _ _ rfl).below hb3 (by rw [World.size_alloc]; omega))
        have B3 : Hid (Below wr.heap.size wr w3) := Lib.hid (HB2.out.trans ((((Below.refl _ w2).alloc (Nat.le_refl _) _).trans (hb3.mono (by simp))).mono HB2.out.size))
        have HLB3 : Hid (wr.heap.size ≤ w2.heap.size) := Lib.hid HB2.out.size
        generalize w2.heap.size = lb at *
        have HO3 := Lib.hid (HO.out.below B3.out)
        have HE3 := Lib.hid (HE.out.trans (B3.out.mono HE.out.size))
        have H3 := Lib.hid (H1.out.below B3.out)
        have HGL : Hid (∀ g, (Value.slice A9 n9 c9).ownBlock = some g → g < lb) := Lib.hid (fun g hg => Nat.lt_of_lt_of_le (World.ownsRow.lt HO.out g hg).2 HLB3.out)
        clear hb3 HO HE H1 HB2 HEW
        cases hlf : leafX x with
        | true =>
          have HPG : Hid ((List.range (k + 1)).flatMap (pgAt c.n σ.S rec l t fr) = L ++ [⟨canV va, l, entP x⟩]) := Lib.hid (by
            rw [range_next, ← HLL.out]
            unfold pgAt
            rw [← HX.out, if_neg h0, if_pos hlf, ← HVA.out])
          clear h0 hlf
          have HL4 := Lib.hid HL3.out.drew
          go_wp2_with fail
          have b0 := fun (W' : World) (h : Hold [lb] w3.drew W') => (h.cell (List.mem_singleton.2 rfl) 0).trans (HL4.out.cell 0)
          have b1 := fun (W' : World) (h : Hold [lb] w3.drew W') => (h.cell (List.mem_singleton.2 rfl) 1).trans (HL4.out.cell 1)
          have b2 := fun (W' : World) (h : Hold [lb] w3.drew W') => (h.cell (List.mem_singleton.2 rfl) 2).trans (HL4.out.cell 2)
          have b3 := fun (W' : World) (h : Hold [lb] w3.drew W') => (h.cell (List.mem_singleton.2 rfl) 3).trans (HL4.out.cell 3)
          have b4 := fun (W' : World) (h : Hold [lb] w3.drew W') => (h.cell (List.mem_singleton.2 rfl) 4).trans (HL4.out.cell 4)
          have b5 := fun (W' : World) (h : Hold [lb] w3.drew W') => (h.cell (List.mem_singleton.2 rfl) 5).trans (HL4.out.cell 5)
          have b6 := fun (W' : World) (h : Hold [lb] w3.drew W') => (h.cell (List.mem_singleton.2 rfl) 6).trans (HL4.out.cell 6)
          have b7 := fun (W' : World) (h : Hold [lb] w3.drew W') => (h.cell (List.mem_singleton.2 rfl) 7).trans (HL4.out.cell 7)
          have b8 := fun (W' : World) (h : Hold [lb] w3.drew W') => (h.cell (List.mem_singleton.2 rfl) 8).trans (HL4.out.cell 8)
          have b9 := fun (W' : World) (h : Hold [lb] w3.drew W') => (h.cell (List.mem_singleton.2 rfl) 9).trans (HL4.out.cell 9)
          simp only [List.getElem?_toArray, List.getElem?_cons_zero, List.getElem?_cons_succ] at b0 b1 b2 b3 b4 b5 b6 b7 b8 b9
          refine wp_region_plan_by (Hold [lb]) (later_hold _) [(0, false), (1, false), (3, false), (4, false), (2, false), (5, false), (6, true), (7, true), (8, false)] (by kernel_rfl) (by kernel_rfl) (fun _ d _ _ _ h => by cases d <;> exact h) ?_
          iterate 4 (refine plan_take (v := ?_) rfl (by kernel_rfl) ?_ ?_; rotate_left; (focus (intro w' hw'; try go_simp; try with_reducible rfl)); simp only [Act.put, List.setIfInBounds_toArray, List.set_cons_zero, List.set_cons_succ])
          clear b0 b1 b2 b3 b4 b5 b6 b7 b8 b9
          refine plan_quiet rfl (by kernel_rfl) (fun w' => by go_simp; all_goals (first | exact ⟨rfl, rfl⟩ | rfl)) (fun w' hw' => canonical_any va w' HVL.out) ?_
          simp only [Act.put, List.setIfInBounds_toArray, List.set_cons_zero, List.set_cons_succ]
          iterate 1 (refine plan_take (v := ?_) rfl (by kernel_rfl) ?_ ?_; rotate_left; (focus (intro w' hw'; try go_simp; try with_reducible rfl)); simp only [Act.put, List.setIfInBounds_toArray, List.set_cons_zero, List.set_cons_succ])
          refine plan_turn rfl (by kernel_rfl) (fun K hK => ?_)
          go_simp
          refine hK _ _ ⟨Hold.below ((Below.refl _ _).alloc (Nat.le_refl _) _) (fun b hb => by rw [List.mem_singleton.1 hb]; exact HL4.out.lt), ?_⟩
          clear hK K
          have HR5 : Hid (Reads (w3.alloc (.cells #[.int .u64 ((canV va : Nat) : Int), .int .i64 (l : Int), .bool (bitB x 0), .bool (bitB x 1), .bool (bitB x 2), .bool (bitB x 3), .bool (bitB x 4), .bool (bitB x 5), .bool (bitB x 6), .bool (bitB x 7), .int .i64 ((x : Int) / 256 % 4), .int .u64 ((x : Int) / 1024 % 17592186044416)] 62)).drew (w3.heap.size + 1) 12 (some ⟨w3.heap.size, 0, none⟩) 1 (([⟨canV va, l, entP x⟩] : List Mp).flatMap Mp.vs)) := Lib.hid (by
            rw [List.flatMap_cons, List.flatMap_nil, List.append_nil, vs_ent]
            exact (reads_new w3 #[.int .u64 ((canV va : Nat) : Int), .int .i64 (l : Int), .bool (bitB x 0), .bool (bitB x 1), .bool (bitB x 2), .bool (bitB x 3), .bool (bitB x 4), .bool (bitB x 5), .bool (bitB x 6), .bool (bitB x 7), .int .i64 ((x : Int) / 256 % 4), .int .u64 ((x : Int) / 1024 % 17592186044416)] 62 rfl).drew)
          have B5 : Hid (Below w3.heap.size w3 (w3.alloc (.cells #[.int .u64 ((canV va : Nat) : Int), .int .i64 (l : Int), .bool (bitB x 0), .bool (bitB x 1), .bool (bitB x 2), .bool (bitB x 3), .bool (bitB x 4), .bool (bitB x 5), .bool (bitB x 6), .bool (bitB x 7), .int .i64 ((x : Int) / 256 % 4), .int .u64 ((x : Int) / 1024 % 17592186044416)] 62)).drew) := Lib.hid (((Below.refl _ w3).alloc (Nat.le_refl _) _).drew)
          generalize (w3.alloc (.cells #[.int .u64 ((canV va : Nat) : Int), .int .i64 (l : Int), .bool (bitB x 0), .bool (bitB x 1), .bool (bitB x 2), .bool (bitB x 3), .bool (bitB x 4), .bool (bitB x 5), .bool (bitB x 6), .bool (bitB x 7), .int .i64 ((x : Int) / 256 % 4), .int .u64 ((x : Int) / 1024 % 17592186044416)] 62)).drew = w5 at *
          have HO5 := Lib.hid (HO3.out.below B5.out)
          have HE5 := Lib.hid (HE3.out.trans (B5.out.mono HE3.out.size))
          have HL5 : Hid (lb < w5.heap.size) := Lib.hid (Nat.lt_of_lt_of_le HL3.out.lt B5.out.size)
          generalize w3.heap.size = mb at *
          refine plan_turn rfl (by kernel_rfl) (fun K hK => ?_)
          have hmx : n9 ≤ 134217728 := by rw [HN9.out]; exact HLB.out
          have ho5 := HO5.out
          unfold OwnM at ho5
          rw [← HN9.out] at ho5
          refine wp_append_any w5 (.tmp 60) (.tmp 66) _ rfl W.heap.size 62 ti _ 12 40 Try.underlying40 hi0 hz0 hz1 hz2 rfl (by decide) (.slice A9 n9 c9) n9 (L.flatMap Mp.vs) rfl ho5 (mb + 1) (some ⟨mb, 0, none⟩) 1 1 (([⟨canV va, l, entP x⟩] : List Mp).flatMap Mp.vs) rfl HR5.out (one_mp _) (by unfold maxLen; omega) (by omega) HE5.out.size (fun v6 w6 hown hgrow hat => ?_)
          have HE6 := Lib.hid (below_grown ho5 HE5.out hgrow HE5.out.size)
          have HO6 := Lib.hid (own_appM (L := L) (L' := [⟨canV va, l, entP x⟩]) hown HN9.out rfl)
          refine hK _ _ ⟨fun b hb => by
            rw [List.mem_singleton.1 hb]
            exact hgrow.block lb HL5.out (fun e => by have := HGL.out lb e.symm; omega), ?_⟩
          clear hK K hown hgrow hat hmx ho5
          iterate 1 (refine plan_take (v := ?_) rfl (by kernel_rfl) ?_ ?_; rotate_left; (focus (intro w' hw'; try go_simp; try with_reducible rfl)); simp only [Act.put, List.setIfInBounds_toArray, List.set_cons_zero, List.set_cons_succ])
          refine plan_end ?_
          go_wp2_with fail
          go_roundw
          case rel => exact ⟨k + 1, by omega, by go_num, by rw [HPG.out]; exact HO6.out, HE6.out⟩
          case measure => simp [intOf]; omega
        | false =>
          have HPG : Hid ((List.range (k + 1)).flatMap (pgAt c.n σ.S rec l t fr) = L ++ rec (ppnX x) va) := Lib.hid (by
            rw [range_next, ← HLL.out]
            unfold pgAt
            rw [← HX.out, if_neg h0, if_neg (by rw [hlf]; decide), ← HVA.out])
          have HOC : Hid (OKc (ppnX x)) := Lib.hid (by
            have h1 := HOK.out k hk5
            rw [← HX.out] at h1
            rcases h1 with h1 | h1 | h1
            · exact absurd h1 h0
            · rw [hlf] at h1; cases h1
            · exact h1)
          clear h0 hlf
          have px := ppn_x x
          have b9 := HL3.out.cell 9
          have bl := HL3.out.lt
          simp only [List.getElem?_toArray, List.getElem?_cons_zero, List.getElem?_cons_succ] at b9
          go_wp2_with fail
          refine (HREC.out (ppnX x) va w3 H3.out (ppnX_lt x) (by rw [← HSPE.out]; exact HVB.out) HOC.out).mono ?_
          rintro e w4 ⟨v4, rfl, hO4, hb4⟩
          obtain ⟨L4, hL4⟩ : ∃ L4, L4 = rec (ppnX x) va := ⟨_, rfl⟩
          have HL4B : Hid (L4.length ≤ 262144) := Lib.hid (by rw [hL4]; exact Nat.le_trans (HLEN.out _ _) hB)
          rw [← hL4] at hO4 HPG
          obtain ⟨A4, c4, e4⟩ := hO4.form
          obtain ⟨n4, hn4⟩ : ∃ n, n = L4.length := ⟨_, rfl⟩
          rw [← hn4] at e4
          subst e4
          have HN4 := Lib.hid hn4
          have HR4 : Hid (Reads w4 w4.heap.size 12 A4 n4 (L4.flatMap Mp.vs)) := Lib.hid (by
            have h := hO4
            unfold OwnM at h
            rw [← hn4] at h
            exact Reads.of_own h)
          have HO4 := Lib.hid (HO3.out.below hb4)
          have HE4 := Lib.hid (HE3.out.trans (hb4.mono HE3.out.size))
          have ho4 := HO4.out
          unfold OwnM at ho4
          rw [← HN9.out] at ho4
          have HOO := Lib.hid ho4
          clear hL4 hn4 hO4 hb4 ho4 b9 bl px
          go_wp2_with (at_builtin; refine wpList_append_any _ rfl (.tmp 45) (.tmp 52) _ rfl W.heap.size 62 ti _ 12 40 Try.underlying40 hi0 hz0 hz1 hz2 rfl (by decide) (.slice A9 n9 c9) n9 (L.flatMap Mp.vs) rfl HOO.out w4.heap.size A4 n4 c4 (L4.flatMap Mp.vs) rfl HR4.out (one_mp _) (by have h1 := HN9.out; have h2 := HLB.out; have h3 := HN4.out; have h4 := HL4B.out; unfold maxLen; omega) (by have h1 := HN9.out; have h2 := HLB.out; have h3 := HN4.out; have h4 := HL4B.out; omega) HE4.out.size ?_; intro v6 w6 hown hgrow hat; have HE6 := Lib.hid (below_grown HOO.out HE4.out hgrow HE4.out.size); have HO6 := Lib.hid (own_appM (L := L) (L' := L4) hown HN9.out HN4.out); clear hown hgrow hat)
          go_roundw
          case rel => exact ⟨k + 1, by omega, by go_num, by rw [HPG.out]; exact HO6.out, HE6.out⟩
          case measure => simp [intOf]; omega
    · have hkI : ¬ (k : Int) < 512 := by omega
      obtain rfl : k = 512 := by omega
      clear hk hk5
      go_wp2_with fail
      go_ret
      exact ⟨_, rfl, HO.out, HE.out⟩
theorem pages_any (c : TC) (σ : TS) (Fm Fs : Nat → Prop) : ∀ (l t fr : Nat) (W : World), TabAt W c σ Fm Fs → l ≤ 2 → t < 17592186044416 → fr + 512 * spN l ≤ 549755813888 → PgOK c.n σ.S l t →
    Calls Try.prog 32 #[.pointer (some ⟨c.tb, 0, none⟩), .int .u64 (t : Int), .int .u64 (fr : Int), .int .i64 (l : Int)] W (RetM (pagesM c.n σ.S l t fr) W)
  | 0, t, fr, W, h, hl, ht, hfr, hok => pages_round c σ Fm Fs 0 t fr 1 (fun _ _ => []) (fun _ => False) W h hl ht hfr (by decide) (by decide) (fun _ _ => by simp) (fun i hi => (hok i hi).imp id .inl) (fun _ _ _ _ _ _ hf => hf.elim)
  | l + 1, t, fr, W, h, hl, ht, hfr, hok => pages_round c σ Fm Fs (l + 1) t fr (512 ^ (l + 1)) (pagesM c.n σ.S l) (PgOK c.n σ.S l) W h hl ht hfr (Nat.one_le_pow _ _ (by decide)) (by rcases (show l = 0 ∨ l = 1 by omega) with rfl | rfl <;> decide) (fun a b => pages_len c.n σ.S l a b) hok
      (fun t' fr' W' h' ht' hf' hok' => by
        have h2 := pages_any c σ Fm Fs l t' fr' W' h' (by omega) ht' (by
          have e : 512 * spN l = spN (l + 1) := by
            unfold spN
            rw [Nat.mul_left_comm, show 9 * (l + 1) = 9 + 9 * l by omega, Nat.pow_add]
          rw [e]; exact hf') hok'
        rw [show (((l + 1 : Nat) : Int) - 1) = (l : Int) by omega]
        exact h2)
set_option maxHeartbeats 400000 in
theorem Pages_t (c : TC) (σ : TS) (Fm Fs : Nat → Prop) (W : World) (h : TabAt W c σ Fm Fs) (hok : PgOK c.n σ.S 2 c.root) :
    Calls Try.prog 10 #[.pointer (some ⟨c.tb, 0, none⟩)] W (RetM (pagesM c.n σ.S 2 c.root 0) W) := by
  have t2 := h.hd.cell 2
  simp only [List.getElem?_toArray, List.getElem?_cons_zero, List.getElem?_cons_succ] at t2
  have hw : IntKind.u64.wrap (c.root : Int) = (c.root : Int) := by rw [IntKind.wrap_u64]; have := h.rl; omega
  have HP := Lib.hid (pages_any c σ Fm Fs 2 c.root 0 W h (by decide) (by have := h.rl; omega) (by decide) hok)
  clear h hok
  go_enter Try.func10, Try.ntmps10
  go_wp2_with fail
  refine HP.out.mono ?_
  rintro e w1 ⟨v, rfl, h1, h2⟩
  have H1 := Lib.hid h1
  have H2 := Lib.hid h2
  clear h1 h2
  go_wp2_with fail
  go_ret
  exact ⟨_, rfl, H1.out, H2.out⟩
theorem Pages_nil (W : World) : Calls Try.prog 10 #[.pointer none] W fun e w' => e = .returned (.slice none 0 0) ∧ W = w' := by
  go_enter Try.func10, Try.ntmps10
  go_wp2_with fail
  go_ret
  exact ⟨rfl, rfl⟩
end Go.Proofs.Ytbgagmpinekhpaa

/- Plain laws: words of tables, bases of addresses. -/
namespace Go.Proofs.Ytbgagmpinekhpaa
open Go.RowKit

theorem wd_store {n t t' i i' v : Nat} {S : Nat → List Nat} (hf : Full S) (ht : t < n) (hi : i < 512) (hi' : i' < 512) (hv : v < 18446744073709551616) : wdX n (stR n S (t * 4096 + 8 * i) 8 v) t' i' = if t' = t ∧ i' = i then v else wdX n S t' i' := by
  unfold wdX
  by_cases h : t' = t ∧ i' = i
  · rw [if_pos h, h.1, h.2]
    exact ld_same (chk8_of (by omega) (by omega)) hv
  · rw [if_neg h]
    exact ld_other hf (by omega) (by omega)
theorem Full.upd {S : Nat → List Nat} (h : Full S) (k : Nat) : Full (updS S k zeroL) := fun j => by
  unfold updS
  split
  · exact zero_len
  · exact h j
theorem wd_zero {n k t i : Nat} {S : Nat → List Nat} (hi : i < 512) : wdX n (updS S k zeroL) t i = if t = k then 0 else wdX n S t i := by
  unfold wdX ldR
  have hd : (t * 4096 + 8 * i) / 4096 = t := by omega
  by_cases h : t = k
  · rw [if_pos h]
    split
    · unfold ldV updS getV
      rw [hd, if_pos h]
      apply leNat_zero
      intro j
      rw [List.getD_eq_getElem?_getD, List.getElem?_take]
      split
      · rw [← List.getD_eq_getElem?_getD, getD_drop]
        exact zeroL_get _
      · rfl
    · rfl
  · rw [if_neg h]
    split
    · unfold ldV updS
      rw [hd, if_neg h]
    · rfl
def baseN (va l : Nat) : Nat := va / spN l * spN l
theorem base_eq_sub (va l : Nat) : baseN va l = va - va % spN l := by
  unfold baseN
  have := Nat.div_add_mod va (spN l)
  rw [Nat.mul_comm] at this
  omega
theorem sp0 : spN 0 = 4096 := rfl
theorem sp1 : spN 1 = 2097152 := rfl
theorem sp2 : spN 2 = 1073741824 := rfl
theorem lev3 {l : Nat} (h : l ≤ 2) : l = 0 ∨ l = 1 ∨ l = 2 := by omega
theorem idx_eq (va : Nat) {l : Nat} (h : l ≤ 2) : indexV va (l : Int) = va / spN l % 512 := by
  rcases lev3 h with rfl | rfl | rfl <;> rfl
theorem idx_lt (va l : Nat) : indexV va (l : Int) < 512 := by
  unfold indexV
  split
  · exact fieldV_lt _ _ _
  · decide
theorem base_iff {va vb l : Nat} (h : l ≤ 2) : baseN va l = baseN vb l ↔ va / spN l = vb / spN l := by
  unfold baseN
  rcases lev3 h with rfl | rfl | rfl
  · rw [sp0]; omega
  · rw [sp1]; omega
  · rw [sp2]; omega
theorem base_up {va vb l : Nat} (h : l ≤ 1) : baseN va l = baseN vb l ↔ (baseN va (l + 1) = baseN vb (l + 1) ∧ indexV va (l : Int) = indexV vb (l : Int)) := by
  rw [base_iff (by omega), base_iff (by omega), idx_eq _ (by omega), idx_eq _ (by omega)]
  rcases (show l = 0 ∨ l = 1 by omega) with rfl | rfl
  · rw [show 0 + 1 = 1 from rfl, sp0, sp1]; omega
  · rw [show 1 + 1 = 2 from rfl, sp1, sp2]; omega
theorem canon_iff (va : Nat) (hv : va < 18446744073709551616) : canonB va = true ↔ (va / 274877906944 = 0 ∨ va / 274877906944 = 67108863) := by
  unfold canonB fieldV
  rw [Bool.or_eq_true, beq_iff_eq, beq_iff_eq, show 2 ^ 38 = 274877906944 from rfl, show 2 ^ 26 = 67108864 from rfl]
  omega
theorem base_top {va vb : Nat} (ha : va < 18446744073709551616) (hb : vb < 18446744073709551616) (ca : canonB va = true) (cb : canonB vb = true) : baseN va 2 = baseN vb 2 ↔ indexV va 2 = indexV vb 2 := by
  rw [base_iff (by decide)]
  have e1 := idx_eq va (l := 2) (by decide)
  have e2 := idx_eq vb (l := 2) (by decide)
  rw [show ((2 : Nat) : Int) = 2 from rfl] at e1 e2
  rw [e1, e2, sp2]
  have h1 := (canon_iff va ha).1 ca
  have h2 := (canon_iff vb hb).1 cb
  omega
theorem base_base {va l k : Nat} (h : l ≤ k) (hk : k ≤ 2) : baseN (baseN va l) k = baseN va k := by
  unfold baseN
  rcases lev3 hk with rfl | rfl | rfl
  · obtain rfl : l = 0 := by omega
    rw [sp0]; omega
  · rcases (show l = 0 ∨ l = 1 by omega) with rfl | rfl
    · rw [sp0, sp1]; omega
    · rw [sp1]; omega
  · rcases lev3 (show l ≤ 2 by omega) with rfl | rfl | rfl
    · rw [sp0, sp2]; omega
    · rw [sp1, sp2]; omega
    · rw [sp2]; omega
theorem base_le (va l : Nat) : baseN va l ≤ va := Nat.div_mul_le_self _ _
theorem base_canon {va l : Nat} (h : l ≤ 2) : canonB (baseN va l) = canonB va := by
  have e : baseN va l = besV va 0 l := by rw [base_eq_sub]; unfold besV; simp
  rw [e]
  exact bes_canon h
theorem base_idx {va l : Nat} (h : l ≤ 2) : indexV (baseN va l) (l : Int) = indexV va (l : Int) := by
  have e : baseN va l = besV va 0 l := by rw [base_eq_sub]; unfold besV; simp
  rw [e]
  exact (bes_index h l (Nat.le_refl _)).symm
theorem at_eq' {va t l : Nat} (ht : t < 1048576) : atX va t l = t * 4096 + 8 * indexV va (l : Int) := by
  have := idx_lt va l
  unfold atX
  omega
end Go.Proofs.Ytbgagmpinekhpaa

/- Plain laws: the memory's tables stand for pages and tables; what is found. -/
namespace Go.Proofs.Ytbgagmpinekhpaa
open Go.RowKit

structure Tb where
  lev : Nat
  va : Nat
  fr : Nat
def tabF (root : Nat) (T : List Tb) (va l : Nat) : Option Nat := if l = 2 then some root else (T.find? (fun b => b.lev == l && b.va == baseN va (l + 1))).map (·.fr)
def pageP (L : List Mp) (va l : Nat) : Option Mp := L.find? (fun m => m.lev == l && m.va == baseN va l)
def entW (root : Nat) (L : List Mp) (T : List Tb) (va l : Nat) : Nat :=
  match pageP L va l with
  | some m => m.p.word
  | none => if l = 0 then 0 else match tabF root T va (l - 1) with
    | some f => leadW f
    | none => 0
structure Inv (c : TC) (σ : TS) (L : List Mp) (T : List Tb) : Prop where
  full : Full σ.S
  n : c.n ≤ 1048576
  root : c.root < c.n
  tab : ∀ b ∈ T, b.lev ≤ 1 ∧ b.fr < c.n ∧ b.fr ≠ c.root ∧ b.va < 18446744073709551616 ∧ canonB b.va = true ∧ baseN b.va (b.lev + 1) = b.va
  rfresh : c.root < c.first + σ.k
  fresh : ∀ b ∈ T, b.fr < c.first + σ.k
  inj : ∀ b ∈ T, ∀ b' ∈ T, b.fr = b'.fr → b.lev = b'.lev ∧ b.va = b'.va
  up : ∀ b ∈ T, b.lev = 0 → ∃ f, tabF c.root T b.va 1 = some f
  pg : ∀ m ∈ L, m.lev ≤ 2 ∧ m.va < 18446744073709551616 ∧ canonB m.va = true ∧ baseN m.va m.lev = m.va ∧ mayB m.p (m.lev : Int) = true ∧ PteWf m.p
  has : ∀ m ∈ L, ∃ t, tabF c.root T m.va m.lev = some t
  excl : ∀ m ∈ L, m.lev ≠ 0 → tabF c.root T m.va (m.lev - 1) = none
  pkey : L.Pairwise (fun a b => ¬ (a.lev = b.lev ∧ a.va = b.va))
  wd : ∀ va l t, va < 18446744073709551616 → canonB va = true → l ≤ 2 → tabF c.root T va l = some t → wdX c.n σ.S t (indexV va (l : Int)) = entW c.root L T va l
theorem page_some {L : List Mp} {va l : Nat} {m : Mp} (h : pageP L va l = some m) : m ∈ L ∧ m.lev = l ∧ m.va = baseN va l := by
  have h2 := List.find?_some h
  simp only [Bool.and_eq_true, beq_iff_eq] at h2
  exact ⟨List.mem_of_find?_eq_some h, h2.1, h2.2⟩
theorem page_none {L : List Mp} {va l : Nat} (h : pageP L va l = none) : ∀ m ∈ L, ¬ (m.lev = l ∧ m.va = baseN va l) := by
  intro m hm hh
  have h2 := List.find?_eq_none.1 h m hm
  simp only [Bool.and_eq_true, beq_iff_eq] at h2
  exact h2 hh
theorem tab_some {root : Nat} {T : List Tb} {va l f : Nat} (hl : l ≠ 2) (h : tabF root T va l = some f) : ∃ b ∈ T, b.lev = l ∧ b.va = baseN va (l + 1) ∧ b.fr = f := by
  unfold tabF at h
  rw [if_neg hl] at h
  obtain ⟨b, hb, rfl⟩ := Option.map_eq_some_iff.1 h
  have h2 := List.find?_some hb
  simp only [Bool.and_eq_true, beq_iff_eq] at h2
  exact ⟨b, List.mem_of_find?_eq_some hb, h2.1, h2.2, rfl⟩
theorem tab_none {root : Nat} {T : List Tb} {va l : Nat} (h : tabF root T va l = none) : l ≠ 2 ∧ ∀ b ∈ T, ¬ (b.lev = l ∧ b.va = baseN va (l + 1)) := by
  unfold tabF at h
  split at h
  · cases h
  · rename_i hl
    refine ⟨hl, fun b hb hh => ?_⟩
    have h2 := List.find?_eq_none.1 (Option.map_eq_none_iff.1 h) b hb
    simp only [Bool.and_eq_true, beq_iff_eq] at h2
    exact h2 hh
theorem tab_mem {root : Nat} {T : List Tb} {b : Tb} {va : Nat} (hb : b ∈ T) (hl : b.lev ≤ 1) (hv : b.va = baseN va (b.lev + 1)) : ∃ f, tabF root T va b.lev = some f := by
  cases h : tabF root T va b.lev with
  | some f => exact ⟨f, rfl⟩
  | none => exact absurd ⟨rfl, hv⟩ ((tab_none h).2 b hb)
theorem tab_congr {root : Nat} {T : List Tb} {va vb l : Nat} (h : l = 2 ∨ baseN va (l + 1) = baseN vb (l + 1)) : tabF root T va l = tabF root T vb l := by
  unfold tabF
  rcases h with h | h
  · rw [if_pos h, if_pos h]
  · rw [h]
theorem page_congr {L : List Mp} {va vb l : Nat} (h : baseN va l = baseN vb l) : pageP L va l = pageP L vb l := by unfold pageP; rw [h]
/-- A table is one alone. -/
theorem Inv.one {c : TC} {σ : TS} {L : List Mp} {T : List Tb} (h : Inv c σ L T) {va vb l l' t : Nat} (hl : l ≤ 2) (hl' : l' ≤ 2) (h1 : tabF c.root T va l = some t) (h2 : tabF c.root T vb l' = some t) : l = l' ∧ (l = 2 ∨ baseN va (l + 1) = baseN vb (l + 1)) := by
  by_cases e : l = 2
  · subst e
    by_cases e' : l' = 2
    · exact ⟨e'.symm, .inl rfl⟩
    · obtain ⟨b, hb, _, _, hf⟩ := tab_some e' h2
      unfold tabF at h1
      rw [if_pos rfl] at h1
      injection h1 with h1
      exact absurd (hf.trans h1.symm) (h.tab b hb).2.2.1
  · obtain ⟨b, hb, hbl, hbv, hf⟩ := tab_some e h1
    by_cases e' : l' = 2
    · subst e'
      unfold tabF at h2
      rw [if_pos rfl] at h2
      injection h2 with h2
      exact absurd (hf.trans h2.symm) (h.tab b hb).2.2.1
    · obtain ⟨b', hb', hbl', hbv', hf'⟩ := tab_some e' h2
      obtain ⟨h3, h4⟩ := h.inj b hb b' hb' (hf.trans hf'.symm)
      have h5 : l = l' := by omega
      subst h5
      exact ⟨rfl, .inr (by rw [← hbv, ← hbv', h4])⟩
theorem Inv.frame {c : TC} {σ : TS} {L : List Mp} {T : List Tb} (h : Inv c σ L T) {va l t : Nat} (h1 : tabF c.root T va l = some t) : t < c.n ∧ t < c.first + σ.k := by
  by_cases e : l = 2
  · unfold tabF at h1
    rw [if_pos e] at h1
    injection h1 with h1
    subst h1
    exact ⟨h.root, h.rfresh⟩
  · obtain ⟨b, hb, _, _, rfl⟩ := tab_some e h1
    exact ⟨(h.tab b hb).2.1, h.fresh b hb⟩
/-- The word of an entry says what the entry is. -/
theorem word_bits (p : Pte) : bitB p.word 0 = p.v ∧ bitB p.word 1 = p.r ∧ bitB p.word 2 = p.w ∧ bitB p.word 3 = p.x ∧ ppnX p.word = p.ppn.toNat % 17592186044416 := by
  have h := ent_put p
  unfold entP Pte.norm at h
  simp only [Pte.mk.injEq] at h
  obtain ⟨h0, h1, h2, h3, _, _, _, _, _, h9⟩ := h
  refine ⟨h0, h1, h2, h3, ?_⟩
  unfold ppnX
  exact Int.ofNat.inj h9
theorem word_lt (p : Pte) : p.word < 18014398509481984 := by
  have h0 := bt_le p.v
  have h1 := bt_le p.r
  have h2 := bt_le p.w
  have h3 := bt_le p.x
  have h4 := bt_le p.u
  have h5 := bt_le p.g
  have h6 := bt_le p.a
  have h7 := bt_le p.d
  unfold Pte.word putV
  omega
theorem may_word {p : Pte} {l : Nat} (h : mayB p (l : Int) = true) (hw : PteWf p) : goodX p.word = true ∧ leafX p.word = true ∧ evenB (ppnX p.word) l = true ∧ entP p.word = p ∧ p.word ≠ 0 := by
  unfold mayB at h
  simp only [Bool.and_eq_true] at h
  obtain ⟨hl, hf, hr, hlf, hlo⟩ := h
  obtain ⟨b0, b1, b2, b3, b9⟩ := word_bits p
  have hlt := word_lt p
  have hpp := u64_of_wf hw.2
  have hn := (norm_fits p hpp.1).2 hf
  have hff : p.ppn < 17592186044416 := by
    unfold Pte.fits at hf
    simp only [Bool.and_eq_true, decide_eq_true_eq] at hf
    exact hf.2.2
  refine ⟨?_, ?_, ?_, (ent_put p).trans hn, ?_⟩
  · unfold goodX
    rw [b0, b1, b2, Nat.div_eq_of_lt hlt]
    exact hr
  · unfold leafX
    rw [b1, b3]
    exact hlf
  · unfold evenB
    rw [b9, Nat.mod_eq_of_lt (show p.ppn.toNat < 17592186044416 by omega)]
    unfold lowB at hlo
    have e : (9 * (l : Int)).toNat = 9 * l := by omega
    rw [e] at hlo
    simpa using hlo
  · intro h0
    have : bitB p.word 0 = false := by rw [h0]; rfl
    rw [b0] at this
    unfold Pte.right at hr
    rw [this] at hr
    cases hr
theorem lead_word {f : Nat} (hf : f < 1048576) : goodX (leadW f) = true ∧ leafX (leadW f) = false ∧ (∀ l, 0 < l → leadX (leadW f) l = true) ∧ ppnX (leadW f) = f ∧ leadW f ≠ 0 ∧ leadW f < 18446744073709551616 := by
  rw [leadW_eq f (by omega)]
  have b0 : bitB (1 + 1024 * f) 0 = true := by unfold bitB; rw [show (1 + 1024 * f) / 2 ^ 0 % 2 = 1 by omega]; rfl
  have b1 : bitB (1 + 1024 * f) 1 = false := by unfold bitB; rw [show (1 + 1024 * f) / 2 ^ 1 % 2 = 0 by omega]; rfl
  have b2 : bitB (1 + 1024 * f) 2 = false := by unfold bitB; rw [show (1 + 1024 * f) / 2 ^ 2 % 2 = 0 by omega]; rfl
  have b3 : bitB (1 + 1024 * f) 3 = false := by unfold bitB; rw [show (1 + 1024 * f) / 2 ^ 3 % 2 = 0 by omega]; rfl
  have b4 : bitB (1 + 1024 * f) 4 = false := by unfold bitB; rw [show (1 + 1024 * f) / 2 ^ 4 % 2 = 0 by omega]; rfl
  have b6 : bitB (1 + 1024 * f) 6 = false := by unfold bitB; rw [show (1 + 1024 * f) / 2 ^ 6 % 2 = 0 by omega]; rfl
  have b7 : bitB (1 + 1024 * f) 7 = false := by unfold bitB; rw [show (1 + 1024 * f) / 2 ^ 7 % 2 = 0 by omega]; rfl
  refine ⟨?_, ?_, fun l hl => ?_, ?_, by omega, by omega⟩
  · unfold goodX; rw [b0, b1, b2, show (1 + 1024 * f) / 18014398509481984 = 0 by omega]; rfl
  · unfold leafX; rw [b1, b3]; rfl
  · unfold leadX; rw [b4, b6, b7, decide_eq_true hl]; rfl
  · unfold ppnX; omega
end Go.Proofs.Ytbgagmpinekhpaa

/- Plain laws: what is found is what is mapped. -/
namespace Go.Proofs.Ytbgagmpinekhpaa
open Go.RowKit

def holdsP (L : List Mp) (va : Nat) : Option Mp :=
  match pageP L va 0 with
  | some m => some m
  | none => match pageP L va 1 with
    | some m => some m
    | none => pageP L va 2
section
variable {c : TC} {σ : TS} {L : List Mp} {T : List Tb}
theorem Inv.word (h : Inv c σ L T) {va l t : Nat} (hv : va < 18446744073709551616) (hc : canonB va = true) (hl : l ≤ 2) (ht : tabF c.root T va l = some t) : chkE c.n (atX va t l) 8 = 0 ∧ ldR c.n σ.S (atX va t l) 8 = entW c.root L T va l := by
  have hf := (h.frame ht).1
  have hn := h.n
  have hi := idx_lt va l
  rw [at_eq' (by omega)]
  exact ⟨chk8_of (by omega) (by omega), h.wd va l t hv hc hl ht⟩
theorem Inv.step_page (h : Inv c σ L T) {va l t : Nat} {m : Mp} {k : Fd} (hv : va < 18446744073709551616) (hc : canonB va = true) (hl : l ≤ 2) (ht : tabF c.root T va l = some t) (hp : pageP L va l = some m) : fdAt c.n σ.S va l t k = .leaf m.p.word l (atX va t l) := by
  obtain ⟨h1, h2⟩ := h.word hv hc hl ht
  obtain ⟨hm, hml, _⟩ := page_some hp
  obtain ⟨_, _, _, _, hmay, hwf⟩ := h.pg m hm
  rw [hml] at hmay
  obtain ⟨g1, g2, g3, _, _⟩ := may_word hmay hwf
  have e : entW c.root L T va l = m.p.word := by unfold entW; rw [hp]
  unfold fdAt
  rw [if_pos h1, h2, e, g1, if_pos rfl, g2, if_pos rfl, g3, if_pos rfl]
theorem Inv.step_none (h : Inv c σ L T) {va l t : Nat} {k : Fd} (hv : va < 18446744073709551616) (hc : canonB va = true) (hl : l ≤ 2) (ht : tabF c.root T va l = some t) (hp : pageP L va l = none) (hn : l = 0 ∨ tabF c.root T va (l - 1) = none) : fdAt c.n σ.S va l t k = .err 51 := by
  obtain ⟨h1, h2⟩ := h.word hv hc hl ht
  have e : entW c.root L T va l = 0 := by
    unfold entW
    rw [hp]
    simp only
    split
    · rfl
    · rename_i h0
      rcases hn with hn | hn
      · exact absurd hn h0
      · rw [hn]
  unfold fdAt
  rw [if_pos h1, h2, e]
  rfl
theorem Inv.step_down (h : Inv c σ L T) {va l t f : Nat} {k : Fd} (hv : va < 18446744073709551616) (hc : canonB va = true) (hl : l ≤ 2) (h0 : 0 < l) (ht : tabF c.root T va l = some t) (hp : pageP L va l = none) (hf : tabF c.root T va (l - 1) = some f) :
    fdAt c.n σ.S va l t k = k ∧ ppnX (ldR c.n σ.S (atX va t l) 8) = f := by
  obtain ⟨h1, h2⟩ := h.word hv hc hl ht
  have hfn := (h.frame hf).1
  have hn := h.n
  obtain ⟨g1, g2, g3, g4, _, _⟩ := lead_word (f := f) (by omega)
  have e : entW c.root L T va l = leadW f := by
    unfold entW
    rw [hp]
    simp only
    rw [if_neg (by omega), hf]
  refine ⟨?_, by rw [h2, e, g4]⟩
  unfold fdAt
  rw [if_pos h1, h2, e, g1, if_pos rfl, g2, if_neg (by decide), g3 l h0, if_pos rfl]
theorem tab_top (root : Nat) (T : List Tb) (va : Nat) : tabF root T va 2 = some root := by unfold tabF; rw [if_pos rfl]
/-- Where a page is, no table is below it; where a table is, one is above it. -/
theorem Inv.below_page (h : Inv c σ L T) {va l : Nat} {m : Mp} (hp : pageP L va l = some m) (h0 : l ≠ 0) : tabF c.root T va (l - 1) = none := by
  obtain ⟨hm, hml, hmv⟩ := page_some hp
  have he := h.excl m hm (by omega)
  rw [hml] at he
  rw [← he]
  refine tab_congr (.inr ?_)
  obtain ⟨_, _, _, hb, _, _⟩ := h.pg m hm
  rw [show l - 1 + 1 = l by omega, hmv, ← hmv, ← hml, hb]
theorem Inv.above (h : Inv c σ L T) {va f : Nat} (h0 : tabF c.root T va 0 = some f) : ∃ g, tabF c.root T va 1 = some g := by
  obtain ⟨b, hb, hbl, hbv, _⟩ := tab_some (by decide) h0
  obtain ⟨g, hg⟩ := h.up b hb hbl
  refine ⟨g, ?_⟩
  rw [← hg]
  refine tab_congr (.inr ?_)
  rw [hbv, show (0 + 1 : Nat) = 1 from rfl, show (1 + 1 : Nat) = 2 from rfl, base_base (by decide) (by decide)]
theorem Inv.page_tab (h : Inv c σ L T) {va l : Nat} {m : Mp} (hp : pageP L va l = some m) (hl : l ≤ 2) : ∃ t, tabF c.root T va l = some t := by
  obtain ⟨hm, hml, hmv⟩ := page_some hp
  obtain ⟨t, ht⟩ := h.has m hm
  rw [hml] at ht
  refine ⟨t, ?_⟩
  rw [← ht]
  by_cases e : l = 2
  · exact tab_congr (.inl e)
  · refine tab_congr (.inr ?_)
    rw [hmv, base_base (by omega) (by omega)]
theorem find_some (h : Inv c σ L T) {va : Nat} {m : Mp} (hv : va < 18446744073709551616) (hc : canonB va = true) (hm : holdsP L va = some m) :
    ∃ t, tabF c.root T va m.lev = some t ∧ m.lev ≤ 2 ∧ pageP L va m.lev = some m ∧ findT c σ va = .leaf m.p.word m.lev (atX va t m.lev) := by
  have hff : findT c σ va = findF c.n σ.S va 2 c.root := by unfold findT findW; rw [if_pos rfl, if_pos hc]
  have ht2 := tab_top c.root T va
  unfold holdsP at hm
  rw [hff]
  split at hm
  · rename_i m' h0
    injection hm with hm
    subst hm
    obtain ⟨_, hml, _⟩ := page_some h0
    obtain ⟨t0, ht0⟩ := h.page_tab h0 (by decide)
    obtain ⟨t1, ht1⟩ := h.above ht0
    have p2 : pageP L va 2 = none := by
      cases e : pageP L va 2 with
      | none => rfl
      | some m2 => have := h.below_page e (by decide); rw [show 2 - 1 = 1 from rfl, ht1] at this; cases this
    have p1 : pageP L va 1 = none := by
      cases e : pageP L va 1 with
      | none => rfl
      | some m2 => have := h.below_page e (by decide); rw [show 1 - 1 = 0 from rfl, ht0] at this; cases this
    refine ⟨t0, by rw [hml]; exact ht0, by omega, by rw [hml]; exact h0, ?_⟩
    obtain ⟨d1, d2⟩ := h.step_down (l := 2) (k := findF c.n σ.S va 1 (ppnX (ldR c.n σ.S (atX va c.root 2) 8))) hv hc (by decide) (by decide) ht2 p2 ht1
    obtain ⟨e1, e2⟩ := h.step_down (l := 1) (k := findF c.n σ.S va 0 (ppnX (ldR c.n σ.S (atX va t1 1) 8))) hv hc (by decide) (by decide) ht1 p1 ht0
    rw [findF, show 1 + 1 = 2 from rfl, d1, d2, findF, show 0 + 1 = 1 from rfl, e1, e2, findF, h.step_page hv hc (by decide) ht0 h0, hml]
  · rename_i h0
    split at hm
    · rename_i m' h1
      injection hm with hm
      subst hm
      obtain ⟨_, hml, _⟩ := page_some h1
      obtain ⟨t1, ht1⟩ := h.page_tab h1 (by decide)
      have p2 : pageP L va 2 = none := by
        cases e : pageP L va 2 with
        | none => rfl
        | some m2 => have := h.below_page e (by decide); rw [show 2 - 1 = 1 from rfl, ht1] at this; cases this
      refine ⟨t1, by rw [hml]; exact ht1, by omega, by rw [hml]; exact h1, ?_⟩
      obtain ⟨d1, d2⟩ := h.step_down (l := 2) (k := findF c.n σ.S va 1 (ppnX (ldR c.n σ.S (atX va c.root 2) 8))) hv hc (by decide) (by decide) ht2 p2 ht1
      rw [findF, show 1 + 1 = 2 from rfl, d1, d2, findF, show 0 + 1 = 1 from rfl, h.step_page hv hc (by decide) ht1 h1, hml]
    · obtain ⟨_, hml, _⟩ := page_some hm
      refine ⟨c.root, by rw [hml]; exact ht2, by omega, by rw [hml]; exact hm, ?_⟩
      rw [findF, show 1 + 1 = 2 from rfl, h.step_page hv hc (by decide) ht2 hm, hml]
theorem find_none (h : Inv c σ L T) {va : Nat} (hv : va < 18446744073709551616) (hm : canonB va = false ∨ holdsP L va = none) : findT c σ va = .err 51 := by
  cases hc : canonB va with
  | false => unfold findT findW; rw [if_pos rfl, if_neg (by rw [hc]; decide)]
  | true =>
    rw [hc] at hm
    have hm := hm.resolve_left (by decide)
    have hff : findT c σ va = findF c.n σ.S va 2 c.root := by unfold findT findW; rw [if_pos rfl, if_pos hc]
    have ht2 := tab_top c.root T va
    unfold holdsP at hm
    rw [hff]
    split at hm
    · cases hm
    · rename_i h0
      split at hm
      · cases hm
      · rename_i h1
        cases ht1 : tabF c.root T va 1 with
        | none => rw [findF, show 1 + 1 = 2 from rfl, h.step_none hv hc (by decide) ht2 hm (.inr ht1)]
        | some t1 =>
          obtain ⟨d1, d2⟩ := h.step_down (l := 2) (k := findF c.n σ.S va 1 (ppnX (ldR c.n σ.S (atX va c.root 2) 8))) hv hc (by decide) (by decide) ht2 hm ht1
          rw [findF, show 1 + 1 = 2 from rfl, d1, d2]
          cases ht0 : tabF c.root T va 0 with
          | none => rw [findF, show 0 + 1 = 1 from rfl, h.step_none hv hc (by decide) ht1 h1 (.inr ht0)]
          | some t0 =>
            obtain ⟨e1, e2⟩ := h.step_down (l := 1) (k := findF c.n σ.S va 0 (ppnX (ldR c.n σ.S (atX va t1 1) 8))) hv hc (by decide) (by decide) ht1 h1 ht0
            rw [findF, show 0 + 1 = 1 from rfl, e1, e2, findF, h.step_none hv hc (by decide) ht0 h0 (.inl rfl)]
end
end Go.Proofs.Ytbgagmpinekhpaa

/- Plain laws: an entry is written; pages come and go, a table is laid. -/
namespace Go.Proofs.Ytbgagmpinekhpaa
open Go.RowKit

abbrev PKey (L : List Mp) : Prop := L.Pairwise (fun a b => ¬ (a.lev = b.lev ∧ a.va = b.va))
theorem pkey_uniq : ∀ {L : List Mp}, PKey L → ∀ {a b : Mp}, a ∈ L → b ∈ L → a.lev = b.lev → a.va = b.va → a = b
  | [], _, _, _, ha, _, _, _ => by cases ha
  | x :: L, h, a, b, ha, hb, h1, h2 => by
    obtain ⟨hx, hr⟩ := List.pairwise_cons.1 h
    rcases List.mem_cons.1 ha with e | ha' <;> rcases List.mem_cons.1 hb with e' | hb'
    · rw [e, e']
    · rw [e] at h1 h2; exact absurd ⟨h1, h2⟩ (hx b hb')
    · rw [e'] at h1 h2; exact absurd ⟨h1.symm, h2.symm⟩ (hx a ha')
    · exact pkey_uniq hr ha' hb' h1 h2
theorem page_iff {L : List Mp} (h : PKey L) {va l : Nat} {m : Mp} : pageP L va l = some m ↔ (m ∈ L ∧ m.lev = l ∧ m.va = baseN va l) := by
  refine ⟨page_some, fun ⟨h1, h2, h3⟩ => ?_⟩
  cases e : pageP L va l with
  | none => exact absurd ⟨h2, h3⟩ (page_none e m h1)
  | some m' =>
    obtain ⟨g1, g2, g3⟩ := page_some e
    rw [pkey_uniq h g1 h1 (by omega) (by omega)]
section
variable {c : TC} {σ : TS} {L : List Mp} {T : List Tb}
theorem Inv.entry (h : Inv c σ L T) {S : Nat → List Nat} (hfull : Full S) {va l t w : Nat} (hv : va < 18446744073709551616) (hc : canonB va = true) (hl : l ≤ 2) (ht : tabF c.root T va l = some t) (hw : w < 18446744073709551616)
    {vb l' t' : Nat} (hvb : vb < 18446744073709551616) (hcb : canonB vb = true) (hl' : l' ≤ 2) (ht' : tabF c.root T vb l' = some t') :
    wdX c.n (stR c.n S (atX va t l) 8 w) t' (indexV vb (l' : Int)) = if l' = l ∧ baseN vb l = baseN va l then w else wdX c.n S t' (indexV vb (l' : Int)) := by
  have hf := (h.frame ht).1
  have hn := h.n
  rw [at_eq' (by omega), wd_store hfull hf (idx_lt va l) (idx_lt vb l') hw]
  have e : (t' = t ∧ indexV vb (l' : Int) = indexV va (l : Int)) ↔ (l' = l ∧ baseN vb l = baseN va l) := by
    constructor
    · rintro ⟨rfl, hi⟩
      obtain ⟨rfl, h1⟩ := h.one hl hl' ht ht'
      refine ⟨rfl, ?_⟩
      rcases h1 with h1 | h1
      · subst h1
        exact (base_top hvb hv hcb hc).2 hi
      · by_cases e2 : l = 2
        · subst e2
          exact (base_top hvb hv hcb hc).2 hi
        · exact (base_up (by omega)).2 ⟨h1.symm, hi⟩
    · rintro ⟨rfl, hb⟩
      have hi : indexV vb (l' : Int) = indexV va (l' : Int) := by
        rw [← base_idx hl, hb, base_idx hl]
      refine ⟨?_, hi⟩
      have hcg : tabF c.root T vb l' = tabF c.root T va l' := by
        by_cases e2 : l' = 2
        · exact tab_congr (.inl e2)
        · exact tab_congr (.inr ((base_up (by omega)).1 hb).1)
      rw [hcg, ht] at ht'
      injection ht' with ht'
      exact ht'.symm
  by_cases hh : t' = t ∧ indexV vb (l' : Int) = indexV va (l : Int)
  · rw [if_pos hh, if_pos (e.1 hh)]
  · rw [if_neg hh, if_neg (fun x => hh (e.2 x))]
/-- Pages are others, tables are the same: an entry's word is written. -/
theorem Inv.pages (h : Inv c σ L T) {va l t w : Nat} (hv : va < 18446744073709551616) (hc : canonB va = true) (hl : l ≤ 2) (ht : tabF c.root T va l = some t) (hw : w < 18446744073709551616) {L' : List Mp} {u : Nat}
    (hpg : ∀ m ∈ L', m.lev ≤ 2 ∧ m.va < 18446744073709551616 ∧ canonB m.va = true ∧ baseN m.va m.lev = m.va ∧ mayB m.p (m.lev : Int) = true ∧ PteWf m.p)
    (hhas : ∀ m ∈ L', ∃ t, tabF c.root T m.va m.lev = some t) (hex : ∀ m ∈ L', m.lev ≠ 0 → tabF c.root T m.va (m.lev - 1) = none) (hkey : PKey L')
    (hsame : ∀ vb l', l' ≤ 2 → ¬ (l' = l ∧ baseN vb l = baseN va l) → pageP L' vb l' = pageP L vb l') (hnew : entW c.root L' T va l = w) : Inv c ⟨stR c.n σ.S (atX va t l) 8 w, σ.k, u⟩ L' T :=
  { full := h.full.store _ _ _ _, n := h.n, root := h.root, tab := h.tab, rfresh := h.rfresh, fresh := h.fresh, inj := h.inj, up := h.up, pg := hpg, has := hhas, excl := hex, pkey := hkey
    wd := fun vb l' t' hvb hcb hl' ht' => by
      show wdX c.n (stR c.n σ.S (atX va t l) 8 w) t' (indexV vb (l' : Int)) = _
      rw [h.entry h.full hv hc hl ht hw hvb hcb hl' ht']
      split
      · rename_i hh
        obtain ⟨rfl, hb⟩ := hh
        rw [← hnew]
        unfold entW
        rw [page_congr hb]
        split
        · rfl
        · split
          · rfl
          · rename_i h0
            rw [tab_congr (va := vb) (vb := va) (.inr (by rw [show l' - 1 + 1 = l' by omega]; exact hb))]
      · rename_i hh
        rw [h.wd vb l' t' hvb hcb hl' ht']
        unfold entW
        rw [hsame vb l' hl' hh] }
theorem may_lt (p : Pte) : p.word < 18446744073709551616 := Nat.lt_trans (word_lt p) (by decide)
theorem base_lt {va l : Nat} (hv : va < 18446744073709551616) : baseN va l < 18446744073709551616 := Nat.lt_of_le_of_lt (base_le va l) hv
/-- A page comes. -/
theorem Inv.add (h : Inv c σ L T) {va l t : Nat} {p : Pte} (hv : va < 18446744073709551616) (hc : canonB va = true) (hl : l ≤ 2) (ht : tabF c.root T va l = some t) (hm : mayB p (l : Int) = true) (hw : PteWf p) (hp : pageP L va l = none) (hn : l = 0 ∨ tabF c.root T va (l - 1) = none) (u : Nat) :
    Inv c ⟨stR c.n σ.S (atX va t l) 8 p.word, σ.k, u⟩ (L ++ [⟨baseN va l, l, p⟩]) T := by
  have hbb : baseN (baseN va l) l = baseN va l := base_base (Nat.le_refl _) hl
  have hkey : PKey (L ++ [⟨baseN va l, l, p⟩]) := by
    refine List.pairwise_append.2 ⟨h.pkey, List.pairwise_singleton _ _, fun a ha b hb hh => ?_⟩
    rw [List.mem_singleton.1 hb] at hh
    exact page_none hp a ha hh
  refine h.pages hv hc hl ht (may_lt p) (fun m hm' => ?_) (fun m hm' => ?_) (fun m hm' h0 => ?_) hkey (fun vb l' hl' hh => ?_) ?_
  · rcases List.mem_append.1 hm' with h1 | h1
    · exact h.pg m h1
    · rw [List.mem_singleton.1 h1]
      exact ⟨hl, base_lt hv, by rw [base_canon hl]; exact hc, hbb, hm, hw⟩
  · rcases List.mem_append.1 hm' with h1 | h1
    · exact h.has m h1
    · rw [List.mem_singleton.1 h1]
      refine ⟨t, ?_⟩
      rw [← ht]
      show tabF c.root T (baseN va l) l = tabF c.root T va l
      by_cases e : l = 2
      · exact tab_congr (.inl e)
      · exact tab_congr (.inr (base_base (by omega) (by omega)))
  · rcases List.mem_append.1 hm' with h1 | h1
    · exact h.excl m h1 h0
    · rw [List.mem_singleton.1 h1] at h0 ⊢
      have h00 : l ≠ 0 := h0
      show tabF c.root T (baseN va l) (l - 1) = none
      rw [← hn.resolve_left h00]
      exact tab_congr (.inr (by rw [show l - 1 + 1 = l by omega]; exact hbb))
  · unfold pageP
    rw [List.find?_append]
    cases e : L.find? (fun m => m.lev == l' && m.va == baseN vb l') with
    | some m => rfl
    | none =>
      rw [Option.none_or, List.find?_cons]
      split
      · rename_i hx
        simp only [Bool.and_eq_true, beq_iff_eq] at hx
        obtain ⟨rfl, h2⟩ := hx
        exact absurd ⟨rfl, h2.symm⟩ hh
      · rfl
  · unfold entW
    have e : pageP (L ++ [⟨baseN va l, l, p⟩]) va l = some ⟨baseN va l, l, p⟩ := (page_iff hkey).2 ⟨by simp, rfl, rfl⟩
    rw [e]
/-- A page's entry is another. -/
theorem Inv.put (h : Inv c σ L T) {va l t i : Nat} {m : Mp} {p : Pte} (hv : va < 18446744073709551616) (hc : canonB va = true) (hl : l ≤ 2) (ht : tabF c.root T va l = some t) (hm : mayB p (l : Int) = true) (hw : PteWf p) (hp : pageP L va l = some m) (hi : L[i]? = some m) (u : Nat) :
    Inv c ⟨stR c.n σ.S (atX va t l) 8 p.word, σ.k, u⟩ (L.set i ⟨m.va, m.lev, p⟩) T := by
  obtain ⟨hmL, hml, hmv⟩ := page_some hp
  have hil : i < L.length := by
    rcases Nat.lt_or_ge i L.length with h1 | h1
    · exact h1
    · rw [List.getElem?_eq_none h1] at hi; cases hi
  have hgi : L[i] = m := by rw [List.getElem?_eq_getElem hil] at hi; injection hi
  have hkey : PKey (L.set i ⟨m.va, m.lev, p⟩) := by
    refine List.pairwise_iff_getElem.2 fun a b ha hb hab hh => ?_
    rw [List.length_set] at ha hb
    have hk := List.pairwise_iff_getElem.1 h.pkey a b ha hb hab
    rw [List.getElem_set, List.getElem_set] at hh
    by_cases ea : i = a <;> by_cases eb : i = b
    · omega
    · rw [if_pos ea, if_neg eb] at hh
      subst ea
      rw [hgi] at hk
      exact hk hh
    · rw [if_neg ea, if_pos eb] at hh
      subst eb
      rw [hgi] at hk
      exact hk hh
    · rw [if_neg ea, if_neg eb] at hh
      exact hk hh
  have hmem : ∀ x ∈ L.set i ⟨m.va, m.lev, p⟩, x ∈ L ∨ x = ⟨m.va, m.lev, p⟩ := fun x hx => List.mem_or_eq_of_mem_set hx
  refine h.pages hv hc hl ht (may_lt p) (fun x hx => ?_) (fun x hx => ?_) (fun x hx h0 => ?_) hkey (fun vb l' hl' hh => ?_) ?_
  · rcases hmem x hx with h1 | rfl
    · exact h.pg x h1
    · obtain ⟨g1, g2, g3, g4, _, _⟩ := h.pg m hmL
      exact ⟨g1, g2, g3, g4, by show mayB p (m.lev : Int) = true; rw [hml]; exact hm, hw⟩
  · rcases hmem x hx with h1 | rfl
    · exact h.has x h1
    · exact h.has m hmL
  · rcases hmem x hx with h1 | rfl
    · exact h.excl x h1 h0
    · exact h.excl m hmL h0
  · have hnm : ¬ (m.lev = l' ∧ m.va = baseN vb l') := fun ⟨h1, h2⟩ => hh ⟨by omega, by rw [← hmv, h2, ← h1, hml]⟩
    cases e : pageP L vb l' with
    | some x =>
      obtain ⟨hx, h1, h2⟩ := page_some e
      refine (page_iff hkey).2 ⟨?_, h1, h2⟩
      obtain ⟨j, hj, rfl⟩ := List.getElem_of_mem hx
      have hne : i ≠ j := fun e => by
        subst e
        rw [hgi] at h1 h2
        exact hnm ⟨h1, h2⟩
      have : (L.set i ⟨m.va, m.lev, p⟩)[j]'(by rw [List.length_set]; exact hj) = L[j] := List.getElem_set_ne hne _
      rw [← this]
      exact List.getElem_mem _
    | none =>
      cases e' : pageP (L.set i ⟨m.va, m.lev, p⟩) vb l' with
      | none => rfl
      | some x =>
        obtain ⟨hx, h1, h2⟩ := page_some e'
        rcases hmem x hx with h3 | rfl
        · exact absurd ⟨h1, h2⟩ (page_none e x h3)
        · exact absurd ⟨h1, h2⟩ hnm
  · unfold entW
    have e : pageP (L.set i ⟨m.va, m.lev, p⟩) va l = some ⟨m.va, m.lev, p⟩ := (page_iff hkey).2 ⟨List.mem_set hil _, hml, hmv⟩
    rw [e]
/-- A page goes. -/
theorem Inv.del (h : Inv c σ L T) {va l t i : Nat} {m : Mp} (hv : va < 18446744073709551616) (hc : canonB va = true) (hl : l ≤ 2) (ht : tabF c.root T va l = some t) (hp : pageP L va l = some m) (hi : L[i]? = some m) (u : Nat) :
    Inv c ⟨stR c.n σ.S (atX va t l) 8 0, σ.k, u⟩ (L.eraseIdx i) T := by
  obtain ⟨hmL, hml, hmv⟩ := page_some hp
  have hil : i < L.length := by
    rcases Nat.lt_or_ge i L.length with h1 | h1
    · exact h1
    · rw [List.getElem?_eq_none h1] at hi; cases hi
  have hgi : L[i] = m := by rw [List.getElem?_eq_getElem hil] at hi; injection hi
  have hkey : PKey (L.eraseIdx i) := h.pkey.sublist (List.eraseIdx_sublist _ _)
  have hmem : ∀ x ∈ L.eraseIdx i, x ∈ L := fun x hx => List.mem_of_mem_eraseIdx hx
  have hgone : ∀ x ∈ L.eraseIdx i, ¬ (x.lev = m.lev ∧ x.va = m.va) := by
    intro x hx hh
    rw [List.mem_eraseIdx_iff_getElem] at hx
    obtain ⟨j, hj, hne, rfl⟩ := hx
    have h2 := List.pairwise_iff_getElem.1 h.pkey
    rcases Nat.lt_or_gt_of_ne hne with h3 | h3
    · exact h2 j i hj hil h3 (by rw [hgi]; exact hh)
    · exact h2 i j hil hj h3 (by rw [hgi]; exact ⟨hh.1.symm, hh.2.symm⟩)
  refine h.pages hv hc hl ht (by decide) (fun x hx => h.pg x (hmem x hx)) (fun x hx => h.has x (hmem x hx)) (fun x hx h0 => h.excl x (hmem x hx) h0) hkey (fun vb l' hl' hh => ?_) ?_
  · cases e : pageP L vb l' with
    | some x =>
      obtain ⟨hx, h1, h2⟩ := page_some e
      refine (page_iff hkey).2 ⟨?_, h1, h2⟩
      rw [List.mem_eraseIdx_iff_getElem]
      obtain ⟨j, hj, rfl⟩ := List.getElem_of_mem hx
      refine ⟨j, hj, fun e => ?_, rfl⟩
      subst e
      rw [hgi] at h1 h2
      exact hh ⟨by omega, by rw [← hmv, h2, ← h1, hml]⟩
    | none =>
      cases e' : pageP (L.eraseIdx i) vb l' with
      | none => rfl
      | some x =>
        obtain ⟨hx, h1, h2⟩ := page_some e'
        exact absurd ⟨h1, h2⟩ (page_none e x (hmem x hx))
  · have e : pageP (L.eraseIdx i) va l = none := by
      cases e' : pageP (L.eraseIdx i) va l with
      | none => rfl
      | some x =>
        obtain ⟨hx, h1, h2⟩ := page_some e'
        exact absurd ⟨by omega, by rw [h2, hmv]⟩ (hgone x hx)
    unfold entW
    rw [e]
    simp only
    split
    · rfl
    · rename_i h0
      rw [h.below_page hp h0]
end
end Go.Proofs.Ytbgagmpinekhpaa

/- Plain laws: a table is laid; a page is mapped. -/
namespace Go.Proofs.Ytbgagmpinekhpaa
open Go.RowKit

theorem tab_app (root : Nat) (T : List Tb) (b : Tb) (va l : Nat) : tabF root (T ++ [b]) va l = match tabF root T va l with
    | some f => some f
    | none => if b.lev = l ∧ b.va = baseN va (l + 1) then some b.fr else none := by
  unfold tabF
  by_cases h2 : l = 2
  · rw [if_pos h2, if_pos h2]
  · rw [if_neg h2, if_neg h2, List.find?_append]
    cases e : T.find? (fun b => b.lev == l && b.va == baseN va (l + 1)) with
    | some b' => rfl
    | none =>
      rw [Option.none_or, List.find?_cons]
      simp only [List.find?_nil, Option.map_none]
      by_cases hb : b.lev = l ∧ b.va = baseN va (l + 1)
      · rw [if_pos hb, show (b.lev == l && b.va == baseN va (l + 1)) = true by simp [hb.1, hb.2]]
        rfl
      · rw [if_neg hb]
        cases e2 : (b.lev == l && b.va == baseN va (l + 1)) with
        | true => simp only [Bool.and_eq_true, beq_iff_eq] at e2; exact absurd e2 hb
        | false => rfl
theorem tab_old {root : Nat} {T : List Tb} {va l f : Nat} (b : Tb) (h : tabF root T va l = some f) : tabF root (T ++ [b]) va l = some f := by rw [tab_app, h]
section
variable {c : TC} {σ : TS} {L : List Mp} {T : List Tb}
theorem Inv.lay (h : Inv c σ L T) {va l t : Nat} (hv : va < 18446744073709551616) (hc : canonB va = true) (hl : l ≤ 2) (h0 : l ≠ 0) (ht : tabF c.root T va l = some t) (hp : pageP L va l = none) (hn : tabF c.root T va (l - 1) = none) (hf : c.first + σ.k < c.n) (u : Nat) :
    Inv c ⟨stR c.n (updS σ.S (c.first + σ.k) zeroL) (atX va t l) 8 (leadW (c.first + σ.k)), σ.k + 1, u⟩ L (T ++ [⟨l - 1, baseN va l, c.first + σ.k⟩]) := by
  obtain ⟨f, hff⟩ : ∃ f, f = c.first + σ.k := ⟨_, rfl⟩
  rw [← hff] at hf ⊢
  have hl1 : l - 1 + 1 = l := by omega
  have htf := h.frame ht
  have hn' := h.n
  obtain ⟨_, _, _, _, _, hlw⟩ := lead_word (f := f) (by omega)
  have hbb : baseN (baseN va l) l = baseN va l := base_base (Nat.le_refl _) hl
  have hfull : Full (updS σ.S f zeroL) := h.full.upd f
  have happ : ∀ vb l', tabF c.root (T ++ [⟨l - 1, baseN va l, f⟩]) vb l' = match tabF c.root T vb l' with
    | some g => some g
    | none => if l - 1 = l' ∧ baseN va l = baseN vb (l' + 1) then some f else none := fun vb l' => tab_app c.root T ⟨l - 1, baseN va l, f⟩ vb l'
  refine { full := hfull.store _ _ _ _, n := h.n, root := h.root, tab := fun b hb => ?_, rfresh := ?_, fresh := fun b hb => ?_, inj := fun b hb b' hb' hff' => ?_, up := fun b hb hb0 => ?_, pg := h.pg, has := fun m hm => ?_, excl := fun m hm hm0 => ?_, pkey := h.pkey, wd := fun vb l' t' hvb hcb hl' ht' => ?_ }
  · rcases List.mem_append.1 hb with h1 | h1
    · exact h.tab b h1
    · rw [List.mem_singleton.1 h1]
      refine ⟨by show l - 1 ≤ 1; omega, hf, by show f ≠ c.root; have := h.rfresh; omega, base_lt hv, by rw [base_canon hl]; exact hc, ?_⟩
      show baseN (baseN va l) (l - 1 + 1) = baseN va l
      rw [hl1]; exact hbb
  · show c.root < c.first + (σ.k + 1)
    have := h.rfresh; omega
  · show b.fr < c.first + (σ.k + 1)
    rcases List.mem_append.1 hb with h1 | h1
    · have := h.fresh b h1; omega
    · rw [List.mem_singleton.1 h1]; show f < _; omega
  · rcases List.mem_append.1 hb with h1 | h1 <;> rcases List.mem_append.1 hb' with h2 | h2
    · exact h.inj b h1 b' h2 hff'
    · rw [List.mem_singleton.1 h2] at hff'
      have := h.fresh b h1
      have e : b.fr = f := hff'
      omega
    · rw [List.mem_singleton.1 h1] at hff'
      have := h.fresh b' h2
      have e : f = b'.fr := hff'
      omega
    · rw [List.mem_singleton.1 h1, List.mem_singleton.1 h2]
      exact ⟨rfl, rfl⟩
  · rcases List.mem_append.1 hb with h1 | h1
    · obtain ⟨g, hg⟩ := h.up b h1 hb0
      exact ⟨g, tab_old _ hg⟩
    · rw [List.mem_singleton.1 h1] at hb0 ⊢
      have e1 : l - 1 = 0 := hb0
      obtain rfl : l = 1 := by omega
      refine ⟨t, tab_old _ ?_⟩
      rw [← ht]
      show tabF c.root T (baseN va 1) 1 = tabF c.root T va 1
      exact tab_congr (.inr (base_base (by decide) (by decide)))
  · obtain ⟨g, hg⟩ := h.has m hm
    exact ⟨g, tab_old _ hg⟩
  · rw [happ, h.excl m hm hm0]
    simp only
    refine if_neg (fun ⟨g1, g2⟩ => ?_)
    rw [show m.lev - 1 + 1 = m.lev by omega] at g2
    obtain ⟨_, _, _, g4, _, _⟩ := h.pg m hm
    exact page_none hp m hm ⟨by omega, by rw [← g4, ← g2]⟩
  · show wdX c.n (stR c.n (updS σ.S f zeroL) (atX va t l) 8 (leadW f)) t' (indexV vb (l' : Int)) = entW c.root L (T ++ [⟨l - 1, baseN va l, f⟩]) vb l'
    rw [happ] at ht'
    cases hold : tabF c.root T vb l' with
    | some g =>
      rw [hold] at ht'
      injection ht' with ht'
      subst ht'
      rw [h.entry hfull hv hc hl ht hlw hvb hcb hl' hold]
      have hgf := (h.frame hold).2
      split
      · rename_i hh
        obtain ⟨rfl, hb⟩ := hh
        unfold entW
        rw [page_congr hb, hp]
        simp only
        rw [if_neg h0, happ, tab_congr (va := vb) (vb := va) (l := l' - 1) (.inr (by rw [hl1]; exact hb)), hn]
        simp only
        rw [if_pos ⟨trivial, by rw [hl1]; exact hb.symm⟩]
      · rename_i hh
        rw [wd_zero (idx_lt vb l'), if_neg (by omega), h.wd vb l' g hvb hcb hl' hold]
        unfold entW
        split
        · rfl
        · split
          · rfl
          · rename_i hl0
            rw [happ]
            cases e : tabF c.root T vb (l' - 1) with
            | some q => rfl
            | none =>
              simp only
              rw [if_neg (fun ⟨g1, g2⟩ => hh ⟨by omega, by
                have e3 : l' = l := by omega
                rw [show l' - 1 + 1 = l' by omega, e3] at g2
                exact g2.symm⟩)]
    | none =>
      rw [hold] at ht'
      simp only at ht'
      split at ht'
      · rename_i hh
        injection ht' with ht'
        subst ht'
        obtain ⟨g1, g2⟩ := hh
        have hpv : pageP L vb l' = none := by
          cases e : pageP L vb l' with
          | none => rfl
          | some m => obtain ⟨q, hq⟩ := h.page_tab e hl'; rw [hold] at hq; cases hq
        rw [at_eq' (by omega), wd_store hfull htf.1 (idx_lt va l) (idx_lt vb l') hlw, if_neg (fun ⟨e, _⟩ => by have := htf.2; omega), wd_zero (idx_lt vb l'), if_pos rfl]
        unfold entW
        rw [hpv]
        simp only
        split
        · rfl
        · rename_i hl0
          rw [happ]
          have e1 : l' = 1 := by omega
          subst e1
          have hz : tabF c.root T vb 0 = none := by
            cases e : tabF c.root T vb 0 with
            | none => rfl
            | some q => obtain ⟨g, hg⟩ := h.above e; rw [hold] at hg; cases hg
          rw [show 1 - 1 = 0 from rfl, hz]
          simp only
          rw [if_neg (fun ⟨g, _⟩ => by omega)]
      · cases ht'
theorem Inv.lead_page (h : Inv c σ L T) {va l t : Nat} {m : Mp} (hv : va < 18446744073709551616) (hc : canonB va = true) (hl : l ≤ 2) (ht : tabF c.root T va l = some t) (hp : pageP L va l = some m) : leadE c σ (atX va t l) = 130 ∧ leadS c σ (atX va t l) = σ ∧ ldR c.n σ.S (atX va t l) 8 ≠ 0 := by
  obtain ⟨_, h2⟩ := h.word hv hc hl ht
  obtain ⟨hm, hml, _⟩ := page_some hp
  obtain ⟨_, _, _, _, hmay, hwf⟩ := h.pg m hm
  rw [hml] at hmay
  obtain ⟨_, g2, _, _, g5⟩ := may_word hmay hwf
  have e : entW c.root L T va l = m.p.word := by unfold entW; rw [hp]
  rw [e] at h2
  unfold leadE leadS
  rw [h2, if_neg g5, if_neg g5, g2, if_pos rfl]
  exact ⟨rfl, rfl, g5⟩
theorem Inv.lead_down (h : Inv c σ L T) {va l t f : Nat} (hv : va < 18446744073709551616) (hc : canonB va = true) (hl : l ≤ 2) (h0 : l ≠ 0) (ht : tabF c.root T va l = some t) (hp : pageP L va l = none) (hf : tabF c.root T va (l - 1) = some f) : leadE c σ (atX va t l) = 0 ∧ leadS c σ (atX va t l) = σ ∧ leadF c σ (atX va t l) = f ∧ ldR c.n σ.S (atX va t l) 8 ≠ 0 := by
  obtain ⟨_, h2⟩ := h.word hv hc hl ht
  have hn := h.n
  have hfn := (h.frame hf).1
  obtain ⟨_, g2, _, g4, g5, _⟩ := lead_word (f := f) (by omega)
  have e : entW c.root L T va l = leadW f := by unfold entW; rw [hp]; simp only; rw [if_neg h0, hf]
  rw [e] at h2
  unfold leadE leadS leadF
  rw [h2, if_neg g5, if_neg g5, if_neg g5, g2, if_neg (by decide), if_neg (by decide), g4]
  exact ⟨rfl, rfl, rfl, g5⟩
theorem Inv.zero (h : Inv c σ L T) {va l t : Nat} (hv : va < 18446744073709551616) (hc : canonB va = true) (hl : l ≤ 2) (ht : tabF c.root T va l = some t) (hp : pageP L va l = none) (hn : l = 0 ∨ tabF c.root T va (l - 1) = none) : ldR c.n σ.S (atX va t l) 8 = 0 := by
  obtain ⟨_, h2⟩ := h.word hv hc hl ht
  rw [h2]
  unfold entW
  rw [hp]
  simp only
  split
  · rfl
  · rename_i h0
    rw [hn.resolve_left h0]
/-- What mapping comes to, by pages and tables. -/
structure XS where
  L : List Mp
  T : List Tb
  k : Nat
def mapX (c : TC) (va level : Nat) (p : Pte) : Nat → XS → Int × XS
  | 0, x => if pageP x.L va level = none ∧ (level = 0 ∨ tabF c.root x.T va (level - 1) = none) then (0, ⟨x.L ++ [⟨baseN va level, level, p⟩], x.T, x.k⟩) else (130, x)
  | d + 1, x => match pageP x.L va (level + (d + 1)) with
    | some _ => (130, x)
    | none => match tabF c.root x.T va (level + d) with
      | some _ => mapX c va level p d x
      | none => if x.k = c.N then (50, x) else if c.n ≤ c.first + x.k then (61, x) else mapX c va level p d ⟨x.L, x.T ++ [⟨level + d, baseN va (level + (d + 1)), c.first + x.k⟩], x.k + 1⟩
theorem map_spec (va level : Nat) (p : Pte) (hv : va < 18446744073709551616) (hc : canonB va = true) (hm : mayB p (level : Int) = true) (hw : PteWf p) : ∀ (d : Nat) (c : TC) (σ : TS) (L : List Mp) (T : List Tb) (t : Nat), Inv c σ L T → level + d ≤ 2 → tabF c.root T va (level + d) = some t →
    (mapGo c va level p.word d σ t).1 = (mapX c va level p d ⟨L, T, σ.k⟩).1 ∧ Inv c (mapGo c va level p.word d σ t).2 (mapX c va level p d ⟨L, T, σ.k⟩).2.L (mapX c va level p d ⟨L, T, σ.k⟩).2.T ∧
      (mapGo c va level p.word d σ t).2.k = (mapX c va level p d ⟨L, T, σ.k⟩).2.k ∧ (mapGo c va level p.word d σ t).2.u + σ.k = (mapGo c va level p.word d σ t).2.k + σ.u
  | 0, c, σ, L, T, t, h, hl, ht => by
    rw [Nat.add_zero] at ht hl
    unfold mapGo mapX
    simp only
    by_cases hp : pageP L va level = none ∧ (level = 0 ∨ tabF c.root T va (level - 1) = none)
    · rw [if_pos hp, if_pos (h.zero hv hc hl ht hp.1 hp.2)]
      exact ⟨rfl, h.add hv hc hl ht hm hw hp.1 hp.2 σ.u, rfl, Nat.add_comm _ _⟩
    · have hne : ldR c.n σ.S (atX va t level) 8 ≠ 0 := by
        cases e : pageP L va level with
        | some m => exact (h.lead_page hv hc hl ht e).2.2
        | none =>
          have h1 : ¬ (level = 0 ∨ tabF c.root T va (level - 1) = none) := fun x => hp ⟨e, x⟩
          cases e2 : tabF c.root T va (level - 1) with
          | none => exact absurd (.inr e2) h1
          | some f => exact (h.lead_down hv hc hl (fun e0 => h1 (.inl e0)) ht e e2).2.2.2
      rw [if_neg hp, if_neg hne]
      exact ⟨rfl, h, rfl, Nat.add_comm _ _⟩
  | d + 1, c, σ, L, T, t, h, hl, ht => by
    unfold mapGo mapX
    have hl1 : level + (d + 1) - 1 = level + d := by omega
    cases e : pageP L va (level + (d + 1)) with
    | some m =>
      obtain ⟨g1, g2, _⟩ := h.lead_page hv hc hl ht e
      simp only [e]
      rw [g1, g2, if_neg (by decide)]
      exact ⟨rfl, h, rfl, Nat.add_comm _ _⟩
    | none =>
      simp only [e]
      cases e2 : tabF c.root T va (level + d) with
      | some f =>
        obtain ⟨g1, g2, g3, _⟩ := h.lead_down (f := f) hv hc hl (by omega) ht e (by rw [hl1]; exact e2)
        simp only [e2]
        rw [g1, g2, g3, if_pos rfl]
        exact map_spec va level p hv hc hm hw d c σ L T f h (by omega) e2
      | none =>
        simp only [e2]
        have hz := h.zero hv hc hl ht e (.inr (by rw [hl1]; exact e2))
        have hE : leadE c σ (atX va t (level + (d + 1))) = takeE c σ := by unfold leadE; rw [if_pos hz]
        by_cases hk : σ.k = c.N
        · have ht50 : takeE c σ = 50 := if_pos hk
          have hS : leadS c σ (atX va t (level + (d + 1))) = σ := by
            unfold leadS takeS
            rw [if_pos hz, ht50, if_neg (by decide), if_pos hk]
          rw [hE, ht50, hS, if_neg (by decide), if_pos hk]
          exact ⟨rfl, h, rfl, Nat.add_comm _ _⟩
        · by_cases hn : c.n ≤ c.first + σ.k
          · have ht61 : takeE c σ = 61 := by unfold takeE; rw [if_neg hk, if_pos hn]
            have hS : leadS c σ (atX va t (level + (d + 1))) = σ := by
              unfold leadS takeS
              rw [if_pos hz, ht61, if_neg (by decide), if_neg hk, if_pos hn]
            rw [hE, ht61, hS, if_neg (by decide), if_neg hk, if_pos hn]
            exact ⟨rfl, h, rfl, Nat.add_comm _ _⟩
          · have ht0 : takeE c σ = 0 := by unfold takeE; rw [if_neg hk, if_neg hn]
            have hS : leadS c σ (atX va t (level + (d + 1))) = ⟨stR c.n (updS σ.S (c.first + σ.k) zeroL) (atX va t (level + (d + 1))) 8 (leadW (c.first + σ.k)), σ.k + 1, σ.u + 1⟩ := by
              unfold leadS takeS
              rw [if_pos hz, ht0, if_pos rfl, if_neg hk, if_neg hn]
            have hF : leadF c σ (atX va t (level + (d + 1))) = c.first + σ.k := by
              unfold leadF
              rw [if_pos hz, ht0, if_pos rfl]
            have hlay := h.lay hv hc hl (by omega) ht e (by rw [hl1]; exact e2) (by omega) (σ.u + 1)
            rw [hl1] at hlay
            have htn : tabF c.root (T ++ [⟨level + d, baseN va (level + (d + 1)), c.first + σ.k⟩]) va (level + d) = some (c.first + σ.k) := by
              rw [tab_app, e2]
              simp only
              rw [if_pos ⟨trivial, rfl⟩]
            rw [hE, ht0, hS, hF, if_pos rfl, if_neg hk, if_neg hn]
            obtain ⟨r1, r2, r3, r4⟩ := map_spec va level p hv hc hm hw d c _ L _ _ hlay (by omega) htn
            refine ⟨r1, r2, r3, ?_⟩
            have r4' : _ + (σ.k + 1) = _ + (σ.u + 1) := r4
            omega
end
end Go.Proofs.Ytbgagmpinekhpaa

/- Plain laws: the pages that are listed are those that are mapped, by their addresses. -/
namespace Go.Proofs.Ytbgagmpinekhpaa
open Go.RowKit

theorem sp3 : spN 3 = 549755813888 := rfl
theorem cv_all {l fr i : Nat} (hl : l ≤ 2) (hfr : fr < 549755813888) (hm : fr % spN (l + 1) = 0) (hi : i < 512) :
    fr + i * spN l < 549755813888 ∧ (fr + i * spN l) % spN l = 0 ∧ canonB (canV (fr + i * spN l)) = true ∧ baseN (canV (fr + i * spN l)) l = canV (fr + i * spN l) ∧ indexV (canV (fr + i * spN l)) (l : Int) = i ∧
      (l ≤ 1 → baseN (canV (fr + i * spN l)) (l + 1) = baseN (canV fr) (l + 1)) ∧ fr + i * spN l + spN l ≤ fr + spN (l + 1) := by
  have hb : fr + i * spN l < 549755813888 := by
    rcases lev3 hl with rfl | rfl | rfl
    · rw [show 0 + 1 = 1 from rfl, sp1] at hm; rw [sp0]; omega
    · rw [show 1 + 1 = 2 from rfl, sp2] at hm; rw [sp1]; omega
    · rw [show 2 + 1 = 3 from rfl, sp3] at hm; rw [sp2]; omega
  have hlt := canV_lt hb
  refine ⟨hb, ?_, ?_, ?_, ?_, fun h1 => ?_, ?_⟩
  · rcases lev3 hl with rfl | rfl | rfl
    · rw [show 0 + 1 = 1 from rfl, sp1] at hm; rw [sp0]; omega
    · rw [show 1 + 1 = 2 from rfl, sp2] at hm; rw [sp1]; omega
    · rw [show 2 + 1 = 3 from rfl, sp3] at hm; rw [sp2]; omega
  · rw [canon_iff _ hlt]
    generalize fr + i * spN l = x at *
    unfold canV
    split <;> omega
  · unfold baseN canV
    rcases lev3 hl with rfl | rfl | rfl
    · rw [show 0 + 1 = 1 from rfl, sp1] at hm; rw [sp0] at *; split <;> omega
    · rw [show 1 + 1 = 2 from rfl, sp2] at hm; rw [sp1] at *; split <;> omega
    · rw [show 2 + 1 = 3 from rfl, sp3] at hm; rw [sp2] at *; split <;> omega
  · rw [idx_eq _ hl]
    unfold canV
    rcases lev3 hl with rfl | rfl | rfl
    · rw [show 0 + 1 = 1 from rfl, sp1] at hm; rw [sp0] at *; split <;> omega
    · rw [show 1 + 1 = 2 from rfl, sp2] at hm; rw [sp1] at *; split <;> omega
    · rw [show 2 + 1 = 3 from rfl, sp3] at hm; rw [sp2] at *; split <;> omega
  · unfold baseN canV
    rcases (show l = 0 ∨ l = 1 by omega) with rfl | rfl
    · rw [show 0 + 1 = 1 from rfl, sp1] at *; rw [sp0] at *; split <;> split <;> omega
    · rw [show 1 + 1 = 2 from rfl, sp2] at *; rw [sp1] at *; split <;> split <;> omega
  · rcases lev3 hl with rfl | rfl | rfl
    · rw [show 0 + 1 = 1 from rfl, sp1, sp0]; omega
    · rw [show 1 + 1 = 2 from rfl, sp2, sp1]; omega
    · rw [show 2 + 1 = 3 from rfl, sp3, sp2]; omega
def low (m : Mp) : Nat := m.va % 549755813888
theorem canV_low {x : Nat} (h : x < 549755813888) : canV x % 549755813888 = x := by unfold canV; split <;> omega
theorem low_canV {va : Nat} (hv : va < 18446744073709551616) (hc : canonB va = true) : canV (va % 549755813888) = va := by
  have h := (canon_iff va hv).1 hc
  unfold canV
  split <;> omega
theorem canV_mono {x y : Nat} (h : x < y) (hy : y < 549755813888) : canV x < canV y := by unfold canV; split <;> split <;> omega
section
variable {c : TC} {σ : TS} {L : List Mp} {T : List Tb}
/-- What stands at one entry of a table. -/
theorem Inv.pg_at (h : Inv c σ L T) {l t fr i : Nat} {rec : Nat → Nat → List Mp} (hl : l ≤ 2) (hfr : fr < 549755813888) (hm : fr % spN (l + 1) = 0) (ht : tabF c.root T (canV fr) l = some t) (hi : i < 512) :
    (∃ m, pageP L (canV (fr + i * spN l)) l = some m ∧ pgAt c.n σ.S rec l t fr i = [m] ∧ leafX (wdX c.n σ.S t i) = true) ∨
    (pageP L (canV (fr + i * spN l)) l = none ∧ (l = 0 ∨ tabF c.root T (canV (fr + i * spN l)) (l - 1) = none) ∧ pgAt c.n σ.S rec l t fr i = [] ∧ wdX c.n σ.S t i = 0) ∨
    (∃ f, l ≠ 0 ∧ pageP L (canV (fr + i * spN l)) l = none ∧ tabF c.root T (canV (fr + i * spN l)) (l - 1) = some f ∧ pgAt c.n σ.S rec l t fr i = rec f (fr + i * spN l) ∧ ppnX (wdX c.n σ.S t i) = f) := by
  obtain ⟨g1, g2, g3, g4, g5, g6, g7⟩ := cv_all hl hfr hm hi
  have ht' : tabF c.root T (canV (fr + i * spN l)) l = some t := by
    rw [← ht]
    by_cases e : l = 2
    · exact tab_congr (.inl e)
    · exact tab_congr (.inr (g6 (by omega)))
  have hw := h.wd _ l t (canV_lt g1) g3 hl ht'
  rw [g5] at hw
  cases e : pageP L (canV (fr + i * spN l)) l with
  | some m =>
    left
    obtain ⟨hmL, hml, hmv⟩ := page_some e
    obtain ⟨_, _, _, _, hmay, hwf⟩ := h.pg m hmL
    rw [hml] at hmay
    obtain ⟨_, k2, _, k4, k5⟩ := may_word hmay hwf
    have e2 : wdX c.n σ.S t i = m.p.word := by rw [hw]; unfold entW; rw [e]
    refine ⟨m, rfl, ?_, by rw [e2]; exact k2⟩
    unfold pgAt
    rw [e2, if_neg k5, if_pos k2, k4]
    congr 1
    cases m
    simp only at hml hmv
    rw [hml, hmv, g4]
  | none =>
    right
    by_cases h0 : l = 0 ∨ tabF c.root T (canV (fr + i * spN l)) (l - 1) = none
    · left
      have e2 : wdX c.n σ.S t i = 0 := by
        rw [hw]; unfold entW; rw [e]
        simp only
        split
        · rfl
        · rename_i hz
          rw [h0.resolve_left hz]
      refine ⟨rfl, h0, ?_, e2⟩
      unfold pgAt
      rw [e2, if_pos rfl]
    · right
      have hl0 : l ≠ 0 := fun e => h0 (.inl e)
      cases ef : tabF c.root T (canV (fr + i * spN l)) (l - 1) with
      | none => exact absurd (.inr ef) h0
      | some f =>
        have hfn := (h.frame ef).1
        have hn := h.n
        obtain ⟨_, k2, _, k4, k5, _⟩ := lead_word (f := f) (by omega)
        have e2 : wdX c.n σ.S t i = leadW f := by rw [hw]; unfold entW; rw [e]; simp only; rw [if_neg hl0, ef]
        refine ⟨f, hl0, rfl, rfl, ?_, by rw [e2]; exact k4⟩
        unfold pgAt
        rw [e2, if_neg k5, k2, if_neg (by decide), k4]
theorem Inv.pgok (h : Inv c σ L T) : ∀ (l t fr : Nat), l ≤ 2 → fr < 549755813888 → fr % spN (l + 1) = 0 → tabF c.root T (canV fr) l = some t → PgOK c.n σ.S l t
  | 0, t, fr, hl, hfr, hm, ht => fun i hi => by
    rcases h.pg_at (rec := fun _ _ => []) hl hfr hm ht hi with ⟨m, _, _, h3⟩ | ⟨_, _, _, h4⟩ | ⟨f, h0, _⟩
    · exact .inr h3
    · exact .inl h4
    · exact absurd rfl h0
  | l + 1, t, fr, hl, hfr, hm, ht => fun i hi => by
    rcases h.pg_at (rec := fun _ _ => []) hl hfr hm ht hi with ⟨m, _, _, h3⟩ | ⟨_, _, _, h4⟩ | ⟨f, h0, _, h2, _, h5⟩
    · exact .inr (.inl h3)
    · exact .inl h4
    · obtain ⟨g1, g2, _⟩ := cv_all hl hfr hm hi
      refine .inr (.inr ?_)
      rw [h5]
      exact h.pgok l f _ (by omega) g1 g2 h2
/-- A table's pages: which ones, where, in which order. -/
theorem Inv.round (h : Inv c σ L T) {l t fr : Nat} {rec : Nat → Nat → List Mp} (hl : l ≤ 2) (hfr : fr < 549755813888) (hm : fr % spN (l + 1) = 0) (ht : tabF c.root T (canV fr) l = some t)
    (hrec : ∀ f x, l ≠ 0 → x < 549755813888 → x % spN l = 0 → tabF c.root T (canV x) (l - 1) = some f →
      (∀ m, m ∈ rec f x ↔ (m ∈ L ∧ m.lev ≤ l - 1 ∧ baseN m.va l = baseN (canV x) l)) ∧ (∀ m ∈ rec f x, x ≤ low m ∧ low m < x + spN l) ∧ (rec f x).Pairwise (fun a b => low a < low b)) :
    ∀ k, k ≤ 512 → (∀ m, m ∈ (List.range k).flatMap (pgAt c.n σ.S rec l t fr) ↔ (m ∈ L ∧ m.lev ≤ l ∧ (l = 2 ∨ baseN m.va (l + 1) = baseN (canV fr) (l + 1)) ∧ indexV m.va (l : Int) < k)) ∧
      (∀ m ∈ (List.range k).flatMap (pgAt c.n σ.S rec l t fr), fr ≤ low m ∧ low m < fr + k * spN l) ∧ ((List.range k).flatMap (pgAt c.n σ.S rec l t fr)).Pairwise (fun a b => low a < low b)
  | 0, _ => ⟨fun m => by simp, fun m hm => by simp at hm, by simp⟩
  | k + 1, hk => by
    obtain ⟨i1, i2, i3⟩ := h.round hl hfr hm ht hrec k (by omega)
    obtain ⟨g1, g2, g3, g4, g5, g6, g7⟩ := cv_all hl hfr hm (show k < 512 by omega)
    have hxl := canV_lt g1
    -- where a page of this entry lies
    have hin : ∀ m ∈ L, m.lev ≤ l → (l = 2 ∨ baseN m.va (l + 1) = baseN (canV fr) (l + 1)) → indexV m.va (l : Int) = k → baseN m.va l = canV (fr + k * spN l) := by
      intro m hmL hml hb hix
      obtain ⟨_, q2, q3, _, _, _⟩ := h.pg m hmL
      rw [← g4]
      by_cases e : l = 2
      · subst e
        exact (base_top q2 hxl q3 g3).2 (by rw [show ((2 : Nat) : Int) = 2 from rfl] at g5 hix; rw [hix, g5])
      · have hb' := hb.resolve_left e
        exact (base_up (by omega)).2 ⟨by rw [hb', g6 (by omega)], by rw [hix, g5]⟩
    have hcell : (∀ m, m ∈ pgAt c.n σ.S rec l t fr k ↔ (m ∈ L ∧ m.lev ≤ l ∧ (l = 2 ∨ baseN m.va (l + 1) = baseN (canV fr) (l + 1)) ∧ indexV m.va (l : Int) = k)) ∧
        (∀ m ∈ pgAt c.n σ.S rec l t fr k, fr + k * spN l ≤ low m ∧ low m < fr + k * spN l + spN l) ∧ (pgAt c.n σ.S rec l t fr k).Pairwise (fun a b => low a < low b) := by
      have hspp : 0 < spN l := by rcases lev3 hl with rfl | rfl | rfl <;> decide
      have hback : ∀ m, m ∈ L → baseN m.va l = baseN (canV (fr + k * spN l)) l → (l = 2 ∨ baseN m.va (l + 1) = baseN (canV fr) (l + 1)) ∧ indexV m.va (l : Int) = k := by
        intro m hmL hb
        refine ⟨?_, by rw [← base_idx hl, hb, base_idx hl, g5]⟩
        by_cases e : l = 2
        · exact .inl e
        · exact .inr (by rw [← g6 (by omega)]; exact ((base_up (by omega)).1 hb).1)
      rcases h.pg_at (rec := rec) hl hfr hm ht (show k < 512 by omega) with ⟨m0, h1, h2, _⟩ | ⟨h1, h2, h3, _⟩ | ⟨f, h0, h1, h2, h3, _⟩
      · obtain ⟨q1, q2, q3⟩ := page_some h1
        rw [h2]
        refine ⟨fun m => ?_, fun m hm' => ?_, List.pairwise_singleton _ _⟩
        · rw [List.mem_singleton]
          constructor
          · rintro rfl
            obtain ⟨r1, r2⟩ := hback m q1 (by rw [q3, base_base (Nat.le_refl _) hl])
            exact ⟨q1, by omega, r1, r2⟩
          · rintro ⟨r1, r2, r3, r4⟩
            have hb := hin m r1 r2 r3 r4
            rcases Nat.lt_or_ge m.lev l with r5 | r5
            · exfalso
              obtain ⟨tt, htt⟩ := h.has m r1
              have hbp := h.below_page h1 (by omega)
              have hup : ∃ g, tabF c.root T m.va (l - 1) = some g := by
                rcases (show m.lev = l - 1 ∨ (m.lev = 0 ∧ l = 2) by omega) with e | ⟨e1, e2⟩
                · exact ⟨tt, by rw [← e]; exact htt⟩
                · subst e2
                  rw [e1] at htt
                  exact h.above htt
              obtain ⟨g, hg⟩ := hup
              rw [tab_congr (va := m.va) (vb := canV (fr + k * spN l)) (.inr (by rw [show l - 1 + 1 = l by omega, hb, g4])), hbp] at hg
              cases hg
            · have e : m.lev = l := by omega
              obtain ⟨_, _, _, q4, _, _⟩ := h.pg m r1
              exact pkey_uniq h.pkey r1 q1 (by omega) (by rw [q3, g4, ← hb, ← e, q4])
        · rw [List.mem_singleton.1 hm']
          have e : low m0 = fr + k * spN l := by unfold low; rw [q3, g4, canV_low g1]
          omega
      · rw [h3]
        refine ⟨fun m => ⟨fun hm' => by simp at hm', fun ⟨r1, r2, r3, r4⟩ => ?_⟩, fun m hm' => by simp at hm', List.Pairwise.nil⟩
        exfalso
        have hb := hin m r1 r2 r3 r4
        rcases Nat.lt_or_ge m.lev l with r5 | r5
        · obtain ⟨tt, htt⟩ := h.has m r1
          have hup : ∃ g, tabF c.root T m.va (l - 1) = some g := by
            rcases (show m.lev = l - 1 ∨ (m.lev = 0 ∧ l = 2) by omega) with e | ⟨e1, e2⟩
            · exact ⟨tt, by rw [← e]; exact htt⟩
            · subst e2
              rw [e1] at htt
              exact h.above htt
          obtain ⟨g, hg⟩ := hup
          rw [tab_congr (va := m.va) (vb := canV (fr + k * spN l)) (.inr (by rw [show l - 1 + 1 = l by omega, hb, g4])), h2.resolve_left (by omega)] at hg
          cases hg
        · have e : m.lev = l := by omega
          obtain ⟨_, _, _, q4, _, _⟩ := h.pg m r1
          rw [e] at q4
          exact page_none h1 m r1 ⟨e, by rw [g4, ← hb, q4]⟩
      · obtain ⟨j1, j2, j3⟩ := hrec f (fr + k * spN l) h0 g1 g2 h2
        rw [h3]
        refine ⟨fun m => ?_, j2, j3⟩
        rw [j1]
        constructor
        · rintro ⟨r1, r2, r3⟩
          obtain ⟨s1, s2⟩ := hback m r1 r3
          exact ⟨r1, by omega, s1, s2⟩
        · rintro ⟨r1, r2, r3, r4⟩
          have hb := hin m r1 r2 r3 r4
          refine ⟨r1, ?_, by rw [hb, g4]⟩
          rcases Nat.lt_or_ge m.lev l with r5 | r5
          · omega
          · exfalso
            have e : m.lev = l := by omega
            obtain ⟨_, _, _, q4, _, _⟩ := h.pg m r1
            rw [e] at q4
            exact page_none h1 m r1 ⟨e, by rw [g4, ← hb, q4]⟩
    obtain ⟨c1, c2, c3⟩ := hcell
    rw [range_next]
    refine ⟨fun m => ?_, fun m hm' => ?_, List.pairwise_append.2 ⟨i3, c3, fun a ha b hb => ?_⟩⟩
    · rw [List.mem_append, i1, c1]
      constructor
      · rintro (⟨r1, r2, r3, r4⟩ | ⟨r1, r2, r3, r4⟩)
        · exact ⟨r1, r2, r3, by omega⟩
        · exact ⟨r1, r2, r3, by omega⟩
      · rintro ⟨r1, r2, r3, r4⟩
        rcases Nat.lt_or_ge (indexV m.va (l : Int)) k with h1 | h1
        · exact .inl ⟨r1, r2, r3, h1⟩
        · exact .inr ⟨r1, r2, r3, by omega⟩
    · rw [Nat.succ_mul]
      rcases List.mem_append.1 hm' with h1 | h1
      · have := i2 m h1; omega
      · have := c2 m h1
        have h3 : 0 ≤ k * spN l := Nat.zero_le _
        omega
    · have h1 := (i2 a ha).2
      have h2 := (c2 b hb).1
      omega
theorem Inv.pages_low (h : Inv c σ L T) : ∀ (l t fr : Nat), l ≤ 2 → fr < 549755813888 → fr % spN (l + 1) = 0 → tabF c.root T (canV fr) l = some t →
    (∀ m, m ∈ pagesM c.n σ.S l t fr ↔ (m ∈ L ∧ m.lev ≤ l ∧ (l = 2 ∨ baseN m.va (l + 1) = baseN (canV fr) (l + 1)))) ∧ (∀ m ∈ pagesM c.n σ.S l t fr, fr ≤ low m ∧ low m < fr + spN (l + 1)) ∧ (pagesM c.n σ.S l t fr).Pairwise (fun a b => low a < low b)
  | 0, t, fr, hl, hfr, hm, ht => by
    obtain ⟨h1, h2, h3⟩ := h.round (rec := fun _ _ => []) hl hfr hm ht (fun f x h0 => absurd rfl h0) 512 (Nat.le_refl _)
    refine ⟨fun m => (h1 m).trans ⟨fun ⟨r1, r2, r3, _⟩ => ⟨r1, r2, r3⟩, fun ⟨r1, r2, r3⟩ => ⟨r1, r2, r3, idx_lt _ _⟩⟩, fun m hm' => ?_, h3⟩
    have := h2 m hm'
    rw [show 0 + 1 = 1 from rfl, sp1]
    rw [sp0] at this
    omega
  | l + 1, t, fr, hl, hfr, hm, ht => by
    obtain ⟨h1, h2, h3⟩ := h.round (rec := pagesM c.n σ.S l) hl hfr hm ht (fun f x h0 hx hxm htx => by
      obtain ⟨r1, r2, r3⟩ := h.pages_low l f x (by omega) hx hxm htx
      refine ⟨fun m => (r1 m).trans ⟨fun ⟨a, b, d⟩ => ⟨a, b, d.resolve_left (by omega)⟩, fun ⟨a, b, d⟩ => ⟨a, b, .inr d⟩⟩, r2, r3⟩) 512 (Nat.le_refl _)
    refine ⟨fun m => (h1 m).trans ⟨fun ⟨r1, r2, r3, _⟩ => ⟨r1, r2, r3⟩, fun ⟨r1, r2, r3⟩ => ⟨r1, r2, r3, idx_lt _ _⟩⟩, fun m hm' => ?_, h3⟩
    have := h2 m hm'
    rcases (show l = 0 ∨ l = 1 by omega) with rfl | rfl
    · rw [show 0 + 1 = 1 from rfl, sp1] at this
      rw [show 0 + 1 + 1 = 2 from rfl, sp2]
      omega
    · rw [show 1 + 1 = 2 from rfl, sp2] at this
      rw [show 1 + 1 + 1 = 3 from rfl, sp3]
      omega
/-- All pages: those that are mapped, by their addresses. -/
theorem Inv.pages_all (h : Inv c σ L T) : (∀ m, m ∈ pagesM c.n σ.S 2 c.root 0 ↔ m ∈ L) ∧ (pagesM c.n σ.S 2 c.root 0).Pairwise (fun a b => a.va < b.va) ∧ PgOK c.n σ.S 2 c.root := by
  have ht := tab_top c.root T (canV 0)
  obtain ⟨h1, h2, h3⟩ := h.pages_low 2 c.root 0 (by decide) (by decide) (by decide) ht
  have hmem : ∀ m, m ∈ pagesM c.n σ.S 2 c.root 0 ↔ m ∈ L := fun m => (h1 m).trans ⟨fun ⟨a, _, _⟩ => a, fun a => ⟨a, (h.pg m a).1, .inl rfl⟩⟩
  refine ⟨hmem, h3.imp_of_mem (fun {a b} ha hb hab => ?_), h.pgok 2 c.root 0 (by decide) (by decide) (by decide) ht⟩
  obtain ⟨_, p2, p3, _⟩ := h.pg a ((hmem a).1 ha)
  obtain ⟨_, q2, q3, _⟩ := h.pg b ((hmem b).1 hb)
  rw [← low_canV p2 p3, ← low_canV q2 q3]
  exact canV_mono hab (Nat.mod_lt _ (by decide))
end
end Go.Proofs.Ytbgagmpinekhpaa

/- Plain laws: tables by their pages alone; the list of pages is sorted by insertion. -/
namespace Go.Proofs.Ytbgagmpinekhpaa
open Go.RowKit

theorem fi_spec {α : Type} (p : α → Bool) : ∀ L : List α, match L.findIdx? p with
    | some i => ∃ x, L[i]? = some x ∧ L.find? p = some x
    | none => L.find? p = none
  | [] => rfl
  | a :: L => by
    have ih := fi_spec p L
    rw [List.findIdx?_cons, List.find?_cons]
    cases hp : p a with
    | true => exact ⟨a, rfl, rfl⟩
    | false =>
      simp only
      cases e : L.findIdx? p with
      | none => rw [e] at ih; exact ih
      | some i =>
        rw [e] at ih
        obtain ⟨x, h1, h2⟩ := ih
        exact ⟨x, by simpa using h1, h2⟩
def pageI (L : List Mp) (va l : Nat) : Option Nat := L.findIdx? (fun m => m.lev == l && m.va == baseN va l)
theorem pageI_some {L : List Mp} {va l i : Nat} (h : pageI L va l = some i) : ∃ m, L[i]? = some m ∧ pageP L va l = some m := by
  have h2 := fi_spec (fun m : Mp => m.lev == l && m.va == baseN va l) L
  unfold pageI at h
  rw [h] at h2
  exact h2
theorem pageI_none {L : List Mp} {va l : Nat} (h : pageI L va l = none) : pageP L va l = none := by
  have h2 := fi_spec (fun m : Mp => m.lev == l && m.va == baseN va l) L
  unfold pageI at h
  rw [h] at h2
  exact h2
def holdsI (L : List Mp) (va : Nat) : Option Nat :=
  if canonB va then
    match pageI L va 0 with
    | some i => some i
    | none => match pageI L va 1 with
      | some i => some i
      | none => pageI L va 2
  else none
/-- What tables stand for, ahead of their bytes. -/
structure Like (c : TC) (σ : TS) (x : XS) : Prop where
  inv : Inv c σ x.L x.T
  k : σ.k = x.k
  u : σ.u = x.k
def mapL (c : TC) (x : XS) (va : Nat) (l : Int) (p : Pte) : Int × XS := if canonB va && mayB p l then mapX c va l.toNat p (2 - l.toNat) x else (2, x)
def changeL (x : XS) (va : Nat) (p : Pte) : Int × XS :=
  match holdsI x.L va with
  | none => (51, x)
  | some i => match x.L[i]? with
    | none => (51, x)
    | some m => if mayB p (m.lev : Int) then (0, ⟨x.L.set i ⟨m.va, m.lev, p⟩, x.T, x.k⟩) else (2, x)
def unmapL (x : XS) (va : Nat) : Pte × Int × XS :=
  match holdsI x.L va with
  | none => (pte0, 51, x)
  | some i => match x.L[i]? with
    | none => (pte0, 51, x)
    | some m => (m.p, 0, ⟨x.L.eraseIdx i, x.T, x.k⟩)
section
variable {c : TC} {σ : TS} {L : List Mp} {T : List Tb} {x : XS}
theorem Inv.found (h : Inv c σ L T) {va : Nat} (hv : va < 18446744073709551616) : match holdsI L va with
    | some i => ∃ m t, L[i]? = some m ∧ m.lev ≤ 2 ∧ canonB va = true ∧ pageP L va m.lev = some m ∧ tabF c.root T va m.lev = some t ∧ findT c σ va = .leaf m.p.word m.lev (atX va t m.lev) ∧ entP m.p.word = m.p
    | none => findT c σ va = .err 51 := by
  cases hc : canonB va with
  | false =>
    have e : holdsI L va = none := by unfold holdsI; rw [if_neg (by rw [hc]; decide)]
    rw [e]
    exact find_none h hv (.inl hc)
  | true =>
    have e : holdsI L va = (match pageI L va 0 with
      | some i => some i
      | none => match pageI L va 1 with
        | some i => some i
        | none => pageI L va 2) := by unfold holdsI; rw [if_pos hc]
    have key : ∀ (i : Nat) (m : Mp), L[i]? = some m → holdsP L va = some m → ∃ m t, L[i]? = some m ∧ m.lev ≤ 2 ∧ true = true ∧ pageP L va m.lev = some m ∧ tabF c.root T va m.lev = some t ∧ findT c σ va = .leaf m.p.word m.lev (atX va t m.lev) ∧ entP m.p.word = m.p := by
      intro i m h1 h2
      obtain ⟨t, g1, g2, g3, g4⟩ := find_some h hv hc h2
      obtain ⟨hmL, _, _⟩ := page_some g3
      obtain ⟨_, _, _, _, hmay, hwf⟩ := h.pg m hmL
      exact ⟨m, t, h1, g2, rfl, g3, g1, g4, (may_word hmay hwf).2.2.2.1⟩
    rw [e]
    cases e0 : pageI L va 0 with
    | some i =>
      obtain ⟨m, h1, h2⟩ := pageI_some e0
      exact key i m h1 (by unfold holdsP; rw [h2])
    | none =>
      cases e1 : pageI L va 1 with
      | some i =>
        obtain ⟨m, h1, h2⟩ := pageI_some e1
        exact key i m h1 (by unfold holdsP; rw [pageI_none e0, h2])
      | none =>
        cases e2 : pageI L va 2 with
        | some i =>
          obtain ⟨m, h1, h2⟩ := pageI_some e2
          exact key i m h1 (by unfold holdsP; rw [pageI_none e0, pageI_none e1, h2])
        | none => exact find_none h hv (.inr (by unfold holdsP; rw [pageI_none e0, pageI_none e1, pageI_none e2]))
theorem may_lev {p : Pte} {l : Int} (h : mayB p l = true) : 0 ≤ l ∧ l < 3 := by
  unfold mayB at h
  simp only [Bool.and_eq_true] at h
  have := h.1
  unfold levelB at this
  simp only [Bool.or_eq_true, beq_iff_eq] at this
  omega
theorem map_law (h : Like c σ x) {va : Nat} (hv : va < 18446744073709551616) (l : Int) {p : Pte} (hw : PteWf p) : (mapR c σ va l p).1 = (mapL c x va l p).1 ∧ Like c (mapR c σ va l p).2 (mapL c x va l p).2 := by
  unfold mapR mapL
  by_cases hb : (canonB va && mayB p l) = true
  · rw [if_pos hb, if_pos hb]
    rw [Bool.and_eq_true] at hb
    obtain ⟨h0, h3⟩ := may_lev hb.2
    have hl : ((l.toNat : Nat) : Int) = l := by omega
    obtain ⟨r1, r2, r3, r4⟩ := map_spec va l.toNat p hv hb.1 (by rw [hl]; exact hb.2) hw (2 - l.toNat) c σ x.L x.T c.root h.inv (by omega) (by rw [show l.toNat + (2 - l.toNat) = 2 by omega]; exact tab_top _ _ _)
    have hx : (⟨x.L, x.T, σ.k⟩ : XS) = x := by rw [h.k]
    rw [hx] at r1 r2 r3
    refine ⟨r1, r2, r3, ?_⟩
    have := h.k
    have := h.u
    omega
  · rw [if_neg hb, if_neg hb]
    exact ⟨rfl, h⟩
theorem change_law (h : Like c σ x) {va : Nat} (hv : va < 18446744073709551616) {p : Pte} (hw : PteWf p) : (changeR c σ va p).1 = (changeL x va p).1 ∧ Like c (changeR c σ va p).2 (changeL x va p).2 := by
  have hf := h.inv.found hv
  unfold changeR changeL
  cases e : holdsI x.L va with
  | none =>
    rw [e] at hf
    simp only at hf
    rw [hf]
    exact ⟨rfl, h⟩
  | some i =>
    rw [e] at hf
    obtain ⟨m, t, g1, g2, gc, g3, g4, g5, g6⟩ := hf
    simp only
    rw [g5, g1]
    simp only
    by_cases hm : mayB p (m.lev : Int) = true
    · rw [if_pos hm, if_pos hm]
      exact ⟨rfl, h.inv.put hv gc g2 g4 hm hw g3 g1 σ.u, h.k, h.u⟩
    · rw [if_neg hm, if_neg hm]
      exact ⟨rfl, h⟩
theorem unmap_law (h : Like c σ x) {va : Nat} (hv : va < 18446744073709551616) : (unmapR c σ va).1 = (unmapL x va).1 ∧ (unmapR c σ va).2.1 = (unmapL x va).2.1 ∧ Like c (unmapR c σ va).2.2 (unmapL x va).2.2 := by
  have hf := h.inv.found hv
  unfold unmapR unmapL
  cases e : holdsI x.L va with
  | none =>
    rw [e] at hf
    simp only at hf
    rw [hf]
    exact ⟨rfl, rfl, h⟩
  | some i =>
    rw [e] at hf
    obtain ⟨m, t, g1, g2, gc, g3, g4, g5, g6⟩ := hf
    simp only
    rw [g5, g1]
    exact ⟨g6, rfl, h.inv.del hv gc g2 g4 g3 g1 σ.u, h.k, h.u⟩
end
theorem wd_empty (n t i : Nat) : wdX n emptyS t i = 0 := ld_empty _ _
/-- Tables that are new. -/
theorem start_law (c : TC) (hn : c.n ≤ 1048576) (h : newE c emptyS 0 = 0) : Like (c.at_ (c.first + 0)) (newS c emptyS 0) ⟨[], [], 1⟩ := by
  unfold newE takeE at h
  by_cases h1 : (0 : Nat) = c.N
  · rw [if_pos h1] at h; cases h
  · rw [if_neg h1] at h
    by_cases h2 : c.n ≤ c.first + 0
    · rw [if_pos h2] at h; cases h
    · have hS : newS c emptyS 0 = ⟨updS emptyS (c.first + 0) zeroL, 1, 1⟩ := by
        unfold newS takeS
        rw [if_neg h1, if_neg h2]
      rw [hS]
      refine ⟨{ full := Full.empty.upd _, n := hn, root := by show c.first + 0 < c.n; omega, tab := fun b hb => by simp at hb, rfresh := by show c.first + 0 < c.first + 1; omega, fresh := fun b hb => by simp at hb, inj := fun b hb => by simp at hb, up := fun b hb => by simp at hb, pg := fun m hm => by simp at hm, has := fun m hm => by simp at hm, excl := fun m hm => by simp at hm, pkey := List.Pairwise.nil, wd := fun va l t hv hc hl ht => ?_ }, rfl, rfl⟩
      show wdX c.n (updS emptyS (c.first + 0) zeroL) t (indexV va (l : Int)) = _
      rw [wd_zero (idx_lt va l), wd_empty]
      have e : entW (c.at_ (c.first + 0)).root [] [] va l = 0 := by
        unfold entW pageP tabF
        simp only [List.find?_nil, Option.map_none]
        split
        · rfl
        · rename_i h0
          rw [if_neg (by omega)]
      rw [e]
      split <;> rfl
/-- The place at which a page is put among those that stand. -/
def posN (out : List Mp) (v : Nat) : Nat → Nat
  | 0 => 0
  | i + 1 => match out[i]? with
    | some m => if v < m.va then posN out v i else i + 1
    | none => i + 1
def insM (out : List Mp) (m : Mp) : List Mp := out.take (posN out m.va out.length) ++ m :: out.drop (posN out m.va out.length)
def sortM (L : List Mp) : List Mp := L.foldl insM []
theorem posN_le (out : List Mp) (v : Nat) : ∀ i, posN out v i ≤ i
  | 0 => Nat.le_refl _
  | i + 1 => by
    unfold posN
    split
    · split
      · exact Nat.le_trans (posN_le out v i) (Nat.le_succ _)
      · exact Nat.le_refl _
    · exact Nat.le_refl _
theorem posN_hi (out : List Mp) (v : Nat) (i : Nat) : ∀ (j : Nat) (m : Mp), posN out v i ≤ j → j < i → out[j]? = some m → v < m.va := by
  induction i with
  | zero => intro j m h1 h2; exact absurd h2 (Nat.not_lt_zero _)
  | succ i ih =>
    intro j m h1 h2 h3
    unfold posN at h1
    cases e : out[i]? with
    | none =>
      rw [e] at h1
      exact absurd h2 (Nat.not_lt.2 h1)
    | some m' =>
      rw [e] at h1
      simp only at h1
      by_cases hlt : v < m'.va
      · rw [if_pos hlt] at h1
        rcases Nat.lt_or_ge j i with h4 | h4
        · exact ih j m h1 h4 h3
        · have hj : j = i := Nat.le_antisymm (Nat.lt_succ_iff.1 h2) h4
          rw [hj, e] at h3
          injection h3 with h3
          rw [← h3]; exact hlt
      · rw [if_neg hlt] at h1
        exact absurd h2 (Nat.not_lt.2 h1)
theorem posN_lo (out : List Mp) (v : Nat) : ∀ i, i ≤ out.length → posN out v i = 0 ∨ ∃ m, out[posN out v i - 1]? = some m ∧ m.va ≤ v
  | 0, _ => .inl rfl
  | i + 1, h => by
    have hi : out[i]? = some out[i] := List.getElem?_eq_getElem (by omega)
    unfold posN
    rw [hi]
    simp only
    split
    · exact posN_lo out v i (by omega)
    · rename_i h1
      exact .inr ⟨out[i], hi, by omega⟩
theorem ins_mem (out : List Mp) (m a : Mp) : a ∈ insM out m ↔ a = m ∨ a ∈ out := by
  unfold insM
  rw [List.mem_append, List.mem_cons]
  have h := List.take_append_drop (posN out m.va out.length) out
  constructor
  · rintro (h1 | h1 | h1)
    · exact .inr (List.mem_of_mem_take h1)
    · exact .inl h1
    · exact .inr (List.mem_of_mem_drop h1)
  · rintro (h1 | h1)
    · exact .inr (.inl h1)
    · rw [← h] at h1
      rcases List.mem_append.1 h1 with h2 | h2
      · exact .inl h2
      · exact .inr (.inr h2)
theorem ins_len (out : List Mp) (m : Mp) : (insM out m).length = out.length + 1 := by
  unfold insM
  rw [List.length_append, List.length_cons, List.length_take, List.length_drop]
  have := posN_le out m.va out.length
  omega
def VaLt (L : List Mp) : Prop := L.Pairwise (fun a b => a.va < b.va)
theorem ins_sorted {out : List Mp} {m : Mp} (h : VaLt out) (hn : ∀ a ∈ out, a.va ≠ m.va) : VaLt (insM out m) := by
  have hp := posN_le out m.va out.length
  have hhi := posN_hi out m.va out.length
  have hlo := posN_lo out m.va out.length (Nat.le_refl _)
  unfold insM VaLt
  generalize posN out m.va out.length = p at *
  have hlow : ∀ a ∈ out.take p, a.va < m.va := by
    intro a ha
    obtain ⟨j, hj, rfl⟩ := List.getElem_of_mem ha
    rw [List.length_take] at hj
    rw [List.getElem_take]
    have hne := hn _ (List.getElem_mem (show j < out.length by omega))
    rcases hlo with h0 | ⟨b, hb, hbv⟩
    · omega
    · have hbl : p - 1 < out.length := by omega
      rw [List.getElem?_eq_getElem hbl] at hb
      injection hb with hb
      rcases Nat.lt_or_ge j (p - 1) with h1 | h1
      · have := List.pairwise_iff_getElem.1 h j (p - 1) (by omega) hbl h1
        rw [hb] at this
        omega
      · have e : j = p - 1 := by omega
        subst e
        rw [hb] at hne ⊢
        omega
  have hhigh : ∀ a ∈ out.drop p, m.va < a.va := by
    intro a ha
    obtain ⟨j, hj, rfl⟩ := List.getElem_of_mem ha
    rw [List.length_drop] at hj
    rw [List.getElem_drop]
    exact hhi (p + j) _ (by omega) (by omega) (List.getElem?_eq_getElem (by omega))
  refine List.pairwise_append.2 ⟨h.sublist (List.take_sublist _ _), List.pairwise_cons.2 ⟨hhigh, h.sublist (List.drop_sublist _ _)⟩, fun a ha b hb => ?_⟩
  rcases List.mem_cons.1 hb with rfl | hb
  · exact hlow a ha
  · exact Nat.lt_trans (hlow a ha) (hhigh b hb)
def VaNe (L : List Mp) : Prop := L.Pairwise (fun a b => a.va ≠ b.va)
theorem sort_from : ∀ (L out : List Mp), VaNe L → VaLt out → (∀ a ∈ out, ∀ b ∈ L, a.va ≠ b.va) → VaLt (L.foldl insM out) ∧ (∀ a, a ∈ L.foldl insM out ↔ a ∈ out ∨ a ∈ L) ∧ (L.foldl insM out).length = out.length + L.length
  | [], out, _, h, _ => ⟨h, fun a => by simp, by simp⟩
  | m :: L, out, hL, h, hd => by
    rw [List.foldl_cons]
    obtain ⟨h1, h2⟩ := List.pairwise_cons.1 hL
    obtain ⟨r1, r2, r3⟩ := sort_from L (insM out m) h2 (ins_sorted h (fun a ha => hd a ha m (by simp))) (fun a ha b hb => by
      rcases (ins_mem out m a).1 ha with rfl | ha
      · exact h1 b hb
      · exact hd a ha b (by simp [hb]))
    refine ⟨r1, fun a => ?_, ?_⟩
    · rw [r2, ins_mem, List.mem_cons, or_assoc, or_comm (a := a = m), or_assoc, or_comm (a := a ∈ L)]
    · rw [r3, ins_len, List.length_cons]; omega
theorem sort_spec {L : List Mp} (h : VaNe L) : VaLt (sortM L) ∧ (∀ a, a ∈ sortM L ↔ a ∈ L) ∧ (sortM L).length = L.length := by
  obtain ⟨r1, r2, r3⟩ := sort_from L [] h List.Pairwise.nil (fun a ha => by simp at ha)
  exact ⟨r1, fun a => (r2 a).trans (by simp), by rw [sortM, r3, List.length_nil, Nat.zero_add]⟩
theorem sorted_one : ∀ {A B : List Mp}, VaLt A → VaLt B → (∀ m, m ∈ A ↔ m ∈ B) → A = B
  | [], [], _, _, _ => rfl
  | [], b :: B, _, _, h => absurd ((h b).2 (by simp)) (by simp)
  | a :: A, [], _, _, h => absurd ((h a).1 (by simp)) (by simp)
  | a :: A, b :: B, hA, hB, h => by
    obtain ⟨a1, a2⟩ := List.pairwise_cons.1 hA
    obtain ⟨b1, b2⟩ := List.pairwise_cons.1 hB
    have hab : a = b := by
      rcases List.mem_cons.1 ((h a).1 (by simp)) with e | e
      · exact e
      · rcases List.mem_cons.1 ((h b).2 (by simp)) with e2 | e2
        · exact e2.symm
        · have := b1 a e
          have := a1 b e2
          omega
    subst hab
    rw [sorted_one a2 b2 (fun m => ⟨fun hm => ?_, fun hm => ?_⟩)]
    · rcases List.mem_cons.1 ((h m).1 (by simp [hm])) with e | e
      · subst e; exact absurd (a1 m hm) (Nat.lt_irrefl _)
      · exact e
    · rcases List.mem_cons.1 ((h m).2 (by simp [hm])) with e | e
      · subst e; exact absurd (b1 m hm) (Nat.lt_irrefl _)
      · exact e
theorem VaLt.same {A : List Mp} (h : VaLt A) {a b : Mp} (ha : a ∈ A) (hb : b ∈ A) (e : a.va = b.va) : a = b := by
  obtain ⟨i, hi, rfl⟩ := List.getElem_of_mem ha
  obtain ⟨j, hj, rfl⟩ := List.getElem_of_mem hb
  rcases Nat.lt_trichotomy i j with h1 | h1 | h1
  · have := List.pairwise_iff_getElem.1 h i j hi hj h1; omega
  · subst h1; rfl
  · have := List.pairwise_iff_getElem.1 h j i hj hi h1; omega
/-- The list of pages is the pages, sorted. -/
theorem Inv.pages_sort {c : TC} {σ : TS} {L : List Mp} {T : List Tb} (h : Inv c σ L T) : pagesM c.n σ.S 2 c.root 0 = sortM L ∧ (pagesM c.n σ.S 2 c.root 0).length = L.length ∧ PgOK c.n σ.S 2 c.root ∧ VaNe L := by
  obtain ⟨h1, h2, h3⟩ := h.pages_all
  have hne : VaNe L := by
    refine h.pkey.imp_of_mem (fun {a b} ha hb hab e => hab ?_)
    have := VaLt.same h2 ((h1 a).2 ha) ((h1 b).2 hb) e
    rw [this]
    exact ⟨rfl, rfl⟩
  obtain ⟨s1, s2, s3⟩ := sort_spec hne
  have e : pagesM c.n σ.S 2 c.root 0 = sortM L := sorted_one h2 s1 (fun m => (h1 m).trans (s2 m).symm)
  exact ⟨e, by rw [e, s3], h3, hne⟩
end Go.Proofs.Ytbgagmpinekhpaa
