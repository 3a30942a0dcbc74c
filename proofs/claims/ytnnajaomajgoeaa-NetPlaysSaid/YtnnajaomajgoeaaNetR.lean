/- The reference's bag: Take, Double. -/
import Derived.Test.YtnnajaomajgoeaaNetQ
import Derived.Test.YtnnajaomajgoeaaPlanI
import Derived.Test.YtnnajaomajgoeaaPlanT
namespace Go.Proofs.Ytnnajaomajgoeaa
open Go.RowKit Go.ChangeShapes

/-- Ways that meet again. -/
theorem pt_join {P : Program} {ls : List Oper} {Q : Exit → Act → World → Prop} {R : World → World → Prop} {ds : List (Nat × Option Tmp)} (S : (Nat → Value) → World → Prop) (t2 : PT) {a : Act} {w : World} {t : PT} {k : Nat} {L : Array Bool} (hs : Region.noSelect ls.toArray = true) (hR : Later R)
    (hQ : ∀ c d v a w, Q (.panic c) (a.put d v) w → Q (.panic c) a w) (hk : t2.depth = k) (hok : (ptOK .any ls.toArray t2 L && closedB .any ls.toArray L) = true)
    (hend : ∀ x w', S x w' → wpPT R P ls.toArray Q t2 (fill a x ds) w') (h : (∀ x w', S x w' → wpPT R P ls.toArray Q (.rest k L) (fill a x ds) w') → wpPT R P ls.toArray Q t a w) : wpPT R P ls.toArray Q t a w :=
  h fun x w' hS n hn => anyE_of_pt hR hs hQ t2 n L _ _ (closedB_spec (Bool.and_eq_true _ _ ▸ hok).2) (by omega) (Bool.and_eq_true _ _ ▸ hok).1 (hend x w' hS)
/-- A last operation that waits for all others. -/
theorem pt_last {P : Program} {ls : List Oper} {Q : Exit → Act → World → Prop} {R : World → World → Prop} {i : Nat} {o : Oper} {r : PT} {a : Act} {w : World} (ho : opAt ls i = some o) (hw : Region.wanted o (yielded ls.toArray a.tmps) = true) (hwa : waitsAll .any ls.toArray i = true)
    (h : ∀ K : Act → World → Prop, (∀ a' w', wpPT R P ls.toArray Q r a' w' → K a' w') → o.wp P a w K Q) :
    wpOp P ls.toArray Q i (fun a' w' => (waitsAll .any ls.toArray i = true ∨ R w w') ∧ wpPT R P ls.toArray Q r a' w') a w := by
  unfold wpOp
  simp only [← opAt_eq, ho, hw, if_true]
  exact .inl (h _ fun _ _ h => ⟨.inl hwa, h⟩)
theorem own_mono {w : World} {b b' : Nat} {e : TypeId} {s n : Nat} {v : Value} {xs : List Value} (h : w.ownsRow b' e s v n xs) (hb : b ≤ b') : w.ownsRow b e s v n xs := by
  refine ⟨h.1, ?_⟩
  rcases h.2 with h' | ⟨g, cap, cur, a1, a2, a3⟩
  · exact .inl h'
  · exact .inr ⟨g, cap, cur, a1, Nat.le_trans hb a2, a3⟩
theorem reads_blk {w : World} {g : Nat} {t : TypeId} {p : Pc} {u : Value} (hb : Blk w g t #[.int .i64 p.src, .int .i64 p.dst, u, .bool p.hurt]) : Reads w w.heap.size 4 (some ⟨g, 0, none⟩) 1 (pcV (p, u)) :=
  ⟨rfl, fun _ => ⟨_, rfl, hb.lt, fun j v hj => by
    match j, hj with
    | 0, hj => exact (hb.cell 0).trans hj
    | 1, hj => exact (hb.cell 1).trans hj
    | 2, hj => exact (hb.cell 2).trans hj
    | 3, hj => exact (hb.cell 3).trans hj
    | j + 4, hj => exact absurd hj (by simp [pcV])⟩⟩
def xs3 (a b c : Value) : Nat → Value
  | 6 => a
  | 1 => b
  | 14 => c
  | _ => undef
/-- A reference's bag laid open at one parcel. -/
structure ROpen (W : World) (xb : Nat) (Q : List Pc) (lost : Int) (k : Nat) (p : Pc) (g cap : Nat) (cur : Array Value) : Prop where
  lt : k < Q.length
  bag : Blk W xb 29 #[.slice (some ⟨g, 0, none⟩) Q.length cap, .int .i64 lost]
  row : Blk W g 41 cur
  len : Q.length ≤ cap
  max : cap ≤ maxLen
  size : cur.size = cap * 4
  take : cur.toList.take (Q.length * 4) = pcC (rq Q)
  c0 : W.cell? ⟨g, k * 4, none⟩ = some (.int .i64 p.src)
  c1 : W.cell? ⟨g, k * 4 + 1, none⟩ = some (.int .i64 p.dst)
  c2 : W.cell? ⟨g, k * 4 + 2, none⟩ = some (.string (strB p.byt))
  c3 : W.cell? ⟨g, k * 4 + 3, none⟩ = some (.bool p.hurt)
theorem RAt.opened {W : World} {xb : Nat} {Q : List Pc} {lost : Int} {F : Nat → Prop} {k : Nat} {p : Pc} (h : RAt W xb Q lost F) (hx : Q[k]? = some p) : ∃ g cap cur, ROpen W xb Q lost k p g cap cur := by
  have hk := (List.getElem?_eq_some_iff.1 hx).1
  have hx2 := rq_get hx
  obtain ⟨v, h1, h2, h3⟩ := h.own
  rcases h2.2 with ⟨rfl, h0⟩ | ⟨g, cap, cur, rfl, _, hg, hcap, hm, hs, hl⟩
  · omega
  have hgb : Blk W g 41 cur := hg
  have hl2 := hl
  rw [← rq_length] at hl2
  exact ⟨g, cap, cur, hk, h1, hg, hcap, hm, hs, hl, (hgb.cell _).trans (pcC_cell hl2 hx2 0 (by decide)), (hgb.cell _).trans (pcC_cell hl2 hx2 1 (by decide)), (hgb.cell _).trans (pcC_cell hl2 hx2 2 (by decide)), (hgb.cell _).trans (pcC_cell hl2 hx2 3 (by decide))⟩
/-- A part of the row reads as a part of the list. -/
theorem ROpen.reads {W : World} {xb : Nat} {Q : List Pc} {lost : Int} {k : Nat} {p : Pc} {g cap : Nat} {cur : Array Value} (o : ROpen W xb Q lost k p g cap cur) (a n : Nat) (ha : a + n ≤ Q.length) (ad : Option Addr) (had : 0 < n → ad = some ⟨g, a * 4, none⟩) :
    Reads W W.heap.size 4 ad n (pcC (rq ((Q.drop a).take n))) := by
  refine ⟨by rw [pcC_length, rq_length]; simp; omega, fun hn => ⟨⟨g, a * 4, none⟩, had hn, o.row.lt, fun j u hu => ?_⟩⟩
  have hl : j < n * 4 := by
    have := (List.getElem?_eq_some_iff.1 hu).1
    rw [pcC_length, rq_length] at this
    simp at this
    omega
  have e : rq ((Q.drop a).take n) = ((rq Q).drop a).take n := by unfold rq; rw [List.map_take, List.map_drop]
  rw [e, ← pcC_take, ← pcC_drop, List.getElem?_take, if_pos hl, List.getElem?_drop, ← o.take, List.getElem?_take, if_pos (by omega), Array.getElem?_toList] at hu
  rw [Addr.add_lit]
  exact (o.row.cell _).trans hu
section
variable (xb : Nat) (Q : List Pc) (lost : Int) (F : Nat → Prop) (W : World)
theorem rdouble_no (i : Int) (h : RAt W xb Q lost F) (hi : hereB i Q.length = false) :
    Calls Try.prog 15 #[.pointer (some ⟨xb, 0, none⟩), .int .i64 i] W fun e w' => e = .returned (.bool false) ∧ W = w' := by
  have HB := Lib.hid h
  have HI := Lib.hid hi
  clear h hi
  go_enter Try.func15, Try.ntmps15
  go_wp2_with fail
  refine (rhas_any xb Q lost F _ i HB.out).mono ?_
  rintro e w' ⟨rfl, rfl⟩
  rw [HI.out]
  go_wp2_with fail
  go_ret
  exact ⟨rfl, rfl⟩
theorem rdouble_full (i : Int) (h : RAt W xb Q lost F) (hi : hereB i Q.length = true) (hf : Q.length = 4096) :
    Calls Try.prog 15 #[.pointer (some ⟨xb, 0, none⟩), .int .i64 i] W fun e w' => e = .returned (.bool false) ∧ W = w' := by
  have HB := Lib.hid h
  have HI := Lib.hid hi
  obtain ⟨v, h1, h2, h3⟩ := h.own
  obtain ⟨A, c, rfl⟩ := prow_form h2
  have c0 := h1.cell 0
  simp only [List.getElem?_toArray, List.getElem?_cons_zero] at c0
  rw [hf] at c0
  clear h hi h1 h2 h3 hf
  go_enter Try.func15, Try.ntmps15
  go_wp2_with fail
  refine (rhas_any xb Q lost F _ i HB.out).mono ?_
  rintro e w' ⟨rfl, rfl⟩
  rw [HI.out]
  go_wp2_with fail
  go_ret
  exact ⟨rfl, rfl⟩
set_option maxHeartbeats 1000000 in
theorem rdouble_yes (k : Nat) (p : Pc) (h : RAt W xb Q lost F) (hf : Q.length < 4096) (hx : Q[k]? = some p) :
    Calls Try.prog 15 #[.pointer (some ⟨xb, 0, none⟩), .int .i64 (k : Int)] W fun e w' => e = .returned (.bool true) ∧ ∃ F', RAt w' xb (Q ++ [p]) lost F' ∧ Moved F F' W w' := by
  obtain ⟨i0, hi0, hz0, hz1, hz2⟩ := info_parts info_rp
  obtain ⟨g, cap, cur, o⟩ := h.opened hx
  have HB := Lib.hid h
  have HO := Lib.hid o
  have HF := Lib.hid hf
  have hk := o.lt
  have HHERE := Lib.hid (here_lt hk)
  have c0 := o.bag.cell 0
  have r0 := o.c0
  have r1 := o.c1
  have r2 := o.c2
  have r3 := o.c3
  have hlt := o.bag.lt
  have hltg := o.row.lt
  have hR := o.reads 0 Q.length (by omega) (some ⟨g, 0, none⟩) (fun _ => rfl)
  rw [List.drop_zero, List.take_length] at hR
  have HR := Lib.hid hR
  simp only [List.getElem?_toArray, List.getElem?_cons_zero] at c0
  have hne : ((Q.length : Int) == 4096) = false := by simp; omega
  obtain ⟨n, hn⟩ : ∃ n, n = Q.length := ⟨_, rfl⟩
  have HN := Lib.hid hn
  rw [← hn] at c0 hne hk
  have hkI : (k : Int) < (n : Int) := by omega
  have hkI0 : (0 : Int) ≤ (k : Int) := by omega
  have HRn : Hid (Reads W W.heap.size 4 (some ⟨g, 0, none⟩) n (pcC (rq Q))) := by rw [HN.out]; exact Lib.hid HR.out
  obtain ⟨S, hS⟩ : ∃ S, S = strB p.byt := ⟨_, rfl⟩
  have HS := Lib.hid hS
  rw [← hS] at r2
  clear h hf hx o hn hS hR HR
  go_enter Try.func15, Try.ntmps15
  go_wp2_with fail
  refine (rhas_any xb Q lost F _ (k : Int) HB.out).mono ?_
  rintro e w' ⟨rfl, rfl⟩
  rw [HHERE.out]
  go_wp2_with fail
  -- three orders
  refine wp_region_pt (fun u u' => Below W.heap.size u u') ⟨fun u => Below.refl _ u, fun h k => h.trans k⟩ (PT.steps [0, 2, 3, 4, 5, 7, 8, 9, 10, 11, 12, 13] (.fork 1 (.fork 6 (.turn 14 (.rest 4 (doneL 19 [0, 2, 3, 4, 5, 7, 8, 9, 10, 11, 12, 13, 1, 6, 14]))) 14 (.turn 6 (.rest 4 (doneL 19 [0, 2, 3, 4, 5, 7, 8, 9, 10, 11, 12, 13, 1, 6, 14])))) 14 (.turn 1 (.turn 6 (.rest 4 (doneL 19 [0, 2, 3, 4, 5, 7, 8, 9, 10, 11, 12, 13, 1, 6, 14])))))) (by kernel_rfl) (by kernel_rfl) (fun _ d _ _ _ h => by cases d <;> exact h) ?_
  have s0 : ∀ W' : World, Below W.heap.size W.drew W' → W'.cell? ⟨xb, 0, none⟩ = some (.slice (some ⟨g, 0, none⟩) n cap) := fun W' h => (h.cell (p := ⟨xb, 0, none⟩) hlt).trans c0
  have s1 : ∀ W' : World, Below W.heap.size W.drew W' → W'.cell? ⟨g, k * 4, none⟩ = some (.int .i64 p.src) := fun W' h => (h.cell (p := ⟨g, k * 4, none⟩) hltg).trans r0
  have s2 : ∀ W' : World, Below W.heap.size W.drew W' → W'.cell? ⟨g, k * 4 + 1, none⟩ = some (.int .i64 p.dst) := fun W' h => (h.cell (p := ⟨g, k * 4 + 1, none⟩) hltg).trans r1
  have s3 : ∀ W' : World, Below W.heap.size W.drew W' → W'.cell? ⟨g, k * 4 + 2, none⟩ = some (.string S) := fun W' h => (h.cell (p := ⟨g, k * 4 + 2, none⟩) hltg).trans r2
  have s4 : ∀ W' : World, Below W.heap.size W.drew W' → W'.cell? ⟨g, k * 4 + 3, none⟩ = some (.bool p.hurt) := fun W' h => (h.cell (p := ⟨g, k * 4 + 3, none⟩) hltg).trans r3
  unfold PT.steps
  iterate 12 (refine pt_take (v := ?_) rfl (by kernel_rfl) ?_ ?_; rotate_left; (focus (intro w' hw'; try go_simp; try with_reducible rfl)); simp only [Act.put, List.setIfInBounds_toArray, List.set_cons_zero, List.set_cons_succ])
  have HC : Hid (Below W.heap.size W W.drew) := Lib.hid ((Below.refl _ W).drew)
  generalize W.drew = y at *
  clear s0 s1 s2 s3 s4 r0 r1 r2 r3
  refine pt_join (L := doneL 19 [0, 2, 3, 4, 5, 7, 8, 9, 10, 11, 12, 13, 1, 6, 14]) (k := 4) (ds := [(1, some 18), (6, some 23), (14, some 31)]) (fun x wz => ∃ (A2 : Option Addr) (c2 : Nat) (g1 : Nat), x 6 = .slice A2 n c2 ∧ x 14 = .slice (some ⟨g1, 0, none⟩) 1 1 ∧ wz.ownsRow W.heap.size 41 4 (.slice A2 n c2) n (pcC (rq Q)) ∧ Blk wz g1 41 #[.int .i64 p.src, .int .i64 p.dst, .string S, .bool p.hurt] ∧ Below W.heap.size W wz) (.turn 15 (.step 16 (.step 17 (.turn 18 .done)))) (by kernel_rfl) ⟨fun u => Below.refl _ u, fun h k => h.trans k⟩ (fun _ d _ _ _ h => by cases d <;> exact h) rfl (by kernel_rfl) ?_ ?_
  · rintro x wz ⟨A2, c2, g1, e6, e14, hO, hG, hC⟩
    simp only [fill, Act.put, List.setIfInBounds_toArray, List.set_cons_zero, List.set_cons_succ]
    rw [e6, e14]
    refine pt_turn ?_
    refine pt_op (R := fun u u' => Below W.heap.size u u') rfl (by kernel_rfl) (fun K hK => ?_)
    refine wp_append_any wz (.tmp 23) (.tmp 31) _ rfl W.heap.size 41 i0 _ 4 40 Try.underlying27 hi0 hz0 hz1 hz2 rfl (by decide) _ n (pcC (rq Q)) rfl hO wz.heap.size (some ⟨g1, 0, none⟩) 1 1 (pcV (p, .string S)) rfl (reads_blk hG) (one_pc _ _ rfl) (by unfold maxLen; have := HN.out; have := HF.out; omega) (by have := HN.out; have := HF.out; omega) hC.size ?_
    intro v3 w3 hown hgrow hat
    refine hK _ _ ⟨(Below.refl _ _).grown hgrow hC.size (fun k hk => (hO.lt k hk).1), ?_⟩
    clear hK K
    (try simp only [Act.put, List.setIfInBounds_toArray, List.set_cons_zero, List.set_cons_succ])
    have HB3 : Hid (Below W.heap.size W w3) := Lib.hid (hC.grown hgrow hC.size (fun k hk => (hO.lt k hk).1))
    obtain ⟨A3, c3, e3⟩ := prow_form hown
    subst e3
    have HO3 := Lib.hid hown
    have hx3 := (HO.out.bag.below HB3.out hlt)
    have f3 := Blk.frozen hx3 0
    have k3 := hx3.cell 0
    have l3 := hx3.lt
    simp only [List.getElem?_toArray, List.getElem?_cons_zero] at k3
    clear hx3 hown hgrow hat hO hG hC e6 e14
    iterate 2 (refine pt_take (v := ?_) rfl (by kernel_rfl) ?_ ?_; rotate_left; (focus (intro w' hw'; go_simp; try with_reducible rfl)); (try simp only [Act.put, List.setIfInBounds_toArray, List.set_cons_zero, List.set_cons_succ]))
    refine pt_turn ?_
    refine pt_last rfl (by kernel_rfl) (by kernel_rfl) (fun K hK => ?_)
    go_simp
    refine hK _ _ ?_
    clear hK K f3 k3 l3
    refine pt_end ?_
    go_wp2_with fail
    go_ret
    refine ⟨rfl, HB.out.store HB3.out (n := n + 1) ?_ (by rw [List.length_append, HN.out]; rfl)⟩
    have h := HO3.out
    rw [HS.out] at h
    rw [rq_append, pcC_append, show pcC (rq [p]) = pcV (p, .string (strB p.byt)) from by simp [pcC, rq]]
    exact h
  · intro HEND
    refine pt_fork ?_ ?_
    focus
      refine pt_op (R := fun u u' => Below W.heap.size u u') rfl (by kernel_rfl) (fun K hK => ?_)
      go_simp
      refine hK _ _ ⟨(Below.refl _ _).alloc HC.out.size _, ?_⟩
      clear hK K
      (try simp only [Act.put, List.setIfInBounds_toArray, List.set_cons_zero, List.set_cons_succ])
      have hE : Below y.heap.size y (y.alloc (.cells #[] 41)) := (Below.refl _ _).alloc (Nat.le_refl _) _
      have HO : Hid ((y.alloc (.cells #[] 41)).ownsRow W.heap.size 41 4 (.slice (some ⟨y.heap.size, 0, none⟩) 0 0) 0 []) := Lib.hid (own_mono (World.ownsRow_made y #[] 0 (Nat.le_refl _) (by unfold maxLen; omega) rfl) HC.out.size)
      have HC := Lib.hid (HC.out.trans (hE.mono HC.out.size))
      clear hE
      generalize y.alloc (.cells #[] 41) = y1 at *
      generalize y.heap.size = g0 at *
      refine pt_fork ?_ ?_
      focus
        refine pt_op (R := fun u u' => Below W.heap.size u u') rfl (by kernel_rfl) (fun K hK => ?_)
        refine wp_append_any y1 (.tmp 18) (.tmp 22) _ rfl W.heap.size 41 i0 _ 4 40 Try.underlying27 hi0 hz0 hz1 hz2 rfl (by decide) (.slice (some ⟨g0, 0, none⟩) 0 0) 0 [] rfl HO.out W.heap.size (some ⟨g, 0, none⟩) n cap (pcC (rq Q)) rfl (HRn.out.below HC.out) (one_pcC (rq_one Q)) (by unfold maxLen; have := HN.out; have := HF.out; omega) (by have := HN.out; have := HF.out; omega) HC.out.size ?_
        intro v2 y2 hown hgrow hat
        refine hK _ _ ⟨(Below.refl _ _).grown hgrow HC.out.size (fun k hk => (HO.out.lt k hk).1), ?_⟩
        clear hK K
        (try simp only [Act.put, List.setIfInBounds_toArray, List.set_cons_zero, List.set_cons_succ])
        rw [Nat.zero_add, List.nil_append] at hown
        have HC := Lib.hid (HC.out.grown hgrow HC.out.size (fun k hk => (HO.out.lt k hk).1))
        have HO := Lib.hid hown
        obtain ⟨A2, c2, e2⟩ := prow_form hown
        subst e2
        clear hown hgrow hat
        refine pt_turn ?_
        refine pt_op (R := fun u u' => Below W.heap.size u u') rfl (by kernel_rfl) (fun K hK => ?_)
        go_simp
        refine hK _ _ ⟨(Below.refl _ _).alloc HC.out.size _, ?_⟩
        clear hK K
        (try simp only [Act.put, List.setIfInBounds_toArray, List.set_cons_zero, List.set_cons_succ])
        have hE : Below y2.heap.size y2 (y2.alloc (.cells #[.int .i64 p.src, .int .i64 p.dst, .string S, .bool p.hurt] 41)) := (Below.refl _ _).alloc (Nat.le_refl _) _
        have HG : Hid (Blk (y2.alloc (.cells #[.int .i64 p.src, .int .i64 p.dst, .string S, .bool p.hurt] 41)) y2.heap.size 41 #[.int .i64 p.src, .int .i64 p.dst, .string S, .bool p.hurt]) := Lib.hid (Blkf.new_at _ _ _ _ rfl)
        have HG1 : Hid (y2.heap.size < (y2.alloc (.cells #[.int .i64 p.src, .int .i64 p.dst, .string S, .bool p.hurt] 41)).heap.size) := Lib.hid HG.out.lt
        have HOB : Hid (True) := Lib.hid (by have h := HO.out.lt; trivial)
        have HO := Lib.hid ((Keeps.of_below (F := fun _ => False) hE).row HO.out (fun _ _ h => h))
        have HC := Lib.hid (HC.out.trans (hE.mono HC.out.size))
        clear hE
        generalize y2.alloc (.cells #[.int .i64 p.src, .int .i64 p.dst, .string S, .bool p.hurt] 41) = y3 at *
        generalize y2.heap.size = g1 at *
        have hfin := fun u0 => HEND (xs3 (.slice A2 n c2) u0 (.slice (some ⟨g1, 0, none⟩) 1 1)) y3 ⟨A2, c2, g1, rfl, rfl, HO.out, HG.out, HC.out⟩
        simp only [fill, xs3, Act.put, List.setIfInBounds_toArray, List.set_cons_zero, List.set_cons_succ] at hfin
        exact hfin _
      focus
        refine pt_op (R := fun u u' => Below W.heap.size u u') rfl (by kernel_rfl) (fun K hK => ?_)
        go_simp
        refine hK _ _ ⟨(Below.refl _ _).alloc HC.out.size _, ?_⟩
        clear hK K
        (try simp only [Act.put, List.setIfInBounds_toArray, List.set_cons_zero, List.set_cons_succ])
        have hE : Below y1.heap.size y1 (y1.alloc (.cells #[.int .i64 p.src, .int .i64 p.dst, .string S, .bool p.hurt] 41)) := (Below.refl _ _).alloc (Nat.le_refl _) _
        have HG : Hid (Blk (y1.alloc (.cells #[.int .i64 p.src, .int .i64 p.dst, .string S, .bool p.hurt] 41)) y1.heap.size 41 #[.int .i64 p.src, .int .i64 p.dst, .string S, .bool p.hurt]) := Lib.hid (Blkf.new_at _ _ _ _ rfl)
        have HG1 : Hid (y1.heap.size < (y1.alloc (.cells #[.int .i64 p.src, .int .i64 p.dst, .string S, .bool p.hurt] 41)).heap.size) := Lib.hid HG.out.lt
        have HOB : Hid (g0 < y1.heap.size) := Lib.hid (by have h := HO.out.lt; have := h g0 rfl; omega)
        have HO := Lib.hid ((Keeps.of_below (F := fun _ => False) hE).row HO.out (fun _ _ h => h))
        have HC := Lib.hid (HC.out.trans (hE.mono HC.out.size))
        clear hE
        generalize y1.alloc (.cells #[.int .i64 p.src, .int .i64 p.dst, .string S, .bool p.hurt] 41) = y2 at *
        generalize y1.heap.size = g1 at *
        have HNE : Hid (g0 ≠ g1) := Lib.hid (Nat.ne_of_lt HOB.out)
        refine pt_turn ?_
        refine pt_op (R := fun u u' => Below W.heap.size u u') rfl (by kernel_rfl) (fun K hK => ?_)
        refine wp_append_any y2 (.tmp 18) (.tmp 22) _ rfl W.heap.size 41 i0 _ 4 40 Try.underlying27 hi0 hz0 hz1 hz2 rfl (by decide) (.slice (some ⟨g0, 0, none⟩) 0 0) 0 [] rfl HO.out W.heap.size (some ⟨g, 0, none⟩) n cap (pcC (rq Q)) rfl (HRn.out.below HC.out) (one_pcC (rq_one Q)) (by unfold maxLen; have := HN.out; have := HF.out; omega) (by have := HN.out; have := HF.out; omega) HC.out.size ?_
        intro v2 y3 hown hgrow hat
        refine hK _ _ ⟨(Below.refl _ _).grown hgrow HC.out.size (fun k hk => (HO.out.lt k hk).1), ?_⟩
        clear hK K
        (try simp only [Act.put, List.setIfInBounds_toArray, List.set_cons_zero, List.set_cons_succ])
        rw [Nat.zero_add, List.nil_append] at hown
        have HG := Lib.hid (HG.out.grown hgrow (fun e => HNE.out (by simpa [Value.ownBlock] using e.symm)))
        have HC := Lib.hid (HC.out.grown hgrow HC.out.size (fun k hk => (HO.out.lt k hk).1))
        have HO := Lib.hid hown
        obtain ⟨A2, c2, e2⟩ := prow_form hown
        subst e2
        clear hown hgrow hat
        have hfin := fun u0 => HEND (xs3 (.slice A2 n c2) u0 (.slice (some ⟨g1, 0, none⟩) 1 1)) y3 ⟨A2, c2, g1, rfl, rfl, HO.out, HG.out, HC.out⟩
        simp only [fill, xs3, Act.put, List.setIfInBounds_toArray, List.set_cons_zero, List.set_cons_succ] at hfin
        exact hfin _
    focus
      refine pt_op (R := fun u u' => Below W.heap.size u u') rfl (by kernel_rfl) (fun K hK => ?_)
      go_simp
      refine hK _ _ ⟨(Below.refl _ _).alloc HC.out.size _, ?_⟩
      clear hK K
      (try simp only [Act.put, List.setIfInBounds_toArray, List.set_cons_zero, List.set_cons_succ])
      have hE : Below y.heap.size y (y.alloc (.cells #[.int .i64 p.src, .int .i64 p.dst, .string S, .bool p.hurt] 41)) := (Below.refl _ _).alloc (Nat.le_refl _) _
      have HG : Hid (Blk (y.alloc (.cells #[.int .i64 p.src, .int .i64 p.dst, .string S, .bool p.hurt] 41)) y.heap.size 41 #[.int .i64 p.src, .int .i64 p.dst, .string S, .bool p.hurt]) := Lib.hid (Blkf.new_at _ _ _ _ rfl)
      have HG1 : Hid (y.heap.size < (y.alloc (.cells #[.int .i64 p.src, .int .i64 p.dst, .string S, .bool p.hurt] 41)).heap.size) := Lib.hid HG.out.lt
      have HC := Lib.hid (HC.out.trans (hE.mono HC.out.size))
      clear hE
      generalize y.alloc (.cells #[.int .i64 p.src, .int .i64 p.dst, .string S, .bool p.hurt] 41) = y1 at *
      generalize y.heap.size = g1 at *
      refine pt_turn ?_
      refine pt_op (R := fun u u' => Below W.heap.size u u') rfl (by kernel_rfl) (fun K hK => ?_)
      go_simp
      refine hK _ _ ⟨(Below.refl _ _).alloc HC.out.size _, ?_⟩
      clear hK K
      (try simp only [Act.put, List.setIfInBounds_toArray, List.set_cons_zero, List.set_cons_succ])
      have hE : Below y1.heap.size y1 (y1.alloc (.cells #[] 41)) := (Below.refl _ _).alloc (Nat.le_refl _) _
      have HO : Hid ((y1.alloc (.cells #[] 41)).ownsRow W.heap.size 41 4 (.slice (some ⟨y1.heap.size, 0, none⟩) 0 0) 0 []) := Lib.hid (own_mono (World.ownsRow_made y1 #[] 0 (Nat.le_refl _) (by unfold maxLen; omega) rfl) HC.out.size)
      have HG := Lib.hid (HG.out.below hE HG.out.lt)
      have HNE : Hid (y1.heap.size ≠ g1) := Lib.hid (Nat.ne_of_gt HG1.out)
      have HC := Lib.hid (HC.out.trans (hE.mono HC.out.size))
      clear hE
      generalize y1.alloc (.cells #[] 41) = y2 at *
      generalize y1.heap.size = g0 at *
      refine pt_turn ?_
      refine pt_op (R := fun u u' => Below W.heap.size u u') rfl (by kernel_rfl) (fun K hK => ?_)
      refine wp_append_any y2 (.tmp 18) (.tmp 22) _ rfl W.heap.size 41 i0 _ 4 40 Try.underlying27 hi0 hz0 hz1 hz2 rfl (by decide) (.slice (some ⟨g0, 0, none⟩) 0 0) 0 [] rfl HO.out W.heap.size (some ⟨g, 0, none⟩) n cap (pcC (rq Q)) rfl (HRn.out.below HC.out) (one_pcC (rq_one Q)) (by unfold maxLen; have := HN.out; have := HF.out; omega) (by have := HN.out; have := HF.out; omega) HC.out.size ?_
      intro v2 y3 hown hgrow hat
      refine hK _ _ ⟨(Below.refl _ _).grown hgrow HC.out.size (fun k hk => (HO.out.lt k hk).1), ?_⟩
      clear hK K
      (try simp only [Act.put, List.setIfInBounds_toArray, List.set_cons_zero, List.set_cons_succ])
      rw [Nat.zero_add, List.nil_append] at hown
      have HG := Lib.hid (HG.out.grown hgrow (fun e => HNE.out (by simpa [Value.ownBlock] using e.symm)))
      have HC := Lib.hid (HC.out.grown hgrow HC.out.size (fun k hk => (HO.out.lt k hk).1))
      have HO := Lib.hid hown
      obtain ⟨A2, c2, e2⟩ := prow_form hown
      subst e2
      clear hown hgrow hat
      have hfin := fun u0 => HEND (xs3 (.slice A2 n c2) u0 (.slice (some ⟨g1, 0, none⟩) 1 1)) y3 ⟨A2, c2, g1, rfl, rfl, HO.out, HG.out, HC.out⟩
      simp only [fill, xs3, Act.put, List.setIfInBounds_toArray, List.set_cons_zero, List.set_cons_succ] at hfin
      exact hfin _
end
end Go.Proofs.Ytnnajaomajgoeaa
