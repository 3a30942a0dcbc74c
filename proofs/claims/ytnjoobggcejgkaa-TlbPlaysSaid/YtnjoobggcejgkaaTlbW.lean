/- The methods of both buffers, in one world. -/
import Derived.Test.YtnjoobggcejgkaaTlbV
namespace Go.Proofs.Ytnjoobggcejgkaa
open Go.RowKit

def fillT (T : List (List En)) (va : Nat) (asid : Int) (lf : Lf) (pick : Int) : List (List En) := if levOK lf.lev then fillS T va asid lf pick else T
theorem rfence_any (gx n m : Nat) (G : Nat → Prop) (L : List Sl) (T : List (List En)) (vo : Option Nat) (ao : Option Int) (V A : Value) (W : World) (hva : ∀ va, vo = some va → va < 18446744073709551616) (hV : OneU W vo V) (hA : OneI W ao A) (hK : TOk T n m) (hR : RefG W gx G n m L) (hP : L.Perm (listT 0 T)) :
    Calls Try.prog 14 #[.pointer (some ⟨gx, 0, none⟩), V, A] W fun e w' => e = .returned (.int .i64 ((fenceN T vo ao : Nat) : Int)) ∧ PutG W gx G n m (stayP vo ao L) w' := by
  cases vo with
  | none =>
    obtain rfl : V = .slice none 0 0 := hV
    cases ao with
    | none =>
      obtain rfl : A = .slice none 0 0 := hA
      exact rfence_NN gx n m G L T W hK hR hP
    | some a =>
      obtain ⟨ga, rfl, hc⟩ := hA
      exact rfence_NS gx n m G L T W ga a hc hK hR hP
  | some va =>
    obtain ⟨gv, rfl, hcv⟩ := hV
    cases ao with
    | none =>
      obtain rfl : A = .slice none 0 0 := hA
      exact rfence_SN gx n m G L T W gv va (hva va rfl) hcv hK hR hP
    | some a =>
      obtain ⟨ga, rfl, hc⟩ := hA
      exact rfence_SS gx n m G L T W gv va (hva va rfl) hcv ga a hc hK hR hP
section
variable {W w w' : World} {g gs gx n m : Nat} {Gb : Nat → Nat} {G : Nat → Prop} {T T2 : List (List En)} {L : List Sl} {loc : List (Nat × TypeId × Array Value)}
theorem TP.add {b : Nat} {t : TypeId} {cs : Array Value} (h : TP W g gs Gb gx G n m T T2 L loc w) (hb : Blk w b t cs) (h1 : ¬ bufF g gs Gb n b) (h2 : ¬ G b) : TP W g gs Gb gx G n m T T2 L ((b, t, cs) :: loc) w :=
  ⟨h.buf, h.ref, h.ok, h.ok2, h.perm, h.wf, h.wf2, h.low, h.lowG, h.apart, h.bel, fun p hp => by
    rcases List.mem_cons.1 hp with rfl | hp
    · exact ⟨hb, h1, h2⟩
    · exact h.loc p hp⟩
theorem TP.keep {G' : Nat → Prop} {T' T2' : List (List En)} {L' : List Sl} (h : TP W g gs Gb gx G n m T T2 L loc w) (h' : TP W g gs Gb gx G' n m T' T2' L' loc w') (i : Nat) (p : Nat × TypeId × Array Value) (hp : loc[i]? = some p) : w'.heap[p.1]? = w.heap[p.1]? := (h'.at_ i p hp).trans (h.at_ i p hp).symm
theorem tp_bfill (h : TP W g gs Gb gx G n m T T2 L loc w) (va : Nat) (asid : Int) (lf : Lf) (pick : Int) (hv : va < 18446744073709551616) (hpk : -9223372036854775808 ≤ pick ∧ pick < 9223372036854775808) (hl : LfWf lf) (ha : (Lit.int .i64 asid).wf = true) :
    Calls Try.prog 9 #[.pointer (some ⟨g, 0, none⟩), .int .u64 (va : Int), .int .i64 asid, .agg lf.cs, .int .i64 pick] w fun e w' => e = .returned (.bool (levOK lf.lev)) ∧ TP W g gs Gb gx G n m (fillT T va asid lf pick) T2 L loc w' := by
  have hn := h.ok.len
  cases hlv : levOK lf.lev with
  | true =>
    refine (fill_yes g gs Gb T m va asid lf pick w hv hpk (by rw [hn]; exact h.ok.n0) (by rw [hn]; exact h.ok.n64) h.ok.m0 h.ok.m8 h.buf hlv).mono ?_
    rintro e w1 ⟨h1, h2, h3⟩
    unfold fillT
    rw [if_pos hlv]
    exact ⟨h1, h.turnB h2 (by rw [← hn]; exact h3) (h.ok.fill hlv) (h.wf.fill hl ha)⟩
  | false =>
    refine (fill_no g gs Gb T m va asid lf pick w h.buf hlv).mono ?_
    rintro e w1 ⟨h1, h2, h3⟩
    unfold fillT
    rw [if_neg (by rw [hlv]; decide)]
    exact ⟨h1, h.turnB h2 (by rw [← hn]; exact h3) h.ok h.wf⟩
theorem tp_rfill (h : TP W g gs Gb gx G n m T T2 L loc w) (va : Nat) (asid : Int) (lf : Lf) (pick : Int) (hv : va < 18446744073709551616) (hpk : -9223372036854775808 ≤ pick ∧ pick < 9223372036854775808) (hl : LfWf lf) (ha : (Lit.int .i64 asid).wf = true) :
    Calls Try.prog 13 #[.pointer (some ⟨gx, 0, none⟩), .int .u64 (va : Int), .int .i64 asid, .agg lf.cs, .int .i64 pick] w fun e w' => e = .returned (.bool (levOK lf.lev)) ∧ ∃ G' L', TP W g gs Gb gx G' n m T (fillT T2 va asid lf pick) L' loc w' := by
  cases hlv : levOK lf.lev with
  | true =>
    refine (rfill_yes gx n m va asid lf pick G L T2 w hv hpk h.ok2 h.ref h.perm hlv).mono ?_
    rintro e w1 ⟨h1, L', h2, h3⟩
    unfold fillT
    rw [if_pos hlv]
    obtain ⟨G', h4⟩ := h.turnR h2 h3 (h.ok2.fill hlv) (h.wf2.fill hl ha)
    exact ⟨h1, G', L', h4⟩
  | false =>
    refine (rfill_no gx va asid lf pick w hlv).mono ?_
    rintro e w1 ⟨h1, h2⟩
    unfold fillT
    rw [if_neg (by rw [hlv]; decide)]
    exact ⟨h1, G, L, h.step h2⟩
theorem tp_bfence (h : TP W g gs Gb gx G n m T T2 L loc w) (vo : Option Nat) (ao : Option Int) (V A : Value) (hva : ∀ va, vo = some va → va < 18446744073709551616) (hV : OneU w vo V) (hA : OneI w ao A) :
    Calls Try.prog 10 #[.pointer (some ⟨g, 0, none⟩), V, A] w fun e w' => e = .returned (.int .i64 ((fenceN T vo ao : Nat) : Int)) ∧ TP W g gs Gb gx G n m (fenceS T vo ao) T2 L loc w' := by
  have hn := h.ok.len
  refine (fence_any g gs Gb T m vo ao V A w hva (by rw [hn]; exact h.ok.n0) (by rw [hn]; exact h.ok.n64) h.ok.m0 h.ok.m8 h.buf h.ok.val hV hA).mono ?_
  rintro e w1 ⟨h1, h2, h3⟩
  exact ⟨h1, h.turnB h2 (by rw [← hn]; exact h3) (h.ok.fence vo ao) (h.wf.fence vo ao)⟩
theorem tp_rfence (h : TP W g gs Gb gx G n m T T2 L loc w) (vo : Option Nat) (ao : Option Int) (V A : Value) (hva : ∀ va, vo = some va → va < 18446744073709551616) (hV : OneU w vo V) (hA : OneI w ao A) :
    Calls Try.prog 14 #[.pointer (some ⟨gx, 0, none⟩), V, A] w fun e w' => e = .returned (.int .i64 ((fenceN T2 vo ao : Nat) : Int)) ∧ ∃ G' L', TP W g gs Gb gx G' n m T (fenceS T2 vo ao) L' loc w' := by
  refine (rfence_any gx n m G L T2 vo ao V A w hva hV hA h.ok2 h.ref h.perm).mono ?_
  rintro e w1 ⟨h1, h2⟩
  obtain ⟨G', h4⟩ := h.turnR h2 (fence_perm h.perm vo ao).1 (h.ok2.fence vo ao) (h.wf2.fence vo ao)
  exact ⟨h1, G', _, h4⟩
theorem tp_bfind (h : TP W g gs Gb gx G n m T T2 L loc w) (va : Nat) (asid : Int) (hv : va < 18446744073709551616) :
    Calls Try.prog 8 #[.pointer (some ⟨g, 0, none⟩), .int .u64 (va : Int), .int .i64 asid] w fun e w' => e = .returned (.tuple #[.agg ((findS T va asid).getD lf0).cs, .bool (findS T va asid).isSome]) ∧ TP W g gs Gb gx G n m T T2 L loc w' := by
  have hn := h.ok.len
  refine (find_any g gs Gb T m va asid w hv (by rw [hn]; exact h.ok.n0) (by rw [hn]; exact h.ok.n64) h.ok.m8 h.buf h.ok.val).mono ?_
  rintro e w1 ⟨h1, h2⟩
  exact ⟨h1, h.step h2⟩
theorem tp_rfind (h : TP W g gs Gb gx G n m T T2 L loc w) (va : Nat) (asid : Int) (hv : va < 18446744073709551616) :
    Calls Try.prog 15 #[.pointer (some ⟨gx, 0, none⟩), .int .u64 (va : Int), .int .i64 asid] w fun e w' => e = .returned (.tuple #[.agg ((findS T2 va asid).getD lf0).cs, .bool (findS T2 va asid).isSome]) ∧ TP W g gs Gb gx G n m T T2 L loc w' := by
  refine (rfind_any gx n m va asid G L T2 w hv h.ok2 h.ref h.perm).mono ?_
  rintro e w1 ⟨h1, h2⟩
  exact ⟨h1, h.step h2⟩
theorem tp_blen (h : TP W g gs Gb gx G n m T T L loc w) :
    Calls Try.prog 11 #[.pointer (some ⟨g, 0, none⟩)] w fun e w' => e = .returned (.int .i64 ((L.length : Nat) : Int)) ∧ Below w.heap.size w w' := by
  refine (len_any g gs Gb T m w (by rw [h.ok.len]; exact h.ok.n64) h.ok.m8 h.buf).mono ?_
  rintro e w1 ⟨h1, h2⟩
  exact ⟨by rw [h1, h.perm.length_eq], h2⟩
theorem tp_blist (h : TP W g gs Gb gx G n m T T2 L loc w) :
    Calls Try.prog 12 #[.pointer (some ⟨g, 0, none⟩)] w fun e w' => ∃ A c, e = .returned (.slice A (listT 0 T).length c) ∧ RdS w' (.slice A (listT 0 T).length c) (listT 0 T) ∧ TP W g gs Gb gx G n m T T2 L loc w' := by
  refine (list_any g gs Gb T m w (by rw [h.ok.len]; exact h.ok.n64) h.ok.m8 h.buf).mono ?_
  rintro e w1 ⟨v, rfl, h1, h2⟩
  obtain ⟨A, c, rfl⟩ := row_form h1
  exact ⟨A, c, rfl, RdS.of_own h1, h.step h2⟩
theorem tp_rlist (h : TP W g gs Gb gx G n m T T2 L loc w) :
    Calls Try.prog 17 #[.pointer (some ⟨gx, 0, none⟩)] w fun e w' => ∃ A c, e = .returned (.slice A (listT 0 T2).length c) ∧ RdS w' (.slice A (listT 0 T2).length c) (listT 0 T2) ∧ Below w.heap.size w w' ∧ TP W g gs Gb gx G n m T T2 L loc w' := by
  refine (rlist_any gx n m G L T2 w h.ok2 h.ref h.perm).mono ?_
  rintro e w1 ⟨v, rfl, h1, h2⟩
  obtain ⟨A, c, rfl⟩ := row_form h1
  exact ⟨A, c, rfl, RdS.of_own h1, h2, h.step h2⟩
theorem tp_start {W w1 w2 w2' : World} (hr : rightS n m = true) (hb : Below W.heap.size W w1) (hn : NewRel w1 w1.heap.size m n w2') (hb2 : Below w2'.heap.size w2' w2) :
    ∃ gs Gb, TP W w1.heap.size gs Gb w2.heap.size (fun b => b = w2.heap.size) n m (emptyT n m) (emptyT n m) [] [] (w2.alloc (.cells #[.int .i64 (n : Int), .int .i64 (m : Int), .slice none 0 0] 43)) := by
  have hk := TOk.empty hr
  obtain ⟨gs, Gb, h1, h2, h3⟩ := new_buf (Nat.le_refl _) hk.n0 hn
  replace h1 := h1.below hb2
  replace h3 := h3.trans (hb2.mono h3.size)
  have ha : Below w2.heap.size w2 (w2.alloc (.cells #[.int .i64 (n : Int), .int .i64 (m : Int), .slice none 0 0] 43)) := (Below.refl _ _).alloc (Nat.le_refl _) _
  have hlen : (emptyT n m).length = n := hk.len
  refine ⟨gs, Gb, h1.below ha, ⟨none, 0, Blkf.new_at _ _ _ _ rfl, ⟨none, 0, rfl, fun h => absurd rfl h⟩, rfl, fun a e => (by cases e), fun b e => (by subst e; simp)⟩, hk, hk, ?_, WfT.empty n m, WfT.empty n m, fun k hk' => Nat.le_trans hb.size (h2 k hk'), fun k e => by subst e; exact Nat.le_trans hb.size h3.size, fun k hk' e => ?_, (hb.trans (h3.mono hb.size)).trans (ha.mono (Nat.le_trans hb.size h3.size)), fun p hp => by simp at hp⟩
  · have : listT 0 (emptyT n m) = [] := by
      have : ∀ l ∈ listT 0 (emptyT n m), False := fun x hx => by
        obtain ⟨s, y, _, _, h3⟩ := mem_listT hx
        cases hT : ((emptyT n m).getD s [])[y]? with
        | none => rw [hT] at h3; simp at h3
        | some e =>
          rw [hT] at h3
          obtain ⟨_, _, hf, _⟩ := ent_key (e := e) (by simpa using h3)
          have hm := List.mem_of_getElem? hT
          by_cases hs : s < n
          · unfold emptyT at hm
            rw [List.getD_eq_getElem?_getD, List.getElem?_replicate, if_pos hs] at hm
            have := List.eq_of_mem_replicate (by simpa using hm)
            subst this
            simp [en0] at hf
          · unfold emptyT at hm
            rw [List.getD_eq_getElem?_getD, List.getElem?_replicate, if_neg hs] at hm
            simp at hm
      exact List.eq_nil_iff_forall_not_mem.2 this
    rw [this]
  · subst e
    exact absurd (h1.lt _ (by rw [hlen]; exact hk')) (Nat.lt_irrefl _)
end
end Go.Proofs.Ytnjoobggcejgkaa
