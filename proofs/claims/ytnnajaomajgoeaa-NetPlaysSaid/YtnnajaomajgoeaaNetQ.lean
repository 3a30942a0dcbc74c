/- The reference's bag: Has, Send. -/
import Derived.Test.YtnnajaomajgoeaaNetO
import Derived.Test.YtnnajaomajgoeaaStr
namespace Go.Proofs.Ytnnajaomajgoeaa
open Go.RowKit Go.ChangeShapes

def rq (Q : List Pc) : List (Pc × Value) := Q.map fun p => (p, .string (strB p.byt))
theorem rq_length (Q : List Pc) : (rq Q).length = Q.length := List.length_map ..
theorem rq_append (a b : List Pc) : rq (a ++ b) = rq a ++ rq b := List.map_append ..
theorem rq_one (Q : List Pc) : ∀ x ∈ rq Q, x.2.oneCell' = true := by
  intro x hx
  obtain ⟨p, _, rfl⟩ := List.mem_map.1 hx
  rfl
theorem rq_get {Q : List Pc} {k : Nat} {p : Pc} (h : Q[k]? = some p) : (rq Q)[k]? = some (p, .string (strB p.byt)) := by
  unfold rq
  rw [List.getElem?_map, h]
  rfl
theorem info_rp : (Try.prog.info? 41).map (fun i => (i.zero, i.size, i.bytes)) = some (some (.agg #[.int .i64 0, .int .i64 0, .string ⟨#[]⟩, .bool false]), 4, 40) := by kernel_rfl
/-- The reference's bag. -/
structure RAt (w : World) (xb : Nat) (Q : List Pc) (lost : Int) (F : Nat → Prop) : Prop where
  own : ∃ v, Blk w xb 29 #[v, .int .i64 lost] ∧ w.ownsRow 0 41 4 v Q.length (pcC (rq Q)) ∧ ∀ k, v.ownBlock = some k → F k
  self : F xb
  lt : ∀ k, F k → k < w.heap.size
section
variable {w w' : World} {xb : Nat} {Q : List Pc} {lost : Int} {F H : Nat → Prop}
theorem RAt.keeps (h : RAt w xb Q lost F) (k : Keeps H w w') (hd : ∀ b, F b → ¬ H b) : RAt w' xb Q lost F := by
  obtain ⟨v, h1, h2, h3⟩ := h.own
  exact ⟨⟨v, k.blk h1 (hd _ h.self), k.row h2 (fun g hg => hd _ (h3 g hg)), h3⟩, h.self, fun b hb => Nat.lt_of_lt_of_le (h.lt b hb) k.size⟩
theorem RAt.below (h : RAt w xb Q lost F) (hb : Below w.heap.size w w') : RAt w' xb Q lost F := h.keeps (H := fun _ => False) (Keeps.of_below hb) (fun _ _ h => h)
theorem RAt.store {w3 : World} {v' : Value} {n : Nat} {Q' : List Pc} (h : RAt w xb Q lost F) (hE : Below w.heap.size w w3) (ho : w3.ownsRow w.heap.size 41 4 v' n (pcC (rq Q'))) (hn : n = Q'.length) :
    ∃ F', RAt (w3.setCell ⟨xb, 0, none⟩ v') xb Q' lost F' ∧ Moved F F' w (w3.setCell ⟨xb, 0, none⟩ v') := by
  subst hn
  obtain ⟨v, h1, h2, h3⟩ := h.own
  have hx := h.lt xb h.self
  have k34 : Keeps (fun b => b = xb) w3 (w3.setCell ⟨xb, 0, none⟩ v') := (Keeps.refl (fun b => b = xb) w3).setCell (p := ⟨xb, 0, none⟩) (.inl rfl) v'
  have hsz : (w3.setCell ⟨xb, 0, none⟩ v').heap.size = w3.heap.size := by simp
  refine ⟨fun b => b = xb ∨ v'.ownBlock = some b, ⟨⟨v', Blkf.set_ (h1.below hE hx) 0 v', ?_, fun k hk => .inr hk⟩, .inl rfl, fun k hk => ?_⟩, fun b hb => ?_, ?_⟩
  · have := k34.row ho (fun g hg e => by have := (ho.lt g hg).1; omega)
    refine ⟨this.1, ?_⟩
    rcases this.2 with h' | ⟨g, cap, cur, a1, a2, a3⟩
    · exact .inl h'
    · exact .inr ⟨g, cap, cur, a1, Nat.zero_le _, a3⟩
  · rw [hsz]
    rcases hk with rfl | hk
    · exact Nat.lt_of_lt_of_le hx hE.size
    · exact (ho.lt k hk).2
  · rcases hb with rfl | hb
    · exact .inl h.self
    · exact .inr (ho.lt b hb).1
  · exact ((Keeps.of_below hE).same (k34.mono' fun b hb => hb ▸ h.self))
end
section
variable (xb : Nat) (Q : List Pc) (lost : Int) (F : Nat → Prop) (W : World)
theorem rhas_any (i : Int) (h : RAt W xb Q lost F) :
    Calls Try.prog 28 #[.pointer (some ⟨xb, 0, none⟩), .int .i64 i] W fun e w' => e = .returned (.bool (hereB i Q.length)) ∧ W = w' := by
  obtain ⟨v, h1, h2, _⟩ := h.own
  obtain ⟨A, c, rfl⟩ := prow_form h2
  have c0 := h1.cell 0
  have hl := h1.lt
  simp at c0
  clear h h1 h2
  generalize Q.length = n at *
  by_cases h0 : 0 ≤ i
  · by_cases hn : i < (n : Int)
    · go_enter Try.func28, Try.ntmps28
      go_wp2_with fail
      go_ret
      exact ⟨by unfold hereB; rw [decide_eq_true h0, decide_eq_true hn]; rfl, rfl⟩
    · have hn2 : (n : Int) ≤ i := by omega
      go_enter Try.func28, Try.ntmps28
      go_wp2_with fail
      go_ret
      exact ⟨by unfold hereB; rw [decide_eq_false (by omega : ¬ i < (n : Int)), Bool.and_false]; rfl, rfl⟩
  · have h02 : i < 0 := by omega
    go_enter Try.func28, Try.ntmps28
    go_wp2_with fail
    go_ret
    exact ⟨by unfold hereB; rw [decide_eq_false (by omega : ¬ 0 ≤ i)]; rfl, rfl⟩
theorem rsend_full (s d : Int) (S : ByteArray) (h : RAt W xb Q lost F) (hf : Q.length = 4096) (hl : 0 ≤ lost ∧ lost < 1000000000) :
    Calls Try.prog 9 #[.pointer (some ⟨xb, 0, none⟩), .int .i64 s, .int .i64 d, .string S] W fun e w' => e = .returned (.bool false) ∧ RAt w' xb Q (lost + 1) F ∧ Keeps F W w' := by
  have HB := Lib.hid h
  obtain ⟨v, h1, h2, h3⟩ := h.own
  have H1 := Lib.hid h1
  have H2 := Lib.hid h2
  have H3 := Lib.hid h3
  obtain ⟨A, c, rfl⟩ := prow_form h2
  have c0 := h1.cell 0
  have c1 := h1.cell 1
  have f1 := Blk.frozen h1 1
  have hlt := h1.lt
  simp only [List.getElem?_toArray, List.getElem?_cons_zero, List.getElem?_cons_succ] at c0 c1
  rw [hf] at c0
  obtain ⟨l0, l1⟩ := hl
  clear h h1 h2 h3 hf
  go_enter Try.func9, Try.ntmps9
  go_wp2_with fail
  go_ret
  have hk : Keeps (fun b => b = xb) W (W.setCell ⟨xb, 1, none⟩ (.int .i64 (lost + 1))) := (Keeps.refl (fun b => b = xb) W).setCell (p := ⟨xb, 1, none⟩) (.inl rfl) _
  have hvb := row_ne_blk H2.out H1.out (by decide)
  refine ⟨rfl, ⟨⟨_, Blkf.set_ H1.out 1 _, hk.row H2.out (fun g hg e => hvb (by rw [hg, e])), H3.out⟩, HB.out.self, fun b hb => Nat.lt_of_lt_of_le (HB.out.lt b hb) hk.size⟩, hk.mono' fun b e => by rw [e]; exact HB.out.self⟩
set_option maxHeartbeats 1000000 in
theorem rsend_yes (s d : Int) (l : List Nat) (h : RAt W xb Q lost F) (hf : Q.length < 4096) :
    Calls Try.prog 9 #[.pointer (some ⟨xb, 0, none⟩), .int .i64 s, .int .i64 d, .string (strB l)] W fun e w' => e = .returned (.bool true) ∧ ∃ F', RAt w' xb (Q ++ [⟨s, d, l, false⟩]) lost F' ∧ Moved F F' W w' := by
  obtain ⟨i0, hi0, hz0, hz1, hz2⟩ := info_parts info_rp
  have HB := Lib.hid h
  obtain ⟨v, h1, h2, h3⟩ := h.own
  have H1 := Lib.hid h1
  obtain ⟨A, c, rfl⟩ := prow_form h2
  have HR := Lib.hid (Reads.of_own h2)
  have HF := Lib.hid hf
  have c0 := h1.cell 0
  have f0 := Blk.frozen h1 0
  have hlt := h1.lt
  simp only [List.getElem?_toArray, List.getElem?_cons_zero, List.getElem?_cons_succ] at c0
  have hne : ((Q.length : Int) == 4096) = false := by simp; omega
  obtain ⟨n, hn⟩ : ∃ n, n = Q.length := ⟨_, rfl⟩
  have HN := Lib.hid hn
  rw [← hn] at c0 hne
  clear h h1 h2 h3 hf hn
  obtain ⟨S, hS⟩ : ∃ S, S = strB l := ⟨_, rfl⟩
  have HS := Lib.hid hS
  rw [← hS]
  clear hS
  go_enter Try.func9, Try.ntmps9
  have hsw : (pcC (rq Q)).length = n * 4 := by rw [pcC_length, rq_length, HN.out]
  have HSW := Lib.hid hsw
  clear hsw
  have HRn : Hid (Reads W W.heap.size 4 A n (pcC (rq Q))) := by rw [HN.out]; exact Lib.hid HR.out
  go_wp2_with (at_builtin; first
    | (refine wpList_append_any _ rfl (.tmp 23) (.tmp 27) _ rfl W.heap.size 41 i0 _ 4 40 Try.underlying27 hi0 hz0 hz1 hz2 rfl (by decide) _ 0 [] rfl (World.ownsRow_made W #[] 0 (Nat.le_refl _) (by unfold maxLen; omega) rfl) W.heap.size A n c (pcC (rq Q)) rfl (HRn.out.alloc (Nat.le_refl _) _) (one_pcC (rq_one Q)) (by unfold maxLen; have := HN.out; have := HF.out; omega) (by have := HN.out; have := HF.out; omega) (by simp) ?_; intro v2 w2 hown hgrow hat; rw [Nat.zero_add, List.nil_append] at hown; have HO := Lib.hid hown; have HG := Lib.hid hgrow; clear hown hgrow hat; obtain ⟨A2, c2, e2⟩ := prow_form HO.out; subst e2; have HB2 : Hid (Below W.heap.size W w2) := ((Below.refl _ W).alloc (Nat.le_refl _) _).grown HG.out (by simp) (fun k hk => by cases hk; exact Nat.le_refl _); have hs2 : W.heap.size ≤ w2.heap.size := HB2.out.size; clear HG)
    | (refine wpList_append_any _ rfl (.tmp 28) (.tmp 33) _ rfl W.heap.size 41 i0 _ 4 40 Try.underlying27 hi0 hz0 hz1 hz2 rfl (by decide) _ n (pcC (rq Q)) rfl ((Keeps.of_below (F := fun _ => False) ((Below.refl _ w2).alloc (Nat.le_refl _) _)).row HO.out (fun _ _ h => h)) (w2.heap.size + 1) (some ⟨w2.heap.size, 0, none⟩) 1 1 (pcV (⟨s, d, l, false⟩, .string S)) rfl (reads_pc w2 41 ⟨s, d, l, false⟩ (.string S) w2.heap.size rfl) (one_pc _ _ rfl) (by unfold maxLen; have := HN.out; have := HF.out; omega) (by have := HN.out; have := HF.out; omega) (Nat.le_trans HB2.out.size (by simp)) ?_; intro v3 w3 hown hgrow hat; have HO3 := Lib.hid hown; have HB3 : Hid (Below W.heap.size W w3) := (HB2.out.alloc HB2.out.size _).grown hgrow (Nat.le_trans HB2.out.size (by simp)) (fun k hk => (HO.out.lt k hk).1); obtain ⟨A3, c3, e3⟩ := prow_form HO3.out; subst e3; clear hown hgrow hat; have hx3 := (H1.out.below HB3.out hlt); have f3 := Blk.frozen hx3 0; have k3 := hx3.cell 0; have l3 := hx3.lt; simp only [List.getElem?_toArray, List.getElem?_cons_zero] at k3; clear hx3))
  go_ret
  refine ⟨rfl, HB.out.store HB3.out (n := n + 1) ?_ (by rw [List.length_append, HN.out]; rfl)⟩
  have h := HO3.out
  rw [HS.out] at h
  rw [rq_append, pcC_append, show pcC (rq [⟨s, d, l, false⟩]) = pcV (⟨s, d, l, false⟩, .string (strB l)) from by simp [pcC, rq]]
  exact h
end
end Go.Proofs.Ytnnajaomajgoeaa
