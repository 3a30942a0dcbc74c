/- Send. -/
import Derived.Test.YtnnajaomajgoeaaNetA
import Derived.Test.YtnnajaomajgoeaaPlan
namespace Go.Proofs.Ytnnajaomajgoeaa
open Go.RowKit Go.ChangeShapes

theorem rdb_of_own {w : World} {base : Nat} {v : Value} {l : List Nat} (h : w.ownsRow base 5 1 v l.length (l.map bv)) (hl : ∀ i : Nat, l.getD i 0 < 256) (hn : l.length ≤ 140737488355328) : RdB w (fun k => base ≤ k ∧ k < w.heap.size) v l := by
  obtain ⟨A, c, e, h1, h2⟩ := bts_own h hl rfl
  refine ⟨A, c, e, h1, ?_, hn, fun a ea => ?_⟩
  · rcases h.2 with ⟨e2, h3⟩ | ⟨g, cap, cur, e2, _, _, h3, _⟩
    · omega
    · rw [e] at e2
      injection e2 with _ _ e4
      omega
  · subst ea
    subst e
    refine ⟨h.lt a.block rfl, ?_⟩
    rcases h.2 with ⟨e2, _⟩ | ⟨g, cap, cur, e2, _, hg, _⟩
    · cases e2
    · injection e2 with e2 _ _
      injection e2 with e2
      subst e2
      exact ⟨cur, hg⟩
theorem info_pc : (Try.prog.info? 37).map (fun i => (i.zero, i.size, i.bytes)) = some (some (.agg #[.int .i64 0, .int .i64 0, .slice none 0 0, .bool false]), 4, 48) := by kernel_rfl
theorem RdB.form {w : World} {F : Nat → Prop} {u : Value} {l : List Nat} (h : RdB w F u l) : u.oneCell' = true ∧ ∀ k, u.ownBlock = some k → F k := by
  obtain ⟨A, c, rfl, _, _, _, h4⟩ := h
  refine ⟨rfl, fun k hk => ?_⟩
  cases A with
  | none => simp [Value.ownBlock] at hk
  | some a =>
    simp [Value.ownBlock] at hk
    subst hk
    exact (h4 a rfl).1
theorem one_pc (p : Pc) (u : Value) (hu : u.oneCell' = true) : ∀ x ∈ pcV (p, u), x.oneCell' = true := by
  intro x hx
  simp [pcV] at hx
  rcases hx with rfl | rfl | rfl | rfl
  · rfl
  · rfl
  · exact hu
  · rfl
theorem reads_pc (w : World) (t : TypeId) (p : Pc) (u : Value) (n : Nat) (hn : n = w.heap.size) : Reads (w.alloc (.cells #[.int .i64 p.src, .int .i64 p.dst, u, .bool p.hurt] t)) (n + 1) 4 (some ⟨n, 0, none⟩) 1 (pcV (p, u)) := by
  subst hn
  exact ⟨rfl, fun _ => ⟨_, rfl, Nat.lt_succ_self _, fun j v hj => by
    have hb := Blkf.new_at w t (0, 0) #[.int .i64 p.src, .int .i64 p.dst, u, .bool p.hurt] rfl
    match j, hj with
    | 0, hj => exact (hb.cell 0).trans hj
    | 1, hj => exact (hb.cell 1).trans hj
    | 2, hj => exact (hb.cell 2).trans hj
    | 3, hj => exact (hb.cell 3).trans hj
    | j + 4, hj => exact absurd hj (by simp [pcV])⟩⟩
theorem Keeps.mono' {F H : Nat → Prop} {w w' : World} (h : Keeps F w w') (hF : ∀ b, F b → H b) : Keeps H w w' :=
  ⟨h.os, h.tape, h.output, h.size, fun i hi hf => h.block i hi (fun h' => hf (hF i h'))⟩
/-- A parcel is appended to the row, and the row laid in the bag. -/
theorem bag_push {W w2 w3 : World} {gb : Nat} {L : List (Pc × Value)} {lost : Int} {F : Nat → Prop} {v v' u : Value} {p : Pc} (h : BagAt W gb L lost F) (hb : Blk W gb 63 #[v, .int .i64 lost]) (ho : W.ownsRow 0 37 4 v L.length (pcC L)) (hv : ∀ k, v.ownBlock = some k → F k ∧ ∀ x ∈ L, x.2.ownBlock ≠ some k)
    (h2 : Below W.heap.size W w2) (hu : RdB w2 (fun k => W.heap.size ≤ k ∧ k < w2.heap.size) u p.byt)
    (hown : w3.ownsRow 0 37 4 v' (L.length + 1) (pcC L ++ pcV (p, u))) (hg : w2.grownBy w3 v.ownBlock) (hat : v'.ownBlock = v.ownBlock ∨ v'.ownBlock = some w2.heap.size) :
    ∃ F', BagAt (w3.setCell ⟨gb, 0, none⟩ v') gb (L ++ [(p, u)]) lost F' ∧ (∀ b, F' b → F b ∨ W.heap.size ≤ b) ∧ Keeps F W (w3.setCell ⟨gb, 0, none⟩ v') := by
  have hvb : v.ownBlock ≠ some gb := row_ne_blk ho hb (by decide)
  have hvF : ∀ k, v.ownBlock = some k → F k := fun k hk => (hv k hk).1
  have hvlt : ∀ k, v.ownBlock = some k → k < W.heap.size := fun k hk => h.lt k (hvF k hk)
  have k23 : Keeps (fun b => v.ownBlock = some b) w2 w3 := ⟨hg.os, hg.tape, hg.output, hg.size, fun i hi hf => hg.block i hi (fun e => hf e.symm)⟩
  have k02 : Keeps (fun b => v.ownBlock = some b) W w2 := Keeps.of_below h2
  have k03 : Keeps (fun b => v.ownBlock = some b) W w3 := k02.same k23
  have k34 : Keeps (fun b => b = gb) w3 (w3.setCell ⟨gb, 0, none⟩ v') := (Keeps.refl (fun b => b = gb) w3).setCell (p := ⟨gb, 0, none⟩) (.inl rfl) v'
  have k04 : Keeps (fun b => v.ownBlock = some b ∨ b = gb) W (w3.setCell ⟨gb, 0, none⟩ v') := (k03.mono' fun b h => .inl h).same (k34.mono' fun b h => .inr h)
  have k24 : Keeps (fun b => v.ownBlock = some b ∨ b = gb) w2 (w3.setCell ⟨gb, 0, none⟩ v') := (k23.mono' fun b h => .inl h).same (k34.mono' fun b h => .inr h)
  have hgb : gb < W.heap.size := h.lt _ h.self
  have hv' : v'.ownBlock ≠ some gb := by
    rcases hat with e | e
    · rw [e]; exact hvb
    · rw [e]; intro h'; injection h' with h'; have := h2.size; omega
  have hxF : ∀ x ∈ L, ∀ k, x.2.ownBlock = some k → F k ∧ k ≠ gb := fun x hx k hk => (h.rd x hx).form.2 k hk
  have huF : ∀ k, u.ownBlock = some k → W.heap.size ≤ k ∧ k < w2.heap.size := hu.form.2
  refine ⟨fun b => (F b ∨ W.heap.size ≤ b) ∧ b < (w3.setCell ⟨gb, 0, none⟩ v').heap.size, ⟨⟨v', ?_, ?_, fun k hk => ?_⟩, fun x hx => ?_, ?_, ⟨.inl h.self, Nat.lt_of_lt_of_le hgb k04.size⟩, fun k hk => hk.2⟩, fun b hb => hb.1, k04.mono' fun b hb' => ?_⟩
  · exact Blkf.set_ (k03.blk hb hvb) 0 v'
  · rw [List.length_append, pcC_append, show pcC [(p, u)] = pcV (p, u) from by simp [pcC]]
    exact k34.row hown (fun g hg' e => hv' (by rw [hg', e]))
  · have hsz : (w3.setCell ⟨gb, 0, none⟩ v').heap.size = w3.heap.size := by simp
    rcases hat with e | e
    · rw [e] at hk
      refine ⟨⟨.inl (hvF k hk), Nat.lt_of_lt_of_le (hvlt k hk) k04.size⟩, fun x hx => ?_⟩
      rcases List.mem_append.1 hx with hx | hx
      · exact (hv k hk).2 x hx
      · simp at hx
        subst hx
        intro h'
        have := (huF k h').1
        have := hvlt k hk
        omega
    · have hk2 := hown.lt k hk
      rw [e] at hk
      injection hk with hk
      subst hk
      refine ⟨⟨.inr h2.size, by rw [hsz]; exact hk2.2⟩, fun x hx h' => ?_⟩
      rcases List.mem_append.1 hx with hx | hx
      · have := h.lt _ (hxF x hx _ h').1
        have := h2.size
        omega
      · simp at hx
        subst hx
        have := (huF _ h').2
        omega
  · rcases List.mem_append.1 hx with hx | hx
    · obtain ⟨A, c, e, r1, r2, r3, r4⟩ := h.rd x hx
      have hno : ∀ a, A = some a → ¬ (v.ownBlock = some a.block ∨ a.block = gb) := by
        rintro a ea (h' | h')
        · exact (hv _ h').2 x hx (by rw [e, ea]; rfl)
        · exact (r4 a ea).1.2 h'
      exact ⟨A, c, e, bts_keeps r1 k04 hno, r2, r3, fun a ea => ⟨⟨⟨.inl (r4 a ea).1.1, Nat.lt_of_lt_of_le (h.lt _ (r4 a ea).1.1) k04.size⟩, (r4 a ea).1.2⟩, (r4 a ea).2.imp fun cs hb => k04.blk hb (hno a ea)⟩⟩
    · simp at hx
      subst hx
      refine (hu.keeps k24 (fun b hb' => ?_)).mono (fun b hb' => ⟨⟨.inr hb'.1, Nat.lt_of_lt_of_le hb'.2 k24.size⟩, by omega⟩)
      rintro (h' | h')
      · have := hvlt b h'; omega
      · omega
  · rw [List.pairwise_append]
    refine ⟨h.apart, by simp, fun x hx y hy k hk h' => ?_⟩
    simp at hy
    subst hy
    have := h.lt _ (hxF x hx k hk).1
    have := (huF k h').1
    omega
  · rcases hb' with hb' | hb'
    · exact hvF b hb'
    · rw [hb']; exact h.self
end Go.Proofs.Ytnnajaomajgoeaa
