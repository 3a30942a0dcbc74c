/- FramesOnce: a round of the loop. -/
import Derived.Test.YtihmeehcjdgfgaaFrF
namespace Go.Proofs.Ytihmeehcjdgfgaa
open Go.RowKit Go.Maps

/-- What is had: a row of its own with just the taken ones. -/
structure Had (wr : World) (B : Nat) (sb : Nat) (F : Nat → Prop) (s : SV) (n : Int) (v : Value) (H : List Int) : Prop where
  st : StockAt wr sb F s
  ok : OKs s 5 n
  row : wr.ownsRow B 3 1 v H.length (H.map iv)
  out : ∀ g, v.ownBlock = some g → ¬ F g
  nd : H.Nodup
  mem : ∀ f, f ∈ H ↔ f ∈ s.taken
  low : ∀ g, F g → B ≤ g
  base : B ≤ wr.heap.size
theorem Had.length {wr : World} {B sb : Nat} {F : Nat → Prop} {s : SV} {n : Int} {v : Value} {H : List Int} (h : Had wr B sb F s n v H) : H.length = s.taken.length :=
  ((List.perm_ext_iff_of_nodup h.nd h.ok.tn).2 h.mem).length_eq
theorem Had.keeps {wr w2 : World} {B sb : Nat} {F : Nat → Prop} {s s' : SV} {n : Int} {v : Value} {H : List Int} (h : Had wr B sb F s n v H) (hk : Keeps F wr w2) : w2.ownsRow B 3 1 v H.length (H.map iv) := hk.row h.row h.out
theorem Had.small {wr : World} {B sb : Nat} {F : Nat → Prop} {s : SV} {n : Int} {v : Value} {H : List Int} (h : Had wr B sb F s n v H) : H.length ≤ 255 := by
  have := h.length
  have := h.ok.sizes
  omega
/-- One more is had. -/
theorem had_more {wr w2 w3 : World} {B sb : Nat} {F : Nat → Prop} {s s' : SV} {n : Int} {v v3 : Value} {H : List Int} {f : Int} {o : Obj} (h : Had wr B sb F s n v H) (hs : StockAt w2 sb F s') (hk : Keeps F wr w2) (ok : OKs s' 5 n) (hn : f ∉ s.taken) (ht : s'.taken = f :: s.taken)
    (hown : w3.ownsRow B 3 1 v3 (H.length + 1) (H.map iv ++ [iv f])) (hg : (w2.alloc o).grownBy w3 v.ownBlock) (hat : v3.ownBlock = v.ownBlock ∨ v3.ownBlock = some (w2.alloc o).heap.size) :
    Had w3 B sb F s' n v3 (H ++ [f]) ∧ Keeps (fun k => F k ∨ v.ownBlock = some k) wr w3 := by
  have k2 : Keeps (fun k => v.ownBlock = some k) w2 w3 := ((Keeps.refl _ w2).alloc o).grown hg (fun k hk => .inl hk)
  refine ⟨⟨hs.keeps k2 (fun g hg hv => h.out g hv hg), ok, by simpa using hown, fun g hg hF => ?_, ?_, fun x => ?_, h.low, Nat.le_trans h.base (Nat.le_trans hk.size k2.size)⟩, ?_⟩
  · rcases hat with e | e
    · exact h.out g (e ▸ hg) hF
    · rw [e] at hg
      have := hs.bound hF
      simp at hg; omega
  · rw [List.nodup_append]
    exact ⟨h.nd, by simp, fun a ha b hb => by simp at hb; subst hb; exact fun e => hn ((h.mem _).1 (e ▸ ha))⟩
  · rw [ht]
    simp [h.mem x, or_comm]
  · exact (hk.mono (fun i hi => .inl hi)).trans k2 (fun i hi => .inl (.inr hi))
theorem had_index {wr : World} {B sb : Nat} {F : Nat → Prop} {s : SV} {n : Int} {v : Value} {H : List Int} (h : Had wr B sb F s n v H) (hp : 0 < H.length) : ∃ g c, v = .slice (some ⟨g, 0, none⟩) H.length c ∧ H.length ≤ c ∧ g < wr.heap.size ∧ ∀ i (hi : i < H.length), wr.cell? ⟨g, i, none⟩ = some (.int .i64 H[i]) := by
  obtain ⟨g, c, hv, _, hlt⟩ := h.row.form hp
  have hr := h.row
  subst hv
  refine ⟨g, c, rfl, ?_, hlt, fun i hi => ?_⟩
  · rcases hr.2 with ⟨h0, _⟩ | ⟨g', cap', cur, h1, _, _, h3, _⟩
    · cases h0
    · injection h1 with _ _ h1; omega
  · rw [hr.cellAt i (by omega), List.getElem?_map, List.getElem?_eq_getElem hi]; rfl
theorem reads_take {w : World} {B n k : Nat} {A : Option Addr} {xs : List Value} (h : Reads w B 1 A n xs) (hk : k ≤ n) : Reads w B 1 A k (xs.take k) := by
  refine ⟨by rw [List.length_take, h.1]; omega, fun hp => ?_⟩
  obtain ⟨ad, e, hb, hc⟩ := h.2 (by omega)
  refine ⟨ad, e, hb, fun j u hj => hc j u ?_⟩
  rw [List.getElem?_take] at hj
  split at hj
  · exact hj
  · cases hj
def cutL (H : List Int) (m : Nat) : List Int := H.take m ++ H.drop (m + 1)
theorem cutL_length (H : List Int) (m : Nat) (hm : m < H.length) : (cutL H m).length = m + (H.length - (m + 1)) := by unfold cutL; simp; omega
theorem cut_split (H : List Int) (m : Nat) (hm : m < H.length) : H = H.take m ++ H[m] :: H.drop (m + 1) := by
  simp
theorem cutL_nodup (H : List Int) (m : Nat) (hm : m < H.length) (h : H.Nodup) : (cutL H m).Nodup := by
  rw [cut_split H m hm, List.nodup_append] at h
  unfold cutL
  rw [List.nodup_append]
  exact ⟨h.1, (List.nodup_cons.1 h.2.1).2, fun a ha b hb => h.2.2 a ha b (List.mem_cons_of_mem _ hb)⟩
theorem cutL_mem (H : List Int) (m : Nat) (hm : m < H.length) (h : H.Nodup) (x : Int) : x ∈ cutL H m ↔ x ≠ H[m] ∧ x ∈ H := by
  have h2 := h
  rw [cut_split H m hm, List.nodup_append] at h2
  have hn := (List.nodup_cons.1 h2.2.1).1
  have hx : x ∈ H ↔ x ∈ H.take m ∨ x = H[m] ∨ x ∈ H.drop (m + 1) := by
    conv => lhs; rw [cut_split H m hm]
    simp only [List.mem_append, List.mem_cons]
  rw [hx]
  unfold cutL
  rw [List.mem_append]
  constructor
  · rintro (h1 | h1)
    · exact ⟨fun e => h2.2.2 x h1 H[m] (List.mem_cons.2 (.inl rfl)) e, .inl h1⟩
    · exact ⟨fun e => hn (e ▸ h1), .inr (.inr h1)⟩
  · rintro ⟨hne, h1 | h1 | h1⟩
    · exact .inl h1
    · exact absurd h1 hne
    · exact .inr h1
end Go.Proofs.Ytihmeehcjdgfgaa
