/- slices.Delete of one parcel. -/
import Derived.Test.YtnnajaomajgoeaaNetB
import Derived.Deep.RegionLaw
import Derived.Laws.IdiomCopy
import Derived.Lib.SliceRun
import Derived.Shelf.RegionOpenPlain
namespace Go.Proofs.Ytnnajaomajgoeaa
open Go.RowKit Go.ChangeShapes

/-- Cells laid over cells. -/
def layC : Array Value → Nat → List Value → Array Value
  | cs, _, [] => cs
  | cs, o, v :: r => layC (cs.setIfInBounds o v) (o + 1) r
theorem layC_size : ∀ (vs : List Value) (cs : Array Value) (o : Nat), (layC cs o vs).size = cs.size
  | [], _, _ => rfl
  | v :: r, cs, o => by rw [layC, layC_size r]; simp
theorem layC_list : ∀ (vs : List Value) (cs : Array Value) (o : Nat), o + vs.length ≤ cs.size → (layC cs o vs).toList = cs.toList.take o ++ vs ++ cs.toList.drop (o + vs.length)
  | [], cs, o, h => by simp [layC]
  | v :: r, cs, o, h => by
    have hl : o + (r.length + 1) ≤ cs.size := by simpa using h
    have ho : o < cs.toList.length := by simp; omega
    rw [layC, layC_list r _ _ (by simp; omega)]
    rw [Array.toList_setIfInBounds, List.length_cons, show o + (r.length + 1) = o + 1 + r.length by omega, List.drop_set_of_lt (by omega)]
    have e : (cs.toList.set o v).take (o + 1) = cs.toList.take o ++ [v] := by
      rw [List.take_add_one, List.take_set_of_le (Nat.le_refl _), List.getElem?_set_self ho]
      rfl
    rw [e, List.append_assoc, List.append_assoc, List.append_assoc]
    rfl
theorem Blkf.setCells {g : Nat} {t : TypeId} {fr : Nat × Nat} : ∀ (vs : List Value) (o : Nat) {w : World} {cs : Array Value}, Blkf w g t fr cs → Blkf (w.setCells g o vs) g t fr (layC cs o vs)
  | [], _, _, _, h => h
  | v :: r, o, _, _, h => Blkf.setCells r (o + 1) (h.set_ o v)
theorem Keeps.setCells {g : Nat} {W : World} {F : Nat → Prop} (hF : F g) : ∀ (vs : List Value) (o : Nat) {w : World}, Keeps F W w → Keeps F W (w.setCells g o vs)
  | [], _, _, h => h
  | v :: r, o, _, h => Keeps.setCells hF r (o + 1) (h.setCell (p := ⟨g, o, none⟩) (.inl hF) v)
theorem size_setC (b : Nat) : ∀ (vs : List Value) (o : Nat) (w : World), (w.setCells b o vs).heap.size = w.heap.size
  | [], _, _ => rfl
  | v :: r, o, w => by rw [World.setCells, size_setC b r]; simp
/-- 'clear' of one element. -/
theorem clear_one {P : Program} (w : World) (t e ty : TypeId) (z : Value) (ht : P.underlying t = some (.slice e)) (hv : ∀ w, (zeroValue e).run P w = .ok z w) (h1 : ∀ v ∈ z.cells.toList, v.oneCell' = true) (b o c : Nat)
    (hc : ∀ j, j < z.cells.size → (w.cell? ⟨b, o + j, none⟩).isSome = true) (hf : ∀ j, j < z.cells.size → w.frozen? ⟨b, o + j, none⟩ = false) :
    (Builtin.clear_ #[t] ty #[.slice (some ⟨b, o, none⟩) 1 c]).run P w = .ok (.tuple #[]) (w.setCells b o z.cells.toList) := by
  have hzc : Builtin.zeroCells z.cells 1 = z.cells := by
    simp [Builtin.zeroCells]
    apply Array.ext
    · simp
    · intro i h1 h2
      simp [Nat.mod_eq_of_lt h2, h2]
  have hst := run_storeCells_cells (P := P) b o z.cells.toList 0 w (by simpa using hc) (by simpa using hf) h1
  simp only [Nat.add_zero] at hst
  simp [Builtin.clear_, run_underlying ht, hv, hzc, hst]
def zP : List Value := [.int .i64 0, .int .i64 0, .slice none 0 0, .bool false]
def newsP (cur : Array Value) (i n : Nat) : List Value := (cur.toList.take (n * 4)).drop ((i + 1) * 4)
set_option maxHeartbeats 4000000 in
set_option maxRecDepth 1000000 in
theorem delete_any (W : World) (g cap n i : Nat) (cur : Array Value) (hb : Blk W g 37 cur) (hs : cur.size = cap * 4) (hn : n ≤ cap) (hm : cap ≤ maxLen) (hi : i < n) (hone : ∀ u ∈ cur.toList.take (n * 4), u.oneCell' = true) :
    Calls Try.prog 27 #[.slice (some ⟨g, 0, none⟩) n cap, .int .i64 (i : Int), .int .i64 (((i + 1 : Nat)) : Int)] W fun e w' => e = .returned (.slice (some ⟨g, 0, none⟩) (n - 1) cap) ∧ (W.drew.setCells g (i * 4) (newsP cur i n)).setCells g ((n - 1) * 4) zP = w' := by
  obtain ⟨i0, hi0, hz0, hz1, hz2⟩ := info_parts info_pc
  obtain ⟨news, hnews⟩ : ∃ news, news = newsP cur i n := ⟨_, rfl⟩
  have hlen : news.length = (n - (i + 1)) * 4 := by rw [hnews, newsP]; simp [hs]; omega
  have hget : ∀ t, t < news.length → news[t]? = cur[(i + 1) * 4 + t]? := by
    intro t ht
    rw [hlen] at ht
    rw [hnews, newsP, List.getElem?_drop, List.getElem?_take, if_pos (by omega), Array.getElem?_toList]
  obtain ⟨A, hA, hsrc⟩ : ∃ A : Addr, (if cap = i + 1 then some (⟨g, 0, none⟩ : Addr) else some ⟨g, (i + 1) * 4, none⟩) = some A ∧ Hid (∀ t u, news[t]? = some u → W.drew.cell? (A.add t) = some u) := by
    by_cases h : cap = i + 1
    · refine ⟨⟨g, 0, none⟩, by simp [h], fun t u hu => ?_⟩
      have h0 : news.length = 0 := by rw [hlen]; omega
      rw [List.length_eq_zero_iff.1 h0] at hu
      simp at hu
    · refine ⟨⟨g, (i + 1) * 4, none⟩, by simp [h], fun t u hu => ?_⟩
      have ht := (List.getElem?_eq_some_iff.1 hu).1
      rw [hget t ht] at hu
      rw [Addr.add_lit]
      exact (hb.cell _).trans hu
  have s1 : Hid (news.length = (n - (i + 1)) * 4) := hlen
  have s2 : Hid (∀ u ∈ news, u.oneCell' = true) := by
    intro u hu
    rw [hnews] at hu
    exact hone u (List.mem_of_mem_drop hu)
  have s3 : Hid (∀ t, t < news.length → (W.drew.cell? ⟨g, 0 + i * 4 + t, none⟩).isSome = true ∧ W.drew.frozen? ⟨g, 0 + i * 4 + t, none⟩ = false) := by
    intro t ht
    rw [hlen] at ht
    refine ⟨?_, Blk.frozen hb _⟩
    show (W.cell? _).isSome = true
    rw [hb.cell, Array.getElem?_eq_getElem (by omega)]
    rfl
  obtain ⟨W1, hW1⟩ : ∃ W1, W1 = W.drew.setCells g (0 + i * 4) news := ⟨_, rfl⟩
  have hH1 : Blk W1 g 37 (layC cur (i * 4) news) := by rw [hW1, Nat.zero_add]; exact Blkf.setCells news _ hb
  have hzv : ∀ w, (zeroValue 37).run Try.prog w = .ok (.agg zP.toArray) w := fun w => by kernel_rfl
  have hcl : ∀ ty c, (Builtin.clear_ #[48] ty #[.slice (some ⟨g, (n - 1) * 4, none⟩) 1 c]).run Try.prog W1 = .ok (.tuple #[]) (W1.setCells g ((n - 1) * 4) zP) :=
    fun ty c => clear_one W1 _ _ ty (.agg zP.toArray) Try.underlying48 hzv (by intro v hv; simp [zP, Value.cells] at hv; rcases hv with rfl | rfl | rfl | rfl <;> rfl) g ((n - 1) * 4) c
      (fun t ht => by rw [hH1.cell, Array.getElem?_eq_getElem (by rw [layC_size]; have : t < 4 := ht; omega)]; rfl) (fun t ht => Blk.frozen hH1 _)
  have hW : Hid (W1 = W.drew.setCells g (0 + i * 4) news) := hW1
  have hN : Hid (news = newsP cur i n) := hnews
  have hin : i + (n - (i + 1)) = n - 1 := by omega
  have h1 : n - (n - 1) = 1 := by omega
  have hic : i ≤ cap := by omega
  have hI1 : (i : Int) + 1 ≤ (n : Int) := by omega
  have hI0 : (0 : Int) ≤ (i : Int) + 1 := by omega
  have mixed : Try.prog.follows Departure.mixedOrders = true := by kernel_rfl
  have hjc : i + 1 ≤ cap := by omega
  have hm2 : cap ≤ 9223372036854775807 := Nat.le_trans hm (by decide)
  clear hW1 hH1 hget hlen hnews hs hone hb hm
  go_enter Try.func27, Try.ntmps27
  go_wp2_with fail
  go_region_law_o (refine step_append_room rfl (.tmp 22) (.tmp 25) 48 rfl 37 i0 4 Try.underlying48 hi0 hz1 g 0 i cap (by simp [Act.eval, Act.put]) A (n - (i + 1)) (cap - (i + 1)) news (by simp [Act.eval, Act.put]) s1.out hsrc.out s2.out (by omega) s3.out ?_; rw [← hW.out])
  go_wp2_with fail
  go_ret
  rw [← hN.out, ← Nat.zero_add (i * 4), ← hW.out]
  exact ⟨rfl, rfl⟩
end Go.Proofs.Ytnnajaomajgoeaa
