/- Slices of bytes: how they read, how a row of the call's own reads, cuts, texts. -/
import Derived.Test.YtkkgigdgbiklmaaDoorWordD
import Derived.Test.YtkkgigdgbiklmaaDoorReads
import Derived.Test.YtkkgigdgbiklmaaDoorMem
import Derived.Laws.BytesArg
import Derived.OpenShut
import Derived.Laws.Cover3
namespace Go.Proofs.YtkkgigdgbiklmaaDoor
open Go.RowKit Go.ChangeShapes

def bv (n : Nat) : Value := .int .u8 (n : Int)
theorem one_u8 (x : Int) : ∀ u ∈ [Value.int .u8 x], u.oneCell' = true := by
  intro u hu; simp at hu; subst hu; rfl
theorem own_below {w w' : World} {base : Nat} {e : TypeId} {size : Nat} {v : Value} {n : Nat} {xs : List Value} (h : w.ownsRow base e size v n xs) (hb : Below w.heap.size w w') : w'.ownsRow base e size v n xs := by
  refine h.kept (row := none) ⟨hb.os, hb.tape, hb.output, hb.size, fun k hk _ => hb.block k hk⟩ ?_
  cases hv : v.ownBlock with
  | none => exact .inl rfl
  | some g => exact .inr (by simp)
theorem below_grown {w wr w' : World} {base : Nat} {e : TypeId} {size : Nat} {v : Value} {n : Nat} {xs : List Value} (h : wr.ownsRow base e size v n xs) (hb : Below base w wr) (hg : wr.grownBy w' v.ownBlock) (hB : base ≤ wr.heap.size) : Below base w w' :=
  hb.grown hg hB (fun k hk => (h.lt k hk).1)
/-- A slice of bytes of the call's own is handed back. -/
def RetOwn (l : List Nat) (w : World) (e : Ending) (w' : World) : Prop :=
  ∃ v, e = .returned v ∧ w'.ownsRow w.heap.size 5 1 v l.length (l.map bv) ∧ Below w.heap.size w w'
/-- An owned row of bytes reads as bytes. -/
theorem bts_own {w : World} {base n : Nat} {v : Value} {l : List Nat} (h : w.ownsRow base 5 1 v n (l.map bv)) (hl : ∀ i : Nat, l.getD i 0 < 256) (hn : n = l.length) :
    ∃ A c, v = .slice A l.length c ∧ Bts w A l ∧ (∀ a, A = some a → a.block < w.heap.size) := by
  subst hn
  rcases h.2 with ⟨rfl, hx⟩ | ⟨g, cap, cur, rfl, _, hh, _⟩
  · have : l = [] := by simpa using hx
    subst this
    exact ⟨none, 0, rfl, ⟨hl, fun h => by simp at h⟩, fun a ha => by cases ha⟩
  · have hlt := (h.lt g rfl).2
    refine ⟨_, cap, rfl, ⟨hl, fun _ => ⟨g, 0, rfl, fun i hi => ?_⟩⟩, fun a ha => by injection ha with ha; subst ha; exact hlt⟩
    have := h.cells (g := g) rfl i (bv (l.getD i 0)) (by rw [List.getElem?_map, List.getD_eq_getElem?_getD, List.getElem?_eq_getElem hi]; rfl)
    by_cases h0 : i = 0
    · subst h0; simpa [Addr.add, bv] using this
    · simpa [Addr.add, bv, h0] using this
theorem bts_below {w w' : World} {A : Option Addr} {l : List Nat} (h : Bts w A l) (hb : Below w.heap.size w w') : Bts w' A l := by
  refine ⟨h.1, fun hl => ?_⟩
  obtain ⟨b, o, e, hc⟩ := h.2 hl
  have := cell_lt (hc 0 hl)
  exact ⟨b, o, e, fun i hi => by rw [hb.cell (p := ⟨b, o + i, none⟩) this]; exact hc i hi⟩
def strB (l : List Nat) : ByteArray := ⟨(l.map UInt8.ofNat).toArray⟩
theorem conv_bts {w : World} {A : Option Addr} {l : List Nat} {n c : Nat} (h : Bts w A l) (hn : l.length = n) :
    (convert 22 9 (.slice A n c)).run Tryd.prog w = .ok (.string (strB l)) w := by
  subst hn
  have hs := Tryd.underlying22
  have he := Tryd.underlying5
  have hd := Tryd.underlying9
  rcases Nat.eq_zero_or_pos l.length with h0 | h0
  · obtain rfl : l = [] := List.eq_nil_of_length_eq_zero h0
    cases A with
    | none => exact run_convert_bytes_nil w _ _ hs he 0 c _ hd
    | some a =>
      have hl : (loadCells a 0).run Tryd.prog w = .ok (([] : List Int).map (Value.int .u8)).toArray w := by
        have := run_loadCells_list (P := Tryd.prog) w a [] (fun j v hj => by simp at hj)
        simpa using this
      rw [run_convert_bytes_string w _ _ _ _ _ c hs he hd]
      show (Conv.bytesToString (.slice (some a) 0 c)).run Tryd.prog w = _
      rw [run_bytesToString w a 0 c [] hl]
      rfl
  · obtain ⟨b, o, rfl, hc⟩ := h.2 h0
    have := run_convert_bytes_arg (P := Tryd.prog) w _ _ hs he b o l.length c (l.map Int.ofNat) (by simp) (fun i hi => by
      rw [hc i hi]
      simp [List.getElem?_eq_getElem hi]) _ hd
    rw [this]
    simp [strOfNums, strB, Function.comp_def]
theorem bts_new3 (w : World) (x y z : Nat) (hx : x < 256) (hy : y < 256) (hz : z < 256) : Bts (w.alloc (.cells #[.int .u8 x, .int .u8 y, .int .u8 z] 5)) (some ⟨w.heap.size, 0, none⟩) [x, y, z] := by
  refine ⟨fun i => ?_, fun _ => ⟨_, _, rfl, fun i hi => ?_⟩⟩
  · match i with
    | 0 => exact hx
    | 1 => exact hy
    | 2 => exact hz
    | i + 3 => simp
  · rw [World.cell?_alloc_new]
    match i, hi with
    | 0, _ => rfl
    | 1, _ => rfl
    | 2, _ => rfl
    | i + 3, hi => exact absurd hi (by simp)
theorem bts_of_row {w : World} {a : Option Addr} {len cap : Nat} {zs : List Int} (h : IsRow .u8 w a len cap zs) : ∃ l : List Nat, l.length = len ∧ Bts w a l ∧ len ≤ 9223372036854775807 := by
  rcases h with ⟨rfl, rfl, rfl, rfl⟩ | ⟨x, rfl, hl, hm, hz, hc, hw⟩
  · exact ⟨[], rfl, ⟨fun i => by simp, fun h => by simp at h⟩, by omega⟩
  · unfold maxLen at hm
    have hlen : ((zs.take len).map Int.toNat).length = len := by simp; omega
    have hget : ∀ i, i < len → ((zs.take len).map Int.toNat).getD i 0 = (zs.getD i 0).toNat := fun i hi => by
      simp [List.getD_eq_getElem?_getD, List.getElem?_take, hi]
      cases zs[i]? <;> simp
    have hb : ∀ i, i < len → 0 ≤ zs.getD i 0 ∧ zs.getD i 0 < 256 := fun i hi => u8_of_wf (hw _ (by
      rw [List.getD_eq_getElem?_getD, List.getElem?_eq_getElem (by omega)]; exact List.getElem_mem _))
    refine ⟨(zs.take len).map Int.toNat, hlen, ⟨fun i => ?_, fun h0 => ?_⟩, by omega⟩
    · rcases Nat.lt_or_ge i len with hi | hi
      · rw [hget i hi]; have := hb i hi; omega
      · rw [List.getD_eq_getElem?_getD, List.getElem?_eq_none (by omega)]; simp
    · rw [hlen] at h0
      have h00 := hc 0 (by omega)
      obtain ⟨b, o, spot⟩ := x
      have hspot : spot = none := by simpa [Addr.add] using World.cell?_spot h00
      subst hspot
      refine ⟨b, o, rfl, fun i hi => ?_⟩
      rw [hlen] at hi
      have := hc i (by omega)
      rw [hget i hi, Int.toNat_of_nonneg (hb i hi).1]
      have e : (⟨b, o, none⟩ : Addr).add i = ⟨b, o + i, none⟩ := by unfold Addr.add; split <;> simp_all
      rw [← e]; exact this
theorem reads_bts {w : World} {A : Option Addr} {l : List Nat} (h : Bts w A l) : Reads w w.heap.size 1 A l.length (l.map bv) := by
  refine ⟨by simp, fun hl => ?_⟩
  obtain ⟨b, o, rfl, hc⟩ := h.2 hl
  refine ⟨_, rfl, cell_lt (hc 0 hl), fun j u hu => ?_⟩
  have hj : j < l.length := by
    rcases Nat.lt_or_ge j l.length with h1 | h1
    · exact h1
    · rw [List.getElem?_eq_none (by simpa using h1)] at hu; cases hu
  have e : (⟨b, o, none⟩ : Addr).add j = ⟨b, o + j, none⟩ := by unfold Addr.add; split <;> simp_all
  rw [e, hc j hj]
  rw [List.getElem?_map, List.getElem?_eq_getElem hj] at hu
  simp at hu
  rw [← hu, List.getD_eq_getElem?_getD, List.getElem?_eq_getElem hj]
  rfl
theorem own_frozen {w : World} {base n : Nat} {e : TypeId} {v : Value} {xs : List Value} (h : w.ownsRow base e 1 v n xs) {A : Addr} {m c : Nat} (hv : v = .slice (some A) m c) (i : Nat) : w.frozen? ⟨A.block, i, none⟩ = false := by
  rcases h.2 with ⟨rfl, _⟩ | ⟨g, cap, cur, rfl, _, hh, _⟩
  · cases hv
  · injection hv with h1 _ _
    injection h1 with h1
    subst h1
    simp [World.frozen?, hh]
theorem one_bv (l : List Nat) : ∀ u ∈ l.map bv, u.oneCell' = true := by
  intro u hu
  obtain ⟨x, _, rfl⟩ := List.mem_map.1 hu
  rfl
theorem bts_cut {w : World} {A : Option Addr} {l : List Nat} {k c : Nat} (h : Bts w A l) (hk : k ≤ l.length) (hc : l.length ≤ c) : Bts w (if c = k then A else A.map (·.add (k * 1))) (l.drop k) := by
  refine ⟨fun i => getD_drop_lt l k h.1 i, fun hl => ?_⟩
  have hk2 : k < l.length := by simp at hl; omega
  obtain ⟨b, o, rfl, hcell⟩ := h.2 (by omega)
  rw [if_neg (by omega)]
  refine ⟨b, o + k, by simp [Addr.add], fun i hi => ?_⟩
  rw [getD_drop, show o + k + i = o + (k + i) by omega]
  exact hcell _ (by simp at hi; omega)
theorem bts_take {w : World} {A : Option Addr} {l : List Nat} {k : Nat} (h : Bts w A l) : Bts w A (l.take k) := by
  refine ⟨fun i => getD_take_lt l k i h.1, fun hl => ?_⟩
  obtain ⟨b, o, rfl, hcell⟩ := h.2 (by simp at hl; omega)
  refine ⟨b, o, rfl, fun i hi => ?_⟩
  rw [List.length_take] at hi
  rw [List.getD_eq_getElem?_getD, List.getElem?_take, if_pos (by omega), ← List.getD_eq_getElem?_getD]
  exact hcell i (by omega)
theorem strB_append (a b : List Nat) : strB a ++ strB b = strB (a ++ b) := by
  apply ByteArray.ext
  simp [strB]
theorem strB_size (a : List Nat) : (strB a).size = a.length := by simp [strB, ByteArray.size]
theorem slice_eq_nil {P : Program} (w : World) (t e : TypeId) (a : Option Addr) (l c : Nat) (h : P.underlying t = some (.slice e)) : (binOp .eql t (.slice a l c) (.slice none 0 0)).run P w = .ok (.bool a.isNone) w := by
  simp [binOp, run_equal_slice_nil, h, Sem.run_bind, Result.andThen]
end Go.Proofs.YtkkgigdgbiklmaaDoor
