/- Contract of perm.Flags. -/
import Derived.Test.YtbmfklmlgbbcaaaPermD
namespace Go.Proofs.Ytbmfklmlgbbcaaa
open Go.RowKit

def Blk (w : World) (g : Nat) (t : TypeId) (cs : Array Value) : Prop := w.heap[g]? = some (.cells cs t (0, 0))
section
variable {w w' : World} {g : Nat} {t : TypeId} {cs : Array Value}
theorem Blk.lt (h : Blk w g t cs) : g < w.heap.size := by
  rcases Nat.lt_or_ge g w.heap.size with hlt | hge
  · exact hlt
  · unfold Blk at h; rw [Array.getElem?_eq_none hge] at h; cases h
theorem Blk.cell (h : Blk w g t cs) (i : Nat) : w.cell? ⟨g, i, none⟩ = cs[i]? := cell_of_row w g i cs t (0, 0) h
theorem Blk.frozen (h : Blk w g t cs) (i : Nat) : w.frozen? ⟨g, i, none⟩ = false := by
  unfold Blk at h
  simp [World.frozen?, h]
theorem Blk.new (w : World) (t : TypeId) (cs : Array Value) : Blk (w.alloc (.cells cs t)) w.heap.size t cs := heap_alloc_new w _
theorem Blk.new_at {n : Nat} (w : World) (t : TypeId) (cs : Array Value) (hn : n = w.heap.size) : Blk (w.alloc (.cells cs t)) n t cs := by subst hn; exact heap_alloc_new w _
theorem Blk.drew (h : Blk w g t cs) : Blk w.drew g t cs := h
theorem Blk.alloc (h : Blk w g t cs) (o : Obj) : Blk (w.alloc o) g t cs := (Below.heap_alloc w o g h.lt).trans h
theorem Blk.set_ (h : Blk w g t cs) (i : Nat) (u : Value) : Blk (w.setCell ⟨g, i, none⟩ u) g t (cs.setIfInBounds i u) := by
  unfold Blk at h ⊢
  simp [World.setCell, Array.getElem?_modify, h]
theorem Blk.far (h : Blk w g t cs) {p : Addr} (hp : g ≠ p.block) (u : Value) : Blk (w.setCell p u) g t cs := (Below.heap_setCell w p u g hp).trans h
theorem Blk.below {B : Nat} (h : Blk w g t cs) (hb : Below B w w') (hg : g < B) : Blk w' g t cs := (hb.block g hg).trans h
end

theorem flags_size (s : ByteArray) (W : World) (h : s.size ≠ 8) :
    Calls Try.prog 10 #[.string s] W fun e w' => e = .returned (.tuple #[.agg #[.bool false, .bool false, .bool false, .bool false, .bool false, .bool false, .bool false, .bool false, .int .i64 0, .int .u64 0], .bool false]) ∧ Below W.heap.size W w' := by
  have hn : ((s.size : Int) != 8) = true := by rw [bne_iff_ne]; omega
  clear h
  go_enter Try.func10, Try.ntmps10
  go_wp2
  exact bodyPost_ret (v := .tuple #[.agg #[.bool false, .bool false, .bool false, .bool false, .bool false, .bool false, .bool false, .bool false, .int .i64 0, .int .u64 0], .bool false]) (by simp [results, Try.results10, go_sem]) rfl ⟨rfl, by go_grown⟩

theorem ix8_0 (a0 a1 a2 a3 a4 a5 a6 a7 : Value) (W : World) : (Instr.index 42 (.agg #[a0, a1, a2, a3, a4, a5, a6, a7]) (.int .i64 0)).run Try.prog W = .ok a0 W := by
  simp [Instr.index, asIntOf, run_underlying Try.underlying42, part, isAgg, run_underlying Try.underlying41, go_sem]
theorem ix8_1 (a0 a1 a2 a3 a4 a5 a6 a7 : Value) (W : World) : (Instr.index 42 (.agg #[a0, a1, a2, a3, a4, a5, a6, a7]) (.int .i64 1)).run Try.prog W = .ok a1 W := by
  simp [Instr.index, asIntOf, run_underlying Try.underlying42, part, isAgg, run_underlying Try.underlying41, go_sem]
theorem ix8_2 (a0 a1 a2 a3 a4 a5 a6 a7 : Value) (W : World) : (Instr.index 42 (.agg #[a0, a1, a2, a3, a4, a5, a6, a7]) (.int .i64 2)).run Try.prog W = .ok a2 W := by
  simp [Instr.index, asIntOf, run_underlying Try.underlying42, part, isAgg, run_underlying Try.underlying41, go_sem]
theorem ix8_3 (a0 a1 a2 a3 a4 a5 a6 a7 : Value) (W : World) : (Instr.index 42 (.agg #[a0, a1, a2, a3, a4, a5, a6, a7]) (.int .i64 3)).run Try.prog W = .ok a3 W := by
  simp [Instr.index, asIntOf, run_underlying Try.underlying42, part, isAgg, run_underlying Try.underlying41, go_sem]
theorem ix8_4 (a0 a1 a2 a3 a4 a5 a6 a7 : Value) (W : World) : (Instr.index 42 (.agg #[a0, a1, a2, a3, a4, a5, a6, a7]) (.int .i64 4)).run Try.prog W = .ok a4 W := by
  simp [Instr.index, asIntOf, run_underlying Try.underlying42, part, isAgg, run_underlying Try.underlying41, go_sem]
theorem ix8_5 (a0 a1 a2 a3 a4 a5 a6 a7 : Value) (W : World) : (Instr.index 42 (.agg #[a0, a1, a2, a3, a4, a5, a6, a7]) (.int .i64 5)).run Try.prog W = .ok a5 W := by
  simp [Instr.index, asIntOf, run_underlying Try.underlying42, part, isAgg, run_underlying Try.underlying41, go_sem]
theorem ix8_6 (a0 a1 a2 a3 a4 a5 a6 a7 : Value) (W : World) : (Instr.index 42 (.agg #[a0, a1, a2, a3, a4, a5, a6, a7]) (.int .i64 6)).run Try.prog W = .ok a6 W := by
  simp [Instr.index, asIntOf, run_underlying Try.underlying42, part, isAgg, run_underlying Try.underlying41, go_sem]
theorem ix8_7 (a0 a1 a2 a3 a4 a5 a6 a7 : Value) (W : World) : (Instr.index 42 (.agg #[a0, a1, a2, a3, a4, a5, a6, a7]) (.int .i64 7)).run Try.prog W = .ok a7 W := by
  simp [Instr.index, asIntOf, run_underlying Try.underlying42, part, isAgg, run_underlying Try.underlying41, go_sem]

def letterAt : Nat → Nat
  | 0 => 118
  | 1 => 114
  | 2 => 119
  | 3 => 120
  | 4 => 117
  | 5 => 103
  | 6 => 97
  | 7 => 100
  | _ => 0
/-- Byte j of a text of eight. -/
def byteAt (s : ByteArray) (j : Nat) : Nat := (s.data.getD j 0).toNat
def flagAt (s : ByteArray) (j : Nat) : Bool := byteAt s j == letterAt j
def okAt (s : ByteArray) (j : Nat) : Bool := flagAt s j || byteAt s j == 45
def flagK (s : ByteArray) (k j : Nat) : Bool := decide (j < k) && flagAt s j
def pcells (s : ByteArray) (k : Nat) : Array Value := #[.bool (flagK s k 0), .bool (flagK s k 1), .bool (flagK s k 2), .bool (flagK s k 3), .bool (flagK s k 4), .bool (flagK s k 5), .bool (flagK s k 6), .bool (flagK s k 7), .int .i64 0, .int .u64 0]

def FlagsRel (s : ByteArray) (W : World) (i : Value) (wr : World) : Prop :=
  ∃ k : Nat, k ≤ 8 ∧ i = .int .i64 k ∧ (∀ j, j < k → okAt s j = true) ∧ Blk wr W.heap.size 24 #[.bool false, .bool false, .bool false, .bool false, .bool false, .bool false, .bool false, .bool false, .int .i64 0, .int .u64 0] ∧ Blk wr (W.heap.size + 1) 24 (pcells s k) ∧ Below W.heap.size W wr
theorem pcells_step (s : ByteArray) (k : Nat) (hk : k < 8) : (pcells s k).setIfInBounds k (.bool (flagAt s k)) = pcells s (k + 1) := by
  rcases (show k = 0 ∨ k = 1 ∨ k = 2 ∨ k = 3 ∨ k = 4 ∨ k = 5 ∨ k = 6 ∨ k = 7 by omega) with rfl | rfl | rfl | rfl | rfl | rfl | rfl | rfl <;> simp [pcells, flagK]
theorem flags_step {s : ByteArray} {W wr : World} {k : Nat} {n : Int} {c : Bool} (hk : k < 8) (hn : n = ((k + 1 : Nat) : Int)) (hok : ∀ j, j < k → okAt s j = true) (hz : Blk wr W.heap.size 24 #[.bool false, .bool false, .bool false, .bool false, .bool false, .bool false, .bool false, .bool false, .int .i64 0, .int .u64 0])
    (hp : Blk wr (W.heap.size + 1) 24 (pcells s k)) (hb : Below W.heap.size W wr) (hc : flagAt s k = c) (ho : okAt s k = true) :
    FlagsRel s W (.int .i64 n) (wr.setCell ⟨W.heap.size + 1, k, none⟩ (.bool c)).drew := by
  subst hn hc
  refine ⟨k + 1, by omega, rfl, fun j hj => ?_, ?_, ?_, ?_⟩
  · rcases Nat.lt_or_ge j k with h | h
    · exact hok j h
    · obtain rfl : j = k := by omega
      exact ho
  · exact (hz.far (by simp) _).drew
  · rw [← pcells_step s k hk]; exact (hp.set_ k _).drew
  · exact (hb.setCell (by simp) _).drew
theorem flagAt_eq (s : ByteArray) (k : Nat) (h : k < s.size) : flagAt s k = (((s[k]'h).toNat : Int) == (letterAt k : Int)) := by
  have e : byteAt s k = (s[k]'h).toNat := by
    have h' : k < s.data.size := h
    simp [byteAt, Array.getD, h', h]
    rfl
  unfold flagAt
  rw [e, Bool.eq_iff_iff]
  simp only [beq_iff_eq]
  omega
theorem okAt_eq (s : ByteArray) (k : Nat) (h : k < s.size) : okAt s k = (flagAt s k || !(((s[k]'h).toNat : Int) != 45)) := by
  have e : byteAt s k = (s[k]'h).toNat := by
    have h' : k < s.data.size := h
    simp [byteAt, Array.getD, h', h]
    rfl
  unfold okAt
  rw [e]
  congr 1
  rw [Bool.eq_iff_iff]
  simp
  omega

def flagsOK (s : ByteArray) : Bool := okAt s 0 && okAt s 1 && okAt s 2 && okAt s 3 && okAt s 4 && okAt s 5 && okAt s 6 && okAt s 7
theorem flagsOK_no {s : ByteArray} {k : Nat} (hk : k < 8) (h : okAt s k = false) : flagsOK s = false := by
  unfold flagsOK
  rcases (show k = 0 ∨ k = 1 ∨ k = 2 ∨ k = 3 ∨ k = 4 ∨ k = 5 ∨ k = 6 ∨ k = 7 by omega) with rfl | rfl | rfl | rfl | rfl | rfl | rfl | rfl <;> simp [h]
/-- What Flags answers of eight bytes. -/
def flagsV (s : ByteArray) : Value := if flagsOK s then .tuple #[.agg #[.bool (flagAt s 0), .bool (flagAt s 1), .bool (flagAt s 2), .bool (flagAt s 3), .bool (flagAt s 4), .bool (flagAt s 5), .bool (flagAt s 6), .bool (flagAt s 7), .int .i64 0, .int .u64 0], .bool true] else .tuple #[.agg #[.bool false, .bool false, .bool false, .bool false, .bool false, .bool false, .bool false, .bool false, .int .i64 0, .int .u64 0], .bool false]

set_option maxHeartbeats 16000000 in
theorem flags_any (s : ByteArray) (W : World) (h : s.size = 8) :
    Calls Try.prog 10 #[.string s] W fun e w' => e = .returned (flagsV s) ∧ Below W.heap.size W w' := by
  go_enter Try.func10, Try.ntmps10
  go_wp2_with fail
  refine (places_any _ _).mono ?_
  rintro e w' ⟨rfl, rfl⟩
  go_wp2_with fail
  have H := Lib.hid h
  clear h
  go_loopw [12] (fun i wr => FlagsRel s W i wr) (fun i _ => 8 - (intOf i).toNat)
  case atStart =>
    refine ⟨0, by omega, rfl, fun j hj => by omega, ?_, ?_, by go_grown⟩
    · exact (((Blk.new _ _ _).alloc _).alloc _).drew
    · rw [show pcells s 0 = #[.bool false, .bool false, .bool false, .bool false, .bool false, .bool false, .bool false, .bool false, .int .i64 0, .int .u64 0] by simp [pcells, flagK]]
      exact ((Blk.new_at _ _ _ (by simp)).alloc _).drew
  case round =>
    obtain ⟨k, hk, rfl, hok, hz, hp, hb⟩ := hrel
    have hs := H.out
    have HZ := Lib.hid hz
    have HP := Lib.hid hp
    have HB := Lib.hid hb
    have HO := Lib.hid hok
    have hzf := fun j => hz.frozen j
    have hz0 : wr.cell? ⟨W.heap.size, 0, none⟩ = some (.bool false) := hz.cell 0
    have hz1 : wr.cell? ⟨W.heap.size, 1, none⟩ = some (.bool false) := hz.cell 1
    have hz2 : wr.cell? ⟨W.heap.size, 2, none⟩ = some (.bool false) := hz.cell 2
    have hz3 : wr.cell? ⟨W.heap.size, 3, none⟩ = some (.bool false) := hz.cell 3
    have hz4 : wr.cell? ⟨W.heap.size, 4, none⟩ = some (.bool false) := hz.cell 4
    have hz5 : wr.cell? ⟨W.heap.size, 5, none⟩ = some (.bool false) := hz.cell 5
    have hz6 : wr.cell? ⟨W.heap.size, 6, none⟩ = some (.bool false) := hz.cell 6
    have hz7 : wr.cell? ⟨W.heap.size, 7, none⟩ = some (.bool false) := hz.cell 7
    have hz8 : wr.cell? ⟨W.heap.size, 8, none⟩ = some (.int .i64 0) := hz.cell 8
    have hz9 : wr.cell? ⟨W.heap.size, 9, none⟩ = some (.int .u64 0) := hz.cell 9
    have hl := hp.lt
    clear hz hp hb hok
    rcases (show k = 8 ∨ k < 8 by omega) with rfl | hk8
    · clear hk
      have hp0 : wr.cell? ⟨W.heap.size + 1, 0, none⟩ = some (.bool (flagAt s 0)) := by rw [HP.out.cell 0]; simp [pcells, flagK]
      have hp1 : wr.cell? ⟨W.heap.size + 1, 1, none⟩ = some (.bool (flagAt s 1)) := by rw [HP.out.cell 1]; simp [pcells, flagK]
      have hp2 : wr.cell? ⟨W.heap.size + 1, 2, none⟩ = some (.bool (flagAt s 2)) := by rw [HP.out.cell 2]; simp [pcells, flagK]
      have hp3 : wr.cell? ⟨W.heap.size + 1, 3, none⟩ = some (.bool (flagAt s 3)) := by rw [HP.out.cell 3]; simp [pcells, flagK]
      have hp4 : wr.cell? ⟨W.heap.size + 1, 4, none⟩ = some (.bool (flagAt s 4)) := by rw [HP.out.cell 4]; simp [pcells, flagK]
      have hp5 : wr.cell? ⟨W.heap.size + 1, 5, none⟩ = some (.bool (flagAt s 5)) := by rw [HP.out.cell 5]; simp [pcells, flagK]
      have hp6 : wr.cell? ⟨W.heap.size + 1, 6, none⟩ = some (.bool (flagAt s 6)) := by rw [HP.out.cell 6]; simp [pcells, flagK]
      have hp7 : wr.cell? ⟨W.heap.size + 1, 7, none⟩ = some (.bool (flagAt s 7)) := by rw [HP.out.cell 7]; simp [pcells, flagK]
      have hp8 : wr.cell? ⟨W.heap.size + 1, 8, none⟩ = some (.int .i64 0) := by rw [HP.out.cell 8]; simp [pcells, flagK]
      have hp9 : wr.cell? ⟨W.heap.size + 1, 9, none⟩ = some (.int .u64 0) := by rw [HP.out.cell 9]; simp [pcells, flagK]
      go_wp2
      refine bodyPost_ret (v := .tuple #[.agg #[.bool (flagAt s 0), .bool (flagAt s 1), .bool (flagAt s 2), .bool (flagAt s 3), .bool (flagAt s 4), .bool (flagAt s 5), .bool (flagAt s 6), .bool (flagAt s 7), .int .i64 0, .int .u64 0], .bool true]) (by simp [results, Try.results10, go_sem, hz0, hz1, hz2, hz3, hz4, hz5, hz6, hz7, hz8, hz9]) rfl ⟨?_, ?_⟩
      · have ho := HO.out
        rw [flagsV, if_pos]
        simp [flagsOK, ho]
      · have hB := HB.out
        repeat (first | (with_reducible exact hB) | (with_reducible refine Below.drew ?_) | (with_reducible refine Below.setCell ?_ (by simp) _))
    · rcases (show k = 0 ∨ k = 1 ∨ k = 2 ∨ k = 3 ∨ k = 4 ∨ k = 5 ∨ k = 6 ∨ k = 7 by omega) with rfl | rfl | rfl | rfl | rfl | rfl | rfl | rfl
      · clear hk hk8
        have hc : wr.cell? ⟨W.heap.size + 1, 0, none⟩ = some (.bool (flagK s 0 0)) := HP.out.cell 0
        have hf : wr.frozen? ⟨W.heap.size + 1, 0, none⟩ = false := HP.out.frozen 0
        have ix : ∀ W' : World, (Instr.index 42 (.agg #[.pointer (some ⟨W.heap.size + 1, 0, none⟩), .pointer (some ⟨W.heap.size + 1, 1, none⟩), .pointer (some ⟨W.heap.size + 1, 2, none⟩), .pointer (some ⟨W.heap.size + 1, 3, none⟩), .pointer (some ⟨W.heap.size + 1, 4, none⟩), .pointer (some ⟨W.heap.size + 1, 5, none⟩), .pointer (some ⟨W.heap.size + 1, 6, none⟩), .pointer (some ⟨W.heap.size + 1, 7, none⟩)]) (.int .i64 0)).run Try.prog W' = .ok (.pointer (some ⟨W.heap.size + 1, 0, none⟩)) W' := fun _ => ix8_0 _ _ _ _ _ _ _ _ _
        have HF := Lib.hid (flagAt_eq s 0 (by omega))
        have HG := Lib.hid (okAt_eq s 0 (by omega))
        cases hL : (((s[0]'(by omega)).toNat : Int) == ((({ data := #[118, 114, 119, 120, 117, 103, 97, 100] } : ByteArray)[0]'(by decide)).toNat : Int))
        · cases hM : (((s[0]'(by omega)).toNat : Int) != 45)
          · have hfl : flagAt s 0 = false := HF.out.trans hL
            have hok : okAt s 0 = true := by rw [HG.out, hfl, hM]; rfl
            have HFL := Lib.hid hfl
            have HOK := Lib.hid hok
            clear hfl hok hz0 hz1 hz2 hz3 hz4 hz5 hz6 hz7 hz8 hz9 hzf
            go_wp2_with fail
            refine wp_region_plan_by (Save (W.heap.size + 1)) (later_save _) [(0, false), (1, false), (2, false), (3, false), (4, false), (5, false), (6, false), (7, false), (8, true)] (by kernel_rfl) (by kernel_rfl) (fun _ d _ _ _ h => by cases d <;> exact h) ?_
            iterate 8 (refine plan_take (v := ?_) rfl (by kernel_rfl) ?_ ?_; rotate_left; (focus (intro w' hw'; go_simp; try with_reducible rfl)); simp only [Act.put, List.setIfInBounds_toArray, List.set_cons_zero, List.set_cons_succ])
            refine plan_turn rfl (by kernel_rfl) (fun K hK => ?_)
            go_simp
            refine hK _ _ ⟨save_drew (save_set ((later_save _).refl _)), ?_⟩
            refine plan_end ?_
            go_wp2
            go_roundw
            case rel => exact flags_step (by omega) rfl HO.out HZ.out HP.out HB.out HFL.out HOK.out
            case measure => simp [intOf]
          · have hfl : flagAt s 0 = false := HF.out.trans hL
            have hok : okAt s 0 = false := by rw [HG.out, hfl, hM]; rfl
            have HOK := Lib.hid hok
            clear hfl hok
            go_wp2_with fail
            refine wp_region_plan_by (Save (W.heap.size + 1)) (later_save _) [(0, false), (1, false), (2, false), (3, false), (4, false), (5, false), (6, false), (7, false), (8, true)] (by kernel_rfl) (by kernel_rfl) (fun _ d _ _ _ h => by cases d <;> exact h) ?_
            iterate 8 (refine plan_take (v := ?_) rfl (by kernel_rfl) ?_ ?_; rotate_left; (focus (intro w' hw'; go_simp; try with_reducible rfl)); simp only [Act.put, List.setIfInBounds_toArray, List.set_cons_zero, List.set_cons_succ])
            refine plan_turn rfl (by kernel_rfl) (fun K hK => ?_)
            go_simp
            refine hK _ _ ⟨save_drew (save_set ((later_save _).refl _)), ?_⟩
            refine plan_end ?_
            go_wp2
            refine bodyPost_ret (v := .tuple #[.agg #[.bool false, .bool false, .bool false, .bool false, .bool false, .bool false, .bool false, .bool false, .int .i64 0, .int .u64 0], .bool false]) (by simp [results, Try.results10, go_sem, hz0, hz1, hz2, hz3, hz4, hz5, hz6, hz7, hz8, hz9]) rfl ⟨?_, ?_⟩
            · rw [flagsV, flagsOK_no (by omega) HOK.out, if_neg (by decide)]
            · have hB := HB.out
              repeat (first | (with_reducible exact hB) | (with_reducible refine Below.drew ?_) | (with_reducible refine Below.setCell ?_ (by simp) _))
        · have hfl : flagAt s 0 = true := HF.out.trans hL
          have hok : okAt s 0 = true := by rw [HG.out, hfl]; rfl
          have HFL := Lib.hid hfl
          have HOK := Lib.hid hok
          clear hfl hok hz0 hz1 hz2 hz3 hz4 hz5 hz6 hz7 hz8 hz9 hzf
          go_wp2_with fail
          refine wp_region_plan_by (Save (W.heap.size + 1)) (later_save _) [(0, false), (1, false), (2, false), (3, false), (4, false), (5, false), (6, false), (7, false), (8, true)] (by kernel_rfl) (by kernel_rfl) (fun _ d _ _ _ h => by cases d <;> exact h) ?_
          iterate 8 (refine plan_take (v := ?_) rfl (by kernel_rfl) ?_ ?_; rotate_left; (focus (intro w' hw'; go_simp; try with_reducible rfl)); simp only [Act.put, List.setIfInBounds_toArray, List.set_cons_zero, List.set_cons_succ])
          refine plan_turn rfl (by kernel_rfl) (fun K hK => ?_)
          go_simp
          refine hK _ _ ⟨save_drew (save_set ((later_save _).refl _)), ?_⟩
          refine plan_end ?_
          go_wp2
          go_roundw
          case rel => exact flags_step (by omega) rfl HO.out HZ.out HP.out HB.out HFL.out HOK.out
          case measure => simp [intOf]
      · clear hk hk8
        have hc : wr.cell? ⟨W.heap.size + 1, 1, none⟩ = some (.bool (flagK s 1 1)) := HP.out.cell 1
        have hf : wr.frozen? ⟨W.heap.size + 1, 1, none⟩ = false := HP.out.frozen 1
        have ix : ∀ W' : World, (Instr.index 42 (.agg #[.pointer (some ⟨W.heap.size + 1, 0, none⟩), .pointer (some ⟨W.heap.size + 1, 1, none⟩), .pointer (some ⟨W.heap.size + 1, 2, none⟩), .pointer (some ⟨W.heap.size + 1, 3, none⟩), .pointer (some ⟨W.heap.size + 1, 4, none⟩), .pointer (some ⟨W.heap.size + 1, 5, none⟩), .pointer (some ⟨W.heap.size + 1, 6, none⟩), .pointer (some ⟨W.heap.size + 1, 7, none⟩)]) (.int .i64 1)).run Try.prog W' = .ok (.pointer (some ⟨W.heap.size + 1, 1, none⟩)) W' := fun _ => ix8_1 _ _ _ _ _ _ _ _ _
        have HF := Lib.hid (flagAt_eq s 1 (by omega))
        have HG := Lib.hid (okAt_eq s 1 (by omega))
        cases hL : (((s[1]'(by omega)).toNat : Int) == ((({ data := #[118, 114, 119, 120, 117, 103, 97, 100] } : ByteArray)[1]'(by decide)).toNat : Int))
        · cases hM : (((s[1]'(by omega)).toNat : Int) != 45)
          · have hfl : flagAt s 1 = false := HF.out.trans hL
            have hok : okAt s 1 = true := by rw [HG.out, hfl, hM]; rfl
            have HFL := Lib.hid hfl
            have HOK := Lib.hid hok
            clear hfl hok hz0 hz1 hz2 hz3 hz4 hz5 hz6 hz7 hz8 hz9 hzf
            go_wp2_with fail
            refine wp_region_plan_by (Save (W.heap.size + 1)) (later_save _) [(0, false), (1, false), (2, false), (3, false), (4, false), (5, false), (6, false), (7, false), (8, true)] (by kernel_rfl) (by kernel_rfl) (fun _ d _ _ _ h => by cases d <;> exact h) ?_
            iterate 8 (refine plan_take (v := ?_) rfl (by kernel_rfl) ?_ ?_; rotate_left; (focus (intro w' hw'; go_simp; try with_reducible rfl)); simp only [Act.put, List.setIfInBounds_toArray, List.set_cons_zero, List.set_cons_succ])
            refine plan_turn rfl (by kernel_rfl) (fun K hK => ?_)
            go_simp
            refine hK _ _ ⟨save_drew (save_set ((later_save _).refl _)), ?_⟩
            refine plan_end ?_
            go_wp2
            go_roundw
            case rel => exact flags_step (by omega) rfl HO.out HZ.out HP.out HB.out HFL.out HOK.out
            case measure => simp [intOf]
          · have hfl : flagAt s 1 = false := HF.out.trans hL
            have hok : okAt s 1 = false := by rw [HG.out, hfl, hM]; rfl
            have HOK := Lib.hid hok
            clear hfl hok
            go_wp2_with fail
            refine wp_region_plan_by (Save (W.heap.size + 1)) (later_save _) [(0, false), (1, false), (2, false), (3, false), (4, false), (5, false), (6, false), (7, false), (8, true)] (by kernel_rfl) (by kernel_rfl) (fun _ d _ _ _ h => by cases d <;> exact h) ?_
            iterate 8 (refine plan_take (v := ?_) rfl (by kernel_rfl) ?_ ?_; rotate_left; (focus (intro w' hw'; go_simp; try with_reducible rfl)); simp only [Act.put, List.setIfInBounds_toArray, List.set_cons_zero, List.set_cons_succ])
            refine plan_turn rfl (by kernel_rfl) (fun K hK => ?_)
            go_simp
            refine hK _ _ ⟨save_drew (save_set ((later_save _).refl _)), ?_⟩
            refine plan_end ?_
            go_wp2
            refine bodyPost_ret (v := .tuple #[.agg #[.bool false, .bool false, .bool false, .bool false, .bool false, .bool false, .bool false, .bool false, .int .i64 0, .int .u64 0], .bool false]) (by simp [results, Try.results10, go_sem, hz0, hz1, hz2, hz3, hz4, hz5, hz6, hz7, hz8, hz9]) rfl ⟨?_, ?_⟩
            · rw [flagsV, flagsOK_no (by omega) HOK.out, if_neg (by decide)]
            · have hB := HB.out
              repeat (first | (with_reducible exact hB) | (with_reducible refine Below.drew ?_) | (with_reducible refine Below.setCell ?_ (by simp) _))
        · have hfl : flagAt s 1 = true := HF.out.trans hL
          have hok : okAt s 1 = true := by rw [HG.out, hfl]; rfl
          have HFL := Lib.hid hfl
          have HOK := Lib.hid hok
          clear hfl hok hz0 hz1 hz2 hz3 hz4 hz5 hz6 hz7 hz8 hz9 hzf
          go_wp2_with fail
          refine wp_region_plan_by (Save (W.heap.size + 1)) (later_save _) [(0, false), (1, false), (2, false), (3, false), (4, false), (5, false), (6, false), (7, false), (8, true)] (by kernel_rfl) (by kernel_rfl) (fun _ d _ _ _ h => by cases d <;> exact h) ?_
          iterate 8 (refine plan_take (v := ?_) rfl (by kernel_rfl) ?_ ?_; rotate_left; (focus (intro w' hw'; go_simp; try with_reducible rfl)); simp only [Act.put, List.setIfInBounds_toArray, List.set_cons_zero, List.set_cons_succ])
          refine plan_turn rfl (by kernel_rfl) (fun K hK => ?_)
          go_simp
          refine hK _ _ ⟨save_drew (save_set ((later_save _).refl _)), ?_⟩
          refine plan_end ?_
          go_wp2
          go_roundw
          case rel => exact flags_step (by omega) rfl HO.out HZ.out HP.out HB.out HFL.out HOK.out
          case measure => simp [intOf]
      · clear hk hk8
        have hc : wr.cell? ⟨W.heap.size + 1, 2, none⟩ = some (.bool (flagK s 2 2)) := HP.out.cell 2
        have hf : wr.frozen? ⟨W.heap.size + 1, 2, none⟩ = false := HP.out.frozen 2
        have ix : ∀ W' : World, (Instr.index 42 (.agg #[.pointer (some ⟨W.heap.size + 1, 0, none⟩), .pointer (some ⟨W.heap.size + 1, 1, none⟩), .pointer (some ⟨W.heap.size + 1, 2, none⟩), .pointer (some ⟨W.heap.size + 1, 3, none⟩), .pointer (some ⟨W.heap.size + 1, 4, none⟩), .pointer (some ⟨W.heap.size + 1, 5, none⟩), .pointer (some ⟨W.heap.size + 1, 6, none⟩), .pointer (some ⟨W.heap.size + 1, 7, none⟩)]) (.int .i64 2)).run Try.prog W' = .ok (.pointer (some ⟨W.heap.size + 1, 2, none⟩)) W' := fun _ => ix8_2 _ _ _ _ _ _ _ _ _
        have HF := Lib.hid (flagAt_eq s 2 (by omega))
        have HG := Lib.hid (okAt_eq s 2 (by omega))
        cases hL : (((s[2]'(by omega)).toNat : Int) == ((({ data := #[118, 114, 119, 120, 117, 103, 97, 100] } : ByteArray)[2]'(by decide)).toNat : Int))
        · cases hM : (((s[2]'(by omega)).toNat : Int) != 45)
          · have hfl : flagAt s 2 = false := HF.out.trans hL
            have hok : okAt s 2 = true := by rw [HG.out, hfl, hM]; rfl
            have HFL := Lib.hid hfl
            have HOK := Lib.hid hok
            clear hfl hok hz0 hz1 hz2 hz3 hz4 hz5 hz6 hz7 hz8 hz9 hzf
            go_wp2_with fail
            refine wp_region_plan_by (Save (W.heap.size + 1)) (later_save _) [(0, false), (1, false), (2, false), (3, false), (4, false), (5, false), (6, false), (7, false), (8, true)] (by kernel_rfl) (by kernel_rfl) (fun _ d _ _ _ h => by cases d <;> exact h) ?_
            iterate 8 (refine plan_take (v := ?_) rfl (by kernel_rfl) ?_ ?_; rotate_left; (focus (intro w' hw'; go_simp; try with_reducible rfl)); simp only [Act.put, List.setIfInBounds_toArray, List.set_cons_zero, List.set_cons_succ])
            refine plan_turn rfl (by kernel_rfl) (fun K hK => ?_)
            go_simp
            refine hK _ _ ⟨save_drew (save_set ((later_save _).refl _)), ?_⟩
            refine plan_end ?_
            go_wp2
            go_roundw
            case rel => exact flags_step (by omega) rfl HO.out HZ.out HP.out HB.out HFL.out HOK.out
            case measure => simp [intOf]
          · have hfl : flagAt s 2 = false := HF.out.trans hL
            have hok : okAt s 2 = false := by rw [HG.out, hfl, hM]; rfl
            have HOK := Lib.hid hok
            clear hfl hok
            go_wp2_with fail
            refine wp_region_plan_by (Save (W.heap.size + 1)) (later_save _) [(0, false), (1, false), (2, false), (3, false), (4, false), (5, false), (6, false), (7, false), (8, true)] (by kernel_rfl) (by kernel_rfl) (fun _ d _ _ _ h => by cases d <;> exact h) ?_
            iterate 8 (refine plan_take (v := ?_) rfl (by kernel_rfl) ?_ ?_; rotate_left; (focus (intro w' hw'; go_simp; try with_reducible rfl)); simp only [Act.put, List.setIfInBounds_toArray, List.set_cons_zero, List.set_cons_succ])
            refine plan_turn rfl (by kernel_rfl) (fun K hK => ?_)
            go_simp
            refine hK _ _ ⟨save_drew (save_set ((later_save _).refl _)), ?_⟩
            refine plan_end ?_
            go_wp2
            refine bodyPost_ret (v := .tuple #[.agg #[.bool false, .bool false, .bool false, .bool false, .bool false, .bool false, .bool false, .bool false, .int .i64 0, .int .u64 0], .bool false]) (by simp [results, Try.results10, go_sem, hz0, hz1, hz2, hz3, hz4, hz5, hz6, hz7, hz8, hz9]) rfl ⟨?_, ?_⟩
            · rw [flagsV, flagsOK_no (by omega) HOK.out, if_neg (by decide)]
            · have hB := HB.out
              repeat (first | (with_reducible exact hB) | (with_reducible refine Below.drew ?_) | (with_reducible refine Below.setCell ?_ (by simp) _))
        · have hfl : flagAt s 2 = true := HF.out.trans hL
          have hok : okAt s 2 = true := by rw [HG.out, hfl]; rfl
          have HFL := Lib.hid hfl
          have HOK := Lib.hid hok
          clear hfl hok hz0 hz1 hz2 hz3 hz4 hz5 hz6 hz7 hz8 hz9 hzf
          go_wp2_with fail
          refine wp_region_plan_by (Save (W.heap.size + 1)) (later_save _) [(0, false), (1, false), (2, false), (3, false), (4, false), (5, false), (6, false), (7, false), (8, true)] (by kernel_rfl) (by kernel_rfl) (fun _ d _ _ _ h => by cases d <;> exact h) ?_
          iterate 8 (refine plan_take (v := ?_) rfl (by kernel_rfl) ?_ ?_; rotate_left; (focus (intro w' hw'; go_simp; try with_reducible rfl)); simp only [Act.put, List.setIfInBounds_toArray, List.set_cons_zero, List.set_cons_succ])
          refine plan_turn rfl (by kernel_rfl) (fun K hK => ?_)
          go_simp
          refine hK _ _ ⟨save_drew (save_set ((later_save _).refl _)), ?_⟩
          refine plan_end ?_
          go_wp2
          go_roundw
          case rel => exact flags_step (by omega) rfl HO.out HZ.out HP.out HB.out HFL.out HOK.out
          case measure => simp [intOf]
      · clear hk hk8
        have hc : wr.cell? ⟨W.heap.size + 1, 3, none⟩ = some (.bool (flagK s 3 3)) := HP.out.cell 3
        have hf : wr.frozen? ⟨W.heap.size + 1, 3, none⟩ = false := HP.out.frozen 3
        have ix : ∀ W' : World, (Instr.index 42 (.agg #[.pointer (some ⟨W.heap.size + 1, 0, none⟩), .pointer (some ⟨W.heap.size + 1, 1, none⟩), .pointer (some ⟨W.heap.size + 1, 2, none⟩), .pointer (some ⟨W.heap.size + 1, 3, none⟩), .pointer (some ⟨W.heap.size + 1, 4, none⟩), .pointer (some ⟨W.heap.size + 1, 5, none⟩), .pointer (some ⟨W.heap.size + 1, 6, none⟩), .pointer (some ⟨W.heap.size + 1, 7, none⟩)]) (.int .i64 3)).run Try.prog W' = .ok (.pointer (some ⟨W.heap.size + 1, 3, none⟩)) W' := fun _ => ix8_3 _ _ _ _ _ _ _ _ _
        have HF := Lib.hid (flagAt_eq s 3 (by omega))
        have HG := Lib.hid (okAt_eq s 3 (by omega))
        cases hL : (((s[3]'(by omega)).toNat : Int) == ((({ data := #[118, 114, 119, 120, 117, 103, 97, 100] } : ByteArray)[3]'(by decide)).toNat : Int))
        · cases hM : (((s[3]'(by omega)).toNat : Int) != 45)
          · have hfl : flagAt s 3 = false := HF.out.trans hL
            have hok : okAt s 3 = true := by rw [HG.out, hfl, hM]; rfl
            have HFL := Lib.hid hfl
            have HOK := Lib.hid hok
            clear hfl hok hz0 hz1 hz2 hz3 hz4 hz5 hz6 hz7 hz8 hz9 hzf
            go_wp2_with fail
            refine wp_region_plan_by (Save (W.heap.size + 1)) (later_save _) [(0, false), (1, false), (2, false), (3, false), (4, false), (5, false), (6, false), (7, false), (8, true)] (by kernel_rfl) (by kernel_rfl) (fun _ d _ _ _ h => by cases d <;> exact h) ?_
            iterate 8 (refine plan_take (v := ?_) rfl (by kernel_rfl) ?_ ?_; rotate_left; (focus (intro w' hw'; go_simp; try with_reducible rfl)); simp only [Act.put, List.setIfInBounds_toArray, List.set_cons_zero, List.set_cons_succ])
            refine plan_turn rfl (by kernel_rfl) (fun K hK => ?_)
            go_simp
            refine hK _ _ ⟨save_drew (save_set ((later_save _).refl _)), ?_⟩
            refine plan_end ?_
            go_wp2
            go_roundw
            case rel => exact flags_step (by omega) rfl HO.out HZ.out HP.out HB.out HFL.out HOK.out
            case measure => simp [intOf]
          · have hfl : flagAt s 3 = false := HF.out.trans hL
            have hok : okAt s 3 = false := by rw [HG.out, hfl, hM]; rfl
            have HOK := Lib.hid hok
            clear hfl hok
            go_wp2_with fail
            refine wp_region_plan_by (Save (W.heap.size + 1)) (later_save _) [(0, false), (1, false), (2, false), (3, false), (4, false), (5, false), (6, false), (7, false), (8, true)] (by kernel_rfl) (by kernel_rfl) (fun _ d _ _ _ h => by cases d <;> exact h) ?_
            iterate 8 (refine plan_take (v := ?_) rfl (by kernel_rfl) ?_ ?_; rotate_left; (focus (intro w' hw'; go_simp; try with_reducible rfl)); simp only [Act.put, List.setIfInBounds_toArray, List.set_cons_zero, List.set_cons_succ])
            refine plan_turn rfl (by kernel_rfl) (fun K hK => ?_)
            go_simp
            refine hK _ _ ⟨save_drew (save_set ((later_save _).refl _)), ?_⟩
            refine plan_end ?_
            go_wp2
            refine bodyPost_ret (v := .tuple #[.agg #[.bool false, .bool false, .bool false, .bool false, .bool false, .bool false, .bool false, .bool false, .int .i64 0, .int .u64 0], .bool false]) (by simp [results, Try.results10, go_sem, hz0, hz1, hz2, hz3, hz4, hz5, hz6, hz7, hz8, hz9]) rfl ⟨?_, ?_⟩
            · rw [flagsV, flagsOK_no (by omega) HOK.out, if_neg (by decide)]
            · have hB := HB.out
              repeat (first | (with_reducible exact hB) | (with_reducible refine Below.drew ?_) | (with_reducible refine Below.setCell ?_ (by simp) _))
        · have hfl : flagAt s 3 = true := HF.out.trans hL
          have hok : okAt s 3 = true := by rw [HG.out, hfl]; rfl
          have HFL := Lib.hid hfl
          have HOK := Lib.hid hok
          clear hfl hok hz0 hz1 hz2 hz3 hz4 hz5 hz6 hz7 hz8 hz9 hzf
          go_wp2_with fail
          refine wp_region_plan_by (Save (W.heap.size + 1)) (later_save _) [(0, false), (1, false), (2, false), (3, false), (4, false), (5, false), (6, false), (7, false), (8, true)] (by kernel_rfl) (by kernel_rfl) (fun _ d _ _ _ h => by cases d <;> exact h) ?_
          iterate 8 (refine plan_take (v := ?_) rfl (by kernel_rfl) ?_ ?_; rotate_left; (focus (intro w' hw'; go_simp; try with_reducible rfl)); simp only [Act.put, List.setIfInBounds_toArray, List.set_cons_zero, List.set_cons_succ])
          refine plan_turn rfl (by kernel_rfl) (fun K hK => ?_)
          go_simp
          refine hK _ _ ⟨save_drew (save_set ((later_save _).refl _)), ?_⟩
          refine plan_end ?_
          go_wp2
          go_roundw
          case rel => exact flags_step (by omega) rfl HO.out HZ.out HP.out HB.out HFL.out HOK.out
          case measure => simp [intOf]
      · clear hk hk8
        have hc : wr.cell? ⟨W.heap.size + 1, 4, none⟩ = some (.bool (flagK s 4 4)) := HP.out.cell 4
        have hf : wr.frozen? ⟨W.heap.size + 1, 4, none⟩ = false := HP.out.frozen 4
        have ix : ∀ W' : World, (Instr.index 42 (.agg #[.pointer (some ⟨W.heap.size + 1, 0, none⟩), .pointer (some ⟨W.heap.size + 1, 1, none⟩), .pointer (some ⟨W.heap.size + 1, 2, none⟩), .pointer (some ⟨W.heap.size + 1, 3, none⟩), .pointer (some ⟨W.heap.size + 1, 4, none⟩), .pointer (some ⟨W.heap.size + 1, 5, none⟩), .pointer (some ⟨W.heap.size + 1, 6, none⟩), .pointer (some ⟨W.heap.size + 1, 7, none⟩)]) (.int .i64 4)).run Try.prog W' = .ok (.pointer (some ⟨W.heap.size + 1, 4, none⟩)) W' := fun _ => ix8_4 _ _ _ _ _ _ _ _ _
        have HF := Lib.hid (flagAt_eq s 4 (by omega))
        have HG := Lib.hid (okAt_eq s 4 (by omega))
        cases hL : (((s[4]'(by omega)).toNat : Int) == ((({ data := #[118, 114, 119, 120, 117, 103, 97, 100] } : ByteArray)[4]'(by decide)).toNat : Int))
        · cases hM : (((s[4]'(by omega)).toNat : Int) != 45)
          · have hfl : flagAt s 4 = false := HF.out.trans hL
            have hok : okAt s 4 = true := by rw [HG.out, hfl, hM]; rfl
            have HFL := Lib.hid hfl
            have HOK := Lib.hid hok
            clear hfl hok hz0 hz1 hz2 hz3 hz4 hz5 hz6 hz7 hz8 hz9 hzf
            go_wp2_with fail
            refine wp_region_plan_by (Save (W.heap.size + 1)) (later_save _) [(0, false), (1, false), (2, false), (3, false), (4, false), (5, false), (6, false), (7, false), (8, true)] (by kernel_rfl) (by kernel_rfl) (fun _ d _ _ _ h => by cases d <;> exact h) ?_
            iterate 8 (refine plan_take (v := ?_) rfl (by kernel_rfl) ?_ ?_; rotate_left; (focus (intro w' hw'; go_simp; try with_reducible rfl)); simp only [Act.put, List.setIfInBounds_toArray, List.set_cons_zero, List.set_cons_succ])
            refine plan_turn rfl (by kernel_rfl) (fun K hK => ?_)
            go_simp
            refine hK _ _ ⟨save_drew (save_set ((later_save _).refl _)), ?_⟩
            refine plan_end ?_
            go_wp2
            go_roundw
            case rel => exact flags_step (by omega) rfl HO.out HZ.out HP.out HB.out HFL.out HOK.out
            case measure => simp [intOf]
          · have hfl : flagAt s 4 = false := HF.out.trans hL
            have hok : okAt s 4 = false := by rw [HG.out, hfl, hM]; rfl
            have HOK := Lib.hid hok
            clear hfl hok
            go_wp2_with fail
            refine wp_region_plan_by (Save (W.heap.size + 1)) (later_save _) [(0, false), (1, false), (2, false), (3, false), (4, false), (5, false), (6, false), (7, false), (8, true)] (by kernel_rfl) (by kernel_rfl) (fun _ d _ _ _ h => by cases d <;> exact h) ?_
            iterate 8 (refine plan_take (v := ?_) rfl (by kernel_rfl) ?_ ?_; rotate_left; (focus (intro w' hw'; go_simp; try with_reducible rfl)); simp only [Act.put, List.setIfInBounds_toArray, List.set_cons_zero, List.set_cons_succ])
            refine plan_turn rfl (by kernel_rfl) (fun K hK => ?_)
            go_simp
            refine hK _ _ ⟨save_drew (save_set ((later_save _).refl _)), ?_⟩
            refine plan_end ?_
            go_wp2
            refine bodyPost_ret (v := .tuple #[.agg #[.bool false, .bool false, .bool false, .bool false, .bool false, .bool false, .bool false, .bool false, .int .i64 0, .int .u64 0], .bool false]) (by simp [results, Try.results10, go_sem, hz0, hz1, hz2, hz3, hz4, hz5, hz6, hz7, hz8, hz9]) rfl ⟨?_, ?_⟩
            · rw [flagsV, flagsOK_no (by omega) HOK.out, if_neg (by decide)]
            · have hB := HB.out
              repeat (first | (with_reducible exact hB) | (with_reducible refine Below.drew ?_) | (with_reducible refine Below.setCell ?_ (by simp) _))
        · have hfl : flagAt s 4 = true := HF.out.trans hL
          have hok : okAt s 4 = true := by rw [HG.out, hfl]; rfl
          have HFL := Lib.hid hfl
          have HOK := Lib.hid hok
          clear hfl hok hz0 hz1 hz2 hz3 hz4 hz5 hz6 hz7 hz8 hz9 hzf
          go_wp2_with fail
          refine wp_region_plan_by (Save (W.heap.size + 1)) (later_save _) [(0, false), (1, false), (2, false), (3, false), (4, false), (5, false), (6, false), (7, false), (8, true)] (by kernel_rfl) (by kernel_rfl) (fun _ d _ _ _ h => by cases d <;> exact h) ?_
          iterate 8 (refine plan_take (v := ?_) rfl (by kernel_rfl) ?_ ?_; rotate_left; (focus (intro w' hw'; go_simp; try with_reducible rfl)); simp only [Act.put, List.setIfInBounds_toArray, List.set_cons_zero, List.set_cons_succ])
          refine plan_turn rfl (by kernel_rfl) (fun K hK => ?_)
          go_simp
          refine hK _ _ ⟨save_drew (save_set ((later_save _).refl _)), ?_⟩
          refine plan_end ?_
          go_wp2
          go_roundw
          case rel => exact flags_step (by omega) rfl HO.out HZ.out HP.out HB.out HFL.out HOK.out
          case measure => simp [intOf]
      · clear hk hk8
        have hc : wr.cell? ⟨W.heap.size + 1, 5, none⟩ = some (.bool (flagK s 5 5)) := HP.out.cell 5
        have hf : wr.frozen? ⟨W.heap.size + 1, 5, none⟩ = false := HP.out.frozen 5
        have ix : ∀ W' : World, (Instr.index 42 (.agg #[.pointer (some ⟨W.heap.size + 1, 0, none⟩), .pointer (some ⟨W.heap.size + 1, 1, none⟩), .pointer (some ⟨W.heap.size + 1, 2, none⟩), .pointer (some ⟨W.heap.size + 1, 3, none⟩), .pointer (some ⟨W.heap.size + 1, 4, none⟩), .pointer (some ⟨W.heap.size + 1, 5, none⟩), .pointer (some ⟨W.heap.size + 1, 6, none⟩), .pointer (some ⟨W.heap.size + 1, 7, none⟩)]) (.int .i64 5)).run Try.prog W' = .ok (.pointer (some ⟨W.heap.size + 1, 5, none⟩)) W' := fun _ => ix8_5 _ _ _ _ _ _ _ _ _
        have HF := Lib.hid (flagAt_eq s 5 (by omega))
        have HG := Lib.hid (okAt_eq s 5 (by omega))
        cases hL : (((s[5]'(by omega)).toNat : Int) == ((({ data := #[118, 114, 119, 120, 117, 103, 97, 100] } : ByteArray)[5]'(by decide)).toNat : Int))
        · cases hM : (((s[5]'(by omega)).toNat : Int) != 45)
          · have hfl : flagAt s 5 = false := HF.out.trans hL
            have hok : okAt s 5 = true := by rw [HG.out, hfl, hM]; rfl
            have HFL := Lib.hid hfl
            have HOK := Lib.hid hok
            clear hfl hok hz0 hz1 hz2 hz3 hz4 hz5 hz6 hz7 hz8 hz9 hzf
            go_wp2_with fail
            refine wp_region_plan_by (Save (W.heap.size + 1)) (later_save _) [(0, false), (1, false), (2, false), (3, false), (4, false), (5, false), (6, false), (7, false), (8, true)] (by kernel_rfl) (by kernel_rfl) (fun _ d _ _ _ h => by cases d <;> exact h) ?_
            iterate 8 (refine plan_take (v := ?_) rfl (by kernel_rfl) ?_ ?_; rotate_left; (focus (intro w' hw'; go_simp; try with_reducible rfl)); simp only [Act.put, List.setIfInBounds_toArray, List.set_cons_zero, List.set_cons_succ])
            refine plan_turn rfl (by kernel_rfl) (fun K hK => ?_)
            go_simp
            refine hK _ _ ⟨save_drew (save_set ((later_save _).refl _)), ?_⟩
            refine plan_end ?_
            go_wp2
            go_roundw
            case rel => exact flags_step (by omega) rfl HO.out HZ.out HP.out HB.out HFL.out HOK.out
            case measure => simp [intOf]
          · have hfl : flagAt s 5 = false := HF.out.trans hL
            have hok : okAt s 5 = false := by rw [HG.out, hfl, hM]; rfl
            have HOK := Lib.hid hok
            clear hfl hok
            go_wp2_with fail
            refine wp_region_plan_by (Save (W.heap.size + 1)) (later_save _) [(0, false), (1, false), (2, false), (3, false), (4, false), (5, false), (6, false), (7, false), (8, true)] (by kernel_rfl) (by kernel_rfl) (fun _ d _ _ _ h => by cases d <;> exact h) ?_
            iterate 8 (refine plan_take (v := ?_) rfl (by kernel_rfl) ?_ ?_; rotate_left; (focus (intro w' hw'; go_simp; try with_reducible rfl)); simp only [Act.put, List.setIfInBounds_toArray, List.set_cons_zero, List.set_cons_succ])
            refine plan_turn rfl (by kernel_rfl) (fun K hK => ?_)
            go_simp
            refine hK _ _ ⟨save_drew (save_set ((later_save _).refl _)), ?_⟩
            refine plan_end ?_
            go_wp2
            refine bodyPost_ret (v := .tuple #[.agg #[.bool false, .bool false, .bool false, .bool false, .bool false, .bool false, .bool false, .bool false, .int .i64 0, .int .u64 0], .bool false]) (by simp [results, Try.results10, go_sem, hz0, hz1, hz2, hz3, hz4, hz5, hz6, hz7, hz8, hz9]) rfl ⟨?_, ?_⟩
            · rw [flagsV, flagsOK_no (by omega) HOK.out, if_neg (by decide)]
            · have hB := HB.out
              repeat (first | (with_reducible exact hB) | (with_reducible refine Below.drew ?_) | (with_reducible refine Below.setCell ?_ (by simp) _))
        · have hfl : flagAt s 5 = true := HF.out.trans hL
          have hok : okAt s 5 = true := by rw [HG.out, hfl]; rfl
          have HFL := Lib.hid hfl
          have HOK := Lib.hid hok
          clear hfl hok hz0 hz1 hz2 hz3 hz4 hz5 hz6 hz7 hz8 hz9 hzf
          go_wp2_with fail
          refine wp_region_plan_by (Save (W.heap.size + 1)) (later_save _) [(0, false), (1, false), (2, false), (3, false), (4, false), (5, false), (6, false), (7, false), (8, true)] (by kernel_rfl) (by kernel_rfl) (fun _ d _ _ _ h => by cases d <;> exact h) ?_
          iterate 8 (refine plan_take (v := ?_) rfl (by kernel_rfl) ?_ ?_; rotate_left; (focus (intro w' hw'; go_simp; try with_reducible rfl)); simp only [Act.put, List.setIfInBounds_toArray, List.set_cons_zero, List.set_cons_succ])
          refine plan_turn rfl (by kernel_rfl) (fun K hK => ?_)
          go_simp
          refine hK _ _ ⟨save_drew (save_set ((later_save _).refl _)), ?_⟩
          refine plan_end ?_
          go_wp2
          go_roundw
          case rel => exact flags_step (by omega) rfl HO.out HZ.out HP.out HB.out HFL.out HOK.out
          case measure => simp [intOf]
      · clear hk hk8
        have hc : wr.cell? ⟨W.heap.size + 1, 6, none⟩ = some (.bool (flagK s 6 6)) := HP.out.cell 6
        have hf : wr.frozen? ⟨W.heap.size + 1, 6, none⟩ = false := HP.out.frozen 6
        have ix : ∀ W' : World, (Instr.index 42 (.agg #[.pointer (some ⟨W.heap.size + 1, 0, none⟩), .pointer (some ⟨W.heap.size + 1, 1, none⟩), .pointer (some ⟨W.heap.size + 1, 2, none⟩), .pointer (some ⟨W.heap.size + 1, 3, none⟩), .pointer (some ⟨W.heap.size + 1, 4, none⟩), .pointer (some ⟨W.heap.size + 1, 5, none⟩), .pointer (some ⟨W.heap.size + 1, 6, none⟩), .pointer (some ⟨W.heap.size + 1, 7, none⟩)]) (.int .i64 6)).run Try.prog W' = .ok (.pointer (some ⟨W.heap.size + 1, 6, none⟩)) W' := fun _ => ix8_6 _ _ _ _ _ _ _ _ _
        have HF := Lib.hid (flagAt_eq s 6 (by omega))
        have HG := Lib.hid (okAt_eq s 6 (by omega))
        cases hL : (((s[6]'(by omega)).toNat : Int) == ((({ data := #[118, 114, 119, 120, 117, 103, 97, 100] } : ByteArray)[6]'(by decide)).toNat : Int))
        · cases hM : (((s[6]'(by omega)).toNat : Int) != 45)
          · have hfl : flagAt s 6 = false := HF.out.trans hL
            have hok : okAt s 6 = true := by rw [HG.out, hfl, hM]; rfl
            have HFL := Lib.hid hfl
            have HOK := Lib.hid hok
            clear hfl hok hz0 hz1 hz2 hz3 hz4 hz5 hz6 hz7 hz8 hz9 hzf
            go_wp2_with fail
            refine wp_region_plan_by (Save (W.heap.size + 1)) (later_save _) [(0, false), (1, false), (2, false), (3, false), (4, false), (5, false), (6, false), (7, false), (8, true)] (by kernel_rfl) (by kernel_rfl) (fun _ d _ _ _ h => by cases d <;> exact h) ?_
            iterate 8 (refine plan_take (v := ?_) rfl (by kernel_rfl) ?_ ?_; rotate_left; (focus (intro w' hw'; go_simp; try with_reducible rfl)); simp only [Act.put, List.setIfInBounds_toArray, List.set_cons_zero, List.set_cons_succ])
            refine plan_turn rfl (by kernel_rfl) (fun K hK => ?_)
            go_simp
            refine hK _ _ ⟨save_drew (save_set ((later_save _).refl _)), ?_⟩
            refine plan_end ?_
            go_wp2
            go_roundw
            case rel => exact flags_step (by omega) rfl HO.out HZ.out HP.out HB.out HFL.out HOK.out
            case measure => simp [intOf]
          · have hfl : flagAt s 6 = false := HF.out.trans hL
            have hok : okAt s 6 = false := by rw [HG.out, hfl, hM]; rfl
            have HOK := Lib.hid hok
            clear hfl hok
            go_wp2_with fail
            refine wp_region_plan_by (Save (W.heap.size + 1)) (later_save _) [(0, false), (1, false), (2, false), (3, false), (4, false), (5, false), (6, false), (7, false), (8, true)] (by kernel_rfl) (by kernel_rfl) (fun _ d _ _ _ h => by cases d <;> exact h) ?_
            iterate 8 (refine plan_take (v := ?_) rfl (by kernel_rfl) ?_ ?_; rotate_left; (focus (intro w' hw'; go_simp; try with_reducible rfl)); simp only [Act.put, List.setIfInBounds_toArray, List.set_cons_zero, List.set_cons_succ])
            refine plan_turn rfl (by kernel_rfl) (fun K hK => ?_)
            go_simp
            refine hK _ _ ⟨save_drew (save_set ((later_save _).refl _)), ?_⟩
            refine plan_end ?_
            go_wp2
            refine bodyPost_ret (v := .tuple #[.agg #[.bool false, .bool false, .bool false, .bool false, .bool false, .bool false, .bool false, .bool false, .int .i64 0, .int .u64 0], .bool false]) (by simp [results, Try.results10, go_sem, hz0, hz1, hz2, hz3, hz4, hz5, hz6, hz7, hz8, hz9]) rfl ⟨?_, ?_⟩
            · rw [flagsV, flagsOK_no (by omega) HOK.out, if_neg (by decide)]
            · have hB := HB.out
              repeat (first | (with_reducible exact hB) | (with_reducible refine Below.drew ?_) | (with_reducible refine Below.setCell ?_ (by simp) _))
        · have hfl : flagAt s 6 = true := HF.out.trans hL
          have hok : okAt s 6 = true := by rw [HG.out, hfl]; rfl
          have HFL := Lib.hid hfl
          have HOK := Lib.hid hok
          clear hfl hok hz0 hz1 hz2 hz3 hz4 hz5 hz6 hz7 hz8 hz9 hzf
          go_wp2_with fail
          refine wp_region_plan_by (Save (W.heap.size + 1)) (later_save _) [(0, false), (1, false), (2, false), (3, false), (4, false), (5, false), (6, false), (7, false), (8, true)] (by kernel_rfl) (by kernel_rfl) (fun _ d _ _ _ h => by cases d <;> exact h) ?_
          iterate 8 (refine plan_take (v := ?_) rfl (by kernel_rfl) ?_ ?_; rotate_left; (focus (intro w' hw'; go_simp; try with_reducible rfl)); simp only [Act.put, List.setIfInBounds_toArray, List.set_cons_zero, List.set_cons_succ])
          refine plan_turn rfl (by kernel_rfl) (fun K hK => ?_)
          go_simp
          refine hK _ _ ⟨save_drew (save_set ((later_save _).refl _)), ?_⟩
          refine plan_end ?_
          go_wp2
          go_roundw
          case rel => exact flags_step (by omega) rfl HO.out HZ.out HP.out HB.out HFL.out HOK.out
          case measure => simp [intOf]
      · clear hk hk8
        have hc : wr.cell? ⟨W.heap.size + 1, 7, none⟩ = some (.bool (flagK s 7 7)) := HP.out.cell 7
        have hf : wr.frozen? ⟨W.heap.size + 1, 7, none⟩ = false := HP.out.frozen 7
        have ix : ∀ W' : World, (Instr.index 42 (.agg #[.pointer (some ⟨W.heap.size + 1, 0, none⟩), .pointer (some ⟨W.heap.size + 1, 1, none⟩), .pointer (some ⟨W.heap.size + 1, 2, none⟩), .pointer (some ⟨W.heap.size + 1, 3, none⟩), .pointer (some ⟨W.heap.size + 1, 4, none⟩), .pointer (some ⟨W.heap.size + 1, 5, none⟩), .pointer (some ⟨W.heap.size + 1, 6, none⟩), .pointer (some ⟨W.heap.size + 1, 7, none⟩)]) (.int .i64 7)).run Try.prog W' = .ok (.pointer (some ⟨W.heap.size + 1, 7, none⟩)) W' := fun _ => ix8_7 _ _ _ _ _ _ _ _ _
        have HF := Lib.hid (flagAt_eq s 7 (by omega))
        have HG := Lib.hid (okAt_eq s 7 (by omega))
        cases hL : (((s[7]'(by omega)).toNat : Int) == ((({ data := #[118, 114, 119, 120, 117, 103, 97, 100] } : ByteArray)[7]'(by decide)).toNat : Int))
        · cases hM : (((s[7]'(by omega)).toNat : Int) != 45)
          · have hfl : flagAt s 7 = false := HF.out.trans hL
            have hok : okAt s 7 = true := by rw [HG.out, hfl, hM]; rfl
            have HFL := Lib.hid hfl
            have HOK := Lib.hid hok
            clear hfl hok hz0 hz1 hz2 hz3 hz4 hz5 hz6 hz7 hz8 hz9 hzf
            go_wp2_with fail
            refine wp_region_plan_by (Save (W.heap.size + 1)) (later_save _) [(0, false), (1, false), (2, false), (3, false), (4, false), (5, false), (6, false), (7, false), (8, true)] (by kernel_rfl) (by kernel_rfl) (fun _ d _ _ _ h => by cases d <;> exact h) ?_
            iterate 8 (refine plan_take (v := ?_) rfl (by kernel_rfl) ?_ ?_; rotate_left; (focus (intro w' hw'; go_simp; try with_reducible rfl)); simp only [Act.put, List.setIfInBounds_toArray, List.set_cons_zero, List.set_cons_succ])
            refine plan_turn rfl (by kernel_rfl) (fun K hK => ?_)
            go_simp
            refine hK _ _ ⟨save_drew (save_set ((later_save _).refl _)), ?_⟩
            refine plan_end ?_
            go_wp2
            go_roundw
            case rel => exact flags_step (by omega) rfl HO.out HZ.out HP.out HB.out HFL.out HOK.out
            case measure => simp [intOf]
          · have hfl : flagAt s 7 = false := HF.out.trans hL
            have hok : okAt s 7 = false := by rw [HG.out, hfl, hM]; rfl
            have HOK := Lib.hid hok
            clear hfl hok
            go_wp2_with fail
            refine wp_region_plan_by (Save (W.heap.size + 1)) (later_save _) [(0, false), (1, false), (2, false), (3, false), (4, false), (5, false), (6, false), (7, false), (8, true)] (by kernel_rfl) (by kernel_rfl) (fun _ d _ _ _ h => by cases d <;> exact h) ?_
            iterate 8 (refine plan_take (v := ?_) rfl (by kernel_rfl) ?_ ?_; rotate_left; (focus (intro w' hw'; go_simp; try with_reducible rfl)); simp only [Act.put, List.setIfInBounds_toArray, List.set_cons_zero, List.set_cons_succ])
            refine plan_turn rfl (by kernel_rfl) (fun K hK => ?_)
            go_simp
            refine hK _ _ ⟨save_drew (save_set ((later_save _).refl _)), ?_⟩
            refine plan_end ?_
            go_wp2
            refine bodyPost_ret (v := .tuple #[.agg #[.bool false, .bool false, .bool false, .bool false, .bool false, .bool false, .bool false, .bool false, .int .i64 0, .int .u64 0], .bool false]) (by simp [results, Try.results10, go_sem, hz0, hz1, hz2, hz3, hz4, hz5, hz6, hz7, hz8, hz9]) rfl ⟨?_, ?_⟩
            · rw [flagsV, flagsOK_no (by omega) HOK.out, if_neg (by decide)]
            · have hB := HB.out
              repeat (first | (with_reducible exact hB) | (with_reducible refine Below.drew ?_) | (with_reducible refine Below.setCell ?_ (by simp) _))
        · have hfl : flagAt s 7 = true := HF.out.trans hL
          have hok : okAt s 7 = true := by rw [HG.out, hfl]; rfl
          have HFL := Lib.hid hfl
          have HOK := Lib.hid hok
          clear hfl hok hz0 hz1 hz2 hz3 hz4 hz5 hz6 hz7 hz8 hz9 hzf
          go_wp2_with fail
          refine wp_region_plan_by (Save (W.heap.size + 1)) (later_save _) [(0, false), (1, false), (2, false), (3, false), (4, false), (5, false), (6, false), (7, false), (8, true)] (by kernel_rfl) (by kernel_rfl) (fun _ d _ _ _ h => by cases d <;> exact h) ?_
          iterate 8 (refine plan_take (v := ?_) rfl (by kernel_rfl) ?_ ?_; rotate_left; (focus (intro w' hw'; go_simp; try with_reducible rfl)); simp only [Act.put, List.setIfInBounds_toArray, List.set_cons_zero, List.set_cons_succ])
          refine plan_turn rfl (by kernel_rfl) (fun K hK => ?_)
          go_simp
          refine hK _ _ ⟨save_drew (save_set ((later_save _).refl _)), ?_⟩
          refine plan_end ?_
          go_wp2
          go_roundw
          case rel => exact flags_step (by omega) rfl HO.out HZ.out HP.out HB.out HFL.out HOK.out
          case measure => simp [intOf]
end Go.Proofs.Ytbmfklmlgbbcaaa
