/- Merged texts: PermE, PermH, WordC. -/
import Derived.Test.YtophcgbddccpeaaGreatSk13
import Derived.Test.YtophcgbddccpeaaGreatMem
/- Contract of perm.Flags. -/
namespace Go.Proofs.YtophcgbddccpeaaGreat
open Go.RowKit

section
variable {w w' : World} {g : Nat} {t : TypeId} {cs : Array Value}
theorem Blk.new (w : World) (t : TypeId) (cs : Array Value) : Blk (w.alloc (.cells cs t)) w.heap.size t cs := heap_alloc_new w _
theorem Blk.new_at {n : Nat} (w : World) (t : TypeId) (cs : Array Value) (hn : n = w.heap.size) : Blk (w.alloc (.cells cs t)) n t cs := by subst hn; exact heap_alloc_new w _
end

theorem flags_size (s : ByteArray) (W : World) (h : s.size ≠ 8) :
    Calls Tryz.prog 72 #[.string s] W fun e w' => e = .returned (.tuple #[.agg #[.bool false, .bool false, .bool false, .bool false, .bool false, .bool false, .bool false, .bool false, .int .i64 0, .int .u64 0], .bool false]) ∧ Below W.heap.size W w' := by
  have hn : ((s.size : Int) != 8) = true := by rw [bne_iff_ne]; omega
  clear h
  go_enter Tryz.func72, Tryz.ntmps72
  go_wp2
  exact bodyPost_ret (v := .tuple #[.agg #[.bool false, .bool false, .bool false, .bool false, .bool false, .bool false, .bool false, .bool false, .int .i64 0, .int .u64 0], .bool false]) (by simp [results, Tryz.results72, go_sem]) rfl ⟨rfl, by go_grown⟩

theorem ix8_0 (a0 a1 a2 a3 a4 a5 a6 a7 : Value) (W : World) : (Instr.index 170 (.agg #[a0, a1, a2, a3, a4, a5, a6, a7]) (.int .i64 0)).run Tryz.prog W = .ok a0 W := by
  simp [Instr.index, asIntOf, run_underlying Tryz.underlying170, part, isAgg, run_underlying Tryz.underlying169, go_sem]
theorem ix8_1 (a0 a1 a2 a3 a4 a5 a6 a7 : Value) (W : World) : (Instr.index 170 (.agg #[a0, a1, a2, a3, a4, a5, a6, a7]) (.int .i64 1)).run Tryz.prog W = .ok a1 W := by
  simp [Instr.index, asIntOf, run_underlying Tryz.underlying170, part, isAgg, run_underlying Tryz.underlying169, go_sem]
theorem ix8_2 (a0 a1 a2 a3 a4 a5 a6 a7 : Value) (W : World) : (Instr.index 170 (.agg #[a0, a1, a2, a3, a4, a5, a6, a7]) (.int .i64 2)).run Tryz.prog W = .ok a2 W := by
  simp [Instr.index, asIntOf, run_underlying Tryz.underlying170, part, isAgg, run_underlying Tryz.underlying169, go_sem]
theorem ix8_3 (a0 a1 a2 a3 a4 a5 a6 a7 : Value) (W : World) : (Instr.index 170 (.agg #[a0, a1, a2, a3, a4, a5, a6, a7]) (.int .i64 3)).run Tryz.prog W = .ok a3 W := by
  simp [Instr.index, asIntOf, run_underlying Tryz.underlying170, part, isAgg, run_underlying Tryz.underlying169, go_sem]
theorem ix8_4 (a0 a1 a2 a3 a4 a5 a6 a7 : Value) (W : World) : (Instr.index 170 (.agg #[a0, a1, a2, a3, a4, a5, a6, a7]) (.int .i64 4)).run Tryz.prog W = .ok a4 W := by
  simp [Instr.index, asIntOf, run_underlying Tryz.underlying170, part, isAgg, run_underlying Tryz.underlying169, go_sem]
theorem ix8_5 (a0 a1 a2 a3 a4 a5 a6 a7 : Value) (W : World) : (Instr.index 170 (.agg #[a0, a1, a2, a3, a4, a5, a6, a7]) (.int .i64 5)).run Tryz.prog W = .ok a5 W := by
  simp [Instr.index, asIntOf, run_underlying Tryz.underlying170, part, isAgg, run_underlying Tryz.underlying169, go_sem]
theorem ix8_6 (a0 a1 a2 a3 a4 a5 a6 a7 : Value) (W : World) : (Instr.index 170 (.agg #[a0, a1, a2, a3, a4, a5, a6, a7]) (.int .i64 6)).run Tryz.prog W = .ok a6 W := by
  simp [Instr.index, asIntOf, run_underlying Tryz.underlying170, part, isAgg, run_underlying Tryz.underlying169, go_sem]
theorem ix8_7 (a0 a1 a2 a3 a4 a5 a6 a7 : Value) (W : World) : (Instr.index 170 (.agg #[a0, a1, a2, a3, a4, a5, a6, a7]) (.int .i64 7)).run Tryz.prog W = .ok a7 W := by
  simp [Instr.index, asIntOf, run_underlying Tryz.underlying170, part, isAgg, run_underlying Tryz.underlying169, go_sem]

def letterAt : Nat → Nat
  | 0 => 118
  | 1 => 114
  | 2 => 119
  | 3 => 120
  | 4 => 117
  | 5 => 103
  | 6 => 97
  | 7 => 100
  | _ => 0
/-- Byte j of a text of eight. -/
def byteAt (s : ByteArray) (j : Nat) : Nat := (s.data.getD j 0).toNat
def flagAt (s : ByteArray) (j : Nat) : Bool := byteAt s j == letterAt j
def okAt (s : ByteArray) (j : Nat) : Bool := flagAt s j || byteAt s j == 45
def flagK (s : ByteArray) (k j : Nat) : Bool := decide (j < k) && flagAt s j
def pcells (s : ByteArray) (k : Nat) : Array Value := #[.bool (flagK s k 0), .bool (flagK s k 1), .bool (flagK s k 2), .bool (flagK s k 3), .bool (flagK s k 4), .bool (flagK s k 5), .bool (flagK s k 6), .bool (flagK s k 7), .int .i64 0, .int .u64 0]

def FlagsRel (s : ByteArray) (W : World) (i : Value) (wr : World) : Prop :=
  ∃ k : Nat, k ≤ 8 ∧ i = .int .i64 k ∧ (∀ j, j < k → okAt s j = true) ∧ Blk wr W.heap.size 96 #[.bool false, .bool false, .bool false, .bool false, .bool false, .bool false, .bool false, .bool false, .int .i64 0, .int .u64 0] ∧ Blk wr (W.heap.size + 1) 96 (pcells s k) ∧ Below W.heap.size W wr
theorem pcells_step (s : ByteArray) (k : Nat) (hk : k < 8) : (pcells s k).setIfInBounds k (.bool (flagAt s k)) = pcells s (k + 1) := by
  rcases (show k = 0 ∨ k = 1 ∨ k = 2 ∨ k = 3 ∨ k = 4 ∨ k = 5 ∨ k = 6 ∨ k = 7 by omega) with rfl | rfl | rfl | rfl | rfl | rfl | rfl | rfl <;> simp [pcells, flagK]
theorem flags_step {s : ByteArray} {W wr : World} {k : Nat} {n : Int} {c : Bool} (hk : k < 8) (hn : n = ((k + 1 : Nat) : Int)) (hok : ∀ j, j < k → okAt s j = true) (hz : Blk wr W.heap.size 96 #[.bool false, .bool false, .bool false, .bool false, .bool false, .bool false, .bool false, .bool false, .int .i64 0, .int .u64 0])
    (hp : Blk wr (W.heap.size + 1) 96 (pcells s k)) (hb : Below W.heap.size W wr) (hc : flagAt s k = c) (ho : okAt s k = true) :
    FlagsRel s W (.int .i64 n) (wr.setCell ⟨W.heap.size + 1, k, none⟩ (.bool c)).drew := by
  subst hn hc
  refine ⟨k + 1, by omega, rfl, fun j hj => ?_, ?_, ?_, ?_⟩
  · rcases Nat.lt_or_ge j k with h | h
    · exact hok j h
    · obtain rfl : j = k := by omega
      exact ho
  · exact (hz.far (by simp) _).drew
  · rw [← pcells_step s k hk]; exact (hp.set_ k _).drew
  · exact (hb.setCell (by simp) _).drew
theorem flagAt_eq (s : ByteArray) (k : Nat) (h : k < s.size) : flagAt s k = (((s[k]'h).toNat : Int) == (letterAt k : Int)) := by
  have e : byteAt s k = (s[k]'h).toNat := by
    have h' : k < s.data.size := h
    simp [byteAt, Array.getD, h', h]
    rfl
  unfold flagAt
  rw [e, Bool.eq_iff_iff]
  simp only [beq_iff_eq]
  omega
theorem okAt_eq (s : ByteArray) (k : Nat) (h : k < s.size) : okAt s k = (flagAt s k || !(((s[k]'h).toNat : Int) != 45)) := by
  have e : byteAt s k = (s[k]'h).toNat := by
    have h' : k < s.data.size := h
    simp [byteAt, Array.getD, h', h]
    rfl
  unfold okAt
  rw [e]
  congr 1
  rw [Bool.eq_iff_iff]
  simp
  omega

def flagsOK (s : ByteArray) : Bool := okAt s 0 && okAt s 1 && okAt s 2 && okAt s 3 && okAt s 4 && okAt s 5 && okAt s 6 && okAt s 7
theorem flagsOK_no {s : ByteArray} {k : Nat} (hk : k < 8) (h : okAt s k = false) : flagsOK s = false := by
  unfold flagsOK
  rcases (show k = 0 ∨ k = 1 ∨ k = 2 ∨ k = 3 ∨ k = 4 ∨ k = 5 ∨ k = 6 ∨ k = 7 by omega) with rfl | rfl | rfl | rfl | rfl | rfl | rfl | rfl <;> simp [h]
/-- What Flags answers of eight bytes. -/
def flagsV (s : ByteArray) : Value := if flagsOK s then .tuple #[.agg #[.bool (flagAt s 0), .bool (flagAt s 1), .bool (flagAt s 2), .bool (flagAt s 3), .bool (flagAt s 4), .bool (flagAt s 5), .bool (flagAt s 6), .bool (flagAt s 7), .int .i64 0, .int .u64 0], .bool true] else .tuple #[.agg #[.bool false, .bool false, .bool false, .bool false, .bool false, .bool false, .bool false, .bool false, .int .i64 0, .int .u64 0], .bool false]

set_option maxHeartbeats 16000000 in
theorem perm_flags_any (s : ByteArray) (W : World) (h : s.size = 8) :
    Calls Tryz.prog 72 #[.string s] W fun e w' => e = .returned (flagsV s) ∧ Below W.heap.size W w' := by
  go_enter Tryz.func72, Tryz.ntmps72
  go_wp2_with fail
  refine (places_any _ _).mono ?_
  rintro e w' ⟨rfl, rfl⟩
  go_wp2_with fail
  have H := Lib.hid h
  clear h
  go_loopw [12] (fun i wr => FlagsRel s W i wr) (fun i _ => 8 - (intOf i).toNat)
  case atStart =>
    refine ⟨0, by omega, rfl, fun j hj => by omega, ?_, ?_, by go_grown⟩
    · exact (((Blk.new _ _ _).alloc _).alloc _).drew
    · rw [show pcells s 0 = #[.bool false, .bool false, .bool false, .bool false, .bool false, .bool false, .bool false, .bool false, .int .i64 0, .int .u64 0] by simp [pcells, flagK]]
      exact ((Blk.new_at _ _ _ (by simp)).alloc _).drew
  case round =>
    obtain ⟨k, hk, rfl, hok, hz, hp, hb⟩ := hrel
    have hs := H.out
    have HZ := Lib.hid hz
    have HP := Lib.hid hp
    have HB := Lib.hid hb
    have HO := Lib.hid hok
    have hzf := fun j => hz.frozen j
    have hz0 : wr.cell? ⟨W.heap.size, 0, none⟩ = some (.bool false) := hz.cell 0
    have hz1 : wr.cell? ⟨W.heap.size, 1, none⟩ = some (.bool false) := hz.cell 1
    have hz2 : wr.cell? ⟨W.heap.size, 2, none⟩ = some (.bool false) := hz.cell 2
    have hz3 : wr.cell? ⟨W.heap.size, 3, none⟩ = some (.bool false) := hz.cell 3
    have hz4 : wr.cell? ⟨W.heap.size, 4, none⟩ = some (.bool false) := hz.cell 4
    have hz5 : wr.cell? ⟨W.heap.size, 5, none⟩ = some (.bool false) := hz.cell 5
    have hz6 : wr.cell? ⟨W.heap.size, 6, none⟩ = some (.bool false) := hz.cell 6
    have hz7 : wr.cell? ⟨W.heap.size, 7, none⟩ = some (.bool false) := hz.cell 7
    have hz8 : wr.cell? ⟨W.heap.size, 8, none⟩ = some (.int .i64 0) := hz.cell 8
    have hz9 : wr.cell? ⟨W.heap.size, 9, none⟩ = some (.int .u64 0) := hz.cell 9
    have hl := hp.lt
    clear hz hp hb hok
    rcases (show k = 8 ∨ k < 8 by omega) with rfl | hk8
    · clear hk
      have hp0 : wr.cell? ⟨W.heap.size + 1, 0, none⟩ = some (.bool (flagAt s 0)) := by rw [HP.out.cell 0]; simp [pcells, flagK]
      have hp1 : wr.cell? ⟨W.heap.size + 1, 1, none⟩ = some (.bool (flagAt s 1)) := by rw [HP.out.cell 1]; simp [pcells, flagK]
      have hp2 : wr.cell? ⟨W.heap.size + 1, 2, none⟩ = some (.bool (flagAt s 2)) := by rw [HP.out.cell 2]; simp [pcells, flagK]
      have hp3 : wr.cell? ⟨W.heap.size + 1, 3, none⟩ = some (.bool (flagAt s 3)) := by rw [HP.out.cell 3]; simp [pcells, flagK]
      have hp4 : wr.cell? ⟨W.heap.size + 1, 4, none⟩ = some (.bool (flagAt s 4)) := by rw [HP.out.cell 4]; simp [pcells, flagK]
      have hp5 : wr.cell? ⟨W.heap.size + 1, 5, none⟩ = some (.bool (flagAt s 5)) := by rw [HP.out.cell 5]; simp [pcells, flagK]
      have hp6 : wr.cell? ⟨W.heap.size + 1, 6, none⟩ = some (.bool (flagAt s 6)) := by rw [HP.out.cell 6]; simp [pcells, flagK]
      have hp7 : wr.cell? ⟨W.heap.size + 1, 7, none⟩ = some (.bool (flagAt s 7)) := by rw [HP.out.cell 7]; simp [pcells, flagK]
      have hp8 : wr.cell? ⟨W.heap.size + 1, 8, none⟩ = some (.int .i64 0) := by rw [HP.out.cell 8]; simp [pcells, flagK]
      have hp9 : wr.cell? ⟨W.heap.size + 1, 9, none⟩ = some (.int .u64 0) := by rw [HP.out.cell 9]; simp [pcells, flagK]
      go_wp2
      refine bodyPost_ret (v := .tuple #[.agg #[.bool (flagAt s 0), .bool (flagAt s 1), .bool (flagAt s 2), .bool (flagAt s 3), .bool (flagAt s 4), .bool (flagAt s 5), .bool (flagAt s 6), .bool (flagAt s 7), .int .i64 0, .int .u64 0], .bool true]) (by simp [results, Tryz.results72, go_sem, hz0, hz1, hz2, hz3, hz4, hz5, hz6, hz7, hz8, hz9]) rfl ⟨?_, ?_⟩
      · have ho := HO.out
        rw [flagsV, if_pos]
        simp [flagsOK, ho]
      · have hB := HB.out
        repeat (first | (with_reducible exact hB) | (with_reducible refine Below.drew ?_) | (with_reducible refine Below.setCell ?_ (by simp) _))
    · rcases (show k = 0 ∨ k = 1 ∨ k = 2 ∨ k = 3 ∨ k = 4 ∨ k = 5 ∨ k = 6 ∨ k = 7 by omega) with rfl | rfl | rfl | rfl | rfl | rfl | rfl | rfl
      · clear hk hk8
        have hc : wr.cell? ⟨W.heap.size + 1, 0, none⟩ = some (.bool (flagK s 0 0)) := HP.out.cell 0
        have hf : wr.frozen? ⟨W.heap.size + 1, 0, none⟩ = false := HP.out.frozen 0
        have ix : ∀ W' : World, (Instr.index 170 (.agg #[.pointer (some ⟨W.heap.size + 1, 0, none⟩), .pointer (some ⟨W.heap.size + 1, 1, none⟩), .pointer (some ⟨W.heap.size + 1, 2, none⟩), .pointer (some ⟨W.heap.size + 1, 3, none⟩), .pointer (some ⟨W.heap.size + 1, 4, none⟩), .pointer (some ⟨W.heap.size + 1, 5, none⟩), .pointer (some ⟨W.heap.size + 1, 6, none⟩), .pointer (some ⟨W.heap.size + 1, 7, none⟩)]) (.int .i64 0)).run Tryz.prog W' = .ok (.pointer (some ⟨W.heap.size + 1, 0, none⟩)) W' := fun _ => ix8_0 _ _ _ _ _ _ _ _ _
        have HF := Lib.hid (flagAt_eq s 0 (by omega))
        have HG := Lib.hid (okAt_eq s 0 (by omega))
        cases hL : (((s[0]'(by omega)).toNat : Int) == ((({ data := #[118, 114, 119, 120, 117, 103, 97, 100] } : ByteArray)[0]'(by decide)).toNat : Int))
        · cases hM : (((s[0]'(by omega)).toNat : Int) != 45)
          · have hfl : flagAt s 0 = false := HF.out.trans hL
            have hok : okAt s 0 = true := by rw [HG.out, hfl, hM]; rfl
            have HFL := Lib.hid hfl
            have HOK := Lib.hid hok
            clear hfl hok hz0 hz1 hz2 hz3 hz4 hz5 hz6 hz7 hz8 hz9 hzf
            go_wp2_with fail
            refine wp_region_plan_by (Save (W.heap.size + 1)) (later_save _) [(0, false), (1, false), (2, false), (3, false), (4, false), (5, false), (6, false), (7, false), (8, true)] (by kernel_rfl) (by kernel_rfl) (fun _ d _ _ _ h => by cases d <;> exact h) ?_
            iterate 8 (refine plan_take (v := ?_) rfl (by kernel_rfl) ?_ ?_; rotate_left; (focus (intro w' hw'; try go_simp; try with_reducible rfl)); simp only [Act.put, List.setIfInBounds_toArray, List.set_cons_zero, List.set_cons_succ])
            refine plan_turn rfl (by kernel_rfl) (fun K hK => ?_)
            go_simp
            refine hK _ _ ⟨save_drew (save_set ((later_save _).refl _)), ?_⟩
            refine plan_end ?_
            go_wp2
            go_roundw
            case rel => exact flags_step (by omega) rfl HO.out HZ.out HP.out HB.out HFL.out HOK.out
            case measure => simp [intOf]
          · have hfl : flagAt s 0 = false := HF.out.trans hL
            have hok : okAt s 0 = false := by rw [HG.out, hfl, hM]; rfl
            have HOK := Lib.hid hok
            clear hfl hok
            go_wp2_with fail
            refine wp_region_plan_by (Save (W.heap.size + 1)) (later_save _) [(0, false), (1, false), (2, false), (3, false), (4, false), (5, false), (6, false), (7, false), (8, true)] (by kernel_rfl) (by kernel_rfl) (fun _ d _ _ _ h => by cases d <;> exact h) ?_
            iterate 8 (refine plan_take (v := ?_) rfl (by kernel_rfl) ?_ ?_; rotate_left; (focus (intro w' hw'; try go_simp; try with_reducible rfl)); simp only [Act.put, List.setIfInBounds_toArray, List.set_cons_zero, List.set_cons_succ])
            refine plan_turn rfl (by kernel_rfl) (fun K hK => ?_)
            go_simp
            refine hK _ _ ⟨save_drew (save_set ((later_save _).refl _)), ?_⟩
            refine plan_end ?_
            go_wp2
            refine bodyPost_ret (v := .tuple #[.agg #[.bool false, .bool false, .bool false, .bool false, .bool false, .bool false, .bool false, .bool false, .int .i64 0, .int .u64 0], .bool false]) (by simp [results, Tryz.results72, go_sem, hz0, hz1, hz2, hz3, hz4, hz5, hz6, hz7, hz8, hz9]) rfl ⟨?_, ?_⟩
            · rw [flagsV, flagsOK_no (by omega) HOK.out, if_neg (by decide)]
            · have hB := HB.out
              repeat (first | (with_reducible exact hB) | (with_reducible refine Below.drew ?_) | (with_reducible refine Below.setCell ?_ (by simp) _))
        · have hfl : flagAt s 0 = true := HF.out.trans hL
          have hok : okAt s 0 = true := by rw [HG.out, hfl]; rfl
          have HFL := Lib.hid hfl
          have HOK := Lib.hid hok
          clear hfl hok hz0 hz1 hz2 hz3 hz4 hz5 hz6 hz7 hz8 hz9 hzf
          go_wp2_with fail
          refine wp_region_plan_by (Save (W.heap.size + 1)) (later_save _) [(0, false), (1, false), (2, false), (3, false), (4, false), (5, false), (6, false), (7, false), (8, true)] (by kernel_rfl) (by kernel_rfl) (fun _ d _ _ _ h => by cases d <;> exact h) ?_
          iterate 8 (refine plan_take (v := ?_) rfl (by kernel_rfl) ?_ ?_; rotate_left; (focus (intro w' hw'; try go_simp; try with_reducible rfl)); simp only [Act.put, List.setIfInBounds_toArray, List.set_cons_zero, List.set_cons_succ])
          refine plan_turn rfl (by kernel_rfl) (fun K hK => ?_)
          go_simp
          refine hK _ _ ⟨save_drew (save_set ((later_save _).refl _)), ?_⟩
          refine plan_end ?_
          go_wp2
          go_roundw
          case rel => exact flags_step (by omega) rfl HO.out HZ.out HP.out HB.out HFL.out HOK.out
          case measure => simp [intOf]
      · clear hk hk8
        have hc : wr.cell? ⟨W.heap.size + 1, 1, none⟩ = some (.bool (flagK s 1 1)) := HP.out.cell 1
        have hf : wr.frozen? ⟨W.heap.size + 1, 1, none⟩ = false := HP.out.frozen 1
        have ix : ∀ W' : World, (Instr.index 170 (.agg #[.pointer (some ⟨W.heap.size + 1, 0, none⟩), .pointer (some ⟨W.heap.size + 1, 1, none⟩), .pointer (some ⟨W.heap.size + 1, 2, none⟩), .pointer (some ⟨W.heap.size + 1, 3, none⟩), .pointer (some ⟨W.heap.size + 1, 4, none⟩), .pointer (some ⟨W.heap.size + 1, 5, none⟩), .pointer (some ⟨W.heap.size + 1, 6, none⟩), .pointer (some ⟨W.heap.size + 1, 7, none⟩)]) (.int .i64 1)).run Tryz.prog W' = .ok (.pointer (some ⟨W.heap.size + 1, 1, none⟩)) W' := fun _ => ix8_1 _ _ _ _ _ _ _ _ _
        have HF := Lib.hid (flagAt_eq s 1 (by omega))
        have HG := Lib.hid (okAt_eq s 1 (by omega))
        cases hL : (((s[1]'(by omega)).toNat : Int) == ((({ data := #[118, 114, 119, 120, 117, 103, 97, 100] } : ByteArray)[1]'(by decide)).toNat : Int))
        · cases hM : (((s[1]'(by omega)).toNat : Int) != 45)
          · have hfl : flagAt s 1 = false := HF.out.trans hL
            have hok : okAt s 1 = true := by rw [HG.out, hfl, hM]; rfl
            have HFL := Lib.hid hfl
            have HOK := Lib.hid hok
            clear hfl hok hz0 hz1 hz2 hz3 hz4 hz5 hz6 hz7 hz8 hz9 hzf
            go_wp2_with fail
            refine wp_region_plan_by (Save (W.heap.size + 1)) (later_save _) [(0, false), (1, false), (2, false), (3, false), (4, false), (5, false), (6, false), (7, false), (8, true)] (by kernel_rfl) (by kernel_rfl) (fun _ d _ _ _ h => by cases d <;> exact h) ?_
            iterate 8 (refine plan_take (v := ?_) rfl (by kernel_rfl) ?_ ?_; rotate_left; (focus (intro w' hw'; try go_simp; try with_reducible rfl)); simp only [Act.put, List.setIfInBounds_toArray, List.set_cons_zero, List.set_cons_succ])
            refine plan_turn rfl (by kernel_rfl) (fun K hK => ?_)
            go_simp
            refine hK _ _ ⟨save_drew (save_set ((later_save _).refl _)), ?_⟩
            refine plan_end ?_
            go_wp2
            go_roundw
            case rel => exact flags_step (by omega) rfl HO.out HZ.out HP.out HB.out HFL.out HOK.out
            case measure => simp [intOf]
          · have hfl : flagAt s 1 = false := HF.out.trans hL
            have hok : okAt s 1 = false := by rw [HG.out, hfl, hM]; rfl
            have HOK := Lib.hid hok
            clear hfl hok
            go_wp2_with fail
            refine wp_region_plan_by (Save (W.heap.size + 1)) (later_save _) [(0, false), (1, false), (2, false), (3, false), (4, false), (5, false), (6, false), (7, false), (8, true)] (by kernel_rfl) (by kernel_rfl) (fun _ d _ _ _ h => by cases d <;> exact h) ?_
            iterate 8 (refine plan_take (v := ?_) rfl (by kernel_rfl) ?_ ?_; rotate_left; (focus (intro w' hw'; try go_simp; try with_reducible rfl)); simp only [Act.put, List.setIfInBounds_toArray, List.set_cons_zero, List.set_cons_succ])
            refine plan_turn rfl (by kernel_rfl) (fun K hK => ?_)
            go_simp
            refine hK _ _ ⟨save_drew (save_set ((later_save _).refl _)), ?_⟩
            refine plan_end ?_
            go_wp2
            refine bodyPost_ret (v := .tuple #[.agg #[.bool false, .bool false, .bool false, .bool false, .bool false, .bool false, .bool false, .bool false, .int .i64 0, .int .u64 0], .bool false]) (by simp [results, Tryz.results72, go_sem, hz0, hz1, hz2, hz3, hz4, hz5, hz6, hz7, hz8, hz9]) rfl ⟨?_, ?_⟩
            · rw [flagsV, flagsOK_no (by omega) HOK.out, if_neg (by decide)]
            · have hB := HB.out
              repeat (first | (with_reducible exact hB) | (with_reducible refine Below.drew ?_) | (with_reducible refine Below.setCell ?_ (by simp) _))
        · have hfl : flagAt s 1 = true := HF.out.trans hL
          have hok : okAt s 1 = true := by rw [HG.out, hfl]; rfl
          have HFL := Lib.hid hfl
          have HOK := Lib.hid hok
          clear hfl hok hz0 hz1 hz2 hz3 hz4 hz5 hz6 hz7 hz8 hz9 hzf
          go_wp2_with fail
          refine wp_region_plan_by (Save (W.heap.size + 1)) (later_save _) [(0, false), (1, false), (2, false), (3, false), (4, false), (5, false), (6, false), (7, false), (8, true)] (by kernel_rfl) (by kernel_rfl) (fun _ d _ _ _ h => by cases d <;> exact h) ?_
          iterate 8 (refine plan_take (v := ?_) rfl (by kernel_rfl) ?_ ?_; rotate_left; (focus (intro w' hw'; try go_simp; try with_reducible rfl)); simp only [Act.put, List.setIfInBounds_toArray, List.set_cons_zero, List.set_cons_succ])
          refine plan_turn rfl (by kernel_rfl) (fun K hK => ?_)
          go_simp
          refine hK _ _ ⟨save_drew (save_set ((later_save _).refl _)), ?_⟩
          refine plan_end ?_
          go_wp2
          go_roundw
          case rel => exact flags_step (by omega) rfl HO.out HZ.out HP.out HB.out HFL.out HOK.out
          case measure => simp [intOf]
      · clear hk hk8
        have hc : wr.cell? ⟨W.heap.size + 1, 2, none⟩ = some (.bool (flagK s 2 2)) := HP.out.cell 2
        have hf : wr.frozen? ⟨W.heap.size + 1, 2, none⟩ = false := HP.out.frozen 2
        have ix : ∀ W' : World, (Instr.index 170 (.agg #[.pointer (some ⟨W.heap.size + 1, 0, none⟩), .pointer (some ⟨W.heap.size + 1, 1, none⟩), .pointer (some ⟨W.heap.size + 1, 2, none⟩), .pointer (some ⟨W.heap.size + 1, 3, none⟩), .pointer (some ⟨W.heap.size + 1, 4, none⟩), .pointer (some ⟨W.heap.size + 1, 5, none⟩), .pointer (some ⟨W.heap.size + 1, 6, none⟩), .pointer (some ⟨W.heap.size + 1, 7, none⟩)]) (.int .i64 2)).run Tryz.prog W' = .ok (.pointer (some ⟨W.heap.size + 1, 2, none⟩)) W' := fun _ => ix8_2 _ _ _ _ _ _ _ _ _
        have HF := Lib.hid (flagAt_eq s 2 (by omega))
        have HG := Lib.hid (okAt_eq s 2 (by omega))
        cases hL : (((s[2]'(by omega)).toNat : Int) == ((({ data := #[118, 114, 119, 120, 117, 103, 97, 100] } : ByteArray)[2]'(by decide)).toNat : Int))
        · cases hM : (((s[2]'(by omega)).toNat : Int) != 45)
          · have hfl : flagAt s 2 = false := HF.out.trans hL
            have hok : okAt s 2 = true := by rw [HG.out, hfl, hM]; rfl
            have HFL := Lib.hid hfl
            have HOK := Lib.hid hok
            clear hfl hok hz0 hz1 hz2 hz3 hz4 hz5 hz6 hz7 hz8 hz9 hzf
            go_wp2_with fail
            refine wp_region_plan_by (Save (W.heap.size + 1)) (later_save _) [(0, false), (1, false), (2, false), (3, false), (4, false), (5, false), (6, false), (7, false), (8, true)] (by kernel_rfl) (by kernel_rfl) (fun _ d _ _ _ h => by cases d <;> exact h) ?_
            iterate 8 (refine plan_take (v := ?_) rfl (by kernel_rfl) ?_ ?_; rotate_left; (focus (intro w' hw'; try go_simp; try with_reducible rfl)); simp only [Act.put, List.setIfInBounds_toArray, List.set_cons_zero, List.set_cons_succ])
            refine plan_turn rfl (by kernel_rfl) (fun K hK => ?_)
            go_simp
            refine hK _ _ ⟨save_drew (save_set ((later_save _).refl _)), ?_⟩
            refine plan_end ?_
            go_wp2
            go_roundw
            case rel => exact flags_step (by omega) rfl HO.out HZ.out HP.out HB.out HFL.out HOK.out
            case measure => simp [intOf]
          · have hfl : flagAt s 2 = false := HF.out.trans hL
            have hok : okAt s 2 = false := by rw [HG.out, hfl, hM]; rfl
            have HOK := Lib.hid hok
            clear hfl hok
            go_wp2_with fail
            refine wp_region_plan_by (Save (W.heap.size + 1)) (later_save _) [(0, false), (1, false), (2, false), (3, false), (4, false), (5, false), (6, false), (7, false), (8, true)] (by kernel_rfl) (by kernel_rfl) (fun _ d _ _ _ h => by cases d <;> exact h) ?_
            iterate 8 (refine plan_take (v := ?_) rfl (by kernel_rfl) ?_ ?_; rotate_left; (focus (intro w' hw'; try go_simp; try with_reducible rfl)); simp only [Act.put, List.setIfInBounds_toArray, List.set_cons_zero, List.set_cons_succ])
            refine plan_turn rfl (by kernel_rfl) (fun K hK => ?_)
            go_simp
            refine hK _ _ ⟨save_drew (save_set ((later_save _).refl _)), ?_⟩
            refine plan_end ?_
            go_wp2
            refine bodyPost_ret (v := .tuple #[.agg #[.bool false, .bool false, .bool false, .bool false, .bool false, .bool false, .bool false, .bool false, .int .i64 0, .int .u64 0], .bool false]) (by simp [results, Tryz.results72, go_sem, hz0, hz1, hz2, hz3, hz4, hz5, hz6, hz7, hz8, hz9]) rfl ⟨?_, ?_⟩
            · rw [flagsV, flagsOK_no (by omega) HOK.out, if_neg (by decide)]
            · have hB := HB.out
              repeat (first | (with_reducible exact hB) | (with_reducible refine Below.drew ?_) | (with_reducible refine Below.setCell ?_ (by simp) _))
        · have hfl : flagAt s 2 = true := HF.out.trans hL
          have hok : okAt s 2 = true := by rw [HG.out, hfl]; rfl
          have HFL := Lib.hid hfl
          have HOK := Lib.hid hok
          clear hfl hok hz0 hz1 hz2 hz3 hz4 hz5 hz6 hz7 hz8 hz9 hzf
          go_wp2_with fail
          refine wp_region_plan_by (Save (W.heap.size + 1)) (later_save _) [(0, false), (1, false), (2, false), (3, false), (4, false), (5, false), (6, false), (7, false), (8, true)] (by kernel_rfl) (by kernel_rfl) (fun _ d _ _ _ h => by cases d <;> exact h) ?_
          iterate 8 (refine plan_take (v := ?_) rfl (by kernel_rfl) ?_ ?_; rotate_left; (focus (intro w' hw'; try go_simp; try with_reducible rfl)); simp only [Act.put, List.setIfInBounds_toArray, List.set_cons_zero, List.set_cons_succ])
          refine plan_turn rfl (by kernel_rfl) (fun K hK => ?_)
          go_simp
          refine hK _ _ ⟨save_drew (save_set ((later_save _).refl _)), ?_⟩
          refine plan_end ?_
          go_wp2
          go_roundw
          case rel => exact flags_step (by omega) rfl HO.out HZ.out HP.out HB.out HFL.out HOK.out
          case measure => simp [intOf]
      · clear hk hk8
        have hc : wr.cell? ⟨W.heap.size + 1, 3, none⟩ = some (.bool (flagK s 3 3)) := HP.out.cell 3
        have hf : wr.frozen? ⟨W.heap.size + 1, 3, none⟩ = false := HP.out.frozen 3
        have ix : ∀ W' : World, (Instr.index 170 (.agg #[.pointer (some ⟨W.heap.size + 1, 0, none⟩), .pointer (some ⟨W.heap.size + 1, 1, none⟩), .pointer (some ⟨W.heap.size + 1, 2, none⟩), .pointer (some ⟨W.heap.size + 1, 3, none⟩), .pointer (some ⟨W.heap.size + 1, 4, none⟩), .pointer (some ⟨W.heap.size + 1, 5, none⟩), .pointer (some ⟨W.heap.size + 1, 6, none⟩), .pointer (some ⟨W.heap.size + 1, 7, none⟩)]) (.int .i64 3)).run Tryz.prog W' = .ok (.pointer (some ⟨W.heap.size + 1, 3, none⟩)) W' := fun _ => ix8_3 _ _ _ _ _ _ _ _ _
        have HF := Lib.hid (flagAt_eq s 3 (by omega))
        have HG := Lib.hid (okAt_eq s 3 (by omega))
        cases hL : (((s[3]'(by omega)).toNat : Int) == ((({ data := #[118, 114, 119, 120, 117, 103, 97, 100] } : ByteArray)[3]'(by decide)).toNat : Int))
        · cases hM : (((s[3]'(by omega)).toNat : Int) != 45)
          · have hfl : flagAt s 3 = false := HF.out.trans hL
            have hok : okAt s 3 = true := by rw [HG.out, hfl, hM]; rfl
            have HFL := Lib.hid hfl
            have HOK := Lib.hid hok
            clear hfl hok hz0 hz1 hz2 hz3 hz4 hz5 hz6 hz7 hz8 hz9 hzf
            go_wp2_with fail
            refine wp_region_plan_by (Save (W.heap.size + 1)) (later_save _) [(0, false), (1, false), (2, false), (3, false), (4, false), (5, false), (6, false), (7, false), (8, true)] (by kernel_rfl) (by kernel_rfl) (fun _ d _ _ _ h => by cases d <;> exact h) ?_
            iterate 8 (refine plan_take (v := ?_) rfl (by kernel_rfl) ?_ ?_; rotate_left; (focus (intro w' hw'; try go_simp; try with_reducible rfl)); simp only [Act.put, List.setIfInBounds_toArray, List.set_cons_zero, List.set_cons_succ])
            refine plan_turn rfl (by kernel_rfl) (fun K hK => ?_)
            go_simp
            refine hK _ _ ⟨save_drew (save_set ((later_save _).refl _)), ?_⟩
            refine plan_end ?_
            go_wp2
            go_roundw
            case rel => exact flags_step (by omega) rfl HO.out HZ.out HP.out HB.out HFL.out HOK.out
            case measure => simp [intOf]
          · have hfl : flagAt s 3 = false := HF.out.trans hL
            have hok : okAt s 3 = false := by rw [HG.out, hfl, hM]; rfl
            have HOK := Lib.hid hok
            clear hfl hok
            go_wp2_with fail
            refine wp_region_plan_by (Save (W.heap.size + 1)) (later_save _) [(0, false), (1, false), (2, false), (3, false), (4, false), (5, false), (6, false), (7, false), (8, true)] (by kernel_rfl) (by kernel_rfl) (fun _ d _ _ _ h => by cases d <;> exact h) ?_
            iterate 8 (refine plan_take (v := ?_) rfl (by kernel_rfl) ?_ ?_; rotate_left; (focus (intro w' hw'; try go_simp; try with_reducible rfl)); simp only [Act.put, List.setIfInBounds_toArray, List.set_cons_zero, List.set_cons_succ])
            refine plan_turn rfl (by kernel_rfl) (fun K hK => ?_)
            go_simp
            refine hK _ _ ⟨save_drew (save_set ((later_save _).refl _)), ?_⟩
            refine plan_end ?_
            go_wp2
            refine bodyPost_ret (v := .tuple #[.agg #[.bool false, .bool false, .bool false, .bool false, .bool false, .bool false, .bool false, .bool false, .int .i64 0, .int .u64 0], .bool false]) (by simp [results, Tryz.results72, go_sem, hz0, hz1, hz2, hz3, hz4, hz5, hz6, hz7, hz8, hz9]) rfl ⟨?_, ?_⟩
            · rw [flagsV, flagsOK_no (by omega) HOK.out, if_neg (by decide)]
            · have hB := HB.out
              repeat (first | (with_reducible exact hB) | (with_reducible refine Below.drew ?_) | (with_reducible refine Below.setCell ?_ (by simp) _))
        · have hfl : flagAt s 3 = true := HF.out.trans hL
          have hok : okAt s 3 = true := by rw [HG.out, hfl]; rfl
          have HFL := Lib.hid hfl
          have HOK := Lib.hid hok
          clear hfl hok hz0 hz1 hz2 hz3 hz4 hz5 hz6 hz7 hz8 hz9 hzf
          go_wp2_with fail
          refine wp_region_plan_by (Save (W.heap.size + 1)) (later_save _) [(0, false), (1, false), (2, false), (3, false), (4, false), (5, false), (6, false), (7, false), (8, true)] (by kernel_rfl) (by kernel_rfl) (fun _ d _ _ _ h => by cases d <;> exact h) ?_
          iterate 8 (refine plan_take (v := ?_) rfl (by kernel_rfl) ?_ ?_; rotate_left; (focus (intro w' hw'; try go_simp; try with_reducible rfl)); simp only [Act.put, List.setIfInBounds_toArray, List.set_cons_zero, List.set_cons_succ])
          refine plan_turn rfl (by kernel_rfl) (fun K hK => ?_)
          go_simp
          refine hK _ _ ⟨save_drew (save_set ((later_save _).refl _)), ?_⟩
          refine plan_end ?_
          go_wp2
          go_roundw
          case rel => exact flags_step (by omega) rfl HO.out HZ.out HP.out HB.out HFL.out HOK.out
          case measure => simp [intOf]
      · clear hk hk8
        have hc : wr.cell? ⟨W.heap.size + 1, 4, none⟩ = some (.bool (flagK s 4 4)) := HP.out.cell 4
        have hf : wr.frozen? ⟨W.heap.size + 1, 4, none⟩ = false := HP.out.frozen 4
        have ix : ∀ W' : World, (Instr.index 170 (.agg #[.pointer (some ⟨W.heap.size + 1, 0, none⟩), .pointer (some ⟨W.heap.size + 1, 1, none⟩), .pointer (some ⟨W.heap.size + 1, 2, none⟩), .pointer (some ⟨W.heap.size + 1, 3, none⟩), .pointer (some ⟨W.heap.size + 1, 4, none⟩), .pointer (some ⟨W.heap.size + 1, 5, none⟩), .pointer (some ⟨W.heap.size + 1, 6, none⟩), .pointer (some ⟨W.heap.size + 1, 7, none⟩)]) (.int .i64 4)).run Tryz.prog W' = .ok (.pointer (some ⟨W.heap.size + 1, 4, none⟩)) W' := fun _ => ix8_4 _ _ _ _ _ _ _ _ _
        have HF := Lib.hid (flagAt_eq s 4 (by omega))
        have HG := Lib.hid (okAt_eq s 4 (by omega))
        cases hL : (((s[4]'(by omega)).toNat : Int) == ((({ data := #[118, 114, 119, 120, 117, 103, 97, 100] } : ByteArray)[4]'(by decide)).toNat : Int))
        · cases hM : (((s[4]'(by omega)).toNat : Int) != 45)
          · have hfl : flagAt s 4 = false := HF.out.trans hL
            have hok : okAt s 4 = true := by rw [HG.out, hfl, hM]; rfl
            have HFL := Lib.hid hfl
            have HOK := Lib.hid hok
            clear hfl hok hz0 hz1 hz2 hz3 hz4 hz5 hz6 hz7 hz8 hz9 hzf
            go_wp2_with fail
            refine wp_region_plan_by (Save (W.heap.size + 1)) (later_save _) [(0, false), (1, false), (2, false), (3, false), (4, false), (5, false), (6, false), (7, false), (8, true)] (by kernel_rfl) (by kernel_rfl) (fun _ d _ _ _ h => by cases d <;> exact h) ?_
            iterate 8 (refine plan_take (v := ?_) rfl (by kernel_rfl) ?_ ?_; rotate_left; (focus (intro w' hw'; try go_simp; try with_reducible rfl)); simp only [Act.put, List.setIfInBounds_toArray, List.set_cons_zero, List.set_cons_succ])
            refine plan_turn rfl (by kernel_rfl) (fun K hK => ?_)
            go_simp
            refine hK _ _ ⟨save_drew (save_set ((later_save _).refl _)), ?_⟩
            refine plan_end ?_
            go_wp2
            go_roundw
            case rel => exact flags_step (by omega) rfl HO.out HZ.out HP.out HB.out HFL.out HOK.out
            case measure => simp [intOf]
          · have hfl : flagAt s 4 = false := HF.out.trans hL
            have hok : okAt s 4 = false := by rw [HG.out, hfl, hM]; rfl
            have HOK := Lib.hid hok
            clear hfl hok
            go_wp2_with fail
            refine wp_region_plan_by (Save (W.heap.size + 1)) (later_save _) [(0, false), (1, false), (2, false), (3, false), (4, false), (5, false), (6, false), (7, false), (8, true)] (by kernel_rfl) (by kernel_rfl) (fun _ d _ _ _ h => by cases d <;> exact h) ?_
            iterate 8 (refine plan_take (v := ?_) rfl (by kernel_rfl) ?_ ?_; rotate_left; (focus (intro w' hw'; try go_simp; try with_reducible rfl)); simp only [Act.put, List.setIfInBounds_toArray, List.set_cons_zero, List.set_cons_succ])
            refine plan_turn rfl (by kernel_rfl) (fun K hK => ?_)
            go_simp
            refine hK _ _ ⟨save_drew (save_set ((later_save _).refl _)), ?_⟩
            refine plan_end ?_
            go_wp2
            refine bodyPost_ret (v := .tuple #[.agg #[.bool false, .bool false, .bool false, .bool false, .bool false, .bool false, .bool false, .bool false, .int .i64 0, .int .u64 0], .bool false]) (by simp [results, Tryz.results72, go_sem, hz0, hz1, hz2, hz3, hz4, hz5, hz6, hz7, hz8, hz9]) rfl ⟨?_, ?_⟩
            · rw [flagsV, flagsOK_no (by omega) HOK.out, if_neg (by decide)]
            · have hB := HB.out
              repeat (first | (with_reducible exact hB) | (with_reducible refine Below.drew ?_) | (with_reducible refine Below.setCell ?_ (by simp) _))
        · have hfl : flagAt s 4 = true := HF.out.trans hL
          have hok : okAt s 4 = true := by rw [HG.out, hfl]; rfl
          have HFL := Lib.hid hfl
          have HOK := Lib.hid hok
          clear hfl hok hz0 hz1 hz2 hz3 hz4 hz5 hz6 hz7 hz8 hz9 hzf
          go_wp2_with fail
          refine wp_region_plan_by (Save (W.heap.size + 1)) (later_save _) [(0, false), (1, false), (2, false), (3, false), (4, false), (5, false), (6, false), (7, false), (8, true)] (by kernel_rfl) (by kernel_rfl) (fun _ d _ _ _ h => by cases d <;> exact h) ?_
          iterate 8 (refine plan_take (v := ?_) rfl (by kernel_rfl) ?_ ?_; rotate_left; (focus (intro w' hw'; try go_simp; try with_reducible rfl)); simp only [Act.put, List.setIfInBounds_toArray, List.set_cons_zero, List.set_cons_succ])
          refine plan_turn rfl (by kernel_rfl) (fun K hK => ?_)
          go_simp
          refine hK _ _ ⟨save_drew (save_set ((later_save _).refl _)), ?_⟩
          refine plan_end ?_
          go_wp2
          go_roundw
          case rel => exact flags_step (by omega) rfl HO.out HZ.out HP.out HB.out HFL.out HOK.out
          case measure => simp [intOf]
      · clear hk hk8
        have hc : wr.cell? ⟨W.heap.size + 1, 5, none⟩ = some (.bool (flagK s 5 5)) := HP.out.cell 5
        have hf : wr.frozen? ⟨W.heap.size + 1, 5, none⟩ = false := HP.out.frozen 5
        have ix : ∀ W' : World, (Instr.index 170 (.agg #[.pointer (some ⟨W.heap.size + 1, 0, none⟩), .pointer (some ⟨W.heap.size + 1, 1, none⟩), .pointer (some ⟨W.heap.size + 1, 2, none⟩), .pointer (some ⟨W.heap.size + 1, 3, none⟩), .pointer (some ⟨W.heap.size + 1, 4, none⟩), .pointer (some ⟨W.heap.size + 1, 5, none⟩), .pointer (some ⟨W.heap.size + 1, 6, none⟩), .pointer (some ⟨W.heap.size + 1, 7, none⟩)]) (.int .i64 5)).run Tryz.prog W' = .ok (.pointer (some ⟨W.heap.size + 1, 5, none⟩)) W' := fun _ => ix8_5 _ _ _ _ _ _ _ _ _
        have HF := Lib.hid (flagAt_eq s 5 (by omega))
        have HG := Lib.hid (okAt_eq s 5 (by omega))
        cases hL : (((s[5]'(by omega)).toNat : Int) == ((({ data := #[118, 114, 119, 120, 117, 103, 97, 100] } : ByteArray)[5]'(by decide)).toNat : Int))
        · cases hM : (((s[5]'(by omega)).toNat : Int) != 45)
          · have hfl : flagAt s 5 = false := HF.out.trans hL
            have hok : okAt s 5 = true := by rw [HG.out, hfl, hM]; rfl
            have HFL := Lib.hid hfl
            have HOK := Lib.hid hok
            clear hfl hok hz0 hz1 hz2 hz3 hz4 hz5 hz6 hz7 hz8 hz9 hzf
            go_wp2_with fail
            refine wp_region_plan_by (Save (W.heap.size + 1)) (later_save _) [(0, false), (1, false), (2, false), (3, false), (4, false), (5, false), (6, false), (7, false), (8, true)] (by kernel_rfl) (by kernel_rfl) (fun _ d _ _ _ h => by cases d <;> exact h) ?_
            iterate 8 (refine plan_take (v := ?_) rfl (by kernel_rfl) ?_ ?_; rotate_left; (focus (intro w' hw'; try go_simp; try with_reducible rfl)); simp only [Act.put, List.setIfInBounds_toArray, List.set_cons_zero, List.set_cons_succ])
            refine plan_turn rfl (by kernel_rfl) (fun K hK => ?_)
            go_simp
            refine hK _ _ ⟨save_drew (save_set ((later_save _).refl _)), ?_⟩
            refine plan_end ?_
            go_wp2
            go_roundw
            case rel => exact flags_step (by omega) rfl HO.out HZ.out HP.out HB.out HFL.out HOK.out
            case measure => simp [intOf]
          · have hfl : flagAt s 5 = false := HF.out.trans hL
            have hok : okAt s 5 = false := by rw [HG.out, hfl, hM]; rfl
            have HOK := Lib.hid hok
            clear hfl hok
            go_wp2_with fail
            refine wp_region_plan_by (Save (W.heap.size + 1)) (later_save _) [(0, false), (1, false), (2, false), (3, false), (4, false), (5, false), (6, false), (7, false), (8, true)] (by kernel_rfl) (by kernel_rfl) (fun _ d _ _ _ h => by cases d <;> exact h) ?_
            iterate 8 (refine plan_take (v := ?_) rfl (by kernel_rfl) ?_ ?_; rotate_left; (focus (intro w' hw'; try go_simp; try with_reducible rfl)); simp only [Act.put, List.setIfInBounds_toArray, List.set_cons_zero, List.set_cons_succ])
            refine plan_turn rfl (by kernel_rfl) (fun K hK => ?_)
            go_simp
            refine hK _ _ ⟨save_drew (save_set ((later_save _).refl _)), ?_⟩
            refine plan_end ?_
            go_wp2
            refine bodyPost_ret (v := .tuple #[.agg #[.bool false, .bool false, .bool false, .bool false, .bool false, .bool false, .bool false, .bool false, .int .i64 0, .int .u64 0], .bool false]) (by simp [results, Tryz.results72, go_sem, hz0, hz1, hz2, hz3, hz4, hz5, hz6, hz7, hz8, hz9]) rfl ⟨?_, ?_⟩
            · rw [flagsV, flagsOK_no (by omega) HOK.out, if_neg (by decide)]
            · have hB := HB.out
              repeat (first | (with_reducible exact hB) | (with_reducible refine Below.drew ?_) | (with_reducible refine Below.setCell ?_ (by simp) _))
        · have hfl : flagAt s 5 = true := HF.out.trans hL
          have hok : okAt s 5 = true := by rw [HG.out, hfl]; rfl
          have HFL := Lib.hid hfl
          have HOK := Lib.hid hok
          clear hfl hok hz0 hz1 hz2 hz3 hz4 hz5 hz6 hz7 hz8 hz9 hzf
          go_wp2_with fail
          refine wp_region_plan_by (Save (W.heap.size + 1)) (later_save _) [(0, false), (1, false), (2, false), (3, false), (4, false), (5, false), (6, false), (7, false), (8, true)] (by kernel_rfl) (by kernel_rfl) (fun _ d _ _ _ h => by cases d <;> exact h) ?_
          iterate 8 (refine plan_take (v := ?_) rfl (by kernel_rfl) ?_ ?_; rotate_left; (focus (intro w' hw'; try go_simp; try with_reducible rfl)); simp only [Act.put, List.setIfInBounds_toArray, List.set_cons_zero, List.set_cons_succ])
          refine plan_turn rfl (by kernel_rfl) (fun K hK => ?_)
          go_simp
          refine hK _ _ ⟨save_drew (save_set ((later_save _).refl _)), ?_⟩
          refine plan_end ?_
          go_wp2
          go_roundw
          case rel => exact flags_step (by omega) rfl HO.out HZ.out HP.out HB.out HFL.out HOK.out
          case measure => simp [intOf]
      · clear hk hk8
        have hc : wr.cell? ⟨W.heap.size + 1, 6, none⟩ = some (.bool (flagK s 6 6)) := HP.out.cell 6
        have hf : wr.frozen? ⟨W.heap.size + 1, 6, none⟩ = false := HP.out.frozen 6
        have ix : ∀ W' : World, (Instr.index 170 (.agg #[.pointer (some ⟨W.heap.size + 1, 0, none⟩), .pointer (some ⟨W.heap.size + 1, 1, none⟩), .pointer (some ⟨W.heap.size + 1, 2, none⟩), .pointer (some ⟨W.heap.size + 1, 3, none⟩), .pointer (some ⟨W.heap.size + 1, 4, none⟩), .pointer (some ⟨W.heap.size + 1, 5, none⟩), .pointer (some ⟨W.heap.size + 1, 6, none⟩), .pointer (some ⟨W.heap.size + 1, 7, none⟩)]) (.int .i64 6)).run Tryz.prog W' = .ok (.pointer (some ⟨W.heap.size + 1, 6, none⟩)) W' := fun _ => ix8_6 _ _ _ _ _ _ _ _ _
        have HF := Lib.hid (flagAt_eq s 6 (by omega))
        have HG := Lib.hid (okAt_eq s 6 (by omega))
        cases hL : (((s[6]'(by omega)).toNat : Int) == ((({ data := #[118, 114, 119, 120, 117, 103, 97, 100] } : ByteArray)[6]'(by decide)).toNat : Int))
        · cases hM : (((s[6]'(by omega)).toNat : Int) != 45)
          · have hfl : flagAt s 6 = false := HF.out.trans hL
            have hok : okAt s 6 = true := by rw [HG.out, hfl, hM]; rfl
            have HFL := Lib.hid hfl
            have HOK := Lib.hid hok
            clear hfl hok hz0 hz1 hz2 hz3 hz4 hz5 hz6 hz7 hz8 hz9 hzf
            go_wp2_with fail
            refine wp_region_plan_by (Save (W.heap.size + 1)) (later_save _) [(0, false), (1, false), (2, false), (3, false), (4, false), (5, false), (6, false), (7, false), (8, true)] (by kernel_rfl) (by kernel_rfl) (fun _ d _ _ _ h => by cases d <;> exact h) ?_
            iterate 8 (refine plan_take (v := ?_) rfl (by kernel_rfl) ?_ ?_; rotate_left; (focus (intro w' hw'; try go_simp; try with_reducible rfl)); simp only [Act.put, List.setIfInBounds_toArray, List.set_cons_zero, List.set_cons_succ])
            refine plan_turn rfl (by kernel_rfl) (fun K hK => ?_)
            go_simp
            refine hK _ _ ⟨save_drew (save_set ((later_save _).refl _)), ?_⟩
            refine plan_end ?_
            go_wp2
            go_roundw
            case rel => exact flags_step (by omega) rfl HO.out HZ.out HP.out HB.out HFL.out HOK.out
            case measure => simp [intOf]
          · have hfl : flagAt s 6 = false := HF.out.trans hL
            have hok : okAt s 6 = false := by rw [HG.out, hfl, hM]; rfl
            have HOK := Lib.hid hok
            clear hfl hok
            go_wp2_with fail
            refine wp_region_plan_by (Save (W.heap.size + 1)) (later_save _) [(0, false), (1, false), (2, false), (3, false), (4, false), (5, false), (6, false), (7, false), (8, true)] (by kernel_rfl) (by kernel_rfl) (fun _ d _ _ _ h => by cases d <;> exact h) ?_
            iterate 8 (refine plan_take (v := ?_) rfl (by kernel_rfl) ?_ ?_; rotate_left; (focus (intro w' hw'; try go_simp; try with_reducible rfl)); simp only [Act.put, List.setIfInBounds_toArray, List.set_cons_zero, List.set_cons_succ])
            refine plan_turn rfl (by kernel_rfl) (fun K hK => ?_)
            go_simp
            refine hK _ _ ⟨save_drew (save_set ((later_save _).refl _)), ?_⟩
            refine plan_end ?_
            go_wp2
            refine bodyPost_ret (v := .tuple #[.agg #[.bool false, .bool false, .bool false, .bool false, .bool false, .bool false, .bool false, .bool false, .int .i64 0, .int .u64 0], .bool false]) (by simp [results, Tryz.results72, go_sem, hz0, hz1, hz2, hz3, hz4, hz5, hz6, hz7, hz8, hz9]) rfl ⟨?_, ?_⟩
            · rw [flagsV, flagsOK_no (by omega) HOK.out, if_neg (by decide)]
            · have hB := HB.out
              repeat (first | (with_reducible exact hB) | (with_reducible refine Below.drew ?_) | (with_reducible refine Below.setCell ?_ (by simp) _))
        · have hfl : flagAt s 6 = true := HF.out.trans hL
          have hok : okAt s 6 = true := by rw [HG.out, hfl]; rfl
          have HFL := Lib.hid hfl
          have HOK := Lib.hid hok
          clear hfl hok hz0 hz1 hz2 hz3 hz4 hz5 hz6 hz7 hz8 hz9 hzf
          go_wp2_with fail
          refine wp_region_plan_by (Save (W.heap.size + 1)) (later_save _) [(0, false), (1, false), (2, false), (3, false), (4, false), (5, false), (6, false), (7, false), (8, true)] (by kernel_rfl) (by kernel_rfl) (fun _ d _ _ _ h => by cases d <;> exact h) ?_
          iterate 8 (refine plan_take (v := ?_) rfl (by kernel_rfl) ?_ ?_; rotate_left; (focus (intro w' hw'; try go_simp; try with_reducible rfl)); simp only [Act.put, List.setIfInBounds_toArray, List.set_cons_zero, List.set_cons_succ])
          refine plan_turn rfl (by kernel_rfl) (fun K hK => ?_)
          go_simp
          refine hK _ _ ⟨save_drew (save_set ((later_save _).refl _)), ?_⟩
          refine plan_end ?_
          go_wp2
          go_roundw
          case rel => exact flags_step (by omega) rfl HO.out HZ.out HP.out HB.out HFL.out HOK.out
          case measure => simp [intOf]
      · clear hk hk8
        have hc : wr.cell? ⟨W.heap.size + 1, 7, none⟩ = some (.bool (flagK s 7 7)) := HP.out.cell 7
        have hf : wr.frozen? ⟨W.heap.size + 1, 7, none⟩ = false := HP.out.frozen 7
        have ix : ∀ W' : World, (Instr.index 170 (.agg #[.pointer (some ⟨W.heap.size + 1, 0, none⟩), .pointer (some ⟨W.heap.size + 1, 1, none⟩), .pointer (some ⟨W.heap.size + 1, 2, none⟩), .pointer (some ⟨W.heap.size + 1, 3, none⟩), .pointer (some ⟨W.heap.size + 1, 4, none⟩), .pointer (some ⟨W.heap.size + 1, 5, none⟩), .pointer (some ⟨W.heap.size + 1, 6, none⟩), .pointer (some ⟨W.heap.size + 1, 7, none⟩)]) (.int .i64 7)).run Tryz.prog W' = .ok (.pointer (some ⟨W.heap.size + 1, 7, none⟩)) W' := fun _ => ix8_7 _ _ _ _ _ _ _ _ _
        have HF := Lib.hid (flagAt_eq s 7 (by omega))
        have HG := Lib.hid (okAt_eq s 7 (by omega))
        cases hL : (((s[7]'(by omega)).toNat : Int) == ((({ data := #[118, 114, 119, 120, 117, 103, 97, 100] } : ByteArray)[7]'(by decide)).toNat : Int))
        · cases hM : (((s[7]'(by omega)).toNat : Int) != 45)
          · have hfl : flagAt s 7 = false := HF.out.trans hL
            have hok : okAt s 7 = true := by rw [HG.out, hfl, hM]; rfl
            have HFL := Lib.hid hfl
            have HOK := Lib.hid hok
            clear hfl hok hz0 hz1 hz2 hz3 hz4 hz5 hz6 hz7 hz8 hz9 hzf
            go_wp2_with fail
            refine wp_region_plan_by (Save (W.heap.size + 1)) (later_save _) [(0, false), (1, false), (2, false), (3, false), (4, false), (5, false), (6, false), (7, false), (8, true)] (by kernel_rfl) (by kernel_rfl) (fun _ d _ _ _ h => by cases d <;> exact h) ?_
            iterate 8 (refine plan_take (v := ?_) rfl (by kernel_rfl) ?_ ?_; rotate_left; (focus (intro w' hw'; try go_simp; try with_reducible rfl)); simp only [Act.put, List.setIfInBounds_toArray, List.set_cons_zero, List.set_cons_succ])
            refine plan_turn rfl (by kernel_rfl) (fun K hK => ?_)
            go_simp
            refine hK _ _ ⟨save_drew (save_set ((later_save _).refl _)), ?_⟩
            refine plan_end ?_
            go_wp2
            go_roundw
            case rel => exact flags_step (by omega) rfl HO.out HZ.out HP.out HB.out HFL.out HOK.out
            case measure => simp [intOf]
          · have hfl : flagAt s 7 = false := HF.out.trans hL
            have hok : okAt s 7 = false := by rw [HG.out, hfl, hM]; rfl
            have HOK := Lib.hid hok
            clear hfl hok
            go_wp2_with fail
            refine wp_region_plan_by (Save (W.heap.size + 1)) (later_save _) [(0, false), (1, false), (2, false), (3, false), (4, false), (5, false), (6, false), (7, false), (8, true)] (by kernel_rfl) (by kernel_rfl) (fun _ d _ _ _ h => by cases d <;> exact h) ?_
            iterate 8 (refine plan_take (v := ?_) rfl (by kernel_rfl) ?_ ?_; rotate_left; (focus (intro w' hw'; try go_simp; try with_reducible rfl)); simp only [Act.put, List.setIfInBounds_toArray, List.set_cons_zero, List.set_cons_succ])
            refine plan_turn rfl (by kernel_rfl) (fun K hK => ?_)
            go_simp
            refine hK _ _ ⟨save_drew (save_set ((later_save _).refl _)), ?_⟩
            refine plan_end ?_
            go_wp2
            refine bodyPost_ret (v := .tuple #[.agg #[.bool false, .bool false, .bool false, .bool false, .bool false, .bool false, .bool false, .bool false, .int .i64 0, .int .u64 0], .bool false]) (by simp [results, Tryz.results72, go_sem, hz0, hz1, hz2, hz3, hz4, hz5, hz6, hz7, hz8, hz9]) rfl ⟨?_, ?_⟩
            · rw [flagsV, flagsOK_no (by omega) HOK.out, if_neg (by decide)]
            · have hB := HB.out
              repeat (first | (with_reducible exact hB) | (with_reducible refine Below.drew ?_) | (with_reducible refine Below.setCell ?_ (by simp) _))
        · have hfl : flagAt s 7 = true := HF.out.trans hL
          have hok : okAt s 7 = true := by rw [HG.out, hfl]; rfl
          have HFL := Lib.hid hfl
          have HOK := Lib.hid hok
          clear hfl hok hz0 hz1 hz2 hz3 hz4 hz5 hz6 hz7 hz8 hz9 hzf
          go_wp2_with fail
          refine wp_region_plan_by (Save (W.heap.size + 1)) (later_save _) [(0, false), (1, false), (2, false), (3, false), (4, false), (5, false), (6, false), (7, false), (8, true)] (by kernel_rfl) (by kernel_rfl) (fun _ d _ _ _ h => by cases d <;> exact h) ?_
          iterate 8 (refine plan_take (v := ?_) rfl (by kernel_rfl) ?_ ?_; rotate_left; (focus (intro w' hw'; try go_simp; try with_reducible rfl)); simp only [Act.put, List.setIfInBounds_toArray, List.set_cons_zero, List.set_cons_succ])
          refine plan_turn rfl (by kernel_rfl) (fun K hK => ?_)
          go_simp
          refine hK _ _ ⟨save_drew (save_set ((later_save _).refl _)), ?_⟩
          refine plan_end ?_
          go_wp2
          go_roundw
          case rel => exact flags_step (by omega) rfl HO.out HZ.out HP.out HB.out HFL.out HOK.out
          case measure => simp [intOf]
end Go.Proofs.YtophcgbddccpeaaGreat

/- Contracts: causes; the laws' own first function. -/
namespace Go.Proofs.YtophcgbddccpeaaGreat
open Go.RowKit

def causeV (a l0 l1 l2 : Int) : Int := if a == 0 then l0 else if a == 1 then l1 else if a == 2 then l2 else -1
theorem known_any (a : Int) (b : Bool) (W : World) (h : b = decide (0 ≤ a ∧ a ≤ 2)) :
    Calls Tryz.prog 92 #[.int .i64 a] W fun e w' => e = .returned (.bool b) ∧ W = w' := by
  rcases (show (0 ≤ a ∧ a ≤ 2) ∨ a < 0 ∨ 2 < a by omega) with h1 | h1 | h1
  · have e : b = true := by rw [h]; simpa using h1
    subst e
    obtain ⟨h1, h2⟩ := h1
    clear h
    go_enter Tryz.func92, Tryz.ntmps92
    go_wp2
    go_ret
    exact ⟨rfl, rfl⟩
  · have e : b = false := by rw [h]; simp; omega
    subst e
    clear h
    have h2 : decide (0 ≤ a) = false := by simp; omega
    go_enter Tryz.func92, Tryz.ntmps92
    go_wp2
    go_ret
    exact ⟨rfl, rfl⟩
  · have e : b = false := by rw [h]; simp; omega
    subst e
    clear h
    have h2 : decide (a ≤ 2) = false := by simp; omega
    have h3 : 0 ≤ a := by omega
    go_enter Tryz.func92, Tryz.ntmps92
    go_wp2
    go_ret
    exact ⟨rfl, rfl⟩
theorem of_any (a l0 l1 l2 : Int) (W : World) :
    Calls Tryz.prog 76 #[.int .i64 a, .agg #[.int .i64 l0, .int .i64 l1, .int .i64 l2]] W fun e w' => e = .returned (.int .i64 (causeV a l0 l1 l2)) ∧ W.alloc (.cells #[.int .i64 l0, .int .i64 l1, .int .i64 l2] 155) = w' := by
  rcases (show a = 0 ∨ a = 1 ∨ a = 2 ∨ (a < 0 ∨ 2 < a) by omega) with rfl | rfl | rfl | h
  iterate 3
    go_enter Tryz.func76, Tryz.ntmps76
    go_wp2_with (go_at_call 92; refine (known_any _ true _ (by decide)).mono ?_; rintro e w' ⟨rfl, rfl⟩)
    go_ret
    exact ⟨rfl, rfl⟩
  · have e : causeV a l0 l1 l2 = -1 := by
      unfold causeV
      rw [if_neg (by simp; omega), if_neg (by simp; omega), if_neg (by simp; omega)]
    rw [e]
    clear e
    have H := Lib.hid h
    clear h
    go_enter Tryz.func76, Tryz.ntmps76
    go_wp2_with (go_at_call 92; refine (known_any _ false _ (by have h := H.out; simp; omega)).mono ?_; rintro e w' ⟨rfl, rfl⟩)
    go_ret
    exact ⟨rfl, rfl⟩
theorem page_any (a : Int) (W : World) :
    Calls Tryz.prog 54 #[.int .i64 a] W fun e w' => e = .returned (.int .i64 (causeV a 12 13 15)) ∧ W.alloc (.cells #[.int .i64 12, .int .i64 13, .int .i64 15] 155) = w' := by
  go_enter Tryz.func54, Tryz.ntmps54
  go_wp2_with (go_at_call 76; refine (of_any _ _ _ _ _).mono ?_; rintro e w' ⟨rfl, rfl⟩)
  go_ret
  exact ⟨rfl, rfl⟩
theorem bound_any (a : Int) (W : World) :
    Calls Tryz.prog 57 #[.int .i64 a] W fun e w' => e = .returned (.int .i64 (causeV a 1 5 7)) ∧ W.alloc (.cells #[.int .i64 1, .int .i64 5, .int .i64 7] 155) = w' := by
  go_enter Tryz.func57, Tryz.ntmps57
  go_wp2_with (go_at_call 76; refine (of_any _ _ _ _ _).mono ?_; rintro e w' ⟨rfl, rfl⟩)
  go_ret
  exact ⟨rfl, rfl⟩
theorem align_any (a : Int) (W : World) :
    Calls Tryz.prog 51 #[.int .i64 a] W fun e w' => e = .returned (.int .i64 (causeV a 0 4 6)) ∧ W.alloc (.cells #[.int .i64 0, .int .i64 4, .int .i64 6] 155) = w' := by
  go_enter Tryz.func51, Tryz.ntmps51
  go_wp2_with (go_at_call 76; refine (of_any _ _ _ _ _).mono ?_; rintro e w' ⟨rfl, rfl⟩)
  go_ret
  exact ⟨rfl, rfl⟩
theorem pte_cells {w : World} {g : Nat} {t : TypeId} {c0 c1 c2 c3 c4 c5 c6 c7 c8 c9 : Value} (h : Blk w g t #[c0, c1, c2, c3, c4, c5, c6, c7, c8, c9]) :
    w.cell? ⟨g, 0, none⟩ = some c0 ∧ w.cell? ⟨g, 1, none⟩ = some c1 ∧ w.cell? ⟨g, 2, none⟩ = some c2 ∧ w.cell? ⟨g, 3, none⟩ = some c3 ∧ w.cell? ⟨g, 4, none⟩ = some c4 ∧ w.cell? ⟨g, 5, none⟩ = some c5 ∧ w.cell? ⟨g, 6, none⟩ = some c6 ∧ w.cell? ⟨g, 7, none⟩ = some c7 ∧ w.cell? ⟨g, 8, none⟩ = some c8 ∧ w.cell? ⟨g, 9, none⟩ = some c9 :=
  ⟨h.cell 0, h.cell 1, h.cell 2, h.cell 3, h.cell 4, h.cell 5, h.cell 6, h.cell 7, h.cell 8, h.cell 9⟩
theorem mode_cells {w : World} {g : Nat} {t : TypeId} {c0 c1 c2 : Value} (h : Blk w g t #[c0, c1, c2]) :
    w.cell? ⟨g, 0, none⟩ = some c0 ∧ w.cell? ⟨g, 1, none⟩ = some c1 ∧ w.cell? ⟨g, 2, none⟩ = some c2 := ⟨h.cell 0, h.cell 1, h.cell 2⟩

theorem flags_first : flagsV ⟨#[118, 114, 45, 120, 117, 45, 97, 45]⟩ = .tuple #[.agg #[.bool true, .bool true, .bool false, .bool true, .bool true, .bool false, .bool true, .bool false, .int .i64 0, .int .u64 0], .bool true] := by kernel_rfl
theorem flags_first_size : (⟨#[118, 114, 45, 120, 117, 45, 97, 45]⟩ : ByteArray).size = 8 := rfl
end Go.Proofs.YtophcgbddccpeaaGreat

/- Contracts of the reference's Size and Get. -/
namespace Go.Proofs.YtophcgbddccpeaaGreat
open Go.RowKit

theorem rget_no (A : Option Addr) (n : Nat) (c : Nat) (a s : Int) (w : World) (hn : n ≤ 9223372036854775807) (ht : thereB n a s = false) :
    Calls Tryz.prog 14 #[.slice A n c, .int .i64 a, .int .i64 s] w fun e w' => e = .returned (.tuple #[.int .u64 0, .bool false]) ∧ Below w.heap.size w w' := by
  have hh : sizeB s = false ∨ (sizeB s = true ∧ (a < 0 ∨ (n : Int) < a ∨ (n : Int) - a < s)) := by
    rcases Bool.eq_false_or_eq_true (sizeB s) with h1 | h1
    · refine .inr ⟨h1, ?_⟩; simp [thereB, h1] at ht; omega
    · exact .inl h1
  clear ht
  rcases hh with h1 | ⟨h1, h2 | h2 | h2⟩
  all_goals
    have H := Lib.hid h1
    clear h1
    go_enter Tryz.func14, Tryz.ntmps14
    go_wp2_with (go_at_call 39; refine (rsize_any _ _).mono ?_; rintro e w1 ⟨rfl, hb⟩; rw [H.out])
    all_goals (go_ret2; exact ⟨rfl, hb⟩)
theorem rget_yes (A : Option Addr) (l : List Nat) (c : Nat) (a s : Int) (w : World) (hn : l.length ≤ 9223372036854775807) (hB : Bts w A l) (ht : thereB l.length a s = true) :
    Calls Tryz.prog 14 #[.slice A l.length c, .int .i64 a, .int .i64 s] w fun e w' => e = .returned (.tuple #[.int .u64 (getV l a s), .bool true]) ∧ Below w.heap.size w w' := by
  obtain ⟨h1, h2, h3, h4⟩ := there_of ht
  clear ht
  have H1 := Lib.hid h1
  have h5 := size_cases h1
  clear h1
  obtain ⟨p, rfl⟩ := Int.eq_ofNat_of_zero_le h2
  obtain ⟨q, rfl⟩ := Int.eq_ofNat_of_zero_le (show 0 ≤ s by omega)
  have hq : q ≤ 8 := by omega
  have hq1 : 1 ≤ q := by omega
  have hpq : p + q ≤ l.length := by omega
  clear h2 h3 h4 h5
  have HL := Lib.hid hB.1
  have HB := Lib.hid hB
  clear hB
  go_enter Tryz.func14, Tryz.ntmps14
  go_wp2_with (go_at_call 39; refine (rsize_any _ _).mono ?_; rintro e w1 ⟨rfl, hb⟩; rw [H1.out])
  have hB2 := bts_below HB.out hb
  obtain ⟨b, o, rfl, hc⟩ := hB2.2 (by omega)
  have HC := Lib.hid hc
  clear hc hB2
  go_loop [8, 9, 10] (fun v f i => ∃ j : Nat, j ≤ q ∧ i = .int .i64 j ∧ f = .int .u64 ((256 ^ j % 18446744073709551616 : Nat)) ∧ v = .int .u64 (leNat ((l.drop p).take j) : Nat)) (fun _ _ i => (q - (intOf i)).toNat)
  case atStart => exact ⟨0, by omega, rfl, rfl, by simp [leNat]⟩
  case round =>
    obtain ⟨j, hj, rfl, rfl, rfl⟩ := hrel
    by_cases h0 : j < q
    · have hcell := HC.out (p + j) (by omega)
      go_wp2
      exact ⟨⟨j + 1, by omega, by go_num, by rw [rget_round1], by rw [rget_round2 l p q j HL.out hq h0 hpq]⟩, by simp [intOf]; omega⟩
    · obtain rfl : j = q := by omega
      go_wp2
      go_ret2
      exact ⟨by simp [getV], hb⟩
end Go.Proofs.YtophcgbddccpeaaGreat
