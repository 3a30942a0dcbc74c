/- Contract of perm.Text. -/
import Derived.Test.YtbmfklmlgbbcaaaPermE
import Derived.Lib.SmallJoins
import Derived.Laws.BytesArg
namespace Go.Proofs.Ytbmfklmlgbbcaaa
open Go.RowKit

def Blkf (w : World) (g : Nat) (t : TypeId) (fr : Nat × Nat) (cs : Array Value) : Prop := w.heap[g]? = some (.cells cs t fr)
section
variable {w w' : World} {g : Nat} {t : TypeId} {cs : Array Value} {fr : Nat × Nat}
theorem Blkf.lt (h : Blkf w g t fr cs) : g < w.heap.size := by
  rcases Nat.lt_or_ge g w.heap.size with hlt | hge
  · exact hlt
  · unfold Blkf at h; rw [Array.getElem?_eq_none hge] at h; cases h
theorem Blkf.cell (h : Blkf w g t fr cs) (i : Nat) : w.cell? ⟨g, i, none⟩ = cs[i]? := cell_of_row w g i cs t fr h
theorem Blkf.frozen {lo hi : Nat} (h : Blkf w g t (lo, hi) cs) (i : Nat) : w.frozen? ⟨g, i, none⟩ = (decide (lo ≤ i) && decide (i < hi)) := by
  unfold Blkf at h
  simp [World.frozen?, h]
theorem Blkf.new_at {n : Nat} (w : World) (t : TypeId) (fr : Nat × Nat) (cs : Array Value) (hn : n = w.heap.size) : Blkf (w.alloc (.cells cs t fr)) n t fr cs := by subst hn; exact heap_alloc_new w _
theorem Blkf.drew (h : Blkf w g t fr cs) : Blkf w.drew g t fr cs := h
theorem Blkf.alloc (h : Blkf w g t fr cs) (o : Obj) : Blkf (w.alloc o) g t fr cs := (Below.heap_alloc w o g h.lt).trans h
theorem Blkf.set_ (h : Blkf w g t fr cs) (i : Nat) (u : Value) : Blkf (w.setCell ⟨g, i, none⟩ u) g t fr (cs.setIfInBounds i u) := by
  unfold Blkf at h ⊢
  simp [World.setCell, Array.getElem?_modify, h]
end

/-- The sign that stands for a flag. -/
def chN (b : Bool) (c : Nat) : Nat := if b then c else 45
def tcells (f : Nat → Bool) (k : Nat) : Array Value := #[.int .u8 ((if 0 < k then chN (f 0) 118 else 118 : Nat) : Int), .int .u8 ((if 1 < k then chN (f 1) 114 else 114 : Nat) : Int), .int .u8 ((if 2 < k then chN (f 2) 119 else 119 : Nat) : Int), .int .u8 ((if 3 < k then chN (f 3) 120 else 120 : Nat) : Int), .int .u8 ((if 4 < k then chN (f 4) 117 else 117 : Nat) : Int), .int .u8 ((if 5 < k then chN (f 5) 103 else 103 : Nat) : Int), .int .u8 ((if 6 < k then chN (f 6) 97 else 97 : Nat) : Int), .int .u8 ((if 7 < k then chN (f 7) 100 else 100 : Nat) : Int)]
theorem tcells_step (f : Nat → Bool) (k : Nat) (hk : k < 8) : (if f k then tcells f k else (tcells f k).setIfInBounds k (.int .u8 45)) = tcells f (k + 1) := by
  rcases (show k = 0 ∨ k = 1 ∨ k = 2 ∨ k = 3 ∨ k = 4 ∨ k = 5 ∨ k = 6 ∨ k = 7 by omega) with rfl | rfl | rfl | rfl | rfl | rfl | rfl | rfl
  · cases h : f 0 <;> simp [tcells, chN, h]
  · cases h : f 1 <;> simp [tcells, chN, h]
  · cases h : f 2 <;> simp [tcells, chN, h]
  · cases h : f 3 <;> simp [tcells, chN, h]
  · cases h : f 4 <;> simp [tcells, chN, h]
  · cases h : f 5 <;> simp [tcells, chN, h]
  · cases h : f 6 <;> simp [tcells, chN, h]
  · cases h : f 7 <;> simp [tcells, chN, h]
def flagsF (v r w x u g a d : Bool) : Nat → Bool
  | 0 => v
  | 1 => r
  | 2 => w
  | 3 => x
  | 4 => u
  | 5 => g
  | 6 => a
  | 7 => d
  | _ => false
def textL (v r w x u g a d : Bool) : List Int := [((chN v 118 : Nat) : Int), ((chN r 114 : Nat) : Int), ((chN w 119 : Nat) : Int), ((chN x 120 : Nat) : Int), ((chN u 117 : Nat) : Int), ((chN g 103 : Nat) : Int), ((chN a 97 : Nat) : Int), ((chN d 100 : Nat) : Int)]
def textB (v r w x u g a d : Bool) : ByteArray := strOfNums (textL v r w x u g a d)

def TextRel (f : Nat → Bool) (cp : Array Value) (W : World) (i : Value) (wr : World) : Prop :=
  ∃ k : Nat, k ≤ 8 ∧ i = .int .i64 k ∧ Blk wr W.heap.size 24 cp ∧ Blkf wr (W.heap.size + 1) 5 (8, 9) (tcells f k) ∧ Below W.heap.size W wr
theorem text_step {f : Nat → Bool} {cp : Array Value} {W wr : World} {k : Nat} {n : Int} (hk : k < 8) (hn : n = ((k + 1 : Nat) : Int)) (hz : Blk wr W.heap.size 24 cp)
    (hp : Blkf wr (W.heap.size + 1) 5 (8, 9) (tcells f k)) (hb : Below W.heap.size W wr) (hc : f k = false) :
    TextRel f cp W (.int .i64 n) (wr.setCell ⟨W.heap.size + 1, k, none⟩ (.int .u8 45)) := by
  subst hn
  refine ⟨k + 1, by omega, rfl, hz.far (by simp) _, ?_, hb.setCell (by simp) _⟩
  rw [← tcells_step f k hk, hc]; exact hp.set_ k _
theorem text_keep {f : Nat → Bool} {cp : Array Value} {W wr : World} {k : Nat} {n : Int} (hk : k < 8) (hn : n = ((k + 1 : Nat) : Int)) (hz : Blk wr W.heap.size 24 cp)
    (hp : Blkf wr (W.heap.size + 1) 5 (8, 9) (tcells f k)) (hb : Below W.heap.size W wr) (hc : f k = true) : TextRel f cp W (.int .i64 n) wr := by
  subst hn
  refine ⟨k + 1, by omega, rfl, hz, ?_, hb⟩
  rw [← tcells_step f k hk, hc]; exact hp

set_option maxHeartbeats 16000000 in
theorem text_any (v r w x u g a d : Bool) (rsw ppn : Int) (W : World) :
    Calls Try.prog 11 #[.agg #[.bool v, .bool r, .bool w, .bool x, .bool u, .bool g, .bool a, .bool d, .int .i64 rsw, .int .u64 ppn]] W fun e w' => e = .returned (.string (textB v r w x u g a d)) ∧ Below W.heap.size W w' := by
  have kc := fun (C : Array Value) (n c : Nat) => _root_.Go.Joins.run_convert_bytes_const_at (P := Try.prog) (W.alloc (.cells #[.bool v, .bool r, .bool w, .bool x, .bool u, .bool g, .bool a, .bool d, .int .i64 rsw, .int .u64 ppn] 24)) 45 5 C n c (W.heap.size + 1) (by simp) Try.underlying45 Try.underlying5
  go_enter Try.func11, Try.ntmps11
  go_wp2_with fail
  refine (places_any _ _).mono ?_
  rintro e w' ⟨rfl, rfl⟩
  clear kc
  go_wp2_with fail
  go_loopw [9] (fun i wr => TextRel (flagsF v r w x u g a d) #[.bool v, .bool r, .bool w, .bool x, .bool u, .bool g, .bool a, .bool d, .int .i64 rsw, .int .u64 ppn] W i wr) (fun i _ => 8 - (intOf i).toNat)
  case atStart =>
    refine ⟨0, by omega, rfl, ?_, ?_, by go_grown⟩
    · exact (((Blk.new _ _ _).alloc _).alloc _).drew
    · rw [show tcells (flagsF v r w x u g a d) 0 = #[.int .u8 118, .int .u8 114, .int .u8 119, .int .u8 120, .int .u8 117, .int .u8 103, .int .u8 97, .int .u8 100] by simp [tcells, chN]]
      exact ((Blkf.new_at _ _ _ _ (by simp)).alloc _).drew
  case round =>
    obtain ⟨k, hk, rfl, hz, hp, hb⟩ := hrel
    have HZ := Lib.hid hz
    have HP := Lib.hid hp
    have HB := Lib.hid hb
    have hl := hp.lt
    clear hz hp hb
    rcases (show k = 8 ∨ k < 8 by omega) with rfl | hk8
    · clear hk
      have hcv := fun (dst : TypeId) (hd : Try.prog.underlying dst = some .string) => run_convert_bytes_arg (P := Try.prog) wr 45 5 Try.underlying45 Try.underlying5 (W.heap.size + 1) 0 8 8 (textL v r w x u g a d) rfl (fun i hi => by
        rw [HP.out.cell]
        rcases (show i = 0 ∨ i = 1 ∨ i = 2 ∨ i = 3 ∨ i = 4 ∨ i = 5 ∨ i = 6 ∨ i = 7 by omega) with rfl | rfl | rfl | rfl | rfl | rfl | rfl | rfl <;> simp [tcells, textL, flagsF]) dst hd
      have hcw := hcv 9 Try.underlying9
      clear hcv
      go_wp2
      go_ret
      exact ⟨rfl, HB.out⟩
    · rcases (show k = 0 ∨ k = 1 ∨ k = 2 ∨ k = 3 ∨ k = 4 ∨ k = 5 ∨ k = 6 ∨ k = 7 by omega) with rfl | rfl | rfl | rfl | rfl | rfl | rfl | rfl
      · clear hk hk8
        have hc : wr.cell? ⟨W.heap.size, 0, none⟩ = some (.bool v) := HZ.out.cell 0
        have hd : wr.cell? ⟨W.heap.size + 1, 0, none⟩ = some (.int .u8 118) := HP.out.cell 0
        have hf : wr.frozen? ⟨W.heap.size + 1, 0, none⟩ = false := HP.out.frozen 0
        have ix : ∀ W' : World, (Instr.index 42 (.agg #[.pointer (some ⟨W.heap.size, 0, none⟩), .pointer (some ⟨W.heap.size, 1, none⟩), .pointer (some ⟨W.heap.size, 2, none⟩), .pointer (some ⟨W.heap.size, 3, none⟩), .pointer (some ⟨W.heap.size, 4, none⟩), .pointer (some ⟨W.heap.size, 5, none⟩), .pointer (some ⟨W.heap.size, 6, none⟩), .pointer (some ⟨W.heap.size, 7, none⟩)]) (.int .i64 0)).run Try.prog W' = .ok (.pointer (some ⟨W.heap.size, 0, none⟩)) W' := fun _ => ix8_0 _ _ _ _ _ _ _ _ _
        cases h : v
        · rw [h] at hc
          go_wp2
          go_roundw
          case rel => exact text_step (by omega) rfl (by rw [← h]; exact HZ.out) (by rw [← h]; exact HP.out) HB.out rfl
          case measure => simp [intOf]
        · rw [h] at hc
          clear hd hf
          go_wp2
          go_roundw
          case rel => exact text_keep (by omega) rfl (by rw [← h]; exact HZ.out) (by rw [← h]; exact HP.out) HB.out rfl
          case measure => simp [intOf]
      · clear hk hk8
        have hc : wr.cell? ⟨W.heap.size, 1, none⟩ = some (.bool r) := HZ.out.cell 1
        have hd : wr.cell? ⟨W.heap.size + 1, 1, none⟩ = some (.int .u8 114) := HP.out.cell 1
        have hf : wr.frozen? ⟨W.heap.size + 1, 1, none⟩ = false := HP.out.frozen 1
        have ix : ∀ W' : World, (Instr.index 42 (.agg #[.pointer (some ⟨W.heap.size, 0, none⟩), .pointer (some ⟨W.heap.size, 1, none⟩), .pointer (some ⟨W.heap.size, 2, none⟩), .pointer (some ⟨W.heap.size, 3, none⟩), .pointer (some ⟨W.heap.size, 4, none⟩), .pointer (some ⟨W.heap.size, 5, none⟩), .pointer (some ⟨W.heap.size, 6, none⟩), .pointer (some ⟨W.heap.size, 7, none⟩)]) (.int .i64 1)).run Try.prog W' = .ok (.pointer (some ⟨W.heap.size, 1, none⟩)) W' := fun _ => ix8_1 _ _ _ _ _ _ _ _ _
        cases h : r
        · rw [h] at hc
          go_wp2
          go_roundw
          case rel => exact text_step (by omega) rfl (by rw [← h]; exact HZ.out) (by rw [← h]; exact HP.out) HB.out rfl
          case measure => simp [intOf]
        · rw [h] at hc
          clear hd hf
          go_wp2
          go_roundw
          case rel => exact text_keep (by omega) rfl (by rw [← h]; exact HZ.out) (by rw [← h]; exact HP.out) HB.out rfl
          case measure => simp [intOf]
      · clear hk hk8
        have hc : wr.cell? ⟨W.heap.size, 2, none⟩ = some (.bool w) := HZ.out.cell 2
        have hd : wr.cell? ⟨W.heap.size + 1, 2, none⟩ = some (.int .u8 119) := HP.out.cell 2
        have hf : wr.frozen? ⟨W.heap.size + 1, 2, none⟩ = false := HP.out.frozen 2
        have ix : ∀ W' : World, (Instr.index 42 (.agg #[.pointer (some ⟨W.heap.size, 0, none⟩), .pointer (some ⟨W.heap.size, 1, none⟩), .pointer (some ⟨W.heap.size, 2, none⟩), .pointer (some ⟨W.heap.size, 3, none⟩), .pointer (some ⟨W.heap.size, 4, none⟩), .pointer (some ⟨W.heap.size, 5, none⟩), .pointer (some ⟨W.heap.size, 6, none⟩), .pointer (some ⟨W.heap.size, 7, none⟩)]) (.int .i64 2)).run Try.prog W' = .ok (.pointer (some ⟨W.heap.size, 2, none⟩)) W' := fun _ => ix8_2 _ _ _ _ _ _ _ _ _
        cases h : w
        · rw [h] at hc
          go_wp2
          go_roundw
          case rel => exact text_step (by omega) rfl (by rw [← h]; exact HZ.out) (by rw [← h]; exact HP.out) HB.out rfl
          case measure => simp [intOf]
        · rw [h] at hc
          clear hd hf
          go_wp2
          go_roundw
          case rel => exact text_keep (by omega) rfl (by rw [← h]; exact HZ.out) (by rw [← h]; exact HP.out) HB.out rfl
          case measure => simp [intOf]
      · clear hk hk8
        have hc : wr.cell? ⟨W.heap.size, 3, none⟩ = some (.bool x) := HZ.out.cell 3
        have hd : wr.cell? ⟨W.heap.size + 1, 3, none⟩ = some (.int .u8 120) := HP.out.cell 3
        have hf : wr.frozen? ⟨W.heap.size + 1, 3, none⟩ = false := HP.out.frozen 3
        have ix : ∀ W' : World, (Instr.index 42 (.agg #[.pointer (some ⟨W.heap.size, 0, none⟩), .pointer (some ⟨W.heap.size, 1, none⟩), .pointer (some ⟨W.heap.size, 2, none⟩), .pointer (some ⟨W.heap.size, 3, none⟩), .pointer (some ⟨W.heap.size, 4, none⟩), .pointer (some ⟨W.heap.size, 5, none⟩), .pointer (some ⟨W.heap.size, 6, none⟩), .pointer (some ⟨W.heap.size, 7, none⟩)]) (.int .i64 3)).run Try.prog W' = .ok (.pointer (some ⟨W.heap.size, 3, none⟩)) W' := fun _ => ix8_3 _ _ _ _ _ _ _ _ _
        cases h : x
        · rw [h] at hc
          go_wp2
          go_roundw
          case rel => exact text_step (by omega) rfl (by rw [← h]; exact HZ.out) (by rw [← h]; exact HP.out) HB.out rfl
          case measure => simp [intOf]
        · rw [h] at hc
          clear hd hf
          go_wp2
          go_roundw
          case rel => exact text_keep (by omega) rfl (by rw [← h]; exact HZ.out) (by rw [← h]; exact HP.out) HB.out rfl
          case measure => simp [intOf]
      · clear hk hk8
        have hc : wr.cell? ⟨W.heap.size, 4, none⟩ = some (.bool u) := HZ.out.cell 4
        have hd : wr.cell? ⟨W.heap.size + 1, 4, none⟩ = some (.int .u8 117) := HP.out.cell 4
        have hf : wr.frozen? ⟨W.heap.size + 1, 4, none⟩ = false := HP.out.frozen 4
        have ix : ∀ W' : World, (Instr.index 42 (.agg #[.pointer (some ⟨W.heap.size, 0, none⟩), .pointer (some ⟨W.heap.size, 1, none⟩), .pointer (some ⟨W.heap.size, 2, none⟩), .pointer (some ⟨W.heap.size, 3, none⟩), .pointer (some ⟨W.heap.size, 4, none⟩), .pointer (some ⟨W.heap.size, 5, none⟩), .pointer (some ⟨W.heap.size, 6, none⟩), .pointer (some ⟨W.heap.size, 7, none⟩)]) (.int .i64 4)).run Try.prog W' = .ok (.pointer (some ⟨W.heap.size, 4, none⟩)) W' := fun _ => ix8_4 _ _ _ _ _ _ _ _ _
        cases h : u
        · rw [h] at hc
          go_wp2
          go_roundw
          case rel => exact text_step (by omega) rfl (by rw [← h]; exact HZ.out) (by rw [← h]; exact HP.out) HB.out rfl
          case measure => simp [intOf]
        · rw [h] at hc
          clear hd hf
          go_wp2
          go_roundw
          case rel => exact text_keep (by omega) rfl (by rw [← h]; exact HZ.out) (by rw [← h]; exact HP.out) HB.out rfl
          case measure => simp [intOf]
      · clear hk hk8
        have hc : wr.cell? ⟨W.heap.size, 5, none⟩ = some (.bool g) := HZ.out.cell 5
        have hd : wr.cell? ⟨W.heap.size + 1, 5, none⟩ = some (.int .u8 103) := HP.out.cell 5
        have hf : wr.frozen? ⟨W.heap.size + 1, 5, none⟩ = false := HP.out.frozen 5
        have ix : ∀ W' : World, (Instr.index 42 (.agg #[.pointer (some ⟨W.heap.size, 0, none⟩), .pointer (some ⟨W.heap.size, 1, none⟩), .pointer (some ⟨W.heap.size, 2, none⟩), .pointer (some ⟨W.heap.size, 3, none⟩), .pointer (some ⟨W.heap.size, 4, none⟩), .pointer (some ⟨W.heap.size, 5, none⟩), .pointer (some ⟨W.heap.size, 6, none⟩), .pointer (some ⟨W.heap.size, 7, none⟩)]) (.int .i64 5)).run Try.prog W' = .ok (.pointer (some ⟨W.heap.size, 5, none⟩)) W' := fun _ => ix8_5 _ _ _ _ _ _ _ _ _
        cases h : g
        · rw [h] at hc
          go_wp2
          go_roundw
          case rel => exact text_step (by omega) rfl (by rw [← h]; exact HZ.out) (by rw [← h]; exact HP.out) HB.out rfl
          case measure => simp [intOf]
        · rw [h] at hc
          clear hd hf
          go_wp2
          go_roundw
          case rel => exact text_keep (by omega) rfl (by rw [← h]; exact HZ.out) (by rw [← h]; exact HP.out) HB.out rfl
          case measure => simp [intOf]
      · clear hk hk8
        have hc : wr.cell? ⟨W.heap.size, 6, none⟩ = some (.bool a) := HZ.out.cell 6
        have hd : wr.cell? ⟨W.heap.size + 1, 6, none⟩ = some (.int .u8 97) := HP.out.cell 6
        have hf : wr.frozen? ⟨W.heap.size + 1, 6, none⟩ = false := HP.out.frozen 6
        have ix : ∀ W' : World, (Instr.index 42 (.agg #[.pointer (some ⟨W.heap.size, 0, none⟩), .pointer (some ⟨W.heap.size, 1, none⟩), .pointer (some ⟨W.heap.size, 2, none⟩), .pointer (some ⟨W.heap.size, 3, none⟩), .pointer (some ⟨W.heap.size, 4, none⟩), .pointer (some ⟨W.heap.size, 5, none⟩), .pointer (some ⟨W.heap.size, 6, none⟩), .pointer (some ⟨W.heap.size, 7, none⟩)]) (.int .i64 6)).run Try.prog W' = .ok (.pointer (some ⟨W.heap.size, 6, none⟩)) W' := fun _ => ix8_6 _ _ _ _ _ _ _ _ _
        cases h : a
        · rw [h] at hc
          go_wp2
          go_roundw
          case rel => exact text_step (by omega) rfl (by rw [← h]; exact HZ.out) (by rw [← h]; exact HP.out) HB.out rfl
          case measure => simp [intOf]
        · rw [h] at hc
          clear hd hf
          go_wp2
          go_roundw
          case rel => exact text_keep (by omega) rfl (by rw [← h]; exact HZ.out) (by rw [← h]; exact HP.out) HB.out rfl
          case measure => simp [intOf]
      · clear hk hk8
        have hc : wr.cell? ⟨W.heap.size, 7, none⟩ = some (.bool d) := HZ.out.cell 7
        have hd : wr.cell? ⟨W.heap.size + 1, 7, none⟩ = some (.int .u8 100) := HP.out.cell 7
        have hf : wr.frozen? ⟨W.heap.size + 1, 7, none⟩ = false := HP.out.frozen 7
        have ix : ∀ W' : World, (Instr.index 42 (.agg #[.pointer (some ⟨W.heap.size, 0, none⟩), .pointer (some ⟨W.heap.size, 1, none⟩), .pointer (some ⟨W.heap.size, 2, none⟩), .pointer (some ⟨W.heap.size, 3, none⟩), .pointer (some ⟨W.heap.size, 4, none⟩), .pointer (some ⟨W.heap.size, 5, none⟩), .pointer (some ⟨W.heap.size, 6, none⟩), .pointer (some ⟨W.heap.size, 7, none⟩)]) (.int .i64 7)).run Try.prog W' = .ok (.pointer (some ⟨W.heap.size, 7, none⟩)) W' := fun _ => ix8_7 _ _ _ _ _ _ _ _ _
        cases h : d
        · rw [h] at hc
          go_wp2
          go_roundw
          case rel => exact text_step (by omega) rfl (by rw [← h]; exact HZ.out) (by rw [← h]; exact HP.out) HB.out rfl
          case measure => simp [intOf]
        · rw [h] at hc
          clear hd hf
          go_wp2
          go_roundw
          case rel => exact text_keep (by omega) rfl (by rw [← h]; exact HZ.out) (by rw [← h]; exact HP.out) HB.out rfl
          case measure => simp [intOf]
end Go.Proofs.Ytbmfklmlgbbcaaa
