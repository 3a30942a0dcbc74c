/- Contract of the reference's Text. -/
import Derived.Test.YtbmfklmlgbbcaaaPermF
namespace Go.Proofs.Ytbmfklmlgbbcaaa
open Go.RowKit

theorem wp_world {P : Program} {c : Code} {Q : Exit → Act → World → Prop} {a : Act} {w : World} (h : ∀ w0, w0 = w → c.wp P Q a w0) : c.wp P Q a w := h w rfl

def rK (v r w x u g a d : Bool) (k : Nat) : ByteArray := strOfNums ((textL v r w x u g a d).take k)
theorem rK_size (v r w x u g a d : Bool) (k : Nat) (hk : k ≤ 8) : (rK v r w x u g a d k).size = k := by
  unfold rK; rw [strOfNums_size]; simp [textL]; omega
theorem rK_end (v r w x u g a d : Bool) : rK v r w x u g a d 8 = textB v r w x u g a d := rfl
theorem rK_zero (v r w x u g a d : Bool) : rK v r w x u g a d 0 = ⟨#[]⟩ := rfl
theorem rK_add (v r w x u g a d : Bool) (k : Nat) (c : ByteArray) (hk : k < 8) (hc : c.data.toList = [UInt8.ofNat ((textL v r w x u g a d).getD k 0).toNat]) (W : World) :
    (Op.stringOp .add (rK v r w x u g a d k) c).run Try.prog W = .ok (.string (rK v r w x u g a d (k + 1))) W := by
  have hs : c.size = 1 := by show c.data.size = 1; rw [← Array.length_toList, hc]; rfl
  rw [run_string_add_sum W _ _ (by rw [rK_size _ _ _ _ _ _ _ _ _ (by omega), hs]; omega)]
  congr 2
  apply ByteArray.ext
  apply Array.toList_inj.1
  rw [ByteArray.data_append, Array.toList_append, hc]
  unfold rK
  rw [strOfNums_data, strOfNums_data]
  rcases (show k = 0 ∨ k = 1 ∨ k = 2 ∨ k = 3 ∨ k = 4 ∨ k = 5 ∨ k = 6 ∨ k = 7 by omega) with rfl | rfl | rfl | rfl | rfl | rfl | rfl | rfl <;> simp [textL]

set_option maxHeartbeats 16000000 in
theorem rtext_any (v r w x u g a d : Bool) (rsw ppn : Int) (W : World) :
    Calls Try.prog 12 #[.agg #[.bool v, .bool r, .bool w, .bool x, .bool u, .bool g, .bool a, .bool d, .int .i64 rsw, .int .u64 ppn]] W fun e w' => e = .returned (.string (textB v r w x u g a d)) ∧ Below W.heap.size W w' := by
  go_enter Try.func12, Try.ntmps12
  go_wp2_with fail
  refine wp_world (fun W3 hW3 => ?_)
  have hblk : Blk W3 (W.heap.size + 1) 4 #[.bool v, .bool r, .bool w, .bool x, .bool u, .bool g, .bool a, .bool d] := by rw [hW3]; exact Blk.new_at _ _ _ (by simp)
  have hb : Below W.heap.size W W3 := by rw [hW3]; go_grown
  have HBL := Lib.hid hblk
  have HB := Lib.hid hb
  clear hblk hb hW3
  go_loop [3, 24] (fun s i => ∃ k : Nat, k ≤ 8 ∧ i = .int .i64 k ∧ s = .string (rK v r w x u g a d k)) (fun _ i => 8 - (intOf i).toNat)
  case atStart => exact ⟨0, by omega, rfl, rfl⟩
  case round =>
    obtain ⟨k, hk, rfl, rfl⟩ := hrel
    rcases (show k = 8 ∨ k < 8 by omega) with rfl | hk8
    · clear hk
      go_wp2
      go_ret
      exact ⟨rfl, HB.out⟩
    · rcases (show k = 0 ∨ k = 1 ∨ k = 2 ∨ k = 3 ∨ k = 4 ∨ k = 5 ∨ k = 6 ∨ k = 7 by omega) with rfl | rfl | rfl | rfl | rfl | rfl | rfl | rfl
      · clear hk hk8
        have hc : W3.cell? ⟨W.heap.size + 1, 0, none⟩ = some (.bool v) := HBL.out.cell 0
        cases h : v
        · rw [h] at hc
          have ha := fun W' => rK_add v r w x u g a d 0 ⟨#[45]⟩ (by omega) (by rw [h]; rfl) W'
          rw [h] at ha
          go_wp2
          go_round
          case rel => exact ⟨0 + 1, by omega, rfl, rfl⟩
          case measure => simp [intOf]
        · rw [h] at hc
          have ha := fun W' => rK_add v r w x u g a d 0 (({ data := #[118, 114, 119, 120, 117, 103, 97, 100] } : ByteArray).extract 0 (0 + 1)) (by omega) (by rw [h]; rfl) W'
          rw [h] at ha
          go_wp2
          go_round
          case rel => exact ⟨0 + 1, by omega, rfl, rfl⟩
          case measure => simp [intOf]
      · clear hk hk8
        have hc : W3.cell? ⟨W.heap.size + 1, 1, none⟩ = some (.bool r) := HBL.out.cell 1
        cases h : r
        · rw [h] at hc
          have ha := fun W' => rK_add v r w x u g a d 1 ⟨#[45]⟩ (by omega) (by rw [h]; rfl) W'
          rw [h] at ha
          go_wp2
          go_round
          case rel => exact ⟨1 + 1, by omega, rfl, rfl⟩
          case measure => simp [intOf]
        · rw [h] at hc
          have ha := fun W' => rK_add v r w x u g a d 1 (({ data := #[118, 114, 119, 120, 117, 103, 97, 100] } : ByteArray).extract 1 (1 + 1)) (by omega) (by rw [h]; rfl) W'
          rw [h] at ha
          go_wp2
          go_round
          case rel => exact ⟨1 + 1, by omega, rfl, rfl⟩
          case measure => simp [intOf]
      · clear hk hk8
        have hc : W3.cell? ⟨W.heap.size + 1, 2, none⟩ = some (.bool w) := HBL.out.cell 2
        cases h : w
        · rw [h] at hc
          have ha := fun W' => rK_add v r w x u g a d 2 ⟨#[45]⟩ (by omega) (by rw [h]; rfl) W'
          rw [h] at ha
          go_wp2
          go_round
          case rel => exact ⟨2 + 1, by omega, rfl, rfl⟩
          case measure => simp [intOf]
        · rw [h] at hc
          have ha := fun W' => rK_add v r w x u g a d 2 (({ data := #[118, 114, 119, 120, 117, 103, 97, 100] } : ByteArray).extract 2 (2 + 1)) (by omega) (by rw [h]; rfl) W'
          rw [h] at ha
          go_wp2
          go_round
          case rel => exact ⟨2 + 1, by omega, rfl, rfl⟩
          case measure => simp [intOf]
      · clear hk hk8
        have hc : W3.cell? ⟨W.heap.size + 1, 3, none⟩ = some (.bool x) := HBL.out.cell 3
        cases h : x
        · rw [h] at hc
          have ha := fun W' => rK_add v r w x u g a d 3 ⟨#[45]⟩ (by omega) (by rw [h]; rfl) W'
          rw [h] at ha
          go_wp2
          go_round
          case rel => exact ⟨3 + 1, by omega, rfl, rfl⟩
          case measure => simp [intOf]
        · rw [h] at hc
          have ha := fun W' => rK_add v r w x u g a d 3 (({ data := #[118, 114, 119, 120, 117, 103, 97, 100] } : ByteArray).extract 3 (3 + 1)) (by omega) (by rw [h]; rfl) W'
          rw [h] at ha
          go_wp2
          go_round
          case rel => exact ⟨3 + 1, by omega, rfl, rfl⟩
          case measure => simp [intOf]
      · clear hk hk8
        have hc : W3.cell? ⟨W.heap.size + 1, 4, none⟩ = some (.bool u) := HBL.out.cell 4
        cases h : u
        · rw [h] at hc
          have ha := fun W' => rK_add v r w x u g a d 4 ⟨#[45]⟩ (by omega) (by rw [h]; rfl) W'
          rw [h] at ha
          go_wp2
          go_round
          case rel => exact ⟨4 + 1, by omega, rfl, rfl⟩
          case measure => simp [intOf]
        · rw [h] at hc
          have ha := fun W' => rK_add v r w x u g a d 4 (({ data := #[118, 114, 119, 120, 117, 103, 97, 100] } : ByteArray).extract 4 (4 + 1)) (by omega) (by rw [h]; rfl) W'
          rw [h] at ha
          go_wp2
          go_round
          case rel => exact ⟨4 + 1, by omega, rfl, rfl⟩
          case measure => simp [intOf]
      · clear hk hk8
        have hc : W3.cell? ⟨W.heap.size + 1, 5, none⟩ = some (.bool g) := HBL.out.cell 5
        cases h : g
        · rw [h] at hc
          have ha := fun W' => rK_add v r w x u g a d 5 ⟨#[45]⟩ (by omega) (by rw [h]; rfl) W'
          rw [h] at ha
          go_wp2
          go_round
          case rel => exact ⟨5 + 1, by omega, rfl, rfl⟩
          case measure => simp [intOf]
        · rw [h] at hc
          have ha := fun W' => rK_add v r w x u g a d 5 (({ data := #[118, 114, 119, 120, 117, 103, 97, 100] } : ByteArray).extract 5 (5 + 1)) (by omega) (by rw [h]; rfl) W'
          rw [h] at ha
          go_wp2
          go_round
          case rel => exact ⟨5 + 1, by omega, rfl, rfl⟩
          case measure => simp [intOf]
      · clear hk hk8
        have hc : W3.cell? ⟨W.heap.size + 1, 6, none⟩ = some (.bool a) := HBL.out.cell 6
        cases h : a
        · rw [h] at hc
          have ha := fun W' => rK_add v r w x u g a d 6 ⟨#[45]⟩ (by omega) (by rw [h]; rfl) W'
          rw [h] at ha
          go_wp2
          go_round
          case rel => exact ⟨6 + 1, by omega, rfl, rfl⟩
          case measure => simp [intOf]
        · rw [h] at hc
          have ha := fun W' => rK_add v r w x u g a d 6 (({ data := #[118, 114, 119, 120, 117, 103, 97, 100] } : ByteArray).extract 6 (6 + 1)) (by omega) (by rw [h]; rfl) W'
          rw [h] at ha
          go_wp2
          go_round
          case rel => exact ⟨6 + 1, by omega, rfl, rfl⟩
          case measure => simp [intOf]
      · clear hk hk8
        have hc : W3.cell? ⟨W.heap.size + 1, 7, none⟩ = some (.bool d) := HBL.out.cell 7
        cases h : d
        · rw [h] at hc
          have ha := fun W' => rK_add v r w x u g a d 7 ⟨#[45]⟩ (by omega) (by rw [h]; rfl) W'
          rw [h] at ha
          go_wp2
          go_round
          case rel => exact ⟨7 + 1, by omega, rfl, rfl⟩
          case measure => simp [intOf]
        · rw [h] at hc
          have ha := fun W' => rK_add v r w x u g a d 7 (({ data := #[118, 114, 119, 120, 117, 103, 97, 100] } : ByteArray).extract 7 (7 + 1)) (by omega) (by rw [h]; rfl) W'
          rw [h] at ha
          go_wp2
          go_round
          case rel => exact ⟨7 + 1, by omega, rfl, rfl⟩
          case measure => simp [intOf]
end Go.Proofs.Ytbmfklmlgbbcaaa
