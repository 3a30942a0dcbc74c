/- Lanes of one fact. -/
import Derived.Test.YtocjapnagggapaaDoorClkL
namespace Go.Proofs.YtocjapnagggapaaDoor
open Go.RowKit

def lanB : Nat → List Value
  | 0 => []
  | 1 => [.int .u8 83]
  | _ => [.int .u8 83, .int .u8 46]
def outL : List UInt8 := [83, 46, 32, 48, 10]
def outB : Nat → List Value
  | 0 => []
  | _ => Lib.byteCells outL
theorem blk_kept {w w' : World} {b fb : Nat} {t : TypeId} {cs : Array Value} (h : Lib.OthersKept TY (some b) w w') (hb : Blk w fb t cs) (hne : fb ≠ b) (ht : t ≠ TY) : Blk w' fb t cs :=
  h fb _ hb (fun e => hne (by injection e)) (fun c fz e => ht (by injection e))
theorem bd_new (W : World) : Lib.IsBuilder TB TY W.heap.size W.heap.size [] (W.alloc (.cells #[.pointer none, .slice none 0 0] TB)) :=
  .inl ⟨Nat.le_refl _, .slice none 0 0, heap_alloc_new W _, World.ownsRow_nil _ _ _ _, by simp [Value.ownBlock]⟩
theorem bd_ext {w w' : World} {b : Nat} {bs : List Value} {B : Nat} (h : Lib.IsBuilder TB TY B b bs w) (hx : Ext w w') : Lib.IsBuilder TB TY B b bs w' := by
  have one : ∀ p, Lib.BuilderAt TB TY B b p bs w → Lib.BuilderAt TB TY B b p bs w' := fun p ⟨h1, v, h2, h3, h4⟩ => by
    have hl : b < w.heap.size := (Array.getElem?_eq_some_iff.1 h2).1
    exact ⟨h1, v, (hx.block b hl).trans h2, (Keeps.of_below (F := fun _ => False) hx).row h3 (fun _ _ h => h), h4⟩
  exact h.imp (one _) (one _)
set_option maxRecDepth 100000 in
set_option maxHeartbeats 4000000 in
theorem lanes_one (A : Option Addr) (cap : Nat) (C : Nat → Array Value) (f : Nat → Fc) (W : World) (h : FsAt W A 1 C f) (hn : (f 0).node = 0) (hl : (f 0).lays = true) (ha : (f 0).addr = 0) (hT : Tab W) :
    Calls Tryd.prog 15 #[.slice A 1 cap, .int .i64 2] W fun e w' => e = .returned (.string ⟨outL.toArray⟩) ∧ Below W.heap.size W w' := by
  have HFS := Lib.hid h
  have HT := Lib.hid hT
  have HN := Lib.hid hn
  have HL := Lib.hid hl
  have HA := Lib.hid ha
  have HB0 := Lib.hid (bd_new W)
  have HE0 := Lib.hid (ext_alloc' W (.cells #[.pointer none, .slice none 0 0] TB))
  have hm1 : max (2 : Int) 0 = 2 := by decide
  have hm2 : min (2 : Int) 16 = 2 := by decide
  clear h hT hn hl ha
  go_enter Tryd.func15, Tryd.ntmps15
  go_wp2_with fail
  generalize W.alloc (.cells #[.pointer none, .slice none 0 0] TB) = w1 at *
  go_loopw [14] (fun i wr => ∃ k : Nat, k ≤ 1 ∧ i = .int .i64 (k : Int) ∧ Lib.IsBuilder TB TY W.heap.size W.heap.size (outB k) wr ∧ Ext W wr) (fun i _ => 1 - (intOf i).toNat)
  case atStart => exact ⟨0, by omega, rfl, HB0.out, HE0.out⟩
  clear HB0 HE0
  case round =>
    obtain ⟨k, hk, rfl, hB, hE⟩ := hrel
    have HB := Lib.hid hB
    have HE := Lib.hid hE
    clear hB hE
    rcases (show k = 0 ∨ k = 1 by omega) with rfl | rfl
    · obtain ⟨b, o, rfl, hbl, hcc⟩ := HFS.out (by omega)
      obtain ⟨hrg, hfc⟩ := hcc 0 (by omega)
      have HC := Lib.hid hfc
      rw [Nat.zero_mul, Nat.add_zero] at hrg
      have HRG : Hid (wr.rangeAt b o (C 0).toList) := Lib.hid (fun j v hj => (HE.out.cell (p := ⟨b, o + j, none⟩) hbl).trans (hrg j v hj))
      have hbx : Blk (wr.alloc (.cells (C 0) 40)) wr.heap.size 40 (C 0) := Blkf.new_at _ _ _ _ rfl
      have HBX := Lib.hid hbx
      have HNE : Hid (wr.heap.size ≠ W.heap.size) := Lib.hid (by
        have := HB.out.elim (fun h => h.lt) (fun h => h.lt)
        omega)
      have HB1 := Lib.hid (bd_ext HB.out (ext_alloc' wr (.cells (C 0) 40)))
      have HE1 := Lib.hid (HE.out.trans (ext_alloc' wr (.cells (C 0) 40)))
      have zf := zero_fact
      clear hbx hrg hfc hcc hbl HB HE
      go_wp2_with (first | ((with_reducible refine wl_load 40 (.tmp 16) rfl ?_ b o (C 0) ?_ HRG.out ?_ ?_); exact rfl; exact rfl; exact HC.out.row) | ((with_reducible refine wl_store_new 40 (.tmp 7) (.tmp 17) rfl ?_ wr (World.heap wr).size 40 factZ (C 0) ?_ ?_ ?_ ?_ ?_ ?_ ?_ ?_); exact rfl; exact rfl; exact rfl; exact rfl; exact rfl; exact (HC.out.size.symm); exact HC.out.row; exact HC.out.one))
      generalize wr.alloc (.cells (C 0) 40) = w2 at *
      generalize wr.heap.size = fb at *
      clear HRG zf
      go_loopw [19] (fun q wx => ∃ k : Nat, k ≤ 2 ∧ q = .int .i64 (k : Int) ∧ Lib.IsBuilder TB TY W.heap.size W.heap.size (lanB k) wx ∧ Ext W wx ∧ Blk wx fb 40 (C 0)) (fun q _ => 2 - (intOf q).toNat)
      case atStart => exact ⟨0, by omega, rfl, HB1.out, HE1.out, HBX.out⟩
      clear HB1 HE1 HBX
      case round =>
        obtain ⟨k, hk2, rfl, hB, hE, hX⟩ := hrel
        rename World => wx
        have HB := Lib.hid hB
        have HE := Lib.hid hE
        have HX := Lib.hid hX
        have c1 : wx.cell? ⟨fb, 1, none⟩ = some (.int .i64 0) := (hX.cell 1).trans (by rw [HC.out.node, HN.out])
        have c12 : wx.cell? ⟨fb, 12, none⟩ = some (.int .u64 0) := (hX.cell 12).trans (by rw [HC.out.addr, HA.out]; rfl)
        have hfl := hX.lt
        have hrf := hX.range
        clear hB hE hX
        rcases (show k = 0 ∨ k = 1 ∨ k = 2 by omega) with rfl | rfl | rfl
        · clear c12
          go_wp2_with (first | ((with_reducible refine wl_load 40 (.tmp 7) rfl ?_ fb 0 (C 0) ?_ hrf ?_ ?_); exact rfl; exact rfl; exact HC.out.row))
          clear c1 hfl hrf
          refine (lays_any (C 0) (f 0) wx HC.out).mono ?_
          rintro e w3 ⟨rfl, hw3⟩
          have hx3 : Ext wx w3 := by rw [← hw3]; exact ext_alloc' _ _
          have HB3 := Lib.hid (bd_ext HB.out hx3)
          have HE3 := Lib.hid (HE.out.trans hx3)
          have HX3 := Lib.hid (Blkf.below HX.out hx3 HX.out.lt)
          clear hw3 hx3 HB HE HX
          rw [HL.out]
          go_wp2_with fail
          refine (wbyte_any W.heap.size W.heap.size (lanB 0) 83 w3 HB3.out (by decide) HE3.out.size).mono ?_
          rintro e w4 ⟨rfl, h4, h5, h6⟩
          have HF : Hid (Lib.IsBuilder TB TY W.heap.size W.heap.size (lanB 1) w4 ∧ Ext W w4 ∧ Blk w4 fb 40 (C 0)) := Lib.hid ⟨.inr h4, Below.trans HE3.out h5, blk_kept h6 HX3.out HNE.out (by decide)⟩
          clear h4 h5 h6 HB3 HE3 HX3
          go_wp2_with fail
          go_roundw
          case rel => exact ⟨1, by omega, by go_num, HF.out⟩
          case measure => simp [intOf]
        · clear c12
          go_wp2_with fail
          clear c1 hfl hrf
          refine (wbyte_any W.heap.size W.heap.size (lanB 1) 46 wx HB.out (by decide) HE.out.size).mono ?_
          rintro e w4 ⟨rfl, h4, h5, h6⟩
          have HF : Hid (Lib.IsBuilder TB TY W.heap.size W.heap.size (lanB 2) w4 ∧ Ext W w4 ∧ Blk w4 fb 40 (C 0)) := Lib.hid ⟨.inr h4, Below.trans HE.out h5, blk_kept h6 HX.out HNE.out (by decide)⟩
          clear h4 h5 h6 HB HE HX
          go_wp2_with fail
          go_roundw
          case rel => exact ⟨2, by omega, by go_num, HF.out⟩
          case measure => simp [intOf]
        · clear c1 hrf
          go_wp2_with fail
          refine (fmt0_any wx (HT.out.below HE.out)).mono ?_
          rintro e w4 ⟨rfl, h4⟩
          have HB4 := Lib.hid (bd_ext HB.out h4)
          have HE4 := Lib.hid (HE.out.trans h4)
          clear h4 HB HE HX c12 hfl
          go_wp2_with fail
          refine (wstr_any W.heap.size W.heap.size (lanB 2) _ w4 HB4.out (by decide) HE4.out.size).mono ?_
          rintro e w5 ⟨rfl, h5, h6⟩
          have HF : Hid (Lib.IsBuilder TB TY W.heap.size W.heap.size (outB 1) w5 ∧ Ext W w5) := Lib.hid ⟨.inr h5, Below.trans HE4.out h6⟩
          clear h5 h6 HB4 HE4
          go_wp2_with fail
          go_roundw
          case rel => exact ⟨1, by omega, by go_num, HF.out⟩
          case measure => simp [intOf]
    · go_wp2_with fail
      refine (Tryd.Builder_String W.heap.size W.heap.size outL wr HB.out (by decide)).mono ?_
      rintro e w4 ⟨rfl, h4⟩
      have HF : Hid (Below W.heap.size W w4) := Lib.hid (Below.trans HE.out h4)
      clear h4 HB HE
      go_wp2_with fail
      go_ret
      exact ⟨rfl, HF.out⟩
end Go.Proofs.YtocjapnagggapaaDoor
