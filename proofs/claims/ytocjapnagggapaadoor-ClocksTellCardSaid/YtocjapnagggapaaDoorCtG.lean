/- The reference's Chain: the walk. -/
import Derived.Test.YtocjapnagggapaaDoorCtF
namespace Go.Proofs.YtocjapnagggapaaDoor
open Go.RowKit

theorem chG_zero (f : Nat → Fc) : ∀ i j, i ≤ j → chG f i j = 0
  | 0, j, _ => rfl
  | i + 1, j, h => by
    unfold chG
    split
    · unfold updN
      rw [if_neg (by omega)]
      exact chG_zero f i j (by omega)
    · exact chG_zero f i j (by omega)
set_option maxRecDepth 100000 in
set_option maxHeartbeats 8000000 in
theorem rchain_any (A : Option Addr) (len cap : Nat) (C : Nat → Array Value) (f : Nat → Fc) (W : World) (hl : len ≤ 40) (h : FsAt W A len C f) :
    Calls Tryd.prog 11 #[.slice A len cap] W fun e w' => e = .returned (.int .i64 (chB f len : Int)) ∧ Ext W w' := by
  obtain ⟨j0, hj0, hy0, hy1, hy2⟩ := info_parts info_i
  have HFS := Lib.hid h
  have HGL := Lib.hid (chG_le f)
  have HBL := Lib.hid (chB_le f)
  have HRL := Lib.hid (chR_le f)
  have hmk : ∀ W, (Instr.makeSlice 55 (.int .i64 (len : Int)) (.int .i64 (len : Int))).run Tryd.prog W = .ok (.slice (some ⟨W.heap.size, 0, none⟩) len len) (W.alloc (.cells (fnC len (fun _ => 0)) 3)) := fun W => by
    have h := run_make (P := Tryd.prog) W 55 3 j0 _ Tryd.underlying55 hj0 hy0 .i64 .i64 (len : Int) (len : Int) (by omega) (by omega) (by rw [hy2]; omega) (by omega)
    rw [hy1] at h
    simpa [Value.cells, made_fn] using h
  clear h hj0 hy0 hy1 hy2 j0
  go_enter Tryd.func11, Tryd.ntmps11
  go_wp2_with fail
  refine (rahead_any A len cap C f W hl HFS.out).mono ?_
  rintro e w1 ⟨ob, G, rfl, hR⟩
  have HRW := Lib.hid hR
  have HFS1 := Lib.hid (HFS.out.below hR.e)
  have HL0 : Hid (Blk (w1.alloc (.cells (fnC len (fun _ => 0)) 3)) w1.heap.size 3 (fnC len (chG f 0))) := Lib.hid (Blkf.new_at _ _ _ _ rfl)
  have HE0 := Lib.hid (ext_alloc' w1 (.cells (fnC len (fun _ => 0)) 3))
  clear hR
  go_wp2_with fail
  generalize w1.alloc (.cells (fnC len (fun _ => 0)) 3) = w1a at *
  obtain ⟨lb, hlb⟩ : ∃ lb, lb = w1.heap.size := ⟨_, rfl⟩
  rw [← hlb] at HL0 ⊢
  have HLB : Hid (w1.heap.size ≤ lb) := Lib.hid (Nat.le_of_eq hlb.symm)
  clear hlb hmk
  go_loopw [5, 16] (fun n i wr => ∃ k : Nat, k ≤ len ∧ i = .int .i64 (k : Int) ∧ n = .int .i64 (chB f k : Int) ∧ Ext w1 wr ∧ Blk wr lb 3 (fnC len (chG f k))) (fun _ i _ => len - (intOf i).toNat)
  case atStart => exact ⟨0, by omega, rfl, rfl, HE0.out, HL0.out⟩
  clear HL0 HE0
  case round =>
    obtain ⟨i, hi, rfl, rfl, hE, hB⟩ := hrel
    have HE := Lib.hid hE
    have HLG := Lib.hid hB
    clear hE hB
    by_cases hil : i < len
    · obtain ⟨b, o, rfl, hbl, hcc⟩ := HFS1.out (by omega)
      have hii : (i : Int) < (len : Int) := by omega
      have c1 : wr.cell? ⟨b, o + i * 16 + 1, none⟩ = some (.int .i64 (f i).node) := (HE.out.cell (p := ⟨b, o + i * 16 + 1, none⟩) hbl).trans ((hcc i hil).1 1 _ (by rw [Array.getElem?_toList]; exact (hcc i hil).2.node))
      have bl : b < wr.heap.size := Nat.lt_of_lt_of_le hbl HE.out.size
      clear hcc hbl
      rcases ok3 (f i) with ⟨h1, ho⟩ | ⟨h1, h2, ho⟩ | ⟨h1, h2, ho⟩
      · have h3 : (f i).node < 0 := by omega
        clear h1
        have HGE : Hid (chG f (i + 1) = chG f i) := Lib.hid (by rw [chG, if_neg (by rw [ho]; decide)])
        have HBE : Hid (chB f (i + 1) = chB f i) := Lib.hid (by rw [chB, if_neg (by rw [ho]; decide)])
        go_wp2_with fail
        go_roundw
        case rel => exact ⟨i + 1, hil, by go_num, by rw [HBE.out], HE.out, by rw [HGE.out]; exact HLG.out⟩
        case measure => simp [intOf]; omega
      · have h3 : ¬ (f i).node < 0 := by omega
        have h4 : 15 < (f i).node := by omega
        clear h1 h2
        have HGE : Hid (chG f (i + 1) = chG f i) := Lib.hid (by rw [chG, if_neg (by rw [ho]; decide)])
        have HBE : Hid (chB f (i + 1) = chB f i) := Lib.hid (by rw [chB, if_neg (by rw [ho]; decide)])
        go_wp2_with fail
        go_roundw
        case rel => exact ⟨i + 1, hil, by go_num, by rw [HBE.out], HE.out, by rw [HGE.out]; exact HLG.out⟩
        case measure => simp [intOf]; omega
      · have h3 : ¬ (f i).node < 0 := by omega
        have h4 : ¬ 15 < (f i).node := by omega
        clear h1 h2
        have HG : Hid (∀ j, chG f i j ≤ i) := Lib.hid (HGL.out i)
        have HR : Hid (∀ k, chR f i (chG f i) k ≤ i) := Lib.hid (HRL.out i i (chG f i) HG.out)
        have HB : Hid (chB f i ≤ i) := Lib.hid (HBL.out i)
        have HG1 : Hid (updN (chG f i) i (chR f i (chG f i) i + 1) = chG f (i + 1)) := Lib.hid (by rw [chG, if_pos ho])
        have HB2 : Hid (max (chB f i) (chR f i (chG f i) i + 1) = chB f (i + 1)) := Lib.hid (by rw [chB, if_pos ho])
        have HZ : Hid (0 = chR f i (chG f i) 0) := Lib.hid (by rw [show chR f i (chG f i) 0 = chG f i i from rfl, chG_zero f i i (Nat.le_refl _)])
        have HST : Hid (∀ k, k < i → chR f i (chG f i) (k + 1) = if ancG f len i k then max (chR f i (chG f i) k) (chG f i k) else chR f i (chG f i) k) := Lib.hid (fun k hk => by rw [chR, chain_anc hk hil ho])
        have oc : wr.cell? ⟨ob, i, none⟩ = some (.slice (some ⟨G i, 0, none⟩) len len) := (HE.out.cell (p := ⟨ob, i, none⟩) HRW.out.out.lt).trans ((HRW.out.out.cell i).trans ((vC_get _ hil).trans (by unfold outV; rw [if_pos hil])))
        have ol : ob < wr.heap.size := Nat.lt_of_lt_of_le HRW.out.out.lt HE.out.size
        have gl : G i < wr.heap.size := Nat.lt_of_lt_of_le (HRW.out.row i hil).lt HE.out.size
        have ll := HLG.out.lt
        have lf := Blk.frozen HLG.out i
        have lc := (HLG.out.cell i).trans (fnC_get _ hil)
        generalize chG f i = gg at *
        generalize chB f i = bb at *
        go_wp2_with fail
        go_loopw [7, 8] (fun m q wx => ∃ k : Nat, k ≤ i ∧ q = .int .i64 (k : Int) ∧ m = .int .i64 (chR f i gg k : Int) ∧ wx = wr) (fun _ q _ => i - (intOf q).toNat)
        case atStart => exact ⟨0, by omega, rfl, by rw [← HZ.out]; rfl, rfl⟩
        case round =>
          obtain ⟨k, hk, rfl, rfl, rfl⟩ := hrel
          by_cases hki : k < i
          · have hkl : k < len := by omega
            have hik : (k : Int) < (i : Int) := by omega
            have hkk : (k : Int) < (len : Int) := by omega
            have gc := (HE.out.cell (p := ⟨G i, k, none⟩) (HRW.out.row i hil).lt).trans (((HRW.out.row i hil).cell k).trans (vC_get _ hkl))
            have lk := (HLG.out.cell k).trans (fnC_get _ hkl)
            have hst := HST.out k hki
            cases hg : ancG f len i k with
            | true =>
              rw [hg] at gc
              rw [hg, if_pos rfl] at hst
              have HK := Lib.hid hst
              clear hst
              generalize chR f i gg k = r at *
              go_wp2_with fail
              go_roundw
              case rel => exact ⟨k + 1, by omega, by go_num, by rw [HK.out]; congr 1; omega, trivial⟩
              case measure => simp [intOf]; omega
            | false =>
              rw [hg] at gc
              rw [hg, if_neg (by decide)] at hst
              have HK := Lib.hid hst
              clear hst lk
              go_wp2_with fail
              go_roundw
              case rel => exact ⟨k + 1, by omega, by go_num, by rw [HK.out], trivial⟩
              case measure => simp [intOf]; omega
          · obtain rfl : k = i := by omega
            have HRR := HR.out k
            generalize chR f k gg k = r at *
            have hadd : IntKind.i64.wrap ((r : Int) + 1) = ((r + 1 : Nat) : Int) := by rw [IntKind.wrap_i64]; omega
            have HF : Hid (Ext w1 (wr.setCell ⟨lb, k, none⟩ (.int .i64 ((r + 1 : Nat) : Int))) ∧ Blk (wr.setCell ⟨lb, k, none⟩ (.int .i64 ((r + 1 : Nat) : Int))) lb 3 (fnC len (chG f (k + 1)))) := Lib.hid (by
              have h1 := HLG.out.set_ k (.int .i64 ((r + 1 : Nat) : Int))
              rw [fnC_upd _ hil, HG1.out] at h1
              exact ⟨HE.out.setCell (p := ⟨lb, k, none⟩) HLB.out _, h1⟩)
            have HMX : Hid (max bb (r + 1) = chB f (k + 1)) := HB2
            generalize r + 1 = r1 at *
            go_wp2_with fail
            go_roundw
            case rel => exact ⟨k + 1, hil, by go_num, by rw [← HMX.out]; congr 1; omega, HF.out.1, HF.out.2⟩
            case measure => simp [intOf]; omega
    · obtain rfl : len = i := by omega
      go_wp2_with fail
      go_ret
      exact ⟨rfl, Below.trans HRW.out.e (HE.out.mono HRW.out.e.size)⟩
end Go.Proofs.YtocjapnagggapaaDoor
