/- What must be answered ahead of everything else. -/
import Derived.Test.YtkkgigdgbiklmaaDoorMsgC
import Derived.Test.YtkkgigdgbiklmaaDoorMsgE
import Derived.Lib.SlBytesConst
import Derived.Lib.ItoaMem
namespace Go.Proofs.YtkkgigdgbiklmaaDoor
open Go.RowKit

theorem itoa_lt (n : Nat) (h : n < 16) : Lib.itoa (n : Int) = if n < 10 then [UInt8.ofNat (48 + n)] else [49, UInt8.ofNat (48 + n % 10)] := by
  rw [Lib.itoa_nonneg, dec_lt n h]
theorem text_first : textM 4 5 2 1 3 2 = [103, 114, 97, 110, 116, 32, 112, 97, 103, 101, 32, 53, 32, 110, 111, 100, 101, 32, 50, 32, 104, 111, 112, 115, 32, 49, 32, 115, 101, 116, 32, 48, 44, 49, 32, 98, 121, 116, 101, 115, 32, 50] := by
  have e5 : Lib.itoa 5 = [53] := itoa_lt 5 (by decide)
  have e2 : Lib.itoa 2 = [50] := itoa_lt 2 (by decide)
  have e1 : Lib.itoa 1 = [49] := itoa_lt 1 (by decide)
  have e3 : Lib.itoa ((2 : Nat) : Int) = [50] := itoa_lt 2 (by decide)
  have l3 : listN 3 = [0, 1] := by decide
  have et : txtL 3 = [48, 44, 49] := by
    unfold txtL txN
    rw [l3]
    simp only [List.map_cons, List.map_nil, List.flatten_cons, List.flatten_nil, dec_lt 0 (by decide), dec_lt 1 (by decide)]
    rfl
  unfold textM partsM hopsL setL bytL
  rw [e5, e2, e1, e3, et]
  rfl
theorem right_f1 : rightM 1 258 3 0 0 [] = true := by decide
def lF : List Nat := [4, 2, 1, 5, 0, 0, 0, 3, 0, 2, 0, 97, 98]
def lG : List Nat := [4, 2, 1, 5, 0, 0, 0, 3, 0, 2, 0, 97, 0]
theorem right_F : rightL lF = true := by decide
theorem right_G : rightL lG = false := by decide
theorem put_f : putL 1 258 3 0 0 [] = [1, 3, 0, 2, 1, 0, 0, 0, 0, 0, 0] := by decide
theorem bytes_lt {l : List Nat} (h : l.all (· < 256) = true) (i : Nat) : l.getD i 0 < 256 := by
  rw [List.getD_eq_getElem?_getD]
  cases hi : l[i]? with
  | none => decide
  | some x => simpa using List.all_eq_true.1 h x (List.mem_of_getElem? hi)
theorem bts_lit (w : World) (fr : Nat × Nat) (l : List Nat) (hl : ∀ i : Nat, l.getD i 0 < 256) (n : Nat) (hn : n = w.heap.size) : Bts (w.alloc (.cells (l.map bv).toArray 5 fr)) (some ⟨n, 0, none⟩) l := by
  subst hn
  refine ⟨hl, fun _ => ⟨_, _, rfl, fun i hi => ?_⟩⟩
  rw [Nat.zero_add, World.cell?_alloc_mark, List.getElem?_toArray, List.getElem?_map, List.getD_eq_getElem?_getD, List.getElem?_eq_getElem hi]
  rfl
set_option maxRecDepth 100000 in
set_option maxHeartbeats 4000000 in
theorem first15 (W : World) (hF : FW W) : Calls Tryd.prog 7 #[] W fun e w' => e = .returned (.bool true) ∧ Below W.heap.size W w' := by
  have HF := Lib.hid hF
  clear hF
  go_enter Tryd.func7, Tryd.ntmps7
  go_wp2_with fail
  refine (mput_yes 1 258 3 0 0 none [] 0 0 W ⟨fun i => by simp, fun h => by simp at h⟩ rfl right_f1 (by decide)).mono ?_
  rintro e w1 ⟨v, rfl, ho, hb⟩
  rw [put_f] at ho
  obtain ⟨A1, c1, rfl, hB1, _⟩ := bts_own ho (bytes_lt rfl) rfl
  change Bts w1 A1 [1, 3, 0, 2, 1, 0, 0, 0, 0, 0, 0] at hB1
  have HB1 := Lib.hid hB1
  have E1 := Lib.hid hb
  clear ho hb hB1
  simp only [List.length_cons, List.length_nil, Nat.zero_add, Nat.reduceAdd]
  have kc := fun (C : Array Value) (n c : Nat) => Lib.run_convert_bytes_const (P := Tryd.prog) w1 22 5 C n c Tryd.underlying22 Tryd.underlying5
  go_wp2_with fail
  clear kc
  refine Calls.mono (mget_long w1.heap.size 0 lF 13 13 (w1.alloc (.cells (lF.map bv).toArray 5 (13, 14))) rfl (by decide) (by decide) (Nat.le_refl _) (bts_lit w1 (13, 14) lF (bytes_lt rfl) w1.heap.size rfl) (by decide)) ?_
  intro e w2 hm
  unfold GetM at hm
  rw [right_F, if_pos rfl] at hm
  obtain ⟨hb2, A2, c2, rfl, hB2⟩ := hm
  rw [show msV (gK lF : Int) (gP lF : Int) (gN lF : Int) (gH lF : Int) (gS lF) A2 (13 - 11) c2 = .agg #[.int .i64 4, .int .i64 5, .int .i64 2, .int .i64 1, .int .u16 3, .slice A2 2 c2] from rfl]
  change Bts w2 A2 [97, 98] at hB2
  have hb12 : Below w1.heap.size w1 w2 := ((Below.refl _ w1).alloc (Nat.le_refl _) _).trans (hb2.mono (by simp))
  have E2 := Lib.hid (E1.out.trans (hb12.mono E1.out.size))
  have HB1' := Lib.hid (bts_below HB1.out hb12)
  have HB2 := Lib.hid hB2
  clear hb2 hb12 hB2 HB1 E1
  have kc := fun (C : Array Value) (n c : Nat) => Lib.run_convert_bytes_const (P := Tryd.prog) (w2.alloc (.cells #[.int .i64 4, .int .i64 5, .int .i64 2, .int .i64 1, .int .u16 3, .slice A2 2 c2] 27)) 22 5 C n c Tryd.underlying22 Tryd.underlying5
  simp only [World.size_alloc] at kc
  go_wp2_with fail
  clear kc
  have H3 := Lib.hid (show Blk (w2.alloc (.cells #[.int .i64 4, .int .i64 5, .int .i64 2, .int .i64 1, .int .u16 3, .slice A2 2 c2] 27)) w2.heap.size 27 #[.int .i64 4, .int .i64 5, .int .i64 2, .int .i64 1, .int .u16 3, .slice A2 2 c2] from Blkf.new_at _ _ _ _ rfl)
  have E3 := Lib.hid (E2.out.alloc E2.out.size (.cells #[.int .i64 4, .int .i64 5, .int .i64 2, .int .i64 1, .int .u16 3, .slice A2 2 c2] 27))
  have HB1 := Lib.hid (bts_below HB1'.out ((Below.refl _ w2).alloc (Nat.le_refl _) (.cells #[.int .i64 4, .int .i64 5, .int .i64 2, .int .i64 1, .int .u16 3, .slice A2 2 c2] 27)))
  have HB3 := Lib.hid (bts_below HB2.out ((Below.refl _ w2).alloc (Nat.le_refl _) (.cells #[.int .i64 4, .int .i64 5, .int .i64 2, .int .i64 1, .int .u16 3, .slice A2 2 c2] 27)))
  obtain ⟨w3, hw3⟩ : ∃ w3, w3 = w2.alloc (.cells #[.int .i64 4, .int .i64 5, .int .i64 2, .int .i64 1, .int .u16 3, .slice A2 2 c2] 27) := ⟨_, rfl⟩
  have hs3 : w2.heap.size + 1 = w3.heap.size := by rw [hw3]; simp
  rw [← hw3] at H3 E3 HB1 HB3 ⊢
  rw [hs3]
  clear hw3 hs3 HB1' HB2 E2
  obtain ⟨g3, hg3⟩ : ∃ g3, g3 = w2.heap.size := ⟨_, rfl⟩
  rw [← hg3] at H3 ⊢
  clear hg3
  refine Calls.mono (mget_long w3.heap.size 0 lG 13 13 (w3.alloc (.cells (lG.map bv).toArray 5 (13, 14))) rfl (by decide) (by decide) (Nat.le_refl _) (bts_lit w3 (13, 14) lG (bytes_lt rfl) w3.heap.size rfl) (by decide)) ?_
  intro e w4 hm
  unfold GetM at hm
  rw [right_G, if_neg (by decide)] at hm
  obtain ⟨hb4, rfl⟩ := hm
  have hb34 : Below w3.heap.size w3 w4 := ((Below.refl _ w3).alloc (Nat.le_refl _) _).trans (hb4.mono (by simp))
  have hb35 := hb34.alloc hb34.size (.cells #[.int .i64 0, .int .i64 0, .int .i64 0, .int .i64 0, .int .u16 0, .slice none 0 0] 27)
  have E5 := Lib.hid (E3.out.trans (hb35.mono E3.out.size))
  have H5 := Lib.hid (H3.out.below hb35 H3.out.lt)
  have cv1 := conv_bts (c := c1) (n := 11) (bts_below HB1.out hb35) rfl
  have cv2 := conv_bts (c := c2) (n := 2) (bts_below HB3.out hb35) rfl
  have hs1 : ((strB [1, 3, 0, 2, 1, 0, 0, 0, 0, 0, 0]).toList == [1, 3, 0, 2, 1, 0, 0, 0, 0, 0, 0]) = true := by rw [strB, ByteArray.toList_mk]; rfl
  have hs2 : ((strB [97, 98]).toList == [97, 98]) = true := by rw [strB, ByteArray.toList_mk]; rfl
  have m0 := H5.out.cell 0
  have m1 := H5.out.cell 1
  have m2 := H5.out.cell 2
  have m3 := H5.out.cell 3
  have m4 := H5.out.cell 4
  have m5 := H5.out.cell 5
  have ml := H5.out.lt
  simp only [List.getElem?_toArray, List.getElem?_cons_zero, List.getElem?_cons_succ] at m0 m1 m2 m3 m4 m5
  unfold zeroM
  clear hb4 hb34 hb35 E3 H3 HB1 HB3
  go_wp2_with fail
  refine (mtext_any 4 5 2 1 3 A2 2 c2 _ (by decide) (by decide) (by decide) (by decide) (by decide) (HF.out.below E5.out)).mono ?_
  rintro e w6 ⟨rfl, hb6⟩
  rw [text_first]
  have E6 := Lib.hid (E5.out.trans (hb6.mono E5.out.size))
  have hs3 : ((strL [103, 114, 97, 110, 116, 32, 112, 97, 103, 101, 32, 53, 32, 110, 111, 100, 101, 32, 50, 32, 104, 111, 112, 115, 32, 49, 32, 115, 101, 116, 32, 48, 44, 49, 32, 98, 121, 116, 101, 115, 32, 50]).toList == [103, 114, 97, 110, 116, 32, 112, 97, 103, 101, 32, 53, 32, 110, 111, 100, 101, 32, 50, 32, 104, 111, 112, 115, 32, 49, 32, 115, 101, 116, 32, 48, 44, 49, 32, 98, 121, 116, 101, 115, 32, 50]) = true := by rw [strL, ByteArray.toList_mk]; rfl
  clear hb6 cv1 cv2 hs1 hs2 m0 m1 m2 m3 m4 m5 ml H5 E5
  go_wp2_with fail
  go_ret
  exact ⟨rfl, E6.out⟩
end Go.Proofs.YtkkgigdgbiklmaaDoor
