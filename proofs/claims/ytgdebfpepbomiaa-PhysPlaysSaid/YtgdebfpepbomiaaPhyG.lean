/- SetPage. -/
import Derived.Test.YtgdebfpepbomiaaPhyF
import Derived.Laws.CopyOwn
namespace Go.Proofs.Ytgdebfpepbomiaa
open Go.RowKit

def pgV (l : List Nat) : Array Value := (l.map bv).toArray
theorem pgV_list (l : List Nat) : (pgV l).toList = l.map bv := by unfold pgV; rw [List.toList_toArray]
theorem pgV_size {l : List Nat} (h : l.length = 4096) : (pgV l).size = 4096 := by rw [← Array.length_toList, pgV_list, List.length_map, h]
theorem row_pg : rowT Try.prog 59 4096 = true := by kernel_rfl
theorem pgV_row {l : List Nat} (h : l.length = 4096) : rowT Try.prog 59 (pgV l).size = true := by rw [pgV_size h]; exact row_pg
theorem pgV_one (l : List Nat) : (pgV l).all (·.oneCell') = true := by
  unfold pgV
  rw [List.all_toArray, List.all_eq_true]
  exact one_bv l
/-- A page with l at its head. -/
def headL (l : List Nat) : List Nat := l ++ zeroL.drop l.length
theorem headL_length {l : List Nat} (h : l.length ≤ 4096) : (headL l).length = 4096 := by
  unfold headL
  rw [List.length_append, List.length_drop, zero_len]; omega
theorem headL_splice (l : List Nat) : (splice (zeroL.map bv) 0 (l.map bv)).toArray = pgV (headL l) := by
  unfold splice pgV headL
  rw [List.take_zero, List.nil_append, Nat.zero_add, List.length_map, List.map_append, List.map_drop]
theorem headL_lt {l : List Nat} (h : ∀ i, l.getD i 0 < 256) (i : Nat) : (headL l).getD i 0 < 256 := by
  unfold headL
  rw [List.getD_eq_getElem?_getD]
  by_cases hi : i < l.length
  · rw [List.getElem?_append_left hi, ← List.getD_eq_getElem?_getD]; exact h i
  · rw [List.getElem?_append_right (by omega), List.getElem?_drop, ← List.getD_eq_getElem?_getD, zeroL_get]; decide
theorem pg_of_range {w : World} {p : Nat} {l : List Nat} (hl : l.length = 4096) (h : ∀ i, l.getD i 0 < 256) (hr : w.rangeAt p 0 (l.map bv)) (hf : ∀ i, w.frozen? ⟨p, i, none⟩ = false) : PgAt w p l := by
  refine ⟨hl, h, fun i hi => ?_, hf⟩
  have := hr i (bv (l.getD i 0)) (by
    rw [List.getElem?_map, List.getD_eq_getElem?_getD, List.getElem?_eq_getElem (by rw [hl]; exact hi)]
    rfl)
  rw [Nat.zero_add] at this
  exact this
theorem PgAt.there {w : World} {p : Nat} {l : List Nat} (h : PgAt w p l) : w.there p 0 4096 := fun j hj => by
  rw [Nat.zero_add]
  exact ⟨by rw [h.2.2.1 j hj]; rfl, h.2.2.2 j⟩
theorem zero_pg : (∀ w, (zeroValue 59).run Try.prog w = .ok (.agg zpg) w) ∧ (Try.prog.info? 59).map (·.size) = some 4096 := zero_of_info (by kernel_rfl)
theorem size8 : (Try.prog.info? 5).map (·.size) = some 1 := by kernel_rfl
set_option maxHeartbeats 1000000 in
theorem SetPage_any (g n k : Nat) (A : Option Addr) (l : List Nat) (c : Nat) (F : Nat → Prop) (S : Nat → List Nat) (W : World) (h : Mem W g F n S) (hk : k < n) (hA : Bts W A l) (hl : l.length ≤ 4096) :
    Calls Try.prog 8 #[.pointer (some ⟨g, 0, none⟩), .int .i64 (k : Int), .slice A l.length c] W fun e w' => e = .returned (.int .i64 0) ∧ MemTo W g F n (updS S k (headL l)) w' := by
  obtain ⟨mb, loc, K, h, hF⟩ := h
  have HM := Lib.hid h
  have HF := Lib.hid hF
  have HH := Lib.hid h.head
  have HA := Lib.hid hA
  have HR := Lib.hid (reads_bts hA)
  have HE : Hid (frE n (k : Int) = 0) := Lib.hid (by unfold frE; rw [if_neg (by omega)])
  have HK := Lib.hid hk
  have hz := zero_pg.1
  have hl' : ¬ (4096 : Int) < (l.length : Int) := by omega
  have HL := Lib.hid hl
  clear h hF hA hk hl
  go_enter Try.func8, Try.ntmps8
  go_wp2_with fail
  refine (frame_any g _ n k _ HH.out).mono ?_
  rintro e w ⟨rfl, rfl⟩
  rw [HE.out]
  obtain ⟨Z, hZ⟩ : ∃ Z, zeroL.map bv = Z := ⟨_, rfl⟩
  have HZL : Z.length = 4096 := by rw [← hZ, List.length_map, zero_len]
  have HZ := Lib.hid hZ
  clear hZ
  have hn : (l.map bv).length = Nat.min l.length 4096 := by rw [List.length_map]; exact (Nat.min_eq_left HL.out).symm
  have hfit : 0 + (l.map bv).length ≤ Z.length := by rw [List.length_map, HZL]; have := HL.out; omega
  have hpos : 0 < (l.map bv).length → ∃ ad, A = some ad ∧ ∀ j v, (l.map bv)[j]? = some v → (W.alloc (.cells zpg 59)).cell? (ad.add j) = some v := fun h0 => by
    obtain ⟨ad, e, _, hc⟩ := (HR.out.alloc (Nat.le_refl _) (.cells zpg 59)).2 (by simpa using h0)
    exact ⟨ad, e, hc⟩
  have HN := Lib.hid hn
  have HFI := Lib.hid hfit
  have HPO := Lib.hid hpos
  clear hn hfit hpos HZL
  go_wp2_with ((with_reducible refine wpList_copy_splice rfl (.tmp 18) (.tmp 19) _ _ rfl 5 Try.underlying29 size8 _ _ 4096 4096 l.length c ?_ ?_ W.heap.size 0 Z 59 ?_ (l.map bv) HN.out (fun h0 => ⟨rfl, HPO.out h0⟩) HFI.out ?_ W.heap.size W ?_ ?_ ?_); exact rfl; exact rfl; rw [← HZ.out]; exact heap_alloc_new W _; exact one_bv l; exact (Below.refl _ _).alloc (Nat.le_refl _) _; exact Nat.le_refl _; intro w2 hw2 hb2; rw [← HZ.out, headL_splice] at hw2; have HW2 := Lib.hid hw2; have HB2 := Lib.hid hb2; clear hw2 hb2)
  have hM2 := HM.out.below HB2.out
  have HM2 := Lib.hid (hM2.keeps (F := fun _ => False) (Keeps.refl _ _).drew (fun _ _ h => h))
  have hlen := headL_length HL.out
  have hblk : Blk w2.drew W.heap.size 59 (pgV (headL l)) := HW2.out.out
  have hrg := Blkf.range hblk
  have hrow := pgV_row hlen
  have HRG := Lib.hid hrg
  have hne : ¬ memF g mb loc K W.heap.size := fun h2 => Nat.lt_irrefl _ (HM.out.flt _ h2)
  clear hM2 hblk hrg
  refine wp_region_plan_by (fun u u' => u.rangeAt W.heap.size 0 (pgV (headL l)).toList → u'.rangeAt W.heap.size 0 (pgV (headL l)).toList) ⟨fun _ h => h, fun h k r => k (h r)⟩ [(0, false), (1, false), (3, false), (2, true), (4, false), (5, true)] (by kernel_rfl) (by kernel_rfl) (fun _ d _ _ _ h => by cases d <;> exact h) ?_
  iterate 2 (refine plan_take (v := ?_) rfl (by kernel_rfl) ?_ ?_; rotate_left; (focus (intro w' hw'; go_simp; try with_reducible rfl)); simp only [Act.put, List.setIfInBounds_toArray, List.set_cons_zero, List.set_cons_succ])
  refine plan_take rfl (by kernel_rfl) (fun w' h' => run_load_op 59 (.tmp 8) rfl W.heap.size 0 (pgV (headL l)) rfl (h' HRG.out) hrow) ?_
  simp only [Act.put, List.setIfInBounds_toArray, List.set_cons_zero, List.set_cons_succ]
  refine plan_call rfl (by kernel_rfl) (by go_simp; exact ⟨rfl, rfl⟩) ?_
  refine (own_any g k n (memF g mb loc K) S _ ⟨mb, loc, K, HM2.out, fun _ h => h⟩ HK.out).mono ?_
  rintro e w3 ⟨p, F', rfl, hO, hF', hK⟩
  have HO := Lib.hid hO
  have HF' := Lib.hid hF'
  have HKK := Lib.hid hK
  have hT := Lib.hid hO.page.there
  clear hO hF'
  refine ⟨_, rfl, fun r => range_keeps r hK hne, ?_⟩
  clear hK
  simp only [Act.put, List.setIfInBounds_toArray, List.set_cons_zero, List.set_cons_succ]
  iterate 1 (refine plan_take (v := ?_) rfl (by kernel_rfl) ?_ ?_; rotate_left; (focus (intro w' hw'; go_simp; try with_reducible rfl)); simp only [Act.put, List.setIfInBounds_toArray, List.set_cons_zero, List.set_cons_succ])
  refine plan_last rfl (by kernel_rfl) (by kernel_rfl) (fun K' hK' => ?_)
  refine wo_store 59 (.tmp 25) (.tmp 24) rfl p 0 (pgV (headL l)) rfl rfl (by rw [pgV_size hlen]; exact hT.out) hrow (pgV_one _) ?_
  refine hK' _ _ ?_
  clear hK' K'
  refine plan_end ?_
  simp only [Act.put, List.setIfInBounds_toArray, List.set_cons_zero, List.set_cons_succ]
  go_wp2_with fail
  go_ret
  have hk1 := setCells_keeps p (pgV (headL l)).toList 0 w3
  have hpg : PgAt (w3.setCells p 0 (pgV (headL l)).toList) p (headL l) := by
    refine pg_of_range hlen (headL_lt HA.out.1) ?_ (fun i => ?_)
    · have := World.rangeAt_setCells_same w3 p 0 (pgV (headL l)).toList (by rw [Array.length_toList, pgV_size hlen]; exact hT.out)
      rw [pgV_list] at this ⊢
      exact this
    · rw [World.frozen?_setCells]
      exact HO.out.page.2.2.2 i
  have hsz : W.heap.size ≤ w2.heap.size := HB2.out.size
  refine ⟨rfl, fun b => F' b ∨ F b, (HO.out.turn hk1 hpg).mono (fun b h => .inl h), ?_, ?_⟩
  · rintro b (h | h)
    · rcases HF'.out b h with h | h
      · exact .inl (HF.out b h)
      · exact .inr (Nat.le_trans hsz h)
    · exact .inl h
  · have h1 : Keeps F W w2.drew := (Keeps.of_below HB2.out).drew
    have h2 := h1.trans HKK.out (fun b h => .inl (HF.out b h))
    refine h2.trans hk1 (fun b hb => ?_)
    subst hb
    rcases HF'.out _ HO.out.fp with h | h
    · exact .inl (HF.out _ h)
    · exact .inr (Nat.le_trans hsz h)
end Go.Proofs.Ytgdebfpepbomiaa
