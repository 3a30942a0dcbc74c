/- A memory: Page, SetPage. -/
import Derived.Test.YtgdebfpepbomiaaPhyD
import Derived.Laws.AppendOwn
import Derived.Laws.MakeOwn
import Derived.Laws.OwnMore
namespace Go.Proofs.Ytgdebfpepbomiaa
open Go.RowKit

theorem clone_pg (p : Nat) (l : List Nat) (W : World) (h : PgAt W p l) :
    Calls Try.prog 20 #[.slice (some ⟨p, 0, none⟩) 4096 4096] W (RetOwn l W) := by
  obtain ⟨i0, hi0, hz0, hz1, hz2⟩ := info_parts info5
  have hl := h.1
  have HR := Lib.hid (reads_bts h.bts)
  rw [hl] at HR
  have HL := Lib.hid hl
  clear h hl
  have hnil := fun (W : World) (l c : Nat) => slice_eq_nil (P := Try.prog) W 29 5 (some ⟨p, 0, none⟩) l c Try.underlying29
  go_enter Try.func20, Try.ntmps20
  go_wp2_with (at_builtin; refine wpList_append_any _ rfl (.tmp 5) (.tmp 6) _ rfl W.heap.size 5 i0 _ 1 1 Try.underlying29 hi0 hz0 hz1 hz2 rfl (by decide) _ 0 [] rfl (World.ownsRow_made W #[] 0 (Nat.le_refl _) (by unfold maxLen; omega) rfl) W.heap.size (some ⟨p, 0, none⟩) 4096 4096 (l.map bv) rfl (HR.out.alloc (Nat.le_refl _) _) (one_bv l) (by unfold maxLen; omega) (by omega) (by simp) ?_; intro v2 w2 hown hgrow hat; have HO := Lib.hid hown; have HG := Lib.hid hgrow; clear hown hgrow hat)
  go_ret
  have ho := HO.out
  rw [Nat.zero_add, List.nil_append] at ho
  exact ⟨v2, rfl, by rw [HL.out]; exact ho, ((Below.refl _ W).alloc (Nat.le_refl _) _).grown HG.out (by simp) (fun k hk => by cases hk; exact Nat.le_refl _)⟩
/-- A page is handed back: a row of the call's own. -/
def PageR (l : List Nat) (W : World) (e : Ending) (w' : World) : Prop := ∃ v, e = .returned (.tuple #[v, .int .i64 0]) ∧ w'.ownsRow W.heap.size 5 1 v l.length (l.map bv) ∧ Below W.heap.size W w'
theorem frE_ok {n : Nat} {f : Int} (h : frE n f = 0) : ∃ k : Nat, f = (k : Int) ∧ k < n := by
  unfold frE at h
  split at h
  · omega
  · exact ⟨f.toNat, by omega, by omega⟩
theorem made_pg : (madeCells #[Value.int IntKind.u8 0] 4096).toList = zeroL.map bv := by
  rw [toList_madeCells_one]
  unfold zeroL
  rw [List.map_replicate]
  rfl
theorem zpg_list : zpg.toList = zeroL.map bv := by
  unfold zpg
  rw [List.toList_toArray]
theorem zero_len : zeroL.length = 4096 := List.length_replicate
theorem zpg_size : zpg.size = 4096 := by rw [← Array.length_toList, zpg_list, List.length_map, zero_len]
theorem made_pg1 (z : Array Value) (h : z = #[Value.int IntKind.u8 0]) (n : Nat) (hn : n = 4096) : madeCells z n = zpg := by
  subst h hn
  apply Array.toList_inj.1
  rw [made_pg, zpg_list]
theorem make_pg (W : World) : (Instr.makeSlice 29 (.int .i64 4096) (.int .i64 4096)).run Try.prog W = .ok (.slice (some ⟨W.heap.size, 0, none⟩) 4096 4096) (W.alloc (.cells zpg 5)) := by
  obtain ⟨i0, hi0, hz0, hz1, hz2⟩ := info_parts info5
  have h := run_make (P := Try.prog) W 29 5 i0 _ Try.underlying29 hi0 hz0 .i64 .i64 4096 4096 (by decide) (by decide) (by rw [hz2]; decide) (by decide)
  rw [hz1, made_pg1 (Value.int IntKind.u8 0).cells rfl (Int.toNat 4096 * 1) (by decide), show Int.toNat 4096 = 4096 from rfl] at h
  exact h
set_option maxHeartbeats 1000000 in
theorem Page_yes (g n k : Nat) (F : Nat → Prop) (S : Nat → List Nat) (W : World) (h : Mem W g F n S) (hk : k < n) :
    Calls Try.prog 9 #[.pointer (some ⟨g, 0, none⟩), .int .i64 (k : Int)] W (PageR (S k) W) := by
  obtain ⟨mb, loc, K, h, hF⟩ := h
  have hn := h.n2
  have c0 : W.cell? ⟨g, 0, none⟩ = some (.map (some mb)) := h.head.cell 0
  have hl := h.mp.look (k := k) (by omega)
  have HH := Lib.hid h.head
  have he : frE n (k : Int) = 0 := by unfold frE; rw [if_neg (by omega)]
  have HE := Lib.hid he
  by_cases hK : k ∈ K
  · rw [if_pos hK] at hl
    have HP := Lib.hid (h.page k hK)
    unfold ptrV at hl
    generalize S k = l at *
    generalize loc k = p at *
    clear h hF hK he
    go_enter Try.func9, Try.ntmps9
    go_wp2_with fail
    refine (frame_any g _ n k _ HH.out).mono ?_
    rintro e w ⟨rfl, rfl⟩
    rw [HE.out]
    go_wp2_with fail
    refine (clone_pg p l _ HP.out).mono ?_
    rintro e w ⟨v, rfl, ho, hb⟩
    have HO := Lib.hid ho
    have HB := Lib.hid hb
    clear ho hb
    go_wp2_with fail
    go_ret2
    exact ⟨v, rfl, HO.out, HB.out⟩
  · rw [if_neg hK] at hl
    have HZ := Lib.hid (h.zero k hK)
    unfold ptrV at hl
    clear h hF hK he
    have hmk := make_pg
    go_enter Try.func9, Try.ntmps9
    go_wp2_with fail
    refine (frame_any g _ n k _ HH.out).mono ?_
    rintro e w ⟨rfl, rfl⟩
    rw [HE.out]
    go_wp2_with fail
    go_ret2
    refine ⟨_, rfl, ?_, (Below.refl _ _).alloc (Nat.le_refl _) _⟩
    rw [HZ.out]
    rw [zero_len]
    exact ⟨by rw [List.length_map, zero_len], .inr ⟨W.heap.size, 4096, zpg, rfl, Nat.le_refl _, heap_alloc_new W _, by omega, by unfold maxLen; omega, zpg_size, by rw [zpg_list]; exact List.take_of_length_le (by rw [List.length_map, zero_len]; omega)⟩⟩
theorem Page_no (g n : Nat) (f : Int) (v : Value) (W : World) (hb : Blk W g 56 #[v, .int .i64 (n : Int)]) (hf : frE n f = 61) :
    Calls Try.prog 9 #[.pointer (some ⟨g, 0, none⟩), .int .i64 f] W fun e w' => e = .returned (.tuple #[.slice none 0 0, .int .i64 61]) ∧ W = w' := by
  have HH := Lib.hid hb
  have HE := Lib.hid hf
  clear hb hf
  go_enter Try.func9, Try.ntmps9
  go_wp2_with fail
  refine (frame_any g _ n f _ HH.out).mono ?_
  rintro e w ⟨rfl, rfl⟩
  rw [HE.out]
  go_wp2_with fail
  go_ret2
  exact ⟨rfl, rfl⟩
theorem Page_nil (f : Int) (W : World) :
    Calls Try.prog 9 #[.pointer none, .int .i64 f] W fun e w' => e = .returned (.tuple #[.slice none 0 0, .int .i64 1]) ∧ W = w' := by
  go_enter Try.func9, Try.ntmps9
  go_wp2_with fail
  refine (frame_nil f _).mono ?_
  rintro e w ⟨rfl, rfl⟩
  go_wp2_with fail
  go_ret2
  exact ⟨rfl, rfl⟩
end Go.Proofs.Ytgdebfpepbomiaa
