/- Merged texts: PhyD, PhyE, PhyF, PhyG, PhyH, PhyQ, FrA, FrB, FrC. -/
import Derived.Test.YtophcgbddccpeaaGreatSk1
import Derived.Laws.AppendOwn
import Derived.Laws.MakeOwn
import Derived.Laws.OwnMore
import Derived.Laws.CopyOwn
import Derived.Test.YtophcgbddccpeaaGreatSep
import Derived.IntWalk
import Derived.Test.YtophcgbddccpeaaGreatReads
/- A memory: load, Load, Store, Swap. -/
namespace Go.Proofs.YtophcgbddccpeaaGreat
open Go.RowKit

/-- The word of s bytes at an address. -/
def ldV (S : Nat → List Nat) (at_ : Nat) (s : Int) : Nat := getV (S (at_ / 4096)) ((at_ % 4096 : Nat) : Int) s
/-- The bytes of a page with a word in it. -/
def putL (l : List Nat) (p v s : Nat) : List Nat := (List.range 4096).map (fun i => if p ≤ i ∧ i < p + s then byteOf v (i - p) else l.getD i 0)
def stS (S : Nat → List Nat) (at_ : Nat) (s : Int) (v : Nat) : Nat → List Nat := updS S (at_ / 4096) (putL (S (at_ / 4096)) (at_ % 4096) v s.toNat)
theorem putL_length (l : List Nat) (p v s : Nat) : (putL l p v s).length = 4096 := by simp [putL]
theorem putL_get (l : List Nat) (p v s i : Nat) (hi : i < 4096) : (putL l p v s).getD i 0 = if p ≤ i ∧ i < p + s then byteOf v (i - p) else l.getD i 0 := by
  unfold putL
  rw [List.getD_eq_getElem?_getD, List.getElem?_map, List.getElem?_range hi]
  rfl
theorem putL_lt (l : List Nat) (p v s i : Nat) (h : ∀ i : Nat, l.getD i 0 < 256) : (putL l p v s).getD i 0 < 256 := by
  rcases Nat.lt_or_ge i 4096 with hi | hi
  · rw [putL_get _ _ _ _ _ hi]
    split
    · exact byteOf_lt _ _
    · exact h i
  · rw [List.getD_eq_getElem?_getD, List.getElem?_eq_none (by rw [putL_length]; exact hi)]; decide
theorem leNat_zero : ∀ l : List Nat, (∀ i : Nat, l.getD i 0 = 0) → leNat l = 0
  | [], _ => rfl
  | x :: r, h => by
    have h0 : x = 0 := h 0
    have h1 := leNat_zero r (fun i => h (i + 1))
    simp [leNat, h0, h1]
theorem ldV_zero (S : Nat → List Nat) (at_ : Nat) (s : Int) (h : S (at_ / 4096) = zeroL) : ldV S at_ s = 0 := by
  unfold ldV getV
  rw [h]
  refine leNat_zero _ (fun i => ?_)
  rw [List.getD_eq_getElem?_getD, List.getElem?_take]
  split
  · rw [List.getElem?_drop, ← List.getD_eq_getElem?_getD, zeroL_get]
  · rfl
/-- A word that is aligned lies in its page. -/
theorem in_pg {at_ : Nat} {s : Int} (h : alignedB at_ s = true) : sizeB s = true ∧ thereB (4096 : Nat) ((at_ % 4096 : Nat) : Int) s = true := by
  unfold alignedB at h
  simp only [Bool.and_eq_true, beq_iff_eq] at h
  refine ⟨h.1, ?_⟩
  unfold thereB
  rcases size_cases h.1 with rfl | rfl | rfl | rfl <;> simp at h ⊢ <;> (refine ⟨by decide, ?_, ?_, ?_⟩ <;> omega)
theorem chk_ok {n at_ : Nat} {s : Int} (h : chkE n at_ s = 0) : alignedB at_ s = true ∧ at_ / 4096 < n := by
  unfold chkE at h
  split at h
  · omega
  · split at h
    · omega
    · split at h
      · omega
      · rename_i h2 h3
        exact ⟨by simpa using h2, by omega⟩
theorem get_pg (p : Nat) (l : List Nat) (a s : Int) (w : World) (h : PgAt w p l) (ht : thereB (4096 : Nat) a s = true) :
    Calls Tryz.prog 102 #[.slice (some ⟨p, 0, none⟩) 4096 4096, .int .i64 a, .int .i64 s] w fun e w' => e = .returned (.tuple #[.int .u64 (getV l a s : Nat), .bool true]) ∧ w = w' := by
  have hl := h.1
  have := get_yes (some ⟨p, 0, none⟩) l 4096 a s w (by rw [hl]; decide) h.bts (by rw [hl]; exact ht)
  rw [hl] at this
  exact this
set_option maxHeartbeats 1000000 in
theorem load_any (g n at_ : Nat) (s : Int) (F : Nat → Prop) (S : Nat → List Nat) (W : World) (h : Mem W g F n S) (ha : at_ < 18446744073709551616) (hal : alignedB at_ s = true) :
    Calls Tryz.prog 85 #[.pointer (some ⟨g, 0, none⟩), .int .u64 (at_ : Int), .int .i64 s] W fun e w' => e = .returned (.int .u64 (ldV S at_ s : Nat)) ∧ W = w' := by
  obtain ⟨mb, loc, K, h, hF⟩ := h
  have c0 : W.cell? ⟨g, 0, none⟩ = some (.map (some mb)) := h.head.cell 0
  have hl := h.mp.look (k := at_ / 4096) (by omega)
  have hdiv : ((at_ / 4096 : Nat) : Int) = (at_ : Int) / 4096 := by simp
  have hmod : ((at_ % 4096 : Nat) : Int) = (at_ : Int) % 4096 := by simp
  rw [hdiv] at hl
  by_cases hK : at_ / 4096 ∈ K
  · rw [if_pos hK] at hl
    have HP := Lib.hid (h.page _ hK)
    have HV : Hid (ldV S at_ s = getV (S (at_ / 4096)) ((at_ : Int) % 4096) s) := Lib.hid (by rw [← hmod]; rfl)
    have HT := Lib.hid (in_pg hal).2
    rw [hmod] at HT
    unfold ptrV at hl
    generalize S (at_ / 4096) = l at *
    generalize loc (at_ / 4096) = p at *
    clear h hF hK hdiv hmod hal
    go_enter Tryz.func85, Tryz.ntmps85
    go_wp2_with fail
    refine (get_pg p l _ s _ HP.out HT.out).mono ?_
    rintro e w ⟨rfl, rfl⟩
    go_wp2_with fail
    go_ret
    exact ⟨by rw [HV.out]; rfl, rfl⟩
  · rw [if_neg hK] at hl
    have HV := Lib.hid (ldV_zero S at_ s (h.zero _ hK))
    unfold ptrV at hl
    clear h hF hK hdiv hmod hal
    go_enter Tryz.func85, Tryz.ntmps85
    go_wp2_with fail
    go_ret
    exact ⟨by rw [HV.out]; rfl, rfl⟩
def ldR (n : Nat) (S : Nat → List Nat) (at_ : Nat) (s : Int) : Nat := if chkE n at_ s = 0 then ldV S at_ s else 0
set_option maxHeartbeats 1000000 in
theorem Load_any (g n at_ : Nat) (s : Int) (F : Nat → Prop) (S : Nat → List Nat) (W : World) (h : Mem W g F n S) (ha : at_ < 18446744073709551616) :
    Calls Tryz.prog 61 #[.pointer (some ⟨g, 0, none⟩), .int .u64 (at_ : Int), .int .i64 s] W fun e w' => e = .returned (.tuple #[.int .u64 (ldR n S at_ s : Nat), .int .i64 (chkE n at_ s)]) ∧ W = w' := by
  have HM := Lib.hid h
  have HA := Lib.hid ha
  obtain ⟨mb, loc, K, h1, _⟩ := h
  have HH := Lib.hid h1.head
  have HN := Lib.hid h1.n2
  have HR : Hid (ldR n S at_ s = if chkE n at_ s = 0 then ldV S at_ s else 0) := Lib.hid rfl
  have HOK := Lib.hid (fun h => chk_ok (n := n) (at_ := at_) (s := s) h)
  clear h1 ha
  by_cases h0 : chkE n at_ s = 0
  · rw [h0]
    have HE := Lib.hid h0
    clear h0
    go_enter Tryz.func61, Tryz.ntmps61
    go_wp2_with fail
    refine (check_any g _ n at_ s _ HH.out HN.out HA.out).mono ?_
    rintro e w ⟨rfl, rfl⟩
    rw [HE.out]
    go_wp2_with fail
    refine (load_any g n at_ s F S _ HM.out HA.out (HOK.out HE.out).1).mono ?_
    rintro e w ⟨rfl, rfl⟩
    go_wp2_with fail
    go_ret2
    exact ⟨by rw [HR.out, if_pos HE.out]; rfl, rfl⟩
  · have HE := Lib.hid h0
    have hne : (chkE n at_ s != 0) = true := by simp; exact h0
    generalize hz : chkE n at_ s = z at *
    have HZ := Lib.hid hz
    clear h0 hz
    go_enter Tryz.func61, Tryz.ntmps61
    go_wp2_with fail
    refine (check_any g _ n at_ s _ HH.out HN.out HA.out).mono ?_
    rintro e w ⟨rfl, rfl⟩
    rw [HZ.out]
    go_wp2_with fail
    go_ret2
    exact ⟨by rw [HR.out, if_neg HE.out]; rfl, rfl⟩
/-- The memory behind a store; its footprint may have grown by new blocks. -/
def MemTo (W : World) (g : Nat) (F : Nat → Prop) (n : Nat) (S : Nat → List Nat) (w' : World) : Prop := ∃ F', Mem w' g F' n S ∧ (∀ b, F' b → F b ∨ W.heap.size ≤ b) ∧ Keeps F W w'
def stR (n : Nat) (S : Nat → List Nat) (at_ : Nat) (s : Int) (v : Nat) : Nat → List Nat := if chkE n at_ s = 0 then stS S at_ s v else S
theorem put_pg {w w' : World} {p q v s : Nat} {l : List Nat} (h : PgAt w p l) (hp : Puts w w' p q v s) (hq : q + s ≤ 4096) : PgAt w' p (putL l q v s) ∧ Keeps (fun b => b = p) w w' := by
  refine ⟨⟨putL_length _ _ _ _, fun i => putL_lt _ _ _ _ _ h.2.1, fun i hi => ?_, fun i => by rw [hp.frozen]; exact h.2.2.2 i⟩, ⟨hp.grown.os, hp.grown.tape, hp.grown.output, hp.grown.size, fun i hi hne => hp.grown.block i hi (fun e => hne (by injection e))⟩⟩
  rw [putL_get _ _ _ _ _ hi]
  by_cases hin : q ≤ i ∧ i < q + s
  · rw [if_pos hin]
    have := hp.new (i - q) (by omega)
    rw [show q + (i - q) = i by omega] at this
    exact this
  · rw [if_neg hin, hp.old ⟨p, i, none⟩ (by simp; omega)]
    exact h.2.2.1 i hi
set_option maxHeartbeats 1000000 in
theorem Store_any (g n at_ : Nat) (s : Int) (v : Nat) (F : Nat → Prop) (S : Nat → List Nat) (W : World) (h : Mem W g F n S) (ha : at_ < 18446744073709551616) (hv : v < 18446744073709551616) :
    Calls Tryz.prog 34 #[.pointer (some ⟨g, 0, none⟩), .int .u64 (at_ : Int), .int .i64 s, .int .u64 (v : Int)] W fun e w' => e = .returned (.int .i64 (chkE n at_ s)) ∧ MemTo W g F n (stR n S at_ s v) w' := by
  have HM := Lib.hid h
  have HA := Lib.hid ha
  have HV := Lib.hid hv
  obtain ⟨mb, loc, K, h1, _⟩ := h
  have HH := Lib.hid h1.head
  have HN := Lib.hid h1.n2
  have HR : Hid (stR n S at_ s v = if chkE n at_ s = 0 then stS S at_ s v else S) := Lib.hid rfl
  have HOK := Lib.hid (fun h => chk_ok (n := n) (at_ := at_) (s := s) h)
  clear h1 hv
  by_cases h0 : chkE n at_ s = 0
  · rw [h0]
    have HE := Lib.hid h0
    have HT := Lib.hid (in_pg (HOK.out h0).1)
    have hdiv : (at_ : Int) / 4096 = ((at_ / 4096 : Nat) : Int) := by simp
    have hmod : (at_ : Int) % 4096 = ((at_ % 4096 : Nat) : Int) := by simp
    have HD := Lib.hid hdiv
    have HMO := Lib.hid hmod
    clear h0 hdiv hmod
    go_enter Tryz.func34, Tryz.ntmps34
    go_wp2_with fail
    refine (check_any g _ n at_ s _ HH.out HN.out HA.out).mono ?_
    rintro e w ⟨rfl, rfl⟩
    rw [HE.out]
    go_wp2_with fail
    rw [HD.out]
    refine (own_any g (at_ / 4096) n F S _ HM.out (HOK.out HE.out).2).mono ?_
    rintro e w2 ⟨p, F', rfl, hO, hF', hK⟩
    have HO := Lib.hid hO
    have HF' := Lib.hid hF'
    have HK := Lib.hid hK
    clear hO hF' hK
    go_wp2_with fail
    rw [HMO.out]
    refine (put_yes p 0 4096 4096 ((at_ % 4096 : Nat) : Int) s v w2 HV.out (by decide) (fun i hi => ⟨_, by rw [Nat.zero_add]; exact HO.out.page.2.2.1 i hi⟩) (fun i _ => by rw [Nat.zero_add]; exact HO.out.page.2.2.2 i) HT.out.2).mono ?_
    rintro e w3 ⟨rfl, hp⟩
    have HP := Lib.hid hp
    clear hp
    go_wp2_with fail
    go_ret
    have hs := there_of HT.out.2
    obtain ⟨h1, h2⟩ := put_pg HO.out.page (by have := HP.out; rw [Nat.zero_add, show (((at_ % 4096 : Nat) : Int)).toNat = at_ % 4096 from rfl] at this; exact this) (by have := size_cases hs.1; omega)
    refine ⟨rfl, F', ?_, HF'.out, HK.out.trans h2 (fun i hi => by rw [hi]; exact HF'.out _ HO.out.fp)⟩
    rw [HR.out, if_pos HE.out]
    exact HO.out.turn h2 h1
  · have HE := Lib.hid h0
    have hne : (chkE n at_ s != 0) = true := by simp; exact h0
    generalize hz : chkE n at_ s = z at *
    have HZ := Lib.hid hz
    clear h0 hz
    go_enter Tryz.func34, Tryz.ntmps34
    go_wp2_with fail
    refine (check_any g _ n at_ s _ HH.out HN.out HA.out).mono ?_
    rintro e w ⟨rfl, rfl⟩
    rw [HZ.out]
    go_wp2_with fail
    go_ret
    refine ⟨rfl, F, ?_, fun b hb => .inl hb, Keeps.refl _ _⟩
    rw [HR.out, if_neg HE.out]
    exact HM.out
end Go.Proofs.YtophcgbddccpeaaGreat

/- A memory: Page, SetPage. -/
namespace Go.Proofs.YtophcgbddccpeaaGreat
open Go.RowKit

theorem clone_pg (p : Nat) (l : List Nat) (W : World) (h : PgAt W p l) :
    Calls Tryz.prog 65 #[.slice (some ⟨p, 0, none⟩) 4096 4096] W (RetOwn l W) := by
  obtain ⟨i0, hi0, hz0, hz1, hz2⟩ := info_parts info5
  have hl := h.1
  have HR := Lib.hid (reads_bts h.bts)
  rw [hl] at HR
  have HL := Lib.hid hl
  clear h hl
  have hnil := fun (W : World) (l c : Nat) => slice_eq_nil (P := Tryz.prog) W 22 5 (some ⟨p, 0, none⟩) l c Tryz.underlying22
  go_enter Tryz.func65, Tryz.ntmps65
  go_wp2_with (at_builtin; refine wpList_append_any _ rfl (.tmp 5) (.tmp 6) _ rfl W.heap.size 5 i0 _ 1 1 Tryz.underlying22 hi0 hz0 hz1 hz2 rfl (by decide) _ 0 [] rfl (World.ownsRow_made W #[] 0 (Nat.le_refl _) (by unfold maxLen; omega) rfl) W.heap.size (some ⟨p, 0, none⟩) 4096 4096 (l.map bv) rfl (HR.out.alloc (Nat.le_refl _) _) (one_bv l) (by unfold maxLen; omega) (by omega) (by simp) ?_; intro v2 w2 hown hgrow hat; have HO := Lib.hid hown; have HG := Lib.hid hgrow; clear hown hgrow hat)
  go_ret
  have ho := HO.out
  rw [Nat.zero_add, List.nil_append] at ho
  exact ⟨v2, rfl, by rw [HL.out]; exact ho, ((Below.refl _ W).alloc (Nat.le_refl _) _).grown HG.out (by simp) (fun k hk => by cases hk; exact Nat.le_refl _)⟩
/-- A page is handed back: a row of the call's own. -/
def PageR (l : List Nat) (W : World) (e : Ending) (w' : World) : Prop := ∃ v, e = .returned (.tuple #[v, .int .i64 0]) ∧ w'.ownsRow W.heap.size 5 1 v l.length (l.map bv) ∧ Below W.heap.size W w'
theorem frE_ok {n : Nat} {f : Int} (h : frE n f = 0) : ∃ k : Nat, f = (k : Int) ∧ k < n := by
  unfold frE at h
  split at h
  · omega
  · exact ⟨f.toNat, by omega, by omega⟩
theorem made_pg : (madeCells #[Value.int IntKind.u8 0] 4096).toList = zeroL.map bv := by
  rw [toList_madeCells_one]
  unfold zeroL
  rw [List.map_replicate]
  rfl
theorem zpg_list : zpg.toList = zeroL.map bv := by
  unfold zpg
  rw [List.toList_toArray]
theorem zero_len : zeroL.length = 4096 := List.length_replicate
theorem zpg_size : zpg.size = 4096 := by rw [← Array.length_toList, zpg_list, List.length_map, zero_len]
theorem made_pg1 (z : Array Value) (h : z = #[Value.int IntKind.u8 0]) (n : Nat) (hn : n = 4096) : madeCells z n = zpg := by
  subst h hn
  apply Array.toList_inj.1
  rw [made_pg, zpg_list]
theorem make_pg (W : World) : (Instr.makeSlice 22 (.int .i64 4096) (.int .i64 4096)).run Tryz.prog W = .ok (.slice (some ⟨W.heap.size, 0, none⟩) 4096 4096) (W.alloc (.cells zpg 5)) := by
  obtain ⟨i0, hi0, hz0, hz1, hz2⟩ := info_parts info5
  have h := run_make (P := Tryz.prog) W 22 5 i0 _ Tryz.underlying22 hi0 hz0 .i64 .i64 4096 4096 (by decide) (by decide) (by rw [hz2]; decide) (by decide)
  rw [hz1, made_pg1 (Value.int IntKind.u8 0).cells rfl (Int.toNat 4096 * 1) (by decide), show Int.toNat 4096 = 4096 from rfl] at h
  exact h
set_option maxHeartbeats 1000000 in
theorem Page_yes (g n k : Nat) (F : Nat → Prop) (S : Nat → List Nat) (W : World) (h : Mem W g F n S) (hk : k < n) :
    Calls Tryz.prog 40 #[.pointer (some ⟨g, 0, none⟩), .int .i64 (k : Int)] W (PageR (S k) W) := by
  obtain ⟨mb, loc, K, h, hF⟩ := h
  have hn := h.n2
  have c0 : W.cell? ⟨g, 0, none⟩ = some (.map (some mb)) := h.head.cell 0
  have hl := h.mp.look (k := k) (by omega)
  have HH := Lib.hid h.head
  have he : frE n (k : Int) = 0 := by unfold frE; rw [if_neg (by omega)]
  have HE := Lib.hid he
  by_cases hK : k ∈ K
  · rw [if_pos hK] at hl
    have HP := Lib.hid (h.page k hK)
    unfold ptrV at hl
    generalize S k = l at *
    generalize loc k = p at *
    clear h hF hK he
    go_enter Tryz.func40, Tryz.ntmps40
    go_wp2_with fail
    refine (frame_any g _ n k _ HH.out).mono ?_
    rintro e w ⟨rfl, rfl⟩
    rw [HE.out]
    go_wp2_with fail
    refine (clone_pg p l _ HP.out).mono ?_
    rintro e w ⟨v, rfl, ho, hb⟩
    have HO := Lib.hid ho
    have HB := Lib.hid hb
    clear ho hb
    go_wp2_with fail
    go_ret2
    exact ⟨v, rfl, HO.out, HB.out⟩
  · rw [if_neg hK] at hl
    have HZ := Lib.hid (h.zero k hK)
    unfold ptrV at hl
    clear h hF hK he
    have hmk := make_pg
    go_enter Tryz.func40, Tryz.ntmps40
    go_wp2_with fail
    refine (frame_any g _ n k _ HH.out).mono ?_
    rintro e w ⟨rfl, rfl⟩
    rw [HE.out]
    go_wp2_with fail
    go_ret2
    refine ⟨_, rfl, ?_, (Below.refl _ _).alloc (Nat.le_refl _) _⟩
    rw [HZ.out]
    rw [zero_len]
    exact ⟨by rw [List.length_map, zero_len], .inr ⟨W.heap.size, 4096, zpg, rfl, Nat.le_refl _, heap_alloc_new W _, by omega, by unfold maxLen; omega, zpg_size, by rw [zpg_list]; exact List.take_of_length_le (by rw [List.length_map, zero_len]; omega)⟩⟩
theorem Page_no (g n : Nat) (f : Int) (v : Value) (W : World) (hb : Blk W g 108 #[v, .int .i64 (n : Int)]) (hf : frE n f = 61) :
    Calls Tryz.prog 40 #[.pointer (some ⟨g, 0, none⟩), .int .i64 f] W fun e w' => e = .returned (.tuple #[.slice none 0 0, .int .i64 61]) ∧ W = w' := by
  have HH := Lib.hid hb
  have HE := Lib.hid hf
  clear hb hf
  go_enter Tryz.func40, Tryz.ntmps40
  go_wp2_with fail
  refine (frame_any g _ n f _ HH.out).mono ?_
  rintro e w ⟨rfl, rfl⟩
  rw [HE.out]
  go_wp2_with fail
  go_ret2
  exact ⟨rfl, rfl⟩
theorem Page_nil (f : Int) (W : World) :
    Calls Tryz.prog 40 #[.pointer none, .int .i64 f] W fun e w' => e = .returned (.tuple #[.slice none 0 0, .int .i64 1]) ∧ W = w' := by
  go_enter Tryz.func40, Tryz.ntmps40
  go_wp2_with fail
  refine (frame_nil f _).mono ?_
  rintro e w ⟨rfl, rfl⟩
  go_wp2_with fail
  go_ret2
  exact ⟨rfl, rfl⟩
end Go.Proofs.YtophcgbddccpeaaGreat

/- A nil memory; what SetPage says no to. -/
namespace Go.Proofs.YtophcgbddccpeaaGreat
open Go.RowKit

theorem Load_nil (a s : Int) (W : World) :
    Calls Tryz.prog 61 #[.pointer none, .int .u64 a, .int .i64 s] W fun e w' => e = .returned (.tuple #[.int .u64 0, .int .i64 1]) ∧ W = w' := by
  go_enter Tryz.func61, Tryz.ntmps61
  go_wp2_with fail
  refine (check_nil a s _).mono ?_
  rintro e w ⟨rfl, rfl⟩
  go_wp2_with fail
  go_ret2
  exact ⟨rfl, rfl⟩
theorem Store_nil (a s v : Int) (W : World) :
    Calls Tryz.prog 34 #[.pointer none, .int .u64 a, .int .i64 s, .int .u64 v] W fun e w' => e = .returned (.int .i64 1) ∧ W = w' := by
  go_enter Tryz.func34, Tryz.ntmps34
  go_wp2_with fail
  refine (check_nil a s _).mono ?_
  rintro e w ⟨rfl, rfl⟩
  go_wp2_with fail
  go_ret
  exact ⟨rfl, rfl⟩
theorem SetPage_nil (f : Int) (v : Value) (W : World) :
    Calls Tryz.prog 46 #[.pointer none, .int .i64 f, v] W fun e w' => e = .returned (.int .i64 1) ∧ W = w' := by
  go_enter Tryz.func46, Tryz.ntmps46
  go_wp2_with fail
  refine (frame_nil f _).mono ?_
  rintro e w ⟨rfl, rfl⟩
  go_wp2_with fail
  go_ret
  exact ⟨rfl, rfl⟩
theorem SetPage_no (g n : Nat) (f : Int) (u v : Value) (W : World) (hb : Blk W g 108 #[u, .int .i64 (n : Int)]) (hf : frE n f = 61) :
    Calls Tryz.prog 46 #[.pointer (some ⟨g, 0, none⟩), .int .i64 f, v] W fun e w' => e = .returned (.int .i64 61) ∧ W = w' := by
  have HH := Lib.hid hb
  have HE := Lib.hid hf
  clear hb hf
  go_enter Tryz.func46, Tryz.ntmps46
  go_wp2_with fail
  refine (frame_any g _ n f _ HH.out).mono ?_
  rintro e w ⟨rfl, rfl⟩
  rw [HE.out]
  go_wp2_with fail
  go_ret
  exact ⟨rfl, rfl⟩
theorem SetPage_much (g n : Nat) (f : Int) (u : Value) (A : Option Addr) (l c : Nat) (W : World) (hb : Blk W g 108 #[u, .int .i64 (n : Int)]) (hf : frE n f = 0) (hl : 4096 < l) :
    Calls Tryz.prog 46 #[.pointer (some ⟨g, 0, none⟩), .int .i64 f, .slice A l c] W fun e w' => e = .returned (.int .i64 2) ∧ W = w' := by
  have HH := Lib.hid hb
  have HE := Lib.hid hf
  have hl' : (4096 : Int) < (l : Int) := by omega
  clear hb hf
  go_enter Tryz.func46, Tryz.ntmps46
  go_wp2_with fail
  refine (frame_any g _ n f _ HH.out).mono ?_
  rintro e w ⟨rfl, rfl⟩
  rw [HE.out]
  go_wp2_with fail
  go_ret
  exact ⟨rfl, rfl⟩
end Go.Proofs.YtophcgbddccpeaaGreat

/- SetPage. -/
namespace Go.Proofs.YtophcgbddccpeaaGreat
open Go.RowKit

def pgV (l : List Nat) : Array Value := (l.map bv).toArray
theorem pgV_list (l : List Nat) : (pgV l).toList = l.map bv := by unfold pgV; rw [List.toList_toArray]
theorem pgV_size {l : List Nat} (h : l.length = 4096) : (pgV l).size = 4096 := by rw [← Array.length_toList, pgV_list, List.length_map, h]
theorem row_pg : rowT Tryz.prog 148 4096 = true := by kernel_rfl
theorem pgV_row {l : List Nat} (h : l.length = 4096) : rowT Tryz.prog 148 (pgV l).size = true := by rw [pgV_size h]; exact row_pg
theorem pgV_one (l : List Nat) : (pgV l).all (·.oneCell') = true := by
  unfold pgV
  rw [List.all_toArray, List.all_eq_true]
  exact one_bv l
/-- A page with l at its head. -/
def headL (l : List Nat) : List Nat := l ++ zeroL.drop l.length
theorem headL_length {l : List Nat} (h : l.length ≤ 4096) : (headL l).length = 4096 := by
  unfold headL
  rw [List.length_append, List.length_drop, zero_len]; omega
theorem headL_splice (l : List Nat) : (splice (zeroL.map bv) 0 (l.map bv)).toArray = pgV (headL l) := by
  unfold splice pgV headL
  rw [List.take_zero, List.nil_append, Nat.zero_add, List.length_map, List.map_append, List.map_drop]
theorem headL_lt {l : List Nat} (h : ∀ i, l.getD i 0 < 256) (i : Nat) : (headL l).getD i 0 < 256 := by
  unfold headL
  rw [List.getD_eq_getElem?_getD]
  by_cases hi : i < l.length
  · rw [List.getElem?_append_left hi, ← List.getD_eq_getElem?_getD]; exact h i
  · rw [List.getElem?_append_right (by omega), List.getElem?_drop, ← List.getD_eq_getElem?_getD, zeroL_get]; decide
theorem pg_of_range {w : World} {p : Nat} {l : List Nat} (hl : l.length = 4096) (h : ∀ i, l.getD i 0 < 256) (hr : w.rangeAt p 0 (l.map bv)) (hf : ∀ i, w.frozen? ⟨p, i, none⟩ = false) : PgAt w p l := by
  refine ⟨hl, h, fun i hi => ?_, hf⟩
  have := hr i (bv (l.getD i 0)) (by
    rw [List.getElem?_map, List.getD_eq_getElem?_getD, List.getElem?_eq_getElem (by rw [hl]; exact hi)]
    rfl)
  rw [Nat.zero_add] at this
  exact this
theorem PgAt.there {w : World} {p : Nat} {l : List Nat} (h : PgAt w p l) : w.there p 0 4096 := fun j hj => by
  rw [Nat.zero_add]
  exact ⟨by rw [h.2.2.1 j hj]; rfl, h.2.2.2 j⟩
theorem zero_pg : (∀ w, (zeroValue 148).run Tryz.prog w = .ok (.agg zpg) w) ∧ (Tryz.prog.info? 148).map (·.size) = some 4096 := zero_of_info (by kernel_rfl)
theorem size8 : (Tryz.prog.info? 5).map (·.size) = some 1 := by kernel_rfl
set_option maxRecDepth 100000 in
set_option maxHeartbeats 1000000 in
theorem SetPage_any (g n k : Nat) (A : Option Addr) (l : List Nat) (c : Nat) (F : Nat → Prop) (S : Nat → List Nat) (W : World) (h : Mem W g F n S) (hk : k < n) (hA : Bts W A l) (hl : l.length ≤ 4096) :
    Calls Tryz.prog 46 #[.pointer (some ⟨g, 0, none⟩), .int .i64 (k : Int), .slice A l.length c] W fun e w' => e = .returned (.int .i64 0) ∧ MemTo W g F n (updS S k (headL l)) w' := by
  obtain ⟨mb, loc, K, h, hF⟩ := h
  have HM := Lib.hid h
  have HF := Lib.hid hF
  have HH := Lib.hid h.head
  have HA := Lib.hid hA
  have HR := Lib.hid (reads_bts hA)
  have HE : Hid (frE n (k : Int) = 0) := Lib.hid (by unfold frE; rw [if_neg (by omega)])
  have HK := Lib.hid hk
  have hz := zero_pg.1
  have hl' : ¬ (4096 : Int) < (l.length : Int) := by omega
  have HL := Lib.hid hl
  clear h hF hA hk hl
  go_enter Tryz.func46, Tryz.ntmps46
  go_wp2_with fail
  refine (frame_any g _ n k _ HH.out).mono ?_
  rintro e w ⟨rfl, rfl⟩
  rw [HE.out]
  obtain ⟨Z, hZ⟩ : ∃ Z, zeroL.map bv = Z := ⟨_, rfl⟩
  have HZL : Z.length = 4096 := by rw [← hZ, List.length_map, zero_len]
  have HZ := Lib.hid hZ
  clear hZ
  have hn : (l.map bv).length = Nat.min l.length 4096 := by rw [List.length_map]; exact (Nat.min_eq_left HL.out).symm
  have hfit : 0 + (l.map bv).length ≤ Z.length := by rw [List.length_map, HZL]; have := HL.out; omega
  have hpos : 0 < (l.map bv).length → ∃ ad, A = some ad ∧ ∀ j v, (l.map bv)[j]? = some v → (W.alloc (.cells zpg 148)).cell? (ad.add j) = some v := fun h0 => by
    obtain ⟨ad, e, _, hc⟩ := (HR.out.alloc (Nat.le_refl _) (.cells zpg 148)).2 (by simpa using h0)
    exact ⟨ad, e, hc⟩
  have HN := Lib.hid hn
  have HFI := Lib.hid hfit
  have HPO := Lib.hid hpos
  clear hn hfit hpos HZL
  go_wp2_with ((with_reducible refine wpList_copy_splice rfl (.tmp 18) (.tmp 19) _ _ rfl 5 Tryz.underlying22 size8 _ _ 4096 4096 l.length c ?_ ?_ W.heap.size 0 Z 148 ?_ (l.map bv) HN.out (fun h0 => ⟨rfl, HPO.out h0⟩) HFI.out ?_ W.heap.size W ?_ ?_ ?_); exact rfl; exact rfl; rw [← HZ.out]; exact heap_alloc_new W _; exact one_bv l; exact (Below.refl _ _).alloc (Nat.le_refl _) _; exact Nat.le_refl _; intro w2 hw2 hb2; rw [← HZ.out, headL_splice] at hw2; have HW2 := Lib.hid hw2; have HB2 := Lib.hid hb2; clear hw2 hb2)
  have hM2 := HM.out.below HB2.out
  have HM2 := Lib.hid (hM2.keeps (F := fun _ => False) (Keeps.refl _ _).drew (fun _ _ h => h))
  have hlen := headL_length HL.out
  have hblk : Blk w2.drew W.heap.size 148 (pgV (headL l)) := HW2.out.out
  have hrg := Blkf.range hblk
  have hrow := pgV_row hlen
  have HRG := Lib.hid hrg
  have hne : ¬ memF g mb loc K W.heap.size := fun h2 => Nat.lt_irrefl _ (HM.out.flt _ h2)
  clear hM2 hblk hrg
  refine wp_region_plan_by (fun u u' => u.rangeAt W.heap.size 0 (pgV (headL l)).toList → u'.rangeAt W.heap.size 0 (pgV (headL l)).toList) ⟨fun _ h => h, fun h k r => k (h r)⟩ [(0, false), (1, false), (3, false), (2, true), (4, false), (5, true)] (by kernel_rfl) (by kernel_rfl) (fun _ d _ _ _ h => by cases d <;> exact h) ?_
  iterate 2 (refine plan_take (v := ?_) rfl (by kernel_rfl) ?_ ?_; rotate_left; (focus (intro w' hw'; try go_simp; try with_reducible rfl)); simp only [Act.put, List.setIfInBounds_toArray, List.set_cons_zero, List.set_cons_succ])
  refine plan_take rfl (by kernel_rfl) (fun w' h' => run_load_op 148 (.tmp 8) rfl W.heap.size 0 (pgV (headL l)) rfl (h' HRG.out) hrow) ?_
  simp only [Act.put, List.setIfInBounds_toArray, List.set_cons_zero, List.set_cons_succ]
  refine plan_call rfl (by kernel_rfl) (by go_simp; exact ⟨rfl, rfl⟩) ?_
  refine (own_any g k n (memF g mb loc K) S _ ⟨mb, loc, K, HM2.out, fun _ h => h⟩ HK.out).mono ?_
  rintro e w3 ⟨p, F', rfl, hO, hF', hK⟩
  have HO := Lib.hid hO
  have HF' := Lib.hid hF'
  have HKK := Lib.hid hK
  have hT := Lib.hid hO.page.there
  clear hO hF'
  refine ⟨_, rfl, fun r => range_keeps r hK hne, ?_⟩
  clear hK
  simp only [Act.put, List.setIfInBounds_toArray, List.set_cons_zero, List.set_cons_succ]
  iterate 1 (refine plan_take (v := ?_) rfl (by kernel_rfl) ?_ ?_; rotate_left; (focus (intro w' hw'; try go_simp; try with_reducible rfl)); simp only [Act.put, List.setIfInBounds_toArray, List.set_cons_zero, List.set_cons_succ])
  refine plan_last rfl (by kernel_rfl) (by kernel_rfl) (fun K' hK' => ?_)
  refine wo_store 148 (.tmp 25) (.tmp 24) rfl p 0 (pgV (headL l)) rfl rfl (by rw [pgV_size hlen]; exact hT.out) hrow (pgV_one _) ?_
  refine hK' _ _ ?_
  clear hK' K'
  refine plan_end ?_
  simp only [Act.put, List.setIfInBounds_toArray, List.set_cons_zero, List.set_cons_succ]
  go_wp2_with fail
  go_ret
  have hk1 := setCells_keeps p (pgV (headL l)).toList 0 w3
  have hpg : PgAt (w3.setCells p 0 (pgV (headL l)).toList) p (headL l) := by
    refine pg_of_range hlen (headL_lt HA.out.1) ?_ (fun i => ?_)
    · have := World.rangeAt_setCells_same w3 p 0 (pgV (headL l)).toList (by rw [Array.length_toList, pgV_size hlen]; exact hT.out)
      rw [pgV_list] at this ⊢
      exact this
    · rw [World.frozen?_setCells]
      exact HO.out.page.2.2.2 i
  have hsz : W.heap.size ≤ w2.heap.size := HB2.out.size
  refine ⟨rfl, fun b => F' b ∨ F b, (HO.out.turn hk1 hpg).mono (fun b h => .inl h), ?_, ?_⟩
  · rintro b (h | h)
    · rcases HF'.out b h with h | h
      · exact .inl (HF.out b h)
      · exact .inr (Nat.le_trans hsz h)
    · exact .inl h
  · have h1 : Keeps F W w2.drew := (Keeps.of_below HB2.out).drew
    have h2 := h1.trans HKK.out (fun b h => .inl (HF.out b h))
    refine h2.trans hk1 (fun b hb => ?_)
    subst hb
    rcases HF'.out _ HO.out.fp with h | h
    · exact .inl (HF.out _ h)
    · exact .inr (Nat.le_trans hsz h)
end Go.Proofs.YtophcgbddccpeaaGreat

/- first. -/
namespace Go.Proofs.YtophcgbddccpeaaGreat
open Go.RowKit

theorem Mem.tight {w : World} {g n : Nat} {F : Nat → Prop} {S : Nat → List Nat} (h : Mem w g F n S) : Mem w g (fun b => F b ∧ b < w.heap.size) n S := by
  obtain ⟨mb, loc, K, h, hF⟩ := h
  exact ⟨mb, loc, K, h, fun b hb => ⟨hF b hb, h.flt b hb⟩⟩
theorem MemTo.tight {W w' : World} {g n B : Nat} {F : Nat → Prop} {S : Nat → List Nat} (h : MemTo W g F n S w') (hF : ∀ b, F b → B ≤ b) (hB : B ≤ W.heap.size) : Mem w' g (fun b => B ≤ b ∧ b < w'.heap.size) n S ∧ Below B W w' ∧ Keeps F W w' := by
  obtain ⟨F', h, h1, h2⟩ := h
  refine ⟨h.tight.mono (fun b hb => ⟨?_, hb.2⟩), h2.below hF hB, h2⟩
  rcases h1 b hb.1 with h | h
  · exact hF b h
  · omega
theorem take2 {l : List Nat} (h : 2 ≤ l.length) : l.take 2 = [l.getD 0 0, l.getD 1 0] := by
  match l, h with
  | a :: b :: r, _ => rfl
theorem cell_of {l : List Nat} {i : Nat} (h : i < l.length) : (l.map bv)[i]? = some (bv (l.getD i 0)) := by
  rw [List.getElem?_map, List.getD_eq_getElem?_getD, List.getElem?_eq_getElem h]
  rfl
theorem first_S : (stR 2 emptyS 4096 8 258 1).getD 0 0 = 2 ∧ (stR 2 emptyS 4096 8 258 1).getD 1 0 = 1 ∧ (stR 2 emptyS 4096 8 258 1).length = 4096 := by
  have e : stR 2 emptyS 4096 8 258 1 = putL zeroL 0 258 8 := by
    unfold stR
    rw [if_pos (by decide)]
    rfl
  rw [e]
  exact ⟨by rw [putL_get _ _ _ _ _ (by decide)]; decide, by rw [putL_get _ _ _ _ _ (by decide)]; decide, putL_length _ _ _ _⟩
theorem first_L : ldR 2 (stR 2 emptyS 4096 8 258) 4096 2 = 258 := by
  unfold ldR
  rw [if_pos (by decide)]
  show getV (stR 2 emptyS 4096 8 258 1) 0 2 = 258
  obtain ⟨h0, h1, h2⟩ := first_S
  show leNat (((stR 2 emptyS 4096 8 258 1).drop 0).take 2) = 258
  rw [List.drop_zero, take2 (by rw [h2]; decide), h0, h1]
  rfl
end Go.Proofs.YtophcgbddccpeaaGreat

/- The plain law: pages set and read, words read. -/
namespace Go.Proofs.YtophcgbddccpeaaGreat
open Go.RowKit

theorem headL_get (l : List Nat) (i : Nat) : (headL l).getD i 0 = if i < l.length then l.getD i 0 else 0 := by
  unfold headL
  rw [List.getD_eq_getElem?_getD]
  by_cases hi : i < l.length
  · rw [List.getElem?_append_left hi, if_pos hi, ← List.getD_eq_getElem?_getD]
  · rw [List.getElem?_append_right (by omega), List.getElem?_drop, ← List.getD_eq_getElem?_getD, zeroL_get, if_neg hi]
theorem getD_set (l : List Nat) (j y i : Nat) (hi : i < l.length) : (l.set j y).getD i 0 = if j = i then y else l.getD i 0 := by
  rw [List.getD_eq_getElem?_getD, List.getElem?_set]
  by_cases e : j = i
  · rw [if_pos e, if_pos e, if_pos (by omega)]; rfl
  · rw [if_neg e, if_neg e, List.getD_eq_getElem?_getD]
theorem list_ext_getD {l m : List Nat} (h : l.length = m.length) (he : ∀ i, i < l.length → l.getD i 0 = m.getD i 0) : l = m := by
  apply List.ext_getElem h
  intro i h1 h2
  have := he i h1
  rwa [List.getD_eq_getElem?_getD, List.getD_eq_getElem?_getD, List.getElem?_eq_getElem h1, List.getElem?_eq_getElem h2] at this
end Go.Proofs.YtophcgbddccpeaaGreat

/- Sets of numbers as maps: the laws for the walk. -/
namespace Go.Proofs.YtophcgbddccpeaaGreat
open Go.RowKit Go.Maps

/-- Block b is a map that holds true at just the numbers of L. -/
def BSet (w : World) (b : Nat) (L : List Int) : Prop := L.Nodup ∧ ∃ D : DataW Unit, w.ownsMap Tryz.prog 3 (plainElem Tryz.prog 4) b L.length D ∧ Maps.size D = L.length ∧
  ∀ f, (Lit.int .i64 f).wf = true → D.atKey (.int .i64 f) (.lit (.bool false)) = .lit (.bool (decide (f ∈ L))) ∧ Maps.has D (.int .i64 f) = decide (f ∈ L)
theorem law : Keyed Tryz.prog 3 := int_keyed Tryz.underlying3
theorem zeroB (w : World) : (zeroValue 4).run Tryz.prog w = .ok (.bool false) w := by kernel_rfl
theorem elemB (x : Bool) : plainElem (H := Unit) Tryz.prog 4 (.bool x) = some (.lit (.bool x), []) := plainElem_bool Tryz.underlying4 x
theorem elemB_inv {v : Value} {y : Bool} {ps : List MemPlace} (h : plainElem (H := Unit) Tryz.prog 4 v = some (.lit (.bool y), ps)) : v = .bool y := by
  unfold plainElem at h
  cases v <;> simp_all [Tryz.underlying4]
theorem BSet.lt {w : World} {b : Nat} {L : List Int} (h : BSet w b L) : b < w.heap.size := by
  obtain ⟨_, D, h, _⟩ := h; exact h.lt
theorem BSet.keep {w w' : World} {b : Nat} {L : List Int} {row : Option Nat} (h : BSet w b L) (hg : w.grownBy w' row) (hne : some b ≠ row) : BSet w' b L := by
  obtain ⟨hn, D, h, r⟩ := h; exact ⟨hn, D, h.kept hg hne, r⟩
theorem BSet.keeps {w w' : World} {b : Nat} {L : List Int} {F : Nat → Prop} (h : BSet w b L) (hg : Keeps F w w') (hne : ¬ F b) : BSet w' b L := by
  obtain ⟨hn, D, h, r⟩ := h; exact ⟨hn, D, hg.map h hne, r⟩
theorem BSet.look {w : World} {b : Nat} {L : List Int} (h : BSet w b L) {f : Int} (hf : (Lit.int .i64 f).wf = true) :
    (Instr.lookup 113 (.map (some b)) (.int .i64 f) false).run Tryz.prog w = .ok (.bool (decide (f ∈ L))) w := by
  obtain ⟨_, D, h, _, hD⟩ := h
  obtain ⟨v, ps, hrun, hv⟩ := h.lookup law Tryz.underlying113 (zeroB w) (elemB false) (keyI hf)
  rw [(hD f hf).1] at hv
  rw [hrun, elemB_inv hv]
theorem BSet.len {w : World} {b : Nat} {L : List Int} (h : BSet w b L) (ty : TypeId) :
    (Builtin.len_ #[113] ty #[.map (some b)]).run Tryz.prog w = .ok (.int .i64 (L.length : Int)) w := by
  obtain ⟨_, D, h, hs, _⟩ := h
  have := h.len (ty := ty) Tryz.underlying113
  rw [hs] at this
  exact this
theorem ownsMap_size {w : World} {b n : Nat} {D : DataW Unit} (h : w.ownsMap Tryz.prog 3 (plainElem Tryz.prog 4) b n D) : w.ownsMap Tryz.prog 3 (plainElem Tryz.prog 4) b (Maps.size D) D := by
  obtain ⟨es, clock, hb, F, hs, rfl⟩ := h
  exact ⟨es, clock, hb, F, by simp [Maps.size, length_sorted], rfl⟩
theorem BSet.new (w : World) : BSet (w.alloc (.map #[] 0)) w.heap.size [] :=
  ⟨by simp, .map [], World.ownsMap_made _ _ _ _, rfl, fun f _ => ⟨by simp [DataW.atKey], by simp [Maps.has]⟩⟩
theorem BSet.put {w : World} {b : Nat} {L : List Int} (h : BSet w b L) {f : Int} (hf : (Lit.int .i64 f).wf = true) (hL : f ∉ L) (hm : L.length < maxLen) :
    ∃ w', (Instr.mapUpdate 113 (.map (some b)) (.int .i64 f) (.bool true)).run Tryz.prog w = .ok () w' ∧ BSet w' b (f :: L) ∧ w.grownBy w' (some b) := by
  obtain ⟨hn, D, h, hs, hD⟩ := h
  obtain ⟨w', hrun, h', hg⟩ := h.update law Tryz.underlying113 hm (keyI hf) (elemB true)
  have hsz : Maps.size (D.put (.int .i64 f) (.lit (.bool true))) = (f :: L).length := by
    rw [Maps.size_put (h.tidy law), (hD f hf).2, hs]
    simp [hL]
  refine ⟨w', hrun, ⟨List.nodup_cons.2 ⟨hL, hn⟩, _, by rw [← hsz]; exact ownsMap_size h', hsz, fun g hg' => ?_⟩, hg⟩
  by_cases e : g = f
  · subst e
    rw [Maps.atKey_put_same h.isMap (isKeyI _), Maps.has_put_same h.isMap (isKeyI _)]
    simp
  · have hne : (Lit.int .i64 g) ≠ .int .i64 f := by intro h; injection h with _ h; exact e h
    rw [Maps.atKey_put_other hne, Maps.has_put_other hne, (hD g hg').1, (hD g hg').2]
    simp [e]
theorem BSet.del {w : World} {b : Nat} {L : List Int} (h : BSet w b L) {f : Int} (hf : (Lit.int .i64 f).wf = true) (hL : f ∈ L) (ty : TypeId) :
    ∃ w', (Builtin.delete_ #[113, 3] ty #[.map (some b), .int .i64 f]).run Tryz.prog w = .ok (.tuple #[]) w' ∧ BSet w' b (L.erase f) ∧ w.grownBy w' (some b) := by
  obtain ⟨hn, D, h, hs, hD⟩ := h
  obtain ⟨w', hrun, h', hg⟩ := h.drop law Tryz.underlying113 (keyI hf) ty
  have hsz : Maps.size (D.del (.int .i64 f)) = (L.erase f).length := by
    have := Maps.size_del (k := .int .i64 f) (h.tidy law)
    rw [(hD f hf).2, hs] at this
    rw [List.length_erase_of_mem hL]
    simp [hL] at this
    omega
  refine ⟨w', hrun, ⟨hn.erase f, _, by rw [← hsz]; exact ownsMap_size h', hsz, fun g hg' => ?_⟩, hg.grown⟩
  by_cases e : g = f
  · subst e
    rw [Maps.atKey_del_same, Maps.has_del_same]
    simp [hn.mem_erase_iff]
  · have hne : (Lit.int .i64 g) ≠ .int .i64 f := by intro h; injection h with _ h; exact e h
    rw [Maps.atKey_del_other hne, Maps.has_del_other hne, (hD g hg').1, (hD g hg').2]
    simp [hn.mem_erase_iff, e]
section
variable {ops : Array Oper} {rest : List Oper} {o : Oper} {a : Act} {Q : Exit → Act → World → Prop}
theorem wpList_bput (w : World) (hg : o.guard = none) (m x v : Operand) (hop : o.op = Op.mapUpdate 113 m x v) (b : Nat) (L : List Int) (f : Int)
    (hm : a.eval m = .map (some b)) (hx : a.eval x = .int .i64 f) (hv : a.eval v = .bool true) (h : BSet w b L) (hf : (Lit.int .i64 f).wf = true) (hL : f ∉ L) (hmax : L.length < maxLen)
    (hK : ∀ w', BSet w' b (f :: L) → w.grownBy w' (some b) → wpList Tryz.prog ops Q rest (a.put o.dst undef) w') : wpList Tryz.prog ops Q (o :: rest) a w := by
  refine wpList_plain hg fun K' hK' => ?_
  obtain ⟨w', hrun, r1, r2⟩ := h.put hf hL hmax
  unfold Oper.wp
  simp [execOp, hop, hm, hx, hv, hrun, Result.andThen]
  exact hK' _ _ (hK w' r1 r2)
end
end Go.Proofs.YtophcgbddccpeaaGreat

/- Contracts of the stock: New, Free, Used, Taken, Take. -/
namespace Go.Proofs.YtophcgbddccpeaaGreat
open Go.RowKit Go.Maps

def iv (x : Int) : Value := .int .i64 x
structure SV where
  first : Int
  next : Int
  end_ : Int
  given : List Int
  taken : List Int
def StockAt (w : World) (sb : Nat) (F : Nat → Prop) (s : SV) : Prop := ∃ v bm, Blk w sb 115 #[.int .i64 s.first, .int .i64 s.next, .int .i64 s.end_, v, .map (some bm)] ∧
  w.ownsRow 0 3 1 v s.given.length (s.given.map iv) ∧ BSet w bm s.taken ∧ F sb ∧ F bm ∧ (∀ g, v.ownBlock = some g → F g) ∧ (∀ g, F g → g < w.heap.size)
theorem StockAt.keeps {w w' : World} {sb : Nat} {F G : Nat → Prop} {s : SV} (h : StockAt w sb F s) (k : Keeps G w w') (hd : ∀ g, F g → ¬ G g) : StockAt w' sb F s := by
  obtain ⟨v, bm, h1, h2, h3, h4, h5, h6, h7⟩ := h
  exact ⟨v, bm, k.blk h1 (hd _ h4), k.row h2 (fun g hg => hd _ (h6 g hg)), h3.keeps k (hd _ h5), h4, h5, h6, fun g hg => Nat.lt_of_lt_of_le (h7 g hg) k.size⟩
theorem StockAt.bound {w : World} {sb : Nat} {F : Nat → Prop} {s : SV} (h : StockAt w sb F s) {g : Nat} (hg : F g) : g < w.heap.size := by
  obtain ⟨_, _, _, _, _, _, _, _, h7⟩ := h; exact h7 g hg

theorem frames_new_no (f n : Int) (W : World) (hf : (Lit.int .i64 f).wf = true) (h : ¬ (0 ≤ f ∧ f ≤ 1048576 ∧ 0 ≤ n ∧ n ≤ 1048576 - f)) :
    Calls Tryz.prog 21 #[.int .i64 f, .int .i64 n] W fun e w' => e = .returned (.tuple #[.pointer none, .int .i64 2]) ∧ W = w' := by
  have hfb := i64_of_wf hf
  by_cases h1 : f < 0
  · have e1 : decide (f < 0) = true := by simpa using h1
    clear h hf hfb h1
    go_enter Tryz.func21, Tryz.ntmps21
    go_wp2
    go_ret2
    exact ⟨rfl, rfl⟩
  have e1 : decide (f < 0) = false := by simpa using h1
  by_cases h2 : 1048576 < f
  · have e2 : decide (1048576 < f) = true := by simpa using h2
    clear h hf hfb h1 h2
    go_enter Tryz.func21, Tryz.ntmps21
    go_wp2
    go_ret2
    exact ⟨rfl, rfl⟩
  have e2 : decide (1048576 < f) = false := by simpa using h2
  by_cases h3 : n < 0
  · have e3 : decide (n < 0) = true := by simpa using h3
    clear h hf hfb h1 h2 h3
    go_enter Tryz.func21, Tryz.ntmps21
    go_wp2
    go_ret2
    exact ⟨rfl, rfl⟩
  have e3 : decide (n < 0) = false := by simpa using h3
  have e4 : decide (1048576 - f < n) = true := by simp; omega
  have f0 : 0 ≤ f := by omega
  have f1 : f ≤ 1048576 := by omega
  clear h hf hfb h1 h2 h3
  go_enter Tryz.func21, Tryz.ntmps21
  go_wp2
  go_ret2
  exact ⟨rfl, rfl⟩
theorem frames_new_yes (f n : Int) (W : World) (h1 : 0 ≤ f) (h2 : f ≤ 1048576) (h3 : 0 ≤ n) (h4 : n ≤ 1048576 - f) :
    Calls Tryz.prog 21 #[.int .i64 f, .int .i64 n] W fun e w' => e = .returned (.tuple #[.pointer (some ⟨W.heap.size + 1, 0, none⟩), .int .i64 0]) ∧
      StockAt w' (W.heap.size + 1) (fun g => g = W.heap.size ∨ g = W.heap.size + 1) ⟨f, f, f + n, [], []⟩ ∧ Below W.heap.size W w' := by
  have e1 : decide (f < 0) = false := by simp; omega
  have e2 : decide (1048576 < f) = false := by simp; omega
  have e3 : decide (n < 0) = false := by simp; omega
  have e4 : decide (1048576 - f < n) = false := by simp; omega
  have hmm := @run_makeMap Tryz.prog
  go_enter Tryz.func21, Tryz.ntmps21
  go_wp2
  go_ret2
  refine ⟨rfl, ⟨.slice none 0 0, W.heap.size, Blkf.new_at _ _ _ _ (by simp), World.ownsRow_nil _ _ _ _, (BSet.new W).keep (World.grownBy_alloc _ _ none) (by simp), .inr rfl, .inl rfl, fun g hg => by simp [Value.ownBlock] at hg, fun g hg => by simp; omega⟩, ?_⟩
  exact ((Below.refl _ W).alloc (Nat.le_refl _) _).alloc (by simp) _

theorem used_nil (W : World) : Calls Tryz.prog 36 #[.pointer none] W fun e w' => e = .returned (.int .i64 0) ∧ W = w' := by
  go_enter Tryz.func36, Tryz.ntmps36
  go_wp2
  go_ret
  exact ⟨rfl, rfl⟩
theorem take_nil (W : World) : Calls Tryz.prog 42 #[.pointer none] W fun e w' => e = .returned (.tuple #[.int .i64 (-1), .int .i64 1]) ∧ W = w' := by
  go_enter Tryz.func42, Tryz.ntmps42
  go_wp2
  go_ret2
  exact ⟨rfl, rfl⟩
theorem give_nil (f : Int) (W : World) : Calls Tryz.prog 66 #[.pointer none, .int .i64 f] W fun e w' => e = .returned (.int .i64 1) ∧ W = w' := by
  go_enter Tryz.func66, Tryz.ntmps66
  go_wp2
  go_ret
  exact ⟨rfl, rfl⟩

theorem used_any (sb : Nat) (F : Nat → Prop) (s : SV) (W : World) (h : StockAt W sb F s) :
    Calls Tryz.prog 36 #[.pointer (some ⟨sb, 0, none⟩)] W fun e w' => e = .returned (.int .i64 (s.taken.length : Int)) ∧ W = w' := by
  obtain ⟨v, bm, hb, _, hm, _⟩ := h
  have c4 : W.cell? ⟨sb, 4, none⟩ = some (.map (some bm)) := hb.cell 4
  have hl := fun ty => hm.len ty
  generalize s.taken.length = q at hl ⊢
  clear hb hm
  go_enter Tryz.func36, Tryz.ntmps36
  go_wp2
  go_ret
  exact ⟨rfl, rfl⟩
theorem row_slice {w : World} {base n : Nat} {e : TypeId} {v : Value} {xs : List Value} (h : w.ownsRow base e 1 v n xs) : ∃ A c, v = .slice A n c := by
  rcases h.2 with ⟨rfl, rfl⟩ | ⟨g, cap, _, rfl, _⟩
  · exact ⟨_, _, rfl⟩
  · exact ⟨_, _, rfl⟩
end Go.Proofs.YtophcgbddccpeaaGreat

/- Contracts of the stock: Take, Give. -/
namespace Go.Proofs.YtophcgbddccpeaaGreat
open Go.RowKit Go.Maps

theorem fwf {f : Int} (h : -9223372036854775808 ≤ f ∧ f ≤ 9223372036854775807) : (Lit.int .i64 f).wf = true := by
  simp [Lit.wf, IntKind.min, IntKind.max, IntKind.signed, IntKind.bits]; omega
def SV.pop (s : SV) (gs : List Int) (f : Int) : SV := ⟨s.first, s.next, s.end_, gs, f :: s.taken⟩
def SV.fresh (s : SV) : SV := ⟨s.first, s.next + 1, s.end_, s.given, s.next :: s.taken⟩
def SV.back (s : SV) (f : Int) : SV := ⟨s.first, s.next, s.end_, s.given ++ [f], s.taken.erase f⟩

theorem take_given (sb : Nat) (F : Nat → Prop) (s : SV) (gs : List Int) (f : Int) (W : World) (h : StockAt W sb F s) (hg : s.given = gs ++ [f]) (hf : (Lit.int .i64 f).wf = true) (hnt : f ∉ s.taken) (hmax : s.taken.length ≤ 1048576) (hlen : gs.length ≤ 1048576) :
    Calls Tryz.prog 42 #[.pointer (some ⟨sb, 0, none⟩)] W fun e w' => e = .returned (.tuple #[.int .i64 f, .int .i64 0]) ∧ StockAt w' sb F (s.pop gs f) ∧ Keeps F W w' := by
  obtain ⟨v, bm, hb, ho, hm, fs, fm, fv, fb⟩ := h
  rw [hg, List.length_append, List.map_append] at ho
  obtain ⟨g, cap, hv, _, hlt⟩ := ho.form (by simp)
  subst hv
  have hcap : gs.length ≤ cap := by
    rcases ho.2 with ⟨h0, _⟩ | ⟨g', cap', cur, h1, _, _, h3, _⟩
    · cases h0
    · injection h1 with _ _ h1; subst h1; simp at h3; omega
  have hcap2 : gs.length + 1 ≤ cap := by
    rcases ho.2 with ⟨h0, _⟩ | ⟨g', cap', cur, h1, _, _, h3, _⟩
    · cases h0
    · injection h1 with _ _ h1; subst h1; simpa using h3
  have c3 : W.cell? ⟨sb, 3, none⟩ = some (.slice (some ⟨g, 0, none⟩) (gs.length + 1) cap) := hb.cell 3
  have c4 : W.cell? ⟨sb, 4, none⟩ = some (.map (some bm)) := hb.cell 4
  have f3 := hb.frozen 3
  have cm : W.cell? ⟨g, gs.length, none⟩ = some (.int .i64 f) := by
    rw [ho.cellAt gs.length (by simp), List.getElem?_append_right (by simp)]; simp [iv]
  have hrow : W.ownsRow 0 3 1 (.slice (some ⟨g, 0, none⟩) gs.length cap) gs.length (gs.map iv) := ownsRow_pop (last := [f].map iv) (by simp) ho
  have nsb : g ≠ sb := fun e => row_ne_blk ho hb (by decide) (by simp [Value.ownBlock, e])
  have nbm : g ≠ bm := fun e => by
    obtain ⟨_, D, hD, _⟩ := hm
    exact row_ne_map ho hD (by simp [Value.ownBlock, e])
  have nms : bm ≠ sb := by
    obtain ⟨_, D, hD, _⟩ := hm
    exact map_ne_blk hD hb
  have K0 := (Keeps.refl (fun k => k = sb ∨ k = bm) W).setCell (p := ⟨sb, 3, none⟩) (.inl (.inl rfl)) (.slice (some ⟨g, 0, none⟩) gs.length cap)
  have HBS := Lib.hid (hm.keeps ((Keeps.refl (fun k => k = sb) W).setCell (p := ⟨sb, 3, none⟩) (.inl rfl) (.slice (some ⟨g, 0, none⟩) gs.length cap)) nms)
  have HB := Lib.hid hb
  have HR := Lib.hid hrow
  have HK := Lib.hid K0
  have HN := Lib.hid (And.intro nsb (And.intro nbm nms))
  have HF := Lib.hid (And.intro fs (And.intro fm (And.intro fv fb)))
  have HM := Lib.hid (show s.taken.length < maxLen by unfold maxLen; omega)
  have HNT := Lib.hid hnt
  have HW := Lib.hid hf
  clear ho hb hm hrow K0 fs fm fv fb hg hnt hf hmax nsb nbm nms
  go_enter Tryz.func42, Tryz.ntmps42
  go_wp2_with (at_mapUpdate; refine wpList_bput _ rfl _ _ _ rfl bm s.taken f rfl rfl rfl HBS.out HW.out HNT.out HM.out ?_; intro w1 hset hgrow; have HS := Lib.hid hset; have HG := Lib.hid hgrow; clear hset hgrow)
  go_ret2
  have K1 := HK.out.grown HG.out (fun k hk => by injection hk with hk; exact .inl (.inr hk.symm))
  obtain ⟨fs, fm, fv, fb⟩ := HF.out
  obtain ⟨nsb, nbm, nms⟩ := HN.out
  refine ⟨rfl, ⟨_, bm, (HB.out.set_ 3 _).grown HG.out (by intro e; injection e with e; exact nms e.symm), K1.row HR.out (fun k hk => by
    have : g = k := by simpa [Value.ownBlock] using hk
    subst this
    rintro (e | e)
    · exact nsb e
    · exact nbm e), HS.out, fs, fm, fun k hk => fv k (by simpa [Value.ownBlock] using hk), fun k hk => Nat.lt_of_lt_of_le (fb k hk) K1.size⟩, K1.mono (fun k hk => by rcases hk with rfl | rfl <;> assumption)⟩

theorem take_next (sb : Nat) (F : Nat → Prop) (s : SV) (W : World) (h : StockAt W sb F s) (hg : s.given = []) (h0 : 0 ≤ s.next) (h1 : s.next < s.end_) (h2 : s.end_ ≤ 1048576) (hnt : s.next ∉ s.taken) (hmax : s.taken.length ≤ 1048576) :
    Calls Tryz.prog 42 #[.pointer (some ⟨sb, 0, none⟩)] W fun e w' => e = .returned (.tuple #[.int .i64 s.next, .int .i64 0]) ∧ StockAt w' sb F s.fresh ∧ Keeps F W w' := by
  obtain ⟨v, bm, hb, ho, hm, fs, fm, fv, fb⟩ := h
  obtain ⟨A, c, rfl⟩ := row_slice ho
  have c1 : W.cell? ⟨sb, 1, none⟩ = some (.int .i64 s.next) := hb.cell 1
  have c2 : W.cell? ⟨sb, 2, none⟩ = some (.int .i64 s.end_) := hb.cell 2
  have c3 : W.cell? ⟨sb, 3, none⟩ = some (.slice A 0 c) := by rw [hb.cell 3, hg]; rfl
  have c4 : W.cell? ⟨sb, 4, none⟩ = some (.map (some bm)) := hb.cell 4
  have f1 := hb.frozen 1
  have hl := hb.lt
  have nms : bm ≠ sb := by
    obtain ⟨_, D, hD, _⟩ := hm
    exact map_ne_blk hD hb
  have nrow : ∀ k, (Value.slice A s.given.length c).ownBlock = some k → k ≠ sb ∧ k ≠ bm := fun k hk => ⟨fun e => row_ne_blk ho hb (by decide) (by rw [hk, e]), fun e => by
    obtain ⟨_, D, hD, _⟩ := hm
    exact row_ne_map ho hD (by rw [hk, e])⟩
  have K0 := ((Keeps.refl (fun k => k = sb ∨ k = bm) W).drew).setCell (p := ⟨sb, 1, none⟩) (.inl (.inl rfl)) (.int .i64 (s.next + 1))
  have HBS := Lib.hid (hm.keeps (((Keeps.refl (fun k => k = sb) W).drew).setCell (p := ⟨sb, 1, none⟩) (.inl rfl) (.int .i64 (s.next + 1))) nms)
  have HB := Lib.hid hb
  have HR := Lib.hid ho
  have HK := Lib.hid K0
  have HN := Lib.hid (And.intro nrow nms)
  have HF := Lib.hid (And.intro fs (And.intro fm (And.intro fv fb)))
  have HM := Lib.hid (show s.taken.length < maxLen by unfold maxLen; omega)
  have HNT := Lib.hid hnt
  have HW := Lib.hid (fwf (f := s.next) (by omega))
  have HV : Hid (s.fresh = s.fresh) := Lib.hid rfl
  have e1 : decide (s.next < s.end_) = true := by simpa using h1
  have h3 : s.next ≤ 1048576 := by omega
  have hw1 : IntKind.i64.wrap (s.next + 1) = s.next + 1 := IntWalk.i64_in _ (by omega)
  clear ho hb hm K0 fs fm fv fb hg hnt hmax nrow nms h1 h2
  go_enter Tryz.func42, Tryz.ntmps42
  go_wp2_with fail
  have s1 := fun W' (h : Ext W.drew W') => (h.cell (p := ⟨sb, 1, none⟩) hl).trans c1
  have s2 := fun W' (h : Ext W.drew W') => (h.cell (p := ⟨sb, 2, none⟩) hl).trans c2
  refine wp_region_plan [(0, false), (1, false), (2, false), (3, false), (4, false), (5, false), (6, false), (7, false), (8, false), (9, false)] (by kernel_rfl) (by kernel_rfl) (fun _ d _ _ _ h => by cases d <;> exact h) ?_
  iterate 10 (refine plan_take (v := ?_) rfl (by kernel_rfl) ?_ ?_; rotate_left; (focus (intro w' hw'; try go_simp; try with_reducible rfl)); simp only [Act.put, List.setIfInBounds_toArray, List.set_cons_zero, List.set_cons_succ])
  clear s1 s2
  refine plan_end ?_
  go_wp2_with (at_mapUpdate; refine wpList_bput _ rfl _ _ _ rfl bm s.taken s.next rfl rfl rfl HBS.out HW.out HNT.out HM.out ?_; intro w1 hset hgrow; have HS := Lib.hid hset; have HG := Lib.hid hgrow; clear hset hgrow)
  go_ret2
  have K1 := HK.out.grown HG.out (fun k hk => by injection hk with hk; exact .inl (.inr hk.symm))
  obtain ⟨fs, fm, fv, fb⟩ := HF.out
  obtain ⟨nrow, nms⟩ := HN.out
  refine ⟨rfl, ⟨_, bm, (HB.out.drew.set_ 1 _).grown HG.out (by intro e; injection e with e; exact nms e.symm), K1.row HR.out (fun k hk => by
    rintro (e | e)
    · exact (nrow k hk).1 e
    · exact (nrow k hk).2 e), HS.out, fs, fm, fv, fun k hk => Nat.lt_of_lt_of_le (fb k hk) K1.size⟩, K1.mono (fun k hk => by rcases hk with rfl | rfl <;> assumption)⟩

theorem take_full (sb : Nat) (F : Nat → Prop) (s : SV) (W : World) (h : StockAt W sb F s) (hg : s.given = []) (h1 : ¬ s.next < s.end_) :
    Calls Tryz.prog 42 #[.pointer (some ⟨sb, 0, none⟩)] W fun e w' => e = .returned (.tuple #[.int .i64 (-1), .int .i64 50]) ∧ StockAt w' sb F s ∧ Keeps F W w' := by
  have HST := Lib.hid h
  obtain ⟨v, bm, hb, ho, hm, fs, fm, fv, fb⟩ := h
  obtain ⟨A, c, rfl⟩ := row_slice ho
  have c1 : W.cell? ⟨sb, 1, none⟩ = some (.int .i64 s.next) := hb.cell 1
  have c2 : W.cell? ⟨sb, 2, none⟩ = some (.int .i64 s.end_) := hb.cell 2
  have c3 : W.cell? ⟨sb, 3, none⟩ = some (.slice A 0 c) := by rw [hb.cell 3, hg]; rfl
  have hl := hb.lt
  have e1 : decide (s.next < s.end_) = false := by simpa using h1
  clear ho hb hm fs fm fv fb hg h1
  go_enter Tryz.func42, Tryz.ntmps42
  go_wp2_with fail
  have s1 := fun W' (h : Ext W.drew W') => (h.cell (p := ⟨sb, 1, none⟩) hl).trans c1
  have s2 := fun W' (h : Ext W.drew W') => (h.cell (p := ⟨sb, 2, none⟩) hl).trans c2
  refine wp_region_plan [(0, false), (1, false), (2, false), (3, false), (4, false), (5, false), (6, false), (7, false), (8, false), (9, false)] (by kernel_rfl) (by kernel_rfl) (fun _ d _ _ _ h => by cases d <;> exact h) ?_
  iterate 10 (refine plan_take (v := ?_) rfl (by kernel_rfl) ?_ ?_; rotate_left; (focus (intro w' hw'; try go_simp; try with_reducible rfl)); simp only [Act.put, List.setIfInBounds_toArray, List.set_cons_zero, List.set_cons_succ])
  clear s1 s2
  refine plan_end ?_
  go_wp2
  go_ret2
  exact ⟨rfl, HST.out.keeps ((Keeps.refl (fun _ => False) W).drew) (fun _ _ h => h), (Keeps.refl F W).drew⟩
end Go.Proofs.YtophcgbddccpeaaGreat
