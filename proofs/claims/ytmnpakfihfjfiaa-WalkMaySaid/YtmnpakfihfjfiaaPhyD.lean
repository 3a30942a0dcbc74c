/- A memory: load, Load, Store, Swap. -/
import Derived.Test.YtmnpakfihfjfiaaPhyC
namespace Go.Proofs.Ytmnpakfihfjfiaa
open Go.RowKit

/-- The word of s bytes at an address. -/
def ldV (S : Nat → List Nat) (at_ : Nat) (s : Int) : Nat := getV (S (at_ / 4096)) ((at_ % 4096 : Nat) : Int) s
/-- The bytes of a page with a word in it. -/
def putL (l : List Nat) (p v s : Nat) : List Nat := (List.range 4096).map (fun i => if p ≤ i ∧ i < p + s then byteOf v (i - p) else l.getD i 0)
def stS (S : Nat → List Nat) (at_ : Nat) (s : Int) (v : Nat) : Nat → List Nat := updS S (at_ / 4096) (putL (S (at_ / 4096)) (at_ % 4096) v s.toNat)
theorem putL_length (l : List Nat) (p v s : Nat) : (putL l p v s).length = 4096 := by simp [putL]
theorem putL_get (l : List Nat) (p v s i : Nat) (hi : i < 4096) : (putL l p v s).getD i 0 = if p ≤ i ∧ i < p + s then byteOf v (i - p) else l.getD i 0 := by
  unfold putL
  rw [List.getD_eq_getElem?_getD, List.getElem?_map, List.getElem?_range hi]
  rfl
theorem putL_lt (l : List Nat) (p v s i : Nat) (h : ∀ i : Nat, l.getD i 0 < 256) : (putL l p v s).getD i 0 < 256 := by
  rcases Nat.lt_or_ge i 4096 with hi | hi
  · rw [putL_get _ _ _ _ _ hi]
    split
    · exact byteOf_lt _ _
    · exact h i
  · rw [List.getD_eq_getElem?_getD, List.getElem?_eq_none (by rw [putL_length]; exact hi)]; decide
theorem leNat_zero : ∀ l : List Nat, (∀ i : Nat, l.getD i 0 = 0) → leNat l = 0
  | [], _ => rfl
  | x :: r, h => by
    have h0 : x = 0 := h 0
    have h1 := leNat_zero r (fun i => h (i + 1))
    simp [leNat, h0, h1]
theorem ldV_zero (S : Nat → List Nat) (at_ : Nat) (s : Int) (h : S (at_ / 4096) = zeroL) : ldV S at_ s = 0 := by
  unfold ldV getV
  rw [h]
  refine leNat_zero _ (fun i => ?_)
  rw [List.getD_eq_getElem?_getD, List.getElem?_take]
  split
  · rw [List.getElem?_drop, ← List.getD_eq_getElem?_getD, zeroL_get]
  · rfl
/-- A word that is aligned lies in its page. -/
theorem in_pg {at_ : Nat} {s : Int} (h : alignedB at_ s = true) : sizeB s = true ∧ thereB (4096 : Nat) ((at_ % 4096 : Nat) : Int) s = true := by
  unfold alignedB at h
  simp only [Bool.and_eq_true, beq_iff_eq] at h
  refine ⟨h.1, ?_⟩
  unfold thereB
  rcases size_cases h.1 with rfl | rfl | rfl | rfl <;> simp at h ⊢ <;> (refine ⟨by decide, ?_, ?_, ?_⟩ <;> omega)
theorem chk_ok {n at_ : Nat} {s : Int} (h : chkE n at_ s = 0) : alignedB at_ s = true ∧ at_ / 4096 < n := by
  unfold chkE at h
  split at h
  · omega
  · split at h
    · omega
    · split at h
      · omega
      · rename_i h2 h3
        exact ⟨by simpa using h2, by omega⟩
theorem get_pg (p : Nat) (l : List Nat) (a s : Int) (w : World) (h : PgAt w p l) (ht : thereB (4096 : Nat) a s = true) :
    Calls Try.prog 57 #[.slice (some ⟨p, 0, none⟩) 4096 4096, .int .i64 a, .int .i64 s] w fun e w' => e = .returned (.tuple #[.int .u64 (getV l a s : Nat), .bool true]) ∧ w = w' := by
  have hl := h.1
  have := get_yes (some ⟨p, 0, none⟩) l 4096 a s w (by rw [hl]; decide) h.bts (by rw [hl]; exact ht)
  rw [hl] at this
  exact this
set_option maxHeartbeats 1000000 in
theorem load_any (g n at_ : Nat) (s : Int) (F : Nat → Prop) (S : Nat → List Nat) (W : World) (h : Mem W g F n S) (ha : at_ < 18446744073709551616) (hal : alignedB at_ s = true) :
    Calls Try.prog 55 #[.pointer (some ⟨g, 0, none⟩), .int .u64 (at_ : Int), .int .i64 s] W fun e w' => e = .returned (.int .u64 (ldV S at_ s : Nat)) ∧ W = w' := by
  obtain ⟨mb, loc, K, h, hF⟩ := h
  have c0 : W.cell? ⟨g, 0, none⟩ = some (.map (some mb)) := h.head.cell 0
  have hl := h.mp.look (k := at_ / 4096) (by omega)
  have hdiv : ((at_ / 4096 : Nat) : Int) = (at_ : Int) / 4096 := by simp
  have hmod : ((at_ % 4096 : Nat) : Int) = (at_ : Int) % 4096 := by simp
  rw [hdiv] at hl
  by_cases hK : at_ / 4096 ∈ K
  · rw [if_pos hK] at hl
    have HP := Lib.hid (h.page _ hK)
    have HV : Hid (ldV S at_ s = getV (S (at_ / 4096)) ((at_ : Int) % 4096) s) := Lib.hid (by rw [← hmod]; rfl)
    have HT := Lib.hid (in_pg hal).2
    rw [hmod] at HT
    unfold ptrV at hl
    generalize S (at_ / 4096) = l at *
    generalize loc (at_ / 4096) = p at *
    clear h hF hK hdiv hmod hal
    go_enter Try.func55, Try.ntmps55
    go_wp2_with fail
    refine (get_pg p l _ s _ HP.out HT.out).mono ?_
    rintro e w ⟨rfl, rfl⟩
    go_wp2_with fail
    go_ret
    exact ⟨by rw [HV.out]; rfl, rfl⟩
  · rw [if_neg hK] at hl
    have HV := Lib.hid (ldV_zero S at_ s (h.zero _ hK))
    unfold ptrV at hl
    clear h hF hK hdiv hmod hal
    go_enter Try.func55, Try.ntmps55
    go_wp2_with fail
    go_ret
    exact ⟨by rw [HV.out]; rfl, rfl⟩
def ldR (n : Nat) (S : Nat → List Nat) (at_ : Nat) (s : Int) : Nat := if chkE n at_ s = 0 then ldV S at_ s else 0
set_option maxHeartbeats 1000000 in
theorem Load_any (g n at_ : Nat) (s : Int) (F : Nat → Prop) (S : Nat → List Nat) (W : World) (h : Mem W g F n S) (ha : at_ < 18446744073709551616) :
    Calls Try.prog 43 #[.pointer (some ⟨g, 0, none⟩), .int .u64 (at_ : Int), .int .i64 s] W fun e w' => e = .returned (.tuple #[.int .u64 (ldR n S at_ s : Nat), .int .i64 (chkE n at_ s)]) ∧ W = w' := by
  have HM := Lib.hid h
  have HA := Lib.hid ha
  obtain ⟨mb, loc, K, h1, _⟩ := h
  have HH := Lib.hid h1.head
  have HN := Lib.hid h1.n2
  have HR : Hid (ldR n S at_ s = if chkE n at_ s = 0 then ldV S at_ s else 0) := Lib.hid rfl
  have HOK := Lib.hid (fun h => chk_ok (n := n) (at_ := at_) (s := s) h)
  clear h1 ha
  by_cases h0 : chkE n at_ s = 0
  · rw [h0]
    have HE := Lib.hid h0
    clear h0
    go_enter Try.func43, Try.ntmps43
    go_wp2_with fail
    refine (check_any g _ n at_ s _ HH.out HN.out HA.out).mono ?_
    rintro e w ⟨rfl, rfl⟩
    rw [HE.out]
    go_wp2_with fail
    refine (load_any g n at_ s F S _ HM.out HA.out (HOK.out HE.out).1).mono ?_
    rintro e w ⟨rfl, rfl⟩
    go_wp2_with fail
    go_ret2
    exact ⟨by rw [HR.out, if_pos HE.out]; rfl, rfl⟩
  · have HE := Lib.hid h0
    have hne : (chkE n at_ s != 0) = true := by simp; exact h0
    generalize hz : chkE n at_ s = z at *
    have HZ := Lib.hid hz
    clear h0 hz
    go_enter Try.func43, Try.ntmps43
    go_wp2_with fail
    refine (check_any g _ n at_ s _ HH.out HN.out HA.out).mono ?_
    rintro e w ⟨rfl, rfl⟩
    rw [HZ.out]
    go_wp2_with fail
    go_ret2
    exact ⟨by rw [HR.out, if_neg HE.out]; rfl, rfl⟩
/-- The memory behind a store; its footprint may have grown by new blocks. -/
def MemTo (W : World) (g : Nat) (F : Nat → Prop) (n : Nat) (S : Nat → List Nat) (w' : World) : Prop := ∃ F', Mem w' g F' n S ∧ (∀ b, F' b → F b ∨ W.heap.size ≤ b) ∧ Keeps F W w'
def stR (n : Nat) (S : Nat → List Nat) (at_ : Nat) (s : Int) (v : Nat) : Nat → List Nat := if chkE n at_ s = 0 then stS S at_ s v else S
theorem put_pg {w w' : World} {p q v s : Nat} {l : List Nat} (h : PgAt w p l) (hp : Puts w w' p q v s) (hq : q + s ≤ 4096) : PgAt w' p (putL l q v s) ∧ Keeps (fun b => b = p) w w' := by
  refine ⟨⟨putL_length _ _ _ _, fun i => putL_lt _ _ _ _ _ h.2.1, fun i hi => ?_, fun i => by rw [hp.frozen]; exact h.2.2.2 i⟩, ⟨hp.grown.os, hp.grown.tape, hp.grown.output, hp.grown.size, fun i hi hne => hp.grown.block i hi (fun e => hne (by injection e))⟩⟩
  rw [putL_get _ _ _ _ _ hi]
  by_cases hin : q ≤ i ∧ i < q + s
  · rw [if_pos hin]
    have := hp.new (i - q) (by omega)
    rw [show q + (i - q) = i by omega] at this
    exact this
  · rw [if_neg hin, hp.old ⟨p, i, none⟩ (by simp; omega)]
    exact h.2.2.1 i hi
set_option maxHeartbeats 1000000 in
theorem Store_any (g n at_ : Nat) (s : Int) (v : Nat) (F : Nat → Prop) (S : Nat → List Nat) (W : World) (h : Mem W g F n S) (ha : at_ < 18446744073709551616) (hv : v < 18446744073709551616) :
    Calls Try.prog 12 #[.pointer (some ⟨g, 0, none⟩), .int .u64 (at_ : Int), .int .i64 s, .int .u64 (v : Int)] W fun e w' => e = .returned (.int .i64 (chkE n at_ s)) ∧ MemTo W g F n (stR n S at_ s v) w' := by
  have HM := Lib.hid h
  have HA := Lib.hid ha
  have HV := Lib.hid hv
  obtain ⟨mb, loc, K, h1, _⟩ := h
  have HH := Lib.hid h1.head
  have HN := Lib.hid h1.n2
  have HR : Hid (stR n S at_ s v = if chkE n at_ s = 0 then stS S at_ s v else S) := Lib.hid rfl
  have HOK := Lib.hid (fun h => chk_ok (n := n) (at_ := at_) (s := s) h)
  clear h1 hv
  by_cases h0 : chkE n at_ s = 0
  · rw [h0]
    have HE := Lib.hid h0
    have HT := Lib.hid (in_pg (HOK.out h0).1)
    have hdiv : (at_ : Int) / 4096 = ((at_ / 4096 : Nat) : Int) := by simp
    have hmod : (at_ : Int) % 4096 = ((at_ % 4096 : Nat) : Int) := by simp
    have HD := Lib.hid hdiv
    have HMO := Lib.hid hmod
    clear h0 hdiv hmod
    go_enter Try.func12, Try.ntmps12
    go_wp2_with fail
    refine (check_any g _ n at_ s _ HH.out HN.out HA.out).mono ?_
    rintro e w ⟨rfl, rfl⟩
    rw [HE.out]
    go_wp2_with fail
    rw [HD.out]
    refine (own_any g (at_ / 4096) n F S _ HM.out (HOK.out HE.out).2).mono ?_
    rintro e w2 ⟨p, F', rfl, hO, hF', hK⟩
    have HO := Lib.hid hO
    have HF' := Lib.hid hF'
    have HK := Lib.hid hK
    clear hO hF' hK
    go_wp2_with fail
    rw [HMO.out]
    refine (put_yes p 0 4096 4096 ((at_ % 4096 : Nat) : Int) s v w2 HV.out (by decide) (fun i hi => ⟨_, by rw [Nat.zero_add]; exact HO.out.page.2.2.1 i hi⟩) (fun i _ => by rw [Nat.zero_add]; exact HO.out.page.2.2.2 i) HT.out.2).mono ?_
    rintro e w3 ⟨rfl, hp⟩
    have HP := Lib.hid hp
    clear hp
    go_wp2_with fail
    go_ret
    have hs := there_of HT.out.2
    obtain ⟨h1, h2⟩ := put_pg HO.out.page (by have := HP.out; rw [Nat.zero_add, show (((at_ % 4096 : Nat) : Int)).toNat = at_ % 4096 from rfl] at this; exact this) (by have := size_cases hs.1; omega)
    refine ⟨rfl, F', ?_, HF'.out, HK.out.trans h2 (fun i hi => by rw [hi]; exact HF'.out _ HO.out.fp)⟩
    rw [HR.out, if_pos HE.out]
    exact HO.out.turn h2 h1
  · have HE := Lib.hid h0
    have hne : (chkE n at_ s != 0) = true := by simp; exact h0
    generalize hz : chkE n at_ s = z at *
    have HZ := Lib.hid hz
    clear h0 hz
    go_enter Try.func12, Try.ntmps12
    go_wp2_with fail
    refine (check_any g _ n at_ s _ HH.out HN.out HA.out).mono ?_
    rintro e w ⟨rfl, rfl⟩
    rw [HZ.out]
    go_wp2_with fail
    go_ret
    refine ⟨rfl, F, ?_, fun b hb => .inl hb, Keeps.refl _ _⟩
    rw [HR.out, if_neg HE.out]
    exact HM.out
end Go.Proofs.Ytmnpakfihfjfiaa
