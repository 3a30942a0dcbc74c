/- Merged texts: PhyC, PhyD, PhyE, PhyF, PhyG, PhyH, PhyK, PhyL. -/
import Derived.Test.YtecalibnnfcaeaaMm1
import Derived.Laws.AppendOwn
import Derived.Laws.MakeOwn
import Derived.Laws.OwnMore
import Derived.Laws.CopyOwn
/- A memory: own, load, Load, Store, Swap. -/
namespace Go.Proofs.Ytecalibnnfcaeaa
open Go.RowKit

def zpg : Array Value := (zeroL.map bv).toArray
theorem built_pg : Try.prog.built 135 [] = some zpg := by kernel_rfl
theorem wl_build0 {P : Program} {ops : Array Oper} {rest : List Oper} {o : Oper} {a : Act} {w : World} {Q : Exit → Act → World → Prop} (ty : TypeId) (ho : o.op = .build ty #[]) (hg : o.guard = none) (zs : Array Value) (hz : P.built ty [] = some zs)
    (h : wpList P ops Q rest (a.put o.dst (.agg zs)) w) : wpList P ops Q (o :: rest) a w := by
  have e : (P.built ty ((#[] : Array (Nat × Operand)).map fun (i, x) => (i, a.eval x)).toList) = some zs := by simpa using hz
  refine wpList_build hg ty #[] ho (by rw [e]; rfl) ?_
  rw [e]
  exact h
theorem zpg_at {w : World} {p : Nat} (h : Blk w p 135 zpg) : PgAt w p zeroL := by
  refine ⟨List.length_replicate, fun i => by rw [zeroL_get]; decide, fun i hi => ?_, fun i => h.frozen i⟩
  rw [h.cell]
  unfold zpg
  rw [List.getElem?_toArray, List.getElem?_map, List.getD_eq_getElem?_getD, List.getElem?_eq_getElem (by rw [show zeroL.length = 4096 from List.length_replicate]; exact hi)]
  rfl
/-- The page of frame k lies in block p, to be written. -/
def Owned (w : World) (g p k n : Nat) (F : Nat → Prop) (S : Nat → List Nat) : Prop := ∃ mb loc K, MemAt w g mb loc K n S ∧ (∀ b, memF g mb loc K b → F b) ∧ k ∈ K ∧ loc k = p
def updS (S : Nat → List Nat) (k : Nat) (l : List Nat) : Nat → List Nat := fun j => if j = k then l else S j
theorem Owned.page {w : World} {g p k n : Nat} {F : Nat → Prop} {S : Nat → List Nat} (h : Owned w g p k n F S) : PgAt w p (S k) := by
  obtain ⟨mb, loc, K, h, _, hk, rfl⟩ := h
  exact h.page k hk
theorem Owned.fp {w : World} {g p k n : Nat} {F : Nat → Prop} {S : Nat → List Nat} (h : Owned w g p k n F S) : F p := by
  obtain ⟨mb, loc, K, h, hF, hk, rfl⟩ := h
  exact hF _ (.inr (.inr ⟨k, hk, rfl⟩))
theorem Owned.turn {w w' : World} {g p k n : Nat} {F : Nat → Prop} {S : Nat → List Nat} {l : List Nat} (h : Owned w g p k n F S) (hk : Keeps (fun b => b = p) w w') (hp : PgAt w' p l) : Mem w' g F n (updS S k l) := by
  obtain ⟨mb, loc, K, h, hF, hK, rfl⟩ := h
  obtain ⟨a1, a2⟩ := h.apart
  refine ⟨mb, loc, K, ⟨hk.blk h.head (fun e => (a2 k hK).1 e.symm), h.mp.keeps hk (fun e => (a2 k hK).2 e.symm), fun j hj => ?_, fun j hj => ?_, h.nd, h.lt, h.inj, h.apart, h.n1, h.n2⟩, hF⟩
  · unfold updS
    by_cases e : j = k
    · subst e; rw [if_pos rfl]; exact hp
    · rw [if_neg e]
      exact (h.page j hj).keeps hk (fun e2 => e (h.inj j k hj hK e2))
  · unfold updS
    rw [if_neg (fun e => hj (by rw [e]; exact hK))]
    exact h.zero j hj
theorem Owned.keeps {w w' : World} {g p k n : Nat} {F G : Nat → Prop} {S : Nat → List Nat} (h : Owned w g p k n F S) (hk : Keeps G w w') (hd : ∀ b, F b → ¬ G b) : Owned w' g p k n F S := by
  obtain ⟨mb, loc, K, h, hF, hK, e⟩ := h
  exact ⟨mb, loc, K, h.keeps hk (fun b hb => hd b (hF b hb)), hF, hK, e⟩
theorem Owned.mem {w : World} {g p k n : Nat} {F : Nat → Prop} {S : Nat → List Nat} (h : Owned w g p k n F S) : Mem w g F n S := by
  obtain ⟨mb, loc, K, h, hF, _⟩ := h
  exact ⟨mb, loc, K, h, hF⟩
def OwnR (g k n : Nat) (F : Nat → Prop) (S : Nat → List Nat) (W : World) (e : Ending) (w' : World) : Prop :=
  ∃ p F', e = .returned (.pointer (some ⟨p, 0, none⟩)) ∧ Owned w' g p k n F' S ∧ (∀ b, F' b → F b ∨ W.heap.size ≤ b) ∧ Keeps F W w'
set_option maxHeartbeats 1000000 in
theorem own_any (g k n : Nat) (F : Nat → Prop) (S : Nat → List Nat) (W : World) (h : Mem W g F n S) (hk : k < n) :
    Calls Try.prog 39 #[.pointer (some ⟨g, 0, none⟩), .int .i64 (k : Int)] W (OwnR g k n F S W) := by
  obtain ⟨mb, loc, K, h, hF⟩ := h
  have hn := h.n2
  have c0 : W.cell? ⟨g, 0, none⟩ = some (.map (some mb)) := h.head.cell 0
  have hl := h.mp.look (k := k) (by omega)
  have H := Lib.hid h
  have HF := Lib.hid hF
  by_cases hK : k ∈ K
  · rw [if_pos hK] at hl
    have HK := Lib.hid hK
    unfold ptrV at hl
    clear h hF hK
    go_enter Try.func39, Try.ntmps39
    go_wp2_with fail
    go_ret
    exact ⟨loc k, F, rfl, ⟨mb, loc, K, H.out, HF.out, HK.out, rfl⟩, fun b hb => .inl hb, Keeps.refl _ _⟩
  · rw [if_neg hK] at hl
    have HK := Lib.hid hK
    have hlen := h.len
    unfold ptrV at hl
    have hal : Below W.heap.size W (W.alloc (.cells zpg 135)) := (Below.refl _ _).alloc (Nat.le_refl _) _
    have HN : Hid (Blk (W.alloc (.cells zpg 135)) W.heap.size 135 zpg) := Lib.hid (Blkf.new_at _ _ _ _ rfl)
    have HM := Lib.hid (h.below hal)
    have c0' : (W.alloc (.cells zpg 135)).cell? ⟨g, 0, none⟩ = some (.map (some mb)) := HM.out.head.cell 0
    clear h hF hK hal
    go_enter Try.func39, Try.ntmps39
    go_wp2_with (first | ((with_reducible refine wl_build0 135 rfl rfl zpg built_pg ?_)) | ((with_reducible refine wpList_pput _ rfl (.tmp 19) (.tmp 20) (.tmp 21) rfl mb K loc k W.heap.size ?_ ?_ ?_ HM.out.mp (by omega) (by unfold maxLen; omega) ?_); exact rfl; exact rfl; exact rfl; intro w2 hp hg; have HP := Lib.hid hp; have HG := Lib.hid hg; clear hp hg))
    go_ret
    have hk1 : Keeps (fun b => b = mb) (W.alloc (.cells zpg 135)) w2 := ⟨HG.out.os, HG.out.tape, HG.out.output, HG.out.size, fun i hi hne => HG.out.block i hi (fun e => hne (by injection e))⟩
    have hmb : mb < W.heap.size := H.out.mp.lt
    have hKb : Keeps F W w2 := ((Keeps.refl F W).alloc _).trans hk1 (fun i hi => .inl (by rw [hi]; exact HF.out _ (.inr (.inl rfl))))
    have hgl := H.out.head.lt
    refine ⟨W.heap.size, fun b => F b ∨ W.heap.size ≤ b, rfl, ⟨mb, fun j => if j = k then W.heap.size else loc j, k :: K, ⟨?_, HP.out, fun j hj => ?_, fun j hj => ?_, ?_, fun j hj => ?_, fun i j hi hj e => ?_, ⟨H.out.apart.1, fun j hj => ?_⟩, H.out.n1, H.out.n2⟩, ?_, by simp, by simp⟩, fun b hb => hb, hKb⟩
    · exact hk1.blk HM.out.head (fun e => H.out.apart.1 e.symm)
    · by_cases e : j = k
      · subst e
        rw [if_pos rfl, H.out.zero j HK.out]
        exact (zpg_at HN.out).keeps hk1 (fun e => by omega)
      · rw [if_neg e]
        have hj' : j ∈ K := by simpa [e] using hj
        exact (HM.out.page j hj').keeps hk1 (H.out.apart.2 j hj').2
    · simp at hj
      exact H.out.zero j hj.2
    · exact List.nodup_cons.2 ⟨HK.out, H.out.nd⟩
    · rcases List.mem_cons.1 hj with rfl | hj
      · exact hk
      · exact H.out.lt j hj
    · by_cases ei : i = k <;> by_cases ej : j = k
      · rw [ei, ej]
      · have hj' : j ∈ K := by simpa [ej] using hj
        have := (H.out.page j hj').lt
        simp [ei, ej] at e; omega
      · have hi' : i ∈ K := by simpa [ei] using hi
        have := (H.out.page i hi').lt
        simp [ei, ej] at e; omega
      · have hi' : i ∈ K := by simpa [ei] using hi
        have hj' : j ∈ K := by simpa [ej] using hj
        simp [ei, ej] at e
        exact H.out.inj i j hi' hj' e
    · by_cases e : j = k
      · rw [if_pos e]; omega
      · rw [if_neg e]
        have hj' : j ∈ K := by simpa [e] using hj
        exact H.out.apart.2 j hj'
    · rintro b (rfl | rfl | ⟨j, hj, rfl⟩)
      · exact .inl (HF.out _ (.inl rfl))
      · exact .inl (HF.out _ (.inr (.inl rfl)))
      · by_cases e : j = k
        · simp [e]
        · have hj' : j ∈ K := by simpa [e] using hj
          simp only [if_neg e]
          exact .inl (HF.out _ (.inr (.inr ⟨j, hj', rfl⟩)))
end Go.Proofs.Ytecalibnnfcaeaa

/- A memory: load, Load, Store, Swap. -/
namespace Go.Proofs.Ytecalibnnfcaeaa
open Go.RowKit

/-- The word of s bytes at an address. -/
def ldV (S : Nat → List Nat) (at_ : Nat) (s : Int) : Nat := getV (S (at_ / 4096)) ((at_ % 4096 : Nat) : Int) s
/-- The bytes of a page with a word in it. -/
def putL (l : List Nat) (p v s : Nat) : List Nat := (List.range 4096).map (fun i => if p ≤ i ∧ i < p + s then byteOf v (i - p) else l.getD i 0)
def stS (S : Nat → List Nat) (at_ : Nat) (s : Int) (v : Nat) : Nat → List Nat := updS S (at_ / 4096) (putL (S (at_ / 4096)) (at_ % 4096) v s.toNat)
theorem putL_length (l : List Nat) (p v s : Nat) : (putL l p v s).length = 4096 := by simp [putL]
theorem putL_get (l : List Nat) (p v s i : Nat) (hi : i < 4096) : (putL l p v s).getD i 0 = if p ≤ i ∧ i < p + s then byteOf v (i - p) else l.getD i 0 := by
  unfold putL
  rw [List.getD_eq_getElem?_getD, List.getElem?_map, List.getElem?_range hi]
  rfl
theorem putL_lt (l : List Nat) (p v s i : Nat) (h : ∀ i : Nat, l.getD i 0 < 256) : (putL l p v s).getD i 0 < 256 := by
  rcases Nat.lt_or_ge i 4096 with hi | hi
  · rw [putL_get _ _ _ _ _ hi]
    split
    · exact byteOf_lt _ _
    · exact h i
  · rw [List.getD_eq_getElem?_getD, List.getElem?_eq_none (by rw [putL_length]; exact hi)]; decide
theorem leNat_zero : ∀ l : List Nat, (∀ i : Nat, l.getD i 0 = 0) → leNat l = 0
  | [], _ => rfl
  | x :: r, h => by
    have h0 : x = 0 := h 0
    have h1 := leNat_zero r (fun i => h (i + 1))
    simp [leNat, h0, h1]
theorem ldV_zero (S : Nat → List Nat) (at_ : Nat) (s : Int) (h : S (at_ / 4096) = zeroL) : ldV S at_ s = 0 := by
  unfold ldV getV
  rw [h]
  refine leNat_zero _ (fun i => ?_)
  rw [List.getD_eq_getElem?_getD, List.getElem?_take]
  split
  · rw [List.getElem?_drop, ← List.getD_eq_getElem?_getD, zeroL_get]
  · rfl
/-- A word that is aligned lies in its page. -/
theorem in_pg {at_ : Nat} {s : Int} (h : alignedB at_ s = true) : sizeB s = true ∧ thereB (4096 : Nat) ((at_ % 4096 : Nat) : Int) s = true := by
  unfold alignedB at h
  simp only [Bool.and_eq_true, beq_iff_eq] at h
  refine ⟨h.1, ?_⟩
  unfold thereB
  rcases size_cases h.1 with rfl | rfl | rfl | rfl <;> simp at h ⊢ <;> (refine ⟨by decide, ?_, ?_, ?_⟩ <;> omega)
theorem chk_ok {n at_ : Nat} {s : Int} (h : chkE n at_ s = 0) : alignedB at_ s = true ∧ at_ / 4096 < n := by
  unfold chkE at h
  split at h
  · omega
  · split at h
    · omega
    · split at h
      · omega
      · rename_i h2 h3
        exact ⟨by simpa using h2, by omega⟩
theorem get_pg (p : Nat) (l : List Nat) (a s : Int) (w : World) (h : PgAt w p l) (ht : thereB (4096 : Nat) a s = true) :
    Calls Try.prog 80 #[.slice (some ⟨p, 0, none⟩) 4096 4096, .int .i64 a, .int .i64 s] w fun e w' => e = .returned (.tuple #[.int .u64 (getV l a s : Nat), .bool true]) ∧ w = w' := by
  have hl := h.1
  have := get_yes (some ⟨p, 0, none⟩) l 4096 a s w (by rw [hl]; decide) h.bts (by rw [hl]; exact ht)
  rw [hl] at this
  exact this
set_option maxHeartbeats 1000000 in
theorem load_any (g n at_ : Nat) (s : Int) (F : Nat → Prop) (S : Nat → List Nat) (W : World) (h : Mem W g F n S) (ha : at_ < 18446744073709551616) (hal : alignedB at_ s = true) :
    Calls Try.prog 60 #[.pointer (some ⟨g, 0, none⟩), .int .u64 (at_ : Int), .int .i64 s] W fun e w' => e = .returned (.int .u64 (ldV S at_ s : Nat)) ∧ W = w' := by
  obtain ⟨mb, loc, K, h, hF⟩ := h
  have c0 : W.cell? ⟨g, 0, none⟩ = some (.map (some mb)) := h.head.cell 0
  have hl := h.mp.look (k := at_ / 4096) (by omega)
  have hdiv : ((at_ / 4096 : Nat) : Int) = (at_ : Int) / 4096 := by simp
  have hmod : ((at_ % 4096 : Nat) : Int) = (at_ : Int) % 4096 := by simp
  rw [hdiv] at hl
  by_cases hK : at_ / 4096 ∈ K
  · rw [if_pos hK] at hl
    have HP := Lib.hid (h.page _ hK)
    have HV : Hid (ldV S at_ s = getV (S (at_ / 4096)) ((at_ : Int) % 4096) s) := Lib.hid (by rw [← hmod]; rfl)
    have HT := Lib.hid (in_pg hal).2
    rw [hmod] at HT
    unfold ptrV at hl
    generalize S (at_ / 4096) = l at *
    generalize loc (at_ / 4096) = p at *
    clear h hF hK hdiv hmod hal
    go_enter Try.func60, Try.ntmps60
    go_wp2_with fail
    refine (get_pg p l _ s _ HP.out HT.out).mono ?_
    rintro e w ⟨rfl, rfl⟩
    go_wp2_with fail
    go_ret
    exact ⟨by rw [HV.out]; rfl, rfl⟩
  · rw [if_neg hK] at hl
    have HV := Lib.hid (ldV_zero S at_ s (h.zero _ hK))
    unfold ptrV at hl
    clear h hF hK hdiv hmod hal
    go_enter Try.func60, Try.ntmps60
    go_wp2_with fail
    go_ret
    exact ⟨by rw [HV.out]; rfl, rfl⟩
def ldR (n : Nat) (S : Nat → List Nat) (at_ : Nat) (s : Int) : Nat := if chkE n at_ s = 0 then ldV S at_ s else 0
set_option maxHeartbeats 1000000 in
theorem Load_any (g n at_ : Nat) (s : Int) (F : Nat → Prop) (S : Nat → List Nat) (W : World) (h : Mem W g F n S) (ha : at_ < 18446744073709551616) :
    Calls Try.prog 32 #[.pointer (some ⟨g, 0, none⟩), .int .u64 (at_ : Int), .int .i64 s] W fun e w' => e = .returned (.tuple #[.int .u64 (ldR n S at_ s : Nat), .int .i64 (chkE n at_ s)]) ∧ W = w' := by
  have HM := Lib.hid h
  have HA := Lib.hid ha
  obtain ⟨mb, loc, K, h1, _⟩ := h
  have HH := Lib.hid h1.head
  have HN := Lib.hid h1.n2
  have HR : Hid (ldR n S at_ s = if chkE n at_ s = 0 then ldV S at_ s else 0) := Lib.hid rfl
  have HOK := Lib.hid (fun h => chk_ok (n := n) (at_ := at_) (s := s) h)
  clear h1 ha
  by_cases h0 : chkE n at_ s = 0
  · rw [h0]
    have HE := Lib.hid h0
    clear h0
    go_enter Try.func32, Try.ntmps32
    go_wp2_with fail
    refine (check_any g _ n at_ s _ HH.out HN.out HA.out).mono ?_
    rintro e w ⟨rfl, rfl⟩
    rw [HE.out]
    go_wp2_with fail
    refine (load_any g n at_ s F S _ HM.out HA.out (HOK.out HE.out).1).mono ?_
    rintro e w ⟨rfl, rfl⟩
    go_wp2_with fail
    go_ret2
    exact ⟨by rw [HR.out, if_pos HE.out]; rfl, rfl⟩
  · have HE := Lib.hid h0
    have hne : (chkE n at_ s != 0) = true := by simp; exact h0
    generalize hz : chkE n at_ s = z at *
    have HZ := Lib.hid hz
    clear h0 hz
    go_enter Try.func32, Try.ntmps32
    go_wp2_with fail
    refine (check_any g _ n at_ s _ HH.out HN.out HA.out).mono ?_
    rintro e w ⟨rfl, rfl⟩
    rw [HZ.out]
    go_wp2_with fail
    go_ret2
    exact ⟨by rw [HR.out, if_neg HE.out]; rfl, rfl⟩
/-- The memory behind a store; its footprint may have grown by new blocks. -/
def MemTo (W : World) (g : Nat) (F : Nat → Prop) (n : Nat) (S : Nat → List Nat) (w' : World) : Prop := ∃ F', Mem w' g F' n S ∧ (∀ b, F' b → F b ∨ W.heap.size ≤ b) ∧ Keeps F W w'
def stR (n : Nat) (S : Nat → List Nat) (at_ : Nat) (s : Int) (v : Nat) : Nat → List Nat := if chkE n at_ s = 0 then stS S at_ s v else S
theorem put_pg {w w' : World} {p q v s : Nat} {l : List Nat} (h : PgAt w p l) (hp : Puts w w' p q v s) (hq : q + s ≤ 4096) : PgAt w' p (putL l q v s) ∧ Keeps (fun b => b = p) w w' := by
  refine ⟨⟨putL_length _ _ _ _, fun i => putL_lt _ _ _ _ _ h.2.1, fun i hi => ?_, fun i => by rw [hp.frozen]; exact h.2.2.2 i⟩, ⟨hp.grown.os, hp.grown.tape, hp.grown.output, hp.grown.size, fun i hi hne => hp.grown.block i hi (fun e => hne (by injection e))⟩⟩
  rw [putL_get _ _ _ _ _ hi]
  by_cases hin : q ≤ i ∧ i < q + s
  · rw [if_pos hin]
    have := hp.new (i - q) (by omega)
    rw [show q + (i - q) = i by omega] at this
    exact this
  · rw [if_neg hin, hp.old ⟨p, i, none⟩ (by simp; omega)]
    exact h.2.2.1 i hi
set_option maxHeartbeats 1000000 in
theorem Store_any (g n at_ : Nat) (s : Int) (v : Nat) (F : Nat → Prop) (S : Nat → List Nat) (W : World) (h : Mem W g F n S) (ha : at_ < 18446744073709551616) (hv : v < 18446744073709551616) :
    Calls Try.prog 20 #[.pointer (some ⟨g, 0, none⟩), .int .u64 (at_ : Int), .int .i64 s, .int .u64 (v : Int)] W fun e w' => e = .returned (.int .i64 (chkE n at_ s)) ∧ MemTo W g F n (stR n S at_ s v) w' := by
  have HM := Lib.hid h
  have HA := Lib.hid ha
  have HV := Lib.hid hv
  obtain ⟨mb, loc, K, h1, _⟩ := h
  have HH := Lib.hid h1.head
  have HN := Lib.hid h1.n2
  have HR : Hid (stR n S at_ s v = if chkE n at_ s = 0 then stS S at_ s v else S) := Lib.hid rfl
  have HOK := Lib.hid (fun h => chk_ok (n := n) (at_ := at_) (s := s) h)
  clear h1 hv
  by_cases h0 : chkE n at_ s = 0
  · rw [h0]
    have HE := Lib.hid h0
    have HT := Lib.hid (in_pg (HOK.out h0).1)
    have hdiv : (at_ : Int) / 4096 = ((at_ / 4096 : Nat) : Int) := by simp
    have hmod : (at_ : Int) % 4096 = ((at_ % 4096 : Nat) : Int) := by simp
    have HD := Lib.hid hdiv
    have HMO := Lib.hid hmod
    clear h0 hdiv hmod
    go_enter Try.func20, Try.ntmps20
    go_wp2_with fail
    refine (check_any g _ n at_ s _ HH.out HN.out HA.out).mono ?_
    rintro e w ⟨rfl, rfl⟩
    rw [HE.out]
    go_wp2_with fail
    rw [HD.out]
    refine (own_any g (at_ / 4096) n F S _ HM.out (HOK.out HE.out).2).mono ?_
    rintro e w2 ⟨p, F', rfl, hO, hF', hK⟩
    have HO := Lib.hid hO
    have HF' := Lib.hid hF'
    have HK := Lib.hid hK
    clear hO hF' hK
    go_wp2_with fail
    rw [HMO.out]
    refine (put_yes p 0 4096 4096 ((at_ % 4096 : Nat) : Int) s v w2 HV.out (by decide) (fun i hi => ⟨_, by rw [Nat.zero_add]; exact HO.out.page.2.2.1 i hi⟩) (fun i _ => by rw [Nat.zero_add]; exact HO.out.page.2.2.2 i) HT.out.2).mono ?_
    rintro e w3 ⟨rfl, hp⟩
    have HP := Lib.hid hp
    clear hp
    go_wp2_with fail
    go_ret
    have hs := there_of HT.out.2
    obtain ⟨h1, h2⟩ := put_pg HO.out.page (by have := HP.out; rw [Nat.zero_add, show (((at_ % 4096 : Nat) : Int)).toNat = at_ % 4096 from rfl] at this; exact this) (by have := size_cases hs.1; omega)
    refine ⟨rfl, F', ?_, HF'.out, HK.out.trans h2 (fun i hi => by rw [hi]; exact HF'.out _ HO.out.fp)⟩
    rw [HR.out, if_pos HE.out]
    exact HO.out.turn h2 h1
  · have HE := Lib.hid h0
    have hne : (chkE n at_ s != 0) = true := by simp; exact h0
    generalize hz : chkE n at_ s = z at *
    have HZ := Lib.hid hz
    clear h0 hz
    go_enter Try.func20, Try.ntmps20
    go_wp2_with fail
    refine (check_any g _ n at_ s _ HH.out HN.out HA.out).mono ?_
    rintro e w ⟨rfl, rfl⟩
    rw [HZ.out]
    go_wp2_with fail
    go_ret
    refine ⟨rfl, F, ?_, fun b hb => .inl hb, Keeps.refl _ _⟩
    rw [HR.out, if_neg HE.out]
    exact HM.out
end Go.Proofs.Ytecalibnnfcaeaa

/- A memory: Page, SetPage. -/
namespace Go.Proofs.Ytecalibnnfcaeaa
open Go.RowKit

/-- A page is handed back: a row of the call's own. -/
def PageR (l : List Nat) (W : World) (e : Ending) (w' : World) : Prop := ∃ v, e = .returned (.tuple #[v, .int .i64 0]) ∧ w'.ownsRow W.heap.size 5 1 v l.length (l.map bv) ∧ Below W.heap.size W w'
theorem frE_ok {n : Nat} {f : Int} (h : frE n f = 0) : ∃ k : Nat, f = (k : Int) ∧ k < n := by
  unfold frE at h
  split at h
  · omega
  · exact ⟨f.toNat, by omega, by omega⟩
theorem made_pg : (madeCells #[Value.int IntKind.u8 0] 4096).toList = zeroL.map bv := by
  rw [toList_madeCells_one]
  unfold zeroL
  rw [List.map_replicate]
  rfl
theorem zpg_list : zpg.toList = zeroL.map bv := by
  unfold zpg
  rw [List.toList_toArray]
theorem zero_len : zeroL.length = 4096 := List.length_replicate
theorem zpg_size : zpg.size = 4096 := by rw [← Array.length_toList, zpg_list, List.length_map, zero_len]
theorem made_pg1 (z : Array Value) (h : z = #[Value.int IntKind.u8 0]) (n : Nat) (hn : n = 4096) : madeCells z n = zpg := by
  subst h hn
  apply Array.toList_inj.1
  rw [made_pg, zpg_list]
theorem make_pg (W : World) : (Instr.makeSlice 103 (.int .i64 4096) (.int .i64 4096)).run Try.prog W = .ok (.slice (some ⟨W.heap.size, 0, none⟩) 4096 4096) (W.alloc (.cells zpg 5)) := by
  obtain ⟨i0, hi0, hz0, hz1, hz2⟩ := info_parts info5
  have h := run_make (P := Try.prog) W 103 5 i0 _ Try.underlying103 hi0 hz0 .i64 .i64 4096 4096 (by decide) (by decide) (by rw [hz2]; decide) (by decide)
  rw [hz1, made_pg1 (Value.int IntKind.u8 0).cells rfl (Int.toNat 4096 * 1) (by decide), show Int.toNat 4096 = 4096 from rfl] at h
  exact h
end Go.Proofs.Ytecalibnnfcaeaa

/- A nil memory; what SetPage says no to. -/
namespace Go.Proofs.Ytecalibnnfcaeaa
open Go.RowKit

theorem Load_nil (a s : Int) (W : World) :
    Calls Try.prog 32 #[.pointer none, .int .u64 a, .int .i64 s] W fun e w' => e = .returned (.tuple #[.int .u64 0, .int .i64 1]) ∧ W = w' := by
  go_enter Try.func32, Try.ntmps32
  go_wp2_with fail
  refine (check_nil a s _).mono ?_
  rintro e w ⟨rfl, rfl⟩
  go_wp2_with fail
  go_ret2
  exact ⟨rfl, rfl⟩
theorem Store_nil (a s v : Int) (W : World) :
    Calls Try.prog 20 #[.pointer none, .int .u64 a, .int .i64 s, .int .u64 v] W fun e w' => e = .returned (.int .i64 1) ∧ W = w' := by
  go_enter Try.func20, Try.ntmps20
  go_wp2_with fail
  refine (check_nil a s _).mono ?_
  rintro e w ⟨rfl, rfl⟩
  go_wp2_with fail
  go_ret
  exact ⟨rfl, rfl⟩
end Go.Proofs.Ytecalibnnfcaeaa

/- SetPage. -/
namespace Go.Proofs.Ytecalibnnfcaeaa
open Go.RowKit

def pgV (l : List Nat) : Array Value := (l.map bv).toArray
theorem pgV_list (l : List Nat) : (pgV l).toList = l.map bv := by unfold pgV; rw [List.toList_toArray]
theorem pgV_size {l : List Nat} (h : l.length = 4096) : (pgV l).size = 4096 := by rw [← Array.length_toList, pgV_list, List.length_map, h]
theorem row_pg : rowT Try.prog 135 4096 = true := by kernel_rfl
theorem pgV_row {l : List Nat} (h : l.length = 4096) : rowT Try.prog 135 (pgV l).size = true := by rw [pgV_size h]; exact row_pg
theorem pgV_one (l : List Nat) : (pgV l).all (·.oneCell') = true := by
  unfold pgV
  rw [List.all_toArray, List.all_eq_true]
  exact one_bv l
/-- A page with l at its head. -/
def headL (l : List Nat) : List Nat := l ++ zeroL.drop l.length
theorem headL_length {l : List Nat} (h : l.length ≤ 4096) : (headL l).length = 4096 := by
  unfold headL
  rw [List.length_append, List.length_drop, zero_len]; omega
theorem headL_splice (l : List Nat) : (splice (zeroL.map bv) 0 (l.map bv)).toArray = pgV (headL l) := by
  unfold splice pgV headL
  rw [List.take_zero, List.nil_append, Nat.zero_add, List.length_map, List.map_append, List.map_drop]
theorem headL_lt {l : List Nat} (h : ∀ i, l.getD i 0 < 256) (i : Nat) : (headL l).getD i 0 < 256 := by
  unfold headL
  rw [List.getD_eq_getElem?_getD]
  by_cases hi : i < l.length
  · rw [List.getElem?_append_left hi, ← List.getD_eq_getElem?_getD]; exact h i
  · rw [List.getElem?_append_right (by omega), List.getElem?_drop, ← List.getD_eq_getElem?_getD, zeroL_get]; decide
theorem pg_of_range {w : World} {p : Nat} {l : List Nat} (hl : l.length = 4096) (h : ∀ i, l.getD i 0 < 256) (hr : w.rangeAt p 0 (l.map bv)) (hf : ∀ i, w.frozen? ⟨p, i, none⟩ = false) : PgAt w p l := by
  refine ⟨hl, h, fun i hi => ?_, hf⟩
  have := hr i (bv (l.getD i 0)) (by
    rw [List.getElem?_map, List.getD_eq_getElem?_getD, List.getElem?_eq_getElem (by rw [hl]; exact hi)]
    rfl)
  rw [Nat.zero_add] at this
  exact this
theorem PgAt.there {w : World} {p : Nat} {l : List Nat} (h : PgAt w p l) : w.there p 0 4096 := fun j hj => by
  rw [Nat.zero_add]
  exact ⟨by rw [h.2.2.1 j hj]; rfl, h.2.2.2 j⟩
theorem zero_pg : (∀ w, (zeroValue 135).run Try.prog w = .ok (.agg zpg) w) ∧ (Try.prog.info? 135).map (·.size) = some 4096 := zero_of_info (by kernel_rfl)
theorem size8 : (Try.prog.info? 5).map (·.size) = some 1 := by kernel_rfl
end Go.Proofs.Ytecalibnnfcaeaa

/- first. -/
namespace Go.Proofs.Ytecalibnnfcaeaa
open Go.RowKit

theorem Mem.tight {w : World} {g n : Nat} {F : Nat → Prop} {S : Nat → List Nat} (h : Mem w g F n S) : Mem w g (fun b => F b ∧ b < w.heap.size) n S := by
  obtain ⟨mb, loc, K, h, hF⟩ := h
  exact ⟨mb, loc, K, h, fun b hb => ⟨hF b hb, h.flt b hb⟩⟩
theorem MemTo.tight {W w' : World} {g n B : Nat} {F : Nat → Prop} {S : Nat → List Nat} (h : MemTo W g F n S w') (hF : ∀ b, F b → B ≤ b) (hB : B ≤ W.heap.size) : Mem w' g (fun b => B ≤ b ∧ b < w'.heap.size) n S ∧ Below B W w' ∧ Keeps F W w' := by
  obtain ⟨F', h, h1, h2⟩ := h
  refine ⟨h.tight.mono (fun b hb => ⟨?_, hb.2⟩), h2.below hF hB, h2⟩
  rcases h1 b hb.1 with h | h
  · exact hF b h
  · omega
theorem take2 {l : List Nat} (h : 2 ≤ l.length) : l.take 2 = [l.getD 0 0, l.getD 1 0] := by
  match l, h with
  | a :: b :: r, _ => rfl
theorem cell_of {l : List Nat} {i : Nat} (h : i < l.length) : (l.map bv)[i]? = some (bv (l.getD i 0)) := by
  rw [List.getElem?_map, List.getD_eq_getElem?_getD, List.getElem?_eq_getElem h]
  rfl
theorem first_S : (stR 2 emptyS 4096 8 258 1).getD 0 0 = 2 ∧ (stR 2 emptyS 4096 8 258 1).getD 1 0 = 1 ∧ (stR 2 emptyS 4096 8 258 1).length = 4096 := by
  have e : stR 2 emptyS 4096 8 258 1 = putL zeroL 0 258 8 := by
    unfold stR
    rw [if_pos (by decide)]
    rfl
  rw [e]
  exact ⟨by rw [putL_get _ _ _ _ _ (by decide)]; decide, by rw [putL_get _ _ _ _ _ (by decide)]; decide, putL_length _ _ _ _⟩
theorem first_L : ldR 2 (stR 2 emptyS 4096 8 258) 4096 2 = 258 := by
  unfold ldR
  rw [if_pos (by decide)]
  show getV (stR 2 emptyS 4096 8 258 1) 0 2 = 258
  obtain ⟨h0, h1, h2⟩ := first_S
  show leNat (((stR 2 emptyS 4096 8 258 1).drop 0).take 2) = 258
  rw [List.drop_zero, take2 (by rw [h2]; decide), h0, h1]
  rfl
end Go.Proofs.Ytecalibnnfcaeaa

/- The reference's memory: get. -/
namespace Go.Proofs.Ytecalibnnfcaeaa
open Go.RowKit

def bC (x : Nat × Nat) : List Value := [.int .u64 (x.1 : Int), .int .u8 (x.2 : Int)]
def bsC (L : List (Nat × Nat)) : List Value := L.flatMap bC
theorem bsC_length (L : List (Nat × Nat)) : (bsC L).length = L.length * 2 := by
  unfold bsC
  rw [List.length_flatMap]
  induction L with
  | nil => rfl
  | cons x r ih => simp [bC] at ih ⊢; omega
theorem bsC_get : ∀ (L : List (Nat × Nat)) (k : Nat) (x : Nat × Nat), L[k]? = some x → (bsC L)[k * 2]? = some (.int .u64 (x.1 : Int)) ∧ (bsC L)[k * 2 + 1]? = some (.int .u8 (x.2 : Int))
  | [], k, x, h => by simp at h
  | y :: r, 0, x, h => by
    obtain rfl : y = x := by simpa using h
    exact ⟨rfl, rfl⟩
  | y :: r, k + 1, x, h => by
    have := bsC_get r k x (by simpa using h)
    show (bC y ++ bsC r)[_]? = _ ∧ (bC y ++ bsC r)[_]? = _
    rw [List.getElem?_append_right (by simp [bC]; omega), List.getElem?_append_right (by simp [bC]; omega)]
    rw [show (k + 1) * 2 - (bC y).length = k * 2 by simp [bC]; omega, show (k + 1) * 2 + 1 - (bC y).length = k * 2 + 1 by simp [bC]; omega]
    exact this
/-- A slice of bytes with their places reads as L; its row lies in a block of G other than xb. -/
def Rd (G : Nat → Prop) (xb : Nat) (w : World) (A : Option Addr) (L : List (Nat × Nat)) : Prop :=
  0 < L.length → ∃ b, A = some ⟨b, 0, none⟩ ∧ G b ∧ b ≠ xb ∧ b < w.heap.size ∧ ∀ k x, L[k]? = some x → w.cell? ⟨b, k * 2, none⟩ = some (.int .u64 (x.1 : Int)) ∧ w.cell? ⟨b, k * 2 + 1, none⟩ = some (.int .u8 (x.2 : Int))
theorem Rd.keeps {G F : Nat → Prop} {xb : Nat} {w w' : World} {A : Option Addr} {L : List (Nat × Nat)} (h : Rd G xb w A L) (k : Keeps F w w') (hd : ∀ g, G g → g ≠ xb → ¬ F g) : Rd G xb w' A L := fun hp => by
  obtain ⟨b, e, hg, hx, hb, hc⟩ := h hp
  have hbl := k.block b hb (hd b hg hx)
  exact ⟨b, e, hg, hx, Nat.lt_of_lt_of_le hb k.size, fun i x hi => ⟨(World.cell?_of_block (a := ⟨b, i * 2, none⟩) hbl).trans (hc i x hi).1, (World.cell?_of_block (a := ⟨b, i * 2 + 1, none⟩) hbl).trans (hc i x hi).2⟩⟩
theorem Rd.mono {G G' : Nat → Prop} {xb : Nat} {w : World} {A : Option Addr} {L : List (Nat × Nat)} (h : Rd G xb w A L) (hG : ∀ g, G g → G' g) : Rd G' xb w A L := fun hp => by
  obtain ⟨b, e, hg, r⟩ := h hp
  exact ⟨b, e, hG b hg, r⟩
theorem Rd.own {G : Nat → Prop} {xb : Nat} {w : World} {A : Option Addr} {L : List (Nat × Nat)} {base c : Nat} (h : w.ownsRow base 137 2 (.slice A L.length c) L.length (bsC L)) (hG : ∀ g, (Value.slice A L.length c).ownBlock = some g → G g ∧ g ≠ xb) : Rd G xb w A L := fun hp => by
  obtain ⟨g, cap, hv, _, hlt⟩ := h.form hp
  injection hv with hv1 hv2 hv3
  subst hv1
  subst hv3
  have := hG g rfl
  refine ⟨g, rfl, this.1, this.2, hlt, fun k x hk => ?_⟩
  have hkl : k < L.length := (List.getElem?_eq_some_iff.1 hk).1
  have h2 := bsC_get L k x hk
  exact ⟨(h.cellAt (k * 2) (by omega)).trans h2.1, (h.cellAt (k * 2 + 1) (by omega)).trans h2.2⟩
/-- The reference's memory in the world. -/
def RefAt (w : World) (xb : Nat) (G : Nat → Prop) (n : Nat) (L : List (Nat × Nat)) : Prop := ∃ A c, Blk w xb 81 #[.int .i64 (n : Int), .slice A L.length c] ∧ Rd G xb w A L ∧ G xb ∧ ∀ g, G g → g < w.heap.size
theorem RefAt.keeps {w w' : World} {xb n : Nat} {F G : Nat → Prop} {L : List (Nat × Nat)} (h : RefAt w xb G n L) (k : Keeps F w w') (hd : ∀ g, G g → ¬ F g) : RefAt w' xb G n L := by
  obtain ⟨A, c, hb, h1, h3, h4⟩ := h
  exact ⟨A, c, k.blk hb (hd _ h3), h1.keeps k (fun g hg _ => hd g hg), h3, fun g hg => Nat.lt_of_lt_of_le (h4 g hg) k.size⟩
theorem RefAt.below {w w' : World} {xb n : Nat} {G : Nat → Prop} {L : List (Nat × Nat)} (h : RefAt w xb G n L) (hb : Below w.heap.size w w') : RefAt w' xb G n L := h.keeps (F := fun _ => False) (Keeps.of_below hb) (fun _ _ h => h)
/-- The byte that L says lies at a place. -/
def getB (L : List (Nat × Nat)) (at_ : Nat) : Nat := match L.find? (fun x => x.1 == at_) with | some x => x.2 | none => 0
theorem find_step {L : List (Nat × Nat)} {k at_ : Nat} {x : Nat × Nat} (hx : L[k]? = some x) (h : ∀ j y, j < k → L[j]? = some y → y.1 ≠ at_) (hp : x.1 = at_) : getB L at_ = x.2 := by
  have hk : k < L.length := (List.getElem?_eq_some_iff.1 hx).1
  have e : L = L.take k ++ x :: L.drop (k + 1) := by
    rw [List.getElem?_eq_getElem hk] at hx
    injection hx with hx
    rw [← hx, List.getElem_cons_drop, List.take_append_drop]
  have hn : (L.take k).find? (fun x => x.1 == at_) = none := List.find?_eq_none.2 fun y hy => by
    obtain ⟨j, hj, rfl⟩ := List.mem_take_iff_getElem.1 hy
    have := h j _ (by omega) (List.getElem?_eq_getElem (by omega))
    simpa using this
  unfold getB
  rw [e, List.find?_append, hn, Option.none_or, List.find?_cons]
  simp [hp]
theorem find_out {L : List (Nat × Nat)} {at_ : Nat} (h : ∀ j y, j < L.length → L[j]? = some y → y.1 ≠ at_) : getB L at_ = 0 := by
  unfold getB
  rw [List.find?_eq_none.2 fun y hy => by
    obtain ⟨j, hj, rfl⟩ := List.mem_iff_getElem.1 hy
    have := h j _ hj (List.getElem?_eq_getElem hj)
    simpa using this]
set_option maxHeartbeats 1000000 in
theorem rget_any (xb n at_ : Nat) (G : Nat → Prop) (L : List (Nat × Nat)) (W : World) (hL : L.length ≤ 1000000) (h : RefAt W xb G n L) :
    Calls Try.prog 51 #[.pointer (some ⟨xb, 0, none⟩), .int .u64 (at_ : Int)] W fun e w' => e = .returned (.int .u8 (getB L at_ : Nat)) ∧ Below W.heap.size W w' := by
  obtain ⟨A, c, hb, hr, _⟩ := h
  have c1 : W.cell? ⟨xb, 1, none⟩ = some (.slice A L.length c) := hb.cell 1
  have HR := Lib.hid hr
  have HL := Lib.hid hL
  clear hb hr
  go_enter Try.func51, Try.ntmps51
  go_wp2_with fail
  go_loopw [12] (fun i wr => ∃ k : Nat, k ≤ L.length ∧ i = .int .i64 k ∧ Below W.heap.size W wr ∧ ∀ j y, j < k → L[j]? = some y → y.1 ≠ at_) (fun i _ => L.length - (intOf i).toNat)
  case atStart => exact ⟨0, by omega, rfl, Below.refl _ _, fun j y hj => by omega⟩
  case round =>
    obtain ⟨k, hk, rfl, hbel, hno⟩ := hrel
    have HB := Lib.hid hbel
    have HNO := Lib.hid hno
    clear hbel hno c1
    by_cases hkl : k < L.length
    · obtain ⟨x, hx⟩ : ∃ x, L[k]? = some x := ⟨_, List.getElem?_eq_getElem hkl⟩
      obtain ⟨b, rfl, _, _, hbl, hc⟩ := HR.out (by omega)
      have s0 := (HB.out.cell (p := ⟨b, k * 2, none⟩) hbl).trans (hc k x hx).1
      have s1 := (HB.out.cell (p := ⟨b, k * 2 + 1, none⟩) hbl).trans (hc k x hx).2
      have HX := Lib.hid hx
      clear hc hx
      obtain ⟨p, v⟩ := x
      simp only at s0 s1
      by_cases he : p = at_
      · subst he
        have HG := Lib.hid (find_step HX.out HNO.out rfl)
        go_wp2_with fail
        go_ret
        exact ⟨by rw [HG.out]; rfl, HB.out.alloc HB.out.size _⟩
      · have hne : ((p : Int) == (at_ : Int)) = false := by simp; omega
        have HNE := Lib.hid he
        clear he
        go_wp2_with fail
        go_roundw
        case rel =>
          refine ⟨k + 1, by omega, by go_num, HB.out.alloc HB.out.size _, fun j y hj hjy => ?_⟩
          rcases Nat.lt_or_ge j k with h1 | h1
          · exact HNO.out j y h1 hjy
          · obtain rfl : j = k := by omega
            rw [HX.out] at hjy
            injection hjy with hjy
            subst hjy
            exact HNE.out
        case measure => simp [intOf]; omega
    · obtain rfl : k = L.length := by omega
      have HG := Lib.hid (find_out HNO.out)
      go_wp2_with fail
      go_ret
      exact ⟨by rw [HG.out]; rfl, HB.out⟩
end Go.Proofs.Ytecalibnnfcaeaa

/- The reference's memory: put. -/
namespace Go.Proofs.Ytecalibnnfcaeaa
open Go.RowKit

theorem rinfo : (Try.prog.info? 137).map (fun i => (i.zero, i.size, i.bytes)) = some (some (.agg #[.int .u64 0, .int .u8 0]), 2, 16) := by kernel_rfl
theorem reads_b (w : World) (x : Nat × Nat) : Reads (w.alloc (.cells #[.int .u64 (x.1 : Int), .int .u8 (x.2 : Int)] 137)) (w.heap.size + 1) 2 (some ⟨w.heap.size, 0, none⟩) 1 (bC x) := by
  refine ⟨rfl, fun _ => ⟨_, rfl, Nat.lt_succ_self _, fun j u hj => ?_⟩⟩
  have hb := Blkf.new_at w 137 (0, 0) #[.int .u64 (x.1 : Int), .int .u8 (x.2 : Int)] rfl
  have ea : (⟨w.heap.size, 0, none⟩ : Addr).add j = ⟨w.heap.size, j, none⟩ := by unfold Addr.add; split <;> simp_all
  rw [ea, hb.cell j]
  simpa [bC] using hj
theorem reads_b_at (w : World) (p v n : Nat) (hn : n = w.heap.size) : Reads (w.alloc (.cells #[.int .u64 (p : Int), .int .u8 (v : Int)] 137)) (n + 1) 2 (some ⟨n, 0, none⟩) 1 (bC (p, v)) := by
  subst hn
  exact reads_b w (p, v)
theorem one_b (x : Nat × Nat) : ∀ u ∈ bC x, u.oneCell' = true := by
  intro u hu
  rcases List.mem_cons.1 hu with rfl | hu
  · rfl
  · obtain rfl : u = .int .u8 (x.2 : Int) := by simpa using hu
    rfl
def outB (L : List (Nat × Nat)) (at_ : Nat) : List (Nat × Nat) := L.filter (fun x => x.1 != at_)
def putB (L : List (Nat × Nat)) (at_ b : Nat) : List (Nat × Nat) := outB L at_ ++ (if b = 0 then [] else [(at_, b)])
theorem outB_length (L : List (Nat × Nat)) (at_ : Nat) : (outB L at_).length ≤ L.length := List.length_filter_le _ _
theorem putB_length (L : List (Nat × Nat)) (at_ b : Nat) : (putB L at_ b).length ≤ L.length + 1 := by
  unfold putB
  have := outB_length L at_
  rw [List.length_append]
  split <;> simp <;> omega
theorem outB_skip {L : List (Nat × Nat)} {k at_ : Nat} {x : Nat × Nat} (h : L[k]? = some x) (hx : x.1 = at_) : outB (L.take (k + 1)) at_ = outB (L.take k) at_ := by
  unfold outB
  rw [List.take_add_one, h, List.filter_append]
  simp [hx]
theorem outB_step {L : List (Nat × Nat)} {k at_ : Nat} {x : Nat × Nat} (h : L[k]? = some x) (hx : x.1 ≠ at_) : outB (L.take (k + 1)) at_ = outB (L.take k) at_ ++ [x] := by
  unfold outB
  rw [List.take_add_one, h, List.filter_append]
  simp [hx]
theorem bsC_snoc (L : List (Nat × Nat)) (x : Nat × Nat) : bsC (L ++ [x]) = bsC L ++ bC x := by simp [bsC]
theorem row_form {w : World} {base n : Nat} {v : Value} {xs : List Value} {t : TypeId} {s : Nat} (h : w.ownsRow base t s v n xs) : ∃ A c, v = .slice A n c := by
  rcases h.2 with ⟨rfl, rfl⟩ | ⟨g, cap, cur, rfl, _⟩
  · exact ⟨none, 0, rfl⟩
  · exact ⟨_, _, rfl⟩
def PutR (W : World) (xb n : Nat) (G : Nat → Prop) (L : List (Nat × Nat)) (w' : World) : Prop :=
  ∃ G', RefAt w' xb G' n L ∧ (∀ g, G' g → G g ∨ W.heap.size ≤ g) ∧ Keeps (fun g => g = xb) W w'
theorem put_fin {W w : World} {xb n : Nat} {G : Nat → Prop} {u v : Value} {L : List (Nat × Nat)} (hW : Below W.heap.size W w) (hb : Blk W xb 81 #[.int .i64 (n : Int), u]) (hG : G xb)
    (hGl : ∀ g, G g → g < W.heap.size) (ho : w.ownsRow W.heap.size 137 2 v L.length (bsC L)) : PutR W xb n G L (w.setCell ⟨xb, 1, none⟩ v) := by
  have hk := (Keeps.refl (fun g => g = xb) w).setCell (p := ⟨xb, 1, none⟩) (.inl rfl) v
  have hk0 : Keeps (fun g => g = xb) W (w.setCell ⟨xb, 1, none⟩ v) := (Keeps.of_below hW).same hk
  have ho2 := hk.row ho (fun g hg e => by have := (ho.lt g hg).1; have := hGl _ hG; omega)
  have hb2 := Blkf.set_ (hb.below hW hb.lt) 1 v
  obtain ⟨A, c, rfl⟩ := row_form ho
  have hs : ∀ g, (Value.slice A L.length c).ownBlock = some g → W.heap.size ≤ g ∧ g < (w.setCell ⟨xb, 1, none⟩ (.slice A L.length c)).heap.size := fun g hg => ho2.lt g hg
  refine ⟨fun g => g < (w.setCell ⟨xb, 1, none⟩ (.slice A L.length c)).heap.size ∧ (G g ∨ W.heap.size ≤ g), ⟨A, c, hb2, Rd.own ho2 (fun g hg => ⟨⟨(hs g hg).2, .inr (hs g hg).1⟩, fun e => by have := (hs g hg).1; have := hGl _ hG; omega⟩), ⟨Nat.lt_of_lt_of_le (hGl _ hG) hk0.size, .inl hG⟩, fun g hg => hg.1⟩, fun g hg => hg.2, hk0⟩
set_option maxHeartbeats 1000000 in
theorem rput_any (xb n at_ b : Nat) (G : Nat → Prop) (L : List (Nat × Nat)) (W : World) (hL : L.length ≤ 1000000) (h : RefAt W xb G n L) :
    Calls Try.prog 42 #[.pointer (some ⟨xb, 0, none⟩), .int .u64 (at_ : Int), .int .u8 (b : Int)] W fun e w' => e = .returned (.tuple #[]) ∧ PutR W xb n G (putB L at_ b) w' := by
  obtain ⟨A, c, hb, hr, hG, hGl⟩ := h
  obtain ⟨i0, hi0, hz0, hz1, hz2⟩ := info_parts rinfo
  have c1 : W.cell? ⟨xb, 1, none⟩ = some (.slice A L.length c) := hb.cell 1
  have HR := Lib.hid hr
  have HX := Lib.hid hb
  have HG := Lib.hid hG
  have HGL := Lib.hid hGl
  have HXL := Lib.hid hb.lt
  clear hb hr hG hGl
  go_enter Try.func42, Try.ntmps42
  go_wp2_with fail
  go_loopw [6, 14] (fun v i wr => ∃ k : Nat, k ≤ L.length ∧ i = .int .i64 k ∧ wr.ownsRow W.heap.size 137 2 v (outB (L.take k) at_).length (bsC (outB (L.take k) at_)) ∧ Below W.heap.size W wr) (fun _ i _ => L.length - (intOf i).toNat)
  case atStart => exact ⟨0, by omega, rfl, World.ownsRow_nil _ _ _ _, Below.refl _ _⟩
  case round =>
    obtain ⟨k, hk, rfl, ho, hbel⟩ := hrel
    have hlen := Nat.le_trans (outB_length (L.take k) at_) (by rw [List.length_take]; exact Nat.min_le_right _ _)
    obtain ⟨Av, cv, hv⟩ := row_form ho
    subst hv
    have HO := Lib.hid ho
    have HB := Lib.hid hbel
    have hsz := hbel.size
    clear hbel ho c1
    by_cases hkl : k < L.length
    · obtain ⟨x, hx⟩ : ∃ x, L[k]? = some x := ⟨_, List.getElem?_eq_getElem hkl⟩
      obtain ⟨g, rfl, _, _, hbl, hc⟩ := HR.out (by omega)
      have s0 := (HB.out.cell (p := ⟨g, k * 2, none⟩) hbl).trans (hc k x hx).1
      have s1 := (HB.out.cell (p := ⟨g, k * 2 + 1, none⟩) hbl).trans (hc k x hx).2
      clear hc
      obtain ⟨p, v⟩ := x
      simp only at s0 s1
      by_cases he : p = at_
      · have HS := Lib.hid (outB_skip hx he)
        subst he
        clear hx
        go_wp2_with fail
        go_roundw
        case rel => exact ⟨k + 1, by omega, by go_num, by rw [HS.out]; exact HO.out.alloc _, HB.out.alloc hsz _⟩
        case measure => simp [intOf]; omega
      · have hne : ((p : Int) != (at_ : Int)) = true := by simp; omega
        have HS := Lib.hid (outB_step hx he)
        clear he hx
        generalize outB (L.take k) at_ = N at *
        go_wp2_with (at_builtin; (refine wpList_append_any _ rfl (.tmp 22) (.tmp 24) _ rfl W.heap.size 137 i0 _ 2 16 Try.underlying79 hi0 hz0 hz1 hz2 rfl (by decide) _ N.length (bsC N) rfl ((HO.out.alloc _).alloc _) (wr.heap.size + 1 + 1) (some ⟨wr.heap.size + 1, 0, none⟩) 1 1 (bC (p, v)) rfl (reads_b_at _ p v _ (by simp)) (one_b _) (by unfold maxLen; omega) (by omega) (by simp; omega) ?_; intro v3 w3 hown hgrow hat; have HOWN := Lib.hid hown; have HGR := Lib.hid hgrow; clear hown hgrow hat))
        go_roundw
        case rel =>
          refine ⟨k + 1, by omega, by go_num, ?_, ?_⟩
          · rw [HS.out, bsC_snoc, List.length_append]
            exact HOWN.out
          · exact ((HB.out.alloc hsz _).alloc (by simp; omega) _).grown HGR.out (by simp; omega) (fun g hg => (HO.out.lt g hg).1)
        case measure => simp [intOf]; omega
    · obtain rfl : k = L.length := by omega
      rw [List.take_length] at HO hlen ⊢
      have hxb := HXL.out
      have hbr := HX.out.below HB.out HXL.out
      have f1 := Blk.frozen hbr 1
      have c1 : wr.cell? ⟨xb, 1, none⟩ = some (.slice A L.length c) := hbr.cell 1
      clear hbr
      by_cases h0 : b = 0
      · have HP : Hid (putB L at_ b = outB L at_) := Lib.hid (by unfold putB; rw [if_pos h0, List.append_nil])
        subst h0
        go_wp2_with fail
        refine bodyPost_end (results_none rfl _ _ _) rfl ?_
        rw [HP.out]
        exact ⟨rfl, put_fin HB.out HX.out HG.out HGL.out HO.out⟩
      · have HP : Hid (putB L at_ b = outB L at_ ++ [(at_, b)]) := Lib.hid (by unfold putB; rw [if_neg h0])
        have hne : ((b : Int) != 0) = true := by simp; omega
        clear h0
        generalize outB L at_ = N at *
        go_wp2_with (at_builtin; (refine wpList_append_any _ rfl (.tmp 29) (.tmp 33) _ rfl W.heap.size 137 i0 _ 2 16 Try.underlying79 hi0 hz0 hz1 hz2 rfl (by decide) _ N.length (bsC N) rfl (HO.out.alloc _) (wr.heap.size + 1) (some ⟨wr.heap.size, 0, none⟩) 1 1 (bC (at_, b)) rfl (reads_b_at _ at_ b _ rfl) (one_b _) (by unfold maxLen; omega) (by omega) (by simp; omega) ?_; intro v3 w3 hown hgrow hat; have HW3 := Lib.hid ((HB.out.alloc hsz (.cells #[.int .u64 (at_ : Int), .int .u8 (b : Int)] 137)).grown hgrow (by simp; omega) (fun g hg => (HO.out.lt g hg).1)); have hb3 := HX.out.below HW3.out HXL.out; have f13 := Blk.frozen hb3 1; have c13 : w3.cell? ⟨xb, 1, none⟩ = some (.slice A L.length c) := hb3.cell 1; obtain ⟨A3, c3, hv3⟩ := row_form hown; subst hv3; have HOWN := Lib.hid hown; clear hown hgrow hat hb3))
        refine bodyPost_end (results_none rfl _ _ _) rfl ?_
        rw [HP.out]
        refine ⟨rfl, put_fin HW3.out HX.out HG.out HGL.out ?_⟩
        rw [bsC_snoc, List.length_append]
        exact HOWN.out
end Go.Proofs.Ytecalibnnfcaeaa
