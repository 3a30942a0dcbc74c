/- A memory: own, load, Load, Store, Swap. -/
import Derived.Test.YtmnpakfihfjfiaaPhyB
namespace Go.Proofs.Ytmnpakfihfjfiaa
open Go.RowKit

def zpg : Array Value := (zeroL.map bv).toArray
theorem built_pg : Try.prog.built 96 [] = some zpg := by kernel_rfl
theorem wl_build0 {P : Program} {ops : Array Oper} {rest : List Oper} {o : Oper} {a : Act} {w : World} {Q : Exit → Act → World → Prop} (ty : TypeId) (ho : o.op = .build ty #[]) (hg : o.guard = none) (zs : Array Value) (hz : P.built ty [] = some zs)
    (h : wpList P ops Q rest (a.put o.dst (.agg zs)) w) : wpList P ops Q (o :: rest) a w := by
  have e : (P.built ty ((#[] : Array (Nat × Operand)).map fun (i, x) => (i, a.eval x)).toList) = some zs := by simpa using hz
  refine wpList_build hg ty #[] ho (by rw [e]; rfl) ?_
  rw [e]
  exact h
theorem zpg_at {w : World} {p : Nat} (h : Blk w p 96 zpg) : PgAt w p zeroL := by
  refine ⟨List.length_replicate, fun i => by rw [zeroL_get]; decide, fun i hi => ?_, fun i => h.frozen i⟩
  rw [h.cell]
  unfold zpg
  rw [List.getElem?_toArray, List.getElem?_map, List.getD_eq_getElem?_getD, List.getElem?_eq_getElem (by rw [show zeroL.length = 4096 from List.length_replicate]; exact hi)]
  rfl
/-- The page of frame k lies in block p, to be written. -/
def Owned (w : World) (g p k n : Nat) (F : Nat → Prop) (S : Nat → List Nat) : Prop := ∃ mb loc K, MemAt w g mb loc K n S ∧ (∀ b, memF g mb loc K b → F b) ∧ k ∈ K ∧ loc k = p
def updS (S : Nat → List Nat) (k : Nat) (l : List Nat) : Nat → List Nat := fun j => if j = k then l else S j
theorem Owned.page {w : World} {g p k n : Nat} {F : Nat → Prop} {S : Nat → List Nat} (h : Owned w g p k n F S) : PgAt w p (S k) := by
  obtain ⟨mb, loc, K, h, _, hk, rfl⟩ := h
  exact h.page k hk
theorem Owned.fp {w : World} {g p k n : Nat} {F : Nat → Prop} {S : Nat → List Nat} (h : Owned w g p k n F S) : F p := by
  obtain ⟨mb, loc, K, h, hF, hk, rfl⟩ := h
  exact hF _ (.inr (.inr ⟨k, hk, rfl⟩))
theorem Owned.turn {w w' : World} {g p k n : Nat} {F : Nat → Prop} {S : Nat → List Nat} {l : List Nat} (h : Owned w g p k n F S) (hk : Keeps (fun b => b = p) w w') (hp : PgAt w' p l) : Mem w' g F n (updS S k l) := by
  obtain ⟨mb, loc, K, h, hF, hK, rfl⟩ := h
  obtain ⟨a1, a2⟩ := h.apart
  refine ⟨mb, loc, K, ⟨hk.blk h.head (fun e => (a2 k hK).1 e.symm), h.mp.keeps hk (fun e => (a2 k hK).2 e.symm), fun j hj => ?_, fun j hj => ?_, h.nd, h.lt, h.inj, h.apart, h.n1, h.n2⟩, hF⟩
  · unfold updS
    by_cases e : j = k
    · subst e; rw [if_pos rfl]; exact hp
    · rw [if_neg e]
      exact (h.page j hj).keeps hk (fun e2 => e (h.inj j k hj hK e2))
  · unfold updS
    rw [if_neg (fun e => hj (by rw [e]; exact hK))]
    exact h.zero j hj
theorem Owned.keeps {w w' : World} {g p k n : Nat} {F G : Nat → Prop} {S : Nat → List Nat} (h : Owned w g p k n F S) (hk : Keeps G w w') (hd : ∀ b, F b → ¬ G b) : Owned w' g p k n F S := by
  obtain ⟨mb, loc, K, h, hF, hK, e⟩ := h
  exact ⟨mb, loc, K, h.keeps hk (fun b hb => hd b (hF b hb)), hF, hK, e⟩
theorem Owned.mem {w : World} {g p k n : Nat} {F : Nat → Prop} {S : Nat → List Nat} (h : Owned w g p k n F S) : Mem w g F n S := by
  obtain ⟨mb, loc, K, h, hF, _⟩ := h
  exact ⟨mb, loc, K, h, hF⟩
def OwnR (g k n : Nat) (F : Nat → Prop) (S : Nat → List Nat) (W : World) (e : Ending) (w' : World) : Prop :=
  ∃ p F', e = .returned (.pointer (some ⟨p, 0, none⟩)) ∧ Owned w' g p k n F' S ∧ (∀ b, F' b → F b ∨ W.heap.size ≤ b) ∧ Keeps F W w'
set_option maxHeartbeats 1000000 in
theorem own_any (g k n : Nat) (F : Nat → Prop) (S : Nat → List Nat) (W : World) (h : Mem W g F n S) (hk : k < n) :
    Calls Try.prog 29 #[.pointer (some ⟨g, 0, none⟩), .int .i64 (k : Int)] W (OwnR g k n F S W) := by
  obtain ⟨mb, loc, K, h, hF⟩ := h
  have hn := h.n2
  have c0 : W.cell? ⟨g, 0, none⟩ = some (.map (some mb)) := h.head.cell 0
  have hl := h.mp.look (k := k) (by omega)
  have H := Lib.hid h
  have HF := Lib.hid hF
  by_cases hK : k ∈ K
  · rw [if_pos hK] at hl
    have HK := Lib.hid hK
    unfold ptrV at hl
    clear h hF hK
    go_enter Try.func29, Try.ntmps29
    go_wp2_with fail
    go_ret
    exact ⟨loc k, F, rfl, ⟨mb, loc, K, H.out, HF.out, HK.out, rfl⟩, fun b hb => .inl hb, Keeps.refl _ _⟩
  · rw [if_neg hK] at hl
    have HK := Lib.hid hK
    have hlen := h.len
    unfold ptrV at hl
    have hal : Below W.heap.size W (W.alloc (.cells zpg 96)) := (Below.refl _ _).alloc (Nat.le_refl _) _
    have HN : Hid (Blk (W.alloc (.cells zpg 96)) W.heap.size 96 zpg) := Lib.hid (Blkf.new_at _ _ _ _ rfl)
    have HM := Lib.hid (h.below hal)
    have c0' : (W.alloc (.cells zpg 96)).cell? ⟨g, 0, none⟩ = some (.map (some mb)) := HM.out.head.cell 0
    clear h hF hK hal
    go_enter Try.func29, Try.ntmps29
    go_wp2_with (first | ((with_reducible refine wl_build0 96 rfl rfl zpg built_pg ?_)) | ((with_reducible refine wpList_pput _ rfl (.tmp 19) (.tmp 20) (.tmp 21) rfl mb K loc k W.heap.size ?_ ?_ ?_ HM.out.mp (by omega) (by unfold maxLen; omega) ?_); exact rfl; exact rfl; exact rfl; intro w2 hp hg; have HP := Lib.hid hp; have HG := Lib.hid hg; clear hp hg))
    go_ret
    have hk1 : Keeps (fun b => b = mb) (W.alloc (.cells zpg 96)) w2 := ⟨HG.out.os, HG.out.tape, HG.out.output, HG.out.size, fun i hi hne => HG.out.block i hi (fun e => hne (by injection e))⟩
    have hmb : mb < W.heap.size := H.out.mp.lt
    have hKb : Keeps F W w2 := ((Keeps.refl F W).alloc _).trans hk1 (fun i hi => .inl (by rw [hi]; exact HF.out _ (.inr (.inl rfl))))
    have hgl := H.out.head.lt
    refine ⟨W.heap.size, fun b => F b ∨ W.heap.size ≤ b, rfl, ⟨mb, fun j => if j = k then W.heap.size else loc j, k :: K, ⟨?_, HP.out, fun j hj => ?_, fun j hj => ?_, ?_, fun j hj => ?_, fun i j hi hj e => ?_, ⟨H.out.apart.1, fun j hj => ?_⟩, H.out.n1, H.out.n2⟩, ?_, by simp, by simp⟩, fun b hb => hb, hKb⟩
    · exact hk1.blk HM.out.head (fun e => H.out.apart.1 e.symm)
    · by_cases e : j = k
      · subst e
        rw [if_pos rfl, H.out.zero j HK.out]
        exact (zpg_at HN.out).keeps hk1 (fun e => by omega)
      · rw [if_neg e]
        have hj' : j ∈ K := by simpa [e] using hj
        exact (HM.out.page j hj').keeps hk1 (H.out.apart.2 j hj').2
    · simp at hj
      exact H.out.zero j hj.2
    · exact List.nodup_cons.2 ⟨HK.out, H.out.nd⟩
    · rcases List.mem_cons.1 hj with rfl | hj
      · exact hk
      · exact H.out.lt j hj
    · by_cases ei : i = k <;> by_cases ej : j = k
      · rw [ei, ej]
      · have hj' : j ∈ K := by simpa [ej] using hj
        have := (H.out.page j hj').lt
        simp [ei, ej] at e; omega
      · have hi' : i ∈ K := by simpa [ei] using hi
        have := (H.out.page i hi').lt
        simp [ei, ej] at e; omega
      · have hi' : i ∈ K := by simpa [ei] using hi
        have hj' : j ∈ K := by simpa [ej] using hj
        simp [ei, ej] at e
        exact H.out.inj i j hi' hj' e
    · by_cases e : j = k
      · rw [if_pos e]; omega
      · rw [if_neg e]
        have hj' : j ∈ K := by simpa [e] using hj
        exact H.out.apart.2 j hj'
    · rintro b (rfl | rfl | ⟨j, hj, rfl⟩)
      · exact .inl (HF.out _ (.inl rfl))
      · exact .inl (HF.out _ (.inr (.inl rfl)))
      · by_cases e : j = k
        · simp [e]
        · have hj' : j ∈ K := by simpa [e] using hj
          simp only [if_neg e]
          exact .inl (HF.out _ (.inr (.inr ⟨j, hj', rfl⟩)))
end Go.Proofs.Ytmnpakfihfjfiaa
