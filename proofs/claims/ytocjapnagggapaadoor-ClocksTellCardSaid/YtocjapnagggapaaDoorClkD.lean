/- A cell of the book. -/
import Derived.Test.YtocjapnagggapaaDoorClkC
namespace Go.Proofs.YtocjapnagggapaaDoor
open Go.RowKit Go.Maps

/-- The book, with its map laid open. -/
def bookK (g mb : Nat) (loc : Nat → Nat) (K : List Nat) (s : Bk) : Obj where
  At w F := BookAt w g mb loc K s (fun _ => False) ∧ ∀ b, F b ↔ bkF g mb loc K (fun _ => False) b
  keeps := fun ⟨h1, h3⟩ k hd => ⟨h1.keeps k (fun b hb => hd b ((h3 b).2 hb)), h3⟩
  lt := fun ⟨h1, h3⟩ hb => h1.flt _ ((h3 _).1 hb)
theorem Objs.openK {W w : World} {os : List Obj} {g n : Nat} {s : Bk} (h : Objs W (bookO g n s :: os) w) : ∃ mb loc K, K.length ≤ n ∧ Objs W (bookK g mb loc K s :: os) w := by
  obtain ⟨Fs, h1, h2, h3, h4⟩ := h.ex
  match Fs, h1, h2, h3, h4 with
  | F :: Fr, h1, h2, h3, h4 =>
    obtain ⟨mb, loc, K, hB, hK, hF⟩ := h2 0 _ F rfl rfl
    refine ⟨mb, loc, K, hK, ⟨F :: Fr, by simpa using h1, fun i O G hO hG => ?_, h3, h4⟩, h.bel⟩
    match i, hO, hG with
    | 0, hO, hG =>
      simp only [List.getElem?_cons_zero, Option.some.injEq] at hO hG
      subst hO hG
      exact ⟨hB, hF⟩
    | i + 1, hO, hG => exact h2 (i + 1) O G hO hG
section
variable {W w w' : World} {os : List Obj} {g n at_ p : Nat} {s : Bk} {la to : Nat → Nat}
/-- A cell is taken out. -/
theorem Objs.hole {mb : Nat} {loc : Nat → Nat} {K : List Nat} (h : Objs W (bookK g mb loc K s :: os) w) (hn : K.length ≤ n) (hm : at_ ∈ K) : Objs W (blkO (loc at_) 74 (cellC (s.la at_) (s.to at_)) :: holeO g n s at_ (loc at_) :: os) w := by
  obtain ⟨Fs, h1, h2, h3, h4⟩ := h.ex
  match Fs, h1, h2, h3, h4 with
  | F :: Fs, h1, h2, h3, h4 =>
  obtain ⟨hB, hF⟩ := h2 0 _ F rfl rfl
  have hin : F (loc at_) := (hF _).2 (.inr (.inr ⟨at_, hm, fun h => h, rfl⟩))
  have hsub : ∀ b, bkF g mb loc K (fun k => k = at_) b → F b := fun b hb => (hF b).2 (by
    rcases hb with hb | hb | ⟨k, hk, _, hb⟩
    · exact .inl hb
    · exact .inr (.inl hb)
    · exact .inr (.inr ⟨k, hk, fun h => h, hb⟩))
  have hne : ∀ b, bkF g mb loc K (fun k => k = at_) b → b ≠ loc at_ := fun b hb e => by
    rcases hb with hb | hb | ⟨k, hk, hk2, hb⟩
    · exact (hB.apart.2 at_ hm).1 (e.symm.trans hb)
    · exact (hB.apart.2 at_ hm).2 (e.symm.trans hb)
    · exact hk2 (hB.inj k at_ hk hm (hb.symm.trans e))
  refine ⟨⟨(fun b => b = loc at_) :: (fun b => bkF g mb loc K (fun k => k = at_) b) :: Fs, by simpa using h1, fun i O G hO hG => ?_, fun i j A B hA hB2 hij b ha hb => ?_, fun i A hA b ha => ?_⟩, h.bel⟩
  · match i, hO, hG with
    | 0, hO, hG =>
      simp only [List.getElem?_cons_zero, Option.some.injEq] at hO hG
      subst hO hG
      exact ⟨hB.page at_ hm (fun h => h), fun _ => Iff.rfl⟩
    | 1, hO, hG =>
      simp only [List.getElem?_cons_zero, List.getElem?_cons_succ, Option.some.injEq] at hO hG
      subst hO hG
      exact ⟨mb, loc, K, ⟨hB.head, hB.mp, fun k hk _ => hB.page k hk (fun h => h), hB.zero, hB.nd, hB.lt, hB.inj, hB.apart⟩, hn, hm, rfl, fun _ => Iff.rfl⟩
    | i + 2, hO, hG => exact h2 (i + 1) O G (by simpa using hO) (by simpa using hG)
  · match i, j, hA, hB2 with
    | 0, 0, _, _ => exact hij rfl
    | 1, 1, _, _ => exact hij rfl
    | 0, 1, hA, hB2 =>
      simp only [List.getElem?_cons_zero, List.getElem?_cons_succ, Option.some.injEq] at hA hB2
      subst hA hB2
      exact hne b hb ha
    | 1, 0, hA, hB2 =>
      simp only [List.getElem?_cons_zero, List.getElem?_cons_succ, Option.some.injEq] at hA hB2
      subst hA hB2
      exact hne b ha hb
    | 0, j + 2, hA, hB2 =>
      simp only [List.getElem?_cons_zero, Option.some.injEq] at hA
      subst hA
      exact h3 0 (j + 1) F B rfl (by simpa using hB2) (by omega) b (by rw [ha]; exact hin) hb
    | 1, j + 2, hA, hB2 =>
      simp only [List.getElem?_cons_zero, List.getElem?_cons_succ, Option.some.injEq] at hA
      subst hA
      exact h3 0 (j + 1) F B rfl (by simpa using hB2) (by omega) b (hsub b ha) hb
    | i + 2, 0, hA, hB2 =>
      simp only [List.getElem?_cons_zero, Option.some.injEq] at hB2
      subst hB2
      exact h3 (i + 1) 0 A F (by simpa using hA) rfl (by omega) b ha (by rw [hb]; exact hin)
    | i + 2, 1, hA, hB2 =>
      simp only [List.getElem?_cons_zero, List.getElem?_cons_succ, Option.some.injEq] at hB2
      subst hB2
      exact h3 (i + 1) 0 A F (by simpa using hA) rfl (by omega) b ha (hsub b hb)
    | i + 2, j + 2, hA, hB2 => exact h3 (i + 1) (j + 1) A B (by simpa using hA) (by simpa using hB2) (by omega) b ha hb
  · match i, hA with
    | 0, hA =>
      simp only [List.getElem?_cons_zero, Option.some.injEq] at hA
      subst hA
      exact h4 0 F rfl b (by rw [ha]; exact hin)
    | 1, hA =>
      simp only [List.getElem?_cons_zero, List.getElem?_cons_succ, Option.some.injEq] at hA
      subst hA
      exact h4 0 F rfl b (hsub b ha)
    | i + 2, hA => exact h4 (i + 1) A (by simpa using hA) b ha
end
theorem ext_alloc' (w : World) (o : Go.Obj) : Ext w (w.alloc o) := (Ext.refl w).alloc (Nat.le_refl _) o
theorem wl_build0 {P : Program} {ops : Array Oper} {rest : List Oper} {o : Oper} {a : Act} {w : World} {Q : Exit → Act → World → Prop} (ty : TypeId) (ho : o.op = .build ty #[]) (hg : o.guard = none) (zs : Array Value) (hz : P.built ty [] = some zs)
    (h : wpList P ops Q rest (a.put o.dst (.agg zs)) w) : wpList P ops Q (o :: rest) a w := by
  have e : (P.built ty ((#[] : Array (Nat × Operand)).map fun (i, x) => (i, a.eval x)).toList) = some zs := by simpa using hz
  refine wpList_build hg ty #[] ho (by rw [e]; rfl) ?_
  rw [e]
  exact h
/-- What 'cell' answers. -/
def CellR (W : World) (g n : Nat) (s : Bk) (os : List Obj) (at_ : Nat) (e : Ending) (w' : World) : Prop :=
  ∃ p, e = .returned (.pointer (some ⟨p, 0, none⟩)) ∧ Objs W (blkO p 74 (cellC (s.la at_) (s.to at_)) :: holeO g (n + 1) s at_ p :: os) w'
theorem Objs.more {W w : World} {os : List Obj} {g n m : Nat} {s : Bk} {at_ p : Nat} {la to : Nat → Nat} (h : Objs W (blkO p 74 (cellC la to) :: holeO g n s at_ p :: os) w) (hm : n ≤ m) : Objs W (blkO p 74 (cellC la to) :: holeO g m s at_ p :: os) w := by
  obtain ⟨Fs, h1, h2, h3, h4⟩ := h.ex
  refine ⟨⟨Fs, h1, fun i O F hO hF => ?_, h3, h4⟩, h.bel⟩
  match i, hO with
  | 0, hO => exact h2 0 O F hO hF
  | 1, hO =>
    simp only [List.getElem?_cons_zero, List.getElem?_cons_succ, Option.some.injEq] at hO
    subst hO
    obtain ⟨mb, loc, K, a, b, c⟩ := h2 1 _ F rfl hF
    exact ⟨mb, loc, K, a, Nat.le_trans b hm, c⟩
  | i + 2, hO => exact h2 (i + 2) O F hO hF
set_option maxHeartbeats 2000000 in
theorem cell_any (g n at_ : Nat) (s : Bk) (os : List Obj) (W w : World) (ha : at_ < 18446744073709551616) (hn : n ≤ 1000) (h : Objs W (bookO g n s :: os) w) :
    Calls Tryd.prog 26 #[.pointer (some ⟨g, 0, none⟩), .int .u64 (at_ : Int)] w (CellR W g n s os at_) := by
  obtain ⟨mb, loc, K, hK, h⟩ := h.openK
  obtain ⟨F, hB, hF⟩ := h.get 0 _ rfl
  have c256 : w.cell? ⟨g, 256, none⟩ = some (.map (some mb)) := (hB.head.cell 256).trans (bookC_map _ _)
  have hl := hB.mp.look (k := at_) ha
  have hgl := hB.head.lt
  by_cases hm : at_ ∈ K
  · rw [if_pos hm] at hl
    unfold ptrV at hl
    have HR : Hid (Objs W (blkO (loc at_) 74 (cellC (s.la at_) (s.to at_)) :: holeO g n s at_ (loc at_) :: os) w) := Lib.hid (h.hole hK hm)
    clear h hB hK hF hm
    go_enter Tryd.func26, Tryd.ntmps26
    go_wp2_with fail
    go_ret
    exact ⟨loc at_, rfl, HR.out.more (by omega)⟩
  · rw [if_neg hm] at hl
    unfold ptrV at hl
    have HH := Lib.hid h
    have HM := Lib.hid hm
    have HK := Lib.hid hK
    have HZ := Lib.hid (hB.zero at_ hm)
    have hal : Ext w (w.alloc (.cells (fnC 32 (fun _ => 0)) 74)) := ext_alloc' _ _
    have HN : Hid (Blk (w.alloc (.cells (fnC 32 (fun _ => 0)) 74)) w.heap.size 74 (fnC 32 (fun _ => 0))) := Lib.hid (Blkf.new_at _ _ _ _ rfl)
    have hB1 := hB.keeps (F := fun _ => False) (Keeps.of_below hal) (fun _ _ h => h)
    have c256' : (w.alloc (.cells (fnC 32 (fun _ => 0)) 74)).cell? ⟨g, 256, none⟩ = some (.map (some mb)) := (hB1.head.cell 256).trans (bookC_map _ _)
    have HB1 := Lib.hid hB1
    have HW : Hid (W.heap.size ≤ w.heap.size) := Lib.hid h.bel.size
    clear h hB hK hF hm hal hB1
    go_enter Tryd.func26, Tryd.ntmps26
    go_wp2_with (first | ((with_reducible refine wl_build0 74 rfl rfl (fnC 32 (fun _ => 0)) built_cell ?_)) | ((with_reducible refine wpList_uput _ rfl (.tmp 19) (.tmp 20) (.tmp 21) rfl mb K loc at_ w.heap.size ?_ ?_ ?_ HB1.out.mp ha (by have := HK.out; unfold maxLen; omega) ?_); exact rfl; exact rfl; exact rfl; intro w2 hp hg; have HP := Lib.hid hp; have HG := Lib.hid hg; clear hp hg))
    go_ret
    refine ⟨w.heap.size, rfl, ?_⟩
    have hk1 : Keeps (fun b => b = mb) (w.alloc (.cells (fnC 32 (fun _ => 0)) 74)) w2 := ⟨HG.out.os, HG.out.tape, HG.out.output, HG.out.size, fun i hi hne => HG.out.block i hi (fun e => hne (by injection e))⟩
    have hmb : mb < w.heap.size := by
      obtain ⟨F, hB, _⟩ := HH.out.get 0 _ rfl
      exact hB.mp.lt
    have hgl2 : g < w.heap.size := by
      obtain ⟨F, hB, _⟩ := HH.out.get 0 _ rfl
      exact hB.head.lt
    have hlk : ∀ k ∈ K, loc k < w.heap.size := by
      obtain ⟨F, hB, _⟩ := HH.out.get 0 _ rfl
      exact fun k hk => (hB.page k hk (fun h => h)).lt
    have hbk : BookAt w2 g mb (fun j => if j = at_ then w.heap.size else loc j) (at_ :: K) s (fun _ => False) := by
      refine ⟨hk1.blk HB1.out.head (fun e => HB1.out.apart.1 e.symm), HP.out, fun j hj _ => ?_, fun j hj => ?_, List.nodup_cons.2 ⟨HM.out, HB1.out.nd⟩, fun j hj => ?_, fun i j hi hj e => ?_, HB1.out.apart.1, fun j hj => ?_⟩
      · by_cases e : j = at_
        · subst e
          rw [if_pos rfl, zeroC s j HZ.out]
          exact hk1.blk HN.out (fun e => by omega)
        · rw [if_neg e]
          have hj' : j ∈ K := by simpa [e] using hj
          exact hk1.blk (HB1.out.page j hj' (fun h => h)) (HB1.out.apart.2 j hj').2
      · simp at hj
        exact HB1.out.zero j hj.2
      · rcases List.mem_cons.1 hj with rfl | hj
        · exact ha
        · exact HB1.out.lt j hj
      · by_cases ei : i = at_ <;> by_cases ej : j = at_
        · rw [ei, ej]
        · have hj' : j ∈ K := by simpa [ej] using hj
          have := hlk j hj'
          simp [ei, ej] at e; omega
        · have hi' : i ∈ K := by simpa [ei] using hi
          have := hlk i hi'
          simp [ei, ej] at e; omega
        · have hi' : i ∈ K := by simpa [ei] using hi
          have hj' : j ∈ K := by simpa [ej] using hj
          simp [ei, ej] at e
          exact HB1.out.inj i j hi' hj' e
      · by_cases e : j = at_
        · rw [if_pos e]; omega
        · rw [if_neg e]
          have hj' : j ∈ K := by simpa [e] using hj
          exact HB1.out.apart.2 j hj'
    have hkb : Objs W (bookK g mb (fun j => if j = at_ then w.heap.size else loc j) (at_ :: K) s :: os) w2 := by
      obtain ⟨Fs, h1, h2, h3, h4⟩ := HH.out.ex
      match Fs, h1, h2, h3, h4 with
      | F :: Fr, h1, h2, h3, h4 =>
        obtain ⟨hB, hF⟩ := h2 0 _ F rfl rfl
        refine (HH.out.turned 0 (O' := bookK g mb (fun j => if j = at_ then w.heap.size else loc j) (at_ :: K) s) (F := F) (F' := fun b => bkF g mb (fun j => if j = at_ then w.heap.size else loc j) (at_ :: K) (fun _ => False) b) (w' := w2) h1 h2 h3 h4 rfl ⟨hbk, fun _ => Iff.rfl⟩ (fun b hb => ?_) ?_).1
        · rcases hb with hb | hb | ⟨k, hk, _, hb⟩
          · exact .inl ((hF b).2 (.inl hb))
          · exact .inl ((hF b).2 (.inr (.inl hb)))
          · by_cases e : k = at_
            · simp only [e, if_true] at hb
              exact .inr (by rw [hb]; exact Nat.le_refl _)
            · simp only [if_neg e] at hb
              exact .inl ((hF b).2 (.inr (.inr ⟨k, by simpa [e] using hk, fun h => h, hb⟩)))
        · exact ((Keeps.refl F w).alloc _).trans hk1 (fun i hi => .inl (by rw [hi]; exact (hF mb).2 (.inr (.inl rfl))))
    have hfin := hkb.hole (n := n + 1) (at_ := at_) (by have := HK.out; simp; omega) (List.mem_cons_self)
    simp only [if_true] at hfin
    exact hfin
end Go.Proofs.YtocjapnagggapaaDoor
