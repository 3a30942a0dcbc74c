/- Merged texts: PhyA, PhyB, PhyC, PhyD, PhyE, PhyF, PhyG, PhyH, PhyQ. -/
import Derived.Test.YtbgagmpinekhpaaTk1
import Derived.Test.YtbgagmpinekhpaaWide
import Derived.Laws.AppendOwn
import Derived.Laws.MakeOwn
import Derived.Laws.OwnMore
import Derived.Laws.CopyOwn
/- A map of pages: pointers by numbers. -/
namespace Go.Proofs.Ytbgagmpinekhpaa
open Go.RowKit Go.Maps

/-- How a pointer reads: by its block's number. -/
def ptrR (v : Value) : Option (DataW Unit × List MemPlace) :=
  match v with
  | .pointer none => some (.lit (.bool false), [])
  | .pointer (some ⟨b, 0, none⟩) => some (.lit (.int .i64 (b : Int)), [])
  | _ => none
def ptrV : Option Nat → Value
  | none => .pointer none
  | some b => .pointer (some ⟨b, 0, none⟩)
def ptrD : Option Nat → DataW Unit
  | none => .lit (.bool false)
  | some b => .lit (.int .i64 (b : Int))
theorem ptrR_V (o : Option Nat) : ptrR (ptrV o) = some (ptrD o, []) := by cases o <;> rfl
theorem ptrR_inv {v : Value} {o : Option Nat} {ps : List MemPlace} (h : ptrR v = some (ptrD o, ps)) : v = ptrV o := by
  unfold ptrR at h
  split at h
  · cases o
    · rfl
    · simp [ptrD] at h
  · rename_i b
    cases o with
    | none => simp [ptrD] at h
    | some c =>
      simp [ptrD] at h
      have : b = c := by have := h.1; omega
      subst this; rfl
  · cases h
theorem lawI : Keyed Try.prog 3 := int_keyed Try.underlying3
theorem zeroP (w : World) : (zeroValue 103).run Try.prog w = .ok (.pointer none) w := by kernel_rfl
theorem keyI {f : Int} (h : (Lit.int .i64 f).wf = true) : keyOf Try.prog 3 (.int .i64 f) = some (.int .i64 f) := keyOf_int_mk Try.underlying3 h
theorem isKeyI (f : Int) : WideAt.IsKeyLit (.int .i64 f) := by simp [WideAt.IsKeyLit]
theorem wfN {k : Nat} (h : k < 9223372036854775808) : (Lit.int .i64 (k : Int)).wf = true := by
  simp [Lit.wf, IntKind.min, IntKind.max, IntKind.signed, IntKind.bits]
  omega
/-- Block b is a map that holds a pointer to the block loc k at each number k of K, and nothing else. -/
def PMap (w : World) (b : Nat) (K : List Nat) (loc : Nat → Nat) : Prop := ∃ D : DataW Unit, w.ownsMap Try.prog 3 ptrR b K.length D ∧
  ∀ k : Nat, k < 9223372036854775808 → D.atKey (.int .i64 (k : Int)) (.lit (.bool false)) = ptrD (if k ∈ K then some (loc k) else none)
theorem PMap.lt {w : World} {b : Nat} {K : List Nat} {loc : Nat → Nat} (h : PMap w b K loc) : b < w.heap.size := by
  obtain ⟨D, h, _⟩ := h; exact h.lt
theorem PMap.keep {w w' : World} {b : Nat} {K : List Nat} {loc : Nat → Nat} {row : Option Nat} (h : PMap w b K loc) (hg : w.grownBy w' row) (hne : some b ≠ row) : PMap w' b K loc := by
  obtain ⟨D, h, r⟩ := h; exact ⟨D, h.kept hg hne, r⟩
theorem PMap.keeps {w w' : World} {b : Nat} {K : List Nat} {loc : Nat → Nat} {F : Nat → Prop} (h : PMap w b K loc) (hg : Keeps F w w') (hne : ¬ F b) : PMap w' b K loc := by
  obtain ⟨D, h, r⟩ := h; exact ⟨D, hg.map h hne, r⟩
theorem PMap.look {w : World} {b : Nat} {K : List Nat} {loc : Nat → Nat} (h : PMap w b K loc) {k : Nat} (hk : k < 9223372036854775808) :
    (Instr.lookup 67 (.map (some b)) (.int .i64 (k : Int)) false).run Try.prog w = .ok (ptrV (if k ∈ K then some (loc k) else none)) w := by
  obtain ⟨D, h, hD⟩ := h
  obtain ⟨v, ps, hrun, hv⟩ := h.lookup lawI Try.underlying67 (zeroP w) (ptrR_V none) (keyI (wfN hk))
  rw [show ptrD none = .lit (.bool false) from rfl, hD k hk] at hv
  rw [hrun, ptrR_inv hv]
theorem PMap.new (w : World) (loc : Nat → Nat) : PMap (w.alloc (.map #[] 0)) w.heap.size [] loc :=
  ⟨.map [], World.ownsMap_made _ _ _ _, fun k hk => by simp [DataW.atKey, ptrD]⟩
theorem PMap.put {w : World} {b : Nat} {K : List Nat} {loc : Nat → Nat} (h : PMap w b K loc) {k p : Nat} (hk : k < 9223372036854775808) (hm : K.length < maxLen) :
    ∃ w', (Instr.mapUpdate 67 (.map (some b)) (.int .i64 (k : Int)) (ptrV (some p))).run Try.prog w = .ok () w' ∧ PMap w' b (k :: K) (fun j => if j = k then p else loc j) ∧ w.grownBy w' (some b) := by
  obtain ⟨D, h, hD⟩ := h
  obtain ⟨w', hrun, h', hg⟩ := h.update lawI Try.underlying67 hm (keyI (wfN hk)) (ptrR_V (some p))
  refine ⟨w', hrun, ⟨_, h', fun j hj => ?_⟩, hg⟩
  by_cases e : j = k
  · subst e
    rw [Maps.atKey_put_same h.isMap (isKeyI _)]
    simp
  · have hne : (Lit.int .i64 (j : Int)) ≠ .int .i64 (k : Int) := by intro h; injection h with _ h; exact e (by omega)
    rw [Maps.atKey_put_other hne, hD j hj]
    simp [e]
section
variable {ops : Array Oper} {rest : List Oper} {o : Oper} {a : Act} {Q : Exit → Act → World → Prop}
theorem wpList_pput (w : World) (hg : o.guard = none) (m x v : Operand) (hop : o.op = Op.mapUpdate 67 m x v) (b : Nat) (K : List Nat) (loc : Nat → Nat) (k p : Nat)
    (hm : a.eval m = .map (some b)) (hx : a.eval x = .int .i64 (k : Int)) (hv : a.eval v = .pointer (some ⟨p, 0, none⟩)) (h : PMap w b K loc) (hk : k < 9223372036854775808) (hmax : K.length < maxLen)
    (hK : ∀ w', PMap w' b (k :: K) (fun j => if j = k then p else loc j) → w.grownBy w' (some b) → wpList Try.prog ops Q rest (a.put o.dst undef) w') : wpList Try.prog ops Q (o :: rest) a w := by
  refine wpList_plain hg fun K' hK' => ?_
  obtain ⟨w', hrun, r1, r2⟩ := h.put (p := p) hk hmax
  unfold Oper.wp
  simp [execOp, hop, hm, hx, hv, ptrV, Result.andThen] at hrun ⊢
  rw [hrun]
  exact hK' _ _ (hK w' r1 r2)
end
theorem nodup_len : ∀ (n : Nat) (K : List Nat), K.Nodup → (∀ k ∈ K, k < n) → K.length ≤ n
  | 0, K, _, h => by
    cases K with
    | nil => simp
    | cons k K => exact absurd (h k (by simp)) (by omega)
  | n + 1, K, hn, h => by
    by_cases hm : n ∈ K
    · have h1 := nodup_len n (K.erase n) (hn.erase n) (fun k hk => by
        have h2 := (hn.mem_erase_iff).1 hk
        have := h k h2.2
        omega)
      rw [List.length_erase_of_mem hm] at h1
      omega
    · have h1 := nodup_len n K hn (fun k hk => by
        have := h k hk
        have : k ≠ n := fun e => hm (by rw [← e]; exact hk)
        omega)
      omega
end Go.Proofs.Ytbgagmpinekhpaa

/- A memory: its state; New, Frames, check, frame. -/
namespace Go.Proofs.Ytbgagmpinekhpaa
open Go.RowKit

def zeroL : List Nat := List.replicate 4096 0
theorem zeroL_get (i : Nat) : zeroL.getD i 0 = 0 := by
  unfold zeroL
  rw [List.getD_eq_getElem?_getD, List.getElem?_replicate]
  split <;> rfl
/-- A page of bytes lies in block p. -/
def PgAt (w : World) (p : Nat) (l : List Nat) : Prop := l.length = 4096 ∧ (∀ i, l.getD i 0 < 256) ∧ (∀ i, i < 4096 → w.cell? ⟨p, i, none⟩ = some (bv (l.getD i 0))) ∧ ∀ i, w.frozen? ⟨p, i, none⟩ = false
theorem PgAt.lt {w : World} {p : Nat} {l : List Nat} (h : PgAt w p l) : p < w.heap.size := by
  have := cell_lt (h.2.2.1 0 (by decide)); exact this
theorem PgAt.block {w w' : World} {p : Nat} {l : List Nat} (h : PgAt w p l) (hb : w'.heap[p]? = w.heap[p]?) : PgAt w' p l := by
  refine ⟨h.1, h.2.1, fun i hi => ?_, fun i => ?_⟩
  · rw [World.cell?_of_block (a := ⟨p, i, none⟩) hb]; exact h.2.2.1 i hi
  · rw [World.frozen?_of_block (a := ⟨p, i, none⟩) hb]; exact h.2.2.2 i
theorem PgAt.keeps {w w' : World} {p : Nat} {l : List Nat} {F : Nat → Prop} (h : PgAt w p l) (hk : Keeps F w w') (hF : ¬ F p) : PgAt w' p l := h.block (hk.block p h.lt hF)
theorem PgAt.bts {w : World} {p : Nat} {l : List Nat} (h : PgAt w p l) : Bts w (some ⟨p, 0, none⟩) l := ⟨h.2.1, fun _ => ⟨p, 0, rfl, fun i hi => by rw [Nat.zero_add]; exact h.2.2.1 i (by rw [← h.1]; exact hi)⟩⟩
/-- The blocks of a memory. -/
structure MemAt (w : World) (g mb : Nat) (loc : Nat → Nat) (K : List Nat) (n : Nat) (S : Nat → List Nat) : Prop where
  head : Blk w g 69 #[.map (some mb), .int .i64 (n : Int)]
  mp : PMap w mb K loc
  page : ∀ k ∈ K, PgAt w (loc k) (S k)
  zero : ∀ k, k ∉ K → S k = zeroL
  nd : K.Nodup
  lt : ∀ k ∈ K, k < n
  inj : ∀ i j, i ∈ K → j ∈ K → loc i = loc j → i = j
  apart : mb ≠ g ∧ (∀ k ∈ K, loc k ≠ g ∧ loc k ≠ mb)
  n1 : 1 ≤ n
  n2 : n ≤ 1048576
def memF (g mb : Nat) (loc : Nat → Nat) (K : List Nat) (b : Nat) : Prop := b = g ∨ b = mb ∨ ∃ k ∈ K, b = loc k
section
variable {w w' : World} {g mb n : Nat} {loc : Nat → Nat} {K : List Nat} {S : Nat → List Nat}
theorem MemAt.flt (h : MemAt w g mb loc K n S) : ∀ b, memF g mb loc K b → b < w.heap.size := by
  rintro b (rfl | rfl | ⟨k, hk, rfl⟩)
  · exact h.head.lt
  · exact h.mp.lt
  · exact (h.page k hk).lt
theorem MemAt.keeps {F : Nat → Prop} (h : MemAt w g mb loc K n S) (hk : Keeps F w w') (hF : ∀ b, memF g mb loc K b → ¬ F b) : MemAt w' g mb loc K n S :=
  ⟨hk.blk h.head (hF _ (.inl rfl)), h.mp.keeps hk (hF _ (.inr (.inl rfl))), fun k hK => (h.page k hK).keeps hk (hF _ (.inr (.inr ⟨k, hK, rfl⟩))), h.zero, h.nd, h.lt, h.inj, h.apart, h.n1, h.n2⟩
theorem MemAt.below (h : MemAt w g mb loc K n S) (hb : Below w.heap.size w w') : MemAt w' g mb loc K n S := h.keeps (F := fun _ => False) (Keeps.of_below hb) (fun _ _ h => h)
theorem MemAt.len (h : MemAt w g mb loc K n S) : K.length ≤ 1048576 := Nat.le_trans (nodup_len n K h.nd h.lt) h.n2
theorem MemAt.pgLen (h : MemAt w g mb loc K n S) (k : Nat) : (S k).length = 4096 := by
  by_cases hk : k ∈ K
  · exact (h.page k hk).1
  · rw [h.zero k hk]; exact List.length_replicate
theorem MemAt.pgLt (h : MemAt w g mb loc K n S) (k i : Nat) : (S k).getD i 0 < 256 := by
  by_cases hk : k ∈ K
  · exact (h.page k hk).2.1 i
  · rw [h.zero k hk, zeroL_get]; decide
end
/-- A memory of n frames with the pages S, somewhere in F. -/
def Mem (w : World) (g : Nat) (F : Nat → Prop) (n : Nat) (S : Nat → List Nat) : Prop := ∃ mb loc K, MemAt w g mb loc K n S ∧ (∀ b, memF g mb loc K b → F b)
theorem Mem.keeps {w w' : World} {g n : Nat} {F G : Nat → Prop} {S : Nat → List Nat} (h : Mem w g F n S) (hk : Keeps G w w') (hd : ∀ b, F b → ¬ G b) : Mem w' g F n S := by
  obtain ⟨mb, loc, K, h, hF⟩ := h
  exact ⟨mb, loc, K, h.keeps hk (fun b hb => hd b (hF b hb)), hF⟩
theorem Mem.below {w w' : World} {g n : Nat} {F : Nat → Prop} {S : Nat → List Nat} (h : Mem w g F n S) (hb : Below w.heap.size w w') : Mem w' g F n S := h.keeps (G := fun _ => False) (Keeps.of_below hb) (fun _ _ h => h)
theorem Mem.mono {w : World} {g n : Nat} {F G : Nat → Prop} {S : Nat → List Nat} (h : Mem w g F n S) (hG : ∀ b, F b → G b) : Mem w g G n S := by
  obtain ⟨mb, loc, K, h, hF⟩ := h
  exact ⟨mb, loc, K, h, fun b hb => hG b (hF b hb)⟩
theorem new_no (n : Int) (W : World) (hn : n < 1 ∨ 1048576 < n) :
    Calls Try.prog 6 #[.int .i64 n] W fun e w' => e = .returned (.tuple #[.pointer none, .int .i64 2]) ∧ W = w' := by
  rcases hn with hn | hn
  · go_enter Try.func6, Try.ntmps6
    go_wp2
    go_ret2
    exact ⟨rfl, rfl⟩
  · have h1 : ¬ n < 1 := by omega
    go_enter Try.func6, Try.ntmps6
    go_wp2
    go_ret2
    exact ⟨rfl, rfl⟩
def emptyS : Nat → List Nat := fun _ => zeroL
theorem new_yes (n : Nat) (W : World) (h1 : 1 ≤ n) (h2 : n ≤ 1048576) :
    Calls Try.prog 6 #[.int .i64 (n : Int)] W fun e w' => ∃ g, e = .returned (.tuple #[.pointer (some ⟨g, 0, none⟩), .int .i64 0]) ∧ Mem w' g (fun b => W.heap.size ≤ b) n emptyS ∧ Below W.heap.size W w' := by
  have hmm := @run_makeMap Try.prog
  have hm := PMap.new W (fun _ => 0)
  have hW : Below W.heap.size W (W.alloc (.map #[] 0)) := (Below.refl _ _).alloc (Nat.le_refl _) _
  have HM := Lib.hid hm
  have HW := Lib.hid hW
  clear hm hW
  go_enter Try.func6, Try.ntmps6
  go_wp2
  go_ret2
  refine ⟨W.heap.size + 1, rfl, ⟨W.heap.size, fun _ => 0, [], ⟨Blkf.new_at _ _ _ _ (by simp), ?_, fun k hk => by simp at hk, fun k _ => rfl, by simp, fun k hk => by simp at hk, fun i j hi => by simp at hi, ⟨by omega, fun k hk => by simp at hk⟩, h1, h2⟩, ?_⟩, HW.out.alloc HW.out.size _⟩
  · exact HM.out.keep (World.grownBy_alloc _ _ none) (by simp)
  · rintro b (rfl | rfl | ⟨k, hk, _⟩)
    · omega
    · exact Nat.le_refl _
    · simp at hk
/-- What a word's place comes to. -/
def chkE (n at_ : Nat) (s : Int) : Int := if sizeB s = false then 2 else if alignedB at_ s = false then 60 else if n ≤ at_ / 4096 then 61 else 0
theorem check_any (g : Nat) (v : Value) (n at_ : Nat) (s : Int) (W : World) (hb : Blk W g 69 #[v, .int .i64 (n : Int)]) (hn : n ≤ 1048576) (ha : at_ < 18446744073709551616) :
    Calls Try.prog 47 #[.pointer (some ⟨g, 0, none⟩), .int .u64 (at_ : Int), .int .i64 s] W fun e w' => e = .returned (.int .i64 (chkE n at_ s)) ∧ W = w' := by
  have H : Hid (chkE n at_ s = if sizeB s = false then 2 else if alignedB at_ s = false then 60 else if n ≤ at_ / 4096 then 61 else 0) := Lib.hid rfl
  have c1 : W.cell? ⟨g, 1, none⟩ = some (.int .i64 (n : Int)) := hb.cell 1
  have hw : IntKind.u64.wrap (n : Int) = (n : Int) := by rw [IntKind.wrap_u64]; omega
  have HA := Lib.hid ha
  clear hb
  go_enter Try.func47, Try.ntmps47
  go_wp2_with fail
  refine (size_any s _).mono ?_
  rintro e w ⟨rfl, rfl⟩
  cases h1 : sizeB s
  · rw [h1] at H
    have H1 := Lib.hid h1
    clear h1
    go_wp2_with fail
    go_ret
    exact ⟨by rw [H.out]; rfl, rfl⟩
  · rw [h1] at H
    have H1 := Lib.hid h1
    clear h1
    go_wp2_with fail
    refine (aligned_any at_ s _ HA.out).mono ?_
    rintro e w ⟨rfl, rfl⟩
    cases h2 : alignedB at_ s
    · rw [h2] at H
      have H2 := Lib.hid h2
      clear h2
      go_wp2_with fail
      go_ret
      exact ⟨by rw [H.out]; rfl, rfl⟩
    · rw [h2] at H
      have H2 := Lib.hid h2
      clear h2
      by_cases h3 : n ≤ at_ / 4096
      · rw [if_pos h3] at H
        have h3' : (n : Int) ≤ (at_ : Int) / 4096 := by omega
        go_wp2_with fail
        go_ret
        exact ⟨by rw [H.out]; rfl, rfl⟩
      · rw [if_neg h3] at H
        have h3' : ¬ (n : Int) ≤ (at_ : Int) / 4096 := by omega
        go_wp2_with fail
        go_ret
        exact ⟨by rw [H.out]; rfl, rfl⟩
theorem check_nil (a s : Int) (W : World) :
    Calls Try.prog 47 #[.pointer none, .int .u64 a, .int .i64 s] W fun e w' => e = .returned (.int .i64 1) ∧ W = w' := by
  go_enter Try.func47, Try.ntmps47
  go_wp2_with fail
  go_ret
  exact ⟨rfl, rfl⟩
def frE (n : Nat) (f : Int) : Int := if f < 0 ∨ (n : Int) ≤ f then 61 else 0
theorem frame_any (g : Nat) (v : Value) (n : Nat) (f : Int) (W : World) (hb : Blk W g 69 #[v, .int .i64 (n : Int)]) :
    Calls Try.prog 63 #[.pointer (some ⟨g, 0, none⟩), .int .i64 f] W fun e w' => e = .returned (.int .i64 (frE n f)) ∧ W = w' := by
  have H : Hid (frE n f = if f < 0 ∨ (n : Int) ≤ f then 61 else 0) := Lib.hid rfl
  have c1 : W.cell? ⟨g, 1, none⟩ = some (.int .i64 (n : Int)) := hb.cell 1
  clear hb
  by_cases h1 : f < 0
  · go_enter Try.func63, Try.ntmps63
    go_wp2_with fail
    go_ret
    exact ⟨by rw [H.out, if_pos (.inl h1)]; rfl, rfl⟩
  · by_cases h2 : (n : Int) ≤ f
    · go_enter Try.func63, Try.ntmps63
      go_wp2_with fail
      go_ret
      exact ⟨by rw [H.out, if_pos (.inr h2)]; rfl, rfl⟩
    · go_enter Try.func63, Try.ntmps63
      go_wp2_with fail
      go_ret
      exact ⟨by rw [H.out, if_neg (by omega)]; rfl, rfl⟩
theorem frame_nil (f : Int) (W : World) :
    Calls Try.prog 63 #[.pointer none, .int .i64 f] W fun e w' => e = .returned (.int .i64 1) ∧ W = w' := by
  go_enter Try.func63, Try.ntmps63
  go_wp2_with fail
  go_ret
  exact ⟨rfl, rfl⟩
end Go.Proofs.Ytbgagmpinekhpaa

/- A memory: own, load, Load, Store, Swap. -/
namespace Go.Proofs.Ytbgagmpinekhpaa
open Go.RowKit

def zpg : Array Value := (zeroL.map bv).toArray
theorem built_pg : Try.prog.built 113 [] = some zpg := by kernel_rfl
theorem wl_build0 {P : Program} {ops : Array Oper} {rest : List Oper} {o : Oper} {a : Act} {w : World} {Q : Exit → Act → World → Prop} (ty : TypeId) (ho : o.op = .build ty #[]) (hg : o.guard = none) (zs : Array Value) (hz : P.built ty [] = some zs)
    (h : wpList P ops Q rest (a.put o.dst (.agg zs)) w) : wpList P ops Q (o :: rest) a w := by
  have e : (P.built ty ((#[] : Array (Nat × Operand)).map fun (i, x) => (i, a.eval x)).toList) = some zs := by simpa using hz
  refine wpList_build hg ty #[] ho (by rw [e]; rfl) ?_
  rw [e]
  exact h
theorem zpg_at {w : World} {p : Nat} (h : Blk w p 113 zpg) : PgAt w p zeroL := by
  refine ⟨List.length_replicate, fun i => by rw [zeroL_get]; decide, fun i hi => ?_, fun i => h.frozen i⟩
  rw [h.cell]
  unfold zpg
  rw [List.getElem?_toArray, List.getElem?_map, List.getD_eq_getElem?_getD, List.getElem?_eq_getElem (by rw [show zeroL.length = 4096 from List.length_replicate]; exact hi)]
  rfl
/-- The page of frame k lies in block p, to be written. -/
def Owned (w : World) (g p k n : Nat) (F : Nat → Prop) (S : Nat → List Nat) : Prop := ∃ mb loc K, MemAt w g mb loc K n S ∧ (∀ b, memF g mb loc K b → F b) ∧ k ∈ K ∧ loc k = p
def updS (S : Nat → List Nat) (k : Nat) (l : List Nat) : Nat → List Nat := fun j => if j = k then l else S j
theorem Owned.page {w : World} {g p k n : Nat} {F : Nat → Prop} {S : Nat → List Nat} (h : Owned w g p k n F S) : PgAt w p (S k) := by
  obtain ⟨mb, loc, K, h, _, hk, rfl⟩ := h
  exact h.page k hk
theorem Owned.fp {w : World} {g p k n : Nat} {F : Nat → Prop} {S : Nat → List Nat} (h : Owned w g p k n F S) : F p := by
  obtain ⟨mb, loc, K, h, hF, hk, rfl⟩ := h
  exact hF _ (.inr (.inr ⟨k, hk, rfl⟩))
theorem Owned.turn {w w' : World} {g p k n : Nat} {F : Nat → Prop} {S : Nat → List Nat} {l : List Nat} (h : Owned w g p k n F S) (hk : Keeps (fun b => b = p) w w') (hp : PgAt w' p l) : Mem w' g F n (updS S k l) := by
  obtain ⟨mb, loc, K, h, hF, hK, rfl⟩ := h
  obtain ⟨a1, a2⟩ := h.apart
  refine ⟨mb, loc, K, ⟨hk.blk h.head (fun e => (a2 k hK).1 e.symm), h.mp.keeps hk (fun e => (a2 k hK).2 e.symm), fun j hj => ?_, fun j hj => ?_, h.nd, h.lt, h.inj, h.apart, h.n1, h.n2⟩, hF⟩
  · unfold updS
    by_cases e : j = k
    · subst e; rw [if_pos rfl]; exact hp
    · rw [if_neg e]
      exact (h.page j hj).keeps hk (fun e2 => e (h.inj j k hj hK e2))
  · unfold updS
    rw [if_neg (fun e => hj (by rw [e]; exact hK))]
    exact h.zero j hj
theorem Owned.keeps {w w' : World} {g p k n : Nat} {F G : Nat → Prop} {S : Nat → List Nat} (h : Owned w g p k n F S) (hk : Keeps G w w') (hd : ∀ b, F b → ¬ G b) : Owned w' g p k n F S := by
  obtain ⟨mb, loc, K, h, hF, hK, e⟩ := h
  exact ⟨mb, loc, K, h.keeps hk (fun b hb => hd b (hF b hb)), hF, hK, e⟩
theorem Owned.mem {w : World} {g p k n : Nat} {F : Nat → Prop} {S : Nat → List Nat} (h : Owned w g p k n F S) : Mem w g F n S := by
  obtain ⟨mb, loc, K, h, hF, _⟩ := h
  exact ⟨mb, loc, K, h, hF⟩
def OwnR (g k n : Nat) (F : Nat → Prop) (S : Nat → List Nat) (W : World) (e : Ending) (w' : World) : Prop :=
  ∃ p F', e = .returned (.pointer (some ⟨p, 0, none⟩)) ∧ Owned w' g p k n F' S ∧ (∀ b, F' b → F b ∨ W.heap.size ≤ b) ∧ Keeps F W w'
set_option maxHeartbeats 1000000 in
theorem own_any (g k n : Nat) (F : Nat → Prop) (S : Nat → List Nat) (W : World) (h : Mem W g F n S) (hk : k < n) :
    Calls Try.prog 50 #[.pointer (some ⟨g, 0, none⟩), .int .i64 (k : Int)] W (OwnR g k n F S W) := by
  obtain ⟨mb, loc, K, h, hF⟩ := h
  have hn := h.n2
  have c0 : W.cell? ⟨g, 0, none⟩ = some (.map (some mb)) := h.head.cell 0
  have hl := h.mp.look (k := k) (by omega)
  have H := Lib.hid h
  have HF := Lib.hid hF
  by_cases hK : k ∈ K
  · rw [if_pos hK] at hl
    have HK := Lib.hid hK
    unfold ptrV at hl
    clear h hF hK
    go_enter Try.func50, Try.ntmps50
    go_wp2_with fail
    go_ret
    exact ⟨loc k, F, rfl, ⟨mb, loc, K, H.out, HF.out, HK.out, rfl⟩, fun b hb => .inl hb, Keeps.refl _ _⟩
  · rw [if_neg hK] at hl
    have HK := Lib.hid hK
    have hlen := h.len
    unfold ptrV at hl
    have hal : Below W.heap.size W (W.alloc (.cells zpg 113)) := (Below.refl _ _).alloc (Nat.le_refl _) _
    have HN : Hid (Blk (W.alloc (.cells zpg 113)) W.heap.size 113 zpg) := Lib.hid (Blkf.new_at _ _ _ _ rfl)
    have HM := Lib.hid (h.below hal)
    have c0' : (W.alloc (.cells zpg 113)).cell? ⟨g, 0, none⟩ = some (.map (some mb)) := HM.out.head.cell 0
    clear h hF hK hal
    go_enter Try.func50, Try.ntmps50
    go_wp2_with (first | ((with_reducible refine wl_build0 113 rfl rfl zpg built_pg ?_)) | ((with_reducible refine wpList_pput _ rfl (.tmp 19) (.tmp 20) (.tmp 21) rfl mb K loc k W.heap.size ?_ ?_ ?_ HM.out.mp (by omega) (by unfold maxLen; omega) ?_); exact rfl; exact rfl; exact rfl; intro w2 hp hg; have HP := Lib.hid hp; have HG := Lib.hid hg; clear hp hg))
    go_ret
    have hk1 : Keeps (fun b => b = mb) (W.alloc (.cells zpg 113)) w2 := ⟨HG.out.os, HG.out.tape, HG.out.output, HG.out.size, fun i hi hne => HG.out.block i hi (fun e => hne (by injection e))⟩
    have hmb : mb < W.heap.size := H.out.mp.lt
    have hKb : Keeps F W w2 := ((Keeps.refl F W).alloc _).trans hk1 (fun i hi => .inl (by rw [hi]; exact HF.out _ (.inr (.inl rfl))))
    have hgl := H.out.head.lt
    refine ⟨W.heap.size, fun b => F b ∨ W.heap.size ≤ b, rfl, ⟨mb, fun j => if j = k then W.heap.size else loc j, k :: K, ⟨?_, HP.out, fun j hj => ?_, fun j hj => ?_, ?_, fun j hj => ?_, fun i j hi hj e => ?_, ⟨H.out.apart.1, fun j hj => ?_⟩, H.out.n1, H.out.n2⟩, ?_, by simp, by simp⟩, fun b hb => hb, hKb⟩
    · exact hk1.blk HM.out.head (fun e => H.out.apart.1 e.symm)
    · by_cases e : j = k
      · subst e
        rw [if_pos rfl, H.out.zero j HK.out]
        exact (zpg_at HN.out).keeps hk1 (fun e => by omega)
      · rw [if_neg e]
        have hj' : j ∈ K := by simpa [e] using hj
        exact (HM.out.page j hj').keeps hk1 (H.out.apart.2 j hj').2
    · simp at hj
      exact H.out.zero j hj.2
    · exact List.nodup_cons.2 ⟨HK.out, H.out.nd⟩
    · rcases List.mem_cons.1 hj with rfl | hj
      · exact hk
      · exact H.out.lt j hj
    · by_cases ei : i = k <;> by_cases ej : j = k
      · rw [ei, ej]
      · have hj' : j ∈ K := by simpa [ej] using hj
        have := (H.out.page j hj').lt
        simp [ei, ej] at e; omega
      · have hi' : i ∈ K := by simpa [ei] using hi
        have := (H.out.page i hi').lt
        simp [ei, ej] at e; omega
      · have hi' : i ∈ K := by simpa [ei] using hi
        have hj' : j ∈ K := by simpa [ej] using hj
        simp [ei, ej] at e
        exact H.out.inj i j hi' hj' e
    · by_cases e : j = k
      · rw [if_pos e]; omega
      · rw [if_neg e]
        have hj' : j ∈ K := by simpa [e] using hj
        exact H.out.apart.2 j hj'
    · rintro b (rfl | rfl | ⟨j, hj, rfl⟩)
      · exact .inl (HF.out _ (.inl rfl))
      · exact .inl (HF.out _ (.inr (.inl rfl)))
      · by_cases e : j = k
        · simp [e]
        · have hj' : j ∈ K := by simpa [e] using hj
          simp only [if_neg e]
          exact .inl (HF.out _ (.inr (.inr ⟨j, hj', rfl⟩)))
end Go.Proofs.Ytbgagmpinekhpaa

/- A memory: load, Load, Store, Swap. -/
namespace Go.Proofs.Ytbgagmpinekhpaa
open Go.RowKit

/-- The word of s bytes at an address. -/
def ldV (S : Nat → List Nat) (at_ : Nat) (s : Int) : Nat := getV (S (at_ / 4096)) ((at_ % 4096 : Nat) : Int) s
/-- The bytes of a page with a word in it. -/
def putL (l : List Nat) (p v s : Nat) : List Nat := (List.range 4096).map (fun i => if p ≤ i ∧ i < p + s then byteOf v (i - p) else l.getD i 0)
def stS (S : Nat → List Nat) (at_ : Nat) (s : Int) (v : Nat) : Nat → List Nat := updS S (at_ / 4096) (putL (S (at_ / 4096)) (at_ % 4096) v s.toNat)
theorem putL_length (l : List Nat) (p v s : Nat) : (putL l p v s).length = 4096 := by simp [putL]
theorem putL_get (l : List Nat) (p v s i : Nat) (hi : i < 4096) : (putL l p v s).getD i 0 = if p ≤ i ∧ i < p + s then byteOf v (i - p) else l.getD i 0 := by
  unfold putL
  rw [List.getD_eq_getElem?_getD, List.getElem?_map, List.getElem?_range hi]
  rfl
theorem putL_lt (l : List Nat) (p v s i : Nat) (h : ∀ i : Nat, l.getD i 0 < 256) : (putL l p v s).getD i 0 < 256 := by
  rcases Nat.lt_or_ge i 4096 with hi | hi
  · rw [putL_get _ _ _ _ _ hi]
    split
    · exact byteOf_lt _ _
    · exact h i
  · rw [List.getD_eq_getElem?_getD, List.getElem?_eq_none (by rw [putL_length]; exact hi)]; decide
theorem leNat_zero : ∀ l : List Nat, (∀ i : Nat, l.getD i 0 = 0) → leNat l = 0
  | [], _ => rfl
  | x :: r, h => by
    have h0 : x = 0 := h 0
    have h1 := leNat_zero r (fun i => h (i + 1))
    simp [leNat, h0, h1]
theorem ldV_zero (S : Nat → List Nat) (at_ : Nat) (s : Int) (h : S (at_ / 4096) = zeroL) : ldV S at_ s = 0 := by
  unfold ldV getV
  rw [h]
  refine leNat_zero _ (fun i => ?_)
  rw [List.getD_eq_getElem?_getD, List.getElem?_take]
  split
  · rw [List.getElem?_drop, ← List.getD_eq_getElem?_getD, zeroL_get]
  · rfl
/-- A word that is aligned lies in its page. -/
theorem in_pg {at_ : Nat} {s : Int} (h : alignedB at_ s = true) : sizeB s = true ∧ thereB (4096 : Nat) ((at_ % 4096 : Nat) : Int) s = true := by
  unfold alignedB at h
  simp only [Bool.and_eq_true, beq_iff_eq] at h
  refine ⟨h.1, ?_⟩
  unfold thereB
  rcases size_cases h.1 with rfl | rfl | rfl | rfl <;> simp at h ⊢ <;> (refine ⟨by decide, ?_, ?_, ?_⟩ <;> omega)
theorem chk_ok {n at_ : Nat} {s : Int} (h : chkE n at_ s = 0) : alignedB at_ s = true ∧ at_ / 4096 < n := by
  unfold chkE at h
  split at h
  · omega
  · split at h
    · omega
    · split at h
      · omega
      · rename_i h2 h3
        exact ⟨by simpa using h2, by omega⟩
theorem get_pg (p : Nat) (l : List Nat) (a s : Int) (w : World) (h : PgAt w p l) (ht : thereB (4096 : Nat) a s = true) :
    Calls Try.prog 68 #[.slice (some ⟨p, 0, none⟩) 4096 4096, .int .i64 a, .int .i64 s] w fun e w' => e = .returned (.tuple #[.int .u64 (getV l a s : Nat), .bool true]) ∧ w = w' := by
  have hl := h.1
  have := get_yes (some ⟨p, 0, none⟩) l 4096 a s w (by rw [hl]; decide) h.bts (by rw [hl]; exact ht)
  rw [hl] at this
  exact this
set_option maxHeartbeats 1000000 in
theorem load_any (g n at_ : Nat) (s : Int) (F : Nat → Prop) (S : Nat → List Nat) (W : World) (h : Mem W g F n S) (ha : at_ < 18446744073709551616) (hal : alignedB at_ s = true) :
    Calls Try.prog 48 #[.pointer (some ⟨g, 0, none⟩), .int .u64 (at_ : Int), .int .i64 s] W fun e w' => e = .returned (.int .u64 (ldV S at_ s : Nat)) ∧ W = w' := by
  obtain ⟨mb, loc, K, h, hF⟩ := h
  have c0 : W.cell? ⟨g, 0, none⟩ = some (.map (some mb)) := h.head.cell 0
  have hl := h.mp.look (k := at_ / 4096) (by omega)
  have hdiv : ((at_ / 4096 : Nat) : Int) = (at_ : Int) / 4096 := by simp
  have hmod : ((at_ % 4096 : Nat) : Int) = (at_ : Int) % 4096 := by simp
  rw [hdiv] at hl
  by_cases hK : at_ / 4096 ∈ K
  · rw [if_pos hK] at hl
    have HP := Lib.hid (h.page _ hK)
    have HV : Hid (ldV S at_ s = getV (S (at_ / 4096)) ((at_ : Int) % 4096) s) := Lib.hid (by rw [← hmod]; rfl)
    have HT := Lib.hid (in_pg hal).2
    rw [hmod] at HT
    unfold ptrV at hl
    generalize S (at_ / 4096) = l at *
    generalize loc (at_ / 4096) = p at *
    clear h hF hK hdiv hmod hal
    go_enter Try.func48, Try.ntmps48
    go_wp2_with fail
    refine (get_pg p l _ s _ HP.out HT.out).mono ?_
    rintro e w ⟨rfl, rfl⟩
    go_wp2_with fail
    go_ret
    exact ⟨by rw [HV.out]; rfl, rfl⟩
  · rw [if_neg hK] at hl
    have HV := Lib.hid (ldV_zero S at_ s (h.zero _ hK))
    unfold ptrV at hl
    clear h hF hK hdiv hmod hal
    go_enter Try.func48, Try.ntmps48
    go_wp2_with fail
    go_ret
    exact ⟨by rw [HV.out]; rfl, rfl⟩
def ldR (n : Nat) (S : Nat → List Nat) (at_ : Nat) (s : Int) : Nat := if chkE n at_ s = 0 then ldV S at_ s else 0
set_option maxHeartbeats 1000000 in
theorem Load_any (g n at_ : Nat) (s : Int) (F : Nat → Prop) (S : Nat → List Nat) (W : World) (h : Mem W g F n S) (ha : at_ < 18446744073709551616) :
    Calls Try.prog 29 #[.pointer (some ⟨g, 0, none⟩), .int .u64 (at_ : Int), .int .i64 s] W fun e w' => e = .returned (.tuple #[.int .u64 (ldR n S at_ s : Nat), .int .i64 (chkE n at_ s)]) ∧ W = w' := by
  have HM := Lib.hid h
  have HA := Lib.hid ha
  obtain ⟨mb, loc, K, h1, _⟩ := h
  have HH := Lib.hid h1.head
  have HN := Lib.hid h1.n2
  have HR : Hid (ldR n S at_ s = if chkE n at_ s = 0 then ldV S at_ s else 0) := Lib.hid rfl
  have HOK := Lib.hid (fun h => chk_ok (n := n) (at_ := at_) (s := s) h)
  clear h1 ha
  by_cases h0 : chkE n at_ s = 0
  · rw [h0]
    have HE := Lib.hid h0
    clear h0
    go_enter Try.func29, Try.ntmps29
    go_wp2_with fail
    refine (check_any g _ n at_ s _ HH.out HN.out HA.out).mono ?_
    rintro e w ⟨rfl, rfl⟩
    rw [HE.out]
    go_wp2_with fail
    refine (load_any g n at_ s F S _ HM.out HA.out (HOK.out HE.out).1).mono ?_
    rintro e w ⟨rfl, rfl⟩
    go_wp2_with fail
    go_ret2
    exact ⟨by rw [HR.out, if_pos HE.out]; rfl, rfl⟩
  · have HE := Lib.hid h0
    have hne : (chkE n at_ s != 0) = true := by simp; exact h0
    generalize hz : chkE n at_ s = z at *
    have HZ := Lib.hid hz
    clear h0 hz
    go_enter Try.func29, Try.ntmps29
    go_wp2_with fail
    refine (check_any g _ n at_ s _ HH.out HN.out HA.out).mono ?_
    rintro e w ⟨rfl, rfl⟩
    rw [HZ.out]
    go_wp2_with fail
    go_ret2
    exact ⟨by rw [HR.out, if_neg HE.out]; rfl, rfl⟩
/-- The memory behind a store; its footprint may have grown by new blocks. -/
def MemTo (W : World) (g : Nat) (F : Nat → Prop) (n : Nat) (S : Nat → List Nat) (w' : World) : Prop := ∃ F', Mem w' g F' n S ∧ (∀ b, F' b → F b ∨ W.heap.size ≤ b) ∧ Keeps F W w'
def stR (n : Nat) (S : Nat → List Nat) (at_ : Nat) (s : Int) (v : Nat) : Nat → List Nat := if chkE n at_ s = 0 then stS S at_ s v else S
theorem put_pg {w w' : World} {p q v s : Nat} {l : List Nat} (h : PgAt w p l) (hp : Puts w w' p q v s) (hq : q + s ≤ 4096) : PgAt w' p (putL l q v s) ∧ Keeps (fun b => b = p) w w' := by
  refine ⟨⟨putL_length _ _ _ _, fun i => putL_lt _ _ _ _ _ h.2.1, fun i hi => ?_, fun i => by rw [hp.frozen]; exact h.2.2.2 i⟩, ⟨hp.grown.os, hp.grown.tape, hp.grown.output, hp.grown.size, fun i hi hne => hp.grown.block i hi (fun e => hne (by injection e))⟩⟩
  rw [putL_get _ _ _ _ _ hi]
  by_cases hin : q ≤ i ∧ i < q + s
  · rw [if_pos hin]
    have := hp.new (i - q) (by omega)
    rw [show q + (i - q) = i by omega] at this
    exact this
  · rw [if_neg hin, hp.old ⟨p, i, none⟩ (by simp; omega)]
    exact h.2.2.1 i hi
set_option maxHeartbeats 1000000 in
theorem Store_any (g n at_ : Nat) (s : Int) (v : Nat) (F : Nat → Prop) (S : Nat → List Nat) (W : World) (h : Mem W g F n S) (ha : at_ < 18446744073709551616) (hv : v < 18446744073709551616) :
    Calls Try.prog 30 #[.pointer (some ⟨g, 0, none⟩), .int .u64 (at_ : Int), .int .i64 s, .int .u64 (v : Int)] W fun e w' => e = .returned (.int .i64 (chkE n at_ s)) ∧ MemTo W g F n (stR n S at_ s v) w' := by
  have HM := Lib.hid h
  have HA := Lib.hid ha
  have HV := Lib.hid hv
  obtain ⟨mb, loc, K, h1, _⟩ := h
  have HH := Lib.hid h1.head
  have HN := Lib.hid h1.n2
  have HR : Hid (stR n S at_ s v = if chkE n at_ s = 0 then stS S at_ s v else S) := Lib.hid rfl
  have HOK := Lib.hid (fun h => chk_ok (n := n) (at_ := at_) (s := s) h)
  clear h1 hv
  by_cases h0 : chkE n at_ s = 0
  · rw [h0]
    have HE := Lib.hid h0
    have HT := Lib.hid (in_pg (HOK.out h0).1)
    have hdiv : (at_ : Int) / 4096 = ((at_ / 4096 : Nat) : Int) := by simp
    have hmod : (at_ : Int) % 4096 = ((at_ % 4096 : Nat) : Int) := by simp
    have HD := Lib.hid hdiv
    have HMO := Lib.hid hmod
    clear h0 hdiv hmod
    go_enter Try.func30, Try.ntmps30
    go_wp2_with fail
    refine (check_any g _ n at_ s _ HH.out HN.out HA.out).mono ?_
    rintro e w ⟨rfl, rfl⟩
    rw [HE.out]
    go_wp2_with fail
    rw [HD.out]
    refine (own_any g (at_ / 4096) n F S _ HM.out (HOK.out HE.out).2).mono ?_
    rintro e w2 ⟨p, F', rfl, hO, hF', hK⟩
    have HO := Lib.hid hO
    have HF' := Lib.hid hF'
    have HK := Lib.hid hK
    clear hO hF' hK
    go_wp2_with fail
    rw [HMO.out]
    refine (put_yes p 0 4096 4096 ((at_ % 4096 : Nat) : Int) s v w2 HV.out (by decide) (fun i hi => ⟨_, by rw [Nat.zero_add]; exact HO.out.page.2.2.1 i hi⟩) (fun i _ => by rw [Nat.zero_add]; exact HO.out.page.2.2.2 i) HT.out.2).mono ?_
    rintro e w3 ⟨rfl, hp⟩
    have HP := Lib.hid hp
    clear hp
    go_wp2_with fail
    go_ret
    have hs := there_of HT.out.2
    obtain ⟨h1, h2⟩ := put_pg HO.out.page (by have := HP.out; rw [Nat.zero_add, show (((at_ % 4096 : Nat) : Int)).toNat = at_ % 4096 from rfl] at this; exact this) (by have := size_cases hs.1; omega)
    refine ⟨rfl, F', ?_, HF'.out, HK.out.trans h2 (fun i hi => by rw [hi]; exact HF'.out _ HO.out.fp)⟩
    rw [HR.out, if_pos HE.out]
    exact HO.out.turn h2 h1
  · have HE := Lib.hid h0
    have hne : (chkE n at_ s != 0) = true := by simp; exact h0
    generalize hz : chkE n at_ s = z at *
    have HZ := Lib.hid hz
    clear h0 hz
    go_enter Try.func30, Try.ntmps30
    go_wp2_with fail
    refine (check_any g _ n at_ s _ HH.out HN.out HA.out).mono ?_
    rintro e w ⟨rfl, rfl⟩
    rw [HZ.out]
    go_wp2_with fail
    go_ret
    refine ⟨rfl, F, ?_, fun b hb => .inl hb, Keeps.refl _ _⟩
    rw [HR.out, if_neg HE.out]
    exact HM.out
end Go.Proofs.Ytbgagmpinekhpaa

/- A memory: Page, SetPage. -/
namespace Go.Proofs.Ytbgagmpinekhpaa
open Go.RowKit

/-- A page is handed back: a row of the call's own. -/
def PageR (l : List Nat) (W : World) (e : Ending) (w' : World) : Prop := ∃ v, e = .returned (.tuple #[v, .int .i64 0]) ∧ w'.ownsRow W.heap.size 5 1 v l.length (l.map bv) ∧ Below W.heap.size W w'
theorem frE_ok {n : Nat} {f : Int} (h : frE n f = 0) : ∃ k : Nat, f = (k : Int) ∧ k < n := by
  unfold frE at h
  split at h
  · omega
  · exact ⟨f.toNat, by omega, by omega⟩
theorem made_pg : (madeCells #[Value.int IntKind.u8 0] 4096).toList = zeroL.map bv := by
  rw [toList_madeCells_one]
  unfold zeroL
  rw [List.map_replicate]
  rfl
theorem zpg_list : zpg.toList = zeroL.map bv := by
  unfold zpg
  rw [List.toList_toArray]
theorem zero_len : zeroL.length = 4096 := List.length_replicate
theorem zpg_size : zpg.size = 4096 := by rw [← Array.length_toList, zpg_list, List.length_map, zero_len]
theorem made_pg1 (z : Array Value) (h : z = #[Value.int IntKind.u8 0]) (n : Nat) (hn : n = 4096) : madeCells z n = zpg := by
  subst h hn
  apply Array.toList_inj.1
  rw [made_pg, zpg_list]
theorem make_pg (W : World) : (Instr.makeSlice 102 (.int .i64 4096) (.int .i64 4096)).run Try.prog W = .ok (.slice (some ⟨W.heap.size, 0, none⟩) 4096 4096) (W.alloc (.cells zpg 5)) := by
  obtain ⟨i0, hi0, hz0, hz1, hz2⟩ := info_parts info5
  have h := run_make (P := Try.prog) W 102 5 i0 _ Try.underlying102 hi0 hz0 .i64 .i64 4096 4096 (by decide) (by decide) (by rw [hz2]; decide) (by decide)
  rw [hz1, made_pg1 (Value.int IntKind.u8 0).cells rfl (Int.toNat 4096 * 1) (by decide), show Int.toNat 4096 = 4096 from rfl] at h
  exact h
end Go.Proofs.Ytbgagmpinekhpaa

/- A nil memory; what SetPage says no to. -/
namespace Go.Proofs.Ytbgagmpinekhpaa
open Go.RowKit

theorem Load_nil (a s : Int) (W : World) :
    Calls Try.prog 29 #[.pointer none, .int .u64 a, .int .i64 s] W fun e w' => e = .returned (.tuple #[.int .u64 0, .int .i64 1]) ∧ W = w' := by
  go_enter Try.func29, Try.ntmps29
  go_wp2_with fail
  refine (check_nil a s _).mono ?_
  rintro e w ⟨rfl, rfl⟩
  go_wp2_with fail
  go_ret2
  exact ⟨rfl, rfl⟩
theorem Store_nil (a s v : Int) (W : World) :
    Calls Try.prog 30 #[.pointer none, .int .u64 a, .int .i64 s, .int .u64 v] W fun e w' => e = .returned (.int .i64 1) ∧ W = w' := by
  go_enter Try.func30, Try.ntmps30
  go_wp2_with fail
  refine (check_nil a s _).mono ?_
  rintro e w ⟨rfl, rfl⟩
  go_wp2_with fail
  go_ret
  exact ⟨rfl, rfl⟩
theorem SetPage_nil (f : Int) (v : Value) (W : World) :
    Calls Try.prog 41 #[.pointer none, .int .i64 f, v] W fun e w' => e = .returned (.int .i64 1) ∧ W = w' := by
  go_enter Try.func41, Try.ntmps41
  go_wp2_with fail
  refine (frame_nil f _).mono ?_
  rintro e w ⟨rfl, rfl⟩
  go_wp2_with fail
  go_ret
  exact ⟨rfl, rfl⟩
theorem SetPage_no (g n : Nat) (f : Int) (u v : Value) (W : World) (hb : Blk W g 69 #[u, .int .i64 (n : Int)]) (hf : frE n f = 61) :
    Calls Try.prog 41 #[.pointer (some ⟨g, 0, none⟩), .int .i64 f, v] W fun e w' => e = .returned (.int .i64 61) ∧ W = w' := by
  have HH := Lib.hid hb
  have HE := Lib.hid hf
  clear hb hf
  go_enter Try.func41, Try.ntmps41
  go_wp2_with fail
  refine (frame_any g _ n f _ HH.out).mono ?_
  rintro e w ⟨rfl, rfl⟩
  rw [HE.out]
  go_wp2_with fail
  go_ret
  exact ⟨rfl, rfl⟩
theorem SetPage_much (g n : Nat) (f : Int) (u : Value) (A : Option Addr) (l c : Nat) (W : World) (hb : Blk W g 69 #[u, .int .i64 (n : Int)]) (hf : frE n f = 0) (hl : 4096 < l) :
    Calls Try.prog 41 #[.pointer (some ⟨g, 0, none⟩), .int .i64 f, .slice A l c] W fun e w' => e = .returned (.int .i64 2) ∧ W = w' := by
  have HH := Lib.hid hb
  have HE := Lib.hid hf
  have hl' : (4096 : Int) < (l : Int) := by omega
  clear hb hf
  go_enter Try.func41, Try.ntmps41
  go_wp2_with fail
  refine (frame_any g _ n f _ HH.out).mono ?_
  rintro e w ⟨rfl, rfl⟩
  rw [HE.out]
  go_wp2_with fail
  go_ret
  exact ⟨rfl, rfl⟩
end Go.Proofs.Ytbgagmpinekhpaa

/- SetPage. -/
namespace Go.Proofs.Ytbgagmpinekhpaa
open Go.RowKit

def pgV (l : List Nat) : Array Value := (l.map bv).toArray
theorem pgV_list (l : List Nat) : (pgV l).toList = l.map bv := by unfold pgV; rw [List.toList_toArray]
theorem pgV_size {l : List Nat} (h : l.length = 4096) : (pgV l).size = 4096 := by rw [← Array.length_toList, pgV_list, List.length_map, h]
theorem row_pg : rowT Try.prog 113 4096 = true := by kernel_rfl
theorem pgV_row {l : List Nat} (h : l.length = 4096) : rowT Try.prog 113 (pgV l).size = true := by rw [pgV_size h]; exact row_pg
theorem pgV_one (l : List Nat) : (pgV l).all (·.oneCell') = true := by
  unfold pgV
  rw [List.all_toArray, List.all_eq_true]
  exact one_bv l
/-- A page with l at its head. -/
def headL (l : List Nat) : List Nat := l ++ zeroL.drop l.length
theorem headL_length {l : List Nat} (h : l.length ≤ 4096) : (headL l).length = 4096 := by
  unfold headL
  rw [List.length_append, List.length_drop, zero_len]; omega
theorem headL_splice (l : List Nat) : (splice (zeroL.map bv) 0 (l.map bv)).toArray = pgV (headL l) := by
  unfold splice pgV headL
  rw [List.take_zero, List.nil_append, Nat.zero_add, List.length_map, List.map_append, List.map_drop]
theorem headL_lt {l : List Nat} (h : ∀ i, l.getD i 0 < 256) (i : Nat) : (headL l).getD i 0 < 256 := by
  unfold headL
  rw [List.getD_eq_getElem?_getD]
  by_cases hi : i < l.length
  · rw [List.getElem?_append_left hi, ← List.getD_eq_getElem?_getD]; exact h i
  · rw [List.getElem?_append_right (by omega), List.getElem?_drop, ← List.getD_eq_getElem?_getD, zeroL_get]; decide
theorem pg_of_range {w : World} {p : Nat} {l : List Nat} (hl : l.length = 4096) (h : ∀ i, l.getD i 0 < 256) (hr : w.rangeAt p 0 (l.map bv)) (hf : ∀ i, w.frozen? ⟨p, i, none⟩ = false) : PgAt w p l := by
  refine ⟨hl, h, fun i hi => ?_, hf⟩
  have := hr i (bv (l.getD i 0)) (by
    rw [List.getElem?_map, List.getD_eq_getElem?_getD, List.getElem?_eq_getElem (by rw [hl]; exact hi)]
    rfl)
  rw [Nat.zero_add] at this
  exact this
theorem PgAt.there {w : World} {p : Nat} {l : List Nat} (h : PgAt w p l) : w.there p 0 4096 := fun j hj => by
  rw [Nat.zero_add]
  exact ⟨by rw [h.2.2.1 j hj]; rfl, h.2.2.2 j⟩
theorem zero_pg : (∀ w, (zeroValue 113).run Try.prog w = .ok (.agg zpg) w) ∧ (Try.prog.info? 113).map (·.size) = some 4096 := zero_of_info (by kernel_rfl)
theorem size8 : (Try.prog.info? 5).map (·.size) = some 1 := by kernel_rfl
set_option maxRecDepth 100000 in
set_option maxHeartbeats 1000000 in
theorem SetPage_any (g n k : Nat) (A : Option Addr) (l : List Nat) (c : Nat) (F : Nat → Prop) (S : Nat → List Nat) (W : World) (h : Mem W g F n S) (hk : k < n) (hA : Bts W A l) (hl : l.length ≤ 4096) :
    Calls Try.prog 41 #[.pointer (some ⟨g, 0, none⟩), .int .i64 (k : Int), .slice A l.length c] W fun e w' => e = .returned (.int .i64 0) ∧ MemTo W g F n (updS S k (headL l)) w' := by
  obtain ⟨mb, loc, K, h, hF⟩ := h
  have HM := Lib.hid h
  have HF := Lib.hid hF
  have HH := Lib.hid h.head
  have HA := Lib.hid hA
  have HR := Lib.hid (reads_bts hA)
  have HE : Hid (frE n (k : Int) = 0) := Lib.hid (by unfold frE; rw [if_neg (by omega)])
  have HK := Lib.hid hk
  have hz := zero_pg.1
  have hl' : ¬ (4096 : Int) < (l.length : Int) := by omega
  have HL := Lib.hid hl
  clear h hF hA hk hl
  go_enter Try.func41, Try.ntmps41
  go_wp2_with fail
  refine (frame_any g _ n k _ HH.out).mono ?_
  rintro e w ⟨rfl, rfl⟩
  rw [HE.out]
  obtain ⟨Z, hZ⟩ : ∃ Z, zeroL.map bv = Z := ⟨_, rfl⟩
  have HZL : Z.length = 4096 := by rw [← hZ, List.length_map, zero_len]
  have HZ := Lib.hid hZ
  clear hZ
  have hn : (l.map bv).length = Nat.min l.length 4096 := by rw [List.length_map]; exact (Nat.min_eq_left HL.out).symm
  have hfit : 0 + (l.map bv).length ≤ Z.length := by rw [List.length_map, HZL]; have := HL.out; omega
  have hpos : 0 < (l.map bv).length → ∃ ad, A = some ad ∧ ∀ j v, (l.map bv)[j]? = some v → (W.alloc (.cells zpg 113)).cell? (ad.add j) = some v := fun h0 => by
    obtain ⟨ad, e, _, hc⟩ := (HR.out.alloc (Nat.le_refl _) (.cells zpg 113)).2 (by simpa using h0)
    exact ⟨ad, e, hc⟩
  have HN := Lib.hid hn
  have HFI := Lib.hid hfit
  have HPO := Lib.hid hpos
  clear hn hfit hpos HZL
  go_wp2_with ((with_reducible refine wpList_copy_splice rfl (.tmp 18) (.tmp 19) _ _ rfl 5 Try.underlying102 size8 _ _ 4096 4096 l.length c ?_ ?_ W.heap.size 0 Z 113 ?_ (l.map bv) HN.out (fun h0 => ⟨rfl, HPO.out h0⟩) HFI.out ?_ W.heap.size W ?_ ?_ ?_); exact rfl; exact rfl; rw [← HZ.out]; exact heap_alloc_new W _; exact one_bv l; exact (Below.refl _ _).alloc (Nat.le_refl _) _; exact Nat.le_refl _; intro w2 hw2 hb2; rw [← HZ.out, headL_splice] at hw2; have HW2 := Lib.hid hw2; have HB2 := Lib.hid hb2; clear hw2 hb2)
  have hM2 := HM.out.below HB2.out
  have HM2 := Lib.hid (hM2.keeps (F := fun _ => False) (Keeps.refl _ _).drew (fun _ _ h => h))
  have hlen := headL_length HL.out
  have hblk : Blk w2.drew W.heap.size 113 (pgV (headL l)) := HW2.out.out
  have hrg := Blkf.range hblk
  have hrow := pgV_row hlen
  have HRG := Lib.hid hrg
  have hne : ¬ memF g mb loc K W.heap.size := fun h2 => Nat.lt_irrefl _ (HM.out.flt _ h2)
  clear hM2 hblk hrg
  refine wp_region_plan_by (fun u u' => u.rangeAt W.heap.size 0 (pgV (headL l)).toList → u'.rangeAt W.heap.size 0 (pgV (headL l)).toList) ⟨fun _ h => h, fun h k r => k (h r)⟩ [(0, false), (1, false), (3, false), (2, true), (4, false), (5, true)] (by kernel_rfl) (by kernel_rfl) (fun _ d _ _ _ h => by cases d <;> exact h) ?_
  iterate 2 (refine plan_take (v := ?_) rfl (by kernel_rfl) ?_ ?_; rotate_left; (focus (intro w' hw'; try go_simp; try with_reducible rfl)); simp only [Act.put, List.setIfInBounds_toArray, List.set_cons_zero, List.set_cons_succ])
  refine plan_take rfl (by kernel_rfl) (fun w' h' => run_load_op 113 (.tmp 8) rfl W.heap.size 0 (pgV (headL l)) rfl (h' HRG.out) hrow) ?_
  simp only [Act.put, List.setIfInBounds_toArray, List.set_cons_zero, List.set_cons_succ]
  refine plan_call rfl (by kernel_rfl) (by go_simp; exact ⟨rfl, rfl⟩) ?_
  refine (own_any g k n (memF g mb loc K) S _ ⟨mb, loc, K, HM2.out, fun _ h => h⟩ HK.out).mono ?_
  rintro e w3 ⟨p, F', rfl, hO, hF', hK⟩
  have HO := Lib.hid hO
  have HF' := Lib.hid hF'
  have HKK := Lib.hid hK
  have hT := Lib.hid hO.page.there
  clear hO hF'
  refine ⟨_, rfl, fun r => range_keeps r hK hne, ?_⟩
  clear hK
  simp only [Act.put, List.setIfInBounds_toArray, List.set_cons_zero, List.set_cons_succ]
  iterate 1 (refine plan_take (v := ?_) rfl (by kernel_rfl) ?_ ?_; rotate_left; (focus (intro w' hw'; try go_simp; try with_reducible rfl)); simp only [Act.put, List.setIfInBounds_toArray, List.set_cons_zero, List.set_cons_succ])
  refine plan_last rfl (by kernel_rfl) (by kernel_rfl) (fun K' hK' => ?_)
  refine wo_store 113 (.tmp 25) (.tmp 24) rfl p 0 (pgV (headL l)) rfl rfl (by rw [pgV_size hlen]; exact hT.out) hrow (pgV_one _) ?_
  refine hK' _ _ ?_
  clear hK' K'
  refine plan_end ?_
  simp only [Act.put, List.setIfInBounds_toArray, List.set_cons_zero, List.set_cons_succ]
  go_wp2_with fail
  go_ret
  have hk1 := setCells_keeps p (pgV (headL l)).toList 0 w3
  have hpg : PgAt (w3.setCells p 0 (pgV (headL l)).toList) p (headL l) := by
    refine pg_of_range hlen (headL_lt HA.out.1) ?_ (fun i => ?_)
    · have := World.rangeAt_setCells_same w3 p 0 (pgV (headL l)).toList (by rw [Array.length_toList, pgV_size hlen]; exact hT.out)
      rw [pgV_list] at this ⊢
      exact this
    · rw [World.frozen?_setCells]
      exact HO.out.page.2.2.2 i
  have hsz : W.heap.size ≤ w2.heap.size := HB2.out.size
  refine ⟨rfl, fun b => F' b ∨ F b, (HO.out.turn hk1 hpg).mono (fun b h => .inl h), ?_, ?_⟩
  · rintro b (h | h)
    · rcases HF'.out b h with h | h
      · exact .inl (HF.out b h)
      · exact .inr (Nat.le_trans hsz h)
    · exact .inl h
  · have h1 : Keeps F W w2.drew := (Keeps.of_below HB2.out).drew
    have h2 := h1.trans HKK.out (fun b h => .inl (HF.out b h))
    refine h2.trans hk1 (fun b hb => ?_)
    subst hb
    rcases HF'.out _ HO.out.fp with h | h
    · exact .inl (HF.out _ h)
    · exact .inr (Nat.le_trans hsz h)
end Go.Proofs.Ytbgagmpinekhpaa

/- first. -/
namespace Go.Proofs.Ytbgagmpinekhpaa
open Go.RowKit

theorem Mem.tight {w : World} {g n : Nat} {F : Nat → Prop} {S : Nat → List Nat} (h : Mem w g F n S) : Mem w g (fun b => F b ∧ b < w.heap.size) n S := by
  obtain ⟨mb, loc, K, h, hF⟩ := h
  exact ⟨mb, loc, K, h, fun b hb => ⟨hF b hb, h.flt b hb⟩⟩
theorem MemTo.tight {W w' : World} {g n B : Nat} {F : Nat → Prop} {S : Nat → List Nat} (h : MemTo W g F n S w') (hF : ∀ b, F b → B ≤ b) (hB : B ≤ W.heap.size) : Mem w' g (fun b => B ≤ b ∧ b < w'.heap.size) n S ∧ Below B W w' ∧ Keeps F W w' := by
  obtain ⟨F', h, h1, h2⟩ := h
  refine ⟨h.tight.mono (fun b hb => ⟨?_, hb.2⟩), h2.below hF hB, h2⟩
  rcases h1 b hb.1 with h | h
  · exact hF b h
  · omega
theorem take2 {l : List Nat} (h : 2 ≤ l.length) : l.take 2 = [l.getD 0 0, l.getD 1 0] := by
  match l, h with
  | a :: b :: r, _ => rfl
theorem cell_of {l : List Nat} {i : Nat} (h : i < l.length) : (l.map bv)[i]? = some (bv (l.getD i 0)) := by
  rw [List.getElem?_map, List.getD_eq_getElem?_getD, List.getElem?_eq_getElem h]
  rfl
theorem first_S : (stR 2 emptyS 4096 8 258 1).getD 0 0 = 2 ∧ (stR 2 emptyS 4096 8 258 1).getD 1 0 = 1 ∧ (stR 2 emptyS 4096 8 258 1).length = 4096 := by
  have e : stR 2 emptyS 4096 8 258 1 = putL zeroL 0 258 8 := by
    unfold stR
    rw [if_pos (by decide)]
    rfl
  rw [e]
  exact ⟨by rw [putL_get _ _ _ _ _ (by decide)]; decide, by rw [putL_get _ _ _ _ _ (by decide)]; decide, putL_length _ _ _ _⟩
theorem first_L : ldR 2 (stR 2 emptyS 4096 8 258) 4096 2 = 258 := by
  unfold ldR
  rw [if_pos (by decide)]
  show getV (stR 2 emptyS 4096 8 258 1) 0 2 = 258
  obtain ⟨h0, h1, h2⟩ := first_S
  show leNat (((stR 2 emptyS 4096 8 258 1).drop 0).take 2) = 258
  rw [List.drop_zero, take2 (by rw [h2]; decide), h0, h1]
  rfl
end Go.Proofs.Ytbgagmpinekhpaa

/- The plain law: pages set and read, words read. -/
namespace Go.Proofs.Ytbgagmpinekhpaa
open Go.RowKit

theorem headL_get (l : List Nat) (i : Nat) : (headL l).getD i 0 = if i < l.length then l.getD i 0 else 0 := by
  unfold headL
  rw [List.getD_eq_getElem?_getD]
  by_cases hi : i < l.length
  · rw [List.getElem?_append_left hi, if_pos hi, ← List.getD_eq_getElem?_getD]
  · rw [List.getElem?_append_right (by omega), List.getElem?_drop, ← List.getD_eq_getElem?_getD, zeroL_get, if_neg hi]
theorem getD_set (l : List Nat) (j y i : Nat) (hi : i < l.length) : (l.set j y).getD i 0 = if j = i then y else l.getD i 0 := by
  rw [List.getD_eq_getElem?_getD, List.getElem?_set]
  by_cases e : j = i
  · rw [if_pos e, if_pos e, if_pos (by omega)]; rfl
  · rw [if_neg e, if_neg e, List.getD_eq_getElem?_getD]
theorem list_ext_getD {l m : List Nat} (h : l.length = m.length) (he : ∀ i, i < l.length → l.getD i 0 = m.getD i 0) : l = m := by
  apply List.ext_getElem h
  intro i h1 h2
  have := he i h1
  rwa [List.getD_eq_getElem?_getD, List.getD_eq_getElem?_getD, List.getElem?_eq_getElem h1, List.getElem?_eq_getElem h2] at this
end Go.Proofs.Ytbgagmpinekhpaa
