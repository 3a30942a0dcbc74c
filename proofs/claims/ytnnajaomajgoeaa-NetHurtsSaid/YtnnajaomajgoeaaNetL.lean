/- List. -/
import Derived.Test.YtnnajaomajgoeaaNetK
import Derived.Test.YtnnajaomajgoeaaCheckC
namespace Go.Proofs.Ytnnajaomajgoeaa
open Go.RowKit Go.ChangeShapes

theorem pclone_any (A : Option Addr) (n c : Nat) (L : List (Pc × Value)) (W : World) (hn : n = L.length) (hn2 : n ≤ 4096) (ho : W.ownsRow 0 37 4 (.slice A n c) n (pcC L)) (hone : ∀ x ∈ L, x.2.oneCell' = true) :
    Calls Try.prog 33 #[.slice A n c] W fun e w' => ∃ v, e = .returned v ∧ w'.ownsRow W.heap.size 37 4 v n (pcC L) ∧ Below W.heap.size W w' := by
  obtain ⟨i0, hi0, hz0, hz1, hz2⟩ := info_parts info_pc
  have HR := Lib.hid (Reads.of_own ho)
  have HO := Lib.hid ho
  have HN := Lib.hid (one_pcC hone)
  clear ho hn hone
  cases A with
  | none =>
    have hnil := fun (W : World) (a : Option Addr) (l c : Nat) => slice_eq_nil (P := Try.prog) W 48 37 a l c Try.underlying48
    go_enter Try.func33, Try.ntmps33
    go_wp2
    go_ret
    have h := HO.out
    rcases h.2 with ⟨e, h0⟩ | ⟨g, cap, cur, e, _⟩
    · subst h0
      have e2 : pcC L = [] := List.eq_nil_of_length_eq_zero (by rw [h.1])
      rw [e2]
      exact ⟨_, rfl, World.ownsRow_nil _ _ _ _, Below.refl _ _⟩
    · cases e
  | some a =>
    have hnil := fun (W : World) (l c : Nat) => slice_eq_nil (P := Try.prog) W 48 37 (some a) l c Try.underlying48
    go_enter Try.func33, Try.ntmps33
    go_wp2_with (at_builtin; refine wpList_append_any _ rfl (.tmp 5) (.tmp 6) _ rfl W.heap.size 37 i0 _ 4 48 Try.underlying48 hi0 hz0 hz1 hz2 rfl (by decide) _ 0 [] rfl (World.ownsRow_made W #[] 0 (Nat.le_refl _) (by unfold maxLen; omega) rfl) W.heap.size (some a) n c (pcC L) rfl (HR.out.alloc (Nat.le_refl _) _) HN.out (by unfold maxLen; omega) (by omega) (by simp) ?_; intro v2 w2 hown hgrow hat; have HO := Lib.hid hown; have HG := Lib.hid hgrow; clear hown hgrow hat)
    go_ret
    have ho := HO.out
    rw [Nat.zero_add, List.nil_append] at ho
    exact ⟨v2, rfl, ho, ((Below.refl _ W).alloc (Nat.le_refl _) _).grown HG.out (by simp) (fun k hk => by cases hk; exact Nat.le_refl _)⟩
def Apart (L : List (Pc × Value)) : Prop := L.Pairwise (fun x y => ∀ k, x.2.ownBlock = some k → y.2.ownBlock ≠ some k)
/-- What List hands back: a row of its own, each parcel's bytes a row of its own. -/
def ListAt (w : World) (base : Nat) (v : Value) (M : List (Pc × Value)) : Prop :=
  w.ownsRow base 37 4 v M.length (pcC M) ∧ (∀ x ∈ M, RdB w (fun b => base ≤ b ∧ v.ownBlock ≠ some b ∧ b < w.heap.size) x.2 x.1.byt) ∧ Apart M
def LRel (W : World) (g cap : Nat) (L : List (Pc × Value)) (k : Nat) (wr : World) : Prop :=
  ∃ (M : List (Pc × Value)) (cur : Array Value), M.length = k ∧ M.map (·.1) = (L.take k).map (·.1) ∧ Blk wr g 37 cur ∧ cur.size = cap * 4 ∧ cur.toList.take (L.length * 4) = pcC (M ++ L.drop k) ∧
    (∀ x ∈ M, RdB wr (fun b => W.heap.size ≤ b ∧ b ≠ g ∧ b < wr.heap.size) x.2 x.1.byt) ∧ Apart M ∧ Below W.heap.size W wr
theorem pcC_put : ∀ (L : List (Pc × Value)) (k : Nat) (x y : Pc × Value), L[k]? = some x → ((((pcC L).set (k * 4) (.int .i64 y.1.src)).set (k * 4 + 1) (.int .i64 y.1.dst)).set (k * 4 + 2) y.2).set (k * 4 + 3) (.bool y.1.hurt) = pcC (L.set k y)
  | [], k, x, y, e => by simp at e
  | x :: r, 0, z, y, e => by rfl
  | x :: r, k + 1, z, y, e => by
    show ((((pcV x ++ pcC r).set ((k + 1) * 4) _).set ((k + 1) * 4 + 1) _).set ((k + 1) * 4 + 2) _).set ((k + 1) * 4 + 3) _ = pcV x ++ pcC (r.set k _)
    have hl : (pcV x).length = 4 := rfl
    rw [List.set_append_right _ _ (by omega), List.set_append_right _ _ (by omega), List.set_append_right _ _ (by omega), List.set_append_right _ _ (by omega), hl, show (k + 1) * 4 - 4 = k * 4 by omega, show (k + 1) * 4 + 1 - 4 = k * 4 + 1 by omega, show (k + 1) * 4 + 2 - 4 = k * 4 + 2 by omega, show (k + 1) * 4 + 3 - 4 = k * 4 + 3 by omega, pcC_put r k z y (by simpa using e)]
theorem LRel.step {W wr w3 : World} {g cap k : Nat} {L M : List (Pc × Value)} {cur : Array Value} {p : Pc} {u u' : Value} (hL : L[k]? = some (p, u)) (hM : M.length = k) (he : M.map (·.1) = (L.take k).map (·.1)) (hs : cur.size = cap * 4) (hl : cur.toList.take (L.length * 4) = pcC (M ++ L.drop k))
    (hr : ∀ x ∈ M, RdB wr (fun b => W.heap.size ≤ b ∧ b ≠ g ∧ b < wr.heap.size) x.2 x.1.byt) (ha : Apart M) (hb : Below W.heap.size W wr) (hg : g < wr.heap.size) (hgW : W.heap.size ≤ g)
    (hK : Keeps (fun b => b = g) wr w3) (hR : Blk w3 g 37 ((((cur.setIfInBounds (k * 4) (.int .i64 p.src)).setIfInBounds (k * 4 + 1) (.int .i64 p.dst)).setIfInBounds (k * 4 + 2) u').setIfInBounds (k * 4 + 3) (.bool p.hurt)))
    (hu : RdB w3 (fun b => wr.heap.size ≤ b ∧ b < w3.heap.size) u' p.byt) : LRel W g cap L (k + 1) w3 := by
  have hk := (List.getElem?_eq_some_iff.1 hL).1
  refine ⟨M ++ [(p, u')], _, by simp [hM], ?_, hR, by simp [hs], ?_, fun x hx => ?_, ?_, hb.trans (hK.below (B := W.heap.size) (fun i hi => by omega) hb.size)⟩
  · rw [List.take_add_one, hL, List.map_append, List.map_append, he]
    rfl
  · have e2 : (M ++ L.drop k)[k]? = some (p, u) := by rw [List.getElem?_append_right (by omega), hM, Nat.sub_self, List.getElem?_drop]; exact hL
    rw [Array.toList_setIfInBounds, Array.toList_setIfInBounds, Array.toList_setIfInBounds, Array.toList_setIfInBounds, set_take (by omega), set_take (by omega), set_take (by omega), set_take (by omega), hl]
    have := pcC_put (M ++ L.drop k) k (p, u) (p, u') e2
    rw [this]
    congr 1
    rw [List.set_append_right _ _ (by omega), hM, Nat.sub_self, List.append_assoc]
    congr 1
    obtain ⟨hk', e3⟩ := List.getElem?_eq_some_iff.1 hL
    rw [List.drop_eq_getElem_cons hk']
    rfl
  · rcases List.mem_append.1 hx with hx | hx
    · exact ((hr x hx).keeps hK (fun b hb e => hb.2.1 e)).mono fun b hb => ⟨hb.1, hb.2.1, Nat.lt_of_lt_of_le hb.2.2 hK.size⟩
    · simp at hx
      subst hx
      exact hu.mono fun b hb' => ⟨Nat.le_trans hb.size hb'.1, by omega, hb'.2⟩
  · unfold Apart
    rw [List.pairwise_append]
    refine ⟨ha, by simp, fun x hx y hy b h1 h2 => ?_⟩
    simp at hy
    subst hy
    have := ((hr x hx).form.2 b h1).2.2
    have := (hu.form.2 b h2).1
    omega
end Go.Proofs.Ytnnajaomajgoeaa
