/- Contracts of the reference's stock: Is, Take. -/
import Derived.Test.YtihmeehcjdgfgaaFrH
namespace Go.Proofs.Ytihmeehcjdgfgaa
open Go.RowKit Go.Maps

/-- A slice of numbers reads as l, its row in a block of G other than xb. -/
def Rd (G : Nat → Prop) (xb : Nat) (w : World) (A : Option Addr) (l : List Int) : Prop :=
  0 < l.length → ∃ b o, A = some ⟨b, o, none⟩ ∧ G b ∧ b ≠ xb ∧ b < w.heap.size ∧ ∀ i (hi : i < l.length), w.cell? ⟨b, o + i, none⟩ = some (.int .i64 l[i])
def RefAt (w : World) (xb : Nat) (G : Nat → Prop) (L T : List Int) : Prop := ∃ A c A' c', Blk w xb 38 #[.slice A L.length c, .slice A' T.length c'] ∧ L.length ≤ c ∧ Rd G xb w A L ∧ Rd G xb w A' T ∧ G xb ∧ ∀ g, G g → g < w.heap.size
theorem Rd.keeps {G F : Nat → Prop} {xb : Nat} {w w' : World} {A : Option Addr} {l : List Int} (h : Rd G xb w A l) (k : Keeps F w w') (hd : ∀ g, G g → g ≠ xb → ¬ F g) : Rd G xb w' A l := fun hp => by
  obtain ⟨b, o, e, hg, hx, hb, hc⟩ := h hp
  exact ⟨b, o, e, hg, hx, Nat.lt_of_lt_of_le hb k.size, fun i hi => (World.cell?_of_block (k.block b hb (hd b hg hx))).trans (hc i hi)⟩
theorem Rd.mono {G G' : Nat → Prop} {xb : Nat} {w : World} {A : Option Addr} {l : List Int} (h : Rd G xb w A l) (hG : ∀ g, G g → G' g) : Rd G' xb w A l := fun hp => by
  obtain ⟨b, o, e, hg, r⟩ := h hp
  exact ⟨b, o, e, hG b hg, r⟩
theorem Rd.reads {G : Nat → Prop} {xb : Nat} {w : World} {A : Option Addr} {l : List Int} (h : Rd G xb w A l) : Reads w w.heap.size 1 A l.length (l.map iv) := by
  refine ⟨by simp, fun hp => ?_⟩
  obtain ⟨b, o, e, hg, hx, hb, hc⟩ := h hp
  refine ⟨_, e, hb, fun j u hj => ?_⟩
  have hjl : j < l.length := by
    rcases Nat.lt_or_ge j l.length with h1 | h1
    · exact h1
    · rw [List.getElem?_eq_none (by simpa using h1)] at hj; cases hj
  have ea : (⟨b, o, none⟩ : Addr).add j = ⟨b, o + j, none⟩ := by unfold Addr.add; split <;> simp_all
  rw [ea, hc j hjl]
  rw [List.getElem?_map, List.getElem?_eq_getElem hjl] at hj
  simpa [iv] using hj
theorem Rd.own {G : Nat → Prop} {xb : Nat} {w : World} {A : Option Addr} {l : List Int} {base n c : Nat} (h : w.ownsRow base 3 1 (.slice A n c) n (l.map iv)) (hn : n = l.length) (hG : ∀ g, (Value.slice A n c).ownBlock = some g → G g ∧ g ≠ xb) : Rd G xb w A l := fun hp => by
  subst hn
  obtain ⟨g, cap, hv, _, hlt⟩ := h.form hp
  injection hv with hv1 hv2 hv3
  subst hv1
  subst hv3
  have := hG g rfl
  refine ⟨g, 0, rfl, this.1, this.2, hlt, fun i hi => ?_⟩
  rw [Nat.zero_add, h.cellAt i (by omega), List.getElem?_map, List.getElem?_eq_getElem hi]; rfl
theorem RefAt.keeps {w w' : World} {xb : Nat} {F G : Nat → Prop} {L T : List Int} (h : RefAt w xb G L T) (k : Keeps F w w') (hd : ∀ g, G g → ¬ F g) : RefAt w' xb G L T := by
  obtain ⟨A, c, A', c', hb, hc, h1, h2, h3, h4⟩ := h
  exact ⟨A, c, A', c', k.blk hb (hd _ h3), hc, h1.keeps k (fun g hg _ => hd g hg), h2.keeps k (fun g hg _ => hd g hg), h3, fun g hg => Nat.lt_of_lt_of_le (h4 g hg) k.size⟩

set_option maxHeartbeats 1000000 in
theorem is_any (xb : Nat) (G : Nat → Prop) (L T : List Int) (f : Int) (W : World) (h : RefAt W xb G L T) (hT : T.length ≤ 1048576) :
    Calls Try.prog 16 #[.pointer (some ⟨xb, 0, none⟩), .int .i64 f] W fun e w' => e = .returned (.bool (decide (f ∈ T))) ∧ W = w' := by
  obtain ⟨A, c, A', c', hb, _, _, h2, _⟩ := h
  have c1 : W.cell? ⟨xb, 1, none⟩ = some (.slice A' T.length c') := hb.cell 1
  have HR := Lib.hid h2
  clear hb h2
  go_enter Try.func16, Try.ntmps16
  go_wp2_with fail
  go_loop [12] (fun i => ∃ k : Nat, k ≤ T.length ∧ i = .int .i64 k ∧ ∀ j (hj : j < T.length), j < k → T[j] ≠ f) (fun i => T.length - (intOf i).toNat)
  case atStart => exact ⟨0, by omega, rfl, fun j _ hj => by omega⟩
  case round =>
    obtain ⟨k, hk, rfl, hall⟩ := hrel
    have HA := Lib.hid hall
    clear hall
    by_cases hkl : k < T.length
    · obtain ⟨b, o, rfl, _, _, _, hc⟩ := HR.out (by omega)
      have hck := hc k hkl
      clear hc
      by_cases he : T[k] = f
      · have HM : Hid (f ∈ T) := Lib.hid (he ▸ List.getElem_mem hkl)
        rw [he] at hck
        clear he
        go_wp2
        go_ret
        exact ⟨by rw [show decide (f ∈ T) = true by simpa using HM.out]; rfl, rfl⟩
      · have hne : (T[k] == f) = false := by rw [beq_eq_false_iff_ne]; exact he
        have HE := Lib.hid he
        clear he
        generalize hy : T[k] = y at hck hne HE
        have HY := Lib.hid hy
        clear hy
        go_wp2
        go_round
        case rel =>
          refine ⟨k + 1, by omega, by go_num, fun j hj hjk => ?_⟩
          rcases Nat.lt_or_ge j k with h1 | h1
          · exact HA.out j hj h1
          · obtain rfl : j = k := by omega
            rw [HY.out]; exact HE.out
        case measure => simp [intOf]; omega
    · obtain rfl : k = T.length := by omega
      have hno : f ∉ T := fun hm => by
        obtain ⟨j, hj, e⟩ := List.getElem_of_mem hm
        exact HA.out j hj hj e
      have HNO := Lib.hid hno
      clear hno
      go_wp2
      go_ret
      exact ⟨by rw [show decide (f ∈ T) = false by simpa using HNO.out]; rfl, rfl⟩

def RefTo (W : World) (xb : Nat) (G : Nat → Prop) (L T : List Int) (w' : World) : Prop := ∃ G', RefAt w' xb G' L T ∧ (∀ k, G' k → G k ∨ W.heap.size ≤ k) ∧ Keeps G W w'
theorem rtake_none (xb : Nat) (G : Nat → Prop) (T : List Int) (W : World) (h : RefAt W xb G [] T) :
    Calls Try.prog 10 #[.pointer (some ⟨xb, 0, none⟩)] W fun e w' => e = .returned (.tuple #[.int .i64 (-1), .int .i64 50]) ∧ W = w' := by
  obtain ⟨A, c, A', c', hb, _⟩ := h
  have c0 : W.cell? ⟨xb, 0, none⟩ = some (.slice A 0 c) := hb.cell 0
  clear hb
  go_enter Try.func10, Try.ntmps10
  go_wp2
  go_ret2
  exact ⟨rfl, rfl⟩
theorem own_new (w : World) (t : TypeId) (cs : List Value) (h : cs.length ≤ maxLen) : (w.alloc (.cells cs.toArray t)).ownsRow w.heap.size t 1 (.slice (some ⟨w.heap.size, 0, none⟩) cs.length cs.length) cs.length cs :=
  ⟨by simp, .inr ⟨w.heap.size, cs.length, cs.toArray, rfl, Nat.le_refl _, heap_alloc_new w _, Nat.le_refl _, h, by simp, by simp⟩⟩
theorem rd_fin {xb : Nat} {G : Nat → Prop} {L T : List Int} {W w5 : World} {A2 : Option Addr} {c2 n : Nat} {v0 v5 : Value} (hLR : Rd G xb W A2 L) (hx : G xb) (hG : ∀ g, G g → g < W.heap.size) (hc : L.length ≤ c2) (K : Keeps (fun k => k = xb) W w5)
    (hb : Blk w5 xb 38 #[.slice A2 L.length c2, v0]) (own : w5.ownsRow W.heap.size 3 1 v5 n (T.map iv)) (hn : n = T.length) : RefTo W xb G L T (w5.setCell ⟨xb, 1, none⟩ v5) := by
  subst hn
  obtain ⟨A5, c5, rfl⟩ := row_slice own
  have hxW := hG _ hx
  have hne : ∀ g, (Value.slice A5 T.length c5).ownBlock = some g → W.heap.size ≤ g ∧ g < w5.heap.size := fun g hg => own.lt g hg
  have hox : (Value.slice A5 T.length c5).ownBlock ≠ some xb := fun e => by have := (hne _ e).1; omega
  have K6 := K.setCell (p := ⟨xb, 1, none⟩) (.inl rfl) (.slice A5 T.length c5)
  refine ⟨fun k => G k ∨ (W.heap.size ≤ k ∧ k < w5.heap.size), ⟨A2, c2, A5, c5, hb.set_ 1 _, hc, ?_, ?_, .inl hx, fun g hg => ?_⟩, fun k hk => hk.imp id (·.1), K6.mono (fun k hk => hk ▸ hx)⟩
  · exact (hLR.keeps K6 (fun g _ hg e => hg e)).mono (fun g hg => .inl hg)
  · exact Rd.own (ownsRow_setCell_other own (a := ⟨xb, 1, none⟩) hox _) rfl (fun g hg => ⟨.inr (hne g hg), fun e => by have := (hne g hg).1; omega⟩)
  · have := K.size
    rcases hg with h | h
    · have := hG g h; simp; omega
    · simpa using h.2
set_option maxHeartbeats 2000000 in
theorem rtake_some (xb : Nat) (G : Nat → Prop) (f : Int) (L T : List Int) (W : World) (h : RefAt W xb G (f :: L) T) (hL : L.length ≤ 1048576) (hT : T.length ≤ 1048576) :
    Calls Try.prog 10 #[.pointer (some ⟨xb, 0, none⟩)] W fun e w' => e = .returned (.tuple #[.int .i64 f, .int .i64 0]) ∧ RefTo W xb G L (T ++ [f]) w' := by
  obtain ⟨A, c, A', c', hb, hc, h1, h2, hx, hG⟩ := h
  obtain ⟨i0, hi0, hz0, hz1, hz2⟩ := info_parts info3
  obtain ⟨b, o, rfl, hgb, hbx, hbl, hcells⟩ := h1 (by simp)
  have hxl := hb.lt
  have c0 : W.cell? ⟨xb, 0, none⟩ = some (.slice (some ⟨b, o, none⟩) (L.length + 1) c) := hb.cell 0
  have c1 : W.cell? ⟨xb, 1, none⟩ = some (.slice A' T.length c') := hb.cell 1
  have f0 := hb.frozen 0
  have f1 := hb.frozen 1
  have hf : W.cell? ⟨b, o, none⟩ = some (.int .i64 f) := hcells 0 (by simp)
  have HLR : Hid (∀ A2, (A2 = some ⟨b, o + 1, none⟩ ∨ L = []) → Rd G xb W A2 L) := Lib.hid (fun A2 hA hp => by
    rcases hA with rfl | rfl
    · exact ⟨b, o + 1, rfl, hgb, hbx, hbl, fun i hi => by
        have := hcells (i + 1) (by simp; omega)
        rw [show o + 1 + i = o + (i + 1) by omega, this]; rfl⟩
    · simp at hp)
  have HTR := Lib.hid h2
  have HB := Lib.hid hb
  have HX := Lib.hid (And.intro hx hG)
  have HC : Hid (L.length + 1 ≤ c) := Lib.hid (by simpa using hc)
  have hc1 : 1 ≤ c := by simp at hc; omega
  have hlc : L.length + 1 - 1 = L.length := by omega
  clear hb hc h1 h2 hx hG hcells
  by_cases hcc : c = 1
  · go_enter Try.func10, Try.ntmps10
    have HLL : Hid (Rd G xb W (some ⟨b, o, none⟩) L) := Lib.hid (HLR.out _ (.inr (List.length_eq_zero_iff.1 (by have := HC.out; omega))))
    have K0 : Keeps (fun k => k = xb) W ((W.setCell ⟨xb, 0, none⟩ (.slice (some ⟨b, o, none⟩) L.length 0)).alloc (.cells #[] 3)) := ((Keeps.refl (fun k => k = xb) W).setCell (p := ⟨xb, 0, none⟩) (.inl rfl) _).alloc _
    have HR0 := Lib.hid ((HTR.out.keeps K0 (fun g _ hg e => hg e)).reads)
    have HO0 : Hid (((W.setCell ⟨xb, 0, none⟩ (.slice (some ⟨b, o, none⟩) L.length 0)).alloc (.cells #[] 3)).ownsRow W.heap.size 3 1 (.slice (some ⟨W.heap.size, 0, none⟩) 0 0) 0 []) := Lib.hid (by have := own_new (W.setCell ⟨xb, 0, none⟩ (.slice (some ⟨b, o, none⟩) L.length 0)) 3 [] (by decide); simpa using this)
    have HB0 := Lib.hid ((HB.out.set_ 0 (.slice (some ⟨b, o, none⟩) L.length 0)).alloc (.cells #[] 3))
    have HK0 := Lib.hid K0
    clear K0
    go_wp2_with (first
      | (at_builtin; (refine wpList_append_any _ rfl (.tmp 26) (.tmp 30) _ rfl W.heap.size 3 i0 _ 1 8 Try.underlying22 hi0 hz0 hz1 hz2 rfl (by decide) _ 0 [] rfl HO0.out _ _ T.length c' (T.map iv) rfl HR0.out (ints_one T) (by unfold maxLen; omega) (by omega) (by simp) ?_; intro v2 w2 hown hgrow hat; rw [Nat.zero_add] at hown; have K1 := HK0.out.grown hgrow (fun k hk => .inr (by injection hk with hk; exact Nat.le_of_eq hk)); have HB1 := Lib.hid (HB0.out.grown hgrow (by intro e; injection e with e; exact Nat.ne_of_lt hxl e)); have HO1 := Lib.hid (hown.alloc (.cells #[.int .i64 f] 3)); have HK1 := Lib.hid (K1.alloc (.cells #[.int .i64 f] 3)); have hsz1 := K1.size; obtain ⟨A3, c3, hv3⟩ := row_slice hown; subst hv3; clear hown hgrow hat K1))
      | (at_builtin; (refine wpList_append_any _ rfl (.tmp 31) (.tmp 33) _ rfl W.heap.size 3 i0 _ 1 8 Try.underlying22 hi0 hz0 hz1 hz2 rfl (by decide) _ T.length (T.map iv) rfl HO1.out (w2.heap.size + 1) (some ⟨w2.heap.size, 0, none⟩) 1 1 [.int .i64 f] rfl (reads_one _ _ _) (one_int _) (by unfold maxLen; omega) (by omega) (by simp; omega) ?_); intro v5 w5 hown hgrow hat; have HO5 := Lib.hid hown; have HK5 := Lib.hid (HK1.out.grown hgrow (fun k hk => .inr (HO1.out.lt k hk).1)); have hb5 := (HB1.out.alloc (.cells #[.int .i64 f] 3)).grown hgrow (fun e => by have := (HO1.out.lt xb e.symm).1; omega); have f5 := hb5.frozen 1; have HB5 := Lib.hid hb5; obtain ⟨A5, c5, hv5⟩ := row_slice hown; subst hv5; have c5 := hb5.cell 1; clear hown hgrow hat hb5))
    go_ret2
    refine ⟨rfl, rd_fin (n := T.length + 1) HLL.out HX.out.1 HX.out.2 (by have := HC.out; omega) HK5.out HB5.out ?_ (by simp)⟩
    simpa [iv] using HO5.out
  · go_enter Try.func10, Try.ntmps10
    have HLL : Hid (Rd G xb W (some ⟨b, o + 1, none⟩) L) := Lib.hid (HLR.out _ (.inl rfl))
    have K0 : Keeps (fun k => k = xb) W ((W.setCell ⟨xb, 0, none⟩ (.slice (some ⟨b, o + 1, none⟩) L.length (c - 1))).alloc (.cells #[] 3)) := ((Keeps.refl (fun k => k = xb) W).setCell (p := ⟨xb, 0, none⟩) (.inl rfl) _).alloc _
    have HR0 := Lib.hid ((HTR.out.keeps K0 (fun g _ hg e => hg e)).reads)
    have HO0 : Hid (((W.setCell ⟨xb, 0, none⟩ (.slice (some ⟨b, o + 1, none⟩) L.length (c - 1))).alloc (.cells #[] 3)).ownsRow W.heap.size 3 1 (.slice (some ⟨W.heap.size, 0, none⟩) 0 0) 0 []) := Lib.hid (by have := own_new (W.setCell ⟨xb, 0, none⟩ (.slice (some ⟨b, o + 1, none⟩) L.length (c - 1))) 3 [] (by decide); simpa using this)
    have HB0 := Lib.hid ((HB.out.set_ 0 (.slice (some ⟨b, o + 1, none⟩) L.length (c - 1))).alloc (.cells #[] 3))
    have HK0 := Lib.hid K0
    clear K0
    go_wp2_with (first
      | (at_builtin; (refine wpList_append_any _ rfl (.tmp 26) (.tmp 30) _ rfl W.heap.size 3 i0 _ 1 8 Try.underlying22 hi0 hz0 hz1 hz2 rfl (by decide) _ 0 [] rfl HO0.out _ _ T.length c' (T.map iv) rfl HR0.out (ints_one T) (by unfold maxLen; omega) (by omega) (by simp) ?_; intro v2 w2 hown hgrow hat; rw [Nat.zero_add] at hown; have K1 := HK0.out.grown hgrow (fun k hk => .inr (by injection hk with hk; exact Nat.le_of_eq hk)); have HB1 := Lib.hid (HB0.out.grown hgrow (by intro e; injection e with e; exact Nat.ne_of_lt hxl e)); have HO1 := Lib.hid (hown.alloc (.cells #[.int .i64 f] 3)); have HK1 := Lib.hid (K1.alloc (.cells #[.int .i64 f] 3)); have hsz1 := K1.size; obtain ⟨A3, c3, hv3⟩ := row_slice hown; subst hv3; clear hown hgrow hat K1))
      | (at_builtin; (refine wpList_append_any _ rfl (.tmp 31) (.tmp 33) _ rfl W.heap.size 3 i0 _ 1 8 Try.underlying22 hi0 hz0 hz1 hz2 rfl (by decide) _ T.length (T.map iv) rfl HO1.out (w2.heap.size + 1) (some ⟨w2.heap.size, 0, none⟩) 1 1 [.int .i64 f] rfl (reads_one _ _ _) (one_int _) (by unfold maxLen; omega) (by omega) (by simp; omega) ?_); intro v5 w5 hown hgrow hat; have HO5 := Lib.hid hown; have HK5 := Lib.hid (HK1.out.grown hgrow (fun k hk => .inr (HO1.out.lt k hk).1)); have hb5 := (HB1.out.alloc (.cells #[.int .i64 f] 3)).grown hgrow (fun e => by have := (HO1.out.lt xb e.symm).1; omega); have f5 := hb5.frozen 1; have HB5 := Lib.hid hb5; obtain ⟨A5, c5, hv5⟩ := row_slice hown; subst hv5; have c5 := hb5.cell 1; clear hown hgrow hat hb5))
    go_ret2
    refine ⟨rfl, rd_fin (n := T.length + 1) HLL.out HX.out.1 HX.out.2 (by have := HC.out; omega) HK5.out HB5.out ?_ (by simp)⟩
    simpa [iv] using HO5.out
end Go.Proofs.Ytihmeehcjdgfgaa
