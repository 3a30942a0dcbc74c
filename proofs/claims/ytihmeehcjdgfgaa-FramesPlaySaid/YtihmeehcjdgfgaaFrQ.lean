/- Contracts of the reference's stock: Give, New. -/
import Derived.Test.YtihmeehcjdgfgaaFrP
namespace Go.Proofs.Ytihmeehcjdgfgaa
open Go.RowKit Go.Maps

theorem rgive_no (xb : Nat) (G : Nat → Prop) (f : Int) (L T : List Int) (W : World) (h : RefAt W xb G L T) (hT : T.length ≤ 1048576) (hn : f ∉ T) :
    Calls Try.prog 12 #[.pointer (some ⟨xb, 0, none⟩), .int .i64 f] W fun e w' => e = .returned (.int .i64 51) ∧ W = w' := by
  have HH := Lib.hid h
  have HN := Lib.hid hn
  clear h hn
  go_enter Try.func12, Try.ntmps12
  go_wp2_with fail
  refine (is_any xb G L T f _ HH.out hT).mono ?_
  rintro e w1 ⟨rfl, rfl⟩
  rw [show decide (f ∈ T) = false by simpa using HN.out]
  go_wp2
  go_ret
  exact ⟨rfl, rfl⟩
theorem own_lower {w : World} {B B' n : Nat} {e : TypeId} {v : Value} {xs : List Value} (h : w.ownsRow B e 1 v n xs) (hB : B' ≤ B) : w.ownsRow B' e 1 v n xs := by
  refine ⟨h.1, ?_⟩
  rcases h.2 with h2 | ⟨g, cap, cur, h1, hb, r⟩
  · exact .inl h2
  · exact .inr ⟨g, cap, cur, h1, by omega, r⟩
def GiveRel (W : World) (f : Int) (T : List Int) (v i : Value) (wr : World) : Prop := ∃ k : Nat, k ≤ T.length ∧ i = .int .i64 k ∧
  wr.ownsRow W.heap.size 3 1 v ((T.take k).filter (· != f)).length (((T.take k).filter (· != f)).map iv) ∧ Below W.heap.size W wr
theorem give_step {W w' : World} {f : Int} {T : List Int} {v' : Value} {k : Nat} {j : Int} (hk : k < T.length) (hj : j = ((k + 1 : Nat) : Int)) (ho : w'.ownsRow W.heap.size 3 1 v' (((T.take k).filter (· != f)).length + 1) (((T.take k).filter (· != f)).map iv ++ [.int .i64 T[k]])) (hne : T[k] ≠ f) (hb : Below W.heap.size W w') : GiveRel W f T v' (.int .i64 j) w' := by
  subst hj
  refine ⟨k + 1, hk, rfl, ?_, hb⟩
  rw [List.take_add_one, List.getElem?_eq_getElem hk, List.filter_append]
  have : List.filter (· != f) (some T[k]).toList = [T[k]] := by simp [hne]
  rw [this]
  simpa [iv] using ho
theorem give_skip {W wr : World} {f : Int} {T : List Int} {v : Value} {k : Nat} {j : Int} (hk : k < T.length) (hj : j = ((k + 1 : Nat) : Int)) (ho : wr.ownsRow W.heap.size 3 1 v ((T.take k).filter (· != f)).length (((T.take k).filter (· != f)).map iv)) (hne : T[k] = f) (hb : Below W.heap.size W wr) : GiveRel W f T v (.int .i64 j) wr := by
  subst hj
  refine ⟨k + 1, hk, rfl, ?_, hb⟩
  rw [List.take_add_one, List.getElem?_eq_getElem hk, List.filter_append]
  have : List.filter (· != f) (some T[k]).toList = [] := by simp [hne]
  rw [this, List.append_nil]
  exact ho
theorem rg_fin {xb : Nat} {G : Nat → Prop} {L T : List Int} {W w5 : World} {n : Nat} {v0 v3 v5 : Value} (hx : G xb) (hG : ∀ g, G g → g < W.heap.size) (K : Keeps (fun k => k = xb) W w5)
    (hb : Blk w5 xb 38 #[v0, v3]) (o3 : w5.ownsRow W.heap.size 3 1 v3 T.length (T.map iv)) (own : w5.ownsRow W.heap.size 3 1 v5 n (L.map iv)) (hn : n = L.length) : RefTo W xb G L T (w5.setCell ⟨xb, 0, none⟩ v5) := by
  subst hn
  obtain ⟨A5, c5, rfl⟩ := row_slice own
  obtain ⟨A3, c3, rfl⟩ := row_slice o3
  have hxW := hG _ hx
  have hcap : L.length ≤ c5 := by
    rcases own.2 with ⟨h1, h2⟩ | ⟨g, cap, cur, h1, _, _, h3, _⟩
    · omega
    · injection h1 with _ _ h1; omega
  have K6 := K.setCell (p := ⟨xb, 0, none⟩) (.inl rfl) (.slice A5 L.length c5)
  have fin : ∀ (A : Option Addr) (c : Nat) (l : List Int), w5.ownsRow W.heap.size 3 1 (.slice A l.length c) l.length (l.map iv) → Rd (fun k => G k ∨ (W.heap.size ≤ k ∧ k < w5.heap.size)) xb (w5.setCell ⟨xb, 0, none⟩ (.slice A5 L.length c5)) A l := fun A c l h => by
    have hne : ∀ g, (Value.slice A l.length c).ownBlock = some g → W.heap.size ≤ g ∧ g < w5.heap.size := fun g hg => h.lt g hg
    have hox : (Value.slice A l.length c).ownBlock ≠ some xb := fun e => by have := (hne _ e).1; omega
    exact Rd.own (ownsRow_setCell_other h (a := ⟨xb, 0, none⟩) hox _) rfl (fun g hg => ⟨.inr (hne g hg), fun e => by have := (hne g hg).1; omega⟩)
  refine ⟨fun k => G k ∨ (W.heap.size ≤ k ∧ k < w5.heap.size), ⟨A5, c5, A3, c3, hb.set_ 0 _, hcap, fin _ _ _ own, fin _ _ _ o3, .inl hx, fun g hg => ?_⟩, fun k hk => hk.imp id (·.1), K6.mono (fun k hk => hk ▸ hx)⟩
  have := K.size
  rcases hg with h | h
  · have := hG g h; simp; omega
  · simpa using h.2
set_option maxHeartbeats 2000000 in
theorem rgive_ok (xb : Nat) (G : Nat → Prop) (f : Int) (L T : List Int) (W : World) (h : RefAt W xb G L T) (hL : L.length ≤ 1048576) (hT : T.length ≤ 1048576) (hn : f ∈ T) :
    Calls Try.prog 12 #[.pointer (some ⟨xb, 0, none⟩), .int .i64 f] W fun e w' => e = .returned (.int .i64 0) ∧ RefTo W xb G (f :: L) (T.filter (· != f)) w' := by
  have HH := Lib.hid h
  have HN := Lib.hid hn
  obtain ⟨A, c, A', c', hb, hc, h1, h2, hx, hG⟩ := h
  obtain ⟨i0, hi0, hz0, hz1, hz2⟩ := info_parts info3
  have hxl := hb.lt
  have c1 : W.cell? ⟨xb, 1, none⟩ = some (.slice A' T.length c') := hb.cell 1
  have HLR := Lib.hid h1
  have HTR := Lib.hid h2
  have HB := Lib.hid hb
  have HX := Lib.hid (And.intro hx hG)
  clear hn hb hc h1 h2 hx hG
  go_enter Try.func12, Try.ntmps12
  go_wp2_with fail
  refine (is_any xb G L T f _ HH.out hT).mono ?_
  rintro e w1 ⟨rfl, rfl⟩
  rw [show decide (f ∈ T) = true by simpa using HN.out]
  go_wp2_with fail
  go_loopw [5, 17] (fun v i wr => GiveRel W f T v i wr) (fun _ i _ => T.length - (intOf i).toNat)
  case atStart => exact ⟨0, by omega, rfl, World.ownsRow_nil _ _ _ _, Below.refl _ _⟩
  case round =>
    obtain ⟨k, hk, rfl, ho, hbw⟩ := hrel
    obtain ⟨Av, cv, hv⟩ := row_slice ho
    subst hv
    have HO := Lib.hid ho
    have HW := Lib.hid hbw
    have hfl : ((T.take k).filter (· != f)).length ≤ T.length := Nat.le_trans (List.length_filter_le _ _) (by simp; omega)
    clear ho hbw
    by_cases hkl : k < T.length
    · obtain ⟨b, o, rfl, _, _, hbl, hcs⟩ := HTR.out (by omega)
      have hck := (HW.out.cell (p := ⟨b, o + k, none⟩) hbl).trans (hcs k hkl)
      clear hcs
      by_cases he : T[k] = f
      · have HE := Lib.hid he
        rw [he] at hck
        clear he
        go_wp2
        go_roundw
        case rel => exact give_skip hkl rfl HO.out HE.out HW.out
        case measure => simp [intOf]; omega
      · have hne : (T[k] == f) = false := by rw [beq_eq_false_iff_ne]; exact he
        have HE := Lib.hid he
        clear he
        generalize hy : T[k] = y at hck hne
        have HY := Lib.hid hy
        clear hy
        go_wp2_with (at_builtin; refine wpList_append_any _ rfl (.tmp 24) (.tmp 26) _ rfl W.heap.size 3 i0 _ 1 8 Try.underlying22 hi0 hz0 hz1 hz2 rfl (by decide) _ ((T.take k).filter (· != f)).length (((T.take k).filter (· != f)).map iv) rfl (HO.out.alloc _) (wr.heap.size + 1) (some ⟨wr.heap.size, 0, none⟩) 1 1 [.int .i64 y] rfl (reads_one _ _ _) (one_int _) (by unfold maxLen; omega) (by omega) (by have := HW.out.size; simp; omega) ?_; intro v3 w3 hown hgrow hat; have HOWN := Lib.hid hown; have HG := Lib.hid hgrow; clear hown hgrow hat)
        go_roundw
        case rel => exact give_step hkl rfl (by rw [HY.out]; exact HOWN.out) HE.out (below_step HW.out (((Keeps.refl (fun k => W.heap.size ≤ k) _).alloc _).grown HG.out (fun g hg => .inl (HO.out.lt g hg).1)) (fun g hg => hg) HW.out.size)
        case measure => simp [intOf]; omega
    · obtain rfl : k = T.length := by omega
      rw [List.take_length] at HO hfl
      generalize hN : T.filter (· != f) = N at *
      have hbr := HB.out.below HW.out hxl
      have f0 := Blk.frozen hbr 0
      have f1 := Blk.frozen hbr 1
      have c10 : wr.cell? ⟨xb, 0, none⟩ = some (.slice A L.length c) := hbr.cell 0
      have c11 : wr.cell? ⟨xb, 1, none⟩ = some (.slice A' T.length c') := hbr.cell 1
      have hxw := hbr.lt
      have HBR := Lib.hid hbr
      have hsz := HW.out.size
      have K2 := ((Keeps.refl (fun k => k = xb) wr).setCell (p := ⟨xb, 1, none⟩) (.inl rfl) (.slice Av N.length cv)).alloc (.cells #[.int .i64 f] 3)
      have HR2 := Lib.hid ((HLR.out.keeps ((Keeps.of_below HW.out).trans K2 (fun _ h => .inl h)) (fun g _ hg e => hg e)).reads)
      have HO2 : Hid (((wr.setCell ⟨xb, 1, none⟩ (.slice Av N.length cv)).alloc (.cells #[.int .i64 f] 3)).ownsRow W.heap.size 3 1 (.slice (some ⟨wr.heap.size, 0, none⟩) 1 1) 1 [.int .i64 f]) := Lib.hid (by have := own_lower (own_new (wr.setCell ⟨xb, 1, none⟩ (.slice Av N.length cv)) 3 [.int .i64 f] (show 1 ≤ maxLen by decide)) (B' := W.heap.size) (by simpa using hsz); simpa using this)
      have HB2 := Lib.hid ((Blkf.set_ hbr 1 (.slice Av N.length cv)).alloc (.cells #[.int .i64 f] 3))
      have HK2 := Lib.hid K2
      clear hbr K2
      go_wp2_with (at_builtin; go_loud (refine wpList_append_any _ rfl (.tmp 35) (.tmp 39) _ rfl W.heap.size 3 i0 _ 1 8 Try.underlying22 hi0 hz0 hz1 hz2 rfl (by decide) _ 1 [.int .i64 f] rfl HO2.out _ _ L.length c (L.map iv) rfl HR2.out (ints_one L) (by unfold maxLen; omega) (by omega) (by simp; omega) ?_; intro v5 w5 hown hgrow hat; have hb5 := HB2.out.grown hgrow (by intro e; injection e with e; have e : xb = wr.heap.size := e; omega); have HK5 := Lib.hid (HK2.out.grown hgrow (fun k hk => .inr (by injection hk with hk; exact Nat.le_of_eq hk))); have HO5 := Lib.hid hown; have f5 := hb5.frozen 0; have HB5 := Lib.hid hb5; obtain ⟨A5, q5, hv5⟩ := row_slice hown; subst hv5; have c5 := hb5.cell 0; clear hown hgrow hat hb5))
      go_ret
      refine ⟨rfl, ?_⟩
      subst hN
      refine rg_fin (n := 1 + L.length) HX.out.1 HX.out.2 ((Keeps.of_below HW.out).trans HK5.out (fun _ h => .inl h)) HB5.out ?_ ?_ (by simp; omega)
      · exact HK5.out.row HO.out (fun g hg e => by have := (HO.out.lt g hg).1; omega)
      · simpa [iv] using HO5.out

def freshL (f : Int) (k : Nat) : List Int := (List.range k).map (fun (i : Nat) => f + (i : Int))
theorem freshL_length (f : Int) (k : Nat) : (freshL f k).length = k := by simp [freshL]
theorem freshL_succ (f : Int) (k : Nat) : freshL f (k + 1) = freshL f k ++ [f + (k : Int)] := by simp [freshL, List.range_succ]
def NewRel (W : World) (f : Int) (n : Nat) (i : Value) (wr : World) : Prop := ∃ k : Nat, k ≤ n ∧ i = .int .i64 k ∧ ∃ A c, Blk wr W.heap.size 38 #[.slice A k c, .slice none 0 0] ∧
  wr.ownsRow (W.heap.size + 1) 3 1 (.slice A k c) k ((freshL f k).map iv) ∧ Below W.heap.size W wr
theorem own_cap {w : World} {B n c : Nat} {A : Option Addr} {e : TypeId} {xs : List Value} (own : w.ownsRow B e 1 (.slice A n c) n xs) : n ≤ c := by
  rcases own.2 with ⟨h1, h2⟩ | ⟨g, cap, cur, h1, _, _, h3, _⟩
  · omega
  · injection h1 with _ _ h1; omega
set_option maxHeartbeats 2000000 in
theorem rnew (f : Int) (n : Nat) (W : World) (h0 : 0 ≤ f) (h1 : f ≤ 255) (h2 : n ≤ 255) :
    Calls Try.prog 8 #[.int .i64 f, .int .i64 n] W fun e w' => e = .returned (.pointer (some ⟨W.heap.size, 0, none⟩)) ∧ (∃ G, RefAt w' W.heap.size G (freshL f n) [] ∧ ∀ k, G k → W.heap.size ≤ k) ∧ Below W.heap.size W w' := by
  obtain ⟨i0, hi0, hz0, hz1, hz2⟩ := info_parts info3
  go_enter Try.func8, Try.ntmps8
  go_wp2_with fail
  go_loopw [6] (fun i wr => NewRel W f n i wr) (fun i _ => n - (intOf i).toNat)
  case atStart => exact ⟨0, by omega, rfl, none, 0, Blkf.new_at W _ _ _ rfl, World.ownsRow_nil _ _ _ _, Keeps.below (F := fun g => W.heap.size ≤ g) ((Keeps.refl _ W).alloc _) (fun _ h => h) (Nat.le_refl _)⟩
  case round =>
    obtain ⟨k, hk, rfl, A, c, hb, ho, hbw⟩ := hrel
    have c0 := hb.cell 0
    have f0 := hb.frozen 0
    have hxl := hb.lt
    have HB := Lib.hid hb
    have HO := Lib.hid ho
    have HW := Lib.hid hbw
    clear hb ho hbw
    by_cases hkl : k < n
    · go_wp2_with (at_builtin; go_loud (refine wpList_append_any _ rfl (.tmp 18) (.tmp 22) _ rfl (W.heap.size + 1) 3 i0 _ 1 8 Try.underlying22 hi0 hz0 hz1 hz2 rfl (by decide) _ k ((freshL f k).map iv) rfl (HO.out.alloc _) (wr.heap.size + 1) (some ⟨wr.heap.size, 0, none⟩) 1 1 [.int .i64 (f + k)] rfl (reads_one _ _ _) (one_int _) (by unfold maxLen; omega) (by omega) (by have := HW.out.size; simp; omega) ?_; intro v3 w3 hown hgrow hat; obtain ⟨A5, q5, hv5⟩ := row_slice hown; subst hv5; have hb5 := (HB.out.alloc (.cells #[.int .i64 (f + k)] 3)).grown hgrow (fun e => by have := (HO.out.lt _ e.symm).1; omega); have c5 := hb5.cell 0; have f5 := hb5.frozen 0; have HB5 := Lib.hid hb5; have HOWN := Lib.hid hown; have HG := Lib.hid hgrow; clear hown hgrow hat hb5))
      go_roundw
      case rel =>
        have hk5 : Keeps (fun g => W.heap.size ≤ g) wr (w3.setCell ⟨W.heap.size, 0, none⟩ (.slice A5 (k + 1) q5)) := (((Keeps.refl (fun g => W.heap.size ≤ g) wr).alloc _).grown HG.out (fun g hg => .inl (by have := (HO.out.lt g hg).1; omega))).setCell (.inl (Nat.le_refl _)) _
        refine ⟨k + 1, hkl, rfl, A5, q5, HB5.out.set_ 0 _, ?_, below_step HW.out hk5 (fun g hg => hg) HW.out.size⟩
        have := ownsRow_setCell_other HOWN.out (a := ⟨W.heap.size, 0, none⟩) (fun e => by have := (HOWN.out.lt _ e).1; have h2 : W.heap.size + 1 ≤ W.heap.size := this; omega) (.slice A5 (k + 1) q5)
        rw [freshL_succ]
        simpa [iv] using this
      case measure => simp [intOf]; omega
    · obtain rfl : k = n := by omega
      go_wp2
      go_ret
      have ho := HO.out
      refine ⟨rfl, ⟨fun g => W.heap.size ≤ g ∧ g < wr.heap.size, ⟨A, c, none, 0, ?_, ?_, Rd.own ho (freshL_length f k).symm (fun g hg => ⟨⟨by have := (ho.lt g hg).1; omega, (ho.lt g hg).2⟩, fun e => by have := (ho.lt g hg).1; omega⟩), fun hp => by simp at hp, ⟨Nat.le_refl _, hxl⟩, fun g hg => hg.2⟩, fun g hg => hg.1⟩, HW.out⟩
      · rw [freshL_length]; exact HB.out
      · rw [freshL_length]; exact own_cap ho
end Go.Proofs.Ytihmeehcjdgfgaa
