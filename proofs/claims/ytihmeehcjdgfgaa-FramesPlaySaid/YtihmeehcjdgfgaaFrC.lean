/- Contracts of the stock: Take, Give. -/
import Derived.Test.YtihmeehcjdgfgaaFrB
import Derived.Test.YtihmeehcjdgfgaaReads
namespace Go.Proofs.Ytihmeehcjdgfgaa
open Go.RowKit Go.Maps

theorem fwf {f : Int} (h : -9223372036854775808 ≤ f ∧ f ≤ 9223372036854775807) : (Lit.int .i64 f).wf = true := by
  simp [Lit.wf, IntKind.min, IntKind.max, IntKind.signed, IntKind.bits]; omega
def SV.pop (s : SV) (gs : List Int) (f : Int) : SV := ⟨s.first, s.next, s.end_, gs, f :: s.taken⟩
def SV.fresh (s : SV) : SV := ⟨s.first, s.next + 1, s.end_, s.given, s.next :: s.taken⟩
def SV.back (s : SV) (f : Int) : SV := ⟨s.first, s.next, s.end_, s.given ++ [f], s.taken.erase f⟩

theorem take_given (sb : Nat) (F : Nat → Prop) (s : SV) (gs : List Int) (f : Int) (W : World) (h : StockAt W sb F s) (hg : s.given = gs ++ [f]) (hf : (Lit.int .i64 f).wf = true) (hnt : f ∉ s.taken) (hmax : s.taken.length ≤ 1048576) (hlen : gs.length ≤ 1048576) :
    Calls Try.prog 9 #[.pointer (some ⟨sb, 0, none⟩)] W fun e w' => e = .returned (.tuple #[.int .i64 f, .int .i64 0]) ∧ StockAt w' sb F (s.pop gs f) ∧ Keeps F W w' := by
  obtain ⟨v, bm, hb, ho, hm, fs, fm, fv, fb⟩ := h
  rw [hg, List.length_append, List.map_append] at ho
  obtain ⟨g, cap, hv, _, hlt⟩ := ho.form (by simp)
  subst hv
  have hcap : gs.length ≤ cap := by
    rcases ho.2 with ⟨h0, _⟩ | ⟨g', cap', cur, h1, _, _, h3, _⟩
    · cases h0
    · injection h1 with _ _ h1; subst h1; simp at h3; omega
  have hcap2 : gs.length + 1 ≤ cap := by
    rcases ho.2 with ⟨h0, _⟩ | ⟨g', cap', cur, h1, _, _, h3, _⟩
    · cases h0
    · injection h1 with _ _ h1; subst h1; simpa using h3
  have c3 : W.cell? ⟨sb, 3, none⟩ = some (.slice (some ⟨g, 0, none⟩) (gs.length + 1) cap) := hb.cell 3
  have c4 : W.cell? ⟨sb, 4, none⟩ = some (.map (some bm)) := hb.cell 4
  have f3 := hb.frozen 3
  have cm : W.cell? ⟨g, gs.length, none⟩ = some (.int .i64 f) := by
    rw [ho.cellAt gs.length (by simp), List.getElem?_append_right (by simp)]; simp [iv]
  have hrow : W.ownsRow 0 3 1 (.slice (some ⟨g, 0, none⟩) gs.length cap) gs.length (gs.map iv) := ownsRow_pop (last := [f].map iv) (by simp) ho
  have nsb : g ≠ sb := fun e => row_ne_blk ho hb (by decide) (by simp [Value.ownBlock, e])
  have nbm : g ≠ bm := fun e => by
    obtain ⟨_, D, hD, _⟩ := hm
    exact row_ne_map ho hD (by simp [Value.ownBlock, e])
  have nms : bm ≠ sb := by
    obtain ⟨_, D, hD, _⟩ := hm
    exact map_ne_blk hD hb
  have K0 := (Keeps.refl (fun k => k = sb ∨ k = bm) W).setCell (p := ⟨sb, 3, none⟩) (.inl (.inl rfl)) (.slice (some ⟨g, 0, none⟩) gs.length cap)
  have HBS := Lib.hid (hm.keeps ((Keeps.refl (fun k => k = sb) W).setCell (p := ⟨sb, 3, none⟩) (.inl rfl) (.slice (some ⟨g, 0, none⟩) gs.length cap)) nms)
  have HB := Lib.hid hb
  have HR := Lib.hid hrow
  have HK := Lib.hid K0
  have HN := Lib.hid (And.intro nsb (And.intro nbm nms))
  have HF := Lib.hid (And.intro fs (And.intro fm (And.intro fv fb)))
  have HM := Lib.hid (show s.taken.length < maxLen by unfold maxLen; omega)
  have HNT := Lib.hid hnt
  have HW := Lib.hid hf
  clear ho hb hm hrow K0 fs fm fv fb hg hnt hf hmax nsb nbm nms
  go_enter Try.func9, Try.ntmps9
  go_wp2_with (at_mapUpdate; refine wpList_bput _ rfl _ _ _ rfl bm s.taken f rfl rfl rfl HBS.out HW.out HNT.out HM.out ?_; intro w1 hset hgrow; have HS := Lib.hid hset; have HG := Lib.hid hgrow; clear hset hgrow)
  go_ret2
  have K1 := HK.out.grown HG.out (fun k hk => by injection hk with hk; exact .inl (.inr hk.symm))
  obtain ⟨fs, fm, fv, fb⟩ := HF.out
  obtain ⟨nsb, nbm, nms⟩ := HN.out
  refine ⟨rfl, ⟨_, bm, (HB.out.set_ 3 _).grown HG.out (by intro e; injection e with e; exact nms e.symm), K1.row HR.out (fun k hk => by
    have : g = k := by simpa [Value.ownBlock] using hk
    subst this
    rintro (e | e)
    · exact nsb e
    · exact nbm e), HS.out, fs, fm, fun k hk => fv k (by simpa [Value.ownBlock] using hk), fun k hk => Nat.lt_of_lt_of_le (fb k hk) K1.size⟩, K1.mono (fun k hk => by rcases hk with rfl | rfl <;> assumption)⟩

theorem take_next (sb : Nat) (F : Nat → Prop) (s : SV) (W : World) (h : StockAt W sb F s) (hg : s.given = []) (h0 : 0 ≤ s.next) (h1 : s.next < s.end_) (h2 : s.end_ ≤ 1048576) (hnt : s.next ∉ s.taken) (hmax : s.taken.length ≤ 1048576) :
    Calls Try.prog 9 #[.pointer (some ⟨sb, 0, none⟩)] W fun e w' => e = .returned (.tuple #[.int .i64 s.next, .int .i64 0]) ∧ StockAt w' sb F s.fresh ∧ Keeps F W w' := by
  obtain ⟨v, bm, hb, ho, hm, fs, fm, fv, fb⟩ := h
  obtain ⟨A, c, rfl⟩ := row_slice ho
  have c1 : W.cell? ⟨sb, 1, none⟩ = some (.int .i64 s.next) := hb.cell 1
  have c2 : W.cell? ⟨sb, 2, none⟩ = some (.int .i64 s.end_) := hb.cell 2
  have c3 : W.cell? ⟨sb, 3, none⟩ = some (.slice A 0 c) := by rw [hb.cell 3, hg]; rfl
  have c4 : W.cell? ⟨sb, 4, none⟩ = some (.map (some bm)) := hb.cell 4
  have f1 := hb.frozen 1
  have hl := hb.lt
  have nms : bm ≠ sb := by
    obtain ⟨_, D, hD, _⟩ := hm
    exact map_ne_blk hD hb
  have nrow : ∀ k, (Value.slice A s.given.length c).ownBlock = some k → k ≠ sb ∧ k ≠ bm := fun k hk => ⟨fun e => row_ne_blk ho hb (by decide) (by rw [hk, e]), fun e => by
    obtain ⟨_, D, hD, _⟩ := hm
    exact row_ne_map ho hD (by rw [hk, e])⟩
  have K0 := ((Keeps.refl (fun k => k = sb ∨ k = bm) W).drew).setCell (p := ⟨sb, 1, none⟩) (.inl (.inl rfl)) (.int .i64 (s.next + 1))
  have HBS := Lib.hid (hm.keeps (((Keeps.refl (fun k => k = sb) W).drew).setCell (p := ⟨sb, 1, none⟩) (.inl rfl) (.int .i64 (s.next + 1))) nms)
  have HB := Lib.hid hb
  have HR := Lib.hid ho
  have HK := Lib.hid K0
  have HN := Lib.hid (And.intro nrow nms)
  have HF := Lib.hid (And.intro fs (And.intro fm (And.intro fv fb)))
  have HM := Lib.hid (show s.taken.length < maxLen by unfold maxLen; omega)
  have HNT := Lib.hid hnt
  have HW := Lib.hid (fwf (f := s.next) (by omega))
  have HV : Hid (s.fresh = s.fresh) := Lib.hid rfl
  have e1 : decide (s.next < s.end_) = true := by simpa using h1
  have h3 : s.next ≤ 1048576 := by omega
  have hw1 : IntKind.i64.wrap (s.next + 1) = s.next + 1 := IntWalk.i64_in _ (by omega)
  clear ho hb hm K0 fs fm fv fb hg hnt hmax nrow nms h1 h2
  go_enter Try.func9, Try.ntmps9
  go_wp2_with fail
  have s1 := fun W' (h : Ext W.drew W') => (h.cell (p := ⟨sb, 1, none⟩) hl).trans c1
  have s2 := fun W' (h : Ext W.drew W') => (h.cell (p := ⟨sb, 2, none⟩) hl).trans c2
  refine wp_region_plan [(0, false), (1, false), (2, false), (3, false), (4, false), (5, false), (6, false), (7, false), (8, false), (9, false)] (by kernel_rfl) (by kernel_rfl) (fun _ d _ _ _ h => by cases d <;> exact h) ?_
  iterate 10 (refine plan_take (v := ?_) rfl (by kernel_rfl) ?_ ?_; rotate_left; (focus (intro w' hw'; go_simp; try with_reducible rfl)); simp only [Act.put, List.setIfInBounds_toArray, List.set_cons_zero, List.set_cons_succ])
  clear s1 s2
  refine plan_end ?_
  go_wp2_with (at_mapUpdate; refine wpList_bput _ rfl _ _ _ rfl bm s.taken s.next rfl rfl rfl HBS.out HW.out HNT.out HM.out ?_; intro w1 hset hgrow; have HS := Lib.hid hset; have HG := Lib.hid hgrow; clear hset hgrow)
  go_ret2
  have K1 := HK.out.grown HG.out (fun k hk => by injection hk with hk; exact .inl (.inr hk.symm))
  obtain ⟨fs, fm, fv, fb⟩ := HF.out
  obtain ⟨nrow, nms⟩ := HN.out
  refine ⟨rfl, ⟨_, bm, (HB.out.drew.set_ 1 _).grown HG.out (by intro e; injection e with e; exact nms e.symm), K1.row HR.out (fun k hk => by
    rintro (e | e)
    · exact (nrow k hk).1 e
    · exact (nrow k hk).2 e), HS.out, fs, fm, fv, fun k hk => Nat.lt_of_lt_of_le (fb k hk) K1.size⟩, K1.mono (fun k hk => by rcases hk with rfl | rfl <;> assumption)⟩

theorem take_full (sb : Nat) (F : Nat → Prop) (s : SV) (W : World) (h : StockAt W sb F s) (hg : s.given = []) (h1 : ¬ s.next < s.end_) :
    Calls Try.prog 9 #[.pointer (some ⟨sb, 0, none⟩)] W fun e w' => e = .returned (.tuple #[.int .i64 (-1), .int .i64 50]) ∧ StockAt w' sb F s ∧ Keeps F W w' := by
  have HST := Lib.hid h
  obtain ⟨v, bm, hb, ho, hm, fs, fm, fv, fb⟩ := h
  obtain ⟨A, c, rfl⟩ := row_slice ho
  have c1 : W.cell? ⟨sb, 1, none⟩ = some (.int .i64 s.next) := hb.cell 1
  have c2 : W.cell? ⟨sb, 2, none⟩ = some (.int .i64 s.end_) := hb.cell 2
  have c3 : W.cell? ⟨sb, 3, none⟩ = some (.slice A 0 c) := by rw [hb.cell 3, hg]; rfl
  have hl := hb.lt
  have e1 : decide (s.next < s.end_) = false := by simpa using h1
  clear ho hb hm fs fm fv fb hg h1
  go_enter Try.func9, Try.ntmps9
  go_wp2_with fail
  have s1 := fun W' (h : Ext W.drew W') => (h.cell (p := ⟨sb, 1, none⟩) hl).trans c1
  have s2 := fun W' (h : Ext W.drew W') => (h.cell (p := ⟨sb, 2, none⟩) hl).trans c2
  refine wp_region_plan [(0, false), (1, false), (2, false), (3, false), (4, false), (5, false), (6, false), (7, false), (8, false), (9, false)] (by kernel_rfl) (by kernel_rfl) (fun _ d _ _ _ h => by cases d <;> exact h) ?_
  iterate 10 (refine plan_take (v := ?_) rfl (by kernel_rfl) ?_ ?_; rotate_left; (focus (intro w' hw'; go_simp; try with_reducible rfl)); simp only [Act.put, List.setIfInBounds_toArray, List.set_cons_zero, List.set_cons_succ])
  clear s1 s2
  refine plan_end ?_
  go_wp2
  go_ret2
  exact ⟨rfl, HST.out.keeps ((Keeps.refl (fun _ => False) W).drew) (fun _ _ h => h), (Keeps.refl F W).drew⟩
end Go.Proofs.Ytihmeehcjdgfgaa
