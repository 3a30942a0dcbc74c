/- Merged texts: FrA, FrB, FrC, FrD. -/
import Derived.Test.YtbgagmpinekhpaaTk4
import Derived.Test.YtbgagmpinekhpaaSep
import Derived.IntWalk
import Derived.Test.YtbgagmpinekhpaaReads
/- Sets of numbers as maps: the laws for the walk. -/
namespace Go.Proofs.Ytbgagmpinekhpaa
open Go.RowKit Go.Maps

/-- Block b is a map that holds true at just the numbers of L. -/
def BSet (w : World) (b : Nat) (L : List Int) : Prop := L.Nodup ∧ ∃ D : DataW Unit, w.ownsMap Try.prog 3 (plainElem Try.prog 4) b L.length D ∧ Maps.size D = L.length ∧
  ∀ f, (Lit.int .i64 f).wf = true → D.atKey (.int .i64 f) (.lit (.bool false)) = .lit (.bool (decide (f ∈ L))) ∧ Maps.has D (.int .i64 f) = decide (f ∈ L)
theorem law : Keyed Try.prog 3 := int_keyed Try.underlying3
theorem zeroB (w : World) : (zeroValue 4).run Try.prog w = .ok (.bool false) w := by kernel_rfl
theorem elemB (x : Bool) : plainElem (H := Unit) Try.prog 4 (.bool x) = some (.lit (.bool x), []) := plainElem_bool Try.underlying4 x
theorem elemB_inv {v : Value} {y : Bool} {ps : List MemPlace} (h : plainElem (H := Unit) Try.prog 4 v = some (.lit (.bool y), ps)) : v = .bool y := by
  unfold plainElem at h
  cases v <;> simp_all [Try.underlying4]
theorem BSet.lt {w : World} {b : Nat} {L : List Int} (h : BSet w b L) : b < w.heap.size := by
  obtain ⟨_, D, h, _⟩ := h; exact h.lt
theorem BSet.keep {w w' : World} {b : Nat} {L : List Int} {row : Option Nat} (h : BSet w b L) (hg : w.grownBy w' row) (hne : some b ≠ row) : BSet w' b L := by
  obtain ⟨hn, D, h, r⟩ := h; exact ⟨hn, D, h.kept hg hne, r⟩
theorem BSet.keeps {w w' : World} {b : Nat} {L : List Int} {F : Nat → Prop} (h : BSet w b L) (hg : Keeps F w w') (hne : ¬ F b) : BSet w' b L := by
  obtain ⟨hn, D, h, r⟩ := h; exact ⟨hn, D, hg.map h hne, r⟩
theorem BSet.look {w : World} {b : Nat} {L : List Int} (h : BSet w b L) {f : Int} (hf : (Lit.int .i64 f).wf = true) :
    (Instr.lookup 70 (.map (some b)) (.int .i64 f) false).run Try.prog w = .ok (.bool (decide (f ∈ L))) w := by
  obtain ⟨_, D, h, _, hD⟩ := h
  obtain ⟨v, ps, hrun, hv⟩ := h.lookup law Try.underlying70 (zeroB w) (elemB false) (keyI hf)
  rw [(hD f hf).1] at hv
  rw [hrun, elemB_inv hv]
theorem BSet.len {w : World} {b : Nat} {L : List Int} (h : BSet w b L) (ty : TypeId) :
    (Builtin.len_ #[70] ty #[.map (some b)]).run Try.prog w = .ok (.int .i64 (L.length : Int)) w := by
  obtain ⟨_, D, h, hs, _⟩ := h
  have := h.len (ty := ty) Try.underlying70
  rw [hs] at this
  exact this
theorem ownsMap_size {w : World} {b n : Nat} {D : DataW Unit} (h : w.ownsMap Try.prog 3 (plainElem Try.prog 4) b n D) : w.ownsMap Try.prog 3 (plainElem Try.prog 4) b (Maps.size D) D := by
  obtain ⟨es, clock, hb, F, hs, rfl⟩ := h
  exact ⟨es, clock, hb, F, by simp [Maps.size, length_sorted], rfl⟩
theorem BSet.new (w : World) : BSet (w.alloc (.map #[] 0)) w.heap.size [] :=
  ⟨by simp, .map [], World.ownsMap_made _ _ _ _, rfl, fun f _ => ⟨by simp [DataW.atKey], by simp [Maps.has]⟩⟩
theorem BSet.put {w : World} {b : Nat} {L : List Int} (h : BSet w b L) {f : Int} (hf : (Lit.int .i64 f).wf = true) (hL : f ∉ L) (hm : L.length < maxLen) :
    ∃ w', (Instr.mapUpdate 70 (.map (some b)) (.int .i64 f) (.bool true)).run Try.prog w = .ok () w' ∧ BSet w' b (f :: L) ∧ w.grownBy w' (some b) := by
  obtain ⟨hn, D, h, hs, hD⟩ := h
  obtain ⟨w', hrun, h', hg⟩ := h.update law Try.underlying70 hm (keyI hf) (elemB true)
  have hsz : Maps.size (D.put (.int .i64 f) (.lit (.bool true))) = (f :: L).length := by
    rw [Maps.size_put (h.tidy law), (hD f hf).2, hs]
    simp [hL]
  refine ⟨w', hrun, ⟨List.nodup_cons.2 ⟨hL, hn⟩, _, by rw [← hsz]; exact ownsMap_size h', hsz, fun g hg' => ?_⟩, hg⟩
  by_cases e : g = f
  · subst e
    rw [Maps.atKey_put_same h.isMap (isKeyI _), Maps.has_put_same h.isMap (isKeyI _)]
    simp
  · have hne : (Lit.int .i64 g) ≠ .int .i64 f := by intro h; injection h with _ h; exact e h
    rw [Maps.atKey_put_other hne, Maps.has_put_other hne, (hD g hg').1, (hD g hg').2]
    simp [e]
theorem BSet.del {w : World} {b : Nat} {L : List Int} (h : BSet w b L) {f : Int} (hf : (Lit.int .i64 f).wf = true) (hL : f ∈ L) (ty : TypeId) :
    ∃ w', (Builtin.delete_ #[70, 3] ty #[.map (some b), .int .i64 f]).run Try.prog w = .ok (.tuple #[]) w' ∧ BSet w' b (L.erase f) ∧ w.grownBy w' (some b) := by
  obtain ⟨hn, D, h, hs, hD⟩ := h
  obtain ⟨w', hrun, h', hg⟩ := h.drop law Try.underlying70 (keyI hf) ty
  have hsz : Maps.size (D.del (.int .i64 f)) = (L.erase f).length := by
    have := Maps.size_del (k := .int .i64 f) (h.tidy law)
    rw [(hD f hf).2, hs] at this
    rw [List.length_erase_of_mem hL]
    simp [hL] at this
    omega
  refine ⟨w', hrun, ⟨hn.erase f, _, by rw [← hsz]; exact ownsMap_size h', hsz, fun g hg' => ?_⟩, hg.grown⟩
  by_cases e : g = f
  · subst e
    rw [Maps.atKey_del_same, Maps.has_del_same]
    simp [hn.mem_erase_iff]
  · have hne : (Lit.int .i64 g) ≠ .int .i64 f := by intro h; injection h with _ h; exact e h
    rw [Maps.atKey_del_other hne, Maps.has_del_other hne, (hD g hg').1, (hD g hg').2]
    simp [hn.mem_erase_iff, e]
section
variable {ops : Array Oper} {rest : List Oper} {o : Oper} {a : Act} {Q : Exit → Act → World → Prop}
theorem wpList_bput (w : World) (hg : o.guard = none) (m x v : Operand) (hop : o.op = Op.mapUpdate 70 m x v) (b : Nat) (L : List Int) (f : Int)
    (hm : a.eval m = .map (some b)) (hx : a.eval x = .int .i64 f) (hv : a.eval v = .bool true) (h : BSet w b L) (hf : (Lit.int .i64 f).wf = true) (hL : f ∉ L) (hmax : L.length < maxLen)
    (hK : ∀ w', BSet w' b (f :: L) → w.grownBy w' (some b) → wpList Try.prog ops Q rest (a.put o.dst undef) w') : wpList Try.prog ops Q (o :: rest) a w := by
  refine wpList_plain hg fun K' hK' => ?_
  obtain ⟨w', hrun, r1, r2⟩ := h.put hf hL hmax
  unfold Oper.wp
  simp [execOp, hop, hm, hx, hv, hrun, Result.andThen]
  exact hK' _ _ (hK w' r1 r2)
end
end Go.Proofs.Ytbgagmpinekhpaa

/- Contracts of the stock: New, Free, Used, Taken, Take. -/
namespace Go.Proofs.Ytbgagmpinekhpaa
open Go.RowKit Go.Maps

def iv (x : Int) : Value := .int .i64 x
structure SV where
  first : Int
  next : Int
  end_ : Int
  given : List Int
  taken : List Int
def StockAt (w : World) (sb : Nat) (F : Nat → Prop) (s : SV) : Prop := ∃ v bm, Blk w sb 73 #[.int .i64 s.first, .int .i64 s.next, .int .i64 s.end_, v, .map (some bm)] ∧
  w.ownsRow 0 3 1 v s.given.length (s.given.map iv) ∧ BSet w bm s.taken ∧ F sb ∧ F bm ∧ (∀ g, v.ownBlock = some g → F g) ∧ (∀ g, F g → g < w.heap.size)
theorem StockAt.keeps {w w' : World} {sb : Nat} {F G : Nat → Prop} {s : SV} (h : StockAt w sb F s) (k : Keeps G w w') (hd : ∀ g, F g → ¬ G g) : StockAt w' sb F s := by
  obtain ⟨v, bm, h1, h2, h3, h4, h5, h6, h7⟩ := h
  exact ⟨v, bm, k.blk h1 (hd _ h4), k.row h2 (fun g hg => hd _ (h6 g hg)), h3.keeps k (hd _ h5), h4, h5, h6, fun g hg => Nat.lt_of_lt_of_le (h7 g hg) k.size⟩
theorem StockAt.bound {w : World} {sb : Nat} {F : Nat → Prop} {s : SV} (h : StockAt w sb F s) {g : Nat} (hg : F g) : g < w.heap.size := by
  obtain ⟨_, _, _, _, _, _, _, _, h7⟩ := h; exact h7 g hg

theorem frames_new_no (f n : Int) (W : World) (hf : (Lit.int .i64 f).wf = true) (h : ¬ (0 ≤ f ∧ f ≤ 1048576 ∧ 0 ≤ n ∧ n ≤ 1048576 - f)) :
    Calls Try.prog 7 #[.int .i64 f, .int .i64 n] W fun e w' => e = .returned (.tuple #[.pointer none, .int .i64 2]) ∧ W = w' := by
  have hfb := i64_of_wf hf
  by_cases h1 : f < 0
  · have e1 : decide (f < 0) = true := by simpa using h1
    clear h hf hfb h1
    go_enter Try.func7, Try.ntmps7
    go_wp2
    go_ret2
    exact ⟨rfl, rfl⟩
  have e1 : decide (f < 0) = false := by simpa using h1
  by_cases h2 : 1048576 < f
  · have e2 : decide (1048576 < f) = true := by simpa using h2
    clear h hf hfb h1 h2
    go_enter Try.func7, Try.ntmps7
    go_wp2
    go_ret2
    exact ⟨rfl, rfl⟩
  have e2 : decide (1048576 < f) = false := by simpa using h2
  by_cases h3 : n < 0
  · have e3 : decide (n < 0) = true := by simpa using h3
    clear h hf hfb h1 h2 h3
    go_enter Try.func7, Try.ntmps7
    go_wp2
    go_ret2
    exact ⟨rfl, rfl⟩
  have e3 : decide (n < 0) = false := by simpa using h3
  have e4 : decide (1048576 - f < n) = true := by simp; omega
  have f0 : 0 ≤ f := by omega
  have f1 : f ≤ 1048576 := by omega
  clear h hf hfb h1 h2 h3
  go_enter Try.func7, Try.ntmps7
  go_wp2
  go_ret2
  exact ⟨rfl, rfl⟩
theorem frames_new_yes (f n : Int) (W : World) (h1 : 0 ≤ f) (h2 : f ≤ 1048576) (h3 : 0 ≤ n) (h4 : n ≤ 1048576 - f) :
    Calls Try.prog 7 #[.int .i64 f, .int .i64 n] W fun e w' => e = .returned (.tuple #[.pointer (some ⟨W.heap.size + 1, 0, none⟩), .int .i64 0]) ∧
      StockAt w' (W.heap.size + 1) (fun g => g = W.heap.size ∨ g = W.heap.size + 1) ⟨f, f, f + n, [], []⟩ ∧ Below W.heap.size W w' := by
  have e1 : decide (f < 0) = false := by simp; omega
  have e2 : decide (1048576 < f) = false := by simp; omega
  have e3 : decide (n < 0) = false := by simp; omega
  have e4 : decide (1048576 - f < n) = false := by simp; omega
  have hmm := @run_makeMap Try.prog
  go_enter Try.func7, Try.ntmps7
  go_wp2
  go_ret2
  refine ⟨rfl, ⟨.slice none 0 0, W.heap.size, Blkf.new_at _ _ _ _ (by simp), World.ownsRow_nil _ _ _ _, (BSet.new W).keep (World.grownBy_alloc _ _ none) (by simp), .inr rfl, .inl rfl, fun g hg => by simp [Value.ownBlock] at hg, fun g hg => by simp; omega⟩, ?_⟩
  exact ((Below.refl _ W).alloc (Nat.le_refl _) _).alloc (by simp) _

theorem used_nil (W : World) : Calls Try.prog 22 #[.pointer none] W fun e w' => e = .returned (.int .i64 0) ∧ W = w' := by
  go_enter Try.func22, Try.ntmps22
  go_wp2
  go_ret
  exact ⟨rfl, rfl⟩
theorem take_nil (W : World) : Calls Try.prog 40 #[.pointer none] W fun e w' => e = .returned (.tuple #[.int .i64 (-1), .int .i64 1]) ∧ W = w' := by
  go_enter Try.func40, Try.ntmps40
  go_wp2
  go_ret2
  exact ⟨rfl, rfl⟩
theorem give_nil (f : Int) (W : World) : Calls Try.prog 42 #[.pointer none, .int .i64 f] W fun e w' => e = .returned (.int .i64 1) ∧ W = w' := by
  go_enter Try.func42, Try.ntmps42
  go_wp2
  go_ret
  exact ⟨rfl, rfl⟩

theorem used_any (sb : Nat) (F : Nat → Prop) (s : SV) (W : World) (h : StockAt W sb F s) :
    Calls Try.prog 22 #[.pointer (some ⟨sb, 0, none⟩)] W fun e w' => e = .returned (.int .i64 (s.taken.length : Int)) ∧ W = w' := by
  obtain ⟨v, bm, hb, _, hm, _⟩ := h
  have c4 : W.cell? ⟨sb, 4, none⟩ = some (.map (some bm)) := hb.cell 4
  have hl := fun ty => hm.len ty
  generalize s.taken.length = q at hl ⊢
  clear hb hm
  go_enter Try.func22, Try.ntmps22
  go_wp2
  go_ret
  exact ⟨rfl, rfl⟩
theorem row_slice {w : World} {base n : Nat} {e : TypeId} {v : Value} {xs : List Value} (h : w.ownsRow base e 1 v n xs) : ∃ A c, v = .slice A n c := by
  rcases h.2 with ⟨rfl, rfl⟩ | ⟨g, cap, _, rfl, _⟩
  · exact ⟨_, _, rfl⟩
  · exact ⟨_, _, rfl⟩
end Go.Proofs.Ytbgagmpinekhpaa

/- Contracts of the stock: Take, Give. -/
namespace Go.Proofs.Ytbgagmpinekhpaa
open Go.RowKit Go.Maps

theorem fwf {f : Int} (h : -9223372036854775808 ≤ f ∧ f ≤ 9223372036854775807) : (Lit.int .i64 f).wf = true := by
  simp [Lit.wf, IntKind.min, IntKind.max, IntKind.signed, IntKind.bits]; omega
def SV.pop (s : SV) (gs : List Int) (f : Int) : SV := ⟨s.first, s.next, s.end_, gs, f :: s.taken⟩
def SV.fresh (s : SV) : SV := ⟨s.first, s.next + 1, s.end_, s.given, s.next :: s.taken⟩
def SV.back (s : SV) (f : Int) : SV := ⟨s.first, s.next, s.end_, s.given ++ [f], s.taken.erase f⟩

theorem take_given (sb : Nat) (F : Nat → Prop) (s : SV) (gs : List Int) (f : Int) (W : World) (h : StockAt W sb F s) (hg : s.given = gs ++ [f]) (hf : (Lit.int .i64 f).wf = true) (hnt : f ∉ s.taken) (hmax : s.taken.length ≤ 1048576) (hlen : gs.length ≤ 1048576) :
    Calls Try.prog 40 #[.pointer (some ⟨sb, 0, none⟩)] W fun e w' => e = .returned (.tuple #[.int .i64 f, .int .i64 0]) ∧ StockAt w' sb F (s.pop gs f) ∧ Keeps F W w' := by
  obtain ⟨v, bm, hb, ho, hm, fs, fm, fv, fb⟩ := h
  rw [hg, List.length_append, List.map_append] at ho
  obtain ⟨g, cap, hv, _, hlt⟩ := ho.form (by simp)
  subst hv
  have hcap : gs.length ≤ cap := by
    rcases ho.2 with ⟨h0, _⟩ | ⟨g', cap', cur, h1, _, _, h3, _⟩
    · cases h0
    · injection h1 with _ _ h1; subst h1; simp at h3; omega
  have hcap2 : gs.length + 1 ≤ cap := by
    rcases ho.2 with ⟨h0, _⟩ | ⟨g', cap', cur, h1, _, _, h3, _⟩
    · cases h0
    · injection h1 with _ _ h1; subst h1; simpa using h3
  have c3 : W.cell? ⟨sb, 3, none⟩ = some (.slice (some ⟨g, 0, none⟩) (gs.length + 1) cap) := hb.cell 3
  have c4 : W.cell? ⟨sb, 4, none⟩ = some (.map (some bm)) := hb.cell 4
  have f3 := hb.frozen 3
  have cm : W.cell? ⟨g, gs.length, none⟩ = some (.int .i64 f) := by
    rw [ho.cellAt gs.length (by simp), List.getElem?_append_right (by simp)]; simp [iv]
  have hrow : W.ownsRow 0 3 1 (.slice (some ⟨g, 0, none⟩) gs.length cap) gs.length (gs.map iv) := ownsRow_pop (last := [f].map iv) (by simp) ho
  have nsb : g ≠ sb := fun e => row_ne_blk ho hb (by decide) (by simp [Value.ownBlock, e])
  have nbm : g ≠ bm := fun e => by
    obtain ⟨_, D, hD, _⟩ := hm
    exact row_ne_map ho hD (by simp [Value.ownBlock, e])
  have nms : bm ≠ sb := by
    obtain ⟨_, D, hD, _⟩ := hm
    exact map_ne_blk hD hb
  have K0 := (Keeps.refl (fun k => k = sb ∨ k = bm) W).setCell (p := ⟨sb, 3, none⟩) (.inl (.inl rfl)) (.slice (some ⟨g, 0, none⟩) gs.length cap)
  have HBS := Lib.hid (hm.keeps ((Keeps.refl (fun k => k = sb) W).setCell (p := ⟨sb, 3, none⟩) (.inl rfl) (.slice (some ⟨g, 0, none⟩) gs.length cap)) nms)
  have HB := Lib.hid hb
  have HR := Lib.hid hrow
  have HK := Lib.hid K0
  have HN := Lib.hid (And.intro nsb (And.intro nbm nms))
  have HF := Lib.hid (And.intro fs (And.intro fm (And.intro fv fb)))
  have HM := Lib.hid (show s.taken.length < maxLen by unfold maxLen; omega)
  have HNT := Lib.hid hnt
  have HW := Lib.hid hf
  clear ho hb hm hrow K0 fs fm fv fb hg hnt hf hmax nsb nbm nms
  go_enter Try.func40, Try.ntmps40
  go_wp2_with (at_mapUpdate; refine wpList_bput _ rfl _ _ _ rfl bm s.taken f rfl rfl rfl HBS.out HW.out HNT.out HM.out ?_; intro w1 hset hgrow; have HS := Lib.hid hset; have HG := Lib.hid hgrow; clear hset hgrow)
  go_ret2
  have K1 := HK.out.grown HG.out (fun k hk => by injection hk with hk; exact .inl (.inr hk.symm))
  obtain ⟨fs, fm, fv, fb⟩ := HF.out
  obtain ⟨nsb, nbm, nms⟩ := HN.out
  refine ⟨rfl, ⟨_, bm, (HB.out.set_ 3 _).grown HG.out (by intro e; injection e with e; exact nms e.symm), K1.row HR.out (fun k hk => by
    have : g = k := by simpa [Value.ownBlock] using hk
    subst this
    rintro (e | e)
    · exact nsb e
    · exact nbm e), HS.out, fs, fm, fun k hk => fv k (by simpa [Value.ownBlock] using hk), fun k hk => Nat.lt_of_lt_of_le (fb k hk) K1.size⟩, K1.mono (fun k hk => by rcases hk with rfl | rfl <;> assumption)⟩

theorem take_next (sb : Nat) (F : Nat → Prop) (s : SV) (W : World) (h : StockAt W sb F s) (hg : s.given = []) (h0 : 0 ≤ s.next) (h1 : s.next < s.end_) (h2 : s.end_ ≤ 1048576) (hnt : s.next ∉ s.taken) (hmax : s.taken.length ≤ 1048576) :
    Calls Try.prog 40 #[.pointer (some ⟨sb, 0, none⟩)] W fun e w' => e = .returned (.tuple #[.int .i64 s.next, .int .i64 0]) ∧ StockAt w' sb F s.fresh ∧ Keeps F W w' := by
  obtain ⟨v, bm, hb, ho, hm, fs, fm, fv, fb⟩ := h
  obtain ⟨A, c, rfl⟩ := row_slice ho
  have c1 : W.cell? ⟨sb, 1, none⟩ = some (.int .i64 s.next) := hb.cell 1
  have c2 : W.cell? ⟨sb, 2, none⟩ = some (.int .i64 s.end_) := hb.cell 2
  have c3 : W.cell? ⟨sb, 3, none⟩ = some (.slice A 0 c) := by rw [hb.cell 3, hg]; rfl
  have c4 : W.cell? ⟨sb, 4, none⟩ = some (.map (some bm)) := hb.cell 4
  have f1 := hb.frozen 1
  have hl := hb.lt
  have nms : bm ≠ sb := by
    obtain ⟨_, D, hD, _⟩ := hm
    exact map_ne_blk hD hb
  have nrow : ∀ k, (Value.slice A s.given.length c).ownBlock = some k → k ≠ sb ∧ k ≠ bm := fun k hk => ⟨fun e => row_ne_blk ho hb (by decide) (by rw [hk, e]), fun e => by
    obtain ⟨_, D, hD, _⟩ := hm
    exact row_ne_map ho hD (by rw [hk, e])⟩
  have K0 := ((Keeps.refl (fun k => k = sb ∨ k = bm) W).drew).setCell (p := ⟨sb, 1, none⟩) (.inl (.inl rfl)) (.int .i64 (s.next + 1))
  have HBS := Lib.hid (hm.keeps (((Keeps.refl (fun k => k = sb) W).drew).setCell (p := ⟨sb, 1, none⟩) (.inl rfl) (.int .i64 (s.next + 1))) nms)
  have HB := Lib.hid hb
  have HR := Lib.hid ho
  have HK := Lib.hid K0
  have HN := Lib.hid (And.intro nrow nms)
  have HF := Lib.hid (And.intro fs (And.intro fm (And.intro fv fb)))
  have HM := Lib.hid (show s.taken.length < maxLen by unfold maxLen; omega)
  have HNT := Lib.hid hnt
  have HW := Lib.hid (fwf (f := s.next) (by omega))
  have HV : Hid (s.fresh = s.fresh) := Lib.hid rfl
  have e1 : decide (s.next < s.end_) = true := by simpa using h1
  have h3 : s.next ≤ 1048576 := by omega
  have hw1 : IntKind.i64.wrap (s.next + 1) = s.next + 1 := IntWalk.i64_in _ (by omega)
  clear ho hb hm K0 fs fm fv fb hg hnt hmax nrow nms h1 h2
  go_enter Try.func40, Try.ntmps40
  go_wp2_with fail
  have s1 := fun W' (h : Ext W.drew W') => (h.cell (p := ⟨sb, 1, none⟩) hl).trans c1
  have s2 := fun W' (h : Ext W.drew W') => (h.cell (p := ⟨sb, 2, none⟩) hl).trans c2
  refine wp_region_plan [(0, false), (1, false), (2, false), (3, false), (4, false), (5, false), (6, false), (7, false), (8, false), (9, false)] (by kernel_rfl) (by kernel_rfl) (fun _ d _ _ _ h => by cases d <;> exact h) ?_
  iterate 10 (refine plan_take (v := ?_) rfl (by kernel_rfl) ?_ ?_; rotate_left; (focus (intro w' hw'; try go_simp; try with_reducible rfl)); simp only [Act.put, List.setIfInBounds_toArray, List.set_cons_zero, List.set_cons_succ])
  clear s1 s2
  refine plan_end ?_
  go_wp2_with (at_mapUpdate; refine wpList_bput _ rfl _ _ _ rfl bm s.taken s.next rfl rfl rfl HBS.out HW.out HNT.out HM.out ?_; intro w1 hset hgrow; have HS := Lib.hid hset; have HG := Lib.hid hgrow; clear hset hgrow)
  go_ret2
  have K1 := HK.out.grown HG.out (fun k hk => by injection hk with hk; exact .inl (.inr hk.symm))
  obtain ⟨fs, fm, fv, fb⟩ := HF.out
  obtain ⟨nrow, nms⟩ := HN.out
  refine ⟨rfl, ⟨_, bm, (HB.out.drew.set_ 1 _).grown HG.out (by intro e; injection e with e; exact nms e.symm), K1.row HR.out (fun k hk => by
    rintro (e | e)
    · exact (nrow k hk).1 e
    · exact (nrow k hk).2 e), HS.out, fs, fm, fv, fun k hk => Nat.lt_of_lt_of_le (fb k hk) K1.size⟩, K1.mono (fun k hk => by rcases hk with rfl | rfl <;> assumption)⟩

theorem take_full (sb : Nat) (F : Nat → Prop) (s : SV) (W : World) (h : StockAt W sb F s) (hg : s.given = []) (h1 : ¬ s.next < s.end_) :
    Calls Try.prog 40 #[.pointer (some ⟨sb, 0, none⟩)] W fun e w' => e = .returned (.tuple #[.int .i64 (-1), .int .i64 50]) ∧ StockAt w' sb F s ∧ Keeps F W w' := by
  have HST := Lib.hid h
  obtain ⟨v, bm, hb, ho, hm, fs, fm, fv, fb⟩ := h
  obtain ⟨A, c, rfl⟩ := row_slice ho
  have c1 : W.cell? ⟨sb, 1, none⟩ = some (.int .i64 s.next) := hb.cell 1
  have c2 : W.cell? ⟨sb, 2, none⟩ = some (.int .i64 s.end_) := hb.cell 2
  have c3 : W.cell? ⟨sb, 3, none⟩ = some (.slice A 0 c) := by rw [hb.cell 3, hg]; rfl
  have hl := hb.lt
  have e1 : decide (s.next < s.end_) = false := by simpa using h1
  clear ho hb hm fs fm fv fb hg h1
  go_enter Try.func40, Try.ntmps40
  go_wp2_with fail
  have s1 := fun W' (h : Ext W.drew W') => (h.cell (p := ⟨sb, 1, none⟩) hl).trans c1
  have s2 := fun W' (h : Ext W.drew W') => (h.cell (p := ⟨sb, 2, none⟩) hl).trans c2
  refine wp_region_plan [(0, false), (1, false), (2, false), (3, false), (4, false), (5, false), (6, false), (7, false), (8, false), (9, false)] (by kernel_rfl) (by kernel_rfl) (fun _ d _ _ _ h => by cases d <;> exact h) ?_
  iterate 10 (refine plan_take (v := ?_) rfl (by kernel_rfl) ?_ ?_; rotate_left; (focus (intro w' hw'; try go_simp; try with_reducible rfl)); simp only [Act.put, List.setIfInBounds_toArray, List.set_cons_zero, List.set_cons_succ])
  clear s1 s2
  refine plan_end ?_
  go_wp2
  go_ret2
  exact ⟨rfl, HST.out.keeps ((Keeps.refl (fun _ => False) W).drew) (fun _ _ h => h), (Keeps.refl F W).drew⟩
end Go.Proofs.Ytbgagmpinekhpaa

/- Contract of the stock's Give. -/
namespace Go.Proofs.Ytbgagmpinekhpaa
open Go.RowKit Go.Maps

section
variable {ops : Array Oper} {rest : List Oper} {o : Oper} {a : Act} {Q : Exit → Act → World → Prop}
theorem wpList_bdel (w : World) (hg : o.guard = none) (m x : Operand) (hop : o.op = Op.call { callee := Callee.builtin Builtin.delete, args := #[m, x], argTypes := #[70, 3] }) (b : Nat) (L : List Int) (f : Int)
    (hm : a.eval m = .map (some b)) (hx : a.eval x = .int .i64 f) (h : BSet w b L) (hf : (Lit.int .i64 f).wf = true) (hL : f ∈ L)
    (hK : ∀ w', BSet w' b (L.erase f) → w.grownBy w' (some b) → wpList Try.prog ops Q rest (a.put o.dst (.tuple #[])) w') : wpList Try.prog ops Q (o :: rest) a w := by
  refine wpList_plain hg fun K' hK' => ?_
  obtain ⟨w', hrun, r1, r2⟩ := h.del hf hL o.type
  unfold Oper.wp execOp
  simp only [hop, resolve, invoke, builtin, Sem.run_bind, Sem.run_pure, Result.andThen_ok, List.map_toArray, List.map_cons, List.map_nil, hm, hx, hrun]
  exact hK' _ _ (hK w' r1 r2)
end
theorem info3 : (Try.prog.info? 3).map (fun i => (i.zero, i.size, i.bytes)) = some (some (.int .i64 0), 1, 8) := by kernel_rfl
theorem reads_one (w : World) (t : TypeId) (u : Value) : Reads (w.alloc (.cells #[u] t)) (w.heap.size + 1) 1 (some ⟨w.heap.size, 0, none⟩) 1 [u] :=
  ⟨rfl, fun _ => ⟨_, rfl, Nat.lt_succ_self _, fun j v hj => by
    match j, hj with
    | 0, hj =>
      simp at hj
      subst hj
      show (w.alloc (.cells #[u] t)).cell? ⟨w.heap.size, 0, none⟩ = _
      rw [World.cell?_alloc_new]; rfl
    | j + 1, hj => simp at hj⟩⟩
theorem one_int (x : Int) : ∀ u ∈ [Value.int IntKind.i64 x], u.oneCell' = true := by
  intro u hu; simp at hu; subst hu; rfl

theorem give_none (sb : Nat) (F : Nat → Prop) (s : SV) (f : Int) (W : World) (h : StockAt W sb F s) (hf : (Lit.int .i64 f).wf = true) (hn : f ∉ s.taken) :
    Calls Try.prog 42 #[.pointer (some ⟨sb, 0, none⟩), .int .i64 f] W fun e w' => e = .returned (.int .i64 51) ∧ W = w' := by
  obtain ⟨v, bm, hb, _, hm, _⟩ := h
  have c4 : W.cell? ⟨sb, 4, none⟩ = some (.map (some bm)) := hb.cell 4
  have hl := hm.look hf
  rw [show decide (f ∈ s.taken) = false by simpa using hn] at hl
  clear hb hm hf hn
  go_enter Try.func42, Try.ntmps42
  go_wp2
  go_ret
  exact ⟨rfl, rfl⟩
/-- The stock after a step: its footprint may have grown by new blocks. -/
def StockTo (W : World) (sb : Nat) (F : Nat → Prop) (s : SV) (w' : World) : Prop := ∃ F', StockAt w' sb F' s ∧ (∀ k, F' k → F k ∨ W.heap.size ≤ k) ∧ Keeps F W w'
theorem give_ok (sb : Nat) (F : Nat → Prop) (s : SV) (f : Int) (W : World) (h : StockAt W sb F s) (hf : (Lit.int .i64 f).wf = true) (hn : f ∈ s.taken) (hlen : s.given.length ≤ 1048576) :
    Calls Try.prog 42 #[.pointer (some ⟨sb, 0, none⟩), .int .i64 f] W fun e w' => e = .returned (.int .i64 0) ∧ StockTo W sb F (s.back f) w' := by
  obtain ⟨v, bm, hb, ho, hm, fs, fm, fv, fb⟩ := h
  obtain ⟨i0, hi0, hz0, hz1, hz2⟩ := info_parts info3
  obtain ⟨A, c, rfl⟩ := row_slice ho
  have c4 : W.cell? ⟨sb, 4, none⟩ = some (.map (some bm)) := hb.cell 4
  have hl := hm.look hf
  rw [show decide (f ∈ s.taken) = true by simpa using hn] at hl
  have nms : bm ≠ sb := by
    obtain ⟨_, D, hD, _⟩ := hm
    exact map_ne_blk hD hb
  have nrow : ∀ k, (Value.slice A s.given.length c).ownBlock = some k → k ≠ sb ∧ k ≠ bm := fun k hk => ⟨fun e => row_ne_blk ho hb (by decide) (by rw [hk, e]), fun e => by
    obtain ⟨_, D, hD, _⟩ := hm
    exact row_ne_map ho hD (by rw [hk, e])⟩
  have HB := Lib.hid hb
  have HR := Lib.hid ho
  have HM := Lib.hid hm
  have HN := Lib.hid (And.intro nrow nms)
  have HF := Lib.hid (And.intro fs (And.intro fm (And.intro fv fb)))
  have HNT := Lib.hid hn
  have HW := Lib.hid hf
  have hsl := hb.lt
  clear ho hb hm fs fm fv fb hn hf nrow nms
  go_enter Try.func42, Try.ntmps42
  go_wp2_with (first
    | (at_delete; refine wpList_bdel _ rfl _ _ rfl bm s.taken f rfl rfl HM.out HW.out HNT.out ?_; intro w1 hset hgrow; have hb1 := HB.out.grown hgrow (by intro e; injection e with e; exact HN.out.2 e.symm); have c13 : w1.cell? ⟨sb, 3, none⟩ = some (.slice A s.given.length c) := hb1.cell 3; have K1 := (Keeps.refl (fun k => k = sb ∨ k = bm) W).grown hgrow (fun k hk => by injection hk with hk; exact .inl (.inr hk.symm)); have HO1 := Lib.hid (K1.row HR.out (fun k hk => by rintro (e | e); exact (HN.out.1 k hk).1 e; exact (HN.out.1 k hk).2 e)); have HS1 := Lib.hid hset; have HK1 := Lib.hid K1; have HB1 := Lib.hid hb1; have hsz1 : W.heap.size ≤ w1.heap.size := K1.size; clear hset hgrow hb1 K1 hl c4)
    | (at_builtin; refine wpList_append_any _ rfl (.tmp 25) (.tmp 27) _ rfl 0 3 i0 _ 1 8 Try.underlying71 hi0 hz0 hz1 hz2 rfl (by decide) _ s.given.length (s.given.map iv) rfl (HO1.out.alloc _) (w1.heap.size + 1) (some ⟨w1.heap.size, 0, none⟩) 1 1 [.int .i64 f] rfl (reads_one _ _ _) (one_int _) (by unfold maxLen; omega) (by omega) (Nat.zero_le _) ?_; intro v2 w2 hown hgrow hat; obtain ⟨g2, cap2, hv2e, _, _⟩ := hown.form (by omega); subst hv2e; have hb2 := (HB1.out.alloc (.cells #[.int .i64 f] 3)).grown hgrow (fun e => (HN.out.1 sb e.symm).1 rfl); have c23 : w2.cell? ⟨sb, 3, none⟩ = some (.slice A s.given.length c) := hb2.cell 3; have f23 := hb2.frozen 3; have HO2 := Lib.hid hown; have HG2 := Lib.hid hgrow; have HB2 := Lib.hid hb2; have HAT := Lib.hid hat; clear hown hgrow hb2 hat c13))
  go_ret
  obtain ⟨fs, fm, fv, fb⟩ := HF.out
  obtain ⟨nrow, nms⟩ := HN.out
  have hg2 := HG2.out
  have hs2 : w1.heap.size + 1 ≤ w2.heap.size := by have := hg2.size; simpa using this
  have K2 : Keeps F W w2 := ((HK1.out.mono (fun k hk => by rcases hk with rfl | rfl <;> assumption)).alloc _).grown hg2 (fun k hk => .inl (fv k hk))
  have K3 : Keeps F W (w2.setCell ⟨sb, 3, none⟩ (Value.slice (some ⟨g2, 0, none⟩) (s.given.length + 1) cap2)) := K2.setCell (.inl fs) _
  have hat := HAT.out
  have hv2 : ∀ k, (Value.slice (some ⟨g2, 0, none⟩) (s.given.length + 1) cap2).ownBlock = some k → F k ∨ W.heap.size ≤ k := fun k hk => by
    rcases hat with e | e
    · rw [e] at hk; exact .inl (fv k hk)
    · rw [e] at hk; simp at hk; omega
  have hv2s : (Value.slice (some ⟨g2, 0, none⟩) (s.given.length + 1) cap2).ownBlock ≠ some sb := by
    rcases hat with e | e
    · rw [e]; exact fun h => (nrow sb h).1 rfl
    · rw [e]; simp; omega
  have hv2m : (Value.slice (some ⟨g2, 0, none⟩) (s.given.length + 1) cap2).ownBlock ≠ some bm := by
    rcases hat with e | e
    · rw [e]; exact fun h => (nrow bm h).2 rfl
    · rw [e]; have := fb bm fm; simp; omega
  have hown : (w2.setCell ⟨sb, 3, none⟩ (Value.slice (some ⟨g2, 0, none⟩) (s.given.length + 1) cap2)).ownsRow 0 3 1 (Value.slice (some ⟨g2, 0, none⟩) (s.given.length + 1) cap2) (s.back f).given.length ((s.back f).given.map iv) := by
    have := ownsRow_setCell_other HO2.out (a := ⟨sb, 3, none⟩) hv2s (Value.slice (some ⟨g2, 0, none⟩) (s.given.length + 1) cap2)
    simpa [SV.back, iv] using this
  have hbm2 : BSet (w2.setCell ⟨sb, 3, none⟩ (Value.slice (some ⟨g2, 0, none⟩) (s.given.length + 1) cap2)) bm (s.taken.erase f) := by
    have k1 : Keeps (fun k => some k = (Value.slice A s.given.length c).ownBlock ∨ k = sb) w1 (w2.setCell ⟨sb, 3, none⟩ (Value.slice (some ⟨g2, 0, none⟩) (s.given.length + 1) cap2)) :=
      (((Keeps.refl _ w1).alloc _).grown hg2 (fun k hk => .inl (.inl hk.symm))).setCell (.inl (.inr rfl)) _
    refine HS1.out.keeps k1 ?_
    rintro (e | e)
    · exact (nrow bm e.symm).2 rfl
    · exact nms e
  refine ⟨rfl, fun k => F k ∨ (W.heap.size ≤ k ∧ k < w2.heap.size), ⟨(Value.slice (some ⟨g2, 0, none⟩) (s.given.length + 1) cap2), bm, HB2.out.set_ 3 _, hown, hbm2, .inl fs, .inl fm, fun k hk => ?_, fun k hk => ?_⟩, fun k hk => hk.imp id (·.1), K3⟩
  · rcases hv2 k hk with h | h
    · exact .inl h
    · exact .inr ⟨h, (HO2.out.lt k hk).2⟩
  · have := K2.size
    rcases hk with h | h
    · have := fb k h; simp; omega
    · simpa using h.2
end Go.Proofs.Ytbgagmpinekhpaa
