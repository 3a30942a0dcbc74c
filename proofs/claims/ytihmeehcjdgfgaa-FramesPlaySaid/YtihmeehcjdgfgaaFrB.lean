/- Contracts of the stock: New, Free, Used, Taken, Take. -/
import Derived.Test.YtihmeehcjdgfgaaFrA
import Derived.IntWalk
namespace Go.Proofs.Ytihmeehcjdgfgaa
open Go.RowKit Go.Maps

def iv (x : Int) : Value := .int .i64 x
structure SV where
  first : Int
  next : Int
  end_ : Int
  given : List Int
  taken : List Int
def StockAt (w : World) (sb : Nat) (F : Nat → Prop) (s : SV) : Prop := ∃ v bm, Blk w sb 46 #[.int .i64 s.first, .int .i64 s.next, .int .i64 s.end_, v, .map (some bm)] ∧
  w.ownsRow 0 3 1 v s.given.length (s.given.map iv) ∧ BSet w bm s.taken ∧ F sb ∧ F bm ∧ (∀ g, v.ownBlock = some g → F g) ∧ (∀ g, F g → g < w.heap.size)
theorem StockAt.keeps {w w' : World} {sb : Nat} {F G : Nat → Prop} {s : SV} (h : StockAt w sb F s) (k : Keeps G w w') (hd : ∀ g, F g → ¬ G g) : StockAt w' sb F s := by
  obtain ⟨v, bm, h1, h2, h3, h4, h5, h6, h7⟩ := h
  exact ⟨v, bm, k.blk h1 (hd _ h4), k.row h2 (fun g hg => hd _ (h6 g hg)), h3.keeps k (hd _ h5), h4, h5, h6, fun g hg => Nat.lt_of_lt_of_le (h7 g hg) k.size⟩
theorem StockAt.bound {w : World} {sb : Nat} {F : Nat → Prop} {s : SV} (h : StockAt w sb F s) {g : Nat} (hg : F g) : g < w.heap.size := by
  obtain ⟨_, _, _, _, _, _, _, _, h7⟩ := h; exact h7 g hg

theorem new_no (f n : Int) (W : World) (hf : (Lit.int .i64 f).wf = true) (h : ¬ (0 ≤ f ∧ f ≤ 1048576 ∧ 0 ≤ n ∧ n ≤ 1048576 - f)) :
    Calls Try.prog 7 #[.int .i64 f, .int .i64 n] W fun e w' => e = .returned (.tuple #[.pointer none, .int .i64 2]) ∧ W = w' := by
  have hfb := i64_of_wf hf
  by_cases h1 : f < 0
  · have e1 : decide (f < 0) = true := by simpa using h1
    clear h hf hfb h1
    go_enter Try.func7, Try.ntmps7
    go_wp2
    go_ret2
    exact ⟨rfl, rfl⟩
  have e1 : decide (f < 0) = false := by simpa using h1
  by_cases h2 : 1048576 < f
  · have e2 : decide (1048576 < f) = true := by simpa using h2
    clear h hf hfb h1 h2
    go_enter Try.func7, Try.ntmps7
    go_wp2
    go_ret2
    exact ⟨rfl, rfl⟩
  have e2 : decide (1048576 < f) = false := by simpa using h2
  by_cases h3 : n < 0
  · have e3 : decide (n < 0) = true := by simpa using h3
    clear h hf hfb h1 h2 h3
    go_enter Try.func7, Try.ntmps7
    go_wp2
    go_ret2
    exact ⟨rfl, rfl⟩
  have e3 : decide (n < 0) = false := by simpa using h3
  have e4 : decide (1048576 - f < n) = true := by simp; omega
  have f0 : 0 ≤ f := by omega
  have f1 : f ≤ 1048576 := by omega
  clear h hf hfb h1 h2 h3
  go_enter Try.func7, Try.ntmps7
  go_wp2
  go_ret2
  exact ⟨rfl, rfl⟩
theorem new_yes (f n : Int) (W : World) (h1 : 0 ≤ f) (h2 : f ≤ 1048576) (h3 : 0 ≤ n) (h4 : n ≤ 1048576 - f) :
    Calls Try.prog 7 #[.int .i64 f, .int .i64 n] W fun e w' => e = .returned (.tuple #[.pointer (some ⟨W.heap.size + 1, 0, none⟩), .int .i64 0]) ∧
      StockAt w' (W.heap.size + 1) (fun g => g = W.heap.size ∨ g = W.heap.size + 1) ⟨f, f, f + n, [], []⟩ ∧ Below W.heap.size W w' := by
  have e1 : decide (f < 0) = false := by simp; omega
  have e2 : decide (1048576 < f) = false := by simp; omega
  have e3 : decide (n < 0) = false := by simp; omega
  have e4 : decide (1048576 - f < n) = false := by simp; omega
  have hmm := @run_makeMap Try.prog
  go_enter Try.func7, Try.ntmps7
  go_wp2
  go_ret2
  refine ⟨rfl, ⟨.slice none 0 0, W.heap.size, Blkf.new_at _ _ _ _ (by simp), World.ownsRow_nil _ _ _ _, (BSet.new W).keep (World.grownBy_alloc _ _ none) (by simp), .inr rfl, .inl rfl, fun g hg => by simp [Value.ownBlock] at hg, fun g hg => by simp; omega⟩, ?_⟩
  exact ((Below.refl _ W).alloc (Nat.le_refl _) _).alloc (by simp) _

theorem free_nil (W : World) : Calls Try.prog 13 #[.pointer none] W fun e w' => e = .returned (.int .i64 0) ∧ W = w' := by
  go_enter Try.func13, Try.ntmps13
  go_wp2
  go_ret
  exact ⟨rfl, rfl⟩
theorem used_nil (W : World) : Calls Try.prog 14 #[.pointer none] W fun e w' => e = .returned (.int .i64 0) ∧ W = w' := by
  go_enter Try.func14, Try.ntmps14
  go_wp2
  go_ret
  exact ⟨rfl, rfl⟩
theorem taken_nil (f : Int) (W : World) : Calls Try.prog 15 #[.pointer none, .int .i64 f] W fun e w' => e = .returned (.bool false) ∧ W = w' := by
  go_enter Try.func15, Try.ntmps15
  go_wp2
  go_ret
  exact ⟨rfl, rfl⟩
theorem take_nil (W : World) : Calls Try.prog 9 #[.pointer none] W fun e w' => e = .returned (.tuple #[.int .i64 (-1), .int .i64 1]) ∧ W = w' := by
  go_enter Try.func9, Try.ntmps9
  go_wp2
  go_ret2
  exact ⟨rfl, rfl⟩
theorem give_nil (f : Int) (W : World) : Calls Try.prog 11 #[.pointer none, .int .i64 f] W fun e w' => e = .returned (.int .i64 1) ∧ W = w' := by
  go_enter Try.func11, Try.ntmps11
  go_wp2
  go_ret
  exact ⟨rfl, rfl⟩

theorem taken_any (sb : Nat) (F : Nat → Prop) (s : SV) (f : Int) (W : World) (h : StockAt W sb F s) (hf : (Lit.int .i64 f).wf = true) :
    Calls Try.prog 15 #[.pointer (some ⟨sb, 0, none⟩), .int .i64 f] W fun e w' => e = .returned (.bool (decide (f ∈ s.taken))) ∧ W = w' := by
  obtain ⟨v, bm, hb, _, hm, _⟩ := h
  have c4 : W.cell? ⟨sb, 4, none⟩ = some (.map (some bm)) := hb.cell 4
  have hl := hm.look hf
  generalize decide (f ∈ s.taken) = q at hl ⊢
  clear hb hm hf
  go_enter Try.func15, Try.ntmps15
  go_wp2
  go_ret
  exact ⟨rfl, rfl⟩
theorem used_any (sb : Nat) (F : Nat → Prop) (s : SV) (W : World) (h : StockAt W sb F s) :
    Calls Try.prog 14 #[.pointer (some ⟨sb, 0, none⟩)] W fun e w' => e = .returned (.int .i64 (s.taken.length : Int)) ∧ W = w' := by
  obtain ⟨v, bm, hb, _, hm, _⟩ := h
  have c4 : W.cell? ⟨sb, 4, none⟩ = some (.map (some bm)) := hb.cell 4
  have hl := fun ty => hm.len ty
  generalize s.taken.length = q at hl ⊢
  clear hb hm
  go_enter Try.func14, Try.ntmps14
  go_wp2
  go_ret
  exact ⟨rfl, rfl⟩
theorem row_slice {w : World} {base n : Nat} {e : TypeId} {v : Value} {xs : List Value} (h : w.ownsRow base e 1 v n xs) : ∃ A c, v = .slice A n c := by
  rcases h.2 with ⟨rfl, rfl⟩ | ⟨g, cap, _, rfl, _⟩
  · exact ⟨_, _, rfl⟩
  · exact ⟨_, _, rfl⟩
theorem free_any (sb : Nat) (F : Nat → Prop) (s : SV) (W : World) (h : StockAt W sb F s) (h0 : 0 ≤ s.next) (h1 : s.next ≤ s.end_) (h2 : s.end_ ≤ 1048576) (h3 : s.given.length ≤ 1048576) :
    Calls Try.prog 13 #[.pointer (some ⟨sb, 0, none⟩)] W fun e w' => e = .returned (.int .i64 (s.end_ - s.next + (s.given.length : Int))) ∧ W.drew = w' := by
  obtain ⟨v, bm, hb, ho, _⟩ := h
  obtain ⟨A, c, rfl⟩ := row_slice ho
  have c1 : W.cell? ⟨sb, 1, none⟩ = some (.int .i64 s.next) := hb.cell 1
  have c2 : W.cell? ⟨sb, 2, none⟩ = some (.int .i64 s.end_) := hb.cell 2
  have c3 : W.cell? ⟨sb, 3, none⟩ = some (.slice A s.given.length c) := hb.cell 3
  have hl := hb.lt
  generalize s.next = nx at *
  generalize s.end_ = en at *
  generalize s.given.length = gl at *
  have w1 : IntKind.i64.wrap (en - nx) = en - nx := IntWalk.i64_in _ (by omega)
  have w2 : IntKind.i64.wrap (en - nx + (gl : Int)) = en - nx + (gl : Int) := IntWalk.i64_in _ (by omega)
  clear hb ho h0 h1 h2 h3
  go_enter Try.func13, Try.ntmps13
  go_wp2_with fail
  have s1 := fun W' (h : Ext W.drew W') => (h.cell (p := ⟨sb, 1, none⟩) hl).trans c1
  have s2 := fun W' (h : Ext W.drew W') => (h.cell (p := ⟨sb, 2, none⟩) hl).trans c2
  have s3 := fun W' (h : Ext W.drew W') => (h.cell (p := ⟨sb, 3, none⟩) hl).trans c3
  refine wp_region_plan [(0, false), (1, false), (2, false), (3, false), (4, false), (5, false), (6, false), (7, false), (8, false), (9, false), (10, false), (11, false), (12, false), (13, false), (14, false), (15, false)] (by kernel_rfl) (by kernel_rfl) (fun _ d _ _ _ h => by cases d <;> exact h) ?_
  iterate 16 (refine plan_take (v := ?_) rfl (by kernel_rfl) ?_ ?_; rotate_left; (focus (intro w' hw'; go_simp; try with_reducible rfl)); simp only [Act.put, List.setIfInBounds_toArray, List.set_cons_zero, List.set_cons_succ])
  clear s1 s2 s3
  refine plan_end ?_
  go_wp2
  go_ret
  exact ⟨rfl, rfl⟩
end Go.Proofs.Ytihmeehcjdgfgaa
