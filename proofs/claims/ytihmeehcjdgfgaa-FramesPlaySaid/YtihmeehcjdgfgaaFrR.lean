/- FramesPlay: the stock and the document's stock, step by step. -/
import Derived.Test.YtihmeehcjdgfgaaFrQ
namespace Go.Proofs.Ytihmeehcjdgfgaa
open Go.RowKit Go.Maps

/-- The numbers a, a + 1, .. up to e. -/
def restL (a e : Int) : List Int := freshL a (e - a).toNat
theorem restL_length {a e : Int} (h : a ≤ e) : ((restL a e).length : Int) = e - a := by rw [restL, freshL_length]; omega
theorem freshL_cons (f : Int) (k : Nat) : freshL f (k + 1) = f :: freshL (f + 1) k := by
  unfold freshL
  rw [List.range_succ_eq_map, List.map_cons, List.map_map]
  congr 1
  · simp
  · apply List.map_congr_left
    intro i _
    simp
    omega
theorem restL_cons {a e : Int} (h : a < e) : restL a e = a :: restL (a + 1) e := by
  unfold restL
  rw [show (e - a).toNat = (e - (a + 1)).toNat + 1 by omega, freshL_cons]
theorem restL_nil {a e : Int} (h : ¬ a < e) : restL a e = [] := by
  unfold restL
  rw [show (e - a).toNat = 0 by omega]; rfl
/-- Both stocks are the same. -/
structure Mt (s : SV) (L T : List Int) : Prop where
  l : L = s.given.reverse ++ restL s.next s.end_
  nd : T.Nodup
  mem : ∀ f, f ∈ T ↔ f ∈ s.taken
theorem Mt.tlen {s : SV} {L T : List Int} {b n : Int} (h : Mt s L T) (ok : OKs s b n) : T.length = s.taken.length := ((List.perm_ext_iff_of_nodup h.nd ok.tn).2 h.mem).length_eq
theorem Mt.llen {s : SV} {L T : List Int} {b n : Int} (h : Mt s L T) (ok : OKs s b n) : (L.length : Int) = s.end_ - s.next + (s.given.length : Int) := by
  have := restL_length ok.hi
  rw [h.l, List.length_append, List.length_reverse]
  omega
structure Both (w : World) (B sb xb : Nat) (b n : Int) (F G : Nat → Prop) (s : SV) (L T : List Int) : Prop where
  st : StockAt w sb F s
  ref : RefAt w xb G L T
  ok : OKs s b n
  mt : Mt s L T
  dis : ∀ g, F g → ¬ G g
  fl : ∀ g, F g → B ≤ g
  gl : ∀ g, G g → B ≤ g
  base : B ≤ w.heap.size
theorem Both.small {w : World} {B sb xb : Nat} {b n : Int} {F G : Nat → Prop} {s : SV} {L T : List Int} (h : Both w B sb xb b n F G s L T) : L.length ≤ 1048576 ∧ T.length ≤ 1048576 := by
  have := h.ok.sizes
  have := h.mt.tlen h.ok
  have := h.mt.llen h.ok
  have := h.ok.end_
  have := h.ok.lo
  have := h.ok.hi
  have := h.ok.n0
  omega
theorem Both.drew {w : World} {B sb xb : Nat} {b n : Int} {F G : Nat → Prop} {s : SV} {L T : List Int} (h : Both w B sb xb b n F G s L T) : Both w.drew B sb xb b n F G s L T :=
  ⟨h.st.keeps ((Keeps.refl (fun _ => False) w).drew) (fun _ _ h => h), h.ref.keeps ((Keeps.refl (fun _ => False) w).drew) (fun _ _ h => h), h.ok, h.mt, h.dis, h.fl, h.gl, h.base⟩
/-- The stock has taken its step; the document's stock has not. -/
structure Half (w w' : World) (B sb xb : Nat) (b n : Int) (F F' G : Nat → Prop) (s' : SV) (L T : List Int) : Prop where
  st : StockAt w' sb F' s'
  ref : RefAt w' xb G L T
  ok : OKs s' b n
  dis : ∀ g, F' g → ¬ G g
  fl : ∀ g, F' g → B ≤ g
  gl : ∀ g, G g → B ≤ g
  base : B ≤ w'.heap.size
  keep : Keeps F w w'
theorem Both.half {w w' : World} {B sb xb : Nat} {b n : Int} {F F' G : Nat → Prop} {s s' : SV} {L T : List Int} (h : Both w B sb xb b n F G s L T) (hs : StockAt w' sb F' s') (hF : ∀ k, F' k → F k ∨ w.heap.size ≤ k) (hk : Keeps F w w') (ok : OKs s' b n) : Half w w' B sb xb b n F F' G s' L T := by
  have hG : ∀ g, G g → g < w.heap.size := by obtain ⟨_, _, _, _, _, _, _, _, _, h⟩ := h.ref; exact h
  refine ⟨hs, h.ref.keeps hk (fun g hg hf => h.dis g hf hg), ok, fun g hf hg => ?_, fun g hf => ?_, h.gl, Nat.le_trans h.base hk.size, hk⟩
  · rcases hF g hf with h1 | h1
    · exact h.dis g h1 hg
    · have := hG g hg; omega
  · rcases hF g hf with h1 | h1
    · exact h.fl g h1
    · have := h.base; omega
theorem Half.both {w w' w'' : World} {B sb xb : Nat} {b n : Int} {F F' G : Nat → Prop} {s' : SV} {L L' T T' : List Int} (h : Half w w' B sb xb b n F F' G s' L T) (hr : RefTo w' xb G L' T' w'') (mt : Mt s' L' T') : ∃ G', Both w'' B sb xb b n F' G' s' L' T' ∧ Keeps (fun g => B ≤ g) w' w'' := by
  obtain ⟨G', hr', hG', hk⟩ := hr
  refine ⟨G', ⟨h.st.keeps hk h.dis, hr', h.ok, mt, fun g hf hg => ?_, h.fl, fun g hg => ?_, Nat.le_trans h.base hk.size⟩, hk.mono h.gl⟩
  · rcases hG' g hg with h1 | h1
    · exact h.dis g hf h1
    · have := h.st.bound hf; omega
  · rcases hG' g hg with h1 | h1
    · exact h.gl g h1
    · have := h.base; omega
theorem Half.same {w w' : World} {B sb xb : Nat} {b n : Int} {F F' G : Nat → Prop} {s' : SV} {L T : List Int} (h : Half w w' B sb xb b n F F' G s' L T) (mt : Mt s' L T) : Both w' B sb xb b n F' G s' L T := ⟨h.st, h.ref, h.ok, mt, h.dis, h.fl, h.gl, h.base⟩
theorem OKs.wf {s : SV} {b n : Int} (h : OKs s b n) {f : Int} (h1 : b ≤ f) (h2 : f < b + n) : (Lit.int .i64 f).wf = true := fwf (by have := h.b0; have := h.n0; omega)

/-- Take of both. -/
theorem play_take {w : World} {B sb xb : Nat} {b n : Int} {F G : Nat → Prop} {s : SV} {L T : List Int} (h : Both w B sb xb b n F G s L T) :
    (∃ f L', L = f :: L' ∧ Calls Try.prog 9 #[.pointer (some ⟨sb, 0, none⟩)] w fun e w' => e = .returned (.tuple #[.int .i64 f, .int .i64 0]) ∧ ∃ s', Half w w' B sb xb b n F F G s' L T ∧ Mt s' L' (T ++ [f])) ∨
    (L = [] ∧ Calls Try.prog 9 #[.pointer (some ⟨sb, 0, none⟩)] w fun e w' => e = .returned (.tuple #[.int .i64 (-1), .int .i64 50]) ∧ Half w w' B sb xb b n F F G s L T) := by
  have ok := h.ok
  have hsz := ok.sizes
  have hb0 := ok.b0
  have hn0 := ok.n0
  have he := ok.end_
  have hlo := ok.lo
  have hhi := ok.hi
  have mt := h.mt
  have mem : ∀ {f : Int}, f ∉ s.taken → ∀ x, x ∈ T ++ [f] ↔ x ∈ f :: s.taken := fun {f} _ x => by simp [mt.mem x, or_comm]
  have nd : ∀ {f : Int}, f ∉ s.taken → (T ++ [f]).Nodup := fun {f} hf => by
    rw [List.nodup_append]
    exact ⟨mt.nd, by simp, fun a ha b hb => by simp at hb; subst hb; exact fun e => hf ((mt.mem _).1 (e ▸ ha))⟩
  rcases List.eq_nil_or_concat s.given with hg | ⟨gs, f, hg⟩
  · by_cases hlt : s.next < s.end_
    · obtain ⟨ok', hnt, h1, h2⟩ := ok.fresh hlt
      refine .inl ⟨s.next, restL (s.next + 1) s.end_, by rw [mt.l, hg, restL_cons hlt]; rfl, ?_⟩
      refine (take_next sb F s w h.st hg (by omega) hlt (by omega) hnt (by omega)).mono ?_
      rintro e w' ⟨rfl, hs, hk⟩
      exact ⟨rfl, s.fresh, h.half hs (fun k hk => .inl hk) hk ok', ⟨by simp [SV.fresh, hg], nd hnt, mem hnt⟩⟩
    · refine .inr ⟨by rw [mt.l, hg, restL_nil hlt]; rfl, ?_⟩
      refine (take_full sb F s w h.st hg hlt).mono ?_
      rintro e w' ⟨rfl, hs, hk⟩
      exact ⟨rfl, h.half hs (fun k hk => .inl hk) hk ok⟩
  · rw [List.concat_eq_append] at hg
    obtain ⟨ok', hnt, h1, h2⟩ := ok.pop hg
    have hgl : gs.length + 1 = s.given.length := by rw [hg]; simp
    refine .inl ⟨f, gs.reverse ++ restL s.next s.end_, by rw [mt.l, hg]; simp, ?_⟩
    refine (take_given sb F s gs f w h.st hg (ok.wf h1 h2) hnt (by omega) (by omega)).mono ?_
    rintro e w' ⟨rfl, hs, hk⟩
    exact ⟨rfl, s.pop gs f, h.half hs (fun k hk => .inl hk) hk ok', ⟨rfl, nd hnt, mem hnt⟩⟩
theorem mt_back {s : SV} {L T : List Int} {b n f : Int} (mt : Mt s L T) (ok : OKs s b n) : Mt (s.back f) (f :: L) (T.filter (· != f)) :=
  ⟨by rw [mt.l]; simp [SV.back], mt.nd.sublist List.filter_sublist, fun x => by simp [SV.back, mt.mem x, ok.tn.mem_erase_iff, and_comm]⟩
end Go.Proofs.Ytihmeehcjdgfgaa
