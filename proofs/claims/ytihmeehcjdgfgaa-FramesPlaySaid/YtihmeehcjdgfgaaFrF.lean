/- Plain: what holds of a stock; Take in one contract. -/
import Derived.Test.YtihmeehcjdgfgaaFrE
namespace Go.Proofs.Ytihmeehcjdgfgaa
open Go.RowKit Go.Maps

structure OKs (s : SV) (b n : Int) : Prop where
  first : s.first = b
  b0 : 0 ≤ b ∧ b ≤ 255
  n0 : 0 ≤ n ∧ n ≤ 255
  end_ : s.end_ = b + n
  lo : b ≤ s.next
  hi : s.next ≤ s.end_
  gn : s.given.Nodup
  gr : ∀ f, f ∈ s.given → b ≤ f ∧ f < s.next ∧ f ∉ s.taken
  tr : ∀ f, f ∈ s.taken → b ≤ f ∧ f < s.next
  tn : s.taken.Nodup
  len : (s.given.length : Int) + (s.taken.length : Int) = s.next - b
theorem OKs.new (b n : Int) (h : 0 ≤ b ∧ b ≤ 255) (h2 : 0 ≤ n ∧ n ≤ 255) : OKs ⟨b, b, b + n, [], []⟩ b n :=
  ⟨rfl, h, h2, rfl, by simp, by show b ≤ b + n; omega, by simp, by simp, by simp, by simp, by simp⟩
theorem OKs.pop {s : SV} {b n : Int} {gs : List Int} {f : Int} (h : OKs s b n) (hg : s.given = gs ++ [f]) : OKs (s.pop gs f) b n ∧ f ∉ s.taken ∧ b ≤ f ∧ f < b + n := by
  have hf := h.gr f (by rw [hg]; simp)
  have hgn := h.gn
  rw [hg, List.nodup_append] at hgn
  have hlen := h.len
  rw [hg, List.length_append] at hlen
  have := h.hi
  have := h.end_
  refine ⟨⟨h.first, h.b0, h.n0, h.end_, h.lo, h.hi, hgn.1, fun g hgm => ?_, fun g hgm => ?_, List.nodup_cons.2 ⟨hf.2.2, h.tn⟩, ?_⟩, hf.2.2, hf.1, by omega⟩
  · have hg2 := h.gr g (by rw [hg]; simp [show g ∈ gs from hgm])
    refine ⟨hg2.1, hg2.2.1, fun hc => ?_⟩
    rcases List.mem_cons.1 hc with e | hc
    · exact hgn.2.2 g hgm f (by simp) e
    · exact hg2.2.2 hc
  · rcases List.mem_cons.1 hgm with e | hc
    · subst e; exact ⟨hf.1, hf.2.1⟩
    · exact h.tr g hc
  · show (gs.length : Int) + ((f :: s.taken).length : Int) = s.next - b
    simp at hlen ⊢; omega
theorem OKs.fresh {s : SV} {b n : Int} (h : OKs s b n) (hlt : s.next < s.end_) : OKs s.fresh b n ∧ s.next ∉ s.taken ∧ b ≤ s.next ∧ s.next < b + n := by
  have hnt : s.next ∉ s.taken := fun hc => by have := h.tr _ hc; omega
  have := h.lo
  have := h.end_
  have hlen := h.len
  refine ⟨⟨h.first, h.b0, h.n0, h.end_, by show b ≤ s.next + 1; omega, by show s.next + 1 ≤ s.end_; omega, h.gn, fun g hg => ?_, fun g hg => ?_, List.nodup_cons.2 ⟨hnt, h.tn⟩, ?_⟩, hnt, h.lo, by omega⟩
  · have hg2 := h.gr g hg
    refine ⟨hg2.1, by show g < s.next + 1; omega, fun hc => ?_⟩
    rcases List.mem_cons.1 hc with e | hc
    · omega
    · exact hg2.2.2 hc
  · show b ≤ g ∧ g < s.next + 1
    rcases List.mem_cons.1 hg with e | hc
    · subst e; omega
    · have := h.tr g hc; omega
  · show (s.given.length : Int) + ((s.next :: s.taken).length : Int) = s.next + 1 - b
    simp at hlen ⊢; omega
theorem OKs.back {s : SV} {b n : Int} {f : Int} (h : OKs s b n) (hf : f ∈ s.taken) : OKs (s.back f) b n := by
  have hr := h.tr f hf
  have hlen := h.len
  have hng : f ∉ s.given := fun hc => (h.gr f hc).2.2 hf
  have hpos : 0 < s.taken.length := List.length_pos_of_mem hf
  refine ⟨h.first, h.b0, h.n0, h.end_, h.lo, h.hi, ?_, fun g hg => ?_, fun g hg => h.tr g (List.mem_of_mem_erase hg), h.tn.erase f, ?_⟩
  · show (s.given ++ [f]).Nodup
    rw [List.nodup_append]
    exact ⟨h.gn, by simp, fun a ha b hb => by simp at hb; subst hb; exact fun e => hng (e ▸ ha)⟩
  · have hg' : g ∈ s.given ++ [f] := hg
    show b ≤ g ∧ g < s.next ∧ g ∉ s.taken.erase f
    rw [h.tn.mem_erase_iff]
    rcases List.mem_append.1 hg' with hc | hc
    · have := h.gr g hc
      exact ⟨this.1, this.2.1, fun hx => this.2.2 hx.2⟩
    · simp at hc
      subst hc
      exact ⟨hr.1, hr.2, fun hx => hx.1 rfl⟩
  · show ((s.given ++ [f]).length : Int) + ((s.taken.erase f).length : Int) = s.next - b
    rw [List.length_erase_of_mem hf]
    simp
    omega
theorem OKs.sizes {s : SV} {b n : Int} (h : OKs s b n) : (s.given.length : Int) + s.taken.length ≤ n ∧ s.given.length ≤ 255 ∧ s.taken.length ≤ 255 := by
  have := h.len
  have := h.hi
  have := h.end_
  have := h.n0
  omega

/-- What Take does. -/
def TakeP (sb : Nat) (F : Nat → Prop) (s : SV) (b n : Int) (W : World) (e : Ending) (w' : World) : Prop :=
  (∃ f s', e = .returned (.tuple #[.int .i64 f, .int .i64 0]) ∧ StockAt w' sb F s' ∧ Keeps F W w' ∧ OKs s' b n ∧ f ∉ s.taken ∧ s'.taken = f :: s.taken ∧ b ≤ f ∧ f < b + n ∧ (s.taken.length : Int) < n) ∨
  (e = .returned (.tuple #[.int .i64 (-1), .int .i64 50]) ∧ StockAt w' sb F s ∧ Keeps F W w' ∧ (s.taken.length : Int) = n)
theorem take_any (sb : Nat) (F : Nat → Prop) (s : SV) (b n : Int) (W : World) (h : StockAt W sb F s) (ok : OKs s b n) :
    Calls Try.prog 9 #[.pointer (some ⟨sb, 0, none⟩)] W (TakeP sb F s b n W) := by
  have hsz := ok.sizes
  have hb0 := ok.b0
  have hn0 := ok.n0
  have he := ok.end_
  have hlo := ok.lo
  have hhi := ok.hi
  have hlen := ok.len
  rcases List.eq_nil_or_concat s.given with hg | ⟨gs, f, hg⟩
  · by_cases hlt : s.next < s.end_
    · obtain ⟨ok', hnt, h1, h2⟩ := ok.fresh hlt
      refine (take_next sb F s W h hg (by omega) hlt (by omega) hnt (by omega)).mono ?_
      rintro e w' ⟨rfl, hs, hk⟩
      rw [hg] at hlen
      exact .inl ⟨s.next, s.fresh, rfl, hs, hk, ok', hnt, rfl, h1, h2, by simp at hlen; omega⟩
    · refine (take_full sb F s W h hg hlt).mono ?_
      rintro e w' ⟨rfl, hs, hk⟩
      rw [hg] at hlen
      exact .inr ⟨rfl, hs, hk, by simp at hlen; omega⟩
  · rw [List.concat_eq_append] at hg
    obtain ⟨ok', hnt, h1, h2⟩ := ok.pop hg
    have hgl : gs.length + 1 = s.given.length := by rw [hg]; simp
    refine (take_given sb F s gs f W h hg (fwf (by omega)) hnt (by omega) (by omega)).mono ?_
    rintro e w' ⟨rfl, hs, hk⟩
    exact .inl ⟨f, s.pop gs f, rfl, hs, hk, ok', hnt, rfl, h1, h2, by omega⟩
end Go.Proofs.Ytihmeehcjdgfgaa
