/- Words of a slice, of any parameters. -/
import Derived.Test.YtmnpakfihfjfiaaWalkI
import Derived.Test.YtmnpakfihfjfiaaORows
namespace Go.Proofs.Ytmnpakfihfjfiaa
open Go.RowKit

theorem WdAt.below {W W' : World} {A : Option Addr} {ws : List (Nat × Nat)} (h : WdAt W A ws) (hb : Below W.heap.size W W') : WdAt W' A ws := fun hne => by
  obtain ⟨b, o, e, hl, hc⟩ := h hne
  refine ⟨b, o, e, Nat.lt_of_lt_of_le hl hb.size, fun k x hx => ?_⟩
  obtain ⟨h1, h2, h3⟩ := hc k x hx
  exact ⟨(hb.cell (p := ⟨b, _, none⟩) hl).trans h1, (hb.cell (p := ⟨b, _, none⟩) hl).trans h2, h3⟩
theorem wl_pick {α : Type} : ∀ (n : Nat) (P : Nat → α → Prop), (∀ i, i < n → ∃ x, P i x) → ∃ l : List α, l.length = n ∧ ∀ i, i < n → ∃ x, l[i]? = some x ∧ P i x
  | 0, P, h => ⟨[], rfl, fun i hi => by omega⟩
  | n + 1, P, h => by
    obtain ⟨l, hl, hp⟩ := wl_pick n P (fun i hi => h i (by omega))
    obtain ⟨x, hx⟩ := h n (by omega)
    refine ⟨l ++ [x], by simp [hl], fun i hi => ?_⟩
    rcases Nat.lt_or_ge i n with h1 | h1
    · obtain ⟨y, hy, hpy⟩ := hp i h1
      exact ⟨y, by rw [List.getElem?_append_left (by omega)]; exact hy, hpy⟩
    · obtain rfl : i = n := by omega
      exact ⟨x, by rw [List.getElem?_append_right (by omega), hl, Nat.sub_self]; rfl, hx⟩
theorem wd_of_rows {w : World} {a : Option Addr} {len cap : Nat} (h : IsRows [.int .u64, .int .u64] w a len cap) : ∃ ws, len = ws.length ∧ WdAt w a ws := by
  rcases h with ⟨rfl, rfl, rfl⟩ | ⟨x, rfl, hl, hm, hc⟩
  · exact ⟨[], rfl, fun h => absurd rfl h⟩
  · rcases Nat.eq_zero_or_pos len with rfl | hp
    · exact ⟨[], rfl, fun h => absurd rfl h⟩
    · obtain ⟨v0, h0, _⟩ := hc 0 (by omega) 0 _ rfl
      obtain ⟨b, o, spot⟩ := x
      have hspot : spot = none := by simpa [Addr.add] using World.cell?_spot h0
      subst hspot
      have ea : ∀ k, (⟨b, o, none⟩ : Addr).add k = ⟨b, o + k, none⟩ := fun k => by unfold Addr.add; split <;> simp_all
      have hb : b < w.heap.size := by rw [ea] at h0; exact World.block_lt_of_cell? _ _ h0
      have hn : ∀ i, i < len → ∃ x : Nat × Nat, w.cell? ⟨b, o + i * 2, none⟩ = some (.int .u64 (x.1 : Int)) ∧ w.cell? ⟨b, o + i * 2 + 1, none⟩ = some (.int .u64 (x.2 : Int)) ∧ x.1 < 18446744073709551616 ∧ x.2 < 18446744073709551616 := fun i hi => by
        obtain ⟨v, hv, z, rfl, hz⟩ := hc i (by omega) 0 _ rfl
        obtain ⟨v', hv', z', rfl, hz'⟩ := hc i (by omega) 1 _ rfl
        rw [ea] at hv hv'
        obtain ⟨z, rfl⟩ := Int.eq_ofNat_of_zero_le (u64_of_wf hz).1
        obtain ⟨z', rfl⟩ := Int.eq_ofNat_of_zero_le (u64_of_wf hz').1
        have l1 := (u64_of_wf hz).2
        have l2 := (u64_of_wf hz').2
        exact ⟨(z, z'), by simpa using hv, by simpa [Nat.add_assoc] using hv', by omega, by omega⟩
      obtain ⟨ws, hwl, hws⟩ := wl_pick len _ hn
      refine ⟨ws, hwl.symm, fun _ => ⟨b, o, rfl, hb, fun k x hx => ?_⟩⟩
      have hk : k < len := by rw [← hwl]; exact (List.getElem?_eq_some_iff.1 hx).1
      obtain ⟨y, hy, hc⟩ := hws k hk
      rw [hx] at hy
      injection hy with hy
      subst hy
      exact hc
theorem rows_len {ks : List LK} {w : World} {a : Option Addr} {len cap : Nat} (h : IsRows ks w a len cap) (hc : 16 * cap ≤ 140737488351232) : len ≤ 9223372036854775807 := by
  rcases h with ⟨_, h, _⟩ | ⟨x, _, h, _⟩ <;> omega
end Go.Proofs.Ytmnpakfihfjfiaa
