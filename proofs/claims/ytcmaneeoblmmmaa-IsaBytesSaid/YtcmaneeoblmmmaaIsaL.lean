/- isa.Bytes. -/
import Derived.Test.YtcmaneeoblmmmaaIsaG
import Derived.Test.YtcmaneeoblmmmaaByte
import Derived.Test.YtcmaneeoblmmmaaORows
import Derived.Test.YtcmaneeoblmmmaaSep
namespace Go.Proofs.Ytcmaneeoblmmmaa
open Go.RowKit

/-- The number in a cell. -/
def numAt (w : World) (b o : Nat) : Int := match w.cell? ⟨b, o, none⟩ with
  | some (.int _ x) => x
  | _ => 0
/-- A slice of instructions: number j of instruction i is V i j. -/
def Code (w : World) (b o n : Nat) (V : Nat → Nat → Int) : Prop := b < w.heap.size ∧ ∀ i, i < n → ∀ j, j < 5 → w.cell? ⟨b, o + i * 5 + j, none⟩ = some (.int .i64 (V i j))
theorem code_of {w : World} {a : Option Addr} {len cap : Nat} (h : IsRows [.int .i64, .int .i64, .int .i64, .int .i64, .int .i64] w a len cap) (hp : 0 < len) : ∃ b o V, a = some ⟨b, o, none⟩ ∧ Code w b o len V := by
  rcases h with ⟨_, rfl, _⟩ | ⟨x, rfl, hl, hm, hc⟩
  · omega
  · obtain ⟨v, h0, _⟩ := hc 0 (by omega) 0 _ rfl
    obtain ⟨b, o, spot⟩ := x
    have hspot : spot = none := by simpa [Addr.add] using World.cell?_spot h0
    subst hspot
    have ea : ∀ k, (⟨b, o, none⟩ : Addr).add k = ⟨b, o + k, none⟩ := fun k => by unfold Addr.add; split <;> simp_all
    rw [ea] at h0
    refine ⟨b, o, fun i j => numAt w b (o + (i * 5 + j)), rfl, World.block_lt_of_cell? _ _ h0, fun i hi j hj => ?_⟩
    have hk : ([LK.int .i64, .int .i64, .int .i64, .int .i64, .int .i64] : List LK)[j]? = some (.int .i64) := by
      rcases (show j = 0 ∨ j = 1 ∨ j = 2 ∨ j = 3 ∨ j = 4 by omega) with rfl | rfl | rfl | rfl | rfl <;> rfl
    obtain ⟨u, h1, y, rfl, _⟩ := hc i (by omega) j _ hk
    rw [ea] at h1
    have h1' : w.cell? ⟨b, o + (i * 5 + j), none⟩ = some (.int .i64 y) := h1
    rw [show o + i * 5 + j = o + (i * 5 + j) by omega, h1']
    have : numAt w b (o + (i * 5 + j)) = y := by unfold numAt; rw [h1']
    show _ = some (Value.int .i64 (numAt w b (o + (i * 5 + j))))
    rw [this]
theorem row_slice {w : World} {base n : Nat} {e : TypeId} {v : Value} {xs : List Value} (h : w.ownsRow base e 1 v n xs) : ∃ A c, v = .slice A n c := by
  rcases h.2 with ⟨rfl, rfl⟩ | ⟨g, cap, _, rfl, _⟩
  · exact ⟨_, _, rfl⟩
  · exact ⟨_, _, rfl⟩
def rightV (V : Nat → Nat → Int) (i : Nat) : Bool := rightB (V i 0) (V i 1) (V i 2) (V i 3) (V i 4)
def putV (V : Nat → Nat → Int) (i : Nat) : Int := putI (V i 0) (V i 1) (V i 2) (V i 3) (V i 4)
def codeB (V : Nat → Nat → Int) : Nat → List Nat
  | 0 => []
  | n + 1 => codeB V n ++ Wd.bytesOf (putV V n).toNat 4
theorem codeB_length (V : Nat → Nat → Int) : ∀ n, (codeB V n).length = 4 * n
  | 0 => rfl
  | n + 1 => by rw [codeB, List.length_append, codeB_length V n, show ((4 : Int)) = ((4 : Nat) : Int) from rfl, Wd.bytesOf_length _ 4 rfl]; omega
theorem Code.cells {w : World} {b o n : Nat} {V : Nat → Nat → Int} (h : Code w b o n V) {k : Nat} (hk : k < n) : w.cell? ⟨b, o + k * 5, none⟩ = some (.int .i64 (V k 0)) ∧ w.cell? ⟨b, o + k * 5 + 1, none⟩ = some (.int .i64 (V k 1)) ∧ w.cell? ⟨b, o + k * 5 + 2, none⟩ = some (.int .i64 (V k 2)) ∧ w.cell? ⟨b, o + k * 5 + 3, none⟩ = some (.int .i64 (V k 3)) ∧ w.cell? ⟨b, o + k * 5 + 4, none⟩ = some (.int .i64 (V k 4)) :=
  ⟨h.2 k hk 0 (by omega), h.2 k hk 1 (by omega), h.2 k hk 2 (by omega), h.2 k hk 3 (by omega), h.2 k hk 4 (by omega)⟩
theorem Code.below {w w' : World} {b o n : Nat} {V : Nat → Nat → Int} (h : Code w b o n V) {B : Nat} (hb : Below B w w') (hB : b < B) : Code w' b o n V :=
  ⟨Nat.lt_of_lt_of_le h.1 hb.size, fun i hi j hj => (hb.cell (p := ⟨b, o + i * 5 + j, none⟩) hB).trans (h.2 i hi j hj)⟩
def BytesRel (W : World) (V : Nat → Nat → Int) (n : Nat) (v i : Value) (wr : World) : Prop := ∃ k : Nat, k ≤ n ∧ i = .int .i64 k ∧ (∀ j, j < k → rightV V j = true) ∧ wr.ownsRow W.heap.size 5 1 v (4 * k) ((codeB V k).map Wd.bv) ∧ Below W.heap.size W wr

set_option maxHeartbeats 4000000 in
theorem ibytes_any (b o n c : Nat) (V : Nat → Nat → Int) (W : World) (hC : Code W b o n V) (hn : n ≤ 200) :
    Calls Try.prog 18 #[.slice (some ⟨b, o, none⟩) n c] W fun e w' => Below W.heap.size W w' ∧ ((∀ i, i < n → rightV V i = true) ∧ (∃ v, e = .returned (.tuple #[v, .int .i64 0]) ∧ w'.ownsRow W.heap.size 5 1 v (4 * n) ((codeB V n).map Wd.bv)) ∨
      (∃ m, m < n ∧ rightV V m = false) ∧ e = .returned (.tuple #[.slice none 0 0, .int .i64 2])) := by
  obtain ⟨i0, hi0, hz0, hz1, hz2⟩ := info_parts Wd.info5
  have HC := Lib.hid hC
  clear hC
  go_enter Try.func18, Try.ntmps18
  go_wp2_with fail
  go_loopw [4, 11] (fun v i wr => BytesRel W V n v i wr) (fun _ i _ => n - (intOf i).toNat)
  case atStart => exact ⟨0, by omega, rfl, fun j hj => by omega, World.ownsRow_nil _ _ _ _, Below.refl _ _⟩
  case round =>
    obtain ⟨k, hk, rfl, hall, ho, hbw⟩ := hrel
    obtain ⟨Av, cv, hv⟩ := row_slice ho
    subst hv
    have HO := Lib.hid ho
    have HW := Lib.hid hbw
    have HA := Lib.hid hall
    have hbl := HC.out.1
    clear ho hbw hall
    by_cases hkl : k < n
    · obtain ⟨c0, c1, c2, c3, c4⟩ := (HC.out.below HW.out hbl).cells hkl
      have hbr : b < wr.heap.size := Nat.lt_of_lt_of_le hbl HW.out.size
      cases hr : rightV V k
      · have HR := Lib.hid hr
        clear hr
        go_wp2_with fail
        refine (put_no _ _ _ _ _ _ HR.out).mono ?_
        rintro e w2 ⟨rfl, hb2⟩
        have HB2 := Lib.hid hb2
        clear hb2
        go_wp2
        go_ret2
        exact ⟨below_step HW.out (Keeps.of_below (F := fun _ => False) ((Below.refl _ wr).alloc (Nat.le_refl _) _ |>.trans (HB2.out.mono (by simp)))) (fun _ h => h.elim) HW.out.size, .inr ⟨⟨k, hkl, HR.out⟩, rfl⟩⟩
      · have HR := Lib.hid hr
        have hpv := (put_get _ _ _ _ _ hr).2.2
        have hpn : ((putV V k).toNat : Int) = putV V k := by have := hpv.1; unfold putV; omega
        have HP : Hid ((putV V k).toNat < 4294967296) := Lib.hid (by have := hpv; unfold putV; omega)
        clear hr hpv
        go_wp2_with fail
        refine (put_yes _ _ _ _ _ _ HR.out).mono ?_
        rintro e w2 ⟨rfl, hb2⟩
        rw [show putI (V k 0) (V k 1) (V k 2) (V k 3) (V k 4) = putV V k from rfl, ← hpn]
        have HB2 := Lib.hid hb2
        clear hb2 hpn
        have hpl := HP.out
        generalize hpz : (putV V k).toNat = pz at hpl
        have HPZ := Lib.hid hpz
        clear hpz
        go_wp2_with fail
        refine (Wd.bytes_any pz 4 _ (by omega)).mono ?_
        rintro e w3 ⟨A3, c3', rfl, hB3, hA3, hb3⟩
        have hl4 : (Wd.bytesOf pz 4).length = 4 := Wd.bytesOf_length _ 4 rfl
        rw [hl4]
        have b2 := ((Below.refl _ wr).alloc (Nat.le_refl _) (.cells #[.int .i64 (V k 0), .int .i64 (V k 1), .int .i64 (V k 2), .int .i64 (V k 3), .int .i64 (V k 4)] 24)).trans (HB2.out.mono (by simp))
        have b3 := b2.trans (hb3.mono b2.size)
        have HO3 := Lib.hid (Wd.own_below HO.out b3)
        have HK3 := Lib.hid b3
        have HR3 : Hid (Reads w3 w3.heap.size 1 A3 4 ((Wd.bytesOf pz 4).map Wd.bv)) := Lib.hid (by have := Wd.reads_bts hB3; rw [hl4] at this; exact this)
        have hsz3 : W.heap.size ≤ w3.heap.size := Nat.le_trans HW.out.size b3.size
        clear b2 b3 hb3 hA3 hB3 hl4
        go_wp2_with (at_builtin; go_loud (refine wpList_append_any _ rfl (.tmp 23) (.tmp 26) _ rfl W.heap.size 5 i0 _ 1 1 Try.underlying43 hi0 hz0 hz1 hz2 rfl (by decide) _ (4 * k) ((codeB V k).map Wd.bv) rfl HO3.out _ _ 4 c3' ((Wd.bytesOf pz 4).map Wd.bv) rfl HR3.out (Wd.one_bv _) (by unfold maxLen; omega) (by omega) hsz3 ?_; intro v4 w4 hown hgrow hat; have HOWN := Lib.hid hown; have HG := Lib.hid hgrow; clear hown hgrow hat))
        go_roundw
        case rel =>
          have hb4 : Below W.heap.size W w4 := below_step (below_step HW.out (Keeps.of_below (F := fun _ => False) HK3.out) (fun _ h => h.elim) HW.out.size) ((Keeps.refl (fun g => W.heap.size ≤ g) w3).grown HG.out (fun g hg => .inl (HO3.out.lt g hg).1)) (fun g hg => hg) hsz3
          refine ⟨k + 1, hkl, by go_num, fun j hj => ?_, ?_, hb4⟩
          · rcases Nat.lt_or_ge j k with h | h
            · exact HA.out j h
            · obtain rfl : j = k := by omega
              exact HR.out
          · have := HOWN.out
            rw [codeB, HPZ.out, List.map_append, show 4 * (k + 1) = 4 * k + 4 by omega]
            exact this
        case measure => simp [intOf]; omega
    · obtain rfl : k = n := by omega
      go_wp2
      go_ret2
      exact ⟨HW.out, .inl ⟨HA.out, _, rfl, HO.out⟩⟩
end Go.Proofs.Ytcmaneeoblmmmaa
