/- Contract of isa.Right. -/
import Derived.Test.YtcmaneeoblmmmaaIsaA
namespace Go.Proofs.Ytcmaneeoblmmmaa
open Go.RowKit

def partB (r : Int) (h : Bool) (n : Nat) : Bool := !((r != 0 && !h) || (decide (n < 3) && (decide (r < 0) || decide (15 < r))))
def partsB (k : Nat) (d s t i : Int) : Nat → Bool
  | 0 => partB d (uD k) 0
  | 1 => partB s (uS k) 1
  | 2 => partB t (uT k) 2
  | _ => partB i (uI k) 3
def rightK (k : Nat) (d s t i : Int) : Bool := (k != 10) && decide (-2048 ≤ i) && decide (i ≤ 2047) && partsB k d s t i 0 && partsB k d s t i 1 && partsB k d s t i 2 && partsB k d s t i 3
def rightB (o d s t i : Int) : Bool := rightK (kd o) d s t i
theorem rightK_no {k : Nat} {d s t i : Int} {n : Nat} (hn : n < 4) (h : partsB k d s t i n = false) : rightK k d s t i = false := by
  unfold rightK
  rcases (show n = 0 ∨ n = 1 ∨ n = 2 ∨ n = 3 by omega) with rfl | rfl | rfl | rfl <;> simp [h]
theorem ks_ne (k : Nat) (hk : k < 10) : (ks k).toList ≠ [] := by
  rcases (show k = 0 ∨ k = 1 ∨ k = 2 ∨ k = 3 ∨ k = 4 ∨ k = 5 ∨ k = 6 ∨ k = 7 ∨ k = 8 ∨ k = 9 by omega) with rfl | rfl | rfl | rfl | rfl | rfl | rfl | rfl | rfl | rfl <;> simp [ks, ByteArray.toList_mk]

set_option maxHeartbeats 8000000 in
theorem right_any (o d s t i : Int) (W : World) :
    Calls Try.prog 10 #[.agg #[.int .i64 o, .int .i64 d, .int .i64 s, .int .i64 t, .int .i64 i]] W fun e w' => e = .returned (.bool (rightB o d s t i)) ∧ Below W.heap.size W w' := by
  unfold rightB
  have key : ∀ k, kd o = k → Calls Try.prog 10 #[.agg #[.int .i64 o, .int .i64 d, .int .i64 s, .int .i64 t, .int .i64 i]] W fun e w' => e = .returned (.bool (rightK k d s t i)) ∧ Below W.heap.size W w' := by
    intro k hk
    have HK := Lib.hid hk
    clear hk
    by_cases h10 : k = 10
    · subst h10
      go_enter Try.func10, Try.ntmps10
      go_wp2_with fail
      refine (kind_any _ _).mono ?_
      rintro e w' ⟨rfl, rfl⟩
      rw [HK.out, show ks 10 = ⟨#[]⟩ from rfl]
      have hE : ((⟨#[]⟩ : ByteArray).toList == []) = true := by rw [ByteArray.toList_mk]; rfl
      go_wp2
      go_ret
      exact ⟨rfl, by go_grown⟩
    · have h9 : k < 10 := by
        have h := HK.out
        unfold kd at h
        split at h
        · rename_i hr
          have := kd_lt hr.1 hr.2
          unfold kd at this
          rw [if_pos hr] at this
          omega
        · omega
      have H9 := Lib.hid h9
      clear h9 h10
      by_cases hi : i < -2048 ∨ 2047 < i
      · have hno : rightK k d s t i = false := by
          unfold rightK
          rcases hi with h | h
          · have : decide (-2048 ≤ i) = false := by simp; omega
            simp [this]
          · have : decide (i ≤ 2047) = false := by simp; omega
            simp [this]
        rw [hno]
        clear hno
        have HI := Lib.hid hi
        clear hi
        go_enter Try.func10, Try.ntmps10
        go_wp2_with fail
        refine (kind_any _ _).mono ?_
        rintro e w' ⟨rfl, rfl⟩
        rw [HK.out]
        have hE1 : ((ks k).toList == []) = false := by simpa using ks_ne k H9.out
        have hE2 : (ks k).toList.isEmpty = false := by simpa using ks_ne k H9.out
        by_cases hl : i < -2048
        · go_wp2
          go_ret
          exact ⟨rfl, by go_grown⟩
        · have hg : 2047 < i := by have := HI.out; omega
          have hl' : decide (i < -2048) = false := by simp; omega
          clear hl
          go_wp2
          go_ret
          exact ⟨rfl, by go_grown⟩
      · have h1 : -2048 ≤ i := by omega
        have h2 : i ≤ 2047 := by omega
        clear hi
        have hfin : rightK k d s t i = (partsB k d s t i 0 && partsB k d s t i 1 && partsB k d s t i 2 && partsB k d s t i 3) := by
          have h9 := H9.out
          have e1 : (k != 10) = true := by rw [bne_iff_ne]; omega
          unfold rightK
          simp [e1, h1, h2]
        have HF := Lib.hid hfin
        have HX := Lib.hid (And.intro h1 h2)
        have g1 : decide (i < -2048) = false := by simp; omega
        have g2 : decide (2047 < i) = false := by simp; omega
        clear hfin h1 h2
        go_enter Try.func10, Try.ntmps10
        go_wp2_with fail
        refine (kind_any _ _).mono ?_
        rintro e w' ⟨rfl, rfl⟩
        rw [HK.out]
        have hE1 : ((ks k).toList == []) = false := by simpa using ks_ne k H9.out
        have hE2 : (ks k).toList.isEmpty = false := by simpa using ks_ne k H9.out
        go_wp2_with fail
        refine (has_any k _ H9.out).mono ?_
        rintro e w' ⟨rfl, rfl⟩
        clear hE1 hE2 g1 g2
        go_wp2_with fail
        refine wp_world (fun W3 hW3 => ?_)
        have hm : Blk W3 (W.heap.size + 2) 50 #[.bool (uD k), .bool (uS k), .bool (uT k), .bool (uI k)] := by rw [hW3]; exact Blkf.new_at _ _ _ _ (by simp)
        have hb : Below W.heap.size W W3 := by rw [hW3]; go_grown
        have HM := Lib.hid hm
        have HB := Lib.hid hb
        clear hm hb hW3
        go_loop [33] (fun c => ∃ n : Nat, n ≤ 4 ∧ c = .int .i64 n ∧ ∀ j, j < n → partsB k d s t i j = true) (fun c => 4 - (intOf c).toNat)
        case atStart => exact ⟨0, by omega, rfl, fun j hj => by omega⟩
        case round =>
          obtain ⟨n, hn, rfl, hall⟩ := hrel
          have HA := Lib.hid hall
          clear hall
          rcases (show n = 4 ∨ n = 0 ∨ n = 1 ∨ n = 2 ∨ n = 3 by omega) with rfl | rfl | rfl | rfl | rfl
          · clear hn
            go_wp2
            go_ret
            refine ⟨?_, HB.out⟩
            have ha := HA.out
            rw [HF.out, ha 0 (by decide), ha 1 (by decide), ha 2 (by decide), ha 3 (by decide)]
            rfl
          · clear hn
            have ix : ∀ W' : World, (Instr.index 52 (.agg #[.int .i64 d, .int .i64 s, .int .i64 t, .int .i64 i]) (.int .i64 0)).run Try.prog W' = .ok (.int .i64 d) W' := fun W' => run_index_arr W' _ _ 4 _ .i64 0 _ Try.underlying52 (by kernel_rfl) (by kernel_rfl) (by decide) rfl
            have hc : W3.cell? ⟨W.heap.size + 2, 0, none⟩ = some (.bool (uD k)) := HM.out.cell 0
            by_cases hz : d = 0
            · have hp : partsB k d s t i 0 = true := by simp [partsB, partB, hz]
              have HP := Lib.hid hp
              have e0 : (d != 0) = false := by simp [hz]
              have e1 : decide (d < 0) = false := by simp; omega
              have e2 : decide (15 < d) = false := by simp; omega
              clear hz hp hc
              go_wp2
              go_round
              case rel => exact ⟨0 + 1, by omega, rfl, fun j hj => by
                rcases Nat.lt_or_ge j 0 with h | h
                · exact HA.out j h
                · obtain rfl : j = 0 := by omega
                  exact HP.out⟩
              case measure => simp [intOf]
            · have e0 : (d != 0) = true := by rw [bne_iff_ne]; exact hz
              cases hu : uD k
              · rw [hu] at hc
                have hp : partsB k d s t i 0 = false := by simp [partsB, partB, hu, hz]
                have HP := Lib.hid hp
                clear hp hz hu
                go_wp2
                go_ret
                exact ⟨by rw [rightK_no (n := 0) (by decide) HP.out]; rfl, HB.out⟩
              · rw [hu] at hc
                by_cases hlt : d < 0
                · have hp : partsB k d s t i 0 = false := by simp [partsB, partB, hu, hlt]
                  have HP := Lib.hid hp
                  have e1 : decide (d < 0) = true := by simpa using hlt
                  clear hp hz hu hlt
                  go_wp2
                  go_ret
                  exact ⟨by rw [rightK_no (n := 0) (by decide) HP.out]; rfl, HB.out⟩
                · by_cases hgt : 15 < d
                  · have hp : partsB k d s t i 0 = false := by simp [partsB, partB, hu, hgt]
                    have HP := Lib.hid hp
                    have e1 : decide (d < 0) = false := by simpa using hlt
                    have e2 : decide (15 < d) = true := by simpa using hgt
                    clear hp hz hu hlt hgt
                    go_wp2
                    go_ret
                    exact ⟨by rw [rightK_no (n := 0) (by decide) HP.out]; rfl, HB.out⟩
                  · have hp : partsB k d s t i 0 = true := by simp [partsB, partB, hu]; omega
                    have HP := Lib.hid hp
                    have e1 : decide (d < 0) = false := by simpa using hlt
                    have e2 : decide (15 < d) = false := by simpa using hgt
                    clear hp hz hu hlt hgt
                    go_wp2
                    go_round
                    case rel => exact ⟨0 + 1, by omega, rfl, fun j hj => by
                      rcases Nat.lt_or_ge j 0 with h | h
                      · exact HA.out j h
                      · obtain rfl : j = 0 := by omega
                        exact HP.out⟩
                    case measure => simp [intOf]
          · clear hn
            have ix : ∀ W' : World, (Instr.index 52 (.agg #[.int .i64 d, .int .i64 s, .int .i64 t, .int .i64 i]) (.int .i64 1)).run Try.prog W' = .ok (.int .i64 s) W' := fun W' => run_index_arr W' _ _ 4 _ .i64 1 _ Try.underlying52 (by kernel_rfl) (by kernel_rfl) (by decide) rfl
            have hc : W3.cell? ⟨W.heap.size + 2, 1, none⟩ = some (.bool (uS k)) := HM.out.cell 1
            by_cases hz : s = 0
            · have hp : partsB k d s t i 1 = true := by simp [partsB, partB, hz]
              have HP := Lib.hid hp
              have e0 : (s != 0) = false := by simp [hz]
              have e1 : decide (s < 0) = false := by simp; omega
              have e2 : decide (15 < s) = false := by simp; omega
              clear hz hp hc
              go_wp2
              go_round
              case rel => exact ⟨1 + 1, by omega, rfl, fun j hj => by
                rcases Nat.lt_or_ge j 1 with h | h
                · exact HA.out j h
                · obtain rfl : j = 1 := by omega
                  exact HP.out⟩
              case measure => simp [intOf]
            · have e0 : (s != 0) = true := by rw [bne_iff_ne]; exact hz
              cases hu : uS k
              · rw [hu] at hc
                have hp : partsB k d s t i 1 = false := by simp [partsB, partB, hu, hz]
                have HP := Lib.hid hp
                clear hp hz hu
                go_wp2
                go_ret
                exact ⟨by rw [rightK_no (n := 1) (by decide) HP.out]; rfl, HB.out⟩
              · rw [hu] at hc
                by_cases hlt : s < 0
                · have hp : partsB k d s t i 1 = false := by simp [partsB, partB, hu, hlt]
                  have HP := Lib.hid hp
                  have e1 : decide (s < 0) = true := by simpa using hlt
                  clear hp hz hu hlt
                  go_wp2
                  go_ret
                  exact ⟨by rw [rightK_no (n := 1) (by decide) HP.out]; rfl, HB.out⟩
                · by_cases hgt : 15 < s
                  · have hp : partsB k d s t i 1 = false := by simp [partsB, partB, hu, hgt]
                    have HP := Lib.hid hp
                    have e1 : decide (s < 0) = false := by simpa using hlt
                    have e2 : decide (15 < s) = true := by simpa using hgt
                    clear hp hz hu hlt hgt
                    go_wp2
                    go_ret
                    exact ⟨by rw [rightK_no (n := 1) (by decide) HP.out]; rfl, HB.out⟩
                  · have hp : partsB k d s t i 1 = true := by simp [partsB, partB, hu]; omega
                    have HP := Lib.hid hp
                    have e1 : decide (s < 0) = false := by simpa using hlt
                    have e2 : decide (15 < s) = false := by simpa using hgt
                    clear hp hz hu hlt hgt
                    go_wp2
                    go_round
                    case rel => exact ⟨1 + 1, by omega, rfl, fun j hj => by
                      rcases Nat.lt_or_ge j 1 with h | h
                      · exact HA.out j h
                      · obtain rfl : j = 1 := by omega
                        exact HP.out⟩
                    case measure => simp [intOf]
          · clear hn
            have ix : ∀ W' : World, (Instr.index 52 (.agg #[.int .i64 d, .int .i64 s, .int .i64 t, .int .i64 i]) (.int .i64 2)).run Try.prog W' = .ok (.int .i64 t) W' := fun W' => run_index_arr W' _ _ 4 _ .i64 2 _ Try.underlying52 (by kernel_rfl) (by kernel_rfl) (by decide) rfl
            have hc : W3.cell? ⟨W.heap.size + 2, 2, none⟩ = some (.bool (uT k)) := HM.out.cell 2
            by_cases hz : t = 0
            · have hp : partsB k d s t i 2 = true := by simp [partsB, partB, hz]
              have HP := Lib.hid hp
              have e0 : (t != 0) = false := by simp [hz]
              have e1 : decide (t < 0) = false := by simp; omega
              have e2 : decide (15 < t) = false := by simp; omega
              clear hz hp hc
              go_wp2
              go_round
              case rel => exact ⟨2 + 1, by omega, rfl, fun j hj => by
                rcases Nat.lt_or_ge j 2 with h | h
                · exact HA.out j h
                · obtain rfl : j = 2 := by omega
                  exact HP.out⟩
              case measure => simp [intOf]
            · have e0 : (t != 0) = true := by rw [bne_iff_ne]; exact hz
              cases hu : uT k
              · rw [hu] at hc
                have hp : partsB k d s t i 2 = false := by simp [partsB, partB, hu, hz]
                have HP := Lib.hid hp
                clear hp hz hu
                go_wp2
                go_ret
                exact ⟨by rw [rightK_no (n := 2) (by decide) HP.out]; rfl, HB.out⟩
              · rw [hu] at hc
                by_cases hlt : t < 0
                · have hp : partsB k d s t i 2 = false := by simp [partsB, partB, hu, hlt]
                  have HP := Lib.hid hp
                  have e1 : decide (t < 0) = true := by simpa using hlt
                  clear hp hz hu hlt
                  go_wp2
                  go_ret
                  exact ⟨by rw [rightK_no (n := 2) (by decide) HP.out]; rfl, HB.out⟩
                · by_cases hgt : 15 < t
                  · have hp : partsB k d s t i 2 = false := by simp [partsB, partB, hu, hgt]
                    have HP := Lib.hid hp
                    have e1 : decide (t < 0) = false := by simpa using hlt
                    have e2 : decide (15 < t) = true := by simpa using hgt
                    clear hp hz hu hlt hgt
                    go_wp2
                    go_ret
                    exact ⟨by rw [rightK_no (n := 2) (by decide) HP.out]; rfl, HB.out⟩
                  · have hp : partsB k d s t i 2 = true := by simp [partsB, partB, hu]; omega
                    have HP := Lib.hid hp
                    have e1 : decide (t < 0) = false := by simpa using hlt
                    have e2 : decide (15 < t) = false := by simpa using hgt
                    clear hp hz hu hlt hgt
                    go_wp2
                    go_round
                    case rel => exact ⟨2 + 1, by omega, rfl, fun j hj => by
                      rcases Nat.lt_or_ge j 2 with h | h
                      · exact HA.out j h
                      · obtain rfl : j = 2 := by omega
                        exact HP.out⟩
                    case measure => simp [intOf]
          · clear hn
            have ix : ∀ W' : World, (Instr.index 52 (.agg #[.int .i64 d, .int .i64 s, .int .i64 t, .int .i64 i]) (.int .i64 3)).run Try.prog W' = .ok (.int .i64 i) W' := fun W' => run_index_arr W' _ _ 4 _ .i64 3 _ Try.underlying52 (by kernel_rfl) (by kernel_rfl) (by decide) rfl
            have hc : W3.cell? ⟨W.heap.size + 2, 3, none⟩ = some (.bool (uI k)) := HM.out.cell 3
            by_cases hz : i = 0
            · have hp : partsB k d s t i 3 = true := by simp [partsB, partB, hz]
              have HP := Lib.hid hp
              have e0 : (i != 0) = false := by simp [hz]
              have e1 : decide (i < 0) = false := by simp; omega
              have e2 : decide (15 < i) = false := by simp; omega
              clear hz hp hc
              go_wp2
              go_round
              case rel => exact ⟨3 + 1, by omega, rfl, fun j hj => by
                rcases Nat.lt_or_ge j 3 with h | h
                · exact HA.out j h
                · obtain rfl : j = 3 := by omega
                  exact HP.out⟩
              case measure => simp [intOf]
            · have e0 : (i != 0) = true := by rw [bne_iff_ne]; exact hz
              cases hu : uI k
              · rw [hu] at hc
                have hp : partsB k d s t i 3 = false := by simp [partsB, partB, hu, hz]
                have HP := Lib.hid hp
                clear hp hz hu
                go_wp2
                go_ret
                exact ⟨by rw [rightK_no (n := 3) (by decide) HP.out]; rfl, HB.out⟩
              · rw [hu] at hc
                have hp : partsB k d s t i 3 = true := by simp [partsB, partB, hu]
                have HP := Lib.hid hp
                clear hp hz hu
                go_wp2
                go_round
                case rel => exact ⟨3 + 1, by omega, rfl, fun j hj => by
                  rcases Nat.lt_or_ge j 3 with h | h
                  · exact HA.out j h
                  · obtain rfl : j = 3 := by omega
                    exact HP.out⟩
                case measure => simp [intOf]
  exact key _ rfl
end Go.Proofs.Ytcmaneeoblmmmaa
