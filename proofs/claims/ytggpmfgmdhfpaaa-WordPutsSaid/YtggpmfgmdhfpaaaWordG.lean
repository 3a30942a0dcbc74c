/- Contracts of the reference's Cut and Sign. -/
import Derived.Test.YtggpmfgmdhfpaaaWordQ
namespace Go.Proofs.Ytggpmfgmdhfpaaa
open Go.RowKit

theorem rcut_any (v : Nat) (s : Int) (w : World) (hv : v < 18446744073709551616) :
    Calls Try.prog 15 #[.int .u64 v, .int .i64 s] w fun e w' => e = .returned (.int .u64 (cutV v s : Nat)) ∧ Below w.heap.size w w' := by
  have HV := Lib.hid hv
  clear hv
  rcases Bool.eq_false_or_eq_true (sizeB s) with h1 | h1
  · obtain ⟨q, rfl⟩ := Int.eq_ofNat_of_zero_le (show 0 ≤ s by have := size_cases h1; omega)
    have H1 := Lib.hid h1
    have HL := Lib.hid (bytesOf_length v q h1)
    have HT := Lib.hid (there_all q h1)
    clear h1
    go_enter Try.func15, Try.ntmps15
    go_wp2_with (first | (go_at_call 11; refine (rsize_any _ _).mono ?_; rintro e w1 ⟨rfl, hb1⟩; rw [H1.out]; have HB1 := Lib.hid hb1; clear hb1) | (go_at_call 13; refine (rbytes_any v q _ HV.out).mono ?_; rintro e w2 ⟨b, rfl, hown, hb2⟩; obtain ⟨A, c, rfl, hB, hA⟩ := bts_own hown (bytesOf_lt v q) rfl; have HB2 := Lib.hid hb2; have HB := Lib.hid hB; have HA := Lib.hid hA; clear hb2 hB hA hown))
    refine (rget_yes A (bytesOf v q) c 0 q _ (by rw [HL.out]; have := size_cases H1.out; omega) HB.out (by rw [HL.out]; exact HT.out)).mono ?_
    rintro e w3 ⟨rfl, hb3⟩
    have HB3 := Lib.hid hb3
    clear hb3
    go_wp2
    go_ret
    refine ⟨?_, (HB1.out.trans (HB2.out.mono HB1.out.size)).trans (HB3.out.mono (Nat.le_trans HB1.out.size HB2.out.size))⟩
    rw [← leNat_bytesOf v q HV.out H1.out, ← getV_all (bytesOf v q) q (by rw [HL.out]; rfl)]
    rfl
  · have H1 := Lib.hid h1
    clear h1
    go_enter Try.func15, Try.ntmps15
    go_wp2_with (go_at_call 11; refine (rsize_any _ _).mono ?_; rintro e w1 ⟨rfl, hb1⟩; rw [H1.out]; have HB1 := Lib.hid hb1; clear hb1)
    go_ret
    exact ⟨by rw [cutV_size_not v s H1.out]; rfl, HB1.out⟩

theorem rsign_not (v : Nat) (s : Int) (w : World) (h : sizeB s = false ∨ s = 8) :
    Calls Try.prog 17 #[.int .u64 v, .int .i64 s] w fun e w' => e = .returned (.int .u64 (signV v s : Nat)) ∧ Below w.heap.size w w' := by
  rcases h with h1 | rfl
  · have H1 := Lib.hid h1
    clear h1
    go_enter Try.func17, Try.ntmps17
    go_wp2_with (go_at_call 11; refine (rsize_any _ _).mono ?_; rintro e w1 ⟨rfl, hb1⟩; rw [H1.out]; have HB1 := Lib.hid hb1; clear hb1)
    go_ret
    exact ⟨by rw [signV_size_not v s H1.out]; rfl, HB1.out⟩
  · go_enter Try.func17, Try.ntmps17
    go_wp2_with (go_at_call 11; refine (rsize_any _ _).mono ?_; rintro e w1 ⟨rfl, hb1⟩; rw [show sizeB 8 = true from rfl]; have HB1 := Lib.hid hb1; clear hb1)
    go_ret
    exact ⟨rfl, HB1.out⟩

theorem own_form {w : World} {base : Nat} {e : TypeId} {v : Value} {n : Nat} {xs : List Value} (h : w.ownsRow base e 1 v n xs) : ∃ A c, v = .slice A n c := by
  rcases h.2 with ⟨rfl, hx⟩ | ⟨g, cap, cur, rfl, _, hh, _⟩
  · subst hx
    exact ⟨_, _, rfl⟩
  · exact ⟨_, _, rfl⟩
theorem own_mono {w : World} {base base' : Nat} {e : TypeId} {size : Nat} {v : Value} {n : Nat} {xs : List Value} (h : w.ownsRow base e size v n xs) (hb : base' ≤ base) : w.ownsRow base' e size v n xs := by
  refine ⟨h.1, ?_⟩
  rcases h.2 with h2 | ⟨g, cap, cur, hv, hg, r⟩
  · exact .inl h2
  · exact .inr ⟨g, cap, cur, hv, Nat.le_trans hb hg, r⟩
def lenOf : Value → Nat | .slice _ n _ => n | _ => 0
theorem fill_step (l : List Nat) (q n f : Nat) (h : q ≤ n) : (l ++ List.replicate (n - q) f).map bv ++ [Value.int .u8 (f : Int)] = (l ++ List.replicate (n + 1 - q) f).map bv := by
  rw [show n + 1 - q = (n - q) + 1 by omega, List.replicate_succ']
  simp [bv]
theorem rsign_yes (v q : Nat) (w : World) (hv : v < 18446744073709551616) (h1 : sizeB q = true) (h8 : q ≤ 4) :
    Calls Try.prog 17 #[.int .u64 v, .int .i64 q] w fun e w' => e = .returned (.int .u64 (signV v q : Nat)) ∧ Below w.heap.size w w' := by
  have HV := Lib.hid hv
  have H1 := Lib.hid h1
  have HL := Lib.hid (bytesOf_length v q h1)
  have hq1 : 1 ≤ q := by have := size_cases h1; omega
  have HG := Lib.hid (fun i hi => bytesOf_get v q i h1 hi)
  clear hv h1
  have e8 : ((q : Int) == 8) = false := by rw [beq_eq_false_iff_ne]; omega
  obtain ⟨i0, hi0, hz0, hz1, hz2⟩ := info_parts info5
  have hby := byteOf_lt v (q - 1)
  have hfill : (decide ((127 : Int) < ((byteOf v (q - 1) : Nat) : Int)) = true ∧ fillV v q = 255) ∨ (decide ((127 : Int) < ((byteOf v (q - 1) : Nat) : Int)) = false ∧ fillV v q = 0) := by
    unfold fillV
    rw [show (q : Int).toNat - 1 = q - 1 from rfl]
    by_cases hf : byteOf v (q - 1) > 127
    · exact .inl ⟨by simp; omega, by rw [if_pos hf]⟩
    · exact .inr ⟨by simp; omega, by rw [if_neg hf]⟩
  rcases hfill with ⟨hf1, hf2⟩ | ⟨hf1, hf2⟩
  all_goals
    have HF := Lib.hid hf2
    clear hf2
    go_enter Try.func17, Try.ntmps17
    go_wp2_with (first | (go_at_call 11; refine (rsize_any _ _).mono ?_; rintro e w1 ⟨rfl, hb1⟩; rw [H1.out]; have HB1 := Lib.hid hb1; clear hb1))
    refine (rbytes_any v q _ HV.out).mono ?_
    rintro e w2 ⟨b, rfl, hown, hb2⟩
    have HO := Lib.hid hown
    obtain ⟨A, c, rfl, hB, hA⟩ := bts_own hown (bytesOf_lt v q) rfl
    obtain ⟨bb, o, rfl, hc⟩ := hB.2 (by rw [HL.out]; omega)
    have hcell := hc (q - 1) (by rw [HL.out]; omega)
    rw [HG.out (q - 1) (by omega)] at hcell
    have HB2 := Lib.hid hb2
    clear hown hb2 hB hA hc
    rw [HL.out] at HO ⊢
    have e1 : ((q : Int) - 1) = ((q - 1 : Nat) : Int) := by omega
    go_wp2
    go_loopw [5] (fun b wr => ∃ (n : Nat) (A : Option Addr) (c : Nat), q ≤ n ∧ n ≤ 8 ∧ b = .slice A n c ∧ wr.ownsRow w.heap.size 5 1 b n ((bytesOf v q ++ List.replicate (n - q) (fillV v q)).map bv) ∧ Below w.heap.size w wr) (fun b _ => 8 - lenOf b)
    case atStart =>
      refine ⟨q, _, _, Nat.le_refl _, by omega, rfl, ?_, HB1.out.trans (HB2.out.mono HB1.out.size)⟩
      rw [Nat.sub_self, List.replicate_zero, List.append_nil]
      exact own_mono HO.out HB1.out.size
    case round =>
      obtain ⟨n, A, c, hn1, hn2, rfl, hown, hb⟩ := hrel
      have HO := Lib.hid hown
      clear hown
      by_cases h0 : n < 8
      · go_wp2_with (at_builtin; refine wpList_append_own _ rfl (.tmp 29) (.tmp 31) _ rfl w.heap.size 5 i0 _ 1 1 Try.underlying22 hi0 hz0 hz1 hz2 rfl (by decide) _ n _ rfl (HO.out.alloc _) ⟨wr.heap.size, 0, none⟩ 1 1 [_] rfl rfl (cell_one_new _ _ _) (one_u8 _) (by unfold maxLen; omega) (by omega) (Nat.le_trans hb.size (by simp)) ?_; intro v' w' hown' hgrow _; have HO2 := Lib.hid hown'; have HG2 := Lib.hid hgrow; clear hown' hgrow)
        obtain ⟨A', c', rfl⟩ := own_form HO2.out
        refine ⟨⟨n + 1, A', c', by omega, by omega, rfl, ?_, below_grown (HO.out.alloc _) (hb.alloc hb.size _) HG2.out (Nat.le_trans hb.size (by simp))⟩, by simp [lenOf]; omega⟩
        rw [← fill_step _ q n _ hn1, HF.out, ← HF.out]
        have := HO2.out
        rw [HF.out] at this ⊢
        exact this
      · obtain rfl : n = 8 := by omega
        have hlen : (bytesOf v q ++ List.replicate (8 - q) (fillV v q)).length = 8 := by rw [List.length_append, HL.out, List.length_replicate]; omega
        obtain ⟨A2, c2, e2, hB2, hA2⟩ := bts_own HO.out (signL_lt v q) hlen.symm
        rw [hlen] at e2
        injection e2 with e3 _ e4
        subst e3 e4
        have HB := Lib.hid hB2
        have HA := Lib.hid hA2
        have HN := Lib.hid hlen
        clear hB2 hA2 hlen
        go_wp2_with fail
        have hcall := rget_yes A (bytesOf v q ++ List.replicate (8 - q) (fillV v q)) c 0 8 wr (by rw [HN.out]; omega) HB.out (by rw [HN.out]; rfl)
        rw [HN.out] at hcall
        have HCL := Lib.hid hcall
        clear hcall
        refine (HCL.out).mono ?_
        rintro e w3 ⟨rfl, hb3⟩
        have HB3 := Lib.hid hb3
        clear hb3
        go_wp2
        go_ret
        refine ⟨?_, hb.trans (HB3.out.mono hb.size)⟩
        rw [← leNat_signL v q HV.out H1.out, ← getV_all (signL v q) 8 HN.out]
        rfl

theorem rsign_any (v : Nat) (s : Int) (w : World) (hv : v < 18446744073709551616) :
    Calls Try.prog 17 #[.int .u64 v, .int .i64 s] w fun e w' => e = .returned (.int .u64 (signV v s : Nat)) ∧ Below w.heap.size w w' := by
  rcases Bool.eq_false_or_eq_true (sizeB s) with h1 | h1
  · by_cases h8 : s = 8
    · exact rsign_not v s w (.inr h8)
    · obtain ⟨q, rfl⟩ := Int.eq_ofNat_of_zero_le (show 0 ≤ s by have := size_cases h1; omega)
      exact rsign_yes v q w hv h1 (by have := size_cases h1; omega)
  · exact rsign_not v s w (.inl h1)
end Go.Proofs.Ytggpmfgmdhfpaaa
