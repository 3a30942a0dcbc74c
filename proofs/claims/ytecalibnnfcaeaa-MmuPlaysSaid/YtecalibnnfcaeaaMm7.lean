/- Merged texts: WalkI, WalkK, WalkN, MmuB, TlbA. -/
import Derived.Test.YtecalibnnfcaeaaMm6
import Derived.Test.YtecalibnnfcaeaaORows
import Derived.Test.YtecalibnnfcaeaaSep
import Derived.Test.YtecalibnnfcaeaaReads
/- first. -/
namespace Go.Proofs.Ytecalibnnfcaeaa
open Go.RowKit

theorem fdAt_lead {n : Nat} {S : Nat → List Nat} {va l t a x : Nat} {k : Fd} (ha : atX va t l = a) (hx : ldR n S a 8 = x) (hc : chkE n a 8 = 0) (hg : goodX x = true) (hl : leafX x = false) (hd : leadX x l = true) : fdAt n S va l t k = k := by
  unfold fdAt
  rw [ha, hx, if_pos hc, if_pos hg, if_neg (by rw [hl]; decide), if_pos hd]
theorem fdAt_end {n : Nat} {S : Nat → List Nat} {va l t a x : Nat} {k : Fd} (ha : atX va t l = a) (hx : ldR n S a 8 = x) (hc : chkE n a 8 = 0) (hg : goodX x = true) (hl : leafX x = true) (hd : evenB (ppnX x) l = true) : fdAt n S va l t k = .leaf x l a := by
  unfold fdAt
  rw [ha, hx, if_pos hc, if_pos hg, if_pos hl, if_pos hd]
theorem fdAt_bad {n : Nat} {S : Nat → List Nat} {va l t a x : Nat} {k : Fd} (ha : atX va t l = a) (hx : ldR n S a 8 = x) (hc : chkE n a 8 = 0) (hg : goodX x = false) : fdAt n S va l t k = .err 51 := by
  unfold fdAt
  rw [ha, hx, if_pos hc, if_neg (by rw [hg]; decide)]
def ws0 : List (Nat × Nat) := [(0, 1025), (4096, 2049), (8200, 3295)]
def S0 : Nat → List Nat := laidS 4 ws0
theorem S0_eq : S0 = stR 4 (stR 4 (stR 4 emptyS 0 8 1025) 4096 8 2049) 8200 8 3295 := rfl
theorem S0_0 : ldR 4 S0 0 8 = 1025 := by
  rw [S0_eq, ld_other (((Full.empty.store _ _ _ _)).store _ _ _ _) (by decide) (by decide), ld_other (Full.empty.store _ _ _ _) (by decide) (by decide), ld_same (by decide) (by decide)]
theorem S0_1 : ldR 4 S0 4096 8 = 2049 := by
  rw [S0_eq, ld_other (((Full.empty.store _ _ _ _)).store _ _ _ _) (by decide) (by decide), ld_same (by decide) (by decide)]
theorem S0_2 : ldR 4 S0 8200 8 = 3295 := by
  rw [S0_eq, ld_same (by decide) (by decide)]
theorem S0_3 : ldR 4 S0 8208 8 = 0 := by
  rw [S0_eq, ld_other (((Full.empty.store _ _ _ _)).store _ _ _ _) (by decide) (by decide), ld_other (Full.empty.store _ _ _ _) (by decide) (by decide), ld_other Full.empty (by decide) (by decide), ld_empty]
theorem find0 : findW 4 S0 true 0 4660 = .leaf 3295 0 8200 := by
  unfold findW
  rw [if_pos rfl, if_pos (by decide)]
  show fdAt 4 S0 4660 2 0 _ = _
  rw [fdAt_lead (a := 0) (x := 1025) (by decide) S0_0 (by decide) (by decide) (by decide) (by decide), show ldR 4 S0 (atX 4660 0 (1 + 1)) 8 = 1025 from S0_0]
  show fdAt 4 S0 4660 1 1 _ = _
  rw [fdAt_lead (a := 4096) (x := 2049) (by decide) S0_1 (by decide) (by decide) (by decide) (by decide), show ldR 4 S0 (atX 4660 (ppnX 1025) (0 + 1)) 8 = 2049 from S0_1]
  show fdAt 4 S0 4660 0 2 _ = _
  rw [fdAt_end (a := 8200) (x := 3295) (by decide) S0_2 (by decide) (by decide) (by decide) (by decide)]
theorem find1 : findW 4 S0 true 0 8756 = .err 51 := by
  unfold findW
  rw [if_pos rfl, if_pos (by decide)]
  show fdAt 4 S0 8756 2 0 _ = _
  rw [fdAt_lead (a := 0) (x := 1025) (by decide) S0_0 (by decide) (by decide) (by decide) (by decide), show ldR 4 S0 (atX 8756 0 (1 + 1)) 8 = 1025 from S0_0]
  show fdAt 4 S0 8756 1 1 _ = _
  rw [fdAt_lead (a := 4096) (x := 2049) (by decide) S0_1 (by decide) (by decide) (by decide) (by decide), show ldR 4 S0 (atX 8756 (ppnX 1025) (0 + 1)) 8 = 2049 from S0_1]
  show fdAt 4 S0 8756 0 2 _ = _
  rw [fdAt_bad (a := 8208) (x := 0) (by decide) S0_3 (by decide) (by decide)]
theorem wd0 (W : World) : WdAt (W.alloc (.cells #[.int .u64 0, .int .u64 1025, .int .u64 4096, .int .u64 2049, .int .u64 8200, .int .u64 3295] 75)) (some ⟨W.heap.size, 0, none⟩) ws0 := fun _ => by
  have hb := Blkf.new_at W 75 (0, 0) #[.int .u64 0, .int .u64 1025, .int .u64 4096, .int .u64 2049, .int .u64 8200, .int .u64 3295] rfl
  refine ⟨_, 0, rfl, hb.lt, fun k x hx => ?_⟩
  have hk : k < 3 := (List.getElem?_eq_some_iff.1 hx).1
  rcases (show k = 0 ∨ k = 1 ∨ k = 2 by omega) with rfl | rfl | rfl <;> (injection hx with hx; subst hx; exact ⟨hb.cell _, hb.cell _, by decide, by decide⟩)
/-- Both memories, and locals. -/
structure PS (W : World) (gm xb n : Nat) (L : List (Nat × Nat)) (S : Nat → List Nat) (loc : List (Nat × TypeId × Array Value)) (w : World) : Prop where
  play : Play W (fun _ => False) gm xb n L S w
  loc : ∀ p ∈ loc, Blk w p.1 p.2.1 p.2.2
section
variable {W w w' : World} {gm xb n : Nat} {L : List (Nat × Nat)} {S : Nat → List Nat} {loc : List (Nat × TypeId × Array Value)}
theorem PS.step (h : PS W gm xb n L S loc w) (hb : Below w.heap.size w w') : PS W gm xb n L S loc w' := ⟨h.play.below hb, fun p hp => (h.loc p hp).below hb (h.loc p hp).lt⟩
theorem PS.push (h : PS W gm xb n L S loc w) (cs : Array Value) (t : TypeId) {b : Nat} (hb : b = w.heap.size) : PS W gm xb n L S ((b, t, cs) :: loc) (w.alloc (.cells cs t)) := by
  subst hb
  have h1 := h.step ((Below.refl w.heap.size w).alloc (Nat.le_refl _) (.cells cs t))
  refine ⟨h1.play, fun p hp => ?_⟩
  rcases List.mem_cons.1 hp with rfl | hp
  · exact Blkf.new_at _ _ _ _ rfl
  · exact h1.loc p hp
theorem PS.at_ (h : PS W gm xb n L S loc w) (i : Nat) (p : Nat × TypeId × Array Value) (hp : loc[i]? = some p) : Blk w p.1 p.2.1 p.2.2 := h.loc p (List.mem_of_getElem? hp)
theorem PS.range (h : PS W gm xb n L S loc w) (i : Nat) (p : Nat × TypeId × Array Value) (hp : loc[i]? = some p) : w.rangeAt p.1 0 p.2.2.toList := (h.at_ i p hp).range
theorem PS.find (h : PS W gm xb n L S loc w) (va ppn : Nat) (asid : Int) (on : Bool) (hv : va < 18446744073709551616) (hp : ppn < 18446744073709551616) :
    Calls Try.prog 74 #[.pointer (some ⟨gm, 0, none⟩), .agg #[.bool on, .int .i64 asid, .int .u64 (ppn : Int)], .int .u64 (va : Int)] w fun e w' =>
      e = .returned (.tuple #[.agg (fdL (findW n S on ppn va)).cs, .int .i64 (fdE (findW n S on ppn va))]) ∧ PS W gm xb n L S loc w' := by
  obtain ⟨F, G, g1, _⟩ := h.play
  exact (Find_any gm n va ppn asid on F S w g1 hv hp).mono fun e w' ⟨h1, h2⟩ => ⟨by rw [h1, fdV_cs], h.step h2⟩
end
theorem place_c (x l a va : Nat) (W : World) (hv : va < 18446744073709551616) :
    Calls Try.prog 57 #[.agg (fdL (.leaf x l a)).cs, .int .u64 (va : Int)] W fun e w' => e = .returned (.int .u64 ((joinV (ppnX x) va (l : Int) : Nat) : Int)) ∧ Below W.heap.size W w' := by
  rw [← fdV_cs]
  exact place_leaf x l a va W hv
theorem find_nil_c (va : Nat) (on : Bool) (asid ppn : Int) (W : World) :
    Calls Try.prog 74 #[.pointer none, .agg #[.bool on, .int .i64 asid, .int .u64 ppn], .int .u64 (va : Int)] W fun e w' => e = .returned (.tuple #[.agg lf0.cs, .int .i64 1]) ∧ Below W.heap.size W w' := find_nil va on asid ppn W
end Go.Proofs.Ytecalibnnfcaeaa

/- Words of a slice, of any parameters. -/
namespace Go.Proofs.Ytecalibnnfcaeaa
open Go.RowKit

theorem WdAt.below {W W' : World} {A : Option Addr} {ws : List (Nat × Nat)} (h : WdAt W A ws) (hb : Below W.heap.size W W') : WdAt W' A ws := fun hne => by
  obtain ⟨b, o, e, hl, hc⟩ := h hne
  refine ⟨b, o, e, Nat.lt_of_lt_of_le hl hb.size, fun k x hx => ?_⟩
  obtain ⟨h1, h2, h3⟩ := hc k x hx
  exact ⟨(hb.cell (p := ⟨b, _, none⟩) hl).trans h1, (hb.cell (p := ⟨b, _, none⟩) hl).trans h2, h3⟩
theorem wl_pick {α : Type} : ∀ (n : Nat) (P : Nat → α → Prop), (∀ i, i < n → ∃ x, P i x) → ∃ l : List α, l.length = n ∧ ∀ i, i < n → ∃ x, l[i]? = some x ∧ P i x
  | 0, P, h => ⟨[], rfl, fun i hi => by omega⟩
  | n + 1, P, h => by
    obtain ⟨l, hl, hp⟩ := wl_pick n P (fun i hi => h i (by omega))
    obtain ⟨x, hx⟩ := h n (by omega)
    refine ⟨l ++ [x], by simp [hl], fun i hi => ?_⟩
    rcases Nat.lt_or_ge i n with h1 | h1
    · obtain ⟨y, hy, hpy⟩ := hp i h1
      exact ⟨y, by rw [List.getElem?_append_left (by omega)]; exact hy, hpy⟩
    · obtain rfl : i = n := by omega
      exact ⟨x, by rw [List.getElem?_append_right (by omega), hl, Nat.sub_self]; rfl, hx⟩
theorem wd_of_rows {w : World} {a : Option Addr} {len cap : Nat} (h : IsRows [.int .u64, .int .u64] w a len cap) : ∃ ws, len = ws.length ∧ WdAt w a ws := by
  rcases h with ⟨rfl, rfl, rfl⟩ | ⟨x, rfl, hl, hm, hc⟩
  · exact ⟨[], rfl, fun h => absurd rfl h⟩
  · rcases Nat.eq_zero_or_pos len with rfl | hp
    · exact ⟨[], rfl, fun h => absurd rfl h⟩
    · obtain ⟨v0, h0, _⟩ := hc 0 (by omega) 0 _ rfl
      obtain ⟨b, o, spot⟩ := x
      have hspot : spot = none := by simpa [Addr.add] using World.cell?_spot h0
      subst hspot
      have ea : ∀ k, (⟨b, o, none⟩ : Addr).add k = ⟨b, o + k, none⟩ := fun k => by unfold Addr.add; split <;> simp_all
      have hb : b < w.heap.size := by rw [ea] at h0; exact World.block_lt_of_cell? _ _ h0
      have hn : ∀ i, i < len → ∃ x : Nat × Nat, w.cell? ⟨b, o + i * 2, none⟩ = some (.int .u64 (x.1 : Int)) ∧ w.cell? ⟨b, o + i * 2 + 1, none⟩ = some (.int .u64 (x.2 : Int)) ∧ x.1 < 18446744073709551616 ∧ x.2 < 18446744073709551616 := fun i hi => by
        obtain ⟨v, hv, z, rfl, hz⟩ := hc i (by omega) 0 _ rfl
        obtain ⟨v', hv', z', rfl, hz'⟩ := hc i (by omega) 1 _ rfl
        rw [ea] at hv hv'
        obtain ⟨z, rfl⟩ := Int.eq_ofNat_of_zero_le (u64_of_wf hz).1
        obtain ⟨z', rfl⟩ := Int.eq_ofNat_of_zero_le (u64_of_wf hz').1
        have l1 := (u64_of_wf hz).2
        have l2 := (u64_of_wf hz').2
        exact ⟨(z, z'), by simpa using hv, by simpa [Nat.add_assoc] using hv', by omega, by omega⟩
      obtain ⟨ws, hwl, hws⟩ := wl_pick len _ hn
      refine ⟨ws, hwl.symm, fun _ => ⟨b, o, rfl, hb, fun k x hx => ?_⟩⟩
      have hk : k < len := by rw [← hwl]; exact (List.getElem?_eq_some_iff.1 hx).1
      obtain ⟨y, hy, hc⟩ := hws k hk
      rw [hx] at hy
      injection hy with hy
      subst hy
      exact hc
theorem rows_len {ks : List LK} {w : World} {a : Option Addr} {len cap : Nat} (h : IsRows ks w a len cap) (hc : 16 * cap ≤ 140737488351232) : len ≤ 9223372036854775807 := by
  rcases h with ⟨_, h, _⟩ | ⟨x, _, h, _⟩ <;> omega
end Go.Proofs.Ytecalibnnfcaeaa

/- The reference's Find. -/
namespace Go.Proofs.Ytecalibnnfcaeaa
open Go.RowKit

theorem rright_any (v r w x u g a d : Bool) (rsw ppn : Int) (W : World) :
    Calls Try.prog 68 #[.agg #[.bool v, .bool r, .bool w, .bool x, .bool u, .bool g, .bool a, .bool d, .int .i64 rsw, .int .u64 ppn]] W fun e w' => e = .returned (.bool (v && (r || !w))) ∧ Below W.heap.size W w' := by
  cases v <;> cases r <;> cases w
  all_goals
    go_enter Try.func68, Try.ntmps68
    go_wp2_with fail
    go_ret
    exact ⟨rfl, (Below.refl _ _).alloc (Nat.le_refl _) _⟩
/-- The rounds that are left. -/
def rfF (n : Nat) (S : Nat → List Nat) (va : Nat) : Nat → Nat → Fd
  | 0, _ => .err 51
  | j + 1, t => fdAt n S va j t (rfF n S va j (ppnX (ldR n S (atX va t j) 8)))
theorem rfF_eq (n : Nat) (S : Nat → List Nat) (va : Nat) : ∀ l t, rfF n S va (l + 1) t = findF n S va l t
  | 0, t => rfl
  | l + 1, t => by
    show fdAt n S va (l + 1) t (rfF n S va (l + 1) _) = _
    rw [rfF_eq n S va l]
    rfl
def pteC (x : Nat) : Array Value := #[.bool (bitB x 0), .bool (bitB x 1), .bool (bitB x 2), .bool (bitB x 3), .bool (bitB x 4), .bool (bitB x 5), .bool (bitB x 6), .bool (bitB x 7), .int .i64 ((x : Int) / 256 % 4), .int .u64 ((x : Int) / 1024 % 17592186044416)]
theorem entry_c (x : Nat) : entryV x = .agg (pteC x) := rfl
theorem pteC_row (x : Nat) : rowT Try.prog 95 (pteC x).size = true := pte_row
theorem pteC_one (x : Nat) : (pteC x).all (·.oneCell') = true := pte_one x
theorem rget_c (x : Nat) (W : World) (hx : x < 18446744073709551616) :
    Calls Try.prog 67 #[.int .u64 (x : Int)] W fun e w' => e = .returned (.tuple #[.agg (pteC x), .bool (x / 18014398509481984 == 0)]) ∧ Below W.heap.size W w' := pte_rget_any x W hx
theorem rright_c (x : Nat) (W : World) : Calls Try.prog 68 #[.agg (pteC x)] W fun e w' => e = .returned (.bool (bitB x 0 && (bitB x 1 || !bitB x 2))) ∧ Below W.heap.size W w' := rright_any _ _ _ _ _ _ _ _ _ _ _
theorem rfd_good {n : Nat} {S : Nat → List Nat} {va t j x : Nat} (hc : chkE n (atX va t j) 8 = 0) (hx : ldR n S (atX va t j) 8 = x) (hg : goodX x = true) :
    rfF n S va (j + 1) t = if leafX x then (if evenB (ppnX x) j then .leaf x j (atX va t j) else .err 51) else if leadX x j then rfF n S va j (ppnX x) else .err 51 := by
  show fdAt n S va j t (rfF n S va j (ppnX (ldR n S (atX va t j) 8))) = _
  unfold fdAt
  rw [if_pos hc, hx, if_pos hg]
theorem rfd_bad {n : Nat} {S : Nat → List Nat} {va t j x : Nat} (hc : chkE n (atX va t j) 8 = 0) (hx : ldR n S (atX va t j) 8 = x) (hg : goodX x = false) : rfF n S va (j + 1) t = .err 51 := by
  unfold rfF fdAt
  rw [if_pos hc, hx, if_neg (by rw [hg]; decide)]
theorem rfd_chk {n : Nat} {S : Nat → List Nat} {va t j : Nat} (hc : chkE n (atX va t j) 8 ≠ 0) : rfF n S va (j + 1) t = .err 61 := by
  unfold rfF fdAt
  rw [if_neg hc]
theorem chk61 {n a : Nat} (h : chkE n a 8 ≠ 0) : (chkE n a 8 != 0) = true := by simpa using h
theorem rat_wrap (va t : Nat) (l : Nat) : IntKind.u64.wrap ((t : Int) % 4503599627370496 * 4096 + IntKind.u64.wrap (8 * IntKind.u64.wrap ((indexV va (l : Int) : Nat) : Int))) = ((atX va t l : Nat) : Int) := by
  rw [IntKind.wrap_u64, IntKind.wrap_u64, IntKind.wrap_u64]
  unfold atX
  omega
theorem ldE_lt {L : List (Nat × Nat)} (h : ∀ x ∈ L, x.2 < 256) (n a : Nat) : ldE n L a 8 < 18446744073709551616 := by
  unfold ldE
  split
  · exact rdV_lt h a 8 0 (by decide) (by decide)
  · decide
/-- The reference's loop: as many rounds as are left. -/
def RfR (g n va : Nat) (S : Nat → List Nat) (fd : Fd) (W : World) (tv lv : Value) (wr : World) : Prop :=
  ∃ j t : Nat, j ≤ 3 ∧ t < 18446744073709551616 ∧ lv = .int .i64 ((j : Int) - 1) ∧ tv = .int .u64 (t : Int) ∧ fd = rfF n S va j t ∧ Blk wr (W.heap.size + 1) 97 #[.bool false, .bool false, .bool false, .bool false, .bool false, .bool false, .bool false, .bool false, .int .i64 0, .int .u64 0, .int .i64 0, .int .u64 0] ∧ Below W.heap.size W wr
theorem even_span (x j : Nat) (h : j ≤ 2) : ((IntKind.u64.wrap ((ppnX x : Int) * 4096)).tmod (spanV (j : Int) : Int) != 0) = !evenB (ppnX x) j := by
  have hp := ppnX_lt x
  rw [IntKind.wrap_u64, Int.tmod_eq_emod_of_nonneg (by omega), span_sp h]
  unfold evenB spN
  generalize ppnX x = p at *
  rw [Bool.eq_iff_iff]
  rcases (show j = 0 ∨ j = 1 ∨ j = 2 by omega) with rfl | rfl | rfl <;> simp <;> omega
theorem span_pos {j : Nat} (h : j ≤ 2) : 0 < spanV (j : Int) := by
  rcases (show j = 0 ∨ j = 1 ∨ j = 2 by omega) with rfl | rfl | rfl <;> decide
set_option maxRecDepth 100000 in
set_option maxHeartbeats 2000000 in
theorem rfind_on (xb n va ppn : Nat) (asid : Int) (G : Nat → Prop) (L : List (Nat × Nat)) (S : Nat → List Nat) (W : World) (hn : n ≤ 1048576) (hL : L.length ≤ 900000) (hlv : ∀ x ∈ L, x.2 < 256) (h : RefAt W xb G n L) (hr : Rel n L S) (hv : va < 18446744073709551616) (hp : ppn < 18446744073709551616) (hc : canonB va = true) :
    Calls Try.prog 47 #[.pointer (some ⟨xb, 0, none⟩), .agg #[.bool true, .int .i64 asid, .int .u64 (ppn : Int)], .int .u64 (va : Int)] W fun e w' =>
      e = .returned (.tuple #[fdV (findF n S va 2 ppn), .int .i64 (fdE (findF n S va 2 ppn))]) ∧ Below W.heap.size W w' := by
  have HN := Lib.hid hn
  have HL := Lib.hid hL
  have HLV := Lib.hid hlv
  have HR := Lib.hid h
  have HRL := Lib.hid hr
  have HV := Lib.hid hv
  have HP := Lib.hid hp
  have HC := Lib.hid hc
  clear hn hL hlv h hr hv hp hc
  obtain ⟨fd, hfd⟩ : ∃ fd, fd = findF n S va 2 ppn := ⟨_, rfl⟩
  rw [← hfd]
  have HF := Lib.hid (hfd.trans (rfF_eq n S va 2 ppn).symm)
  clear hfd
  have hw : ∃ W2, W2 = (W.alloc (.cells #[.bool true, .int .i64 asid, .int .u64 (ppn : Int)] 43)).alloc (.cells #[.bool false, .bool false, .bool false, .bool false, .bool false, .bool false, .bool false, .bool false, .int .i64 0, .int .u64 0, .int .i64 0, .int .u64 0] 97) ∧ Blk W2 W.heap.size 43 #[.bool true, .int .i64 asid, .int .u64 (ppn : Int)] ∧ Blk W2 (W.heap.size + 1) 97 #[.bool false, .bool false, .bool false, .bool false, .bool false, .bool false, .bool false, .bool false, .int .i64 0, .int .u64 0, .int .i64 0, .int .u64 0] ∧ Below W.heap.size W W2 :=
    ⟨_, rfl, (Blkf.new_at _ _ _ _ rfl).alloc _, Blkf.new_at _ _ _ _ (by simp), ((Below.refl _ _).alloc (Nat.le_refl _) _).alloc (by simp) _⟩
  obtain ⟨W2, hW2, hs, hz, hb⟩ := hw
  have HZ := Lib.hid hz
  have HB := Lib.hid hb
  have s0 := hs.cell 0
  have s2 := hs.cell 2
  simp at s0 s2
  clear hz hb hs
  go_enter Try.func47, Try.ntmps47
  go_wp2_with fail
  rw [← hW2]
  clear hW2
  go_wp2_with fail
  refine (rcanon_any va _ HV.out).mono ?_
  rintro e w' ⟨rfl, rfl⟩
  rw [HC.out]
  go_wp2_with fail
  clear s0 s2
  go_loopw [8, 9] (fun tv lv wr => RfR xb n va S fd W tv lv wr) (fun _ lv _ => (intOf lv + 1).toNat)
  case atStart => exact ⟨3, ppn, by omega, HP.out, rfl, rfl, HF.out, HZ.out, HB.out⟩
  clear HZ HB HF
  case round =>
    obtain ⟨j, t, hj, ht, rfl, rfl, hfd, hz, hb⟩ := hrel
    have HF := Lib.hid hfd
    have HZ := Lib.hid hz
    have HB := Lib.hid hb
    clear hfd hz hb
    rcases Nat.eq_zero_or_pos j with h0 | h0
    · subst h0
      have HFE : Hid (fd = .err 51) := HF
      clear HF
      go_wp2_with (first | ((with_reducible refine wl_store 97 (.tmp 6) (.tmp 91) rfl ?_ (W.heap.size + 1) 97 #[.bool false, .bool false, .bool false, .bool false, .bool false, .bool false, .bool false, .bool false, .int .i64 0, .int .u64 0, .int .i64 0, .int .u64 0] #[.bool false, .bool false, .bool false, .bool false, .bool false, .bool false, .bool false, .bool false, .int .i64 0, .int .u64 0, .int .i64 0, .int .u64 0] ?_ ?_ HZ.out ?_ ?_ ?_ ?_); exact rfl; exact rfl; exact rfl; exact rfl; exact leaf_row; exact lzer_one))
      refine bodyPost_ret (res_cell_slot (cs := #[.bool false, .bool false, .bool false, .bool false, .bool false, .bool false, .bool false, .bool false, .int .i64 0, .int .u64 0, .int .i64 0, .int .u64 0]) (v := .int .i64 51) rfl _ _ (W.heap.size + 1) 97 rfl rfl (HZ.out.setRow _) leaf_row) rfl ⟨?_, below_setRow HB.out (Nat.le_succ _) _⟩
      rw [HFE.out]
      rfl
    · obtain ⟨j, rfl⟩ : ∃ i, j = i + 1 := ⟨j - 1, by omega⟩
      clear h0
      have hjj : (((j + 1 : Nat) : Int) - 1) = (j : Int) := by omega
      rw [hjj]
      have HJ : Hid (j ≤ 2) := Lib.hid (by omega)
      clear hjj hj
      go_wp2_with fail
      refine (rindex_any va j _ HV.out).mono ?_
      rintro e w0 ⟨rfl, hb0⟩
      have HZ0 := Lib.hid (HZ.out.below hb0 HZ.out.lt)
      have HB0 := Lib.hid (HB.out.trans (hb0.mono HB.out.size))
      clear hb0 HZ HB
      go_wp2_with fail
      rw [rat_wrap va t j]
      obtain ⟨at_, hat⟩ : ∃ at_, at_ = atX va t j := ⟨_, rfl⟩
      rw [← hat]
      have HAX := Lib.hid hat
      have HAT : Hid (at_ < 18446744073709551616) := Lib.hid (by rw [hat]; exact atX_lt _ _ _)
      clear hat
      go_wp2_with fail
      refine (rload_any xb n at_ 8 G L _ HN.out HAT.out (by have := HL.out; omega) HLV.out (HR.out.below (HB0.out))).mono ?_
      rintro e w1 ⟨rfl, hb1⟩
      have HZ1 := Lib.hid (HZ0.out.below hb1 HZ0.out.lt)
      have HB1 := Lib.hid (HB0.out.trans (hb1.mono HB0.out.size))
      clear hb1 HZ0 HB0
      rw [HRL.out.load at_ 8]
      obtain ⟨c, hc⟩ : ∃ c, c = chkE n at_ 8 := ⟨_, rfl⟩
      rw [← hc]
      obtain ⟨x, hx⟩ : ∃ x, x = ldR n S at_ 8 := ⟨_, rfl⟩
      rw [← hx]
      have HX : Hid (x < 18446744073709551616) := Lib.hid (by rw [hx, ← HRL.out.load]; exact ldE_lt HLV.out n at_)
      by_cases hc0 : c = 0
      · subst hc0
        have HG := Lib.hid (fun hg => HF.out.trans (rfd_good (n := n) (S := S) (va := va) (t := t) (j := j) (x := x) (by rw [← HAX.out]; exact hc.symm) (by rw [← HAX.out]; exact hx.symm) hg))
        have HBD := Lib.hid (fun hg => HF.out.trans (rfd_bad (n := n) (S := S) (va := va) (t := t) (j := j) (x := x) (by rw [← HAX.out]; exact hc.symm) (by rw [← HAX.out]; exact hx.symm) hg))
        clear hc hx
        go_wp2_with fail
        refine (rget_c x _ HX.out).mono ?_
        rintro e w2 ⟨rfl, hb2⟩
        have HZ2 := Lib.hid (HZ1.out.below hb2 HZ1.out.lt)
        have HB2 := Lib.hid (HB1.out.trans (hb2.mono HB1.out.size))
        clear hb2 HZ1 HB1
        have HP3 := Lib.hid (Blkf.new_at w2 95 (0, 0) (pteC x) rfl)
        have HZ3 := Lib.hid (HZ2.out.alloc (.cells (pteC x) 95))
        have HB3 := Lib.hid (HB2.out.alloc HB2.out.size (.cells (pteC x) 95))
        have HPN : Hid (W.heap.size + 1 < w2.heap.size) := Lib.hid HZ2.out.lt
        have hgx : goodX x = ((x / 18014398509481984 == 0) && (bitB x 0 && (bitB x 1 || !bitB x 2))) := rfl
        rcases Bool.eq_false_or_eq_true (x / 18014398509481984 == 0) with h54 | h54
        · rw [h54] at hgx ⊢
          rw [Bool.true_and] at hgx
          have HGX := Lib.hid hgx
          clear hgx h54
          go_wp2_with (first | ((with_reducible refine wl_store_new 95 (.tmp 13) (.tmp 50) rfl ?_ w2 (World.heap w2).size 95 #[.bool false, .bool false, .bool false, .bool false, .bool false, .bool false, .bool false, .bool false, .int .i64 0, .int .u64 0] (pteC x) ?_ ?_ ?_ ?_ ?_ ?_ ?_ ?_); exact rfl; exact rfl; exact rfl; exact rfl; exact rfl; exact rfl; exact pteC_row x; exact pteC_one x) | ((with_reducible refine wl_load 95 (.tmp 13) rfl ?_ w2.heap.size 0 (pteC x) ?_ HP3.out.range ?_ ?_); exact rfl; exact rfl; exact pteC_row x))
          refine (rright_c x _).mono ?_
          rintro e w4 ⟨rfl, hb4⟩
          rw [← HGX.out]
          have HZ4 := Lib.hid (HZ3.out.below hb4 HZ3.out.lt)
          have HP4 := Lib.hid (HP3.out.below hb4 HP3.out.lt)
          have HB4 := Lib.hid (HB3.out.trans (hb4.mono HB3.out.size))
          clear hb4 HZ3 HP3 HB3 HZ2 HB2
          rcases Bool.eq_false_or_eq_true (goodX x) with hg | hg
          · have HG2 := Lib.hid (HG.out hg)
            rw [hg]
            clear hg HG
            have hr1 := HP4.out.cell 1
            have hr3 := HP4.out.cell 3
            rw [show (pteC x)[1]? = some (.bool (bitB x 1)) from rfl] at hr1
            rw [show (pteC x)[3]? = some (.bool (bitB x 3)) from rfl] at hr3
            rcases Bool.eq_false_or_eq_true (bitB x 1) with h1 | h1
            · rw [h1] at hr1
              have HLF : Hid (leafX x = true) := Lib.hid (by unfold leafX; rw [h1, Bool.true_or])
              have hs9 : ∀ W', Ext w4.drew W' → W'.cell? ⟨w2.heap.size, 9, none⟩ = some (.int .u64 ((ppnX x : Nat) : Int)) := fun W' h => (h.cell HP4.out.drew.lt).trans (HP4.out.cell 9)
              have hsz : ¬ (spanV (j : Int) = 0) := by have := span_pos HJ.out; omega
              clear h1 HBD 
              go_wp2_with fail
              clear hr1 hr3
              refine wp_region_plan [(0, false), (1, false), (2, false), (3, false), (4, true), (5, false), (6, false)] (by kernel_rfl) (by kernel_rfl) (fun _ d _ _ _ h => by cases d <;> exact h) ?_
              iterate 4 (refine plan_take (v := ?_) rfl (by kernel_rfl) ?_ ?_; rotate_left; (focus (intro w' hw'; try go_simp; try with_reducible rfl)); simp only [Act.put, List.setIfInBounds_toArray, List.set_cons_zero, List.set_cons_succ])
              refine plan_call rfl (by kernel_rfl) (by go_simp; exact ⟨rfl, rfl⟩) ?_
              refine (rspan_any j _).mono ?_
              rintro e w' ⟨rfl, rfl⟩
              refine ⟨_, rfl, Ext.refl _, ?_⟩
              simp only [Act.put, List.setIfInBounds_toArray, List.set_cons_zero, List.set_cons_succ]
              iterate 2 (refine plan_take (v := ?_) rfl (by kernel_rfl) ?_ ?_; rotate_left; (focus (intro w' hw'; try go_simp; try with_reducible rfl)); simp only [Act.put, List.setIfInBounds_toArray, List.set_cons_zero, List.set_cons_succ])
              refine plan_end ?_
              rw [even_span x j HJ.out]
              clear hs9 hsz
              have HZ4 := Lib.hid HZ4.out.drew
              have HP4 := Lib.hid HP4.out.drew
              have HB4 := Lib.hid HB4.out.drew
              rcases Bool.eq_false_or_eq_true (evenB (ppnX x) j) with hev | hev
              · rw [hev]
                have HE : Hid (fd = .leaf x j at_) := Lib.hid (by rw [HG2.out, if_pos HLF.out, if_pos hev, ← HAX.out])
                clear hev
                have HPX : Hid (Blk w4.drew w2.heap.size 95 #[.bool (bitB x 0), .bool (bitB x 1), .bool (bitB x 2), .bool (bitB x 3), .bool (bitB x 4), .bool (bitB x 5), .bool (bitB x 6), .bool (bitB x 7), .int .i64 ((x : Int) / 256 % 4), .int .u64 ((x : Int) / 1024 % 17592186044416)]) := Lib.hid HP4.out
                go_wp2_with (first | ((with_reducible refine wl_load 95 (.tmp 13) rfl ?_ w2.heap.size 0 #[.bool (bitB x 0), .bool (bitB x 1), .bool (bitB x 2), .bool (bitB x 3), .bool (bitB x 4), .bool (bitB x 5), .bool (bitB x 6), .bool (bitB x 7), .int .i64 ((x : Int) / 256 % 4), .int .u64 ((x : Int) / 1024 % 17592186044416)] ?_ HPX.out.range ?_ ?_); exact rfl; exact rfl; exact pte_row) | ((with_reducible refine wl_store 97 (.tmp 6) (.tmp 77) rfl ?_ (W.heap.size + 1) 97 #[.bool false, .bool false, .bool false, .bool false, .bool false, .bool false, .bool false, .bool false, .int .i64 0, .int .u64 0, .int .i64 0, .int .u64 0] #[.bool (bitB x 0), .bool (bitB x 1), .bool (bitB x 2), .bool (bitB x 3), .bool (bitB x 4), .bool (bitB x 5), .bool (bitB x 6), .bool (bitB x 7), .int .i64 ((x : Int) / 256 % 4), .int .u64 ((x : Int) / 1024 % 17592186044416), .int .i64 (j : Int), .int .u64 (at_ : Int)] ?_ ?_ HZ4.out ?_ ?_ ?_ ?_); exact rfl; exact rfl; exact rfl; exact rfl; exact leaf_row; exact el_one x j at_))
                refine bodyPost_ret (res_cell_slot (cs := #[.bool (bitB x 0), .bool (bitB x 1), .bool (bitB x 2), .bool (bitB x 3), .bool (bitB x 4), .bool (bitB x 5), .bool (bitB x 6), .bool (bitB x 7), .int .i64 ((x : Int) / 256 % 4), .int .u64 ((x : Int) / 1024 % 17592186044416), .int .i64 (j : Int), .int .u64 (at_ : Int)]) (v := .int .i64 0) rfl _ _ (W.heap.size + 1) 97 rfl rfl (HZ4.out.setRow _) leaf_row) rfl ⟨?_, below_setRow HB4.out (Nat.le_succ _) _⟩
                rw [HE.out]
                rfl
              · rw [hev]
                have HE : Hid (fd = .err 51) := Lib.hid (by rw [HG2.out, if_pos HLF.out, if_neg (by rw [hev]; decide)])
                clear hev
                go_wp2_with (first | ((with_reducible refine wl_store 97 (.tmp 6) (.tmp 73) rfl ?_ (W.heap.size + 1) 97 #[.bool false, .bool false, .bool false, .bool false, .bool false, .bool false, .bool false, .bool false, .int .i64 0, .int .u64 0, .int .i64 0, .int .u64 0] #[.bool false, .bool false, .bool false, .bool false, .bool false, .bool false, .bool false, .bool false, .int .i64 0, .int .u64 0, .int .i64 0, .int .u64 0] ?_ ?_ HZ4.out ?_ ?_ ?_ ?_); exact rfl; exact rfl; exact rfl; exact rfl; exact leaf_row; exact lzer_one))
                refine bodyPost_ret (res_cell_slot (cs := #[.bool false, .bool false, .bool false, .bool false, .bool false, .bool false, .bool false, .bool false, .int .i64 0, .int .u64 0, .int .i64 0, .int .u64 0]) (v := .int .i64 51) rfl _ _ (W.heap.size + 1) 97 rfl rfl (HZ4.out.setRow _) leaf_row) rfl ⟨?_, below_setRow HB4.out (Nat.le_succ _) _⟩
                rw [HE.out]
                rfl
            · rw [h1] at hr1
              rcases Bool.eq_false_or_eq_true (bitB x 3) with h3 | h3
              · rw [h3] at hr3
                have HLF : Hid (leafX x = true) := Lib.hid (by unfold leafX; rw [h1, h3, Bool.or_true])
                have hs9 : ∀ W', Ext w4.drew W' → W'.cell? ⟨w2.heap.size, 9, none⟩ = some (.int .u64 ((ppnX x : Nat) : Int)) := fun W' h => (h.cell HP4.out.drew.lt).trans (HP4.out.cell 9)
                have hsz : ¬ (spanV (j : Int) = 0) := by have := span_pos HJ.out; omega
                clear h1 HBD h3
                go_wp2_with fail
                clear hr1 hr3
                refine wp_region_plan [(0, false), (1, false), (2, false), (3, false), (4, true), (5, false), (6, false)] (by kernel_rfl) (by kernel_rfl) (fun _ d _ _ _ h => by cases d <;> exact h) ?_
                iterate 4 (refine plan_take (v := ?_) rfl (by kernel_rfl) ?_ ?_; rotate_left; (focus (intro w' hw'; try go_simp; try with_reducible rfl)); simp only [Act.put, List.setIfInBounds_toArray, List.set_cons_zero, List.set_cons_succ])
                refine plan_call rfl (by kernel_rfl) (by go_simp; exact ⟨rfl, rfl⟩) ?_
                refine (rspan_any j _).mono ?_
                rintro e w' ⟨rfl, rfl⟩
                refine ⟨_, rfl, Ext.refl _, ?_⟩
                simp only [Act.put, List.setIfInBounds_toArray, List.set_cons_zero, List.set_cons_succ]
                iterate 2 (refine plan_take (v := ?_) rfl (by kernel_rfl) ?_ ?_; rotate_left; (focus (intro w' hw'; try go_simp; try with_reducible rfl)); simp only [Act.put, List.setIfInBounds_toArray, List.set_cons_zero, List.set_cons_succ])
                refine plan_end ?_
                rw [even_span x j HJ.out]
                clear hs9 hsz
                have HZ4 := Lib.hid HZ4.out.drew
                have HP4 := Lib.hid HP4.out.drew
                have HB4 := Lib.hid HB4.out.drew
                rcases Bool.eq_false_or_eq_true (evenB (ppnX x) j) with hev | hev
                · rw [hev]
                  have HE : Hid (fd = .leaf x j at_) := Lib.hid (by rw [HG2.out, if_pos HLF.out, if_pos hev, ← HAX.out])
                  clear hev
                  have HPX : Hid (Blk w4.drew w2.heap.size 95 #[.bool (bitB x 0), .bool (bitB x 1), .bool (bitB x 2), .bool (bitB x 3), .bool (bitB x 4), .bool (bitB x 5), .bool (bitB x 6), .bool (bitB x 7), .int .i64 ((x : Int) / 256 % 4), .int .u64 ((x : Int) / 1024 % 17592186044416)]) := Lib.hid HP4.out
                  go_wp2_with (first | ((with_reducible refine wl_load 95 (.tmp 13) rfl ?_ w2.heap.size 0 #[.bool (bitB x 0), .bool (bitB x 1), .bool (bitB x 2), .bool (bitB x 3), .bool (bitB x 4), .bool (bitB x 5), .bool (bitB x 6), .bool (bitB x 7), .int .i64 ((x : Int) / 256 % 4), .int .u64 ((x : Int) / 1024 % 17592186044416)] ?_ HPX.out.range ?_ ?_); exact rfl; exact rfl; exact pte_row) | ((with_reducible refine wl_store 97 (.tmp 6) (.tmp 77) rfl ?_ (W.heap.size + 1) 97 #[.bool false, .bool false, .bool false, .bool false, .bool false, .bool false, .bool false, .bool false, .int .i64 0, .int .u64 0, .int .i64 0, .int .u64 0] #[.bool (bitB x 0), .bool (bitB x 1), .bool (bitB x 2), .bool (bitB x 3), .bool (bitB x 4), .bool (bitB x 5), .bool (bitB x 6), .bool (bitB x 7), .int .i64 ((x : Int) / 256 % 4), .int .u64 ((x : Int) / 1024 % 17592186044416), .int .i64 (j : Int), .int .u64 (at_ : Int)] ?_ ?_ HZ4.out ?_ ?_ ?_ ?_); exact rfl; exact rfl; exact rfl; exact rfl; exact leaf_row; exact el_one x j at_))
                  refine bodyPost_ret (res_cell_slot (cs := #[.bool (bitB x 0), .bool (bitB x 1), .bool (bitB x 2), .bool (bitB x 3), .bool (bitB x 4), .bool (bitB x 5), .bool (bitB x 6), .bool (bitB x 7), .int .i64 ((x : Int) / 256 % 4), .int .u64 ((x : Int) / 1024 % 17592186044416), .int .i64 (j : Int), .int .u64 (at_ : Int)]) (v := .int .i64 0) rfl _ _ (W.heap.size + 1) 97 rfl rfl (HZ4.out.setRow _) leaf_row) rfl ⟨?_, below_setRow HB4.out (Nat.le_succ _) _⟩
                  rw [HE.out]
                  rfl
                · rw [hev]
                  have HE : Hid (fd = .err 51) := Lib.hid (by rw [HG2.out, if_pos HLF.out, if_neg (by rw [hev]; decide)])
                  clear hev
                  go_wp2_with (first | ((with_reducible refine wl_store 97 (.tmp 6) (.tmp 73) rfl ?_ (W.heap.size + 1) 97 #[.bool false, .bool false, .bool false, .bool false, .bool false, .bool false, .bool false, .bool false, .int .i64 0, .int .u64 0, .int .i64 0, .int .u64 0] #[.bool false, .bool false, .bool false, .bool false, .bool false, .bool false, .bool false, .bool false, .int .i64 0, .int .u64 0, .int .i64 0, .int .u64 0] ?_ ?_ HZ4.out ?_ ?_ ?_ ?_); exact rfl; exact rfl; exact rfl; exact rfl; exact leaf_row; exact lzer_one))
                  refine bodyPost_ret (res_cell_slot (cs := #[.bool false, .bool false, .bool false, .bool false, .bool false, .bool false, .bool false, .bool false, .int .i64 0, .int .u64 0, .int .i64 0, .int .u64 0]) (v := .int .i64 51) rfl _ _ (W.heap.size + 1) 97 rfl rfl (HZ4.out.setRow _) leaf_row) rfl ⟨?_, below_setRow HB4.out (Nat.le_succ _) _⟩
                  rw [HE.out]
                  rfl
              · rw [h3] at hr3
                have HLF : Hid (leafX x = false) := Lib.hid (by unfold leafX; rw [h1, h3]; rfl)
                clear h1 h3 HBD
                have hr4 := HP4.out.cell 4
                have hr6 := HP4.out.cell 6
                have hr7 := HP4.out.cell 7
                have hr9 := HP4.out.cell 9
                rw [show (pteC x)[4]? = some (.bool (bitB x 4)) from rfl] at hr4
                rw [show (pteC x)[6]? = some (.bool (bitB x 6)) from rfl] at hr6
                rw [show (pteC x)[7]? = some (.bool (bitB x 7)) from rfl] at hr7
                rw [show (pteC x)[9]? = some (.int .u64 ((ppnX x : Nat) : Int)) from rfl] at hr9
                rcases Bool.eq_false_or_eq_true (bitB x 4) with h4 | h4
                · rw [h4] at hr4
                  have HE : Hid (fd = .err 51) := Lib.hid (by rw [HG2.out, if_neg (by rw [HLF.out]; decide), if_neg (by unfold leadX; rw [h4]; simp)])
                  clear h4
                  go_wp2_with (first | ((with_reducible refine wl_store 97 (.tmp 6) (.tmp 88) rfl ?_ (W.heap.size + 1) 97 #[.bool false, .bool false, .bool false, .bool false, .bool false, .bool false, .bool false, .bool false, .int .i64 0, .int .u64 0, .int .i64 0, .int .u64 0] #[.bool false, .bool false, .bool false, .bool false, .bool false, .bool false, .bool false, .bool false, .int .i64 0, .int .u64 0, .int .i64 0, .int .u64 0] ?_ ?_ HZ4.out ?_ ?_ ?_ ?_); exact rfl; exact rfl; exact rfl; exact rfl; exact leaf_row; exact lzer_one))
                  refine bodyPost_ret (res_cell_slot (cs := #[.bool false, .bool false, .bool false, .bool false, .bool false, .bool false, .bool false, .bool false, .int .i64 0, .int .u64 0, .int .i64 0, .int .u64 0]) (v := .int .i64 51) rfl _ _ (W.heap.size + 1) 97 rfl rfl (HZ4.out.setRow _) leaf_row) rfl ⟨?_, below_setRow HB4.out (Nat.le_succ _) _⟩
                  rw [HE.out]
                  rfl
                · rw [h4] at hr4
                  rcases Bool.eq_false_or_eq_true (bitB x 6) with h6 | h6
                  · rw [h6] at hr6
                    have HE : Hid (fd = .err 51) := Lib.hid (by rw [HG2.out, if_neg (by rw [HLF.out]; decide), if_neg (by unfold leadX; rw [h6]; simp)])
                    clear h4 h6
                    go_wp2_with (first | ((with_reducible refine wl_store 97 (.tmp 6) (.tmp 88) rfl ?_ (W.heap.size + 1) 97 #[.bool false, .bool false, .bool false, .bool false, .bool false, .bool false, .bool false, .bool false, .int .i64 0, .int .u64 0, .int .i64 0, .int .u64 0] #[.bool false, .bool false, .bool false, .bool false, .bool false, .bool false, .bool false, .bool false, .int .i64 0, .int .u64 0, .int .i64 0, .int .u64 0] ?_ ?_ HZ4.out ?_ ?_ ?_ ?_); exact rfl; exact rfl; exact rfl; exact rfl; exact leaf_row; exact lzer_one))
                    refine bodyPost_ret (res_cell_slot (cs := #[.bool false, .bool false, .bool false, .bool false, .bool false, .bool false, .bool false, .bool false, .int .i64 0, .int .u64 0, .int .i64 0, .int .u64 0]) (v := .int .i64 51) rfl _ _ (W.heap.size + 1) 97 rfl rfl (HZ4.out.setRow _) leaf_row) rfl ⟨?_, below_setRow HB4.out (Nat.le_succ _) _⟩
                    rw [HE.out]
                    rfl
                  · rw [h6] at hr6
                    rcases Bool.eq_false_or_eq_true (bitB x 7) with h7 | h7
                    · rw [h7] at hr7
                      have HE : Hid (fd = .err 51) := Lib.hid (by rw [HG2.out, if_neg (by rw [HLF.out]; decide), if_neg (by unfold leadX; rw [h7]; simp)])
                      clear h4 h6 h7
                      go_wp2_with (first | ((with_reducible refine wl_store 97 (.tmp 6) (.tmp 88) rfl ?_ (W.heap.size + 1) 97 #[.bool false, .bool false, .bool false, .bool false, .bool false, .bool false, .bool false, .bool false, .int .i64 0, .int .u64 0, .int .i64 0, .int .u64 0] #[.bool false, .bool false, .bool false, .bool false, .bool false, .bool false, .bool false, .bool false, .int .i64 0, .int .u64 0, .int .i64 0, .int .u64 0] ?_ ?_ HZ4.out ?_ ?_ ?_ ?_); exact rfl; exact rfl; exact rfl; exact rfl; exact leaf_row; exact lzer_one))
                      refine bodyPost_ret (res_cell_slot (cs := #[.bool false, .bool false, .bool false, .bool false, .bool false, .bool false, .bool false, .bool false, .int .i64 0, .int .u64 0, .int .i64 0, .int .u64 0]) (v := .int .i64 51) rfl _ _ (W.heap.size + 1) 97 rfl rfl (HZ4.out.setRow _) leaf_row) rfl ⟨?_, below_setRow HB4.out (Nat.le_succ _) _⟩
                      rw [HE.out]
                      rfl
                    · rw [h7] at hr7
                      have HE : Hid (fd = rfF n S va j (ppnX x)) := Lib.hid (by
                        rw [HG2.out, if_neg (by rw [HLF.out]; decide)]
                        unfold leadX
                        rw [h4, h6, h7]
                        rcases j with _ | j
                        · rfl
                        · simp)
                      clear h4 h6 h7
                      go_wp2_with fail
                      have hw1 : wrap64 ((j : Int) - 1) = (j : Int) - 1 := IntWalk.wrap64_in _ (by have := HJ.out; omega)
                      rw [hw1]
                      go_roundw
                      case rel => exact ⟨j, ppnX x, by have := HJ.out; omega, Nat.lt_trans (ppnX_lt _) (by decide), rfl, rfl, HE.out, HZ4.out, HB4.out⟩
                      case measure => show (((j : Int) - 1) + 1).toNat < ((j : Int) + 1).toNat; omega
          · rw [hg]
            have HE : Hid (fd = .err 51) := Lib.hid (HBD.out hg)
            clear hg HG HBD
            go_wp2_with (first | ((with_reducible refine wl_store 97 (.tmp 6) (.tmp 59) rfl ?_ (W.heap.size + 1) 97 #[.bool false, .bool false, .bool false, .bool false, .bool false, .bool false, .bool false, .bool false, .int .i64 0, .int .u64 0, .int .i64 0, .int .u64 0] #[.bool false, .bool false, .bool false, .bool false, .bool false, .bool false, .bool false, .bool false, .int .i64 0, .int .u64 0, .int .i64 0, .int .u64 0] ?_ ?_ HZ4.out ?_ ?_ ?_ ?_); exact rfl; exact rfl; exact rfl; exact rfl; exact leaf_row; exact lzer_one))
            refine bodyPost_ret (res_cell_slot (cs := #[.bool false, .bool false, .bool false, .bool false, .bool false, .bool false, .bool false, .bool false, .int .i64 0, .int .u64 0, .int .i64 0, .int .u64 0]) (v := .int .i64 51) rfl _ _ (W.heap.size + 1) 97 rfl rfl (HZ4.out.setRow _) leaf_row) rfl ⟨?_, below_setRow HB4.out (Nat.le_succ _) _⟩
            rw [HE.out]
            rfl
        · rw [h54] at hgx ⊢
          rw [Bool.false_and] at hgx
          have HE : Hid (fd = .err 51) := Lib.hid (HBD.out hgx)
          clear hgx h54 HG HBD
          go_wp2_with (first | ((with_reducible refine wl_store 97 (.tmp 6) (.tmp 59) rfl ?_ (W.heap.size + 1) 97 #[.bool false, .bool false, .bool false, .bool false, .bool false, .bool false, .bool false, .bool false, .int .i64 0, .int .u64 0, .int .i64 0, .int .u64 0] #[.bool false, .bool false, .bool false, .bool false, .bool false, .bool false, .bool false, .bool false, .int .i64 0, .int .u64 0, .int .i64 0, .int .u64 0] ?_ ?_ HZ3.out ?_ ?_ ?_ ?_); exact rfl; exact rfl; exact rfl; exact rfl; exact leaf_row; exact lzer_one) | ((with_reducible refine wl_store_new 95 (.tmp 13) (.tmp 50) rfl ?_ w2 (World.heap w2).size 95 #[.bool false, .bool false, .bool false, .bool false, .bool false, .bool false, .bool false, .bool false, .int .i64 0, .int .u64 0] (pteC x) ?_ ?_ ?_ ?_ ?_ ?_ ?_ ?_); exact rfl; exact rfl; exact rfl; exact rfl; exact rfl; exact rfl; exact pteC_row x; exact pteC_one x))
          refine bodyPost_ret (res_cell_slot (cs := #[.bool false, .bool false, .bool false, .bool false, .bool false, .bool false, .bool false, .bool false, .int .i64 0, .int .u64 0, .int .i64 0, .int .u64 0]) (v := .int .i64 51) rfl _ _ (W.heap.size + 1) 97 rfl rfl (HZ3.out.setRow _) leaf_row) rfl ⟨?_, below_setRow HB3.out (Nat.le_succ _) _⟩
          rw [HE.out]
          rfl
      · have HE : Hid (fd = .err 61) := Lib.hid (HF.out.trans (rfd_chk (by rw [← HAX.out, ← hc]; exact hc0)))
        have hne : (c != 0) = true := by simpa using hc0
        clear hc hx hc0 HF
        go_wp2_with (first | ((with_reducible refine wl_store 97 (.tmp 6) (.tmp 46) rfl ?_ (W.heap.size + 1) 97 #[.bool false, .bool false, .bool false, .bool false, .bool false, .bool false, .bool false, .bool false, .int .i64 0, .int .u64 0, .int .i64 0, .int .u64 0] #[.bool false, .bool false, .bool false, .bool false, .bool false, .bool false, .bool false, .bool false, .int .i64 0, .int .u64 0, .int .i64 0, .int .u64 0] ?_ ?_ HZ1.out ?_ ?_ ?_ ?_); exact rfl; exact rfl; exact rfl; exact rfl; exact leaf_row; exact lzer_one))
        refine bodyPost_ret (res_cell_slot (cs := #[.bool false, .bool false, .bool false, .bool false, .bool false, .bool false, .bool false, .bool false, .int .i64 0, .int .u64 0, .int .i64 0, .int .u64 0]) (v := .int .i64 61) rfl _ _ (W.heap.size + 1) 97 rfl rfl (HZ1.out.setRow _) leaf_row) rfl ⟨?_, below_setRow HB1.out (Nat.le_succ _) _⟩
        rw [HE.out]
        rfl
end Go.Proofs.Ytecalibnnfcaeaa

/- The reference's memory as an object; its calls. -/
namespace Go.Proofs.Ytecalibnnfcaeaa
open Go.RowKit

/-- The reference's memory of n frames that holds the pages S. -/
def refO (xb n : Nat) (S : Nat → List Nat) : Obj where
  At w F := ∃ L, Rel n L S ∧ RefAt w xb F n L
  keeps := fun ⟨L, h1, h2⟩ k hd => ⟨L, h1, h2.keeps k hd⟩
  lt := fun ⟨_, _, _, _, _, _, _, h⟩ hb => h _ hb
theorem Rel.few {n : Nat} {L : List (Nat × Nat)} {S : Nat → List Nat} (h : Rel n L S) (hn : n ≤ 200) : L.length ≤ 900000 := by
  have := h.short
  omega
section
variable {W w : World} {os : List Obj} {xb n : Nat} {S : Nat → List Nat}
theorem Objs.refStore (h : Objs W os w) (i : Nat) (hi : os[i]? = some (refO xb n S)) (hn : n ≤ 200) (at_ : Nat) (s : Int) (v : Nat) (ha : at_ < 18446744073709551616) (hv : v < 18446744073709551616) :
    Calls Try.prog 21 #[.pointer (some ⟨xb, 0, none⟩), .int .u64 (at_ : Int), .int .i64 s, .int .u64 (v : Int)] w fun e w' => e = .returned (.int .i64 (chkE n at_ s)) ∧ Objs W (os.set i (refO xb n (stR n S at_ s v))) w' ∧ Below W.heap.size w w' := by
  refine h.turn (R := fun e => e = .returned (.int .i64 (chkE n at_ s))) i (refO xb n S) (refO xb n (stR n S at_ s v)) hi (fun F hF => ?_)
  obtain ⟨L, hr, hL⟩ := hF
  refine (rstore_any xb n at_ s v F L w (by omega) ha hv (hr.few hn) hL).mono ?_
  rintro e w' ⟨rfl, G', h1, h2, h3⟩
  have hx : F xb := by obtain ⟨_, _, _, _, h, _⟩ := hL; exact h
  exact ⟨rfl, G', ⟨_, hr.store at_ s v, h1⟩, h2, h3.mono fun b hb => by subst hb; exact hx⟩
theorem Objs.refLoad (h : Objs W os w) (i : Nat) (hi : os[i]? = some (refO xb n S)) (hn : n ≤ 200) (at_ : Nat) (s : Int) (ha : at_ < 18446744073709551616) :
    Calls Try.prog 30 #[.pointer (some ⟨xb, 0, none⟩), .int .u64 (at_ : Int), .int .i64 s] w fun e w' => e = .returned (.tuple #[.int .u64 (ldR n S at_ s : Nat), .int .i64 (chkE n at_ s)]) ∧ Objs W os w' ∧ Ext w w' := by
  obtain ⟨F, L, hr, hL⟩ := h.get i _ hi
  have t := rload_any xb n at_ s F L w (by omega) ha (by have := hr.few hn; omega) hr.b hL
  rw [hr.load] at t
  refine t.mono ?_
  rintro e w' ⟨rfl, hb⟩
  exact ⟨rfl, h.step hb, hb⟩
theorem Objs.refFind (h : Objs W os w) (i : Nat) (hi : os[i]? = some (refO xb n S)) (hn : n ≤ 200) (va ppn : Nat) (asid : Int) (hv : va < 18446744073709551616) (hp : ppn < 18446744073709551616) (hc : canonB va = true) :
    Calls Try.prog 47 #[.pointer (some ⟨xb, 0, none⟩), .agg #[.bool true, .int .i64 asid, .int .u64 (ppn : Int)], .int .u64 (va : Int)] w fun e w' =>
      e = .returned (.tuple #[fdV (findW n S true ppn va), .int .i64 (fdE (findW n S true ppn va))]) ∧ Objs W os w' ∧ Ext w w' := by
  obtain ⟨F, L, hr, hL⟩ := h.get i _ hi
  have t := rfind_on xb n va ppn asid F L S w (by omega) (hr.few hn) hr.b hL hr hv hp hc
  have e : findW n S true ppn va = findF n S va 2 ppn := by unfold findW; rw [if_pos rfl, if_pos hc]
  rw [e]
  refine t.mono ?_
  rintro e w' ⟨rfl, hb⟩
  exact ⟨rfl, h.step hb, hb⟩
end
end Go.Proofs.Ytecalibnnfcaeaa

/- Entries and pages: the model; page, has, matches; the reference's Page. -/
namespace Go.Proofs.Ytecalibnnfcaeaa
open Go.RowKit

structure Tf where
  (v r w x u g a d : Bool)
  (rsw : Int)
  (ppn : Nat)
  (lev : Int)
  (pos : Nat)
structure En where
  (full : Bool)
  (asid : Int)
  (page : Nat)
  (lf : Tf)
def Tf.vs (l : Tf) : List Value := [.bool l.v, .bool l.r, .bool l.w, .bool l.x, .bool l.u, .bool l.g, .bool l.a, .bool l.d, .int .i64 l.rsw, .int .u64 l.ppn, .int .i64 l.lev, .int .u64 l.pos]
def Tf.val (l : Tf) : Value := .agg #[.bool l.v, .bool l.r, .bool l.w, .bool l.x, .bool l.u, .bool l.g, .bool l.a, .bool l.d, .int .i64 l.rsw, .int .u64 l.ppn, .int .i64 l.lev, .int .u64 l.pos]
def En.vs (e : En) : List Value := [.bool e.full, .int .i64 e.asid, .int .u64 e.page, .bool e.lf.v, .bool e.lf.r, .bool e.lf.w, .bool e.lf.x, .bool e.lf.u, .bool e.lf.g, .bool e.lf.a, .bool e.lf.d, .int .i64 e.lf.rsw, .int .u64 e.lf.ppn, .int .i64 e.lf.lev, .int .u64 e.lf.pos]
def En.val (e : En) : Value := .agg #[.bool e.full, .int .i64 e.asid, .int .u64 e.page, .bool e.lf.v, .bool e.lf.r, .bool e.lf.w, .bool e.lf.x, .bool e.lf.u, .bool e.lf.g, .bool e.lf.a, .bool e.lf.d, .int .i64 e.lf.rsw, .int .u64 e.lf.ppn, .int .i64 e.lf.lev, .int .u64 e.lf.pos]
def tlb_lf0 : Tf := ⟨false, false, false, false, false, false, false, false, 0, 0, 0, 0⟩
def en0 : En := ⟨false, 0, 0, tlb_lf0⟩
def levOK (n : Int) : Bool := decide (0 ≤ n) && decide (n ≤ 2)
/-- A page's number of an address, at a level. -/
def pgN (va : Nat) (lev : Int) : Nat := vpnV va / 2 ^ (9 * lev.toNat)
theorem vpnV_lt (va : Nat) : vpnV va < 134217728 := Nat.mod_lt _ (by decide)
theorem lev_cases {n : Int} (h : levOK n = true) : n = 0 ∨ n = 1 ∨ n = 2 := by simp [levOK] at h; omega
theorem pgN0 (va : Nat) : pgN va 0 = vpnV va := by simp [pgN]
theorem pgN1 (va : Nat) : pgN va 1 = vpnV va / 512 := by simp [pgN]
theorem pgN2 (va : Nat) : pgN va 2 = vpnV va / 262144 := by simp [pgN]
theorem pgN_lt (va : Nat) (lev : Int) : pgN va lev < 134217728 := Nat.lt_of_le_of_lt (Nat.div_le_self _ _) (vpnV_lt va)
theorem tlb_page_any (va : Nat) (lev : Int) (W : World) (hv : va < 18446744073709551616) (hl : levOK lev = true) :
    Calls Try.prog 84 #[.int .u64 va, .int .i64 lev] W fun e w' => e = .returned (.int .u64 ((pgN va lev : Nat) : Int)) ∧ W = w' := by
  have H0 := Lib.hid (pgN0 va)
  have H1 := Lib.hid (pgN1 va)
  have H2 := Lib.hid (pgN2 va)
  rcases lev_cases hl with rfl | rfl | rfl
  · go_enter Try.func84, Try.ntmps84
    go_wp2_with fail
    refine (vpn_any va _ hv).mono ?_
    rintro e w ⟨rfl, rfl⟩
    go_wp2
    go_ret
    exact ⟨by rw [H0.out]; simp, rfl⟩
  · go_enter Try.func84, Try.ntmps84
    go_wp2_with fail
    refine (vpn_any va _ hv).mono ?_
    rintro e w ⟨rfl, rfl⟩
    go_wp2
    go_ret
    exact ⟨by rw [H1.out]; simp, rfl⟩
  · go_enter Try.func84, Try.ntmps84
    go_wp2_with fail
    refine (vpn_any va _ hv).mono ?_
    rintro e w ⟨rfl, rfl⟩
    go_wp2
    go_ret
    exact ⟨by rw [H2.out]; simp, rfl⟩
def hasB (e : En) (va : Nat) : Bool := e.full && e.page == pgN va e.lf.lev
def matchB (e : En) (va : Nat) (asid : Int) : Bool := hasB e va && (e.asid == asid || e.lf.g)
theorem nat_beq (a b : Nat) : (((a : Nat) : Int) == ((b : Nat) : Int)) = (a == b) := by
  rw [Bool.eq_iff_iff]
  simp only [beq_iff_eq]
  omega
set_option maxHeartbeats 1000000 in
theorem has_any (e : En) (va : Nat) (W : World) (hv : va < 18446744073709551616) (hl : e.full = true → levOK e.lf.lev = true) :
    Calls Try.prog 81 #[e.val, .int .u64 va] W fun r w' => r = .returned (.bool (hasB e va)) ∧ Below W.heap.size W w' := by
  have H : Hid (hasB e va = (e.full && e.page == pgN va e.lf.lev)) := Lib.hid rfl
  have hB : Below W.heap.size W (W.alloc (.cells e.vs.toArray 110)) := (Below.refl _ W).alloc (Nat.le_refl _) _
  have hX : Blk (W.alloc (.cells e.vs.toArray 110)) W.heap.size 110 e.vs.toArray := Blkf.new_at _ _ _ _ rfl
  unfold En.val
  unfold En.vs at hX hB
  have HB := Lib.hid hB
  have HX := Lib.hid hX
  clear hX hB
  go_enter Try.func81, Try.ntmps81
  go_wp2_with fail
  generalize W.alloc (.cells #[.bool e.full, .int .i64 e.asid, .int .u64 e.page, .bool e.lf.v, .bool e.lf.r, .bool e.lf.w, .bool e.lf.x, .bool e.lf.u, .bool e.lf.g, .bool e.lf.a, .bool e.lf.d, .int .i64 e.lf.rsw, .int .u64 e.lf.ppn, .int .i64 e.lf.lev, .int .u64 e.lf.pos] 110) = w0 at *
  have s0 := fun W' (h : Ext w0.drew W') => (h.cell (p := ⟨W.heap.size, 0, none⟩) HX.out.lt).trans (HX.out.cell 0)
  have s2 := fun W' (h : Ext w0.drew W') => (h.cell (p := ⟨W.heap.size, 2, none⟩) HX.out.lt).trans (HX.out.cell 2)
  have s13 := fun W' (h : Ext w0.drew W') => (h.cell (p := ⟨W.heap.size, 13, none⟩) HX.out.lt).trans (HX.out.cell 13)
  simp at s0 s2 s13
  cases hf : e.full
  · rw [hf] at H s0
    refine wp_region_plan [(0, false), (1, false), (2, false), (3, false), (4, false), (5, false), (6, false), (7, false), (8, false), (9, false), (10, false), (11, false), (12, false)] (by kernel_rfl) (by kernel_rfl) (fun _ d _ _ _ h => by cases d <;> exact h) ?_
    iterate 3 (refine plan_take (v := ?_) rfl (by kernel_rfl) ?_ ?_; rotate_left; (focus (intro w' hw'; try go_simp; try with_reducible rfl)); simp only [Act.put, List.setIfInBounds_toArray, List.set_cons_zero, List.set_cons_succ])
    iterate 8 (refine plan_skip rfl (by kernel_rfl) ?_; simp only [Act.put, List.setIfInBounds_toArray, List.set_cons_zero, List.set_cons_succ])
    iterate 2 (refine plan_take (v := ?_) rfl (by kernel_rfl) ?_ ?_; rotate_left; (focus (intro w' hw'; try go_simp; try with_reducible rfl)); simp only [Act.put, List.setIfInBounds_toArray, List.set_cons_zero, List.set_cons_succ])
    refine plan_end ?_
    clear s0 s2 s13
    go_wp2
    go_ret
    exact ⟨by rw [H.out]; rfl, HB.out.drew⟩
  · rw [hf] at H s0
    refine wp_region_plan [(0, false), (1, false), (2, false), (3, false), (4, false), (5, false), (6, false), (7, false), (8, false), (9, false), (10, false), (11, false), (12, false)] (by kernel_rfl) (by kernel_rfl) (fun _ d _ _ _ h => by cases d <;> exact h) ?_
    iterate 9 (refine plan_take (v := ?_) rfl (by kernel_rfl) ?_ ?_; rotate_left; (focus (intro w' hw'; try go_simp; try with_reducible rfl)); simp only [Act.put, List.setIfInBounds_toArray, List.set_cons_zero, List.set_cons_succ])
    refine plan_quiet rfl (by kernel_rfl) (fun w' => by go_simp; all_goals (first | exact ⟨rfl, rfl⟩ | rfl)) (fun w' hw' => tlb_page_any va e.lf.lev w' hv (hl hf)) ?_
    simp only [Act.put, List.setIfInBounds_toArray, List.set_cons_zero, List.set_cons_succ]
    iterate 3 (refine plan_take (v := ?_) rfl (by kernel_rfl) ?_ ?_; rotate_left; (focus (intro w' hw'; try go_simp; try with_reducible rfl)); simp only [Act.put, List.setIfInBounds_toArray, List.set_cons_zero, List.set_cons_succ])
    refine plan_end ?_
    clear s0 s2 s13
    go_wp2
    go_ret
    exact ⟨by rw [H.out, nat_beq]; rfl, HB.out.drew⟩
end Go.Proofs.Ytecalibnnfcaeaa
