/- Merged texts: TabD, TabE, TabF. -/
import Derived.Test.YtophcgbddccpeaaGreatSk5
/- Steps down: the place of an address's entry in a table, the table that it leads to. -/
namespace Go.Proofs.YtophcgbddccpeaaGreat
open Go.RowKit

/-- These blocks are as they were. -/
def Hold (L : List Nat) (w w' : World) : Prop := ∀ b ∈ L, w'.heap[b]? = w.heap[b]?
theorem later_hold (L : List Nat) : Later (Hold L) := ⟨fun _ _ _ => rfl, fun h k b hb => (k b hb).trans (h b hb)⟩
theorem Hold.below {L : List Nat} {w w' : World} (h : Below w.heap.size w w') (hL : ∀ b ∈ L, b < w.heap.size) : Hold L w w' := fun b hb => h.block b (hL b hb)
theorem Hold.keeps {L : List Nat} {F : Nat → Prop} {w w' : World} (h : Keeps F w w') (hL : ∀ b ∈ L, b < w.heap.size ∧ ¬ F b) : Hold L w w' := fun b hb => h.block b (hL b hb).1 (hL b hb).2
theorem Hold.cell {L : List Nat} {w w' : World} (h : Hold L w w') {b : Nat} (hb : b ∈ L) (o : Nat) : w'.cell? ⟨b, o, none⟩ = w.cell? ⟨b, o, none⟩ := World.cell?_of_block (a := ⟨b, o, none⟩) (h b hb)
theorem at_any (t va l : Nat) (W : World) (hv : va < 18446744073709551616) :
    Calls Tryz.prog 70 #[.int .u64 (t : Int), .int .u64 (va : Int), .int .i64 (l : Int)] W fun e w' => e = .returned (.int .u64 ((atX va t l : Nat) : Int)) ∧ W = w' := by
  have hw := at_wrap va t l
  have hc := index_any va (l : Int) W hv
  clear hv
  generalize atX va t l = res at *
  generalize indexV va (l : Int) = ix at *
  have HC := Lib.hid hc
  clear hc
  go_enter Tryz.func70, Tryz.ntmps70
  go_wp2_with fail
  refine HC.out.mono ?_
  rintro e w1 ⟨rfl, rfl⟩
  go_wp2_with fail
  go_ret
  exact ⟨rfl, rfl⟩
/-- The word of an entry that leads to a table. -/
def leadW (f : Nat) : Nat := putV true false false false false false false false 0 (f : Int)
theorem leadW_eq (f : Nat) (h : f < 17592186044416) : leadW f = 1 + 1024 * f := by unfold leadW putV bt; simp; omega
theorem takeF_ok {c : TC} {σ : TS} (h : takeE c σ = 0) : takeF c σ = ((c.first + σ.k : Nat) : Int) := by
  unfold takeE at h
  unfold takeF
  split at h
  · cases h
  · rename_i h1
    split at h
    · cases h
    · rename_i h2
      rw [if_neg h1, if_neg h2]
theorem take_lt {c : TC} {σ : TS} {w : World} {Fm Fs : Nat → Prop} (h : takeE c σ = 0) (hT : TabAt w c σ Fm Fs) : c.first + σ.k < 1048576 := by
  obtain ⟨s, _, ho⟩ := hT.stk
  have h1 := ho.big
  unfold takeE at h
  split at h
  · cases h
  · rename_i h2
    rcases ho.at_ with h3 | h3 <;> omega
def leadF (c : TC) (σ : TS) (a : Nat) : Nat := if ldR c.n σ.S a 8 = 0 then (if takeE c σ = 0 then c.first + σ.k else 0) else if leafX (ldR c.n σ.S a 8) then 0 else ppnX (ldR c.n σ.S a 8)
def leadE (c : TC) (σ : TS) (a : Nat) : Int := if ldR c.n σ.S a 8 = 0 then takeE c σ else if leafX (ldR c.n σ.S a 8) then 130 else 0
def leadS (c : TC) (σ : TS) (a : Nat) : TS := if ldR c.n σ.S a 8 = 0 then (if takeE c σ = 0 then ⟨stR c.n (takeS c σ).S a 8 (leadW (c.first + σ.k)), (takeS c σ).k, (takeS c σ).u⟩ else takeS c σ) else σ
set_option maxRecDepth 100000 in
set_option maxHeartbeats 1000000 in
theorem lead_any (c : TC) (σ : TS) (Fm Fs : Nat → Prop) (a : Nat) (W : World) (h : TabAt W c σ Fm Fs) (ha : a < 18446744073709551616) :
    Calls Tryz.prog 69 #[.pointer (some ⟨c.tb, 0, none⟩), .int .u64 (a : Int)] W fun e w' => e = .returned (.tuple #[.int .u64 ((leadF c σ a : Nat) : Int), .int .i64 (leadE c σ a)]) ∧ TabTo W c (leadS c σ a) Fm Fs w' := by
  obtain ⟨x, hx⟩ : ∃ x, x = ldR c.n σ.S a 8 := ⟨_, rfl⟩
  have hxl : x < 18446744073709551616 := by rw [hx]; exact Mem.ld_lt h.mem a
  have HX := Lib.hid hx
  have HXL := Lib.hid hxl
  have HT := Lib.hid h
  have HA := Lib.hid ha
  have t0 := h.hd.cell 0
  have tl := h.hd.lt
  simp only [List.getElem?_toArray, List.getElem?_cons_zero, List.getElem?_cons_succ] at t0
  have HF : Hid (leadF c σ a = if x = 0 then (if takeE c σ = 0 then c.first + σ.k else 0) else if leafX x then 0 else ppnX x) := Lib.hid (by rw [hx]; rfl)
  have HE : Hid (leadE c σ a = if x = 0 then takeE c σ else if leafX x then 130 else 0) := Lib.hid (by rw [hx]; rfl)
  have HS : Hid (leadS c σ a = if x = 0 then (if takeE c σ = 0 then ⟨stR c.n (takeS c σ).S a 8 (leadW (c.first + σ.k)), (takeS c σ).k, (takeS c σ).u⟩ else takeS c σ) else σ) := Lib.hid (by rw [hx]; rfl)
  rw [HF.out, HE.out, HS.out]
  clear h ha hx hxl HF HE HS
  by_cases h0 : x = 0
  · rw [if_pos h0, if_pos h0, if_pos h0]
    subst h0
    have HG : Hid (∀ w, Calls Tryz.prog 87 #[.int .u64 0] w fun e w' => e = .returned (.tuple #[.agg #[.bool false, .bool false, .bool false, .bool false, .bool false, .bool false, .bool false, .bool false, .int .i64 0, .int .u64 0], .bool true]) ∧ Below w.heap.size w w') := Lib.hid (fun w => get_any 0 w (by decide))
    by_cases hE : takeE c σ = 0
    · have HK : Hid (takeF c σ = ((c.first + σ.k : Nat) : Int)) := Lib.hid (takeF_ok hE)
      obtain ⟨f, hf⟩ : ∃ f, f = c.first + σ.k := ⟨_, rfl⟩
      have hfl : f < 1048576 := by rw [hf]; exact take_lt hE HT.out
      rw [if_pos hE, if_pos hE, hE, ← hf]
      have HFL := Lib.hid hfl
      have HEE := Lib.hid hE
      have HFF := Lib.hid hf
      clear hf
      go_enter Tryz.func69, Tryz.ntmps69
      go_wp2_with fail
      refine (Load_any c.gm c.n a 8 Fm σ.S _ HT.out.mem HA.out).mono ?_
      rintro e w1 ⟨rfl, rfl⟩
      rw [← HX.out]
      go_wp2_with fail
      refine (HG.out _).mono ?_
      rintro e w2 ⟨rfl, hb⟩
      have T2 := Lib.hid (HT.out.below hb)
      have B2 := Lib.hid hb
      clear hb t0 tl
      go_wp2_with fail
      refine (take_any c σ Fm Fs _ (T2.out.below ((Below.refl _ w2).alloc (Nat.le_refl _) _))).mono ?_
      rintro e w3 ⟨rfl, hT3⟩
      have T3 : Hid (TabTo W c (takeS c σ) Fm Fs w3) := Lib.hid (tab_trans (fun _ h => .inl h) (fun _ h => .inl h) (Keeps.of_below (B2.out.trans (((Below.refl _ w2).alloc (Nat.le_refl _) _).mono B2.out.size))) hT3)
      clear hT3 T2 B2
      rw [HEE.out, HK.out, ← HFF.out]
      obtain ⟨Fm3, Fs3, h3, hF3, hG3, k3⟩ := T3.out
      have H3 := Lib.hid h3
      have HC : Hid (∀ w2 S', TabTo w3 c ⟨S', (takeS c σ).k, (takeS c σ).u⟩ Fm3 Fs3 w2 → TabTo W c ⟨S', (takeS c σ).k, (takeS c σ).u⟩ Fm Fs w2) := Lib.hid (fun w2 S' h2 => tab_trans hF3 hG3 k3 h2)
      have fw : IntKind.u64.wrap (f : Int) = (f : Int) := by rw [IntKind.wrap_u64]; omega
      have HD4 := Lib.hid (h3.hd.drew)
      have hl3 := h3.hd.lt
      have s0 := fun (W' : World) (h : Hold [c.tb] w3.drew W') => (h.cell (List.mem_singleton.2 rfl) 0).trans (HD4.out.cell 0)
      simp only [List.getElem?_toArray, List.getElem?_cons_zero, List.getElem?_cons_succ] at s0
      clear hE hfl h3 hF3 hG3 k3 T3
      go_wp2_with fail
      refine wp_region_plan_by (Hold [c.tb]) (later_hold _) [(0, false), (1, false), (2, false), (3, false), (4, false), (5, false), (6, false), (7, false), (8, true), (9, true)] (by kernel_rfl) (by kernel_rfl) (fun _ d _ _ _ h => by cases d <;> exact h) ?_
      iterate 8 (refine plan_take (v := ?_) rfl (by kernel_rfl) ?_ ?_; rotate_left; (focus (intro w' hw'; try go_simp; try with_reducible rfl)); simp only [Act.put, List.setIfInBounds_toArray, List.set_cons_zero, List.set_cons_succ])
      clear s0
      refine plan_call rfl (by kernel_rfl) (by go_simp; exact ⟨rfl, rfl⟩) ?_
      refine (put_any true false false false false false false false 0 (f : Int) _ (by have := HFL.out; omega)).mono ?_
      rintro e w5 ⟨rfl, hb5⟩
      refine ⟨_, rfl, (Hold.below hb5 (fun b hb => by rw [List.mem_singleton.1 hb]; exact HD4.out.lt)), ?_⟩
      simp only [Act.put, List.setIfInBounds_toArray, List.set_cons_zero, List.set_cons_succ]
      have B5 : Hid (Below w3.heap.size w3 w5) := Lib.hid ((Below.refl _ w3).drew.trans hb5)
      have H5 := Lib.hid (H3.out.below B5.out)
      clear hb5
      have hlw : leadW f < 18446744073709551616 := by have := HFL.out; rw [leadW_eq f (by omega)]; omega
      have HLW := Lib.hid hlw
      rw [show putV true false false false false false false false 0 (f : Int) = leadW f from rfl]
      refine plan_call rfl (by kernel_rfl) (by go_simp; exact ⟨rfl, rfl⟩) ?_
      refine (Store_any c.gm c.n a 8 (leadW f) Fm3 (takeS c σ).S _ H5.out.mem HA.out HLW.out).mono ?_
      rintro e w6 ⟨rfl, hm6⟩
      have T6 : Hid (TabTo W c ⟨stR c.n (takeS c σ).S a 8 (leadW f), (takeS c σ).k, (takeS c σ).u⟩ Fm Fs w6) := Lib.hid (HC.out _ _ (tab_trans (fun _ h => .inl h) (fun _ h => .inl h) (Keeps.of_below B5.out) (H5.out.mm hm6)))
      have K6 : Hid (Hold [c.tb] w5 w6) := Lib.hid (by
        obtain ⟨_, _, _, k⟩ := hm6
        exact Hold.keeps k (fun b hb => by rw [List.mem_singleton.1 hb]; exact ⟨H5.out.hd.lt, H5.out.tm⟩))
      clear hlw hm6
      refine ⟨_, rfl, K6.out, ?_⟩
      simp only [Act.put, List.setIfInBounds_toArray, List.set_cons_zero, List.set_cons_succ]
      refine plan_end ?_
      go_wp2_with fail
      go_ret2
      exact ⟨rfl, T6.out⟩
    · rw [if_neg hE, if_neg hE]
      have b2 : (takeE c σ == 0) = false := by simpa using hE
      have b3 : (takeE c σ != 0) = true := by simpa using hE
      go_enter Tryz.func69, Tryz.ntmps69
      go_wp2_with fail
      refine (Load_any c.gm c.n a 8 Fm σ.S _ HT.out.mem HA.out).mono ?_
      rintro e w1 ⟨rfl, rfl⟩
      rw [← HX.out]
      go_wp2_with fail
      refine (HG.out _).mono ?_
      rintro e w2 ⟨rfl, hb⟩
      have T2 := Lib.hid (HT.out.below hb)
      have B2 := Lib.hid hb
      clear hb t0 tl
      go_wp2_with fail
      refine (take_any c σ Fm Fs _ (T2.out.below ((Below.refl _ w2).alloc (Nat.le_refl _) _))).mono ?_
      rintro e w3 ⟨rfl, hT3⟩
      have T3 : Hid (TabTo W c (takeS c σ) Fm Fs w3) := Lib.hid (tab_trans (fun _ h => .inl h) (fun _ h => .inl h) (Keeps.of_below (B2.out.trans (((Below.refl _ w2).alloc (Nat.le_refl _) _).mono B2.out.size))) hT3)
      clear hT3 T2 B2
      generalize takeF c σ = F at *
      go_wp2_with fail
      go_ret2
      exact ⟨rfl, T3.out⟩
  · rw [if_neg h0, if_neg h0, if_neg h0]
    have i0 : ¬ (x : Int) = 0 := by omega
    have b0 : ((x : Int) == 0) = false := by simpa using i0
    have b1 : ((x : Int) != 0) = true := by simpa using i0
    clear h0
    cases hlf : leafX x with
    | true =>
      have HLF := Lib.hid hlf
      clear hlf
      go_enter Tryz.func69, Tryz.ntmps69
      go_wp2_with fail
      refine (Load_any c.gm c.n a 8 Fm σ.S _ HT.out.mem HA.out).mono ?_
      rintro e w1 ⟨rfl, rfl⟩
      rw [← HX.out]
      go_wp2_with fail
      refine (get_any x _ HXL.out).mono ?_
      rintro e w2 ⟨rfl, hb⟩
      have B2 := Lib.hid hb
      clear hb t0 tl
      unfold entryV
      go_wp2_with fail
      refine (leafx_any x _).mono ?_
      rintro e w3 ⟨rfl, hb3⟩
      have T3 := Lib.hid (HT.out.to_below (B2.out.trans ((((Below.refl _ w2).alloc (Nat.le_refl _) _).trans (hb3.mono (by simp))).mono B2.out.size)))
      have H9 : Hid (w3.cell? ⟨w2.heap.size, 9, none⟩ = some (.int .u64 ((ppnX x : Nat) : Int))) := Lib.hid (by rw [cell_new hb3, ← ppn_x]; rfl)
      have hsz : w2.heap.size < w3.heap.size := by have := hb3.size; simp at this; omega
      clear hb3 B2
      rw [HLF.out]
      go_wp2_with fail
      go_ret2
      exact ⟨rfl, T3.out⟩
    | false =>
      have HLF := Lib.hid hlf
      clear hlf
      go_enter Tryz.func69, Tryz.ntmps69
      go_wp2_with fail
      refine (Load_any c.gm c.n a 8 Fm σ.S _ HT.out.mem HA.out).mono ?_
      rintro e w1 ⟨rfl, rfl⟩
      rw [← HX.out]
      go_wp2_with fail
      refine (get_any x _ HXL.out).mono ?_
      rintro e w2 ⟨rfl, hb⟩
      have B2 := Lib.hid hb
      clear hb t0 tl
      unfold entryV
      go_wp2_with fail
      refine (leafx_any x _).mono ?_
      rintro e w3 ⟨rfl, hb3⟩
      have T3 := Lib.hid (HT.out.to_below (B2.out.trans ((((Below.refl _ w2).alloc (Nat.le_refl _) _).trans (hb3.mono (by simp))).mono B2.out.size)))
      have H9 : Hid (w3.cell? ⟨w2.heap.size, 9, none⟩ = some (.int .u64 ((ppnX x : Nat) : Int))) := Lib.hid (by rw [cell_new hb3, ← ppn_x]; rfl)
      have hsz : w2.heap.size < w3.heap.size := by have := hb3.size; simp at this; omega
      clear hb3 B2
      rw [HLF.out]
      have h9 := H9.out
      go_wp2_with fail
      go_ret2
      exact ⟨rfl, T3.out⟩
end Go.Proofs.YtophcgbddccpeaaGreat

/- A page is mapped. -/
namespace Go.Proofs.YtophcgbddccpeaaGreat
open Go.RowKit

theorem Mem.Mem8 {w : World} {g n : Nat} {F : Nat → Prop} {S : Nat → List Nat} (h : Mem w g F n S) (a : Nat) : ldR n S a 8 < 18446744073709551616 := Mem.ld_lt h a
theorem hold2_below {a b : Nat} {w w' : World} (h : Below w.heap.size w w') (ha : a < w.heap.size) (hb : b < w.heap.size) : Hold [a, b] w w' := Hold.below h fun i hi => by
  rcases List.mem_cons.1 hi with e | hi
  · rw [e]; exact ha
  · rw [List.mem_singleton.1 hi]; exact hb
theorem hold2_keeps {a b : Nat} {F : Nat → Prop} {w w' : World} (h : Keeps F w w') (ha : a < w.heap.size) (hb : b < w.heap.size) (na : ¬ F a) (nb : ¬ F b) : Hold [a, b] w w' := Hold.keeps h fun i hi => by
  rcases List.mem_cons.1 hi with e | hi
  · rw [e]; exact ⟨ha, na⟩
  · rw [List.mem_singleton.1 hi]; exact ⟨hb, nb⟩
/-- The steps down that are left, then the page's entry. -/
def mapGo (c : TC) (va level x : Nat) : Nat → TS → Nat → Int × TS
  | 0, σ, t => if ldR c.n σ.S (atX va t level) 8 = 0 then (0, ⟨stR c.n σ.S (atX va t level) 8 x, σ.k, σ.u⟩) else (130, σ)
  | d + 1, σ, t => if leadE c σ (atX va t (level + (d + 1))) = 0 then mapGo c va level x d (leadS c σ (atX va t (level + (d + 1)))) (leadF c σ (atX va t (level + (d + 1)))) else (leadE c σ (atX va t (level + (d + 1))), leadS c σ (atX va t (level + (d + 1))))
def mapR (c : TC) (σ : TS) (va : Nat) (l : Int) (p : Pte) : Int × TS := if canonB va && mayB p l then mapGo c va l.toNat p.word (2 - l.toNat) σ c.root else (2, σ)
theorem leadF_lt {c : TC} {σ : TS} {a : Nat} {w : World} {Fm Fs : Nat → Prop} (hT : TabAt w c σ Fm Fs) : leadF c σ a < 18446744073709551616 := by
  unfold leadF
  split
  · split
    · rename_i h
      have := take_lt h hT
      omega
    · decide
  · split
    · decide
    · exact Nat.lt_trans (ppnX_lt _) (by decide)
set_option maxRecDepth 100000 in
set_option maxHeartbeats 1000000 in
theorem map_no (c : TC) (σ : TS) (Fm Fs : Nat → Prop) (va : Nat) (v r w x u g a d : Bool) (rsw : Int) (ppn : Nat) (l : Int) (W : World) (h : TabAt W c σ Fm Fs) (hv : va < 18446744073709551616) (hr : (Lit.int .i64 rsw).wf = true) (hp : ppn < 18446744073709551616) (hc : canonB va = true → mayB (⟨v, r, w, x, u, g, a, d, rsw, (ppn : Int)⟩ : Pte) l = false) :
    Calls Tryz.prog 43 #[.pointer (some ⟨c.tb, 0, none⟩), .int .u64 (va : Int), .int .i64 l, .agg #[.bool v, .bool r, .bool w, .bool x, .bool u, .bool g, .bool a, .bool d, .int .i64 rsw, .int .u64 (ppn : Int)]] W fun e w' => e = .returned (.int .i64 (mapR c σ va l (⟨v, r, w, x, u, g, a, d, rsw, (ppn : Int)⟩ : Pte)).1) ∧ TabTo W c (mapR c σ va l (⟨v, r, w, x, u, g, a, d, rsw, (ppn : Int)⟩ : Pte)).2 Fm Fs w' := by
  have HE : Hid (Below W.heap.size W (W.alloc (.cells #[.bool v, .bool r, .bool w, .bool x, .bool u, .bool g, .bool a, .bool d, .int .i64 rsw, .int .u64 (ppn : Int)] 96))) := Lib.hid ((Below.refl _ W).alloc (Nat.le_refl _) _)
  have HB : Hid (Blk (W.alloc (.cells #[.bool v, .bool r, .bool w, .bool x, .bool u, .bool g, .bool a, .bool d, .int .i64 rsw, .int .u64 (ppn : Int)] 96)) W.heap.size 96 #[.bool v, .bool r, .bool w, .bool x, .bool u, .bool g, .bool a, .bool d, .int .i64 rsw, .int .u64 (ppn : Int)]) := Lib.hid (Blkf.new_at _ _ _ _ rfl)
  have HSZ : Hid (W.heap.size < (W.alloc (.cells #[.bool v, .bool r, .bool w, .bool x, .bool u, .bool g, .bool a, .bool d, .int .i64 rsw, .int .u64 (ppn : Int)] 96)).heap.size) := Lib.hid (by rw [World.size_alloc]; omega)
  have H0 := Lib.hid (h.below HE.out)
  have HPB : Hid (¬ TabF c Fm Fs W.heap.size) := Lib.hid (fun hf => Nat.lt_irrefl _ (h.lt hf))
  have HR : Hid (mapR c σ va l (⟨v, r, w, x, u, g, a, d, rsw, (ppn : Int)⟩ : Pte) = (2, σ)) := Lib.hid (by
    unfold mapR
    cases hcc : canonB va with
    | false => rfl
    | true => rw [hc hcc]; rfl)
  rw [HR.out]
  have HV := Lib.hid hv
  have HRS := Lib.hid hr
  have HP := Lib.hid hp
  cases hcc : canonB va with
  | false =>
    have HCC := Lib.hid hcc
    clear h hv hr hp hc hcc
    go_enter Tryz.func43, Tryz.ntmps43
    go_wp2_with fail
    refine (canon_any va _ HV.out).mono ?_
    rintro e w1 ⟨rfl, rfl⟩
    rw [HCC.out]
    go_wp2_with fail
    go_ret
    exact ⟨rfl, tab_trans (fun _ h => .inl h) (fun _ h => .inl h) (Keeps.of_below HE.out) H0.out.self⟩
  | true =>
    have HCC := Lib.hid hcc
    have HMY := Lib.hid (hc hcc)
    clear h hv hr hp hc hcc
    go_enter Tryz.func43, Tryz.ntmps43
    go_upto_region 3 with fail
    obtain ⟨pb, hpb⟩ : ∃ q, q = W.heap.size := ⟨_, rfl⟩
    rw [← hpb] at HB HPB HSZ ⊢
    have HPP := Lib.hid hpb
    clear hpb
    generalize W.alloc (.cells #[.bool v, .bool r, .bool w, .bool x, .bool u, .bool g, .bool a, .bool d, .int .i64 rsw, .int .u64 (ppn : Int)] 96) = w0 at *
    have b0 := HB.out.cell 0
    have b1 := HB.out.cell 1
    have b2 := HB.out.cell 2
    have b3 := HB.out.cell 3
    have b4 := HB.out.cell 4
    have b5 := HB.out.cell 5
    have b6 := HB.out.cell 6
    have b7 := HB.out.cell 7
    have b8 := HB.out.cell 8
    have b9 := HB.out.cell 9
    simp only [List.getElem?_toArray, List.getElem?_cons_zero, List.getElem?_cons_succ] at b0 b1 b2 b3 b4 b5 b6 b7 b8 b9
    have bl := HB.out.lt
    go_wp2_with fail
    refine (canon_any va _ HV.out).mono ?_
    rintro e w1 ⟨rfl, rfl⟩
    rw [HCC.out]
    go_wp2_with fail
    refine (may_any v r w x u g a d rsw ppn l _ HRS.out HP.out).mono ?_
    rintro e w2 ⟨rfl, hb⟩
    rw [HMY.out]
    have T2 := Lib.hid (tab_trans (c := c) (Fm := Fm) (Fs := Fs) (fun _ h => .inl h) (fun _ h => .inl h) (Keeps.of_below HE.out) (H0.out.to_below hb))
    clear hb b0 b1 b2 b3 b4 b5 b6 b7 b8 b9 bl
    go_wp2_with fail
    go_ret
    exact ⟨rfl, T2.out⟩
set_option maxRecDepth 100000 in
set_option maxHeartbeats 4000000 in
theorem map_yes (c : TC) (σ : TS) (Fm Fs : Nat → Prop) (va : Nat) (v r w x u g a d : Bool) (rsw : Int) (ppn : Nat) (L : Nat) (W : World) (h : TabAt W c σ Fm Fs) (hv : va < 18446744073709551616) (hr : (Lit.int .i64 rsw).wf = true) (hp : ppn < 18446744073709551616) (hc : canonB va = true) (hm : mayB (⟨v, r, w, x, u, g, a, d, rsw, (ppn : Int)⟩ : Pte) (L : Int) = true) (hL : L ≤ 2) :
    Calls Tryz.prog 43 #[.pointer (some ⟨c.tb, 0, none⟩), .int .u64 (va : Int), .int .i64 (L : Int), .agg #[.bool v, .bool r, .bool w, .bool x, .bool u, .bool g, .bool a, .bool d, .int .i64 rsw, .int .u64 (ppn : Int)]] W fun e w' => e = .returned (.int .i64 (mapR c σ va (L : Int) (⟨v, r, w, x, u, g, a, d, rsw, (ppn : Int)⟩ : Pte)).1) ∧ TabTo W c (mapR c σ va (L : Int) (⟨v, r, w, x, u, g, a, d, rsw, (ppn : Int)⟩ : Pte)).2 Fm Fs w' := by
  have HE : Hid (Below W.heap.size W (W.alloc (.cells #[.bool v, .bool r, .bool w, .bool x, .bool u, .bool g, .bool a, .bool d, .int .i64 rsw, .int .u64 (ppn : Int)] 96))) := Lib.hid ((Below.refl _ W).alloc (Nat.le_refl _) _)
  have HB : Hid (Blk (W.alloc (.cells #[.bool v, .bool r, .bool w, .bool x, .bool u, .bool g, .bool a, .bool d, .int .i64 rsw, .int .u64 (ppn : Int)] 96)) W.heap.size 96 #[.bool v, .bool r, .bool w, .bool x, .bool u, .bool g, .bool a, .bool d, .int .i64 rsw, .int .u64 (ppn : Int)]) := Lib.hid (Blkf.new_at _ _ _ _ rfl)
  have HSZ : Hid (W.heap.size < (W.alloc (.cells #[.bool v, .bool r, .bool w, .bool x, .bool u, .bool g, .bool a, .bool d, .int .i64 rsw, .int .u64 (ppn : Int)] 96)).heap.size) := Lib.hid (by rw [World.size_alloc]; omega)
  have H0 := Lib.hid (h.below HE.out)
  have HPB : Hid (¬ TabF c Fm Fs W.heap.size) := Lib.hid (fun hf => Nat.lt_irrefl _ (h.lt hf))
  obtain ⟨wd, hwd⟩ : ∃ q, q = putV v r w x u g a d rsw (ppn : Int) := ⟨_, rfl⟩
  have HPUT : Hid (∀ w', Calls Tryz.prog 71 #[.agg #[.bool v, .bool r, .bool w, .bool x, .bool u, .bool g, .bool a, .bool d, .int .i64 rsw, .int .u64 (ppn : Int)]] w' fun e w'' => e = .returned (.int .u64 (wd : Int)) ∧ Below w'.heap.size w' w'') := Lib.hid (fun w' => by
    rw [hwd]; exact put_any v r w x u g a d rsw (ppn : Int) w' (by omega))
  have HWL : Hid (wd < 18446744073709551616) := Lib.hid (by
    rw [hwd]
    have h0 := bt_le v
    have h1 := bt_le r
    have h2 := bt_le w
    have h3 := bt_le x
    have h4 := bt_le u
    have h5 := bt_le g
    have h6 := bt_le a
    have h7 := bt_le d
    unfold putV
    omega)
  obtain ⟨R, hR⟩ : ∃ R, R = mapR c σ va (L : Int) (⟨v, r, w, x, u, g, a, d, rsw, (ppn : Int)⟩ : Pte) := ⟨_, rfl⟩
  have HR : Hid (mapGo c va L wd (2 - L) σ c.root = R) := Lib.hid (by
    rw [hR]; unfold mapR
    rw [hc, hm, hwd]
    rfl)
  rw [← hR]
  have HV := Lib.hid hv
  have HRS := Lib.hid hr
  have HP := Lib.hid hp
  have HCC := Lib.hid hc
  have HMY := Lib.hid hm
  have HRO : Hid (c.root < 18446744073709551616 → True) := Lib.hid (fun _ => trivial)
  clear h hv hr hp hc hm hwd hR HRO
  go_enter Tryz.func43, Tryz.ntmps43
  go_upto_region 3 with fail
  obtain ⟨pb, hpb⟩ : ∃ q, q = W.heap.size := ⟨_, rfl⟩
  rw [← hpb] at HB HPB HSZ ⊢
  have HPP := Lib.hid hpb
  clear hpb
  generalize W.alloc (.cells #[.bool v, .bool r, .bool w, .bool x, .bool u, .bool g, .bool a, .bool d, .int .i64 rsw, .int .u64 (ppn : Int)] 96) = w0 at *
  have b0 := HB.out.cell 0
  have b1 := HB.out.cell 1
  have b2 := HB.out.cell 2
  have b3 := HB.out.cell 3
  have b4 := HB.out.cell 4
  have b5 := HB.out.cell 5
  have b6 := HB.out.cell 6
  have b7 := HB.out.cell 7
  have b8 := HB.out.cell 8
  have b9 := HB.out.cell 9
  simp only [List.getElem?_toArray, List.getElem?_cons_zero, List.getElem?_cons_succ] at b0 b1 b2 b3 b4 b5 b6 b7 b8 b9
  have bl := HB.out.lt
  go_wp2_with fail
  refine (canon_any va _ HV.out).mono ?_
  rintro e w1 ⟨rfl, rfl⟩
  rw [HCC.out]
  go_wp2_with fail
  refine (may_any v r w x u g a d rsw ppn (L : Int) _ HRS.out HP.out).mono ?_
  rintro e w2 ⟨rfl, hb⟩
  rw [HMY.out]
  have T2 := Lib.hid (H0.out.to_below hb)
  have H2 := Lib.hid (H0.out.below hb)
  clear hb b0 b1 b2 b3 b4 b5 b6 b7 b8 b9 bl
  have t2 := H2.out.hd.cell 2
  have tl := H2.out.hd.lt
  simp only [List.getElem?_toArray, List.getElem?_cons_zero, List.getElem?_cons_succ] at t2
  have hrw : IntKind.u64.wrap (c.root : Int) = (c.root : Int) := by rw [IntKind.wrap_u64]; have := H2.out.rl; omega
  go_wp2_with fail
  clear t2 tl hrw
  go_loopw [8, 9, 10] (fun _ f s wr => ∃ (e m t : Nat) (σ1 : TS), m = L + e ∧ m ≤ 2 ∧ t < 18446744073709551616 ∧ s = .int .i64 (m : Int) ∧ f = .int .u64 (t : Int) ∧ mapGo c va L wd e σ1 t = R ∧ TabTo w0 c σ1 Fm Fs wr) (fun _ _ s _ => (intOf s).toNat)
  case atStart => exact ⟨2 - L, 2, c.root, σ, by omega, by omega, by have := H2.out.rl; omega, rfl, rfl, HR.out, T2.out⟩
  clear T2 H2 HR
  case round =>
    obtain ⟨dd, m, t, σ1, hm, hm2, ht, rfl, rfl, hgo, hT⟩ := hrel
    obtain ⟨Fm1, Fs1, h1, hF1, hG1, k1⟩ := hT
    have H1 := Lib.hid h1
    have HGO := Lib.hid hgo
    have HM := Lib.hid hm
    have HTT := Lib.hid ht
    have HC1 : Hid (∀ σ2 w2, TabTo wr c σ2 Fm1 Fs1 w2 → TabTo w0 c σ2 Fm Fs w2) := Lib.hid (fun σ2 w2 h2 => tab_trans hF1 hG1 k1 h2)
    have HC0 : Hid (∀ σ2 w2, TabTo w0 c σ2 Fm Fs w2 → TabTo W c σ2 Fm Fs w2) := Lib.hid (fun σ2 w2 h2 => tab_trans (fun _ h => .inl h) (fun _ h => .inl h) (Keeps.of_below HE.out) h2)
    have HB1 : Hid (Blk wr pb 96 #[.bool v, .bool r, .bool w, .bool x, .bool u, .bool g, .bool a, .bool d, .int .i64 rsw, .int .u64 (ppn : Int)]) := Lib.hid (k1.blk HB.out HPB.out)
    have HPN : Hid (¬ Fm1 pb) := Lib.hid (fun hf => (hF1 pb hf).elim (fun h => HPB.out (.inl h)) (fun h => by have := HSZ.out; omega))
    have t0 := h1.hd.cell 0
    have tl := h1.hd.lt
    simp only [List.getElem?_toArray, List.getElem?_cons_zero, List.getElem?_cons_succ] at t0
    clear hgo ht h1 hF1 hG1 k1
    rcases Nat.eq_zero_or_pos dd with h0 | h0
    · subst h0
      have hmL : m = L := by omega
      clear hm
      subst hmL
      have i1 : ¬ (m : Int) < (m : Int) := by omega
      clear HM
      go_wp2_with fail
      refine (at_any t va m _ HV.out).mono ?_
      rintro e w3 ⟨rfl, rfl⟩
      obtain ⟨A, hA⟩ : ∃ A, A = atX va t m := ⟨_, rfl⟩
      have HAA := Lib.hid hA
      have hal : A < 18446744073709551616 := by rw [hA]; exact atX_lt _ _ _
      have HAL := Lib.hid hal
      rw [← hA]
      clear hA hal
      go_wp2_with fail
      refine (Load_any c.gm c.n A 8 Fm1 σ1.S _ H1.out.mem HAL.out).mono ?_
      rintro e w4 ⟨rfl, rfl⟩
      by_cases hx : ldR c.n σ1.S A 8 = 0
      · have HRR : Hid (R = (0, ⟨stR c.n σ1.S A 8 wd, σ1.k, σ1.u⟩)) := Lib.hid (by
          rw [← HGO.out]
          show (if ldR c.n σ1.S (atX va t m) 8 = 0 then _ else _) = _
          rw [← HAA.out, if_pos hx])
        rw [hx]
        clear hx t0 tl i1
        go_wp2_with fail
        have HD4 := Lib.hid (H1.out.hd.drew)
        have HB4 := Lib.hid (HB1.out.drew)
        have s0 := fun (W' : World) (h : Hold [c.tb, pb] wr.drew W') => (h.cell (b := c.tb) (by simp) 0).trans (HD4.out.cell 0)
        simp only [List.getElem?_toArray, List.getElem?_cons_zero, List.getElem?_cons_succ] at s0
        have b0 := fun (W' : World) (h : Hold [c.tb, pb] wr.drew W') => (h.cell (b := pb) (by simp) 0).trans (HB4.out.cell 0)
        have b1 := fun (W' : World) (h : Hold [c.tb, pb] wr.drew W') => (h.cell (b := pb) (by simp) 1).trans (HB4.out.cell 1)
        have b2 := fun (W' : World) (h : Hold [c.tb, pb] wr.drew W') => (h.cell (b := pb) (by simp) 2).trans (HB4.out.cell 2)
        have b3 := fun (W' : World) (h : Hold [c.tb, pb] wr.drew W') => (h.cell (b := pb) (by simp) 3).trans (HB4.out.cell 3)
        have b4 := fun (W' : World) (h : Hold [c.tb, pb] wr.drew W') => (h.cell (b := pb) (by simp) 4).trans (HB4.out.cell 4)
        have b5 := fun (W' : World) (h : Hold [c.tb, pb] wr.drew W') => (h.cell (b := pb) (by simp) 5).trans (HB4.out.cell 5)
        have b6 := fun (W' : World) (h : Hold [c.tb, pb] wr.drew W') => (h.cell (b := pb) (by simp) 6).trans (HB4.out.cell 6)
        have b7 := fun (W' : World) (h : Hold [c.tb, pb] wr.drew W') => (h.cell (b := pb) (by simp) 7).trans (HB4.out.cell 7)
        have b8 := fun (W' : World) (h : Hold [c.tb, pb] wr.drew W') => (h.cell (b := pb) (by simp) 8).trans (HB4.out.cell 8)
        have b9 := fun (W' : World) (h : Hold [c.tb, pb] wr.drew W') => (h.cell (b := pb) (by simp) 9).trans (HB4.out.cell 9)
        simp only [List.getElem?_toArray, List.getElem?_cons_zero, List.getElem?_cons_succ] at b0 b1 b2 b3 b4 b5 b6 b7 b8 b9
        refine wp_region_plan_by (Hold [c.tb, pb]) (later_hold _) [(0, false), (1, false), (2, false), (3, false), (4, false), (5, false), (6, true), (7, true)] (by kernel_rfl) (by kernel_rfl) (fun _ d _ _ _ h => by cases d <;> exact h) ?_
        iterate 6 (refine plan_take (v := ?_) rfl (by kernel_rfl) ?_ ?_; rotate_left; (focus (intro w' hw'; try go_simp; try with_reducible rfl)); simp only [Act.put, List.setIfInBounds_toArray, List.set_cons_zero, List.set_cons_succ])
        clear s0 b0 b1 b2 b3 b4 b5 b6 b7 b8 b9
        refine plan_call rfl (by kernel_rfl) (by go_simp; exact ⟨rfl, rfl⟩) ?_
        refine (HPUT.out _).mono ?_
        rintro e w5 ⟨rfl, hb5⟩
        refine ⟨_, rfl, (hold2_below hb5 HD4.out.lt HB4.out.lt), ?_⟩
        simp only [Act.put, List.setIfInBounds_toArray, List.set_cons_zero, List.set_cons_succ]
        have B5 : Hid (Below wr.heap.size wr w5) := Lib.hid ((Below.refl _ wr).drew.trans hb5)
        have H5 := Lib.hid (H1.out.below B5.out)
        clear hb5
        refine plan_call rfl (by kernel_rfl) (by go_simp; exact ⟨rfl, rfl⟩) ?_
        refine (Store_any c.gm c.n A 8 wd Fm1 σ1.S _ H5.out.mem HAL.out HWL.out).mono ?_
        rintro e w6 ⟨rfl, hm6⟩
        have T6 : Hid (TabTo W c ⟨stR c.n σ1.S A 8 wd, σ1.k, σ1.u⟩ Fm Fs w6) := Lib.hid (HC0.out _ _ (HC1.out _ _ (tab_trans (fun _ h => .inl h) (fun _ h => .inl h) (Keeps.of_below B5.out) (H5.out.mm hm6))))
        have K6 : Hid (Hold [c.tb, pb] w5 w6) := Lib.hid (by
          obtain ⟨_, _, _, k⟩ := hm6
          exact hold2_keeps k H5.out.hd.lt (Nat.lt_of_lt_of_le HB1.out.lt B5.out.size) H5.out.tm HPN.out)
        clear hm6
        refine ⟨_, rfl, K6.out, ?_⟩
        simp only [Act.put, List.setIfInBounds_toArray, List.set_cons_zero, List.set_cons_succ]
        refine plan_end ?_
        go_wp2_with fail
        go_ret
        exact ⟨congrArg (fun z : Int × TS => Ending.returned (Value.int .i64 z.1)) HRR.out.symm, HRR.out ▸ T6.out⟩
      · have HRR : Hid (R = (130, σ1)) := Lib.hid (by
          rw [← HGO.out]
          show (if ldR c.n σ1.S (atX va t m) 8 = 0 then _ else _) = _
          rw [← HAA.out, if_neg hx])
        have hxi : ¬ ((ldR c.n σ1.S A 8 : Nat) : Int) = 0 := by omega
        have b1 : (((ldR c.n σ1.S A 8 : Nat) : Int) != 0) = true := by simpa using hxi
        have b0 : (((ldR c.n σ1.S A 8 : Nat) : Int) == 0) = false := by simpa using hxi
        have T6 : Hid (TabTo W c σ1 Fm Fs wr) := Lib.hid (HC0.out _ _ (HC1.out _ _ H1.out.self))
        clear hx t0 tl i1
        go_wp2_with fail
        go_ret
        exact ⟨congrArg (fun z : Int × TS => Ending.returned (Value.int .i64 z.1)) HRR.out.symm, HRR.out ▸ T6.out⟩
    · obtain ⟨q, rfl⟩ : ∃ q, dd = q + 1 := ⟨dd - 1, by omega⟩
      obtain ⟨j, rfl⟩ : ∃ j, m = j + 1 := ⟨m - 1, by omega⟩
      have i1 : (L : Int) < ((j + 1 : Nat) : Int) := by omega
      have i2 : (L : Int) < (j : Int) + 1 := by omega
      clear hm h0
      go_wp2_with fail
      refine (at_any t va (j + 1) _ HV.out).mono ?_
      rintro e w3 ⟨rfl, rfl⟩
      obtain ⟨A, hA⟩ : ∃ A, A = atX va t (j + 1) := ⟨_, rfl⟩
      have HAA := Lib.hid hA
      have hal : A < 18446744073709551616 := by rw [hA]; exact atX_lt _ _ _
      have HAL := Lib.hid hal
      rw [← hA]
      clear hA hal
      go_wp2_with fail
      refine (lead_any c σ1 Fm1 Fs1 A _ H1.out HAL.out).mono ?_
      rintro e w4 ⟨rfl, hT4⟩
      have T4 := Lib.hid (HC1.out _ _ hT4)
      have HLF := Lib.hid (leadF_lt (a := A) H1.out)
      clear hT4 t0 tl
      have HST : Hid (mapGo c va L wd (q + 1) σ1 t = if leadE c σ1 A = 0 then mapGo c va L wd q (leadS c σ1 A) (leadF c σ1 A) else (leadE c σ1 A, leadS c σ1 A)) := Lib.hid (by
        rw [HAA.out, show j + 1 = L + (q + 1) from HM.out]
        rfl)
      by_cases hE : leadE c σ1 A = 0
      · have HGO2 : Hid (mapGo c va L wd q (leadS c σ1 A) (leadF c σ1 A) = R) := Lib.hid (by rw [← HGO.out, HST.out, if_pos hE])
        rw [hE]
        generalize leadF c σ1 A = t2 at *
        generalize leadS c σ1 A = σ2 at *
        clear hE HST HGO i1
        go_wp2_with fail
        go_roundw
        case rel => exact ⟨q, j, t2, σ2, by have := HM.out; omega, by omega, HLF.out, by go_num, rfl, HGO2.out, T4.out⟩
        case measure => simp [intOf]
      · have HRR : Hid (R = (leadE c σ1 A, leadS c σ1 A)) := Lib.hid (by rw [← HGO.out, HST.out, if_neg hE])
        have b1 : (leadE c σ1 A != 0) = true := by simpa using hE
        have b0 : (leadE c σ1 A == 0) = false := by simpa using hE
        have T6 := Lib.hid (HC0.out _ _ T4.out)
        clear HST HGO i1
        generalize leadE c σ1 A = E at *
        generalize leadF c σ1 A = t2 at *
        go_wp2_with fail
        go_ret
        exact ⟨congrArg (fun z : Int × TS => Ending.returned (Value.int .i64 z.1)) HRR.out.symm, HRR.out ▸ T6.out⟩
end Go.Proofs.YtophcgbddccpeaaGreat

/- What is found; an entry is changed, taken away. -/
namespace Go.Proofs.YtophcgbddccpeaaGreat
open Go.RowKit

theorem wo_store_row {P : Program} {o : Oper} {a : Act} {w : World} {K : Act → World → Prop} {Q : Exit → Act → World → Prop} (ty : TypeId) (x y : Operand) (ho : o.op = .store ty x y) (g : Nat) (t : TypeId) (old cs : Array Value) (hx : a.eval x = .pointer (some ⟨g, 0, none⟩)) (hy : a.eval y = .agg cs)
    (hg : Blk w g t old) (hs : old.size = cs.size) (ht : rowT P ty cs.size = true) (h1 : cs.all (·.oneCell') = true) (h : K (a.put o.dst undef) (w.setRow g cs)) : o.wp P a w K Q := by
  obtain ⟨d, _, _, h3⟩ := rowT_spec ht
  exact wp_store_row ty x y ho g cs hx hy t old hg h3 hs h1 h
theorem hold3_below {a b c : Nat} {w w' : World} (h : Below w.heap.size w w') (ha : a < w.heap.size) (hb : b < w.heap.size) (hc : c < w.heap.size) : Hold [a, b, c] w w' := Hold.below h fun i hi => by
  simp only [List.mem_cons, List.not_mem_nil, or_false] at hi
  rcases hi with rfl | rfl | rfl <;> assumption
theorem hold3_keeps {a b c : Nat} {F : Nat → Prop} {w w' : World} (h : Keeps F w w') (ha : a < w.heap.size) (hb : b < w.heap.size) (hc : c < w.heap.size) (na : ¬ F a) (nb : ¬ F b) (nc : ¬ F c) : Hold [a, b, c] w w' := Hold.keeps h fun i hi => by
  simp only [List.mem_cons, List.not_mem_nil, or_false] at hi
  rcases hi with rfl | rfl | rfl
  · exact ⟨ha, na⟩
  · exact ⟨hb, nb⟩
  · exact ⟨hc, nc⟩
def findT (c : TC) (σ : TS) (va : Nat) : Fd := findW c.n σ.S true c.root va
theorem findF_err {n : Nat} {S : Nat → List Nat} {va : Nat} {e : Int} : ∀ {l t : Nat}, findF n S va l t = .err e → e ≠ 0
  | 0, t, h => by
    unfold findF fdAt at h
    repeat' split at h
    all_goals first | (injection h with h; omega) | cases h
  | l + 1, t, h => by
    unfold findF fdAt at h
    split at h
    · split at h
      · split at h
        · split at h
          · cases h
          · injection h with h; omega
        · split at h
          · exact findF_err h
          · injection h with h; omega
      · injection h with h; omega
    · injection h with h; omega
theorem findT_err {c : TC} {σ : TS} {va : Nat} {e : Int} (h : findT c σ va = .err e) : e ≠ 0 := by
  unfold findT findW at h
  rw [if_pos rfl] at h
  split at h
  · exact findF_err h
  · injection h with h; omega
theorem findT_leaf {c : TC} {σ : TS} {va x l a : Nat} (h : findT c σ va = .leaf x l a) : l ≤ 2 ∧ a % 8 = 0 ∧ a < 4096 * c.n ∧ x = ldR c.n σ.S a 8 := by
  unfold findT findW at h
  rw [if_pos rfl] at h
  split at h
  · obtain ⟨h1, h2, h3, h4⟩ := find_leaf h
    exact ⟨h1, h2, h3, h4⟩
  · cases h
set_option maxRecDepth 100000 in
set_option maxHeartbeats 1500000 in
theorem Find_t (c : TC) (σ : TS) (Fm Fs : Nat → Prop) (va : Nat) (W : World) (h : TabAt W c σ Fm Fs) (hv : va < 18446744073709551616) :
    Calls Tryz.prog 73 #[.pointer (some ⟨c.tb, 0, none⟩), .int .u64 (va : Int)] W fun e w' => e = .returned (.tuple #[fdV (findT c σ va), .int .i64 (fdE (findT c σ va))]) ∧ Below W.heap.size W w' := by
  have HE : Hid (Below W.heap.size W (W.alloc (.cells #[.bool false, .bool false, .bool false, .bool false, .bool false, .bool false, .bool false, .bool false, .int .i64 0, .int .u64 0, .int .i64 0, .int .u64 0] 98))) := Lib.hid ((Below.refl _ W).alloc (Nat.le_refl _) _)
  have HB : Hid (Blk (W.alloc (.cells #[.bool false, .bool false, .bool false, .bool false, .bool false, .bool false, .bool false, .bool false, .int .i64 0, .int .u64 0, .int .i64 0, .int .u64 0] 98)) W.heap.size 98 #[.bool false, .bool false, .bool false, .bool false, .bool false, .bool false, .bool false, .bool false, .int .i64 0, .int .u64 0, .int .i64 0, .int .u64 0]) := Lib.hid (Blkf.new_at _ _ _ _ rfl)
  have HL : Hid (c.tb < W.heap.size) := Lib.hid h.hd.lt
  have H0 := Lib.hid (h.below HE.out)
  have HV := Lib.hid hv
  clear h hv
  go_enter Tryz.func73, Tryz.ntmps73
  go_upto_region 3 with fail
  obtain ⟨rb, hrb⟩ : ∃ q, q = W.heap.size := ⟨_, rfl⟩
  rw [← hrb] at HB HL ⊢
  have HRB := Lib.hid hrb
  clear hrb
  generalize W.alloc (.cells #[.bool false, .bool false, .bool false, .bool false, .bool false, .bool false, .bool false, .bool false, .int .i64 0, .int .u64 0, .int .i64 0, .int .u64 0] 98) = w0 at *
  have HD := Lib.hid H0.out.hd.drew
  have HB0 := Lib.hid HB.out.drew
  have s0 := fun (W' : World) (h : Hold [c.tb] w0.drew W') => (h.cell (List.mem_singleton.2 rfl) 0).trans (HD.out.cell 0)
  have s2 := fun (W' : World) (h : Hold [c.tb] w0.drew W') => (h.cell (List.mem_singleton.2 rfl) 2).trans (HD.out.cell 2)
  simp only [List.getElem?_toArray, List.getElem?_cons_zero, List.getElem?_cons_succ] at s0 s2
  have hrw : IntKind.u64.wrap (c.root : Int) = (c.root : Int) := by rw [IntKind.wrap_u64]; have := H0.out.rl; omega
  refine wp_region_plan_by (Hold [c.tb]) (later_hold _) [(0, false), (1, false), (2, false), (3, false), (4, false), (5, false), (6, false), (7, false), (8, false), (10, false), (9, false), (11, true), (12, false), (13, false), (14, true), (15, false)] (by kernel_rfl) (by kernel_rfl) (fun _ d _ _ _ h => by cases d <;> exact h) ?_
  iterate 11 (refine plan_take (v := ?_) rfl (by kernel_rfl) ?_ ?_; rotate_left; (focus (intro w' hw'; try go_simp; try with_reducible rfl)); simp only [Act.put, List.setIfInBounds_toArray, List.set_cons_zero, List.set_cons_succ])
  clear s0 s2 hrw
  refine plan_call rfl (by kernel_rfl) (by go_simp; exact ⟨rfl, rfl⟩) ?_
  refine (Find_any c.gm c.n va c.root 0 true Fm σ.S _ (H0.out.mem.drew) HV.out (by have := H0.out.rl; omega)).mono ?_
  rintro e w1 ⟨rfl, hb⟩
  refine ⟨_, rfl, (Hold.below hb (fun b hb => by rw [List.mem_singleton.1 hb]; exact HD.out.lt)), ?_⟩
  simp only [Act.put, List.setIfInBounds_toArray, List.set_cons_zero, List.set_cons_succ]
  have B1 : Hid (Below w0.heap.size w0 w1) := Lib.hid ((Below.refl _ w0).drew.trans hb)
  have HB1 := Lib.hid (HB.out.below B1.out HB.out.lt)
  have HD1 := Lib.hid (H0.out.hd.below B1.out H0.out.hd.lt)
  clear hb
  rw [show findW c.n σ.S true c.root va = findT c σ va from rfl, fdV_cs]
  iterate 2 (refine plan_take (v := ?_) rfl (by kernel_rfl) ?_ ?_; rotate_left; (focus (intro w' hw'; try go_simp; try with_reducible rfl)); simp only [Act.put, List.setIfInBounds_toArray, List.set_cons_zero, List.set_cons_succ])
  refine plan_turn rfl (by kernel_rfl) (fun K hK => ?_)
  refine wo_store_row 98 (.tmp 4) (.tmp 21) rfl rb 98 _ (fdL (findT c σ va)).cs rfl rfl HB1.out (by rw [lcs_size]; rfl) (lrow _) (lcs_one _) ?_
  refine hK _ _ ⟨fun b hb => setRow_other _ _ _ _ (by rw [List.mem_singleton.1 hb]; have := HL.out; omega), ?_⟩
  clear hK K
  have HB2 := Lib.hid (Blkf.setRow HB1.out (fdL (findT c σ va)).cs)
  have E2 : Hid (Below W.heap.size W (w1.setRow rb (fdL (findT c σ va)).cs)) := Lib.hid (HE.out.trans (B1.out.mono HE.out.size) |>.trans ((Keeps.setRow (F := fun b => b = rb) (Keeps.refl _ _) (.inl rfl) _).below (fun i e => by rw [e, HRB.out]; exact Nat.le_refl _) (Nat.le_trans HE.out.size B1.out.size)))
  generalize w1.setRow rb (fdL (findT c σ va)).cs = w2 at *
  iterate 1 (refine plan_take (v := ?_) rfl (by kernel_rfl) ?_ ?_; rotate_left; (focus (intro w' hw'; try go_simp; try with_reducible rfl)); simp only [Act.put, List.setIfInBounds_toArray, List.set_cons_zero, List.set_cons_succ])
  refine plan_end ?_
  go_wp2_with fail
  refine bodyPost_ret (v := .tuple #[.agg (fdL (findT c σ va)).cs, .int .i64 (fdE (findT c σ va))]) (res_cell_slot Tryz.results73 _ _ rb 98 _ _ rfl rfl HB2.out (lrow _)) rfl ?_
  exact ⟨by rw [fdV_cs], E2.out⟩
def changeR (c : TC) (σ : TS) (va : Nat) (p : Pte) : Int × TS :=
  match findT c σ va with
  | .err e => (e, σ)
  | .leaf _ l a => if mayB p (l : Int) then (0, ⟨stR c.n σ.S a 8 p.word, σ.k, σ.u⟩) else (2, σ)
def pte0 : Pte := ⟨false, false, false, false, false, false, false, false, 0, 0⟩
def unmapR (c : TC) (σ : TS) (va : Nat) : Pte × Int × TS :=
  match findT c σ va with
  | .err e => (pte0, e, σ)
  | .leaf x _ a => (entP x, 0, ⟨stR c.n σ.S a 8 0, σ.k, σ.u⟩)
theorem tab_up {W w0 w' : World} {c : TC} {σ2 : TS} {Fm Fs : Nat → Prop} (hE : Below W.heap.size W w0) (h : TabTo w0 c σ2 Fm Fs w') : TabTo W c σ2 Fm Fs w' :=
  tab_trans (fun _ h => .inl h) (fun _ h => .inl h) (Keeps.of_below hE) h
set_option maxRecDepth 100000 in
set_option maxHeartbeats 1500000 in
theorem change_err (c : TC) (σ : TS) (Fm Fs : Nat → Prop) (va : Nat) (v r w x u g a d : Bool) (rsw : Int) (ppn : Nat) (W : World) (h : TabAt W c σ Fm Fs) (hv : va < 18446744073709551616) (hr : (Lit.int .i64 rsw).wf = true) (hp : ppn < 18446744073709551616) (e : Int) (hf : findT c σ va = .err e) :
    Calls Tryz.prog 48 #[.pointer (some ⟨c.tb, 0, none⟩), .int .u64 (va : Int), .agg #[.bool v, .bool r, .bool w, .bool x, .bool u, .bool g, .bool a, .bool d, .int .i64 rsw, .int .u64 (ppn : Int)]] W fun e w' => e = .returned (.int .i64 (changeR c σ va (⟨v, r, w, x, u, g, a, d, rsw, (ppn : Int)⟩ : Pte)).1) ∧ TabTo W c (changeR c σ va (⟨v, r, w, x, u, g, a, d, rsw, (ppn : Int)⟩ : Pte)).2 Fm Fs w' := by
  have HE : Hid (Below W.heap.size W (W.alloc (.cells #[.bool v, .bool r, .bool w, .bool x, .bool u, .bool g, .bool a, .bool d, .int .i64 rsw, .int .u64 (ppn : Int)] 96))) := Lib.hid ((Below.refl _ W).alloc (Nat.le_refl _) _)
  have HB : Hid (Blk (W.alloc (.cells #[.bool v, .bool r, .bool w, .bool x, .bool u, .bool g, .bool a, .bool d, .int .i64 rsw, .int .u64 (ppn : Int)] 96)) W.heap.size 96 #[.bool v, .bool r, .bool w, .bool x, .bool u, .bool g, .bool a, .bool d, .int .i64 rsw, .int .u64 (ppn : Int)]) := Lib.hid (Blkf.new_at _ _ _ _ rfl)
  have H0 := Lib.hid (h.below HE.out)
  have HPB : Hid (¬ TabF c Fm Fs W.heap.size) := Lib.hid (fun hf => Nat.lt_irrefl _ (h.lt hf))
  have HV := Lib.hid hv
  have HRS := Lib.hid hr
  have HP := Lib.hid hp
  clear h hv hr hp
  have HFD := Lib.hid hf
  have HR : Hid (changeR c σ va (⟨v, r, w, x, u, g, a, d, rsw, (ppn : Int)⟩ : Pte) = (e, σ)) := Lib.hid (by unfold changeR; rw [hf])
  rw [HR.out]
  have hne := findT_err hf
  have b1 : (e != 0) = true := by simpa using hne
  have b0 : (e == 0) = false := by simpa using hne
  clear hf
  go_enter Tryz.func48, Tryz.ntmps48
  go_upto_region 1 with fail
  obtain ⟨pb, hpb⟩ : ∃ q, q = W.heap.size := ⟨_, rfl⟩
  rw [← hpb] at HB HPB ⊢
  clear hpb
  generalize W.alloc (.cells #[.bool v, .bool r, .bool w, .bool x, .bool u, .bool g, .bool a, .bool d, .int .i64 rsw, .int .u64 (ppn : Int)] 96) = w0 at *
  go_wp2_with fail
  refine (Find_t c σ Fm Fs va _ H0.out HV.out).mono ?_
  rintro e1 w1 ⟨rfl, hb⟩
  rw [HFD.out]
  have HB1 := Lib.hid (HB.out.below hb HB.out.lt)
  have H1 := Lib.hid (H0.out.below hb)
  have E1 := Lib.hid (HE.out.trans (hb.mono HE.out.size))
  clear hb H0 HB HE
  unfold fdV fdE
  have T1 := Lib.hid (TabTo.below (H1.out.self) ((Below.refl _ w1).alloc (Nat.le_refl _) (.cells #[.bool false, .bool false, .bool false, .bool false, .bool false, .bool false, .bool false, .bool false, .int .i64 0, .int .u64 0, .int .i64 0, .int .u64 0] 98)))
  go_wp2_with fail
  go_ret
  exact ⟨rfl, tab_up E1.out T1.out⟩
set_option maxRecDepth 100000 in
set_option maxHeartbeats 1500000 in
theorem change_leaf (c : TC) (σ : TS) (Fm Fs : Nat → Prop) (va : Nat) (v r w x u g a d : Bool) (rsw : Int) (ppn : Nat) (W : World) (h : TabAt W c σ Fm Fs) (hv : va < 18446744073709551616) (hr : (Lit.int .i64 rsw).wf = true) (hp : ppn < 18446744073709551616) (X L A : Nat) (hf : findT c σ va = .leaf X L A) :
    Calls Tryz.prog 48 #[.pointer (some ⟨c.tb, 0, none⟩), .int .u64 (va : Int), .agg #[.bool v, .bool r, .bool w, .bool x, .bool u, .bool g, .bool a, .bool d, .int .i64 rsw, .int .u64 (ppn : Int)]] W fun e w' => e = .returned (.int .i64 (changeR c σ va (⟨v, r, w, x, u, g, a, d, rsw, (ppn : Int)⟩ : Pte)).1) ∧ TabTo W c (changeR c σ va (⟨v, r, w, x, u, g, a, d, rsw, (ppn : Int)⟩ : Pte)).2 Fm Fs w' := by
  have HE : Hid (Below W.heap.size W (W.alloc (.cells #[.bool v, .bool r, .bool w, .bool x, .bool u, .bool g, .bool a, .bool d, .int .i64 rsw, .int .u64 (ppn : Int)] 96))) := Lib.hid ((Below.refl _ W).alloc (Nat.le_refl _) _)
  have HB : Hid (Blk (W.alloc (.cells #[.bool v, .bool r, .bool w, .bool x, .bool u, .bool g, .bool a, .bool d, .int .i64 rsw, .int .u64 (ppn : Int)] 96)) W.heap.size 96 #[.bool v, .bool r, .bool w, .bool x, .bool u, .bool g, .bool a, .bool d, .int .i64 rsw, .int .u64 (ppn : Int)]) := Lib.hid (Blkf.new_at _ _ _ _ rfl)
  have H0 := Lib.hid (h.below HE.out)
  have HPB : Hid (¬ TabF c Fm Fs W.heap.size) := Lib.hid (fun hf => Nat.lt_irrefl _ (h.lt hf))
  have HV := Lib.hid hv
  have HRS := Lib.hid hr
  have HP := Lib.hid hp
  clear h hv hr hp
  have HFD := Lib.hid hf
  obtain ⟨R, hR⟩ : ∃ R, R = changeR c σ va (⟨v, r, w, x, u, g, a, d, rsw, (ppn : Int)⟩ : Pte) := ⟨_, rfl⟩
  have HR : Hid (R = if mayB (⟨v, r, w, x, u, g, a, d, rsw, (ppn : Int)⟩ : Pte) (L : Int) then (0, ⟨stR c.n σ.S A 8 (putV v r w x u g a d rsw (ppn : Int)), σ.k, σ.u⟩) else (2, σ)) := Lib.hid (by rw [hR]; unfold changeR; rw [hf]; rfl)
  rw [← hR]
  have HWL : Hid (putV v r w x u g a d rsw (ppn : Int) < 18446744073709551616) := Lib.hid (by
    have h0 := bt_le v
    have h1 := bt_le r
    have h2 := bt_le w
    have h3 := bt_le x
    have h4 := bt_le u
    have h5 := bt_le g
    have h6 := bt_le a
    have h7 := bt_le d
    unfold putV
    omega)
  clear hf hR
  go_enter Tryz.func48, Tryz.ntmps48
  go_upto_region 1 with fail
  obtain ⟨pb, hpb⟩ : ∃ q, q = W.heap.size := ⟨_, rfl⟩
  rw [← hpb] at HB HPB ⊢
  clear hpb
  generalize W.alloc (.cells #[.bool v, .bool r, .bool w, .bool x, .bool u, .bool g, .bool a, .bool d, .int .i64 rsw, .int .u64 (ppn : Int)] 96) = w0 at *
  go_wp2_with fail
  refine (Find_t c σ Fm Fs va _ H0.out HV.out).mono ?_
  rintro e w1 ⟨rfl, hb⟩
  rw [HFD.out]
  have HB1 := Lib.hid (HB.out.below hb HB.out.lt)
  have H1 := Lib.hid (H0.out.below hb)
  have E1 := Lib.hid (HE.out.trans (hb.mono HE.out.size))
  clear hb H0 HB HE
  obtain ⟨hl2, ha8, han, hxx⟩ := findT_leaf HFD.out
  have HCK : Hid (chkE c.n A 8 = 0) := Lib.hid (chk8_of ha8 han)
  have hcn : c.n ≤ 1048576 := by
    obtain ⟨_, _, _, hm, _⟩ := H1.out.mem
    exact hm.n2
  have HAL : Hid (A < 18446744073709551616) := Lib.hid (by omega)
  clear ha8 han hxx hcn
  unfold fdV fdE
  obtain ⟨c0, hc0⟩ : ∃ q, q = bitB X 0 := ⟨_, rfl⟩
  obtain ⟨c1, hc1⟩ : ∃ q, q = bitB X 1 := ⟨_, rfl⟩
  obtain ⟨c2, hc2⟩ : ∃ q, q = bitB X 2 := ⟨_, rfl⟩
  obtain ⟨c3, hc3⟩ : ∃ q, q = bitB X 3 := ⟨_, rfl⟩
  obtain ⟨c4, hc4⟩ : ∃ q, q = bitB X 4 := ⟨_, rfl⟩
  obtain ⟨c5, hc5⟩ : ∃ q, q = bitB X 5 := ⟨_, rfl⟩
  obtain ⟨c6, hc6⟩ : ∃ q, q = bitB X 6 := ⟨_, rfl⟩
  obtain ⟨c7, hc7⟩ : ∃ q, q = bitB X 7 := ⟨_, rfl⟩
  obtain ⟨rq, hrq⟩ : ∃ q, q = (X : Int) / 256 % 4 := ⟨_, rfl⟩
  obtain ⟨pq, hpq⟩ : ∃ q, q = (X : Int) / 1024 % 17592186044416 := ⟨_, rfl⟩
  simp only [← hc0, ← hc1, ← hc2, ← hc3, ← hc4, ← hc5, ← hc6, ← hc7, ← hrq, ← hpq]
  have HEQ := Lib.hid (⟨hc0, hc1, hc2, hc3, hc4, hc5, hc6, hc7, hrq, hpq⟩ : c0 = bitB X 0 ∧ c1 = bitB X 1 ∧ c2 = bitB X 2 ∧ c3 = bitB X 3 ∧ c4 = bitB X 4 ∧ c5 = bitB X 5 ∧ c6 = bitB X 6 ∧ c7 = bitB X 7 ∧ rq = (X : Int) / 256 % 4 ∧ pq = (X : Int) / 1024 % 17592186044416)
  clear hc0 hc1 hc2 hc3 hc4 hc5 hc6 hc7 hrq hpq
  have b0 := HB1.out.cell 0
  have b1 := HB1.out.cell 1
  have b2 := HB1.out.cell 2
  have b3 := HB1.out.cell 3
  have b4 := HB1.out.cell 4
  have b5 := HB1.out.cell 5
  have b6 := HB1.out.cell 6
  have b7 := HB1.out.cell 7
  have b8 := HB1.out.cell 8
  have b9 := HB1.out.cell 9
  simp only [List.getElem?_toArray, List.getElem?_cons_zero, List.getElem?_cons_succ] at b0 b1 b2 b3 b4 b5 b6 b7 b8 b9
  have bl := HB1.out.lt
  go_wp2_with fail
  clear b0 b1 b2 b3 b4 b5 b6 b7 b8 b9 bl
  have T2 : Hid (TabAt (w1.alloc (.cells #[.bool c0, .bool c1, .bool c2, .bool c3, .bool c4, .bool c5, .bool c6, .bool c7, .int .i64 rq, .int .u64 pq, .int .i64 (L : Int), .int .u64 (A : Int)] 98)) c σ Fm Fs) := Lib.hid (H1.out.below ((Below.refl _ w1).alloc (Nat.le_refl _) _))
  have B2 : Hid (Below W.heap.size W (w1.alloc (.cells #[.bool c0, .bool c1, .bool c2, .bool c3, .bool c4, .bool c5, .bool c6, .bool c7, .int .i64 rq, .int .u64 pq, .int .i64 (L : Int), .int .u64 (A : Int)] 98))) := Lib.hid (E1.out.alloc E1.out.size _)
  have HL2 : Hid (Blk (w1.alloc (.cells #[.bool c0, .bool c1, .bool c2, .bool c3, .bool c4, .bool c5, .bool c6, .bool c7, .int .i64 rq, .int .u64 pq, .int .i64 (L : Int), .int .u64 (A : Int)] 98)) w1.heap.size 98 #[.bool c0, .bool c1, .bool c2, .bool c3, .bool c4, .bool c5, .bool c6, .bool c7, .int .i64 rq, .int .u64 pq, .int .i64 (L : Int), .int .u64 (A : Int)]) := Lib.hid (Blkf.new_at _ _ _ _ rfl)
  have HB2 := Lib.hid (HB1.out.alloc (.cells #[.bool c0, .bool c1, .bool c2, .bool c3, .bool c4, .bool c5, .bool c6, .bool c7, .int .i64 rq, .int .u64 pq, .int .i64 (L : Int), .int .u64 (A : Int)] 98))
  have HLN : Hid (¬ TabF c Fm Fs w1.heap.size) := Lib.hid (fun hf => Nat.lt_irrefl _ (H1.out.lt hf))
  refine (may_any v r w x u g a d rsw ppn (L : Int) _ HRS.out HP.out).mono ?_
  rintro e w3 ⟨rfl, hb⟩
  generalize w1.alloc (.cells #[.bool c0, .bool c1, .bool c2, .bool c3, .bool c4, .bool c5, .bool c6, .bool c7, .int .i64 rq, .int .u64 pq, .int .i64 (L : Int), .int .u64 (A : Int)] 98) = w2 at *
  generalize w1.heap.size = lb at *
  have T3 := Lib.hid (T2.out.below hb)
  have B3 := Lib.hid (B2.out.trans (hb.mono B2.out.size))
  have HL3 := Lib.hid (HL2.out.below hb HL2.out.lt)
  have HB3 := Lib.hid (HB2.out.below hb HB2.out.lt)
  clear hb T2 B2 HL2 HB2 H1 E1 HB1
  cases hm : mayB (⟨v, r, w, x, u, g, a, d, rsw, (ppn : Int)⟩ : Pte) (L : Int) with
  | false =>
    have HRR : Hid (R = (2, σ)) := Lib.hid (by rw [HR.out, hm]; rfl)
    clear hm
    go_wp2_with fail
    go_ret
    exact ⟨congrArg (fun z : Int × TS => Ending.returned (Value.int .i64 z.1)) HRR.out.symm, HRR.out ▸ tab_up B3.out T3.out.self⟩
  | true =>
    have HRR : Hid (R = (0, ⟨stR c.n σ.S A 8 (putV v r w x u g a d rsw (ppn : Int)), σ.k, σ.u⟩)) := Lib.hid (by rw [HR.out, hm]; rfl)
    clear hm
    go_wp2_with fail
    have HD4 := Lib.hid (T3.out.hd.drew)
    have HB4 := Lib.hid (HB3.out.drew)
    have HL4 := Lib.hid (HL3.out.drew)
    have s0 := fun (W' : World) (h : Hold [c.tb, pb, lb] w3.drew W') => (h.cell (b := c.tb) (by simp) 0).trans (HD4.out.cell 0)
    have l11 := fun (W' : World) (h : Hold [c.tb, pb, lb] w3.drew W') => (h.cell (b := lb) (by simp) 11).trans (HL4.out.cell 11)
    have b0 := fun (W' : World) (h : Hold [c.tb, pb, lb] w3.drew W') => (h.cell (b := pb) (by simp) 0).trans (HB4.out.cell 0)
    have b1 := fun (W' : World) (h : Hold [c.tb, pb, lb] w3.drew W') => (h.cell (b := pb) (by simp) 1).trans (HB4.out.cell 1)
    have b2 := fun (W' : World) (h : Hold [c.tb, pb, lb] w3.drew W') => (h.cell (b := pb) (by simp) 2).trans (HB4.out.cell 2)
    have b3 := fun (W' : World) (h : Hold [c.tb, pb, lb] w3.drew W') => (h.cell (b := pb) (by simp) 3).trans (HB4.out.cell 3)
    have b4 := fun (W' : World) (h : Hold [c.tb, pb, lb] w3.drew W') => (h.cell (b := pb) (by simp) 4).trans (HB4.out.cell 4)
    have b5 := fun (W' : World) (h : Hold [c.tb, pb, lb] w3.drew W') => (h.cell (b := pb) (by simp) 5).trans (HB4.out.cell 5)
    have b6 := fun (W' : World) (h : Hold [c.tb, pb, lb] w3.drew W') => (h.cell (b := pb) (by simp) 6).trans (HB4.out.cell 6)
    have b7 := fun (W' : World) (h : Hold [c.tb, pb, lb] w3.drew W') => (h.cell (b := pb) (by simp) 7).trans (HB4.out.cell 7)
    have b8 := fun (W' : World) (h : Hold [c.tb, pb, lb] w3.drew W') => (h.cell (b := pb) (by simp) 8).trans (HB4.out.cell 8)
    have b9 := fun (W' : World) (h : Hold [c.tb, pb, lb] w3.drew W') => (h.cell (b := pb) (by simp) 9).trans (HB4.out.cell 9)
    simp only [List.getElem?_toArray, List.getElem?_cons_zero, List.getElem?_cons_succ] at s0 l11 b0 b1 b2 b3 b4 b5 b6 b7 b8 b9
    refine wp_region_plan_by (Hold [c.tb, pb, lb]) (later_hold _) [(0, false), (1, false), (2, false), (3, false), (4, false), (5, false), (6, false), (7, true), (8, true), (9, false)] (by kernel_rfl) (by kernel_rfl) (fun _ d _ _ _ h => by cases d <;> exact h) ?_
    iterate 7 (refine plan_take (v := ?_) rfl (by kernel_rfl) ?_ ?_; rotate_left; (focus (intro w' hw'; try go_simp; try with_reducible rfl)); simp only [Act.put, List.setIfInBounds_toArray, List.set_cons_zero, List.set_cons_succ])
    clear s0 l11 b0 b1 b2 b3 b4 b5 b6 b7 b8 b9
    refine plan_call rfl (by kernel_rfl) (by go_simp; exact ⟨rfl, rfl⟩) ?_
    refine (put_any v r w x u g a d rsw (ppn : Int) _ (by have := HP.out; omega)).mono ?_
    rintro e w5 ⟨rfl, hb5⟩
    refine ⟨_, rfl, (hold3_below hb5 HD4.out.lt HB4.out.lt HL4.out.lt), ?_⟩
    simp only [Act.put, List.setIfInBounds_toArray, List.set_cons_zero, List.set_cons_succ]
    have B5 : Hid (Below w3.heap.size w3 w5) := Lib.hid ((Below.refl _ w3).drew.trans hb5)
    have H5 := Lib.hid (T3.out.below B5.out)
    clear hb5
    refine plan_call rfl (by kernel_rfl) (by go_simp; exact ⟨rfl, rfl⟩) ?_
    refine (Store_any c.gm c.n A 8 (putV v r w x u g a d rsw (ppn : Int)) Fm σ.S _ H5.out.mem HAL.out HWL.out).mono ?_
    rintro e w6 ⟨rfl, hm6⟩
    rw [HCK.out]
    have T6 : Hid (TabTo W c ⟨stR c.n σ.S A 8 (putV v r w x u g a d rsw (ppn : Int)), σ.k, σ.u⟩ Fm Fs w6) := Lib.hid (tab_up B3.out (tab_up B5.out (H5.out.mm hm6)))
    have K6 : Hid (Hold [c.tb, pb, lb] w5 w6) := Lib.hid (by
      obtain ⟨_, _, _, k⟩ := hm6
      exact hold3_keeps k H5.out.hd.lt (Nat.lt_of_lt_of_le HB3.out.lt B5.out.size) (Nat.lt_of_lt_of_le HL3.out.lt B5.out.size) H5.out.tm (fun hf => HPB.out (.inl hf)) (fun hf => HLN.out (.inl hf)))
    clear hm6
    refine ⟨_, rfl, K6.out, ?_⟩
    simp only [Act.put, List.setIfInBounds_toArray, List.set_cons_zero, List.set_cons_succ]
    iterate 1 (refine plan_take (v := ?_) rfl (by kernel_rfl) ?_ ?_; rotate_left; (focus (intro w' hw'; try go_simp; try with_reducible rfl)); simp only [Act.put, List.setIfInBounds_toArray, List.set_cons_zero, List.set_cons_succ])
    refine plan_end ?_
    go_wp2_with fail
    go_ret
    exact ⟨congrArg (fun z : Int × TS => Ending.returned (Value.int .i64 z.1)) HRR.out.symm, HRR.out ▸ T6.out⟩
end Go.Proofs.YtophcgbddccpeaaGreat
