/- Merged texts: SpcD, SpcE, SpcF, SpcG, SpcH. -/
import Derived.Test.YtophcgbddccpeaaGreatSk16
/- A shared page is mapped otherwise; a right is set. -/
namespace Go.Proofs.YtophcgbddccpeaaGreat
open Go.RowKit Go.Maps

def mayRead : ByteArray := ⟨#[118, 114, 45, 45, 117, 45, 97, 45]⟩
def mayOwn : ByteArray := ⟨#[118, 114, 119, 45, 117, 45, 97, 100]⟩
def mayCode : ByteArray := ⟨#[118, 114, 45, 120, 117, 45, 97, 45]⟩
def readE (f : Nat) : Pte := entF true true false false true false true false f
def ownE (f : Nat) : Pte := entF true true true false true false true true f
def codeE (f : Nat) : Pte := entF true true false true true false true false f
/-- The entry of a right that is not None. -/
def rtE (r : Int) (f : Nat) : Pte := if r = 2 then ownE f else readE f
theorem entF_wf (v r w x u g a d : Bool) {f : Nat} (h : f < 1048576) : PteWf (entF v r w x u g a d f) := by
  constructor <;> simp [entF, Lit.wf, IntKind.min, IntKind.max, IntKind.signed, IntKind.bits] <;> omega
theorem readE_any (f : Nat) (w : World) (hf : f < 1048576) : Calls Tryz.prog 44 #[.string ⟨#[118, 114, 45, 45, 117, 45, 97, 45]⟩, .int .i64 (f : Int)] w fun e w' => e = .returned (.agg (readE f).cs) ∧ Below w.heap.size w w' := sentry_any _ _ _ _ _ _ _ _ _ f w rfl hf (by kernel_rfl)
theorem ownE_any (f : Nat) (w : World) (hf : f < 1048576) : Calls Tryz.prog 44 #[.string ⟨#[118, 114, 119, 45, 117, 45, 97, 100]⟩, .int .i64 (f : Int)] w fun e w' => e = .returned (.agg (ownE f).cs) ∧ Below w.heap.size w w' := sentry_any _ _ _ _ _ _ _ _ _ f w rfl hf (by kernel_rfl)
theorem codeE_any (f : Nat) (w : World) (hf : f < 1048576) : Calls Tryz.prog 44 #[.string ⟨#[118, 114, 45, 120, 117, 45, 97, 45]⟩, .int .i64 (f : Int)] w fun e w' => e = .returned (.agg (codeE f).cs) ∧ Below w.heap.size w w' := sentry_any _ _ _ _ _ _ _ _ _ f w rfl hf (by kernel_rfl)
def SpS.withT (s : SpS) (σ : TS) : SpS := { s with S := σ.S, k := σ.k, u := σ.u }
theorem va_lt {p : Nat} (h : p < 65536) : vaN p < 18446744073709551616 := by unfold vaN; omega
section
variable {W w : World} {os : List Obj} {L : SpL} {s : SpS}
theorem Objs.spCell (h : Objs W (spO L s os) w) (i : Nat) (v : Value) (hi : L.cs[i]? = some v) : ∀ w', SameL [L.sp] w w' → w'.cell? ⟨L.sp, i, none⟩ = some v := fun w' hs =>
  hs.cell (List.mem_singleton.2 rfl) (((h.blk 0 rfl).cell i).trans hi)
/-- The page's block stays where only the space's other objects turn. -/
theorem Objs.spSame {w' : World} {s' : SpS} (h : Objs W (spO L s os) w) (h' : Objs W (spO L s' os) w') : SameL [L.sp] w w' := fun b hb => by
  rw [List.mem_singleton.1 hb]
  exact h.same h' 0 0 rfl rfl
theorem sameL_below {w' : World} {b : Nat} (h : Below w.heap.size w w') (hb : b < w.heap.size) : SameL [b] w w' := SameL.ext h (fun x hx => by rw [List.mem_singleton.1 hx]; exact hb)
set_option maxHeartbeats 1000000 in
theorem remap_none (p : Nat) (f : Int) (hp : p < 65536) (hu : s.u ≤ s.k) (hr : L.root < 1048576) (h : Objs W (spO L s os) w) :
    Calls Tryz.prog 30 #[.pointer (some ⟨L.sp, 0, none⟩), .int .i64 (p : Int), .int .i64 f, .int .i64 0] w fun e w' => e = .returned (.int .i64 0) ∧ Objs W (spO L (s.withT (unmapR L.tc s.ts (vaN p)).2.2) os) w' ∧ Below W.heap.size w w' ∧ (unmapR L.tc s.ts (vaN p)).2.2.u ≤ (unmapR L.tc s.ts (vaN p)).2.2.k := by
  have HV := Lib.hid (fun w => va_any p hp w)
  have HD := Lib.hid h.drew
  have HVL := Lib.hid (va_lt hp)
  have HU := Lib.hid hu
  have HR := Lib.hid hr
  have s0 := HD.out.spCell 5 (.pointer (some ⟨L.tb, 0, none⟩)) rfl
  have hl := (h.blk 0 rfl).lt
  clear h hu hr hp
  go_enter Tryz.func30, Tryz.ntmps30
  go_wp2_with fail
  refine wp_region_plan_by (SameL [L.sp]) (later_same _) [(0, false), (1, false), (2, false), (3, false), (4, false), (5, false), (6, true)] (by kernel_rfl) (by kernel_rfl) (fun _ d _ _ _ h => by cases d <;> exact h) ?_
  iterate 5 (refine plan_take (v := ?_) rfl (by kernel_rfl) ?_ ?_; rotate_left; (focus (intro w' hw'; try go_simp; try with_reducible rfl)); simp only [Act.put, List.setIfInBounds_toArray, List.set_cons_zero, List.set_cons_succ])
  refine plan_quiet rfl (by kernel_rfl) (fun w' => by go_simp; all_goals (first | exact ⟨rfl, rfl⟩ | rfl)) (fun w' hw' => HV.out w') ?_
  simp only [Act.put, List.setIfInBounds_toArray, List.set_cons_zero, List.set_cons_succ]
  clear s0
  refine plan_call rfl (by kernel_rfl) (by go_simp; exact ⟨rfl, rfl⟩) ?_
  refine (HD.out.spTab (σ' := (unmapR L.tc s.ts (vaN p)).2.2) (R := fun e => e = .returned (.tuple #[.agg (unmapR L.tc s.ts (vaN p)).1.cs, .int .i64 (unmapR L.tc s.ts (vaN p)).2.1])) HU.out HR.out (fun Fm Fs hT => Unmap_t L.tc s.ts Fm Fs (vaN p) _ hT HVL.out)).mono ?_
  rintro e w1 ⟨rfl, h1, k1, u1⟩
  have H1 := Lib.hid h1
  have K1 := Lib.hid k1
  have U1 := Lib.hid u1
  clear h1 k1 u1
  refine ⟨_, rfl, (HD.out.spSame (s' := s.withT (unmapR L.tc s.ts (vaN p)).2.2) H1.out), ?_⟩
  simp only [Act.put, List.setIfInBounds_toArray, List.set_cons_zero, List.set_cons_succ]
  refine plan_end ?_
  go_wp2_with fail
  go_ret
  exact ⟨rfl, H1.out, ((Below.refl _ _).drew).trans K1.out, U1.out⟩
set_option maxHeartbeats 2000000 in
theorem remap_map (p f : Nat) (r : Int) (hr12 : r = 1 ∨ r = 2) (hp : p < 65536) (hf : f < 1048576) (hu : s.u ≤ s.k) (hr : L.root < 1048576) (h0 : s.rt p = 0) (h : Objs W (spO L s os) w) :
    Calls Tryz.prog 30 #[.pointer (some ⟨L.sp, 0, none⟩), .int .i64 (p : Int), .int .i64 (f : Int), .int .i64 r] w fun e w' => e = .returned (.int .i64 (mapR L.tc s.ts (vaN p) 0 (rtE r f)).1) ∧ Objs W (spO L (s.withT (mapR L.tc s.ts (vaN p) 0 (rtE r f)).2) os) w' ∧ Below W.heap.size w w' ∧ (mapR L.tc s.ts (vaN p) 0 (rtE r f)).2.u ≤ (mapR L.tc s.ts (vaN p) 0 (rtE r f)).2.k := by
  have HV := Lib.hid (fun w => va_any p hp w)
  have HE : Hid (∀ W', Calls Tryz.prog 44 #[.string (if r = 2 then ⟨#[118, 114, 119, 45, 117, 45, 97, 100]⟩ else ⟨#[118, 114, 45, 45, 117, 45, 97, 45]⟩), .int .i64 (f : Int)] W' fun e w' => e = .returned (.agg (rtE r f).cs) ∧ Below W'.heap.size W' w') := Lib.hid (fun W' => by
    unfold rtE
    split
    · exact ownE_any f W' hf
    · exact readE_any f W' hf)
  have HD := Lib.hid h.drew
  have HH := Lib.hid h
  have HVL := Lib.hid (va_lt hp)
  have HWF : Hid (PteWf (rtE r f)) := Lib.hid (by unfold rtE; split <;> exact entF_wf _ _ _ _ _ _ _ _ hf)
  have HU := Lib.hid hu
  have HR := Lib.hid hr
  have s0 := HD.out.spCell 5 (.pointer (some ⟨L.tb, 0, none⟩)) rfl
  have hb := h.blk 0 rfl
  have c2 : w.cell? ⟨L.sp, 11, none⟩ = some (.map (some L.m2)) := hb.cell 11
  have hl := hb.lt
  have hm := (h.imap 9 rfl).look Tryz.underlying33 Tryz.underlying60 (zeroR w) (wf_page (by omega : p ≤ 65536))
  change (Instr.lookup 60 (.map (some L.m2)) (.int .i64 (p : Int)) false).run Tryz.prog w = .ok (.int .i64 (s.rt p)) w at hm
  have h00 : (s.rt p == 0) = true := by simp [h0]
  generalize s.rt p = rt0 at *
  clear h hu hr hp h0 hb hf
  rcases hr12 with rfl | rfl
  · rw [if_neg (by decide)] at HE
    go_enter Tryz.func30, Tryz.ntmps30
    go_wp2_with fail
    clear hm c2 h00
    refine wp_region_plan_by (SameL [L.sp]) (later_same _) [(0, false), (1, false), (2, false), (3, false), (4, false), (5, false), (6, false), (7, false), (8, true), (9, true), (10, false)] (by kernel_rfl) (by kernel_rfl) (fun _ d _ _ _ h => by cases d <;> exact h) ?_
    iterate 5 (refine plan_take (v := ?_) rfl (by kernel_rfl) ?_ ?_; rotate_left; (focus (intro w' hw'; try go_simp; try with_reducible rfl)); simp only [Act.put, List.setIfInBounds_toArray, List.set_cons_zero, List.set_cons_succ])
    refine plan_quiet rfl (by kernel_rfl) (fun w' => by go_simp; all_goals (first | exact ⟨rfl, rfl⟩ | rfl)) (fun w' hw' => HV.out w') ?_
    simp only [Act.put, List.setIfInBounds_toArray, List.set_cons_zero, List.set_cons_succ]
    iterate 2 (refine plan_take (v := ?_) rfl (by kernel_rfl) ?_ ?_; rotate_left; (focus (intro w' hw'; try go_simp; try with_reducible rfl)); simp only [Act.put, List.setIfInBounds_toArray, List.set_cons_zero, List.set_cons_succ])
    clear s0
    refine plan_call rfl (by kernel_rfl) (by go_simp; exact ⟨rfl, rfl⟩) ?_
    refine (HE.out _).mono ?_
    rintro e w1 ⟨rfl, b1⟩
    have H1 := Lib.hid (HD.out.step b1)
    have B1 := Lib.hid b1
    refine ⟨_, rfl, (sameL_below b1 hl), ?_⟩
    simp only [Act.put, List.setIfInBounds_toArray, List.set_cons_zero, List.set_cons_succ]
    clear b1
    refine plan_call rfl (by kernel_rfl) (by go_simp; exact ⟨rfl, rfl⟩) ?_
    refine (H1.out.spTab (σ' := (mapR L.tc s.ts (vaN p) 0 (rtE 1 f)).2) (R := fun e => e = .returned (.int .i64 (mapR L.tc s.ts (vaN p) 0 (rtE 1 f)).1)) HU.out HR.out (fun Fm Fs hT => Map_t L.tc s.ts Fm Fs (vaN p) (rtE 1 f) 0 _ hT HVL.out HWF.out)).mono ?_
    rintro e w2 ⟨rfl, h2, k2, u2⟩
    have H2 := Lib.hid h2
    have K2 := Lib.hid k2
    have U2 := Lib.hid u2
    clear h2 k2 u2
    refine ⟨_, rfl, (H1.out.spSame (s' := s.withT (mapR L.tc s.ts (vaN p) 0 (rtE 1 f)).2) H2.out), ?_⟩
    simp only [Act.put, List.setIfInBounds_toArray, List.set_cons_zero, List.set_cons_succ]
    iterate 1 (refine plan_take (v := ?_) rfl (by kernel_rfl) ?_ ?_; rotate_left; (focus (intro w' hw'; try go_simp; try with_reducible rfl)); simp only [Act.put, List.setIfInBounds_toArray, List.set_cons_zero, List.set_cons_succ])
    refine plan_end ?_
    go_wp2_with fail
    go_ret
    exact ⟨rfl, H2.out, (((Below.refl _ _).drew).trans (B1.out.mono HH.out.bel.size)).trans K2.out, U2.out⟩
  · rw [if_pos rfl] at HE
    go_enter Tryz.func30, Tryz.ntmps30
    go_wp2_with fail
    clear hm c2 h00
    refine wp_region_plan_by (SameL [L.sp]) (later_same _) [(0, false), (1, false), (2, false), (3, false), (4, false), (5, false), (6, false), (7, false), (8, true), (9, true), (10, false)] (by kernel_rfl) (by kernel_rfl) (fun _ d _ _ _ h => by cases d <;> exact h) ?_
    iterate 5 (refine plan_take (v := ?_) rfl (by kernel_rfl) ?_ ?_; rotate_left; (focus (intro w' hw'; try go_simp; try with_reducible rfl)); simp only [Act.put, List.setIfInBounds_toArray, List.set_cons_zero, List.set_cons_succ])
    refine plan_quiet rfl (by kernel_rfl) (fun w' => by go_simp; all_goals (first | exact ⟨rfl, rfl⟩ | rfl)) (fun w' hw' => HV.out w') ?_
    simp only [Act.put, List.setIfInBounds_toArray, List.set_cons_zero, List.set_cons_succ]
    iterate 2 (refine plan_take (v := ?_) rfl (by kernel_rfl) ?_ ?_; rotate_left; (focus (intro w' hw'; try go_simp; try with_reducible rfl)); simp only [Act.put, List.setIfInBounds_toArray, List.set_cons_zero, List.set_cons_succ])
    clear s0
    refine plan_call rfl (by kernel_rfl) (by go_simp; exact ⟨rfl, rfl⟩) ?_
    refine (HE.out _).mono ?_
    rintro e w1 ⟨rfl, b1⟩
    have H1 := Lib.hid (HD.out.step b1)
    have B1 := Lib.hid b1
    refine ⟨_, rfl, (sameL_below b1 hl), ?_⟩
    simp only [Act.put, List.setIfInBounds_toArray, List.set_cons_zero, List.set_cons_succ]
    clear b1
    refine plan_call rfl (by kernel_rfl) (by go_simp; exact ⟨rfl, rfl⟩) ?_
    refine (H1.out.spTab (σ' := (mapR L.tc s.ts (vaN p) 0 (rtE 2 f)).2) (R := fun e => e = .returned (.int .i64 (mapR L.tc s.ts (vaN p) 0 (rtE 2 f)).1)) HU.out HR.out (fun Fm Fs hT => Map_t L.tc s.ts Fm Fs (vaN p) (rtE 2 f) 0 _ hT HVL.out HWF.out)).mono ?_
    rintro e w2 ⟨rfl, h2, k2, u2⟩
    have H2 := Lib.hid h2
    have K2 := Lib.hid k2
    have U2 := Lib.hid u2
    clear h2 k2 u2
    refine ⟨_, rfl, (H1.out.spSame (s' := s.withT (mapR L.tc s.ts (vaN p) 0 (rtE 2 f)).2) H2.out), ?_⟩
    simp only [Act.put, List.setIfInBounds_toArray, List.set_cons_zero, List.set_cons_succ]
    iterate 1 (refine plan_take (v := ?_) rfl (by kernel_rfl) ?_ ?_; rotate_left; (focus (intro w' hw'; try go_simp; try with_reducible rfl)); simp only [Act.put, List.setIfInBounds_toArray, List.set_cons_zero, List.set_cons_succ])
    refine plan_end ?_
    go_wp2_with fail
    go_ret
    exact ⟨rfl, H2.out, (((Below.refl _ _).drew).trans (B1.out.mono HH.out.bel.size)).trans K2.out, U2.out⟩
set_option maxHeartbeats 2000000 in
theorem remap_change (p f : Nat) (r : Int) (hr12 : r = 1 ∨ r = 2) (hp : p < 65536) (hf : f < 1048576) (hu : s.u ≤ s.k) (hr : L.root < 1048576) (h0 : s.rt p ≠ 0) (h : Objs W (spO L s os) w) :
    Calls Tryz.prog 30 #[.pointer (some ⟨L.sp, 0, none⟩), .int .i64 (p : Int), .int .i64 (f : Int), .int .i64 r] w fun e w' => e = .returned (.int .i64 (changeR L.tc s.ts (vaN p) (rtE r f)).1) ∧ Objs W (spO L (s.withT (changeR L.tc s.ts (vaN p) (rtE r f)).2) os) w' ∧ Below W.heap.size w w' ∧ (changeR L.tc s.ts (vaN p) (rtE r f)).2.u ≤ (changeR L.tc s.ts (vaN p) (rtE r f)).2.k := by
  have HV := Lib.hid (fun w => va_any p hp w)
  have HE : Hid (∀ W', Calls Tryz.prog 44 #[.string (if r = 2 then ⟨#[118, 114, 119, 45, 117, 45, 97, 100]⟩ else ⟨#[118, 114, 45, 45, 117, 45, 97, 45]⟩), .int .i64 (f : Int)] W' fun e w' => e = .returned (.agg (rtE r f).cs) ∧ Below W'.heap.size W' w') := Lib.hid (fun W' => by
    unfold rtE
    split
    · exact ownE_any f W' hf
    · exact readE_any f W' hf)
  have HD := Lib.hid h.drew
  have HH := Lib.hid h
  have HVL := Lib.hid (va_lt hp)
  have HWF : Hid (PteWf (rtE r f)) := Lib.hid (by unfold rtE; split <;> exact entF_wf _ _ _ _ _ _ _ _ hf)
  have HU := Lib.hid hu
  have HR := Lib.hid hr
  have s0 := HD.out.spCell 5 (.pointer (some ⟨L.tb, 0, none⟩)) rfl
  have hb := h.blk 0 rfl
  have c2 : w.cell? ⟨L.sp, 11, none⟩ = some (.map (some L.m2)) := hb.cell 11
  have hl := hb.lt
  have hm := (h.imap 9 rfl).look Tryz.underlying33 Tryz.underlying60 (zeroR w) (wf_page (by omega : p ≤ 65536))
  change (Instr.lookup 60 (.map (some L.m2)) (.int .i64 (p : Int)) false).run Tryz.prog w = .ok (.int .i64 (s.rt p)) w at hm
  have h00 : (s.rt p == 0) = false := by simp [h0]
  generalize s.rt p = rt0 at *
  clear h hu hr hp h0 hb hf
  rcases hr12 with rfl | rfl
  · rw [if_neg (by decide)] at HE
    go_enter Tryz.func30, Tryz.ntmps30
    go_wp2_with fail
    clear hm c2 h00
    refine wp_region_plan_by (SameL [L.sp]) (later_same _) [(0, false), (1, false), (2, false), (3, false), (4, false), (5, false), (6, false), (7, false), (8, true), (9, true), (10, false)] (by kernel_rfl) (by kernel_rfl) (fun _ d _ _ _ h => by cases d <;> exact h) ?_
    iterate 5 (refine plan_take (v := ?_) rfl (by kernel_rfl) ?_ ?_; rotate_left; (focus (intro w' hw'; try go_simp; try with_reducible rfl)); simp only [Act.put, List.setIfInBounds_toArray, List.set_cons_zero, List.set_cons_succ])
    refine plan_quiet rfl (by kernel_rfl) (fun w' => by go_simp; all_goals (first | exact ⟨rfl, rfl⟩ | rfl)) (fun w' hw' => HV.out w') ?_
    simp only [Act.put, List.setIfInBounds_toArray, List.set_cons_zero, List.set_cons_succ]
    iterate 2 (refine plan_take (v := ?_) rfl (by kernel_rfl) ?_ ?_; rotate_left; (focus (intro w' hw'; try go_simp; try with_reducible rfl)); simp only [Act.put, List.setIfInBounds_toArray, List.set_cons_zero, List.set_cons_succ])
    clear s0
    refine plan_call rfl (by kernel_rfl) (by go_simp; exact ⟨rfl, rfl⟩) ?_
    refine (HE.out _).mono ?_
    rintro e w1 ⟨rfl, b1⟩
    have H1 := Lib.hid (HD.out.step b1)
    have B1 := Lib.hid b1
    refine ⟨_, rfl, (sameL_below b1 hl), ?_⟩
    simp only [Act.put, List.setIfInBounds_toArray, List.set_cons_zero, List.set_cons_succ]
    clear b1
    refine plan_call rfl (by kernel_rfl) (by go_simp; exact ⟨rfl, rfl⟩) ?_
    refine (H1.out.spTab (σ' := (changeR L.tc s.ts (vaN p) (rtE 1 f)).2) (R := fun e => e = .returned (.int .i64 (changeR L.tc s.ts (vaN p) (rtE 1 f)).1)) HU.out HR.out (fun Fm Fs hT => Change_t L.tc s.ts Fm Fs (vaN p) (rtE 1 f) _ hT HVL.out HWF.out)).mono ?_
    rintro e w2 ⟨rfl, h2, k2, u2⟩
    have H2 := Lib.hid h2
    have K2 := Lib.hid k2
    have U2 := Lib.hid u2
    clear h2 k2 u2
    refine ⟨_, rfl, (H1.out.spSame (s' := s.withT (changeR L.tc s.ts (vaN p) (rtE 1 f)).2) H2.out), ?_⟩
    simp only [Act.put, List.setIfInBounds_toArray, List.set_cons_zero, List.set_cons_succ]
    iterate 1 (refine plan_take (v := ?_) rfl (by kernel_rfl) ?_ ?_; rotate_left; (focus (intro w' hw'; try go_simp; try with_reducible rfl)); simp only [Act.put, List.setIfInBounds_toArray, List.set_cons_zero, List.set_cons_succ])
    refine plan_end ?_
    go_wp2_with fail
    go_ret
    exact ⟨rfl, H2.out, (((Below.refl _ _).drew).trans (B1.out.mono HH.out.bel.size)).trans K2.out, U2.out⟩
  · rw [if_pos rfl] at HE
    go_enter Tryz.func30, Tryz.ntmps30
    go_wp2_with fail
    clear hm c2 h00
    refine wp_region_plan_by (SameL [L.sp]) (later_same _) [(0, false), (1, false), (2, false), (3, false), (4, false), (5, false), (6, false), (7, false), (8, true), (9, true), (10, false)] (by kernel_rfl) (by kernel_rfl) (fun _ d _ _ _ h => by cases d <;> exact h) ?_
    iterate 5 (refine plan_take (v := ?_) rfl (by kernel_rfl) ?_ ?_; rotate_left; (focus (intro w' hw'; try go_simp; try with_reducible rfl)); simp only [Act.put, List.setIfInBounds_toArray, List.set_cons_zero, List.set_cons_succ])
    refine plan_quiet rfl (by kernel_rfl) (fun w' => by go_simp; all_goals (first | exact ⟨rfl, rfl⟩ | rfl)) (fun w' hw' => HV.out w') ?_
    simp only [Act.put, List.setIfInBounds_toArray, List.set_cons_zero, List.set_cons_succ]
    iterate 2 (refine plan_take (v := ?_) rfl (by kernel_rfl) ?_ ?_; rotate_left; (focus (intro w' hw'; try go_simp; try with_reducible rfl)); simp only [Act.put, List.setIfInBounds_toArray, List.set_cons_zero, List.set_cons_succ])
    clear s0
    refine plan_call rfl (by kernel_rfl) (by go_simp; exact ⟨rfl, rfl⟩) ?_
    refine (HE.out _).mono ?_
    rintro e w1 ⟨rfl, b1⟩
    have H1 := Lib.hid (HD.out.step b1)
    have B1 := Lib.hid b1
    refine ⟨_, rfl, (sameL_below b1 hl), ?_⟩
    simp only [Act.put, List.setIfInBounds_toArray, List.set_cons_zero, List.set_cons_succ]
    clear b1
    refine plan_call rfl (by kernel_rfl) (by go_simp; exact ⟨rfl, rfl⟩) ?_
    refine (H1.out.spTab (σ' := (changeR L.tc s.ts (vaN p) (rtE 2 f)).2) (R := fun e => e = .returned (.int .i64 (changeR L.tc s.ts (vaN p) (rtE 2 f)).1)) HU.out HR.out (fun Fm Fs hT => Change_t L.tc s.ts Fm Fs (vaN p) (rtE 2 f) _ hT HVL.out HWF.out)).mono ?_
    rintro e w2 ⟨rfl, h2, k2, u2⟩
    have H2 := Lib.hid h2
    have K2 := Lib.hid k2
    have U2 := Lib.hid u2
    clear h2 k2 u2
    refine ⟨_, rfl, (H1.out.spSame (s' := s.withT (changeR L.tc s.ts (vaN p) (rtE 2 f)).2) H2.out), ?_⟩
    simp only [Act.put, List.setIfInBounds_toArray, List.set_cons_zero, List.set_cons_succ]
    iterate 1 (refine plan_take (v := ?_) rfl (by kernel_rfl) ?_ ?_; rotate_left; (focus (intro w' hw'; try go_simp; try with_reducible rfl)); simp only [Act.put, List.setIfInBounds_toArray, List.set_cons_zero, List.set_cons_succ])
    refine plan_end ?_
    go_wp2_with fail
    go_ret
    exact ⟨rfl, H2.out, (((Below.refl _ _).drew).trans (B1.out.mono HH.out.bel.size)).trans K2.out, U2.out⟩
end
end Go.Proofs.YtophcgbddccpeaaGreat

/- A right is set. -/
namespace Go.Proofs.YtophcgbddccpeaaGreat
open Go.RowKit Go.Maps

/-- The right stands in the map, and the page's entries have gone. -/
def finS (s : SpS) (p : Nat) (r : Int) : SpS := { s with ri := putF s.ri p r, mr := (if (s.ri p).isSome then s.mr else s.mr + 1), T := fenceS s.T (some (vaN p)) none }
section
variable {W w : World} {os : List Obj} {L : SpL} {s : SpS}
def unT (L : SpL) (s : SpS) (os : List Obj) : List Obj := blkO L.tb 117 (tabC L.tc s.u) :: stkO L.tc s.k :: (spR L s os ++ [blkO L.sp 65 L.cs])
theorem Objs.toUn (h : Objs W (spO L s os) w) : Objs W (unO L.ub L.gm L.b L.n L.k L.m L.un s.S s.T (unT L s os)) w :=
  Objs.rot (xs := [blkO L.sp 65 L.cs]) (bs := blkO L.ub 89 (L.un.cs L.gm L.b) :: bufO L.b L.k L.m s.T :: memO L.gm L.n s.S :: blkO L.tb 117 (tabC L.tc s.u) :: stkO L.tc s.k :: spR L s os) h
theorem Objs.ofUn {S' : Nat → List Nat} {T' : List (List En)} (h : Objs W (unO L.ub L.gm L.b L.n L.k L.m L.un S' T' (unT L s os)) w) : Objs W (spO L { s with S := S', T := T' } os) w :=
  Objs.rot (bs := [blkO L.sp 65 L.cs]) (xs := blkO L.ub 89 (L.un.cs L.gm L.b) :: bufO L.b L.k L.m T' :: memO L.gm L.n S' :: blkO L.tb 117 (tabC L.tc s.u) :: stkO L.tc s.k :: spR L s os) h
theorem Objs.ofUnU {u' : Un} (h : Objs W (unO L.ub L.gm L.b L.n L.k L.m u' s.S s.T (unT L s os)) w) : Objs W (spO { L with un := u' } s os) w :=
  Objs.rot (bs := [blkO L.sp 65 L.cs]) (xs := blkO L.ub 89 (u'.cs L.gm L.b) :: bufO L.b L.k L.m s.T :: memO L.gm L.n s.S :: blkO L.tb 117 (tabC L.tc s.u) :: stkO L.tc s.k :: spR L s os) h
theorem set_none (p r : Int) (hp : (decide (0 ≤ p) && decide (p < (L.ns : Int))) = false) (h : Objs W (spO L s os) w) :
    Calls Tryz.prog 7 #[.pointer (some ⟨L.sp, 0, none⟩), .int .i64 p, .int .i64 r] w fun e w' => e = .returned (.int .i64 51) ∧ w = w' := by
  have HC := Lib.hid (sthere_any p h)
  have hl := (h.blk 0 rfl).lt
  rw [hp] at HC
  clear h hp
  go_enter Tryz.func7, Tryz.ntmps7
  go_wp2_with fail
  refine HC.out.mono ?_
  rintro e w1 ⟨rfl, rfl⟩
  go_wp2_with fail
  go_ret
  exact ⟨rfl, rfl⟩
theorem set_same (p : Nat) (r : Int) (hp : p < L.ns) (hn : L.ns ≤ 65536) (h0 : 0 ≤ r) (h2 : r ≤ 2) (hr : s.rt p = r) (h : Objs W (spO L s os) w) :
    Calls Tryz.prog 7 #[.pointer (some ⟨L.sp, 0, none⟩), .int .i64 (p : Int), .int .i64 r] w fun e w' => e = .returned (.int .i64 0) ∧ w = w' := by
  have HC := Lib.hid (sthere_any (p : Int) h)
  rw [show (decide (0 ≤ (p : Int)) && decide ((p : Int) < (L.ns : Int))) = true by simp; omega] at HC
  have hb := h.blk 0 rfl
  have c2 : w.cell? ⟨L.sp, 11, none⟩ = some (.map (some L.m2)) := hb.cell 11
  have hl := hb.lt
  have hm := (h.imap 9 rfl).look Tryz.underlying33 Tryz.underlying60 (zeroR w) (wf_page (by omega : p ≤ 65536))
  change (Instr.lookup 60 (.map (some L.m2)) (.int .i64 (p : Int)) false).run Tryz.prog w = .ok (.int .i64 (s.rt p)) w at hm
  rw [hr] at hm
  have d1 : decide (r < 0) = false := by simp; omega
  have d2 : decide (2 < r) = false := by simp; omega
  clear h hp hn h0 h2 hr hb
  go_enter Tryz.func7, Tryz.ntmps7
  go_wp2_with fail
  refine HC.out.mono ?_
  rintro e w1 ⟨rfl, rfl⟩
  go_wp2_with fail
  go_ret
  exact ⟨rfl, rfl⟩
set_option maxHeartbeats 2000000 in
theorem set_turn (p f : Nat) (r : Int) (s1 s2 : SpS) (hp : p < L.ns) (hn : L.ns ≤ 65536) (h0 : 0 ≤ r) (h2 : r ≤ 2) (hr : s.rt p ≠ r) (hmr : s2.mr ≤ 65536)
    (hF : Calls Tryz.prog 29 #[.pointer (some ⟨L.sp, 0, none⟩), .int .i64 (p : Int)] w fun e w' => e = .returned (.tuple #[.int .i64 (f : Int), .int .i64 0]) ∧ Objs W (spO L s1 os) w' ∧ Below W.heap.size w w')
    (hM : ∀ w1, Objs W (spO L s1 os) w1 → Calls Tryz.prog 30 #[.pointer (some ⟨L.sp, 0, none⟩), .int .i64 (p : Int), .int .i64 (f : Int), .int .i64 r] w1 fun e w' => e = .returned (.int .i64 0) ∧ Objs W (spO L s2 os) w' ∧ Below W.heap.size w1 w')
    (h : Objs W (spO L s os) w) :
    Calls Tryz.prog 7 #[.pointer (some ⟨L.sp, 0, none⟩), .int .i64 (p : Int), .int .i64 r] w fun e w' => e = .returned (.int .i64 0) ∧ Objs W (spO L (finS s2 p r) os) w' := by
  have HC := Lib.hid (sthere_any (p : Int) h)
  rw [show (decide (0 ≤ (p : Int)) && decide ((p : Int) < (L.ns : Int))) = true by simp; omega] at HC
  have HF := Lib.hid hF
  have HM := Lib.hid hM
  have HMR := Lib.hid hmr
  have HP : Hid (p < 65536) := Lib.hid (by omega)
  have HRW : Hid ((Lit.int .i64 r).wf = true) := Lib.hid (fwf (by omega))
  have hb := h.blk 0 rfl
  have c2 : w.cell? ⟨L.sp, 11, none⟩ = some (.map (some L.m2)) := hb.cell 11
  have hl := hb.lt
  have hm := (h.imap 9 rfl).look Tryz.underlying33 Tryz.underlying60 (zeroR w) (wf_page (by omega : p ≤ 65536))
  change (Instr.lookup 60 (.map (some L.m2)) (.int .i64 (p : Int)) false).run Tryz.prog w = .ok (.int .i64 (s.rt p)) w at hm
  have hne : (r == s.rt p) = false := by simp; exact fun e => hr e.symm
  have d1 : decide (r < 0) = false := by simp; omega
  have d2 : decide (2 < r) = false := by simp; omega
  generalize s.rt p = rt0 at *
  clear h hp hn h0 h2 hr hb hF hM hmr
  go_enter Tryz.func7, Tryz.ntmps7
  go_wp2_with fail
  refine HC.out.mono ?_
  rintro e w1 ⟨rfl, rfl⟩
  go_wp2_with fail
  refine HF.out.mono ?_
  rintro e w1 ⟨rfl, h1, k1⟩
  have H1 := Lib.hid h1
  have K1 := Lib.hid k1
  clear h1 k1 hm c2 hne d1 d2 hl
  go_wp2_with fail
  refine (HM.out _ H1.out).mono ?_
  rintro e w2 ⟨rfl, h2, k2⟩
  have H2 := Lib.hid h2
  have K2 := Lib.hid k2
  have hb := h2.blk 0 rfl
  have c2 : w2.cell? ⟨L.sp, 11, none⟩ = some (.map (some L.m2)) := hb.cell 11
  have hl := hb.lt
  have HI := Lib.hid (h2.imap 9 rfl)
  clear h2 k2 hb
  have HPW := Lib.hid (wf_page (Nat.le_of_lt HP.out))
  go_wp2_with (at_mapUpdate; refine wpList_iput _ rfl _ _ _ 60 33 rfl Tryz.underlying33 Tryz.underlying60 L.m2 s2.mr s2.ri p r rfl rfl rfl HI.out HPW.out HRW.out (by have := HMR.out; unfold maxLen; omega) ?_; intro w3 hset hgrow; have HS := Lib.hid (H2.out.mapped 9 rfl hset hgrow); clear hset hgrow)
  have HV := Lib.hid (fun w => va_any p HP.out w)
  have hs3 : Objs W (spO L { s2 with ri := putF s2.ri p r, mr := (if (s2.ri p).isSome then s2.mr else s2.mr + 1) } os) w3 := HS.out.1
  have H3 := Lib.hid hs3.drew
  have K3 := Lib.hid HS.out.2
  have s0 := hs3.drew.spCell 7 (.pointer (some ⟨L.ub, 0, none⟩)) rfl
  have hl3 : L.sp < w3.heap.size := (hs3.blk 0 rfl).lt
  clear hs3 HS hl c2
  refine wp_region_plan_by (SameL [L.sp]) (later_same _) [(0, false), (1, false), (2, false), (3, false), (4, false), (5, false), (6, true), (7, true)] (by kernel_rfl) (by kernel_rfl) (fun _ d _ _ _ h => by cases d <;> exact h) ?_
  iterate 5 (refine plan_take (v := ?_) rfl (by kernel_rfl) ?_ ?_; rotate_left; (focus (intro w' hw'; try go_simp; try with_reducible rfl)); simp only [Act.put, List.setIfInBounds_toArray, List.set_cons_zero, List.set_cons_succ])
  refine plan_quiet rfl (by kernel_rfl) (fun w' => by go_simp; all_goals (first | exact ⟨rfl, rfl⟩ | rfl)) (fun w' hw' => HV.out w') ?_
  simp only [Act.put, List.setIfInBounds_toArray, List.set_cons_zero, List.set_cons_succ]
  clear s0
  refine plan_turn rfl (by kernel_rfl) (fun K hK => ?_)
  go_simp
  refine hK _ _ ⟨sameL_below ((Below.refl _ _).alloc (Nat.le_refl _) _) hl3, ?_⟩
  clear hK K
  have H4 := Lib.hid (H3.out.step ((Below.refl _ _).alloc (Nat.le_refl _) (.cells #[.int .u64 (vaN p : Int)] 23)))
  have HO : Hid (OneU (w3.drew.alloc (.cells #[.int .u64 (vaN p : Int)] 23)) (some (vaN p)) (.slice (some ⟨w3.drew.heap.size, 0, none⟩) 1 1)) := Lib.hid ⟨_, rfl, by rw [World.cell?_alloc_new]; rfl⟩
  refine plan_call rfl (by kernel_rfl) (by go_simp; exact ⟨rfl, rfl⟩) ?_
  refine (mfence_any _ _ _ _ _ _ _ _ _ _ _ _ (some (vaN p)) none _ _ (fun va e => by injection e with e; rw [← e]; exact va_lt HP.out) HO.out rfl H4.out.toUn).mono ?_
  rintro e w5 ⟨rfl, h5⟩
  have H5 : Hid (Objs W (spO L (finS s2 p r) os) w5) := Lib.hid (Objs.ofUn h5)
  clear h5
  refine ⟨_, rfl, (H4.out.spSame H5.out), ?_⟩
  simp only [Act.put, List.setIfInBounds_toArray, List.set_cons_zero, List.set_cons_succ]
  refine plan_end ?_
  go_wp2_with fail
  go_ret
  exact ⟨rfl, H5.out⟩
end
end Go.Proofs.YtophcgbddccpeaaGreat

/- A space's look-ups: Which, Data, Used, Slots, Pages. -/
namespace Go.Proofs.YtophcgbddccpeaaGreat
open Go.RowKit Go.Maps

section
variable {W w : World} {os : List Obj} {L : SpL} {s : SpS}
theorem used_any' (h : Objs W (spO L s os) w) :
    Calls Tryz.prog 36 #[.pointer (some ⟨L.sb, 0, none⟩)] w fun e w' => e = .returned (.int .i64 (s.k : Int)) ∧ w = w' := by
  obtain ⟨F, s0, h1, h2⟩ := h.get 5 _ rfl
  refine (used_any L.sb F s0 w h1).mono ?_
  rw [h2.len]
  exact fun _ _ h => h
theorem sused_any (h : Objs W (spO L s os) w) :
    Calls Tryz.prog 12 #[.pointer (some ⟨L.sp, 0, none⟩)] w fun e w' => e = .returned (.tuple #[.int .i64 (s.k : Int), .int .i64 (s.ms : Int)]) ∧ w.drew = w' := by
  have hd := h.drew
  have HU := Lib.hid (fun w' (hs : w.drew = w') => hs ▸ used_any' hd)
  have hb := hd.blk 0 rfl
  have c4 : ∀ w', w.drew = w' → w'.cell? ⟨L.sp, 4, none⟩ = some (.pointer (some ⟨L.sb, 0, none⟩)) := fun w' e => e ▸ hb.cell 4
  have c10 : ∀ w', w.drew = w' → w'.cell? ⟨L.sp, 10, none⟩ = some (.map (some L.m1)) := fun w' e => e ▸ hb.cell 10
  have hm : ∀ w', w.drew = w' → (Builtin.len_ #[59] 3 #[.map (some L.m1)]).run Tryz.prog w' = .ok (.int .i64 (s.ms : Int)) w' := fun w' e => e ▸ (hd.imap 8 rfl).len Tryz.underlying59 3
  have hl := hb.lt
  clear h hd hb
  go_enter Tryz.func12, Tryz.ntmps12
  go_wp2_with fail
  refine wp_region_plan_by (fun w1 w2 => w1 = w2) ⟨fun _ => rfl, fun h k => h.trans k⟩ [(0, false), (1, false), (2, false), (3, false), (4, false), (5, false), (6, false), (7, false), (8, false), (9, false), (10, false), (11, false)] (by kernel_rfl) (by kernel_rfl) (fun _ d _ _ _ h => by cases d <;> exact h) ?_
  iterate 4 (refine plan_take (v := ?_) rfl (by kernel_rfl) ?_ ?_; rotate_left; (focus (intro w' hw'; try go_simp; try with_reducible rfl)); simp only [Act.put, List.setIfInBounds_toArray, List.set_cons_zero, List.set_cons_succ])
  refine plan_quiet rfl (by kernel_rfl) (fun w' => by go_simp; all_goals (first | exact ⟨rfl, rfl⟩ | rfl)) (fun w' hw' => HU.out w' hw') ?_
  simp only [Act.put, List.setIfInBounds_toArray, List.set_cons_zero, List.set_cons_succ]
  iterate 7 (refine plan_take (v := ?_) rfl (by kernel_rfl) ?_ ?_; rotate_left; (focus (intro w' hw'; try go_simp; try with_reducible rfl)); simp only [Act.put, List.setIfInBounds_toArray, List.set_cons_zero, List.set_cons_succ])
  refine plan_end ?_
  go_wp2_with fail
  go_ret2
  exact ⟨rfl, rfl⟩
theorem slots_any (h : Objs W (spO L s os) w) :
    Calls Tryz.prog 38 #[.pointer (some ⟨L.sp, 0, none⟩)] w fun e w' => ∃ A c, e = .returned (.slice A (listT 0 s.T).length c) ∧ RdS w' (.slice A (listT 0 s.T).length c) (listT 0 s.T) ∧ Objs W (spO L s os) w' ∧ Ext w w' := by
  have HC := Lib.hid (h.bufList 2 rfl)
  have hb := h.blk 0 rfl
  have c6 : w.cell? ⟨L.sp, 6, none⟩ = some (.pointer (some ⟨L.b, 0, none⟩)) := hb.cell 6
  have hl := hb.lt
  clear h hb
  go_enter Tryz.func38, Tryz.ntmps38
  go_wp2_with fail
  refine HC.out.mono ?_
  rintro e w1 ⟨A, c, rfl, h1, h2, h3⟩
  have H1 := Lib.hid (And.intro h1 (And.intro h2 h3))
  clear h1 h2 h3
  go_wp2_with fail
  go_ret
  exact ⟨A, c, rfl, H1.out⟩
theorem spages_any (hu : s.u ≤ s.k) (hr : L.root < 1048576) (hok : PgOK L.n s.S 2 L.root) (h : Objs W (spO L s os) w) :
    Calls Tryz.prog 37 #[.pointer (some ⟨L.sp, 0, none⟩)] w fun e w' => ∃ A c, e = .returned (.slice A (pagesM L.n s.S 2 L.root 0).length c) ∧ OwnM w.heap.size w' (.slice A (pagesM L.n s.S 2 L.root 0).length c) (pagesM L.n s.S 2 L.root 0) ∧ Ext w w' := by
  obtain ⟨Fm, Fs, hT⟩ := h.spTabAt hu hr
  have HC := Lib.hid (Pages_t L.tc s.ts Fm Fs w hT hok)
  change Hid (Calls Tryz.prog 62 #[.pointer (some ⟨L.tb, 0, none⟩)] w (RetM (pagesM L.n s.S 2 L.root 0) w)) at HC
  have hb := h.blk 0 rfl
  have c6 : w.cell? ⟨L.sp, 5, none⟩ = some (.pointer (some ⟨L.tb, 0, none⟩)) := hb.cell 5
  have hl := hb.lt
  clear h hb hT hok
  generalize pagesM L.n s.S 2 L.root 0 = M at *
  go_enter Tryz.func37, Tryz.ntmps37
  go_wp2_with fail
  refine HC.out.mono ?_
  rintro e w1 ⟨v, rfl, h1, h2⟩
  obtain ⟨A, c, rfl⟩ := h1.form
  have H1 := Lib.hid (And.intro h1 h2)
  clear h1 h2
  go_wp2_with fail
  go_ret
  exact ⟨A, c, rfl, H1.out⟩
/-- The bytes of a shared page. -/
def SpS.data (s : SpS) (p : Nat) : List Nat := match s.sh p with
  | some f => s.S f.toNat
  | none => zeroL
theorem data_any (p : Nat) (hp : p < L.ns) (hn : L.ns ≤ 65536) (hf : ∀ f, s.sh p = some f → ∃ g : Nat, f = (g : Int) ∧ g < L.n) (h : Objs W (spO L s os) w) :
    Calls Tryz.prog 15 #[.pointer (some ⟨L.sp, 0, none⟩), .int .i64 (p : Int)] w (RetOwn (s.data p) w) := by
  have HC := Lib.hid (sthere_any (p : Int) h)
  rw [show (decide (0 ≤ (p : Int)) && decide ((p : Int) < (L.ns : Int))) = true by simp; omega] at HC
  have hb := h.blk 0 rfl
  have c10 : w.cell? ⟨L.sp, 10, none⟩ = some (.map (some L.m1)) := hb.cell 10
  have c3 : w.cell? ⟨L.sp, 3, none⟩ = some (.pointer (some ⟨L.gm, 0, none⟩)) := hb.cell 3
  have hl := hb.lt
  have hm := (h.imap 8 rfl).look2 Tryz.underlying3 Tryz.underlying59 (zeroI w) (wf_page (by omega : p ≤ 65536))
  cases hs : s.sh p with
  | some f =>
    obtain ⟨g, rfl, hg⟩ := hf f hs
    rw [hs] at hm
    change (Instr.lookup 59 (.map (some L.m1)) (.int .i64 (p : Int)) true).run Tryz.prog w = .ok (.tuple #[.int .i64 (g : Int), .bool true]) w at hm
    have HD : Hid (s.data p = s.S g) := Lib.hid (by unfold SpS.data; rw [hs]; rfl)
    obtain ⟨F, hF⟩ := h.get 3 _ rfl
    have HP := Lib.hid (Page_yes L.gm L.n g F s.S w hF.1 hg)
    clear h hp hn hf hb hs hF hg
    go_enter Tryz.func15, Tryz.ntmps15
    go_wp2_with fail
    refine HC.out.mono ?_
    rintro e w1 ⟨rfl, rfl⟩
    go_wp2_with fail
    refine HP.out.mono ?_
    rintro e w1 ⟨v, rfl, h1, h2⟩
    have H1 := Lib.hid (And.intro h1 h2)
    clear h1 h2
    go_wp2_with fail
    go_ret
    exact ⟨v, rfl, by rw [HD.out]; exact H1.out⟩
  | none =>
    rw [hs] at hm
    change (Instr.lookup 59 (.map (some L.m1)) (.int .i64 (p : Int)) true).run Tryz.prog w = .ok (.tuple #[.int .i64 0, .bool false]) w at hm
    have HD : Hid (s.data p = zeroL) := Lib.hid (by unfold SpS.data; rw [hs])
    have hmk := make_pg
    clear h hp hn hf hb hs
    go_enter Tryz.func15, Tryz.ntmps15
    go_wp2_with fail
    refine HC.out.mono ?_
    rintro e w1 ⟨rfl, rfl⟩
    go_wp2_with fail
    go_ret
    refine ⟨_, rfl, ?_, (Below.refl _ _).alloc (Nat.le_refl _) _⟩
    rw [HD.out, zero_len]
    exact ⟨by rw [List.length_map, zero_len], .inr ⟨w.heap.size, 4096, zpg, rfl, Nat.le_refl _, heap_alloc_new w _, by omega, by unfold maxLen; omega, zpg_size, by rw [zpg_list]; exact List.take_of_length_le (by rw [List.length_map, zero_len]; omega)⟩⟩
set_option maxRecDepth 100000 in
/-- Which shared page an address is in. -/
theorem which_yes (va : Nat) (hv : va < 18446744073709551616) (h1 : 1073741824 ≤ va) (h2 : (va - 1073741824) / 4096 < L.ns) (hn : L.ns ≤ 65536) (h : Objs W (spO L s os) w) :
    Calls Tryz.prog 16 #[.pointer (some ⟨L.sp, 0, none⟩), .int .u64 (va : Int)] w fun e w' => e = .returned (.tuple #[.int .i64 (((va - 1073741824) / 4096 : Nat) : Int), .bool true]) ∧ w = w' := by
  have hb := h.blk 0 rfl
  have c2 : w.cell? ⟨L.sp, 2, none⟩ = some (.int .i64 (L.ns : Int)) := hb.cell 2
  have hl := hb.lt
  have e1 : decide ((va : Int) < 1073741824) = false := by simp; omega
  have e2 : IntKind.u64.wrap ((va : Int) - 1073741824) = ((va - 1073741824 : Nat) : Int) := by rw [IntKind.wrap_u64]; omega
  have e3 : IntKind.u64.wrap ((((va - 1073741824 : Nat) : Int)).tdiv 4096) = (((va - 1073741824) / 4096 : Nat) : Int) := by
    rw [IntKind.wrap_u64, Int.tdiv_eq_ediv_of_nonneg (by omega)]; omega
  have e3' : IntKind.u64.wrap (((va - 1073741824 : Nat) : Int) / 4096) = (((va - 1073741824) / 4096 : Nat) : Int) := by
    rw [IntKind.wrap_u64]; omega
  have e4 : IntKind.u64.wrap (L.ns : Int) = (L.ns : Int) := by rw [IntKind.wrap_u64]; omega
  have e5 : decide ((L.ns : Int) ≤ (((va - 1073741824) / 4096 : Nat) : Int)) = false := by simp; omega
  have e6 : IntKind.i64.wrap (((va - 1073741824) / 4096 : Nat) : Int) = (((va - 1073741824) / 4096 : Nat) : Int) := by rw [IntKind.wrap_i64]; omega
  clear h hb hv h1 h2 hn
  generalize (va - 1073741824) / 4096 = q at *
  generalize ((va - 1073741824 : Nat) : Int) = d at *
  generalize (va : Int) = x at *
  generalize (q : Int) = y at *
  go_enter Tryz.func16, Tryz.ntmps16
  go_wp2_with fail
  go_ret2
  exact ⟨rfl, rfl⟩
end
end Go.Proofs.YtophcgbddccpeaaGreat

/- Pages that are mapped from the beginning on. -/
namespace Go.Proofs.YtophcgbddccpeaaGreat
open Go.RowKit Go.Maps

/-- The frame has been taken. -/
def SpS.took (s : SpS) : SpS := { s with k := s.k + 1 }
/-- One page more is laid. -/
def layStep (L : SpL) (base : Nat) (E : Nat → Pte) (i : Nat) (s : SpS) : Int × SpS := ((mapR L.tc s.took.ts (base + 4096 * i) 0 (E s.k)).1, s.took.withT (mapR L.tc s.took.ts (base + 4096 * i) 0 (E s.k)).2)
section
variable {W w : World} {os : List Obj} {L : SpL}
theorem nv_iv (l : List Nat) : l.map nv = (l.map (fun (x : Nat) => (x : Int))).map iv := by rw [List.map_map]; rfl
set_option maxRecDepth 100000 in
set_option maxHeartbeats 4000000 in
theorem lay_any (base n : Nat) (str : ByteArray) (E : Nat → Pte) (st : Nat → SpS) (hb : base ≤ 4294967296) (hn : n ≤ 16) (hr : L.root < 1048576) (hLn : L.n ≤ 1048576) (hE : ∀ f w, f < 1048576 → PteWf (E f) ∧ Calls Tryz.prog 44 #[.string str, .int .i64 (f : Int)] w fun e w' => e = .returned (.agg (E f).cs) ∧ Below w.heap.size w w')
    (hst : ∀ i, i < n → (st i).k < L.n ∧ (st i).u ≤ (st i).k ∧ (layStep L base E i (st i)).1 = 0 ∧ st (i + 1) = (layStep L base E i (st i)).2)
    (h : Objs W (spO L (st 0) os) w) :
    Calls Tryz.prog 23 #[.pointer (some ⟨L.sp, 0, none⟩), .int .u64 (base : Int), .int .i64 (n : Int), .string str] w fun e w' => ∃ v, e = .returned (.tuple #[v, .int .i64 0]) ∧ Objs W (rowO W.heap.size 3 1 n v ((List.range n).map (fun i => nv (st i).k)) :: spO L (st n) os) w' := by
  obtain ⟨i0, hi0, hz0, hz1, hz2⟩ := info_parts info3
  have HST := Lib.hid hst
  have HE := Lib.hid hE
  have HB := Lib.hid hb
  have HN := Lib.hid hn
  have HR := Lib.hid hr
  have HLN := Lib.hid hLn
  have H0 := Lib.hid (h.row0 W.heap.size 3 1)
  clear h hst hE hb hr hLn
  go_enter Tryz.func23, Tryz.ntmps23
  go_wp2_with fail
  go_loopw [10, 11, 12, 13, 14, 16, 8, 9] (fun v _ _ _ _ i _ _ wr => ∃ k : Nat, k ≤ n ∧ i = .int .i64 (k : Int) ∧ Objs W (rowO W.heap.size 3 1 k v ((List.range k).map (fun i => nv (st i).k)) :: spO L (st k) os) wr) (fun _ _ _ _ _ i _ _ _ => n - (intOf i).toNat)
  case atStart => exact ⟨0, Nat.zero_le _, rfl, H0.out⟩
  clear H0
  case round =>
    obtain ⟨k, hk, rfl, hO⟩ := hrel
    obtain ⟨A1, cp, rfl⟩ := row_form (hO.owns 0 rfl)
    have HO := Lib.hid hO
    by_cases hkl : k < n
    · obtain ⟨g1, g2, g3, g4⟩ := HST.out k hkl
      have HK := Lib.hid hkl
      have hrot : Objs W (spO L (st k) (os ++ [rowO W.heap.size 3 1 k (.slice A1 k cp) ((List.range k).map (fun i => nv (st i).k))])) wr :=
        Objs.rot (xs := [rowO W.heap.size 3 1 k (.slice A1 k cp) ((List.range k).map (fun i => nv (st i).k))]) (bs := spO L (st k) os) hO
      have HO2 := Lib.hid hrot
      have HT := Lib.hid (hrot.spTake g1)
      have hki : (k : Int) < (n : Int) := by omega
      have hbk := hrot.blk 0 rfl
      have c4 : wr.cell? ⟨L.sp, 4, none⟩ = some (.pointer (some ⟨L.sb, 0, none⟩)) := hbk.cell 4
      have hl := hbk.lt
      have HG := Lib.hid (And.intro g1 (And.intro g2 (And.intro g3 g4)))
      have hfb : (st k).k < 1048576 := by have := HLN.out; omega
      have HFB := Lib.hid hfb
      clear hO hrot hbk g1 g2 g3 g4 hkl hfb
      go_wp2_with fail
      refine HT.out.mono ?_
      rintro e w1 ⟨rfl, h1, k1⟩
      have h1' : Objs W (spO L (st k).took (os ++ [rowO W.heap.size 3 1 k (.slice A1 k cp) ((List.range k).map (fun i => nv (st i).k))])) w1 := h1
      have H1 := Lib.hid h1'.drew
      have s0 := h1'.drew.spCell 5 (.pointer (some ⟨L.tb, 0, none⟩)) rfl
      have hl1 : L.sp < w1.heap.size := (h1'.blk 0 rfl).lt
      have e1 : IntKind.u64.wrap (k : Int) = (k : Int) := by rw [IntKind.wrap_u64]; have := HN.out; have := HK.out; omega
      have e2 : IntKind.u64.wrap ((k : Int) * 4096) = ((4096 * k : Nat) : Int) := by rw [IntKind.wrap_u64]; have := HN.out; have := HK.out; omega
      have e3 : IntKind.u64.wrap ((base : Int) + ((4096 * k : Nat) : Int)) = ((base + 4096 * k : Nat) : Int) := by rw [IntKind.wrap_u64]; have := HN.out; have := HB.out; have := HK.out; omega
      have HVL : Hid (base + 4096 * k < 18446744073709551616) := Lib.hid (by have := HN.out; have := HB.out; have := HK.out; omega)
      have HDF : Hid ((layStep L base E k (st k)).1 = (mapR L.tc (st k).took.ts (base + 4096 * k) 0 (E (st k).k)).1 ∧ (layStep L base E k (st k)).2 = (st k).took.withT (mapR L.tc (st k).took.ts (base + 4096 * k) 0 (E (st k).k)).2) := Lib.hid ⟨rfl, rfl⟩
      clear h1 h1' k1 c4 hl HT
      generalize hva : base + 4096 * k = va at *
      generalize (4096 * k : Nat) = q at *
      go_wp2_with fail
      refine wp_region_plan_by (SameL [L.sp]) (later_same _) [(0, false), (1, false), (2, false), (3, false), (4, false), (5, false), (6, false), (7, false), (8, false), (9, false), (10, false), (11, true), (12, true), (13, false)] (by kernel_rfl) (by kernel_rfl) (fun _ d _ _ _ h => by cases d <;> exact h) ?_
      iterate 11 (refine plan_take (v := ?_) rfl (by kernel_rfl) ?_ ?_; rotate_left; (focus (intro w' hw'; try go_simp; try with_reducible rfl)); simp only [Act.put, List.setIfInBounds_toArray, List.set_cons_zero, List.set_cons_succ])
      clear s0
      refine plan_call rfl (by kernel_rfl) (by go_simp; exact ⟨rfl, rfl⟩) ?_
      refine (((HE.out (st k).k _ HFB.out).2)).mono ?_
      rintro e w2 ⟨rfl, b2⟩
      have H2 := Lib.hid (H1.out.step b2)
      refine ⟨_, rfl, (sameL_below b2 hl1), ?_⟩
      simp only [Act.put, List.setIfInBounds_toArray, List.set_cons_zero, List.set_cons_succ]
      clear b2
      refine plan_call rfl (by kernel_rfl) (by go_simp; exact ⟨rfl, rfl⟩) ?_
      refine (H2.out.spTab (σ' := (mapR L.tc (st k).took.ts va 0 (E (st k).k)).2) (R := fun e => e = .returned (.int .i64 (mapR L.tc (st k).took.ts va 0 (E (st k).k)).1)) (by have := HG.out.2.1; show (st k).u ≤ (st k).k + 1; omega) HR.out (fun Fm Fs hT => Map_t L.tc (st k).took.ts Fm Fs va (E (st k).k) 0 _ hT HVL.out (HE.out (st k).k w2 HFB.out).1)).mono ?_
      rintro e w3 ⟨rfl, h3, k3, u3⟩
      have HD2 := HDF.out
      rw [HG.out.2.2.1, ← HG.out.2.2.2] at HD2
      rw [← HD2.1]
      have h3' : Objs W (spO L (st (k + 1)) (os ++ [rowO W.heap.size 3 1 k (.slice A1 k cp) ((List.range k).map (fun i => nv (st i).k))])) w3 := by rw [HD2.2]; exact h3
      have h3r : Objs W (rowO W.heap.size 3 1 k (.slice A1 k cp) ((List.range k).map (fun i => nv (st i).k)) :: spO L (st (k + 1)) os) w3 :=
        Objs.rot (xs := spO L (st (k + 1)) os) (bs := [rowO W.heap.size 3 1 k (.slice A1 k cp) ((List.range k).map (fun i => nv (st i).k))]) h3'
      have H3 := Lib.hid h3r
      refine ⟨_, rfl, (H2.out.spSame h3'), ?_⟩
      simp only [Act.put, List.setIfInBounds_toArray, List.set_cons_zero, List.set_cons_succ]
      clear h3 h3' h3r k3 u3 HD2
      iterate 1 (refine plan_take (v := ?_) rfl (by kernel_rfl) ?_ ?_; rotate_left; (focus (intro w' hw'; try go_simp; try with_reducible rfl)); simp only [Act.put, List.setIfInBounds_toArray, List.set_cons_zero, List.set_cons_succ])
      refine plan_end ?_
      have H3A := Lib.hid (H3.out.step ((Below.refl _ _).alloc (Nat.le_refl _) (.cells #[.int .i64 ((st k).k : Int)] 3)))
      go_wp2_with (at_builtin; refine wpList_append_any _ rfl (.tmp 46) (.tmp 48) _ rfl W.heap.size 3 i0 _ 1 8 Tryz.underlying63 hi0 hz0 hz1 hz2 rfl (by decide) _ k ((List.range k).map (fun i => nv (st i).k)) rfl (H3A.out.owns 0 rfl) (w3.heap.size + 1) (some ⟨w3.heap.size, 0, none⟩) 1 1 [.int .i64 ((st k).k : Int)] rfl (reads_one _ _ _) (one_int _) (by unfold maxLen; omega) (by omega) (Nat.le_trans H3.out.bel.size (by simp)) ?_; intro v4 w4 hown hgrow hat; have HF := Lib.hid (H3A.out.grow 0 rfl hown hgrow hat); clear hown hgrow hat)
      go_roundw
      case rel => exact ⟨k + 1, HK.out, by go_num, by rw [List.range_succ, List.map_append]; exact HF.out⟩
      case measure => simp [intOf]; have := HK.out; omega
    · obtain rfl : n = k := by omega
      clear hO
      go_wp2_with fail
      go_ret2
      exact ⟨_, rfl, HO.out⟩
end
end Go.Proofs.YtophcgbddccpeaaGreat

/- Shapes; new memories, stocks, tables as objects. -/
namespace Go.Proofs.YtophcgbddccpeaaGreat
open Go.RowKit Go.Maps

def shC (nc np ns : Nat) : Array Value := #[.int .i64 (nc : Int), .int .i64 (np : Int), .int .i64 (ns : Int)]
theorem shape_ok (nc np ns : Nat) (w : World) (h1 : 1 ≤ nc) (h2 : nc ≤ 16) (h3 : np ≤ 16) (h4 : ns ≤ 65536) :
    Calls Tryz.prog 17 #[.agg #[.int .i64 (nc : Int), .int .i64 (np : Int), .int .i64 (ns : Int)]] w fun e w' => e = .returned (.bool true) ∧ w.alloc (.cells #[.int .i64 (nc : Int), .int .i64 (np : Int), .int .i64 (ns : Int)] 26) = w' := by
  have d1 : decide (1 ≤ (nc : Int)) = true := by simp; omega
  have d2 : decide ((nc : Int) ≤ 16) = true := by simp; omega
  have d3 : decide (0 ≤ (np : Int)) = true := by simp
  have d4 : decide ((np : Int) ≤ 16) = true := by simp; omega
  have d5 : decide (0 ≤ (ns : Int)) = true := by simp
  have d6 : decide ((ns : Int) ≤ 65536) = true := by simp; omega
  clear h1 h2 h3 h4
  generalize (nc : Int) = a at *
  generalize (np : Int) = b at *
  generalize (ns : Int) = c at *
  go_enter Tryz.func17, Tryz.ntmps17
  go_wp2_with fail
  go_ret
  exact ⟨rfl, rfl⟩
/-- Frames that a space wants. -/
theorem need_ok (nc np ns : Nat) (w : World) (h1 : 1 ≤ nc) (h2 : nc ≤ 16) (h3 : np ≤ 16) (h4 : 1 ≤ ns) (h5 : ns ≤ 512) :
    Calls Tryz.prog 6 #[.agg #[.int .i64 (nc : Int), .int .i64 (np : Int), .int .i64 (ns : Int)]] w fun e w' => e = .returned (.int .i64 ((nc + np + ns + 5 : Nat) : Int)) ∧ Below w.heap.size w w' := by
  have HB := Lib.hid ((Below.refl w.heap.size w).alloc (Nat.le_refl _) (.cells #[.int .i64 (nc : Int), .int .i64 (np : Int), .int .i64 (ns : Int)] 26))
  have HC := Lib.hid (fun w => shape_ok nc np ns w h1 h2 h3 (by omega))
  have hx : Blk (w.alloc (.cells #[.int .i64 (nc : Int), .int .i64 (np : Int), .int .i64 (ns : Int)] 26)) w.heap.size 26 #[.int .i64 (nc : Int), .int .i64 (np : Int), .int .i64 (ns : Int)] := Blkf.new_at _ _ _ _ rfl
  have e1 : IntKind.i64.wrap (3 + (nc : Int)) = (3 + nc : Nat) := by rw [IntKind.wrap_i64]; omega
  have e2 : IntKind.i64.wrap (((3 + nc : Nat) : Int) + (np : Int)) = (3 + nc + np : Nat) := by rw [IntKind.wrap_i64]; omega
  have e3 : IntKind.i64.wrap (((3 + nc + np : Nat) : Int) + (ns : Int)) = (3 + nc + np + ns : Nat) := by rw [IntKind.wrap_i64]; omega
  have d1 : decide (0 < (ns : Int)) = true := by simp; omega
  have e4 : IntKind.i64.wrap ((ns : Int) + 512) = (ns + 512 : Nat) := by rw [IntKind.wrap_i64]; omega
  have e5 : IntKind.i64.wrap (((ns + 512 : Nat) : Int) - 1) = (ns + 511 : Nat) := by rw [IntKind.wrap_i64]; omega
  have e6 : IntKind.i64.wrap (((ns + 511 : Nat) : Int).tdiv 512) = 1 := by rw [IntKind.wrap_i64, Int.tdiv_eq_ediv_of_nonneg (by omega)]; omega
  have e6' : IntKind.i64.wrap (((ns + 511 : Nat) : Int) / 512) = 1 := by rw [IntKind.wrap_i64]; omega
  have e7 : IntKind.i64.wrap (((3 + nc + np + ns : Nat) : Int) + 2) = ((nc + np + ns + 5 : Nat) : Int) := by rw [IntKind.wrap_i64]; omega
  have e8 : (((ns + 511 : Nat) : Int).tdiv 512) = 1 := by rw [Int.tdiv_eq_ediv_of_nonneg (by omega)]; omega
  clear h1 h2 h3 h4 h5
  generalize ((3 + nc + np + ns : Nat) : Int) = s3 at *
  generalize ((3 + nc + np : Nat) : Int) = s2 at *
  generalize ((3 + nc : Nat) : Int) = s1 at *
  generalize ((ns + 512 : Nat) : Int) = s4 at *
  generalize ((ns + 511 : Nat) : Int) = s5 at *
  generalize ((nc + np + ns + 5 : Nat) : Int) = s6 at *
  generalize (nc : Int) = a at *
  generalize (np : Int) = b at *
  generalize (ns : Int) = c at *
  have HX := Lib.hid hx
  clear hx
  go_enter Tryz.func6, Tryz.ntmps6
  go_wp2_with fail
  refine (HC.out _).mono ?_
  rintro e w1 ⟨rfl, rfl⟩
  have hb := HX.out.alloc (.cells #[.int .i64 a, .int .i64 b, .int .i64 c] 26)
  have c0 := hb.cell 0
  have c1 := hb.cell 1
  have c2 := hb.cell 2
  simp only [List.getElem?_toArray, List.getElem?_cons_zero, List.getElem?_cons_succ] at c0 c1 c2
  clear hb
  go_wp2_with fail
  go_ret
  exact ⟨rfl, HB.out.alloc HB.out.size _⟩
theorem root_cell (tb : Nat) (r : Int) (w : World) (h : w.cell? ⟨tb, 2, none⟩ = some (.int .i64 r)) (hl : tb < w.heap.size) :
    Calls Tryz.prog 26 #[.pointer (some ⟨tb, 0, none⟩)] w fun e w' => e = .returned (.int .i64 r) ∧ w = w' := by
  go_enter Tryz.func26, Tryz.ntmps26
  go_wp2_with fail
  go_ret
  exact ⟨rfl, rfl⟩
section
variable {W w : World} {os : List Obj}
/-- An object is forgotten. -/
theorem Objs.without {xs : List Obj} {A : Obj} (h : Objs W (xs ++ A :: os) w) : Objs W (xs ++ os) w := by
  refine h.sub (fun i => if i < xs.length then i else i + 1) (fun i O ho => ?_) (fun i j hi hj e => ?_)
  · by_cases hi : i < xs.length
    · rw [List.getElem?_append_left hi] at ho
      rw [if_pos hi, List.getElem?_append_left hi]
      exact ho
    · rw [List.getElem?_append_right (by omega)] at ho
      rw [if_neg hi, List.getElem?_append_right (by omega), show i + 1 - xs.length = (i - xs.length) + 1 by omega, List.getElem?_cons_succ]
      exact ho
  · split at e <;> split at e <;> omega
theorem Objs.memNew (h : Objs W os w) (n : Nat) (h1 : 1 ≤ n) (h2 : n ≤ 1048576) :
    Calls Tryz.prog 18 #[.int .i64 (n : Int)] w fun e w' => ∃ g, e = .returned (.tuple #[.pointer (some ⟨g, 0, none⟩), .int .i64 0]) ∧ Objs W (memO g n emptyS :: os) w' ∧ Ext w w' := by
  refine (new_yes n w h1 h2).mono ?_
  rintro e w' ⟨g, rfl, hm, hb⟩
  obtain ⟨F', k1, k2, k3⟩ := hm.fits
  exact ⟨g, rfl, h.add hb ⟨k1, k3⟩ (fun b hb => k2 b hb), hb⟩
def tc0 (gm sb n : Nat) : TC := ⟨0, gm, sb, n, 0, n, 0⟩
theorem Objs.stkNew (h : Objs W os w) (gm n : Nat) (h2 : n ≤ 1048576) :
    Calls Tryz.prog 21 #[.int .i64 0, .int .i64 (n : Int)] w fun e w' => e = .returned (.tuple #[.pointer (some ⟨w.heap.size + 1, 0, none⟩), .int .i64 0]) ∧ Objs W (stkO (tc0 gm (w.heap.size + 1) n) 0 :: os) w' ∧ Ext w w' := by
  refine (frames_new_yes 0 (n : Int) w (by decide) (by decide) (by omega) (by omega)).mono ?_
  rintro e w' ⟨rfl, hs, hb⟩
  refine ⟨rfl, h.add hb ⟨_, hs, ⟨?_, rfl, fun f hf => by simp at hf, .inl ⟨rfl, rfl, Nat.zero_le _⟩, ?_⟩⟩ (fun b hb => ?_), hb⟩
  · show (0 : Int) + (n : Int) = ((0 + n : Nat) : Int); omega
  · show 0 + n ≤ 1048576; omega
  · rcases hb with rfl | rfl <;> omega
/-- Tables are made. -/
theorem Objs.tabNew (gm sb n : Nat) (hn : 1 ≤ n) (h : Objs W (memO gm n emptyS :: stkO (tc0 gm sb n) 0 :: os) w) :
    Calls Tryz.prog 22 #[.pointer (some ⟨gm, 0, none⟩), .pointer (some ⟨sb, 0, none⟩)] w fun e w' => e = .returned (.tuple #[.pointer (some ⟨w.heap.size, 0, none⟩), .int .i64 0]) ∧ Objs W (tabsO ⟨w.heap.size, gm, sb, n, 0, n, 0⟩ ⟨updS emptyS 0 zeroL, 1, 1⟩ :: os) w' ∧ Below W.heap.size w w' := by
  have h1 := h.join
  refine h1.turn (P := Tryz.prog) (f := 22) (args := #[.pointer (some ⟨gm, 0, none⟩), .pointer (some ⟨sb, 0, none⟩)]) (R := fun e => e = .returned (.tuple #[.pointer (some ⟨w.heap.size, 0, none⟩), .int .i64 0])) 0 _ (tabsO ⟨w.heap.size, gm, sb, n, 0, n, 0⟩ ⟨updS emptyS 0 zeroL, 1, 1⟩) rfl (fun F hF => ?_)
  obtain ⟨Fm, Fs, ⟨hm, hml⟩, ⟨s, hs, ho⟩, hd, hF⟩ := hF
  have hE : newE ⟨w.heap.size, gm, sb, n, 0, n, 0⟩ emptyS 0 = 0 := by
    unfold newE takeE
    rw [if_neg (by show ¬ (0 : Nat) = n; omega), if_neg (by show ¬ n ≤ 0 + 0; omega)]
  have hS : newS ⟨w.heap.size, gm, sb, n, 0, n, 0⟩ emptyS 0 = ⟨updS emptyS 0 zeroL, 1, 1⟩ := by
    unfold newS takeS
    rw [if_neg (by show ¬ (0 : Nat) = n; omega), if_neg (by show ¬ n ≤ 0 + 0; omega)]
    rfl
  have hN : NewIn w ⟨w.heap.size, gm, sb, n, 0, n, 0⟩ emptyS 0 Fm Fs := ⟨hm, ⟨s, hs, ⟨ho.end_, ho.len, ho.all, ho.at_, ho.big⟩⟩, hd, hml⟩
  refine (tnew_yes ⟨w.heap.size, gm, sb, n, 0, n, 0⟩ emptyS 0 Fm Fs w hN rfl rfl hE).mono ?_
  rintro e w' ⟨rfl, Fm', Fs', h1, h2, h3, h4⟩
  rw [hS] at h1
  refine ⟨rfl, TabF ⟨w.heap.size, gm, sb, n, 0, n, 0⟩ Fm' Fs', ⟨Fm', Fs', h1, fun _ => Iff.rfl⟩, fun b hb => ?_, h4.mono fun b hb => (hF b).2 hb⟩
  rcases hb with hb | hb | hb
  · exact (h2 b hb).imp (fun h => (hF b).2 (.inl h)) id
  · exact (h3 b hb).imp (fun h => (hF b).2 (.inr h)) id
  · exact .inr (by rw [hb]; exact Nat.le_refl _)
end
end Go.Proofs.YtophcgbddccpeaaGreat
