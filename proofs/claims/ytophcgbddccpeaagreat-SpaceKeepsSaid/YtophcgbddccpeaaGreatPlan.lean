/- A region that draws its order, walked in ONE order: what yields the same in every later world is taken first, what turns the world waits for one another. -/
import Derived.Test.YtophcgbddccpeaaGreatRows
import Derived.OrdersHeld
import Derived.WalkKit
import Derived.WalkSpells
import Derived.WalkLawsBesides
import Derived.Handy
import Derived.BigQuiet
import Derived.Lib.Hide
namespace Go.Proofs.YtophcgbddccpeaaGreat
open Go.RowKit

/-- The later world has only grown: what was there is as it was. -/
def Ext (w w' : World) : Prop := Below w.heap.size w w'
theorem Ext.refl (w : World) : Ext w w := Below.refl _ _
theorem Ext.trans {a b c : World} (h : Ext a b) (k : Ext b c) : Ext a c := Below.trans h (k.mono h.size)

/-- What the worlds of a region have to do with one another. -/
structure Later (R : World → World → Prop) : Prop where
  refl : ∀ w, R w w
  trans : ∀ {a b c}, R a b → R b c → R a c
theorem later_ext : Later Ext := ⟨Ext.refl, Ext.trans⟩
/-- All blocks but one are as they were. -/
def Save (g : Nat) (w w' : World) : Prop := ∀ p : Addr, p.block ≠ g → w'.cell? p = w.cell? p
theorem later_save (g : Nat) : Later (Save g) := ⟨fun _ _ _ => rfl, fun h k p hp => (k p hp).trans (h p hp)⟩

section
variable {P : Program} {ops : Array Oper} {Q : Exit → Act → World → Prop} {md : Region.Mode} {R : World → World → Prop}

/-- In every world that meets S the operation yields v and leaves the world as it is: by itself, or by a call that does so. -/
def YieldsQ (P : Program) (ops : Array Oper) (S : World → Prop) (o : Oper) (v : Value) (a : Act) : Prop :=
  (Region.wanted o (yielded ops a.tmps) = true ∧ ∀ w, S w → ((execOp a.eval o).run P w = .ok (.value v) w ∨
    ∃ f args, (execOp a.eval o).run P w = .ok (.enter f args) w ∧ Calls P f args w fun e w' => e = .returned v ∧ w = w')) ∨
  (Region.wanted o (yielded ops a.tmps) = false ∧ v = undef)
theorem YieldsQ.wpOp {S : World → Prop} {i : Nat} {o : Oper} {v : Value} {a : Act} (hi : ops[i]? = some o) (hy : YieldsQ P ops S o v a)
    {K : Act → World → Prop} {w : World} (hS : S w) (h : K (a.put o.dst v) w) : wpOp P ops Q i K a w := by
  unfold Go.wpOp
  simp only [hi]
  rcases hy with ⟨hw, hv⟩ | ⟨hw, rfl⟩
  · rcases hv w hS with hv | ⟨f, args, hv, hc⟩
    · simp only [hw, if_true, Oper.wp, hv, Oper.upon]; exact .inl h
    · simp only [hw, if_true, Oper.wp, hv, Oper.upon]
      refine .inl (hc.mono ?_)
      rintro e w' ⟨rfl, rfl⟩
      exact h
  · simp only [hw, Bool.false_eq_true, if_false]; exact h
theorem YieldsQ.of_same {S : World → Prop} {o : Oper} {v : Value} {a a' : Act} (hy : YieldsQ P ops S o v a) (he : execOp a'.eval o = execOp a.eval o)
    (hw : Region.wanted o (yielded ops a'.tmps) = Region.wanted o (yielded ops a.tmps)) : YieldsQ P ops S o v a' := by
  unfold YieldsQ at *
  rw [he, hw]
  exact hy
theorem wpOp_putQ {S : World → Prop} {j : Nat} {oi oj : Oper} {v : Value} (hj : ops[j]? = some oj) (hap : oi.apart ops oj = true)
    (hsi : ∀ cs b, oi.op ≠ .select cs b) (hsj : ∀ cs b, oj.op ≠ .select cs b)
    (hQ : ∀ c a w, Q (.panic c) (a.put oi.dst v) w → Q (.panic c) a w) {K : Act → World → Prop} {a : Act} {w : World}
    (hy : YieldsQ P ops S oi v a) (h : wpOp P ops Q j K (a.put oi.dst v) w) :
    wpOp P ops Q j (fun a' w' => YieldsQ P ops S oi v a' ∧ K (a'.put oi.dst v) w') a w := by
  obtain ⟨h1, h2, h3⟩ := Oper.apart_spec hap
  have keep : ∀ (a : Act), YieldsQ P ops S oi v a → ∀ u, YieldsQ P ops S oi v (a.put oj.dst u) := fun a hy u =>
    hy.of_same (execOp_put oi hsi a oj.dst u h3) (wanted_put oi a oj.dst u h3)
  have keepD : ∀ d, YieldsQ P ops S oi v { a with defers := d :: a.defers } := fun d => hy.of_same rfl rfl
  unfold wpOp at *
  simp only [hj] at *
  rw [wanted_put oj a oi.dst v h1] at h
  split
  · rename_i hw
    simp only [hw, if_true] at h
    rcases h with h | ⟨hasks, hlets⟩
    case inr => exact .inr ⟨by unfold Oper.asks at *; rw [execOp_put oj hsj a oi.dst v h1] at hasks; exact hasks, hlets⟩
    refine .inl ?_
    unfold Oper.wp at *
    rw [execOp_put oj hsj a oi.dst v h1] at h
    generalize (execOp a.eval oj).run P w = r at *
    cases r with
    | ok n w' =>
      cases n <;> simp only [Oper.upon] at h ⊢
      case value u => exact ⟨keep a hy u, by rw [← Act.put_comm a v u h2]; exact h⟩
      case skip => exact ⟨keep a hy _, by rw [← Act.put_comm a v undef h2]; exact h⟩
      case defer d =>
        refine ⟨keep _ (keepD d) _, ?_⟩
        rw [← Act.put_comm _ v undef h2, ← Act.put_defers]
        exact h
      case enter f args =>
        refine Calls.mono h fun e w'' he => ?_
        cases e with
        | returned u => exact ⟨keep a hy u, by rw [← Act.put_comm a v u h2]; exact he⟩
        | panicked c => exact hQ _ _ _ he
        | outgrown => exact he
      case row row args => exact Rows.mono h fun u w'' he => ⟨keep a hy u, by rw [← Act.put_comm a v u h2]; exact he⟩
    | halt x w' =>
      cases x <;> simp only [Oper.upon] at h ⊢
      case panic u => exact hQ _ _ _ h
  · rename_i hw
    simp only [hw] at h
    exact ⟨keep a hy _, by rw [← Act.put_comm a v undef h2]; exact h⟩
theorem yieldsQ_mono {S S' : World → Prop} {o : Oper} {v : Value} {a : Act} (h : ∀ w, S' w → S w) (hy : YieldsQ P ops S o v a) : YieldsQ P ops S' o v a :=
  hy.imp (fun ⟨h1, h2⟩ => ⟨h1, fun w hw => h2 w (h w hw)⟩) id

/-- Is j waited for by i, through at most n steps? -/
def reachB (md : Region.Mode) (ops : Array Oper) : Nat → Nat → Nat → Bool
  | 0, _, _ => false
  | n + 1, i, j => match ops[i]? with
    | some o => o.after.any (fun e => Region.binds md e && (e.on == j || reachB md ops n e.on j))
    | none => false
/-- Does an operation wait for all others? -/
def waitsAll (md : Region.Mode) (ops : Array Oper) (i : Nat) : Bool :=
  (List.range ops.size).all fun j => j == i || reachB md ops 3 i j
/-- What is listed waits for nothing that is not. -/
def ClosedL (md : Region.Mode) (ops : Array Oper) (listed : Array Bool) : Prop :=
  ∀ k o, ops[k]? = some o → listed.getD k false = true → ∀ e ∈ o.after, Region.binds md e = true → listed.getD e.on false = true
theorem reach_listed {md : Region.Mode} {ops : Array Oper} {listed : Array Bool} (hc : ClosedL md ops listed) : ∀ (n i j : Nat) (o : Oper), ops[i]? = some o → (∀ e ∈ o.after, Region.binds md e = true → listed.getD e.on false = true) →
    reachB md ops n i j = true → listed.getD j false = true
  | 0, i, j, o, ho, h, hr => by cases hr
  | n + 1, i, j, o, ho, h, hr => by
    unfold reachB at hr
    rw [ho] at hr
    obtain ⟨e, he, hb⟩ := Array.any_eq_true'.1 hr
    simp only [Bool.and_eq_true, Bool.or_eq_true, beq_iff_eq] at hb
    have h1 := h e he hb.1
    rcases hb.2 with h2 | h2
    · rw [← h2]; exact h1
    · cases hm : ops[e.on]? with
      | none =>
        cases n with
        | zero => cases h2
        | succ n => unfold reachB at h2; rw [hm] at h2; cases h2
      | some om => exact reach_listed hc n e.on j om hm (hc e.on om hm h1) h2
theorem waitsAll_spec {md : Region.Mode} {ops : Array Oper} {listed : Array Bool} {i j : Nat} {o oj : Oper} (hc : ClosedL md ops listed) (h : waitsAll md ops i = true) (hi : ops[i]? = some o) (hr : ∀ e ∈ o.after, Region.binds md e = true → listed.getD e.on false = true) (hj : ops[j]? = some oj) (hji : i ≠ j) :
    listed.getD j false = true := by
  have hlt : j < ops.size := by
    rcases Nat.lt_or_ge j ops.size with h' | h'
    · exact h'
    · rw [Array.getElem?_eq_none h'] at hj; cases hj
  have := List.all_eq_true.1 h j (List.mem_range.2 hlt)
  simp only [Bool.or_eq_true, beq_iff_eq] at this
  rcases this with h1 | h1
  · exact absurd h1.symm hji
  · exact reach_listed hc 3 i j o hi hr h1
def closedB (md : Region.Mode) (ops : Array Oper) (listed : Array Bool) : Bool :=
  (List.range ops.size).all fun k => !listed.getD k false || (match ops[k]? with | some o => o.after.all (fun e => !Region.binds md e || listed.getD e.on false) | none => true)
theorem closedB_spec {md : Region.Mode} {ops : Array Oper} {listed : Array Bool} (h : closedB md ops listed = true) : ClosedL md ops listed := by
  intro k o ho hk e he hb
  have hlt : k < ops.size := by
    rcases Nat.lt_or_ge k ops.size with h' | h'
    · exact h'
    · rw [Array.getElem?_eq_none h'] at ho; cases ho
  have h1 := List.all_eq_true.1 h k (List.mem_range.2 hlt)
  rw [hk, ho] at h1
  simp only [Bool.not_true, Bool.false_or, Array.all_eq_true_iff_forall_mem] at h1
  have h2 := h1 e he
  rw [hb] at h2
  simpa using h2
theorem closed_none {md : Region.Mode} {ops : Array Oper} (n : Nat) : ClosedL md ops (Array.replicate n false) := by
  intro k o _ h
  exfalso
  rw [Array.getD_eq_getD_getElem?, Array.getElem?_replicate] at h
  split at h <;> simp at h
theorem getD_set_true {listed : Array Bool} {i k : Nat} (h : (listed.setIfInBounds i true).getD k false = true) : k = i ∨ listed.getD k false = true := by
  by_cases hk : i = k
  · exact .inl hk.symm
  · right
    rw [Array.getD_eq_getD_getElem?, Array.getElem?_setIfInBounds_ne hk, ← Array.getD_eq_getD_getElem?] at h
    exact h
theorem getD_set_keep {listed : Array Bool} {i k : Nat} (h : listed.getD k false = true) : (listed.setIfInBounds i true).getD k false = true := by
  by_cases hk : i = k
  · subst hk
    rw [Array.getD_eq_getD_getElem?] at h ⊢
    rcases Nat.lt_or_ge i listed.size with h' | h'
    · rw [Array.getElem?_setIfInBounds_self_of_lt h']; rfl
    · rw [Array.getElem?_eq_none h'] at h; simp at h
  · rw [Array.getD_eq_getD_getElem?, Array.getElem?_setIfInBounds_ne hk, ← Array.getD_eq_getD_getElem?]
    exact h
theorem closed_set {md : Region.Mode} {ops : Array Oper} {listed : Array Bool} {i : Nat} (hc : ClosedL md ops listed) (hr : i ∈ Region.ready md ops listed) : ClosedL md ops (listed.setIfInBounds i true) := by
  obtain ⟨_, oi, hoi, hall⟩ := mem_ready.1 hr
  intro k o ho hk e he hb
  refine getD_set_keep ?_
  rcases getD_set_true hk with rfl | h1
  · rw [hoi] at ho
    injection ho with ho
    subst ho
    exact hall e he hb
  · exact hc k o ho h1 e he hb
/-- Whatever order is picked, the world only grows. -/
def AnyE (R : World → World → Prop) (P : Program) (md : Region.Mode) (ops : Array Oper) (Q : Exit → Act → World → Prop) : Nat → Array Bool → Act → World → Prop
  | 0, listed, a, w => Region.ready md ops listed = [] ∧ Q .normal a w
  | fuel + 1, listed, a, w =>
    (Region.ready md ops listed = [] → Q .normal a w) ∧
    ∀ i ∈ Region.ready md ops listed, wpOp P ops Q i (fun a' w' => (waitsAll md ops i = true ∨ R w w') ∧ AnyE R P md ops Q fuel (listed.setIfInBounds i true) a' w') a w

theorem any_of_E : ∀ (fuel : Nat) (listed : Array Bool) (a : Act) (w : World), AnyE R P md ops Q fuel listed a w → wpAny P md ops Q fuel listed a w
  | 0, _, _, _, h => h
  | fuel + 1, _, _, _, h => ⟨h.1, fun i hi => wpOp_mono (fun a' w' h' => any_of_E fuel _ a' w' h'.2) (h.2 i hi)⟩

theorem anyE_first (hR : Later R) {i : Nat} {oi : Oper} {v : Value} (hi : ops[i]? = some oi) (hsel : ∀ (j : Nat) (o : Oper) cs b, ops[j]? = some o → o.op ≠ .select cs b)
    (hQ : ∀ c a w, Q (.panic c) (a.put oi.dst v) w → Q (.panic c) a w) :
    ∀ (fuel : Nat) (listed : Array Bool) (a : Act) (w : World), ClosedL md ops listed →
      (∀ j oj, ops[j]? = some oj → j ≠ i → listed.getD j true = false → (∀ e ∈ oj.after, Region.binds md e = true → e.on ≠ i) → oi.apart ops oj = true) →
      i ∈ Region.ready md ops listed → YieldsQ P ops (R w) oi v a →
      AnyE R P md ops Q fuel (listed.setIfInBounds i true) (a.put oi.dst v) w → AnyE R P md ops Q (fuel + 1) listed a w := by
  intro fuel
  induction fuel with
  | zero =>
    intro listed a w _ _ hr hy H
    refine ⟨fun h => (by rw [h] at hr; cases hr), fun j hj => ?_⟩
    by_cases hji : j = i
    · subst hji; exact hy.wpOp hi (hR.refl w) ⟨.inr (hR.refl w), H⟩
    · have := ready_mono hj hji
      rw [H.1] at this
      cases this
  | succ fuel ih =>
    intro listed a w hcl hfree hr hy H
    refine ⟨fun h => (by rw [h] at hr; cases hr), fun j hj => ?_⟩
    by_cases hji : j = i
    · subst hji; exact hy.wpOp hi (hR.refl w) ⟨.inr (hR.refl w), H⟩
    · have h1 := H.2 j (ready_mono hj hji)
      obtain ⟨hjun, oj, hoj, hall⟩ := mem_ready.1 hj
      have hallj := hall
      have hnot : ∀ e ∈ oj.after, Region.binds md e = true → e.on ≠ i := fun e he hb heq => by
        have h1 := hall e he hb
        have h0 := (mem_ready.1 hr).1
        rw [heq] at h1
        rcases Nat.lt_or_ge i listed.size with h' | h'
        · simp [h'] at h0 h1; rw [h0] at h1; cases h1
        · simp [Array.getElem?_eq_none h'] at h1
      have h2 := wpOp_putQ hoj (hfree j oj hoj hji hjun hnot) (fun cs b => hsel i oi cs b hi) (fun cs b => hsel j oj cs b hoj) hQ hy h1
      have hfree' : ∀ k ok, ops[k]? = some ok → k ≠ i → (listed.setIfInBounds j true).getD k true = false →
          (∀ e ∈ ok.after, Region.binds md e = true → e.on ≠ i) → oi.apart ops ok = true := fun k ok hk hki hun hno => by
        refine hfree k ok hk hki ?_ hno
        by_cases hjk : j = k
        · subst hjk; exact hjun
        · rw [getD_set_ne true hjk] at hun; exact hun
      have hno : ∀ {p : Prop}, (waitsAll md ops j = true ∨ p) → p := fun h => h.resolve_left fun hall => by
        have h1 := waitsAll_spec hcl hall hoj hallj hi hji
        have h0 := (mem_ready.1 hr).1
        rcases Nat.lt_or_ge i listed.size with h' | h'
        · simp [h'] at h0 h1; rw [h0] at h1; cases h1
        · simp [Array.getElem?_eq_none h'] at h1
      refine wpOp_mono (fun a' w' h3 => ⟨h3.2.1, ih (listed.setIfInBounds j true) a' w' (closed_set hcl hj) hfree' (ready_mono hr (Ne.symm hji)) (yieldsQ_mono (fun x hx => hR.trans (hno h3.2.1) hx) h3.1) ?_⟩) h2
      rw [Array.setIfInBounds_comm _ _ hji]
      exact h3.2.2

/-- One order: 'false': it yields the same in every later world; 'true': it may turn the world, and is alone. -/
def wpPlan (R : World → World → Prop) (P : Program) (ops : Array Oper) (Q : Exit → Act → World → Prop) : List (Nat × Bool) → Act → World → Prop
  | [], a, w => Q .normal a w
  | (i, false) :: r, a, w => ∃ o v, ops[i]? = some o ∧ YieldsQ P ops (R w) o v a ∧ wpPlan R P ops Q r (a.put o.dst v) w
  | (i, true) :: r, a, w => wpOp P ops Q i (fun a' w' => (waitsAll .any ops i = true ∨ R w w') ∧ wpPlan R P ops Q r a' w') a w

def planOK (md : Region.Mode) (ops : Array Oper) : List (Nat × Bool) → Array Bool → Bool
  | [], listed => (Region.ready md ops listed).isEmpty
  | (i, false) :: r, listed => Region.free md ops listed i && (Region.ready md ops listed).contains i && planOK md ops r (listed.setIfInBounds i true)
  | (i, true) :: r, listed => Region.ready md ops listed == [i] && planOK md ops r (listed.setIfInBounds i true)

theorem anyE_of_plan (hR : Later R) (hs : Region.noSelect ops = true) (hQ : ∀ c d v a w, Q (.panic c) (a.put d v) w → Q (.panic c) a w) :
    ∀ (l : List (Nat × Bool)) (listed : Array Bool) (a : Act) (w : World), ClosedL .any ops listed → planOK .any ops l listed = true → wpPlan R P ops Q l a w → AnyE R P .any ops Q l.length listed a w
  | [], listed, a, w, hcl, hp, h => by
    simp only [planOK, List.isEmpty_iff] at hp
    exact ⟨hp, h⟩
  | (i, false) :: r, listed, a, w, hcl, hp, h => by
    simp only [planOK, Bool.and_eq_true] at hp
    obtain ⟨o, v, ho, hy, h⟩ := h
    exact anyE_first hR ho (Region.noSelect_spec hs) (fun c a w => hQ c o.dst v a w) r.length listed a w hcl (Region.free_spec ho hp.1.1) (by simpa using hp.1.2) hy
      (anyE_of_plan hR hs hQ r _ _ _ (closed_set hcl (by simpa using hp.1.2)) hp.2 h)
  | (i, true) :: r, listed, a, w, hcl, hp, h => by
    simp only [planOK, Bool.and_eq_true, beq_iff_eq] at hp
    refine ⟨fun h0 => (by rw [hp.1] at h0; cases h0), fun j hj => ?_⟩
    rw [hp.1] at hj
    obtain rfl : j = i := by simpa using hj
    exact wpOp_mono (fun a' w' h' => ⟨h'.1, anyE_of_plan hR hs hQ r _ _ _ (closed_set hcl (by rw [hp.1]; simp)) hp.2 h'.2⟩) h

/-- THE BEGINNING. -/
theorem wp_region_plan_by (R : World → World → Prop) (hR : Later R) {id : Nat} {a : Act} {w : World} (l : List (Nat × Bool)) (hm : P.follows .mixedOrders = true)
    (hl : (Region.noSelect ops && l.length == ops.size && planOK .any ops l (Array.replicate ops.size false)) = true)
    (hQ : ∀ c d v a w, Q (.panic c) (a.put d v) w → Q (.panic c) a w)
    (h : wpPlan R P ops Q l a w.drew) : (Code.region id ops true).wp P Q a w := by
  simp only [Bool.and_eq_true, beq_iff_eq] at hl
  refine wp_region_any hm (any_of_E (R := R) _ _ _ _ ?_)
  rw [← hl.1.2]
  have := anyE_of_plan hR hl.1.1 hQ l _ a w.drew (closed_none _) hl.2 h
  rw [hl.1.2] at this ⊢
  exact this

theorem wp_region_plan {id : Nat} {a : Act} {w : World} (l : List (Nat × Bool)) (hm : P.follows .mixedOrders = true)
    (hl : (Region.noSelect ops && l.length == ops.size && planOK .any ops l (Array.replicate ops.size false)) = true)
    (hQ : ∀ c d v a w, Q (.panic c) (a.put d v) w → Q (.panic c) a w)
    (h : wpPlan Ext P ops Q l a w.drew) : (Code.region id ops true).wp P Q a w := wp_region_plan_by Ext later_ext l hm hl hQ h

def opAt : List Oper → Nat → Option Oper
  | [], _ => none
  | o :: _, 0 => some o
  | _ :: r, n + 1 => opAt r n
theorem opAt_eq : ∀ (l : List Oper) (i : Nat), opAt l i = l.toArray[i]?
  | [], i => by simp [opAt]
  | o :: r, 0 => by simp [opAt]
  | o :: r, n + 1 => by rw [opAt, opAt_eq r n]; simp

variable {ls : List Oper}
/-- A step that yields the same in every later world. -/
theorem plan_take {i : Nat} {o : Oper} {v : Value} {r : List (Nat × Bool)} {a : Act} {w : World} (ho : opAt ls i = some o) (hw : Region.wanted o (yielded ls.toArray a.tmps) = true)
    (hy : ∀ w', R w w' → (execOp a.eval o).run P w' = .ok (.value v) w') (h : wpPlan R P ls.toArray Q r (a.put o.dst v) w) : wpPlan R P ls.toArray Q ((i, false) :: r) a w :=
  ⟨o, v, by rw [← opAt_eq]; exact ho, .inl ⟨hw, fun w' h' => .inl (hy w' h')⟩, h⟩
/-- A step that calls a Go function which leaves the world alone. -/
theorem plan_quiet {i : Nat} {o : Oper} {v : Value} {r : List (Nat × Bool)} {a : Act} {w : World} {f : FuncId} {args : Array Value} (ho : opAt ls i = some o) (hw : Region.wanted o (yielded ls.toArray a.tmps) = true)
    (hx : ∀ w', (execOp a.eval o).run P w' = .ok (.enter f args) w') (hc : ∀ w', R w w' → Calls P f args w' fun e w'' => e = .returned v ∧ w' = w'') (h : wpPlan R P ls.toArray Q r (a.put o.dst v) w) : wpPlan R P ls.toArray Q ((i, false) :: r) a w :=
  ⟨o, v, by rw [← opAt_eq]; exact ho, .inl ⟨hw, fun w' h' => .inr ⟨f, args, hx w', hc w' h'⟩⟩, h⟩
/-- A step whose guard says no. -/
theorem plan_skip {i : Nat} {o : Oper} {r : List (Nat × Bool)} {a : Act} {w : World} (ho : opAt ls i = some o) (hw : Region.wanted o (yielded ls.toArray a.tmps) = false)
    (h : wpPlan R P ls.toArray Q r (a.put o.dst undef) w) : wpPlan R P ls.toArray Q ((i, false) :: r) a w :=
  ⟨o, undef, by rw [← opAt_eq]; exact ho, .inr ⟨hw, rfl⟩, h⟩
theorem plan_pass (hR : Later R) {i : Nat} {o : Oper} {r : List (Nat × Bool)} {a : Act} {w : World} (ho : opAt ls i = some o) (hw : Region.wanted o (yielded ls.toArray a.tmps) = false)
    (h : wpPlan R P ls.toArray Q r (a.put o.dst undef) w) : wpPlan R P ls.toArray Q ((i, true) :: r) a w := by
  show wpOp P ls.toArray Q i _ a w
  unfold wpOp
  simp only [← opAt_eq, ho, hw]
  exact ⟨.inr (hR.refl w), h⟩
/-- A step that may turn the world. -/
theorem plan_turn {i : Nat} {o : Oper} {r : List (Nat × Bool)} {a : Act} {w : World} (ho : opAt ls i = some o) (hw : Region.wanted o (yielded ls.toArray a.tmps) = true)
    (h : ∀ K : Act → World → Prop, (∀ a' w', R w w' ∧ wpPlan R P ls.toArray Q r a' w' → K a' w') → o.wp P a w K Q) : wpPlan R P ls.toArray Q ((i, true) :: r) a w := by
  show wpOp P ls.toArray Q i _ a w
  unfold wpOp
  simp only [← opAt_eq, ho, hw, if_true]
  exact .inl (h _ fun _ _ h => ⟨.inr h.1, h.2⟩)
/-- The last step, which waits for all others: nothing is asked of the worlds. -/
theorem plan_last {i : Nat} {o : Oper} {r : List (Nat × Bool)} {a : Act} {w : World} (ho : opAt ls i = some o) (hw : Region.wanted o (yielded ls.toArray a.tmps) = true) (hall : waitsAll .any ls.toArray i = true)
    (h : ∀ K : Act → World → Prop, (∀ a' w', wpPlan R P ls.toArray Q r a' w' → K a' w') → o.wp P a w K Q) : wpPlan R P ls.toArray Q ((i, true) :: r) a w := by
  show wpOp P ls.toArray Q i _ a w
  unfold wpOp
  simp only [← opAt_eq, ho, hw, if_true]
  exact .inl (h _ fun _ _ h => ⟨.inl hall, h⟩)
theorem plan_end {a : Act} {w : World} (h : Q .normal a w) : wpPlan R P ops Q [] a w := h
/-- A step that calls a Go function. -/
theorem plan_call {i : Nat} {o : Oper} {r : List (Nat × Bool)} {a : Act} {w : World} {f : FuncId} {args : Array Value} (ho : opAt ls i = some o) (hw : Region.wanted o (yielded ls.toArray a.tmps) = true)
    (hx : (execOp a.eval o).run P w = .ok (.enter f args) w)
    (h : Calls P f args w fun e w' => ∃ v, e = .returned v ∧ R w w' ∧ wpPlan R P ls.toArray Q r (a.put o.dst v) w') : wpPlan R P ls.toArray Q ((i, true) :: r) a w := by
  refine plan_turn ho hw fun K hK => ?_
  unfold Oper.wp
  rw [hx]
  refine h.mono ?_
  rintro e w' ⟨v, rfl, h1, h2⟩
  exact hK _ _ ⟨h1, h2⟩
end
end Go.Proofs.YtophcgbddccpeaaGreat
