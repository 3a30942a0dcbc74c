/- Get: the fields. -/
import Derived.Test.YtidfhdkalnaddaaWireG
import Derived.Test.YtidfhdkalnaddaaSep
import Derived.Test.YtidfhdkalnaddaaPlanT
namespace Go.Proofs.Ytidfhdkalnaddaa
open Go.RowKit

theorem later_keeps (F : Nat → Prop) : Later (Keeps F) := ⟨Keeps.refl F, Keeps.same⟩
theorem bts_apart {w w' : World} {F : Nat → Prop} {g o : Nat} {l : List Nat} (h : Bts w (some ⟨g, o, none⟩) l) (hk : Keeps F w w') (hg : ¬ F g) : Bts w' (some ⟨g, o, none⟩) l := by
  refine ⟨h.1, fun hl => ?_⟩
  obtain ⟨b, o', e, hc⟩ := h.2 hl
  injection e with e; injection e with e1 e2; subst e1 e2
  refine ⟨_, _, rfl, fun i hi => ?_⟩
  have := cell_lt (hc i hi)
  rw [← hc i hi]
  have hb := hk.block g this hg
  simp only [World.cell?, hb]
theorem get_at (A : Option Addr) (l : List Nat) (n c : Nat) (a s : Int) (w : World) (hl : l.length = n) (hn : n ≤ 9223372036854775807) (hB : Bts w A l) (ht : thereB n a s = true) :
    Calls Try.prog 21 #[.slice A n c, .int .i64 a, .int .i64 s] w fun e w' => e = .returned (.tuple #[.int .u64 (getV l a s), .bool true]) ∧ w = w' := by
  subst hl; exact get_yes A l c a s w hn hB ht
/-- The fields of an opened text. -/
def fF (B : List Nat) : Nat := B.getD 3 0
def fT (B : List Nat) : Nat := B.getD 4 0
def fB (B : List Nat) : Bool := B.getD 2 0 == 1
def fS (B : List Nat) : Nat := leNat ((B.drop 5).take 8)
def fA (B : List Nat) : Nat := leNat ((B.drop 13).take 8)
def fZ (B : List Nat) : Nat := leNat ((B.drop 21).take 2)
def headOK (B : List Nat) : Bool := decide (23 ≤ B.length) && B.getD 0 0 == 82 && B.getD 1 0 == 82 && decide (B.getD 2 0 ≤ 1)
def bodyOK (B : List Nat) : Bool := fZ B == B.length - 23 && rightF (fF B) (fT B) (fB B) (fS B) (B.length - 23)
def frameB (l : List Nat) : Bool := openB l && headOK (l.take (l.length - 4)) && bodyOK (l.take (l.length - 4))
theorem head_cases {B : List Nat} (h : headOK B = true) : 23 ≤ B.length ∧ B.getD 0 0 = 82 ∧ B.getD 1 0 = 82 ∧ B.getD 2 0 ≤ 1 := by
  simp [headOK] at h
  exact ⟨h.1.1.1, by simpa using h.1.1.2, by simpa using h.1.2, by simpa using h.2⟩
/-- Three stores into one block that wait for nothing: any order. -/
theorem pt_done {P : Program} {ops : Array Oper} {Q : Exit → Act → World → Prop} {R : World → World → Prop} {a : Act} {w : World} (S : World → Prop) {t : PT}
    (hS : ∀ w', S w' → Q .normal a w') (h : (∀ w', S w' → wpPT R P ops Q .done a w') → wpPT R P ops Q t a w) : wpPT R P ops Q t a w := h fun w' h' => hS w' h'
theorem bts_cell {w : World} {b : Nat} {l : List Nat} (h : Bts w (some ⟨b, 0, none⟩) l) (i : Nat) (hi : i < l.length) : w.cell? ⟨b, i, none⟩ = some (.int .u8 ((l.getD i 0 : Nat) : Int)) := by
  obtain ⟨b', o', e, hc⟩ := h.2 (by omega)
  injection e with e; injection e with e1 e2; subst e1 e2
  simpa using hc i hi
end Go.Proofs.Ytidfhdkalnaddaa
