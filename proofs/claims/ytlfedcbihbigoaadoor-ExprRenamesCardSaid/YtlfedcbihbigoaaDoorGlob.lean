/- What the laid package-level variables read as, and that it lasts. -/
import Derived.Test.YtlfedcbihbigoaaDoorOwn
import Derived.Deep.QuietTactic
import Derived.BigQuiet
set_option linter.unusedVariables false
set_option linter.unusedSimpArgs false
namespace Go.Proofs.YtlfedcbihbigoaaDoor
open Go.RowKit

def monthL : List Int := [31, 28, 31, 30, 31, 30, 31, 31, 30, 31, 30, 31]
/-- A variable that holds a slice of strings. -/
def StrVar (w : World) (g : Nat) (l : List Bytes) : Prop :=
  g < w.heap.size ∧ ∃ b off c, b < w.heap.size ∧ w.cell? ⟨g, 0, none⟩ = some (.slice (some ⟨b, off, none⟩) l.length c) ∧ ∀ j, j < l.length → w.cell? ⟨b, off + j, none⟩ = some (str (l.getD j []))
def LenVar (w : World) (g : Nat) : Prop := g < w.heap.size ∧ ∀ j, j < 12 → w.cell? ⟨g, j, none⟩ = some (.int .i64 (monthL.getD j 0))
theorem StrVar.below {w w' : World} {g : Nat} {l : List Bytes} (h : StrVar w g l) (hb : Below w.heap.size w w') : StrVar w' g l := by
  obtain ⟨h0, b, off, c, h1, h2, h3⟩ := h
  refine ⟨Nat.lt_of_lt_of_le h0 hb.size, b, off, c, Nat.lt_of_lt_of_le h1 hb.size, ?_, fun j hj => ?_⟩
  · rw [hb.cell (p := ⟨g, 0, none⟩) h0]; exact h2
  · rw [hb.cell (p := ⟨b, off + j, none⟩) h1]; exact h3 j hj
theorem LenVar.below {w w' : World} {g : Nat} (h : LenVar w g) (hb : Below w.heap.size w w') : LenVar w' g :=
  ⟨Nat.lt_of_lt_of_le h.1 hb.size, fun j hj => by rw [hb.cell (p := ⟨g, j, none⟩) h.1]; exact h.2 j hj⟩

theorem quiet_left {P : Program} {f : FuncId} {args : Array Value} {w : World} {n : Nat} {v : Value}
    (h : Calls P f args (w.drewN n) fun e w' => e = .returned v ∧ w.drewN n = w') : Calls P f args (w.drewN n) fun e w' => e = .returned v ∧ ∃ m, w' = w.drewN m :=
  h.mono fun _ _ ⟨he, hw⟩ => ⟨he, n, hw.symm⟩
theorem quiet_add_left {P : Program} {f : FuncId} {args : Array Value} {w : World} {a n : Nat} {v : Value}
    (h : Calls P f args (w.drewN (a + n)) fun e w' => e = .returned v ∧ w.drewN (a + n) = w') :
    Calls P f args (w.drewN (a + n)) fun e w'' => e = .returned v ∧ ∃ m, w'' = w.drewN (a + m) :=
  h.mono fun _ _ ⟨he, hm⟩ => ⟨he, n, hm.symm⟩
theorem below_drewN {B : Nat} {a w : World} (h : Below B a w) (n : Nat) : Below B a (w.drewN n) := ⟨h.os, h.tape, h.output, h.size, h.block⟩

end Go.Proofs.YtlfedcbihbigoaaDoor
