/- Contract of the splitter, the program's. -/
import Derived.Test.YtlfedcbihbigoaaDoorSplitS
import Derived.Test.YtlfedcbihbigoaaDoorShelf
import Derived.Test.YtlfedcbihbigoaaDoorTokE
set_option linter.unusedVariables false
set_option linter.unusedSimpArgs false
namespace Go.Proofs.YtlfedcbihbigoaaDoor
open Go.RowKit

abbrev tokCells (ts : List Tok) : List Value := ts.flatMap Tok.cells
theorem tokCells_len : ∀ ts : List Tok, (tokCells ts).length = ts.length * 4
  | [] => rfl
  | t :: ts => by
    have := tokCells_len ts
    rw [show tokCells (t :: ts) = t.cells ++ tokCells ts from rfl, List.length_append, this, List.length_cons]
    simp [Tok.cells]; omega
theorem cells_new4 (w : World) (a b c d : Value) (t : TypeId) : ∀ (j : Nat) (u : Value), [a, b, c, d][j]? = some u → (w.alloc (.cells #[a, b, c, d] t)).cell? ((⟨w.heap.size, 0, none⟩ : Addr).add j) = some u := by
  intro j u h
  have e : (⟨w.heap.size, 0, none⟩ : Addr).add j = ⟨w.heap.size, j, none⟩ := by unfold Addr.add; split <;> simp_all
  rw [e, cell_of_heap (heap_alloc_new w _)]
  simpa using h

theorem own_below {w w' : World} {base e size n : Nat} {v : Value} {xs : List Value} (h : w.ownsRow base e size v n xs) (hb : Below w.heap.size w w') : w'.ownsRow base e size v n xs :=
  h.kept (row := none) ⟨hb.os, hb.tape, hb.output, hb.size, fun i hi _ => hb.block i hi⟩ (by
    rcases h.2 with ⟨rfl, _⟩ | ⟨g, cap, cur, rfl, _⟩
    · left; rfl
    · right; simp [Value.ownBlock])
theorem below_then {B : Nat} {w w1 w2 : World} (h : Below B w w1) (hB : B ≤ w1.heap.size) (h2 : Below w1.heap.size w1 w2) : Below B w w2 := h.trans (h2.mono hB)
theorem blank_yes {c : UInt8} (h : blankB c = true) : ((c.toNat : Int) == 32) = true ∨ (((c.toNat : Int) == 32) = false ∧ ((c.toNat : Int) == 9) = true) ∨ (((c.toNat : Int) == 32) = false ∧ ((c.toNat : Int) == 9) = false ∧ ((c.toNat : Int) == 10) = true) := by
  unfold blankB at h; simp at h; simp; omega
theorem blank_no {c : UInt8} (h : blankB c = false) : ((c.toNat : Int) == 32) = false ∧ ((c.toNat : Int) == 9) = false ∧ ((c.toNat : Int) == 10) = false := by
  unfold blankB at h; simp at h; simp; omega
theorem SplitRel_le {s : ByteArray} {i : Nat} {acc : List Tok} (h : SplitRel (bs s) i acc) : i ≤ s.size ∧ acc.length ≤ i := h.2

end Go.Proofs.YtlfedcbihbigoaaDoor
