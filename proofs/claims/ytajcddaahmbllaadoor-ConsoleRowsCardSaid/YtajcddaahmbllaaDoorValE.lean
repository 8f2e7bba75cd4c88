/- Contract: ref7.valid. -/
import Derived.Test.YtajcddaahmbllaaDoorValD
import Derived.Deep.RegionHeld3
set_option linter.unusedVariables false
set_option linter.unusedSimpArgs false
namespace Go.Proofs.YtajcddaahmbllaaDoor
open Go.RowKit
/-- The reference's word: an end is not among them. -/
def okTokR (k : Int) (x : Bytes) (n : Int) : Bool := if k = 0 then false else okTok k x n
theorem symT_self {l : Bytes} (h : l ≠ []) : (symT l == l) = symB l := by
  rw [Bool.eq_iff_iff, beq_iff_eq]
  unfold symB
  rw [List.contains_iff_mem]
  constructor
  · intro e
    unfold symT at e
    cases hf : symbolsS.find? (fun x => x.isPrefixOf l) with
    | none => rw [hf] at e; exact absurd e.symm h
    | some x =>
      rw [hf] at e
      have : x = l := e
      subst this
      exact List.mem_of_find?_eq_some hf
  · intro hm
    have : ∀ x ∈ symbolsS, symT x = x := by decide
    exact this l hm
end Go.Proofs.YtajcddaahmbllaaDoor
