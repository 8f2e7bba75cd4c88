/- base.Text: some text, of a bounded length. -/
import Derived.Test.YtajcddaahmbllaaDoorBaseA
set_option linter.unusedVariables false
set_option linter.unusedSimpArgs false
namespace Go.Proofs.YtajcddaahmbllaaDoor
open Go.RowKit
theorem lAt_nonneg (l : List Int) (i : Int) : 0 ≤ lAt l i := by
  unfold lAt
  split
  · omega
  · have := Int.ediv_nonneg (a := i % 65536) (b := (l.length : Int)) (by omega) (by omega)
    have h2 : 0 ≤ (l.getD (i % 65536 % l.length).toNat 0) % 65536 := by omega
    omega
def smallB : Value → Bool
  | .string x => decide (x.size ≤ 17)
  | _ => false
theorem small_at (cs : Array Value) (h : cs.toList.all smallB = true) (k : Nat) (hk : k < cs.size) : ∃ x : ByteArray, cs[k]? = some (.string x) ∧ x.size ≤ 17 := by
  have := List.all_eq_true.1 h cs[k] (by simp)
  rw [Array.getElem?_eq_getElem hk]
  cases hc : cs[k] <;> rw [hc] at this <;> first | (cases this; done) | exact ⟨_, rfl, of_decide_eq_true this⟩
def PieceRes (n : Nat) (e : Ending) : Prop := ∃ s : ByteArray, e = .returned (.string s) ∧ s.size ≤ 17 * n
end Go.Proofs.YtajcddaahmbllaaDoor
