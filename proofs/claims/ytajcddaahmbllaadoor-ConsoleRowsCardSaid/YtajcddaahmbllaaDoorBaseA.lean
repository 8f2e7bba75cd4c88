/- base.At: the numbers that the laws draw from a list. -/
import Derived.Test.YtajcddaahmbllaaDoorTokE
import Derived.Deep.RegionHeld3
set_option linter.unusedVariables false
set_option linter.unusedSimpArgs false
namespace Go.Proofs.YtajcddaahmbllaaDoor
open Go.RowKit
theorem and_ffff (i : Int) : bits .and .i64 i 65535 = i % 65536 := by
  show IntKind.i64.wrap ((BitVec.ofInt 64 i &&& BitVec.ofInt 64 65535).toNat : Int) = _
  have h : (BitVec.ofInt 64 (65535 : Int)).toNat = 2 ^ 16 - 1 := by decide
  rw [BitVec.toNat_and, h, Nat.and_two_pow_sub_one_eq_mod, IntKind.wrap_i64]
  simp only [BitVec.toNat_ofInt]
  omega
/-- What base.At gives of a list of numbers. -/
def lAt (l : List Int) (i : Int) : Int :=
  if l.length = 0 then i % 65536 else (l.getD (i % 65536 % l.length).toNat 0) % 65536 + i % 65536 / l.length
/-- A slice of integers as it came in. -/
def IntsAt (w : World) (A : Option Addr) (l : List Int) : Prop :=
  l = [] ∨ ∃ a, A = some a ∧ a.block < w.heap.size ∧ l.length ≤ maxLen ∧ ∀ k, k < l.length → w.cell? (a.add k) = some (.int .i64 (l.getD k 0))
theorem IntsAt.below {w w' : World} {A : Option Addr} {l : List Int} (h : IntsAt w A l) (hb : Below w.heap.size w w') : IntsAt w' A l := by
  rcases h with h | ⟨a, rfl, hg, hl, hc⟩
  · exact .inl h
  · refine .inr ⟨a, rfl, Nat.lt_of_lt_of_le hg hb.size, hl, fun k hk => ?_⟩
    rw [hb.cell (p := a.add k) (by cases k <;> simpa [Addr.add] using hg)]; exact hc k hk
end Go.Proofs.YtajcddaahmbllaaDoor
