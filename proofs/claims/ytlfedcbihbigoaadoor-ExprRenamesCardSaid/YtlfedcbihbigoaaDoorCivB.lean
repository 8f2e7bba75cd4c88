/- Contracts of the calendar: the number of a day; the reader of a time. -/
import Derived.Test.YtlfedcbihbigoaaDoorCivA
set_option linter.unusedVariables false
set_option linter.unusedSimpArgs false
namespace Go.Proofs.YtlfedcbihbigoaaDoor
open Go.RowKit

theorem sumY_bd : ∀ k : Nat, 365 * (k : Int) ≤ sumY k ∧ sumY k ≤ 366 * (k : Int)
  | 0 => by simp [sumY]
  | k + 1 => by
    have := sumY_bd k
    have := yearD_bd (1970 + k)
    simp only [sumY]; omega
theorem sumM_bd (y : Int) : ∀ k : Nat, 0 ≤ sumM y k ∧ sumM y k ≤ 31 * (k : Int)
  | 0 => by simp [sumM]
  | k + 1 => by
    have := sumM_bd y k
    have := lenM_bd y (1 + k)
    simp only [sumM]; omega
def DaysRes (r : Option Int) (e : Ending) : Prop :=
  match r with
  | some n => e = .returned (.tuple #[.int .i64 n, .bool true])
  | none => e = .returned (.tuple #[.int .i64 0, .bool false])
theorem DaysRes_no {r : Option Int} (h : r = none) : DaysRes r (.returned (.tuple #[.int .i64 0, .bool false])) := by subst h; rfl
theorem DaysRes_yes {r : Option Int} {n : Int} (h : r = some n) : DaysRes r (.returned (.tuple #[.int .i64 n, .bool true])) := by subst h; rfl
/-- The ways in which a date is none, the greatest year being Y. -/
theorem dateB_no {y m d : Int} (Y : Int) (hY : Y = 3065 ∨ Y = 3066) (h : dateB y m d = false) : y < 1970 ∨ (¬ y < 1970 ∧ Y < y) ∨ (¬ y < 1970 ∧ ¬ Y < y ∧ m < 1) ∨ (¬ y < 1970 ∧ ¬ Y < y ∧ ¬ m < 1 ∧ 12 < m) ∨
    (¬ y < 1970 ∧ ¬ Y < y ∧ ¬ m < 1 ∧ ¬ 12 < m ∧ d < 1) ∨ (¬ y < 1970 ∧ ¬ Y < y ∧ ¬ m < 1 ∧ ¬ 12 < m ∧ ¬ d < 1 ∧ lenM y m < d) ∨ (y = 3066 ∧ Y = 3066 ∧ 1 ≤ m ∧ m ≤ 12 ∧ 1 ≤ d ∧ d ≤ lenM y m) := by
  unfold dateB at h; simp at h
  by_cases h1 : y < 1970
  · exact .inl h1
  by_cases h2 : Y < y
  · exact .inr (.inl ⟨h1, h2⟩)
  by_cases h3 : m < 1
  · exact .inr (.inr (.inl ⟨h1, h2, h3⟩))
  by_cases h4 : 12 < m
  · exact .inr (.inr (.inr (.inl ⟨h1, h2, h3, h4⟩)))
  by_cases h5 : d < 1
  · exact .inr (.inr (.inr (.inr (.inl ⟨h1, h2, h3, h4, h5⟩))))
  by_cases h6 : lenM y m < d
  · exact .inr (.inr (.inr (.inr (.inr (.inl ⟨h1, h2, h3, h4, h5, h6⟩)))))
  · refine .inr (.inr (.inr (.inr (.inr (.inr ⟨?_, ?_, by omega, by omega, by omega, by omega⟩)))))
    · rcases hY with rfl | rfl
      · have := h (by omega) (by omega) (by omega) (by omega) (by omega); omega
      · by_cases e : y = 3066
        · exact e
        · have := h (by omega) (by omega) (by omega) (by omega) (by omega); omega
    · rcases hY with rfl | rfl
      · have := h (by omega) (by omega) (by omega) (by omega) (by omega); omega
      · rfl

end Go.Proofs.YtlfedcbihbigoaaDoor
