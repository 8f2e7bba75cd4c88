/- Contracts of the calendar: leap years, lengths, the numbers of days. -/
import Derived.Test.YtlfedcbihbigoaaDoorProg
import Derived.Test.YtlfedcbihbigoaaDoorGlob
import Derived.WalkLawsBesides
set_option linter.unusedVariables false
set_option linter.unusedSimpArgs false
namespace Go.Proofs.YtlfedcbihbigoaaDoor
open Go.RowKit

theorem leap_dec (y : Int) : leapB y = true ∨ leapB y = false := by cases leapB y <;> simp

theorem lenM_tab (y : Int) : ∀ k : Nat, k < 12 → k ≠ 1 → lenM y ((k : Int) + 1) = monthL.getD k 0
  | 0, _, _ => rfl
  | 1, _, h => absurd rfl h
  | 2, _, _ => rfl
  | 3, _, _ => rfl
  | 4, _, _ => rfl
  | 5, _, _ => rfl
  | 6, _, _ => rfl
  | 7, _, _ => rfl
  | 8, _, _ => rfl
  | 9, _, _ => rfl
  | 10, _, _ => rfl
  | 11, _, _ => rfl
  | k + 12, h, _ => by omega
theorem lenM_two (y : Int) : lenM y 2 = if leapB y = true then 29 else 28 := rfl
theorem lenM_bd (y m : Int) : 28 ≤ lenM y m ∧ lenM y m ≤ 31 := by
  unfold lenM; repeat' split
  all_goals omega
theorem yearD_bd (y : Int) : 365 ≤ yearD y ∧ yearD y ≤ 366 := by unfold yearD; split <;> omega

/-! ### digits -/
def allDig (l : Bytes) : Bool := l.all digB
theorem numS_snoc (l : Bytes) (c : UInt8) : numS (l ++ [c]) = 10 * numS l + ((c.toNat : Int) - 48) := by
  unfold numS; rw [List.foldl_append]; rfl
theorem allDig_get {s : ByteArray} (h : allDig (bs s) = true) (k : Nat) (hk : k < s.size) : (48 : Int) ≤ (s[k].toNat : Int) ∧ (s[k].toNat : Int) ≤ 57 := by
  have : digB s[k] = true := by
    unfold allDig at h
    rw [List.all_eq_true] at h
    exact h _ (List.getElem_mem (l := bs s) (by rw [bs_length]; exact hk))
  unfold digB at this; simp at this; omega
theorem numS_bd : ∀ (l : Bytes), allDig l = true → l.length ≤ 4 → 0 ≤ numS l ∧ numS l ≤ 9999
  | [], _, _ => by simp [numS]
  | [a], h, _ => by simp [allDig, digB] at h; simp [numS]; omega
  | [a, b], h, _ => by simp [allDig, digB] at h; simp [numS]; omega
  | [a, b, c], h, _ => by simp [allDig, digB] at h; simp [numS]; omega
  | [a, b, c, d], h, _ => by simp [allDig, digB] at h; simp [numS]; omega
  | a :: b :: c :: d :: e :: l, _, hl => by simp at hl
theorem numS_bd2 : ∀ (l : Bytes), allDig l = true → l.length ≤ 2 → 0 ≤ numS l ∧ numS l ≤ 99
  | [], _, _ => by simp [numS]
  | [a], h, _ => by simp [allDig, digB] at h; simp [numS]; omega
  | [a, b], h, _ => by simp [allDig, digB] at h; simp [numS]; omega
  | a :: b :: c :: l, _, hl => by simp at hl
theorem allDig_take {l : Bytes} (h : allDig l = true) (k : Nat) : allDig (l.take k) = true := by
  unfold allDig at *; rw [List.all_eq_true] at *; exact fun x hx => h x (List.mem_of_mem_take hx)
theorem take_snoc' (s : ByteArray) (k : Nat) (h : k < s.size) : (bs s).take (k + 1) = (bs s).take k ++ [s[k]] := by
  rw [List.take_succ_eq_append_getElem (by rw [bs_length]; exact h)]; rfl

/-- The number of some digits, or -1. -/
def digitsS (l : Bytes) : Int := if allDig l = true then numS l else -1
theorem digitsS_stop {s : ByteArray} {k : Nat} (hk : k < s.size) (h : digB s[k] = false) : digitsS (bs s) = -1 := by
  unfold digitsS
  rw [if_neg]
  intro ha
  unfold allDig at ha
  rw [List.all_eq_true] at ha
  have := ha _ (List.getElem_mem (l := bs s) (by rw [bs_length]; exact hk))
  have this : digB s[k] = true := this
  rw [h] at this; cases this

end Go.Proofs.YtlfedcbihbigoaaDoor
