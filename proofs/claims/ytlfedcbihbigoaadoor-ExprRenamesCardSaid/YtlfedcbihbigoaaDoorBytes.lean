/- Plain facts on bytes and lists that the token texts use. No program in sight. -/
import Derived.WalkKit
import Derived.WalkSpells
set_option linter.unusedVariables false
set_option linter.unusedSimpArgs false
namespace Go.Proofs.YtlfedcbihbigoaaDoor
open Go.RowKit

abbrev Bytes := List UInt8

/-- The bytes of a string. -/
def bs (s : ByteArray) : Bytes := s.data.toList

def letB (c : UInt8) : Bool := decide (97 ≤ c.toNat) && decide (c.toNat ≤ 122)
def digB (c : UInt8) : Bool := decide (48 ≤ c.toNat) && decide (c.toNat ≤ 57)
def wordB (c : UInt8) : Bool := letB c || digB c || (c.toNat == 95)
/-- How many letters, digits and underscores a text begins with. -/
def partL (l : Bytes) : Nat := (l.takeWhile wordB).length

theorem bs_length (s : ByteArray) : (bs s).length = s.size := rfl
theorem bs_get (s : ByteArray) (k : Nat) (h : k < s.size) : (bs s)[k]'(by rw [bs_length]; exact h) = s[k] := rfl

theorem partL_le (l : Bytes) : partL l ≤ l.length := (List.takeWhile_sublist _).length_le

theorem partL_lt : ∀ (l : Bytes) (k : Nat) (_ : k < partL l), ∃ h' : k < l.length, wordB (l[k]'h') = true
  | [], k, h => by simp [partL] at h
  | c :: l, k, h => by
    unfold partL at h
    rw [List.takeWhile_cons] at h
    by_cases hc : wordB c = true
    · rw [if_pos hc] at h
      match k with
      | 0 => exact ⟨by simp, by simpa using hc⟩
      | k + 1 =>
        obtain ⟨h1, h2⟩ := partL_lt l k (by simpa [partL] using h)
        exact ⟨by simpa using h1, by simpa using h2⟩
    · rw [if_neg hc] at h; simp at h

theorem partL_stop : ∀ (l : Bytes) (h : partL l < l.length), wordB (l[partL l]'h) = false
  | [], h => by simp [partL] at h
  | c :: l, h => by
    by_cases hc : wordB c = true
    · have e : partL (c :: l) = partL l + 1 := by unfold partL; rw [List.takeWhile_cons, if_pos hc]; simp
      have h' : partL l < l.length := by rw [e] at h; simpa using h
      have := partL_stop l h'
      simpa [e] using this
    · have e : partL (c :: l) = 0 := by unfold partL; rw [List.takeWhile_cons, if_neg hc]; simp
      simpa [e] using hc

theorem hide {p : Prop} (h : p) : Hid p := h
theorem ret_int {k : IntKind} {a b : Int} (h : a = b) : Ending.returned (.int k a) = .returned (.int k b) := by rw [h]
theorem ret_bool {a b : Bool} (h : a = b) : Ending.returned (.bool a) = .returned (.bool b) := by rw [h]

theorem wordB_cases {c : UInt8} (h : wordB c = true) : letB c = true ∨ (letB c = false ∧ digB c = true) ∨ (letB c = false ∧ digB c = false ∧ ((c.toNat : Int) == 95) = true) := by
  unfold wordB at h
  cases h1 : letB c <;> cases h2 : digB c <;> simp_all <;> omega
theorem wordB_no {c : UInt8} (h : wordB c = false) : letB c = false ∧ digB c = false ∧ ((c.toNat : Int) == 95) = false := by
  unfold wordB at h
  cases h1 : letB c <;> cases h2 : digB c <;> simp_all <;> omega

end Go.Proofs.YtlfedcbihbigoaaDoor
