/- Contracts of the reference's reader of symbols and of its skipper. -/
import Derived.Test.YtlfedcbihbigoaaDoorTokE
import Derived.Test.YtlfedcbihbigoaaDoorSplitS
import Derived.Deep.LoopGhost
set_option linter.unusedVariables false
set_option linter.unusedSimpArgs false
namespace Go.Proofs.YtlfedcbihbigoaaDoor
open Go.RowKit

theorem blank_yes' {c : UInt8} (h : blankB c = true) : ((c.toNat : Int) == 32) = true ∨ (((c.toNat : Int) == 32) = false ∧ ((c.toNat : Int) == 9) = true) ∨ (((c.toNat : Int) == 32) = false ∧ ((c.toNat : Int) == 9) = false ∧ ((c.toNat : Int) == 10) = true) := by
  unfold blankB at h; simp at h; simp; omega
theorem blank_no' {c : UInt8} (h : blankB c = false) : ((c.toNat : Int) == 32) = false ∧ ((c.toNat : Int) == 9) = false ∧ ((c.toNat : Int) == 10) = false := by
  unfold blankB at h; simp at h; simp; omega
/-- What the reference's skipper does to the splitter's state. -/
def Skips (s : ByteArray) (i j : Nat) : Prop := i ≤ j ∧ j ≤ s.size ∧ ∀ acc, SplitRel (bs s) i acc → SplitRel (bs s) j acc
theorem Skips.refl {s : ByteArray} {i : Nat} (h : i ≤ s.size) : Skips s i i := ⟨Nat.le_refl _, h, fun _ h => h⟩
theorem Skips.blank {s : ByteArray} {i j : Nat} (h : Skips s i j) (hj : j < s.size) (hb : blankB s[j] = true) : Skips s i (j + 1) :=
  ⟨by have := h.1; omega, hj, fun acc ha => SplitRel_blank (h.2.2 acc ha) hj hb⟩
theorem Skips.line {s : ByteArray} {i j : Nat} (h : Skips s i j) (hj : j < s.size) (hb : blankB s[j] = false) (hc : s[j].toNat = 35) : Skips s i (j + lineL ((bs s).drop j)) := by
  have hle := lineL_le ((bs s).drop j)
  rw [List.length_drop, bs_length] at hle
  exact ⟨by have := h.1; omega, by omega, fun acc ha => (SplitRel_line (h.2.2 acc ha) hj hb hc).1⟩
def Settled (s : ByteArray) (j : Nat) : Prop := ∀ h : j < s.size, blankB s[j] = false ∧ s[j].toNat ≠ 35
theorem lineL_lt : ∀ (l : Bytes) (m : Nat), m < lineL l → ∃ h : m < l.length, (l[m]'h).toNat ≠ 10
  | [], m, h => by simp [lineL] at h
  | c :: l, m, h => by
    unfold lineL at h
    rw [List.takeWhile_cons] at h
    by_cases hc : (c.toNat != 10) = true
    · rw [if_pos hc] at h
      match m with
      | 0 => exact ⟨by simp, by simpa using hc⟩
      | m + 1 =>
        obtain ⟨h1, h2⟩ := lineL_lt l m (by simpa [lineL] using h)
        exact ⟨by simpa using h1, by simpa using h2⟩
    · rw [if_neg hc] at h; simp at h
theorem lineL_stop : ∀ (l : Bytes) (h : lineL l < l.length), (l[lineL l]'h).toNat = 10
  | [], h => by simp [lineL] at h
  | c :: l, h => by
    by_cases hc : (c.toNat != 10) = true
    · have e : lineL (c :: l) = lineL l + 1 := by unfold lineL; rw [List.takeWhile_cons, if_pos hc]; simp
      have h' : lineL l < l.length := by rw [e] at h; simpa using h
      have := lineL_stop l h'
      simpa [e] using this
    · have e : lineL (c :: l) = 0 := by unfold lineL; rw [List.takeWhile_cons, if_neg hc]; simp
      simp only [e]
      simpa using hc
theorem line_in {s : ByteArray} {k m : Nat} (h : m < lineL ((bs s).drop k)) : ∃ h : k + m < s.size, s[k + m].toNat ≠ 10 := by
  obtain ⟨h1, h2⟩ := lineL_lt _ _ h
  rw [List.length_drop, bs_length] at h1
  refine ⟨by omega, ?_⟩
  rw [List.getElem_drop] at h2
  exact h2
theorem line_out {s : ByteArray} {k : Nat} (h : k + lineL ((bs s).drop k) < s.size) : (s[k + lineL ((bs s).drop k)]).toNat = 10 := by
  have := lineL_stop ((bs s).drop k) (by rw [List.length_drop, bs_length]; omega)
  rw [List.getElem_drop] at this
  exact this

end Go.Proofs.YtlfedcbihbigoaaDoor
