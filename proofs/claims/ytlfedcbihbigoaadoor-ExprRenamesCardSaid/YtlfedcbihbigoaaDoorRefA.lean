/- Contract of the reader of a time, the reference's. -/
import Derived.Test.YtlfedcbihbigoaaDoorCivD
import Derived.Deep.RegionWith
set_option linter.unusedVariables false
set_option linter.unusedSimpArgs false
namespace Go.Proofs.YtlfedcbihbigoaaDoor
open Go.RowKit

/-- The five pieces and the four separators. -/
theorem fit_of {s : ByteArray} (h16 : s.size = 16) (h4 : (s[4]'(by omega)).toNat = 45) (h7 : (s[7]'(by omega)).toNat = 45) (h10 : (s[10]'(by omega)).toNat = 84) (h13 : (s[13]'(by omega)).toNat = 58)
    (p0 : allDig (bs (s.extract 0 4)) = true) (p1 : allDig (bs (s.extract 5 7)) = true) (p2 : allDig (bs (s.extract 8 10)) = true) (p3 : allDig (bs (s.extract 11 13)) = true) (p4 : allDig (bs (s.extract 14 16)) = true) : fitB timeForm (bs s) = true := by
  rw [fitB_iff]
  have hl : timeForm.length = 16 := rfl
  refine ⟨h16, fun j hj => ?_⟩
  rw [hl] at hj
  have hjs : j < s.size := by omega
  have e : (bs s).getD j 0 = s[j] := by rw [List.getD, List.getElem?_eq_getElem (show j < (bs s).length from hjs)]; rfl
  rw [e]
  have dig : ∀ a b : Nat, b ≤ 16 → allDig (bs (s.extract a b)) = true → a ≤ j → j < b → digB s[j] = true := by
    intro a b hb16 hp ha hb
    unfold allDig at hp
    rw [List.all_eq_true] at hp
    refine hp _ ?_
    rw [bs_extract]
    rw [List.mem_iff_getElem]
    refine ⟨j - a, by simp only [List.length_drop, List.length_take, bs_length]; omega, ?_⟩
    rw [List.getElem_drop, List.getElem_take]
    have : a + (j - a) = j := by omega
    show (bs s)[a + (j - a)]'_ = s[j]
    simp only [this]
    rfl
  rcases (show j = 4 ∨ j = 7 ∨ j = 10 ∨ j = 13 ∨ (j ≠ 4 ∧ j ≠ 7 ∧ j ≠ 10 ∧ j ≠ 13) by omega) with rfl | rfl | rfl | rfl | ⟨n4, n7, n10, n13⟩
  · unfold fit1; rw [if_neg (by decide), h4]; decide
  · unfold fit1; rw [if_neg (by decide), h7]; decide
  · unfold fit1; rw [if_neg (by decide), h10]; decide
  · unfold fit1; rw [if_neg (by decide), h13]; decide
  · have hd : digB s[j] = true := by
      rcases (show j < 4 ∨ (5 ≤ j ∧ j < 7) ∨ (8 ≤ j ∧ j < 10) ∨ (11 ≤ j ∧ j < 13) ∨ (14 ≤ j ∧ j < 16) by omega) with h | ⟨h, h'⟩ | ⟨h, h'⟩ | ⟨h, h'⟩ | ⟨h, h'⟩
      · exact dig 0 4 (by omega) p0 (by omega) h
      · exact dig 5 7 (by omega) p1 h h'
      · exact dig 8 10 (by omega) p2 h h'
      · exact dig 11 13 (by omega) p3 h h'
      · exact dig 14 16 (by omega) p4 h h'
    have h48 : ∀ j, j < 16 → j ≠ 4 → j ≠ 7 → j ≠ 10 → j ≠ 13 → (timeForm.getD j 0).toNat = 48 := by decide
    unfold fit1
    rw [if_pos (h48 j hj n4 n7 n10 n13)]
    exact hd
theorem fit_sep {s : ByteArray} (h : fitB timeForm (bs s) = true) (h16 : 16 ≤ s.size) : (s[4]'(by omega)).toNat = 45 ∧ (s[7]'(by omega)).toNat = 45 ∧ (s[10]'(by omega)).toNat = 84 ∧ (s[13]'(by omega)).toNat = 58 := by
  obtain ⟨_, hd⟩ := fit_dig h
  have f4 := hd 4 (by omega)
  have f7 := hd 7 (by omega)
  have f10 := hd 10 (by omega)
  have f13 := hd 13 (by omega)
  unfold fit1 at f4 f7 f10 f13
  rw [if_neg (by decide)] at f4 f7 f10 f13
  simp only [beq_iff_eq] at f4 f7 f10 f13
  exact ⟨f4, f7, f10, f13⟩
theorem digitsS_yes {l : Bytes} (h : allDig l = true) : digitsS l = numS l := by unfold digitsS; rw [if_pos h]
theorem digitsS_no {l : Bytes} (h : allDig l = false) : digitsS l = -1 := by unfold digitsS; rw [h]; rfl

end Go.Proofs.YtlfedcbihbigoaaDoor
