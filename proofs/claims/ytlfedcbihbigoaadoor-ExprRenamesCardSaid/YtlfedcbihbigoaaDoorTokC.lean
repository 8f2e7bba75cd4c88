/- Contracts of the readers of one token: integers. -/
import Derived.Test.YtlfedcbihbigoaaDoorTokB
set_option linter.unusedVariables false
set_option linter.unusedSimpArgs false
namespace Go.Proofs.YtlfedcbihbigoaaDoor
open Go.RowKit

theorem digL_le (l : Bytes) : digL l ≤ l.length := (List.takeWhile_sublist _).length_le
theorem digL_lt : ∀ (l : Bytes) (k : Nat) (_ : k < digL l), ∃ h' : k < l.length, digB (l[k]'h') = true
  | [], k, h => by simp [digL] at h
  | c :: l, k, h => by
    unfold digL at h
    rw [List.takeWhile_cons] at h
    by_cases hc : digB c = true
    · rw [if_pos hc] at h
      match k with
      | 0 => exact ⟨by simp, by simpa using hc⟩
      | k + 1 =>
        obtain ⟨h1, h2⟩ := digL_lt l k (by simpa [digL] using h)
        exact ⟨by simpa using h1, by simpa using h2⟩
    · rw [if_neg hc] at h; simp at h
theorem digL_stop : ∀ (l : Bytes) (h : digL l < l.length), digB (l[digL l]'h) = false
  | [], h => by simp [digL] at h
  | c :: l, h => by
    by_cases hc : digB c = true
    · have e : digL (c :: l) = digL l + 1 := by unfold digL; rw [List.takeWhile_cons, if_pos hc]; simp
      have h' : digL l < l.length := by rw [e] at h; simpa using h
      have := digL_stop l h'
      simpa [e] using this
    · have e : digL (c :: l) = 0 := by unfold digL; rw [List.takeWhile_cons, if_neg hc]; simp
      simpa [e] using hc
theorem take_snoc (s : ByteArray) (k : Nat) (h : k < s.size) : (bs s).take (k + 1) = (bs s).take k ++ [s[k]] := by
  rw [List.take_succ_eq_append_getElem (by rw [bs_length]; exact h)]; rfl
theorem valS_snoc (l : Bytes) (c : UInt8) : valS (l ++ [c]) = min (10 * valS l + ((c.toNat : Int) - 48)) 1073741825 := by
  unfold valS; rw [List.foldl_append]; rfl
theorem digB_bd {c : UInt8} (h : digB c = true) : (48 : Int) ≤ (c.toNat : Int) ∧ (c.toNat : Int) ≤ 57 := by
  unfold digB at h; simp at h; omega
theorem valS_bd (s : ByteArray) : ∀ k, k ≤ digL (bs s) → 0 ≤ valS ((bs s).take k) ∧ valS ((bs s).take k) ≤ 1073741825
  | 0, _ => by simp [valS]
  | k + 1, h => by
    obtain ⟨i1, i2⟩ := valS_bd s k (by omega)
    obtain ⟨h1, h2⟩ := digL_lt (bs s) k (by omega)
    obtain ⟨d1, d2⟩ := digB_bd h2
    have e : (bs s)[k] = s[k]'h1 := rfl
    rw [take_snoc s k h1, valS_snoc]
    rw [e] at d1 d2
    omega

theorem tailB_yes {s : ByteArray} {p : Nat} (h : tailB (bs s) p = true) : ∃ h1 : p < s.size, letB s[p] = true ∨ (letB s[p] = false ∧ ((s[p].toNat : Int) == 95) = true) := by
  unfold tailB at h
  by_cases h1 : p < (bs s).length
  · rw [dif_pos h1] at h
    refine ⟨h1, ?_⟩
    have h : (letB (s[p]'h1) || ((s[p]'h1).toNat == 95)) = true := h
    cases h2 : letB (s[p]'h1)
    · rw [h2] at h; right; simp at h ⊢; omega
    · left; rfl
  · rw [dif_neg h1] at h; cases h
theorem tailB_no {s : ByteArray} {p : Nat} (h : tailB (bs s) p = false) : ¬ p < s.size ∨ ∃ h1 : p < s.size, letB s[p] = false ∧ ((s[p].toNat : Int) == 95) = false := by
  unfold tailB at h
  by_cases h1 : p < (bs s).length
  · rw [dif_pos h1] at h
    refine .inr ⟨h1, ?_⟩
    have h : (letB (s[p]'h1) || ((s[p]'h1).toNat == 95)) = false := h
    simp at h ⊢
    exact ⟨h.1, by omega⟩
  · exact .inl h1

/-- The first byte is a zero, and more digits follow. -/
def zeroB (l : Bytes) : Bool := match l with | c :: _ => (c.toNat == 48) && decide (1 < digL l) | [] => false
theorem intS_eq (l : Bytes) : intS l = if zeroB l || tailB l (digL l) then .error 3 else if 1073741824 < valS (l.take (digL l)) then .error 1 else .ok (⟨2, [], valS (l.take (digL l)), 0⟩, digL l) := rfl
theorem zeroB_yes {s : ByteArray} (h : zeroB (bs s) = true) : ∃ h0 : 0 < s.size, ((s[0].toNat : Int) == 48) = true ∧ 1 < digL (bs s) := by
  unfold zeroB at h
  split at h
  · rename_i c l e
    have h0 : 0 < s.size := by rw [← bs_length, e]; simp
    have e1 : s[0] = c := by have : (bs s)[0]'(by rw [e]; simp) = c := by simp [e]
                             exact this
    simp at h
    exact ⟨h0, by rw [e1]; simp; omega, h.2⟩
  · cases h
theorem zeroB_no {s : ByteArray} (h : zeroB (bs s) = false) (h0 : 0 < s.size) : ((s[0].toNat : Int) == 48) = false ∨ (((s[0].toNat : Int) == 48) = true ∧ ¬ 1 < digL (bs s)) := by
  unfold zeroB at h
  split at h
  · rename_i c l e
    have e1 : s[0] = c := by have : (bs s)[0]'(by rw [e]; simp) = c := by simp [e]
                             exact this
    rw [e1]
    by_cases hc : c.toNat = 48
    · right; simp [hc] at h ⊢; exact h
    · left; simp; omega
  · rename_i e
    rw [← bs_length, e] at h0; simp at h0

end Go.Proofs.YtlfedcbihbigoaaDoor
