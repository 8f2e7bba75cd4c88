/- Contracts of the readers of one token: names, integers, literals. -/
import Derived.Test.YtlfedcbihbigoaaDoorSpec
import Derived.Test.YtlfedcbihbigoaaDoorTokA
set_option linter.unusedVariables false
set_option linter.unusedSimpArgs false
namespace Go.Proofs.YtlfedcbihbigoaaDoor
open Go.RowKit

def OneRes (r : Except Int (Tok × Nat)) (e : Ending) : Prop :=
  match r with
  | .ok x => e = .returned (.tuple #[x.1.agg, .int .i64 (x.2 : Nat), .int .i64 0])
  | .error c => c ≠ 0 ∧ ∃ (t : Tok) (n : Int), e = .returned (.tuple #[t.agg, .int .i64 n, .int .i64 c])
theorem OneRes_err {r : Except Int (Tok × Nat)} {c : Int} (h : r = .error c) (hc : c ≠ 0) (k n o m : Int) (t : Bytes) : OneRes r (.returned (.tuple #[.agg #[.int .i64 k, str t, .int .i64 n, .int .i64 o], .int .i64 m, .int .i64 c])) := by
  subst h; exact ⟨hc, ⟨k, t, n, o⟩, m, rfl⟩
theorem OneRes_ok {r : Except Int (Tok × Nat)} {t : Tok} {n : Nat} (h : r = .ok (t, n)) {v : Value} {m : Int} (hv : v = t.agg) (hm : m = n) : OneRes r (.returned (.tuple #[v, .int .i64 m, .int .i64 0])) := by
  subst h hv hm; rfl

theorem bs_from (s : ByteArray) (a : Nat) : bs (s.extract a s.size) = (bs s).drop a := by
  rw [bs_extract, List.take_of_length_le (by rw [bs_length]; exact Nat.le_refl _)]

theorem dotB_yes {s : ByteArray} {p : Nat} (h : dotB (bs s) p = true) : ∃ h1 : p + 1 < s.size, ((s[p].toNat : Int) == 46) = true ∧ letB s[p+1] = true := by
  unfold dotB at h
  by_cases h1 : p + 1 < (bs s).length
  · rw [dif_pos h1] at h
    simp only [Bool.and_eq_true, beq_iff_eq] at h
    have hp : p < s.size := Nat.lt_of_succ_lt h1
    refine ⟨h1, ?_, h.2⟩
    have : s[p].toNat = 46 := h.1
    simp [this]
  · rw [dif_neg h1] at h; cases h
theorem dotB_no {s : ByteArray} {p : Nat} (h : dotB (bs s) p = false) : ¬ p + 1 < s.size ∨ ∃ h1 : p + 1 < s.size, ((s[p].toNat : Int) == 46) = false ∨ (((s[p].toNat : Int) == 46) = true ∧ letB s[p+1] = false) := by
  unfold dotB at h
  by_cases h1 : p + 1 < (bs s).length
  · rw [dif_pos h1] at h
    have hp : p < s.size := Nat.lt_of_succ_lt h1
    refine .inr ⟨h1, ?_⟩
    have h : ((s[p].toNat == 46) && letB s[p+1]) = false := h
    cases h2 : letB s[p+1]
    · rw [h2] at h
      by_cases h3 : s[p].toNat = 46
      · exact .inr ⟨by simp [h3], rfl⟩
      · exact .inl (by simp; omega)
    · rw [h2] at h
      left; simp at h ⊢; omega
  · exact .inl h1

end Go.Proofs.YtlfedcbihbigoaaDoor
