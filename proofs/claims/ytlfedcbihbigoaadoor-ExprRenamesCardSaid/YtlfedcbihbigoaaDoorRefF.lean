/- Contract of the reference's reader of one token. -/
import Derived.Test.YtlfedcbihbigoaaDoorRefA
import Derived.Test.YtlfedcbihbigoaaDoorRefB
import Derived.Test.YtlfedcbihbigoaaDoorRefC
import Derived.Test.YtlfedcbihbigoaaDoorRefE
set_option linter.unusedVariables false
set_option linter.unusedSimpArgs false
namespace Go.Proofs.YtlfedcbihbigoaaDoor
open Go.RowKit

theorem nameS_shape {l : Bytes} {t : Tok} {n : Nat} (h : nameS l = .ok (t, n)) : t = ⟨1, l.take n, 0, 0⟩ := by
  unfold nameS at h
  split at h
  · cases h
  · split at h
    · split at h
      · cases h
      · injection h with h; injection h with h1 h2; rw [← h1, ← h2]
    · injection h with h; injection h with h1 h2; rw [← h1, ← h2]
theorem intS_shape {l : Bytes} {t : Tok} {n : Nat} (h : intS l = .ok (t, n)) : t = ⟨2, [], t.num, 0⟩ := by
  rw [intS_eq] at h
  split at h
  · cases h
  · split at h
    · cases h
    · injection h with h; injection h with h1 h2; rw [← h1]
theorem litS_shape {l : Bytes} {t : Tok} {n : Nat} (h : litS l = .ok (t, n)) : t = ⟨3, t.text, 0, 0⟩ := by
  unfold litS at h
  split at h
  · cases h
  · split at h
    · cases h
    · injection h with h; injection h with h1 h2; rw [← h1]
theorem nameS_le {l : Bytes} {t : Tok} {n : Nat} (h : nameS l = .ok (t, n)) : n ≤ l.length := by
  have h2 := partL_le l
  have h3 := partL_le (l.drop (partL l + 1))
  unfold nameS at h
  split at h
  · cases h
  · split at h
    · rename_i hd
      have hd' : partL l + 1 < l.length := by
        unfold dotB at hd
        by_cases h : partL l + 1 < l.length
        · exact h
        · rw [dif_neg h] at hd; cases hd
      rw [List.length_drop] at h3
      split at h
      · cases h
      · injection h with h; injection h with _ h; omega
    · injection h with h; injection h with _ h; omega

end Go.Proofs.YtlfedcbihbigoaaDoor
