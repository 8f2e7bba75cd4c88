/- Contracts: slices.Contains of strings, token.valid. -/
import Derived.Test.YtlfedcbihbigoaaDoorVals
import Derived.Test.YtlfedcbihbigoaaDoorLawB
set_option linter.unusedVariables false
set_option linter.unusedSimpArgs false
namespace Go.Proofs.YtlfedcbihbigoaaDoor
open Go.RowKit
theorem strs_getD (ls : List Bytes) (j : Nat) (h : j < ls.length) : (ls.map fun l => (⟨l.toArray⟩ : ByteArray)).getD j ByteArray.empty = ⟨(ls.getD j []).toArray⟩ := by
  simp [List.getD_eq_getElem?_getD, h]
theorem contains_any (b off cp : Nat) (ls : List Bytes) (x : ByteArray) (w : World) (hn : ls.length ≤ 9223372036854775807) (hc : ∀ j, j < ls.length → w.cell? ⟨b, off + j, none⟩ = some (str (ls.getD j []))) :
    Calls Tryd.prog 52 #[.slice (some ⟨b, off, none⟩) ls.length cp, .string x] w fun e w' => e = .returned (.bool (hasB ls (bs x))) ∧ w = w' := by
  refine (Tryd.slices_Contains_string b off ls.length cp (ls.map fun l => ⟨l.toArray⟩) x w (by simp) hn (fun j hj => ?_)).mono fun e w' ⟨h1, h2⟩ => ⟨?_, h2.symm⟩
  · have hj' : j < ls.length := by simpa using hj
    rw [hc j hj', strs_getD ls j hj']
  · rw [h1, List.take_of_length_le (by simp), containsS_map]
theorem okTok_0 (x : Bytes) (n : Int) : okTok 0 x n = (x.isEmpty && n == 0) := rfl
theorem okTok_1 (x : Bytes) (n : Int) : okTok 1 x n = (isQualB 24 x && n == 0) := rfl
theorem okTok_2 (x : Bytes) (n : Int) : okTok 2 x n = (x.isEmpty && (decide (0 ≤ n) && decide (n ≤ 1073741824))) := rfl
theorem okTok_3 (x : Bytes) (n : Int) : okTok 3 x n = (decide (x.length ≤ 64) && n == 0) := rfl
theorem okTok_4 (x : Bytes) (n : Int) : okTok 4 x n = (x.isEmpty && (decide (0 ≤ n) && decide (n ≤ 575999999))) := rfl
theorem okTok_5 (x : Bytes) (n : Int) : okTok 5 x n = (symB x && n == 0) := rfl
theorem okTok_no {k : Int} (h0 : (k == 0) = false) (h1 : (k == 1) = false) (h2 : (k == 2) = false) (h3 : (k == 3) = false) (h4 : (k == 4) = false) (h5 : (k == 5) = false) (x : Bytes) (n : Int) : okTok k x n = false := by
  simp only [beq_eq_false_iff_ne] at *
  unfold okTok
  rw [if_neg h0, if_neg h1, if_neg h2, if_neg h3, if_neg h4, if_neg h5]
theorem bs_toList (s : ByteArray) : bs s = s.toList := (ByteArray.toList_eq s).symm
theorem bs_len (s : ByteArray) : s.toList.length = s.size := by rw [← bs_toList]; rfl
end Go.Proofs.YtlfedcbihbigoaaDoor
