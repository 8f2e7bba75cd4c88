/- Contracts of the readers of a time. -/
import Derived.Test.YtlfedcbihbigoaaDoorCivC
set_option linter.unusedVariables false
set_option linter.unusedSimpArgs false
namespace Go.Proofs.YtlfedcbihbigoaaDoor
open Go.RowKit

def TimeRes (r : Except Int Int) (e : Ending) : Prop :=
  match r with
  | .ok n => e = .returned (.tuple #[.int .i64 n, .int .i64 0])
  | .error c => c ≠ 0 ∧ ∃ n : Int, e = .returned (.tuple #[.int .i64 n, .int .i64 c])
theorem TimeRes_err {r : Except Int Int} {c : Int} (h : r = .error c) (hc : c ≠ 0) (n : Int) : TimeRes r (.returned (.tuple #[.int .i64 n, .int .i64 c])) := by subst h; exact ⟨hc, n, rfl⟩
theorem TimeRes_ok {r : Except Int Int} {n m : Int} (h : r = .ok n) (hm : m = n) : TimeRes r (.returned (.tuple #[.int .i64 m, .int .i64 0])) := by subst h hm; rfl

def fit1 (f c : UInt8) : Bool := if f.toNat = 48 then digB c else c.toNat == f.toNat
theorem fitB_iff : ∀ fs l : Bytes, fitB fs l = true ↔ l.length = fs.length ∧ ∀ j, j < fs.length → fit1 (fs.getD j 0) (l.getD j 0) = true
  | [], [] => by simp [fitB]
  | [], c :: l => by simp [fitB]
  | f :: fs, [] => by simp [fitB]
  | f :: fs, c :: l => by
    have ih := fitB_iff fs l
    simp only [fitB, Bool.and_eq_true, List.length_cons]
    constructor
    · rintro ⟨h1, h2⟩
      obtain ⟨i1, i2⟩ := ih.1 h2
      refine ⟨by omega, fun j hj => ?_⟩
      match j with
      | 0 => exact h1
      | j + 1 => simpa using i2 j (by omega)
    · rintro ⟨h1, h2⟩
      refine ⟨h2 0 (by omega), ih.2 ⟨by omega, fun j hj => ?_⟩⟩
      simpa using h2 (j + 1) (by omega)
theorem fit_dig {s : ByteArray} (h : fitB timeForm (bs s) = true) : s.size = 16 ∧ ∀ j (hj : j < s.size), fit1 (timeForm.getD j 0) s[j] = true := by
  obtain ⟨h1, h2⟩ := (fitB_iff _ _).1 h
  have h16 : s.size = 16 := h1
  refine ⟨h16, fun j hj => ?_⟩
  have := h2 j (by rw [← h1]; exact hj)
  rw [List.getD, List.getD, List.getElem?_eq_getElem (show j < (bs s).length from hj)] at this
  exact this
theorem dig_piece {s : ByteArray} (a n : Nat) (h : fitB timeForm (bs s) = true) (hn : a + n ≤ 16) (hf : ∀ j, j < n → (timeForm.getD (a + j) 0).toNat = 48) : allDig (bs (s.extract a (a + n))) = true := by
  obtain ⟨h16, hd⟩ := fit_dig h
  unfold allDig
  rw [List.all_eq_true]
  intro x hx
  rw [bs_extract] at hx
  obtain ⟨i, hi, hxi⟩ := List.mem_iff_getElem.1 hx
  simp only [List.length_drop, List.length_take, bs_length] at hi
  have := hd (a + i) (by omega)
  rw [List.getElem_drop, List.getElem_take] at hxi
  have e : s[a + i]'(by omega) = x := hxi
  rw [e] at this
  unfold fit1 at this
  rw [if_pos (hf i (by omega))] at this
  exact this

theorem pieces {s : ByteArray} (h : fitB timeForm (bs s) = true) : allDig (bs (s.extract 0 4)) = true ∧ allDig (bs (s.extract 5 7)) = true ∧ allDig (bs (s.extract 8 10)) = true ∧ allDig (bs (s.extract 11 13)) = true ∧ allDig (bs (s.extract 14 16)) = true :=
  ⟨dig_piece 0 4 h (by omega) (by decide), dig_piece 5 2 h (by omega) (by decide), dig_piece 8 2 h (by omega) (by decide), dig_piece 11 2 h (by omega) (by decide), dig_piece 14 2 h (by omega) (by decide)⟩

/-- 'timeS' over the pieces as the text cuts them. -/
theorem timeS_eq (s : ByteArray) : timeS (bs s) = if fitB timeForm (bs s) = false then .error 3
  else match daysS (numS (bs (s.extract 0 4))) (numS (bs (s.extract 5 7))) (numS (bs (s.extract 8 10))) with
    | none => .error 1
    | some n =>
      if 23 < numS (bs (s.extract 11 13)) ∨ 59 < numS (bs (s.extract 14 16)) ∨ 575999999 < n * 1440 + numS (bs (s.extract 11 13)) * 60 + numS (bs (s.extract 14 16)) then .error 1
      else .ok (n * 1440 + numS (bs (s.extract 11 13)) * 60 + numS (bs (s.extract 14 16))) := by
  unfold timeS
  simp only [bs_extract, List.drop_zero]
  rfl
theorem dayN_bd {y m d n : Int} (h : daysS y m d = some n) : 0 ≤ n ∧ n ≤ 400000 := by
  unfold daysS at h
  split at h
  · rename_i hb
    split at h
    · cases h
    · injection h with h
      subst h
      unfold dateB at hb; simp at hb
      have := sumY_bd (y - 1970).toNat
      have := sumM_bd y (m - 1).toNat
      unfold dayN at *
      omega
  · cases h

end Go.Proofs.YtlfedcbihbigoaaDoor
