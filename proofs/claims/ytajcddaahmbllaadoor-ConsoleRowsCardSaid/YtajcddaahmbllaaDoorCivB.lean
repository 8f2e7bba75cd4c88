/- Contracts of the calendar: the number of a day; the reader of a time. -/
import Derived.Test.YtajcddaahmbllaaDoorCivA
set_option linter.unusedVariables false
set_option linter.unusedSimpArgs false
namespace Go.Proofs.YtajcddaahmbllaaDoor
open Go.RowKit

theorem sumY_bd : ∀ k : Nat, 365 * (k : Int) ≤ sumY k ∧ sumY k ≤ 366 * (k : Int)
  | 0 => by simp [sumY]
  | k + 1 => by
    have := sumY_bd k
    have := yearD_bd (1970 + k)
    simp only [sumY]; omega
theorem sumM_bd (y : Int) : ∀ k : Nat, 0 ≤ sumM y k ∧ sumM y k ≤ 31 * (k : Int)
  | 0 => by simp [sumM]
  | k + 1 => by
    have := sumM_bd y k
    have := lenM_bd y (1 + k)
    simp only [sumM]; omega
def DaysRes (r : Option Int) (e : Ending) : Prop :=
  match r with
  | some n => e = .returned (.tuple #[.int .i64 n, .bool true])
  | none => e = .returned (.tuple #[.int .i64 0, .bool false])
theorem DaysRes_no {r : Option Int} (h : r = none) : DaysRes r (.returned (.tuple #[.int .i64 0, .bool false])) := by subst h; rfl
theorem DaysRes_yes {r : Option Int} {n : Int} (h : r = some n) : DaysRes r (.returned (.tuple #[.int .i64 n, .bool true])) := by subst h; rfl
/-- The ways in which a date is none, the greatest year being Y. -/
theorem dateB_no {y m d : Int} (Y : Int) (hY : Y = 3065 ∨ Y = 3066) (h : dateB y m d = false) : y < 1970 ∨ (¬ y < 1970 ∧ Y < y) ∨ (¬ y < 1970 ∧ ¬ Y < y ∧ m < 1) ∨ (¬ y < 1970 ∧ ¬ Y < y ∧ ¬ m < 1 ∧ 12 < m) ∨
    (¬ y < 1970 ∧ ¬ Y < y ∧ ¬ m < 1 ∧ ¬ 12 < m ∧ d < 1) ∨ (¬ y < 1970 ∧ ¬ Y < y ∧ ¬ m < 1 ∧ ¬ 12 < m ∧ ¬ d < 1 ∧ lenM y m < d) ∨ (y = 3066 ∧ Y = 3066 ∧ 1 ≤ m ∧ m ≤ 12 ∧ 1 ≤ d ∧ d ≤ lenM y m) := by
  unfold dateB at h; simp at h
  by_cases h1 : y < 1970
  · exact .inl h1
  by_cases h2 : Y < y
  · exact .inr (.inl ⟨h1, h2⟩)
  by_cases h3 : m < 1
  · exact .inr (.inr (.inl ⟨h1, h2, h3⟩))
  by_cases h4 : 12 < m
  · exact .inr (.inr (.inr (.inl ⟨h1, h2, h3, h4⟩)))
  by_cases h5 : d < 1
  · exact .inr (.inr (.inr (.inr (.inl ⟨h1, h2, h3, h4, h5⟩))))
  by_cases h6 : lenM y m < d
  · exact .inr (.inr (.inr (.inr (.inr (.inl ⟨h1, h2, h3, h4, h5, h6⟩)))))
  · refine .inr (.inr (.inr (.inr (.inr (.inr ⟨?_, ?_, by omega, by omega, by omega, by omega⟩)))))
    · rcases hY with rfl | rfl
      · have := h (by omega) (by omega) (by omega) (by omega) (by omega); omega
      · by_cases e : y = 3066
        · exact e
        · have := h (by omega) (by omega) (by omega) (by omega) (by omega); omega
    · rcases hY with rfl | rfl
      · have := h (by omega) (by omega) (by omega) (by omega) (by omega); omega
      · rfl

set_option maxRecDepth 100000 in
set_option maxHeartbeats 4000000 in
theorem civil_Days_any (y m d : Int) (w : World) (hG : LenVar w 1) (hy0 : -100000 ≤ y) (hy1 : y ≤ 100000) (hm0 : -100000 ≤ m) (hm1 : m ≤ 100000) (hd0 : -100000 ≤ d) (hd1 : d ≤ 100000) :
    Calls Tryd.prog 76 #[.int .i64 y, .int .i64 m, .int .i64 d] w fun e w' => DaysRes (daysS y m d) e ∧ w = w' := by
  have HG := hide hG; clear hG
  cases hb : dateB y m d
  · have H := hide (show daysS y m d = none by unfold daysS; rw [hb]; rfl)
    have hn := dateB_no 3065 (.inl rfl) hb
    clear hb
    rcases hn with h1 | ⟨h1, h2⟩ | ⟨h1, h2, h3⟩ | ⟨h1, h2, h3, h4⟩ | ⟨h1, h2, h3, h4, h5⟩ | ⟨h1, h2, h3, h4, h5, h6⟩ | ⟨_, h, _⟩
    case inr.inr.inr.inr.inr.inr => omega
    all_goals
      go_enter Tryd.func76, Tryd.ntmps76
      go_wp2_with (go_at_call 69; refine (civil_length_any _ _ _ HG.out (by omega) (by omega) (by omega)).mono ?_; rintro e w' ⟨rfl, rfl⟩)
      go_ret2
      exact ⟨DaysRes_no H.out, rfl⟩
  · have hb' := hb
    unfold dateB at hb'; simp at hb'
    obtain ⟨⟨⟨⟨⟨h1, h2⟩, h3⟩, h4⟩, h5⟩, h6⟩ := hb'
    have hbd := lenM_bd y m
    have hr : daysS y m d = if 400000 < dayN y m d then none else some (dayN y m d) := by unfold daysS; rw [if_pos hb]
    have HR := hide hr; clear hr hb
    go_enter Tryd.func76, Tryd.ntmps76
    go_wp2_with (go_at_call 69; refine (civil_length_any _ _ _ HG.out (by omega) (by omega) (by omega)).mono ?_; rintro e w' ⟨rfl, rfl⟩)
    go_loop [8, 9] (fun n i => ∃ k : Nat, (k : Int) ≤ y - 1970 ∧ i = .int .i64 (1970 + k) ∧ n = .int .i64 (d - 1 + sumY k)) (fun _ i => (y - intOf i).toNat)
    case atStart => exact ⟨0, by omega, rfl, by simp [sumY]⟩
    case round =>
      obtain ⟨k, hk, rfl, rfl⟩ := hrel
      have hs := sumY_bd k
      have hyd := yearD_bd (1970 + k)
      by_cases hlt : (1970 : Int) + k < y
      · have HS := hide (show sumY (k + 1) = sumY k + yearD (1970 + k) from rfl)
        generalize sumY k = v at *
        go_wp2_with (go_at_call 68; refine (civil_yearDays_any _ _ (by omega)).mono ?_; rintro e w' ⟨rfl, rfl⟩)
        go_round
        case rel => exact ⟨k + 1, by omega, by go_num, by rw [HS.out]; congr 1; omega⟩
        case measure => simp [intOf]; omega
      · have hk' : k = (y - 1970).toNat := by omega
        have HK := hide hk'; clear hk'
        generalize hv : sumY k = v at *
        have HV := hide hv; clear hv
        go_wp2
        go_loop [8, 10] (fun n i => ∃ j : Nat, (j : Int) ≤ m - 1 ∧ i = .int .i64 (1 + j) ∧ n = .int .i64 (d - 1 + v + sumM y j)) (fun _ i => (m - intOf i).toNat)
        case atStart => exact ⟨0, by omega, rfl, by simp [sumM]⟩
        case round =>
          obtain ⟨j, hj, rfl, rfl⟩ := hrel
          have hs2 := sumM_bd y j
          have hld := lenM_bd y (1 + j)
          by_cases hlt2 : (1 : Int) + j < m
          · have HS := hide (show sumM y (j + 1) = sumM y j + lenM y (1 + j) from rfl)
            generalize sumM y j = u at *
            go_wp2_with (go_at_call 69; refine (civil_length_any _ _ _ HG.out (by omega) (by omega) (by omega)).mono ?_; rintro e w' ⟨rfl, rfl⟩)
            go_round
            case rel => exact ⟨j + 1, by omega, by go_num, by rw [HS.out]; congr 1; omega⟩
            case measure => simp [intOf]; omega
          · have hj' : j = (m - 1).toNat := by omega
            have HN := hide (show dayN y m d = d - 1 + v + sumM y j by unfold dayN; rw [← HK.out, HV.out, ← hj'])
            clear hj'
            generalize sumM y j = u at *
            by_cases hbig : 400000 < d - 1 + v + u
            · have H := hide (show daysS y m d = none by rw [HR.out, HN.out, if_pos hbig])
              go_wp2
              go_ret2
              exact ⟨DaysRes_no H.out, rfl⟩
            · have H := hide (show daysS y m d = some (d - 1 + v + u) by rw [HR.out, HN.out, if_neg hbig])
              go_wp2
              go_ret2
              exact ⟨DaysRes_yes H.out, rfl⟩

end Go.Proofs.YtajcddaahmbllaaDoor
