/- Contracts of the calendar, the reference's: the number of a day. -/
import Derived.Test.YtajcddaahmbllaaDoorCivB
set_option linter.unusedVariables false
set_option linter.unusedSimpArgs false
namespace Go.Proofs.YtajcddaahmbllaaDoor
open Go.RowKit

set_option maxRecDepth 100000 in
set_option maxHeartbeats 4000000 in
theorem ref3_Days_any (y m d : Int) (w : World) (hy0 : -100000 ≤ y) (hy1 : y ≤ 100000) (hm0 : -100000 ≤ m) (hm1 : m ≤ 100000) (hd0 : -100000 ≤ d) (hd1 : d ≤ 100000) :
    Calls Tryd.prog 79 #[.int .i64 y, .int .i64 m, .int .i64 d] w fun e w' => DaysRes (daysS y m d) e ∧ w = w' := by
  cases hb : dateB y m d
  · have H := hide (show daysS y m d = none by unfold daysS; rw [hb]; rfl)
    have hn := dateB_no 3066 (.inr rfl) hb
    clear hb
    rcases hn with h1 | ⟨h1, h2⟩ | ⟨h1, h2, h3⟩ | ⟨h1, h2, h3, h4⟩ | ⟨h1, h2, h3, h4, h5⟩ | ⟨h1, h2, h3, h4, h5, h6⟩ | ⟨rfl, _, h1, h2, h3, h4⟩
    case inr.inr.inr.inr.inr.inr =>
      have hbd := lenM_bd 3066 m
      go_enter Tryd.func79, Tryd.ntmps79
      go_wp2_with (go_at_call 70; refine (ref3_length_any _ _ _ (by omega) (by omega) (by omega)).mono ?_; rintro e w' ⟨rfl, rfl⟩)
      go_loop [8, 9] (fun n i => ∃ k : Nat, (k : Int) ≤ 3066 - 1970 ∧ i = .int .i64 (1970 + k) ∧ n = .int .i64 (d - 1 + sumY k)) (fun _ i => (3066 - intOf i).toNat)
      case atStart => exact ⟨0, by omega, rfl, by simp [sumY]⟩
      case round =>
        obtain ⟨k, hk, rfl, rfl⟩ := hrel
        have hs := sumY_bd k
        have hyd := yearD_bd (1970 + k)
        by_cases hlt : (1970 : Int) + k < 3066
        · rcases leap_dec (1970 + k) with hl | hl
          all_goals
            have HS := hide (show sumY (k + 1) = sumY k + _ from by simp only [sumY, yearD]; rw [hl])
            generalize sumY k = v at *
            go_wp2_with (go_at_call 89; refine (ref3_leap_any _ _ (by omega)).mono ?_; rintro e w' ⟨rfl, rfl⟩)
            go_round
            case rel => exact ⟨k + 1, by omega, by go_num, by rw [HS.out]; simp; omega⟩
            case measure => simp [intOf]; omega
        · have hk' : k = (3066 - 1970 : Int).toNat := by omega
          have hv1096 : 400040 ≤ sumY k := by omega
          clear hk'
          generalize sumY k = v at *
          go_wp2
          go_loop [8, 10] (fun n i => ∃ j : Nat, (j : Int) ≤ m - 1 ∧ i = .int .i64 (1 + j) ∧ n = .int .i64 (d - 1 + v + sumM 3066 j)) (fun _ i => (m - intOf i).toNat)
          case atStart => exact ⟨0, by omega, rfl, by simp [sumM]⟩
          case round =>
            obtain ⟨j, hj, rfl, rfl⟩ := hrel
            have hs2 := sumM_bd 3066 j
            have hld := lenM_bd 3066 (1 + j)
            by_cases hlt2 : (1 : Int) + j < m
            · have HS := hide (show sumM 3066 (j + 1) = sumM 3066 j + lenM 3066 (1 + j) from rfl)
              generalize sumM 3066 j = u at *
              go_wp2_with (go_at_call 70; refine (ref3_length_any _ _ _ (by omega) (by omega) (by omega)).mono ?_; rintro e w' ⟨rfl, rfl⟩)
              go_round
              case rel => exact ⟨j + 1, by omega, by go_num, by rw [HS.out]; congr 1; omega⟩
              case measure => simp [intOf]; omega
            · generalize sumM 3066 j = u at *
              have hbig : 400000 < d - 1 + v + u := by omega
              go_wp2
              go_ret2
              exact ⟨DaysRes_no H.out, rfl⟩
    all_goals
      go_enter Tryd.func79, Tryd.ntmps79
      go_wp2_with (go_at_call 70; refine (ref3_length_any _ _ _ (by omega) (by omega) (by omega)).mono ?_; rintro e w' ⟨rfl, rfl⟩)
      go_ret2
      exact ⟨DaysRes_no H.out, rfl⟩
  · have hb' := hb
    unfold dateB at hb'; simp at hb'
    obtain ⟨⟨⟨⟨⟨h1, h2⟩, h3⟩, h4⟩, h5⟩, h6⟩ := hb'
    have hbd := lenM_bd y m
    have hr : daysS y m d = if 400000 < dayN y m d then none else some (dayN y m d) := by unfold daysS; rw [if_pos hb]
    have HR := hide hr; clear hr hb
    go_enter Tryd.func79, Tryd.ntmps79
    go_wp2_with (go_at_call 70; refine (ref3_length_any _ _ _ (by omega) (by omega) (by omega)).mono ?_; rintro e w' ⟨rfl, rfl⟩)
    go_loop [8, 9] (fun n i => ∃ k : Nat, (k : Int) ≤ y - 1970 ∧ i = .int .i64 (1970 + k) ∧ n = .int .i64 (d - 1 + sumY k)) (fun _ i => (y - intOf i).toNat)
    case atStart => exact ⟨0, by omega, rfl, by simp [sumY]⟩
    case round =>
      obtain ⟨k, hk, rfl, rfl⟩ := hrel
      have hs := sumY_bd k
      have hyd := yearD_bd (1970 + k)
      by_cases hlt : (1970 : Int) + k < y
      · rcases leap_dec (1970 + k) with hl | hl
        all_goals
          have HS := hide (show sumY (k + 1) = sumY k + _ from by simp only [sumY, yearD]; rw [hl])
          generalize sumY k = v at *
          go_wp2_with (go_at_call 89; refine (ref3_leap_any _ _ (by omega)).mono ?_; rintro e w' ⟨rfl, rfl⟩)
          go_round
          case rel => exact ⟨k + 1, by omega, by go_num, by rw [HS.out]; simp; omega⟩
          case measure => simp [intOf]; omega
      · have hk' : k = (y - 1970).toNat := by omega
        have HK := hide hk'; clear hk'
        generalize hv : sumY k = v at *
        have HV := hide hv; clear hv
        go_wp2
        go_loop [8, 10] (fun n i => ∃ j : Nat, (j : Int) ≤ m - 1 ∧ i = .int .i64 (1 + j) ∧ n = .int .i64 (d - 1 + v + sumM y j)) (fun _ i => (m - intOf i).toNat)
        case atStart => exact ⟨0, by omega, rfl, by simp [sumM]⟩
        case round =>
          obtain ⟨j, hj, rfl, rfl⟩ := hrel
          have hs2 := sumM_bd y j
          have hld := lenM_bd y (1 + j)
          by_cases hlt2 : (1 : Int) + j < m
          · have HS := hide (show sumM y (j + 1) = sumM y j + lenM y (1 + j) from rfl)
            generalize sumM y j = u at *
            go_wp2_with (go_at_call 70; refine (ref3_length_any _ _ _ (by omega) (by omega) (by omega)).mono ?_; rintro e w' ⟨rfl, rfl⟩)
            go_round
            case rel => exact ⟨j + 1, by omega, by go_num, by rw [HS.out]; congr 1; omega⟩
            case measure => simp [intOf]; omega
          · have hj' : j = (m - 1).toNat := by omega
            have HN := hide (show dayN y m d = d - 1 + v + sumM y j by unfold dayN; rw [← HK.out, HV.out, ← hj'])
            clear hj'
            generalize sumM y j = u at *
            by_cases hbig : 400000 < d - 1 + v + u
            · have H := hide (show daysS y m d = none by rw [HR.out, HN.out, if_pos hbig])
              go_wp2
              go_ret2
              exact ⟨DaysRes_no H.out, rfl⟩
            · have H := hide (show daysS y m d = some (d - 1 + v + u) by rw [HR.out, HN.out, if_neg hbig])
              go_wp2
              go_ret2
              exact ⟨DaysRes_yes H.out, rfl⟩

end Go.Proofs.YtajcddaahmbllaaDoor
