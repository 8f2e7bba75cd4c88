/- Contracts of the byte classes and of the run of word bytes. -/
import Derived.Test.YtajcddaahmbllaaDoorProg
import Derived.Test.YtajcddaahmbllaaDoorBytes
import Derived.WalkLawsBesides
import Derived.Deep.QuietTactic
import Derived.BigQuiet
set_option linter.unusedVariables false
set_option linter.unusedSimpArgs false
namespace Go.Proofs.YtajcddaahmbllaaDoor
open Go.RowKit

set_option maxHeartbeats 400000 in
theorem token_letter_any (c : UInt8) (w : World) : Calls Tryd.prog 51 #[.int .u8 (c.toNat : Int)] w fun e w' => e = .returned (.bool (letB c)) ∧ w = w' := by
  unfold letB
  have hc : (c.toNat : Int) < 256 := by have := c.toNat_lt; omega
  by_cases h1 : 97 ≤ c.toNat
  · have a1 : (97 : Int) ≤ (c.toNat : Int) := by omega
    go_enter Tryd.func51, Tryd.ntmps51
    go_wp2
    all_goals (go_ret; refine ⟨ret_bool ?_, rfl⟩; first | rfl | (rw [Bool.eq_iff_iff]; simp; omega))
  · have a1 : ¬ (97 : Int) ≤ (c.toNat : Int) := by omega
    go_enter Tryd.func51, Tryd.ntmps51
    go_wp2
    all_goals (go_ret; refine ⟨ret_bool ?_, rfl⟩; first | rfl | (rw [Bool.eq_iff_iff]; simp; omega))

set_option maxHeartbeats 400000 in
theorem token_digit_any (c : UInt8) (w : World) : Calls Tryd.prog 53 #[.int .u8 (c.toNat : Int)] w fun e w' => e = .returned (.bool (digB c)) ∧ w = w' := by
  unfold digB
  have hc : (c.toNat : Int) < 256 := by have := c.toNat_lt; omega
  by_cases h1 : 48 ≤ c.toNat
  · have a1 : (48 : Int) ≤ (c.toNat : Int) := by omega
    go_enter Tryd.func53, Tryd.ntmps53
    go_wp2
    all_goals (go_ret; refine ⟨ret_bool ?_, rfl⟩; first | rfl | (rw [Bool.eq_iff_iff]; simp; omega))
  · have a1 : ¬ (48 : Int) ≤ (c.toNat : Int) := by omega
    go_enter Tryd.func53, Tryd.ntmps53
    go_wp2
    all_goals (go_ret; refine ⟨ret_bool ?_, rfl⟩; first | rfl | (rw [Bool.eq_iff_iff]; simp; omega))

set_option maxHeartbeats 400000 in
theorem ref7_letter_any (c : UInt8) (w : World) : Calls Tryd.prog 57 #[.int .u8 (c.toNat : Int)] w fun e w' => e = .returned (.bool (letB c)) ∧ w = w' := by
  unfold letB
  have hc : (c.toNat : Int) < 256 := by have := c.toNat_lt; omega
  by_cases h1 : 97 ≤ c.toNat
  · have a1 : (97 : Int) ≤ (c.toNat : Int) := by omega
    go_enter Tryd.func57, Tryd.ntmps57
    go_wp2
    all_goals (go_ret; refine ⟨ret_bool ?_, rfl⟩; first | rfl | (rw [Bool.eq_iff_iff]; simp; omega))
  · have a1 : ¬ (97 : Int) ≤ (c.toNat : Int) := by omega
    go_enter Tryd.func57, Tryd.ntmps57
    go_wp2
    all_goals (go_ret; refine ⟨ret_bool ?_, rfl⟩; first | rfl | (rw [Bool.eq_iff_iff]; simp; omega))

set_option maxHeartbeats 400000 in
theorem ref7_digit_any (c : UInt8) (w : World) : Calls Tryd.prog 59 #[.int .u8 (c.toNat : Int)] w fun e w' => e = .returned (.bool (digB c)) ∧ w = w' := by
  unfold digB
  have hc : (c.toNat : Int) < 256 := by have := c.toNat_lt; omega
  by_cases h1 : 48 ≤ c.toNat
  · have a1 : (48 : Int) ≤ (c.toNat : Int) := by omega
    go_enter Tryd.func59, Tryd.ntmps59
    go_wp2
    all_goals (go_ret; refine ⟨ret_bool ?_, rfl⟩; first | rfl | (rw [Bool.eq_iff_iff]; simp; omega))
  · have a1 : ¬ (48 : Int) ≤ (c.toNat : Int) := by omega
    go_enter Tryd.func59, Tryd.ntmps59
    go_wp2
    all_goals (go_ret; refine ⟨ret_bool ?_, rfl⟩; first | rfl | (rw [Bool.eq_iff_iff]; simp; omega))

set_option maxHeartbeats 1000000 in
theorem token_part_any (s : ByteArray) (w : World) (hs : s.size ≤ maxLen) :
    Calls Tryd.prog 74 #[.string s] w fun e w' => e = .returned (.int .i64 (partL (bs s))) ∧ w = w' := by
  unfold maxLen at hs
  have hp := partL_le (bs s)
  rw [bs_length] at hp
  go_enter Tryd.func74, Tryd.ntmps74
  go_wp2
  go_loop [3] (fun n => ∃ k : Nat, k ≤ partL (bs s) ∧ n = .int .i64 k) (fun n => partL (bs s) - (intOf n).toNat)
  case atStart => exact ⟨0, Nat.zero_le _, rfl⟩
  case round =>
    obtain ⟨k, hk, rfl⟩ := hrel
    by_cases hlt : k < partL (bs s)
    · obtain ⟨h1, h2⟩ := partL_lt (bs s) k hlt
      have h1' : k < s.size := h1
      have h2' : wordB s[k] = true := h2
      rcases wordB_cases h2' with c1 | ⟨c1, c2⟩ | ⟨c1, c2, c3⟩
      all_goals
        clear h2 h2'
        go_wp2_with (first
          | (go_at_call 51; refine (token_letter_any _ _).mono ?_; rintro e w' ⟨rfl, rfl⟩)
          | (go_at_call 53; refine (token_digit_any _ _).mono ?_; rintro e w' ⟨rfl, rfl⟩))
        go_round
        case rel => exact ⟨k + 1, by omega, by go_num⟩
        case measure => simp [intOf]; omega
    · obtain rfl : k = partL (bs s) := by omega
      by_cases h1 : partL (bs s) < s.size
      · have h2 : wordB s[partL (bs s)] = false := partL_stop (bs s) h1
        obtain ⟨c1, c2, c3⟩ := wordB_no h2
        clear h2
        go_wp2_with (first
          | (go_at_call 51; refine (token_letter_any _ _).mono ?_; rintro e w' ⟨rfl, rfl⟩)
          | (go_at_call 53; refine (token_digit_any _ _).mono ?_; rintro e w' ⟨rfl, rfl⟩))
        go_ret
        exact ⟨rfl, rfl⟩
      · go_wp2
        go_ret
        exact ⟨rfl, rfl⟩
set_option maxHeartbeats 1000000 in
theorem ref7_run_any (s : ByteArray) (w : World) (hs : s.size ≤ maxLen) :
    Calls Tryd.prog 77 #[.string s] w fun e w' => e = .returned (.int .i64 (partL (bs s))) ∧ w = w' := by
  unfold maxLen at hs
  have hp := partL_le (bs s)
  rw [bs_length] at hp
  go_enter Tryd.func77, Tryd.ntmps77
  go_wp2
  go_loop [3] (fun n => ∃ k : Nat, k ≤ partL (bs s) ∧ n = .int .i64 k) (fun n => partL (bs s) - (intOf n).toNat)
  case atStart => exact ⟨0, Nat.zero_le _, rfl⟩
  case round =>
    obtain ⟨k, hk, rfl⟩ := hrel
    by_cases hlt : k < partL (bs s)
    · obtain ⟨h1, h2⟩ := partL_lt (bs s) k hlt
      have h1' : k < s.size := h1
      have h2' : wordB s[k] = true := h2
      rcases wordB_cases h2' with c1 | ⟨c1, c2⟩ | ⟨c1, c2, c3⟩
      all_goals
        clear h2 h2'
        go_wp2_with (first
          | (go_at_call 57; refine (ref7_letter_any _ _).mono ?_; rintro e w' ⟨rfl, rfl⟩)
          | (go_at_call 59; refine (ref7_digit_any _ _).mono ?_; rintro e w' ⟨rfl, rfl⟩))
        go_round
        case rel => exact ⟨k + 1, by omega, by go_num⟩
        case measure => simp [intOf]; omega
    · obtain rfl : k = partL (bs s) := by omega
      by_cases h1 : partL (bs s) < s.size
      · have h2 : wordB s[partL (bs s)] = false := partL_stop (bs s) h1
        obtain ⟨c1, c2, c3⟩ := wordB_no h2
        clear h2
        go_wp2_with (first
          | (go_at_call 57; refine (ref7_letter_any _ _).mono ?_; rintro e w' ⟨rfl, rfl⟩)
          | (go_at_call 59; refine (ref7_digit_any _ _).mono ?_; rintro e w' ⟨rfl, rfl⟩))
        go_ret
        exact ⟨rfl, rfl⟩
      · go_wp2
        go_ret
        exact ⟨rfl, rfl⟩

end Go.Proofs.YtajcddaahmbllaaDoor
