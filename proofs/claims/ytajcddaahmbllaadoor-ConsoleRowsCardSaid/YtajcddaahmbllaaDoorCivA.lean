/- Contracts of the calendar: leap years, lengths, the numbers of days. -/
import Derived.Test.YtajcddaahmbllaaDoorProg
import Derived.Test.YtajcddaahmbllaaDoorGlob
import Derived.WalkLawsBesides
set_option linter.unusedVariables false
set_option linter.unusedSimpArgs false
namespace Go.Proofs.YtajcddaahmbllaaDoor
open Go.RowKit

set_option maxHeartbeats 1000000 in
theorem civil_leap_any (y : Int) (w : World) (hy : 0 ≤ y) : Calls Tryd.prog 88 #[.int .i64 y] w fun e w' => e = .returned (.bool (leapB y)) ∧ w = w' := by
  have hr : leapB y = decide (y % 4 = 0 ∧ y % 100 ≠ 0 ∨ y % 400 = 0) := by unfold leapB; rw [Bool.eq_iff_iff]; simp
  have H := hide hr; clear hr
  by_cases h4 : y % 4 = 0
  · by_cases h100 : y % 100 = 0
    · have a1 : (y % 4 == 0) = true := by simp [h4]
      have a2 : (y % 100 != 0) = false := by simp [h100]
      have g4 := hide h4; have g100 := hide h100; clear h4 h100
      go_enter Tryd.func88, Tryd.ntmps88
      go_wp2
      go_ret
      refine ⟨ret_bool ?_, rfl⟩
      have h4 := g4.out; have h100 := g100.out
      rw [H.out, Bool.eq_iff_iff]; simp; try omega
    · have a1 : (y % 4 == 0) = true := by simp [h4]
      have a2 : (y % 100 != 0) = true := by simp [h100]
      have g4 := hide h4; have g100 := hide h100; clear h4 h100
      go_enter Tryd.func88, Tryd.ntmps88
      go_wp2
      go_ret
      refine ⟨ret_bool ?_, rfl⟩
      have h4 := g4.out; have h100 := g100.out
      rw [H.out]; symm; simp; try omega
  · have a1 : (y % 4 == 0) = false := by simp [h4]
    have g4 := hide h4; clear h4
    go_enter Tryd.func88, Tryd.ntmps88
    go_wp2
    go_ret
    refine ⟨ret_bool ?_, rfl⟩
    have h4 := g4.out
    rw [H.out, Bool.eq_iff_iff]; simp; try omega

set_option maxHeartbeats 1000000 in
theorem ref3_leap_any (y : Int) (w : World) (hy : 0 ≤ y) : Calls Tryd.prog 89 #[.int .i64 y] w fun e w' => e = .returned (.bool (leapB y)) ∧ w = w' := by
  have hr : leapB y = decide (y % 4 = 0 ∧ y % 100 ≠ 0 ∨ y % 400 = 0) := by unfold leapB; rw [Bool.eq_iff_iff]; simp
  have H := hide hr; clear hr
  by_cases h4 : y % 4 = 0
  · by_cases h100 : y % 100 = 0
    · have a1 : (y % 4 == 0) = true := by simp [h4]
      have a2 : (y % 100 != 0) = false := by simp [h100]
      have g4 := hide h4; have g100 := hide h100; clear h4 h100
      go_enter Tryd.func89, Tryd.ntmps89
      go_wp2
      go_ret
      refine ⟨ret_bool ?_, rfl⟩
      have h4 := g4.out; have h100 := g100.out
      rw [H.out, Bool.eq_iff_iff]; simp; try omega
    · have a1 : (y % 4 == 0) = true := by simp [h4]
      have a2 : (y % 100 != 0) = true := by simp [h100]
      have g4 := hide h4; have g100 := hide h100; clear h4 h100
      go_enter Tryd.func89, Tryd.ntmps89
      go_wp2
      go_ret
      refine ⟨ret_bool ?_, rfl⟩
      have h4 := g4.out; have h100 := g100.out
      rw [H.out]; symm; simp; try omega
  · have a1 : (y % 4 == 0) = false := by simp [h4]
    have g4 := hide h4; clear h4
    go_enter Tryd.func89, Tryd.ntmps89
    go_wp2
    go_ret
    refine ⟨ret_bool ?_, rfl⟩
    have h4 := g4.out
    rw [H.out, Bool.eq_iff_iff]; simp; try omega


theorem leap_dec (y : Int) : leapB y = true ∨ leapB y = false := by cases leapB y <;> simp

theorem lenM_tab (y : Int) : ∀ k : Nat, k < 12 → k ≠ 1 → lenM y ((k : Int) + 1) = monthL.getD k 0
  | 0, _, _ => rfl
  | 1, _, h => absurd rfl h
  | 2, _, _ => rfl
  | 3, _, _ => rfl
  | 4, _, _ => rfl
  | 5, _, _ => rfl
  | 6, _, _ => rfl
  | 7, _, _ => rfl
  | 8, _, _ => rfl
  | 9, _, _ => rfl
  | 10, _, _ => rfl
  | 11, _, _ => rfl
  | k + 12, h, _ => by omega
theorem lenM_two (y : Int) : lenM y 2 = if leapB y = true then 29 else 28 := rfl
theorem lenM_bd (y m : Int) : 28 ≤ lenM y m ∧ lenM y m ≤ 31 := by
  unfold lenM; repeat' split
  all_goals omega
theorem yearD_bd (y : Int) : 365 ≤ yearD y ∧ yearD y ≤ 366 := by unfold yearD; split <;> omega

set_option maxHeartbeats 1000000 in
theorem civil_length_any (y m : Int) (w : World) (hG : LenVar w 1) (hy : 0 ≤ y) (h1 : 1 ≤ m) (h12 : m ≤ 12) : Calls Tryd.prog 69 #[.int .i64 y, .int .i64 m] w fun e w' => e = .returned (.int .i64 (lenM y m)) ∧ w = w' := by
  have hc := hG.2
  clear hG
  by_cases h2 : m = 2
  · subst h2
    have hk := hc 1 (by omega)
    simp [monthL] at hk
    clear hc
    rcases leap_dec y with hl | hl
    all_goals
      have H := hide (show lenM y 2 = _ by rw [lenM_two, hl])
      go_enter Tryd.func69, Tryd.ntmps69
      go_wp2_with (go_at_call 88; refine (civil_leap_any _ _ hy).mono ?_; rintro e w' ⟨rfl, rfl⟩)
      go_ret
      exact ⟨ret_int (by rw [H.out]; simp), rfl⟩
  · obtain ⟨k, rfl⟩ : ∃ k : Nat, m = (k : Int) + 1 := ⟨(m - 1).toNat, by omega⟩
    have H := hide (lenM_tab y k (by omega) (by omega))
    have hk := hc k (by omega)
    have hz : ((k : Int) + 1 == 2) = false := by simp; omega
    clear hc h2
    generalize monthL.getD k 0 = v at *
    go_enter Tryd.func69, Tryd.ntmps69
    go_wp2
    go_ret
    exact ⟨ret_int (by rw [H.out]), rfl⟩

set_option maxHeartbeats 1000000 in
theorem ref3_length_any (y m : Int) (w : World) (hy : 0 ≤ y) (h1 : 1 ≤ m) (h12 : m ≤ 12) : Calls Tryd.prog 70 #[.int .i64 y, .int .i64 m] w fun e w' => e = .returned (.int .i64 (lenM y m)) ∧ w = w' := by
  rcases (show m = 1 ∨ m = 2 ∨ m = 3 ∨ m = 4 ∨ m = 5 ∨ m = 6 ∨ m = 7 ∨ m = 8 ∨ m = 9 ∨ m = 10 ∨ m = 11 ∨ m = 12 by omega) with rfl | rfl | rfl | rfl | rfl | rfl | rfl | rfl | rfl | rfl | rfl | rfl
  case inr.inl =>
    rcases leap_dec y with hl | hl
    all_goals
      have H := hide (show lenM y 2 = _ by rw [lenM_two, hl])
      go_enter Tryd.func70, Tryd.ntmps70
      go_wp2_with (go_at_call 89; refine (ref3_leap_any _ _ hy).mono ?_; rintro e w' ⟨rfl, rfl⟩)
      go_ret
      exact ⟨ret_int (by rw [H.out]; simp), rfl⟩
  all_goals
    go_enter Tryd.func70, Tryd.ntmps70
    go_wp2
    go_ret
    exact ⟨ret_int rfl, rfl⟩

set_option maxHeartbeats 1000000 in
theorem civil_yearDays_any (y : Int) (w : World) (hy : 0 ≤ y) : Calls Tryd.prog 68 #[.int .i64 y] w fun e w' => e = .returned (.int .i64 (yearD y)) ∧ w = w' := by
  rcases leap_dec y with hl | hl
  all_goals
    have H := hide (show yearD y = _ by unfold yearD; rw [hl])
    go_enter Tryd.func68, Tryd.ntmps68
    go_wp2_with (go_at_call 88; refine (civil_leap_any _ _ hy).mono ?_; rintro e w' ⟨rfl, rfl⟩)
    go_ret
    exact ⟨ret_int (by rw [H.out]; simp), rfl⟩

/-! ### digits -/
def allDig (l : Bytes) : Bool := l.all digB
theorem numS_snoc (l : Bytes) (c : UInt8) : numS (l ++ [c]) = 10 * numS l + ((c.toNat : Int) - 48) := by
  unfold numS; rw [List.foldl_append]; rfl
theorem allDig_get {s : ByteArray} (h : allDig (bs s) = true) (k : Nat) (hk : k < s.size) : (48 : Int) ≤ (s[k].toNat : Int) ∧ (s[k].toNat : Int) ≤ 57 := by
  have : digB s[k] = true := by
    unfold allDig at h
    rw [List.all_eq_true] at h
    exact h _ (List.getElem_mem (l := bs s) (by rw [bs_length]; exact hk))
  unfold digB at this; simp at this; omega
theorem numS_bd : ∀ (l : Bytes), allDig l = true → l.length ≤ 4 → 0 ≤ numS l ∧ numS l ≤ 9999
  | [], _, _ => by simp [numS]
  | [a], h, _ => by simp [allDig, digB] at h; simp [numS]; omega
  | [a, b], h, _ => by simp [allDig, digB] at h; simp [numS]; omega
  | [a, b, c], h, _ => by simp [allDig, digB] at h; simp [numS]; omega
  | [a, b, c, d], h, _ => by simp [allDig, digB] at h; simp [numS]; omega
  | a :: b :: c :: d :: e :: l, _, hl => by simp at hl
theorem numS_bd2 : ∀ (l : Bytes), allDig l = true → l.length ≤ 2 → 0 ≤ numS l ∧ numS l ≤ 99
  | [], _, _ => by simp [numS]
  | [a], h, _ => by simp [allDig, digB] at h; simp [numS]; omega
  | [a, b], h, _ => by simp [allDig, digB] at h; simp [numS]; omega
  | a :: b :: c :: l, _, hl => by simp at hl
theorem allDig_take {l : Bytes} (h : allDig l = true) (k : Nat) : allDig (l.take k) = true := by
  unfold allDig at *; rw [List.all_eq_true] at *; exact fun x hx => h x (List.mem_of_mem_take hx)
theorem take_snoc' (s : ByteArray) (k : Nat) (h : k < s.size) : (bs s).take (k + 1) = (bs s).take k ++ [s[k]] := by
  rw [List.take_succ_eq_append_getElem (by rw [bs_length]; exact h)]; rfl

set_option maxHeartbeats 1000000 in
theorem civil_number_any (s : ByteArray) (w : World) (hs : s.size ≤ 4) (hd : allDig (bs s) = true) : Calls Tryd.prog 75 #[.string s] w fun e w' => e = .returned (.int .i64 (numS (bs s))) ∧ w = w' := by
  have HD := hide hd; clear hd
  go_enter Tryd.func75, Tryd.ntmps75
  go_wp2
  go_loop [3, 7] (fun v i => ∃ k : Nat, k ≤ s.size ∧ i = .int .i64 k ∧ v = .int .i64 (numS ((bs s).take k))) (fun _ i => s.size - (intOf i).toNat)
  case atStart => exact ⟨0, Nat.zero_le _, rfl, by simp [numS]⟩
  case round =>
    obtain ⟨k, hk, rfl, rfl⟩ := hrel
    obtain ⟨v1, v2⟩ := numS_bd _ (allDig_take HD.out k) (by simp; rw [bs_length]; omega)
    by_cases hlt : k < s.size
    · obtain ⟨d1, d2⟩ := allDig_get HD.out k hlt
      have HS := hide (show numS ((bs s).take (k + 1)) = _ from by rw [take_snoc' s k hlt, numS_snoc])
      generalize numS ((bs s).take k) = v at *
      go_wp2
      go_round
      case rel => exact ⟨k + 1, by omega, by go_num, by rw [HS.out]⟩
      case measure => simp [intOf]; omega
    · obtain rfl : k = s.size := by omega
      have HS := hide (show (bs s).take s.size = bs s from List.take_of_length_le (by rw [bs_length]; exact Nat.le_refl _))
      go_wp2
      go_ret
      exact ⟨ret_int (by rw [HS.out]), rfl⟩

/-- The number of some digits, or -1. -/
def digitsS (l : Bytes) : Int := if allDig l = true then numS l else -1
theorem digitsS_stop {s : ByteArray} {k : Nat} (hk : k < s.size) (h : digB s[k] = false) : digitsS (bs s) = -1 := by
  unfold digitsS
  rw [if_neg]
  intro ha
  unfold allDig at ha
  rw [List.all_eq_true] at ha
  have := ha _ (List.getElem_mem (l := bs s) (by rw [bs_length]; exact hk))
  have this : digB s[k] = true := this
  rw [h] at this; cases this

set_option maxHeartbeats 1000000 in
theorem ref3_digits_any (s : ByteArray) (w : World) (hs : s.size ≤ 4) : Calls Tryd.prog 78 #[.string s] w fun e w' => e = .returned (.int .i64 (digitsS (bs s))) ∧ w = w' := by
  go_enter Tryd.func78, Tryd.ntmps78
  go_wp2
  go_loop [3, 4] (fun v i => ∃ k : Nat, k ≤ s.size ∧ i = .int .i64 k ∧ v = .int .i64 (numS ((bs s).take k)) ∧ allDig ((bs s).take k) = true) (fun _ i => s.size - (intOf i).toNat)
  case atStart => exact ⟨0, Nat.zero_le _, rfl, by simp [numS], by simp [allDig]⟩
  case round =>
    obtain ⟨k, hk, rfl, rfl, ha⟩ := hrel
    obtain ⟨v1, v2⟩ := numS_bd _ ha (by simp; rw [bs_length]; omega)
    have HA := hide ha; clear ha
    by_cases hlt : k < s.size
    · by_cases hc : digB s[k] = true
      · have d : (48 : Int) ≤ (s[k].toNat : Int) ∧ (s[k].toNat : Int) ≤ 57 := by unfold digB at hc; simp at hc; omega
        obtain ⟨d1, d2⟩ := d
        have HS := hide (show numS ((bs s).take (k + 1)) = _ from by rw [take_snoc' s k hlt, numS_snoc])
        have HA' := hide (show allDig ((bs s).take (k + 1)) = true from by rw [take_snoc' s k hlt]; unfold allDig at *; simp [HA.out, hc])
        clear hc
        generalize numS ((bs s).take k) = v at *
        go_wp2
        go_round
        case rel => exact ⟨k + 1, by omega, by go_num, by rw [HS.out]; congr 1; omega, HA'.out⟩
        case measure => simp [intOf]; omega
      · have hc' : digB s[k] = false := by simpa using hc
        have HS := hide (digitsS_stop hlt hc')
        have d : (s[k].toNat : Int) < 48 ∨ (¬ (s[k].toNat : Int) < 48 ∧ 57 < (s[k].toNat : Int)) := by unfold digB at hc'; simp at hc'; omega
        clear hc hc'
        rcases d with d | ⟨d1, d2⟩
        all_goals
          go_wp2
          go_ret
          exact ⟨ret_int (by rw [HS.out]), rfl⟩
    · obtain rfl : k = s.size := by omega
      have HS := hide (show (bs s).take s.size = bs s from List.take_of_length_le (by rw [bs_length]; exact Nat.le_refl _))
      go_wp2
      go_ret
      refine ⟨ret_int ?_, rfl⟩
      have h1 := HA.out
      rw [HS.out] at h1
      rw [HS.out, digitsS, if_pos h1]

end Go.Proofs.YtajcddaahmbllaaDoor
