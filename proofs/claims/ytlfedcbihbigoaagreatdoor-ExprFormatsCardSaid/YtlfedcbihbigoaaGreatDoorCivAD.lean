/- Contracts of the calendar: leap years, lengths, the numbers of days. Contracts of the calendar: the number of a day; the reader of a time. Contracts of the calendar, the reference's: the number of a day. Contracts of the readers of a time. -/
import Derived.Test.YtlfedcbihbigoaaGreatDoorProg
import Derived.Test.YtlfedcbihbigoaaGreatDoorBase0
import Derived.WalkLawsBesides
set_option linter.unusedVariables false
set_option linter.unusedSimpArgs false
namespace Go.Proofs.YtlfedcbihbigoaaGreatDoor
open Go.RowKit

set_option maxHeartbeats 1000000 in
theorem civil_leap_any (y : Int) (w : World) (hy : 0 ≤ y) : Calls Tryz.prog 178 #[.int .i64 y] w fun e w' => e = .returned (.bool (leapB y)) ∧ w = w' := by
  have hr : leapB y = decide (y % 4 = 0 ∧ y % 100 ≠ 0 ∨ y % 400 = 0) := by unfold leapB; rw [Bool.eq_iff_iff]; simp
  have H := hide hr; clear hr
  by_cases h4 : y % 4 = 0
  · by_cases h100 : y % 100 = 0
    · have a1 : (y % 4 == 0) = true := by simp [h4]
      have a2 : (y % 100 != 0) = false := by simp [h100]
      have g4 := hide h4; have g100 := hide h100; clear h4 h100
      go_enter Tryz.func178, Tryz.ntmps178
      go_wp2
      go_ret
      refine ⟨ret_bool ?_, rfl⟩
      have h4 := g4.out; have h100 := g100.out
      rw [H.out, Bool.eq_iff_iff]; simp; try omega
    · have a1 : (y % 4 == 0) = true := by simp [h4]
      have a2 : (y % 100 != 0) = true := by simp [h100]
      have g4 := hide h4; have g100 := hide h100; clear h4 h100
      go_enter Tryz.func178, Tryz.ntmps178
      go_wp2
      go_ret
      refine ⟨ret_bool ?_, rfl⟩
      have h4 := g4.out; have h100 := g100.out
      rw [H.out]; symm; simp; try omega
  · have a1 : (y % 4 == 0) = false := by simp [h4]
    have g4 := hide h4; clear h4
    go_enter Tryz.func178, Tryz.ntmps178
    go_wp2
    go_ret
    refine ⟨ret_bool ?_, rfl⟩
    have h4 := g4.out
    rw [H.out, Bool.eq_iff_iff]; simp; try omega

set_option maxHeartbeats 1000000 in
theorem ref3_leap_any (y : Int) (w : World) (hy : 0 ≤ y) : Calls Tryz.prog 128 #[.int .i64 y] w fun e w' => e = .returned (.bool (leapB y)) ∧ w = w' := by
  have hr : leapB y = decide (y % 4 = 0 ∧ y % 100 ≠ 0 ∨ y % 400 = 0) := by unfold leapB; rw [Bool.eq_iff_iff]; simp
  have H := hide hr; clear hr
  by_cases h4 : y % 4 = 0
  · by_cases h100 : y % 100 = 0
    · have a1 : (y % 4 == 0) = true := by simp [h4]
      have a2 : (y % 100 != 0) = false := by simp [h100]
      have g4 := hide h4; have g100 := hide h100; clear h4 h100
      go_enter Tryz.func128, Tryz.ntmps128
      go_wp2
      go_ret
      refine ⟨ret_bool ?_, rfl⟩
      have h4 := g4.out; have h100 := g100.out
      rw [H.out, Bool.eq_iff_iff]; simp; try omega
    · have a1 : (y % 4 == 0) = true := by simp [h4]
      have a2 : (y % 100 != 0) = true := by simp [h100]
      have g4 := hide h4; have g100 := hide h100; clear h4 h100
      go_enter Tryz.func128, Tryz.ntmps128
      go_wp2
      go_ret
      refine ⟨ret_bool ?_, rfl⟩
      have h4 := g4.out; have h100 := g100.out
      rw [H.out]; symm; simp; try omega
  · have a1 : (y % 4 == 0) = false := by simp [h4]
    have g4 := hide h4; clear h4
    go_enter Tryz.func128, Tryz.ntmps128
    go_wp2
    go_ret
    refine ⟨ret_bool ?_, rfl⟩
    have h4 := g4.out
    rw [H.out, Bool.eq_iff_iff]; simp; try omega


theorem leap_dec (y : Int) : leapB y = true ∨ leapB y = false := by cases leapB y <;> simp

theorem lenM_tab (y : Int) : ∀ k : Nat, k < 12 → k ≠ 1 → lenM y ((k : Int) + 1) = monthL.getD k 0
  | 0, _, _ => rfl
  | 1, _, h => absurd rfl h
  | 2, _, _ => rfl
  | 3, _, _ => rfl
  | 4, _, _ => rfl
  | 5, _, _ => rfl
  | 6, _, _ => rfl
  | 7, _, _ => rfl
  | 8, _, _ => rfl
  | 9, _, _ => rfl
  | 10, _, _ => rfl
  | 11, _, _ => rfl
  | k + 12, h, _ => by omega
theorem lenM_two (y : Int) : lenM y 2 = if leapB y = true then 29 else 28 := rfl
theorem lenM_bd (y m : Int) : 28 ≤ lenM y m ∧ lenM y m ≤ 31 := by
  unfold lenM; repeat' split
  all_goals omega
theorem yearD_bd (y : Int) : 365 ≤ yearD y ∧ yearD y ≤ 366 := by unfold yearD; split <;> omega

set_option maxHeartbeats 1000000 in
theorem civil_length_any (y m : Int) (w : World) (hG : LenVar w 3) (hy : 0 ≤ y) (h1 : 1 ≤ m) (h12 : m ≤ 12) : Calls Tryz.prog 163 #[.int .i64 y, .int .i64 m] w fun e w' => e = .returned (.int .i64 (lenM y m)) ∧ w = w' := by
  have hc := hG.2
  clear hG
  by_cases h2 : m = 2
  · subst h2
    have hk := hc 1 (by omega)
    simp [monthL] at hk
    clear hc
    rcases leap_dec y with hl | hl
    all_goals
      have H := hide (show lenM y 2 = _ by rw [lenM_two, hl])
      go_enter Tryz.func163, Tryz.ntmps163
      go_wp2_with (go_at_call 178; refine (civil_leap_any _ _ hy).mono ?_; rintro e w' ⟨rfl, rfl⟩)
      go_ret
      exact ⟨ret_int (by rw [H.out]; simp), rfl⟩
  · obtain ⟨k, rfl⟩ : ∃ k : Nat, m = (k : Int) + 1 := ⟨(m - 1).toNat, by omega⟩
    have H := hide (lenM_tab y k (by omega) (by omega))
    have hk := hc k (by omega)
    have hz : ((k : Int) + 1 == 2) = false := by simp; omega
    clear hc h2
    generalize monthL.getD k 0 = v at *
    go_enter Tryz.func163, Tryz.ntmps163
    go_wp2
    go_ret
    exact ⟨ret_int (by rw [H.out]), rfl⟩

set_option maxHeartbeats 1000000 in
theorem ref3_length_any (y m : Int) (w : World) (hy : 0 ≤ y) (h1 : 1 ≤ m) (h12 : m ≤ 12) : Calls Tryz.prog 127 #[.int .i64 y, .int .i64 m] w fun e w' => e = .returned (.int .i64 (lenM y m)) ∧ w = w' := by
  rcases (show m = 1 ∨ m = 2 ∨ m = 3 ∨ m = 4 ∨ m = 5 ∨ m = 6 ∨ m = 7 ∨ m = 8 ∨ m = 9 ∨ m = 10 ∨ m = 11 ∨ m = 12 by omega) with rfl | rfl | rfl | rfl | rfl | rfl | rfl | rfl | rfl | rfl | rfl | rfl
  case inr.inl =>
    rcases leap_dec y with hl | hl
    all_goals
      have H := hide (show lenM y 2 = _ by rw [lenM_two, hl])
      go_enter Tryz.func127, Tryz.ntmps127
      go_wp2_with (go_at_call 128; refine (ref3_leap_any _ _ hy).mono ?_; rintro e w' ⟨rfl, rfl⟩)
      go_ret
      exact ⟨ret_int (by rw [H.out]; simp), rfl⟩
  all_goals
    go_enter Tryz.func127, Tryz.ntmps127
    go_wp2
    go_ret
    exact ⟨ret_int rfl, rfl⟩

set_option maxHeartbeats 1000000 in
theorem civil_yearDays_any (y : Int) (w : World) (hy : 0 ≤ y) : Calls Tryz.prog 162 #[.int .i64 y] w fun e w' => e = .returned (.int .i64 (yearD y)) ∧ w = w' := by
  rcases leap_dec y with hl | hl
  all_goals
    have H := hide (show yearD y = _ by unfold yearD; rw [hl])
    go_enter Tryz.func162, Tryz.ntmps162
    go_wp2_with (go_at_call 178; refine (civil_leap_any _ _ hy).mono ?_; rintro e w' ⟨rfl, rfl⟩)
    go_ret
    exact ⟨ret_int (by rw [H.out]; simp), rfl⟩

/-! ### digits -/
def allDig (l : Bytes) : Bool := l.all digB
theorem numS_snoc (l : Bytes) (c : UInt8) : numS (l ++ [c]) = 10 * numS l + ((c.toNat : Int) - 48) := by
  unfold numS; rw [List.foldl_append]; rfl
theorem allDig_get {s : ByteArray} (h : allDig (bs s) = true) (k : Nat) (hk : k < s.size) : (48 : Int) ≤ (s[k].toNat : Int) ∧ (s[k].toNat : Int) ≤ 57 := by
  have : digB s[k] = true := by
    unfold allDig at h
    rw [List.all_eq_true] at h
    exact h _ (List.getElem_mem (l := bs s) (by rw [bs_length]; exact hk))
  unfold digB at this; simp at this; omega
theorem numS_bd : ∀ (l : Bytes), allDig l = true → l.length ≤ 4 → 0 ≤ numS l ∧ numS l ≤ 9999
  | [], _, _ => by simp [numS]
  | [a], h, _ => by simp [allDig, digB] at h; simp [numS]; omega
  | [a, b], h, _ => by simp [allDig, digB] at h; simp [numS]; omega
  | [a, b, c], h, _ => by simp [allDig, digB] at h; simp [numS]; omega
  | [a, b, c, d], h, _ => by simp [allDig, digB] at h; simp [numS]; omega
  | a :: b :: c :: d :: e :: l, _, hl => by simp at hl
theorem numS_bd2 : ∀ (l : Bytes), allDig l = true → l.length ≤ 2 → 0 ≤ numS l ∧ numS l ≤ 99
  | [], _, _ => by simp [numS]
  | [a], h, _ => by simp [allDig, digB] at h; simp [numS]; omega
  | [a, b], h, _ => by simp [allDig, digB] at h; simp [numS]; omega
  | a :: b :: c :: l, _, hl => by simp at hl
theorem allDig_take {l : Bytes} (h : allDig l = true) (k : Nat) : allDig (l.take k) = true := by
  unfold allDig at *; rw [List.all_eq_true] at *; exact fun x hx => h x (List.mem_of_mem_take hx)
theorem take_snoc' (s : ByteArray) (k : Nat) (h : k < s.size) : (bs s).take (k + 1) = (bs s).take k ++ [s[k]] := by
  rw [List.take_succ_eq_append_getElem (by rw [bs_length]; exact h)]; rfl

set_option maxHeartbeats 1000000 in
theorem civil_number_any (s : ByteArray) (w : World) (hs : s.size ≤ 4) (hd : allDig (bs s) = true) : Calls Tryz.prog 138 #[.string s] w fun e w' => e = .returned (.int .i64 (numS (bs s))) ∧ w = w' := by
  have HD := hide hd; clear hd
  go_enter Tryz.func138, Tryz.ntmps138
  go_wp2
  go_loop [3, 7] (fun v i => ∃ k : Nat, k ≤ s.size ∧ i = .int .i64 k ∧ v = .int .i64 (numS ((bs s).take k))) (fun _ i => s.size - (intOf i).toNat)
  case atStart => exact ⟨0, Nat.zero_le _, rfl, by simp [numS]⟩
  case round =>
    obtain ⟨k, hk, rfl, rfl⟩ := hrel
    obtain ⟨v1, v2⟩ := numS_bd _ (allDig_take HD.out k) (by simp; rw [bs_length]; omega)
    by_cases hlt : k < s.size
    · obtain ⟨d1, d2⟩ := allDig_get HD.out k hlt
      have HS := hide (show numS ((bs s).take (k + 1)) = _ from by rw [take_snoc' s k hlt, numS_snoc])
      generalize numS ((bs s).take k) = v at *
      go_wp2
      go_round
      case rel => exact ⟨k + 1, by omega, by go_num, by rw [HS.out]⟩
      case measure => simp [intOf]; omega
    · obtain rfl : k = s.size := by omega
      have HS := hide (show (bs s).take s.size = bs s from List.take_of_length_le (by rw [bs_length]; exact Nat.le_refl _))
      go_wp2
      go_ret
      exact ⟨ret_int (by rw [HS.out]), rfl⟩

/-- The number of some digits, or -1. -/
def digitsS (l : Bytes) : Int := if allDig l = true then numS l else -1
theorem digitsS_stop {s : ByteArray} {k : Nat} (hk : k < s.size) (h : digB s[k] = false) : digitsS (bs s) = -1 := by
  unfold digitsS
  rw [if_neg]
  intro ha
  unfold allDig at ha
  rw [List.all_eq_true] at ha
  have := ha _ (List.getElem_mem (l := bs s) (by rw [bs_length]; exact hk))
  have this : digB s[k] = true := this
  rw [h] at this; cases this

set_option maxHeartbeats 1000000 in
theorem ref3_digits_any (s : ByteArray) (w : World) (hs : s.size ≤ 4) : Calls Tryz.prog 95 #[.string s] w fun e w' => e = .returned (.int .i64 (digitsS (bs s))) ∧ w = w' := by
  go_enter Tryz.func95, Tryz.ntmps95
  go_wp2
  go_loop [3, 4] (fun v i => ∃ k : Nat, k ≤ s.size ∧ i = .int .i64 k ∧ v = .int .i64 (numS ((bs s).take k)) ∧ allDig ((bs s).take k) = true) (fun _ i => s.size - (intOf i).toNat)
  case atStart => exact ⟨0, Nat.zero_le _, rfl, by simp [numS], by simp [allDig]⟩
  case round =>
    obtain ⟨k, hk, rfl, rfl, ha⟩ := hrel
    obtain ⟨v1, v2⟩ := numS_bd _ ha (by simp; rw [bs_length]; omega)
    have HA := hide ha; clear ha
    by_cases hlt : k < s.size
    · by_cases hc : digB s[k] = true
      · have d : (48 : Int) ≤ (s[k].toNat : Int) ∧ (s[k].toNat : Int) ≤ 57 := by unfold digB at hc; simp at hc; omega
        obtain ⟨d1, d2⟩ := d
        have HS := hide (show numS ((bs s).take (k + 1)) = _ from by rw [take_snoc' s k hlt, numS_snoc])
        have HA' := hide (show allDig ((bs s).take (k + 1)) = true from by rw [take_snoc' s k hlt]; unfold allDig at *; simp [HA.out, hc])
        clear hc
        generalize numS ((bs s).take k) = v at *
        go_wp2
        go_round
        case rel => exact ⟨k + 1, by omega, by go_num, by rw [HS.out]; congr 1; omega, HA'.out⟩
        case measure => simp [intOf]; omega
      · have hc' : digB s[k] = false := by simpa using hc
        have HS := hide (digitsS_stop hlt hc')
        have d : (s[k].toNat : Int) < 48 ∨ (¬ (s[k].toNat : Int) < 48 ∧ 57 < (s[k].toNat : Int)) := by unfold digB at hc'; simp at hc'; omega
        clear hc hc'
        rcases d with d | ⟨d1, d2⟩
        all_goals
          go_wp2
          go_ret
          exact ⟨ret_int (by rw [HS.out]), rfl⟩
    · obtain rfl : k = s.size := by omega
      have HS := hide (show (bs s).take s.size = bs s from List.take_of_length_le (by rw [bs_length]; exact Nat.le_refl _))
      go_wp2
      go_ret
      refine ⟨ret_int ?_, rfl⟩
      have h1 := HA.out
      rw [HS.out] at h1
      rw [HS.out, digitsS, if_pos h1]

end Go.Proofs.YtlfedcbihbigoaaGreatDoor

namespace Go.Proofs.YtlfedcbihbigoaaGreatDoor
open Go.RowKit

theorem sumY_bd : ∀ k : Nat, 365 * (k : Int) ≤ sumY k ∧ sumY k ≤ 366 * (k : Int)
  | 0 => by simp [sumY]
  | k + 1 => by
    have := sumY_bd k
    have := yearD_bd (1970 + k)
    simp only [sumY]; omega
theorem sumM_bd (y : Int) : ∀ k : Nat, 0 ≤ sumM y k ∧ sumM y k ≤ 31 * (k : Int)
  | 0 => by simp [sumM]
  | k + 1 => by
    have := sumM_bd y k
    have := lenM_bd y (1 + k)
    simp only [sumM]; omega
def DaysRes (r : Option Int) (e : Ending) : Prop :=
  match r with
  | some n => e = .returned (.tuple #[.int .i64 n, .bool true])
  | none => e = .returned (.tuple #[.int .i64 0, .bool false])
theorem DaysRes_no {r : Option Int} (h : r = none) : DaysRes r (.returned (.tuple #[.int .i64 0, .bool false])) := by subst h; rfl
theorem DaysRes_yes {r : Option Int} {n : Int} (h : r = some n) : DaysRes r (.returned (.tuple #[.int .i64 n, .bool true])) := by subst h; rfl
/-- The ways in which a date is none, the greatest year being Y. -/
theorem dateB_no {y m d : Int} (Y : Int) (hY : Y = 3065 ∨ Y = 3066) (h : dateB y m d = false) : y < 1970 ∨ (¬ y < 1970 ∧ Y < y) ∨ (¬ y < 1970 ∧ ¬ Y < y ∧ m < 1) ∨ (¬ y < 1970 ∧ ¬ Y < y ∧ ¬ m < 1 ∧ 12 < m) ∨
    (¬ y < 1970 ∧ ¬ Y < y ∧ ¬ m < 1 ∧ ¬ 12 < m ∧ d < 1) ∨ (¬ y < 1970 ∧ ¬ Y < y ∧ ¬ m < 1 ∧ ¬ 12 < m ∧ ¬ d < 1 ∧ lenM y m < d) ∨ (y = 3066 ∧ Y = 3066 ∧ 1 ≤ m ∧ m ≤ 12 ∧ 1 ≤ d ∧ d ≤ lenM y m) := by
  unfold dateB at h; simp at h
  by_cases h1 : y < 1970
  · exact .inl h1
  by_cases h2 : Y < y
  · exact .inr (.inl ⟨h1, h2⟩)
  by_cases h3 : m < 1
  · exact .inr (.inr (.inl ⟨h1, h2, h3⟩))
  by_cases h4 : 12 < m
  · exact .inr (.inr (.inr (.inl ⟨h1, h2, h3, h4⟩)))
  by_cases h5 : d < 1
  · exact .inr (.inr (.inr (.inr (.inl ⟨h1, h2, h3, h4, h5⟩))))
  by_cases h6 : lenM y m < d
  · exact .inr (.inr (.inr (.inr (.inr (.inl ⟨h1, h2, h3, h4, h5, h6⟩)))))
  · refine .inr (.inr (.inr (.inr (.inr (.inr ⟨?_, ?_, by omega, by omega, by omega, by omega⟩)))))
    · rcases hY with rfl | rfl
      · have := h (by omega) (by omega) (by omega) (by omega) (by omega); omega
      · by_cases e : y = 3066
        · exact e
        · have := h (by omega) (by omega) (by omega) (by omega) (by omega); omega
    · rcases hY with rfl | rfl
      · have := h (by omega) (by omega) (by omega) (by omega) (by omega); omega
      · rfl

set_option maxRecDepth 100000 in
set_option maxHeartbeats 4000000 in
theorem civil_Days_any (y m d : Int) (w : World) (hG : LenVar w 3) (hy0 : -100000 ≤ y) (hy1 : y ≤ 100000) (hm0 : -100000 ≤ m) (hm1 : m ≤ 100000) (hd0 : -100000 ≤ d) (hd1 : d ≤ 100000) :
    Calls Tryz.prog 139 #[.int .i64 y, .int .i64 m, .int .i64 d] w fun e w' => DaysRes (daysS y m d) e ∧ w = w' := by
  have HG := hide hG; clear hG
  cases hb : dateB y m d
  · have H := hide (show daysS y m d = none by unfold daysS; rw [hb]; rfl)
    have hn := dateB_no 3065 (.inl rfl) hb
    clear hb
    rcases hn with h1 | ⟨h1, h2⟩ | ⟨h1, h2, h3⟩ | ⟨h1, h2, h3, h4⟩ | ⟨h1, h2, h3, h4, h5⟩ | ⟨h1, h2, h3, h4, h5, h6⟩ | ⟨_, h, _⟩
    case inr.inr.inr.inr.inr.inr => omega
    all_goals
      go_enter Tryz.func139, Tryz.ntmps139
      go_wp2_with (go_at_call 163; refine (civil_length_any _ _ _ HG.out (by omega) (by omega) (by omega)).mono ?_; rintro e w' ⟨rfl, rfl⟩)
      go_ret2
      exact ⟨DaysRes_no H.out, rfl⟩
  · have hb' := hb
    unfold dateB at hb'; simp at hb'
    obtain ⟨⟨⟨⟨⟨h1, h2⟩, h3⟩, h4⟩, h5⟩, h6⟩ := hb'
    have hbd := lenM_bd y m
    have hr : daysS y m d = if 400000 < dayN y m d then none else some (dayN y m d) := by unfold daysS; rw [if_pos hb]
    have HR := hide hr; clear hr hb
    go_enter Tryz.func139, Tryz.ntmps139
    go_wp2_with (go_at_call 163; refine (civil_length_any _ _ _ HG.out (by omega) (by omega) (by omega)).mono ?_; rintro e w' ⟨rfl, rfl⟩)
    go_loop [8, 9] (fun n i => ∃ k : Nat, (k : Int) ≤ y - 1970 ∧ i = .int .i64 (1970 + k) ∧ n = .int .i64 (d - 1 + sumY k)) (fun _ i => (y - intOf i).toNat)
    case atStart => exact ⟨0, by omega, rfl, by simp [sumY]⟩
    case round =>
      obtain ⟨k, hk, rfl, rfl⟩ := hrel
      have hs := sumY_bd k
      have hyd := yearD_bd (1970 + k)
      by_cases hlt : (1970 : Int) + k < y
      · have HS := hide (show sumY (k + 1) = sumY k + yearD (1970 + k) from rfl)
        generalize sumY k = v at *
        go_wp2_with (go_at_call 162; refine (civil_yearDays_any _ _ (by omega)).mono ?_; rintro e w' ⟨rfl, rfl⟩)
        go_round
        case rel => exact ⟨k + 1, by omega, by go_num, by rw [HS.out]; congr 1; omega⟩
        case measure => simp [intOf]; omega
      · have hk' : k = (y - 1970).toNat := by omega
        have HK := hide hk'; clear hk'
        generalize hv : sumY k = v at *
        have HV := hide hv; clear hv
        go_wp2
        go_loop [8, 10] (fun n i => ∃ j : Nat, (j : Int) ≤ m - 1 ∧ i = .int .i64 (1 + j) ∧ n = .int .i64 (d - 1 + v + sumM y j)) (fun _ i => (m - intOf i).toNat)
        case atStart => exact ⟨0, by omega, rfl, by simp [sumM]⟩
        case round =>
          obtain ⟨j, hj, rfl, rfl⟩ := hrel
          have hs2 := sumM_bd y j
          have hld := lenM_bd y (1 + j)
          by_cases hlt2 : (1 : Int) + j < m
          · have HS := hide (show sumM y (j + 1) = sumM y j + lenM y (1 + j) from rfl)
            generalize sumM y j = u at *
            go_wp2_with (go_at_call 163; refine (civil_length_any _ _ _ HG.out (by omega) (by omega) (by omega)).mono ?_; rintro e w' ⟨rfl, rfl⟩)
            go_round
            case rel => exact ⟨j + 1, by omega, by go_num, by rw [HS.out]; congr 1; omega⟩
            case measure => simp [intOf]; omega
          · have hj' : j = (m - 1).toNat := by omega
            have HN := hide (show dayN y m d = d - 1 + v + sumM y j by unfold dayN; rw [← HK.out, HV.out, ← hj'])
            clear hj'
            generalize sumM y j = u at *
            by_cases hbig : 400000 < d - 1 + v + u
            · have H := hide (show daysS y m d = none by rw [HR.out, HN.out, if_pos hbig])
              go_wp2
              go_ret2
              exact ⟨DaysRes_no H.out, rfl⟩
            · have H := hide (show daysS y m d = some (d - 1 + v + u) by rw [HR.out, HN.out, if_neg hbig])
              go_wp2
              go_ret2
              exact ⟨DaysRes_yes H.out, rfl⟩

end Go.Proofs.YtlfedcbihbigoaaGreatDoor

namespace Go.Proofs.YtlfedcbihbigoaaGreatDoor
open Go.RowKit

set_option maxRecDepth 100000 in
set_option maxHeartbeats 4000000 in
theorem ref3_Days_any (y m d : Int) (w : World) (hy0 : -100000 ≤ y) (hy1 : y ≤ 100000) (hm0 : -100000 ≤ m) (hm1 : m ≤ 100000) (hd0 : -100000 ≤ d) (hd1 : d ≤ 100000) :
    Calls Tryz.prog 96 #[.int .i64 y, .int .i64 m, .int .i64 d] w fun e w' => DaysRes (daysS y m d) e ∧ w = w' := by
  cases hb : dateB y m d
  · have H := hide (show daysS y m d = none by unfold daysS; rw [hb]; rfl)
    have hn := dateB_no 3066 (.inr rfl) hb
    clear hb
    rcases hn with h1 | ⟨h1, h2⟩ | ⟨h1, h2, h3⟩ | ⟨h1, h2, h3, h4⟩ | ⟨h1, h2, h3, h4, h5⟩ | ⟨h1, h2, h3, h4, h5, h6⟩ | ⟨rfl, _, h1, h2, h3, h4⟩
    case inr.inr.inr.inr.inr.inr =>
      have hbd := lenM_bd 3066 m
      go_enter Tryz.func96, Tryz.ntmps96
      go_wp2_with (go_at_call 127; refine (ref3_length_any _ _ _ (by omega) (by omega) (by omega)).mono ?_; rintro e w' ⟨rfl, rfl⟩)
      go_loop [8, 9] (fun n i => ∃ k : Nat, (k : Int) ≤ 3066 - 1970 ∧ i = .int .i64 (1970 + k) ∧ n = .int .i64 (d - 1 + sumY k)) (fun _ i => (3066 - intOf i).toNat)
      case atStart => exact ⟨0, by omega, rfl, by simp [sumY]⟩
      case round =>
        obtain ⟨k, hk, rfl, rfl⟩ := hrel
        have hs := sumY_bd k
        have hyd := yearD_bd (1970 + k)
        by_cases hlt : (1970 : Int) + k < 3066
        · rcases leap_dec (1970 + k) with hl | hl
          all_goals
            have HS := hide (show sumY (k + 1) = sumY k + _ from by simp only [sumY, yearD]; rw [hl])
            generalize sumY k = v at *
            go_wp2_with (go_at_call 128; refine (ref3_leap_any _ _ (by omega)).mono ?_; rintro e w' ⟨rfl, rfl⟩)
            go_round
            case rel => exact ⟨k + 1, by omega, by go_num, by rw [HS.out]; simp; omega⟩
            case measure => simp [intOf]; omega
        · have hk' : k = (3066 - 1970 : Int).toNat := by omega
          have hv1096 : 400040 ≤ sumY k := by omega
          clear hk'
          generalize sumY k = v at *
          go_wp2
          go_loop [8, 10] (fun n i => ∃ j : Nat, (j : Int) ≤ m - 1 ∧ i = .int .i64 (1 + j) ∧ n = .int .i64 (d - 1 + v + sumM 3066 j)) (fun _ i => (m - intOf i).toNat)
          case atStart => exact ⟨0, by omega, rfl, by simp [sumM]⟩
          case round =>
            obtain ⟨j, hj, rfl, rfl⟩ := hrel
            have hs2 := sumM_bd 3066 j
            have hld := lenM_bd 3066 (1 + j)
            by_cases hlt2 : (1 : Int) + j < m
            · have HS := hide (show sumM 3066 (j + 1) = sumM 3066 j + lenM 3066 (1 + j) from rfl)
              generalize sumM 3066 j = u at *
              go_wp2_with (go_at_call 127; refine (ref3_length_any _ _ _ (by omega) (by omega) (by omega)).mono ?_; rintro e w' ⟨rfl, rfl⟩)
              go_round
              case rel => exact ⟨j + 1, by omega, by go_num, by rw [HS.out]; congr 1; omega⟩
              case measure => simp [intOf]; omega
            · generalize sumM 3066 j = u at *
              have hbig : 400000 < d - 1 + v + u := by omega
              go_wp2
              go_ret2
              exact ⟨DaysRes_no H.out, rfl⟩
    all_goals
      go_enter Tryz.func96, Tryz.ntmps96
      go_wp2_with (go_at_call 127; refine (ref3_length_any _ _ _ (by omega) (by omega) (by omega)).mono ?_; rintro e w' ⟨rfl, rfl⟩)
      go_ret2
      exact ⟨DaysRes_no H.out, rfl⟩
  · have hb' := hb
    unfold dateB at hb'; simp at hb'
    obtain ⟨⟨⟨⟨⟨h1, h2⟩, h3⟩, h4⟩, h5⟩, h6⟩ := hb'
    have hbd := lenM_bd y m
    have hr : daysS y m d = if 400000 < dayN y m d then none else some (dayN y m d) := by unfold daysS; rw [if_pos hb]
    have HR := hide hr; clear hr hb
    go_enter Tryz.func96, Tryz.ntmps96
    go_wp2_with (go_at_call 127; refine (ref3_length_any _ _ _ (by omega) (by omega) (by omega)).mono ?_; rintro e w' ⟨rfl, rfl⟩)
    go_loop [8, 9] (fun n i => ∃ k : Nat, (k : Int) ≤ y - 1970 ∧ i = .int .i64 (1970 + k) ∧ n = .int .i64 (d - 1 + sumY k)) (fun _ i => (y - intOf i).toNat)
    case atStart => exact ⟨0, by omega, rfl, by simp [sumY]⟩
    case round =>
      obtain ⟨k, hk, rfl, rfl⟩ := hrel
      have hs := sumY_bd k
      have hyd := yearD_bd (1970 + k)
      by_cases hlt : (1970 : Int) + k < y
      · rcases leap_dec (1970 + k) with hl | hl
        all_goals
          have HS := hide (show sumY (k + 1) = sumY k + _ from by simp only [sumY, yearD]; rw [hl])
          generalize sumY k = v at *
          go_wp2_with (go_at_call 128; refine (ref3_leap_any _ _ (by omega)).mono ?_; rintro e w' ⟨rfl, rfl⟩)
          go_round
          case rel => exact ⟨k + 1, by omega, by go_num, by rw [HS.out]; simp; omega⟩
          case measure => simp [intOf]; omega
      · have hk' : k = (y - 1970).toNat := by omega
        have HK := hide hk'; clear hk'
        generalize hv : sumY k = v at *
        have HV := hide hv; clear hv
        go_wp2
        go_loop [8, 10] (fun n i => ∃ j : Nat, (j : Int) ≤ m - 1 ∧ i = .int .i64 (1 + j) ∧ n = .int .i64 (d - 1 + v + sumM y j)) (fun _ i => (m - intOf i).toNat)
        case atStart => exact ⟨0, by omega, rfl, by simp [sumM]⟩
        case round =>
          obtain ⟨j, hj, rfl, rfl⟩ := hrel
          have hs2 := sumM_bd y j
          have hld := lenM_bd y (1 + j)
          by_cases hlt2 : (1 : Int) + j < m
          · have HS := hide (show sumM y (j + 1) = sumM y j + lenM y (1 + j) from rfl)
            generalize sumM y j = u at *
            go_wp2_with (go_at_call 127; refine (ref3_length_any _ _ _ (by omega) (by omega) (by omega)).mono ?_; rintro e w' ⟨rfl, rfl⟩)
            go_round
            case rel => exact ⟨j + 1, by omega, by go_num, by rw [HS.out]; congr 1; omega⟩
            case measure => simp [intOf]; omega
          · have hj' : j = (m - 1).toNat := by omega
            have HN := hide (show dayN y m d = d - 1 + v + sumM y j by unfold dayN; rw [← HK.out, HV.out, ← hj'])
            clear hj'
            generalize sumM y j = u at *
            by_cases hbig : 400000 < d - 1 + v + u
            · have H := hide (show daysS y m d = none by rw [HR.out, HN.out, if_pos hbig])
              go_wp2
              go_ret2
              exact ⟨DaysRes_no H.out, rfl⟩
            · have H := hide (show daysS y m d = some (d - 1 + v + u) by rw [HR.out, HN.out, if_neg hbig])
              go_wp2
              go_ret2
              exact ⟨DaysRes_yes H.out, rfl⟩

end Go.Proofs.YtlfedcbihbigoaaGreatDoor

namespace Go.Proofs.YtlfedcbihbigoaaGreatDoor
open Go.RowKit

def TimeRes (r : Except Int Int) (e : Ending) : Prop :=
  match r with
  | .ok n => e = .returned (.tuple #[.int .i64 n, .int .i64 0])
  | .error c => c ≠ 0 ∧ ∃ n : Int, e = .returned (.tuple #[.int .i64 n, .int .i64 c])
theorem TimeRes_err {r : Except Int Int} {c : Int} (h : r = .error c) (hc : c ≠ 0) (n : Int) : TimeRes r (.returned (.tuple #[.int .i64 n, .int .i64 c])) := by subst h; exact ⟨hc, n, rfl⟩
theorem TimeRes_ok {r : Except Int Int} {n m : Int} (h : r = .ok n) (hm : m = n) : TimeRes r (.returned (.tuple #[.int .i64 m, .int .i64 0])) := by subst h hm; rfl

def fit1 (f c : UInt8) : Bool := if f.toNat = 48 then digB c else c.toNat == f.toNat
theorem fitB_iff : ∀ fs l : Bytes, fitB fs l = true ↔ l.length = fs.length ∧ ∀ j, j < fs.length → fit1 (fs.getD j 0) (l.getD j 0) = true
  | [], [] => by simp [fitB]
  | [], c :: l => by simp [fitB]
  | f :: fs, [] => by simp [fitB]
  | f :: fs, c :: l => by
    have ih := fitB_iff fs l
    simp only [fitB, Bool.and_eq_true, List.length_cons]
    constructor
    · rintro ⟨h1, h2⟩
      obtain ⟨i1, i2⟩ := ih.1 h2
      refine ⟨by omega, fun j hj => ?_⟩
      match j with
      | 0 => exact h1
      | j + 1 => simpa using i2 j (by omega)
    · rintro ⟨h1, h2⟩
      refine ⟨h2 0 (by omega), ih.2 ⟨by omega, fun j hj => ?_⟩⟩
      simpa using h2 (j + 1) (by omega)
theorem fit_dig {s : ByteArray} (h : fitB timeForm (bs s) = true) : s.size = 16 ∧ ∀ j (hj : j < s.size), fit1 (timeForm.getD j 0) s[j] = true := by
  obtain ⟨h1, h2⟩ := (fitB_iff _ _).1 h
  have h16 : s.size = 16 := h1
  refine ⟨h16, fun j hj => ?_⟩
  have := h2 j (by rw [← h1]; exact hj)
  rw [List.getD, List.getD, List.getElem?_eq_getElem (show j < (bs s).length from hj)] at this
  exact this
theorem dig_piece {s : ByteArray} (a n : Nat) (h : fitB timeForm (bs s) = true) (hn : a + n ≤ 16) (hf : ∀ j, j < n → (timeForm.getD (a + j) 0).toNat = 48) : allDig (bs (s.extract a (a + n))) = true := by
  obtain ⟨h16, hd⟩ := fit_dig h
  unfold allDig
  rw [List.all_eq_true]
  intro x hx
  rw [bs_extract] at hx
  obtain ⟨i, hi, hxi⟩ := List.mem_iff_getElem.1 hx
  simp only [List.length_drop, List.length_take, bs_length] at hi
  have := hd (a + i) (by omega)
  rw [List.getElem_drop, List.getElem_take] at hxi
  have e : s[a + i]'(by omega) = x := hxi
  rw [e] at this
  unfold fit1 at this
  rw [if_pos (hf i (by omega))] at this
  exact this

theorem pieces {s : ByteArray} (h : fitB timeForm (bs s) = true) : allDig (bs (s.extract 0 4)) = true ∧ allDig (bs (s.extract 5 7)) = true ∧ allDig (bs (s.extract 8 10)) = true ∧ allDig (bs (s.extract 11 13)) = true ∧ allDig (bs (s.extract 14 16)) = true :=
  ⟨dig_piece 0 4 h (by omega) (by decide), dig_piece 5 2 h (by omega) (by decide), dig_piece 8 2 h (by omega) (by decide), dig_piece 11 2 h (by omega) (by decide), dig_piece 14 2 h (by omega) (by decide)⟩

/-- 'timeS' over the pieces as the text cuts them. -/
theorem timeS_eq (s : ByteArray) : timeS (bs s) = if fitB timeForm (bs s) = false then .error 3
  else match daysS (numS (bs (s.extract 0 4))) (numS (bs (s.extract 5 7))) (numS (bs (s.extract 8 10))) with
    | none => .error 1
    | some n =>
      if 23 < numS (bs (s.extract 11 13)) ∨ 59 < numS (bs (s.extract 14 16)) ∨ 575999999 < n * 1440 + numS (bs (s.extract 11 13)) * 60 + numS (bs (s.extract 14 16)) then .error 1
      else .ok (n * 1440 + numS (bs (s.extract 11 13)) * 60 + numS (bs (s.extract 14 16))) := by
  unfold timeS
  simp only [bs_extract, List.drop_zero]
  rfl
theorem dayN_bd {y m d n : Int} (h : daysS y m d = some n) : 0 ≤ n ∧ n ≤ 400000 := by
  unfold daysS at h
  split at h
  · rename_i hb
    split at h
    · cases h
    · injection h with h
      subst h
      unfold dateB at hb; simp at hb
      have := sumY_bd (y - 1970).toNat
      have := sumM_bd y (m - 1).toNat
      unfold dayN at *
      omega
  · cases h

end Go.Proofs.YtlfedcbihbigoaaGreatDoor
