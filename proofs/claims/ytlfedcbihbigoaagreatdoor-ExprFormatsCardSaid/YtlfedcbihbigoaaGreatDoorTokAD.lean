/- Contracts of the byte classes and of the run of word bytes. Contracts of the readers of one token: names, integers, literals. Contracts of the readers of one token: integers. Contract of the reader of a text literal. -/
import Derived.Test.YtlfedcbihbigoaaGreatDoorProg
import Derived.Test.YtlfedcbihbigoaaGreatDoorBase0
import Derived.WalkLawsBesides
import Derived.Deep.QuietTactic
import Derived.BigQuiet
set_option linter.unusedVariables false
set_option linter.unusedSimpArgs false
namespace Go.Proofs.YtlfedcbihbigoaaGreatDoor
open Go.RowKit

set_option maxHeartbeats 400000 in
theorem token_letter_any (c : UInt8) (w : World) : Calls Tryz.prog 109 #[.int .u8 (c.toNat : Int)] w fun e w' => e = .returned (.bool (letB c)) ∧ w = w' := by
  unfold letB
  have hc : (c.toNat : Int) < 256 := by have := c.toNat_lt; omega
  by_cases h1 : 97 ≤ c.toNat
  · have a1 : (97 : Int) ≤ (c.toNat : Int) := by omega
    go_enter Tryz.func109, Tryz.ntmps109
    go_wp2
    all_goals (go_ret; refine ⟨ret_bool ?_, rfl⟩; first | rfl | (rw [Bool.eq_iff_iff]; simp; omega))
  · have a1 : ¬ (97 : Int) ≤ (c.toNat : Int) := by omega
    go_enter Tryz.func109, Tryz.ntmps109
    go_wp2
    all_goals (go_ret; refine ⟨ret_bool ?_, rfl⟩; first | rfl | (rw [Bool.eq_iff_iff]; simp; omega))

set_option maxHeartbeats 400000 in
theorem token_digit_any (c : UInt8) (w : World) : Calls Tryz.prog 111 #[.int .u8 (c.toNat : Int)] w fun e w' => e = .returned (.bool (digB c)) ∧ w = w' := by
  unfold digB
  have hc : (c.toNat : Int) < 256 := by have := c.toNat_lt; omega
  by_cases h1 : 48 ≤ c.toNat
  · have a1 : (48 : Int) ≤ (c.toNat : Int) := by omega
    go_enter Tryz.func111, Tryz.ntmps111
    go_wp2
    all_goals (go_ret; refine ⟨ret_bool ?_, rfl⟩; first | rfl | (rw [Bool.eq_iff_iff]; simp; omega))
  · have a1 : ¬ (48 : Int) ≤ (c.toNat : Int) := by omega
    go_enter Tryz.func111, Tryz.ntmps111
    go_wp2
    all_goals (go_ret; refine ⟨ret_bool ?_, rfl⟩; first | rfl | (rw [Bool.eq_iff_iff]; simp; omega))

set_option maxHeartbeats 400000 in
theorem ref7_letter_any (c : UInt8) (w : World) : Calls Tryz.prog 58 #[.int .u8 (c.toNat : Int)] w fun e w' => e = .returned (.bool (letB c)) ∧ w = w' := by
  unfold letB
  have hc : (c.toNat : Int) < 256 := by have := c.toNat_lt; omega
  by_cases h1 : 97 ≤ c.toNat
  · have a1 : (97 : Int) ≤ (c.toNat : Int) := by omega
    go_enter Tryz.func58, Tryz.ntmps58
    go_wp2
    all_goals (go_ret; refine ⟨ret_bool ?_, rfl⟩; first | rfl | (rw [Bool.eq_iff_iff]; simp; omega))
  · have a1 : ¬ (97 : Int) ≤ (c.toNat : Int) := by omega
    go_enter Tryz.func58, Tryz.ntmps58
    go_wp2
    all_goals (go_ret; refine ⟨ret_bool ?_, rfl⟩; first | rfl | (rw [Bool.eq_iff_iff]; simp; omega))

set_option maxHeartbeats 400000 in
theorem ref7_digit_any (c : UInt8) (w : World) : Calls Tryz.prog 60 #[.int .u8 (c.toNat : Int)] w fun e w' => e = .returned (.bool (digB c)) ∧ w = w' := by
  unfold digB
  have hc : (c.toNat : Int) < 256 := by have := c.toNat_lt; omega
  by_cases h1 : 48 ≤ c.toNat
  · have a1 : (48 : Int) ≤ (c.toNat : Int) := by omega
    go_enter Tryz.func60, Tryz.ntmps60
    go_wp2
    all_goals (go_ret; refine ⟨ret_bool ?_, rfl⟩; first | rfl | (rw [Bool.eq_iff_iff]; simp; omega))
  · have a1 : ¬ (48 : Int) ≤ (c.toNat : Int) := by omega
    go_enter Tryz.func60, Tryz.ntmps60
    go_wp2
    all_goals (go_ret; refine ⟨ret_bool ?_, rfl⟩; first | rfl | (rw [Bool.eq_iff_iff]; simp; omega))

set_option maxHeartbeats 1000000 in
theorem token_part_any (s : ByteArray) (w : World) (hs : s.size ≤ maxLen) :
    Calls Tryz.prog 137 #[.string s] w fun e w' => e = .returned (.int .i64 (partL (bs s))) ∧ w = w' := by
  unfold maxLen at hs
  have hp := partL_le (bs s)
  rw [bs_length] at hp
  go_enter Tryz.func137, Tryz.ntmps137
  go_wp2
  go_loop [3] (fun n => ∃ k : Nat, k ≤ partL (bs s) ∧ n = .int .i64 k) (fun n => partL (bs s) - (intOf n).toNat)
  case atStart => exact ⟨0, Nat.zero_le _, rfl⟩
  case round =>
    obtain ⟨k, hk, rfl⟩ := hrel
    by_cases hlt : k < partL (bs s)
    · obtain ⟨h1, h2⟩ := partL_lt (bs s) k hlt
      have h1' : k < s.size := h1
      have h2' : wordB s[k] = true := h2
      rcases wordB_cases h2' with c1 | ⟨c1, c2⟩ | ⟨c1, c2, c3⟩
      all_goals
        clear h2 h2'
        go_wp2_with (first
          | (go_at_call 109; refine (token_letter_any _ _).mono ?_; rintro e w' ⟨rfl, rfl⟩)
          | (go_at_call 111; refine (token_digit_any _ _).mono ?_; rintro e w' ⟨rfl, rfl⟩))
        go_round
        case rel => exact ⟨k + 1, by omega, by go_num⟩
        case measure => simp [intOf]; omega
    · obtain rfl : k = partL (bs s) := by omega
      by_cases h1 : partL (bs s) < s.size
      · have h2 : wordB s[partL (bs s)] = false := partL_stop (bs s) h1
        obtain ⟨c1, c2, c3⟩ := wordB_no h2
        clear h2
        go_wp2_with (first
          | (go_at_call 109; refine (token_letter_any _ _).mono ?_; rintro e w' ⟨rfl, rfl⟩)
          | (go_at_call 111; refine (token_digit_any _ _).mono ?_; rintro e w' ⟨rfl, rfl⟩))
        go_ret
        exact ⟨rfl, rfl⟩
      · go_wp2
        go_ret
        exact ⟨rfl, rfl⟩
set_option maxHeartbeats 1000000 in
theorem ref7_run_any (s : ByteArray) (w : World) (hs : s.size ≤ maxLen) :
    Calls Tryz.prog 94 #[.string s] w fun e w' => e = .returned (.int .i64 (partL (bs s))) ∧ w = w' := by
  unfold maxLen at hs
  have hp := partL_le (bs s)
  rw [bs_length] at hp
  go_enter Tryz.func94, Tryz.ntmps94
  go_wp2
  go_loop [3] (fun n => ∃ k : Nat, k ≤ partL (bs s) ∧ n = .int .i64 k) (fun n => partL (bs s) - (intOf n).toNat)
  case atStart => exact ⟨0, Nat.zero_le _, rfl⟩
  case round =>
    obtain ⟨k, hk, rfl⟩ := hrel
    by_cases hlt : k < partL (bs s)
    · obtain ⟨h1, h2⟩ := partL_lt (bs s) k hlt
      have h1' : k < s.size := h1
      have h2' : wordB s[k] = true := h2
      rcases wordB_cases h2' with c1 | ⟨c1, c2⟩ | ⟨c1, c2, c3⟩
      all_goals
        clear h2 h2'
        go_wp2_with (first
          | (go_at_call 58; refine (ref7_letter_any _ _).mono ?_; rintro e w' ⟨rfl, rfl⟩)
          | (go_at_call 60; refine (ref7_digit_any _ _).mono ?_; rintro e w' ⟨rfl, rfl⟩))
        go_round
        case rel => exact ⟨k + 1, by omega, by go_num⟩
        case measure => simp [intOf]; omega
    · obtain rfl : k = partL (bs s) := by omega
      by_cases h1 : partL (bs s) < s.size
      · have h2 : wordB s[partL (bs s)] = false := partL_stop (bs s) h1
        obtain ⟨c1, c2, c3⟩ := wordB_no h2
        clear h2
        go_wp2_with (first
          | (go_at_call 58; refine (ref7_letter_any _ _).mono ?_; rintro e w' ⟨rfl, rfl⟩)
          | (go_at_call 60; refine (ref7_digit_any _ _).mono ?_; rintro e w' ⟨rfl, rfl⟩))
        go_ret
        exact ⟨rfl, rfl⟩
      · go_wp2
        go_ret
        exact ⟨rfl, rfl⟩

end Go.Proofs.YtlfedcbihbigoaaGreatDoor

namespace Go.Proofs.YtlfedcbihbigoaaGreatDoor
open Go.RowKit

def OneRes (r : Except Int (Tok × Nat)) (e : Ending) : Prop :=
  match r with
  | .ok x => e = .returned (.tuple #[x.1.agg, .int .i64 (x.2 : Nat), .int .i64 0])
  | .error c => c ≠ 0 ∧ ∃ (t : Tok) (n : Int), e = .returned (.tuple #[t.agg, .int .i64 n, .int .i64 c])
theorem OneRes_err {r : Except Int (Tok × Nat)} {c : Int} (h : r = .error c) (hc : c ≠ 0) (k n o m : Int) (t : Bytes) : OneRes r (.returned (.tuple #[.agg #[.int .i64 k, str t, .int .i64 n, .int .i64 o], .int .i64 m, .int .i64 c])) := by
  subst h; exact ⟨hc, ⟨k, t, n, o⟩, m, rfl⟩
theorem OneRes_ok {r : Except Int (Tok × Nat)} {t : Tok} {n : Nat} (h : r = .ok (t, n)) {v : Value} {m : Int} (hv : v = t.agg) (hm : m = n) : OneRes r (.returned (.tuple #[v, .int .i64 m, .int .i64 0])) := by
  subst h hv hm; rfl

theorem bs_from (s : ByteArray) (a : Nat) : bs (s.extract a s.size) = (bs s).drop a := by
  rw [bs_extract, List.take_of_length_le (by rw [bs_length]; exact Nat.le_refl _)]

theorem dotB_yes {s : ByteArray} {p : Nat} (h : dotB (bs s) p = true) : ∃ h1 : p + 1 < s.size, ((s[p].toNat : Int) == 46) = true ∧ letB s[p+1] = true := by
  unfold dotB at h
  by_cases h1 : p + 1 < (bs s).length
  · rw [dif_pos h1] at h
    simp only [Bool.and_eq_true, beq_iff_eq] at h
    have hp : p < s.size := Nat.lt_of_succ_lt h1
    refine ⟨h1, ?_, h.2⟩
    have : s[p].toNat = 46 := h.1
    simp [this]
  · rw [dif_neg h1] at h; cases h
theorem dotB_no {s : ByteArray} {p : Nat} (h : dotB (bs s) p = false) : ¬ p + 1 < s.size ∨ ∃ h1 : p + 1 < s.size, ((s[p].toNat : Int) == 46) = false ∨ (((s[p].toNat : Int) == 46) = true ∧ letB s[p+1] = false) := by
  unfold dotB at h
  by_cases h1 : p + 1 < (bs s).length
  · rw [dif_pos h1] at h
    have hp : p < s.size := Nat.lt_of_succ_lt h1
    refine .inr ⟨h1, ?_⟩
    have h : ((s[p].toNat == 46) && letB s[p+1]) = false := h
    cases h2 : letB s[p+1]
    · rw [h2] at h
      by_cases h3 : s[p].toNat = 46
      · exact .inr ⟨by simp [h3], rfl⟩
      · exact .inl (by simp; omega)
    · rw [h2] at h
      left; simp at h ⊢; omega
  · exact .inl h1

set_option maxHeartbeats 1000000 in
theorem token_name_any (s : ByteArray) (w : World) (hs : s.size ≤ maxLen) :
    Calls Tryz.prog 110 #[.string s] w fun e w' => OneRes (nameS (bs s)) e ∧ Below w.heap.size w w' := by
  have hs' := hs
  unfold maxLen at hs
  have hp := partL_le (bs s)
  rw [bs_length] at hp
  by_cases h1 : 24 < partL (bs s)
  · have hr : nameS (bs s) = .error 4 := by rw [nameS, if_pos h1]
    have H := hide hr; clear hr
    go_enter Tryz.func110, Tryz.ntmps110
    go_wp2_with (go_at_call 137; refine (token_part_any _ _ hs').mono ?_; rintro e w' ⟨rfl, rfl⟩)
    refine bodyPost_ret (v := .tuple #[.agg #[.int .i64 0, str [], .int .i64 0, .int .i64 0], .int .i64 0, .int .i64 4]) (by simp [results, Tryz.results110, go_sem]) rfl ⟨OneRes_err H.out (by decide) _ _ _ _ _, ?_⟩
    (repeat (first | exact Below.refl _ _ | assumption | refine Below.drew ?_ | refine below_drewN ?_ _ | refine Below.alloc ?_ (by first | omega | simp <;> omega) _ | refine Below.setCell ?_ (by first | omega | simp <;> omega) _))
  · cases h2 : dotB (bs s) (partL (bs s))
    · have hr : nameS (bs s) = .ok (⟨1, (bs s).take (partL (bs s)), 0, 0⟩, partL (bs s)) := by rw [nameS, if_neg h1, h2]; rfl
      have H := hide hr; clear hr
      have h3 := dotB_no h2
      clear h2
      rcases h3 with h3 | ⟨h3, h4 | ⟨h4, h5⟩⟩
      all_goals
        go_enter Tryz.func110, Tryz.ntmps110
        go_wp2_with (first
          | (go_at_call 137; refine (token_part_any _ _ hs').mono ?_; rintro e w' ⟨rfl, rfl⟩)
          | (go_at_call 109; refine (token_letter_any _ _).mono ?_; rintro e w' ⟨rfl, rfl⟩))
        refine bodyPost_ret (v := .tuple #[.agg #[.int .i64 1, .string (s.extract 0 (partL (bs s))), .int .i64 0, .int .i64 0], .int .i64 (partL (bs s)), .int .i64 0]) (by simp [results, Tryz.results110, go_sem]) rfl ⟨OneRes_ok H.out (by rw [str_take]) rfl, ?_⟩
        (repeat (first | exact Below.refl _ _ | assumption | refine Below.drew ?_ | refine below_drewN ?_ _ | refine Below.alloc ?_ (by first | omega | simp <;> omega) _ | refine Below.setCell ?_ (by first | omega | simp <;> omega) _))
    · obtain ⟨h3, h4, h5⟩ := dotB_yes h2
      have hq := partL_le ((bs s).drop (partL (bs s) + 1))
      rw [List.length_drop, bs_length] at hq
      by_cases h6 : 24 < partL ((bs s).drop (partL (bs s) + 1))
      · have hr : nameS (bs s) = .error 4 := by rw [nameS, if_neg h1, if_pos h2, if_pos h6]
        have H := hide hr; clear hr h2
        go_enter Tryz.func110, Tryz.ntmps110
        go_wp2_with (fail)
        refine (token_part_any _ _ hs').mono ?_; rintro e w' ⟨rfl, rfl⟩
        go_wp2_with (go_at_call 109; refine (token_letter_any _ _).mono ?_; rintro e w' ⟨rfl, rfl⟩)
        refine (token_part_any _ _ (by unfold maxLen; simp; omega)).mono ?_; rintro e w' ⟨rfl, rfl⟩
        rw [bs_from]
        go_wp2
        refine bodyPost_ret (v := .tuple #[.agg #[.int .i64 0, str [], .int .i64 0, .int .i64 0], .int .i64 0, .int .i64 4]) (by simp [results, Tryz.results110, go_sem]) rfl ⟨OneRes_err H.out (by decide) _ _ _ _ _, ?_⟩
        (repeat (first | exact Below.refl _ _ | assumption | refine Below.drew ?_ | refine below_drewN ?_ _ | refine Below.alloc ?_ (by first | omega | simp <;> omega) _ | refine Below.setCell ?_ (by first | omega | simp <;> omega) _))
      · have hr : nameS (bs s) = .ok (⟨1, (bs s).take (partL (bs s) + (1 + partL ((bs s).drop (partL (bs s) + 1)))), 0, 0⟩, partL (bs s) + (1 + partL ((bs s).drop (partL (bs s) + 1)))) := by rw [nameS, if_neg h1, if_pos h2, if_neg h6]
        have H := hide hr; clear hr h2
        go_enter Tryz.func110, Tryz.ntmps110
        go_wp2_with (fail)
        refine (token_part_any _ _ hs').mono ?_; rintro e w' ⟨rfl, rfl⟩
        go_wp2_with (go_at_call 109; refine (token_letter_any _ _).mono ?_; rintro e w' ⟨rfl, rfl⟩)
        refine (token_part_any _ _ (by unfold maxLen; simp; omega)).mono ?_; rintro e w' ⟨rfl, rfl⟩
        rw [bs_from]
        generalize hg : partL ((bs s).drop (partL (bs s) + 1)) = q at *
        have HG := hide hg; clear hg
        go_wp2
        refine bodyPost_ret (v := .tuple #[.agg #[.int .i64 1, .string (s.extract 0 (partL (bs s) + (1 + q))), .int .i64 0, .int .i64 0], .int .i64 (partL (bs s) + (1 + q)), .int .i64 0]) (by simp [results, Tryz.results110, go_sem]) rfl ⟨OneRes_ok H.out (by rw [str_take]) (by simp), ?_⟩
        (repeat (first | exact Below.refl _ _ | assumption | refine Below.drew ?_ | refine below_drewN ?_ _ | refine Below.alloc ?_ (by first | omega | simp <;> omega) _ | refine Below.setCell ?_ (by first | omega | simp <;> omega) _))

end Go.Proofs.YtlfedcbihbigoaaGreatDoor

namespace Go.Proofs.YtlfedcbihbigoaaGreatDoor
open Go.RowKit

theorem digL_le (l : Bytes) : digL l ≤ l.length := (List.takeWhile_sublist _).length_le
theorem digL_lt : ∀ (l : Bytes) (k : Nat) (_ : k < digL l), ∃ h' : k < l.length, digB (l[k]'h') = true
  | [], k, h => by simp [digL] at h
  | c :: l, k, h => by
    unfold digL at h
    rw [List.takeWhile_cons] at h
    by_cases hc : digB c = true
    · rw [if_pos hc] at h
      match k with
      | 0 => exact ⟨by simp, by simpa using hc⟩
      | k + 1 =>
        obtain ⟨h1, h2⟩ := digL_lt l k (by simpa [digL] using h)
        exact ⟨by simpa using h1, by simpa using h2⟩
    · rw [if_neg hc] at h; simp at h
theorem digL_stop : ∀ (l : Bytes) (h : digL l < l.length), digB (l[digL l]'h) = false
  | [], h => by simp [digL] at h
  | c :: l, h => by
    by_cases hc : digB c = true
    · have e : digL (c :: l) = digL l + 1 := by unfold digL; rw [List.takeWhile_cons, if_pos hc]; simp
      have h' : digL l < l.length := by rw [e] at h; simpa using h
      have := digL_stop l h'
      simpa [e] using this
    · have e : digL (c :: l) = 0 := by unfold digL; rw [List.takeWhile_cons, if_neg hc]; simp
      simpa [e] using hc
theorem take_snoc (s : ByteArray) (k : Nat) (h : k < s.size) : (bs s).take (k + 1) = (bs s).take k ++ [s[k]] := by
  rw [List.take_succ_eq_append_getElem (by rw [bs_length]; exact h)]; rfl
theorem valS_snoc (l : Bytes) (c : UInt8) : valS (l ++ [c]) = min (10 * valS l + ((c.toNat : Int) - 48)) 1073741825 := by
  unfold valS; rw [List.foldl_append]; rfl
theorem digB_bd {c : UInt8} (h : digB c = true) : (48 : Int) ≤ (c.toNat : Int) ∧ (c.toNat : Int) ≤ 57 := by
  unfold digB at h; simp at h; omega
theorem valS_bd (s : ByteArray) : ∀ k, k ≤ digL (bs s) → 0 ≤ valS ((bs s).take k) ∧ valS ((bs s).take k) ≤ 1073741825
  | 0, _ => by simp [valS]
  | k + 1, h => by
    obtain ⟨i1, i2⟩ := valS_bd s k (by omega)
    obtain ⟨h1, h2⟩ := digL_lt (bs s) k (by omega)
    obtain ⟨d1, d2⟩ := digB_bd h2
    have e : (bs s)[k] = s[k]'h1 := rfl
    rw [take_snoc s k h1, valS_snoc]
    rw [e] at d1 d2
    omega

theorem tailB_yes {s : ByteArray} {p : Nat} (h : tailB (bs s) p = true) : ∃ h1 : p < s.size, letB s[p] = true ∨ (letB s[p] = false ∧ ((s[p].toNat : Int) == 95) = true) := by
  unfold tailB at h
  by_cases h1 : p < (bs s).length
  · rw [dif_pos h1] at h
    refine ⟨h1, ?_⟩
    have h : (letB (s[p]'h1) || ((s[p]'h1).toNat == 95)) = true := h
    cases h2 : letB (s[p]'h1)
    · rw [h2] at h; right; simp at h ⊢; omega
    · left; rfl
  · rw [dif_neg h1] at h; cases h
theorem tailB_no {s : ByteArray} {p : Nat} (h : tailB (bs s) p = false) : ¬ p < s.size ∨ ∃ h1 : p < s.size, letB s[p] = false ∧ ((s[p].toNat : Int) == 95) = false := by
  unfold tailB at h
  by_cases h1 : p < (bs s).length
  · rw [dif_pos h1] at h
    refine .inr ⟨h1, ?_⟩
    have h : (letB (s[p]'h1) || ((s[p]'h1).toNat == 95)) = false := h
    simp at h ⊢
    exact ⟨h.1, by omega⟩
  · exact .inl h1

/-- The first byte is a zero, and more digits follow. -/
def zeroB (l : Bytes) : Bool := match l with | c :: _ => (c.toNat == 48) && decide (1 < digL l) | [] => false
theorem intS_eq (l : Bytes) : intS l = if zeroB l || tailB l (digL l) then .error 3 else if 1073741824 < valS (l.take (digL l)) then .error 1 else .ok (⟨2, [], valS (l.take (digL l)), 0⟩, digL l) := rfl
theorem zeroB_yes {s : ByteArray} (h : zeroB (bs s) = true) : ∃ h0 : 0 < s.size, ((s[0].toNat : Int) == 48) = true ∧ 1 < digL (bs s) := by
  unfold zeroB at h
  split at h
  · rename_i c l e
    have h0 : 0 < s.size := by rw [← bs_length, e]; simp
    have e1 : s[0] = c := by have : (bs s)[0]'(by rw [e]; simp) = c := by simp [e]
                             exact this
    simp at h
    exact ⟨h0, by rw [e1]; simp; omega, h.2⟩
  · cases h
theorem zeroB_no {s : ByteArray} (h : zeroB (bs s) = false) (h0 : 0 < s.size) : ((s[0].toNat : Int) == 48) = false ∨ (((s[0].toNat : Int) == 48) = true ∧ ¬ 1 < digL (bs s)) := by
  unfold zeroB at h
  split at h
  · rename_i c l e
    have e1 : s[0] = c := by have : (bs s)[0]'(by rw [e]; simp) = c := by simp [e]
                             exact this
    rw [e1]
    by_cases hc : c.toNat = 48
    · right; simp [hc] at h ⊢; exact h
    · left; simp; omega
  · rename_i e
    rw [← bs_length, e] at h0; simp at h0

set_option maxHeartbeats 2000000 in
theorem token_integer_any (s : ByteArray) (w : World) (hs : s.size ≤ maxLen) (h0 : 0 < s.size) :
    Calls Tryz.prog 112 #[.string s] w fun e w' => OneRes (intS (bs s)) e ∧ Below w.heap.size w w' := by
  have hs' := hs
  unfold maxLen at hs
  have hp := digL_le (bs s)
  rw [bs_length] at hp
  go_enter Tryz.func112, Tryz.ntmps112
  go_wp2
  go_loop [5, 6] (fun n v => ∃ k : Nat, k ≤ digL (bs s) ∧ n = .int .i64 k ∧ v = .int .i64 (valS ((bs s).take k))) (fun n _ => digL (bs s) - (intOf n).toNat)
  case atStart => exact ⟨0, Nat.zero_le _, rfl, by simp [valS]⟩
  case round =>
    obtain ⟨k, hk, rfl, rfl⟩ := hrel
    obtain ⟨v1, v2⟩ := valS_bd s k hk
    by_cases hlt : k < digL (bs s)
    · obtain ⟨h1, h2⟩ := digL_lt (bs s) k hlt
      have h1' : k < s.size := h1
      have h2' : digB s[k] = true := h2
      obtain ⟨d1, d2⟩ := digB_bd h2'
      clear h2
      have HS := hide (show valS ((bs s).take (k + 1)) = _ from by rw [take_snoc s k h1', valS_snoc])
      generalize valS ((bs s).take k) = v at *
      go_wp2_with (go_at_call 111; refine (token_digit_any _ _).mono ?_; rintro e w' ⟨rfl, rfl⟩)
      go_round
      case rel => exact ⟨k + 1, by omega, by go_num, by rw [HS.out]; congr 1; split <;> omega⟩
      case measure => simp [intOf]; omega
    · obtain rfl : k = digL (bs s) := by omega
      have hx : ¬ digL (bs s) < s.size ∨ ∃ h : digL (bs s) < s.size, digB s[digL (bs s)] = false := by
        by_cases h : digL (bs s) < s.size
        · exact .inr ⟨h, digL_stop (bs s) h⟩
        · exact .inl h
      have hr := intS_eq (bs s)
      cases hz : zeroB (bs s)
      · have hz' := zeroB_no hz h0
        cases ht : tailB (bs s) (digL (bs s))
        · have ht' := tailB_no ht
          by_cases hv : 1073741824 < valS ((bs s).take (digL (bs s)))
          · have H := hide (show intS (bs s) = .error 1 by rw [hr, hz, ht, if_neg (by decide), if_pos hv])
            generalize valS ((bs s).take (digL (bs s))) = v at *
            clear hr hz ht
            rcases hz' with hz' | ⟨hz', hz2⟩ <;> rcases ht' with ht' | ⟨ht', ht2, ht3⟩ <;> rcases hx with hx | ⟨hx, hx2⟩ <;> (try contradiction)
            all_goals
              go_wp2_with (first
                | (go_at_call 111; refine (token_digit_any _ _).mono ?_; rintro e w' ⟨rfl, rfl⟩)
                | (go_at_call 109; refine (token_letter_any _ _).mono ?_; rintro e w' ⟨rfl, rfl⟩))
              refine bodyPost_ret (v := .tuple #[.agg #[.int .i64 0, str [], .int .i64 0, .int .i64 0], .int .i64 0, .int .i64 1]) (by simp [results, Tryz.results112, go_sem]) rfl ⟨OneRes_err H.out (by decide) _ _ _ _ _, ?_⟩
              (repeat (first | exact Below.refl _ _ | assumption | refine Below.drew ?_ | refine below_drewN ?_ _ | refine Below.alloc ?_ (by first | omega | simp <;> omega) _ | refine Below.setCell ?_ (by first | omega | simp <;> omega) _))
          · have H := hide (show intS (bs s) = .ok (⟨2, [], valS ((bs s).take (digL (bs s))), 0⟩, digL (bs s)) by rw [hr, hz, ht, if_neg (by decide), if_neg hv])
            generalize valS ((bs s).take (digL (bs s))) = v at *
            clear hr hz ht
            rcases hz' with hz' | ⟨hz', hz2⟩ <;> rcases ht' with ht' | ⟨ht', ht2, ht3⟩ <;> rcases hx with hx | ⟨hx, hx2⟩ <;> (try contradiction)
            all_goals
              go_wp2_with (first
                | (go_at_call 111; refine (token_digit_any _ _).mono ?_; rintro e w' ⟨rfl, rfl⟩)
                | (go_at_call 109; refine (token_letter_any _ _).mono ?_; rintro e w' ⟨rfl, rfl⟩))
              refine bodyPost_ret (v := .tuple #[.agg #[.int .i64 2, str [], .int .i64 v, .int .i64 0], .int .i64 (digL (bs s)), .int .i64 0]) (by simp [results, Tryz.results112, go_sem]) rfl ⟨OneRes_ok H.out rfl rfl, ?_⟩
              (repeat (first | exact Below.refl _ _ | assumption | refine Below.drew ?_ | refine below_drewN ?_ _ | refine Below.alloc ?_ (by first | omega | simp <;> omega) _ | refine Below.setCell ?_ (by first | omega | simp <;> omega) _))
        · obtain ⟨ht1, ht2⟩ := tailB_yes ht
          obtain ⟨hx1, hx2⟩ := hx.resolve_left (by omega)
          have H := hide (show intS (bs s) = .error 3 by rw [hr, hz, ht, if_pos (by decide)])
          clear hr hz ht
          rcases hz' with hz' | ⟨hz', hz2⟩ <;> rcases ht2 with ht2 | ⟨ht2, ht3⟩
          all_goals
            go_wp2_with (first
              | (go_at_call 111; refine (token_digit_any _ _).mono ?_; rintro e w' ⟨rfl, rfl⟩)
              | (go_at_call 109; refine (token_letter_any _ _).mono ?_; rintro e w' ⟨rfl, rfl⟩))
            refine bodyPost_ret (v := .tuple #[.agg #[.int .i64 0, str [], .int .i64 0, .int .i64 0], .int .i64 0, .int .i64 3]) (by simp [results, Tryz.results112, go_sem]) rfl ⟨OneRes_err H.out (by decide) _ _ _ _ _, ?_⟩
            (repeat (first | exact Below.refl _ _ | assumption | refine Below.drew ?_ | refine below_drewN ?_ _ | refine Below.alloc ?_ (by first | omega | simp <;> omega) _ | refine Below.setCell ?_ (by first | omega | simp <;> omega) _))
      · obtain ⟨_, hz1, hz2⟩ := zeroB_yes hz
        have H := hide (show intS (bs s) = .error 3 by rw [hr, hz, if_pos (by simp)])
        clear hr hz
        rcases hx with hx | ⟨hx, hx2⟩
        all_goals
          go_wp2_with (first
            | (go_at_call 111; refine (token_digit_any _ _).mono ?_; rintro e w' ⟨rfl, rfl⟩)
            | (go_at_call 109; refine (token_letter_any _ _).mono ?_; rintro e w' ⟨rfl, rfl⟩))
          refine bodyPost_ret (v := .tuple #[.agg #[.int .i64 0, str [], .int .i64 0, .int .i64 0], .int .i64 0, .int .i64 3]) (by simp [results, Tryz.results112, go_sem]) rfl ⟨OneRes_err H.out (by decide) _ _ _ _ _, ?_⟩
          (repeat (first | exact Below.refl _ _ | assumption | refine Below.drew ?_ | refine below_drewN ?_ _ | refine Below.alloc ?_ (by first | omega | simp <;> omega) _ | refine Below.setCell ?_ (by first | omega | simp <;> omega) _))

end Go.Proofs.YtlfedcbihbigoaaGreatDoor

namespace Go.Proofs.YtlfedcbihbigoaaGreatDoor
open Go.RowKit

theorem Tryz.info_u8 : (Tryz.prog.info? 5).map (fun i => (i.zero, i.size, i.bytes)) = some (some (.int .u8 0), 1, 1) := by kernel_rfl
theorem Tryz.info_tok : (Tryz.prog.info? 70).map (fun i => (i.zero, i.size, i.bytes)) = some (some (.agg #[.int .i64 0, .string ⟨#[]⟩, .int .i64 0, .int .i64 0]), 4, 40) := by kernel_rfl

set_option maxRecDepth 100000 in
set_option maxHeartbeats 2000000 in
theorem token_literal_any (s : ByteArray) (w : World) (hs : s.size ≤ 140737488355328) (h0 : 0 < s.size) :
    Calls Tryz.prog 113 #[.string s] w fun e w' => OneRes (litS (bs s)) e ∧ Below w.heap.size w w' := by
  obtain ⟨i0, hi, hz0, hz1, hz2⟩ := info_parts Tryz.info_u8
  go_enter Tryz.func113, Tryz.ntmps113
  go_wp2
  go_loopw [5, 6] (fun v i wr => ∃ (k : Nat) (b : Bytes) (A : Option Addr) (c : Nat), v = .slice A b.length c ∧ i = .int .i64 k ∧ k ≤ s.size ∧ LitRel (bs s) k b ∧
      wr.ownsRow (w.heap.size + 1) 5 1 (.slice A b.length c) b.length (b.map byteV) ∧ Below (w.heap.size + 1) (w.alloc (.cells #[.int .i64 0, .string ⟨#[]⟩, .int .i64 0, .int .i64 0] 70)) wr)
    (fun _ i _ => s.size - (intOf i).toNat)
  case atStart => exact ⟨1, [], none, 0, rfl, rfl, by omega, LitRel_start _, own_nil _ _ _ _, Below.refl _ _⟩
  case round =>
    obtain ⟨k, b, A, c, rfl, rfl, hk, hrel, hown, hbel⟩ := hrel
    have hheap := heap_of_below hbel (Nat.lt_succ_self _)
    have hc0 := cell_of_heap hheap 0
    have hc1 := cell_of_heap hheap 1
    have hc2 := cell_of_heap hheap 2
    have hc3 := cell_of_heap hheap 3
    have hf0 := free_of_heap hheap 0
    have hf1 := free_of_heap hheap 1
    have hf2 := free_of_heap hheap 2
    have hf3 := free_of_heap hheap 3
    have hwlt := lt_of_heap hheap
    clear hheap
    have hb0 : Below w.heap.size w wr := ((Below.refl _ _).alloc (Nat.le_refl _) _).trans (hbel.mono (Nat.le_succ _))
    have hb1 : b.length + 1 ≤ k := hrel.2.1
    by_cases hlt : k < s.size
    · by_cases hc : s[k].toNat = 39
      · have hc' : ((s[k].toNat : Int) == 39) = true := by simp; omega
        by_cases hd : ∃ h : k + 1 < s.size, s[k+1].toNat = 39
        · obtain ⟨hd1, hd2⟩ := hd
          have hrel' := LitRel_pair hrel hd1 hc hd2
          have hd' : ((s[k+1].toNat : Int) != 39) = false := by simp; omega
          have he' : ((k : Int) + 1 == (s.size : Int)) = false := by simp; omega
          clear hc hrel hd2
          go_wp2_with (at_builtin; refine wpList_append_own _ rfl _ _ 129 rfl (w.heap.size + 1) 5 i0 (.int .u8 0) 1 1 Tryz.underlying129 hi hz0 hz1 hz2 rfl (by decide) _ _ _ rfl (hown.alloc _) ⟨wr.heap.size, 0, none⟩ 1 1 [byteV s[k+1]] rfl rfl (cell_one_new _ _ _) (by simp [Value.oneCell']) (by unfold maxLen; omega) (by omega) (by simp; omega) ?_; intro v' w1 hown' hgrow _)
          have hb2 := push_below hbel hown hgrow (by omega)
          obtain ⟨A', c', rfl⟩ := own_form hown'
          exact ⟨⟨k + 2, b ++ [s[k+1]], A', c', by simp, by go_num, by omega, hrel', by simpa using hown', hb2⟩, by simp [intOf]; omega⟩
        · have hd' : ∀ h : k + 1 < s.size, s[k+1].toNat ≠ 39 := fun h e => hd ⟨h, e⟩
          have hr := LitRel_close hrel hlt hc hd'
          clear hc hrel
          have hx : ((k : Int) + 1 == (s.size : Int)) = true ∨ (((k : Int) + 1 == (s.size : Int)) = false ∧ ∃ h : k + 1 < s.size, ((s[k+1].toNat : Int) != 39) = true) := by
            by_cases h : k + 1 < s.size
            · have := hd' h
              exact .inr ⟨by simp; omega, h, by simp; omega⟩
            · exact .inl (by simp; omega)
          clear hd hd'
          by_cases h64 : 64 < b.length
          · have H := hide (show litS (bs s) = .error 2 by rw [hr, if_pos h64])
            clear hr
            rcases hx with hx | ⟨hx, hx1, hx2⟩
            all_goals
              go_wp2
              refine bodyPost_ret (v := .tuple #[.agg #[.int .i64 0, str [], .int .i64 0, .int .i64 0], .int .i64 0, .int .i64 2]) (by simp [results, Tryz.results113, go_sem, hc0, hc1, hc2, hc3]) rfl ⟨OneRes_err H.out (by decide) _ _ _ _ _, ?_⟩
              (repeat (first | exact Below.refl _ _ | assumption | refine Below.drew ?_ | refine below_drewN ?_ _ | refine Below.alloc ?_ (by first | omega | simp <;> omega) _ | refine Below.setCell ?_ (by first | omega | simp <;> omega) _))
          · have H := hide (show litS (bs s) = .ok (⟨3, b, 0, 0⟩, k + 1) by rw [hr, if_neg h64])
            clear hr
            have hcv := run_conv_own (P := Tryz.prog) (w := wr) (dst := 9) Tryz.underlying129 Tryz.underlying5 Tryz.underlying9 hown
            rcases hx with hx | ⟨hx, hx1, hx2⟩
            all_goals
              go_wp2
              refine bodyPost_ret (v := .tuple #[.agg #[.int .i64 3, str b, .int .i64 0, .int .i64 0], .int .i64 (k + 1), .int .i64 0]) (by simp [results, Tryz.results113, go_sem, hc0, hc1, hc2, hc3]) rfl ⟨OneRes_ok H.out rfl (by simp), ?_⟩
              (repeat (first | exact Below.refl _ _ | assumption | refine Below.drew ?_ | refine below_drewN ?_ _ | refine Below.alloc ?_ (by first | omega | simp <;> omega) _ | refine Below.setCell ?_ (by first | omega | simp <;> omega) _))
      · have hrel' := LitRel_plain hrel hlt hc
        have hc' : ((s[k].toNat : Int) == 39) = false := by simp; omega
        clear hc hrel
        go_wp2_with (at_builtin; refine wpList_append_own _ rfl _ _ 129 rfl (w.heap.size + 1) 5 i0 (.int .u8 0) 1 1 Tryz.underlying129 hi hz0 hz1 hz2 rfl (by decide) _ _ _ rfl (hown.alloc _) ⟨wr.heap.size, 0, none⟩ 1 1 [byteV s[k]] rfl rfl (cell_one_new _ _ _) (by simp [Value.oneCell']) (by unfold maxLen; omega) (by omega) (by simp; omega) ?_; intro v' w1 hown' hgrow _)
        have hb2 := push_below hbel hown hgrow (by omega)
        obtain ⟨A', c', rfl⟩ := own_form hown'
        exact ⟨⟨k + 1, b ++ [s[k]], A', c', by simp, by go_num, by omega, hrel', by simpa using hown', hb2⟩, by simp [intOf]; omega⟩
    · have hr := LitRel_end hrel hlt
      have H := hide hr; clear hr hrel
      go_wp2
      refine bodyPost_ret (v := .tuple #[.agg #[.int .i64 0, str [], .int .i64 0, .int .i64 0], .int .i64 0, .int .i64 3]) (by simp [results, Tryz.results113, go_sem, hc0, hc1, hc2, hc3]) rfl ⟨OneRes_err H.out (by decide) _ _ _ _ _, ?_⟩
      (repeat (first | exact Below.refl _ _ | assumption | refine Below.drew ?_ | refine below_drewN ?_ _ | refine Below.alloc ?_ (by first | omega | simp <;> omega) _ | refine Below.setCell ?_ (by first | omega | simp <;> omega) _))

end Go.Proofs.YtlfedcbihbigoaaGreatDoor
