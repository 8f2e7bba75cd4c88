/- Contracts of the reference's readers of names and integers. -/
import Derived.Test.YtajcddaahmbllaaDoorTokC
set_option linter.unusedVariables false
set_option linter.unusedSimpArgs false
namespace Go.Proofs.YtajcddaahmbllaaDoor
open Go.RowKit

def NameRes (r : Except Int (Tok × Nat)) (e : Ending) : Prop :=
  match r with
  | .ok x => e = .returned (.tuple #[.int .i64 (x.2 : Nat), .int .i64 0])
  | .error c => c ≠ 0 ∧ e = .returned (.tuple #[.int .i64 0, .int .i64 c])
theorem NameRes_err {r : Except Int (Tok × Nat)} {c : Int} (h : r = .error c) (hc : c ≠ 0) : NameRes r (.returned (.tuple #[.int .i64 0, .int .i64 c])) := by subst h; exact ⟨hc, rfl⟩
theorem NameRes_ok {r : Except Int (Tok × Nat)} {t : Tok} {n : Nat} (h : r = .ok (t, n)) {m : Int} (hm : m = n) : NameRes r (.returned (.tuple #[.int .i64 m, .int .i64 0])) := by subst h hm; rfl
def IntRes (r : Except Int (Tok × Nat)) (e : Ending) : Prop :=
  match r with
  | .ok x => e = .returned (.tuple #[.int .i64 x.1.num, .int .i64 (x.2 : Nat), .int .i64 0])
  | .error c => c ≠ 0 ∧ e = .returned (.tuple #[.int .i64 0, .int .i64 0, .int .i64 c])
theorem IntRes_err {r : Except Int (Tok × Nat)} {c : Int} (h : r = .error c) (hc : c ≠ 0) : IntRes r (.returned (.tuple #[.int .i64 0, .int .i64 0, .int .i64 c])) := by subst h; exact ⟨hc, rfl⟩
theorem IntRes_ok {r : Except Int (Tok × Nat)} {t : Tok} {n : Nat} (h : r = .ok (t, n)) {v m : Int} (hv : v = t.num) (hm : m = n) : IntRes r (.returned (.tuple #[.int .i64 v, .int .i64 m, .int .i64 0])) := by subst h hm hv; rfl

set_option maxHeartbeats 1000000 in
theorem ref7_name_any (s : ByteArray) (w : World) (hs : s.size ≤ maxLen) :
    Calls Tryd.prog 58 #[.string s] w fun e w' => NameRes (nameS (bs s)) e ∧ w = w' := by
  have hs' := hs
  unfold maxLen at hs
  have hp := partL_le (bs s)
  rw [bs_length] at hp
  by_cases h1 : 24 < partL (bs s)
  · have hr : nameS (bs s) = .error 4 := by rw [nameS, if_pos h1]
    have H := hide hr; clear hr
    go_enter Tryd.func58, Tryd.ntmps58
    go_wp2_with (go_at_call 77; refine (ref7_run_any _ _ hs').mono ?_; rintro e w' ⟨rfl, rfl⟩)
    go_ret2
    exact ⟨NameRes_err H.out (by decide), rfl⟩
  · cases h2 : dotB (bs s) (partL (bs s))
    · have hr : nameS (bs s) = .ok (⟨1, (bs s).take (partL (bs s)), 0, 0⟩, partL (bs s)) := by rw [nameS, if_neg h1, h2]; rfl
      have H := hide hr; clear hr
      have h3 := dotB_no h2
      clear h2
      rcases h3 with h3 | ⟨h3, h4 | ⟨h4, h5⟩⟩
      all_goals
        go_enter Tryd.func58, Tryd.ntmps58
        go_wp2_with (first
          | (go_at_call 77; refine (ref7_run_any _ _ hs').mono ?_; rintro e w' ⟨rfl, rfl⟩)
          | (go_at_call 57; refine (ref7_letter_any _ _).mono ?_; rintro e w' ⟨rfl, rfl⟩))
        go_ret2
        exact ⟨NameRes_ok H.out rfl, rfl⟩
    · obtain ⟨h3, h4, h5⟩ := dotB_yes h2
      have hq := partL_le ((bs s).drop (partL (bs s) + 1))
      rw [List.length_drop, bs_length] at hq
      by_cases h6 : 24 < partL ((bs s).drop (partL (bs s) + 1))
      · have hr : nameS (bs s) = .error 4 := by rw [nameS, if_neg h1, if_pos h2, if_pos h6]
        have H := hide hr; clear hr h2
        go_enter Tryd.func58, Tryd.ntmps58
        go_wp2_with (fail)
        refine (ref7_run_any _ _ hs').mono ?_; rintro e w' ⟨rfl, rfl⟩
        go_wp2_with (go_at_call 57; refine (ref7_letter_any _ _).mono ?_; rintro e w' ⟨rfl, rfl⟩)
        refine (ref7_run_any _ _ (by unfold maxLen; simp; omega)).mono ?_; rintro e w' ⟨rfl, rfl⟩
        rw [bs_from]
        go_wp2
        go_ret2
        exact ⟨NameRes_err H.out (by decide), rfl⟩
      · have hr : nameS (bs s) = .ok (⟨1, (bs s).take (partL (bs s) + (1 + partL ((bs s).drop (partL (bs s) + 1)))), 0, 0⟩, partL (bs s) + (1 + partL ((bs s).drop (partL (bs s) + 1)))) := by rw [nameS, if_neg h1, if_pos h2, if_neg h6]
        have H := hide hr; clear hr h2
        go_enter Tryd.func58, Tryd.ntmps58
        go_wp2_with (fail)
        refine (ref7_run_any _ _ hs').mono ?_; rintro e w' ⟨rfl, rfl⟩
        go_wp2_with (go_at_call 57; refine (ref7_letter_any _ _).mono ?_; rintro e w' ⟨rfl, rfl⟩)
        refine (ref7_run_any _ _ (by unfold maxLen; simp; omega)).mono ?_; rintro e w' ⟨rfl, rfl⟩
        rw [bs_from]
        generalize hg : partL ((bs s).drop (partL (bs s) + 1)) = q at *
        have HG := hide hg; clear hg
        go_wp2
        go_ret2
        exact ⟨NameRes_ok H.out (by simp), rfl⟩

set_option maxRecDepth 100000 in
set_option maxHeartbeats 4000000 in
theorem ref7_integer_any (s : ByteArray) (w : World) (hs : s.size ≤ maxLen) (h0 : 0 < s.size) :
    Calls Tryd.prog 60 #[.string s] w fun e w' => IntRes (intS (bs s)) e ∧ w = w' := by
  have hs' := hs
  unfold maxLen at hs
  have hp := digL_le (bs s)
  rw [bs_length] at hp
  go_enter Tryd.func60, Tryd.ntmps60
  go_wp2
  go_loop [6, 5] (fun n v => ∃ k : Nat, k ≤ digL (bs s) ∧ n = .int .i64 k ∧ v = .int .i64 (valS ((bs s).take k))) (fun n _ => digL (bs s) - (intOf n).toNat)
  case atStart => exact ⟨0, Nat.zero_le _, rfl, by simp [valS]⟩
  case round =>
    obtain ⟨k, hk, rfl, rfl⟩ := hrel
    obtain ⟨v1, v2⟩ := valS_bd s k hk
    by_cases hlt : k < digL (bs s)
    · obtain ⟨h1, h2⟩ := digL_lt (bs s) k hlt
      have h1' : k < s.size := h1
      have h2' : digB s[k] = true := h2
      obtain ⟨d1, d2⟩ := digB_bd h2'
      clear h2
      have HS := hide (show valS ((bs s).take (k + 1)) = _ from by rw [take_snoc s k h1', valS_snoc])
      generalize valS ((bs s).take k) = v at *
      go_wp2_with (go_at_call 59; refine (ref7_digit_any _ _).mono ?_; rintro e w' ⟨rfl, rfl⟩)
      go_round
      case rel => exact ⟨k + 1, by omega, by go_num, by rw [HS.out]; congr 1; split <;> omega⟩
      case measure => simp [intOf]; omega
    · obtain rfl : k = digL (bs s) := by omega
      have hx : ¬ digL (bs s) < s.size ∨ ∃ h : digL (bs s) < s.size, digB s[digL (bs s)] = false := by
        by_cases h : digL (bs s) < s.size
        · exact .inr ⟨h, digL_stop (bs s) h⟩
        · exact .inl h
      have hr := intS_eq (bs s)
      have hd1 : 1 < digL (bs s) ∨ ¬ 1 < digL (bs s) := by omega
      cases hz : zeroB (bs s)
      · have hz' : decide (1 < (digL (bs s) : Int)) = false ∨ (decide (1 < (digL (bs s) : Int)) = true ∧ ((s[0].toNat : Int) == 48) = false) := by
          rcases zeroB_no hz h0 with h | ⟨_, h⟩
          · rcases hd1 with hd1 | hd1
            · exact .inr ⟨by simp; omega, h⟩
            · exact .inl (by simp; omega)
          · exact .inl (by simp; omega)
        clear hd1
        cases ht : tailB (bs s) (digL (bs s))
        · have ht' := tailB_no ht
          by_cases hv : 1073741824 < valS ((bs s).take (digL (bs s)))
          · have H := hide (show intS (bs s) = .error 1 by rw [hr, hz, ht, if_neg (by decide), if_pos hv])
            generalize valS ((bs s).take (digL (bs s))) = v at *
            clear hr hz ht
            rcases hz' with hz' | ⟨hz', hz2⟩ <;> rcases ht' with ht' | ⟨ht', ht2, ht3⟩ <;> rcases hx with hx | ⟨hx, hx2⟩ <;> (try contradiction)
            all_goals
              go_wp2_with (first
                | (go_at_call 59; refine (ref7_digit_any _ _).mono ?_; rintro e w' ⟨rfl, rfl⟩)
                | (go_at_call 57; refine (ref7_letter_any _ _).mono ?_; rintro e w' ⟨rfl, rfl⟩))
              go_ret3
              exact ⟨IntRes_err H.out (by decide), rfl⟩
          · have H := hide (show intS (bs s) = .ok (⟨2, [], valS ((bs s).take (digL (bs s))), 0⟩, digL (bs s)) by rw [hr, hz, ht, if_neg (by decide), if_neg hv])
            generalize valS ((bs s).take (digL (bs s))) = v at *
            clear hr hz ht
            rcases hz' with hz' | ⟨hz', hz2⟩ <;> rcases ht' with ht' | ⟨ht', ht2, ht3⟩ <;> rcases hx with hx | ⟨hx, hx2⟩ <;> (try contradiction)
            all_goals
              go_wp2_with (first
                | (go_at_call 59; refine (ref7_digit_any _ _).mono ?_; rintro e w' ⟨rfl, rfl⟩)
                | (go_at_call 57; refine (ref7_letter_any _ _).mono ?_; rintro e w' ⟨rfl, rfl⟩))
              go_ret3
              exact ⟨IntRes_ok H.out rfl rfl, rfl⟩
        · obtain ⟨ht1, ht2⟩ := tailB_yes ht
          obtain ⟨hx1, hx2⟩ := hx.resolve_left (by omega)
          have H := hide (show intS (bs s) = .error 3 by rw [hr, hz, ht, if_pos (by decide)])
          clear hr hz ht
          rcases hz' with hz' | ⟨hz', hz2⟩ <;> rcases ht2 with ht2 | ⟨ht2, ht3⟩
          all_goals
            go_wp2_with (first
              | (go_at_call 59; refine (ref7_digit_any _ _).mono ?_; rintro e w' ⟨rfl, rfl⟩)
              | (go_at_call 57; refine (ref7_letter_any _ _).mono ?_; rintro e w' ⟨rfl, rfl⟩))
            go_ret3
            exact ⟨IntRes_err H.out (by decide), rfl⟩
      · obtain ⟨_, hz1, hz2⟩ := zeroB_yes hz
        have H := hide (show intS (bs s) = .error 3 by rw [hr, hz, if_pos (by simp)])
        have hz3 : decide (1 < (digL (bs s) : Int)) = true := by simp; omega
        clear hr hz hd1
        rcases hx with hx | ⟨hx, hx2⟩
        all_goals
          go_wp2_with (first
            | (go_at_call 59; refine (ref7_digit_any _ _).mono ?_; rintro e w' ⟨rfl, rfl⟩)
            | (go_at_call 57; refine (ref7_letter_any _ _).mono ?_; rintro e w' ⟨rfl, rfl⟩))
          go_ret3
          exact ⟨IntRes_err H.out (by decide), rfl⟩

end Go.Proofs.YtajcddaahmbllaaDoor
