/- Contracts of the readers of one token: integers. -/
import Derived.Test.YtajcddaahmbllaaDoorTokB
set_option linter.unusedVariables false
set_option linter.unusedSimpArgs false
namespace Go.Proofs.YtajcddaahmbllaaDoor
open Go.RowKit

theorem digL_le (l : Bytes) : digL l ≤ l.length := (List.takeWhile_sublist _).length_le
theorem digL_lt : ∀ (l : Bytes) (k : Nat) (_ : k < digL l), ∃ h' : k < l.length, digB (l[k]'h') = true
  | [], k, h => by simp [digL] at h
  | c :: l, k, h => by
    unfold digL at h
    rw [List.takeWhile_cons] at h
    by_cases hc : digB c = true
    · rw [if_pos hc] at h
      match k with
      | 0 => exact ⟨by simp, by simpa using hc⟩
      | k + 1 =>
        obtain ⟨h1, h2⟩ := digL_lt l k (by simpa [digL] using h)
        exact ⟨by simpa using h1, by simpa using h2⟩
    · rw [if_neg hc] at h; simp at h
theorem digL_stop : ∀ (l : Bytes) (h : digL l < l.length), digB (l[digL l]'h) = false
  | [], h => by simp [digL] at h
  | c :: l, h => by
    by_cases hc : digB c = true
    · have e : digL (c :: l) = digL l + 1 := by unfold digL; rw [List.takeWhile_cons, if_pos hc]; simp
      have h' : digL l < l.length := by rw [e] at h; simpa using h
      have := digL_stop l h'
      simpa [e] using this
    · have e : digL (c :: l) = 0 := by unfold digL; rw [List.takeWhile_cons, if_neg hc]; simp
      simpa [e] using hc
theorem take_snoc (s : ByteArray) (k : Nat) (h : k < s.size) : (bs s).take (k + 1) = (bs s).take k ++ [s[k]] := by
  rw [List.take_succ_eq_append_getElem (by rw [bs_length]; exact h)]; rfl
theorem valS_snoc (l : Bytes) (c : UInt8) : valS (l ++ [c]) = min (10 * valS l + ((c.toNat : Int) - 48)) 1073741825 := by
  unfold valS; rw [List.foldl_append]; rfl
theorem digB_bd {c : UInt8} (h : digB c = true) : (48 : Int) ≤ (c.toNat : Int) ∧ (c.toNat : Int) ≤ 57 := by
  unfold digB at h; simp at h; omega
theorem valS_bd (s : ByteArray) : ∀ k, k ≤ digL (bs s) → 0 ≤ valS ((bs s).take k) ∧ valS ((bs s).take k) ≤ 1073741825
  | 0, _ => by simp [valS]
  | k + 1, h => by
    obtain ⟨i1, i2⟩ := valS_bd s k (by omega)
    obtain ⟨h1, h2⟩ := digL_lt (bs s) k (by omega)
    obtain ⟨d1, d2⟩ := digB_bd h2
    have e : (bs s)[k] = s[k]'h1 := rfl
    rw [take_snoc s k h1, valS_snoc]
    rw [e] at d1 d2
    omega

theorem tailB_yes {s : ByteArray} {p : Nat} (h : tailB (bs s) p = true) : ∃ h1 : p < s.size, letB s[p] = true ∨ (letB s[p] = false ∧ ((s[p].toNat : Int) == 95) = true) := by
  unfold tailB at h
  by_cases h1 : p < (bs s).length
  · rw [dif_pos h1] at h
    refine ⟨h1, ?_⟩
    have h : (letB (s[p]'h1) || ((s[p]'h1).toNat == 95)) = true := h
    cases h2 : letB (s[p]'h1)
    · rw [h2] at h; right; simp at h ⊢; omega
    · left; rfl
  · rw [dif_neg h1] at h; cases h
theorem tailB_no {s : ByteArray} {p : Nat} (h : tailB (bs s) p = false) : ¬ p < s.size ∨ ∃ h1 : p < s.size, letB s[p] = false ∧ ((s[p].toNat : Int) == 95) = false := by
  unfold tailB at h
  by_cases h1 : p < (bs s).length
  · rw [dif_pos h1] at h
    refine .inr ⟨h1, ?_⟩
    have h : (letB (s[p]'h1) || ((s[p]'h1).toNat == 95)) = false := h
    simp at h ⊢
    exact ⟨h.1, by omega⟩
  · exact .inl h1

/-- The first byte is a zero, and more digits follow. -/
def zeroB (l : Bytes) : Bool := match l with | c :: _ => (c.toNat == 48) && decide (1 < digL l) | [] => false
theorem intS_eq (l : Bytes) : intS l = if zeroB l || tailB l (digL l) then .error 3 else if 1073741824 < valS (l.take (digL l)) then .error 1 else .ok (⟨2, [], valS (l.take (digL l)), 0⟩, digL l) := rfl
theorem zeroB_yes {s : ByteArray} (h : zeroB (bs s) = true) : ∃ h0 : 0 < s.size, ((s[0].toNat : Int) == 48) = true ∧ 1 < digL (bs s) := by
  unfold zeroB at h
  split at h
  · rename_i c l e
    have h0 : 0 < s.size := by rw [← bs_length, e]; simp
    have e1 : s[0] = c := by have : (bs s)[0]'(by rw [e]; simp) = c := by simp [e]
                             exact this
    simp at h
    exact ⟨h0, by rw [e1]; simp; omega, h.2⟩
  · cases h
theorem zeroB_no {s : ByteArray} (h : zeroB (bs s) = false) (h0 : 0 < s.size) : ((s[0].toNat : Int) == 48) = false ∨ (((s[0].toNat : Int) == 48) = true ∧ ¬ 1 < digL (bs s)) := by
  unfold zeroB at h
  split at h
  · rename_i c l e
    have e1 : s[0] = c := by have : (bs s)[0]'(by rw [e]; simp) = c := by simp [e]
                             exact this
    rw [e1]
    by_cases hc : c.toNat = 48
    · right; simp [hc] at h ⊢; exact h
    · left; simp; omega
  · rename_i e
    rw [← bs_length, e] at h0; simp at h0

set_option maxHeartbeats 2000000 in
theorem token_integer_any (s : ByteArray) (w : World) (hs : s.size ≤ maxLen) (h0 : 0 < s.size) :
    Calls Tryd.prog 54 #[.string s] w fun e w' => OneRes (intS (bs s)) e ∧ Below w.heap.size w w' := by
  have hs' := hs
  unfold maxLen at hs
  have hp := digL_le (bs s)
  rw [bs_length] at hp
  go_enter Tryd.func54, Tryd.ntmps54
  go_wp2
  go_loop [5, 6] (fun n v => ∃ k : Nat, k ≤ digL (bs s) ∧ n = .int .i64 k ∧ v = .int .i64 (valS ((bs s).take k))) (fun n _ => digL (bs s) - (intOf n).toNat)
  case atStart => exact ⟨0, Nat.zero_le _, rfl, by simp [valS]⟩
  case round =>
    obtain ⟨k, hk, rfl, rfl⟩ := hrel
    obtain ⟨v1, v2⟩ := valS_bd s k hk
    by_cases hlt : k < digL (bs s)
    · obtain ⟨h1, h2⟩ := digL_lt (bs s) k hlt
      have h1' : k < s.size := h1
      have h2' : digB s[k] = true := h2
      obtain ⟨d1, d2⟩ := digB_bd h2'
      clear h2
      have HS := hide (show valS ((bs s).take (k + 1)) = _ from by rw [take_snoc s k h1', valS_snoc])
      generalize valS ((bs s).take k) = v at *
      go_wp2_with (go_at_call 53; refine (token_digit_any _ _).mono ?_; rintro e w' ⟨rfl, rfl⟩)
      go_round
      case rel => exact ⟨k + 1, by omega, by go_num, by rw [HS.out]; congr 1; split <;> omega⟩
      case measure => simp [intOf]; omega
    · obtain rfl : k = digL (bs s) := by omega
      have hx : ¬ digL (bs s) < s.size ∨ ∃ h : digL (bs s) < s.size, digB s[digL (bs s)] = false := by
        by_cases h : digL (bs s) < s.size
        · exact .inr ⟨h, digL_stop (bs s) h⟩
        · exact .inl h
      have hr := intS_eq (bs s)
      cases hz : zeroB (bs s)
      · have hz' := zeroB_no hz h0
        cases ht : tailB (bs s) (digL (bs s))
        · have ht' := tailB_no ht
          by_cases hv : 1073741824 < valS ((bs s).take (digL (bs s)))
          · have H := hide (show intS (bs s) = .error 1 by rw [hr, hz, ht, if_neg (by decide), if_pos hv])
            generalize valS ((bs s).take (digL (bs s))) = v at *
            clear hr hz ht
            rcases hz' with hz' | ⟨hz', hz2⟩ <;> rcases ht' with ht' | ⟨ht', ht2, ht3⟩ <;> rcases hx with hx | ⟨hx, hx2⟩ <;> (try contradiction)
            all_goals
              go_wp2_with (first
                | (go_at_call 53; refine (token_digit_any _ _).mono ?_; rintro e w' ⟨rfl, rfl⟩)
                | (go_at_call 51; refine (token_letter_any _ _).mono ?_; rintro e w' ⟨rfl, rfl⟩))
              refine bodyPost_ret (v := .tuple #[.agg #[.int .i64 0, str [], .int .i64 0, .int .i64 0], .int .i64 0, .int .i64 1]) (by simp [results, Tryd.results54, go_sem]) rfl ⟨OneRes_err H.out (by decide) _ _ _ _ _, ?_⟩
              (repeat (first | exact Below.refl _ _ | assumption | refine Below.drew ?_ | refine below_drewN ?_ _ | refine Below.alloc ?_ (by first | omega | (simp; done) | (simp; omega)) _ | refine Below.setCell ?_ (by first | omega | (simp; done) | (simp; omega)) _))
          · have H := hide (show intS (bs s) = .ok (⟨2, [], valS ((bs s).take (digL (bs s))), 0⟩, digL (bs s)) by rw [hr, hz, ht, if_neg (by decide), if_neg hv])
            generalize valS ((bs s).take (digL (bs s))) = v at *
            clear hr hz ht
            rcases hz' with hz' | ⟨hz', hz2⟩ <;> rcases ht' with ht' | ⟨ht', ht2, ht3⟩ <;> rcases hx with hx | ⟨hx, hx2⟩ <;> (try contradiction)
            all_goals
              go_wp2_with (first
                | (go_at_call 53; refine (token_digit_any _ _).mono ?_; rintro e w' ⟨rfl, rfl⟩)
                | (go_at_call 51; refine (token_letter_any _ _).mono ?_; rintro e w' ⟨rfl, rfl⟩))
              refine bodyPost_ret (v := .tuple #[.agg #[.int .i64 2, str [], .int .i64 v, .int .i64 0], .int .i64 (digL (bs s)), .int .i64 0]) (by simp [results, Tryd.results54, go_sem]) rfl ⟨OneRes_ok H.out rfl rfl, ?_⟩
              (repeat (first | exact Below.refl _ _ | assumption | refine Below.drew ?_ | refine below_drewN ?_ _ | refine Below.alloc ?_ (by first | omega | (simp; done) | (simp; omega)) _ | refine Below.setCell ?_ (by first | omega | (simp; done) | (simp; omega)) _))
        · obtain ⟨ht1, ht2⟩ := tailB_yes ht
          obtain ⟨hx1, hx2⟩ := hx.resolve_left (by omega)
          have H := hide (show intS (bs s) = .error 3 by rw [hr, hz, ht, if_pos (by decide)])
          clear hr hz ht
          rcases hz' with hz' | ⟨hz', hz2⟩ <;> rcases ht2 with ht2 | ⟨ht2, ht3⟩
          all_goals
            go_wp2_with (first
              | (go_at_call 53; refine (token_digit_any _ _).mono ?_; rintro e w' ⟨rfl, rfl⟩)
              | (go_at_call 51; refine (token_letter_any _ _).mono ?_; rintro e w' ⟨rfl, rfl⟩))
            refine bodyPost_ret (v := .tuple #[.agg #[.int .i64 0, str [], .int .i64 0, .int .i64 0], .int .i64 0, .int .i64 3]) (by simp [results, Tryd.results54, go_sem]) rfl ⟨OneRes_err H.out (by decide) _ _ _ _ _, ?_⟩
            (repeat (first | exact Below.refl _ _ | assumption | refine Below.drew ?_ | refine below_drewN ?_ _ | refine Below.alloc ?_ (by first | omega | (simp; done) | (simp; omega)) _ | refine Below.setCell ?_ (by first | omega | (simp; done) | (simp; omega)) _))
      · obtain ⟨_, hz1, hz2⟩ := zeroB_yes hz
        have H := hide (show intS (bs s) = .error 3 by rw [hr, hz, if_pos (by simp)])
        clear hr hz
        rcases hx with hx | ⟨hx, hx2⟩
        all_goals
          go_wp2_with (first
            | (go_at_call 53; refine (token_digit_any _ _).mono ?_; rintro e w' ⟨rfl, rfl⟩)
            | (go_at_call 51; refine (token_letter_any _ _).mono ?_; rintro e w' ⟨rfl, rfl⟩))
          refine bodyPost_ret (v := .tuple #[.agg #[.int .i64 0, str [], .int .i64 0, .int .i64 0], .int .i64 0, .int .i64 3]) (by simp [results, Tryd.results54, go_sem]) rfl ⟨OneRes_err H.out (by decide) _ _ _ _ _, ?_⟩
          (repeat (first | exact Below.refl _ _ | assumption | refine Below.drew ?_ | refine below_drewN ?_ _ | refine Below.alloc ?_ (by first | omega | (simp; done) | (simp; omega)) _ | refine Below.setCell ?_ (by first | omega | (simp; done) | (simp; omega)) _))

end Go.Proofs.YtajcddaahmbllaaDoor
