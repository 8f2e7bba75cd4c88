/- Parts of the proof. -/
import Derived.Test.YtmbeeefkpgfgmaaGreatDoorPp01
import Derived.WalkLawsBesides
set_option linter.unusedVariables false
set_option linter.unusedSimpArgs false
set_option maxHeartbeats 2000000
namespace Go.Proofs.YtmbeeefkpgfgmaaGreatDoor
open Go.Proofs.Tryz
open Go.RowKit
theorem a_q (c : UInt8) (w : World) : Calls prog 210 #[.int .u8 (c.toNat : Int)] w fun e w' => e = .returned (.bool (c_K c)) ∧ w = w' := by
 unfold c_K
 refine t_v ?_; intro hc
 by_cases h1 : 97 ≤ c.toNat
 ·have a1 : (97 : Int) ≤ (c.toNat : Int) := by omega
  go_enter func210, ntmps210
  go_wp2
  all_goals (go_ret; refine ⟨a_g ?_, rfl⟩; first | rfl | (rw [Bool.eq_iff_iff]; simp; omega))
 ·have a1 : ¬ (97 : Int) ≤ (c.toNat : Int) := by omega
  go_enter func210, ntmps210
  go_wp2
  all_goals (go_ret; refine ⟨a_g ?_, rfl⟩; first | rfl | (rw [Bool.eq_iff_iff]; simp; omega))
theorem a_B (c : UInt8) (w : World) : Calls prog 212 #[.int .u8 (c.toNat : Int)] w fun e w' => e = .returned (.bool (c_T c)) ∧ w = w' := by
 unfold c_T
 refine t_v ?_; intro hc
 by_cases h1 : 48 ≤ c.toNat
 ·have a1 : (48 : Int) ≤ (c.toNat : Int) := by omega
  go_enter func212, ntmps212
  go_wp2
  all_goals (go_ret; refine ⟨a_g ?_, rfl⟩; first | rfl | (rw [Bool.eq_iff_iff]; simp; omega))
 ·have a1 : ¬ (48 : Int) ≤ (c.toNat : Int) := by omega
  go_enter func212, ntmps212
  go_wp2
  all_goals (go_ret; refine ⟨a_g ?_, rfl⟩; first | rfl | (rw [Bool.eq_iff_iff]; simp; omega))
theorem a_m (c : UInt8) (w : World) : Calls prog 121 #[.int .u8 (c.toNat : Int)] w fun e w' => e = .returned (.bool (c_K c)) ∧ w = w' := by
 unfold c_K
 refine t_v ?_; intro hc
 by_cases h1 : 97 ≤ c.toNat
 ·have a1 : (97 : Int) ≤ (c.toNat : Int) := by omega
  go_enter func121, ntmps121
  go_wp2
  all_goals (go_ret; refine ⟨a_g ?_, rfl⟩; first | rfl | (rw [Bool.eq_iff_iff]; simp; omega))
 ·have a1 : ¬ (97 : Int) ≤ (c.toNat : Int) := by omega
  go_enter func121, ntmps121
  go_wp2
  all_goals (go_ret; refine ⟨a_g ?_, rfl⟩; first | rfl | (rw [Bool.eq_iff_iff]; simp; omega))
theorem a_A (c : UInt8) (w : World) : Calls prog 123 #[.int .u8 (c.toNat : Int)] w fun e w' => e = .returned (.bool (c_T c)) ∧ w = w' := by
 unfold c_T
 refine t_v ?_; intro hc
 by_cases h1 : 48 ≤ c.toNat
 ·have a1 : (48 : Int) ≤ (c.toNat : Int) := by omega
  go_enter func123, ntmps123
  go_wp2
  all_goals (go_ret; refine ⟨a_g ?_, rfl⟩; first | rfl | (rw [Bool.eq_iff_iff]; simp; omega))
 ·have a1 : ¬ (48 : Int) ≤ (c.toNat : Int) := by omega
  go_enter func123, ntmps123
  go_wp2
  all_goals (go_ret; refine ⟨a_g ?_, rfl⟩; first | rfl | (rw [Bool.eq_iff_iff]; simp; omega))
theorem b_P (s : ByteArray) (w : World) (hs : s.size ≤ maxLen) :
  Calls prog 254 #[.string s] w fun e w' => e = .returned (.int .i64 (a_s (bs s))) ∧ w = w' := by
 unfold maxLen at hs
 have hp := c_D (bs s)
 rw [a_b] at hp
 go_enter func254, ntmps254
 go_wp2
 go_loop [3] (fun n => ∃ k : Nat, k ≤ a_s (bs s) ∧ n = .int .i64 k) (fun n => a_s (bs s) - (intOf n).toNat)
 case atStart => exact ⟨0, Nat.zero_le _, rfl⟩
 case round =>
  obtain ⟨k, hk, rfl⟩ := hrel
  by_cases hlt : k < a_s (bs s)
  ·obtain ⟨h1, h2⟩ := h_c (bs s) k hlt
   have h1' : k < s.size := h1; have h2' : b_S s[k] = true := h2
   rcases f_o h2' with c1 | ⟨c1, c2⟩ | ⟨c1, c2, c3⟩
   all_goals
    clear h2 h2'
    go_wp2_with (first
     | (go_at_call 210; refine (a_q _ _).mono ?_; rintro e w' ⟨rfl, rfl⟩)
     | (go_at_call 212; refine (a_B _ _).mono ?_; rintro e w' ⟨rfl, rfl⟩))
    go_round
    case rel => exact ⟨k + 1, o_, t_⟩
    case measure => simp [intOf]; omega
  ·obtain rfl : k = a_s (bs s) := by omega
   by_cases h1 : a_s (bs s) < s.size
   ·have h2 : b_S s[a_s (bs s)] = false := g_k (bs s) h1
    obtain ⟨c1, c2, c3⟩ := h_4 h2; clear h2
    go_wp2_with (first
     | (go_at_call 210; refine (a_q _ _).mono ?_; rintro e w' ⟨rfl, rfl⟩)
     | (go_at_call 212; refine (a_B _ _).mono ?_; rintro e w' ⟨rfl, rfl⟩))
    exact r_8
   ·go_wp2
    exact r_8
theorem c_v (s : ByteArray) (w : World) (hs : s.size ≤ maxLen) :
  Calls prog 200 #[.string s] w fun e w' => e = .returned (.int .i64 (a_s (bs s))) ∧ w = w' := by
 unfold maxLen at hs
 have hp := c_D (bs s)
 rw [a_b] at hp
 go_enter func200, ntmps200
 go_wp2
 go_loop [3] (fun n => ∃ k : Nat, k ≤ a_s (bs s) ∧ n = .int .i64 k) (fun n => a_s (bs s) - (intOf n).toNat)
 case atStart => exact ⟨0, Nat.zero_le _, rfl⟩
 case round =>
  obtain ⟨k, hk, rfl⟩ := hrel
  by_cases hlt : k < a_s (bs s)
  ·obtain ⟨h1, h2⟩ := h_c (bs s) k hlt
   have h1' : k < s.size := h1; have h2' : b_S s[k] = true := h2
   rcases f_o h2' with c1 | ⟨c1, c2⟩ | ⟨c1, c2, c3⟩
   all_goals
    clear h2 h2'
    go_wp2_with (first
     | (go_at_call 121; refine (a_m _ _).mono ?_; rintro e w' ⟨rfl, rfl⟩)
     | (go_at_call 123; refine (a_A _ _).mono ?_; rintro e w' ⟨rfl, rfl⟩))
    go_round
    case rel => exact ⟨k + 1, o_, t_⟩
    case measure => simp [intOf]; omega
  ·obtain rfl : k = a_s (bs s) := by omega
   by_cases h1 : a_s (bs s) < s.size
   ·have h2 : b_S s[a_s (bs s)] = false := g_k (bs s) h1
    obtain ⟨c1, c2, c3⟩ := h_4 h2; clear h2
    go_wp2_with (first
     | (go_at_call 121; refine (a_m _ _).mono ?_; rintro e w' ⟨rfl, rfl⟩)
     | (go_at_call 123; refine (a_A _ _).mono ?_; rintro e w' ⟨rfl, rfl⟩))
    exact r_8
   ·go_wp2
    exact r_8
def f_d (r : Except Int (Tok × Nat)) (e : Ending) : Prop :=
 match r with
 | .ok x => e = .returned (.tuple #[x.1.agg, .int .i64 (x.2 : Nat), .int .i64 0])
 | .error c => c ≠ 0 ∧ ∃ (t : Tok) (n : Int), e = .returned (.tuple #[t.agg, .int .i64 n, .int .i64 c])
theorem b_C {r : Except Int (Tok × Nat)} {c : Int} (h : r = .error c) (hc : c ≠ 0) (k n o m : Int) (t : a_3) : f_d r (.returned (.tuple #[.agg #[.int .i64 k, str t, .int .i64 n, .int .i64 o], .int .i64 m, .int .i64 c])) := by
 subst h; exact ⟨hc, ⟨k, t, n, o⟩, m, rfl⟩
theorem c_I {r : Except Int (Tok × Nat)} {t : Tok} {n : Nat} (h : r = .ok (t, n)) {v : Value} {m : Int} (hv : v = t.agg) (hm : m = n) : f_d r (.returned (.tuple #[v, .int .i64 m, .int .i64 0])) := by
 subst h hv hm; rfl
theorem d_p (s : ByteArray) (a : Nat) : bs (s.extract a s.size) = (bs s).drop a := by
 rw [b_B, List.take_of_length_le (by rw [a_b]; exact l_ _)]
theorem l_W {s : ByteArray} {p : Nat} (h : p_7 (bs s) p = true) : ∃ h1 : p + 1 < s.size, ((s[p].toNat : Int) == 46) = true ∧ c_K s[p+1] = true := by
 unfold p_7 at h
 by_cases h1 : p + 1 < (bs s).length
 ·rw [dif_pos h1] at h
  simp only [Bool.and_eq_true, beq_iff_eq] at h
  have hp : p < s.size := Nat.lt_of_succ_lt h1
  refine ⟨h1, ?_, h.2⟩
  have : s[p].toNat = 46 := h.1
  simp [this]
 ·rw [dif_neg h1] at h; cases h
theorem o_7 {s : ByteArray} {p : Nat} (h : p_7 (bs s) p = false) : ¬ p + 1 < s.size ∨ ∃ h1 : p + 1 < s.size, ((s[p].toNat : Int) == 46) = false ∨ (((s[p].toNat : Int) == 46) = true ∧ c_K s[p+1] = false) := by
 unfold p_7 at h
 by_cases h1 : p + 1 < (bs s).length
 ·rw [dif_pos h1] at h
  have hp : p < s.size := Nat.lt_of_succ_lt h1
  refine .inr ⟨h1, ?_⟩
  have h : ((s[p].toNat == 46) && c_K s[p+1]) = false := h
  cases h2 : c_K s[p+1]
  ·rw [h2] at h
   by_cases h3 : s[p].toNat = 46
   ·exact .inr ⟨by simp [h3], rfl⟩
   ·exact .inl m_
  ·rw [h2] at h
   left; simp at h ⊢; omega
 ·exact .inl h1
theorem i_x (s : ByteArray) (w : World) (hs : s.size ≤ maxLen) :
  Calls prog 211 #[.string s] w fun e w' => f_d (c_l (bs s)) e ∧ Below w.heap.size w w' := by
 have hs' := hs
 unfold maxLen at hs
 have hp := c_D (bs s)
 rw [a_b] at hp
 by_cases h1 : 24 < a_s (bs s)
 ·have hr : c_l (bs s) = .error 4 := by rw [c_l, if_pos h1]
  have H := a_0 hr
  clear hr
  go_enter func211, ntmps211
  go_wp2_with (go_at_call 254; refine (b_P _ _ hs').mono ?_; rintro e w' ⟨rfl, rfl⟩)
  exact w_i
 ·cases h2 : p_7 (bs s) (a_s (bs s))
  ·have hr : c_l (bs s) = .ok (⟨1, (bs s).take (a_s (bs s)), 0, 0⟩, a_s (bs s)) := by rw [c_l, if_neg h1, h2]; rfl
   have H := a_0 hr; clear hr; have h3 := o_7 h2; clear h2
   rcases h3 with h3 | ⟨h3, h4 | ⟨h4, h5⟩⟩
   all_goals
    go_enter func211, ntmps211
    go_wp2_with (first
     | (go_at_call 254; refine (b_P _ _ hs').mono ?_; rintro e w' ⟨rfl, rfl⟩)
     | (go_at_call 210; refine (a_q _ _).mono ?_; rintro e w' ⟨rfl, rfl⟩))
    refine bodyPost_ret (v := .tuple #[.agg #[.int .i64 1, .string (s.extract 0 (a_s (bs s))), .int .i64 0, .int .i64 0], .int .i64 (a_s (bs s)), .int .i64 0]) (by simp [results, results211, go_sem]) rfl ⟨c_I H.out (by rw [f_t]) rfl, ?_⟩; exact zX
  ·obtain ⟨h3, h4, h5⟩ := l_W h2
   have hq := c_D ((bs s).drop (a_s (bs s) + 1)); rw [List.length_drop, a_b] at hq
   by_cases h6 : 24 < a_s ((bs s).drop (a_s (bs s) + 1))
   ·have hr : c_l (bs s) = .error 4 := by rw [c_l, if_neg h1, if_pos h2, if_pos h6]
    have H := a_0 hr; clear hr h2
    go_enter func211, ntmps211
    go_wp2_with (fail)
    refine (b_P _ _ hs').mono ?_; rintro e w' ⟨rfl, rfl⟩
    go_wp2_with (go_at_call 210; refine (a_q _ _).mono ?_; rintro e w' ⟨rfl, rfl⟩)
    refine (b_P _ _ (by unfold maxLen; simp; omega)).mono ?_; rintro e w' ⟨rfl, rfl⟩; rw [d_p]
    go_wp2
    exact w_i
   ·have hr : c_l (bs s) = .ok (⟨1, (bs s).take (a_s (bs s) + (1 + a_s ((bs s).drop (a_s (bs s) + 1)))), 0, 0⟩, a_s (bs s) + (1 + a_s ((bs s).drop (a_s (bs s) + 1)))) := by rw [c_l, if_neg h1, if_pos h2, if_neg h6]
    have H := a_0 hr; clear hr h2
    go_enter func211, ntmps211
    go_wp2_with (fail)
    refine (b_P _ _ hs').mono ?_; rintro e w' ⟨rfl, rfl⟩
    go_wp2_with (go_at_call 210; refine (a_q _ _).mono ?_; rintro e w' ⟨rfl, rfl⟩)
    refine (b_P _ _ (by unfold maxLen; simp; omega)).mono ?_; rintro e w' ⟨rfl, rfl⟩; rw [d_p]; generalize hg : a_s ((bs s).drop (a_s (bs s) + 1)) = q at *; have HG := a_0 hg; clear hg
    go_wp2
    refine bodyPost_ret (v := .tuple #[.agg #[.int .i64 1, .string (s.extract 0 (a_s (bs s) + (1 + q))), .int .i64 0, .int .i64 0], .int .i64 (a_s (bs s) + (1 + q)), .int .i64 0]) (by simp [results, results211, go_sem]) rfl ⟨c_I H.out (by rw [f_t]) s_, ?_⟩; exact zX
theorem o_K (l : a_3) : c_0 l ≤ l.length := (List.takeWhile_sublist _).length_le
theorem j_w : ∀ (l : a_3) (k : Nat) (_ : k < c_0 l), ∃ h' : k < l.length, c_T (l[k]'h') = true
 | [], k, h => by simp [c_0] at h
 | c :: l, k, h => by
  unfold c_0 at h
  rw [List.takeWhile_cons] at h
  by_cases hc : c_T c = true
  ·rw [if_pos hc] at h
   match k with
   | 0 => exact ⟨s_, by simpa using hc⟩
   | k + 1 =>
    obtain ⟨h1, h2⟩ := j_w l k (by simpa [c_0] using h); exact t_F
  ·rw [if_neg hc] at h; simp at h
theorem i_7 : ∀ (l : a_3) (h : c_0 l < l.length), c_T (l[c_0 l]'h) = false
 | [], h => by simp [c_0] at h
 | c :: l, h => by
  by_cases hc : c_T c = true
  ·have e : c_0 (c :: l) = c_0 l + 1 := by unfold c_0; rw [List.takeWhile_cons, if_pos hc]; simp
   have h' : c_0 l < l.length := by rw [e] at h; simpa using h
   have := i_7 l h'
   simpa [e] using this
  ·have e : c_0 (c :: l) = 0 := by unfold c_0; rw [List.takeWhile_cons, if_neg hc]; simp
   simpa [e] using hc
theorem h_F (s : ByteArray) (k : Nat) (h : k < s.size) : (bs s).take (k + 1) = (bs s).take k ++ [s[k]] := by
 rw [List.take_succ_eq_append_getElem (by rw [a_b]; exact h)]; rfl
theorem h_D (l : a_3) (c : UInt8) : f_X (l ++ [c]) = min (10 * f_X l + ((c.toNat : Int) - 48)) 1073741825 := by
 unfold f_X; rw [List.foldl_append]; rfl
theorem l_8 {c : UInt8} (h : c_T c = true) : (48 : Int) ≤ (c.toNat : Int) ∧ (c.toNat : Int) ≤ 57 := by
 unfold c_T at h; simp at h; omega
theorem j_s (s : ByteArray) : ∀ k, k ≤ c_0 (bs s) → 0 ≤ f_X ((bs s).take k) ∧ f_X ((bs s).take k) ≤ 1073741825
 | 0, _ => by simp [f_X]
 | k + 1, h => by
  obtain ⟨i1, i2⟩ := j_s s k o_
  obtain ⟨h1, h2⟩ := j_w (bs s) k o_
  obtain ⟨d1, d2⟩ := l_8 h2
  have e : (bs s)[k] = s[k]'h1 := rfl
  rw [h_F s k h1, h_D]
  rw [e] at d1 d2
  omega
theorem k_K {s : ByteArray} {p : Nat} (h : j_o (bs s) p = true) : ∃ h1 : p < s.size, c_K s[p] = true ∨ (c_K s[p] = false ∧ ((s[p].toNat : Int) == 95) = true) := by
 unfold j_o at h
 by_cases h1 : p < (bs s).length
 ·rw [dif_pos h1] at h
  refine ⟨h1, ?_⟩
  have h : (c_K (s[p]'h1) || ((s[p]'h1).toNat == 95)) = true := h
  cases h2 : c_K (s[p]'h1)
  ·rw [h2] at h; right; simp at h ⊢; omega
  ·left; rfl
 ·rw [dif_neg h1] at h; cases h
theorem l_Q {s : ByteArray} {p : Nat} (h : j_o (bs s) p = false) : ¬ p < s.size ∨ ∃ h1 : p < s.size, c_K s[p] = false ∧ ((s[p].toNat : Int) == 95) = false := by
 unfold j_o at h
 by_cases h1 : p < (bs s).length
 ·rw [dif_pos h1] at h
  refine .inr ⟨h1, ?_⟩
  have h : (c_K (s[p]'h1) || ((s[p]'h1).toNat == 95)) = false := h
  simp at h ⊢
  exact ⟨h.1, o_⟩
 ·exact .inl h1
def k_T (l : a_3) : Bool := match l with | c :: _ => (c.toNat == 48) && decide (1 < c_0 l) | [] => false
theorem h_E (l : a_3) : i_O l = if k_T l || j_o l (c_0 l) then .error 3 else if 1073741824 < f_X (l.take (c_0 l)) then .error 1 else .ok (⟨2, [], f_X (l.take (c_0 l)), 0⟩, c_0 l) := rfl
theorem k_4 {s : ByteArray} (h : k_T (bs s) = true) : ∃ h0 : 0 < s.size, ((s[0].toNat : Int) == 48) = true ∧ 1 < c_0 (bs s) := by
 unfold k_T at h
 split at h
 ·rename_i c l e
  have h0 : 0 < s.size := by rw [← a_b, e]; simp
  have e1 : s[0] = c := by
    have : (bs s)[0]'e_ = c := by simp [e]
    exact this
  simp at h
  exact ⟨h0, by rw [e1]; simp; omega, h.2⟩
 ·cases h
theorem l_T {s : ByteArray} (h : k_T (bs s) = false) (h0 : 0 < s.size) : ((s[0].toNat : Int) == 48) = false ∨ (((s[0].toNat : Int) == 48) = true ∧ ¬ 1 < c_0 (bs s)) := by
 unfold k_T at h
 split at h
 ·rename_i c l e
  have e1 : s[0] = c := by
    have : (bs s)[0]'e_ = c := by simp [e]
    exact this
  rw [e1]
  by_cases hc : c.toNat = 48
  ·right; simp [hc] at h ⊢; exact h
  ·left; simp; omega
 ·rename_i e
  rw [← a_b, e] at h0; simp at h0
theorem g_v (s : ByteArray) (w : World) (hs : s.size ≤ maxLen) (h0 : 0 < s.size) :
  Calls prog 213 #[.string s] w fun e w' => f_d (i_O (bs s)) e ∧ Below w.heap.size w w' := by
 have hs' := hs
 unfold maxLen at hs
 have hp := o_K (bs s)
 rw [a_b] at hp
 go_enter func213, ntmps213
 go_wp2
 go_loop [5, 6] (fun n v => ∃ k : Nat, k ≤ c_0 (bs s) ∧ n = .int .i64 k ∧ v = .int .i64 (f_X ((bs s).take k))) (fun n _ => c_0 (bs s) - (intOf n).toNat)
 case atStart => exact ⟨0, Nat.zero_le _, rfl, by simp [f_X]⟩
 case round =>
  obtain ⟨k, hk, rfl, rfl⟩ := hrel
  obtain ⟨v1, v2⟩ := j_s s k hk
  by_cases hlt : k < c_0 (bs s)
  ·obtain ⟨h1, h2⟩ := j_w (bs s) k hlt
   have h1' : k < s.size := h1; have h2' : c_T s[k] = true := h2; obtain ⟨d1, d2⟩ := l_8 h2'; clear h2; have HS := a_0 (show f_X ((bs s).take (k + 1)) = _ from by rw [h_F s k h1', h_D]); generalize f_X ((bs s).take k) = v at *
   go_wp2_with (go_at_call 212; refine (a_B _ _).mono ?_; rintro e w' ⟨rfl, rfl⟩)
   go_round
   case rel => exact ⟨k + 1, o_, t_, by rw [HS.out]; congr 1; split <;> omega⟩
   case measure => simp [intOf]; omega
  ·obtain rfl : k = c_0 (bs s) := by omega
   have hx : ¬ c_0 (bs s) < s.size ∨ ∃ h : c_0 (bs s) < s.size, c_T s[c_0 (bs s)] = false := by
    by_cases h : c_0 (bs s) < s.size
    ·exact .inr ⟨h, i_7 (bs s) h⟩
    ·exact .inl h
   have hr := h_E (bs s)
   cases hz : k_T (bs s)
   ·have hz' := l_T hz h0
    cases ht : j_o (bs s) (c_0 (bs s))
    ·have ht' := l_Q ht
     by_cases hv : 1073741824 < f_X ((bs s).take (c_0 (bs s)))
     ·have H := a_0 (show i_O (bs s) = .error 1 by rw [hr, hz, ht, if_neg d_, if_pos hv])
      generalize f_X ((bs s).take (c_0 (bs s))) = v at *; clear hr hz ht
      rcases hz' with hz' | ⟨hz', hz2⟩ <;> rcases ht' with ht' | ⟨ht', ht2, ht3⟩ <;> rcases hx with hx | ⟨hx, hx2⟩ <;> (try contradiction)
      all_goals
       go_wp2_with (first
        | (go_at_call 212; refine (a_B _ _).mono ?_; rintro e w' ⟨rfl, rfl⟩)
        | (go_at_call 210; refine (a_q _ _).mono ?_; rintro e w' ⟨rfl, rfl⟩))
       refine bodyPost_ret (v := .tuple #[.agg #[.int .i64 0, str [], .int .i64 0, .int .i64 0], .int .i64 0, .int .i64 1]) (by simp [results, results213, go_sem]) rfl ⟨b_C H.out d_ _ _ _ _ _, ?_⟩; exact zX
     ·have H := a_0 (show i_O (bs s) = .ok (⟨2, [], f_X ((bs s).take (c_0 (bs s))), 0⟩, c_0 (bs s)) by rw [hr, hz, ht, if_neg d_, if_neg hv])
      generalize f_X ((bs s).take (c_0 (bs s))) = v at *; clear hr hz ht
      rcases hz' with hz' | ⟨hz', hz2⟩ <;> rcases ht' with ht' | ⟨ht', ht2, ht3⟩ <;> rcases hx with hx | ⟨hx, hx2⟩ <;> (try contradiction)
      all_goals
       go_wp2_with (first
        | (go_at_call 212; refine (a_B _ _).mono ?_; rintro e w' ⟨rfl, rfl⟩)
        | (go_at_call 210; refine (a_q _ _).mono ?_; rintro e w' ⟨rfl, rfl⟩))
       refine bodyPost_ret (v := .tuple #[.agg #[.int .i64 2, str [], .int .i64 v, .int .i64 0], .int .i64 (c_0 (bs s)), .int .i64 0]) (by simp [results, results213, go_sem]) rfl ⟨c_I H.out rfl rfl, ?_⟩; exact zX
    ·obtain ⟨ht1, ht2⟩ := k_K ht
     obtain ⟨hx1, hx2⟩ := hx.resolve_left o_; have H := a_0 (show i_O (bs s) = .error 3 by rw [hr, hz, ht, if_pos d_]); clear hr hz ht
     rcases hz' with hz' | ⟨hz', hz2⟩ <;> rcases ht2 with ht2 | ⟨ht2, ht3⟩
     all_goals
      go_wp2_with (first
       | (go_at_call 212; refine (a_B _ _).mono ?_; rintro e w' ⟨rfl, rfl⟩)
       | (go_at_call 210; refine (a_q _ _).mono ?_; rintro e w' ⟨rfl, rfl⟩))
      exact w_e
   ·obtain ⟨_, hz1, hz2⟩ := k_4 hz
    have H := a_0 (show i_O (bs s) = .error 3 by rw [hr, hz, if_pos s_]); clear hr hz
    rcases hx with hx | ⟨hx, hx2⟩
    all_goals
     go_wp2_with (first
      | (go_at_call 212; refine (a_B _ _).mono ?_; rintro e w' ⟨rfl, rfl⟩)
      | (go_at_call 210; refine (a_q _ _).mono ?_; rintro e w' ⟨rfl, rfl⟩))
     exact w_e
theorem Tryz.info_u8 : (prog.info? 5).map (fun i => (i.zero, i.size, i.bytes)) = some (some (.int .u8 0), 1, 1) := by kernel_rfl
theorem Tryz.info_tok : (prog.info? 99).map (fun i => (i.zero, i.size, i.bytes)) = some (some (.agg #[.int .i64 0, .string ⟨#[]⟩, .int .i64 0, .int .i64 0]), 4, 40) := by kernel_rfl
set_option maxRecDepth 100000
theorem g_l (s : ByteArray) (w : World) (hs : s.size ≤ 140737488355328) (h0 : 0 < s.size) :
  Calls prog 214 #[.string s] w fun e w' => f_d (i_h (bs s)) e ∧ Below w.heap.size w w' := by
 obtain ⟨i0, hi, hz0, hz1, hz2⟩ := info_parts Tryz.info_u8
 go_enter func214, ntmps214
 go_wp2
 go_loopw [5, 6] (fun v i wr => ∃ (k : Nat) (b : a_3) (A : Option Addr) (c : Nat), v = .slice A b.length c ∧ i = .int .i64 k ∧ k ≤ s.size ∧ f_Q (bs s) k b ∧
   wr.ownsRow (w.heap.size + 1) 5 1 (.slice A b.length c) b.length (b.map k_G) ∧ Below (w.heap.size + 1) (w.alloc (.cells #[.int .i64 0, .string ⟨#[]⟩, .int .i64 0, .int .i64 0] 99)) wr)
  (fun _ i _ => s.size - (intOf i).toNat)
 case atStart => exact ⟨1, [], none, 0, rfl, rfl, o_, g_D _, a_o _ _ _ _, b_ _ _⟩
 case round =>
  obtain ⟨k, b, A, c, rfl, rfl, hk, hrel, hown, hbel⟩ := hrel
  have hheap := d_g hbel (Nat.lt_succ_self _)
  have hc0 := a_2 hheap 0
  have hc1 := a_2 hheap 1
  have hc2 := a_2 hheap 2
  have hc3 := a_2 hheap 3
  have hf0 := b_F hheap 0
  have hf1 := b_F hheap 1
  have hf2 := b_F hheap 2
  have hf3 := b_F hheap 3
  have hwlt := a_6 hheap
  clear hheap
  have hb0 : Below w.heap.size w wr := ((b_ _ _).alloc (l_ _) _).trans (hbel.mono (Nat.le_succ _))
  have hb1 : b.length + 1 ≤ k := hrel.2.1
  by_cases hlt : k < s.size
  ·by_cases hc : s[k].toNat = 39
   ·have hc' : ((s[k].toNat : Int) == 39) = true := by simp; omega
    by_cases hd : ∃ h : k + 1 < s.size, s[k+1].toNat = 39
    ·obtain ⟨hd1, hd2⟩ := hd
     have hrel' := h_A hrel hd1 hc hd2; have hd' : ((s[k+1].toNat : Int) != 39) = false := by simp; omega
     have he' : ((k : Int) + 1 == (s.size : Int)) = false := by simp; omega
     clear hc hrel hd2
     go_wp2_with (at_builtin; refine wpList_append_own _ rfl _ _ 155 rfl (w.heap.size + 1) 5 i0 (.int .u8 0) 1 1 underlying155 hi hz0 hz1 hz2 rfl d_ _ _ _ rfl (hown.alloc _) ⟨wr.heap.size, 0, none⟩ 1 1 [k_G s[k+1]] rfl rfl (cell_one_new _ _ _) c_ x_ o_ m_ ?_; intro v' w1 hown' hgrow _)
     refine r_t ?_; intro hb2; obtain ⟨A', c', rfl⟩ := a_i hown'; exact ⟨⟨k + 2, b ++ [s[k+1]], A', c', s_, t_, o_, hrel', by simpa using hown', hb2⟩, w_⟩
    ·have hd' : ∀ h : k + 1 < s.size, s[k+1].toNat ≠ 39 := fun h e => hd ⟨h, e⟩
     have hr := g_H hrel hlt hc hd'; clear hc hrel
     have hx : ((k : Int) + 1 == (s.size : Int)) = true ∨ (((k : Int) + 1 == (s.size : Int)) = false ∧ ∃ h : k + 1 < s.size, ((s[k+1].toNat : Int) != 39) = true) := by
      by_cases h : k + 1 < s.size
      ·have := hd' h
       exact .inr ⟨m_, h, m_⟩
      ·exact .inl m_
     clear hd hd'
     by_cases h64 : 64 < b.length
     ·have H := a_0 (show i_h (bs s) = .error 2 by rw [hr, if_pos h64])
      clear hr
      rcases hx with hx | ⟨hx, hx1, hx2⟩
      all_goals
       go_wp2
       refine bodyPost_ret (v := .tuple #[.agg #[.int .i64 0, str [], .int .i64 0, .int .i64 0], .int .i64 0, .int .i64 2]) (by simp [results, results214, go_sem, hc0, hc1, hc2, hc3]) rfl ⟨b_C H.out d_ _ _ _ _ _, ?_⟩; exact zX
     ·have H := a_0 (show i_h (bs s) = .ok (⟨3, b, 0, 0⟩, k + 1) by rw [hr, if_neg h64])
      clear hr; have hcv := g_B (P := prog) (w := wr) (dst := 9) underlying155 underlying5 underlying9 hown
      rcases hx with hx | ⟨hx, hx1, hx2⟩
      all_goals
       go_wp2
       refine bodyPost_ret (v := .tuple #[.agg #[.int .i64 3, str b, .int .i64 0, .int .i64 0], .int .i64 (k + 1), .int .i64 0]) (by simp [results, results214, go_sem, hc0, hc1, hc2, hc3]) rfl ⟨c_I H.out rfl s_, ?_⟩; exact zX
   ·have hrel' := g_O hrel hlt hc
    have hc' : ((s[k].toNat : Int) == 39) = false := by simp; omega
    clear hc hrel
    go_wp2_with (at_builtin; refine wpList_append_own _ rfl _ _ 155 rfl (w.heap.size + 1) 5 i0 (.int .u8 0) 1 1 underlying155 hi hz0 hz1 hz2 rfl d_ _ _ _ rfl (hown.alloc _) ⟨wr.heap.size, 0, none⟩ 1 1 [k_G s[k]] rfl rfl (cell_one_new _ _ _) c_ x_ o_ m_ ?_; intro v' w1 hown' hgrow _)
    refine r_t ?_; intro hb2; exact w_2
  ·have hr := i_S hrel hlt
   have H := a_0 hr; clear hr hrel
   go_wp2
   refine bodyPost_ret (v := .tuple #[.agg #[.int .i64 0, str [], .int .i64 0, .int .i64 0], .int .i64 0, .int .i64 3]) (by simp [results, results214, go_sem, hc0, hc1, hc2, hc3]) rfl ⟨b_C H.out d_ _ _ _ _ _, ?_⟩; exact zX
end Go.Proofs.YtmbeeefkpgfgmaaGreatDoor
