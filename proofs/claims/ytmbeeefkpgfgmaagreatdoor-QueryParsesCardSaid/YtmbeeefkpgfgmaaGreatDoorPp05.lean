/- Parts of the proof. -/
import Derived.Deep.RegionWith
import Derived.Test.YtmbeeefkpgfgmaaGreatDoorPp03
set_option linter.unusedVariables false
set_option linter.unusedSimpArgs false
set_option maxHeartbeats 4000000
namespace Go.Proofs.YtmbeeefkpgfgmaaGreatDoor
open Go.Proofs.Tryz
open Go.RowKit
theorem f_b (y : Int) (w : World) (hy : 0 ≤ y) : Calls prog 301 #[.int .i64 y] w fun e w' => e = .returned (.bool (g_W y)) ∧ w = w' := by
 have hr : g_W y = decide (y % 4 = 0 ∧ y % 100 ≠ 0 ∨ y % 400 = 0) := by unfold g_W; rw [Bool.eq_iff_iff]; simp
 have H := a_0 hr
 clear hr
 by_cases h4 : y % 4 = 0
 ·by_cases h100 : y % 100 = 0
  ·have a1 : (y % 4 == 0) = true := by simp [h4]
   have a2 : (y % 100 != 0) = false := by simp [h100]
   have g4 := a_0 h4; have g100 := a_0 h100; clear h4 h100
   go_enter func301, ntmps301
   go_wp2
   go_ret
   refine ⟨a_g ?_, rfl⟩; have h4 := g4.out; have h100 := g100.out; rw [H.out, Bool.eq_iff_iff]; simp; try omega
  ·have a1 : (y % 4 == 0) = true := by simp [h4]
   have a2 : (y % 100 != 0) = true := by simp [h100]
   have g4 := a_0 h4; have g100 := a_0 h100; clear h4 h100
   go_enter func301, ntmps301
   go_wp2
   go_ret
   refine ⟨a_g ?_, rfl⟩; have h4 := g4.out; have h100 := g100.out; rw [H.out]; symm; simp; try omega
 ·have a1 : (y % 4 == 0) = false := by simp [h4]
  have g4 := a_0 h4
  clear h4
  go_enter func301, ntmps301
  go_wp2
  go_ret
  refine ⟨a_g ?_, rfl⟩
  have h4 := g4.out
  rw [H.out, Bool.eq_iff_iff]; simp; try omega
theorem e_6 (y : Int) (w : World) (hy : 0 ≤ y) : Calls prog 246 #[.int .i64 y] w fun e w' => e = .returned (.bool (g_W y)) ∧ w = w' := by
 have hr : g_W y = decide (y % 4 = 0 ∧ y % 100 ≠ 0 ∨ y % 400 = 0) := by unfold g_W; rw [Bool.eq_iff_iff]; simp
 have H := a_0 hr
 clear hr
 by_cases h4 : y % 4 = 0
 ·by_cases h100 : y % 100 = 0
  ·have a1 : (y % 4 == 0) = true := by simp [h4]
   have a2 : (y % 100 != 0) = false := by simp [h100]
   have g4 := a_0 h4; have g100 := a_0 h100; clear h4 h100
   go_enter func246, ntmps246
   go_wp2
   go_ret
   refine ⟨a_g ?_, rfl⟩; have h4 := g4.out; have h100 := g100.out; rw [H.out, Bool.eq_iff_iff]; simp; try omega
  ·have a1 : (y % 4 == 0) = true := by simp [h4]
   have a2 : (y % 100 != 0) = true := by simp [h100]
   have g4 := a_0 h4; have g100 := a_0 h100; clear h4 h100
   go_enter func246, ntmps246
   go_wp2
   go_ret
   refine ⟨a_g ?_, rfl⟩; have h4 := g4.out; have h100 := g100.out; rw [H.out]; symm; simp; try omega
 ·have a1 : (y % 4 == 0) = false := by simp [h4]
  have g4 := a_0 h4
  clear h4
  go_enter func246, ntmps246
  go_wp2
  go_ret
  refine ⟨a_g ?_, rfl⟩
  have h4 := g4.out
  rw [H.out, Bool.eq_iff_iff]; simp; try omega
theorem f_I (y : Int) : g_W y = true ∨ g_W y = false := by cases g_W y <;> simp
theorem p_J (y : Int) : ∀ k : Nat, k < 12 → k ≠ 1 → j_I y ((k : Int) + 1) = g_J.getD k 0
 | 0, _, _ => rfl
 | 1, _, h => absurd rfl h
 | 2, _, _ => rfl
 | 3, _, _ => rfl
 | 4, _, _ => rfl
 | 5, _, _ => rfl
 | 6, _, _ => rfl
 | 7, _, _ => rfl
 | 8, _, _ => rfl
 | 9, _, _ => rfl
 | 10, _, _ => rfl
 | 11, _, _ => rfl
 | k + 12, h, _ => by omega
theorem m_2 (y : Int) : j_I y 2 = if g_W y = true then 29 else 28 := rfl
theorem g_n (y m : Int) : 28 ≤ j_I y m ∧ j_I y m ≤ 31 := by
 unfold j_I; repeat' split
 all_goals omega
theorem h_9 (y : Int) : 365 ≤ i_w y ∧ i_w y ≤ 366 := by unfold i_w; split <;> omega
theorem d_9 (y m : Int) (w : World) (hG : e_t w 5) (hy : 0 ≤ y) (h1 : 1 ≤ m) (h12 : m ≤ 12) : Calls prog 275 #[.int .i64 y, .int .i64 m] w fun e w' => e = .returned (.int .i64 (j_I y m)) ∧ w = w' := by
 have hc := hG.2
 clear hG
 by_cases h2 : m = 2
 ·subst h2
  have hk := hc 1 o_
  simp [g_J] at hk
  clear hc
  rcases f_I y with hl | hl
  all_goals
   have H := a_0 (show j_I y 2 = _ by rw [m_2, hl])
   go_enter func275, ntmps275
   go_wp2_with (go_at_call 301; refine (f_b _ _ hy).mono ?_; rintro e w' ⟨rfl, rfl⟩)
   exact v_2
 ·obtain ⟨k, rfl⟩ : ∃ k : Nat, m = (k : Int) + 1 := ⟨(m - 1).toNat, o_⟩
  have H := a_0 (p_J y k o_ o_)
  have hk := hc k o_
  have hz : ((k : Int) + 1 == 2) = false := by simp; omega
  clear hc h2
  generalize g_J.getD k 0 = v at *
  go_enter func275, ntmps275
  go_wp2
  go_ret
  exact ⟨a_k (by rw [H.out]), rfl⟩
theorem b_X (y m : Int) (w : World) (hy : 0 ≤ y) (h1 : 1 ≤ m) (h12 : m ≤ 12) : Calls prog 245 #[.int .i64 y, .int .i64 m] w fun e w' => e = .returned (.int .i64 (j_I y m)) ∧ w = w' := by
 rcases (show m = 1 ∨ m = 2 ∨ m = 3 ∨ m = 4 ∨ m = 5 ∨ m = 6 ∨ m = 7 ∨ m = 8 ∨ m = 9 ∨ m = 10 ∨ m = 11 ∨ m = 12 by omega) with rfl | rfl | rfl | rfl | rfl | rfl | rfl | rfl | rfl | rfl | rfl | rfl
 case inr.inl =>
  rcases f_I y with hl | hl
  all_goals
   have H := a_0 (show j_I y 2 = _ by rw [m_2, hl])
   go_enter func245, ntmps245
   go_wp2_with (go_at_call 246; refine (e_6 _ _ hy).mono ?_; rintro e w' ⟨rfl, rfl⟩)
   exact v_2
 all_goals
  go_enter func245, ntmps245
  go_wp2
  go_ret
  exact ⟨a_k rfl, rfl⟩
theorem f_y (y : Int) (w : World) (hy : 0 ≤ y) : Calls prog 276 #[.int .i64 y] w fun e w' => e = .returned (.int .i64 (i_w y)) ∧ w = w' := by
 rcases f_I y with hl | hl
 all_goals
  have H := a_0 (show i_w y = _ by unfold i_w; rw [hl])
  go_enter func276, ntmps276
  go_wp2_with (go_at_call 301; refine (f_b _ _ hy).mono ?_; rintro e w' ⟨rfl, rfl⟩)
  exact v_2
def a_R (l : a_3) : Bool := l.all c_T
theorem j_M (l : a_3) (c : UInt8) : c_W (l ++ [c]) = 10 * c_W l + ((c.toNat : Int) - 48) := by
 unfold c_W; rw [List.foldl_append]; rfl
theorem m_P {s : ByteArray} (h : a_R (bs s) = true) (k : Nat) (hk : k < s.size) : (48 : Int) ≤ (s[k].toNat : Int) ∧ (s[k].toNat : Int) ≤ 57 := by
 have : c_T s[k] = true := by
  unfold a_R at h
  rw [List.all_eq_true] at h
  exact h _ (List.getElem_mem (l := bs s) (by rw [a_b]; exact hk))
 unfold c_T at this; simp at this; omega
theorem j_m : ∀ (l : a_3), a_R l = true → l.length ≤ 4 → 0 ≤ c_W l ∧ c_W l ≤ 9999
 | [], _, _ => by simp [c_W]
 | [a], h, _ => by simp [a_R, c_T] at h; simp [c_W]; omega
 | [a, b], h, _ => by simp [a_R, c_T] at h; simp [c_W]; omega
 | [a, b, c], h, _ => by simp [a_R, c_T] at h; simp [c_W]; omega
 | [a, b, c, d], h, _ => by simp [a_R, c_T] at h; simp [c_W]; omega
 | a :: b :: c :: d :: e :: l, _, hl => by simp at hl
theorem c_U : ∀ (l : a_3), a_R l = true → l.length ≤ 2 → 0 ≤ c_W l ∧ c_W l ≤ 99
 | [], _, _ => by simp [c_W]
 | [a], h, _ => by simp [a_R, c_T] at h; simp [c_W]; omega
 | [a, b], h, _ => by simp [a_R, c_T] at h; simp [c_W]; omega
 | a :: b :: c :: l, _, hl => by simp at hl
theorem l_6 {l : a_3} (h : a_R l = true) (k : Nat) : a_R (l.take k) = true := by
 unfold a_R at *; rw [List.all_eq_true] at *; exact fun x hx => h x (List.mem_of_mem_take hx)
theorem g_q (s : ByteArray) (k : Nat) (h : k < s.size) : (bs s).take (k + 1) = (bs s).take k ++ [s[k]] := by
 rw [List.take_succ_eq_append_getElem (by rw [a_b]; exact h)]; rfl
theorem b_L (s : ByteArray) (w : World) (hs : s.size ≤ 4) (hd : a_R (bs s) = true) : Calls prog 255 #[.string s] w fun e w' => e = .returned (.int .i64 (c_W (bs s))) ∧ w = w' := by
 have HD := a_0 hd
 clear hd
 go_enter func255, ntmps255
 go_wp2
 go_loop [3, 7] (fun v i => ∃ k : Nat, k ≤ s.size ∧ i = .int .i64 k ∧ v = .int .i64 (c_W ((bs s).take k))) (fun _ i => s.size - (intOf i).toNat)
 case atStart => exact ⟨0, Nat.zero_le _, rfl, by simp [c_W]⟩
 case round =>
  obtain ⟨k, hk, rfl, rfl⟩ := hrel
  obtain ⟨v1, v2⟩ := j_m _ (l_6 HD.out k) (by simp; rw [a_b]; omega)
  by_cases hlt : k < s.size
  ·obtain ⟨d1, d2⟩ := m_P HD.out k hlt
   have HS := a_0 (show c_W ((bs s).take (k + 1)) = _ from by rw [g_q s k hlt, j_M]); generalize c_W ((bs s).take k) = v at *
   go_wp2
   go_round
   case rel => exact ⟨k + 1, o_, t_, by rw [HS.out]⟩
   case measure => simp [intOf]; omega
  ·obtain rfl : k = s.size := by omega
   have HS := a_0 (show (bs s).take s.size = bs s from List.take_of_length_le (by rw [a_b]; exact l_ _))
   go_wp2
   go_ret
   exact ⟨a_k (by rw [HS.out]), rfl⟩
def b_U (l : a_3) : Int := if a_R l = true then c_W l else -1
theorem j_U {s : ByteArray} {k : Nat} (hk : k < s.size) (h : c_T s[k] = false) : b_U (bs s) = -1 := by
 unfold b_U
 rw [if_neg]
 intro ha
 unfold a_R at ha
 rw [List.all_eq_true] at ha
 have := ha _ (List.getElem_mem (l := bs s) (by rw [a_b]; exact hk))
 have this : c_T s[k] = true := this
 rw [h] at this; cases this
theorem c_5 (s : ByteArray) (w : World) (hs : s.size ≤ 4) : Calls prog 201 #[.string s] w fun e w' => e = .returned (.int .i64 (b_U (bs s))) ∧ w = w' := by
 go_enter func201, ntmps201
 go_wp2
 go_loop [3, 4] (fun v i => ∃ k : Nat, k ≤ s.size ∧ i = .int .i64 k ∧ v = .int .i64 (c_W ((bs s).take k)) ∧ a_R ((bs s).take k) = true) (fun _ i => s.size - (intOf i).toNat)
 case atStart => exact ⟨0, Nat.zero_le _, rfl, by simp [c_W], by simp [a_R]⟩
 case round =>
  obtain ⟨k, hk, rfl, rfl, ha⟩ := hrel
  obtain ⟨v1, v2⟩ := j_m _ ha (by simp; rw [a_b]; omega)
  have HA := a_0 ha
  clear ha
  by_cases hlt : k < s.size
  ·by_cases hc : c_T s[k] = true
   ·have d : (48 : Int) ≤ (s[k].toNat : Int) ∧ (s[k].toNat : Int) ≤ 57 := by unfold c_T at hc; simp at hc; omega
    obtain ⟨d1, d2⟩ := d; have HS := a_0 (show c_W ((bs s).take (k + 1)) = _ from by rw [g_q s k hlt, j_M]); have HA' := a_0 (show a_R ((bs s).take (k + 1)) = true from by rw [g_q s k hlt]; unfold a_R at *; simp [HA.out, hc]); clear hc; generalize c_W ((bs s).take k) = v at *
    go_wp2
    go_round
    case rel => exact ⟨k + 1, o_, t_, by rw [HS.out]; congr 1; omega, HA'.out⟩
    case measure => simp [intOf]; omega
   ·have hc' : c_T s[k] = false := by simpa using hc
    have HS := a_0 (j_U hlt hc'); have d : (s[k].toNat : Int) < 48 ∨ (¬ (s[k].toNat : Int) < 48 ∧ 57 < (s[k].toNat : Int)) := by unfold c_T at hc'; simp at hc'; omega
    clear hc hc'
    rcases d with d | ⟨d1, d2⟩
    all_goals
     go_wp2
     go_ret
     exact ⟨a_k (by rw [HS.out]), rfl⟩
  ·obtain rfl : k = s.size := by omega
   have HS := a_0 (show (bs s).take s.size = bs s from List.take_of_length_le (by rw [a_b]; exact l_ _))
   go_wp2
   go_ret
   refine ⟨a_k ?_, rfl⟩; have h1 := HA.out; rw [HS.out] at h1; rw [HS.out, b_U, if_pos h1]
theorem h_k : ∀ k : Nat, 365 * (k : Int) ≤ g_e k ∧ g_e k ≤ 366 * (k : Int)
 | 0 => by simp [g_e]
 | k + 1 => by
  have := h_k k
  have := h_9 (1970 + k)
  simp only [g_e]; omega
theorem h_G (y : Int) : ∀ k : Nat, 0 ≤ g_w y k ∧ g_w y k ≤ 31 * (k : Int)
 | 0 => by simp [g_w]
 | k + 1 => by
  have := h_G y k
  have := g_n y (1 + k)
  simp only [g_w]; omega
def j_c (r : Option Int) (e : Ending) : Prop :=
 match r with
 | some n => e = .returned (.tuple #[.int .i64 n, .bool true])
 | none => e = .returned (.tuple #[.int .i64 0, .bool false])
theorem n_0 {r : Option Int} (h : r = none) : j_c r (.returned (.tuple #[.int .i64 0, .bool false])) := by subst h; rfl
theorem h_Q {r : Option Int} {n : Int} (h : r = some n) : j_c r (.returned (.tuple #[.int .i64 n, .bool true])) := by subst h; rfl
theorem l_J {y m d : Int} (Y : Int) (hY : Y = 3065 ∨ Y = 3066) (h : k_A y m d = false) : y < 1970 ∨ (¬ y < 1970 ∧ Y < y) ∨ (¬ y < 1970 ∧ ¬ Y < y ∧ m < 1) ∨ (¬ y < 1970 ∧ ¬ Y < y ∧ ¬ m < 1 ∧ 12 < m) ∨
  (¬ y < 1970 ∧ ¬ Y < y ∧ ¬ m < 1 ∧ ¬ 12 < m ∧ d < 1) ∨ (¬ y < 1970 ∧ ¬ Y < y ∧ ¬ m < 1 ∧ ¬ 12 < m ∧ ¬ d < 1 ∧ j_I y m < d) ∨ (y = 3066 ∧ Y = 3066 ∧ 1 ≤ m ∧ m ≤ 12 ∧ 1 ≤ d ∧ d ≤ j_I y m) := by
 unfold k_A at h; simp at h
 by_cases h1 : y < 1970
 ·exact .inl h1
 by_cases h2 : Y < y
 ·exact .inr (.inl ⟨h1, h2⟩)
 by_cases h3 : m < 1
 ·exact .inr (.inr (.inl ⟨h1, h2, h3⟩))
 by_cases h4 : 12 < m
 ·exact .inr (.inr (.inr (.inl ⟨h1, h2, h3, h4⟩)))
 by_cases h5 : d < 1
 ·exact .inr (.inr (.inr (.inr (.inl ⟨h1, h2, h3, h4, h5⟩))))
 by_cases h6 : j_I y m < d
 ·exact .inr (.inr (.inr (.inr (.inr (.inl ⟨h1, h2, h3, h4, h5, h6⟩)))))
 ·refine .inr (.inr (.inr (.inr (.inr (.inr ⟨?_, ?_, o_, o_, o_, o_⟩)))))
  ·rcases hY with rfl | rfl
   ·have := h o_ o_ o_ o_ o_; omega
   ·by_cases e : y = 3066
    ·exact e
    ·have := h o_ o_ o_ o_ o_; omega
  ·rcases hY with rfl | rfl
   ·have := h o_ o_ o_ o_ o_; omega
   ·rfl
set_option maxRecDepth 100000
theorem f_e (y m d : Int) (w : World) (hG : e_t w 5) (hy0 : -100000 ≤ y) (hy1 : y ≤ 100000) (hm0 : -100000 ≤ m) (hm1 : m ≤ 100000) (hd0 : -100000 ≤ d) (hd1 : d ≤ 100000) :
  Calls prog 256 #[.int .i64 y, .int .i64 m, .int .i64 d] w fun e w' => j_c (e_j y m d) e ∧ w = w' := by
 have HG := a_0 hG
 clear hG
 cases hb : k_A y m d
 ·have H := a_0 (show e_j y m d = none by unfold e_j; rw [hb]; rfl)
  have hn := l_J 3065 (.inl rfl) hb
  clear hb
  rcases hn with h1 | ⟨h1, h2⟩ | ⟨h1, h2, h3⟩ | ⟨h1, h2, h3, h4⟩ | ⟨h1, h2, h3, h4, h5⟩ | ⟨h1, h2, h3, h4, h5, h6⟩ | ⟨_, h, _⟩
  case inr.inr.inr.inr.inr.inr => omega
  all_goals
   go_enter func256, ntmps256
   go_wp2_with (go_at_call 275; refine (d_9 _ _ _ HG.out o_ o_ o_).mono ?_; rintro e w' ⟨rfl, rfl⟩)
   exact s_Q
 ·have hb' := hb
  unfold k_A at hb'; simp at hb'
  obtain ⟨⟨⟨⟨⟨h1, h2⟩, h3⟩, h4⟩, h5⟩, h6⟩ := hb'
  refine w_r ?_; intro hbd hr HR
  clear hr hb
  go_enter func256, ntmps256
  go_wp2_with (go_at_call 275; refine (d_9 _ _ _ HG.out o_ o_ o_).mono ?_; rintro e w' ⟨rfl, rfl⟩)
  go_loop [8, 9] (fun n i => ∃ k : Nat, (k : Int) ≤ y - 1970 ∧ i = .int .i64 (1970 + k) ∧ n = .int .i64 (d - 1 + g_e k)) (fun _ i => (y - intOf i).toNat)
  case atStart => exact ⟨0, o_, rfl, by simp [g_e]⟩
  case round =>
   obtain ⟨k, hk, rfl, rfl⟩ := hrel; have hs := h_k k; have hyd := h_9 (1970 + k)
   by_cases hlt : (1970 : Int) + k < y
   ·have HS := a_0 (show g_e (k + 1) = g_e k + i_w (1970 + k) from rfl)
    generalize g_e k = v at *
    go_wp2_with (go_at_call 276; refine (f_y _ _ o_).mono ?_; rintro e w' ⟨rfl, rfl⟩)
    go_round
    case rel => exact ⟨k + 1, o_, t_, by rw [HS.out]; congr 1; omega⟩
    case measure => simp [intOf]; omega
   ·have hk' : k = (y - 1970).toNat := by omega
    have HK := a_0 hk'; clear hk'; generalize hv : g_e k = v at *; have HV := a_0 hv; clear hv
    go_wp2
    go_loop [8, 10] (fun n i => ∃ j : Nat, (j : Int) ≤ m - 1 ∧ i = .int .i64 (1 + j) ∧ n = .int .i64 (d - 1 + v + g_w y j)) (fun _ i => (m - intOf i).toNat)
    case atStart => exact ⟨0, o_, rfl, by simp [g_w]⟩
    case round =>
     obtain ⟨j, hj, rfl, rfl⟩ := hrel; have hs2 := h_G y j; have hld := g_n y (1 + j)
     by_cases hlt2 : (1 : Int) + j < m
     ·have HS := a_0 (show g_w y (j + 1) = g_w y j + j_I y (1 + j) from rfl)
      generalize g_w y j = u at *
      go_wp2_with (go_at_call 275; refine (d_9 _ _ _ HG.out o_ o_ o_).mono ?_; rintro e w' ⟨rfl, rfl⟩)
      go_round
      case rel => exact ⟨j + 1, o_, t_, by rw [HS.out]; congr 1; omega⟩
      case measure => simp [intOf]; omega
     ·have hj' : j = (m - 1).toNat := by omega
      have HN := a_0 (show q_k y m d = d - 1 + v + g_w y j by unfold q_k; rw [← HK.out, HV.out, ← hj']); clear hj'; generalize g_w y j = u at *
      by_cases hbig : 400000 < d - 1 + v + u
      ·have H := a_0 (show e_j y m d = none by rw [HR.out, HN.out, if_pos hbig])
       go_wp2
       exact s_Q
      ·have H := a_0 (show e_j y m d = some (d - 1 + v + u) by rw [HR.out, HN.out, if_neg hbig])
       go_wp2
       go_ret2
       exact ⟨h_Q H.out, rfl⟩
set_option maxRecDepth 100000
theorem f_P (y m d : Int) (w : World) (hy0 : -100000 ≤ y) (hy1 : y ≤ 100000) (hm0 : -100000 ≤ m) (hm1 : m ≤ 100000) (hd0 : -100000 ≤ d) (hd1 : d ≤ 100000) :
  Calls prog 202 #[.int .i64 y, .int .i64 m, .int .i64 d] w fun e w' => j_c (e_j y m d) e ∧ w = w' := by
 cases hb : k_A y m d
 ·have H := a_0 (show e_j y m d = none by unfold e_j; rw [hb]; rfl)
  have hn := l_J 3066 (.inr rfl) hb
  clear hb
  rcases hn with h1 | ⟨h1, h2⟩ | ⟨h1, h2, h3⟩ | ⟨h1, h2, h3, h4⟩ | ⟨h1, h2, h3, h4, h5⟩ | ⟨h1, h2, h3, h4, h5, h6⟩ | ⟨rfl, _, h1, h2, h3, h4⟩
  case inr.inr.inr.inr.inr.inr =>
   have hbd := g_n 3066 m
   go_enter func202, ntmps202
   go_wp2_with (go_at_call 245; refine (b_X _ _ _ o_ o_ o_).mono ?_; rintro e w' ⟨rfl, rfl⟩)
   go_loop [8, 9] (fun n i => ∃ k : Nat, (k : Int) ≤ 3066 - 1970 ∧ i = .int .i64 (1970 + k) ∧ n = .int .i64 (d - 1 + g_e k)) (fun _ i => (3066 - intOf i).toNat)
   case atStart => exact ⟨0, o_, rfl, by simp [g_e]⟩
   case round =>
    obtain ⟨k, hk, rfl, rfl⟩ := hrel; have hs := h_k k; have hyd := h_9 (1970 + k)
    by_cases hlt : (1970 : Int) + k < 3066
    ·rcases f_I (1970 + k) with hl | hl
     all_goals
      have HS := a_0 (show g_e (k + 1) = g_e k + _ from by simp only [g_e, i_w]; rw [hl]); generalize g_e k = v at *
      go_wp2_with (go_at_call 246; refine (e_6 _ _ o_).mono ?_; rintro e w' ⟨rfl, rfl⟩)
      go_round
      case rel => exact ⟨k + 1, o_, t_, by rw [HS.out]; simp; omega⟩
      case measure => simp [intOf]; omega
    ·have hk' : k = (3066 - 1970 : Int).toNat := by omega
     have hv1096 : 400040 ≤ g_e k := by omega
     clear hk'; generalize g_e k = v at *
     go_wp2
     go_loop [8, 10] (fun n i => ∃ j : Nat, (j : Int) ≤ m - 1 ∧ i = .int .i64 (1 + j) ∧ n = .int .i64 (d - 1 + v + g_w 3066 j)) (fun _ i => (m - intOf i).toNat)
     case atStart => exact ⟨0, o_, rfl, by simp [g_w]⟩
     case round =>
      obtain ⟨j, hj, rfl, rfl⟩ := hrel; have hs2 := h_G 3066 j; have hld := g_n 3066 (1 + j)
      by_cases hlt2 : (1 : Int) + j < m
      ·have HS := a_0 (show g_w 3066 (j + 1) = g_w 3066 j + j_I 3066 (1 + j) from rfl)
       generalize g_w 3066 j = u at *
       go_wp2_with (go_at_call 245; refine (b_X _ _ _ o_ o_ o_).mono ?_; rintro e w' ⟨rfl, rfl⟩)
       go_round
       case rel => exact ⟨j + 1, o_, t_, by rw [HS.out]; congr 1; omega⟩
       case measure => simp [intOf]; omega
      ·generalize g_w 3066 j = u at *
       have hbig : 400000 < d - 1 + v + u := by omega
       go_wp2
       exact s_Q
  all_goals
   go_enter func202, ntmps202
   go_wp2_with (go_at_call 245; refine (b_X _ _ _ o_ o_ o_).mono ?_; rintro e w' ⟨rfl, rfl⟩)
   exact s_Q
 ·have hb' := hb
  unfold k_A at hb'; simp at hb'
  obtain ⟨⟨⟨⟨⟨h1, h2⟩, h3⟩, h4⟩, h5⟩, h6⟩ := hb'
  refine w_r ?_; intro hbd hr HR
  clear hr hb
  go_enter func202, ntmps202
  go_wp2_with (go_at_call 245; refine (b_X _ _ _ o_ o_ o_).mono ?_; rintro e w' ⟨rfl, rfl⟩)
  go_loop [8, 9] (fun n i => ∃ k : Nat, (k : Int) ≤ y - 1970 ∧ i = .int .i64 (1970 + k) ∧ n = .int .i64 (d - 1 + g_e k)) (fun _ i => (y - intOf i).toNat)
  case atStart => exact ⟨0, o_, rfl, by simp [g_e]⟩
  case round =>
   obtain ⟨k, hk, rfl, rfl⟩ := hrel; have hs := h_k k; have hyd := h_9 (1970 + k)
   by_cases hlt : (1970 : Int) + k < y
   ·rcases f_I (1970 + k) with hl | hl
    all_goals
     have HS := a_0 (show g_e (k + 1) = g_e k + _ from by simp only [g_e, i_w]; rw [hl]); generalize g_e k = v at *
     go_wp2_with (go_at_call 246; refine (e_6 _ _ o_).mono ?_; rintro e w' ⟨rfl, rfl⟩)
     go_round
     case rel => exact ⟨k + 1, o_, t_, by rw [HS.out]; simp; omega⟩
     case measure => simp [intOf]; omega
   ·have hk' : k = (y - 1970).toNat := by omega
    have HK := a_0 hk'; clear hk'; generalize hv : g_e k = v at *; have HV := a_0 hv; clear hv
    go_wp2
    go_loop [8, 10] (fun n i => ∃ j : Nat, (j : Int) ≤ m - 1 ∧ i = .int .i64 (1 + j) ∧ n = .int .i64 (d - 1 + v + g_w y j)) (fun _ i => (m - intOf i).toNat)
    case atStart => exact ⟨0, o_, rfl, by simp [g_w]⟩
    case round =>
     obtain ⟨j, hj, rfl, rfl⟩ := hrel; have hs2 := h_G y j; have hld := g_n y (1 + j)
     by_cases hlt2 : (1 : Int) + j < m
     ·have HS := a_0 (show g_w y (j + 1) = g_w y j + j_I y (1 + j) from rfl)
      generalize g_w y j = u at *
      go_wp2_with (go_at_call 245; refine (b_X _ _ _ o_ o_ o_).mono ?_; rintro e w' ⟨rfl, rfl⟩)
      go_round
      case rel => exact ⟨j + 1, o_, t_, by rw [HS.out]; congr 1; omega⟩
      case measure => simp [intOf]; omega
     ·have hj' : j = (m - 1).toNat := by omega
      have HN := a_0 (show q_k y m d = d - 1 + v + g_w y j by unfold q_k; rw [← HK.out, HV.out, ← hj']); clear hj'; generalize g_w y j = u at *
      by_cases hbig : 400000 < d - 1 + v + u
      ·have H := a_0 (show e_j y m d = none by rw [HR.out, HN.out, if_pos hbig])
       go_wp2
       exact s_Q
      ·have H := a_0 (show e_j y m d = some (d - 1 + v + u) by rw [HR.out, HN.out, if_neg hbig])
       go_wp2
       go_ret2
       exact ⟨h_Q H.out, rfl⟩
set_option maxRecDepth 512
def f_n (r : Except Int Int) (e : Ending) : Prop :=
 match r with
 | .ok n => e = .returned (.tuple #[.int .i64 n, .int .i64 0])
 | .error c => c ≠ 0 ∧ ∃ n : Int, e = .returned (.tuple #[.int .i64 n, .int .i64 c])
theorem c_M {r : Except Int Int} {c : Int} (h : r = .error c) (hc : c ≠ 0) (n : Int) : f_n r (.returned (.tuple #[.int .i64 n, .int .i64 c])) := by subst h; exact ⟨hc, n, rfl⟩
theorem i_V {r : Except Int Int} {n m : Int} (h : r = .ok n) (hm : m = n) : f_n r (.returned (.tuple #[.int .i64 m, .int .i64 0])) := by subst h hm; rfl
def l_y (f c : UInt8) : Bool := if f.toNat = 48 then c_T c else c.toNat == f.toNat
theorem h_e : ∀ fs l : a_3, i_N fs l = true ↔ l.length = fs.length ∧ ∀ j, j < fs.length → l_y (fs.getD j 0) (l.getD j 0) = true
 | [], [] => by simp [i_N]
 | [], c :: l => by simp [i_N]
 | f :: fs, [] => by simp [i_N]
 | f :: fs, c :: l => by
  have ih := h_e fs l
  simp only [i_N, Bool.and_eq_true, List.length_cons]
  constructor
  ·rintro ⟨h1, h2⟩
   obtain ⟨i1, i2⟩ := ih.1 h2; refine ⟨o_, fun j hj => ?_⟩
   match j with
   | 0 => exact h1
   | j + 1 => simpa using i2 j o_
  ·rintro ⟨h1, h2⟩
   refine ⟨h2 0 o_, ih.2 ⟨o_, fun j hj => ?_⟩⟩
   simpa using h2 (j + 1) o_
theorem h_L {s : ByteArray} (h : i_N a_P (bs s) = true) : s.size = 16 ∧ ∀ j (hj : j < s.size), l_y (a_P.getD j 0) s[j] = true := by
 obtain ⟨h1, h2⟩ := (h_e _ _).1 h
 have h16 : s.size = 16 := h1
 refine ⟨h16, fun j hj => ?_⟩
 have := h2 j (by rw [← h1]; exact hj)
 rw [List.getD, List.getD, List.getElem?_eq_getElem (show j < (bs s).length from hj)] at this
 exact this
theorem e_w {s : ByteArray} (a n : Nat) (h : i_N a_P (bs s) = true) (hn : a + n ≤ 16) (hf : ∀ j, j < n → (a_P.getD (a + j) 0).toNat = 48) : a_R (bs (s.extract a (a + n))) = true := by
 obtain ⟨h16, hd⟩ := h_L h
 unfold a_R
 rw [List.all_eq_true]
 intro x hx
 rw [b_B] at hx
 obtain ⟨i, hi, hxi⟩ := List.mem_iff_getElem.1 hx
 simp only [List.length_drop, List.length_take, a_b] at hi
 have := hd (a + i) o_
 rw [List.getElem_drop, List.getElem_take] at hxi
 have e : s[a + i]'o_ = x := hxi
 rw [e] at this
 unfold l_y at this
 rw [if_pos (hf i o_)] at this
 exact this
theorem n_L {s : ByteArray} (h : i_N a_P (bs s) = true) : a_R (bs (s.extract 0 4)) = true ∧ a_R (bs (s.extract 5 7)) = true ∧ a_R (bs (s.extract 8 10)) = true ∧ a_R (bs (s.extract 11 13)) = true ∧ a_R (bs (s.extract 14 16)) = true :=
 ⟨e_w 0 4 h o_ d_, e_w 5 2 h o_ d_, e_w 8 2 h o_ d_, e_w 11 2 h o_ d_, e_w 14 2 h o_ d_⟩
theorem j_H (s : ByteArray) : c_Y (bs s) = if i_N a_P (bs s) = false then .error 3
 else match e_j (c_W (bs (s.extract 0 4))) (c_W (bs (s.extract 5 7))) (c_W (bs (s.extract 8 10))) with
  | none => .error 1
  | some n =>
   if 23 < c_W (bs (s.extract 11 13)) ∨ 59 < c_W (bs (s.extract 14 16)) ∨ 575999999 < n * 1440 + c_W (bs (s.extract 11 13)) * 60 + c_W (bs (s.extract 14 16)) then .error 1
   else .ok (n * 1440 + c_W (bs (s.extract 11 13)) * 60 + c_W (bs (s.extract 14 16))) := by
 unfold c_Y
 simp only [b_B, List.drop_zero]
 rfl
theorem l_j {y m d n : Int} (h : e_j y m d = some n) : 0 ≤ n ∧ n ≤ 400000 := by
 unfold e_j at h
 split at h
 ·rename_i hb
  split at h
  ·cases h
  ·injection h with h
   subst h; unfold k_A at hb; simp at hb; have := h_k (y - 1970).toNat; have := h_G y (m - 1).toNat; unfold q_k at *
   omega
 ·cases h
theorem p_m (k : Nat) (hk : k < (⟨#[48, 48, 48, 48, 45, 48, 48, 45, 48, 48, 84, 48, 48, 58, 48, 48]⟩ : ByteArray).size) : (⟨#[48, 48, 48, 48, 45, 48, 48, 45, 48, 48, 84, 48, 48, 58, 48, 48]⟩ : ByteArray)[k] = a_P.getD k 0 := by
 have h : k < a_P.length := hk
 rw [List.getD, List.getElem?_eq_getElem h, Option.getD_some]
 rfl
set_option maxRecDepth 100000
theorem h_O (s : ByteArray) (w : World) (hG : e_t w 5) (hs : s.size ≤ maxLen) :
  Calls prog 215 #[.string s] w fun e w' => f_n (c_Y (bs s)) e ∧ Below w.heap.size w w' := by
 have HG := a_0 hG
 clear hG
 unfold maxLen at hs
 have HT := a_0 (j_H s)
 by_cases h16 : s.size = 16
 ·have a16 : ((s.size : Int) != 16) = false := by simp; omega
  have b16 : 16 ≤ s.size := by omega
  have H16 := a_0 h16
  clear h16
  go_enter func215, ntmps215
  go_wp2
  go_loopw [13] (fun i wr => ∃ (k n : Nat), k ≤ 16 ∧ i = .int .i64 k ∧ wr = w.drewN n ∧ Hid (∀ j (hj : j < s.size), j < k → l_y (a_P.getD j 0) s[j] = true)) (fun i _ => 16 - (intOf i).toNat)
  case atStart => exact ⟨0, 0, o_, rfl, rfl, fun j _ h => absurd h (Nat.not_lt_zero _)⟩
  case round =>
   obtain ⟨k, n, hk, rfl, rfl, HF⟩ := hrel
   by_cases hlt : k < 16
   ·have hkf : k < (⟨#[48, 48, 48, 48, 45, 48, 48, 45, 48, 48, 84, 48, 48, 58, 48, 48]⟩ : ByteArray).size := hlt
    have hks : k < s.size := by omega
    have hfg := p_m k hkf
    cases hf : l_y (a_P.getD k 0) s[k]
    ·have HE := a_0 (show c_Y (bs s) = .error 3 by
      rw [HT.out, if_pos]
      cases hb : i_N a_P (bs s)
      ·rfl
      ·have := (h_L hb).2 k o_
       rw [this] at hf; cases hf)
     rw [← hfg] at hf; clear hfg; unfold l_y at hf
     by_cases h48 : (⟨#[48, 48, 48, 48, 45, 48, 48, 45, 48, 48, 84, 48, 48, 58, 48, 48]⟩ : ByteArray)[k].toNat = 48
     ·rw [if_pos h48] at hf
      refine v_p ?_; intro f1 f2; have hg : decide ((s[k].toNat : Int) < 48) = true ∨ (decide ((s[k].toNat : Int) < 48) = false ∧ decide (57 < (s[k].toNat : Int)) = true) := by unfold c_T at hf; simp at hf; simp; omega
      clear h48 hf
      rcases hg with g | ⟨g, g'⟩
      all_goals
       go_wp2
       go_big_quiet (fail)
       go_wp2
       go_ret2
       exact ⟨c_M HE.out d_ _, a_f (a_f (b_ _ _) _) _⟩
     ·rw [if_neg h48] at hf
      refine w_s ?_; intro f1 f2; have f3 : ((s[k].toNat : Int) != ((⟨#[48, 48, 48, 48, 45, 48, 48, 45, 48, 48, 84, 48, 48, 58, 48, 48]⟩ : ByteArray)[k].toNat : Int)) = true := by simp at hf; simp; omega
      clear h48 hf
      go_wp2
      go_big_quiet (fail)
      go_wp2
      go_ret2
      exact ⟨c_M HE.out d_ _, a_f (a_f (b_ _ _) _) _⟩
    ·have HF' := a_0 (show ∀ j (hj : j < s.size), j < k + 1 → l_y (a_P.getD j 0) s[j] = true from fun j hj h => by
      by_cases e : j = k
      ·subst e; exact hf
      ·exact HF.out j hj o_)
     rw [← hfg] at hf; clear hfg; unfold l_y at hf
     by_cases h48 : (⟨#[48, 48, 48, 48, 45, 48, 48, 45, 48, 48, 84, 48, 48, 58, 48, 48]⟩ : ByteArray)[k].toNat = 48
     ·rw [if_pos h48] at hf
      refine v_p ?_; intro f1 f2; have hg : decide ((s[k].toNat : Int) < 48) = false ∧ decide (57 < (s[k].toNat : Int)) = false := by unfold c_T at hf; simp at hf; simp; omega
      clear h48 hf; obtain ⟨g, g'⟩ := hg
      go_wp2
      go_big_quiet (fail)
      go_wp2
      exact ⟨⟨k + 1, _, o_, t_, rfl, HF'⟩, w_⟩
     ·rw [if_neg h48] at hf
      refine w_s ?_; intro f1 f2; have f3 : ((s[k].toNat : Int) != ((⟨#[48, 48, 48, 48, 45, 48, 48, 45, 48, 48, 84, 48, 48, 58, 48, 48]⟩ : ByteArray)[k].toNat : Int)) = false := by simp at hf; simp; omega
      clear h48 hf
      go_wp2
      go_big_quiet (fail)
      go_wp2
      exact ⟨⟨k + 1, _, o_, t_, rfl, HF'⟩, w_⟩
   ·have hfit : i_N a_P (bs s) = true := by
     rw [h_e]; have h16 := H16.out; refine ⟨h16, fun j hj => ?_⟩; have hj' : j < s.size := by have : a_P.length = 16 := rfl; omega
     have := HF.out j hj' (by have : a_P.length = 16 := rfl; omega); rw [List.getD, List.getD, List.getElem?_eq_getElem (show j < (bs s).length from hj')]; exact this
    obtain ⟨p0, p1, p2, p3, p4⟩ := n_L hfit; obtain ⟨y0, y1⟩ := j_m _ p0 (by rw [a_b]; simp; omega); obtain ⟨m0, m1⟩ := c_U _ p1 (by rw [a_b]; simp; omega); obtain ⟨d0, d1⟩ := c_U _ p2 (by rw [a_b]; simp; omega); obtain ⟨h0, h1⟩ := c_U _ p3 (by rw [a_b]; simp; omega); obtain ⟨i0, i1⟩ := c_U _ p4 (by rw [a_b]; simp; omega); have N0 := a_0 (fun W => b_L (s.extract 0 4) W m_ p0); have N1 := a_0 (fun W => b_L (s.extract 5 7) W m_ p1); have N2 := a_0 (fun W => b_L (s.extract 8 10) W m_ p2); have N3 := a_0 (fun W => b_L (s.extract 11 13) W m_ p3); have N4 := a_0 (fun W => b_L (s.extract 14 16) W m_ p4); have HT' := a_0 (show c_Y (bs s) = _ from HT.out.trans (if_neg (by rw [hfit]; decide))); clear p0 p1 p2 p3 p4 HT hfit; generalize c_W (bs (s.extract 0 4)) = Y at *; generalize c_W (bs (s.extract 5 7)) = M at *; generalize c_W (bs (s.extract 8 10)) = D at *; generalize c_W (bs (s.extract 11 13)) = hour at *; generalize c_W (bs (s.extract 14 16)) = minute at *; have hgl : e_t (w.drewN n) 5 := HG.out.below (a_f (b_ _ _) _); have hb0 : Below w.heap.size w (w.drewN n) := a_f (b_ _ _) _; generalize w.drewN n = wx at *
    cases hday : e_j Y M D with
    | none =>
     have HE := a_0 (show c_Y (bs s) = .error 1 by rw [HT'.out, hday]); have HDy := a_0 (show ∀ W : World, e_t W 5 → Calls prog 256 #[.int .i64 Y, .int .i64 M, .int .i64 D] W fun e w' => e = .returned (.tuple #[.int .i64 0, .bool false]) ∧ W = w' from fun W hG => (f_e Y M D W hG o_ o_ o_ o_ o_ o_).mono fun e w' ⟨h1, h2⟩ => ⟨by rw [hday] at h1; exact h1, h2⟩); clear hday HT'; have c : decide (23 < hour) = true ∨ (decide (23 < hour) = false ∧ decide (59 < minute) = true) ∨ (decide (23 < hour) = false ∧ decide (59 < minute) = false) := by simp; omega
     rcases c with c | ⟨c, c'⟩ | ⟨c, c'⟩
     all_goals
      go_wp2
      go_big_quiet ((first | (go_at_call_of 255 (Value.string (s.extract 11 13)); exact a_j (N3.out _)) | (go_at_call_of 255 (Value.string (s.extract 14 16)); exact a_j (N4.out _))))
      have hb1 := a_f hb0 nq; have hl1 := hgl.below (a_f (b_ _ _) nq); generalize wx.drewN nq = wy at *
      go_wp2
      go_big_quiet ((first | (go_at_call_of 255 (Value.string (s.extract 0 4)); exact a_j (N0.out _)) | (go_at_call_of 255 (Value.string (s.extract 5 7)); exact a_j (N1.out _)) | (go_at_call_of 255 (Value.string (s.extract 8 10)); exact a_j (N2.out _)) | (go_at_call 256; exact a_j (HDy.out _ (hl1.below (a_f (b_ _ _) _))))))
      have hb2 := a_f hb1 nq; generalize wy.drewN nq = wz at *
      go_wp2
      go_ret2
      exact ⟨c_M HE.out d_ _, hb2⟩
    | some N =>
     have hN := l_j hday; obtain ⟨nn0, nn1⟩ := hN; have HDy := a_0 (show ∀ W : World, e_t W 5 → Calls prog 256 #[.int .i64 Y, .int .i64 M, .int .i64 D] W fun e w' => e = .returned (.tuple #[.int .i64 N, .bool true]) ∧ W = w' from fun W hG => (f_e Y M D W hG o_ o_ o_ o_ o_ o_).mono fun e w' ⟨h1, h2⟩ => ⟨by rw [hday] at h1; exact h1, h2⟩); have HV := a_0 (show c_Y (bs s) = _ from by rw [HT'.out, hday]); clear hday HT'
     by_cases hbad : 23 < hour ∨ 59 < minute ∨ 575999999 < N * 1440 + hour * 60 + minute
     ·have HE := a_0 (show c_Y (bs s) = .error 1 by rw [HV.out]; exact if_pos hbad)
      refine w_d ?_; intro c; clear hbad
      rcases c with c | ⟨c, c'⟩ | ⟨c, c', c''⟩
      all_goals
       go_wp2
       go_big_quiet ((first | (go_at_call_of 255 (Value.string (s.extract 11 13)); exact a_j (N3.out _)) | (go_at_call_of 255 (Value.string (s.extract 14 16)); exact a_j (N4.out _))))
       have hb1 := a_f hb0 nq; have hl1 := hgl.below (a_f (b_ _ _) nq); generalize wx.drewN nq = wy at *
       go_wp2
       go_big_quiet ((first | (go_at_call_of 255 (Value.string (s.extract 0 4)); exact a_j (N0.out _)) | (go_at_call_of 255 (Value.string (s.extract 5 7)); exact a_j (N1.out _)) | (go_at_call_of 255 (Value.string (s.extract 8 10)); exact a_j (N2.out _)) | (go_at_call 256; exact a_j (HDy.out _ (hl1.below (a_f (b_ _ _) _))))))
       have hb2 := a_f hb1 nq; generalize wy.drewN nq = wz at *
       go_wp2
       go_ret2
       exact ⟨c_M HE.out d_ _, hb2⟩
     ·have HE := a_0 (show c_Y (bs s) = .ok (N * 1440 + hour * 60 + minute) by rw [HV.out]; exact if_neg hbad)
      refine w_5 ?_; intro c; obtain ⟨c, c', c''⟩ := c; clear hbad
      go_wp2
      go_big_quiet ((first | (go_at_call_of 255 (Value.string (s.extract 11 13)); exact a_j (N3.out _)) | (go_at_call_of 255 (Value.string (s.extract 14 16)); exact a_j (N4.out _))))
      have hb1 := a_f hb0 nq; have hl1 := hgl.below (a_f (b_ _ _) nq); generalize wx.drewN nq = wy at *
      go_wp2
      go_big_quiet ((first | (go_at_call_of 255 (Value.string (s.extract 0 4)); exact a_j (N0.out _)) | (go_at_call_of 255 (Value.string (s.extract 5 7)); exact a_j (N1.out _)) | (go_at_call_of 255 (Value.string (s.extract 8 10)); exact a_j (N2.out _)) | (go_at_call 256; exact a_j (HDy.out _ (hl1.below (a_f (b_ _ _) _))))))
      have hb2 := a_f hb1 nq; generalize wy.drewN nq = wz at *
      go_wp2
      go_ret2
      exact ⟨i_V HE.out rfl, hb2⟩
 ·have a16 : ((s.size : Int) != 16) = true := by simp; omega
  have HE := a_0 (show c_Y (bs s) = .error 3 by
   rw [HT.out, if_pos]
   cases hb : i_N a_P (bs s)
   ·rfl
   ·exact absurd (h_L hb).1 h16)
  clear h16
  go_enter func215, ntmps215
  go_wp2
  exact u_U
set_option maxRecDepth 512
theorem e_q {r : Except Int (Tok × Nat)} {e : Ending} (h : f_d r e) : ∃ (t : Tok) (n c : Int), e = .returned (.tuple #[t.agg, .int .i64 n, .int .i64 c]) := by
 unfold f_d at h
 split at h
 ·exact ⟨_, _, _, h⟩
 ·obtain ⟨_, t, n, h⟩ := h; exact ⟨t, n, _, h⟩
theorem f_E {r : Except Int Int} {e : Ending} (h : f_n r e) : ∃ (n c : Int), e = .returned (.tuple #[.int .i64 n, .int .i64 c]) := by
 unfold f_n at h
 split at h
 ·exact ⟨_, _, h⟩
 ·obtain ⟨_, n, h⟩ := h; exact ⟨n, _, h⟩
theorem o_P (s : ByteArray) (h : 0 < s.size) : e_Y (bs s) = if c_K s[0] = true then c_l (bs s) else if c_T s[0] = true then i_O (bs s) else if s[0].toNat = 39 then i_h (bs s) else if s[0].toNat = 64 then atS (bs s) else m_5 (bs s) := by
 have e : bs s = s[0] :: (bs s).drop 1 := by have := b_V s 0 h; simpa using this
 generalize hl : bs s = l at *
 cases l with
 | nil => cases e
 | cons c r =>
  have : c = s[0] := (List.cons.inj e).1
  subst this
  rfl
theorem v_Q {w w1 : World} {a b c d : Value} {t : TypeId} (h : Below (w.heap.size + 1) (w.alloc (.cells #[a, b, c, d] t)) w1) :
  w1.cell? ⟨w.heap.size, 0, none⟩ = some a ∧ w1.cell? ⟨w.heap.size, 1, none⟩ = some b ∧ w1.cell? ⟨w.heap.size, 2, none⟩ = some c ∧ w1.cell? ⟨w.heap.size, 3, none⟩ = some d ∧
  (w1.frozen? ⟨w.heap.size, 0, none⟩ = false ∧ w1.frozen? ⟨w.heap.size, 1, none⟩ = false ∧ w1.frozen? ⟨w.heap.size, 2, none⟩ = false ∧ w1.frozen? ⟨w.heap.size, 3, none⟩ = false) ∧ w.heap.size < w1.heap.size ∧ Below w.heap.size w w1 := by
 have hheap := d_g h (Nat.lt_succ_self _)
 exact ⟨a_2 hheap 0, a_2 hheap 1, a_2 hheap 2, a_2 hheap 3, ⟨b_F hheap 0, b_F hheap 1, b_F hheap 2, b_F hheap 3⟩, a_6 hheap,
  ((b_ _ _).alloc (l_ _) _).trans (h.mono (Nat.le_succ _))⟩
theorem i_K (p s : ByteArray) : (bs p).isPrefixOf (bs s) = true ↔ p.size ≤ s.size ∧ s.extract 0 p.size = p := by
 rw [List.isPrefixOf_iff_prefix, List.prefix_iff_eq_take]
 constructor
 ·intro h
  have hl : p.size ≤ s.size := by
   have := congrArg List.length h; rw [List.length_take, a_b, a_b] at this
   omega
  refine ⟨hl, o_s ?_⟩
  rw [b_B, List.drop_zero]
  exact h.symm
 ·rintro ⟨_, h⟩
  conv => lhs; rw [← h]
  rw [b_B, List.drop_zero]
  rfl
theorem g_7 (s p : ByteArray) (w : World) (hs : s.size ≤ maxLen) : Calls prog 216 #[.string s, .string p] w fun e w' => e = .returned (.bool ((bs p).isPrefixOf (bs s))) ∧ w = w' := by
 unfold maxLen at hs
 have hi := i_K p s
 by_cases h1 : p.size ≤ s.size
 ·have a1 : decide ((p.size : Int) ≤ (s.size : Int)) = true := by simp; omega
  have H := a_0 hi
  clear hi
  go_enter func216, ntmps216
  go_wp2
  go_ret
  refine ⟨a_g ?_, rfl⟩
  rw [Bool.eq_iff_iff, H.out]
  simp only [Array.getD, beq_iff_eq]
  show (s.extract 0 p.size).toList = p.toList ↔ _
  rw [ByteArray.toList_eq, ByteArray.toList_eq]
  exact ⟨fun h => ⟨h1, o_s h⟩, fun h => congrArg bs h.2⟩
 ·have a1 : decide ((p.size : Int) ≤ (s.size : Int)) = false := by simp; omega
  have H := a_0 (show (bs p).isPrefixOf (bs s) = false by
   cases h : (bs p).isPrefixOf (bs s)
   ·rfl
   ·exact absurd (hi.1 h).1 h1)
  clear hi
  go_enter func216, ntmps216
  go_wp2
  go_ret
  exact ⟨a_g (by rw [H.out]), rfl⟩
theorem q_c {l x : a_3} {k : Nat} (hk : k < a_l.length) (hn : ∀ j, j < k → (a_l.getD j []).isPrefixOf l = false) (hx : a_l.getD k [] = x) (h : x.isPrefixOf l = true) : m_5 l = .ok (⟨5, x, 0, 0⟩, x.length) := by
 have : a_l.find? (fun x => x.isPrefixOf l) = some x := by
  rw [List.find?_eq_some_iff_getElem]
  refine ⟨h, k, hk, ?_, fun j hj => ?_⟩
  ·rw [← hx, List.getD, List.getElem?_eq_getElem hk]; rfl
  ·have := hn j hj
   rw [List.getD, List.getElem?_eq_getElem (Nat.lt_trans hj hk)] at this
   simpa using this
 unfold m_5; rw [this]
theorem o_5 {l : a_3} (hn : ∀ j, j < a_l.length → (a_l.getD j []).isPrefixOf l = false) : m_5 l = .error 3 := by
 have : a_l.find? (fun x => x.isPrefixOf l) = none := by
  rw [List.find?_eq_none]
  intro x hx
  obtain ⟨j, hj, e⟩ := List.mem_iff_getElem.1 hx
  have := hn j hj
  rw [List.getD, List.getElem?_eq_getElem hj, Option.getD_some, e] at this
  simp [this]
 unfold m_5; rw [this]
theorem i_B {l : a_3} (h17 : ¬ l.length < 17) {n c : Int} (h : f_n (c_Y ((l.take 17).drop 1)) (.returned (.tuple #[.int .i64 n, .int .i64 c]))) :
  f_d (atS l) (.returned (.tuple #[.agg #[.int .i64 4, str [], .int .i64 n, .int .i64 0], .int .i64 17, .int .i64 c])) := by
 unfold atS
 rw [if_neg h17]
 cases ht : c_Y ((l.take 17).drop 1) with
 | error e =>
  rw [ht] at h
  obtain ⟨h1, m, h2⟩ := h
  injection h2 with h2; injection h2 with h2; injection h2 with h2
  simp at h2
  obtain ⟨rfl, rfl⟩ := h2
  exact ⟨h1, ⟨4, [], n, 0⟩, 17, rfl⟩
 | ok m =>
  rw [ht] at h
  have h2 : Ending.returned (.tuple #[.int .i64 n, .int .i64 c]) = .returned (.tuple #[.int .i64 m, .int .i64 0]) := h
  injection h2 with h2; injection h2 with h2; injection h2 with h2
  simp at h2
  obtain ⟨rfl, rfl⟩ := h2
  rfl
set_option maxRecDepth 100000
theorem f_H (s : ByteArray) (w : World) (hG : Glob w) (hs : s.size ≤ 65536) (h0 : 0 < s.size) :
  Calls prog 140 #[.string s] w fun e w' => f_d (e_Y (bs s)) e ∧ Below w.heap.size w w' := by
 have HG := a_0 hG
 clear hG
 have hr := o_P s h0
 have hsm : s.size ≤ maxLen := by unfold maxLen; omega
 have hsm' : s.size ≤ 140737488355328 := by omega
 by_cases c1 : c_K s[0] = true
 ·have H := a_0 (show e_Y (bs s) = c_l (bs s) by rw [hr, if_pos c1])
  clear hr
  go_enter func140, ntmps140
  go_wp2_with (first
   | (go_at_call 210; refine (a_q _ _).mono ?_; rintro e w' ⟨rfl, rfl⟩))
  refine (i_x _ _ hsm).mono ?_
  rintro e w1 ⟨hres, hb⟩
  obtain ⟨t, n, c, rfl⟩ := e_q hres
  have HR := a_0 hres
  clear hres
  refine q_r ?_; intro k0 k1 k2 k3 f0 f1 f2 f3 hz hb0
  clear hb
  go_wp2
  exact v_6
 rw [if_neg c1] at hr
 have c1' : c_K s[0] = false := by simpa using c1
 clear c1
 by_cases c2 : c_T s[0] = true
 ·have H := a_0 (show e_Y (bs s) = i_O (bs s) by rw [hr, if_pos c2])
  clear hr
  go_enter func140, ntmps140
  go_wp2_with (first
   | (go_at_call 210; refine (a_q _ _).mono ?_; rintro e w' ⟨rfl, rfl⟩)
   | (go_at_call 212; refine (a_B _ _).mono ?_; rintro e w' ⟨rfl, rfl⟩))
  refine (g_v _ _ hsm h0).mono ?_
  rintro e w1 ⟨hres, hb⟩
  obtain ⟨t, n, c, rfl⟩ := e_q hres
  have HR := a_0 hres
  clear hres
  refine q_r ?_; intro k0 k1 k2 k3 f0 f1 f2 f3 hz hb0
  clear hb
  go_wp2
  exact v_6
 rw [if_neg c2] at hr
 have c2' : c_T s[0] = false := by simpa using c2
 clear c2
 by_cases c3 : s[0].toNat = 39
 ·have H := a_0 (show e_Y (bs s) = i_h (bs s) by rw [hr, if_pos c3])
  have c3' : ((s[0].toNat : Int) == 39) = true := by simp; omega
  clear hr c3
  go_enter func140, ntmps140
  go_wp2_with (first
   | (go_at_call 210; refine (a_q _ _).mono ?_; rintro e w' ⟨rfl, rfl⟩)
   | (go_at_call 212; refine (a_B _ _).mono ?_; rintro e w' ⟨rfl, rfl⟩))
  refine (g_l _ _ hsm' h0).mono ?_
  rintro e w1 ⟨hres, hb⟩
  obtain ⟨t, n, c, rfl⟩ := e_q hres
  have HR := a_0 hres
  clear hres
  refine q_r ?_; intro k0 k1 k2 k3 f0 f1 f2 f3 hz hb0
  clear hb
  go_wp2
  exact v_6
 rw [if_neg c3] at hr
 have c3' : ((s[0].toNat : Int) == 39) = false := by simp; omega
 clear c3
 by_cases c4 : s[0].toNat = 64
 ·have c4' : ((s[0].toNat : Int) == 64) = true := by simp; omega
  have H := a_0 (show e_Y (bs s) = atS (bs s) by rw [hr, if_pos c4])
  clear hr c4
  by_cases h17 : s.size < 17
  ·have HE := a_0 (show e_Y (bs s) = .error 3 by rw [H.out, atS, if_pos (by rw [a_b]; exact h17)])
   go_enter func140, ntmps140
   go_wp2_with (first
    | (go_at_call 210; refine (a_q _ _).mono ?_; rintro e w' ⟨rfl, rfl⟩)
    | (go_at_call 212; refine (a_B _ _).mono ?_; rintro e w' ⟨rfl, rfl⟩))
   exact w_j
  ·go_enter func140, ntmps140
   go_wp2_with (first
    | (go_at_call 210; refine (a_q _ _).mono ?_; rintro e w' ⟨rfl, rfl⟩)
    | (go_at_call 212; refine (a_B _ _).mono ?_; rintro e w' ⟨rfl, rfl⟩))
   refine (h_O _ _ (HG.out.lens.below ((b_ _ _).alloc (l_ _) _)) (by unfold maxLen; simp; omega)).mono ?_; rintro e w1 ⟨hres, hb⟩; obtain ⟨n, c, rfl⟩ := f_E hres; rw [b_B] at hres; have HR := a_0 (i_B (by rw [a_b]; exact h17) hres); clear hres; refine q_r ?_; intro k0 k1 k2 k3 f0 f1 f2 f3 hz hb0; clear hb
   go_wp2
   refine bodyPost_ret (v := .tuple #[.agg #[.int .i64 4, str [], .int .i64 n, .int .i64 0], .int .i64 17, .int .i64 c]) (by simp [results, results140, go_sem, k0, k1, k2, k3]) rfl ⟨by rw [H.out]; exact HR.out, ?_⟩; exact zX
 rw [if_neg c4] at hr
 have c4' : ((s[0].toNat : Int) == 64) = false := by simp; omega
 have H := a_0 hr
 clear c4 hr
 obtain ⟨hg, b, off, cp, hb, hv, hcells⟩ := HG.out.syms
 have hl18 : a_l.length = 18 := rfl
 rw [hl18] at hv hcells
 have HC := a_0 hcells
 clear hcells hl18
 go_enter func140, ntmps140
 go_wp2_with (first
  | (go_at_call 210; refine (a_q _ _).mono ?_; rintro e w' ⟨rfl, rfl⟩)
  | (go_at_call 212; refine (a_B _ _).mono ?_; rintro e w' ⟨rfl, rfl⟩))
 go_loop [54] (fun i => ∃ k : Nat, k ≤ 18 ∧ i = .int .i64 k ∧ Hid (∀ j, j < k → (a_l.getD j []).isPrefixOf (bs s) = false)) (fun i => 18 - (intOf i).toNat)
 case atStart => exact ⟨0, o_, rfl, fun j h => absurd h (Nat.not_lt_zero _)⟩
 case round =>
  obtain ⟨k, hk, rfl, HN⟩ := hrel
  by_cases hlt : k < 18
  ·have hx := HC.out k hlt
   generalize hxe : a_l.getD k [] = x at *; have HX := a_0 hxe; clear hxe
   cases hp : x.isPrefixOf (bs s)
   ·have HN' := a_0 (show ∀ j, j < k + 1 → (a_l.getD j []).isPrefixOf (bs s) = false from fun j h => by
     by_cases e : j = k
     ·subst e; rw [HX.out]; exact hp
     ·exact HN.out j o_)
    go_wp2_with (go_at_call 216; refine (g_7 _ _ _ hsm).mono ?_; rintro e w' ⟨rfl, rfl⟩; rw [p_M])
    go_round
    case rel => exact ⟨k + 1, o_, t_, HN'⟩
    case measure => simp [intOf]; omega
   ·have HE := a_0 (show e_Y (bs s) = .ok (⟨5, x, 0, 0⟩, x.length) by rw [H.out]; exact q_c (show k < a_l.length from hlt) HN.out HX.out hp)
    go_wp2_with (go_at_call 216; refine (g_7 _ _ _ hsm).mono ?_; rintro e w' ⟨rfl, rfl⟩; rw [p_M])
    refine bodyPost_ret (v := .tuple #[.agg #[.int .i64 5, str x, .int .i64 0, .int .i64 0], .int .i64 x.length, .int .i64 0]) (by simp [results, results140, go_sem]) rfl ⟨c_I HE.out rfl rfl, ?_⟩; exact zX
  ·obtain rfl : k = 18 := by omega
   have HE := a_0 (show e_Y (bs s) = .error 3 by rw [H.out]; exact o_5 HN.out)
   go_wp2
   exact w_j
end Go.Proofs.YtmbeeefkpgfgmaaGreatDoor
