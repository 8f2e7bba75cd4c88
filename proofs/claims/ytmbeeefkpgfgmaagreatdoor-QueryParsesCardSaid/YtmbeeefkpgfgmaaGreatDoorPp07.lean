/- Parts of the proof. -/
import Derived.Test.YtmbeeefkpgfgmaaGreatDoorPp05
set_option linter.unusedVariables false
set_option linter.unusedSimpArgs false
set_option maxHeartbeats 4000000
namespace Go.Proofs.YtmbeeefkpgfgmaaGreatDoor
open Go.Proofs.Tryz
open Go.RowKit
theorem t_2 {s : ByteArray} (h16 : s.size = 16) (h4 : (s[4]'o_).toNat = 45) (h7 : (s[7]'o_).toNat = 45) (h10 : (s[10]'o_).toNat = 84) (h13 : (s[13]'o_).toNat = 58)
  (p0 : a_R (bs (s.extract 0 4)) = true) (p1 : a_R (bs (s.extract 5 7)) = true) (p2 : a_R (bs (s.extract 8 10)) = true) (p3 : a_R (bs (s.extract 11 13)) = true) (p4 : a_R (bs (s.extract 14 16)) = true) : i_N a_P (bs s) = true := by
 rw [h_e]
 have hl : a_P.length = 16 := rfl
 refine ⟨h16, fun j hj => ?_⟩
 rw [hl] at hj
 have hjs : j < s.size := by omega
 have e : (bs s).getD j 0 = s[j] := by rw [List.getD, List.getElem?_eq_getElem (show j < (bs s).length from hjs)]; rfl
 rw [e]
 have dig : ∀ a b : Nat, b ≤ 16 → a_R (bs (s.extract a b)) = true → a ≤ j → j < b → c_T s[j] = true := by
  intro a b hb16 hp ha hb
  unfold a_R at hp
  rw [List.all_eq_true] at hp
  refine hp _ ?_
  rw [b_B]
  rw [List.mem_iff_getElem]
  refine ⟨j - a, by simp only [List.length_drop, List.length_take, a_b]; omega, ?_⟩
  rw [List.getElem_drop, List.getElem_take]
  have : a + (j - a) = j := by omega
  show (bs s)[a + (j - a)]'_ = s[j]
  simp only [this]
  rfl
 rcases (show j = 4 ∨ j = 7 ∨ j = 10 ∨ j = 13 ∨ (j ≠ 4 ∧ j ≠ 7 ∧ j ≠ 10 ∧ j ≠ 13) by omega) with rfl | rfl | rfl | rfl | ⟨n4, n7, n10, n13⟩
 ·unfold l_y; rw [if_neg d_, h4]; decide
 ·unfold l_y; rw [if_neg d_, h7]; decide
 ·unfold l_y; rw [if_neg d_, h10]; decide
 ·unfold l_y; rw [if_neg d_, h13]; decide
 ·have hd : c_T s[j] = true := by
   rcases (show j < 4 ∨ (5 ≤ j ∧ j < 7) ∨ (8 ≤ j ∧ j < 10) ∨ (11 ≤ j ∧ j < 13) ∨ (14 ≤ j ∧ j < 16) by omega) with h | ⟨h, h'⟩ | ⟨h, h'⟩ | ⟨h, h'⟩ | ⟨h, h'⟩
   ·exact dig 0 4 o_ p0 o_ h
   ·exact dig 5 7 o_ p1 h h'
   ·exact dig 8 10 o_ p2 h h'
   ·exact dig 11 13 o_ p3 h h'
   ·exact dig 14 16 o_ p4 h h'
  have h48 : ∀ j, j < 16 → j ≠ 4 → j ≠ 7 → j ≠ 10 → j ≠ 13 → (a_P.getD j 0).toNat = 48 := by decide
  unfold l_y
  rw [if_pos (h48 j hj n4 n7 n10 n13)]
  exact hd
theorem q_X {s : ByteArray} (h : i_N a_P (bs s) = true) (h16 : 16 ≤ s.size) : (s[4]'o_).toNat = 45 ∧ (s[7]'o_).toNat = 45 ∧ (s[10]'o_).toNat = 84 ∧ (s[13]'o_).toNat = 58 := by
 obtain ⟨_, hd⟩ := h_L h
 have f4 := hd 4 o_
 have f7 := hd 7 o_
 have f10 := hd 10 o_
 have f13 := hd 13 o_
 unfold l_y at f4 f7 f10 f13
 rw [if_neg d_] at f4 f7 f10 f13
 simp only [beq_iff_eq] at f4 f7 f10 f13
 exact ⟨f4, f7, f10, f13⟩
theorem d_q {l : a_3} (h : a_R l = true) : b_U l = c_W l := by unfold b_U; rw [if_pos h]
theorem d_M {l : a_3} (h : a_R l = false) : b_U l = -1 := by unfold b_U; rw [h]; rfl
set_option maxRecDepth 100000
theorem i_p (s : ByteArray) (w : World) (hs : s.size ≤ maxLen) :
  Calls prog 126 #[.string s] w fun e w' => f_n (c_Y (bs s)) e ∧ Below w.heap.size w w' := by
 unfold maxLen at hs
 have HT := a_0 (j_H s)
 by_cases h16 : s.size = 16
 case neg =>
  have a16 : ((s.size : Int) != 16) = true := by simp; omega
  have HE := a_0 (show c_Y (bs s) = .error 3 by
   rw [HT.out, if_pos]
   cases hb : i_N a_P (bs s)
   ·rfl
   ·exact absurd (h_L hb).1 h16)
  clear h16
  go_enter func126, ntmps126
  go_wp2
  exact u_U
 have a16 : ((s.size : Int) != 16) = false := by simp; omega
 have b16 : 16 ≤ s.size := by omega
 have H16 := a_0 h16
 clear h16
 by_cases hsep : (s[4]'o_).toNat = 45 ∧ (s[7]'o_).toNat = 45 ∧ (s[10]'o_).toNat = 84 ∧ (s[13]'o_).toNat = 58
 case neg =>
  have HE := a_0 (show c_Y (bs s) = .error 3 by
   rw [HT.out, if_pos]
   cases hb : i_N a_P (bs s)
   ·rfl
   ·exact absurd (q_X hb b16) hsep)
  have c : (((s[4]'o_).toNat : Int) != 45) = true ∨ ((((s[4]'o_).toNat : Int) != 45) = false ∧ ((((s[7]'o_).toNat : Int) != 45) = true ∨ ((((s[7]'o_).toNat : Int) != 45) = false ∧ ((((s[10]'o_).toNat : Int) != 84) = true ∨ ((((s[10]'o_).toNat : Int) != 84) = false ∧ (((s[13]'o_).toNat : Int) != 58) = true))))) := by
   simp; omega
  clear hsep
  rcases c with c | ⟨c, c | ⟨c', c | ⟨c'', c⟩⟩⟩
  all_goals
   go_enter func126, ntmps126
   go_wp2
   exact u_U
 obtain ⟨q4, q7, q10, q13⟩ := hsep
 have c4 : (((s[4]'o_).toNat : Int) != 45) = false := by simp; omega
 have c7 : (((s[7]'o_).toNat : Int) != 45) = false := by simp; omega
 have c10 : (((s[10]'o_).toNat : Int) != 84) = false := by simp; omega
 have c13 : (((s[13]'o_).toNat : Int) != 58) = false := by simp; omega
 have HF := a_0 (t_2 H16.out q4 q7 q10 q13)
 clear q4 q7 q10 q13
 have N0 := a_0 (fun W => c_5 (s.extract 0 4) W m_)
 have N1 := a_0 (fun W => c_5 (s.extract 5 7) W m_)
 have N2 := a_0 (fun W => c_5 (s.extract 8 10) W m_)
 have N3 := a_0 (fun W => c_5 (s.extract 11 13) W m_)
 have N4 := a_0 (fun W => c_5 (s.extract 14 s.size) W (by have := H16.out; simp; omega))
 have e4 : bs (s.extract 14 s.size) = bs (s.extract 14 16) := by rw [H16.out]
 rw [e4] at N4
 clear e4
 cases hfit : i_N a_P (bs s)
 ·have HE := a_0 (show c_Y (bs s) = .error 3 by rw [HT.out, if_pos hfit])
  have hneg : b_U (bs (s.extract 0 4)) < 0 ∨ b_U (bs (s.extract 5 7)) < 0 ∨ b_U (bs (s.extract 8 10)) < 0 ∨ b_U (bs (s.extract 11 13)) < 0 ∨ b_U (bs (s.extract 14 16)) < 0 := by
   cases p0 : a_R (bs (s.extract 0 4))
   ·left; rw [d_M p0]; decide
   cases p1 : a_R (bs (s.extract 5 7))
   ·right; left; rw [d_M p1]; decide
   cases p2 : a_R (bs (s.extract 8 10))
   ·right; right; left; rw [d_M p2]; decide
   cases p3 : a_R (bs (s.extract 11 13))
   ·right; right; right; left; rw [d_M p3]; decide
   cases p4 : a_R (bs (s.extract 14 16))
   ·right; right; right; right; rw [d_M p4]; decide
   rw [HF.out p0 p1 p2 p3 p4] at hfit; cases hfit
  clear hfit HT
  generalize b_U (bs (s.extract 0 4)) = Y at *
  generalize b_U (bs (s.extract 5 7)) = M at *
  generalize b_U (bs (s.extract 8 10)) = D at *
  generalize b_U (bs (s.extract 11 13)) = hour at *
  generalize b_U (bs (s.extract 14 16)) = minute at *
  have c : decide (Y < 0) = true ∨ (decide (Y < 0) = false ∧ (decide (M < 0) = true ∨ (decide (M < 0) = false ∧ (decide (D < 0) = true ∨ (decide (D < 0) = false ∧ (decide (hour < 0) = true ∨ (decide (hour < 0) = false ∧ decide (minute < 0) = true))))))) := by
   simp; omega
  clear hneg
  rcases c with c | ⟨c, c | ⟨c', c | ⟨c'', c | ⟨c''', c⟩⟩⟩⟩
  all_goals
   go_enter func126, ntmps126
   go_wp2
   go_big_quiet ((first | (go_at_call_of 201 (Value.string (s.extract 0 4)); exact a_j (N0.out _)) | (go_at_call_of 201 (Value.string (s.extract 5 7)); exact a_j (N1.out _)) | (go_at_call_of 201 (Value.string (s.extract 8 10)); exact a_j (N2.out _)) | (go_at_call_of 201 (Value.string (s.extract 11 13)); exact a_j (N3.out _)) | (go_at_call_of 201 (Value.string (s.extract 14 s.size)); exact a_j (N4.out _))))
   go_wp2
   exact u_T
 ·obtain ⟨p0, p1, p2, p3, p4⟩ := n_L hfit
  have l0 : (bs (s.extract 0 4)).length ≤ 4 := by rw [a_b]; simp; omega
  have l1 : (bs (s.extract 5 7)).length ≤ 2 := by rw [a_b]; simp; omega
  have l2 : (bs (s.extract 8 10)).length ≤ 2 := by rw [a_b]; simp; omega
  have l3 : (bs (s.extract 11 13)).length ≤ 2 := by rw [a_b]; simp; omega
  have l4 : (bs (s.extract 14 16)).length ≤ 2 := by rw [a_b]; simp; omega
  obtain ⟨y0, y1⟩ := j_m _ p0 l0
  obtain ⟨m0, m1⟩ := c_U _ p1 l1
  obtain ⟨d0, d1⟩ := c_U _ p2 l2
  obtain ⟨h0, h1⟩ := c_U _ p3 l3
  obtain ⟨i0, i1⟩ := c_U _ p4 l4
  clear l0 l1 l2 l3 l4
  rw [d_q p0] at N0
  rw [d_q p1] at N1
  rw [d_q p2] at N2
  rw [d_q p3] at N3
  rw [d_q p4] at N4
  have HT' := a_0 (show c_Y (bs s) = _ from HT.out.trans (if_neg (by rw [hfit]; decide)))
  clear p0 p1 p2 p3 p4 HT hfit HF
  generalize c_W (bs (s.extract 0 4)) = Y at *
  generalize c_W (bs (s.extract 5 7)) = M at *
  generalize c_W (bs (s.extract 8 10)) = D at *
  generalize c_W (bs (s.extract 11 13)) = hour at *
  generalize c_W (bs (s.extract 14 16)) = minute at *
  cases hday : e_j Y M D with
  | none =>
   have HE := a_0 (show c_Y (bs s) = .error 1 by rw [HT'.out, hday]); have HDy := a_0 (show ∀ W : World, Calls prog 202 #[.int .i64 Y, .int .i64 M, .int .i64 D] W fun e w' => e = .returned (.tuple #[.int .i64 0, .bool false]) ∧ W = w' from fun W => (f_P Y M D W o_ o_ o_ o_ o_ o_).mono fun e w' ⟨h1, h2⟩ => ⟨by rw [hday] at h1; exact h1, h2⟩); clear hday HT'
   go_enter func126, ntmps126
   go_wp2
   go_big_quiet ((first | (go_at_call_of 201 (Value.string (s.extract 0 4)); exact a_j (N0.out _)) | (go_at_call_of 201 (Value.string (s.extract 5 7)); exact a_j (N1.out _)) | (go_at_call_of 201 (Value.string (s.extract 8 10)); exact a_j (N2.out _)) | (go_at_call_of 201 (Value.string (s.extract 11 13)); exact a_j (N3.out _)) | (go_at_call_of 201 (Value.string (s.extract 14 s.size)); exact a_j (N4.out _))))
   go_wp2_with (go_at_call 202; refine (HDy.out _).mono ?_; rintro e w' ⟨rfl, rfl⟩)
   exact u_T
  | some N =>
   obtain ⟨nn0, nn1⟩ := l_j hday; have HDy := a_0 (show ∀ W : World, Calls prog 202 #[.int .i64 Y, .int .i64 M, .int .i64 D] W fun e w' => e = .returned (.tuple #[.int .i64 N, .bool true]) ∧ W = w' from fun W => (f_P Y M D W o_ o_ o_ o_ o_ o_).mono fun e w' ⟨h1, h2⟩ => ⟨by rw [hday] at h1; exact h1, h2⟩); have HV := a_0 (show c_Y (bs s) = _ from by rw [HT'.out, hday]); clear hday HT'
   by_cases hbad : 23 < hour ∨ 59 < minute ∨ 575999999 < N * 1440 + hour * 60 + minute
   ·have HE := a_0 (show c_Y (bs s) = .error 1 by rw [HV.out]; exact if_pos hbad)
    refine w_d ?_; intro c; clear hbad
    rcases c with c | ⟨c, c'⟩ | ⟨c, c', c''⟩
    all_goals
     go_enter func126, ntmps126
     go_wp2
     go_big_quiet ((first | (go_at_call_of 201 (Value.string (s.extract 0 4)); exact a_j (N0.out _)) | (go_at_call_of 201 (Value.string (s.extract 5 7)); exact a_j (N1.out _)) | (go_at_call_of 201 (Value.string (s.extract 8 10)); exact a_j (N2.out _)) | (go_at_call_of 201 (Value.string (s.extract 11 13)); exact a_j (N3.out _)) | (go_at_call_of 201 (Value.string (s.extract 14 s.size)); exact a_j (N4.out _))))
     go_wp2_with (go_at_call 202; refine (HDy.out _).mono ?_; rintro e w' ⟨rfl, rfl⟩)
     exact u_T
   ·have HE := a_0 (show c_Y (bs s) = .ok (N * 1440 + hour * 60 + minute) by rw [HV.out]; exact if_neg hbad)
    refine w_5 ?_; intro c; obtain ⟨c, c', c''⟩ := c; clear hbad
    go_enter func126, ntmps126
    go_wp2
    go_big_quiet ((first | (go_at_call_of 201 (Value.string (s.extract 0 4)); exact a_j (N0.out _)) | (go_at_call_of 201 (Value.string (s.extract 5 7)); exact a_j (N1.out _)) | (go_at_call_of 201 (Value.string (s.extract 8 10)); exact a_j (N2.out _)) | (go_at_call_of 201 (Value.string (s.extract 11 13)); exact a_j (N3.out _)) | (go_at_call_of 201 (Value.string (s.extract 14 s.size)); exact a_j (N4.out _))))
    go_wp2_with (go_at_call 202; refine (HDy.out _).mono ?_; rintro e w' ⟨rfl, rfl⟩)
    go_ret2
    exact ⟨i_V HE.out rfl, a_f (b_ _ _) _⟩
set_option maxRecDepth 512
def k_V (r : Except Int (Tok × Nat)) (e : Ending) : Prop :=
 match r with
 | .ok x => e = .returned (.tuple #[.int .i64 (x.2 : Nat), .int .i64 0])
 | .error c => c ≠ 0 ∧ e = .returned (.tuple #[.int .i64 0, .int .i64 c])
theorem i_d {r : Except Int (Tok × Nat)} {c : Int} (h : r = .error c) (hc : c ≠ 0) : k_V r (.returned (.tuple #[.int .i64 0, .int .i64 c])) := by subst h; exact ⟨hc, rfl⟩
theorem i_Z {r : Except Int (Tok × Nat)} {t : Tok} {n : Nat} (h : r = .ok (t, n)) {m : Int} (hm : m = n) : k_V r (.returned (.tuple #[.int .i64 m, .int .i64 0])) := by subst h hm; rfl
def o_n (r : Except Int (Tok × Nat)) (e : Ending) : Prop :=
 match r with
 | .ok x => e = .returned (.tuple #[.int .i64 x.1.num, .int .i64 (x.2 : Nat), .int .i64 0])
 | .error c => c ≠ 0 ∧ e = .returned (.tuple #[.int .i64 0, .int .i64 0, .int .i64 c])
theorem g_j {r : Except Int (Tok × Nat)} {c : Int} (h : r = .error c) (hc : c ≠ 0) : o_n r (.returned (.tuple #[.int .i64 0, .int .i64 0, .int .i64 c])) := by subst h; exact ⟨hc, rfl⟩
theorem o_d {r : Except Int (Tok × Nat)} {t : Tok} {n : Nat} (h : r = .ok (t, n)) {v m : Int} (hv : v = t.num) (hm : m = n) : o_n r (.returned (.tuple #[.int .i64 v, .int .i64 m, .int .i64 0])) := by subst h hm hv; rfl
theorem f_Y (s : ByteArray) (w : World) (hs : s.size ≤ maxLen) :
  Calls prog 122 #[.string s] w fun e w' => k_V (c_l (bs s)) e ∧ w = w' := by
 have hs' := hs
 unfold maxLen at hs
 have hp := c_D (bs s)
 rw [a_b] at hp
 by_cases h1 : 24 < a_s (bs s)
 ·have hr : c_l (bs s) = .error 4 := by rw [c_l, if_pos h1]
  have H := a_0 hr
  clear hr
  go_enter func122, ntmps122
  go_wp2_with (go_at_call 200; refine (c_v _ _ hs').mono ?_; rintro e w' ⟨rfl, rfl⟩)
  go_ret2
  exact ⟨i_d H.out d_, rfl⟩
 ·cases h2 : p_7 (bs s) (a_s (bs s))
  ·have hr : c_l (bs s) = .ok (⟨1, (bs s).take (a_s (bs s)), 0, 0⟩, a_s (bs s)) := by rw [c_l, if_neg h1, h2]; rfl
   have H := a_0 hr; clear hr; have h3 := o_7 h2; clear h2
   rcases h3 with h3 | ⟨h3, h4 | ⟨h4, h5⟩⟩
   all_goals
    go_enter func122, ntmps122
    go_wp2_with (first
     | (go_at_call 200; refine (c_v _ _ hs').mono ?_; rintro e w' ⟨rfl, rfl⟩)
     | (go_at_call 121; refine (a_m _ _).mono ?_; rintro e w' ⟨rfl, rfl⟩))
    go_ret2
    exact ⟨i_Z H.out rfl, rfl⟩
  ·obtain ⟨h3, h4, h5⟩ := l_W h2
   have hq := c_D ((bs s).drop (a_s (bs s) + 1)); rw [List.length_drop, a_b] at hq
   by_cases h6 : 24 < a_s ((bs s).drop (a_s (bs s) + 1))
   ·have hr : c_l (bs s) = .error 4 := by rw [c_l, if_neg h1, if_pos h2, if_pos h6]
    have H := a_0 hr; clear hr h2
    go_enter func122, ntmps122
    go_wp2_with (fail)
    refine (c_v _ _ hs').mono ?_; rintro e w' ⟨rfl, rfl⟩
    go_wp2_with (go_at_call 121; refine (a_m _ _).mono ?_; rintro e w' ⟨rfl, rfl⟩)
    refine (c_v _ _ (by unfold maxLen; simp; omega)).mono ?_; rintro e w' ⟨rfl, rfl⟩; rw [d_p]
    go_wp2
    go_ret2
    exact ⟨i_d H.out d_, rfl⟩
   ·have hr : c_l (bs s) = .ok (⟨1, (bs s).take (a_s (bs s) + (1 + a_s ((bs s).drop (a_s (bs s) + 1)))), 0, 0⟩, a_s (bs s) + (1 + a_s ((bs s).drop (a_s (bs s) + 1)))) := by rw [c_l, if_neg h1, if_pos h2, if_neg h6]
    have H := a_0 hr; clear hr h2
    go_enter func122, ntmps122
    go_wp2_with (fail)
    refine (c_v _ _ hs').mono ?_; rintro e w' ⟨rfl, rfl⟩
    go_wp2_with (go_at_call 121; refine (a_m _ _).mono ?_; rintro e w' ⟨rfl, rfl⟩)
    refine (c_v _ _ (by unfold maxLen; simp; omega)).mono ?_; rintro e w' ⟨rfl, rfl⟩; rw [d_p]; generalize hg : a_s ((bs s).drop (a_s (bs s) + 1)) = q at *; have HG := a_0 hg; clear hg
    go_wp2
    go_ret2
    exact ⟨i_Z H.out s_, rfl⟩
set_option maxRecDepth 100000
theorem e_f (s : ByteArray) (w : World) (hs : s.size ≤ maxLen) (h0 : 0 < s.size) :
  Calls prog 124 #[.string s] w fun e w' => o_n (i_O (bs s)) e ∧ w = w' := by
 have hs' := hs
 unfold maxLen at hs
 have hp := o_K (bs s)
 rw [a_b] at hp
 go_enter func124, ntmps124
 go_wp2
 go_loop [6, 5] (fun n v => ∃ k : Nat, k ≤ c_0 (bs s) ∧ n = .int .i64 k ∧ v = .int .i64 (f_X ((bs s).take k))) (fun n _ => c_0 (bs s) - (intOf n).toNat)
 case atStart => exact ⟨0, Nat.zero_le _, rfl, by simp [f_X]⟩
 case round =>
  obtain ⟨k, hk, rfl, rfl⟩ := hrel
  obtain ⟨v1, v2⟩ := j_s s k hk
  by_cases hlt : k < c_0 (bs s)
  ·obtain ⟨h1, h2⟩ := j_w (bs s) k hlt
   have h1' : k < s.size := h1; have h2' : c_T s[k] = true := h2; obtain ⟨d1, d2⟩ := l_8 h2'; clear h2; have HS := a_0 (show f_X ((bs s).take (k + 1)) = _ from by rw [h_F s k h1', h_D]); generalize f_X ((bs s).take k) = v at *
   go_wp2_with (go_at_call 123; refine (a_A _ _).mono ?_; rintro e w' ⟨rfl, rfl⟩)
   go_round
   case rel => exact ⟨k + 1, o_, t_, by rw [HS.out]; congr 1; split <;> omega⟩
   case measure => simp [intOf]; omega
  ·obtain rfl : k = c_0 (bs s) := by omega
   have hx : ¬ c_0 (bs s) < s.size ∨ ∃ h : c_0 (bs s) < s.size, c_T s[c_0 (bs s)] = false := by
    by_cases h : c_0 (bs s) < s.size
    ·exact .inr ⟨h, i_7 (bs s) h⟩
    ·exact .inl h
   have hr := h_E (bs s); have hd1 : 1 < c_0 (bs s) ∨ ¬ 1 < c_0 (bs s) := by omega
   cases hz : k_T (bs s)
   ·have hz' : decide (1 < (c_0 (bs s) : Int)) = false ∨ (decide (1 < (c_0 (bs s) : Int)) = true ∧ ((s[0].toNat : Int) == 48) = false) := by
     rcases l_T hz h0 with h | ⟨_, h⟩
     ·rcases hd1 with hd1 | hd1
      ·exact .inr ⟨m_, h⟩
      ·exact .inl m_
     ·exact .inl m_
    clear hd1
    cases ht : j_o (bs s) (c_0 (bs s))
    ·have ht' := l_Q ht
     by_cases hv : 1073741824 < f_X ((bs s).take (c_0 (bs s)))
     ·have H := a_0 (show i_O (bs s) = .error 1 by rw [hr, hz, ht, if_neg d_, if_pos hv])
      generalize f_X ((bs s).take (c_0 (bs s))) = v at *; clear hr hz ht
      rcases hz' with hz' | ⟨hz', hz2⟩ <;> rcases ht' with ht' | ⟨ht', ht2, ht3⟩ <;> rcases hx with hx | ⟨hx, hx2⟩ <;> (try contradiction)
      all_goals
       go_wp2_with (first
        | (go_at_call 123; refine (a_A _ _).mono ?_; rintro e w' ⟨rfl, rfl⟩)
        | (go_at_call 121; refine (a_m _ _).mono ?_; rintro e w' ⟨rfl, rfl⟩))
       go_ret3
       exact ⟨g_j H.out d_, rfl⟩
     ·have H := a_0 (show i_O (bs s) = .ok (⟨2, [], f_X ((bs s).take (c_0 (bs s))), 0⟩, c_0 (bs s)) by rw [hr, hz, ht, if_neg d_, if_neg hv])
      generalize f_X ((bs s).take (c_0 (bs s))) = v at *; clear hr hz ht
      rcases hz' with hz' | ⟨hz', hz2⟩ <;> rcases ht' with ht' | ⟨ht', ht2, ht3⟩ <;> rcases hx with hx | ⟨hx, hx2⟩ <;> (try contradiction)
      all_goals
       go_wp2_with (first
        | (go_at_call 123; refine (a_A _ _).mono ?_; rintro e w' ⟨rfl, rfl⟩)
        | (go_at_call 121; refine (a_m _ _).mono ?_; rintro e w' ⟨rfl, rfl⟩))
       go_ret3
       exact ⟨o_d H.out rfl rfl, rfl⟩
    ·obtain ⟨ht1, ht2⟩ := k_K ht
     obtain ⟨hx1, hx2⟩ := hx.resolve_left o_; have H := a_0 (show i_O (bs s) = .error 3 by rw [hr, hz, ht, if_pos d_]); clear hr hz ht
     rcases hz' with hz' | ⟨hz', hz2⟩ <;> rcases ht2 with ht2 | ⟨ht2, ht3⟩
     all_goals
      go_wp2_with (first
       | (go_at_call 123; refine (a_A _ _).mono ?_; rintro e w' ⟨rfl, rfl⟩)
       | (go_at_call 121; refine (a_m _ _).mono ?_; rintro e w' ⟨rfl, rfl⟩))
      go_ret3
      exact ⟨g_j H.out d_, rfl⟩
   ·obtain ⟨_, hz1, hz2⟩ := k_4 hz
    have H := a_0 (show i_O (bs s) = .error 3 by rw [hr, hz, if_pos s_]); have hz3 : decide (1 < (c_0 (bs s) : Int)) = true := by simp; omega
    clear hr hz hd1
    rcases hx with hx | ⟨hx, hx2⟩
    all_goals
     go_wp2_with (first
      | (go_at_call 123; refine (a_A _ _).mono ?_; rintro e w' ⟨rfl, rfl⟩)
      | (go_at_call 121; refine (a_m _ _).mono ?_; rintro e w' ⟨rfl, rfl⟩))
     go_ret3
     exact ⟨g_j H.out d_, rfl⟩
set_option maxRecDepth 512
def l_k (r : Except Int (Tok × Nat)) (e : Ending) : Prop :=
 match r with
 | .ok x => e = .returned (.tuple #[str x.1.text, .int .i64 (x.2 : Nat), .int .i64 0])
 | .error c => c ≠ 0 ∧ e = .returned (.tuple #[str [], .int .i64 0, .int .i64 c])
theorem i_e {r : Except Int (Tok × Nat)} {c : Int} (h : r = .error c) (hc : c ≠ 0) : l_k r (.returned (.tuple #[str [], .int .i64 0, .int .i64 c])) := by subst h; exact ⟨hc, rfl⟩
theorem m_c {r : Except Int (Tok × Nat)} {t : Tok} {n : Nat} (h : r = .ok (t, n)) {m : Int} (hm : m = n) : l_k r (.returned (.tuple #[str t.text, .int .i64 m, .int .i64 0])) := by subst h hm; rfl
theorem p_Q {c : UInt8} (h : c.toNat = 39) : k_G c = .int .u8 39 := by unfold k_G; rw [h]; rfl
set_option maxRecDepth 100000
theorem f_M (s : ByteArray) (w : World) (hs : s.size ≤ 140737488355328) (h0 : 0 < s.size) :
  Calls prog 125 #[.string s] w fun e w' => l_k (i_h (bs s)) e ∧ Below w.heap.size w w' := by
 obtain ⟨i0, hi, hz0, hz1, hz2⟩ := info_parts Tryz.info_u8
 go_enter func125, ntmps125
 go_wp2
 go_loopw [5, 6] (fun v i wr => ∃ (k : Nat) (b : a_3) (A : Option Addr) (c : Nat), v = .slice A b.length c ∧ i = .int .i64 k ∧ k ≤ s.size ∧ f_Q (bs s) k b ∧
   wr.ownsRow w.heap.size 5 1 (.slice A b.length c) b.length (b.map k_G) ∧ Below w.heap.size w wr)
  (fun _ i _ => s.size - (intOf i).toNat)
 case atStart => exact ⟨1, [], none, 0, rfl, rfl, o_, g_D _, a_o _ _ _ _, b_ _ _⟩
 case round =>
  obtain ⟨k, b, A, c, rfl, rfl, hk, hrel, hown, hbel⟩ := hrel
  have hsz := hbel.size
  have hb1 : b.length + 1 ≤ k := hrel.2.1
  by_cases hlt : k < s.size
  ·by_cases hc : s[k].toNat = 39
   ·have hc' : ((s[k].toNat : Int) != 39) = false := by simp; omega
    by_cases hd : ∃ h : k + 1 < s.size, s[k+1].toNat = 39
    ·obtain ⟨hd1, hd2⟩ := hd
     have hrel' := h_A hrel hd1 hc hd2; have hd' : ((s[k+1].toNat : Int) == 39) = true := by simp; omega
     have he' : decide ((k : Int) + 1 < (s.size : Int)) = true := by simp; omega
     have HV := a_0 (p_Q hd2); clear hc hrel hd2
     go_wp2_with (at_builtin; refine wpList_append_own _ rfl _ _ 155 rfl w.heap.size 5 i0 (.int .u8 0) 1 1 underlying155 hi hz0 hz1 hz2 rfl d_ _ _ _ rfl (hown.alloc _) ⟨wr.heap.size, 0, none⟩ 1 1 [.int .u8 39] rfl rfl (cell_one_new _ _ _) c_ x_ o_ m_ ?_; intro v' w1 hown' hgrow _)
     refine r_t ?_; intro hb2; obtain ⟨A', c', rfl⟩ := a_i hown'; exact ⟨⟨k + 2, b ++ [s[k+1]], A', c', s_, t_, o_, hrel', by rw [List.map_append, List.map_cons, List.map_nil, HV.out]; simpa using hown', hb2⟩, w_⟩
    ·have hd' : ∀ h : k + 1 < s.size, s[k+1].toNat ≠ 39 := fun h e => hd ⟨h, e⟩
     have hr := g_H hrel hlt hc hd'; clear hc hrel
     have hx : decide ((k : Int) + 1 < (s.size : Int)) = false ∨ (decide ((k : Int) + 1 < (s.size : Int)) = true ∧ ∃ h : k + 1 < s.size, ((s[k+1].toNat : Int) == 39) = false) := by
      by_cases h : k + 1 < s.size
      ·have := hd' h
       exact .inr ⟨m_, h, m_⟩
      ·exact .inl m_
     clear hd hd'
     by_cases h64 : 64 < b.length
     ·have H := a_0 (show i_h (bs s) = .error 2 by rw [hr, if_pos h64])
      clear hr
      rcases hx with hx | ⟨hx, hx1, hx2⟩
      all_goals
       go_wp2
       go_ret3
       exact ⟨i_e H.out d_, hbel⟩
     ·have H := a_0 (show i_h (bs s) = .ok (⟨3, b, 0, 0⟩, k + 1) by rw [hr, if_neg h64])
      clear hr; have hcv := g_B (P := prog) (w := wr) (dst := 9) underlying155 underlying5 underlying9 hown
      rcases hx with hx | ⟨hx, hx1, hx2⟩
      all_goals
       go_wp2
       go_ret3
       exact ⟨m_c H.out s_, hbel⟩
   ·have hrel' := g_O hrel hlt hc
    have hc' : ((s[k].toNat : Int) != 39) = true := by simp; omega
    clear hc hrel
    go_wp2_with (at_builtin; refine wpList_append_own _ rfl _ _ 155 rfl w.heap.size 5 i0 (.int .u8 0) 1 1 underlying155 hi hz0 hz1 hz2 rfl d_ _ _ _ rfl (hown.alloc _) ⟨wr.heap.size, 0, none⟩ 1 1 [k_G s[k]] rfl rfl (cell_one_new _ _ _) c_ x_ o_ m_ ?_; intro v' w1 hown' hgrow _)
    refine r_t ?_; intro hb2; exact w_2
  ·have hr := i_S hrel hlt
   have H := a_0 hr; clear hr hrel
   go_wp2
   go_ret3
   exact ⟨i_e H.out d_, hbel⟩
end Go.Proofs.YtmbeeefkpgfgmaaGreatDoor
