/- Contract of the reader of a time, the reference's. Contracts of the reference's readers of names and integers. Contract of the reference's reader of a text literal. -/
import Derived.Test.YtlfedcbihbigoaaGreatDoorCivAD
import Derived.Deep.RegionWith
import Derived.Test.YtlfedcbihbigoaaGreatDoorTokAD
set_option linter.unusedVariables false
set_option linter.unusedSimpArgs false
namespace Go.Proofs.YtlfedcbihbigoaaGreatDoor
open Go.RowKit

/-- The five pieces and the four separators. -/
theorem fit_of {s : ByteArray} (h16 : s.size = 16) (h4 : (s[4]'(by omega)).toNat = 45) (h7 : (s[7]'(by omega)).toNat = 45) (h10 : (s[10]'(by omega)).toNat = 84) (h13 : (s[13]'(by omega)).toNat = 58)
    (p0 : allDig (bs (s.extract 0 4)) = true) (p1 : allDig (bs (s.extract 5 7)) = true) (p2 : allDig (bs (s.extract 8 10)) = true) (p3 : allDig (bs (s.extract 11 13)) = true) (p4 : allDig (bs (s.extract 14 16)) = true) : fitB timeForm (bs s) = true := by
  rw [fitB_iff]
  have hl : timeForm.length = 16 := rfl
  refine ⟨h16, fun j hj => ?_⟩
  rw [hl] at hj
  have hjs : j < s.size := by omega
  have e : (bs s).getD j 0 = s[j] := by rw [List.getD, List.getElem?_eq_getElem (show j < (bs s).length from hjs)]; rfl
  rw [e]
  have dig : ∀ a b : Nat, b ≤ 16 → allDig (bs (s.extract a b)) = true → a ≤ j → j < b → digB s[j] = true := by
    intro a b hb16 hp ha hb
    unfold allDig at hp
    rw [List.all_eq_true] at hp
    refine hp _ ?_
    rw [bs_extract]
    rw [List.mem_iff_getElem]
    refine ⟨j - a, by simp only [List.length_drop, List.length_take, bs_length]; omega, ?_⟩
    rw [List.getElem_drop, List.getElem_take]
    have : a + (j - a) = j := by omega
    show (bs s)[a + (j - a)]'_ = s[j]
    simp only [this]
    rfl
  rcases (show j = 4 ∨ j = 7 ∨ j = 10 ∨ j = 13 ∨ (j ≠ 4 ∧ j ≠ 7 ∧ j ≠ 10 ∧ j ≠ 13) by omega) with rfl | rfl | rfl | rfl | ⟨n4, n7, n10, n13⟩
  · unfold fit1; rw [if_neg (by decide), h4]; decide
  · unfold fit1; rw [if_neg (by decide), h7]; decide
  · unfold fit1; rw [if_neg (by decide), h10]; decide
  · unfold fit1; rw [if_neg (by decide), h13]; decide
  · have hd : digB s[j] = true := by
      rcases (show j < 4 ∨ (5 ≤ j ∧ j < 7) ∨ (8 ≤ j ∧ j < 10) ∨ (11 ≤ j ∧ j < 13) ∨ (14 ≤ j ∧ j < 16) by omega) with h | ⟨h, h'⟩ | ⟨h, h'⟩ | ⟨h, h'⟩ | ⟨h, h'⟩
      · exact dig 0 4 (by omega) p0 (by omega) h
      · exact dig 5 7 (by omega) p1 h h'
      · exact dig 8 10 (by omega) p2 h h'
      · exact dig 11 13 (by omega) p3 h h'
      · exact dig 14 16 (by omega) p4 h h'
    have h48 : ∀ j, j < 16 → j ≠ 4 → j ≠ 7 → j ≠ 10 → j ≠ 13 → (timeForm.getD j 0).toNat = 48 := by decide
    unfold fit1
    rw [if_pos (h48 j hj n4 n7 n10 n13)]
    exact hd
theorem fit_sep {s : ByteArray} (h : fitB timeForm (bs s) = true) (h16 : 16 ≤ s.size) : (s[4]'(by omega)).toNat = 45 ∧ (s[7]'(by omega)).toNat = 45 ∧ (s[10]'(by omega)).toNat = 84 ∧ (s[13]'(by omega)).toNat = 58 := by
  obtain ⟨_, hd⟩ := fit_dig h
  have f4 := hd 4 (by omega)
  have f7 := hd 7 (by omega)
  have f10 := hd 10 (by omega)
  have f13 := hd 13 (by omega)
  unfold fit1 at f4 f7 f10 f13
  rw [if_neg (by decide)] at f4 f7 f10 f13
  simp only [beq_iff_eq] at f4 f7 f10 f13
  exact ⟨f4, f7, f10, f13⟩
theorem digitsS_yes {l : Bytes} (h : allDig l = true) : digitsS l = numS l := by unfold digitsS; rw [if_pos h]
theorem digitsS_no {l : Bytes} (h : allDig l = false) : digitsS l = -1 := by unfold digitsS; rw [h]; rfl

set_option maxRecDepth 100000 in
set_option maxHeartbeats 4000000 in
theorem ref3_Parse_any (s : ByteArray) (w : World) (hs : s.size ≤ maxLen) :
    Calls Tryz.prog 63 #[.string s] w fun e w' => TimeRes (timeS (bs s)) e ∧ Below w.heap.size w w' := by
  unfold maxLen at hs
  have HT := hide (timeS_eq s)
  by_cases h16 : s.size = 16
  case neg =>
    have a16 : ((s.size : Int) != 16) = true := by simp; omega
    have HE := hide (show timeS (bs s) = .error 3 by
      rw [HT.out, if_pos]
      cases hb : fitB timeForm (bs s)
      · rfl
      · exact absurd (fit_dig hb).1 h16)
    clear h16
    go_enter Tryz.func63, Tryz.ntmps63
    go_wp2
    go_ret2
    exact ⟨TimeRes_err HE.out (by decide) _, Below.refl _ _⟩
  have a16 : ((s.size : Int) != 16) = false := by simp; omega
  have b16 : 16 ≤ s.size := by omega
  have H16 := hide h16; clear h16
  by_cases hsep : (s[4]'(by omega)).toNat = 45 ∧ (s[7]'(by omega)).toNat = 45 ∧ (s[10]'(by omega)).toNat = 84 ∧ (s[13]'(by omega)).toNat = 58
  case neg =>
    have HE := hide (show timeS (bs s) = .error 3 by
      rw [HT.out, if_pos]
      cases hb : fitB timeForm (bs s)
      · rfl
      · exact absurd (fit_sep hb b16) hsep)
    have c : (((s[4]'(by omega)).toNat : Int) != 45) = true ∨ ((((s[4]'(by omega)).toNat : Int) != 45) = false ∧ ((((s[7]'(by omega)).toNat : Int) != 45) = true ∨ ((((s[7]'(by omega)).toNat : Int) != 45) = false ∧ ((((s[10]'(by omega)).toNat : Int) != 84) = true ∨ ((((s[10]'(by omega)).toNat : Int) != 84) = false ∧ (((s[13]'(by omega)).toNat : Int) != 58) = true))))) := by
      simp; omega
    clear hsep
    rcases c with c | ⟨c, c | ⟨c', c | ⟨c'', c⟩⟩⟩
    all_goals
      go_enter Tryz.func63, Tryz.ntmps63
      go_wp2
      go_ret2
      exact ⟨TimeRes_err HE.out (by decide) _, Below.refl _ _⟩
  obtain ⟨q4, q7, q10, q13⟩ := hsep
  have c4 : (((s[4]'(by omega)).toNat : Int) != 45) = false := by simp; omega
  have c7 : (((s[7]'(by omega)).toNat : Int) != 45) = false := by simp; omega
  have c10 : (((s[10]'(by omega)).toNat : Int) != 84) = false := by simp; omega
  have c13 : (((s[13]'(by omega)).toNat : Int) != 58) = false := by simp; omega
  have HF := hide (fit_of H16.out q4 q7 q10 q13)
  clear q4 q7 q10 q13
  have N0 := hide (fun W => ref3_digits_any (s.extract 0 4) W (by simp; omega))
  have N1 := hide (fun W => ref3_digits_any (s.extract 5 7) W (by simp; omega))
  have N2 := hide (fun W => ref3_digits_any (s.extract 8 10) W (by simp; omega))
  have N3 := hide (fun W => ref3_digits_any (s.extract 11 13) W (by simp; omega))
  have N4 := hide (fun W => ref3_digits_any (s.extract 14 s.size) W (by have := H16.out; simp; omega))
  have e4 : bs (s.extract 14 s.size) = bs (s.extract 14 16) := by rw [H16.out]
  rw [e4] at N4
  clear e4
  cases hfit : fitB timeForm (bs s)
  · have HE := hide (show timeS (bs s) = .error 3 by rw [HT.out, if_pos hfit])
    have hneg : digitsS (bs (s.extract 0 4)) < 0 ∨ digitsS (bs (s.extract 5 7)) < 0 ∨ digitsS (bs (s.extract 8 10)) < 0 ∨ digitsS (bs (s.extract 11 13)) < 0 ∨ digitsS (bs (s.extract 14 16)) < 0 := by
      cases p0 : allDig (bs (s.extract 0 4))
      · left; rw [digitsS_no p0]; decide
      cases p1 : allDig (bs (s.extract 5 7))
      · right; left; rw [digitsS_no p1]; decide
      cases p2 : allDig (bs (s.extract 8 10))
      · right; right; left; rw [digitsS_no p2]; decide
      cases p3 : allDig (bs (s.extract 11 13))
      · right; right; right; left; rw [digitsS_no p3]; decide
      cases p4 : allDig (bs (s.extract 14 16))
      · right; right; right; right; rw [digitsS_no p4]; decide
      rw [HF.out p0 p1 p2 p3 p4] at hfit; cases hfit
    clear hfit HT
    generalize digitsS (bs (s.extract 0 4)) = Y at *
    generalize digitsS (bs (s.extract 5 7)) = M at *
    generalize digitsS (bs (s.extract 8 10)) = D at *
    generalize digitsS (bs (s.extract 11 13)) = hour at *
    generalize digitsS (bs (s.extract 14 16)) = minute at *
    have c : decide (Y < 0) = true ∨ (decide (Y < 0) = false ∧ (decide (M < 0) = true ∨ (decide (M < 0) = false ∧ (decide (D < 0) = true ∨ (decide (D < 0) = false ∧ (decide (hour < 0) = true ∨ (decide (hour < 0) = false ∧ decide (minute < 0) = true))))))) := by
      simp; omega
    clear hneg
    rcases c with c | ⟨c, c | ⟨c', c | ⟨c'', c | ⟨c''', c⟩⟩⟩⟩
    all_goals
      go_enter Tryz.func63, Tryz.ntmps63
      go_wp2
      go_big_quiet ((first | (go_at_call_of 95 (Value.string (s.extract 0 4)); exact quiet_left (N0.out _)) | (go_at_call_of 95 (Value.string (s.extract 5 7)); exact quiet_left (N1.out _)) | (go_at_call_of 95 (Value.string (s.extract 8 10)); exact quiet_left (N2.out _)) | (go_at_call_of 95 (Value.string (s.extract 11 13)); exact quiet_left (N3.out _)) | (go_at_call_of 95 (Value.string (s.extract 14 s.size)); exact quiet_left (N4.out _))))
      go_wp2
      go_ret2
      exact ⟨TimeRes_err HE.out (by decide) _, below_drewN (Below.refl _ _) _⟩
  · obtain ⟨p0, p1, p2, p3, p4⟩ := pieces hfit
    have l0 : (bs (s.extract 0 4)).length ≤ 4 := by rw [bs_length]; simp; omega
    have l1 : (bs (s.extract 5 7)).length ≤ 2 := by rw [bs_length]; simp; omega
    have l2 : (bs (s.extract 8 10)).length ≤ 2 := by rw [bs_length]; simp; omega
    have l3 : (bs (s.extract 11 13)).length ≤ 2 := by rw [bs_length]; simp; omega
    have l4 : (bs (s.extract 14 16)).length ≤ 2 := by rw [bs_length]; simp; omega
    obtain ⟨y0, y1⟩ := numS_bd _ p0 l0
    obtain ⟨m0, m1⟩ := numS_bd2 _ p1 l1
    obtain ⟨d0, d1⟩ := numS_bd2 _ p2 l2
    obtain ⟨h0, h1⟩ := numS_bd2 _ p3 l3
    obtain ⟨i0, i1⟩ := numS_bd2 _ p4 l4
    clear l0 l1 l2 l3 l4
    rw [digitsS_yes p0] at N0
    rw [digitsS_yes p1] at N1
    rw [digitsS_yes p2] at N2
    rw [digitsS_yes p3] at N3
    rw [digitsS_yes p4] at N4
    have HT' := hide (show timeS (bs s) = _ from HT.out.trans (if_neg (by rw [hfit]; decide)))
    clear p0 p1 p2 p3 p4 HT hfit HF
    generalize numS (bs (s.extract 0 4)) = Y at *
    generalize numS (bs (s.extract 5 7)) = M at *
    generalize numS (bs (s.extract 8 10)) = D at *
    generalize numS (bs (s.extract 11 13)) = hour at *
    generalize numS (bs (s.extract 14 16)) = minute at *
    cases hday : daysS Y M D with
    | none =>
      have HE := hide (show timeS (bs s) = .error 1 by rw [HT'.out, hday])
      have HDy := hide (show ∀ W : World, Calls Tryz.prog 96 #[.int .i64 Y, .int .i64 M, .int .i64 D] W fun e w' => e = .returned (.tuple #[.int .i64 0, .bool false]) ∧ W = w' from fun W => (ref3_Days_any Y M D W (by omega) (by omega) (by omega) (by omega) (by omega) (by omega)).mono fun e w' ⟨h1, h2⟩ => ⟨by rw [hday] at h1; exact h1, h2⟩)
      clear hday HT'
      go_enter Tryz.func63, Tryz.ntmps63
      go_wp2
      go_big_quiet ((first | (go_at_call_of 95 (Value.string (s.extract 0 4)); exact quiet_left (N0.out _)) | (go_at_call_of 95 (Value.string (s.extract 5 7)); exact quiet_left (N1.out _)) | (go_at_call_of 95 (Value.string (s.extract 8 10)); exact quiet_left (N2.out _)) | (go_at_call_of 95 (Value.string (s.extract 11 13)); exact quiet_left (N3.out _)) | (go_at_call_of 95 (Value.string (s.extract 14 s.size)); exact quiet_left (N4.out _))))
      go_wp2_with (go_at_call 96; refine (HDy.out _).mono ?_; rintro e w' ⟨rfl, rfl⟩)
      go_ret2
      exact ⟨TimeRes_err HE.out (by decide) _, below_drewN (Below.refl _ _) _⟩
    | some N =>
      obtain ⟨nn0, nn1⟩ := dayN_bd hday
      have HDy := hide (show ∀ W : World, Calls Tryz.prog 96 #[.int .i64 Y, .int .i64 M, .int .i64 D] W fun e w' => e = .returned (.tuple #[.int .i64 N, .bool true]) ∧ W = w' from fun W => (ref3_Days_any Y M D W (by omega) (by omega) (by omega) (by omega) (by omega) (by omega)).mono fun e w' ⟨h1, h2⟩ => ⟨by rw [hday] at h1; exact h1, h2⟩)
      have HV := hide (show timeS (bs s) = _ from by rw [HT'.out, hday])
      clear hday HT'
      by_cases hbad : 23 < hour ∨ 59 < minute ∨ 575999999 < N * 1440 + hour * 60 + minute
      · have HE := hide (show timeS (bs s) = .error 1 by rw [HV.out]; exact if_pos hbad)
        have c : decide (23 < hour) = true ∨ (decide (23 < hour) = false ∧ decide (59 < minute) = true) ∨ (decide (23 < hour) = false ∧ decide (59 < minute) = false ∧ decide (575999999 < N * 1440 + hour * 60 + minute) = true) := by simp; omega
        clear hbad
        rcases c with c | ⟨c, c'⟩ | ⟨c, c', c''⟩
        all_goals
          go_enter Tryz.func63, Tryz.ntmps63
          go_wp2
          go_big_quiet ((first | (go_at_call_of 95 (Value.string (s.extract 0 4)); exact quiet_left (N0.out _)) | (go_at_call_of 95 (Value.string (s.extract 5 7)); exact quiet_left (N1.out _)) | (go_at_call_of 95 (Value.string (s.extract 8 10)); exact quiet_left (N2.out _)) | (go_at_call_of 95 (Value.string (s.extract 11 13)); exact quiet_left (N3.out _)) | (go_at_call_of 95 (Value.string (s.extract 14 s.size)); exact quiet_left (N4.out _))))
          go_wp2_with (go_at_call 96; refine (HDy.out _).mono ?_; rintro e w' ⟨rfl, rfl⟩)
          go_ret2
          exact ⟨TimeRes_err HE.out (by decide) _, below_drewN (Below.refl _ _) _⟩
      · have HE := hide (show timeS (bs s) = .ok (N * 1440 + hour * 60 + minute) by rw [HV.out]; exact if_neg hbad)
        have c : decide (23 < hour) = false ∧ decide (59 < minute) = false ∧ decide (575999999 < N * 1440 + hour * 60 + minute) = false := by simp; omega
        obtain ⟨c, c', c''⟩ := c
        clear hbad
        go_enter Tryz.func63, Tryz.ntmps63
        go_wp2
        go_big_quiet ((first | (go_at_call_of 95 (Value.string (s.extract 0 4)); exact quiet_left (N0.out _)) | (go_at_call_of 95 (Value.string (s.extract 5 7)); exact quiet_left (N1.out _)) | (go_at_call_of 95 (Value.string (s.extract 8 10)); exact quiet_left (N2.out _)) | (go_at_call_of 95 (Value.string (s.extract 11 13)); exact quiet_left (N3.out _)) | (go_at_call_of 95 (Value.string (s.extract 14 s.size)); exact quiet_left (N4.out _))))
        go_wp2_with (go_at_call 96; refine (HDy.out _).mono ?_; rintro e w' ⟨rfl, rfl⟩)
        go_ret2
        exact ⟨TimeRes_ok HE.out rfl, below_drewN (Below.refl _ _) _⟩

end Go.Proofs.YtlfedcbihbigoaaGreatDoor

namespace Go.Proofs.YtlfedcbihbigoaaGreatDoor
open Go.RowKit

def NameRes (r : Except Int (Tok × Nat)) (e : Ending) : Prop :=
  match r with
  | .ok x => e = .returned (.tuple #[.int .i64 (x.2 : Nat), .int .i64 0])
  | .error c => c ≠ 0 ∧ e = .returned (.tuple #[.int .i64 0, .int .i64 c])
theorem NameRes_err {r : Except Int (Tok × Nat)} {c : Int} (h : r = .error c) (hc : c ≠ 0) : NameRes r (.returned (.tuple #[.int .i64 0, .int .i64 c])) := by subst h; exact ⟨hc, rfl⟩
theorem NameRes_ok {r : Except Int (Tok × Nat)} {t : Tok} {n : Nat} (h : r = .ok (t, n)) {m : Int} (hm : m = n) : NameRes r (.returned (.tuple #[.int .i64 m, .int .i64 0])) := by subst h hm; rfl
def IntRes (r : Except Int (Tok × Nat)) (e : Ending) : Prop :=
  match r with
  | .ok x => e = .returned (.tuple #[.int .i64 x.1.num, .int .i64 (x.2 : Nat), .int .i64 0])
  | .error c => c ≠ 0 ∧ e = .returned (.tuple #[.int .i64 0, .int .i64 0, .int .i64 c])
theorem IntRes_err {r : Except Int (Tok × Nat)} {c : Int} (h : r = .error c) (hc : c ≠ 0) : IntRes r (.returned (.tuple #[.int .i64 0, .int .i64 0, .int .i64 c])) := by subst h; exact ⟨hc, rfl⟩
theorem IntRes_ok {r : Except Int (Tok × Nat)} {t : Tok} {n : Nat} (h : r = .ok (t, n)) {v m : Int} (hv : v = t.num) (hm : m = n) : IntRes r (.returned (.tuple #[.int .i64 v, .int .i64 m, .int .i64 0])) := by subst h hm hv; rfl

set_option maxHeartbeats 1000000 in
theorem ref7_name_any (s : ByteArray) (w : World) (hs : s.size ≤ maxLen) :
    Calls Tryz.prog 59 #[.string s] w fun e w' => NameRes (nameS (bs s)) e ∧ w = w' := by
  have hs' := hs
  unfold maxLen at hs
  have hp := partL_le (bs s)
  rw [bs_length] at hp
  by_cases h1 : 24 < partL (bs s)
  · have hr : nameS (bs s) = .error 4 := by rw [nameS, if_pos h1]
    have H := hide hr; clear hr
    go_enter Tryz.func59, Tryz.ntmps59
    go_wp2_with (go_at_call 94; refine (ref7_run_any _ _ hs').mono ?_; rintro e w' ⟨rfl, rfl⟩)
    go_ret2
    exact ⟨NameRes_err H.out (by decide), rfl⟩
  · cases h2 : dotB (bs s) (partL (bs s))
    · have hr : nameS (bs s) = .ok (⟨1, (bs s).take (partL (bs s)), 0, 0⟩, partL (bs s)) := by rw [nameS, if_neg h1, h2]; rfl
      have H := hide hr; clear hr
      have h3 := dotB_no h2
      clear h2
      rcases h3 with h3 | ⟨h3, h4 | ⟨h4, h5⟩⟩
      all_goals
        go_enter Tryz.func59, Tryz.ntmps59
        go_wp2_with (first
          | (go_at_call 94; refine (ref7_run_any _ _ hs').mono ?_; rintro e w' ⟨rfl, rfl⟩)
          | (go_at_call 58; refine (ref7_letter_any _ _).mono ?_; rintro e w' ⟨rfl, rfl⟩))
        go_ret2
        exact ⟨NameRes_ok H.out rfl, rfl⟩
    · obtain ⟨h3, h4, h5⟩ := dotB_yes h2
      have hq := partL_le ((bs s).drop (partL (bs s) + 1))
      rw [List.length_drop, bs_length] at hq
      by_cases h6 : 24 < partL ((bs s).drop (partL (bs s) + 1))
      · have hr : nameS (bs s) = .error 4 := by rw [nameS, if_neg h1, if_pos h2, if_pos h6]
        have H := hide hr; clear hr h2
        go_enter Tryz.func59, Tryz.ntmps59
        go_wp2_with (fail)
        refine (ref7_run_any _ _ hs').mono ?_; rintro e w' ⟨rfl, rfl⟩
        go_wp2_with (go_at_call 58; refine (ref7_letter_any _ _).mono ?_; rintro e w' ⟨rfl, rfl⟩)
        refine (ref7_run_any _ _ (by unfold maxLen; simp; omega)).mono ?_; rintro e w' ⟨rfl, rfl⟩
        rw [bs_from]
        go_wp2
        go_ret2
        exact ⟨NameRes_err H.out (by decide), rfl⟩
      · have hr : nameS (bs s) = .ok (⟨1, (bs s).take (partL (bs s) + (1 + partL ((bs s).drop (partL (bs s) + 1)))), 0, 0⟩, partL (bs s) + (1 + partL ((bs s).drop (partL (bs s) + 1)))) := by rw [nameS, if_neg h1, if_pos h2, if_neg h6]
        have H := hide hr; clear hr h2
        go_enter Tryz.func59, Tryz.ntmps59
        go_wp2_with (fail)
        refine (ref7_run_any _ _ hs').mono ?_; rintro e w' ⟨rfl, rfl⟩
        go_wp2_with (go_at_call 58; refine (ref7_letter_any _ _).mono ?_; rintro e w' ⟨rfl, rfl⟩)
        refine (ref7_run_any _ _ (by unfold maxLen; simp; omega)).mono ?_; rintro e w' ⟨rfl, rfl⟩
        rw [bs_from]
        generalize hg : partL ((bs s).drop (partL (bs s) + 1)) = q at *
        have HG := hide hg; clear hg
        go_wp2
        go_ret2
        exact ⟨NameRes_ok H.out (by simp), rfl⟩

set_option maxRecDepth 100000 in
set_option maxHeartbeats 4000000 in
theorem ref7_integer_any (s : ByteArray) (w : World) (hs : s.size ≤ maxLen) (h0 : 0 < s.size) :
    Calls Tryz.prog 61 #[.string s] w fun e w' => IntRes (intS (bs s)) e ∧ w = w' := by
  have hs' := hs
  unfold maxLen at hs
  have hp := digL_le (bs s)
  rw [bs_length] at hp
  go_enter Tryz.func61, Tryz.ntmps61
  go_wp2
  go_loop [6, 5] (fun n v => ∃ k : Nat, k ≤ digL (bs s) ∧ n = .int .i64 k ∧ v = .int .i64 (valS ((bs s).take k))) (fun n _ => digL (bs s) - (intOf n).toNat)
  case atStart => exact ⟨0, Nat.zero_le _, rfl, by simp [valS]⟩
  case round =>
    obtain ⟨k, hk, rfl, rfl⟩ := hrel
    obtain ⟨v1, v2⟩ := valS_bd s k hk
    by_cases hlt : k < digL (bs s)
    · obtain ⟨h1, h2⟩ := digL_lt (bs s) k hlt
      have h1' : k < s.size := h1
      have h2' : digB s[k] = true := h2
      obtain ⟨d1, d2⟩ := digB_bd h2'
      clear h2
      have HS := hide (show valS ((bs s).take (k + 1)) = _ from by rw [take_snoc s k h1', valS_snoc])
      generalize valS ((bs s).take k) = v at *
      go_wp2_with (go_at_call 60; refine (ref7_digit_any _ _).mono ?_; rintro e w' ⟨rfl, rfl⟩)
      go_round
      case rel => exact ⟨k + 1, by omega, by go_num, by rw [HS.out]; congr 1; split <;> omega⟩
      case measure => simp [intOf]; omega
    · obtain rfl : k = digL (bs s) := by omega
      have hx : ¬ digL (bs s) < s.size ∨ ∃ h : digL (bs s) < s.size, digB s[digL (bs s)] = false := by
        by_cases h : digL (bs s) < s.size
        · exact .inr ⟨h, digL_stop (bs s) h⟩
        · exact .inl h
      have hr := intS_eq (bs s)
      have hd1 : 1 < digL (bs s) ∨ ¬ 1 < digL (bs s) := by omega
      cases hz : zeroB (bs s)
      · have hz' : decide (1 < (digL (bs s) : Int)) = false ∨ (decide (1 < (digL (bs s) : Int)) = true ∧ ((s[0].toNat : Int) == 48) = false) := by
          rcases zeroB_no hz h0 with h | ⟨_, h⟩
          · rcases hd1 with hd1 | hd1
            · exact .inr ⟨by simp; omega, h⟩
            · exact .inl (by simp; omega)
          · exact .inl (by simp; omega)
        clear hd1
        cases ht : tailB (bs s) (digL (bs s))
        · have ht' := tailB_no ht
          by_cases hv : 1073741824 < valS ((bs s).take (digL (bs s)))
          · have H := hide (show intS (bs s) = .error 1 by rw [hr, hz, ht, if_neg (by decide), if_pos hv])
            generalize valS ((bs s).take (digL (bs s))) = v at *
            clear hr hz ht
            rcases hz' with hz' | ⟨hz', hz2⟩ <;> rcases ht' with ht' | ⟨ht', ht2, ht3⟩ <;> rcases hx with hx | ⟨hx, hx2⟩ <;> (try contradiction)
            all_goals
              go_wp2_with (first
                | (go_at_call 60; refine (ref7_digit_any _ _).mono ?_; rintro e w' ⟨rfl, rfl⟩)
                | (go_at_call 58; refine (ref7_letter_any _ _).mono ?_; rintro e w' ⟨rfl, rfl⟩))
              go_ret3
              exact ⟨IntRes_err H.out (by decide), rfl⟩
          · have H := hide (show intS (bs s) = .ok (⟨2, [], valS ((bs s).take (digL (bs s))), 0⟩, digL (bs s)) by rw [hr, hz, ht, if_neg (by decide), if_neg hv])
            generalize valS ((bs s).take (digL (bs s))) = v at *
            clear hr hz ht
            rcases hz' with hz' | ⟨hz', hz2⟩ <;> rcases ht' with ht' | ⟨ht', ht2, ht3⟩ <;> rcases hx with hx | ⟨hx, hx2⟩ <;> (try contradiction)
            all_goals
              go_wp2_with (first
                | (go_at_call 60; refine (ref7_digit_any _ _).mono ?_; rintro e w' ⟨rfl, rfl⟩)
                | (go_at_call 58; refine (ref7_letter_any _ _).mono ?_; rintro e w' ⟨rfl, rfl⟩))
              go_ret3
              exact ⟨IntRes_ok H.out rfl rfl, rfl⟩
        · obtain ⟨ht1, ht2⟩ := tailB_yes ht
          obtain ⟨hx1, hx2⟩ := hx.resolve_left (by omega)
          have H := hide (show intS (bs s) = .error 3 by rw [hr, hz, ht, if_pos (by decide)])
          clear hr hz ht
          rcases hz' with hz' | ⟨hz', hz2⟩ <;> rcases ht2 with ht2 | ⟨ht2, ht3⟩
          all_goals
            go_wp2_with (first
              | (go_at_call 60; refine (ref7_digit_any _ _).mono ?_; rintro e w' ⟨rfl, rfl⟩)
              | (go_at_call 58; refine (ref7_letter_any _ _).mono ?_; rintro e w' ⟨rfl, rfl⟩))
            go_ret3
            exact ⟨IntRes_err H.out (by decide), rfl⟩
      · obtain ⟨_, hz1, hz2⟩ := zeroB_yes hz
        have H := hide (show intS (bs s) = .error 3 by rw [hr, hz, if_pos (by simp)])
        have hz3 : decide (1 < (digL (bs s) : Int)) = true := by simp; omega
        clear hr hz hd1
        rcases hx with hx | ⟨hx, hx2⟩
        all_goals
          go_wp2_with (first
            | (go_at_call 60; refine (ref7_digit_any _ _).mono ?_; rintro e w' ⟨rfl, rfl⟩)
            | (go_at_call 58; refine (ref7_letter_any _ _).mono ?_; rintro e w' ⟨rfl, rfl⟩))
          go_ret3
          exact ⟨IntRes_err H.out (by decide), rfl⟩

end Go.Proofs.YtlfedcbihbigoaaGreatDoor

namespace Go.Proofs.YtlfedcbihbigoaaGreatDoor
open Go.RowKit

def TextRes (r : Except Int (Tok × Nat)) (e : Ending) : Prop :=
  match r with
  | .ok x => e = .returned (.tuple #[str x.1.text, .int .i64 (x.2 : Nat), .int .i64 0])
  | .error c => c ≠ 0 ∧ e = .returned (.tuple #[str [], .int .i64 0, .int .i64 c])
theorem TextRes_err {r : Except Int (Tok × Nat)} {c : Int} (h : r = .error c) (hc : c ≠ 0) : TextRes r (.returned (.tuple #[str [], .int .i64 0, .int .i64 c])) := by subst h; exact ⟨hc, rfl⟩
theorem TextRes_ok {r : Except Int (Tok × Nat)} {t : Tok} {n : Nat} (h : r = .ok (t, n)) {m : Int} (hm : m = n) : TextRes r (.returned (.tuple #[str t.text, .int .i64 m, .int .i64 0])) := by subst h hm; rfl
theorem byteV_39 {c : UInt8} (h : c.toNat = 39) : byteV c = .int .u8 39 := by unfold byteV; rw [h]; rfl

set_option maxRecDepth 100000 in
set_option maxHeartbeats 2000000 in
theorem ref7_text_any (s : ByteArray) (w : World) (hs : s.size ≤ 140737488355328) (h0 : 0 < s.size) :
    Calls Tryz.prog 62 #[.string s] w fun e w' => TextRes (litS (bs s)) e ∧ Below w.heap.size w w' := by
  obtain ⟨i0, hi, hz0, hz1, hz2⟩ := info_parts Tryz.info_u8
  go_enter Tryz.func62, Tryz.ntmps62
  go_wp2
  go_loopw [5, 6] (fun v i wr => ∃ (k : Nat) (b : Bytes) (A : Option Addr) (c : Nat), v = .slice A b.length c ∧ i = .int .i64 k ∧ k ≤ s.size ∧ LitRel (bs s) k b ∧
      wr.ownsRow w.heap.size 5 1 (.slice A b.length c) b.length (b.map byteV) ∧ Below w.heap.size w wr)
    (fun _ i _ => s.size - (intOf i).toNat)
  case atStart => exact ⟨1, [], none, 0, rfl, rfl, by omega, LitRel_start _, own_nil _ _ _ _, Below.refl _ _⟩
  case round =>
    obtain ⟨k, b, A, c, rfl, rfl, hk, hrel, hown, hbel⟩ := hrel
    have hsz := hbel.size
    have hb1 : b.length + 1 ≤ k := hrel.2.1
    by_cases hlt : k < s.size
    · by_cases hc : s[k].toNat = 39
      · have hc' : ((s[k].toNat : Int) != 39) = false := by simp; omega
        by_cases hd : ∃ h : k + 1 < s.size, s[k+1].toNat = 39
        · obtain ⟨hd1, hd2⟩ := hd
          have hrel' := LitRel_pair hrel hd1 hc hd2
          have hd' : ((s[k+1].toNat : Int) == 39) = true := by simp; omega
          have he' : decide ((k : Int) + 1 < (s.size : Int)) = true := by simp; omega
          have HV := hide (byteV_39 hd2)
          clear hc hrel hd2
          go_wp2_with (at_builtin; refine wpList_append_own _ rfl _ _ 129 rfl w.heap.size 5 i0 (.int .u8 0) 1 1 Tryz.underlying129 hi hz0 hz1 hz2 rfl (by decide) _ _ _ rfl (hown.alloc _) ⟨wr.heap.size, 0, none⟩ 1 1 [.int .u8 39] rfl rfl (cell_one_new _ _ _) (by simp [Value.oneCell']) (by unfold maxLen; omega) (by omega) (by simp; omega) ?_; intro v' w1 hown' hgrow _)
          have hb2 := push_below hbel hown hgrow (by omega)
          obtain ⟨A', c', rfl⟩ := own_form hown'
          exact ⟨⟨k + 2, b ++ [s[k+1]], A', c', by simp, by go_num, by omega, hrel', by rw [List.map_append, List.map_cons, List.map_nil, HV.out]; simpa using hown', hb2⟩, by simp [intOf]; omega⟩
        · have hd' : ∀ h : k + 1 < s.size, s[k+1].toNat ≠ 39 := fun h e => hd ⟨h, e⟩
          have hr := LitRel_close hrel hlt hc hd'
          clear hc hrel
          have hx : decide ((k : Int) + 1 < (s.size : Int)) = false ∨ (decide ((k : Int) + 1 < (s.size : Int)) = true ∧ ∃ h : k + 1 < s.size, ((s[k+1].toNat : Int) == 39) = false) := by
            by_cases h : k + 1 < s.size
            · have := hd' h
              exact .inr ⟨by simp; omega, h, by simp; omega⟩
            · exact .inl (by simp; omega)
          clear hd hd'
          by_cases h64 : 64 < b.length
          · have H := hide (show litS (bs s) = .error 2 by rw [hr, if_pos h64])
            clear hr
            rcases hx with hx | ⟨hx, hx1, hx2⟩
            all_goals
              go_wp2
              go_ret3
              exact ⟨TextRes_err H.out (by decide), hbel⟩
          · have H := hide (show litS (bs s) = .ok (⟨3, b, 0, 0⟩, k + 1) by rw [hr, if_neg h64])
            clear hr
            have hcv := run_conv_own (P := Tryz.prog) (w := wr) (dst := 9) Tryz.underlying129 Tryz.underlying5 Tryz.underlying9 hown
            rcases hx with hx | ⟨hx, hx1, hx2⟩
            all_goals
              go_wp2
              go_ret3
              exact ⟨TextRes_ok H.out (by simp), hbel⟩
      · have hrel' := LitRel_plain hrel hlt hc
        have hc' : ((s[k].toNat : Int) != 39) = true := by simp; omega
        clear hc hrel
        go_wp2_with (at_builtin; refine wpList_append_own _ rfl _ _ 129 rfl w.heap.size 5 i0 (.int .u8 0) 1 1 Tryz.underlying129 hi hz0 hz1 hz2 rfl (by decide) _ _ _ rfl (hown.alloc _) ⟨wr.heap.size, 0, none⟩ 1 1 [byteV s[k]] rfl rfl (cell_one_new _ _ _) (by simp [Value.oneCell']) (by unfold maxLen; omega) (by omega) (by simp; omega) ?_; intro v' w1 hown' hgrow _)
        have hb2 := push_below hbel hown hgrow (by omega)
        obtain ⟨A', c', rfl⟩ := own_form hown'
        exact ⟨⟨k + 1, b ++ [s[k]], A', c', by simp, by go_num, by omega, hrel', by simpa using hown', hb2⟩, by simp [intOf]; omega⟩
    · have hr := LitRel_end hrel hlt
      have H := hide hr; clear hr hrel
      go_wp2
      go_ret3
      exact ⟨TextRes_err H.out (by decide), hbel⟩

end Go.Proofs.YtlfedcbihbigoaaGreatDoor
