/- Contract of the reader of a time, the reference's. -/
import Derived.Test.YtajcddaahmbllaaDoorCivD
import Derived.Deep.RegionWith
set_option linter.unusedVariables false
set_option linter.unusedSimpArgs false
namespace Go.Proofs.YtajcddaahmbllaaDoor
open Go.RowKit

/-- The five pieces and the four separators. -/
theorem fit_of {s : ByteArray} (h16 : s.size = 16) (h4 : (s[4]'(by omega)).toNat = 45) (h7 : (s[7]'(by omega)).toNat = 45) (h10 : (s[10]'(by omega)).toNat = 84) (h13 : (s[13]'(by omega)).toNat = 58)
    (p0 : allDig (bs (s.extract 0 4)) = true) (p1 : allDig (bs (s.extract 5 7)) = true) (p2 : allDig (bs (s.extract 8 10)) = true) (p3 : allDig (bs (s.extract 11 13)) = true) (p4 : allDig (bs (s.extract 14 16)) = true) : fitB timeForm (bs s) = true := by
  rw [fitB_iff]
  have hl : timeForm.length = 16 := rfl
  refine ⟨h16, fun j hj => ?_⟩
  rw [hl] at hj
  have hjs : j < s.size := by omega
  have e : (bs s).getD j 0 = s[j] := by rw [List.getD, List.getElem?_eq_getElem (show j < (bs s).length from hjs)]; rfl
  rw [e]
  have dig : ∀ a b : Nat, b ≤ 16 → allDig (bs (s.extract a b)) = true → a ≤ j → j < b → digB s[j] = true := by
    intro a b hb16 hp ha hb
    unfold allDig at hp
    rw [List.all_eq_true] at hp
    refine hp _ ?_
    rw [bs_extract]
    rw [List.mem_iff_getElem]
    refine ⟨j - a, by simp only [List.length_drop, List.length_take, bs_length]; omega, ?_⟩
    rw [List.getElem_drop, List.getElem_take]
    have : a + (j - a) = j := by omega
    show (bs s)[a + (j - a)]'_ = s[j]
    simp only [this]
    rfl
  rcases (show j = 4 ∨ j = 7 ∨ j = 10 ∨ j = 13 ∨ (j ≠ 4 ∧ j ≠ 7 ∧ j ≠ 10 ∧ j ≠ 13) by omega) with rfl | rfl | rfl | rfl | ⟨n4, n7, n10, n13⟩
  · unfold fit1; rw [if_neg (by decide), h4]; decide
  · unfold fit1; rw [if_neg (by decide), h7]; decide
  · unfold fit1; rw [if_neg (by decide), h10]; decide
  · unfold fit1; rw [if_neg (by decide), h13]; decide
  · have hd : digB s[j] = true := by
      rcases (show j < 4 ∨ (5 ≤ j ∧ j < 7) ∨ (8 ≤ j ∧ j < 10) ∨ (11 ≤ j ∧ j < 13) ∨ (14 ≤ j ∧ j < 16) by omega) with h | ⟨h, h'⟩ | ⟨h, h'⟩ | ⟨h, h'⟩ | ⟨h, h'⟩
      · exact dig 0 4 (by omega) p0 (by omega) h
      · exact dig 5 7 (by omega) p1 h h'
      · exact dig 8 10 (by omega) p2 h h'
      · exact dig 11 13 (by omega) p3 h h'
      · exact dig 14 16 (by omega) p4 h h'
    have h48 : ∀ j, j < 16 → j ≠ 4 → j ≠ 7 → j ≠ 10 → j ≠ 13 → (timeForm.getD j 0).toNat = 48 := by decide
    unfold fit1
    rw [if_pos (h48 j hj n4 n7 n10 n13)]
    exact hd
theorem fit_sep {s : ByteArray} (h : fitB timeForm (bs s) = true) (h16 : 16 ≤ s.size) : (s[4]'(by omega)).toNat = 45 ∧ (s[7]'(by omega)).toNat = 45 ∧ (s[10]'(by omega)).toNat = 84 ∧ (s[13]'(by omega)).toNat = 58 := by
  obtain ⟨_, hd⟩ := fit_dig h
  have f4 := hd 4 (by omega)
  have f7 := hd 7 (by omega)
  have f10 := hd 10 (by omega)
  have f13 := hd 13 (by omega)
  unfold fit1 at f4 f7 f10 f13
  rw [if_neg (by decide)] at f4 f7 f10 f13
  simp only [beq_iff_eq] at f4 f7 f10 f13
  exact ⟨f4, f7, f10, f13⟩
theorem digitsS_yes {l : Bytes} (h : allDig l = true) : digitsS l = numS l := by unfold digitsS; rw [if_pos h]
theorem digitsS_no {l : Bytes} (h : allDig l = false) : digitsS l = -1 := by unfold digitsS; rw [h]; rfl

set_option maxRecDepth 100000 in
set_option maxHeartbeats 4000000 in
theorem ref3_Parse_any (s : ByteArray) (w : World) (hs : s.size ≤ maxLen) :
    Calls Tryd.prog 62 #[.string s] w fun e w' => TimeRes (timeS (bs s)) e ∧ Below w.heap.size w w' := by
  unfold maxLen at hs
  have HT := hide (timeS_eq s)
  by_cases h16 : s.size = 16
  case neg =>
    have a16 : ((s.size : Int) != 16) = true := by simp; omega
    have HE := hide (show timeS (bs s) = .error 3 by
      rw [HT.out, if_pos]
      cases hb : fitB timeForm (bs s)
      · rfl
      · exact absurd (fit_dig hb).1 h16)
    clear h16
    go_enter Tryd.func62, Tryd.ntmps62
    go_wp2
    go_ret2
    exact ⟨TimeRes_err HE.out (by decide) _, Below.refl _ _⟩
  have a16 : ((s.size : Int) != 16) = false := by simp; omega
  have b16 : 16 ≤ s.size := by omega
  have H16 := hide h16; clear h16
  by_cases hsep : (s[4]'(by omega)).toNat = 45 ∧ (s[7]'(by omega)).toNat = 45 ∧ (s[10]'(by omega)).toNat = 84 ∧ (s[13]'(by omega)).toNat = 58
  case neg =>
    have HE := hide (show timeS (bs s) = .error 3 by
      rw [HT.out, if_pos]
      cases hb : fitB timeForm (bs s)
      · rfl
      · exact absurd (fit_sep hb b16) hsep)
    have c : (((s[4]'(by omega)).toNat : Int) != 45) = true ∨ ((((s[4]'(by omega)).toNat : Int) != 45) = false ∧ ((((s[7]'(by omega)).toNat : Int) != 45) = true ∨ ((((s[7]'(by omega)).toNat : Int) != 45) = false ∧ ((((s[10]'(by omega)).toNat : Int) != 84) = true ∨ ((((s[10]'(by omega)).toNat : Int) != 84) = false ∧ (((s[13]'(by omega)).toNat : Int) != 58) = true))))) := by
      simp; omega
    clear hsep
    rcases c with c | ⟨c, c | ⟨c', c | ⟨c'', c⟩⟩⟩
    all_goals
      go_enter Tryd.func62, Tryd.ntmps62
      go_wp2
      go_ret2
      exact ⟨TimeRes_err HE.out (by decide) _, Below.refl _ _⟩
  obtain ⟨q4, q7, q10, q13⟩ := hsep
  have c4 : (((s[4]'(by omega)).toNat : Int) != 45) = false := by simp; omega
  have c7 : (((s[7]'(by omega)).toNat : Int) != 45) = false := by simp; omega
  have c10 : (((s[10]'(by omega)).toNat : Int) != 84) = false := by simp; omega
  have c13 : (((s[13]'(by omega)).toNat : Int) != 58) = false := by simp; omega
  have HF := hide (fit_of H16.out q4 q7 q10 q13)
  clear q4 q7 q10 q13
  have N0 := hide (fun W => ref3_digits_any (s.extract 0 4) W (by simp; omega))
  have N1 := hide (fun W => ref3_digits_any (s.extract 5 7) W (by simp; omega))
  have N2 := hide (fun W => ref3_digits_any (s.extract 8 10) W (by simp; omega))
  have N3 := hide (fun W => ref3_digits_any (s.extract 11 13) W (by simp; omega))
  have N4 := hide (fun W => ref3_digits_any (s.extract 14 s.size) W (by have := H16.out; simp; omega))
  have e4 : bs (s.extract 14 s.size) = bs (s.extract 14 16) := by rw [H16.out]
  rw [e4] at N4
  clear e4
  cases hfit : fitB timeForm (bs s)
  · have HE := hide (show timeS (bs s) = .error 3 by rw [HT.out, if_pos hfit])
    have hneg : digitsS (bs (s.extract 0 4)) < 0 ∨ digitsS (bs (s.extract 5 7)) < 0 ∨ digitsS (bs (s.extract 8 10)) < 0 ∨ digitsS (bs (s.extract 11 13)) < 0 ∨ digitsS (bs (s.extract 14 16)) < 0 := by
      cases p0 : allDig (bs (s.extract 0 4))
      · left; rw [digitsS_no p0]; decide
      cases p1 : allDig (bs (s.extract 5 7))
      · right; left; rw [digitsS_no p1]; decide
      cases p2 : allDig (bs (s.extract 8 10))
      · right; right; left; rw [digitsS_no p2]; decide
      cases p3 : allDig (bs (s.extract 11 13))
      · right; right; right; left; rw [digitsS_no p3]; decide
      cases p4 : allDig (bs (s.extract 14 16))
      · right; right; right; right; rw [digitsS_no p4]; decide
      rw [HF.out p0 p1 p2 p3 p4] at hfit; cases hfit
    clear hfit HT
    generalize digitsS (bs (s.extract 0 4)) = Y at *
    generalize digitsS (bs (s.extract 5 7)) = M at *
    generalize digitsS (bs (s.extract 8 10)) = D at *
    generalize digitsS (bs (s.extract 11 13)) = hour at *
    generalize digitsS (bs (s.extract 14 16)) = minute at *
    have c : decide (Y < 0) = true ∨ (decide (Y < 0) = false ∧ (decide (M < 0) = true ∨ (decide (M < 0) = false ∧ (decide (D < 0) = true ∨ (decide (D < 0) = false ∧ (decide (hour < 0) = true ∨ (decide (hour < 0) = false ∧ decide (minute < 0) = true))))))) := by
      simp; omega
    clear hneg
    rcases c with c | ⟨c, c | ⟨c', c | ⟨c'', c | ⟨c''', c⟩⟩⟩⟩
    all_goals
      go_enter Tryd.func62, Tryd.ntmps62
      go_wp2
      go_big_quiet ((first | (go_at_call_of 78 (Value.string (s.extract 0 4)); exact quiet_left (N0.out _)) | (go_at_call_of 78 (Value.string (s.extract 5 7)); exact quiet_left (N1.out _)) | (go_at_call_of 78 (Value.string (s.extract 8 10)); exact quiet_left (N2.out _)) | (go_at_call_of 78 (Value.string (s.extract 11 13)); exact quiet_left (N3.out _)) | (go_at_call_of 78 (Value.string (s.extract 14 s.size)); exact quiet_left (N4.out _))))
      go_wp2
      go_ret2
      exact ⟨TimeRes_err HE.out (by decide) _, below_drewN (Below.refl _ _) _⟩
  · obtain ⟨p0, p1, p2, p3, p4⟩ := pieces hfit
    have l0 : (bs (s.extract 0 4)).length ≤ 4 := by rw [bs_length]; simp; omega
    have l1 : (bs (s.extract 5 7)).length ≤ 2 := by rw [bs_length]; simp; omega
    have l2 : (bs (s.extract 8 10)).length ≤ 2 := by rw [bs_length]; simp; omega
    have l3 : (bs (s.extract 11 13)).length ≤ 2 := by rw [bs_length]; simp; omega
    have l4 : (bs (s.extract 14 16)).length ≤ 2 := by rw [bs_length]; simp; omega
    obtain ⟨y0, y1⟩ := numS_bd _ p0 l0
    obtain ⟨m0, m1⟩ := numS_bd2 _ p1 l1
    obtain ⟨d0, d1⟩ := numS_bd2 _ p2 l2
    obtain ⟨h0, h1⟩ := numS_bd2 _ p3 l3
    obtain ⟨i0, i1⟩ := numS_bd2 _ p4 l4
    clear l0 l1 l2 l3 l4
    rw [digitsS_yes p0] at N0
    rw [digitsS_yes p1] at N1
    rw [digitsS_yes p2] at N2
    rw [digitsS_yes p3] at N3
    rw [digitsS_yes p4] at N4
    have HT' := hide (show timeS (bs s) = _ from HT.out.trans (if_neg (by rw [hfit]; decide)))
    clear p0 p1 p2 p3 p4 HT hfit HF
    generalize numS (bs (s.extract 0 4)) = Y at *
    generalize numS (bs (s.extract 5 7)) = M at *
    generalize numS (bs (s.extract 8 10)) = D at *
    generalize numS (bs (s.extract 11 13)) = hour at *
    generalize numS (bs (s.extract 14 16)) = minute at *
    cases hday : daysS Y M D with
    | none =>
      have HE := hide (show timeS (bs s) = .error 1 by rw [HT'.out, hday])
      have HDy := hide (show ∀ W : World, Calls Tryd.prog 79 #[.int .i64 Y, .int .i64 M, .int .i64 D] W fun e w' => e = .returned (.tuple #[.int .i64 0, .bool false]) ∧ W = w' from fun W => (ref3_Days_any Y M D W (by omega) (by omega) (by omega) (by omega) (by omega) (by omega)).mono fun e w' ⟨h1, h2⟩ => ⟨by rw [hday] at h1; exact h1, h2⟩)
      clear hday HT'
      go_enter Tryd.func62, Tryd.ntmps62
      go_wp2
      go_big_quiet ((first | (go_at_call_of 78 (Value.string (s.extract 0 4)); exact quiet_left (N0.out _)) | (go_at_call_of 78 (Value.string (s.extract 5 7)); exact quiet_left (N1.out _)) | (go_at_call_of 78 (Value.string (s.extract 8 10)); exact quiet_left (N2.out _)) | (go_at_call_of 78 (Value.string (s.extract 11 13)); exact quiet_left (N3.out _)) | (go_at_call_of 78 (Value.string (s.extract 14 s.size)); exact quiet_left (N4.out _))))
      go_wp2_with (go_at_call 79; refine (HDy.out _).mono ?_; rintro e w' ⟨rfl, rfl⟩)
      go_ret2
      exact ⟨TimeRes_err HE.out (by decide) _, below_drewN (Below.refl _ _) _⟩
    | some N =>
      obtain ⟨nn0, nn1⟩ := dayN_bd hday
      have HDy := hide (show ∀ W : World, Calls Tryd.prog 79 #[.int .i64 Y, .int .i64 M, .int .i64 D] W fun e w' => e = .returned (.tuple #[.int .i64 N, .bool true]) ∧ W = w' from fun W => (ref3_Days_any Y M D W (by omega) (by omega) (by omega) (by omega) (by omega) (by omega)).mono fun e w' ⟨h1, h2⟩ => ⟨by rw [hday] at h1; exact h1, h2⟩)
      have HV := hide (show timeS (bs s) = _ from by rw [HT'.out, hday])
      clear hday HT'
      by_cases hbad : 23 < hour ∨ 59 < minute ∨ 575999999 < N * 1440 + hour * 60 + minute
      · have HE := hide (show timeS (bs s) = .error 1 by rw [HV.out]; exact if_pos hbad)
        have c : decide (23 < hour) = true ∨ (decide (23 < hour) = false ∧ decide (59 < minute) = true) ∨ (decide (23 < hour) = false ∧ decide (59 < minute) = false ∧ decide (575999999 < N * 1440 + hour * 60 + minute) = true) := by simp; omega
        clear hbad
        rcases c with c | ⟨c, c'⟩ | ⟨c, c', c''⟩
        all_goals
          go_enter Tryd.func62, Tryd.ntmps62
          go_wp2
          go_big_quiet ((first | (go_at_call_of 78 (Value.string (s.extract 0 4)); exact quiet_left (N0.out _)) | (go_at_call_of 78 (Value.string (s.extract 5 7)); exact quiet_left (N1.out _)) | (go_at_call_of 78 (Value.string (s.extract 8 10)); exact quiet_left (N2.out _)) | (go_at_call_of 78 (Value.string (s.extract 11 13)); exact quiet_left (N3.out _)) | (go_at_call_of 78 (Value.string (s.extract 14 s.size)); exact quiet_left (N4.out _))))
          go_wp2_with (go_at_call 79; refine (HDy.out _).mono ?_; rintro e w' ⟨rfl, rfl⟩)
          go_ret2
          exact ⟨TimeRes_err HE.out (by decide) _, below_drewN (Below.refl _ _) _⟩
      · have HE := hide (show timeS (bs s) = .ok (N * 1440 + hour * 60 + minute) by rw [HV.out]; exact if_neg hbad)
        have c : decide (23 < hour) = false ∧ decide (59 < minute) = false ∧ decide (575999999 < N * 1440 + hour * 60 + minute) = false := by simp; omega
        obtain ⟨c, c', c''⟩ := c
        clear hbad
        go_enter Tryd.func62, Tryd.ntmps62
        go_wp2
        go_big_quiet ((first | (go_at_call_of 78 (Value.string (s.extract 0 4)); exact quiet_left (N0.out _)) | (go_at_call_of 78 (Value.string (s.extract 5 7)); exact quiet_left (N1.out _)) | (go_at_call_of 78 (Value.string (s.extract 8 10)); exact quiet_left (N2.out _)) | (go_at_call_of 78 (Value.string (s.extract 11 13)); exact quiet_left (N3.out _)) | (go_at_call_of 78 (Value.string (s.extract 14 s.size)); exact quiet_left (N4.out _))))
        go_wp2_with (go_at_call 79; refine (HDy.out _).mono ?_; rintro e w' ⟨rfl, rfl⟩)
        go_ret2
        exact ⟨TimeRes_ok HE.out rfl, below_drewN (Below.refl _ _) _⟩

end Go.Proofs.YtajcddaahmbllaaDoor
