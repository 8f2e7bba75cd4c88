/- Contract of the reader of a time, the program's. -/
import Derived.Test.YtajcddaahmbllaaDoorCivD
import Derived.Deep.RegionWith
set_option linter.unusedVariables false
set_option linter.unusedSimpArgs false
namespace Go.Proofs.YtajcddaahmbllaaDoor
open Go.RowKit

theorem form_get (k : Nat) (hk : k < (⟨#[48, 48, 48, 48, 45, 48, 48, 45, 48, 48, 84, 48, 48, 58, 48, 48]⟩ : ByteArray).size) : (⟨#[48, 48, 48, 48, 45, 48, 48, 45, 48, 48, 84, 48, 48, 58, 48, 48]⟩ : ByteArray)[k] = timeForm.getD k 0 := by
  have h : k < timeForm.length := hk
  rw [List.getD, List.getElem?_eq_getElem h, Option.getD_some]
  rfl

set_option maxRecDepth 100000 in
set_option maxHeartbeats 2000000 in
theorem civil_Parse_any (s : ByteArray) (w : World) (hG : LenVar w 1) (hs : s.size ≤ maxLen) :
    Calls Tryd.prog 56 #[.string s] w fun e w' => TimeRes (timeS (bs s)) e ∧ Below w.heap.size w w' := by
  have HG := hide hG; clear hG
  unfold maxLen at hs
  have HT := hide (timeS_eq s)
  by_cases h16 : s.size = 16
  · have a16 : ((s.size : Int) != 16) = false := by simp; omega
    have b16 : 16 ≤ s.size := by omega
    have H16 := hide h16; clear h16
    go_enter Tryd.func56, Tryd.ntmps56
    go_wp2
    go_loopw [13] (fun i wr => ∃ (k n : Nat), k ≤ 16 ∧ i = .int .i64 k ∧ wr = w.drewN n ∧ Hid (∀ j (hj : j < s.size), j < k → fit1 (timeForm.getD j 0) s[j] = true)) (fun i _ => 16 - (intOf i).toNat)
    case atStart => exact ⟨0, 0, by omega, rfl, rfl, fun j _ h => absurd h (Nat.not_lt_zero _)⟩
    case round =>
      obtain ⟨k, n, hk, rfl, rfl, HF⟩ := hrel
      by_cases hlt : k < 16
      · have hkf : k < (⟨#[48, 48, 48, 48, 45, 48, 48, 45, 48, 48, 84, 48, 48, 58, 48, 48]⟩ : ByteArray).size := hlt
        have hks : k < s.size := by omega
        have hfg := form_get k hkf
        cases hf : fit1 (timeForm.getD k 0) s[k]
        · have HE := hide (show timeS (bs s) = .error 3 by
            rw [HT.out, if_pos]
            cases hb : fitB timeForm (bs s)
            · rfl
            · have := (fit_dig hb).2 k (by omega)
              rw [this] at hf; cases hf)
          rw [← hfg] at hf
          clear hfg
          unfold fit1 at hf
          by_cases h48 : (⟨#[48, 48, 48, 48, 45, 48, 48, 45, 48, 48, 84, 48, 48, 58, 48, 48]⟩ : ByteArray)[k].toNat = 48
          · rw [if_pos h48] at hf
            have f1 : (((⟨#[48, 48, 48, 48, 45, 48, 48, 45, 48, 48, 84, 48, 48, 58, 48, 48]⟩ : ByteArray)[k].toNat : Int) == 48) = true := by simp [h48]
            have f2 : (((⟨#[48, 48, 48, 48, 45, 48, 48, 45, 48, 48, 84, 48, 48, 58, 48, 48]⟩ : ByteArray)[k].toNat : Int) != 48) = false := by simp [h48]
            have hg : decide ((s[k].toNat : Int) < 48) = true ∨ (decide ((s[k].toNat : Int) < 48) = false ∧ decide (57 < (s[k].toNat : Int)) = true) := by unfold digB at hf; simp at hf; simp; omega
            clear h48 hf
            rcases hg with g | ⟨g, g'⟩
            all_goals
              go_wp2
              go_big_quiet (fail)
              go_wp2
              go_ret2
              exact ⟨TimeRes_err HE.out (by decide) _, below_drewN (below_drewN (Below.refl _ _) _) _⟩
          · rw [if_neg h48] at hf
            have f1 : (((⟨#[48, 48, 48, 48, 45, 48, 48, 45, 48, 48, 84, 48, 48, 58, 48, 48]⟩ : ByteArray)[k].toNat : Int) == 48) = false := by simp; omega
            have f2 : (((⟨#[48, 48, 48, 48, 45, 48, 48, 45, 48, 48, 84, 48, 48, 58, 48, 48]⟩ : ByteArray)[k].toNat : Int) != 48) = true := by simp; omega
            have f3 : ((s[k].toNat : Int) != ((⟨#[48, 48, 48, 48, 45, 48, 48, 45, 48, 48, 84, 48, 48, 58, 48, 48]⟩ : ByteArray)[k].toNat : Int)) = true := by simp at hf; simp; omega
            clear h48 hf
            go_wp2
            go_big_quiet (fail)
            go_wp2
            go_ret2
            exact ⟨TimeRes_err HE.out (by decide) _, below_drewN (below_drewN (Below.refl _ _) _) _⟩
        · have HF' := hide (show ∀ j (hj : j < s.size), j < k + 1 → fit1 (timeForm.getD j 0) s[j] = true from fun j hj h => by
            by_cases e : j = k
            · subst e; exact hf
            · exact HF.out j hj (by omega))
          rw [← hfg] at hf
          clear hfg
          unfold fit1 at hf
          by_cases h48 : (⟨#[48, 48, 48, 48, 45, 48, 48, 45, 48, 48, 84, 48, 48, 58, 48, 48]⟩ : ByteArray)[k].toNat = 48
          · rw [if_pos h48] at hf
            have f1 : (((⟨#[48, 48, 48, 48, 45, 48, 48, 45, 48, 48, 84, 48, 48, 58, 48, 48]⟩ : ByteArray)[k].toNat : Int) == 48) = true := by simp [h48]
            have f2 : (((⟨#[48, 48, 48, 48, 45, 48, 48, 45, 48, 48, 84, 48, 48, 58, 48, 48]⟩ : ByteArray)[k].toNat : Int) != 48) = false := by simp [h48]
            have hg : decide ((s[k].toNat : Int) < 48) = false ∧ decide (57 < (s[k].toNat : Int)) = false := by unfold digB at hf; simp at hf; simp; omega
            clear h48 hf
            obtain ⟨g, g'⟩ := hg
            go_wp2
            go_big_quiet (fail)
            go_wp2
            exact ⟨⟨k + 1, _, by omega, by go_num, rfl, HF'⟩, by simp [intOf]; omega⟩
          · rw [if_neg h48] at hf
            have f1 : (((⟨#[48, 48, 48, 48, 45, 48, 48, 45, 48, 48, 84, 48, 48, 58, 48, 48]⟩ : ByteArray)[k].toNat : Int) == 48) = false := by simp; omega
            have f2 : (((⟨#[48, 48, 48, 48, 45, 48, 48, 45, 48, 48, 84, 48, 48, 58, 48, 48]⟩ : ByteArray)[k].toNat : Int) != 48) = true := by simp; omega
            have f3 : ((s[k].toNat : Int) != ((⟨#[48, 48, 48, 48, 45, 48, 48, 45, 48, 48, 84, 48, 48, 58, 48, 48]⟩ : ByteArray)[k].toNat : Int)) = false := by simp at hf; simp; omega
            clear h48 hf
            go_wp2
            go_big_quiet (fail)
            go_wp2
            exact ⟨⟨k + 1, _, by omega, by go_num, rfl, HF'⟩, by simp [intOf]; omega⟩
      · have hfit : fitB timeForm (bs s) = true := by
          rw [fitB_iff]
          have h16 := H16.out
          refine ⟨h16, fun j hj => ?_⟩
          have hj' : j < s.size := by have : timeForm.length = 16 := rfl; omega
          have := HF.out j hj' (by have : timeForm.length = 16 := rfl; omega)
          rw [List.getD, List.getD, List.getElem?_eq_getElem (show j < (bs s).length from hj')]
          exact this
        obtain ⟨p0, p1, p2, p3, p4⟩ := pieces hfit
        obtain ⟨y0, y1⟩ := numS_bd _ p0 (by rw [bs_length]; simp; omega)
        obtain ⟨m0, m1⟩ := numS_bd2 _ p1 (by rw [bs_length]; simp; omega)
        obtain ⟨d0, d1⟩ := numS_bd2 _ p2 (by rw [bs_length]; simp; omega)
        obtain ⟨h0, h1⟩ := numS_bd2 _ p3 (by rw [bs_length]; simp; omega)
        obtain ⟨i0, i1⟩ := numS_bd2 _ p4 (by rw [bs_length]; simp; omega)
        have N0 := hide (fun W => civil_number_any (s.extract 0 4) W (by simp; omega) p0)
        have N1 := hide (fun W => civil_number_any (s.extract 5 7) W (by simp; omega) p1)
        have N2 := hide (fun W => civil_number_any (s.extract 8 10) W (by simp; omega) p2)
        have N3 := hide (fun W => civil_number_any (s.extract 11 13) W (by simp; omega) p3)
        have N4 := hide (fun W => civil_number_any (s.extract 14 16) W (by simp; omega) p4)
        have HT' := hide (show timeS (bs s) = _ from HT.out.trans (if_neg (by rw [hfit]; decide)))
        clear p0 p1 p2 p3 p4 HT hfit
        generalize numS (bs (s.extract 0 4)) = Y at *
        generalize numS (bs (s.extract 5 7)) = M at *
        generalize numS (bs (s.extract 8 10)) = D at *
        generalize numS (bs (s.extract 11 13)) = hour at *
        generalize numS (bs (s.extract 14 16)) = minute at *
        have hgl : LenVar (w.drewN n) 1 := HG.out.below (below_drewN (Below.refl _ _) _)
        have hb0 : Below w.heap.size w (w.drewN n) := below_drewN (Below.refl _ _) _
        generalize w.drewN n = wx at *
        cases hday : daysS Y M D with
        | none =>
          have HE := hide (show timeS (bs s) = .error 1 by rw [HT'.out, hday])
          have HDy := hide (show ∀ W : World, LenVar W 1 → Calls Tryd.prog 76 #[.int .i64 Y, .int .i64 M, .int .i64 D] W fun e w' => e = .returned (.tuple #[.int .i64 0, .bool false]) ∧ W = w' from fun W hG => (civil_Days_any Y M D W hG (by omega) (by omega) (by omega) (by omega) (by omega) (by omega)).mono fun e w' ⟨h1, h2⟩ => ⟨by rw [hday] at h1; exact h1, h2⟩)
          clear hday HT'
          have c : decide (23 < hour) = true ∨ (decide (23 < hour) = false ∧ decide (59 < minute) = true) ∨ (decide (23 < hour) = false ∧ decide (59 < minute) = false) := by simp; omega
          rcases c with c | ⟨c, c'⟩ | ⟨c, c'⟩
          all_goals
            go_wp2
            go_big_quiet ((first | (go_at_call_of 75 (Value.string (s.extract 11 13)); exact quiet_left (N3.out _)) | (go_at_call_of 75 (Value.string (s.extract 14 16)); exact quiet_left (N4.out _))))
            have hb1 := below_drewN hb0 nq
            have hl1 := hgl.below (below_drewN (Below.refl _ _) nq)
            generalize wx.drewN nq = wy at *
            go_wp2
            go_big_quiet ((first | (go_at_call_of 75 (Value.string (s.extract 0 4)); exact quiet_left (N0.out _)) | (go_at_call_of 75 (Value.string (s.extract 5 7)); exact quiet_left (N1.out _)) | (go_at_call_of 75 (Value.string (s.extract 8 10)); exact quiet_left (N2.out _)) | (go_at_call 76; exact quiet_left (HDy.out _ (hl1.below (below_drewN (Below.refl _ _) _))))))
            have hb2 := below_drewN hb1 nq
            generalize wy.drewN nq = wz at *
            go_wp2
            go_ret2
            exact ⟨TimeRes_err HE.out (by decide) _, hb2⟩
        | some N =>
          have hN := dayN_bd hday
          obtain ⟨nn0, nn1⟩ := hN
          have HDy := hide (show ∀ W : World, LenVar W 1 → Calls Tryd.prog 76 #[.int .i64 Y, .int .i64 M, .int .i64 D] W fun e w' => e = .returned (.tuple #[.int .i64 N, .bool true]) ∧ W = w' from fun W hG => (civil_Days_any Y M D W hG (by omega) (by omega) (by omega) (by omega) (by omega) (by omega)).mono fun e w' ⟨h1, h2⟩ => ⟨by rw [hday] at h1; exact h1, h2⟩)
          have HV := hide (show timeS (bs s) = _ from by rw [HT'.out, hday])
          clear hday HT'
          by_cases hbad : 23 < hour ∨ 59 < minute ∨ 575999999 < N * 1440 + hour * 60 + minute
          · have HE := hide (show timeS (bs s) = .error 1 by rw [HV.out]; exact if_pos hbad)
            have c : decide (23 < hour) = true ∨ (decide (23 < hour) = false ∧ decide (59 < minute) = true) ∨ (decide (23 < hour) = false ∧ decide (59 < minute) = false ∧ decide (575999999 < N * 1440 + hour * 60 + minute) = true) := by simp; omega
            clear hbad
            rcases c with c | ⟨c, c'⟩ | ⟨c, c', c''⟩
            all_goals
              go_wp2
              go_big_quiet ((first | (go_at_call_of 75 (Value.string (s.extract 11 13)); exact quiet_left (N3.out _)) | (go_at_call_of 75 (Value.string (s.extract 14 16)); exact quiet_left (N4.out _))))
              have hb1 := below_drewN hb0 nq
              have hl1 := hgl.below (below_drewN (Below.refl _ _) nq)
              generalize wx.drewN nq = wy at *
              go_wp2
              go_big_quiet ((first | (go_at_call_of 75 (Value.string (s.extract 0 4)); exact quiet_left (N0.out _)) | (go_at_call_of 75 (Value.string (s.extract 5 7)); exact quiet_left (N1.out _)) | (go_at_call_of 75 (Value.string (s.extract 8 10)); exact quiet_left (N2.out _)) | (go_at_call 76; exact quiet_left (HDy.out _ (hl1.below (below_drewN (Below.refl _ _) _))))))
              have hb2 := below_drewN hb1 nq
              generalize wy.drewN nq = wz at *
              go_wp2
              go_ret2
              exact ⟨TimeRes_err HE.out (by decide) _, hb2⟩
          · have HE := hide (show timeS (bs s) = .ok (N * 1440 + hour * 60 + minute) by rw [HV.out]; exact if_neg hbad)
            have c : decide (23 < hour) = false ∧ decide (59 < minute) = false ∧ decide (575999999 < N * 1440 + hour * 60 + minute) = false := by simp; omega
            obtain ⟨c, c', c''⟩ := c
            clear hbad
            go_wp2
            go_big_quiet ((first | (go_at_call_of 75 (Value.string (s.extract 11 13)); exact quiet_left (N3.out _)) | (go_at_call_of 75 (Value.string (s.extract 14 16)); exact quiet_left (N4.out _))))
            have hb1 := below_drewN hb0 nq
            have hl1 := hgl.below (below_drewN (Below.refl _ _) nq)
            generalize wx.drewN nq = wy at *
            go_wp2
            go_big_quiet ((first | (go_at_call_of 75 (Value.string (s.extract 0 4)); exact quiet_left (N0.out _)) | (go_at_call_of 75 (Value.string (s.extract 5 7)); exact quiet_left (N1.out _)) | (go_at_call_of 75 (Value.string (s.extract 8 10)); exact quiet_left (N2.out _)) | (go_at_call 76; exact quiet_left (HDy.out _ (hl1.below (below_drewN (Below.refl _ _) _))))))
            have hb2 := below_drewN hb1 nq
            generalize wy.drewN nq = wz at *
            go_wp2
            go_ret2
            exact ⟨TimeRes_ok HE.out rfl, hb2⟩
  · have a16 : ((s.size : Int) != 16) = true := by simp; omega
    have HE := hide (show timeS (bs s) = .error 3 by
      rw [HT.out, if_pos]
      cases hb : fitB timeForm (bs s)
      · rfl
      · exact absurd (fit_dig hb).1 h16)
    clear h16
    go_enter Tryd.func56, Tryd.ntmps56
    go_wp2
    go_ret2
    exact ⟨TimeRes_err HE.out (by decide) _, Below.refl _ _⟩

end Go.Proofs.YtajcddaahmbllaaDoor
