/- Contracts: strings.Cut at a dot; schema.IsQualified, ref5.IsQualified. -/
import Derived.Test.YtedjahbieheeoaaDoorValB
import Derived.Test.YtedjahbieheeoaaDoorGlob
import Derived.IntWalk
import Derived.Deep.QuietTactic
import Derived.BigQuiet
set_option linter.unusedVariables false
set_option linter.unusedSimpArgs false
namespace Go.Proofs.YtedjahbieheeoaaDoor
open Go.RowKit
theorem slIndex_dot (s : ByteArray) (w : World) : Calls Tryd.prog 92 #[.string s, .string ⟨#[46]⟩] w fun e w' => e = .returned (.int .i64 (Lib.indexByte (bs s) 46)) ∧ w = w' :=
  (Tryd.stringslite_Index_one s 46 w).mono fun _ _ ⟨h1, h2⟩ => ⟨h1, h2.symm⟩
set_option maxHeartbeats 1000000 in
theorem slCut_no (s : ByteArray) (w : World) (hs : s.size ≤ maxLen) (h : ¬ dotL (bs s) < s.size) :
    Calls Tryd.prog 85 #[.string s, .string ⟨#[46]⟩] w fun e w' => e = .returned (.tuple #[.string s, .string ⟨#[]⟩, .bool false]) ∧ w = w' := by
  unfold maxLen at hs
  obtain ⟨h1, h2⟩ := dotL_idx (bs s)
  rw [bs_length] at h2
  have hn : Lib.indexByte (bs s) 46 < 0 := by
    rcases Int.lt_or_le (Lib.indexByte (bs s) 46) 0 with h3 | h3
    · exact h3
    · exact absurd (h2 (by omega)).2 h
  have HI := hide (fun W => slIndex_dot s W)
  clear h1 h2 h
  generalize Lib.indexByte (bs s) 46 = i at *
  have hi : decide (0 ≤ i) = false := by simp; omega
  go_enter Tryd.func85, Tryd.ntmps85
  go_wp2_with (go_at_call 92; refine (HI.out _).mono ?_; rintro e w' ⟨rfl, rfl⟩)
  go_ret3
  exact ⟨rfl, rfl⟩
set_option maxHeartbeats 1000000 in
theorem slCut_yes (s : ByteArray) (w : World) (hs : s.size ≤ maxLen) (h : dotL (bs s) < s.size) :
    Calls Tryd.prog 85 #[.string s, .string ⟨#[46]⟩] w fun e w' => e = .returned (.tuple #[.string (s.extract 0 (dotL (bs s))), .string (s.extract (dotL (bs s) + 1) s.size), .bool true]) ∧ ∃ n, w' = w.drewN n := by
  unfold maxLen at hs
  obtain ⟨h1, h2⟩ := dotL_idx (bs s)
  have hn : ¬ Lib.indexByte (bs s) 46 < 0 := fun h3 => by
    have := h1 h3
    rw [bs_length] at this; omega
  have HI := hide (fun W => slIndex_dot s W)
  rw [(h2 hn).1] at HI
  clear h1 h2 hn
  generalize dotL (bs s) = d at *
  go_enter Tryd.func85, Tryd.ntmps85
  go_wp2_with (go_at_call 92; refine (HI.out _).mono ?_; rintro e w' ⟨rfl, rfl⟩)
  have hw : IntKind.i64.wrap ((d : Int) + 1) = (d : Int) + 1 := IntWalk.i64_in _ (by omega)
  have h0 : (0 : Int) ≤ (d : Int) + 1 := by omega
  have h1 : ((d : Int) + 1).toNat = d + 1 := by omega
  go_big_quiet (fail)
  go_wp2
  go_ret3
  exact ⟨rfl, _, rfl⟩
set_option maxHeartbeats 1000000 in
theorem Cut_no (s : ByteArray) (w : World) (hs : s.size ≤ maxLen) (h : ¬ dotL (bs s) < s.size) :
    Calls Tryd.prog 65 #[.string s, .string ⟨#[46]⟩] w fun e w' => e = .returned (.tuple #[.string s, .string ⟨#[]⟩, .bool false]) ∧ w = w' := by
  have HC := hide (fun W => slCut_no s W hs h)
  clear h
  go_enter Tryd.func65, Tryd.ntmps65
  go_wp2_with (go_at_call 85; refine (HC.out _).mono ?_; rintro e w' ⟨rfl, rfl⟩)
  go_ret3
  exact ⟨rfl, rfl⟩
set_option maxHeartbeats 1000000 in
theorem Cut_yes (s : ByteArray) (w : World) (hs : s.size ≤ maxLen) (h : dotL (bs s) < s.size) :
    Calls Tryd.prog 65 #[.string s, .string ⟨#[46]⟩] w fun e w' => e = .returned (.tuple #[.string (s.extract 0 (dotL (bs s))), .string (s.extract (dotL (bs s) + 1) s.size), .bool true]) ∧ ∃ n, w' = w.drewN n := by
  have HC := hide (fun W => slCut_yes s W hs h)
  clear h
  go_enter Tryd.func65, Tryd.ntmps65
  go_wp2_with (go_at_call 85; refine (HC.out _).mono ?_; rintro e w' ⟨rfl, n, rfl⟩)
  go_ret3
  exact ⟨rfl, _, rfl⟩
theorem isQualB_yes {s : ByteArray} (h : dotL (bs s) < s.size) : isQualB 24 (bs s) = (isNameB 24 (bs (s.extract 0 (dotL (bs s)))) && isNameB 24 (bs (s.extract (dotL (bs s) + 1) s.size))) := by
  unfold isQualB
  rw [if_pos (by rw [bs_length]; exact h), bs_from, bs_extract]; rfl
theorem isQualB_no {s : ByteArray} (h : ¬ dotL (bs s) < s.size) : isQualB 24 (bs s) = isNameB 24 (bs s) := by
  unfold isQualB
  rw [if_neg (by rw [bs_length]; exact h)]
set_option maxHeartbeats 2000000 in
theorem schema_IsQualified_any (s : ByteArray) (w : World) (hs : s.size ≤ maxLen) :
    Calls Tryd.prog 38 #[.string s] w fun e w' => e = .returned (.bool (isQualB 24 (bs s))) ∧ Below w.heap.size w w' := by
  by_cases h : dotL (bs s) < s.size
  · have HE := hide (isQualB_yes h)
    have HC := hide (fun W => Cut_yes s W hs h)
    clear h
    generalize s.extract 0 (dotL (bs s)) = x at *
    generalize s.extract (dotL (bs s) + 1) s.size = y at *
    have HX := hide (fun W => schema_IsName_any x W)
    have HY := hide (fun W => schema_IsName_any y W)
    cases hx : isNameB 24 (bs x)
    · rw [hx] at HX HE
      clear hx
      go_enter Tryd.func38, Tryd.ntmps38
      go_wp2_with fail
      refine (HC.out _).mono ?_; rintro e w' ⟨rfl, n, rfl⟩
      go_wp2_with fail
      refine (HX.out _).mono ?_; rintro e w1 ⟨rfl, hb⟩
      go_wp2
      go_ret
      exact ⟨ret_bool (by rw [HE.out]; rfl), (below_drewN (Below.refl _ _) n).trans hb⟩
    · rw [hx] at HX HE
      clear hx
      rw [Bool.true_and] at HE
      generalize isNameB 24 (bs y) = r at *
      go_enter Tryd.func38, Tryd.ntmps38
      go_wp2_with fail
      refine (HC.out _).mono ?_; rintro e w' ⟨rfl, n, rfl⟩
      go_wp2_with fail
      refine (HX.out _).mono ?_; rintro e w1 ⟨rfl, hb⟩
      go_wp2_with fail
      refine (HY.out _).mono ?_; rintro e w2 ⟨rfl, hb2⟩
      go_wp2
      go_ret
      exact ⟨ret_bool (by rw [HE.out]), (below_drewN (Below.refl _ _) n).trans (hb.trans (hb2.mono hb.size))⟩
  · have HE := hide (isQualB_no h)
    have HC := hide (fun W => Cut_no s W hs h)
    clear h
    have HX := hide (fun W => schema_IsName_any s W)
    generalize isNameB 24 (bs s) = r at *
    cases r
    all_goals
      go_enter Tryd.func38, Tryd.ntmps38
      go_wp2_with fail
      refine (HC.out _).mono ?_; rintro e w' ⟨rfl, rfl⟩
      go_wp2_with fail
      refine (HX.out _).mono ?_; rintro e w1 ⟨rfl, hb⟩
      go_wp2
      go_ret
      exact ⟨ret_bool (by rw [HE.out]), hb⟩
set_option maxHeartbeats 2000000 in
theorem ref5_IsQualified_any (s : ByteArray) (w : World) (hs : s.size ≤ maxLen) :
    Calls Tryd.prog 39 #[.string s] w fun e w' => e = .returned (.bool (isQualB 24 (bs s))) ∧ w = w' := by
  unfold maxLen at hs
  have hd := dotL_le (bs s)
  rw [bs_length] at hd
  have HL := hide (fun k h => dotL_lt (bs s) k h)
  have HS := hide (fun h => dotL_stop (bs s) h)
  have HY := hide (fun h => isQualB_yes (s := s) h)
  have HNo := hide (fun h => isQualB_no (s := s) h)
  generalize hdd : dotL (bs s) = d at *
  clear hdd
  go_enter Tryd.func39, Tryd.ntmps39
  go_wp2
  go_loop [3] (fun i => ∃ k : Nat, k ≤ d ∧ i = .int .i64 k) (fun i => d - (intOf i).toNat)
  case atStart => exact ⟨0, by omega, rfl⟩
  case round =>
    obtain ⟨k, hk, rfl⟩ := hrel
    by_cases hlt : k < d
    · obtain ⟨h1, h2⟩ := HL.out k hlt
      have h1' : k < s.size := h1
      have h2' : ((s[k].toNat : Int) == 46) = false := by
        have : s[k].toNat ≠ 46 := h2
        simp; omega
      clear h2
      go_wp2
      go_round
      case rel => exact ⟨k + 1, by omega, by go_num⟩
      case measure => simp [intOf]; omega
    · obtain rfl : k = d := by omega
      by_cases hz : k < s.size
      · have h2' : ((s[k].toNat : Int) == 46) = true := by
          have : s[k].toNat = 46 := HS.out hz
          simp; omega
        have HE := hide (HY.out hz)
        have HX := hide (fun W => ref5_IsName_any (s.extract 0 k) W)
        have HYY := hide (fun W => ref5_IsName_any (s.extract (k + 1) s.size) W)
        generalize isNameB 24 (bs (s.extract (k + 1) s.size)) = r at *
        generalize isNameB 24 (bs (s.extract 0 k)) = q at *
        cases q
        · go_wp2_with fail
          refine (HX.out _).mono ?_; rintro e w' ⟨rfl, rfl⟩
          go_wp2
          go_ret
          exact ⟨ret_bool (by rw [HE.out]; rfl), rfl⟩
        · go_wp2_with fail
          refine (HX.out _).mono ?_; rintro e w' ⟨rfl, rfl⟩
          go_wp2_with fail
          refine (HYY.out _).mono ?_; rintro e w' ⟨rfl, rfl⟩
          go_wp2
          go_ret
          exact ⟨ret_bool (by rw [HE.out]; rfl), rfl⟩
      · have HE := hide (HNo.out hz)
        go_wp2_with fail
        refine (ref5_IsName_any s _).mono ?_; rintro e w' ⟨rfl, rfl⟩
        go_wp2
        go_ret
        exact ⟨ret_bool (by rw [HE.out]), rfl⟩
end Go.Proofs.YtedjahbieheeoaaDoor
