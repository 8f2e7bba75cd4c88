/- Contracts: Same of equal lists (ref8); known, parses, ExprParses (law8). -/
import Derived.Test.YtlfedcbihbigoaaGreatDoorKnoN
import Derived.Test.YtlfedcbihbigoaaGreatDoorRsN
import Derived.Test.YtlfedcbihbigoaaGreatDoorBaseB
set_option linter.unusedVariables false
set_option linter.unusedSimpArgs false
namespace Go.Proofs.YtlfedcbihbigoaaGreatDoor
open Go.RowKit
theorem parS_len (l : Bytes) : (parS l).1.length ≤ 1000000 := by
  rcases Nat.lt_or_ge (parS l).1.length 257 with h | h
  · omega
  · by_cases h0 : (parS l).2.2 = 0
    · have := valid_le (parS_valid h0).1
      omega
    · have : (parS l).1 = [] := by
        unfold parS at h0 ⊢
        cases hs : splitS l with
        | error x => rfl
        | ok ts =>
          rw [hs] at h0
          simp only at h0 ⊢
          split
          · rename_i h1
            rw [if_pos h1] at h0
            split
            · rename_i h2
              rw [if_pos h2] at h0
              exact absurd rfl h0
            · rfl
          · rfl
      rw [this]; simp
set_option maxRecDepth 100000 in
set_option maxHeartbeats 2000000 in
theorem law8_parses_any (s : ByteArray) (w : World) (hG : Glob w) (hs : s.size ≤ maxLen) : Calls Tryz.prog 9 #[.string s] w fun e w' => e = .returned (.bool true) ∧ Below w.heap.size w w' := by
  have HG := hide hG
  have HP := hide (fun W (h : Glob W) => expr_Parse_any s W h hs)
  have HR := hide (fun W (h : Glob W) => ref8_Parse_any s W h hs)
  have hl := parS_len (bs s)
  clear hG hs
  generalize parS (bs s) = r at *
  obtain ⟨es, a, x⟩ := r
  simp only at hl
  have haa : (a == a) = true := by simp
  have hxx : (x == x) = true := by simp
  go_enter Tryz.func9, Tryz.ntmps9
  go_wp2_with fail
  refine (HP.out _ HG.out).mono ?_
  rintro e w1 ⟨⟨A, n, rfl, ho⟩, hb1⟩
  have HO := hide (NdsAt_of_own ho)
  clear ho
  simp only at HO ⊢
  go_wp2_with fail
  refine (HR.out _ (HG.out.below hb1)).mono ?_
  rintro e w2 ⟨⟨B, m, rfl, ho⟩, hb2⟩
  have HO2 := hide (NdsAt_of_own ho)
  clear ho
  simp only at HO2 ⊢
  go_wp2_with fail
  refine (ref8_Same_eq _ _ _ _ _ _ (HO.out.below hb2) HO2.out hl).mono ?_
  rintro e w3 ⟨rfl, hb3⟩
  go_wp2
  go_ret
  exact ⟨ret_bool (by simp), bel2 hb3 (bel2 hb2 hb1)⟩
set_option maxRecDepth 100000 in
set_option maxHeartbeats 2000000 in
theorem law8_ExprParses_any (s : ByteArray) (L : Option Addr) (l : List Int) (lc : Nat) (n : Int) (w : World) (hG : GlobJ w) (hI : IntsAt w L l) (hs : s.size ≤ maxLen) :
    Calls Tryz.prog 3 #[.string s, .slice L l.length lc, .int .i64 n] w fun e w' => e = .returned (.bool true) ∧ Below w.heap.size w w' := by
  have HG := hide hG
  have HI := hide hI
  have hm := mask_15
  obtain ⟨m, hmm⟩ : ∃ m : Nat, n % 16 = (m : Int) := ⟨(n % 16).toNat, by omega⟩
  have hm16 : m < 32 := by omega
  have hs' : s.size ≤ 9223372036854775807 := by unfold maxLen at hs; omega
  have HS := hide hs
  clear hG hI hs
  by_cases h5 : 500 < s.size
  · go_enter Tryz.func3, Tryz.ntmps3
    go_wp2_with fail
    refine (law8_known_any _ HG.out).mono ?_
    rintro e w1 ⟨rfl, hb1⟩
    go_wp2
    go_ret
    exact ⟨rfl, hb1⟩
  · go_enter Tryz.func3, Tryz.ntmps3
    go_wp2_with fail
    refine (law8_parses_any _ _ HG.out.glob HS.out).mono ?_
    rintro e w1 ⟨rfl, hb1⟩
    go_wp2_with fail
    refine (base_Text_any L l m w1 lc (HI.out.below hb1) hm16).mono ?_
    rintro e w2 ⟨⟨x, rfl, hx⟩, hb2⟩
    have hb3 := bel2 hb2 hb1
    go_wp2_with fail
    refine (law8_parses_any _ _ (HG.out.below hb3).glob (by unfold maxLen; omega)).mono ?_
    rintro e w4 ⟨rfl, hb4⟩
    have hb5 := bel2 hb4 hb3
    go_wp2_with fail
    refine (law8_known_any _ (HG.out.below hb5)).mono ?_
    rintro e w6 ⟨rfl, hb6⟩
    go_wp2
    go_ret
    exact ⟨rfl, bel2 hb6 hb5⟩
end Go.Proofs.YtlfedcbihbigoaaGreatDoor
