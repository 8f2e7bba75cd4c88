/- The law TokenSplits, walked. -/
import Derived.Test.YtedjahbieheeoaaDoorLawD
import Derived.Test.YtedjahbieheeoaaDoorBaseB
import Derived.Deep.RegionHeld3
set_option linter.unusedVariables false
set_option linter.unusedSimpArgs false
namespace Go.Proofs.YtedjahbieheeoaaDoor
open Go.RowKit
theorem and_31 (i : Int) : bits .and .i64 i 31 = i % 32 := by
  show IntKind.i64.wrap ((BitVec.ofInt 64 i &&& BitVec.ofInt 64 31).toNat : Int) = _
  have h : (BitVec.ofInt 64 (31 : Int)).toNat = 2 ^ 5 - 1 := by decide
  rw [BitVec.toNat_and, h, Nat.and_two_pow_sub_one_eq_mod, IntKind.wrap_i64]
  simp only [BitVec.toNat_ofInt]
  omega
set_option maxRecDepth 100000 in
set_option maxHeartbeats 2000000 in
theorem law7_TokenSplits_any (s : ByteArray) (A : Option Addr) (l : List Int) (c : Nat) (n : Int) (w : World) (hG : Glob w) (hA : IntsAt w A l) :
    Calls Tryd.prog 3 #[.string s, .slice A l.length c, .int .i64 n] w fun e w' => e = .returned (.bool true) ∧ Below w.heap.size w w' := by
  have hm := and_31 n
  obtain ⟨k, hk⟩ : ∃ k : Nat, n % 32 = k := ⟨(n % 32).toNat, by omega⟩
  have hk32 : k < 32 := by omega
  rw [hk] at hm
  clear hk
  have HG := hide hG; clear hG
  have HA := hide hA; clear hA
  by_cases hs : s.size > 1000
  · go_enter Tryd.func3, Tryd.ntmps3
    go_wp2_with fail
    refine (law7_known_any _ HG.out).mono ?_
    rintro e w' ⟨rfl, hb⟩
    go_wp2
    go_ret
    exact ⟨rfl, hb⟩
  · go_enter Tryd.func3, Tryd.ntmps3
    go_wp2_with fail
    have hb0 : Below w.heap.size w w := Below.refl _ _
    refine (law7_splits_any s _ HG.out (by have : (1000:Nat) ≤ maxLen := by decide
                                           omega)).mono ?_
    rintro e w1 ⟨rfl, hb1⟩
    go_wp2_with fail
    refine (base_Text_any A l k _ c (HA.out.below hb1) hk32).mono ?_
    rintro e w2 ⟨⟨x, rfl, hx⟩, hb2⟩
    have hc2 := below_step hb2 hb1
    go_wp2_with fail
    refine (law7_splits_any x _ (HG.out.below hc2) (by have : (1000:Nat) ≤ maxLen := by decide
                                                       omega)).mono ?_
    rintro e w3 ⟨rfl, hb3⟩
    have hc3 := below_step hb3 hc2
    go_wp2_with fail
    refine (law7_known_any _ (HG.out.below hc3)).mono ?_
    rintro e w4 ⟨rfl, hb4⟩
    have hc4 := below_step hb4 hc3
    go_wp2
    go_ret
    exact ⟨rfl, hc4⟩
end Go.Proofs.YtedjahbieheeoaaDoor
