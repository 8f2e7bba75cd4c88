/- base.At: the numbers that the laws draw from a list. -/
import Derived.Test.YtlfedcbihbigoaaGreatDoorCivTE
import Derived.Deep.RegionHeld3
set_option linter.unusedVariables false
set_option linter.unusedSimpArgs false
namespace Go.Proofs.YtlfedcbihbigoaaGreatDoor
open Go.RowKit
theorem and_ffff (i : Int) : bits .and .i64 i 65535 = i % 65536 := by
  show IntKind.i64.wrap ((BitVec.ofInt 64 i &&& BitVec.ofInt 64 65535).toNat : Int) = _
  have h : (BitVec.ofInt 64 (65535 : Int)).toNat = 2 ^ 16 - 1 := by decide
  rw [BitVec.toNat_and, h, Nat.and_two_pow_sub_one_eq_mod, IntKind.wrap_i64]
  simp only [BitVec.toNat_ofInt]
  omega
/-- What base.At gives of a list of numbers. -/
def lAt (l : List Int) (i : Int) : Int :=
  if l.length = 0 then i % 65536 else (l.getD (i % 65536 % l.length).toNat 0) % 65536 + i % 65536 / l.length
/-- A slice of integers as it came in. -/
def IntsAt (w : World) (A : Option Addr) (l : List Int) : Prop :=
  l = [] ∨ ∃ a, A = some a ∧ a.block < w.heap.size ∧ l.length ≤ maxLen ∧ ∀ k, k < l.length → w.cell? (a.add k) = some (.int .i64 (l.getD k 0))
theorem IntsAt.below {w w' : World} {A : Option Addr} {l : List Int} (h : IntsAt w A l) (hb : Below w.heap.size w w') : IntsAt w' A l := by
  rcases h with h | ⟨a, rfl, hg, hl, hc⟩
  · exact .inl h
  · refine .inr ⟨a, rfl, Nat.lt_of_lt_of_le hg hb.size, hl, fun k hk => ?_⟩
    rw [hb.cell (p := a.add k) (by cases k <;> simpa [Addr.add] using hg)]; exact hc k hk
set_option maxHeartbeats 1000000 in
theorem at_zero (A : Option Addr) (i : Int) (w : World) (c : Nat) :
    Calls Tryz.prog 23 #[.slice A 0 c, .int .i64 i] w fun e w' => e = .returned (.int .i64 (i % 65536)) ∧ w = w' := by
  have hm := and_ffff i
  go_enter Tryz.func23, Tryz.ntmps23
  go_wp2
  go_ret
  exact ⟨rfl, rfl⟩
set_option maxHeartbeats 1000000 in
theorem at_some (a : Addr) (n : Nat) (x i : Int) (w : World) (c : Nat) (hl : n ≤ maxLen) (h0 : 0 < n)
   (hk : w.cell? (a.add (i % 65536 % (n : Int)).toNat) = some (.int .i64 x)) :
    Calls Tryz.prog 23 #[.slice (some a) n c, .int .i64 i] w fun e w' => e = .returned (.int .i64 (x % 65536 + i % 65536 / n)) ∧ ∃ n, w' = w.drewN n := by
  have hm := and_ffff i
  have hx := and_ffff x
  have b0 : 0 ≤ i % 65536 := by omega
  have b1 : i % 65536 < 65536 := by omega
  have c1 : (0 : Int) < (n : Int) := by omega
  have c2 : 0 ≤ i % 65536 % (n : Int) := Int.emod_nonneg _ (by omega)
  have c3 : i % 65536 % (n : Int) < (n : Int) := Int.emod_lt_of_pos _ (by omega)
  have hz : ((n : Int) == 0) = false := by simp; omega
  have ht : (i % 65536).tmod (n : Int) = i % 65536 % (n : Int) := Int.tmod_eq_emod_of_nonneg b0
  have hd : (i % 65536).tdiv (n : Int) = i % 65536 / (n : Int) := Int.tdiv_eq_ediv_of_nonneg b0
  have d0 : 0 ≤ i % 65536 / (n : Int) := Int.ediv_nonneg b0 (by omega)
  have d1 : i % 65536 / (n : Int) < 65536 := Int.lt_of_le_of_lt (Int.ediv_le_self _ b0) b1
  have HE := hide (show wrap64 (x % 65536 + wrap64 (i % 65536 / (n : Int))) = x % 65536 + i % 65536 / (n : Int) from by
    generalize i % 65536 / (n : Int) = y at d0 d1 ⊢
    rw [IntWalk.wrap64_in y (by omega), IntWalk.wrap64_in _ (by omega)])
  clear d0 d1
  go_enter Tryz.func23, Tryz.ntmps23
  go_wp2
  go_big_quiet (fail)
  go_wp2
  go_ret
  exact ⟨ret_int HE.out, _, rfl⟩
theorem base_At_any (A : Option Addr) (l : List Int) (i : Int) (w : World) (c : Nat) (h : IntsAt w A l) :
    Calls Tryz.prog 23 #[.slice A l.length c, .int .i64 i] w fun e w' => e = .returned (.int .i64 (lAt l i)) ∧ ∃ n, w' = w.drewN n := by
  rcases h with rfl | ⟨a, rfl, hg, hl, hc⟩
  · exact (at_zero A i w c).mono fun e w' ⟨he, hw⟩ => ⟨he, 0, hw.symm⟩
  · by_cases h0 : l.length = 0
    · unfold lAt
      rw [h0]
      exact (at_zero _ i w c).mono fun e w' ⟨he, hw⟩ => ⟨he, 0, hw.symm⟩
    · unfold lAt
      rw [if_neg h0]
      have hp : (0 : Int) < (l.length : Int) := by omega
      have h2 := Int.emod_nonneg (i % 65536) (b := (l.length : Int)) (by omega)
      have h3 := Int.emod_lt_of_pos (i % 65536) hp
      exact at_some a l.length _ i w c hl (by omega) (hc _ ((Int.toNat_lt h2).2 h3))
end Go.Proofs.YtlfedcbihbigoaaGreatDoor
