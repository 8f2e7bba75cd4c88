/- Parts of the proof. -/
import Derived.Test.YtmbeeefkpgfgmaaGreatDoorPp05
import Derived.Deep.RegionHeld3
set_option linter.unusedVariables false
set_option linter.unusedSimpArgs false
set_option maxHeartbeats 1000000
namespace Go.Proofs.YtmbeeefkpgfgmaaGreatDoor
open Go.Proofs.Tryz
open Go.RowKit
theorem j_l (i : Int) : bits .and .i64 i 65535 = i % 65536 := by
 show IntKind.i64.wrap ((BitVec.ofInt 64 i &&& BitVec.ofInt 64 65535).toNat : Int) = _
 have h : (BitVec.ofInt 64 (65535 : Int)).toNat = 2 ^ 16 - 1 := by decide
 rw [BitVec.toNat_and, h, Nat.and_two_pow_sub_one_eq_mod, IntKind.wrap_i64]
 simp only [BitVec.toNat_ofInt]
 omega
def lAt (l : List Int) (i : Int) : Int :=
 if l.length = 0 then i % 65536 else (l.getD (i % 65536 % l.length).toNat 0) % 65536 + i % 65536 / l.length
def g_0 (w : World) (A : Option Addr) (l : List Int) : Prop :=
 l = [] ∨ ∃ a, A = some a ∧ a.block < w.heap.size ∧ l.length ≤ maxLen ∧ ∀ k, k < l.length → w.cell? (a.add k) = some (.int .i64 (l.getD k 0))
theorem g_0.below {w w' : World} {A : Option Addr} {l : List Int} (h : g_0 w A l) (hb : Below w.heap.size w w') : g_0 w' A l := by
 rcases h with h | ⟨a, rfl, hg, hl, hc⟩
 ·exact .inl h
 ·refine .inr ⟨a, rfl, Nat.lt_of_lt_of_le hg hb.size, hl, fun k hk => ?_⟩
  rw [hb.cell (p := a.add k) (by cases k <;> simpa [Addr.add] using hg)]; exact hc k hk
theorem o_9 (A : Option Addr) (i : Int) (w : World) (c : Nat) :
  Calls prog 70 #[.slice A 0 c, .int .i64 i] w fun e w' => e = .returned (.int .i64 (i % 65536)) ∧ w = w' := by
 have hm := j_l i
 go_enter func70, ntmps70
 go_wp2
 exact r_8
theorem r_c (a : Addr) (n : Nat) (x i : Int) (w : World) (c : Nat) (hl : n ≤ maxLen) (h0 : 0 < n)
   (hk : w.cell? (a.add (i % 65536 % (n : Int)).toNat) = some (.int .i64 x)) :
    Calls prog 70 #[.slice (some a) n c, .int .i64 i] w fun e w' => e = .returned (.int .i64 (x % 65536 + i % 65536 / n)) ∧ ∃ n, w' = w.drewN n := by
  have hm := j_l i
  have hx := j_l x
  have b0 : 0 ≤ i % 65536 := by omega
  have b1 : i % 65536 < 65536 := by omega
  have c1 : (0 : Int) < (n : Int) := by omega
  have c2 : 0 ≤ i % 65536 % (n : Int) := Int.emod_nonneg _ o_
  have c3 : i % 65536 % (n : Int) < (n : Int) := Int.emod_lt_of_pos _ o_
  have hz : ((n : Int) == 0) = false := by simp; omega
  have ht : (i % 65536).tmod (n : Int) = i % 65536 % (n : Int) := Int.tmod_eq_emod_of_nonneg b0
  have hd : (i % 65536).tdiv (n : Int) = i % 65536 / (n : Int) := Int.tdiv_eq_ediv_of_nonneg b0
  have d0 : 0 ≤ i % 65536 / (n : Int) := Int.ediv_nonneg b0 o_
  have d1 : i % 65536 / (n : Int) < 65536 := Int.lt_of_le_of_lt (Int.ediv_le_self _ b0) b1
  have HE := a_0 (show wrap64 (x % 65536 + wrap64 (i % 65536 / (n : Int))) = x % 65536 + i % 65536 / (n : Int) from by
    generalize i % 65536 / (n : Int) = y at d0 d1 ⊢
    rw [IntWalk.wrap64_in y o_, IntWalk.wrap64_in _ o_])
  clear d0 d1
  go_enter func70, ntmps70
  go_wp2
  go_big_quiet (fail)
  go_wp2
  go_ret
  exact ⟨a_k HE.out, _, rfl⟩
theorem l_a (A : Option Addr) (l : List Int) (i : Int) (w : World) (c : Nat) (h : g_0 w A l) :
  Calls prog 70 #[.slice A l.length c, .int .i64 i] w fun e w' => e = .returned (.int .i64 (lAt l i)) ∧ ∃ n, w' = w.drewN n := by
 rcases h with rfl | ⟨a, rfl, hg, hl, hc⟩
 ·exact (o_9 A i w c).mono fun e w' ⟨he, hw⟩ => ⟨he, 0, hw.symm⟩
 ·by_cases h0 : l.length = 0
  ·unfold lAt
   rw [h0]; exact (o_9 _ i w c).mono fun e w' ⟨he, hw⟩ => ⟨he, 0, hw.symm⟩
  ·unfold lAt
   rw [if_neg h0]; have hp : (0 : Int) < (l.length : Int) := by omega
   have h2 := Int.emod_nonneg (i % 65536) (b := (l.length : Int)) o_; have h3 := Int.emod_lt_of_pos (i % 65536) hp; exact r_c a l.length _ i w c hl o_ (hc _ ((Int.toNat_lt h2).2 h3))
end Go.Proofs.YtmbeeefkpgfgmaaGreatDoor
