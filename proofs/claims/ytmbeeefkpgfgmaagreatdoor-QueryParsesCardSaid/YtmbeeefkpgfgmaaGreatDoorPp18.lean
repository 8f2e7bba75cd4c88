/- Parts of the proof. -/
import Derived.Test.YtmbeeefkpgfgmaaGreatDoorPp11
set_option linter.unusedVariables false
set_option linter.unusedSimpArgs false
set_option maxHeartbeats 1000000
namespace Go.Proofs.YtmbeeefkpgfgmaaGreatDoor
open Go.Proofs.Tryz
open Go.RowKit
theorem m_Z (l : List Int) (i : Int) : 0 ≤ lAt l i := by
 unfold lAt
 split
 ·omega
 ·have := Int.ediv_nonneg (a := i % 65536) (b := (l.length : Int)) o_ o_
  have h2 : 0 ≤ (l.getD (i % 65536 % l.length).toNat 0) % 65536 := by omega
  omega
def s_A : Value → Bool
 | .string x => decide (x.size ≤ 17)
 | _ => false
theorem q_a (cs : Array Value) (h : cs.toList.all s_A = true) (k : Nat) (hk : k < cs.size) : ∃ x : ByteArray, cs[k]? = some (.string x) ∧ x.size ≤ 17 := by
 have := List.all_eq_true.1 h cs[k] s_
 rw [Array.getElem?_eq_getElem hk]
 cases hc : cs[k] <;> rw [hc] at this <;> first | (cases this; done) | exact ⟨_, rfl, of_decide_eq_true this⟩
def p_X (n : Nat) (e : Ending) : Prop := ∃ s : ByteArray, e = .returned (.string s) ∧ s.size ≤ 17 * n
theorem j_4 (A : Option Addr) (l : List Int) (n : Nat) (w : World) (c : Nat) (h : g_0 w A l) (h1 : n < 32) :
  Calls prog 25 #[.slice A l.length c, .int .i64 n] w fun e w' => p_X n e ∧ Below w.heap.size w w' := by
 have HI := a_0 h
 clear h
 go_enter func25, ntmps25
 go_wp2
 generalize hW : w.alloc _ = W1
 have hB : Below w.heap.size w W1 := by subst hW; exact zX
 have hP : ∀ k, k < 48 → ∃ x : ByteArray, W1.cell? ⟨w.heap.size, k, none⟩ = some (.string x) ∧ x.size ≤ 17 := by
  intro k hk
  subst hW
  rw [a_2 (heap_alloc_new w _)]
  exact q_a _ r_ k hk
 have HP := a_0 hP
 clear hP hW
 go_loopw [6, 7] (fun s i wr => ∃ (k m : Nat) (x : ByteArray), s = .string x ∧ i = .int .i64 k ∧ k ≤ n ∧ x.size ≤ 17 * k ∧ wr = W1.drewN m) (fun _ i _ => n - (intOf i).toNat)
 case atStart => exact ⟨0, 0, ⟨#[]⟩, rfl, rfl, o_, d_, rfl⟩
 case round =>
  obtain ⟨k, m, x, rfl, rfl, hk, hx, rfl⟩ := hrel
  by_cases hlt : k < n
  ·have hy := m_Z l k
   obtain ⟨z, hz, hzs⟩ := HP.out (lAt l k % 48).toNat o_; have y0 : 0 ≤ lAt l k % 48 := by omega
   have y1 : lAt l k % 48 < 48 := by omega
   have hA := HI.out.below hB; have HAt := a_0 (l_a A l k (W1.drewN m) c (hA.below (a_f (b_ _ _) m))); clear hA; generalize lAt l k = y at *
   go_wp2_with fail
   refine HAt.out.mono ?_; rintro e w' ⟨rfl, m', rfl⟩
   go_wp2
   exact ⟨⟨k + 1, m + m', x ++ z, rfl, t_, o_, by rw [ByteArray.size_append]; omega, rfl⟩, w_⟩
  ·go_wp2
   go_ret
   exact ⟨⟨x, rfl, o_⟩, a_f hB _⟩
end Go.Proofs.YtmbeeefkpgfgmaaGreatDoor
