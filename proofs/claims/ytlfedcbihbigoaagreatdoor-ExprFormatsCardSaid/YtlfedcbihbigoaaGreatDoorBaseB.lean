/- base.Text: some text, of a bounded length. -/
import Derived.Test.YtlfedcbihbigoaaGreatDoorBaseA
set_option linter.unusedVariables false
set_option linter.unusedSimpArgs false
namespace Go.Proofs.YtlfedcbihbigoaaGreatDoor
open Go.RowKit
theorem lAt_nonneg (l : List Int) (i : Int) : 0 ≤ lAt l i := by
  unfold lAt
  split
  · omega
  · have := Int.ediv_nonneg (a := i % 65536) (b := (l.length : Int)) (by omega) (by omega)
    have h2 : 0 ≤ (l.getD (i % 65536 % l.length).toNat 0) % 65536 := by omega
    omega
def smallB : Value → Bool
  | .string x => decide (x.size ≤ 17)
  | _ => false
theorem small_at (cs : Array Value) (h : cs.toList.all smallB = true) (k : Nat) (hk : k < cs.size) : ∃ x : ByteArray, cs[k]? = some (.string x) ∧ x.size ≤ 17 := by
  have := List.all_eq_true.1 h cs[k] (by simp)
  rw [Array.getElem?_eq_getElem hk]
  cases hc : cs[k] <;> rw [hc] at this <;> first | (cases this; done) | exact ⟨_, rfl, of_decide_eq_true this⟩
def PieceRes (n : Nat) (e : Ending) : Prop := ∃ s : ByteArray, e = .returned (.string s) ∧ s.size ≤ 17 * n
set_option maxHeartbeats 1000000 in
theorem base_Text_any (A : Option Addr) (l : List Int) (n : Nat) (w : World) (c : Nat) (h : IntsAt w A l) (h1 : n < 32) :
    Calls Tryz.prog 10 #[.slice A l.length c, .int .i64 n] w fun e w' => PieceRes n e ∧ Below w.heap.size w w' := by
  have HI := hide h; clear h
  go_enter Tryz.func10, Tryz.ntmps10
  go_wp2
  generalize hW : w.alloc _ = W1
  have hB : Below w.heap.size w W1 := by subst hW; (repeat (first | exact Below.refl _ _ | assumption | refine Below.drew ?_ | refine below_drewN ?_ _ | refine Below.alloc ?_ (by first | omega | simp <;> omega) _ | refine Below.setCell ?_ (by first | omega | simp <;> omega) _))
  have hP : ∀ k, k < 48 → ∃ x : ByteArray, W1.cell? ⟨w.heap.size, k, none⟩ = some (.string x) ∧ x.size ≤ 17 := by
    intro k hk
    subst hW
    rw [cell_of_heap (heap_alloc_new w _)]
    exact small_at _ (by rfl) k hk
  have HP := hide hP
  clear hP hW
  go_loopw [6, 7] (fun s i wr => ∃ (k m : Nat) (x : ByteArray), s = .string x ∧ i = .int .i64 k ∧ k ≤ n ∧ x.size ≤ 17 * k ∧ wr = W1.drewN m) (fun _ i _ => n - (intOf i).toNat)
  case atStart => exact ⟨0, 0, ⟨#[]⟩, rfl, rfl, by omega, by decide, rfl⟩
  case round =>
    obtain ⟨k, m, x, rfl, rfl, hk, hx, rfl⟩ := hrel
    by_cases hlt : k < n
    · have hy := lAt_nonneg l k
      obtain ⟨z, hz, hzs⟩ := HP.out (lAt l k % 48).toNat (by omega)
      have y0 : 0 ≤ lAt l k % 48 := by omega
      have y1 : lAt l k % 48 < 48 := by omega
      have hA := HI.out.below hB
      have HAt := hide (base_At_any A l k (W1.drewN m) c (hA.below (below_drewN (Below.refl _ _) m)))
      clear hA
      generalize lAt l k = y at *
      go_wp2_with fail
      refine HAt.out.mono ?_
      rintro e w' ⟨rfl, m', rfl⟩
      go_wp2
      exact ⟨⟨k + 1, m + m', x ++ z, rfl, by go_num, by omega, by rw [ByteArray.size_append]; omega, rfl⟩, by simp [intOf]; omega⟩
    · go_wp2
      go_ret
      exact ⟨⟨x, rfl, by omega⟩, below_drewN hB _⟩
end Go.Proofs.YtlfedcbihbigoaaGreatDoor
