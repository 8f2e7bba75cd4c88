/- A slice of numbers as it comes in. -/
import Derived.Test.YtlfedcbihbigoaaDoorRowA
import Derived.Test.YtlfedcbihbigoaaDoorBaseA
set_option linter.unusedVariables false
set_option linter.unusedSimpArgs false
namespace Go.Proofs.YtlfedcbihbigoaaDoor
open Go.ChangeShapes Go.WideShapes Go.ChangeAt Go.RowKit
open Go.ChangeMaps (open_string shut_string)
theorem Step.ints_of {H : Type} {enc : TypeId × Value → H} {W : World} {A : Option Addr} {len cap : Nat} {d : DataW H} {p : List MemPlace} {held : Bool}
    (h : DataW.Trod enc Tryd.prog W 0 (fun _ => true) held 27 (.slice A len cap) d p) : ∃ l : List Int, len = l.length ∧ IntsAt W A l := by
  obtain ⟨fuel, hf⟩ := h
  rcases open_ints Tryd.underlying27 Tryd.underlying3 (by kernel_rfl) hf with ⟨hcs, _⟩ | ⟨x, len', cap', zs, hcs, _, hl, hm, hz, _, hcell, hwz⟩
  · simp [Value.cells] at hcs
    obtain ⟨rfl, rfl, rfl⟩ := hcs
    exact ⟨[], rfl, .inl rfl⟩
  · simp [Value.cells] at hcs
    obtain ⟨rfl, rfl, rfl⟩ := hcs
    have hz' : zs.length = cap := by simpa using hz
    refine ⟨zs.take len, by simp; omega, ?_⟩
    by_cases h0 : cap = 0
    · exact .inl (List.eq_nil_of_length_eq_zero (by simp; omega))
    · refine .inr ⟨x, rfl, ?_, by simp; omega, fun k hk => ?_⟩
      · have := World.block_lt_of_cell? W _ (hcell 0 (by omega))
        simpa [Addr.add] using this
      · have hk' : k < len ∧ k < zs.length := by
          rw [List.length_take] at hk
          omega
        rw [hcell k hk'.2]
        simp [List.getD_eq_getElem?_getD, List.getElem?_take, hk'.1]
theorem Step.ints_len {W : World} {A : Option Addr} {l : List Int} (h : IntsAt W A l) : l.length ≤ maxLen := by
  rcases h with rfl | ⟨_, _, _, h, _⟩
  · simp
  · exact h
end Go.Proofs.YtlfedcbihbigoaaDoor
