/- Contract of the reference's reader of symbols. -/
import Derived.Test.YtlfedcbihbigoaaDoorTokE
set_option linter.unusedVariables false
set_option linter.unusedSimpArgs false
namespace Go.Proofs.YtlfedcbihbigoaaDoor
open Go.RowKit

/-- The longest symbol that a text begins with, or nothing. -/
def symT (l : Bytes) : Bytes := (symbolsS.find? (fun x => x.isPrefixOf l)).getD []
theorem symT_hit {l x : Bytes} {k : Nat} (hk : k < symbolsS.length) (hn : ∀ j, j < k → (symbolsS.getD j []).isPrefixOf l = false) (hx : symbolsS.getD k [] = x) (h : x.isPrefixOf l = true) : symT l = x := by
  have : symbolsS.find? (fun x => x.isPrefixOf l) = some x := by
    rw [List.find?_eq_some_iff_getElem]
    refine ⟨h, k, hk, ?_, fun j hj => ?_⟩
    · rw [← hx, List.getD, List.getElem?_eq_getElem hk]; rfl
    · have := hn j hj
      rw [List.getD, List.getElem?_eq_getElem (Nat.lt_trans hj hk)] at this
      simpa using this
  unfold symT; rw [this]; rfl
theorem symT_none {l : Bytes} (hn : ∀ j, j < symbolsS.length → (symbolsS.getD j []).isPrefixOf l = false) : symT l = [] := by
  have : symbolsS.find? (fun x => x.isPrefixOf l) = none := by
    rw [List.find?_eq_none]
    intro x hx
    obtain ⟨j, hj, e⟩ := List.mem_iff_getElem.1 hx
    have := hn j hj
    rw [List.getD, List.getElem?_eq_getElem hj, Option.getD_some, e] at this
    simp [this]
  unfold symT; rw [this]; rfl
theorem symS_symT (l : Bytes) : symS l = if symT l = [] then .error 3 else .ok (⟨5, symT l, 0, 0⟩, (symT l).length) := by
  unfold symS symT
  cases h : symbolsS.find? (fun x => x.isPrefixOf l) with
  | none => rfl
  | some x =>
    have h2 := List.mem_of_find?_eq_some h
    have h4 : ∀ y ∈ symbolsS, y ≠ [] := by decide
    simp only [Option.getD_some]
    rw [if_neg (h4 x h2)]

/-- The one-byte symbols, as the reference has them. -/
theorem ones_get : ∀ (k : Nat) (hk : k < (⟨#[40, 41, 44, 59, 58, 124, 61, 43, 45, 42, 47, 37, 60, 62]⟩ : ByteArray).size), symbolsS.getD (4 + k) [] = [(⟨#[40, 41, 44, 59, 58, 124, 61, 43, 45, 42, 47, 37, 60, 62]⟩ : ByteArray)[k]] := by
  have h : ∀ k, k < 14 → symbolsS.getD (4 + k) [] = [[40, 41, 44, 59, 58, 124, 61, 43, 45, 42, 47, 37, 60, 62].getD k 0] := by decide
  intro k hk
  have hk' : k < 14 := hk
  rw [h k hk']
  have e : (⟨#[40, 41, 44, 59, 58, 124, 61, 43, 45, 42, 47, 37, 60, 62]⟩ : ByteArray)[k] = ([40, 41, 44, 59, 58, 124, 61, 43, 45, 42, 47, 37, 60, 62] : Bytes)[k]'hk' := rfl
  rw [e, List.getD, List.getElem?_eq_getElem hk', Option.getD_some]
theorem two_pre {s : ByteArray} {x : Bytes} (hx : x.length = 2) (h2 : 2 ≤ s.size) : x.isPrefixOf (bs s) = ((s.extract 0 2).toList == x) := by
  rw [Bool.eq_iff_iff]
  have := prefix_iff ⟨x.toArray⟩ s
  rw [bs_mk] at this
  rw [this]
  have e : (⟨x.toArray⟩ : ByteArray).size = 2 := by rw [← hx]; rfl
  rw [e, beq_iff_eq, ByteArray.toList_eq]
  constructor
  · rintro ⟨_, h⟩; rw [h]
  · intro h; exact ⟨h2, bs_inj h⟩
theorem two_short {s : ByteArray} {x : Bytes} (hx : x.length = 2) (h2 : ¬ 2 ≤ s.size) : x.isPrefixOf (bs s) = false := by
  cases h : x.isPrefixOf (bs s)
  · rfl
  · have := (List.isPrefixOf_iff_prefix.1 h).length_le
    rw [bs_length] at this; omega
theorem one_pre {s : ByteArray} (h0 : 0 < s.size) (c : UInt8) : [c].isPrefixOf (bs s) = ((s[0].toNat : Int) == (c.toNat : Int)) := by
  have e : bs s = s[0] :: (bs s).drop 1 := by have := drop_cons s 0 h0; simpa using this
  rw [e, Bool.eq_iff_iff]
  simp only [List.isPrefixOf, Bool.and_true, beq_iff_eq]
  constructor
  · rintro rfl; rfl
  · intro h; exact UInt8.toNat_inj.1 (by omega)

end Go.Proofs.YtlfedcbihbigoaaDoor
