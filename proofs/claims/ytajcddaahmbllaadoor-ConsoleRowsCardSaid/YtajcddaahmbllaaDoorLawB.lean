/- Contracts: reserved words; the comparison of the two splitters; the law's sanity check. -/
import Derived.Test.YtajcddaahmbllaaDoorRefG
import Derived.Test.YtajcddaahmbllaaDoorLawA
set_option linter.unusedVariables false
set_option linter.unusedSimpArgs false
namespace Go.Proofs.YtajcddaahmbllaaDoor
open Go.RowKit

def wordsV : List ByteArray := wordsS.map fun l => ⟨l.toArray⟩
def hasB (ls : List Bytes) (x : Bytes) : Bool := ls.contains x
def resB (l : Bytes) : Bool := hasB wordsS l
theorem containsS_map (ls : List Bytes) (x : ByteArray) : Lib.containsS (ls.map fun l => (⟨l.toArray⟩ : ByteArray)) x = hasB ls (bs x) := by
  unfold hasB
  rw [Bool.eq_iff_iff, Lib.containsS_iff, List.contains_iff_mem, List.mem_map]
  constructor
  · rintro ⟨l, h, rfl⟩; exact h
  · intro h; exact ⟨bs x, h, mk_bs x⟩
theorem splitGo_count : ∀ (f : Nat) (l : Bytes) (i : Nat) (ts : List Tok), splitGo f l i = .ok ts → ts.length ≤ f + 1
  | 0, l, i, ts, h => by injection h with h; subst h; simp
  | f + 1, [], i, ts, h => by injection h with h; subst h; simp
  | f + 1, c :: r, i, ts, h => by
    rw [splitGo_cons] at h
    split at h
    · have := splitGo_count f _ _ _ h; omega
    · split at h
      · have := splitGo_count f _ _ _ h; omega
      · split at h
        · cases h
        · split at h
          · cases h
          · rename_i ts' hg
            injection h with h
            subst h
            have := splitGo_count f _ _ _ hg
            simp; omega
theorem splitS_count {l : Bytes} {ts : List Tok} (h : splitS l = .ok ts) : ts.length ≤ 65537 := by
  unfold splitS at h
  split at h
  · cases h
  · have := splitGo_count _ _ _ _ h; omega

/-! ### ref5.Has -/
/-- A slice that reads as a list of strings. -/
def StrsAt (w : World) (A : Option Addr) (ls : List Bytes) : Prop :=
  ls = [] ∨ ∃ g off, A = some ⟨g, off, none⟩ ∧ g < w.heap.size ∧ ∀ i (h : i < ls.length), w.cell? ⟨g, off + i, none⟩ = some (str ls[i])
theorem StrsAt.below {w w' : World} {A : Option Addr} {ls : List Bytes} (h : StrsAt w A ls) (hb : Below w.heap.size w w') : StrsAt w' A ls := by
  rcases h with h | ⟨g, off, hA, hg, hc⟩
  · exact .inl h
  · exact .inr ⟨g, off, hA, Nat.lt_of_lt_of_le hg hb.size, fun i hi => (hb.cell (p := ⟨g, _, none⟩) hg).trans (hc i hi)⟩
theorem has_hit {ls : List Bytes} {x : Bytes} {k : Nat} (hk : k < ls.length) (h : ls[k] = x) : hasB ls x = true := by
  unfold hasB
  rw [List.contains_iff_mem]; exact h ▸ List.getElem_mem hk
theorem has_none {ls : List Bytes} {x : Bytes} (h : ∀ i (hi : i < ls.length), ls[i] ≠ x) : hasB ls x = false := by
  unfold hasB
  cases hc : ls.contains x
  · rfl
  · rw [List.contains_iff_mem, List.mem_iff_getElem] at hc
    obtain ⟨i, hi, e⟩ := hc
    exact absurd e (h i hi)
end Go.Proofs.YtajcddaahmbllaaDoor
