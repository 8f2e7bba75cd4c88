/- Contract of the reader of one token, the program's. -/
import Derived.Test.YtlfedcbihbigoaaDoorTokC
import Derived.Test.YtlfedcbihbigoaaDoorTokD
import Derived.Test.YtlfedcbihbigoaaDoorCivE
set_option linter.unusedVariables false
set_option linter.unusedSimpArgs false
namespace Go.Proofs.YtlfedcbihbigoaaDoor
open Go.RowKit

theorem OneRes_shape {r : Except Int (Tok × Nat)} {e : Ending} (h : OneRes r e) : ∃ (t : Tok) (n c : Int), e = .returned (.tuple #[t.agg, .int .i64 n, .int .i64 c]) := by
  unfold OneRes at h
  split at h
  · exact ⟨_, _, _, h⟩
  · obtain ⟨_, t, n, h⟩ := h; exact ⟨t, n, _, h⟩
theorem TimeRes_shape {r : Except Int Int} {e : Ending} (h : TimeRes r e) : ∃ (n c : Int), e = .returned (.tuple #[.int .i64 n, .int .i64 c]) := by
  unfold TimeRes at h
  split at h
  · exact ⟨_, _, h⟩
  · obtain ⟨_, n, h⟩ := h; exact ⟨n, _, h⟩
theorem oneS_eq (s : ByteArray) (h : 0 < s.size) : oneS (bs s) = if letB s[0] = true then nameS (bs s) else if digB s[0] = true then intS (bs s) else if s[0].toNat = 39 then litS (bs s) else if s[0].toNat = 64 then atS (bs s) else symS (bs s) := by
  have e : bs s = s[0] :: (bs s).drop 1 := by have := drop_cons s 0 h; simpa using this
  generalize hl : bs s = l at *
  cases l with
  | nil => cases e
  | cons c r =>
    have : c = s[0] := (List.cons.inj e).1
    subst this
    rfl
theorem box4 {w w1 : World} {a b c d : Value} {t : TypeId} (h : Below (w.heap.size + 1) (w.alloc (.cells #[a, b, c, d] t)) w1) :
    w1.cell? ⟨w.heap.size, 0, none⟩ = some a ∧ w1.cell? ⟨w.heap.size, 1, none⟩ = some b ∧ w1.cell? ⟨w.heap.size, 2, none⟩ = some c ∧ w1.cell? ⟨w.heap.size, 3, none⟩ = some d ∧
    (w1.frozen? ⟨w.heap.size, 0, none⟩ = false ∧ w1.frozen? ⟨w.heap.size, 1, none⟩ = false ∧ w1.frozen? ⟨w.heap.size, 2, none⟩ = false ∧ w1.frozen? ⟨w.heap.size, 3, none⟩ = false) ∧ w.heap.size < w1.heap.size ∧ Below w.heap.size w w1 := by
  have hheap := heap_of_below h (Nat.lt_succ_self _)
  exact ⟨cell_of_heap hheap 0, cell_of_heap hheap 1, cell_of_heap hheap 2, cell_of_heap hheap 3, ⟨free_of_heap hheap 0, free_of_heap hheap 1, free_of_heap hheap 2, free_of_heap hheap 3⟩, lt_of_heap hheap,
    ((Below.refl _ _).alloc (Nat.le_refl _) _).trans (h.mono (Nat.le_succ _))⟩

/-! ### strings.HasPrefix -/
theorem prefix_iff (p s : ByteArray) : (bs p).isPrefixOf (bs s) = true ↔ p.size ≤ s.size ∧ s.extract 0 p.size = p := by
  rw [List.isPrefixOf_iff_prefix, List.prefix_iff_eq_take]
  constructor
  · intro h
    have hl : p.size ≤ s.size := by
      have := congrArg List.length h
      rw [List.length_take, bs_length, bs_length] at this
      omega
    refine ⟨hl, bs_inj ?_⟩
    rw [bs_extract, List.drop_zero]
    exact h.symm
  · rintro ⟨_, h⟩
    conv => lhs; rw [← h]
    rw [bs_extract, List.drop_zero]
    rfl

theorem symS_hit {l x : Bytes} {k : Nat} (hk : k < symbolsS.length) (hn : ∀ j, j < k → (symbolsS.getD j []).isPrefixOf l = false) (hx : symbolsS.getD k [] = x) (h : x.isPrefixOf l = true) : symS l = .ok (⟨5, x, 0, 0⟩, x.length) := by
  have : symbolsS.find? (fun x => x.isPrefixOf l) = some x := by
    rw [List.find?_eq_some_iff_getElem]
    refine ⟨h, k, hk, ?_, fun j hj => ?_⟩
    · rw [← hx, List.getD, List.getElem?_eq_getElem hk]; rfl
    · have := hn j hj
      rw [List.getD, List.getElem?_eq_getElem (Nat.lt_trans hj hk)] at this
      simpa using this
  unfold symS; rw [this]
theorem symS_none {l : Bytes} (hn : ∀ j, j < symbolsS.length → (symbolsS.getD j []).isPrefixOf l = false) : symS l = .error 3 := by
  have : symbolsS.find? (fun x => x.isPrefixOf l) = none := by
    rw [List.find?_eq_none]
    intro x hx
    obtain ⟨j, hj, e⟩ := List.mem_iff_getElem.1 hx
    have := hn j hj
    rw [List.getD, List.getElem?_eq_getElem hj, Option.getD_some, e] at this
    simp [this]
  unfold symS; rw [this]

theorem TimeRes_at {l : Bytes} (h17 : ¬ l.length < 17) {n c : Int} (h : TimeRes (timeS ((l.take 17).drop 1)) (.returned (.tuple #[.int .i64 n, .int .i64 c]))) :
    OneRes (atS l) (.returned (.tuple #[.agg #[.int .i64 4, str [], .int .i64 n, .int .i64 0], .int .i64 17, .int .i64 c])) := by
  unfold atS
  rw [if_neg h17]
  cases ht : timeS ((l.take 17).drop 1) with
  | error e =>
    rw [ht] at h
    obtain ⟨h1, m, h2⟩ := h
    injection h2 with h2; injection h2 with h2; injection h2 with h2
    simp at h2
    obtain ⟨rfl, rfl⟩ := h2
    exact ⟨h1, ⟨4, [], n, 0⟩, 17, rfl⟩
  | ok m =>
    rw [ht] at h
    have h2 : Ending.returned (.tuple #[.int .i64 n, .int .i64 c]) = .returned (.tuple #[.int .i64 m, .int .i64 0]) := h
    injection h2 with h2; injection h2 with h2; injection h2 with h2
    simp at h2
    obtain ⟨rfl, rfl⟩ := h2
    rfl

end Go.Proofs.YtlfedcbihbigoaaDoor
