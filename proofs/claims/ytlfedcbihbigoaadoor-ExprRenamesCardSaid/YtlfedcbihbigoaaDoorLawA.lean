/- Contracts of the comparers of tokens. -/
import Derived.Test.YtlfedcbihbigoaaDoorTokF
set_option linter.unusedVariables false
set_option linter.unusedSimpArgs false
namespace Go.Proofs.YtlfedcbihbigoaaDoor
open Go.RowKit

/-- A slice that reads as a list of tokens. -/
def ToksAt (w : World) (A : Option Addr) (ts : List Tok) : Prop :=
  ts = [] ∨ ∃ g off, A = some ⟨g, off, none⟩ ∧ g < w.heap.size ∧ ∀ i (h : i < ts.length),
    w.cell? ⟨g, off + i * 4, none⟩ = some (.int .i64 ts[i].kind) ∧ w.cell? ⟨g, off + i * 4 + 1, none⟩ = some (str ts[i].text) ∧
    w.cell? ⟨g, off + i * 4 + 2, none⟩ = some (.int .i64 ts[i].num) ∧ w.cell? ⟨g, off + i * 4 + 3, none⟩ = some (.int .i64 ts[i].off)
theorem tokCells_get : ∀ (ts : List Tok) (i : Nat) (h : i < ts.length), (tokCells ts)[i * 4]? = some (.int .i64 ts[i].kind) ∧ (tokCells ts)[i * 4 + 1]? = some (str ts[i].text) ∧ (tokCells ts)[i * 4 + 2]? = some (.int .i64 ts[i].num) ∧ (tokCells ts)[i * 4 + 3]? = some (.int .i64 ts[i].off)
  | [], i, h => by simp at h
  | t :: ts, 0, _ => ⟨rfl, rfl, rfl, rfl⟩
  | t :: ts, i + 1, h => by
    obtain ⟨h1, h2, h3, h4⟩ := tokCells_get ts i (by simpa using h)
    have e : ∀ j, (tokCells (t :: ts))[(i + 1) * 4 + j]? = (tokCells ts)[i * 4 + j]? := by
      intro j
      rw [show tokCells (t :: ts) = t.cells ++ tokCells ts from rfl, List.getElem?_append_right (by simp [Tok.cells]; omega)]
      congr 1
      simp [Tok.cells]; omega
    exact ⟨by simpa using (e 0).trans h1, (e 1).trans h2, (e 2).trans h3, (e 3).trans h4⟩
theorem ToksAt_of_own {w : World} {base e c : Nat} {A : Option Addr} {ts : List Tok} (h : w.ownsRow base e 4 (.slice A ts.length c) ts.length (tokCells ts)) : ToksAt w A ts := by
  rcases h.2 with ⟨_, hn⟩ | ⟨g, cap, cur, hv, hg, hh, hnc, hcap, hsz, htk⟩
  · exact .inl (List.eq_nil_of_length_eq_zero hn)
  · injection hv with h1 h2 h3
    subst h1
    refine .inr ⟨g, 0, rfl, lt_of_heap hh, fun i hi => ?_⟩
    have hc : ∀ j, j < ts.length * 4 → w.cell? ⟨g, j, none⟩ = (tokCells ts)[j]? := fun j hj => World.ownsRow.cellAt h j hj
    obtain ⟨h1, h2, h3, h4⟩ := tokCells_get ts i hi
    simp only [Nat.zero_add]
    exact ⟨(hc _ (by omega)).trans h1, (hc _ (by omega)).trans h2, (hc _ (by omega)).trans h3, (hc _ (by omega)).trans h4⟩
theorem ToksAt.below {w w' : World} {A : Option Addr} {ts : List Tok} (h : ToksAt w A ts) (hb : Below w.heap.size w w') : ToksAt w' A ts := by
  rcases h with h | ⟨g, off, hA, hg, hc⟩
  · exact .inl h
  · refine .inr ⟨g, off, hA, Nat.lt_of_lt_of_le hg hb.size, fun i hi => ?_⟩
    obtain ⟨h1, h2, h3, h4⟩ := hc i hi
    exact ⟨(hb.cell (p := ⟨g, _, none⟩) hg).trans h1, (hb.cell (p := ⟨g, _, none⟩) hg).trans h2, (hb.cell (p := ⟨g, _, none⟩) hg).trans h3, (hb.cell (p := ⟨g, _, none⟩) hg).trans h4⟩

def sameT (a b : Tok) : Bool := (a.kind == b.kind) && (a.num == b.num) && (a.text == b.text)
def sameL : List Tok → List Tok → Bool
  | [], [] => true
  | a :: l, b :: m => sameT a b && sameL l m
  | _, _ => false
theorem sameL_iff : ∀ l m : List Tok, sameL l m = true ↔ l.length = m.length ∧ ∀ i (h : i < l.length) (h' : i < m.length), sameT l[i] m[i] = true
  | [], [] => by simp [sameL]
  | [], b :: m => by simp [sameL]
  | a :: l, [] => by simp [sameL]
  | a :: l, b :: m => by
    simp only [sameL, Bool.and_eq_true, sameL_iff l m, List.length_cons]
    constructor
    · rintro ⟨h1, h2, h3⟩
      refine ⟨by omega, fun i h h' => ?_⟩
      match i with
      | 0 => exact h1
      | i + 1 => exact h3 i (by omega) (by omega)
    · rintro ⟨h1, h2⟩
      exact ⟨h2 0 (by omega) (by omega), by omega, fun i h h' => h2 (i + 1) (by omega) (by omega)⟩
theorem sameT_no {a b : Tok} (h : sameT a b = false) : (a.kind != b.kind) = true ∨ ((a.kind != b.kind) = false ∧ (a.num != b.num) = true) ∨ ((a.kind != b.kind) = false ∧ (a.num != b.num) = false ∧ (!(a.text == b.text)) = true) := by
  unfold sameT at h
  cases h1 : a.kind == b.kind <;> cases h2 : a.num == b.num <;> cases h3 : a.text == b.text <;> simp_all
theorem sameT_yes {a b : Tok} (h : sameT a b = true) : (a.kind != b.kind) = false ∧ (a.num != b.num) = false ∧ (a.text == b.text) = true := by
  unfold sameT at h
  cases h1 : a.kind == b.kind <;> cases h2 : a.num == b.num <;> cases h3 : a.text == b.text <;> simp_all
theorem sameT_refl (a : Tok) : sameT a a = true := by unfold sameT; simp
theorem sameL_refl : ∀ l : List Tok, sameL l l = true
  | [] => rfl
  | a :: l => by simp [sameL, sameT_refl, sameL_refl l]

end Go.Proofs.YtlfedcbihbigoaaDoor
