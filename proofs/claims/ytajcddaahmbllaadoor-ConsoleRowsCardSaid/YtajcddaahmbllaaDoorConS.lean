/- Plain: the row that a text's tokens give. -/
import Derived.Test.YtajcddaahmbllaaDoorConB
import Derived.Test.YtajcddaahmbllaaDoorRv
set_option linter.unusedVariables false
set_option linter.unusedSimpArgs false
namespace Go.Proofs.YtajcddaahmbllaaDoor
open Go.RowKit
def wNull : Bytes := [110, 117, 108, 108]
def wTrue : Bytes := [116, 114, 117, 101]
def wFalse : Bytes := [102, 97, 108, 115, 101]
/-- The literal with which a list of tokens begins, and the number of its tokens. -/
def litL : List Tok → Option (Vl × Nat)
  | [] => none
  | t :: r =>
    if t.kind = 1 ∧ t.text = wNull then some (vl0, 1)
    else if t.kind = 1 ∧ t.text = wTrue then some (⟨1, 1, []⟩, 1)
    else if t.kind = 1 ∧ t.text = wFalse then some (⟨1, 0, []⟩, 1)
    else if t.kind = 2 then some (⟨2, t.num, []⟩, 1)
    else if t.kind = 3 then some (⟨3, 0, t.text⟩, 1)
    else if t.kind = 4 then some (⟨4, t.num, []⟩, 1)
    else if t.kind = 5 ∧ t.text = [45] then (match r with | [] => none | u :: _ => if u.kind = 2 then some (⟨2, -u.num, []⟩, 2) else none)
    else none
def rowGo : Nat → List Tok → List Vl → Except Int (List Vl)
  | 0, _, acc => .ok acc
  | f + 1, [], acc => .ok acc
  | f + 1, t :: r, acc =>
    if t.kind = 0 then .ok acc
    else if acc = [] then (match litL (t :: r) with | none => .error 3 | some x => rowGo f ((t :: r).drop x.2) (acc ++ [x.1]))
    else if t.kind = 5 ∧ t.text = [44] then (match litL r with | none => .error 3 | some x => rowGo f (r.drop x.2) (acc ++ [x.1]))
    else .error 3
def rowT (ts : List Tok) : Except Int (List Vl) :=
  match rowGo ts.length ts [] with
  | .error e => .error e
  | .ok vs => if 12 < vs.length then .error 2 else .ok vs
def rowS (l : Bytes) : Except Int (List Vl) :=
  match splitS l with
  | .error x => .error x.2
  | .ok ts => rowT ts
theorem litL_cons (t : Tok) (r : List Tok) : litL (t :: r) =
    if t.kind = 1 ∧ t.text = wNull then some (vl0, 1)
    else if t.kind = 1 ∧ t.text = wTrue then some (⟨1, 1, []⟩, 1)
    else if t.kind = 1 ∧ t.text = wFalse then some (⟨1, 0, []⟩, 1)
    else if t.kind = 2 then some (⟨2, t.num, []⟩, 1)
    else if t.kind = 3 then some (⟨3, 0, t.text⟩, 1)
    else if t.kind = 4 then some (⟨4, t.num, []⟩, 1)
    else if t.kind = 5 ∧ t.text = [45] then (match r with | [] => none | u :: _ => if u.kind = 2 then some (⟨2, -u.num, []⟩, 2) else none)
    else none := rfl
theorem litL_pos {l : List Tok} {v : Vl} {n : Nat} (h : litL l = some (v, n)) : (n = 1 ∨ n = 2) ∧ n ≤ l.length ∧ ∀ t r, l = t :: r → t.kind ≠ 0 ∧ (n = 2 → ∃ u r', r = u :: r' ∧ u.kind = 2) := by
  cases l with
  | nil => cases h
  | cons t r =>
    have one : ∀ x : Vl, t.kind ≠ 0 → some (x, 1) = some (v, n) → (n = 1 ∨ n = 2) ∧ n ≤ (t :: r).length ∧ ∀ t' r', t :: r = t' :: r' → t'.kind ≠ 0 ∧ (n = 2 → ∃ u r'', r' = u :: r'' ∧ u.kind = 2) := by
      intro x hk e
      injection e with e
      injection e with _ e
      subst e
      refine ⟨.inl rfl, by simp, fun t' r' e => ?_⟩
      injection e with e1 e2
      subst e1
      exact ⟨hk, fun e => absurd e (by decide)⟩
    rw [litL_cons] at h
    split at h
    · rename_i hk; exact one _ (by rw [hk.1]; decide) h
    split at h
    · rename_i hk; exact one _ (by rw [hk.1]; decide) h
    split at h
    · rename_i hk; exact one _ (by rw [hk.1]; decide) h
    split at h
    · rename_i hk; exact one _ (by rw [hk]; decide) h
    split at h
    · rename_i hk; exact one _ (by rw [hk]; decide) h
    split at h
    · rename_i hk; exact one _ (by rw [hk]; decide) h
    split at h
    · rename_i hk
      cases r with
      | nil => cases h
      | cons u r =>
        have h : (if u.kind = 2 then some ((⟨2, -u.num, []⟩ : Vl), 2) else none) = some (v, n) := h
        by_cases hu : u.kind = 2
        · rw [if_pos hu] at h
          injection h with h
          injection h with _ h
          subst h
          refine ⟨.inr rfl, by simp, fun t' r' e => ?_⟩
          injection e with e1 e2
          subst e1 e2
          exact ⟨by rw [hk.1]; decide, fun _ => ⟨u, r, rfl, hu⟩⟩
        · rw [if_neg hu] at h; cases h
    · cases h
theorem rowGo_fuel : ∀ (f : Nat) (l : List Tok) (acc : List Vl), l.length ≤ f → rowGo f l acc = rowGo l.length l acc
  | 0, l, acc, h => by
    obtain rfl : l = [] := List.eq_nil_of_length_eq_zero (by omega)
    rfl
  | f + 1, [], acc, h => rfl
  | f + 1, t :: r, acc, h => by
    have hr : r.length ≤ f := by simpa using h
    rw [List.length_cons]
    unfold rowGo
    split
    · rfl
    split
    · cases hl : litL (t :: r) with
      | none => rfl
      | some x =>
        obtain ⟨hn, _⟩ := litL_pos (v := x.1) (n := x.2) hl
        have h1 : ((t :: r).drop x.2).length ≤ r.length := by rw [List.length_drop, List.length_cons]; omega
        show rowGo f _ _ = rowGo r.length _ _
        rw [rowGo_fuel f _ _ (by omega), rowGo_fuel r.length _ _ h1]
    split
    · cases hl : litL r with
      | none => rfl
      | some x =>
        have h1 : (r.drop x.2).length ≤ r.length := by rw [List.length_drop]; omega
        show rowGo f _ _ = rowGo r.length _ _
        rw [rowGo_fuel f _ _ (by omega), rowGo_fuel r.length _ _ h1]
    · rfl
/-- The rows of the loops: what is still to be read, behind what has been read. -/
def RowRel (ts : List Tok) (i : Nat) (acc : List Vl) : Prop := rowGo ts.length ts [] = rowGo (ts.drop i).length (ts.drop i) acc ∧ i < ts.length ∧ acc.length ≤ i ∧ (acc = [] ↔ i = 0)
theorem RowRel_start {ts : List Tok} (h : 0 < ts.length) : RowRel ts 0 [] := ⟨rfl, h, Nat.le_refl _, by simp⟩
theorem drop_at {ts : List Tok} {i : Nat} (h : i < ts.length) : ts.drop i = ts[i] :: ts.drop (i + 1) := List.drop_eq_getElem_cons h
theorem rowGo_cons (f : Nat) (t : Tok) (r : List Tok) (acc : List Vl) : rowGo (f + 1) (t :: r) acc =
    if t.kind = 0 then .ok acc
    else if acc = [] then (match litL (t :: r) with | none => .error 3 | some x => rowGo f ((t :: r).drop x.2) (acc ++ [x.1]))
    else if t.kind = 5 ∧ t.text = [44] then (match litL r with | none => .error 3 | some x => rowGo f (r.drop x.2) (acc ++ [x.1]))
    else .error 3 := rfl
theorem RowRel_unf {ts : List Tok} {i : Nat} {acc : List Vl} (h : RowRel ts i acc) (hi : i < ts.length) : rowGo ts.length ts [] =
    if ts[i].kind = 0 then .ok acc
    else if acc = [] then (match litL (ts.drop i) with | none => .error 3 | some x => rowGo (ts.drop (i + 1)).length (ts.drop (i + x.2)) (acc ++ [x.1]))
    else if ts[i].kind = 5 ∧ ts[i].text = [44] then (match litL (ts.drop (i + 1)) with | none => .error 3 | some x => rowGo (ts.drop (i + 1)).length (ts.drop (i + 1 + x.2)) (acc ++ [x.1]))
    else .error 3 := by
  rw [h.1]
  conv => lhs; rw [drop_at hi, List.length_cons, rowGo_cons, ← drop_at hi]
  simp only [List.drop_drop]
theorem RowRel_end {ts : List Tok} {i : Nat} {acc : List Vl} (h : RowRel ts i acc) (hi : i < ts.length) (hk : ts[i].kind = 0) : rowGo ts.length ts [] = .ok acc := by
  rw [RowRel_unf h hi, if_pos hk]
theorem RowRel_bad0 {ts : List Tok} {i : Nat} {acc : List Vl} (h : RowRel ts i acc) (hi : i < ts.length) (hk : ts[i].kind ≠ 0) (ha : acc = []) (hl : litL (ts.drop i) = none) : rowGo ts.length ts [] = .error 3 := by
  rw [RowRel_unf h hi, if_neg hk, if_pos ha, hl]
theorem RowRel_comma {ts : List Tok} {i : Nat} {acc : List Vl} (h : RowRel ts i acc) (hi : i < ts.length) (hk : ts[i].kind ≠ 0) (ha : acc ≠ []) (hc : ¬ (ts[i].kind = 5 ∧ ts[i].text = [44])) : rowGo ts.length ts [] = .error 3 := by
  rw [RowRel_unf h hi, if_neg hk, if_neg ha, if_neg hc]
theorem RowRel_bad1 {ts : List Tok} {i : Nat} {acc : List Vl} (h : RowRel ts i acc) (hi : i < ts.length) (hk : ts[i].kind ≠ 0) (ha : acc ≠ []) (hc : ts[i].kind = 5 ∧ ts[i].text = [44]) (hl : litL (ts.drop (i + 1)) = none) : rowGo ts.length ts [] = .error 3 := by
  rw [RowRel_unf h hi, if_neg hk, if_neg ha, if_pos hc, hl]
theorem last_of {ts : List Tok} (hv : valT ts = true) {i : Nat} (hi : i < ts.length) (hk : ts[i].kind ≠ 0) : i + 1 < ts.length := by
  have := (((valT_iff ts).1 hv).2 i hi).2
  have : i ≠ ts.length - 1 := fun e => hk (this.2 e)
  omega
theorem lit_room {ts : List Tok} (hv : valT ts = true) {i : Nat} {v : Vl} {n : Nat} (hi : i < ts.length) (hl : litL (ts.drop i) = some (v, n)) : i + n < ts.length ∧ 1 ≤ n := by
  obtain ⟨hn, _, hc⟩ := litL_pos hl
  obtain ⟨h1, h2⟩ := hc _ _ (drop_at hi)
  have h3 := last_of hv hi h1
  rcases hn with rfl | rfl
  · exact ⟨h3, Nat.le_refl _⟩
  · obtain ⟨u, r, e, hu⟩ := h2 rfl
    rw [drop_at h3] at e
    injection e with e1 e2
    have : ts[i + 1].kind ≠ 0 := by rw [e1, hu]; decide
    exact ⟨last_of hv h3 this, by omega⟩
theorem RowRel_step0 {ts : List Tok} (hv : valT ts = true) {i : Nat} {acc : List Vl} {v : Vl} {n : Nat} (h : RowRel ts i acc) (hi : i < ts.length) (hk : ts[i].kind ≠ 0) (ha : acc = []) (hl : litL (ts.drop i) = some (v, n)) : RowRel ts (i + n) (acc ++ [v]) := by
  obtain ⟨h1, h2⟩ := lit_room hv hi hl
  refine ⟨?_, h1, by simp; have := h.2.2.1; omega, by simp; omega⟩
  rw [RowRel_unf h hi, if_neg hk, if_pos ha, hl]
  show rowGo (ts.drop (i + 1)).length (ts.drop (i + n)) (acc ++ [v]) = _
  rw [rowGo_fuel]
  simp; omega
theorem RowRel_step1 {ts : List Tok} (hv : valT ts = true) {i : Nat} {acc : List Vl} {v : Vl} {n : Nat} (h : RowRel ts i acc) (hi : i < ts.length) (hk : ts[i].kind ≠ 0) (ha : acc ≠ []) (hc : ts[i].kind = 5 ∧ ts[i].text = [44]) (hl : litL (ts.drop (i + 1)) = some (v, n)) : RowRel ts (i + 1 + n) (acc ++ [v]) := by
  obtain ⟨h1, h2⟩ := lit_room hv (last_of hv hi hk) hl
  refine ⟨?_, h1, by simp; have := h.2.2.1; omega, by simp⟩
  rw [RowRel_unf h hi, if_neg hk, if_neg ha, if_pos hc, hl]
  show rowGo (ts.drop (i + 1)).length (ts.drop (i + 1 + n)) (acc ++ [v]) = _
  rw [rowGo_fuel]
  simp; omega
end Go.Proofs.YtajcddaahmbllaaDoor
