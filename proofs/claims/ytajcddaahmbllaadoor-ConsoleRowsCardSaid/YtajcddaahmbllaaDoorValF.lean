/- Contracts: token.Validate, ref7.Validate. -/
import Derived.Test.YtajcddaahmbllaaDoorValE
set_option linter.unusedVariables false
set_option linter.unusedSimpArgs false
namespace Go.Proofs.YtajcddaahmbllaaDoor
open Go.RowKit
def ValRel (ts : List Tok) (k : Nat) : Prop := ∀ j (h : j < ts.length), j < k → ts[j].ok = true ∧ (ts[j].kind = 0 ↔ j = ts.length - 1)
theorem ValRel_step {ts : List Tok} {k : Nat} (h : ValRel ts k) (hk : k < ts.length) (b : Bool) (h1 : okTok ts[k].kind ts[k].text ts[k].num = true) (h2 : (ts[k].kind == 0) = b) (h3 : ((k : Int) == (ts.length : Int) - 1) = b) : ValRel ts (k + 1) := by
  intro j hj hjk
  by_cases e : j = k
  · subst e
    refine ⟨h1, ?_⟩
    have : ts[j].kind = 0 ↔ (j : Int) = (ts.length : Int) - 1 := by rw [← beq_iff_eq (a := ts[j].kind), ← beq_iff_eq (a := (j : Int)), h2, h3]
    rw [this]; omega
  · exact h j hj (by omega)
theorem valE_no {ts : List Tok} {k : Nat} (hk : k < ts.length) (h : okTok ts[k].kind ts[k].text ts[k].num = false ∨ (ts[k].kind == 0) ≠ ((k : Int) == (ts.length : Int) - 1)) : valE ts = 8 := by
  unfold valE
  rw [if_neg]
  intro hv
  have := ((valT_iff ts).1 hv).2 k hk
  rcases h with h | h
  · rw [show okTok ts[k].kind ts[k].text ts[k].num = ts[k].ok from rfl, this.1] at h; cases h
  · apply h
    rw [Bool.eq_iff_iff, beq_iff_eq, beq_iff_eq, this.2]; omega
theorem valE_nil {ts : List Tok} (h : ts.length = 0) : valE ts = 8 := by
  obtain rfl : ts = [] := List.eq_nil_of_length_eq_zero h
  rfl
theorem valE_yes {ts : List Tok} (h : ValRel ts ts.length) (h0 : 0 < ts.length) : valE ts = 0 := by
  unfold valE
  rw [if_pos ((valT_iff ts).2 ⟨h0, fun i hi => h i hi hi⟩)]
theorem box4g {W w1 : World} {B : Nat} {a b c d : Value} {t : TypeId} (h : Below (B + 1) W w1) (h0 : W.heap[B]? = some (.cells #[a, b, c, d] t)) :
    (w1.cell? ⟨B, 0, none⟩ = some a ∧ w1.cell? ⟨B, 1, none⟩ = some b ∧ w1.cell? ⟨B, 2, none⟩ = some c ∧ w1.cell? ⟨B, 3, none⟩ = some d) := by
  have : w1.heap[B]? = some (.cells #[a, b, c, d] t) := by rw [h.block B (by omega)]; exact h0
  exact ⟨by rw [cell_of_heap this]; rfl, by rw [cell_of_heap this]; rfl, by rw [cell_of_heap this]; rfl, by rw [cell_of_heap this]; rfl⟩
/-! ### the reference -/
theorem okTokR_iff (k : Int) (x : Bytes) (n : Int) : okTokR k x n = true ↔ okTok k x n = true ∧ k ≠ 0 := by
  unfold okTokR
  by_cases h : k = 0
  · rw [if_pos h]; simp [h]
  · rw [if_neg h]; simp [h]
def ValRelR (ts : List Tok) (k : Nat) : Prop := ∀ j (h : j < ts.length), j < k → okTokR ts[j].kind ts[j].text ts[j].num = true
theorem ValRelR_step {ts : List Tok} {k : Nat} (h : ValRelR ts k) (hk : k < ts.length) (h1 : okTokR ts[k].kind ts[k].text ts[k].num = true) : ValRelR ts (k + 1) := by
  intro j hj hjk
  by_cases e : j = k
  · subst e; exact h1
  · exact h j hj (by omega)
theorem valR_no {ts : List Tok} {k : Nat} (hk : k + 1 < ts.length) (h : okTokR ts[k].kind ts[k].text ts[k].num = false) : valE ts = 8 := by
  unfold valE
  rw [if_neg]
  intro hv
  have := ((valT_iff ts).1 hv).2 k (by omega)
  have h2 : okTokR ts[k].kind ts[k].text ts[k].num = true := (okTokR_iff _ _ _).2 ⟨this.1, fun e => by have := this.2.1 e; omega⟩
  rw [h] at h2; cases h2
theorem valR_end {ts : List Tok} {m : Nat} (hm : ts.length = m + 1) (h : ts[m].kind ≠ 0 ∨ ts[m].num ≠ 0 ∨ ts[m].text ≠ []) : valE ts = 8 := by
  unfold valE
  rw [if_neg]
  intro hv
  have h2 := ((valT_iff ts).1 hv).2 m (by omega)
  have hk : ts[m].kind = 0 := h2.2.2 (by omega)
  have h3 : okTok ts[m].kind ts[m].text ts[m].num = true := h2.1
  rw [hk, okTok_0] at h3
  simp at h3
  rcases h with h | h | h
  · exact h hk
  · exact h h3.2
  · exact h h3.1
theorem valR_yes {ts : List Tok} {m : Nat} (hm : ts.length = m + 1) (h : ValRelR ts m) (h1 : ts[m].kind = 0) (h2 : ts[m].num = 0) (h3 : ts[m].text = []) : valE ts = 0 := by
  unfold valE
  rw [if_pos]
  refine (valT_iff ts).2 ⟨by omega, fun i hi => ?_⟩
  by_cases e : i = m
  · subst e
    refine ⟨?_, by rw [h1]; simp; omega⟩
    show okTok ts[i].kind ts[i].text ts[i].num = true
    rw [h1, h2, h3]; rfl
  · have := (okTokR_iff _ _ _).1 (h i hi (by omega))
    exact ⟨this.1, ⟨fun h => absurd h this.2, fun h => by omega⟩⟩
end Go.Proofs.YtajcddaahmbllaaDoor
