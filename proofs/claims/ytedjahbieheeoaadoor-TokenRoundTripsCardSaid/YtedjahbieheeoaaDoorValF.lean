/- Contracts: token.Validate, ref7.Validate. -/
import Derived.Test.YtedjahbieheeoaaDoorValE
set_option linter.unusedVariables false
set_option linter.unusedSimpArgs false
namespace Go.Proofs.YtedjahbieheeoaaDoor
open Go.RowKit
def ValRel (ts : List Tok) (k : Nat) : Prop := ∀ j (h : j < ts.length), j < k → ts[j].ok = true ∧ (ts[j].kind = 0 ↔ j = ts.length - 1)
theorem ValRel_step {ts : List Tok} {k : Nat} (h : ValRel ts k) (hk : k < ts.length) (b : Bool) (h1 : okTok ts[k].kind ts[k].text ts[k].num = true) (h2 : (ts[k].kind == 0) = b) (h3 : ((k : Int) == (ts.length : Int) - 1) = b) : ValRel ts (k + 1) := by
  intro j hj hjk
  by_cases e : j = k
  · subst e
    refine ⟨h1, ?_⟩
    have : ts[j].kind = 0 ↔ (j : Int) = (ts.length : Int) - 1 := by rw [← beq_iff_eq (a := ts[j].kind), ← beq_iff_eq (a := (j : Int)), h2, h3]
    rw [this]; omega
  · exact h j hj (by omega)
theorem valE_no {ts : List Tok} {k : Nat} (hk : k < ts.length) (h : okTok ts[k].kind ts[k].text ts[k].num = false ∨ (ts[k].kind == 0) ≠ ((k : Int) == (ts.length : Int) - 1)) : valE ts = 8 := by
  unfold valE
  rw [if_neg]
  intro hv
  have := ((valT_iff ts).1 hv).2 k hk
  rcases h with h | h
  · rw [show okTok ts[k].kind ts[k].text ts[k].num = ts[k].ok from rfl, this.1] at h; cases h
  · apply h
    rw [Bool.eq_iff_iff, beq_iff_eq, beq_iff_eq, this.2]; omega
theorem valE_nil {ts : List Tok} (h : ts.length = 0) : valE ts = 8 := by
  obtain rfl : ts = [] := List.eq_nil_of_length_eq_zero h
  rfl
theorem valE_yes {ts : List Tok} (h : ValRel ts ts.length) (h0 : 0 < ts.length) : valE ts = 0 := by
  unfold valE
  rw [if_pos ((valT_iff ts).2 ⟨h0, fun i hi => h i hi hi⟩)]
theorem box4g {W w1 : World} {B : Nat} {a b c d : Value} {t : TypeId} (h : Below (B + 1) W w1) (h0 : W.heap[B]? = some (.cells #[a, b, c, d] t)) :
    (w1.cell? ⟨B, 0, none⟩ = some a ∧ w1.cell? ⟨B, 1, none⟩ = some b ∧ w1.cell? ⟨B, 2, none⟩ = some c ∧ w1.cell? ⟨B, 3, none⟩ = some d) := by
  have : w1.heap[B]? = some (.cells #[a, b, c, d] t) := by rw [h.block B (by omega)]; exact h0
  exact ⟨by rw [cell_of_heap this]; rfl, by rw [cell_of_heap this]; rfl, by rw [cell_of_heap this]; rfl, by rw [cell_of_heap this]; rfl⟩
set_option maxRecDepth 100000 in
set_option maxHeartbeats 4000000 in
theorem token_Validate_any (A : Option Addr) (ts : List Tok) (c : Nat) (w : World) (hG : Glob w) (hA : ToksAt w A ts) (hl : ts.length ≤ 1000000) (hx : ∀ j (h : j < ts.length), ts[j].text.length ≤ maxLen) :
    Calls Tryd.prog 15 #[.slice A ts.length c] w fun e w' => e = .returned (.int .i64 (valE ts)) ∧ Below w.heap.size w w' := by
  have HG := hide hG; clear hG
  have HA := hide hA; clear hA
  have HX := hide hx; clear hx
  go_enter Tryd.func15, Tryd.ntmps15
  go_wp2
  go_loopw [7] (fun i wr => ∃ k : Nat, k ≤ ts.length ∧ i = .int .i64 k ∧ Hid (ValRel ts k) ∧ Below w.heap.size w wr) (fun i _ => ts.length - (intOf i).toNat)
  case atStart => exact ⟨0, by omega, rfl, fun _ _ h => absurd h (Nat.not_lt_zero _), Below.refl _ _⟩
  case round =>
    obtain ⟨k, hk, rfl, HR, hbel⟩ := hrel
    have hsz := hbel.size
    by_cases hlt : k < ts.length
    · rcases HA.out.below (hbel.mono (Nat.le_refl _)) with h | ⟨g, off, rfl, hg, hc⟩
      · exact absurd hlt (by rw [h]; simp)
      obtain ⟨c1, c2, c3, c4⟩ := hc k hlt
      have HXk := hide (HX.out k hlt)
      clear hc
      have HStep := hide (fun b => ValRel_step HR.out hlt b)
      have HNo := hide (valE_no hlt)
      generalize ts[k] = x at *
      cases h1 : okTok x.kind x.text x.num
      · have HE := hide (HNo.out (.inl h1))
        have H1 := hide h1; clear h1
        go_wp2_with fail
        refine (token_valid_any x.kind x.num x.off ⟨x.text.toArray⟩ _ (HG.out.below (by (repeat (first | exact Below.refl _ _ | assumption | refine Below.drew ?_ | refine below_drewN ?_ _ | refine Below.alloc ?_ (by first | omega | (simp; done) | (simp; omega)) _ | refine Below.setCell ?_ (by first | omega | (simp; done) | (simp; omega)) _)))) HXk.out).mono ?_
        rintro e w1 ⟨rfl, hb1⟩
        rw [show okTok x.kind (bs ⟨x.text.toArray⟩) x.num = false from H1.out]
        have hb2 : Below w.heap.size w w1 := Below.trans (by (repeat (first | exact Below.refl _ _ | assumption | refine Below.drew ?_ | refine below_drewN ?_ _ | refine Below.alloc ?_ (by first | omega | (simp; done) | (simp; omega)) _ | refine Below.setCell ?_ (by first | omega | (simp; done) | (simp; omega)) _))) (hb1.mono (by simp; omega))
        go_wp2
        go_ret
        exact ⟨ret_int (by rw [HE.out]), hb2⟩
      · have H1 := hide h1; clear h1
        cases h2 : (x.kind == 0) <;> cases h3 : ((k : Int) == (ts.length : Int) - 1)
        case false.true =>
          have HE := hide (HNo.out (.inr (by rw [h2, h3]; decide)))
          go_wp2_with fail
          refine (token_valid_any x.kind x.num x.off ⟨x.text.toArray⟩ _ (HG.out.below (by (repeat (first | exact Below.refl _ _ | assumption | refine Below.drew ?_ | refine below_drewN ?_ _ | refine Below.alloc ?_ (by first | omega | (simp; done) | (simp; omega)) _ | refine Below.setCell ?_ (by first | omega | (simp; done) | (simp; omega)) _)))) HXk.out).mono ?_
          rintro e w1 ⟨rfl, hb1⟩
          rw [show okTok x.kind (bs ⟨x.text.toArray⟩) x.num = true from H1.out]
          have hb2 : Below w.heap.size w w1 := Below.trans (by (repeat (first | exact Below.refl _ _ | assumption | refine Below.drew ?_ | refine below_drewN ?_ _ | refine Below.alloc ?_ (by first | omega | (simp; done) | (simp; omega)) _ | refine Below.setCell ?_ (by first | omega | (simp; done) | (simp; omega)) _))) (hb1.mono (by simp; omega))
          obtain ⟨k0, _, _, _⟩ := box4g (B := wr.heap.size) (by simpa using hb1) (heap_alloc_new wr _)
          go_wp2
          go_ret
          exact ⟨ret_int (by rw [HE.out]), hb2⟩
        case true.false =>
          have HE := hide (HNo.out (.inr (by rw [h2, h3]; decide)))
          go_wp2_with fail
          refine (token_valid_any x.kind x.num x.off ⟨x.text.toArray⟩ _ (HG.out.below (by (repeat (first | exact Below.refl _ _ | assumption | refine Below.drew ?_ | refine below_drewN ?_ _ | refine Below.alloc ?_ (by first | omega | (simp; done) | (simp; omega)) _ | refine Below.setCell ?_ (by first | omega | (simp; done) | (simp; omega)) _)))) HXk.out).mono ?_
          rintro e w1 ⟨rfl, hb1⟩
          rw [show okTok x.kind (bs ⟨x.text.toArray⟩) x.num = true from H1.out]
          have hb2 : Below w.heap.size w w1 := Below.trans (by (repeat (first | exact Below.refl _ _ | assumption | refine Below.drew ?_ | refine below_drewN ?_ _ | refine Below.alloc ?_ (by first | omega | (simp; done) | (simp; omega)) _ | refine Below.setCell ?_ (by first | omega | (simp; done) | (simp; omega)) _))) (hb1.mono (by simp; omega))
          obtain ⟨k0, _, _, _⟩ := box4g (B := wr.heap.size) (by simpa using hb1) (heap_alloc_new wr _)
          go_wp2
          go_ret
          exact ⟨ret_int (by rw [HE.out]), hb2⟩
        all_goals
          have HR2 := hide (HStep.out _ H1.out h2 h3)
          go_wp2_with fail
          refine (token_valid_any x.kind x.num x.off ⟨x.text.toArray⟩ _ (HG.out.below (by (repeat (first | exact Below.refl _ _ | assumption | refine Below.drew ?_ | refine below_drewN ?_ _ | refine Below.alloc ?_ (by first | omega | (simp; done) | (simp; omega)) _ | refine Below.setCell ?_ (by first | omega | (simp; done) | (simp; omega)) _)))) HXk.out).mono ?_
          rintro e w1 ⟨rfl, hb1⟩
          rw [show okTok x.kind (bs ⟨x.text.toArray⟩) x.num = true from H1.out]
          have hb2 : Below w.heap.size w w1 := Below.trans (by (repeat (first | exact Below.refl _ _ | assumption | refine Below.drew ?_ | refine below_drewN ?_ _ | refine Below.alloc ?_ (by first | omega | (simp; done) | (simp; omega)) _ | refine Below.setCell ?_ (by first | omega | (simp; done) | (simp; omega)) _))) (hb1.mono (by simp; omega))
          obtain ⟨k0, _, _, _⟩ := box4g (B := wr.heap.size) (by simpa using hb1) (heap_alloc_new wr _)
          go_wp2
          exact ⟨⟨k + 1, by omega, by go_num, HR2, hb2⟩, by simp [intOf]; omega⟩
    · have hkl : k = ts.length := by omega
      by_cases h0 : ts.length = 0
      · have HE := hide (valE_nil h0)
        have hz : ((ts.length : Int) == 0) = true := by simp [h0]
        clear h0 hkl
        go_wp2
        go_ret
        exact ⟨ret_int (by rw [HE.out]), hbel⟩
      · have hz : ((ts.length : Int) == 0) = false := by simp only [beq_eq_false_iff_ne]; omega
        have HE := hide (valE_yes (by have := HR.out; rwa [hkl] at this) (Nat.pos_of_ne_zero h0))
        clear h0 hkl
        go_wp2
        go_ret
        exact ⟨ret_int (by rw [HE.out]), hbel⟩
/-! ### the reference -/
theorem okTokR_iff (k : Int) (x : Bytes) (n : Int) : okTokR k x n = true ↔ okTok k x n = true ∧ k ≠ 0 := by
  unfold okTokR
  by_cases h : k = 0
  · rw [if_pos h]; simp [h]
  · rw [if_neg h]; simp [h]
def ValRelR (ts : List Tok) (k : Nat) : Prop := ∀ j (h : j < ts.length), j < k → okTokR ts[j].kind ts[j].text ts[j].num = true
theorem ValRelR_step {ts : List Tok} {k : Nat} (h : ValRelR ts k) (hk : k < ts.length) (h1 : okTokR ts[k].kind ts[k].text ts[k].num = true) : ValRelR ts (k + 1) := by
  intro j hj hjk
  by_cases e : j = k
  · subst e; exact h1
  · exact h j hj (by omega)
theorem valR_no {ts : List Tok} {k : Nat} (hk : k + 1 < ts.length) (h : okTokR ts[k].kind ts[k].text ts[k].num = false) : valE ts = 8 := by
  unfold valE
  rw [if_neg]
  intro hv
  have := ((valT_iff ts).1 hv).2 k (by omega)
  have h2 : okTokR ts[k].kind ts[k].text ts[k].num = true := (okTokR_iff _ _ _).2 ⟨this.1, fun e => by have := this.2.1 e; omega⟩
  rw [h] at h2; cases h2
theorem valR_end {ts : List Tok} {m : Nat} (hm : ts.length = m + 1) (h : ts[m].kind ≠ 0 ∨ ts[m].num ≠ 0 ∨ ts[m].text ≠ []) : valE ts = 8 := by
  unfold valE
  rw [if_neg]
  intro hv
  have h2 := ((valT_iff ts).1 hv).2 m (by omega)
  have hk : ts[m].kind = 0 := h2.2.2 (by omega)
  have h3 : okTok ts[m].kind ts[m].text ts[m].num = true := h2.1
  rw [hk, okTok_0] at h3
  simp at h3
  rcases h with h | h | h
  · exact h hk
  · exact h h3.2
  · exact h h3.1
theorem valR_yes {ts : List Tok} {m : Nat} (hm : ts.length = m + 1) (h : ValRelR ts m) (h1 : ts[m].kind = 0) (h2 : ts[m].num = 0) (h3 : ts[m].text = []) : valE ts = 0 := by
  unfold valE
  rw [if_pos]
  refine (valT_iff ts).2 ⟨by omega, fun i hi => ?_⟩
  by_cases e : i = m
  · subst e
    refine ⟨?_, by rw [h1]; simp; omega⟩
    show okTok ts[i].kind ts[i].text ts[i].num = true
    rw [h1, h2, h3]; rfl
  · have := (okTokR_iff _ _ _).1 (h i hi (by omega))
    exact ⟨this.1, ⟨fun h => absurd h this.2, fun h => by omega⟩⟩
set_option maxRecDepth 100000 in
set_option maxHeartbeats 4000000 in
theorem ref7_Validate_any (A : Option Addr) (ts : List Tok) (c : Nat) (w : World) (hA : ToksAt w A ts) (hl : ts.length ≤ 1000000) (hx : ∀ j (h : j < ts.length), ts[j].text.length ≤ maxLen) :
    Calls Tryd.prog 16 #[.slice A ts.length c] w fun e w' => e = .returned (.int .i64 (valE ts)) ∧ Below w.heap.size w w' := by
  have HX := hide hx; clear hx
  by_cases h0 : ts.length = 0
  · have HE := hide (valE_nil h0)
    rw [h0]
    clear hA
    go_enter Tryd.func16, Tryd.ntmps16
    go_wp2
    go_ret
    exact ⟨ret_int (by rw [HE.out]), Below.refl _ _⟩
  obtain ⟨m, hm⟩ : ∃ m, ts.length = m + 1 := ⟨ts.length - 1, by omega⟩
  have HA := hide hA
  rcases hA with h | ⟨g, off, rfl, hg, hc⟩
  · exact absurd (by rw [h]; rfl) h0
  obtain ⟨c1, c2, c3, c4⟩ := hc m (by omega)
  clear c4 hc h0
  have HEnd := hide (valR_end hm)
  have HYes := hide (fun h => valR_yes hm h)
  have HLt := hide (show m < ts.length by omega)
  have hm1 : m + 1 ≤ 1000000 := by omega
  generalize ts[m] = y at *
  rw [hm]
  have HM := hide hm
  clear hm hl
  by_cases k1 : y.kind = 0
  case neg =>
    have HE := hide (HEnd.out (.inl k1))
    have b1 : (y.kind != 0) = true := by simpa using k1
    clear k1
    go_enter Tryd.func16, Tryd.ntmps16
    go_wp2
    go_ret
    exact ⟨ret_int (by rw [HE.out]), Below.refl _ _⟩
  by_cases k2 : y.num = 0
  case neg =>
    have HE := hide (HEnd.out (.inr (.inl k2)))
    have b1 : (y.kind != 0) = false := by simpa using k1
    have b2 : (y.num != 0) = true := by simpa using k2
    clear k1 k2
    go_enter Tryd.func16, Tryd.ntmps16
    go_wp2
    go_ret
    exact ⟨ret_int (by rw [HE.out]), Below.refl _ _⟩
  by_cases k3 : y.text = []
  case neg =>
    have HE := hide (HEnd.out (.inr (.inr k3)))
    have b1 : (y.kind != 0) = false := by simpa using k1
    have b2 : (y.num != 0) = false := by simpa using k2
    have b3 : (!y.text.isEmpty) = true := by cases h : y.text <;> simp_all
    clear k1 k2
    go_enter Tryd.func16, Tryd.ntmps16
    go_wp2
    go_ret
    exact ⟨ret_int (by rw [HE.out]), Below.refl _ _⟩
  have HYY := hide (fun h => HYes.out h k1 k2 k3)
  rw [k1] at c1
  rw [k2] at c3
  rw [k3] at c2
  clear k1 k2 k3 HEnd HYes
  have hz : ((m : Int) + 1 == 0) = false := by simp only [beq_eq_false_iff_ne]; omega
  go_enter Tryd.func16, Tryd.ntmps16
  go_wp2
  clear c1 c2 c3
  go_loopw [4] (fun i wr => ∃ k : Nat, k ≤ m ∧ i = .int .i64 k ∧ Hid (ValRelR ts k) ∧ Below w.heap.size w wr) (fun i _ => m - (intOf i).toNat)
  case atStart => exact ⟨0, by omega, rfl, fun _ _ h => absurd h (Nat.not_lt_zero _), Below.refl _ _⟩
  case round =>
    obtain ⟨k, hk, rfl, HR, hbel⟩ := hrel
    have hsz := hbel.size
    by_cases hlt : k < m
    · have hlt2 : k < ts.length := Nat.lt_trans hlt HLt.out
      rcases HA.out.below (hbel.mono (Nat.le_refl _)) with h | ⟨g, off, hA2, hg, hc⟩
      · exact absurd hlt2 (by rw [h]; simp)
      injection hA2 with hA2
      injection hA2 with h1 h2 h3
      subst h1 h2
      clear h3
      obtain ⟨c1, c2, c3, c4⟩ := hc k hlt2
      have HXk := hide (HX.out k hlt2)
      clear hc
      have HStep := hide (ValRelR_step HR.out hlt2)
      have HNo := hide (valR_no (ts := ts) (k := k) (by have := HM.out; omega))
      generalize ts[k] = x at *
      clear hlt2
      cases h1 : okTokR x.kind x.text x.num
      · have HE := hide (HNo.out h1)
        have H1 := hide h1; clear h1
        go_wp2_with fail
        refine (ref7_valid_any x.kind x.num x.off ⟨x.text.toArray⟩ _ HXk.out).mono ?_
        rintro e w1 ⟨rfl, hb1⟩
        rw [show okTokR x.kind (bs ⟨x.text.toArray⟩) x.num = false from H1.out]
        have hb2 : Below w.heap.size w w1 := Below.trans (by (repeat (first | exact Below.refl _ _ | assumption | refine Below.drew ?_ | refine below_drewN ?_ _ | refine Below.alloc ?_ (by first | omega | (simp; done) | (simp; omega)) _ | refine Below.setCell ?_ (by first | omega | (simp; done) | (simp; omega)) _))) (hb1.mono (by first | omega | (simp; omega)))
        go_wp2
        go_ret
        exact ⟨ret_int (by rw [HE.out]), hb2⟩
      · have HR2 := hide (HStep.out h1)
        have H1 := hide h1; clear h1
        go_wp2_with fail
        refine (ref7_valid_any x.kind x.num x.off ⟨x.text.toArray⟩ _ HXk.out).mono ?_
        rintro e w1 ⟨rfl, hb1⟩
        rw [show okTokR x.kind (bs ⟨x.text.toArray⟩) x.num = true from H1.out]
        have hb2 : Below w.heap.size w w1 := Below.trans (by (repeat (first | exact Below.refl _ _ | assumption | refine Below.drew ?_ | refine below_drewN ?_ _ | refine Below.alloc ?_ (by first | omega | (simp; done) | (simp; omega)) _ | refine Below.setCell ?_ (by first | omega | (simp; done) | (simp; omega)) _))) (hb1.mono (by first | omega | (simp; omega)))
        go_wp2
        exact ⟨⟨k + 1, by omega, by go_num, HR2, hb2⟩, by simp [intOf]; omega⟩
    · obtain rfl : k = m := by omega
      have HE := hide (HYY.out HR.out)
      go_wp2
      go_ret
      exact ⟨ret_int (by rw [HE.out]), hbel⟩
end Go.Proofs.YtedjahbieheeoaaDoor
