/- Contracts: slices.Contains of strings, token.valid. Contract: ref7.valid. Contracts: token.Validate, ref7.Validate. -/
import Derived.Test.YtlfedcbihbigoaaGreatDoorVals
import Derived.Test.YtlfedcbihbigoaaGreatDoorLawAB
import Derived.Deep.RegionHeld3
set_option linter.unusedVariables false
set_option linter.unusedSimpArgs false
namespace Go.Proofs.YtlfedcbihbigoaaGreatDoor
open Go.RowKit
theorem strs_getD (ls : List Bytes) (j : Nat) (h : j < ls.length) : (ls.map fun l => (⟨l.toArray⟩ : ByteArray)).getD j ByteArray.empty = ⟨(ls.getD j []).toArray⟩ := by
  simp [List.getD_eq_getElem?_getD, h]
theorem contains_any (b off cp : Nat) (ls : List Bytes) (x : ByteArray) (w : World) (hn : ls.length ≤ 9223372036854775807) (hc : ∀ j, j < ls.length → w.cell? ⟨b, off + j, none⟩ = some (str (ls.getD j []))) :
    Calls Tryz.prog 84 #[.slice (some ⟨b, off, none⟩) ls.length cp, .string x] w fun e w' => e = .returned (.bool (hasB ls (bs x))) ∧ w = w' := by
  refine (Tryz.slices_Contains_string b off ls.length cp (ls.map fun l => ⟨l.toArray⟩) x w (by simp) hn (fun j hj => ?_)).mono fun e w' ⟨h1, h2⟩ => ⟨?_, h2.symm⟩
  · have hj' : j < ls.length := by simpa using hj
    rw [hc j hj', strs_getD ls j hj']
  · rw [h1, List.take_of_length_le (by simp), containsS_map]
theorem okTok_0 (x : Bytes) (n : Int) : okTok 0 x n = (x.isEmpty && n == 0) := rfl
theorem okTok_1 (x : Bytes) (n : Int) : okTok 1 x n = (isQualB 24 x && n == 0) := rfl
theorem okTok_2 (x : Bytes) (n : Int) : okTok 2 x n = (x.isEmpty && (decide (0 ≤ n) && decide (n ≤ 1073741824))) := rfl
theorem okTok_3 (x : Bytes) (n : Int) : okTok 3 x n = (decide (x.length ≤ 64) && n == 0) := rfl
theorem okTok_4 (x : Bytes) (n : Int) : okTok 4 x n = (x.isEmpty && (decide (0 ≤ n) && decide (n ≤ 575999999))) := rfl
theorem okTok_5 (x : Bytes) (n : Int) : okTok 5 x n = (symB x && n == 0) := rfl
theorem okTok_no {k : Int} (h0 : (k == 0) = false) (h1 : (k == 1) = false) (h2 : (k == 2) = false) (h3 : (k == 3) = false) (h4 : (k == 4) = false) (h5 : (k == 5) = false) (x : Bytes) (n : Int) : okTok k x n = false := by
  simp only [beq_eq_false_iff_ne] at *
  unfold okTok
  rw [if_neg h0, if_neg h1, if_neg h2, if_neg h3, if_neg h4, if_neg h5]
theorem bs_toList (s : ByteArray) : bs s = s.toList := (ByteArray.toList_eq s).symm
theorem bs_len (s : ByteArray) : s.toList.length = s.size := by rw [← bs_toList]; rfl
set_option maxHeartbeats 4000000 in
theorem token_valid_any (k n o : Int) (s : ByteArray) (w : World) (hG : Glob w) (hs : s.size ≤ maxLen) :
    Calls Tryz.prog 49 #[.agg #[.int .i64 k, .string s, .int .i64 n, .int .i64 o]] w fun e w' => e = .returned (.bool (okTok k (bs s) n)) ∧ Below w.heap.size w w' := by
  have hs' := hs
  unfold maxLen at hs
  obtain ⟨hg, b, off, cp, hb, hv, hcells⟩ := hG.syms
  have HX := hide (fun W => schema_IsQualified_any s W hs')
  have HS := hide (fun W (hW : Below w.heap.size w W) => contains_any b off cp symbolsS s W (by decide) (fun j hj => by rw [hW.cell (p := ⟨b, off + j, none⟩) hb]; exact hcells j hj))
  rw [show hasB symbolsS (bs s) = symB (bs s) from rfl] at HS
  have hl18 : symbolsS.length = 18 := rfl
  rw [hl18] at hv HS
  clear hcells hl18 hG
  have HL := hide (bs_len s)
  have HB := hide (bs_toList s)
  have hk5 := hide (fun h0 h1 h2 h3 h4 h5 => okTok_no (k := k) h0 h1 h2 h3 h4 h5 (bs s) n)
  go_enter Tryz.func49, Tryz.ntmps49
  go_wp2_with (first
    | (go_at_call 83; refine (HX.out _).mono ?_; rintro e w1 ⟨rfl, hb1⟩; obtain ⟨k0, k1, k2, k3, ⟨f0, f1, f2, f3⟩, hz, hb0⟩ := box4 (by simpa using hb1); clear hb1)
    | (go_at_call 84; refine (HS.out _ ((Below.refl _ _).alloc (Nat.le_refl _) _)).mono ?_; rintro e w1 ⟨rfl, rfl⟩))
  all_goals
    go_ret
    refine ⟨ret_bool ?_, by first | assumption | (repeat (first | exact Below.refl _ _ | assumption | refine Below.drew ?_ | refine below_drewN ?_ _ | refine Below.alloc ?_ (by first | omega | simp <;> omega) _ | refine Below.setCell ?_ (by first | omega | simp <;> omega) _))⟩
    clear HX HS
    rw [HB.out]
    have hlen := HL.out
    have hbs := HB.out
    clear HL HB hk5 hv hb
    simp_all [okTok] <;> omega
end Go.Proofs.YtlfedcbihbigoaaGreatDoor

namespace Go.Proofs.YtlfedcbihbigoaaGreatDoor
open Go.RowKit
/-- The reference's word: an end is not among them. -/
def okTokR (k : Int) (x : Bytes) (n : Int) : Bool := if k = 0 then false else okTok k x n
theorem symT_self {l : Bytes} (h : l ≠ []) : (symT l == l) = symB l := by
  rw [Bool.eq_iff_iff, beq_iff_eq]
  unfold symB
  rw [List.contains_iff_mem]
  constructor
  · intro e
    unfold symT at e
    cases hf : symbolsS.find? (fun x => x.isPrefixOf l) with
    | none => rw [hf] at e; exact absurd e.symm h
    | some x =>
      rw [hf] at e
      have : x = l := e
      subst this
      exact List.mem_of_find?_eq_some hf
  · intro hm
    have : ∀ x ∈ symbolsS, symT x = x := by decide
    exact this l hm
set_option maxHeartbeats 4000000 in
theorem ref7_valid_any (k n o : Int) (s : ByteArray) (w : World) (hs : s.size ≤ maxLen) :
    Calls Tryz.prog 54 #[.agg #[.int .i64 k, .string s, .int .i64 n, .int .i64 o]] w fun e w' => e = .returned (.bool (okTokR k (bs s) n)) ∧ Below w.heap.size w w' := by
  have hs' := hs
  unfold maxLen at hs
  have HX := hide (fun W => ref5_IsQualified_any s W hs')
  have HL := hide (bs_len s)
  have HB := hide (bs_toList s)
  by_cases h5 : k = 5
  · subst h5
    by_cases hn : n = 0
    · subst hn
      by_cases he : s.size = 0
      · have hE : s.toList = [] := by rw [ByteArray.toList_eq]; exact List.eq_nil_of_length_eq_zero he
        have hE2 : (!s.toList.isEmpty) = false := by rw [hE]; rfl
        have HR := hide (show okTokR 5 (bs s) 0 = false by rw [bs_toList, hE]; rfl)
        clear hE he
        go_enter Tryz.func54, Tryz.ntmps54
        go_wp2
        go_big_quiet (fail)
        go_wp2
        go_ret
        exact ⟨ret_bool (by rw [HR.out]), by (repeat (first | exact Below.refl _ _ | assumption | refine Below.drew ?_ | refine below_drewN ?_ _ | refine Below.alloc ?_ (by first | omega | simp <;> omega) _ | refine Below.setCell ?_ (by first | omega | simp <;> omega) _))⟩
      · have hE2 : (!s.toList.isEmpty) = true := by
          cases h : s.toList with
          | nil => exact absurd (by rw [← bs_len, h]; rfl) he
          | cons => rfl
        have HR := hide (show okTokR 5 (bs s) 0 = (symT (bs s) == s.toList) by
          have hne : bs s ≠ [] := by
            rw [bs_toList]; intro e; rw [e] at hE2; cases hE2
          unfold okTokR
          rw [if_neg (by decide), okTok_5, ← symT_self hne, bs_toList]; simp)
        have HSy := hide (fun W => ref7_symbol_any s W hs' (by omega))
        clear he
        generalize symT (bs s) = y at *
        go_enter Tryz.func54, Tryz.ntmps54
        go_wp2
        go_region_held3 (fun w' => w'.cell? ⟨w.heap.size, 1, none⟩ = some (.string s) ∧ w'.cell? ⟨w.heap.size, 2, none⟩ = some (.int .i64 0)) (first | go_keep | exact ⟨k1, k2⟩)
          (first
            | (go_at_call 64; refine (HSy.out _).mono ?_; rintro e w1 ⟨rfl, hb1⟩; have k1 : w1.cell? ⟨w.heap.size, 1, none⟩ = some (.string s) := (hb1.cell (p := ⟨w.heap.size, 1, none⟩) (by simp)).trans (by simp); have k2 : w1.cell? ⟨w.heap.size, 2, none⟩ = some (.int .i64 0) := (hb1.cell (p := ⟨w.heap.size, 2, none⟩) (by simp)).trans (by simp); have hb0 : Below w.heap.size w w1 := Below.trans (by (repeat (first | exact Below.refl _ _ | assumption | refine Below.drew ?_ | refine below_drewN ?_ _ | refine Below.alloc ?_ (by first | omega | simp <;> omega) _ | refine Below.setCell ?_ (by first | omega | simp <;> omega) _))) (hb1.mono (by simp))))
        go_wp2
        go_ret
        exact ⟨ret_bool (by rw [HR.out]), by assumption⟩
    · have hn2 : (n == 0) = false := by simpa using hn
      have HR := hide (show okTokR 5 (bs s) n = false by unfold okTokR; rw [if_neg (by decide), okTok_5, hn2, Bool.and_false])
      clear hn
      go_enter Tryz.func54, Tryz.ntmps54
      go_wp2
      go_big_quiet (fail)
      go_wp2
      go_ret
      exact ⟨ret_bool (by rw [HR.out]), by (repeat (first | exact Below.refl _ _ | assumption | refine Below.drew ?_ | refine below_drewN ?_ _ | refine Below.alloc ?_ (by first | omega | simp <;> omega) _ | refine Below.setCell ?_ (by first | omega | simp <;> omega) _))⟩
  have b5 : (k == 5) = false := by simpa using h5
  clear h5
  go_enter Tryz.func54, Tryz.ntmps54
  go_wp2_with (first
    | (go_at_call 91; refine (HX.out _).mono ?_; rintro e w1 ⟨rfl, rfl⟩))
  all_goals
    go_ret
    refine ⟨ret_bool ?_, by first | assumption | (repeat (first | exact Below.refl _ _ | assumption | refine Below.drew ?_ | refine below_drewN ?_ _ | refine Below.alloc ?_ (by first | omega | simp <;> omega) _ | refine Below.setCell ?_ (by first | omega | simp <;> omega) _))⟩
    clear HX
    rw [HB.out]
    have hlen := HL.out
    have hbs := HB.out
    clear HL HB
    simp_all [okTok, okTokR] <;> omega
end Go.Proofs.YtlfedcbihbigoaaGreatDoor

namespace Go.Proofs.YtlfedcbihbigoaaGreatDoor
open Go.RowKit
def ValRel (ts : List Tok) (k : Nat) : Prop := ∀ j (h : j < ts.length), j < k → ts[j].ok = true ∧ (ts[j].kind = 0 ↔ j = ts.length - 1)
theorem ValRel_step {ts : List Tok} {k : Nat} (h : ValRel ts k) (hk : k < ts.length) (b : Bool) (h1 : okTok ts[k].kind ts[k].text ts[k].num = true) (h2 : (ts[k].kind == 0) = b) (h3 : ((k : Int) == (ts.length : Int) - 1) = b) : ValRel ts (k + 1) := by
  intro j hj hjk
  by_cases e : j = k
  · subst e
    refine ⟨h1, ?_⟩
    have : ts[j].kind = 0 ↔ (j : Int) = (ts.length : Int) - 1 := by rw [← beq_iff_eq (a := ts[j].kind), ← beq_iff_eq (a := (j : Int)), h2, h3]
    rw [this]; omega
  · exact h j hj (by omega)
theorem valE_no {ts : List Tok} {k : Nat} (hk : k < ts.length) (h : okTok ts[k].kind ts[k].text ts[k].num = false ∨ (ts[k].kind == 0) ≠ ((k : Int) == (ts.length : Int) - 1)) : valE ts = 8 := by
  unfold valE
  rw [if_neg]
  intro hv
  have := ((valT_iff ts).1 hv).2 k hk
  rcases h with h | h
  · rw [show okTok ts[k].kind ts[k].text ts[k].num = ts[k].ok from rfl, this.1] at h; cases h
  · apply h
    rw [Bool.eq_iff_iff, beq_iff_eq, beq_iff_eq, this.2]; omega
theorem valE_nil {ts : List Tok} (h : ts.length = 0) : valE ts = 8 := by
  obtain rfl : ts = [] := List.eq_nil_of_length_eq_zero h
  rfl
theorem valE_yes {ts : List Tok} (h : ValRel ts ts.length) (h0 : 0 < ts.length) : valE ts = 0 := by
  unfold valE
  rw [if_pos ((valT_iff ts).2 ⟨h0, fun i hi => h i hi hi⟩)]
theorem box4g {W w1 : World} {B : Nat} {a b c d : Value} {t : TypeId} (h : Below (B + 1) W w1) (h0 : W.heap[B]? = some (.cells #[a, b, c, d] t)) :
    (w1.cell? ⟨B, 0, none⟩ = some a ∧ w1.cell? ⟨B, 1, none⟩ = some b ∧ w1.cell? ⟨B, 2, none⟩ = some c ∧ w1.cell? ⟨B, 3, none⟩ = some d) := by
  have : w1.heap[B]? = some (.cells #[a, b, c, d] t) := by rw [h.block B (by omega)]; exact h0
  exact ⟨by rw [cell_of_heap this]; rfl, by rw [cell_of_heap this]; rfl, by rw [cell_of_heap this]; rfl, by rw [cell_of_heap this]; rfl⟩
set_option maxRecDepth 100000 in
set_option maxHeartbeats 4000000 in
theorem token_Validate_any (A : Option Addr) (ts : List Tok) (c : Nat) (w : World) (hG : Glob w) (hA : ToksAt w A ts) (hl : ts.length ≤ 1000000) (hx : ∀ j (h : j < ts.length), ts[j].text.length ≤ maxLen) :
    Calls Tryz.prog 28 #[.slice A ts.length c] w fun e w' => e = .returned (.int .i64 (valE ts)) ∧ Below w.heap.size w w' := by
  have HG := hide hG; clear hG
  have HA := hide hA; clear hA
  have HX := hide hx; clear hx
  go_enter Tryz.func28, Tryz.ntmps28
  go_wp2
  go_loopw [7] (fun i wr => ∃ k : Nat, k ≤ ts.length ∧ i = .int .i64 k ∧ Hid (ValRel ts k) ∧ Below w.heap.size w wr) (fun i _ => ts.length - (intOf i).toNat)
  case atStart => exact ⟨0, by omega, rfl, fun _ _ h => absurd h (Nat.not_lt_zero _), Below.refl _ _⟩
  case round =>
    obtain ⟨k, hk, rfl, HR, hbel⟩ := hrel
    have hsz := hbel.size
    by_cases hlt : k < ts.length
    · rcases HA.out.below (hbel.mono (Nat.le_refl _)) with h | ⟨g, off, rfl, hg, hc⟩
      · exact absurd hlt (by rw [h]; simp)
      obtain ⟨c1, c2, c3, c4⟩ := hc k hlt
      have HXk := hide (HX.out k hlt)
      clear hc
      have HStep := hide (fun b => ValRel_step HR.out hlt b)
      have HNo := hide (valE_no hlt)
      generalize ts[k] = x at *
      cases h1 : okTok x.kind x.text x.num
      · have HE := hide (HNo.out (.inl h1))
        have H1 := hide h1; clear h1
        go_wp2_with fail
        refine (token_valid_any x.kind x.num x.off ⟨x.text.toArray⟩ _ (HG.out.below (by (repeat (first | exact Below.refl _ _ | assumption | refine Below.drew ?_ | refine below_drewN ?_ _ | refine Below.alloc ?_ (by first | omega | simp <;> omega) _ | refine Below.setCell ?_ (by first | omega | simp <;> omega) _)))) HXk.out).mono ?_
        rintro e w1 ⟨rfl, hb1⟩
        rw [show okTok x.kind (bs ⟨x.text.toArray⟩) x.num = false from H1.out]
        have hb2 : Below w.heap.size w w1 := Below.trans (by (repeat (first | exact Below.refl _ _ | assumption | refine Below.drew ?_ | refine below_drewN ?_ _ | refine Below.alloc ?_ (by first | omega | simp <;> omega) _ | refine Below.setCell ?_ (by first | omega | simp <;> omega) _))) (hb1.mono (by simp; omega))
        go_wp2
        go_ret
        exact ⟨ret_int (by rw [HE.out]), hb2⟩
      · have H1 := hide h1; clear h1
        cases h2 : (x.kind == 0) <;> cases h3 : ((k : Int) == (ts.length : Int) - 1)
        case false.true =>
          have HE := hide (HNo.out (.inr (by rw [h2, h3]; decide)))
          go_wp2_with fail
          refine (token_valid_any x.kind x.num x.off ⟨x.text.toArray⟩ _ (HG.out.below (by (repeat (first | exact Below.refl _ _ | assumption | refine Below.drew ?_ | refine below_drewN ?_ _ | refine Below.alloc ?_ (by first | omega | simp <;> omega) _ | refine Below.setCell ?_ (by first | omega | simp <;> omega) _)))) HXk.out).mono ?_
          rintro e w1 ⟨rfl, hb1⟩
          rw [show okTok x.kind (bs ⟨x.text.toArray⟩) x.num = true from H1.out]
          have hb2 : Below w.heap.size w w1 := Below.trans (by (repeat (first | exact Below.refl _ _ | assumption | refine Below.drew ?_ | refine below_drewN ?_ _ | refine Below.alloc ?_ (by first | omega | simp <;> omega) _ | refine Below.setCell ?_ (by first | omega | simp <;> omega) _))) (hb1.mono (by simp; omega))
          obtain ⟨k0, _, _, _⟩ := box4g (B := wr.heap.size) (by simpa using hb1) (heap_alloc_new wr _)
          go_wp2
          go_ret
          exact ⟨ret_int (by rw [HE.out]), hb2⟩
        case true.false =>
          have HE := hide (HNo.out (.inr (by rw [h2, h3]; decide)))
          go_wp2_with fail
          refine (token_valid_any x.kind x.num x.off ⟨x.text.toArray⟩ _ (HG.out.below (by (repeat (first | exact Below.refl _ _ | assumption | refine Below.drew ?_ | refine below_drewN ?_ _ | refine Below.alloc ?_ (by first | omega | simp <;> omega) _ | refine Below.setCell ?_ (by first | omega | simp <;> omega) _)))) HXk.out).mono ?_
          rintro e w1 ⟨rfl, hb1⟩
          rw [show okTok x.kind (bs ⟨x.text.toArray⟩) x.num = true from H1.out]
          have hb2 : Below w.heap.size w w1 := Below.trans (by (repeat (first | exact Below.refl _ _ | assumption | refine Below.drew ?_ | refine below_drewN ?_ _ | refine Below.alloc ?_ (by first | omega | simp <;> omega) _ | refine Below.setCell ?_ (by first | omega | simp <;> omega) _))) (hb1.mono (by simp; omega))
          obtain ⟨k0, _, _, _⟩ := box4g (B := wr.heap.size) (by simpa using hb1) (heap_alloc_new wr _)
          go_wp2
          go_ret
          exact ⟨ret_int (by rw [HE.out]), hb2⟩
        all_goals
          have HR2 := hide (HStep.out _ H1.out h2 h3)
          go_wp2_with fail
          refine (token_valid_any x.kind x.num x.off ⟨x.text.toArray⟩ _ (HG.out.below (by (repeat (first | exact Below.refl _ _ | assumption | refine Below.drew ?_ | refine below_drewN ?_ _ | refine Below.alloc ?_ (by first | omega | simp <;> omega) _ | refine Below.setCell ?_ (by first | omega | simp <;> omega) _)))) HXk.out).mono ?_
          rintro e w1 ⟨rfl, hb1⟩
          rw [show okTok x.kind (bs ⟨x.text.toArray⟩) x.num = true from H1.out]
          have hb2 : Below w.heap.size w w1 := Below.trans (by (repeat (first | exact Below.refl _ _ | assumption | refine Below.drew ?_ | refine below_drewN ?_ _ | refine Below.alloc ?_ (by first | omega | simp <;> omega) _ | refine Below.setCell ?_ (by first | omega | simp <;> omega) _))) (hb1.mono (by simp; omega))
          obtain ⟨k0, _, _, _⟩ := box4g (B := wr.heap.size) (by simpa using hb1) (heap_alloc_new wr _)
          go_wp2
          exact ⟨⟨k + 1, by omega, by go_num, HR2, hb2⟩, by simp [intOf]; omega⟩
    · have hkl : k = ts.length := by omega
      by_cases h0 : ts.length = 0
      · have HE := hide (valE_nil h0)
        have hz : ((ts.length : Int) == 0) = true := by simp [h0]
        clear h0 hkl
        go_wp2
        go_ret
        exact ⟨ret_int (by rw [HE.out]), hbel⟩
      · have hz : ((ts.length : Int) == 0) = false := by simp only [beq_eq_false_iff_ne]; omega
        have HE := hide (valE_yes (by have := HR.out; rwa [hkl] at this) (Nat.pos_of_ne_zero h0))
        clear h0 hkl
        go_wp2
        go_ret
        exact ⟨ret_int (by rw [HE.out]), hbel⟩
/-! ### the reference -/
theorem okTokR_iff (k : Int) (x : Bytes) (n : Int) : okTokR k x n = true ↔ okTok k x n = true ∧ k ≠ 0 := by
  unfold okTokR
  by_cases h : k = 0
  · rw [if_pos h]; simp [h]
  · rw [if_neg h]; simp [h]
def ValRelR (ts : List Tok) (k : Nat) : Prop := ∀ j (h : j < ts.length), j < k → okTokR ts[j].kind ts[j].text ts[j].num = true
theorem ValRelR_step {ts : List Tok} {k : Nat} (h : ValRelR ts k) (hk : k < ts.length) (h1 : okTokR ts[k].kind ts[k].text ts[k].num = true) : ValRelR ts (k + 1) := by
  intro j hj hjk
  by_cases e : j = k
  · subst e; exact h1
  · exact h j hj (by omega)
theorem valR_no {ts : List Tok} {k : Nat} (hk : k + 1 < ts.length) (h : okTokR ts[k].kind ts[k].text ts[k].num = false) : valE ts = 8 := by
  unfold valE
  rw [if_neg]
  intro hv
  have := ((valT_iff ts).1 hv).2 k (by omega)
  have h2 : okTokR ts[k].kind ts[k].text ts[k].num = true := (okTokR_iff _ _ _).2 ⟨this.1, fun e => by have := this.2.1 e; omega⟩
  rw [h] at h2; cases h2
theorem valR_end {ts : List Tok} {m : Nat} (hm : ts.length = m + 1) (h : ts[m].kind ≠ 0 ∨ ts[m].num ≠ 0 ∨ ts[m].text ≠ []) : valE ts = 8 := by
  unfold valE
  rw [if_neg]
  intro hv
  have h2 := ((valT_iff ts).1 hv).2 m (by omega)
  have hk : ts[m].kind = 0 := h2.2.2 (by omega)
  have h3 : okTok ts[m].kind ts[m].text ts[m].num = true := h2.1
  rw [hk, okTok_0] at h3
  simp at h3
  rcases h with h | h | h
  · exact h hk
  · exact h h3.2
  · exact h h3.1
theorem valR_yes {ts : List Tok} {m : Nat} (hm : ts.length = m + 1) (h : ValRelR ts m) (h1 : ts[m].kind = 0) (h2 : ts[m].num = 0) (h3 : ts[m].text = []) : valE ts = 0 := by
  unfold valE
  rw [if_pos]
  refine (valT_iff ts).2 ⟨by omega, fun i hi => ?_⟩
  by_cases e : i = m
  · subst e
    refine ⟨?_, by rw [h1]; simp; omega⟩
    show okTok ts[i].kind ts[i].text ts[i].num = true
    rw [h1, h2, h3]; rfl
  · have := (okTokR_iff _ _ _).1 (h i hi (by omega))
    exact ⟨this.1, ⟨fun h => absurd h this.2, fun h => by omega⟩⟩
set_option maxRecDepth 100000 in
set_option maxHeartbeats 4000000 in
theorem ref7_Validate_any (A : Option Addr) (ts : List Tok) (c : Nat) (w : World) (hA : ToksAt w A ts) (hl : ts.length ≤ 1000000) (hx : ∀ j (h : j < ts.length), ts[j].text.length ≤ maxLen) :
    Calls Tryz.prog 31 #[.slice A ts.length c] w fun e w' => e = .returned (.int .i64 (valE ts)) ∧ Below w.heap.size w w' := by
  have HX := hide hx; clear hx
  by_cases h0 : ts.length = 0
  · have HE := hide (valE_nil h0)
    rw [h0]
    clear hA
    go_enter Tryz.func31, Tryz.ntmps31
    go_wp2
    go_ret
    exact ⟨ret_int (by rw [HE.out]), Below.refl _ _⟩
  obtain ⟨m, hm⟩ : ∃ m, ts.length = m + 1 := ⟨ts.length - 1, by omega⟩
  have HA := hide hA
  rcases hA with h | ⟨g, off, rfl, hg, hc⟩
  · exact absurd (by rw [h]; rfl) h0
  obtain ⟨c1, c2, c3, c4⟩ := hc m (by omega)
  clear c4 hc h0
  have HEnd := hide (valR_end hm)
  have HYes := hide (fun h => valR_yes hm h)
  have HLt := hide (show m < ts.length by omega)
  have hm1 : m + 1 ≤ 1000000 := by omega
  generalize ts[m] = y at *
  rw [hm]
  have HM := hide hm
  clear hm hl
  by_cases k1 : y.kind = 0
  case neg =>
    have HE := hide (HEnd.out (.inl k1))
    have b1 : (y.kind != 0) = true := by simpa using k1
    clear k1
    go_enter Tryz.func31, Tryz.ntmps31
    go_wp2
    go_ret
    exact ⟨ret_int (by rw [HE.out]), Below.refl _ _⟩
  by_cases k2 : y.num = 0
  case neg =>
    have HE := hide (HEnd.out (.inr (.inl k2)))
    have b1 : (y.kind != 0) = false := by simpa using k1
    have b2 : (y.num != 0) = true := by simpa using k2
    clear k1 k2
    go_enter Tryz.func31, Tryz.ntmps31
    go_wp2
    go_ret
    exact ⟨ret_int (by rw [HE.out]), Below.refl _ _⟩
  by_cases k3 : y.text = []
  case neg =>
    have HE := hide (HEnd.out (.inr (.inr k3)))
    have b1 : (y.kind != 0) = false := by simpa using k1
    have b2 : (y.num != 0) = false := by simpa using k2
    have b3 : (!y.text.isEmpty) = true := by cases h : y.text <;> simp_all
    clear k1 k2
    go_enter Tryz.func31, Tryz.ntmps31
    go_wp2
    go_ret
    exact ⟨ret_int (by rw [HE.out]), Below.refl _ _⟩
  have HYY := hide (fun h => HYes.out h k1 k2 k3)
  rw [k1] at c1
  rw [k2] at c3
  rw [k3] at c2
  clear k1 k2 k3 HEnd HYes
  have hz : ((m : Int) + 1 == 0) = false := by simp only [beq_eq_false_iff_ne]; omega
  go_enter Tryz.func31, Tryz.ntmps31
  go_wp2
  clear c1 c2 c3
  go_loopw [4] (fun i wr => ∃ k : Nat, k ≤ m ∧ i = .int .i64 k ∧ Hid (ValRelR ts k) ∧ Below w.heap.size w wr) (fun i _ => m - (intOf i).toNat)
  case atStart => exact ⟨0, by omega, rfl, fun _ _ h => absurd h (Nat.not_lt_zero _), Below.refl _ _⟩
  case round =>
    obtain ⟨k, hk, rfl, HR, hbel⟩ := hrel
    have hsz := hbel.size
    by_cases hlt : k < m
    · have hlt2 : k < ts.length := Nat.lt_trans hlt HLt.out
      rcases HA.out.below (hbel.mono (Nat.le_refl _)) with h | ⟨g, off, hA2, hg, hc⟩
      · exact absurd hlt2 (by rw [h]; simp)
      injection hA2 with hA2
      injection hA2 with h1 h2 h3
      subst h1 h2
      clear h3
      obtain ⟨c1, c2, c3, c4⟩ := hc k hlt2
      have HXk := hide (HX.out k hlt2)
      clear hc
      have HStep := hide (ValRelR_step HR.out hlt2)
      have HNo := hide (valR_no (ts := ts) (k := k) (by have := HM.out; omega))
      generalize ts[k] = x at *
      clear hlt2
      cases h1 : okTokR x.kind x.text x.num
      · have HE := hide (HNo.out h1)
        have H1 := hide h1; clear h1
        go_wp2_with fail
        refine (ref7_valid_any x.kind x.num x.off ⟨x.text.toArray⟩ _ HXk.out).mono ?_
        rintro e w1 ⟨rfl, hb1⟩
        rw [show okTokR x.kind (bs ⟨x.text.toArray⟩) x.num = false from H1.out]
        have hb2 : Below w.heap.size w w1 := Below.trans (by (repeat (first | exact Below.refl _ _ | assumption | refine Below.drew ?_ | refine below_drewN ?_ _ | refine Below.alloc ?_ (by first | omega | simp <;> omega) _ | refine Below.setCell ?_ (by first | omega | simp <;> omega) _))) (hb1.mono (by first | omega | (simp; omega)))
        go_wp2
        go_ret
        exact ⟨ret_int (by rw [HE.out]), hb2⟩
      · have HR2 := hide (HStep.out h1)
        have H1 := hide h1; clear h1
        go_wp2_with fail
        refine (ref7_valid_any x.kind x.num x.off ⟨x.text.toArray⟩ _ HXk.out).mono ?_
        rintro e w1 ⟨rfl, hb1⟩
        rw [show okTokR x.kind (bs ⟨x.text.toArray⟩) x.num = true from H1.out]
        have hb2 : Below w.heap.size w w1 := Below.trans (by (repeat (first | exact Below.refl _ _ | assumption | refine Below.drew ?_ | refine below_drewN ?_ _ | refine Below.alloc ?_ (by first | omega | simp <;> omega) _ | refine Below.setCell ?_ (by first | omega | simp <;> omega) _))) (hb1.mono (by first | omega | (simp; omega)))
        go_wp2
        exact ⟨⟨k + 1, by omega, by go_num, HR2, hb2⟩, by simp [intOf]; omega⟩
    · obtain rfl : k = m := by omega
      have HE := hide (HYY.out HR.out)
      go_wp2
      go_ret
      exact ⟨ret_int (by rw [HE.out]), hbel⟩
end Go.Proofs.YtlfedcbihbigoaaGreatDoor
