/- Contract: law11.plain. -/
import Derived.Test.YtmbeeefkpgfgmaaGreatDoorPq44
import Derived.Test.YtmbeeefkpgfgmaaGreatDoorPq45
import Derived.Deep.Cut
set_option linter.unusedVariables false
set_option linter.unusedSimpArgs false
namespace Go.Proofs.YtmbeeefkpgfgmaaGreatDoor
open Go.RowKit
def plA : Stp := ⟨0, [97], [], [], [], []⟩
def plB : Stp := ⟨8, [98], [], [], [], []⟩
def plC : Stp := ⟨9, [97], [], [], [], []⟩
theorem pl_ok (o : Int) (s : Bytes) (h : s.length ≤ 1) : (⟨o, s, [], [], [], []⟩ : Stp).ok :=
  ⟨Nat.le_trans h (by unfold maxLen; omega), Nat.zero_le _, Nat.zero_le _, Nat.zero_le _, fun x hx => (List.not_mem_nil hx).elim, Nat.zero_le _, fun x hx => (List.not_mem_nil hx).elim⟩
theorem pl_step {w : World} {g o : Nat} {op : Int} {s : Bytes} (c0 : w.cell? ⟨g, o, none⟩ = some (.int .i64 op)) (c1 : w.cell? ⟨g, o + 1, none⟩ = some (str s)) (c2 : w.cell? ⟨g, o + 2, none⟩ = some (.slice none 0 0)) (c3 : w.cell? ⟨g, o + 3, none⟩ = some (.slice none 0 0)) (c4 : w.cell? ⟨g, o + 4, none⟩ = some (.slice none 0 0)) (c5 : w.cell? ⟨g, o + 5, none⟩ = some (.slice none 0 0)) : StpAt w g o ⟨op, s, [], [], [], []⟩ :=
  ⟨⟨none, 0, none, 0, none, 0, none, 0⟩, ⟨.inl rfl, .inl rfl, .inl rfl, .inl rfl, Nat.le_refl _, Nat.le_refl _, Nat.le_refl _⟩, c0, c1, c2, c3, c4, c5⟩
def plCells : Array Value := #[.int .i64 0, str [97], .slice none 0 0, .slice none 0 0, .slice none 0 0, .slice none 0 0, .int .i64 8, str [98], .slice none 0 0, .slice none 0 0, .slice none 0 0, .slice none 0 0, .int .i64 9, str [97], .slice none 0 0, .slice none 0 0, .slice none 0 0, .slice none 0 0]
theorem pl_at {w : World} {g : Nat} (h : w.heap[g]? = some (.cells plCells 27)) : StpsAt w (some ⟨g, 0, none⟩) [plA, plB, plC] ∧ StpsAt w (some ⟨g, 6, none⟩) [plB, plC] := by
  refine ⟨.inr ⟨g, 0, rfl, lt_of_heap h, fun i hi => ?_⟩, .inr ⟨g, 6, rfl, lt_of_heap h, fun i hi => ?_⟩⟩
  · have hi3 : i < 3 := hi
    match i, hi3 with
    | 0, _ => exact pl_step (cell_of_heap h 0) (cell_of_heap h 1) (cell_of_heap h 2) (cell_of_heap h 3) (cell_of_heap h 4) (cell_of_heap h 5)
    | 1, _ => exact pl_step (cell_of_heap h 6) (cell_of_heap h 7) (cell_of_heap h 8) (cell_of_heap h 9) (cell_of_heap h 10) (cell_of_heap h 11)
    | 2, _ => exact pl_step (cell_of_heap h 12) (cell_of_heap h 13) (cell_of_heap h 14) (cell_of_heap h 15) (cell_of_heap h 16) (cell_of_heap h 17)
  · have hi3 : i < 2 := hi
    match i, hi3 with
    | 0, _ => exact pl_step (cell_of_heap h 6) (cell_of_heap h 7) (cell_of_heap h 8) (cell_of_heap h 9) (cell_of_heap h 10) (cell_of_heap h 11)
    | 1, _ => exact pl_step (cell_of_heap h 12) (cell_of_heap h 13) (cell_of_heap h 14) (cell_of_heap h 15) (cell_of_heap h 16) (cell_of_heap h 17)
theorem pl_stsok (l : List Stp) (h : ∀ s ∈ l, s = plA ∨ s = plB ∨ s = plC) : StsOk l := fun s hs => by
  rcases h s hs with rfl | rfl | rfl
  · exact pl_ok 0 [97] (by decide)
  · exact pl_ok 8 [98] (by decide)
  · exact pl_ok 9 [97] (by decide)
theorem pl_q : queryS [plA, plB, plC] = 0 := by decide
theorem pl_r : queryS [plB, plC] = 8 := by decide
theorem pl_s : stepS ⟨3, [], [], [], [], []⟩ = 2 := by decide
theorem pl_reads : readsS [plA, plB, plC] = [[97], [98]] := by decide
theorem takes_eq {la lb : List Bytes} {k : Nat} (h : la.take k = lb.take k) (ha : k < la.length) (hb : k < lb.length) (e : la[k] = lb[k]) : la.take (k + 1) = lb.take (k + 1) := by
  rw [List.take_succ_eq_append_getElem ha, List.take_succ_eq_append_getElem hb, h, e]
set_option maxRecDepth 100000 in
set_option maxHeartbeats 2000000 in
theorem ref5_Strings_any (A B : Option Addr) (la lb : List Bytes) (ca cb : Nat) (w : World) (hA : StrsAt w A la) (hB : StrsAt w B lb) (h1 : la.length ≤ 1000000) (h2 : lb.length ≤ 1000000) :
    Calls Tryz.prog 21 #[.slice A la.length ca, .slice B lb.length cb] w fun e w' => e = .returned (.bool (decide (la = lb))) ∧ Below w.heap.size w w' := by
  have HA := hide hA; have HB := hide hB
  clear hA hB
  by_cases hne : la.length = lb.length
  rotate_left
  · have HR := hide (show decide (la = lb) = false from by simp; rintro rfl; exact hne rfl)
    have hb1 : ((la.length : Int) != (lb.length : Int)) = true := by simp; omega
    clear hne
    go_enter Tryz.func21, Tryz.ntmps21
    go_wp2
    go_ret
    exact ⟨ret_bool (by rw [HR.out]), Below.refl _ _⟩
  have hb1 : ((la.length : Int) != (lb.length : Int)) = false := by simp; omega
  have HL := hide hne
  clear hne
  go_enter Tryz.func21, Tryz.ntmps21
  go_wp2
  go_loopw [5] (fun i wr => ∃ k : Nat, k ≤ la.length ∧ i = .int .i64 k ∧ Hid (la.take k = lb.take k) ∧ Below w.heap.size w wr) (fun i _ => la.length - (intOf i).toNat)
  case atStart => exact ⟨0, by omega, rfl, hide rfl, Below.refl _ _⟩
  case round =>
    obtain ⟨k, hk, rfl, HE, hbel⟩ := hrel
    by_cases hlt : k < la.length
    · have hlt2 : k < lb.length := by rw [← HL.out]; exact hlt
      rcases HA.out.below hbel with e | ⟨ga, oa, rfl, hga, hca⟩
      · exact absurd hlt (by rw [e]; simp)
      rcases HB.out.below hbel with e | ⟨gb, ob, rfl, hgb, hcb⟩
      · exact absurd hlt2 (by rw [e]; simp)
      have c0 := hca k hlt
      have d0 := hcb k hlt2
      have HT := hide (fun e => takes_eq HE.out hlt hlt2 e)
      have HF := hide (fun (h : la[k] ≠ lb[k]) => show decide (la = lb) = false from by
        simp only [decide_eq_false_iff_not]
        intro e
        exact h (by simp only [e]))
      clear hca hcb
      generalize la[k] = x at *
      generalize lb[k] = y at *
      by_cases hxy : x = y
      · subst hxy
        go_wp2
        go_big_quiet (fail)
        go_wp2
        exact ⟨⟨k + 1, by omega, by go_num, hide (HT.out (by first | rfl | trivial)), by (repeat (first | exact Below.refl _ _ | assumption | refine Below.drew ?_ | refine below_drewN ?_ _ | refine Below.alloc ?_ (by first | omega | simp <;> omega) _ | refine Below.setCell ?_ (by first | omega | simp <;> omega) _))⟩, by simp [intOf]; omega⟩
      · have hxb : (x == y) = false := beq_eq_false_iff_ne.2 hxy
        have HF2 := hide (HF.out hxy)
        go_wp2
        go_big_quiet (fail)
        go_wp2
        go_ret
        exact ⟨ret_bool (by rw [HF2.out]), by (repeat (first | exact Below.refl _ _ | assumption | refine Below.drew ?_ | refine below_drewN ?_ _ | refine Below.alloc ?_ (by first | omega | simp <;> omega) _ | refine Below.setCell ?_ (by first | omega | simp <;> omega) _))⟩
    · obtain rfl : k = la.length := by omega
      have HR := hide (show decide (la = lb) = true from by
        have := HE.out
        rw [List.take_length, HL.out, List.take_length] at this
        simp [this])
      go_wp2
      go_ret
      exact ⟨ret_bool (by rw [HR.out]), hbel⟩
theorem StrsAt_new (w : World) (l : List Bytes) (t : TypeId) : StrsAt (w.alloc (.cells (l.map str).toArray t)) (some ⟨w.heap.size, 0, none⟩) l :=
  .inr ⟨w.heap.size, 0, rfl, by simp, fun i hi => by rw [Nat.zero_add, cell_of_heap (heap_alloc_new w _)]; simp [hi]⟩
set_option maxRecDepth 100000 in
set_option maxHeartbeats 4000000 in
theorem law11_plain_any (w : World) (hW : StrVar w 2 wordsS) (hU : UsedVar w) : Calls Tryz.prog 12 #[] w fun e w' => e = .returned (.bool true) ∧ Below w.heap.size w w' := by
  have HW := hide hW
  have HU := hide hU
  clear hW hU
  obtain ⟨w1, hw1⟩ : ∃ w1, w1 = w.alloc (.cells plCells 27) := ⟨_, rfl⟩
  have hb1 : Below w.heap.size w w1 := by subst hw1; exact (Below.refl _ _).alloc (Nat.le_refl _) _
  obtain ⟨hA, hB⟩ := pl_at (w := w1) (g := w.heap.size) (by subst hw1; exact heap_alloc_new _ _)
  have H1 := hide (fun W (hb : Below w1.heap.size w1 W) => show Calls Tryz.prog 17 #[.slice (some ⟨w.heap.size, 0, none⟩) 3 3] W (fun e w' => e = .returned (.int .i64 0) ∧ Below W.heap.size W w') from by
    have h := query_Validate_any (some ⟨w.heap.size, 0, none⟩) [plA, plB, plC] 3 W (HW.out.below (bel2 hb hb1)) (HU.out.below (bel2 hb hb1)) (hA.below hb) (by decide) (pl_stsok _ (fun s hs => by simpa using hs))
    rw [pl_q] at h
    exact h)
  have H2 := hide (fun W (hb : Below w1.heap.size w1 W) => show Calls Tryz.prog 17 #[.slice (some ⟨w.heap.size, 6, none⟩) 2 2] W (fun e w' => e = .returned (.int .i64 8) ∧ Below W.heap.size W w') from by
    have h := query_Validate_any (some ⟨w.heap.size, 6, none⟩) [plB, plC] 2 W (HW.out.below (bel2 hb hb1)) (HU.out.below (bel2 hb hb1)) (hB.below hb) (by decide) (pl_stsok _ (fun s hs => by simp at hs; rcases hs with rfl | rfl <;> simp))
    rw [pl_r] at h
    exact h)
  have H3 := hide (fun W (hb : Below w1.heap.size w1 W) => show Calls Tryz.prog 15 #[.agg #[.int .i64 3, str [], .slice none 0 0, .slice none 0 0, .slice none 0 0, .slice none 0 0]] W (fun e w' => e = .returned (.int .i64 2) ∧ Below W.heap.size W w') from by
    have h := query_ValidateStep_any ⟨3, [], [], [], [], []⟩ ⟨none, 0, none, 0, none, 0, none, 0⟩ W (HW.out.below (bel2 hb hb1)) (HU.out.below (bel2 hb hb1)) ⟨.inl rfl, .inl rfl, .inl rfl, .inl rfl, Nat.le_refl _, Nat.le_refl _, Nat.le_refl _⟩ (pl_ok 3 [] (by decide))
    rw [pl_s] at h
    exact h)
  have H4 := hide (fun W (hb : Below w1.heap.size w1 W) => show Calls Tryz.prog 19 #[.slice (some ⟨w.heap.size, 0, none⟩) 3 3] W (fun e w' => OwnStrs W w' [[97], [98]] e ∧ Below W.heap.size W w') from by
    have h := query_Reads_any (some ⟨w.heap.size, 0, none⟩) [plA, plB, plC] 3 W (HU.out.below (bel2 hb hb1)) (hA.below hb) (by decide)
    rw [pl_reads] at h
    exact h)
  have hW1 : Below w1.heap.size w1 (w.alloc (.cells #[.int .i64 0, .string ⟨#[97]⟩, .slice none 0 0, .slice none 0 0, .slice none 0 0, .slice none 0 0, .int .i64 8, .string ⟨#[98]⟩, .slice none 0 0, .slice none 0 0, .slice none 0 0, .slice none 0 0, .int .i64 9, .string ⟨#[97]⟩, .slice none 0 0, .slice none 0 0, .slice none 0 0, .slice none 0 0] 27)) := by subst hw1; exact Below.refl _ _
  have h00 := Below.refl w1.heap.size w1
  clear hA hB hw1
  go_enter Tryz.func12, Tryz.ntmps12
  go_upto_region 2 with fail
  generalize w.alloc (.cells #[.int .i64 0, .string ⟨#[97]⟩, .slice none 0 0, .slice none 0 0, .slice none 0 0, .slice none 0 0, .int .i64 8, .string ⟨#[98]⟩, .slice none 0 0, .slice none 0 0, .slice none 0 0, .slice none 0 0, .int .i64 9, .string ⟨#[97]⟩, .slice none 0 0, .slice none 0 0, .slice none 0 0, .slice none 0 0] 27) = w0 at *
  go_wp2_with (first
    | (go_at_call 17; have _h := h00; refine (H1.out _ hW1).mono ?_; rintro e w2 ⟨rfl, hb2⟩; clear h00 _h; have hx2 := bel2 hb2 hW1)
    | (go_at_call 17; refine (H2.out _ hx2).mono ?_; rintro e w3 ⟨rfl, hb3⟩; have hx3 := bel2 hb3 hx2)
    | (go_at_call 15; refine (H3.out _ hx3).mono ?_; rintro e w4 ⟨rfl, hb4⟩; have hx4 := bel2 hb4 hx3)
    | (go_at_call 19; refine (H4.out _ hx4).mono ?_; rintro e w5 ⟨⟨A, c, rfl, hown⟩, hb5⟩; have hx5 := bel2 hb5 hx4; have HO := hide (StrsAt_of_own hown); clear hown)
    | (go_at_call 21; refine (ref5_Strings_any A _ [[97], [98]] [[97], [98]] c 2 _ (HO.out.below ((Below.refl _ _).alloc (Nat.le_refl _) _)) (StrsAt_new w5 [[97], [98]] 9) (by decide) (by decide)).mono ?_; rintro e w6 ⟨rfl, hb6⟩))
  go_ret
  exact ⟨rfl, bel2 (bel2 hb6 (hx5.alloc hx5.size _)) hb1⟩
end Go.Proofs.YtmbeeefkpgfgmaaGreatDoor
