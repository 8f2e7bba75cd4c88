/- Contracts: query.ValidateStep, query.Validate. -/
import Derived.Test.YtmbeeefkpgfgmaaGreatDoorPq41
import Derived.Test.YtmbeeefkpgfgmaaGreatDoorPq42
import Derived.Test.YtmbeeefkpgfgmaaGreatDoorPq43
import Derived.Test.YtmbeeefkpgfgmaaGreatDoorPq20
import Derived.Test.YtmbeeefkpgfgmaaGreatDoorPq07
set_option linter.unusedVariables false
set_option linter.unusedSimpArgs false
namespace Go.Proofs.YtmbeeefkpgfgmaaGreatDoor
open Go.RowKit
set_option maxRecDepth 100000 in
set_option maxHeartbeats 4000000 in
theorem query_ValidateStep_any (s : Stp) (a : Adr) (w : World) (hW : StrVar w 2 wordsS) (hU : UsedVar w) (hA : s.At w a) (ho : s.ok) :
    Calls Tryz.prog 15 #[s.agg a] w fun e w' => e = .returned (.int .i64 (stepS s)) ∧ Below w.heap.size w w' := by
  by_cases hs : s.op < 0 ∨ 12 < s.op ∨ unusedB s.op s.src s.names.length s.others.length s.items.length s.cond.length = true
  · have HX := hide (show stepS s = 8 from by unfold stepS; rw [if_pos hs])
    have HSh := hide (show ∀ W, Below w.heap.size w W → Calls Tryz.prog 36 #[.agg #[.int .i64 s.op, str s.src, .slice a.nA s.names.length a.nC, .slice a.oA s.others.length a.oC, .slice a.iA s.items.length a.iC, .slice a.cA s.cond.length a.cC]] W (fun e w' => e = .returned (.bool false) ∧ Below W.heap.size W w') from fun W hb => by
      have h := query_shaped_any s.op s.src a.nA s.names.length a.nC a.oA s.others.length a.oC a.iA s.items.length a.iC a.cA s.cond.length a.cC W (hU.below hb)
      have e : (decide (0 ≤ s.op ∧ s.op ≤ 12) && !unusedB s.op s.src s.names.length s.others.length s.items.length s.cond.length) = false := by
        rcases hs with h | h | h
        · simp; omega
        · simp; omega
        · simp [h]
      rw [e] at h
      exact h)
    show Calls Tryz.prog 15 #[.agg #[.int .i64 s.op, str s.src, .slice a.nA s.names.length a.nC, .slice a.oA s.others.length a.oC, .slice a.iA s.items.length a.iC, .slice a.cA s.cond.length a.cC]] w _
    generalize stepS s = r at *
    clear hU hA ho hs hW
    go_enter Tryz.func15, Tryz.ntmps15
    go_wp2_with (go_at_call 36; refine (HSh.out _ zX).mono ?_; rintro e w1 ⟨rfl, hb1⟩)
    go_ret
    exact ⟨ret_int HX.out.symm, bel2 hb1 zX⟩
  · have e : stepS s = opS s := by unfold stepS; rw [if_neg hs]
    have hu : unusedB s.op s.src s.names.length s.others.length s.items.length s.cond.length = false := by
      cases h : unusedB s.op s.src s.names.length s.others.length s.items.length s.cond.length
      · rfl
      · exact absurd (.inr (.inr h)) hs
    have hv : ValAt s := by
      have hop : s.op = 0 ∨ s.op = 1 ∨ s.op = 2 ∨ s.op = 3 ∨ s.op = 4 ∨ s.op = 5 ∨ s.op = 6 ∨ s.op = 7 ∨ s.op = 8 ∨ s.op = 9 ∨ s.op = 10 ∨ s.op = 11 ∨ s.op = 12 := by omega
      rcases hop with h | h | h | h | h | h | h | h | h | h | h | h | h
      · exact val_0 s h
      · exact val_1 s h
      · exact val_2 s h
      · exact val_3 s h
      · exact val_4 s h
      · exact val_5 s h
      · exact val_6 s h
      · exact val_7 s h
      · exact val_8 s h
      · exact val_9 s h
      · exact val_10 s h
      · exact val_11 s h
      · exact val_12 s h
    rw [e]
    exact hv a w hW hU hA ho hu
set_option maxRecDepth 100000 in
set_option maxHeartbeats 2000000 in
theorem query_Validate_any (A : Option Addr) (ss : List Stp) (c : Nat) (w : World) (hW : StrVar w 2 wordsS) (hU : UsedVar w) (h : StpsAt w A ss) (hl : ss.length ≤ 1000000) (hk : StsOk ss) :
    Calls Tryz.prog 17 #[.slice A ss.length c] w fun e w' => e = .returned (.int .i64 (queryS ss)) ∧ Below w.heap.size w w' := by
  have HA := hide h
  have HK := hide hk
  have HW := hide hW
  have HU := hide hU
  clear h hk hW hU
  by_cases h1 : ss.length < 1
  · have HE := hide (show queryS ss = 2 from by unfold queryS; rw [if_pos (.inl h1)])
    go_enter Tryz.func17, Tryz.ntmps17
    go_wp2
    all_goals first | (exfalso; omega) | skip
    go_ret
    exact ⟨ret_int HE.out.symm, Below.refl _ _⟩
  by_cases h2 : 16 < ss.length
  · have HE := hide (show queryS ss = 2 from by unfold queryS; rw [if_pos (.inr h2)])
    go_enter Tryz.func17, Tryz.ntmps17
    go_wp2
    all_goals first | (exfalso; omega) | skip
    go_ret
    exact ⟨ret_int HE.out.symm, Below.refl _ _⟩
  have HE := hide (queryS_in (ss := ss) (by omega))
  generalize queryS ss = r at *
  go_enter Tryz.func17, Tryz.ntmps17
  go_wp2
  all_goals first | (exfalso; omega) | skip
  go_loopw [16] (fun i wr => ∃ k : Nat, k ≤ ss.length ∧ i = .int .i64 k ∧ Hid (∀ j, j < k → queryF ss j = 0) ∧ Below w.heap.size w wr) (fun i _ => ss.length - (intOf i).toNat)
  case atStart => exact ⟨0, by omega, rfl, fun j hj => absurd hj (Nat.not_lt_zero _), Below.refl _ _⟩
  case round =>
    obtain ⟨k, hk, rfl, HZ, hbel⟩ := hrel
    by_cases hlt : k < ss.length
    · rcases HA.out.below hbel with e | ⟨g, off, rfl, hg, hc⟩
      · exact absurd hlt (by rw [e]; simp)
      obtain ⟨a, ha, c0, c1, c2, c3, c4, c5⟩ := hc k hlt
      have HV := hide (fun W (hb : Below wr.heap.size wr W) => query_ValidateStep_any ss[k] a W ((HW.out.below hbel).below hb) ((HU.out.below hbel).below hb) (ha.below hb) (HK.out _ (List.getElem_mem hlt)))
      have HT := hide (queryF_at hlt)
      have HF := hide (fun x (e : queryF ss k = x) (hx : x ≠ 0) => (HE.out.trans (firstE_hit HZ.out (by rw [e]; exact hx) hlt)).trans e)
      have HN := hide (fun (e : queryF ss k = 0) => step_lt HZ.out e)
      clear hc ha
      generalize stepS ss[k] = v at *
      obtain ⟨x, hx⟩ : ∃ x, x = ss[k] := ⟨_, rfl⟩
      rw [← hx] at c0 c1 c2 c3 c4 c5 HV HT
      clear hx
      by_cases hv : v = 0
      rotate_left
      · have hvb : (v != 0) = true := by simpa using hv
        have HR := hide (HF.out v (by rw [HT.out, if_neg hv]) hv)
        clear HT HF HN hv
        go_wp2_with (go_at_call 15; refine (HV.out _ zX).mono ?_; rintro e w1 ⟨rfl, hb1⟩)
        go_ret
        exact ⟨ret_int HR.out.symm, bel2 (bel2 hb1 zX) hbel⟩
      subst hv
      have HT2 := hide (HT.out.trans (if_pos rfl))
      by_cases ho : x.op = 0
      · have hp : (x.op == 0) = true := by simpa using ho
        by_cases hk0 : k = 0
        · have hq : ((k : Int) == 0) = true := by simpa using hk0
          have HR := hide (HN.out (HT2.out.trans (if_pos (by simp [ho, hk0]))))
          clear HT HF HN HT2 ho hk0
          go_wp2_with (go_at_call 15; refine (HV.out _ zX).mono ?_; rintro e w1 ⟨rfl, hb1⟩; obtain ⟨d0, _⟩ := box6 (below_go (Below.refl (wr.heap.size + 1) (wr.alloc _)) (by simp) hb1))
          exact ⟨⟨k + 1, by omega, by go_num, HR, bel2 (bel2 hb1 zX) hbel⟩, by simp [intOf]; omega⟩
        · have hq : ((k : Int) == 0) = false := beq_eq_false_iff_ne.2 (by omega)
          have HR := hide (HF.out 8 (HT2.out.trans (if_neg (by simp [ho, hk0]))) (by decide))
          clear HT HF HN HT2 ho hk0
          go_wp2_with (go_at_call 15; refine (HV.out _ zX).mono ?_; rintro e w1 ⟨rfl, hb1⟩; obtain ⟨d0, _⟩ := box6 (below_go (Below.refl (wr.heap.size + 1) (wr.alloc _)) (by simp) hb1))
          go_ret
          exact ⟨ret_int HR.out.symm, bel2 (bel2 hb1 zX) hbel⟩
      · have hp : (x.op == 0) = false := beq_eq_false_iff_ne.2 ho
        by_cases hk0 : k = 0
        · have hq : ((k : Int) == 0) = true := by simpa using hk0
          have HR := hide (HF.out 8 (HT2.out.trans (if_neg (by simp [ho, hk0]))) (by decide))
          clear HT HF HN HT2 ho hk0
          go_wp2_with (go_at_call 15; refine (HV.out _ zX).mono ?_; rintro e w1 ⟨rfl, hb1⟩; obtain ⟨d0, _⟩ := box6 (below_go (Below.refl (wr.heap.size + 1) (wr.alloc _)) (by simp) hb1))
          go_ret
          exact ⟨ret_int HR.out.symm, bel2 (bel2 hb1 zX) hbel⟩
        · have hq : ((k : Int) == 0) = false := beq_eq_false_iff_ne.2 (by omega)
          have HR := hide (HN.out (HT2.out.trans (if_pos (by simp [ho, hk0]))))
          clear HT HF HN HT2 ho hk0
          go_wp2_with (go_at_call 15; refine (HV.out _ zX).mono ?_; rintro e w1 ⟨rfl, hb1⟩; obtain ⟨d0, _⟩ := box6 (below_go (Below.refl (wr.heap.size + 1) (wr.alloc _)) (by simp) hb1))
          exact ⟨⟨k + 1, by omega, by go_num, HR, bel2 (bel2 hb1 zX) hbel⟩, by simp [intOf]; omega⟩
    · obtain rfl : k = ss.length := by omega
      have HR := hide (HE.out.trans (firstE_none HZ.out))
      go_wp2
      go_ret
      exact ⟨ret_int HR.out.symm, hbel⟩
end Go.Proofs.YtmbeeefkpgfgmaaGreatDoor
