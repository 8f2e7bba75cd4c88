/- Contracts: query.ValidateStep, query.Validate. Contracts: query.ValidateStep, query.Validate. -/
import Derived.Test.YtmbeeefkpgfgmaaGreatDoorPq40
import Derived.Test.YtmbeeefkpgfgmaaGreatDoorPq07
set_option linter.unusedVariables false
set_option linter.unusedSimpArgs false
namespace Go.Proofs.YtmbeeefkpgfgmaaGreatDoor
open Go.RowKit
set_option maxRecDepth 100000 in
set_option maxHeartbeats 4000000 in
theorem val_4 (s : Stp) (hop : s.op = 4) : ValAt s := by
  intro a w hW hU hA ho hu
  have HX := hide (show opS s = joinS s from by unfold opS; simp [hop])
  have HSh := hide (show ∀ W, Below w.heap.size w W → Calls Tryz.prog 36 #[.agg #[.int .i64 4, str s.src, .slice a.nA s.names.length a.nC, .slice a.oA s.others.length a.oC, .slice a.iA s.items.length a.iC, .slice a.cA s.cond.length a.cC]] W (fun e w' => e = .returned (.bool true) ∧ Below W.heap.size W w') from fun W hb => by
    have h := query_shaped_any s.op s.src a.nA s.names.length a.nC a.oA s.others.length a.oC a.iA s.items.length a.iC a.cA s.cond.length a.cC W (hU.below hb)
    rw [hu, hop] at h
    exact h)
  have HBx := hide (fun w1 (h : Below (w.heap.size + 1) (w.alloc (.cells #[.int .i64 4, str s.src, .slice a.nA s.names.length a.nC, .slice a.oA s.others.length a.oC, .slice a.iA s.items.length a.iC, .slice a.cA s.cond.length a.cC] 27)) w1) => show BoxAt w1 w.heap.size s a from box_at (t := 27) (by unfold Stp.cells; rw [hop]; exact h))
  have HW := hide hW
  have HA := hide hA
  have HO := hide ho
  have HOp := hide hop
  have hbox : Below (w.heap.size + 1) (w.alloc (.cells #[.int .i64 4, str s.src, .slice a.nA s.names.length a.nC, .slice a.oA s.others.length a.oC, .slice a.iA s.items.length a.iC, .slice a.cA s.cond.length a.cC] 27)) (w.alloc (.cells #[.int .i64 4, str s.src, .slice a.nA s.names.length a.nC, .slice a.oA s.others.length a.oC, .slice a.iA s.items.length a.iC, .slice a.cA s.cond.length a.cC] 27)) := Below.refl _ _
  show Calls Tryz.prog 15 #[.agg #[.int .i64 s.op, str s.src, .slice a.nA s.names.length a.nC, .slice a.oA s.others.length a.oC, .slice a.iA s.items.length a.iC, .slice a.cA s.cond.length a.cC]] w _
  rw [hop]
  clear hW hU hA ho hu hop
  have HJ := hide (HX.out.trans (join_pair s))
  have H2 := hide (fun (w1 V : World) (hbx : BoxAt w1 w.heap.size s a) (hw1 : Below w.heap.size w w1) (hV : Below w1.heap.size w1 V) (h3 : w1.heap.size < V.heap.size) (hf : V.cell? ⟨w1.heap.size, 0, none⟩ = some (.func (.func 37) #[] #[atB0 w.heap.size])) =>
    vs2_thunk w1.heap.size w.heap.size s a V (HW.out.below (bel2 hV hw1)) (hbx.below hV) h3 hf (HA.out.below (bel2 hV hw1)) HO.out)
  have H4 := hide (fun (w1 V : World) (hbx : BoxAt w1 w.heap.size s a) (hw1 : Below w.heap.size w w1) (hV : Below w1.heap.size w1 V) => vs_4_thunk w.heap.size s a V (HW.out.below (bel2 hV hw1)) (hbx.below hV) (HA.out.below (bel2 hV hw1)) HO.out (by rw [HOp.out]; omega))
  clear HX
  generalize pairE s = v1 at *
  generalize itemsS s.items 0 false true false false (fun x => nameE x.col) = v2 at *
  generalize opS s = r at *
  go_enter Tryz.func15, Tryz.ntmps15
  go_wp2_with (go_at_call 36; refine (HSh.out _ (box_below hbox)).mono ?_; rintro e w1 ⟨rfl, hb1⟩; have hcur := below_go hbox (by simp) hb1; clear hbox; have hbx := HBx.out _ hcur; obtain ⟨hlw, c0, c1, c2, c3, c4, c5⟩ := HBx.out _ hcur; rw [HOp.out] at c0; have hw1 := box_below hcur; have hwb : Below w1.heap.size w1 (w1.alloc (.cells #[.func (.func 37) #[] #[atB0 w.heap.size]] 73)) := zX; have hff : (w1.alloc (.cells #[.func (.func 37) #[] #[atB0 w.heap.size]] 73)).cell? ⟨w1.heap.size, 0, none⟩ = some (.func (.func 37) #[] #[atB0 w.heap.size]) := (by simp [go_sem]); have hfl : w1.heap.size < (w1.alloc (.cells #[.func (.func 37) #[] #[atB0 w.heap.size]] 73)).heap.size := (by simp))
  have hV : Below w1.heap.size w1 ((w1.alloc (.cells #[.func (.func 37) #[] #[atB0 w.heap.size]] 73)).alloc (.cells #[.func (.func 39) #[] #[atB0 w1.heap.size, atB0 w.heap.size], .func (.func 48) #[] #[atB0 w.heap.size]] 73)) := zX
  have T2 := H2.out w1 _ hbx hw1 hV (by simp; omega) (by simp [go_sem])
  have T4 := H4.out w1 _ hbx hw1 hV
  refine (first_thunks (w1.heap.size + 1) 2 [⟨39, #[atB0 w1.heap.size, atB0 w.heap.size], v1⟩, ⟨48, #[atB0 w.heap.size], v2⟩] _ (by simp) (show (2 : Nat) ≤ 10 from by decide) (fun j h => ?_) (fun j h => ?_)).mono ?_
  · have h9 : j < 2 := h
    match j, h9 with
    | 0, _ => simp [go_sem]
    | 1, _ => simp [go_sem]
  · have h9 : j < 2 := h
    match j, h9 with
    | 0, _ => exact T2
    | 1, _ => exact T4
  rintro e w2 ⟨rfl, hb2⟩
  go_wp2
  go_ret
  exact ⟨ret_int (by rw [HJ.out, ← two]; rfl), bel2 hb2 (bel2 hV hw1)⟩
set_option maxRecDepth 100000 in
set_option maxHeartbeats 4000000 in
theorem val_5 (s : Stp) (hop : s.op = 5) : ValAt s := by
  intro a w hW hU hA ho hu
  have HX := hide (show opS s = joinS s from by unfold opS; simp [hop])
  have HSh := hide (show ∀ W, Below w.heap.size w W → Calls Tryz.prog 36 #[.agg #[.int .i64 5, str s.src, .slice a.nA s.names.length a.nC, .slice a.oA s.others.length a.oC, .slice a.iA s.items.length a.iC, .slice a.cA s.cond.length a.cC]] W (fun e w' => e = .returned (.bool true) ∧ Below W.heap.size W w') from fun W hb => by
    have h := query_shaped_any s.op s.src a.nA s.names.length a.nC a.oA s.others.length a.oC a.iA s.items.length a.iC a.cA s.cond.length a.cC W (hU.below hb)
    rw [hu, hop] at h
    exact h)
  have HBx := hide (fun w1 (h : Below (w.heap.size + 1) (w.alloc (.cells #[.int .i64 5, str s.src, .slice a.nA s.names.length a.nC, .slice a.oA s.others.length a.oC, .slice a.iA s.items.length a.iC, .slice a.cA s.cond.length a.cC] 27)) w1) => show BoxAt w1 w.heap.size s a from box_at (t := 27) (by unfold Stp.cells; rw [hop]; exact h))
  have HW := hide hW
  have HA := hide hA
  have HO := hide ho
  have HOp := hide hop
  have hbox : Below (w.heap.size + 1) (w.alloc (.cells #[.int .i64 5, str s.src, .slice a.nA s.names.length a.nC, .slice a.oA s.others.length a.oC, .slice a.iA s.items.length a.iC, .slice a.cA s.cond.length a.cC] 27)) (w.alloc (.cells #[.int .i64 5, str s.src, .slice a.nA s.names.length a.nC, .slice a.oA s.others.length a.oC, .slice a.iA s.items.length a.iC, .slice a.cA s.cond.length a.cC] 27)) := Below.refl _ _
  show Calls Tryz.prog 15 #[.agg #[.int .i64 s.op, str s.src, .slice a.nA s.names.length a.nC, .slice a.oA s.others.length a.oC, .slice a.iA s.items.length a.iC, .slice a.cA s.cond.length a.cC]] w _
  rw [hop]
  clear hW hU hA ho hu hop
  have HJ := hide (HX.out.trans (join_pair s))
  have H2 := hide (fun (w1 V : World) (hbx : BoxAt w1 w.heap.size s a) (hw1 : Below w.heap.size w w1) (hV : Below w1.heap.size w1 V) (h3 : w1.heap.size < V.heap.size) (hf : V.cell? ⟨w1.heap.size, 0, none⟩ = some (.func (.func 37) #[] #[atB0 w.heap.size])) =>
    vs2_thunk w1.heap.size w.heap.size s a V (HW.out.below (bel2 hV hw1)) (hbx.below hV) h3 hf (HA.out.below (bel2 hV hw1)) HO.out)
  have H4 := hide (fun (w1 V : World) (hbx : BoxAt w1 w.heap.size s a) (hw1 : Below w.heap.size w w1) (hV : Below w1.heap.size w1 V) => vs_4_thunk w.heap.size s a V (HW.out.below (bel2 hV hw1)) (hbx.below hV) (HA.out.below (bel2 hV hw1)) HO.out (by rw [HOp.out]; omega))
  clear HX
  generalize pairE s = v1 at *
  generalize itemsS s.items 0 false true false false (fun x => nameE x.col) = v2 at *
  generalize opS s = r at *
  go_enter Tryz.func15, Tryz.ntmps15
  go_wp2_with (go_at_call 36; refine (HSh.out _ (box_below hbox)).mono ?_; rintro e w1 ⟨rfl, hb1⟩; have hcur := below_go hbox (by simp) hb1; clear hbox; have hbx := HBx.out _ hcur; obtain ⟨hlw, c0, c1, c2, c3, c4, c5⟩ := HBx.out _ hcur; rw [HOp.out] at c0; have hw1 := box_below hcur; have hwb : Below w1.heap.size w1 (w1.alloc (.cells #[.func (.func 37) #[] #[atB0 w.heap.size]] 73)) := zX; have hff : (w1.alloc (.cells #[.func (.func 37) #[] #[atB0 w.heap.size]] 73)).cell? ⟨w1.heap.size, 0, none⟩ = some (.func (.func 37) #[] #[atB0 w.heap.size]) := (by simp [go_sem]); have hfl : w1.heap.size < (w1.alloc (.cells #[.func (.func 37) #[] #[atB0 w.heap.size]] 73)).heap.size := (by simp))
  have hV : Below w1.heap.size w1 ((w1.alloc (.cells #[.func (.func 37) #[] #[atB0 w.heap.size]] 73)).alloc (.cells #[.func (.func 39) #[] #[atB0 w1.heap.size, atB0 w.heap.size], .func (.func 48) #[] #[atB0 w.heap.size]] 73)) := zX
  have T2 := H2.out w1 _ hbx hw1 hV (by simp; omega) (by simp [go_sem])
  have T4 := H4.out w1 _ hbx hw1 hV
  refine (first_thunks (w1.heap.size + 1) 2 [⟨39, #[atB0 w1.heap.size, atB0 w.heap.size], v1⟩, ⟨48, #[atB0 w.heap.size], v2⟩] _ (by simp) (show (2 : Nat) ≤ 10 from by decide) (fun j h => ?_) (fun j h => ?_)).mono ?_
  · have h9 : j < 2 := h
    match j, h9 with
    | 0, _ => simp [go_sem]
    | 1, _ => simp [go_sem]
  · have h9 : j < 2 := h
    match j, h9 with
    | 0, _ => exact T2
    | 1, _ => exact T4
  rintro e w2 ⟨rfl, hb2⟩
  go_wp2
  go_ret
  exact ⟨ret_int (by rw [HJ.out, ← two]; rfl), bel2 hb2 (bel2 hV hw1)⟩
end Go.Proofs.YtmbeeefkpgfgmaaGreatDoor
namespace Go.Proofs.YtmbeeefkpgfgmaaGreatDoor
open Go.RowKit
set_option maxRecDepth 100000 in
set_option maxHeartbeats 4000000 in
theorem val_11 (s : Stp) (hop : s.op = 11) : ValAt s := by
  intro a w hW hU hA ho hu
  have HX := hide (show opS s = groupS s from by unfold opS; simp [hop])
  have HSh := hide (show ∀ W, Below w.heap.size w W → Calls Tryz.prog 36 #[.agg #[.int .i64 11, str s.src, .slice a.nA s.names.length a.nC, .slice a.oA s.others.length a.oC, .slice a.iA s.items.length a.iC, .slice a.cA s.cond.length a.cC]] W (fun e w' => e = .returned (.bool true) ∧ Below W.heap.size W w') from fun W hb => by
    have h := query_shaped_any s.op s.src a.nA s.names.length a.nC a.oA s.others.length a.oC a.iA s.items.length a.iC a.cA s.cond.length a.cC W (hU.below hb)
    rw [hu, hop] at h
    exact h)
  have HBx := hide (fun w1 (h : Below (w.heap.size + 1) (w.alloc (.cells #[.int .i64 11, str s.src, .slice a.nA s.names.length a.nC, .slice a.oA s.others.length a.oC, .slice a.iA s.items.length a.iC, .slice a.cA s.cond.length a.cC] 27)) w1) => show BoxAt w1 w.heap.size s a from box_at (t := 27) (by unfold Stp.cells; rw [hop]; exact h))
  have HW := hide hW
  have HA := hide hA
  have HO := hide ho
  have HOp := hide hop
  have hbox : Below (w.heap.size + 1) (w.alloc (.cells #[.int .i64 11, str s.src, .slice a.nA s.names.length a.nC, .slice a.oA s.others.length a.oC, .slice a.iA s.items.length a.iC, .slice a.cA s.cond.length a.cC] 27)) (w.alloc (.cells #[.int .i64 11, str s.src, .slice a.nA s.names.length a.nC, .slice a.oA s.others.length a.oC, .slice a.iA s.items.length a.iC, .slice a.cA s.cond.length a.cC] 27)) := Below.refl _ _
  show Calls Tryz.prog 15 #[.agg #[.int .i64 s.op, str s.src, .slice a.nA s.names.length a.nC, .slice a.oA s.others.length a.oC, .slice a.iA s.items.length a.iC, .slice a.cA s.cond.length a.cC]] w _
  rw [hop]
  clear hW hU hA ho hu hop
  have HJ := hide (HX.out.trans (group_then s))
  have H5 := hide (fun (w1 V : World) (hbx : BoxAt w1 w.heap.size s a) (hw1 : Below w.heap.size w w1) (hV : Below w1.heap.size w1 V) => vs_5_thunk w.heap.size s a V (HW.out.below (bel2 hV hw1)) (hbx.below hV) (HA.out.below (bel2 hV hw1)) HO.out)
  have H6 := hide (fun (w1 V : World) (hbx : BoxAt w1 w.heap.size s a) (hw1 : Below w.heap.size w w1) (hV : Below w1.heap.size w1 V) => vs_6_thunk w.heap.size s a V (HW.out.below (bel2 hV hw1)) (hbx.below hV) (HA.out.below (bel2 hV hw1)) HO.out HOp.out)
  have hl1 := HO.out.names
  have hl2 := HO.out.items
  clear HX
  generalize listS s.names 0 = v1 at *
  generalize itemsS s.items 0 true true false false (groupE s.names) = v2 at *
  generalize opS s = r at *
  obtain ⟨u, hu⟩ : ∃ u : Int, u = if s.names.length + s.items.length = 0 then 2 else 0 := ⟨_, rfl⟩
  rw [← hu] at HJ
  have HU9 := hide hu
  clear hu
  go_enter Tryz.func15, Tryz.ntmps15
  go_wp2_with (go_at_call 36; refine (HSh.out _ (box_below hbox)).mono ?_; rintro e w1 ⟨rfl, hb1⟩; have hcur := below_go hbox (by simp) hb1; clear hbox; have hbx := HBx.out _ hcur; obtain ⟨hlw, c0, c1, c2, c3, c4, c5⟩ := HBx.out _ hcur; rw [HOp.out] at c0; have hw1 := box_below hcur; have hwb : Below w1.heap.size w1 (w1.alloc (.cells #[.func (.func 37) #[] #[atB0 w.heap.size]] 73)) := zX; have hff : (w1.alloc (.cells #[.func (.func 37) #[] #[atB0 w.heap.size]] 73)).cell? ⟨w1.heap.size, 0, none⟩ = some (.func (.func 37) #[] #[atB0 w.heap.size]) := (by simp [go_sem]); have hfl : w1.heap.size < (w1.alloc (.cells #[.func (.func 37) #[] #[atB0 w.heap.size]] 73)).heap.size := (by simp))
  refine (when_thunk _ _ _).mono ?_
  rintro e w2 ⟨⟨lb, v9, rfl, hv9, ht⟩, hb2⟩
  have HT := hide ht
  have HVh := hide hv9
  clear ht hv9
  go_wp2_with fail
  have hV2 : Below w1.heap.size w1 w2 := bel2 hb2 hwb
  have hV : Below w1.heap.size w1 (w2.alloc (.cells #[.func (.func 51) #[] #[atB0 w.heap.size], .func (.func 90) #[] lb, .func (.func 52) #[] #[atB0 w.heap.size]] 73)) := hV2.alloc hV2.size _
  have T5 := H5.out w1 _ hbx hw1 hV
  have T6 := H6.out w1 _ hbx hw1 hV
  have TW := HT.out.below ((Below.refl w2.heap.size w2).alloc (Nat.le_refl _) (.cells #[.func (.func 51) #[] #[atB0 w.heap.size], .func (.func 90) #[] lb, .func (.func 52) #[] #[atB0 w.heap.size]] 73))
  refine (first_thunks w2.heap.size 3 [⟨51, #[atB0 w.heap.size], v1⟩, ⟨90, lb, v9⟩, ⟨52, #[atB0 w.heap.size], v2⟩] _ (by simp) (show (3 : Nat) ≤ 10 from by decide) (fun j h => ?_) (fun j h => ?_)).mono ?_
  rotate_left
  · have h9 : j < 3 := h
    match j, h9 with
    | 0, _ => exact T5
    | 1, _ => exact TW
    | 2, _ => exact T6
  rotate_left
  · have h9 : j < 3 := h
    match j, h9 with
    | 0, _ => simp [go_sem]
    | 1, _ => simp [go_sem]
    | 2, _ => simp [go_sem]
  rintro e w3 ⟨rfl, hb3⟩
  go_wp2
  go_ret
  have HV9 : v9 = u := by
    rw [HVh.out, HU9.out]
    by_cases h9 : s.names.length + s.items.length = 0
    · have h7 : s.names.length = 0 := by omega
      have h8 : s.items.length = 0 := by omega
      simp [h7, h8]
    · have h7 : ¬ ((s.names.length : Int) + (s.items.length : Int) = 0) := by omega
      rw [if_neg h9]
      simp only [beq_iff_eq, decide_eq_true_eq, h7, if_false]
  exact ⟨ret_int (by rw [HJ.out, ← HV9, ← three]; rfl), bel2 hb3 (bel2 hV hw1)⟩
set_option maxRecDepth 100000 in
set_option maxHeartbeats 4000000 in
theorem val_12 (s : Stp) (hop : s.op = 12) : ValAt s := by
  intro a w hW hU hA ho hu
  have HX := hide (show opS s = windowS s from by unfold opS; simp [hop])
  have HSh := hide (show ∀ W, Below w.heap.size w W → Calls Tryz.prog 36 #[.agg #[.int .i64 12, str s.src, .slice a.nA s.names.length a.nC, .slice a.oA s.others.length a.oC, .slice a.iA s.items.length a.iC, .slice a.cA s.cond.length a.cC]] W (fun e w' => e = .returned (.bool true) ∧ Below W.heap.size W w') from fun W hb => by
    have h := query_shaped_any s.op s.src a.nA s.names.length a.nC a.oA s.others.length a.oC a.iA s.items.length a.iC a.cA s.cond.length a.cC W (hU.below hb)
    rw [hu, hop] at h
    exact h)
  have HBx := hide (fun w1 (h : Below (w.heap.size + 1) (w.alloc (.cells #[.int .i64 12, str s.src, .slice a.nA s.names.length a.nC, .slice a.oA s.others.length a.oC, .slice a.iA s.items.length a.iC, .slice a.cA s.cond.length a.cC] 27)) w1) => show BoxAt w1 w.heap.size s a from box_at (t := 27) (by unfold Stp.cells; rw [hop]; exact h))
  have HW := hide hW
  have HA := hide hA
  have HO := hide ho
  have HOp := hide hop
  have hbox : Below (w.heap.size + 1) (w.alloc (.cells #[.int .i64 12, str s.src, .slice a.nA s.names.length a.nC, .slice a.oA s.others.length a.oC, .slice a.iA s.items.length a.iC, .slice a.cA s.cond.length a.cC] 27)) (w.alloc (.cells #[.int .i64 12, str s.src, .slice a.nA s.names.length a.nC, .slice a.oA s.others.length a.oC, .slice a.iA s.items.length a.iC, .slice a.cA s.cond.length a.cC] 27)) := Below.refl _ _
  show Calls Tryz.prog 15 #[.agg #[.int .i64 s.op, str s.src, .slice a.nA s.names.length a.nC, .slice a.oA s.others.length a.oC, .slice a.iA s.items.length a.iC, .slice a.cA s.cond.length a.cC]] w _
  rw [hop]
  clear hW hU hA ho hu hop
  have HJ := hide (HX.out.trans (show windowS s = thenE (listS s.names 0) (thenE (listS s.others 0) (itemsS s.items 1 true true true false windowE)) from rfl))
  have H7 := hide (fun (w1 V : World) (hbx : BoxAt w1 w.heap.size s a) (hw1 : Below w.heap.size w w1) (hV : Below w1.heap.size w1 V) => vs_7_thunk w.heap.size s a V (HW.out.below (bel2 hV hw1)) (hbx.below hV) (HA.out.below (bel2 hV hw1)) HO.out)
  have H8 := hide (fun (w1 V : World) (hbx : BoxAt w1 w.heap.size s a) (hw1 : Below w.heap.size w w1) (hV : Below w1.heap.size w1 V) => vs_8_thunk w.heap.size s a V (HW.out.below (bel2 hV hw1)) (hbx.below hV) (HA.out.below (bel2 hV hw1)) HO.out)
  have H9 := hide (fun (w1 V : World) (hbx : BoxAt w1 w.heap.size s a) (hw1 : Below w.heap.size w w1) (hV : Below w1.heap.size w1 V) => vs_9_thunk w.heap.size s a V (HW.out.below (bel2 hV hw1)) (hbx.below hV) (HA.out.below (bel2 hV hw1)) HO.out HOp.out)
  clear HX
  generalize listS s.names 0 = v1 at *
  generalize listS s.others 0 = v2 at *
  generalize itemsS s.items 1 true true true false windowE = v3 at *
  generalize opS s = r at *
  go_enter Tryz.func15, Tryz.ntmps15
  go_wp2_with (go_at_call 36; refine (HSh.out _ (box_below hbox)).mono ?_; rintro e w1 ⟨rfl, hb1⟩; have hcur := below_go hbox (by simp) hb1; clear hbox; have hbx := HBx.out _ hcur; obtain ⟨hlw, c0, c1, c2, c3, c4, c5⟩ := HBx.out _ hcur; rw [HOp.out] at c0; have hw1 := box_below hcur; have hwb : Below w1.heap.size w1 (w1.alloc (.cells #[.func (.func 37) #[] #[atB0 w.heap.size]] 73)) := zX; have hff : (w1.alloc (.cells #[.func (.func 37) #[] #[atB0 w.heap.size]] 73)).cell? ⟨w1.heap.size, 0, none⟩ = some (.func (.func 37) #[] #[atB0 w.heap.size]) := (by simp [go_sem]); have hfl : w1.heap.size < (w1.alloc (.cells #[.func (.func 37) #[] #[atB0 w.heap.size]] 73)).heap.size := (by simp))
  have hV : Below w1.heap.size w1 ((w1.alloc (.cells #[.func (.func 37) #[] #[atB0 w.heap.size]] 73)).alloc (.cells #[.func (.func 55) #[] #[atB0 w.heap.size], .func (.func 56) #[] #[atB0 w.heap.size], .func (.func 57) #[] #[atB0 w.heap.size]] 73)) := zX
  have T7 := H7.out w1 _ hbx hw1 hV
  have T8 := H8.out w1 _ hbx hw1 hV
  have T9 := H9.out w1 _ hbx hw1 hV
  refine (first_thunks (w1.heap.size + 1) 3 [⟨55, #[atB0 w.heap.size], v1⟩, ⟨56, #[atB0 w.heap.size], v2⟩, ⟨57, #[atB0 w.heap.size], v3⟩] _ (by simp) (show (3 : Nat) ≤ 10 from by decide) (fun j h => ?_) (fun j h => ?_)).mono ?_
  · have h9 : j < 3 := h
    match j, h9 with
    | 0, _ => simp [go_sem]
    | 1, _ => simp [go_sem]
    | 2, _ => simp [go_sem]
  · have h9 : j < 3 := h
    match j, h9 with
    | 0, _ => exact T7
    | 1, _ => exact T8
    | 2, _ => exact T9
  rintro e w2 ⟨rfl, hb2⟩
  go_wp2
  go_ret
  exact ⟨ret_int (by rw [HJ.out, ← three]; rfl), bel2 hb2 (bel2 hV hw1)⟩
end Go.Proofs.YtmbeeefkpgfgmaaGreatDoor
