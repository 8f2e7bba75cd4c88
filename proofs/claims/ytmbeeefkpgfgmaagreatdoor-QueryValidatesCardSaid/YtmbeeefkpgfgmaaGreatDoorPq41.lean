/- Contracts: query.ValidateStep, query.Validate. -/
import Derived.Test.YtmbeeefkpgfgmaaGreatDoorPq40
import Derived.Test.YtmbeeefkpgfgmaaGreatDoorPq07
set_option linter.unusedVariables false
set_option linter.unusedSimpArgs false
namespace Go.Proofs.YtmbeeefkpgfgmaaGreatDoor
open Go.RowKit
set_option maxRecDepth 100000 in
set_option maxHeartbeats 4000000 in
theorem val_0 (s : Stp) (hop : s.op = 0) : ValAt s := by
  intro a w hW hU hA ho hu
  have HX := hide (show opS s = fromE s.src from by unfold opS; simp [hop])
  have HSh := hide (show ∀ W, Below w.heap.size w W → Calls Tryz.prog 36 #[.agg #[.int .i64 0, str s.src, .slice a.nA s.names.length a.nC, .slice a.oA s.others.length a.oC, .slice a.iA s.items.length a.iC, .slice a.cA s.cond.length a.cC]] W (fun e w' => e = .returned (.bool true) ∧ Below W.heap.size W w') from fun W hb => by
    have h := query_shaped_any s.op s.src a.nA s.names.length a.nC a.oA s.others.length a.oC a.iA s.items.length a.iC a.cA s.cond.length a.cC W (hU.below hb)
    rw [hu, hop] at h
    exact h)
  have HBx := hide (fun w1 (h : Below (w.heap.size + 1) (w.alloc (.cells #[.int .i64 0, str s.src, .slice a.nA s.names.length a.nC, .slice a.oA s.others.length a.oC, .slice a.iA s.items.length a.iC, .slice a.cA s.cond.length a.cC] 27)) w1) => show BoxAt w1 w.heap.size s a from box_at (t := 27) (by unfold Stp.cells; rw [hop]; exact h))
  have HW := hide hW
  have HA := hide hA
  have HO := hide ho
  have HOp := hide hop
  have hbox : Below (w.heap.size + 1) (w.alloc (.cells #[.int .i64 0, str s.src, .slice a.nA s.names.length a.nC, .slice a.oA s.others.length a.oC, .slice a.iA s.items.length a.iC, .slice a.cA s.cond.length a.cC] 27)) (w.alloc (.cells #[.int .i64 0, str s.src, .slice a.nA s.names.length a.nC, .slice a.oA s.others.length a.oC, .slice a.iA s.items.length a.iC, .slice a.cA s.cond.length a.cC] 27)) := Below.refl _ _
  show Calls Tryz.prog 15 #[.agg #[.int .i64 s.op, str s.src, .slice a.nA s.names.length a.nC, .slice a.oA s.others.length a.oC, .slice a.iA s.items.length a.iC, .slice a.cA s.cond.length a.cC]] w _
  rw [hop]
  clear hW hU hA ho hu hop
  have HM := hide (fun W (hb : Below w.heap.size w W) => show Calls Tryz.prog 38 #[str s.src, .bool false] W (fun e w' => e = .returned (.int .i64 (fromE s.src)) ∧ Below W.heap.size W w') from query_source_any s.src false W (HW.out.below hb) HO.out.src)
  generalize fromE s.src = v at *
  generalize opS s = r at *
  go_enter Tryz.func15, Tryz.ntmps15
  go_wp2_with (first
    | (go_at_call 36; refine (HSh.out _ (box_below hbox)).mono ?_; rintro e w1 ⟨rfl, hb1⟩; have hcur := below_go hbox (by simp) hb1; clear hbox; have hbx := HBx.out _ hcur; obtain ⟨hlw, c0, c1, c2, c3, c4, c5⟩ := HBx.out _ hcur; rw [HOp.out] at c0; have hw1 := box_below hcur; have hwb : Below w1.heap.size w1 (w1.alloc (.cells #[.func (.func 37) #[] #[atB0 w.heap.size]] 73)) := zX; have hff : (w1.alloc (.cells #[.func (.func 37) #[] #[atB0 w.heap.size]] 73)).cell? ⟨w1.heap.size, 0, none⟩ = some (.func (.func 37) #[] #[atB0 w.heap.size]) := (by simp [go_sem]); have hfl : w1.heap.size < (w1.alloc (.cells #[.func (.func 37) #[] #[atB0 w.heap.size]] 73)).heap.size := (by simp))
    | (go_at_call 38; refine (HM.out _ (bel2 hwb hw1)).mono ?_; rintro e w2 ⟨rfl, hb2⟩))
  go_ret
  exact ⟨ret_int HX.out.symm, bel2 hb2 (bel2 hwb hw1)⟩
set_option maxRecDepth 100000 in
set_option maxHeartbeats 4000000 in
theorem val_1 (s : Stp) (hop : s.op = 1) : ValAt s := by
  intro a w hW hU hA ho hu
  have HX := hide (show opS s = validE s.cond from by unfold opS; simp [hop])
  have HSh := hide (show ∀ W, Below w.heap.size w W → Calls Tryz.prog 36 #[.agg #[.int .i64 1, str s.src, .slice a.nA s.names.length a.nC, .slice a.oA s.others.length a.oC, .slice a.iA s.items.length a.iC, .slice a.cA s.cond.length a.cC]] W (fun e w' => e = .returned (.bool true) ∧ Below W.heap.size W w') from fun W hb => by
    have h := query_shaped_any s.op s.src a.nA s.names.length a.nC a.oA s.others.length a.oC a.iA s.items.length a.iC a.cA s.cond.length a.cC W (hU.below hb)
    rw [hu, hop] at h
    exact h)
  have HBx := hide (fun w1 (h : Below (w.heap.size + 1) (w.alloc (.cells #[.int .i64 1, str s.src, .slice a.nA s.names.length a.nC, .slice a.oA s.others.length a.oC, .slice a.iA s.items.length a.iC, .slice a.cA s.cond.length a.cC] 27)) w1) => show BoxAt w1 w.heap.size s a from box_at (t := 27) (by unfold Stp.cells; rw [hop]; exact h))
  have HW := hide hW
  have HA := hide hA
  have HO := hide ho
  have HOp := hide hop
  have hbox : Below (w.heap.size + 1) (w.alloc (.cells #[.int .i64 1, str s.src, .slice a.nA s.names.length a.nC, .slice a.oA s.others.length a.oC, .slice a.iA s.items.length a.iC, .slice a.cA s.cond.length a.cC] 27)) (w.alloc (.cells #[.int .i64 1, str s.src, .slice a.nA s.names.length a.nC, .slice a.oA s.others.length a.oC, .slice a.iA s.items.length a.iC, .slice a.cA s.cond.length a.cC] 27)) := Below.refl _ _
  show Calls Tryz.prog 15 #[.agg #[.int .i64 s.op, str s.src, .slice a.nA s.names.length a.nC, .slice a.oA s.others.length a.oC, .slice a.iA s.items.length a.iC, .slice a.cA s.cond.length a.cC]] w _
  rw [hop]
  clear hW hU hA ho hu hop
  have HM := hide (fun W (hb : Below w.heap.size w W) => expr_Validate_any a.cA s.cond a.cC W (HW.out.below hb) (HA.out.cond.below hb) HO.out.cond HO.out.condN)
  generalize validE s.cond = v at *
  generalize opS s = r at *
  go_enter Tryz.func15, Tryz.ntmps15
  go_wp2_with (first
    | (go_at_call 36; refine (HSh.out _ (box_below hbox)).mono ?_; rintro e w1 ⟨rfl, hb1⟩; have hcur := below_go hbox (by simp) hb1; clear hbox; have hbx := HBx.out _ hcur; obtain ⟨hlw, c0, c1, c2, c3, c4, c5⟩ := HBx.out _ hcur; rw [HOp.out] at c0; have hw1 := box_below hcur; have hwb : Below w1.heap.size w1 (w1.alloc (.cells #[.func (.func 37) #[] #[atB0 w.heap.size]] 73)) := zX; have hff : (w1.alloc (.cells #[.func (.func 37) #[] #[atB0 w.heap.size]] 73)).cell? ⟨w1.heap.size, 0, none⟩ = some (.func (.func 37) #[] #[atB0 w.heap.size]) := (by simp [go_sem]); have hfl : w1.heap.size < (w1.alloc (.cells #[.func (.func 37) #[] #[atB0 w.heap.size]] 73)).heap.size := (by simp))
    | (go_at_call 45; refine (HM.out _ (bel2 hwb hw1)).mono ?_; rintro e w2 ⟨rfl, hb2⟩))
  go_ret
  exact ⟨ret_int HX.out.symm, bel2 hb2 (bel2 hwb hw1)⟩
set_option maxRecDepth 100000 in
set_option maxHeartbeats 4000000 in
theorem val_2 (s : Stp) (hop : s.op = 2) : ValAt s := by
  intro a w hW hU hA ho hu
  have HX := hide (show opS s = itemsS s.items 1 false false false true (fun x => validE x.expr) from by unfold opS; simp [hop])
  have HSh := hide (show ∀ W, Below w.heap.size w W → Calls Tryz.prog 36 #[.agg #[.int .i64 2, str s.src, .slice a.nA s.names.length a.nC, .slice a.oA s.others.length a.oC, .slice a.iA s.items.length a.iC, .slice a.cA s.cond.length a.cC]] W (fun e w' => e = .returned (.bool true) ∧ Below W.heap.size W w') from fun W hb => by
    have h := query_shaped_any s.op s.src a.nA s.names.length a.nC a.oA s.others.length a.oC a.iA s.items.length a.iC a.cA s.cond.length a.cC W (hU.below hb)
    rw [hu, hop] at h
    exact h)
  have HBx := hide (fun w1 (h : Below (w.heap.size + 1) (w.alloc (.cells #[.int .i64 2, str s.src, .slice a.nA s.names.length a.nC, .slice a.oA s.others.length a.oC, .slice a.iA s.items.length a.iC, .slice a.cA s.cond.length a.cC] 27)) w1) => show BoxAt w1 w.heap.size s a from box_at (t := 27) (by unfold Stp.cells; rw [hop]; exact h))
  have HW := hide hW
  have HA := hide hA
  have HO := hide ho
  have HOp := hide hop
  have hbox : Below (w.heap.size + 1) (w.alloc (.cells #[.int .i64 2, str s.src, .slice a.nA s.names.length a.nC, .slice a.oA s.others.length a.oC, .slice a.iA s.items.length a.iC, .slice a.cA s.cond.length a.cC] 27)) (w.alloc (.cells #[.int .i64 2, str s.src, .slice a.nA s.names.length a.nC, .slice a.oA s.others.length a.oC, .slice a.iA s.items.length a.iC, .slice a.cA s.cond.length a.cC] 27)) := Below.refl _ _
  show Calls Tryz.prog 15 #[.agg #[.int .i64 s.op, str s.src, .slice a.nA s.names.length a.nC, .slice a.oA s.others.length a.oC, .slice a.iA s.items.length a.iC, .slice a.cA s.cond.length a.cC]] w _
  rw [hop]
  clear hW hU hA ho hu hop
  have HM := hide (fun W (hb : Below w.heap.size w W) => query_items_2 s.src a.nA s.names.length a.nC a.oA s.others.length a.oC a.iA a.iC a.cA s.cond.length a.cC s.items 1 47 #[] (fun x => validE x.expr) W (HW.out.below hb) (HA.out.items.below hb) HO.out.items HA.out.ci (by omega) (fun args W => by kernel_rfl) (fun k h E ec V hV hn => vs3_any _ E ec V ((HW.out.below hb).below hV) hn (HO.out.item _ (List.getElem_mem h))))
  generalize itemsS s.items 1 false false false true (fun x => validE x.expr) = v at *
  generalize opS s = r at *
  go_enter Tryz.func15, Tryz.ntmps15
  go_wp2_with (first
    | (go_at_call 36; refine (HSh.out _ (box_below hbox)).mono ?_; rintro e w1 ⟨rfl, hb1⟩; have hcur := below_go hbox (by simp) hb1; clear hbox; have hbx := HBx.out _ hcur; obtain ⟨hlw, c0, c1, c2, c3, c4, c5⟩ := HBx.out _ hcur; rw [HOp.out] at c0; have hw1 := box_below hcur; have hwb : Below w1.heap.size w1 (w1.alloc (.cells #[.func (.func 37) #[] #[atB0 w.heap.size]] 73)) := zX; have hff : (w1.alloc (.cells #[.func (.func 37) #[] #[atB0 w.heap.size]] 73)).cell? ⟨w1.heap.size, 0, none⟩ = some (.func (.func 37) #[] #[atB0 w.heap.size]) := (by simp [go_sem]); have hfl : w1.heap.size < (w1.alloc (.cells #[.func (.func 37) #[] #[atB0 w.heap.size]] 73)).heap.size := (by simp))
    | (go_at_call 46; refine (HM.out _ (bel2 hwb hw1)).mono ?_; rintro e w2 ⟨rfl, hb2⟩))
  go_ret
  exact ⟨ret_int HX.out.symm, bel2 hb2 (bel2 hwb hw1)⟩
set_option maxRecDepth 100000 in
set_option maxHeartbeats 4000000 in
theorem val_3 (s : Stp) (hop : s.op = 3) : ValAt s := by
  intro a w hW hU hA ho hu
  have HX := hide (show opS s = listS s.names 1 from by unfold opS; simp [hop])
  have HSh := hide (show ∀ W, Below w.heap.size w W → Calls Tryz.prog 36 #[.agg #[.int .i64 3, str s.src, .slice a.nA s.names.length a.nC, .slice a.oA s.others.length a.oC, .slice a.iA s.items.length a.iC, .slice a.cA s.cond.length a.cC]] W (fun e w' => e = .returned (.bool true) ∧ Below W.heap.size W w') from fun W hb => by
    have h := query_shaped_any s.op s.src a.nA s.names.length a.nC a.oA s.others.length a.oC a.iA s.items.length a.iC a.cA s.cond.length a.cC W (hU.below hb)
    rw [hu, hop] at h
    exact h)
  have HBx := hide (fun w1 (h : Below (w.heap.size + 1) (w.alloc (.cells #[.int .i64 3, str s.src, .slice a.nA s.names.length a.nC, .slice a.oA s.others.length a.oC, .slice a.iA s.items.length a.iC, .slice a.cA s.cond.length a.cC] 27)) w1) => show BoxAt w1 w.heap.size s a from box_at (t := 27) (by unfold Stp.cells; rw [hop]; exact h))
  have HW := hide hW
  have HA := hide hA
  have HO := hide ho
  have HOp := hide hop
  have hbox : Below (w.heap.size + 1) (w.alloc (.cells #[.int .i64 3, str s.src, .slice a.nA s.names.length a.nC, .slice a.oA s.others.length a.oC, .slice a.iA s.items.length a.iC, .slice a.cA s.cond.length a.cC] 27)) (w.alloc (.cells #[.int .i64 3, str s.src, .slice a.nA s.names.length a.nC, .slice a.oA s.others.length a.oC, .slice a.iA s.items.length a.iC, .slice a.cA s.cond.length a.cC] 27)) := Below.refl _ _
  show Calls Tryz.prog 15 #[.agg #[.int .i64 s.op, str s.src, .slice a.nA s.names.length a.nC, .slice a.oA s.others.length a.oC, .slice a.iA s.items.length a.iC, .slice a.cA s.cond.length a.cC]] w _
  rw [hop]
  clear hW hU hA ho hu hop
  have HM := hide (fun W (hb : Below w.heap.size w W) => query_list_any a.nA s.names a.nC 1 W (HW.out.below hb) (HA.out.names.below hb) HO.out.names (by omega) HA.out.cn)
  generalize listS s.names 1 = v at *
  generalize opS s = r at *
  go_enter Tryz.func15, Tryz.ntmps15
  go_wp2_with (first
    | (go_at_call 36; refine (HSh.out _ (box_below hbox)).mono ?_; rintro e w1 ⟨rfl, hb1⟩; have hcur := below_go hbox (by simp) hb1; clear hbox; have hbx := HBx.out _ hcur; obtain ⟨hlw, c0, c1, c2, c3, c4, c5⟩ := HBx.out _ hcur; rw [HOp.out] at c0; have hw1 := box_below hcur; have hwb : Below w1.heap.size w1 (w1.alloc (.cells #[.func (.func 37) #[] #[atB0 w.heap.size]] 73)) := zX; have hff : (w1.alloc (.cells #[.func (.func 37) #[] #[atB0 w.heap.size]] 73)).cell? ⟨w1.heap.size, 0, none⟩ = some (.func (.func 37) #[] #[atB0 w.heap.size]) := (by simp [go_sem]); have hfl : w1.heap.size < (w1.alloc (.cells #[.func (.func 37) #[] #[atB0 w.heap.size]] 73)).heap.size := (by simp))
    | (go_at_call 42; refine (HM.out _ (bel2 hwb hw1)).mono ?_; rintro e w2 ⟨rfl, hb2⟩))
  go_ret
  exact ⟨ret_int HX.out.symm, bel2 hb2 (bel2 hwb hw1)⟩
end Go.Proofs.YtmbeeefkpgfgmaaGreatDoor
