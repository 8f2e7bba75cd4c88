/- Contracts: query.ValidateStep, query.Validate. -/
import Derived.Test.YtmbeeefkpgfgmaaGreatDoorPq40
import Derived.Test.YtmbeeefkpgfgmaaGreatDoorPq07
set_option linter.unusedVariables false
set_option linter.unusedSimpArgs false
namespace Go.Proofs.YtmbeeefkpgfgmaaGreatDoor
open Go.RowKit
set_option maxRecDepth 100000 in
set_option maxHeartbeats 4000000 in
theorem val_6 (s : Stp) (hop : s.op = 6) : ValAt s := by
  intro a w hW hU hA ho hu
  have HX := hide (show opS s = joinS s from by unfold opS; simp [hop])
  have HSh := hide (show ∀ W, Below w.heap.size w W → Calls Tryz.prog 36 #[.agg #[.int .i64 6, str s.src, .slice a.nA s.names.length a.nC, .slice a.oA s.others.length a.oC, .slice a.iA s.items.length a.iC, .slice a.cA s.cond.length a.cC]] W (fun e w' => e = .returned (.bool true) ∧ Below W.heap.size W w') from fun W hb => by
    have h := query_shaped_any s.op s.src a.nA s.names.length a.nC a.oA s.others.length a.oC a.iA s.items.length a.iC a.cA s.cond.length a.cC W (hU.below hb)
    rw [hu, hop] at h
    exact h)
  have HBx := hide (fun w1 (h : Below (w.heap.size + 1) (w.alloc (.cells #[.int .i64 6, str s.src, .slice a.nA s.names.length a.nC, .slice a.oA s.others.length a.oC, .slice a.iA s.items.length a.iC, .slice a.cA s.cond.length a.cC] 27)) w1) => show BoxAt w1 w.heap.size s a from box_at (t := 27) (by unfold Stp.cells; rw [hop]; exact h))
  have HW := hide hW
  have HA := hide hA
  have HO := hide ho
  have HOp := hide hop
  have hbox : Below (w.heap.size + 1) (w.alloc (.cells #[.int .i64 6, str s.src, .slice a.nA s.names.length a.nC, .slice a.oA s.others.length a.oC, .slice a.iA s.items.length a.iC, .slice a.cA s.cond.length a.cC] 27)) (w.alloc (.cells #[.int .i64 6, str s.src, .slice a.nA s.names.length a.nC, .slice a.oA s.others.length a.oC, .slice a.iA s.items.length a.iC, .slice a.cA s.cond.length a.cC] 27)) := Below.refl _ _
  show Calls Tryz.prog 15 #[.agg #[.int .i64 s.op, str s.src, .slice a.nA s.names.length a.nC, .slice a.oA s.others.length a.oC, .slice a.iA s.items.length a.iC, .slice a.cA s.cond.length a.cC]] w _
  rw [hop]
  have HI := hide (show s.items = [] from by
    have h := hu
    rw [hop] at h
    unfold unusedB at h
    simp at h
    exact List.eq_nil_of_length_eq_zero (by first | omega | (simp_all; done) | (simp at h; omega)))
  clear hW hU hA ho hu hop
  have HJ := hide (HX.out.trans (join_none HI.out))
  have H2 := hide (fun (w1 V : World) (hbx : BoxAt w1 w.heap.size s a) (hw1 : Below w.heap.size w w1) (hV : Below w1.heap.size w1 V) (h3 : w1.heap.size < V.heap.size) (hf : V.cell? ⟨w1.heap.size, 0, none⟩ = some (.func (.func 37) #[] #[atB0 w.heap.size])) =>
    vs2_thunk w1.heap.size w.heap.size s a V (HW.out.below (bel2 hV hw1)) (hbx.below hV) h3 hf (HA.out.below (bel2 hV hw1)) HO.out)
  clear HX HI
  generalize pairE s = v1 at *
  generalize opS s = r at *
  have eg : ∀ args W, (callFunc 39 args).run Tryz.prog W = .ok (.enter 39 args) W := fun args W => by kernel_rfl
  go_enter Tryz.func15, Tryz.ntmps15
  go_wp2_with (first
    | (go_at_call 36; refine (HSh.out _ (box_below hbox)).mono ?_; rintro e w1 ⟨rfl, hb1⟩; have hcur := below_go hbox (by simp) hb1; clear hbox; have hbx := HBx.out _ hcur; obtain ⟨hlw, c0, c1, c2, c3, c4, c5⟩ := HBx.out _ hcur; rw [HOp.out] at c0; have hw1 := box_below hcur; have hwb : Below w1.heap.size w1 (w1.alloc (.cells #[.func (.func 37) #[] #[atB0 w.heap.size]] 73)) := zX; have hff : (w1.alloc (.cells #[.func (.func 37) #[] #[atB0 w.heap.size]] 73)).cell? ⟨w1.heap.size, 0, none⟩ = some (.func (.func 37) #[] #[atB0 w.heap.size]) := (by simp [go_sem]); have hfl : w1.heap.size < (w1.alloc (.cells #[.func (.func 37) #[] #[atB0 w.heap.size]] 73)).heap.size := (by simp))
    | (go_at_fn 39; refine ((H2.out w1 _ hbx hw1 hwb hfl hff).2 _ (Below.refl _ _)).mono ?_; rintro e w2 ⟨rfl, hb2⟩))
  go_ret
  exact ⟨ret_int HJ.out.symm, bel2 hb2 (bel2 hwb hw1)⟩
set_option maxRecDepth 100000 in
set_option maxHeartbeats 4000000 in
theorem val_7 (s : Stp) (hop : s.op = 7) : ValAt s := by
  intro a w hW hU hA ho hu
  have HX := hide (show opS s = joinS s from by unfold opS; simp [hop])
  have HSh := hide (show ∀ W, Below w.heap.size w W → Calls Tryz.prog 36 #[.agg #[.int .i64 7, str s.src, .slice a.nA s.names.length a.nC, .slice a.oA s.others.length a.oC, .slice a.iA s.items.length a.iC, .slice a.cA s.cond.length a.cC]] W (fun e w' => e = .returned (.bool true) ∧ Below W.heap.size W w') from fun W hb => by
    have h := query_shaped_any s.op s.src a.nA s.names.length a.nC a.oA s.others.length a.oC a.iA s.items.length a.iC a.cA s.cond.length a.cC W (hU.below hb)
    rw [hu, hop] at h
    exact h)
  have HBx := hide (fun w1 (h : Below (w.heap.size + 1) (w.alloc (.cells #[.int .i64 7, str s.src, .slice a.nA s.names.length a.nC, .slice a.oA s.others.length a.oC, .slice a.iA s.items.length a.iC, .slice a.cA s.cond.length a.cC] 27)) w1) => show BoxAt w1 w.heap.size s a from box_at (t := 27) (by unfold Stp.cells; rw [hop]; exact h))
  have HW := hide hW
  have HA := hide hA
  have HO := hide ho
  have HOp := hide hop
  have hbox : Below (w.heap.size + 1) (w.alloc (.cells #[.int .i64 7, str s.src, .slice a.nA s.names.length a.nC, .slice a.oA s.others.length a.oC, .slice a.iA s.items.length a.iC, .slice a.cA s.cond.length a.cC] 27)) (w.alloc (.cells #[.int .i64 7, str s.src, .slice a.nA s.names.length a.nC, .slice a.oA s.others.length a.oC, .slice a.iA s.items.length a.iC, .slice a.cA s.cond.length a.cC] 27)) := Below.refl _ _
  show Calls Tryz.prog 15 #[.agg #[.int .i64 s.op, str s.src, .slice a.nA s.names.length a.nC, .slice a.oA s.others.length a.oC, .slice a.iA s.items.length a.iC, .slice a.cA s.cond.length a.cC]] w _
  rw [hop]
  have HI := hide (show s.items = [] from by
    have h := hu
    rw [hop] at h
    unfold unusedB at h
    simp at h
    exact List.eq_nil_of_length_eq_zero (by first | omega | (simp_all; done) | (simp at h; omega)))
  clear hW hU hA ho hu hop
  have HJ := hide (HX.out.trans (join_none HI.out))
  have H2 := hide (fun (w1 V : World) (hbx : BoxAt w1 w.heap.size s a) (hw1 : Below w.heap.size w w1) (hV : Below w1.heap.size w1 V) (h3 : w1.heap.size < V.heap.size) (hf : V.cell? ⟨w1.heap.size, 0, none⟩ = some (.func (.func 37) #[] #[atB0 w.heap.size])) =>
    vs2_thunk w1.heap.size w.heap.size s a V (HW.out.below (bel2 hV hw1)) (hbx.below hV) h3 hf (HA.out.below (bel2 hV hw1)) HO.out)
  clear HX HI
  generalize pairE s = v1 at *
  generalize opS s = r at *
  have eg : ∀ args W, (callFunc 39 args).run Tryz.prog W = .ok (.enter 39 args) W := fun args W => by kernel_rfl
  go_enter Tryz.func15, Tryz.ntmps15
  go_wp2_with (first
    | (go_at_call 36; refine (HSh.out _ (box_below hbox)).mono ?_; rintro e w1 ⟨rfl, hb1⟩; have hcur := below_go hbox (by simp) hb1; clear hbox; have hbx := HBx.out _ hcur; obtain ⟨hlw, c0, c1, c2, c3, c4, c5⟩ := HBx.out _ hcur; rw [HOp.out] at c0; have hw1 := box_below hcur; have hwb : Below w1.heap.size w1 (w1.alloc (.cells #[.func (.func 37) #[] #[atB0 w.heap.size]] 73)) := zX; have hff : (w1.alloc (.cells #[.func (.func 37) #[] #[atB0 w.heap.size]] 73)).cell? ⟨w1.heap.size, 0, none⟩ = some (.func (.func 37) #[] #[atB0 w.heap.size]) := (by simp [go_sem]); have hfl : w1.heap.size < (w1.alloc (.cells #[.func (.func 37) #[] #[atB0 w.heap.size]] 73)).heap.size := (by simp))
    | (go_at_fn 39; refine ((H2.out w1 _ hbx hw1 hwb hfl hff).2 _ (Below.refl _ _)).mono ?_; rintro e w2 ⟨rfl, hb2⟩))
  go_ret
  exact ⟨ret_int HJ.out.symm, bel2 hb2 (bel2 hwb hw1)⟩
set_option maxRecDepth 100000 in
set_option maxHeartbeats 4000000 in
theorem val_8 (s : Stp) (hop : s.op = 8) : ValAt s := by
  intro a w hW hU hA ho hu
  have HX := hide (show opS s = readE s.src from by unfold opS; simp [hop])
  have HSh := hide (show ∀ W, Below w.heap.size w W → Calls Tryz.prog 36 #[.agg #[.int .i64 8, str s.src, .slice a.nA s.names.length a.nC, .slice a.oA s.others.length a.oC, .slice a.iA s.items.length a.iC, .slice a.cA s.cond.length a.cC]] W (fun e w' => e = .returned (.bool true) ∧ Below W.heap.size W w') from fun W hb => by
    have h := query_shaped_any s.op s.src a.nA s.names.length a.nC a.oA s.others.length a.oC a.iA s.items.length a.iC a.cA s.cond.length a.cC W (hU.below hb)
    rw [hu, hop] at h
    exact h)
  have HBx := hide (fun w1 (h : Below (w.heap.size + 1) (w.alloc (.cells #[.int .i64 8, str s.src, .slice a.nA s.names.length a.nC, .slice a.oA s.others.length a.oC, .slice a.iA s.items.length a.iC, .slice a.cA s.cond.length a.cC] 27)) w1) => show BoxAt w1 w.heap.size s a from box_at (t := 27) (by unfold Stp.cells; rw [hop]; exact h))
  have HW := hide hW
  have HA := hide hA
  have HO := hide ho
  have HOp := hide hop
  have hbox : Below (w.heap.size + 1) (w.alloc (.cells #[.int .i64 8, str s.src, .slice a.nA s.names.length a.nC, .slice a.oA s.others.length a.oC, .slice a.iA s.items.length a.iC, .slice a.cA s.cond.length a.cC] 27)) (w.alloc (.cells #[.int .i64 8, str s.src, .slice a.nA s.names.length a.nC, .slice a.oA s.others.length a.oC, .slice a.iA s.items.length a.iC, .slice a.cA s.cond.length a.cC] 27)) := Below.refl _ _
  show Calls Tryz.prog 15 #[.agg #[.int .i64 s.op, str s.src, .slice a.nA s.names.length a.nC, .slice a.oA s.others.length a.oC, .slice a.iA s.items.length a.iC, .slice a.cA s.cond.length a.cC]] w _
  rw [hop]
  clear hW hU hA ho hu hop
  have H1 := hide (fun (w1 V : World) (hbx : BoxAt w1 w.heap.size s a) (hw1 : Below w.heap.size w w1) (hV : Below w1.heap.size w1 V) =>
    vs1_thunk w.heap.size s a V (HW.out.below (bel2 hV hw1)) (hbx.below hV) HO.out)
  generalize readE s.src = v1 at *
  generalize opS s = r at *
  have eg : ∀ args W, (callFunc 37 args).run Tryz.prog W = .ok (.enter 37 args) W := fun args W => by kernel_rfl
  go_enter Tryz.func15, Tryz.ntmps15
  go_wp2_with (first
    | (go_at_call 36; refine (HSh.out _ (box_below hbox)).mono ?_; rintro e w1 ⟨rfl, hb1⟩; have hcur := below_go hbox (by simp) hb1; clear hbox; have hbx := HBx.out _ hcur; obtain ⟨hlw, c0, c1, c2, c3, c4, c5⟩ := HBx.out _ hcur; rw [HOp.out] at c0; have hw1 := box_below hcur; have hwb : Below w1.heap.size w1 (w1.alloc (.cells #[.func (.func 37) #[] #[atB0 w.heap.size]] 73)) := zX; have hff : (w1.alloc (.cells #[.func (.func 37) #[] #[atB0 w.heap.size]] 73)).cell? ⟨w1.heap.size, 0, none⟩ = some (.func (.func 37) #[] #[atB0 w.heap.size]) := (by simp [go_sem]); have hfl : w1.heap.size < (w1.alloc (.cells #[.func (.func 37) #[] #[atB0 w.heap.size]] 73)).heap.size := (by simp))
    | (go_at_fn 37; refine ((H1.out w1 _ hbx hw1 hwb).2 _ (Below.refl _ _)).mono ?_; rintro e w2 ⟨rfl, hb2⟩))
  go_ret
  exact ⟨ret_int HX.out.symm, bel2 hb2 (bel2 hwb hw1)⟩
set_option maxRecDepth 100000 in
set_option maxHeartbeats 4000000 in
theorem val_9 (s : Stp) (hop : s.op = 9) : ValAt s := by
  intro a w hW hU hA ho hu
  have HX := hide (show opS s = readE s.src from by unfold opS; simp [hop])
  have HSh := hide (show ∀ W, Below w.heap.size w W → Calls Tryz.prog 36 #[.agg #[.int .i64 9, str s.src, .slice a.nA s.names.length a.nC, .slice a.oA s.others.length a.oC, .slice a.iA s.items.length a.iC, .slice a.cA s.cond.length a.cC]] W (fun e w' => e = .returned (.bool true) ∧ Below W.heap.size W w') from fun W hb => by
    have h := query_shaped_any s.op s.src a.nA s.names.length a.nC a.oA s.others.length a.oC a.iA s.items.length a.iC a.cA s.cond.length a.cC W (hU.below hb)
    rw [hu, hop] at h
    exact h)
  have HBx := hide (fun w1 (h : Below (w.heap.size + 1) (w.alloc (.cells #[.int .i64 9, str s.src, .slice a.nA s.names.length a.nC, .slice a.oA s.others.length a.oC, .slice a.iA s.items.length a.iC, .slice a.cA s.cond.length a.cC] 27)) w1) => show BoxAt w1 w.heap.size s a from box_at (t := 27) (by unfold Stp.cells; rw [hop]; exact h))
  have HW := hide hW
  have HA := hide hA
  have HO := hide ho
  have HOp := hide hop
  have hbox : Below (w.heap.size + 1) (w.alloc (.cells #[.int .i64 9, str s.src, .slice a.nA s.names.length a.nC, .slice a.oA s.others.length a.oC, .slice a.iA s.items.length a.iC, .slice a.cA s.cond.length a.cC] 27)) (w.alloc (.cells #[.int .i64 9, str s.src, .slice a.nA s.names.length a.nC, .slice a.oA s.others.length a.oC, .slice a.iA s.items.length a.iC, .slice a.cA s.cond.length a.cC] 27)) := Below.refl _ _
  show Calls Tryz.prog 15 #[.agg #[.int .i64 s.op, str s.src, .slice a.nA s.names.length a.nC, .slice a.oA s.others.length a.oC, .slice a.iA s.items.length a.iC, .slice a.cA s.cond.length a.cC]] w _
  rw [hop]
  clear hW hU hA ho hu hop
  have H1 := hide (fun (w1 V : World) (hbx : BoxAt w1 w.heap.size s a) (hw1 : Below w.heap.size w w1) (hV : Below w1.heap.size w1 V) =>
    vs1_thunk w.heap.size s a V (HW.out.below (bel2 hV hw1)) (hbx.below hV) HO.out)
  generalize readE s.src = v1 at *
  generalize opS s = r at *
  have eg : ∀ args W, (callFunc 37 args).run Tryz.prog W = .ok (.enter 37 args) W := fun args W => by kernel_rfl
  go_enter Tryz.func15, Tryz.ntmps15
  go_wp2_with (first
    | (go_at_call 36; refine (HSh.out _ (box_below hbox)).mono ?_; rintro e w1 ⟨rfl, hb1⟩; have hcur := below_go hbox (by simp) hb1; clear hbox; have hbx := HBx.out _ hcur; obtain ⟨hlw, c0, c1, c2, c3, c4, c5⟩ := HBx.out _ hcur; rw [HOp.out] at c0; have hw1 := box_below hcur; have hwb : Below w1.heap.size w1 (w1.alloc (.cells #[.func (.func 37) #[] #[atB0 w.heap.size]] 73)) := zX; have hff : (w1.alloc (.cells #[.func (.func 37) #[] #[atB0 w.heap.size]] 73)).cell? ⟨w1.heap.size, 0, none⟩ = some (.func (.func 37) #[] #[atB0 w.heap.size]) := (by simp [go_sem]); have hfl : w1.heap.size < (w1.alloc (.cells #[.func (.func 37) #[] #[atB0 w.heap.size]] 73)).heap.size := (by simp))
    | (go_at_fn 37; refine ((H1.out w1 _ hbx hw1 hwb).2 _ (Below.refl _ _)).mono ?_; rintro e w2 ⟨rfl, hb2⟩))
  go_ret
  exact ⟨ret_int HX.out.symm, bel2 hb2 (bel2 hwb hw1)⟩
set_option maxRecDepth 100000 in
set_option maxHeartbeats 4000000 in
theorem val_10 (s : Stp) (hop : s.op = 10) : ValAt s := by
  intro a w hW hU hA ho hu
  have HX := hide (show opS s = 0 from by unfold opS; simp [hop])
  have HSh := hide (show ∀ W, Below w.heap.size w W → Calls Tryz.prog 36 #[.agg #[.int .i64 10, str s.src, .slice a.nA s.names.length a.nC, .slice a.oA s.others.length a.oC, .slice a.iA s.items.length a.iC, .slice a.cA s.cond.length a.cC]] W (fun e w' => e = .returned (.bool true) ∧ Below W.heap.size W w') from fun W hb => by
    have h := query_shaped_any s.op s.src a.nA s.names.length a.nC a.oA s.others.length a.oC a.iA s.items.length a.iC a.cA s.cond.length a.cC W (hU.below hb)
    rw [hu, hop] at h
    exact h)
  have HBx := hide (fun w1 (h : Below (w.heap.size + 1) (w.alloc (.cells #[.int .i64 10, str s.src, .slice a.nA s.names.length a.nC, .slice a.oA s.others.length a.oC, .slice a.iA s.items.length a.iC, .slice a.cA s.cond.length a.cC] 27)) w1) => show BoxAt w1 w.heap.size s a from box_at (t := 27) (by unfold Stp.cells; rw [hop]; exact h))
  have HW := hide hW
  have HA := hide hA
  have HO := hide ho
  have HOp := hide hop
  have hbox : Below (w.heap.size + 1) (w.alloc (.cells #[.int .i64 10, str s.src, .slice a.nA s.names.length a.nC, .slice a.oA s.others.length a.oC, .slice a.iA s.items.length a.iC, .slice a.cA s.cond.length a.cC] 27)) (w.alloc (.cells #[.int .i64 10, str s.src, .slice a.nA s.names.length a.nC, .slice a.oA s.others.length a.oC, .slice a.iA s.items.length a.iC, .slice a.cA s.cond.length a.cC] 27)) := Below.refl _ _
  show Calls Tryz.prog 15 #[.agg #[.int .i64 s.op, str s.src, .slice a.nA s.names.length a.nC, .slice a.oA s.others.length a.oC, .slice a.iA s.items.length a.iC, .slice a.cA s.cond.length a.cC]] w _
  rw [hop]
  clear hW hU hA ho hu hop
  generalize opS s = r at *
  go_enter Tryz.func15, Tryz.ntmps15
  go_wp2_with (go_at_call 36; refine (HSh.out _ (box_below hbox)).mono ?_; rintro e w1 ⟨rfl, hb1⟩; have hcur := below_go hbox (by simp) hb1; clear hbox; have hbx := HBx.out _ hcur; obtain ⟨hlw, c0, c1, c2, c3, c4, c5⟩ := HBx.out _ hcur; rw [HOp.out] at c0; have hw1 := box_below hcur; have hwb : Below w1.heap.size w1 (w1.alloc (.cells #[.func (.func 37) #[] #[atB0 w.heap.size]] 73)) := zX; have hff : (w1.alloc (.cells #[.func (.func 37) #[] #[atB0 w.heap.size]] 73)).cell? ⟨w1.heap.size, 0, none⟩ = some (.func (.func 37) #[] #[atB0 w.heap.size]) := (by simp [go_sem]); have hfl : w1.heap.size < (w1.alloc (.cells #[.func (.func 37) #[] #[atB0 w.heap.size]] 73)).heap.size := (by simp))
  go_ret
  exact ⟨ret_int HX.out.symm, bel2 hwb hw1⟩
end Go.Proofs.YtmbeeefkpgfgmaaGreatDoor
