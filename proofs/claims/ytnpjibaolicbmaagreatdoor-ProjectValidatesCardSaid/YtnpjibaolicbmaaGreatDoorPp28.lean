/- Parts of the proof. -/
import Derived.Test.YtnpjibaolicbmaaGreatDoorPp27
set_option linter.unusedVariables false
set_option linter.unusedSimpArgs false
set_option maxHeartbeats 4000000
namespace Go.Proofs.YtnpjibaolicbmaaGreatDoor
open Go.Proofs.Tryz
open Go.RowKit
set_option maxRecDepth 100000
theorem q_M (s : Stp) (hop : s.op = 0) : f_3 s := by
 intro a w hW hU hA ho hu
 have HX := a_2 (show opS s = a_L s.src from by unfold opS; simp [hop])
 have HSh := a_2 (show ∀ W, Below w.heap.size w W → Calls prog 207 #[.agg #[.int .i64 0, str s.src, .slice a.nA s.names.length a.nC, .slice a.oA s.others.length a.oC, .slice a.iA s.items.length a.iC, .slice a.cA s.cond.length a.cC]] W (fun e w' => e = .returned (.bool true) ∧ Below W.heap.size W w') from fun W hb => by
  refine j_l ?_; intro h
  rw [hu, hop] at h
  exact h)
 have HBx := a_2 (fun w1 (h : Below (w.heap.size + 1) (w.alloc (.cells #[.int .i64 0, str s.src, .slice a.nA s.names.length a.nC, .slice a.oA s.others.length a.oC, .slice a.iA s.items.length a.iC, .slice a.cA s.cond.length a.cC] 129)) w1) => show b_r w1 w.heap.size s a from d_l (t := 129) (by unfold Stp.cells; rw [hop]; exact h))
 refine k_8 ?_; intro HW HA HO HOp
 have hbox : Below (w.heap.size + 1) (w.alloc (.cells #[.int .i64 0, str s.src, .slice a.nA s.names.length a.nC, .slice a.oA s.others.length a.oC, .slice a.iA s.items.length a.iC, .slice a.cA s.cond.length a.cC] 129)) (w.alloc (.cells #[.int .i64 0, str s.src, .slice a.nA s.names.length a.nC, .slice a.oA s.others.length a.oC, .slice a.iA s.items.length a.iC, .slice a.cA s.cond.length a.cC] 129)) := b_ _ _
 show Calls prog 160 #[.agg #[.int .i64 s.op, str s.src, .slice a.nA s.names.length a.nC, .slice a.oA s.others.length a.oC, .slice a.iA s.items.length a.iC, .slice a.cA s.cond.length a.cC]] w _
 rw [hop]
 clear hW hU hA ho hu hop
 have HM := a_2 (fun W (hb : Below w.heap.size w W) => show Calls prog 209 #[str s.src, .bool false] W (fun e w' => e = .returned (.int .i64 (a_L s.src)) ∧ Below W.heap.size W w') from d_G s.src false W (HW.out.below hb) HO.out.src)
 generalize a_L s.src = v at *
 generalize opS s = r at *
 go_enter func160, ntmps160
 go_wp2_with (first
  | (go_at_call 207; refine (HSh.out _ (a_5 hbox)).mono ?_; rintro e w1 ⟨rfl, hb1⟩; have hcur := a_1 hbox s_ hb1; clear hbox; have hbx := HBx.out _ hcur; obtain ⟨hlw, c0, c1, c2, c3, c4, c5⟩ := HBx.out _ hcur; rw [HOp.out] at c0; have hw1 := a_5 hcur; have hwb : Below w1.heap.size w1 (w1.alloc (.cells #[.func (.func 208) #[] #[a_f w.heap.size]] 80)) := zX; have hff : (w1.alloc (.cells #[.func (.func 208) #[] #[a_f w.heap.size]] 80)).cell? ⟨w1.heap.size, 0, none⟩ = some (.func (.func 208) #[] #[a_f w.heap.size]) := (by simp [go_sem]); have hfl : w1.heap.size < (w1.alloc (.cells #[.func (.func 208) #[] #[a_f w.heap.size]] 80)).heap.size := s_)
  | (go_at_call 209; refine (HM.out _ (a_9 hwb hw1)).mono ?_; rintro e w2 ⟨rfl, hb2⟩))
 exact o_E
theorem r_c (s : Stp) (hop : s.op = 1) : f_3 s := by
 intro a w hW hU hA ho hu
 have HX := a_2 (show opS s = a_u s.cond from by unfold opS; simp [hop])
 have HSh := a_2 (show ∀ W, Below w.heap.size w W → Calls prog 207 #[.agg #[.int .i64 1, str s.src, .slice a.nA s.names.length a.nC, .slice a.oA s.others.length a.oC, .slice a.iA s.items.length a.iC, .slice a.cA s.cond.length a.cC]] W (fun e w' => e = .returned (.bool true) ∧ Below W.heap.size W w') from fun W hb => by
  refine j_l ?_; intro h
  rw [hu, hop] at h
  exact h)
 have HBx := a_2 (fun w1 (h : Below (w.heap.size + 1) (w.alloc (.cells #[.int .i64 1, str s.src, .slice a.nA s.names.length a.nC, .slice a.oA s.others.length a.oC, .slice a.iA s.items.length a.iC, .slice a.cA s.cond.length a.cC] 129)) w1) => show b_r w1 w.heap.size s a from d_l (t := 129) (by unfold Stp.cells; rw [hop]; exact h))
 refine k_8 ?_; intro HW HA HO HOp
 have hbox : Below (w.heap.size + 1) (w.alloc (.cells #[.int .i64 1, str s.src, .slice a.nA s.names.length a.nC, .slice a.oA s.others.length a.oC, .slice a.iA s.items.length a.iC, .slice a.cA s.cond.length a.cC] 129)) (w.alloc (.cells #[.int .i64 1, str s.src, .slice a.nA s.names.length a.nC, .slice a.oA s.others.length a.oC, .slice a.iA s.items.length a.iC, .slice a.cA s.cond.length a.cC] 129)) := b_ _ _
 show Calls prog 160 #[.agg #[.int .i64 s.op, str s.src, .slice a.nA s.names.length a.nC, .slice a.oA s.others.length a.oC, .slice a.iA s.items.length a.iC, .slice a.cA s.cond.length a.cC]] w _
 rw [hop]
 clear hW hU hA ho hu hop
 have HM := a_2 (fun W (hb : Below w.heap.size w W) => b_m a.cA s.cond a.cC W (HW.out.below hb) (HA.out.cond.below hb) HO.out.cond HO.out.condN)
 generalize a_u s.cond = v at *
 generalize opS s = r at *
 go_enter func160, ntmps160
 go_wp2_with (first
  | (go_at_call 207; refine (HSh.out _ (a_5 hbox)).mono ?_; rintro e w1 ⟨rfl, hb1⟩; have hcur := a_1 hbox s_ hb1; clear hbox; have hbx := HBx.out _ hcur; obtain ⟨hlw, c0, c1, c2, c3, c4, c5⟩ := HBx.out _ hcur; rw [HOp.out] at c0; have hw1 := a_5 hcur; have hwb : Below w1.heap.size w1 (w1.alloc (.cells #[.func (.func 208) #[] #[a_f w.heap.size]] 80)) := zX; have hff : (w1.alloc (.cells #[.func (.func 208) #[] #[a_f w.heap.size]] 80)).cell? ⟨w1.heap.size, 0, none⟩ = some (.func (.func 208) #[] #[a_f w.heap.size]) := (by simp [go_sem]); have hfl : w1.heap.size < (w1.alloc (.cells #[.func (.func 208) #[] #[a_f w.heap.size]] 80)).heap.size := s_)
  | (go_at_call 99; refine (HM.out _ (a_9 hwb hw1)).mono ?_; rintro e w2 ⟨rfl, hb2⟩))
 exact o_E
theorem r_w (s : Stp) (hop : s.op = 2) : f_3 s := by
 intro a w hW hU hA ho hu
 have HX := a_2 (show opS s = a_N s.items 1 false false false true (fun x => a_u x.expr) from by unfold opS; simp [hop])
 have HSh := a_2 (show ∀ W, Below w.heap.size w W → Calls prog 207 #[.agg #[.int .i64 2, str s.src, .slice a.nA s.names.length a.nC, .slice a.oA s.others.length a.oC, .slice a.iA s.items.length a.iC, .slice a.cA s.cond.length a.cC]] W (fun e w' => e = .returned (.bool true) ∧ Below W.heap.size W w') from fun W hb => by
  refine j_l ?_; intro h
  rw [hu, hop] at h
  exact h)
 have HBx := a_2 (fun w1 (h : Below (w.heap.size + 1) (w.alloc (.cells #[.int .i64 2, str s.src, .slice a.nA s.names.length a.nC, .slice a.oA s.others.length a.oC, .slice a.iA s.items.length a.iC, .slice a.cA s.cond.length a.cC] 129)) w1) => show b_r w1 w.heap.size s a from d_l (t := 129) (by unfold Stp.cells; rw [hop]; exact h))
 refine k_8 ?_; intro HW HA HO HOp
 have hbox : Below (w.heap.size + 1) (w.alloc (.cells #[.int .i64 2, str s.src, .slice a.nA s.names.length a.nC, .slice a.oA s.others.length a.oC, .slice a.iA s.items.length a.iC, .slice a.cA s.cond.length a.cC] 129)) (w.alloc (.cells #[.int .i64 2, str s.src, .slice a.nA s.names.length a.nC, .slice a.oA s.others.length a.oC, .slice a.iA s.items.length a.iC, .slice a.cA s.cond.length a.cC] 129)) := b_ _ _
 show Calls prog 160 #[.agg #[.int .i64 s.op, str s.src, .slice a.nA s.names.length a.nC, .slice a.oA s.others.length a.oC, .slice a.iA s.items.length a.iC, .slice a.cA s.cond.length a.cC]] w _
 rw [hop]
 clear hW hU hA ho hu hop
 have HM := a_2 (fun W (hb : Below w.heap.size w W) => c_2 2 false false false true (.inl ⟨rfl, rfl, rfl, rfl, rfl⟩) s.src a.nA s.names.length a.nC a.oA s.others.length a.oC a.iA a.iC a.cA s.cond.length a.cC s.items 1 217 #[] (fun x => a_u x.expr) W (HW.out.below hb) (HA.out.items.below hb) HO.out.items HA.out.ci o_ (fun args W => by kernel_rfl) (fun k h E ec V hV hn => n_H _ E ec V ((HW.out.below hb).below hV) hn (HO.out.item _ (List.getElem_mem h))))
 generalize a_N s.items 1 false false false true (fun x => a_u x.expr) = v at *
 generalize opS s = r at *
 go_enter func160, ntmps160
 go_wp2_with (first
  | (go_at_call 207; refine (HSh.out _ (a_5 hbox)).mono ?_; rintro e w1 ⟨rfl, hb1⟩; have hcur := a_1 hbox s_ hb1; clear hbox; have hbx := HBx.out _ hcur; obtain ⟨hlw, c0, c1, c2, c3, c4, c5⟩ := HBx.out _ hcur; rw [HOp.out] at c0; have hw1 := a_5 hcur; have hwb : Below w1.heap.size w1 (w1.alloc (.cells #[.func (.func 208) #[] #[a_f w.heap.size]] 80)) := zX; have hff : (w1.alloc (.cells #[.func (.func 208) #[] #[a_f w.heap.size]] 80)).cell? ⟨w1.heap.size, 0, none⟩ = some (.func (.func 208) #[] #[a_f w.heap.size]) := (by simp [go_sem]); have hfl : w1.heap.size < (w1.alloc (.cells #[.func (.func 208) #[] #[a_f w.heap.size]] 80)).heap.size := s_)
  | (go_at_call 216; refine (HM.out _ (a_9 hwb hw1)).mono ?_; rintro e w2 ⟨rfl, hb2⟩))
 exact o_E
theorem r_6 (s : Stp) (hop : s.op = 3) : f_3 s := by
 intro a w hW hU hA ho hu
 have HX := a_2 (show opS s = a_z s.names 1 from by unfold opS; simp [hop])
 have HSh := a_2 (show ∀ W, Below w.heap.size w W → Calls prog 207 #[.agg #[.int .i64 3, str s.src, .slice a.nA s.names.length a.nC, .slice a.oA s.others.length a.oC, .slice a.iA s.items.length a.iC, .slice a.cA s.cond.length a.cC]] W (fun e w' => e = .returned (.bool true) ∧ Below W.heap.size W w') from fun W hb => by
  refine j_l ?_; intro h
  rw [hu, hop] at h
  exact h)
 have HBx := a_2 (fun w1 (h : Below (w.heap.size + 1) (w.alloc (.cells #[.int .i64 3, str s.src, .slice a.nA s.names.length a.nC, .slice a.oA s.others.length a.oC, .slice a.iA s.items.length a.iC, .slice a.cA s.cond.length a.cC] 129)) w1) => show b_r w1 w.heap.size s a from d_l (t := 129) (by unfold Stp.cells; rw [hop]; exact h))
 refine k_8 ?_; intro HW HA HO HOp
 have hbox : Below (w.heap.size + 1) (w.alloc (.cells #[.int .i64 3, str s.src, .slice a.nA s.names.length a.nC, .slice a.oA s.others.length a.oC, .slice a.iA s.items.length a.iC, .slice a.cA s.cond.length a.cC] 129)) (w.alloc (.cells #[.int .i64 3, str s.src, .slice a.nA s.names.length a.nC, .slice a.oA s.others.length a.oC, .slice a.iA s.items.length a.iC, .slice a.cA s.cond.length a.cC] 129)) := b_ _ _
 show Calls prog 160 #[.agg #[.int .i64 s.op, str s.src, .slice a.nA s.names.length a.nC, .slice a.oA s.others.length a.oC, .slice a.iA s.items.length a.iC, .slice a.cA s.cond.length a.cC]] w _
 rw [hop]
 clear hW hU hA ho hu hop
 have HM := a_2 (fun W (hb : Below w.heap.size w W) => b_w a.nA s.names a.nC 1 W (HW.out.below hb) (HA.out.names.below hb) HO.out.names o_ HA.out.cn)
 generalize a_z s.names 1 = v at *
 generalize opS s = r at *
 go_enter func160, ntmps160
 go_wp2_with (first
  | (go_at_call 207; refine (HSh.out _ (a_5 hbox)).mono ?_; rintro e w1 ⟨rfl, hb1⟩; have hcur := a_1 hbox s_ hb1; clear hbox; have hbx := HBx.out _ hcur; obtain ⟨hlw, c0, c1, c2, c3, c4, c5⟩ := HBx.out _ hcur; rw [HOp.out] at c0; have hw1 := a_5 hcur; have hwb : Below w1.heap.size w1 (w1.alloc (.cells #[.func (.func 208) #[] #[a_f w.heap.size]] 80)) := zX; have hff : (w1.alloc (.cells #[.func (.func 208) #[] #[a_f w.heap.size]] 80)).cell? ⟨w1.heap.size, 0, none⟩ = some (.func (.func 208) #[] #[a_f w.heap.size]) := (by simp [go_sem]); have hfl : w1.heap.size < (w1.alloc (.cells #[.func (.func 208) #[] #[a_f w.heap.size]] 80)).heap.size := s_)
  | (go_at_call 213; refine (HM.out _ (a_9 hwb hw1)).mono ?_; rintro e w2 ⟨rfl, hb2⟩))
 exact o_E
set_option maxRecDepth 100000
theorem r_r (s : Stp) (hop : s.op = 6) : f_3 s := by
 intro a w hW hU hA ho hu
 refine q_e ?_; intro HX
 have HSh := a_2 (show ∀ W, Below w.heap.size w W → Calls prog 207 #[.agg #[.int .i64 6, str s.src, .slice a.nA s.names.length a.nC, .slice a.oA s.others.length a.oC, .slice a.iA s.items.length a.iC, .slice a.cA s.cond.length a.cC]] W (fun e w' => e = .returned (.bool true) ∧ Below W.heap.size W w') from fun W hb => by
  refine j_l ?_; intro h
  rw [hu, hop] at h
  exact h)
 have HBx := a_2 (fun w1 (h : Below (w.heap.size + 1) (w.alloc (.cells #[.int .i64 6, str s.src, .slice a.nA s.names.length a.nC, .slice a.oA s.others.length a.oC, .slice a.iA s.items.length a.iC, .slice a.cA s.cond.length a.cC] 129)) w1) => show b_r w1 w.heap.size s a from d_l (t := 129) (by unfold Stp.cells; rw [hop]; exact h))
 refine k_8 ?_; intro HW HA HO HOp
 have hbox : Below (w.heap.size + 1) (w.alloc (.cells #[.int .i64 6, str s.src, .slice a.nA s.names.length a.nC, .slice a.oA s.others.length a.oC, .slice a.iA s.items.length a.iC, .slice a.cA s.cond.length a.cC] 129)) (w.alloc (.cells #[.int .i64 6, str s.src, .slice a.nA s.names.length a.nC, .slice a.oA s.others.length a.oC, .slice a.iA s.items.length a.iC, .slice a.cA s.cond.length a.cC] 129)) := b_ _ _
 show Calls prog 160 #[.agg #[.int .i64 s.op, str s.src, .slice a.nA s.names.length a.nC, .slice a.oA s.others.length a.oC, .slice a.iA s.items.length a.iC, .slice a.cA s.cond.length a.cC]] w _
 rw [hop]
 have HI := a_2 (show s.items = [] from by
  have h := hu
  rw [hop] at h
  unfold b_z at h
  simp at h
  exact List.eq_nil_of_length_eq_zero (by first | omega | (simp_all; done) | (simp at h; omega)))
 clear hW hU hA ho hu hop
 have HJ := a_2 (HX.out.trans (i_p HI.out))
 have H2 := a_2 (fun (w1 V : World) (hbx : b_r w1 w.heap.size s a) (hw1 : Below w.heap.size w w1) (hV : Below w1.heap.size w1 V) (h3 : w1.heap.size < V.heap.size) (hf : V.cell? ⟨w1.heap.size, 0, none⟩ = some (.func (.func 208) #[] #[a_f w.heap.size])) =>
  e_Q w1.heap.size w.heap.size s a V (HW.out.below (a_9 hV hw1)) (hbx.below hV) h3 hf (HA.out.below (a_9 hV hw1)) HO.out)
 clear HX HI
 generalize f_Z s = v1 at *
 generalize opS s = r at *
 have eg : ∀ args W, (callFunc 210 args).run prog W = .ok (.enter 210 args) W := fun args W => by kernel_rfl
 go_enter func160, ntmps160
 go_wp2_with (first
  | (go_at_call 207; refine (HSh.out _ (a_5 hbox)).mono ?_; rintro e w1 ⟨rfl, hb1⟩; have hcur := a_1 hbox s_ hb1; clear hbox; have hbx := HBx.out _ hcur; obtain ⟨hlw, c0, c1, c2, c3, c4, c5⟩ := HBx.out _ hcur; rw [HOp.out] at c0; have hw1 := a_5 hcur; have hwb : Below w1.heap.size w1 (w1.alloc (.cells #[.func (.func 208) #[] #[a_f w.heap.size]] 80)) := zX; have hff : (w1.alloc (.cells #[.func (.func 208) #[] #[a_f w.heap.size]] 80)).cell? ⟨w1.heap.size, 0, none⟩ = some (.func (.func 208) #[] #[a_f w.heap.size]) := (by simp [go_sem]); have hfl : w1.heap.size < (w1.alloc (.cells #[.func (.func 208) #[] #[a_f w.heap.size]] 80)).heap.size := s_)
  | (go_at_fn 210; refine ((H2.out w1 _ hbx hw1 hwb hfl hff).2 _ (b_ _ _)).mono ?_; rintro e w2 ⟨rfl, hb2⟩))
 go_ret
 exact ⟨a_d HJ.out.symm, a_9 hb2 (a_9 hwb hw1)⟩
theorem r_8 (s : Stp) (hop : s.op = 7) : f_3 s := by
 intro a w hW hU hA ho hu
 refine q_e ?_; intro HX
 have HSh := a_2 (show ∀ W, Below w.heap.size w W → Calls prog 207 #[.agg #[.int .i64 7, str s.src, .slice a.nA s.names.length a.nC, .slice a.oA s.others.length a.oC, .slice a.iA s.items.length a.iC, .slice a.cA s.cond.length a.cC]] W (fun e w' => e = .returned (.bool true) ∧ Below W.heap.size W w') from fun W hb => by
  refine j_l ?_; intro h
  rw [hu, hop] at h
  exact h)
 have HBx := a_2 (fun w1 (h : Below (w.heap.size + 1) (w.alloc (.cells #[.int .i64 7, str s.src, .slice a.nA s.names.length a.nC, .slice a.oA s.others.length a.oC, .slice a.iA s.items.length a.iC, .slice a.cA s.cond.length a.cC] 129)) w1) => show b_r w1 w.heap.size s a from d_l (t := 129) (by unfold Stp.cells; rw [hop]; exact h))
 refine k_8 ?_; intro HW HA HO HOp
 have hbox : Below (w.heap.size + 1) (w.alloc (.cells #[.int .i64 7, str s.src, .slice a.nA s.names.length a.nC, .slice a.oA s.others.length a.oC, .slice a.iA s.items.length a.iC, .slice a.cA s.cond.length a.cC] 129)) (w.alloc (.cells #[.int .i64 7, str s.src, .slice a.nA s.names.length a.nC, .slice a.oA s.others.length a.oC, .slice a.iA s.items.length a.iC, .slice a.cA s.cond.length a.cC] 129)) := b_ _ _
 show Calls prog 160 #[.agg #[.int .i64 s.op, str s.src, .slice a.nA s.names.length a.nC, .slice a.oA s.others.length a.oC, .slice a.iA s.items.length a.iC, .slice a.cA s.cond.length a.cC]] w _
 rw [hop]
 have HI := a_2 (show s.items = [] from by
  have h := hu
  rw [hop] at h
  unfold b_z at h
  simp at h
  exact List.eq_nil_of_length_eq_zero (by first | omega | (simp_all; done) | (simp at h; omega)))
 clear hW hU hA ho hu hop
 have HJ := a_2 (HX.out.trans (i_p HI.out))
 have H2 := a_2 (fun (w1 V : World) (hbx : b_r w1 w.heap.size s a) (hw1 : Below w.heap.size w w1) (hV : Below w1.heap.size w1 V) (h3 : w1.heap.size < V.heap.size) (hf : V.cell? ⟨w1.heap.size, 0, none⟩ = some (.func (.func 208) #[] #[a_f w.heap.size])) =>
  e_Q w1.heap.size w.heap.size s a V (HW.out.below (a_9 hV hw1)) (hbx.below hV) h3 hf (HA.out.below (a_9 hV hw1)) HO.out)
 clear HX HI
 generalize f_Z s = v1 at *
 generalize opS s = r at *
 have eg : ∀ args W, (callFunc 210 args).run prog W = .ok (.enter 210 args) W := fun args W => by kernel_rfl
 go_enter func160, ntmps160
 go_wp2_with (first
  | (go_at_call 207; refine (HSh.out _ (a_5 hbox)).mono ?_; rintro e w1 ⟨rfl, hb1⟩; have hcur := a_1 hbox s_ hb1; clear hbox; have hbx := HBx.out _ hcur; obtain ⟨hlw, c0, c1, c2, c3, c4, c5⟩ := HBx.out _ hcur; rw [HOp.out] at c0; have hw1 := a_5 hcur; have hwb : Below w1.heap.size w1 (w1.alloc (.cells #[.func (.func 208) #[] #[a_f w.heap.size]] 80)) := zX; have hff : (w1.alloc (.cells #[.func (.func 208) #[] #[a_f w.heap.size]] 80)).cell? ⟨w1.heap.size, 0, none⟩ = some (.func (.func 208) #[] #[a_f w.heap.size]) := (by simp [go_sem]); have hfl : w1.heap.size < (w1.alloc (.cells #[.func (.func 208) #[] #[a_f w.heap.size]] 80)).heap.size := s_)
  | (go_at_fn 210; refine ((H2.out w1 _ hbx hw1 hwb hfl hff).2 _ (b_ _ _)).mono ?_; rintro e w2 ⟨rfl, hb2⟩))
 go_ret
 exact ⟨a_d HJ.out.symm, a_9 hb2 (a_9 hwb hw1)⟩
theorem r_k (s : Stp) (hop : s.op = 8) : f_3 s := by
 intro a w hW hU hA ho hu
 have HX := a_2 (show opS s = c_E s.src from by unfold opS; simp [hop])
 have HSh := a_2 (show ∀ W, Below w.heap.size w W → Calls prog 207 #[.agg #[.int .i64 8, str s.src, .slice a.nA s.names.length a.nC, .slice a.oA s.others.length a.oC, .slice a.iA s.items.length a.iC, .slice a.cA s.cond.length a.cC]] W (fun e w' => e = .returned (.bool true) ∧ Below W.heap.size W w') from fun W hb => by
  refine j_l ?_; intro h
  rw [hu, hop] at h
  exact h)
 have HBx := a_2 (fun w1 (h : Below (w.heap.size + 1) (w.alloc (.cells #[.int .i64 8, str s.src, .slice a.nA s.names.length a.nC, .slice a.oA s.others.length a.oC, .slice a.iA s.items.length a.iC, .slice a.cA s.cond.length a.cC] 129)) w1) => show b_r w1 w.heap.size s a from d_l (t := 129) (by unfold Stp.cells; rw [hop]; exact h))
 refine k_8 ?_; intro HW HA HO HOp
 have hbox : Below (w.heap.size + 1) (w.alloc (.cells #[.int .i64 8, str s.src, .slice a.nA s.names.length a.nC, .slice a.oA s.others.length a.oC, .slice a.iA s.items.length a.iC, .slice a.cA s.cond.length a.cC] 129)) (w.alloc (.cells #[.int .i64 8, str s.src, .slice a.nA s.names.length a.nC, .slice a.oA s.others.length a.oC, .slice a.iA s.items.length a.iC, .slice a.cA s.cond.length a.cC] 129)) := b_ _ _
 show Calls prog 160 #[.agg #[.int .i64 s.op, str s.src, .slice a.nA s.names.length a.nC, .slice a.oA s.others.length a.oC, .slice a.iA s.items.length a.iC, .slice a.cA s.cond.length a.cC]] w _
 rw [hop]
 clear hW hU hA ho hu hop
 have H1 := a_2 (fun (w1 V : World) (hbx : b_r w1 w.heap.size s a) (hw1 : Below w.heap.size w w1) (hV : Below w1.heap.size w1 V) =>
  g_s w.heap.size s a V (HW.out.below (a_9 hV hw1)) (hbx.below hV) HO.out)
 generalize c_E s.src = v1 at *
 generalize opS s = r at *
 have eg : ∀ args W, (callFunc 208 args).run prog W = .ok (.enter 208 args) W := fun args W => by kernel_rfl
 go_enter func160, ntmps160
 go_wp2_with (first
  | (go_at_call 207; refine (HSh.out _ (a_5 hbox)).mono ?_; rintro e w1 ⟨rfl, hb1⟩; have hcur := a_1 hbox s_ hb1; clear hbox; have hbx := HBx.out _ hcur; obtain ⟨hlw, c0, c1, c2, c3, c4, c5⟩ := HBx.out _ hcur; rw [HOp.out] at c0; have hw1 := a_5 hcur; have hwb : Below w1.heap.size w1 (w1.alloc (.cells #[.func (.func 208) #[] #[a_f w.heap.size]] 80)) := zX; have hff : (w1.alloc (.cells #[.func (.func 208) #[] #[a_f w.heap.size]] 80)).cell? ⟨w1.heap.size, 0, none⟩ = some (.func (.func 208) #[] #[a_f w.heap.size]) := (by simp [go_sem]); have hfl : w1.heap.size < (w1.alloc (.cells #[.func (.func 208) #[] #[a_f w.heap.size]] 80)).heap.size := s_)
  | (go_at_fn 208; refine ((H1.out w1 _ hbx hw1 hwb).2 _ (b_ _ _)).mono ?_; rintro e w2 ⟨rfl, hb2⟩))
 exact o_E
theorem q_p (s : Stp) (hop : s.op = 9) : f_3 s := by
 intro a w hW hU hA ho hu
 have HX := a_2 (show opS s = c_E s.src from by unfold opS; simp [hop])
 have HSh := a_2 (show ∀ W, Below w.heap.size w W → Calls prog 207 #[.agg #[.int .i64 9, str s.src, .slice a.nA s.names.length a.nC, .slice a.oA s.others.length a.oC, .slice a.iA s.items.length a.iC, .slice a.cA s.cond.length a.cC]] W (fun e w' => e = .returned (.bool true) ∧ Below W.heap.size W w') from fun W hb => by
  refine j_l ?_; intro h
  rw [hu, hop] at h
  exact h)
 have HBx := a_2 (fun w1 (h : Below (w.heap.size + 1) (w.alloc (.cells #[.int .i64 9, str s.src, .slice a.nA s.names.length a.nC, .slice a.oA s.others.length a.oC, .slice a.iA s.items.length a.iC, .slice a.cA s.cond.length a.cC] 129)) w1) => show b_r w1 w.heap.size s a from d_l (t := 129) (by unfold Stp.cells; rw [hop]; exact h))
 refine k_8 ?_; intro HW HA HO HOp
 have hbox : Below (w.heap.size + 1) (w.alloc (.cells #[.int .i64 9, str s.src, .slice a.nA s.names.length a.nC, .slice a.oA s.others.length a.oC, .slice a.iA s.items.length a.iC, .slice a.cA s.cond.length a.cC] 129)) (w.alloc (.cells #[.int .i64 9, str s.src, .slice a.nA s.names.length a.nC, .slice a.oA s.others.length a.oC, .slice a.iA s.items.length a.iC, .slice a.cA s.cond.length a.cC] 129)) := b_ _ _
 show Calls prog 160 #[.agg #[.int .i64 s.op, str s.src, .slice a.nA s.names.length a.nC, .slice a.oA s.others.length a.oC, .slice a.iA s.items.length a.iC, .slice a.cA s.cond.length a.cC]] w _
 rw [hop]
 clear hW hU hA ho hu hop
 have H1 := a_2 (fun (w1 V : World) (hbx : b_r w1 w.heap.size s a) (hw1 : Below w.heap.size w w1) (hV : Below w1.heap.size w1 V) =>
  g_s w.heap.size s a V (HW.out.below (a_9 hV hw1)) (hbx.below hV) HO.out)
 generalize c_E s.src = v1 at *
 generalize opS s = r at *
 have eg : ∀ args W, (callFunc 208 args).run prog W = .ok (.enter 208 args) W := fun args W => by kernel_rfl
 go_enter func160, ntmps160
 go_wp2_with (first
  | (go_at_call 207; refine (HSh.out _ (a_5 hbox)).mono ?_; rintro e w1 ⟨rfl, hb1⟩; have hcur := a_1 hbox s_ hb1; clear hbox; have hbx := HBx.out _ hcur; obtain ⟨hlw, c0, c1, c2, c3, c4, c5⟩ := HBx.out _ hcur; rw [HOp.out] at c0; have hw1 := a_5 hcur; have hwb : Below w1.heap.size w1 (w1.alloc (.cells #[.func (.func 208) #[] #[a_f w.heap.size]] 80)) := zX; have hff : (w1.alloc (.cells #[.func (.func 208) #[] #[a_f w.heap.size]] 80)).cell? ⟨w1.heap.size, 0, none⟩ = some (.func (.func 208) #[] #[a_f w.heap.size]) := (by simp [go_sem]); have hfl : w1.heap.size < (w1.alloc (.cells #[.func (.func 208) #[] #[a_f w.heap.size]] 80)).heap.size := s_)
  | (go_at_fn 208; refine ((H1.out w1 _ hbx hw1 hwb).2 _ (b_ _ _)).mono ?_; rintro e w2 ⟨rfl, hb2⟩))
 exact o_E
theorem p_p (s : Stp) (hop : s.op = 10) : f_3 s := by
 intro a w hW hU hA ho hu
 have HX := a_2 (show opS s = 0 from by unfold opS; simp [hop])
 have HSh := a_2 (show ∀ W, Below w.heap.size w W → Calls prog 207 #[.agg #[.int .i64 10, str s.src, .slice a.nA s.names.length a.nC, .slice a.oA s.others.length a.oC, .slice a.iA s.items.length a.iC, .slice a.cA s.cond.length a.cC]] W (fun e w' => e = .returned (.bool true) ∧ Below W.heap.size W w') from fun W hb => by
  refine j_l ?_; intro h
  rw [hu, hop] at h
  exact h)
 have HBx := a_2 (fun w1 (h : Below (w.heap.size + 1) (w.alloc (.cells #[.int .i64 10, str s.src, .slice a.nA s.names.length a.nC, .slice a.oA s.others.length a.oC, .slice a.iA s.items.length a.iC, .slice a.cA s.cond.length a.cC] 129)) w1) => show b_r w1 w.heap.size s a from d_l (t := 129) (by unfold Stp.cells; rw [hop]; exact h))
 refine k_8 ?_; intro HW HA HO HOp
 have hbox : Below (w.heap.size + 1) (w.alloc (.cells #[.int .i64 10, str s.src, .slice a.nA s.names.length a.nC, .slice a.oA s.others.length a.oC, .slice a.iA s.items.length a.iC, .slice a.cA s.cond.length a.cC] 129)) (w.alloc (.cells #[.int .i64 10, str s.src, .slice a.nA s.names.length a.nC, .slice a.oA s.others.length a.oC, .slice a.iA s.items.length a.iC, .slice a.cA s.cond.length a.cC] 129)) := b_ _ _
 show Calls prog 160 #[.agg #[.int .i64 s.op, str s.src, .slice a.nA s.names.length a.nC, .slice a.oA s.others.length a.oC, .slice a.iA s.items.length a.iC, .slice a.cA s.cond.length a.cC]] w _
 rw [hop]
 clear hW hU hA ho hu hop
 generalize opS s = r at *
 go_enter func160, ntmps160
 go_wp2_with (go_at_call 207; refine (HSh.out _ (a_5 hbox)).mono ?_; rintro e w1 ⟨rfl, hb1⟩; have hcur := a_1 hbox s_ hb1; clear hbox; have hbx := HBx.out _ hcur; obtain ⟨hlw, c0, c1, c2, c3, c4, c5⟩ := HBx.out _ hcur; rw [HOp.out] at c0; have hw1 := a_5 hcur; have hwb : Below w1.heap.size w1 (w1.alloc (.cells #[.func (.func 208) #[] #[a_f w.heap.size]] 80)) := zX; have hff : (w1.alloc (.cells #[.func (.func 208) #[] #[a_f w.heap.size]] 80)).cell? ⟨w1.heap.size, 0, none⟩ = some (.func (.func 208) #[] #[a_f w.heap.size]) := (by simp [go_sem]); have hfl : w1.heap.size < (w1.alloc (.cells #[.func (.func 208) #[] #[a_f w.heap.size]] 80)).heap.size := s_)
 go_ret
 exact ⟨a_d HX.out.symm, a_9 hwb hw1⟩
end Go.Proofs.YtnpjibaolicbmaaGreatDoor
