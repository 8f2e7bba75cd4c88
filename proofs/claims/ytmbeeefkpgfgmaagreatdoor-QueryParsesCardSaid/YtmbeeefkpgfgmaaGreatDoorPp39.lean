/- Parts of the proof. -/
import Derived.Test.YtmbeeefkpgfgmaaGreatDoorPp38
import Derived.Test.YtmbeeefkpgfgmaaGreatDoorPp35
import Derived.Deep.Cut
set_option linter.unusedVariables false
set_option linter.unusedSimpArgs false
set_option maxHeartbeats 16000000
namespace Go.Proofs.YtmbeeefkpgfgmaaGreatDoor
open Go.Proofs.Tryz
open Go.RowKit
set_option maxRecDepth 100000
theorem u_J (s : Stp) (hop : s.op = 4) : g_8 s := by
 intro a w hW hU hA ho hu
 refine _ak ?_; intro HX
 have HSh := a_0 (show ∀ W, Below w.heap.size w W → Calls prog 36 #[.agg #[.int .i64 4, str s.src, .slice a.nA s.names.length a.nC, .slice a.oA s.others.length a.oC, .slice a.iA s.items.length a.iC, .slice a.cA s.cond.length a.cC]] W (fun e w' => e = .returned (.bool true) ∧ Below W.heap.size W w') from fun W hb => by
  refine l_N ?_; intro h
  rw [hu, hop] at h
  exact h)
 have HBx := a_0 (fun w1 (h : Below (w.heap.size + 1) (w.alloc (.cells #[.int .i64 4, str s.src, .slice a.nA s.names.length a.nC, .slice a.oA s.others.length a.oC, .slice a.iA s.items.length a.iC, .slice a.cA s.cond.length a.cC] 27)) w1) => show b_E w1 w.heap.size s a from d_U (t := 27) (by unfold Stp.cells; rw [hop]; exact h))
 refine m_W ?_; intro HW HA HO HOp
 have hbox : Below (w.heap.size + 1) (w.alloc (.cells #[.int .i64 4, str s.src, .slice a.nA s.names.length a.nC, .slice a.oA s.others.length a.oC, .slice a.iA s.items.length a.iC, .slice a.cA s.cond.length a.cC] 27)) (w.alloc (.cells #[.int .i64 4, str s.src, .slice a.nA s.names.length a.nC, .slice a.oA s.others.length a.oC, .slice a.iA s.items.length a.iC, .slice a.cA s.cond.length a.cC] 27)) := b_ _ _
 show Calls prog 15 #[.agg #[.int .i64 s.op, str s.src, .slice a.nA s.names.length a.nC, .slice a.oA s.others.length a.oC, .slice a.iA s.items.length a.iC, .slice a.cA s.cond.length a.cC]] w _
 rw [hop]
 clear hW hU hA ho hu hop
 have HJ := a_0 (HX.out.trans (h_s s))
 have H2 := a_0 (fun (w1 V : World) (hbx : b_E w1 w.heap.size s a) (hw1 : Below w.heap.size w w1) (hV : Below w1.heap.size w1 V) (h3 : w1.heap.size < V.heap.size) (hf : V.cell? ⟨w1.heap.size, 0, none⟩ = some (.func (.func 37) #[] #[a_N w.heap.size])) =>
  f_Z w1.heap.size w.heap.size s a V (HW.out.below (a_n hV hw1)) (hbx.below hV) h3 hf (HA.out.below (a_n hV hw1)) HO.out)
 refine w_v ?_; intro H4
 clear HX
 generalize h_1 s = v1 at *
 generalize a_F s.items 0 false true false false (fun x => c_f x.col) = v2 at *
 generalize opS s = r at *
 go_enter func15, ntmps15
 go_wp2_with (go_at_call 36; refine (HSh.out _ (a_5 hbox)).mono ?_; rintro e w1 ⟨rfl, hb1⟩; have hcur := a_4 hbox s_ hb1; clear hbox; have hbx := HBx.out _ hcur; obtain ⟨hlw, c0, c1, c2, c3, c4, c5⟩ := HBx.out _ hcur; rw [HOp.out] at c0; have hw1 := a_5 hcur; have hwb : Below w1.heap.size w1 (w1.alloc (.cells #[.func (.func 37) #[] #[a_N w.heap.size]] 73)) := zX; have hff : (w1.alloc (.cells #[.func (.func 37) #[] #[a_N w.heap.size]] 73)).cell? ⟨w1.heap.size, 0, none⟩ = some (.func (.func 37) #[] #[a_N w.heap.size]) := (by simp [go_sem]); have hfl : w1.heap.size < (w1.alloc (.cells #[.func (.func 37) #[] #[a_N w.heap.size]] 73)).heap.size := s_)
 refine w_q ?_; intro hV T2 T4
 refine (c_x (w1.heap.size + 1) 2 [⟨39, #[a_N w1.heap.size, a_N w.heap.size], v1⟩, ⟨48, #[a_N w.heap.size], v2⟩] _ s_ (show (2 : Nat) ≤ 10 from by decide) (fun j h => ?_) (fun j h => ?_)).mono ?_
 ·have h9 : j < 2 := h
  match j, h9 with
  | 0, _ => simp [go_sem]
  | 1, _ => simp [go_sem]
 ·have h9 : j < 2 := h
  match j, h9 with
  | 0, _ => exact T2
  | 1, _ => exact T4
 rintro e w2 ⟨rfl, hb2⟩
 go_wp2
 go_ret
 exact ⟨a_k (by rw [HJ.out, ← two]; rfl), a_n hb2 (a_n hV hw1)⟩
theorem u_G (s : Stp) (hop : s.op = 5) : g_8 s := by
 intro a w hW hU hA ho hu
 refine _ak ?_; intro HX
 have HSh := a_0 (show ∀ W, Below w.heap.size w W → Calls prog 36 #[.agg #[.int .i64 5, str s.src, .slice a.nA s.names.length a.nC, .slice a.oA s.others.length a.oC, .slice a.iA s.items.length a.iC, .slice a.cA s.cond.length a.cC]] W (fun e w' => e = .returned (.bool true) ∧ Below W.heap.size W w') from fun W hb => by
  refine l_N ?_; intro h
  rw [hu, hop] at h
  exact h)
 have HBx := a_0 (fun w1 (h : Below (w.heap.size + 1) (w.alloc (.cells #[.int .i64 5, str s.src, .slice a.nA s.names.length a.nC, .slice a.oA s.others.length a.oC, .slice a.iA s.items.length a.iC, .slice a.cA s.cond.length a.cC] 27)) w1) => show b_E w1 w.heap.size s a from d_U (t := 27) (by unfold Stp.cells; rw [hop]; exact h))
 refine m_W ?_; intro HW HA HO HOp
 have hbox : Below (w.heap.size + 1) (w.alloc (.cells #[.int .i64 5, str s.src, .slice a.nA s.names.length a.nC, .slice a.oA s.others.length a.oC, .slice a.iA s.items.length a.iC, .slice a.cA s.cond.length a.cC] 27)) (w.alloc (.cells #[.int .i64 5, str s.src, .slice a.nA s.names.length a.nC, .slice a.oA s.others.length a.oC, .slice a.iA s.items.length a.iC, .slice a.cA s.cond.length a.cC] 27)) := b_ _ _
 show Calls prog 15 #[.agg #[.int .i64 s.op, str s.src, .slice a.nA s.names.length a.nC, .slice a.oA s.others.length a.oC, .slice a.iA s.items.length a.iC, .slice a.cA s.cond.length a.cC]] w _
 rw [hop]
 clear hW hU hA ho hu hop
 have HJ := a_0 (HX.out.trans (h_s s))
 have H2 := a_0 (fun (w1 V : World) (hbx : b_E w1 w.heap.size s a) (hw1 : Below w.heap.size w w1) (hV : Below w1.heap.size w1 V) (h3 : w1.heap.size < V.heap.size) (hf : V.cell? ⟨w1.heap.size, 0, none⟩ = some (.func (.func 37) #[] #[a_N w.heap.size])) =>
  f_Z w1.heap.size w.heap.size s a V (HW.out.below (a_n hV hw1)) (hbx.below hV) h3 hf (HA.out.below (a_n hV hw1)) HO.out)
 refine w_v ?_; intro H4
 clear HX
 generalize h_1 s = v1 at *
 generalize a_F s.items 0 false true false false (fun x => c_f x.col) = v2 at *
 generalize opS s = r at *
 go_enter func15, ntmps15
 go_wp2_with (go_at_call 36; refine (HSh.out _ (a_5 hbox)).mono ?_; rintro e w1 ⟨rfl, hb1⟩; have hcur := a_4 hbox s_ hb1; clear hbox; have hbx := HBx.out _ hcur; obtain ⟨hlw, c0, c1, c2, c3, c4, c5⟩ := HBx.out _ hcur; rw [HOp.out] at c0; have hw1 := a_5 hcur; have hwb : Below w1.heap.size w1 (w1.alloc (.cells #[.func (.func 37) #[] #[a_N w.heap.size]] 73)) := zX; have hff : (w1.alloc (.cells #[.func (.func 37) #[] #[a_N w.heap.size]] 73)).cell? ⟨w1.heap.size, 0, none⟩ = some (.func (.func 37) #[] #[a_N w.heap.size]) := (by simp [go_sem]); have hfl : w1.heap.size < (w1.alloc (.cells #[.func (.func 37) #[] #[a_N w.heap.size]] 73)).heap.size := s_)
 refine w_q ?_; intro hV T2 T4
 refine (c_x (w1.heap.size + 1) 2 [⟨39, #[a_N w1.heap.size, a_N w.heap.size], v1⟩, ⟨48, #[a_N w.heap.size], v2⟩] _ s_ (show (2 : Nat) ≤ 10 from by decide) (fun j h => ?_) (fun j h => ?_)).mono ?_
 ·have h9 : j < 2 := h
  match j, h9 with
  | 0, _ => simp [go_sem]
  | 1, _ => simp [go_sem]
 ·have h9 : j < 2 := h
  match j, h9 with
  | 0, _ => exact T2
  | 1, _ => exact T4
 rintro e w2 ⟨rfl, hb2⟩
 go_wp2
 go_ret
 exact ⟨a_k (by rw [HJ.out, ← two]; rfl), a_n hb2 (a_n hV hw1)⟩
set_option maxRecDepth 100000
theorem v_9 (s : Stp) (hop : s.op = 6) : g_8 s := by
 intro a w hW hU hA ho hu
 refine _ak ?_; intro HX
 have HSh := a_0 (show ∀ W, Below w.heap.size w W → Calls prog 36 #[.agg #[.int .i64 6, str s.src, .slice a.nA s.names.length a.nC, .slice a.oA s.others.length a.oC, .slice a.iA s.items.length a.iC, .slice a.cA s.cond.length a.cC]] W (fun e w' => e = .returned (.bool true) ∧ Below W.heap.size W w') from fun W hb => by
  refine l_N ?_; intro h
  rw [hu, hop] at h
  exact h)
 have HBx := a_0 (fun w1 (h : Below (w.heap.size + 1) (w.alloc (.cells #[.int .i64 6, str s.src, .slice a.nA s.names.length a.nC, .slice a.oA s.others.length a.oC, .slice a.iA s.items.length a.iC, .slice a.cA s.cond.length a.cC] 27)) w1) => show b_E w1 w.heap.size s a from d_U (t := 27) (by unfold Stp.cells; rw [hop]; exact h))
 refine m_W ?_; intro HW HA HO HOp
 have hbox : Below (w.heap.size + 1) (w.alloc (.cells #[.int .i64 6, str s.src, .slice a.nA s.names.length a.nC, .slice a.oA s.others.length a.oC, .slice a.iA s.items.length a.iC, .slice a.cA s.cond.length a.cC] 27)) (w.alloc (.cells #[.int .i64 6, str s.src, .slice a.nA s.names.length a.nC, .slice a.oA s.others.length a.oC, .slice a.iA s.items.length a.iC, .slice a.cA s.cond.length a.cC] 27)) := b_ _ _
 show Calls prog 15 #[.agg #[.int .i64 s.op, str s.src, .slice a.nA s.names.length a.nC, .slice a.oA s.others.length a.oC, .slice a.iA s.items.length a.iC, .slice a.cA s.cond.length a.cC]] w _
 rw [hop]
 have HI := a_0 (show s.items = [] from by
  have h := hu
  rw [hop] at h
  unfold a_W at h
  simp at h
  exact List.eq_nil_of_length_eq_zero (by first | omega | (simp_all; done) | (simp at h; omega)))
 clear hW hU hA ho hu hop
 have HJ := a_0 (HX.out.trans (k_9 HI.out))
 have H2 := a_0 (fun (w1 V : World) (hbx : b_E w1 w.heap.size s a) (hw1 : Below w.heap.size w w1) (hV : Below w1.heap.size w1 V) (h3 : w1.heap.size < V.heap.size) (hf : V.cell? ⟨w1.heap.size, 0, none⟩ = some (.func (.func 37) #[] #[a_N w.heap.size])) =>
  f_Z w1.heap.size w.heap.size s a V (HW.out.below (a_n hV hw1)) (hbx.below hV) h3 hf (HA.out.below (a_n hV hw1)) HO.out)
 clear HX HI
 generalize h_1 s = v1 at *
 generalize opS s = r at *
 have eg : ∀ args W, (callFunc 39 args).run prog W = .ok (.enter 39 args) W := fun args W => by kernel_rfl
 go_enter func15, ntmps15
 go_wp2_with (first
  | (go_at_call 36; refine (HSh.out _ (a_5 hbox)).mono ?_; rintro e w1 ⟨rfl, hb1⟩; have hcur := a_4 hbox s_ hb1; clear hbox; have hbx := HBx.out _ hcur; obtain ⟨hlw, c0, c1, c2, c3, c4, c5⟩ := HBx.out _ hcur; rw [HOp.out] at c0; have hw1 := a_5 hcur; have hwb : Below w1.heap.size w1 (w1.alloc (.cells #[.func (.func 37) #[] #[a_N w.heap.size]] 73)) := zX; have hff : (w1.alloc (.cells #[.func (.func 37) #[] #[a_N w.heap.size]] 73)).cell? ⟨w1.heap.size, 0, none⟩ = some (.func (.func 37) #[] #[a_N w.heap.size]) := (by simp [go_sem]); have hfl : w1.heap.size < (w1.alloc (.cells #[.func (.func 37) #[] #[a_N w.heap.size]] 73)).heap.size := s_)
  | (go_at_fn 39; refine ((H2.out w1 _ hbx hw1 hwb hfl hff).2 _ (b_ _ _)).mono ?_; rintro e w2 ⟨rfl, hb2⟩))
 go_ret
 exact ⟨a_k HJ.out.symm, a_n hb2 (a_n hwb hw1)⟩
theorem u_m (s : Stp) (hop : s.op = 7) : g_8 s := by
 intro a w hW hU hA ho hu
 refine _ak ?_; intro HX
 have HSh := a_0 (show ∀ W, Below w.heap.size w W → Calls prog 36 #[.agg #[.int .i64 7, str s.src, .slice a.nA s.names.length a.nC, .slice a.oA s.others.length a.oC, .slice a.iA s.items.length a.iC, .slice a.cA s.cond.length a.cC]] W (fun e w' => e = .returned (.bool true) ∧ Below W.heap.size W w') from fun W hb => by
  refine l_N ?_; intro h
  rw [hu, hop] at h
  exact h)
 have HBx := a_0 (fun w1 (h : Below (w.heap.size + 1) (w.alloc (.cells #[.int .i64 7, str s.src, .slice a.nA s.names.length a.nC, .slice a.oA s.others.length a.oC, .slice a.iA s.items.length a.iC, .slice a.cA s.cond.length a.cC] 27)) w1) => show b_E w1 w.heap.size s a from d_U (t := 27) (by unfold Stp.cells; rw [hop]; exact h))
 refine m_W ?_; intro HW HA HO HOp
 have hbox : Below (w.heap.size + 1) (w.alloc (.cells #[.int .i64 7, str s.src, .slice a.nA s.names.length a.nC, .slice a.oA s.others.length a.oC, .slice a.iA s.items.length a.iC, .slice a.cA s.cond.length a.cC] 27)) (w.alloc (.cells #[.int .i64 7, str s.src, .slice a.nA s.names.length a.nC, .slice a.oA s.others.length a.oC, .slice a.iA s.items.length a.iC, .slice a.cA s.cond.length a.cC] 27)) := b_ _ _
 show Calls prog 15 #[.agg #[.int .i64 s.op, str s.src, .slice a.nA s.names.length a.nC, .slice a.oA s.others.length a.oC, .slice a.iA s.items.length a.iC, .slice a.cA s.cond.length a.cC]] w _
 rw [hop]
 have HI := a_0 (show s.items = [] from by
  have h := hu
  rw [hop] at h
  unfold a_W at h
  simp at h
  exact List.eq_nil_of_length_eq_zero (by first | omega | (simp_all; done) | (simp at h; omega)))
 clear hW hU hA ho hu hop
 have HJ := a_0 (HX.out.trans (k_9 HI.out))
 have H2 := a_0 (fun (w1 V : World) (hbx : b_E w1 w.heap.size s a) (hw1 : Below w.heap.size w w1) (hV : Below w1.heap.size w1 V) (h3 : w1.heap.size < V.heap.size) (hf : V.cell? ⟨w1.heap.size, 0, none⟩ = some (.func (.func 37) #[] #[a_N w.heap.size])) =>
  f_Z w1.heap.size w.heap.size s a V (HW.out.below (a_n hV hw1)) (hbx.below hV) h3 hf (HA.out.below (a_n hV hw1)) HO.out)
 clear HX HI
 generalize h_1 s = v1 at *
 generalize opS s = r at *
 have eg : ∀ args W, (callFunc 39 args).run prog W = .ok (.enter 39 args) W := fun args W => by kernel_rfl
 go_enter func15, ntmps15
 go_wp2_with (first
  | (go_at_call 36; refine (HSh.out _ (a_5 hbox)).mono ?_; rintro e w1 ⟨rfl, hb1⟩; have hcur := a_4 hbox s_ hb1; clear hbox; have hbx := HBx.out _ hcur; obtain ⟨hlw, c0, c1, c2, c3, c4, c5⟩ := HBx.out _ hcur; rw [HOp.out] at c0; have hw1 := a_5 hcur; have hwb : Below w1.heap.size w1 (w1.alloc (.cells #[.func (.func 37) #[] #[a_N w.heap.size]] 73)) := zX; have hff : (w1.alloc (.cells #[.func (.func 37) #[] #[a_N w.heap.size]] 73)).cell? ⟨w1.heap.size, 0, none⟩ = some (.func (.func 37) #[] #[a_N w.heap.size]) := (by simp [go_sem]); have hfl : w1.heap.size < (w1.alloc (.cells #[.func (.func 37) #[] #[a_N w.heap.size]] 73)).heap.size := s_)
  | (go_at_fn 39; refine ((H2.out w1 _ hbx hw1 hwb hfl hff).2 _ (b_ _ _)).mono ?_; rintro e w2 ⟨rfl, hb2⟩))
 go_ret
 exact ⟨a_k HJ.out.symm, a_n hb2 (a_n hwb hw1)⟩
theorem v_e (s : Stp) (hop : s.op = 8) : g_8 s := by
 intro a w hW hU hA ho hu
 have HX := a_0 (show opS s = d_3 s.src from by unfold opS; simp [hop])
 have HSh := a_0 (show ∀ W, Below w.heap.size w W → Calls prog 36 #[.agg #[.int .i64 8, str s.src, .slice a.nA s.names.length a.nC, .slice a.oA s.others.length a.oC, .slice a.iA s.items.length a.iC, .slice a.cA s.cond.length a.cC]] W (fun e w' => e = .returned (.bool true) ∧ Below W.heap.size W w') from fun W hb => by
  refine l_N ?_; intro h
  rw [hu, hop] at h
  exact h)
 have HBx := a_0 (fun w1 (h : Below (w.heap.size + 1) (w.alloc (.cells #[.int .i64 8, str s.src, .slice a.nA s.names.length a.nC, .slice a.oA s.others.length a.oC, .slice a.iA s.items.length a.iC, .slice a.cA s.cond.length a.cC] 27)) w1) => show b_E w1 w.heap.size s a from d_U (t := 27) (by unfold Stp.cells; rw [hop]; exact h))
 refine m_W ?_; intro HW HA HO HOp
 have hbox : Below (w.heap.size + 1) (w.alloc (.cells #[.int .i64 8, str s.src, .slice a.nA s.names.length a.nC, .slice a.oA s.others.length a.oC, .slice a.iA s.items.length a.iC, .slice a.cA s.cond.length a.cC] 27)) (w.alloc (.cells #[.int .i64 8, str s.src, .slice a.nA s.names.length a.nC, .slice a.oA s.others.length a.oC, .slice a.iA s.items.length a.iC, .slice a.cA s.cond.length a.cC] 27)) := b_ _ _
 show Calls prog 15 #[.agg #[.int .i64 s.op, str s.src, .slice a.nA s.names.length a.nC, .slice a.oA s.others.length a.oC, .slice a.iA s.items.length a.iC, .slice a.cA s.cond.length a.cC]] w _
 rw [hop]
 clear hW hU hA ho hu hop
 have H1 := a_0 (fun (w1 V : World) (hbx : b_E w1 w.heap.size s a) (hw1 : Below w.heap.size w w1) (hV : Below w1.heap.size w1 V) =>
  h_I w.heap.size s a V (HW.out.below (a_n hV hw1)) (hbx.below hV) HO.out)
 generalize d_3 s.src = v1 at *
 generalize opS s = r at *
 have eg : ∀ args W, (callFunc 37 args).run prog W = .ok (.enter 37 args) W := fun args W => by kernel_rfl
 go_enter func15, ntmps15
 go_wp2_with (first
  | (go_at_call 36; refine (HSh.out _ (a_5 hbox)).mono ?_; rintro e w1 ⟨rfl, hb1⟩; have hcur := a_4 hbox s_ hb1; clear hbox; have hbx := HBx.out _ hcur; obtain ⟨hlw, c0, c1, c2, c3, c4, c5⟩ := HBx.out _ hcur; rw [HOp.out] at c0; have hw1 := a_5 hcur; have hwb : Below w1.heap.size w1 (w1.alloc (.cells #[.func (.func 37) #[] #[a_N w.heap.size]] 73)) := zX; have hff : (w1.alloc (.cells #[.func (.func 37) #[] #[a_N w.heap.size]] 73)).cell? ⟨w1.heap.size, 0, none⟩ = some (.func (.func 37) #[] #[a_N w.heap.size]) := (by simp [go_sem]); have hfl : w1.heap.size < (w1.alloc (.cells #[.func (.func 37) #[] #[a_N w.heap.size]] 73)).heap.size := s_)
  | (go_at_fn 37; refine ((H1.out w1 _ hbx hw1 hwb).2 _ (b_ _ _)).mono ?_; rintro e w2 ⟨rfl, hb2⟩))
 exact s_a
theorem u_Y (s : Stp) (hop : s.op = 9) : g_8 s := by
 intro a w hW hU hA ho hu
 have HX := a_0 (show opS s = d_3 s.src from by unfold opS; simp [hop])
 have HSh := a_0 (show ∀ W, Below w.heap.size w W → Calls prog 36 #[.agg #[.int .i64 9, str s.src, .slice a.nA s.names.length a.nC, .slice a.oA s.others.length a.oC, .slice a.iA s.items.length a.iC, .slice a.cA s.cond.length a.cC]] W (fun e w' => e = .returned (.bool true) ∧ Below W.heap.size W w') from fun W hb => by
  refine l_N ?_; intro h
  rw [hu, hop] at h
  exact h)
 have HBx := a_0 (fun w1 (h : Below (w.heap.size + 1) (w.alloc (.cells #[.int .i64 9, str s.src, .slice a.nA s.names.length a.nC, .slice a.oA s.others.length a.oC, .slice a.iA s.items.length a.iC, .slice a.cA s.cond.length a.cC] 27)) w1) => show b_E w1 w.heap.size s a from d_U (t := 27) (by unfold Stp.cells; rw [hop]; exact h))
 refine m_W ?_; intro HW HA HO HOp
 have hbox : Below (w.heap.size + 1) (w.alloc (.cells #[.int .i64 9, str s.src, .slice a.nA s.names.length a.nC, .slice a.oA s.others.length a.oC, .slice a.iA s.items.length a.iC, .slice a.cA s.cond.length a.cC] 27)) (w.alloc (.cells #[.int .i64 9, str s.src, .slice a.nA s.names.length a.nC, .slice a.oA s.others.length a.oC, .slice a.iA s.items.length a.iC, .slice a.cA s.cond.length a.cC] 27)) := b_ _ _
 show Calls prog 15 #[.agg #[.int .i64 s.op, str s.src, .slice a.nA s.names.length a.nC, .slice a.oA s.others.length a.oC, .slice a.iA s.items.length a.iC, .slice a.cA s.cond.length a.cC]] w _
 rw [hop]
 clear hW hU hA ho hu hop
 have H1 := a_0 (fun (w1 V : World) (hbx : b_E w1 w.heap.size s a) (hw1 : Below w.heap.size w w1) (hV : Below w1.heap.size w1 V) =>
  h_I w.heap.size s a V (HW.out.below (a_n hV hw1)) (hbx.below hV) HO.out)
 generalize d_3 s.src = v1 at *
 generalize opS s = r at *
 have eg : ∀ args W, (callFunc 37 args).run prog W = .ok (.enter 37 args) W := fun args W => by kernel_rfl
 go_enter func15, ntmps15
 go_wp2_with (first
  | (go_at_call 36; refine (HSh.out _ (a_5 hbox)).mono ?_; rintro e w1 ⟨rfl, hb1⟩; have hcur := a_4 hbox s_ hb1; clear hbox; have hbx := HBx.out _ hcur; obtain ⟨hlw, c0, c1, c2, c3, c4, c5⟩ := HBx.out _ hcur; rw [HOp.out] at c0; have hw1 := a_5 hcur; have hwb : Below w1.heap.size w1 (w1.alloc (.cells #[.func (.func 37) #[] #[a_N w.heap.size]] 73)) := zX; have hff : (w1.alloc (.cells #[.func (.func 37) #[] #[a_N w.heap.size]] 73)).cell? ⟨w1.heap.size, 0, none⟩ = some (.func (.func 37) #[] #[a_N w.heap.size]) := (by simp [go_sem]); have hfl : w1.heap.size < (w1.alloc (.cells #[.func (.func 37) #[] #[a_N w.heap.size]] 73)).heap.size := s_)
  | (go_at_fn 37; refine ((H1.out w1 _ hbx hw1 hwb).2 _ (b_ _ _)).mono ?_; rintro e w2 ⟨rfl, hb2⟩))
 exact s_a
theorem s_F (s : Stp) (hop : s.op = 10) : g_8 s := by
 intro a w hW hU hA ho hu
 have HX := a_0 (show opS s = 0 from by unfold opS; simp [hop])
 have HSh := a_0 (show ∀ W, Below w.heap.size w W → Calls prog 36 #[.agg #[.int .i64 10, str s.src, .slice a.nA s.names.length a.nC, .slice a.oA s.others.length a.oC, .slice a.iA s.items.length a.iC, .slice a.cA s.cond.length a.cC]] W (fun e w' => e = .returned (.bool true) ∧ Below W.heap.size W w') from fun W hb => by
  refine l_N ?_; intro h
  rw [hu, hop] at h
  exact h)
 have HBx := a_0 (fun w1 (h : Below (w.heap.size + 1) (w.alloc (.cells #[.int .i64 10, str s.src, .slice a.nA s.names.length a.nC, .slice a.oA s.others.length a.oC, .slice a.iA s.items.length a.iC, .slice a.cA s.cond.length a.cC] 27)) w1) => show b_E w1 w.heap.size s a from d_U (t := 27) (by unfold Stp.cells; rw [hop]; exact h))
 refine m_W ?_; intro HW HA HO HOp
 have hbox : Below (w.heap.size + 1) (w.alloc (.cells #[.int .i64 10, str s.src, .slice a.nA s.names.length a.nC, .slice a.oA s.others.length a.oC, .slice a.iA s.items.length a.iC, .slice a.cA s.cond.length a.cC] 27)) (w.alloc (.cells #[.int .i64 10, str s.src, .slice a.nA s.names.length a.nC, .slice a.oA s.others.length a.oC, .slice a.iA s.items.length a.iC, .slice a.cA s.cond.length a.cC] 27)) := b_ _ _
 show Calls prog 15 #[.agg #[.int .i64 s.op, str s.src, .slice a.nA s.names.length a.nC, .slice a.oA s.others.length a.oC, .slice a.iA s.items.length a.iC, .slice a.cA s.cond.length a.cC]] w _
 rw [hop]
 clear hW hU hA ho hu hop
 generalize opS s = r at *
 go_enter func15, ntmps15
 go_wp2_with (go_at_call 36; refine (HSh.out _ (a_5 hbox)).mono ?_; rintro e w1 ⟨rfl, hb1⟩; have hcur := a_4 hbox s_ hb1; clear hbox; have hbx := HBx.out _ hcur; obtain ⟨hlw, c0, c1, c2, c3, c4, c5⟩ := HBx.out _ hcur; rw [HOp.out] at c0; have hw1 := a_5 hcur; have hwb : Below w1.heap.size w1 (w1.alloc (.cells #[.func (.func 37) #[] #[a_N w.heap.size]] 73)) := zX; have hff : (w1.alloc (.cells #[.func (.func 37) #[] #[a_N w.heap.size]] 73)).cell? ⟨w1.heap.size, 0, none⟩ = some (.func (.func 37) #[] #[a_N w.heap.size]) := (by simp [go_sem]); have hfl : w1.heap.size < (w1.alloc (.cells #[.func (.func 37) #[] #[a_N w.heap.size]] 73)).heap.size := s_)
 go_ret
 exact ⟨a_k HX.out.symm, a_n hwb hw1⟩
set_option maxRecDepth 100000
theorem s_I (s : Stp) (hop : s.op = 11) : g_8 s := by
 intro a w hW hU hA ho hu
 have HX := a_0 (show opS s = f_W s from by unfold opS; simp [hop])
 have HSh := a_0 (show ∀ W, Below w.heap.size w W → Calls prog 36 #[.agg #[.int .i64 11, str s.src, .slice a.nA s.names.length a.nC, .slice a.oA s.others.length a.oC, .slice a.iA s.items.length a.iC, .slice a.cA s.cond.length a.cC]] W (fun e w' => e = .returned (.bool true) ∧ Below W.heap.size W w') from fun W hb => by
  refine l_N ?_; intro h
  rw [hu, hop] at h
  exact h)
 have HBx := a_0 (fun w1 (h : Below (w.heap.size + 1) (w.alloc (.cells #[.int .i64 11, str s.src, .slice a.nA s.names.length a.nC, .slice a.oA s.others.length a.oC, .slice a.iA s.items.length a.iC, .slice a.cA s.cond.length a.cC] 27)) w1) => show b_E w1 w.heap.size s a from d_U (t := 27) (by unfold Stp.cells; rw [hop]; exact h))
 refine m_W ?_; intro HW HA HO HOp
 have hbox : Below (w.heap.size + 1) (w.alloc (.cells #[.int .i64 11, str s.src, .slice a.nA s.names.length a.nC, .slice a.oA s.others.length a.oC, .slice a.iA s.items.length a.iC, .slice a.cA s.cond.length a.cC] 27)) (w.alloc (.cells #[.int .i64 11, str s.src, .slice a.nA s.names.length a.nC, .slice a.oA s.others.length a.oC, .slice a.iA s.items.length a.iC, .slice a.cA s.cond.length a.cC] 27)) := b_ _ _
 show Calls prog 15 #[.agg #[.int .i64 s.op, str s.src, .slice a.nA s.names.length a.nC, .slice a.oA s.others.length a.oC, .slice a.iA s.items.length a.iC, .slice a.cA s.cond.length a.cC]] w _
 rw [hop]
 clear hW hU hA ho hu hop
 have HJ := a_0 (HX.out.trans (m_9 s))
 have H5 := a_0 (fun (w1 V : World) (hbx : b_E w1 w.heap.size s a) (hw1 : Below w.heap.size w w1) (hV : Below w1.heap.size w1 V) => m_C w.heap.size s a V (HW.out.below (a_n hV hw1)) (hbx.below hV) (HA.out.below (a_n hV hw1)) HO.out)
 have H6 := a_0 (fun (w1 V : World) (hbx : b_E w1 w.heap.size s a) (hw1 : Below w.heap.size w w1) (hV : Below w1.heap.size w1 V) => m_o w.heap.size s a V (HW.out.below (a_n hV hw1)) (hbx.below hV) (HA.out.below (a_n hV hw1)) HO.out HOp.out)
 have hl1 := HO.out.names
 have hl2 := HO.out.items
 clear HX
 generalize a_Y s.names 0 = v1 at *
 generalize a_F s.items 0 true true false false (c_e s.names) = v2 at *
 generalize opS s = r at *
 obtain ⟨u, hu⟩ : ∃ u : Int, u = if s.names.length + s.items.length = 0 then 2 else 0 := ⟨_, rfl⟩
 rw [← hu] at HJ
 have HU9 := a_0 hu
 clear hu
 go_enter func15, ntmps15
 go_wp2_with (go_at_call 36; refine (HSh.out _ (a_5 hbox)).mono ?_; rintro e w1 ⟨rfl, hb1⟩; have hcur := a_4 hbox s_ hb1; clear hbox; have hbx := HBx.out _ hcur; obtain ⟨hlw, c0, c1, c2, c3, c4, c5⟩ := HBx.out _ hcur; rw [HOp.out] at c0; have hw1 := a_5 hcur; have hwb : Below w1.heap.size w1 (w1.alloc (.cells #[.func (.func 37) #[] #[a_N w.heap.size]] 73)) := zX; have hff : (w1.alloc (.cells #[.func (.func 37) #[] #[a_N w.heap.size]] 73)).cell? ⟨w1.heap.size, 0, none⟩ = some (.func (.func 37) #[] #[a_N w.heap.size]) := (by simp [go_sem]); have hfl : w1.heap.size < (w1.alloc (.cells #[.func (.func 37) #[] #[a_N w.heap.size]] 73)).heap.size := s_)
 refine (c_P _ _ _).mono ?_
 rintro e w2 ⟨⟨lb, v9, rfl, hv9, ht⟩, hb2⟩
 have HT := a_0 ht
 have HVh := a_0 hv9
 clear ht hv9
 go_wp2_with fail
 have hV2 : Below w1.heap.size w1 w2 := a_n hb2 hwb
 have hV : Below w1.heap.size w1 (w2.alloc (.cells #[.func (.func 51) #[] #[a_N w.heap.size], .func (.func 90) #[] lb, .func (.func 52) #[] #[a_N w.heap.size]] 73)) := hV2.alloc hV2.size _
 have T5 := H5.out w1 _ hbx hw1 hV
 have T6 := H6.out w1 _ hbx hw1 hV
 have TW := HT.out.below ((b_ w2.heap.size w2).alloc (l_ _) (.cells #[.func (.func 51) #[] #[a_N w.heap.size], .func (.func 90) #[] lb, .func (.func 52) #[] #[a_N w.heap.size]] 73))
 refine (c_x w2.heap.size 3 [⟨51, #[a_N w.heap.size], v1⟩, ⟨90, lb, v9⟩, ⟨52, #[a_N w.heap.size], v2⟩] _ s_ (show (3 : Nat) ≤ 10 from by decide) (fun j h => ?_) (fun j h => ?_)).mono ?_
 rotate_left
 ·have h9 : j < 3 := h
  match j, h9 with
  | 0, _ => exact T5
  | 1, _ => exact TW
  | 2, _ => exact T6
 rotate_left
 ·have h9 : j < 3 := h
  match j, h9 with
  | 0, _ => simp [go_sem]
  | 1, _ => simp [go_sem]
  | 2, _ => simp [go_sem]
 rintro e w3 ⟨rfl, hb3⟩
 go_wp2
 go_ret
 have HV9 : v9 = u := by
  rw [HVh.out, HU9.out]
  by_cases h9 : s.names.length + s.items.length = 0
  ·have h7 : s.names.length = 0 := by omega
   have h8 : s.items.length = 0 := by omega
   simp [h7, h8]
  ·have h7 : ¬ ((s.names.length : Int) + (s.items.length : Int) = 0) := by omega
   rw [if_neg h9]; simp only [beq_iff_eq, decide_eq_true_eq, h7, if_false]
 exact ⟨a_k (by rw [HJ.out, ← HV9, ← t_7]; rfl), a_n hb3 (a_n hV hw1)⟩
theorem s_i (s : Stp) (hop : s.op = 12) : g_8 s := by
 intro a w hW hU hA ho hu
 have HX := a_0 (show opS s = e_O s from by unfold opS; simp [hop])
 have HSh := a_0 (show ∀ W, Below w.heap.size w W → Calls prog 36 #[.agg #[.int .i64 12, str s.src, .slice a.nA s.names.length a.nC, .slice a.oA s.others.length a.oC, .slice a.iA s.items.length a.iC, .slice a.cA s.cond.length a.cC]] W (fun e w' => e = .returned (.bool true) ∧ Below W.heap.size W w') from fun W hb => by
  refine l_N ?_; intro h
  rw [hu, hop] at h
  exact h)
 have HBx := a_0 (fun w1 (h : Below (w.heap.size + 1) (w.alloc (.cells #[.int .i64 12, str s.src, .slice a.nA s.names.length a.nC, .slice a.oA s.others.length a.oC, .slice a.iA s.items.length a.iC, .slice a.cA s.cond.length a.cC] 27)) w1) => show b_E w1 w.heap.size s a from d_U (t := 27) (by unfold Stp.cells; rw [hop]; exact h))
 refine m_W ?_; intro HW HA HO HOp
 have hbox : Below (w.heap.size + 1) (w.alloc (.cells #[.int .i64 12, str s.src, .slice a.nA s.names.length a.nC, .slice a.oA s.others.length a.oC, .slice a.iA s.items.length a.iC, .slice a.cA s.cond.length a.cC] 27)) (w.alloc (.cells #[.int .i64 12, str s.src, .slice a.nA s.names.length a.nC, .slice a.oA s.others.length a.oC, .slice a.iA s.items.length a.iC, .slice a.cA s.cond.length a.cC] 27)) := b_ _ _
 show Calls prog 15 #[.agg #[.int .i64 s.op, str s.src, .slice a.nA s.names.length a.nC, .slice a.oA s.others.length a.oC, .slice a.iA s.items.length a.iC, .slice a.cA s.cond.length a.cC]] w _
 rw [hop]
 clear hW hU hA ho hu hop
 have HJ := a_0 (HX.out.trans (show e_O s = b_8 (a_Y s.names 0) (b_8 (a_Y s.others 0) (a_F s.items 1 true true true false b_I)) from rfl))
 have H7 := a_0 (fun (w1 V : World) (hbx : b_E w1 w.heap.size s a) (hw1 : Below w.heap.size w w1) (hV : Below w1.heap.size w1 V) => m_w w.heap.size s a V (HW.out.below (a_n hV hw1)) (hbx.below hV) (HA.out.below (a_n hV hw1)) HO.out)
 have H8 := a_0 (fun (w1 V : World) (hbx : b_E w1 w.heap.size s a) (hw1 : Below w.heap.size w w1) (hV : Below w1.heap.size w1 V) => m_L w.heap.size s a V (HW.out.below (a_n hV hw1)) (hbx.below hV) (HA.out.below (a_n hV hw1)) HO.out)
 have H9 := a_0 (fun (w1 V : World) (hbx : b_E w1 w.heap.size s a) (hw1 : Below w.heap.size w w1) (hV : Below w1.heap.size w1 V) => m_K w.heap.size s a V (HW.out.below (a_n hV hw1)) (hbx.below hV) (HA.out.below (a_n hV hw1)) HO.out HOp.out)
 clear HX
 generalize a_Y s.names 0 = v1 at *
 generalize a_Y s.others 0 = v2 at *
 generalize a_F s.items 1 true true true false b_I = v3 at *
 generalize opS s = r at *
 go_enter func15, ntmps15
 go_wp2_with (go_at_call 36; refine (HSh.out _ (a_5 hbox)).mono ?_; rintro e w1 ⟨rfl, hb1⟩; have hcur := a_4 hbox s_ hb1; clear hbox; have hbx := HBx.out _ hcur; obtain ⟨hlw, c0, c1, c2, c3, c4, c5⟩ := HBx.out _ hcur; rw [HOp.out] at c0; have hw1 := a_5 hcur; have hwb : Below w1.heap.size w1 (w1.alloc (.cells #[.func (.func 37) #[] #[a_N w.heap.size]] 73)) := zX; have hff : (w1.alloc (.cells #[.func (.func 37) #[] #[a_N w.heap.size]] 73)).cell? ⟨w1.heap.size, 0, none⟩ = some (.func (.func 37) #[] #[a_N w.heap.size]) := (by simp [go_sem]); have hfl : w1.heap.size < (w1.alloc (.cells #[.func (.func 37) #[] #[a_N w.heap.size]] 73)).heap.size := s_)
 have hV : Below w1.heap.size w1 ((w1.alloc (.cells #[.func (.func 37) #[] #[a_N w.heap.size]] 73)).alloc (.cells #[.func (.func 55) #[] #[a_N w.heap.size], .func (.func 56) #[] #[a_N w.heap.size], .func (.func 57) #[] #[a_N w.heap.size]] 73)) := zX
 have T7 := H7.out w1 _ hbx hw1 hV
 have T8 := H8.out w1 _ hbx hw1 hV
 have T9 := H9.out w1 _ hbx hw1 hV
 refine (c_x (w1.heap.size + 1) 3 [⟨55, #[a_N w.heap.size], v1⟩, ⟨56, #[a_N w.heap.size], v2⟩, ⟨57, #[a_N w.heap.size], v3⟩] _ s_ (show (3 : Nat) ≤ 10 from by decide) (fun j h => ?_) (fun j h => ?_)).mono ?_
 ·have h9 : j < 3 := h
  match j, h9 with
  | 0, _ => simp [go_sem]
  | 1, _ => simp [go_sem]
  | 2, _ => simp [go_sem]
 ·have h9 : j < 3 := h
  match j, h9 with
  | 0, _ => exact T7
  | 1, _ => exact T8
  | 2, _ => exact T9
 rintro e w2 ⟨rfl, hb2⟩
 go_wp2
 go_ret
 exact ⟨a_k (by rw [HJ.out, ← t_7]; rfl), a_n hb2 (a_n hV hw1)⟩
set_option maxRecDepth 100000
theorem e_m (s : Stp) (a : Adr) (w : World) (hW : a_X w 2 a_J) (hU : b_R w) (hA : s.At w a) (ho : s.ok) :
  Calls prog 15 #[s.agg a] w fun e w' => e = .returned (.int .i64 (d_0 s)) ∧ Below w.heap.size w w' := by
 by_cases hs : s.op < 0 ∨ 12 < s.op ∨ a_W s.op s.src s.names.length s.others.length s.items.length s.cond.length = true
 ·have HX := a_0 (show d_0 s = 8 from by unfold d_0; rw [if_pos hs])
  have HSh := a_0 (show ∀ W, Below w.heap.size w W → Calls prog 36 #[.agg #[.int .i64 s.op, str s.src, .slice a.nA s.names.length a.nC, .slice a.oA s.others.length a.oC, .slice a.iA s.items.length a.iC, .slice a.cA s.cond.length a.cC]] W (fun e w' => e = .returned (.bool false) ∧ Below W.heap.size W w') from fun W hb => by
   refine l_N ?_; intro h
   have e : (decide (0 ≤ s.op ∧ s.op ≤ 12) && !a_W s.op s.src s.names.length s.others.length s.items.length s.cond.length) = false := by
    rcases hs with h | h | h
    ·simp; omega
    ·simp; omega
    ·simp [h]
   rw [e] at h
   exact h)
  show Calls prog 15 #[.agg #[.int .i64 s.op, str s.src, .slice a.nA s.names.length a.nC, .slice a.oA s.others.length a.oC, .slice a.iA s.items.length a.iC, .slice a.cA s.cond.length a.cC]] w _
  generalize d_0 s = r at *
  clear hU hA ho hs hW
  go_enter func15, ntmps15
  go_wp2_with (go_at_call 36; refine (HSh.out _ zX).mono ?_; rintro e w1 ⟨rfl, hb1⟩)
  go_ret
  exact ⟨a_k HX.out.symm, a_n hb1 zX⟩
 ·have e : d_0 s = opS s := by unfold d_0; rw [if_neg hs]
  have hu : a_W s.op s.src s.names.length s.others.length s.items.length s.cond.length = false := by
   cases h : a_W s.op s.src s.names.length s.others.length s.items.length s.cond.length
   ·rfl
   ·exact absurd (.inr (.inr h)) hs
  have hv : g_8 s := by
   have hop : s.op = 0 ∨ s.op = 1 ∨ s.op = 2 ∨ s.op = 3 ∨ s.op = 4 ∨ s.op = 5 ∨ s.op = 6 ∨ s.op = 7 ∨ s.op = 8 ∨ s.op = 9 ∨ s.op = 10 ∨ s.op = 11 ∨ s.op = 12 := by omega
   rcases hop with h | h | h | h | h | h | h | h | h | h | h | h | h
   ·exact u_H s h
   ·exact u_v s h
   ·exact u_e s h
   ·exact v_g s h
   ·exact u_J s h
   ·exact u_G s h
   ·exact v_9 s h
   ·exact u_m s h
   ·exact v_e s h
   ·exact u_Y s h
   ·exact s_F s h
   ·exact s_I s h
   ·exact s_i s h
  rw [e]
  exact hv a w hW hU hA ho hu
theorem d_B (A : Option Addr) (ss : List Stp) (c : Nat) (w : World) (hW : a_X w 2 a_J) (hU : b_R w) (h : d_l w A ss) (hl : ss.length ≤ 1000000) (hk : s_n ss) :
  Calls prog 17 #[.slice A ss.length c] w fun e w' => e = .returned (.int .i64 (a_E ss)) ∧ Below w.heap.size w w' := by
 have HA := a_0 h
 have HK := a_0 hk
 have HW := a_0 hW
 have HU := a_0 hU
 clear h hk hW hU
 by_cases h1 : ss.length < 1
 ·have HE := a_0 (show a_E ss = 2 from by unfold a_E; rw [if_pos (.inl h1)])
  go_enter func17, ntmps17
  go_wp2
  all_goals first | (exfalso; omega) | skip
  exact q_P
 by_cases h2 : 16 < ss.length
 ·have HE := a_0 (show a_E ss = 2 from by unfold a_E; rw [if_pos (.inr h2)])
  go_enter func17, ntmps17
  go_wp2
  all_goals first | (exfalso; omega) | skip
  exact q_P
 have HE := a_0 (k_H (ss := ss) o_)
 generalize a_E ss = r at *
 go_enter func17, ntmps17
 go_wp2
 all_goals first | (exfalso; omega) | skip
 go_loopw [16] (fun i wr => ∃ k : Nat, k ≤ ss.length ∧ i = .int .i64 k ∧ Hid (∀ j, j < k → h_g ss j = 0) ∧ Below w.heap.size w wr) (fun i _ => ss.length - (intOf i).toNat)
 case atStart => exact ⟨0, o_, rfl, fun j hj => absurd hj (Nat.not_lt_zero _), b_ _ _⟩
 case round =>
  obtain ⟨k, hk, rfl, HZ, hbel⟩ := hrel
  by_cases hlt : k < ss.length
  ·rcases HA.out.below hbel with e | ⟨g, off, rfl, hg, hc⟩
   ·exact absurd hlt e_
   obtain ⟨a, ha, c0, c1, c2, c3, c4, c5⟩ := hc k hlt; have HV := a_0 (fun W (hb : Below wr.heap.size wr W) => e_m ss[k] a W ((HW.out.below hbel).below hb) ((HU.out.below hbel).below hb) (ha.below hb) (HK.out _ (List.getElem_mem hlt))); refine v_X ?_; intro HT HF HN; clear hc ha; generalize d_0 ss[k] = v at *; obtain ⟨x, hx⟩ : ∃ x, x = ss[k] := ⟨_, rfl⟩; rw [← hx] at c0 c1 c2 c3 c4 c5 HV HT; clear hx
   by_cases hv : v = 0
   rotate_left
   ·have hvb : (v != 0) = true := by simpa using hv
    have HR := a_0 (HF.out v (by rw [HT.out, if_neg hv]) hv); clear HT HF HN hv
    go_wp2_with (go_at_call 15; refine (HV.out _ zX).mono ?_; rintro e w1 ⟨rfl, hb1⟩)
    exact u_y
   subst hv; refine s_5 ?_; intro HT2
   by_cases ho : x.op = 0
   ·have hp : (x.op == 0) = true := by simpa using ho
    by_cases hk0 : k = 0
    ·have hq : ((k : Int) == 0) = true := by simpa using hk0
     refine t_O ?_; intro HR; clear HT HF HN HT2 ho hk0
     go_wp2_with (go_at_call 15; refine (HV.out _ zX).mono ?_; rintro e w1 ⟨rfl, hb1⟩; obtain ⟨d0, _⟩ := b_k (a_4 (b_ (wr.heap.size + 1) (wr.alloc _)) s_ hb1))
     exact ⟨⟨k + 1, o_, t_, HR, a_n (a_n hb1 zX) hbel⟩, w_⟩
    ·have hq : ((k : Int) == 0) = false := beq_eq_false_iff_ne.2 o_
     refine t_A ?_; intro HR; clear HT HF HN HT2 ho hk0
     go_wp2_with (go_at_call 15; refine (HV.out _ zX).mono ?_; rintro e w1 ⟨rfl, hb1⟩; obtain ⟨d0, _⟩ := b_k (a_4 (b_ (wr.heap.size + 1) (wr.alloc _)) s_ hb1))
     exact u_y
   ·have hp : (x.op == 0) = false := beq_eq_false_iff_ne.2 ho
    by_cases hk0 : k = 0
    ·have hq : ((k : Int) == 0) = true := by simpa using hk0
     refine t_A ?_; intro HR; clear HT HF HN HT2 ho hk0
     go_wp2_with (go_at_call 15; refine (HV.out _ zX).mono ?_; rintro e w1 ⟨rfl, hb1⟩; obtain ⟨d0, _⟩ := b_k (a_4 (b_ (wr.heap.size + 1) (wr.alloc _)) s_ hb1))
     exact u_y
    ·have hq : ((k : Int) == 0) = false := beq_eq_false_iff_ne.2 o_
     refine t_O ?_; intro HR; clear HT HF HN HT2 ho hk0
     go_wp2_with (go_at_call 15; refine (HV.out _ zX).mono ?_; rintro e w1 ⟨rfl, hb1⟩; obtain ⟨d0, _⟩ := b_k (a_4 (b_ (wr.heap.size + 1) (wr.alloc _)) s_ hb1))
     exact ⟨⟨k + 1, o_, t_, HR, a_n (a_n hb1 zX) hbel⟩, w_⟩
  ·obtain rfl : k = ss.length := by omega
   refine r_W ?_; intro HR
   go_wp2
   exact s_K
set_option maxRecDepth 512
theorem q_j {la lb : List a_3} {k : Nat} (h : la.take k = lb.take k) (ha : k < la.length) (hb : k < lb.length) (e : la[k] = lb[k]) : la.take (k + 1) = lb.take (k + 1) := by
 rw [List.take_succ_eq_append_getElem ha, List.take_succ_eq_append_getElem hb, h, e]
set_option maxRecDepth 100000
theorem e_e (A B : Option Addr) (la lb : List a_3) (ca cb : Nat) (w : World) (hA : b_l w A la) (hB : b_l w B lb) (h1 : la.length ≤ 1000000) (h2 : lb.length ≤ 1000000) :
  Calls prog 21 #[.slice A la.length ca, .slice B lb.length cb] w fun e w' => e = .returned (.bool (decide (la = lb))) ∧ Below w.heap.size w w' := by
 have HA := a_0 hA; have HB := a_0 hB
 clear hA hB
 by_cases hne : la.length = lb.length
 rotate_left
 ·have HR := a_0 (show decide (la = lb) = false from by simp; rintro rfl; exact hne rfl)
  have hb1 : ((la.length : Int) != (lb.length : Int)) = true := by simp; omega
  clear hne
  go_enter func21, ntmps21
  go_wp2
  go_ret
  exact ⟨a_g (by rw [HR.out]), b_ _ _⟩
 have hb1 : ((la.length : Int) != (lb.length : Int)) = false := by simp; omega
 have HL := a_0 hne
 clear hne
 go_enter func21, ntmps21
 go_wp2
 go_loopw [5] (fun i wr => ∃ k : Nat, k ≤ la.length ∧ i = .int .i64 k ∧ Hid (la.take k = lb.take k) ∧ Below w.heap.size w wr) (fun i _ => la.length - (intOf i).toNat)
 case atStart => exact ⟨0, o_, rfl, a_0 rfl, b_ _ _⟩
 case round =>
  obtain ⟨k, hk, rfl, HE, hbel⟩ := hrel
  by_cases hlt : k < la.length
  ·have hlt2 : k < lb.length := by rw [← HL.out]; exact hlt
   rcases HA.out.below hbel with e | ⟨ga, oa, rfl, hga, hca⟩
   ·exact absurd hlt e_
   rcases HB.out.below hbel with e | ⟨gb, ob, rfl, hgb, hcb⟩
   ·exact absurd hlt2 e_
   have c0 := hca k hlt; have d0 := hcb k hlt2; have HT := a_0 (fun e => q_j HE.out hlt hlt2 e)
   have HF := a_0 (fun (h : la[k] ≠ lb[k]) => show decide (la = lb) = false from by
    simp only [decide_eq_false_iff_not]; intro e
    exact h (by simp only [e]))
   clear hca hcb; generalize la[k] = x at *; generalize lb[k] = y at *
   by_cases hxy : x = y
   ·subst hxy
    go_wp2
    go_big_quiet (fail)
    go_wp2
    exact ⟨⟨k + 1, o_, t_, a_0 (HT.out (by first | rfl | trivial)), zX⟩, w_⟩
   ·have hxb : (x == y) = false := beq_eq_false_iff_ne.2 hxy
    have HF2 := a_0 (HF.out hxy)
    go_wp2
    go_big_quiet (fail)
    go_wp2
    go_ret
    exact ⟨a_g (by rw [HF2.out]), zX⟩
  ·obtain rfl : k = la.length := by omega
   have HR := a_0 (show decide (la = lb) = true from by
    have := HE.out; rw [List.take_length, HL.out, List.take_length] at this
    simp [this])
   go_wp2
   go_ret
   exact ⟨a_g (by rw [HR.out]), hbel⟩
set_option maxRecDepth 100000
theorem s_s (A B : Option Addr) (l : List Stp) (c d : Nat) (w : World) (hA : d_l w A l) (hB : d_l w B l) (hl : l.length ≤ 1000000) (hx : ∀ x ∈ l, x.ok) :
  Calls prog 29 #[.slice A l.length c, .slice B l.length d] w fun e w' => e = .returned (.bool true) ∧ Below w.heap.size w w' := by
 have HA := a_0 hA
 have HB := a_0 hB
 have HX := a_0 hx
 clear hA hB hx
 go_enter func29, ntmps29
 go_wp2_with fail
 go_loopw [5] (fun m wr => ∃ k : Nat, m = .int .i64 k ∧ k ≤ l.length ∧ Hid (Below w.heap.size w wr)) (fun m wr => match m with | .int _ i => l.length - i.toNat | _ => 0)
 case atStart => exact ⟨0, rfl, Nat.zero_le _, a_0 (b_ _ _)⟩
 case round =>
  obtain ⟨k, rfl, hk, HW⟩ := hrel
  by_cases hkk : k < l.length
  ·rcases HA.out with h0 | ⟨gA, oA, rfl, hgA, hcA⟩
   ·rw [h0] at hkk; simp at hkk
   rcases HB.out with h0 | ⟨gB, oB, rfl, hgB, hcB⟩
   ·rw [h0] at hkk; simp at hkk
   obtain ⟨⟨E1, e1, E2, e2, E3, e3, E4, e4⟩, hE, a0, a1, a2, a3, a4, a5⟩ := hcA k hkk; obtain ⟨⟨F1, f1, F2, f2, F3, f3, F4, f4⟩, hF, b0, b1, b2, b3, b4, b5⟩ := hcB k hkk; have hok := HX.out l[k] s_; have HC1 := a_0 (fun W (hb : Below w.heap.size w W) => show Calls prog 21 #[.slice E1 l[k].names.length e1, .slice F1 l[k].names.length f1] W (fun e w' => e = .returned (.bool true) ∧ Below W.heap.size W w') from by have h := e_e E1 F1 l[k].names l[k].names e1 f1 W (hE.names.below hb) (hF.names.below hb) hok.names hok.names; rw [decide_eq_true rfl] at h; exact h); have HC2 := a_0 (fun W (hb : Below w.heap.size w W) => show Calls prog 21 #[.slice E2 l[k].others.length e2, .slice F2 l[k].others.length f2] W (fun e w' => e = .returned (.bool true) ∧ Below W.heap.size W w') from by have h := e_e E2 F2 l[k].others l[k].others e2 f2 W (hE.others.below hb) (hF.others.below hb) hok.others hok.others; rw [decide_eq_true rfl] at h; exact h); have HC3 := a_0 (fun W (hb : Below w.heap.size w W) => l_l E3 F3 l[k].items e3 f3 W (hE.items.below hb) (hF.items.below hb) hok.items (fun x h => (hok.item x h).2)); have HC4 := a_0 (fun W (hb : Below w.heap.size w W) => g_M E4 F4 l[k].cond e4 f4 W (hE.cond.below hb) (hF.cond.below hb) hok.cond); clear hcA hcB hE hF hok; generalize l[k] = y at *; obtain ⟨y0, y1, y2, y3, y4, y5⟩ := y; simp only at a0 a1 a2 a3 a4 a5 b0 b1 b2 b3 b4 b5 HC1 HC2 HC3 HC4; refine s_o ?_; intro hkI; have HK := a_0 (fun w' (hb : Below w.heap.size w w') => show w'.cell? ⟨gA, oA + k * 6, none⟩ = some (.int .i64 y0) ∧ w'.cell? ⟨gA, oA + k * 6 + 1, none⟩ = some (str y1) ∧ w'.cell? ⟨gA, oA + k * 6 + 2, none⟩ = some (.slice E1 y2.length e1) ∧ w'.cell? ⟨gA, oA + k * 6 + 3, none⟩ = some (.slice E2 y3.length e2) ∧ w'.cell? ⟨gA, oA + k * 6 + 4, none⟩ = some (.slice E3 y4.length e3) ∧ w'.cell? ⟨gA, oA + k * 6 + 5, none⟩ = some (.slice E4 y5.length e4) ∧ w'.cell? ⟨gB, oB + k * 6, none⟩ = some (.int .i64 y0) ∧ w'.cell? ⟨gB, oB + k * 6 + 1, none⟩ = some (str y1) ∧ w'.cell? ⟨gB, oB + k * 6 + 2, none⟩ = some (.slice F1 y2.length f1) ∧ w'.cell? ⟨gB, oB + k * 6 + 3, none⟩ = some (.slice F2 y3.length f2) ∧ w'.cell? ⟨gB, oB + k * 6 + 4, none⟩ = some (.slice F3 y4.length f3) ∧ w'.cell? ⟨gB, oB + k * 6 + 5, none⟩ = some (.slice F4 y5.length f4) from ⟨(hb.cell (p := ⟨gA, _, none⟩) hgA).trans a0, (hb.cell (p := ⟨gA, _, none⟩) hgA).trans a1, (hb.cell (p := ⟨gA, _, none⟩) hgA).trans a2, (hb.cell (p := ⟨gA, _, none⟩) hgA).trans a3, (hb.cell (p := ⟨gA, _, none⟩) hgA).trans a4, (hb.cell (p := ⟨gA, _, none⟩) hgA).trans a5, (hb.cell (p := ⟨gB, _, none⟩) hgB).trans b0, (hb.cell (p := ⟨gB, _, none⟩) hgB).trans b1, (hb.cell (p := ⟨gB, _, none⟩) hgB).trans b2, (hb.cell (p := ⟨gB, _, none⟩) hgB).trans b3, (hb.cell (p := ⟨gB, _, none⟩) hgB).trans b4, (hb.cell (p := ⟨gB, _, none⟩) hgB).trans b5⟩); clear a0 a1 a2 a3 a4 a5 b0 b1 b2 b3 b4 b5; have hbw := HW.out; have hzw := hbw.size
   go_upto_region 6 with fail
   simp only [List.append]
   go_region_held3 (fun w' => w'.cell? ⟨gA, oA + k * 6, none⟩ = some (.int .i64 y0) ∧ w'.cell? ⟨gA, oA + k * 6 + 1, none⟩ = some (str y1) ∧ w'.cell? ⟨gA, oA + k * 6 + 2, none⟩ = some (.slice E1 y2.length e1) ∧ w'.cell? ⟨gA, oA + k * 6 + 3, none⟩ = some (.slice E2 y3.length e2) ∧ w'.cell? ⟨gA, oA + k * 6 + 4, none⟩ = some (.slice E3 y4.length e3) ∧ w'.cell? ⟨gA, oA + k * 6 + 5, none⟩ = some (.slice E4 y5.length e4) ∧ w'.cell? ⟨gB, oB + k * 6, none⟩ = some (.int .i64 y0) ∧ w'.cell? ⟨gB, oB + k * 6 + 1, none⟩ = some (str y1) ∧ w'.cell? ⟨gB, oB + k * 6 + 2, none⟩ = some (.slice F1 y2.length f1) ∧ w'.cell? ⟨gB, oB + k * 6 + 3, none⟩ = some (.slice F2 y3.length f2) ∧ w'.cell? ⟨gB, oB + k * 6 + 4, none⟩ = some (.slice F3 y4.length f3) ∧ w'.cell? ⟨gB, oB + k * 6 + 5, none⟩ = some (.slice F4 y5.length f4))
    (first | exact HK.out _ (by first | exact hb4 | exact hb3 | exact hb2 | exact hb1 | exact zX))
    ((first
     | (go_at_call_of 21 (Value.slice E1 y2.length e1); refine (HC1.out _ (hbw.trans ((Below.drew (b_ _ wr)).mono hzw))).mono ?_; rintro e w1 ⟨rfl, hc1⟩; have hb1 : Below w.heap.size w w1 := (hbw.trans ((Below.drew (b_ _ wr)).mono hzw)).trans (hc1.mono hzw))
     | (go_at_call_of 21 (Value.slice E2 y3.length e2); refine (HC2.out _ (by first | exact hb1 | exact zX)).mono ?_; rintro e w2 ⟨rfl, hc2⟩; have hb2 : Below w.heap.size w w2 := hb1.trans (hc2.mono hb1.size))
     | (go_at_call 76; refine (HC3.out _ (by first | exact hb2 | exact zX)).mono ?_; rintro e w3 ⟨rfl, hc3⟩; have hb3 : Below w.heap.size w w3 := hb2.trans (hc3.mono hb2.size))
     | (go_at_call 77; refine (HC4.out _ (by first | exact hb3 | exact zX)).mono ?_; rintro e w4 ⟨rfl, hc4⟩; have hb4 : Below w.heap.size w w4 := hb3.trans (hc4.mono hb3.size))))
   all_goals
    go_wp2
    exact ⟨⟨k + 1, s_, o_, a_0 zX⟩, m_⟩
  ·have hb := HW.out
   go_wp2
   go_ret
   exact ⟨rfl, HW.out⟩
end Go.Proofs.YtmbeeefkpgfgmaaGreatDoor
