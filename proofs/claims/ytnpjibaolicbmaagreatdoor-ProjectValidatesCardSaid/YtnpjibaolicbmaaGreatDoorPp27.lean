/- Parts of the proof. -/
import Derived.Test.YtnpjibaolicbmaaGreatDoorPp18
import Derived.Test.YtnpjibaolicbmaaGreatDoorPp26
import Derived.Laws.EntriesVeiled
set_option linter.unusedVariables false
set_option linter.unusedSimpArgs false
set_option maxHeartbeats 4000000
namespace Go.Proofs.YtnpjibaolicbmaaGreatDoor
open Go.Proofs.Tryz
open Go.RowKit
theorem j_U (b : Nat) (s : Stp) (a : Adr) (w : World) (hW : a_v w 1 a_w) (hB : b_r w b s a) (hA : s.At w a) (ho : s.ok) (hop : s.op = 4 ∨ s.op = 5) : b_8 w 218 #[a_f b] (a_N s.items 0 false true false false (fun x => a_F x.col)) := by
 refine ⟨fun args W => by kernel_rfl, fun W hW2 => ?_⟩
 obtain ⟨hb, c0, c1, c2, c3, c4, c5⟩ := hB.below hW2
 have HM := a_2 (c_2 s.op false true false false (.inr (.inl ⟨hop, rfl, rfl, rfl, rfl⟩)) s.src a.nA s.names.length a.nC a.oA s.others.length a.oC a.iA a.iC a.cA s.cond.length a.cC s.items 0 219 #[] (fun x => a_F x.col) W (hW.below hW2) (hA.items.below hW2) ho.items hA.ci o_ (fun args W => by kernel_rfl) (fun k h E ec V hV hn => k_B _ E ec V ((hW.below hW2).below hV)))
 clear hW hB hA ho hW2
 skip
 generalize a_N s.items 0 false true false false (fun x => a_F x.col) = v at *
 generalize s.names.length = l1 at *
 generalize s.others.length = l2 at *
 generalize s.items.length = l3 at *
 generalize s.cond.length = l4 at *
 go_enter func218, ntmps218
 go_wp2_with (go_at_call 216; refine (HM.out).mono ?_; rintro e w1 ⟨rfl, hb1⟩)
 exact d_s
theorem k_d (b : Nat) (s : Stp) (a : Adr) (w : World) (hW : a_v w 1 a_w) (hB : b_r w b s a) (hA : s.At w a) (ho : s.ok) (hop : s.op = 11) : b_8 w 222 #[a_f b] (a_N s.items 0 true true false false (b_Y s.names)) := by
 refine ⟨fun args W => by kernel_rfl, fun W hW2 => ?_⟩
 obtain ⟨hb, c0, c1, c2, c3, c4, c5⟩ := hB.below hW2
 have HM := a_2 (c_2 11 true true false false (.inr (.inr (.inl ⟨rfl, rfl, rfl, rfl, rfl⟩))) s.src a.nA s.names.length a.nC a.oA s.others.length a.oC a.iA a.iC a.cA s.cond.length a.cC s.items 0 223 #[a_f b] (b_Y s.names) W (hW.below hW2) (hA.items.below hW2) ho.items hA.ci o_ (fun args W => by kernel_rfl) (fun k h E ec V hV hn => l_n b s a _ E ec V ((hW.below hW2).below hV) ((hB.below hW2).below hV) ((hA.below hW2).below hV) ho))
 clear hW hB hA ho hW2
 rw [hop] at c0
 generalize a_N s.items 0 true true false false (b_Y s.names) = v at *
 generalize s.names.length = l1 at *
 generalize s.others.length = l2 at *
 generalize s.items.length = l3 at *
 generalize s.cond.length = l4 at *
 go_enter func222, ntmps222
 go_wp2_with (go_at_call 216; refine (HM.out).mono ?_; rintro e w1 ⟨rfl, hb1⟩)
 exact d_s
theorem k_6 (b : Nat) (s : Stp) (a : Adr) (w : World) (hW : a_v w 1 a_w) (hB : b_r w b s a) (hA : s.At w a) (ho : s.ok) (hop : s.op = 12) : b_8 w 227 #[a_f b] (a_N s.items 1 true true true false b_A) := by
 refine ⟨fun args W => by kernel_rfl, fun W hW2 => ?_⟩
 obtain ⟨hb, c0, c1, c2, c3, c4, c5⟩ := hB.below hW2
 have HM := a_2 (c_2 12 true true true false (.inr (.inr (.inr ⟨rfl, rfl, rfl, rfl, rfl⟩))) s.src a.nA s.names.length a.nC a.oA s.others.length a.oC a.iA a.iC a.cA s.cond.length a.cC s.items 1 228 #[] b_A W (hW.below hW2) (hA.items.below hW2) ho.items hA.ci o_ (fun args W => by kernel_rfl) (fun k h E ec V hV hn => f_d _ E ec V ((hW.below hW2).below hV)))
 clear hW hB hA ho hW2
 rw [hop] at c0
 generalize a_N s.items 1 true true true false b_A = v at *
 generalize s.names.length = l1 at *
 generalize s.others.length = l2 at *
 generalize s.items.length = l3 at *
 generalize s.cond.length = l4 at *
 go_enter func227, ntmps227
 go_wp2_with (go_at_call 216; refine (HM.out).mono ?_; rintro e w1 ⟨rfl, hb1⟩)
 exact d_s
def f_3 (s : Stp) : Prop := ∀ (a : Adr) (w : World), a_v w 1 a_w → c_7 w → s.At w a → s.ok → b_z s.op s.src s.names.length s.others.length s.items.length s.cond.length = false → Calls prog 160 #[s.agg a] w fun e w' => e = .returned (.int .i64 (opS s)) ∧ Below w.heap.size w w'
theorem d_l {w w1 : World} {s : Stp} {a : Adr} {t : TypeId} (h : Below (w.heap.size + 1) (w.alloc (.cells (s.cells a).toArray t)) w1) : b_r w1 w.heap.size s a := by
 obtain ⟨m0, m1, m2, m3, m4, m5, hlw⟩ := a_R h
 exact ⟨hlw, m0, m1, m2, m3, m4, m5⟩
set_option maxRecDepth 100000
theorem r_j (s : Stp) (hop : s.op = 4) : f_3 s := by
 intro a w hW hU hA ho hu
 refine q_e ?_; intro HX
 have HSh := a_2 (show ∀ W, Below w.heap.size w W → Calls prog 207 #[.agg #[.int .i64 4, str s.src, .slice a.nA s.names.length a.nC, .slice a.oA s.others.length a.oC, .slice a.iA s.items.length a.iC, .slice a.cA s.cond.length a.cC]] W (fun e w' => e = .returned (.bool true) ∧ Below W.heap.size W w') from fun W hb => by
  refine j_l ?_; intro h
  rw [hu, hop] at h
  exact h)
 have HBx := a_2 (fun w1 (h : Below (w.heap.size + 1) (w.alloc (.cells #[.int .i64 4, str s.src, .slice a.nA s.names.length a.nC, .slice a.oA s.others.length a.oC, .slice a.iA s.items.length a.iC, .slice a.cA s.cond.length a.cC] 129)) w1) => show b_r w1 w.heap.size s a from d_l (t := 129) (by unfold Stp.cells; rw [hop]; exact h))
 refine k_8 ?_; intro HW HA HO HOp
 have hbox : Below (w.heap.size + 1) (w.alloc (.cells #[.int .i64 4, str s.src, .slice a.nA s.names.length a.nC, .slice a.oA s.others.length a.oC, .slice a.iA s.items.length a.iC, .slice a.cA s.cond.length a.cC] 129)) (w.alloc (.cells #[.int .i64 4, str s.src, .slice a.nA s.names.length a.nC, .slice a.oA s.others.length a.oC, .slice a.iA s.items.length a.iC, .slice a.cA s.cond.length a.cC] 129)) := b_ _ _
 show Calls prog 160 #[.agg #[.int .i64 s.op, str s.src, .slice a.nA s.names.length a.nC, .slice a.oA s.others.length a.oC, .slice a.iA s.items.length a.iC, .slice a.cA s.cond.length a.cC]] w _
 rw [hop]
 clear hW hU hA ho hu hop
 have HJ := a_2 (HX.out.trans (g_k s))
 have H2 := a_2 (fun (w1 V : World) (hbx : b_r w1 w.heap.size s a) (hw1 : Below w.heap.size w w1) (hV : Below w1.heap.size w1 V) (h3 : w1.heap.size < V.heap.size) (hf : V.cell? ⟨w1.heap.size, 0, none⟩ = some (.func (.func 208) #[] #[a_f w.heap.size])) =>
  e_Q w1.heap.size w.heap.size s a V (HW.out.below (a_9 hV hw1)) (hbx.below hV) h3 hf (HA.out.below (a_9 hV hw1)) HO.out)
 refine s_B ?_; intro H4
 clear HX
 generalize f_Z s = v1 at *
 generalize a_N s.items 0 false true false false (fun x => a_F x.col) = v2 at *
 generalize opS s = r at *
 go_enter func160, ntmps160
 go_wp2_with (go_at_call 207; refine (HSh.out _ (a_5 hbox)).mono ?_; rintro e w1 ⟨rfl, hb1⟩; have hcur := a_1 hbox s_ hb1; clear hbox; have hbx := HBx.out _ hcur; obtain ⟨hlw, c0, c1, c2, c3, c4, c5⟩ := HBx.out _ hcur; rw [HOp.out] at c0; have hw1 := a_5 hcur; have hwb : Below w1.heap.size w1 (w1.alloc (.cells #[.func (.func 208) #[] #[a_f w.heap.size]] 80)) := zX; have hff : (w1.alloc (.cells #[.func (.func 208) #[] #[a_f w.heap.size]] 80)).cell? ⟨w1.heap.size, 0, none⟩ = some (.func (.func 208) #[] #[a_f w.heap.size]) := (by simp [go_sem]); have hfl : w1.heap.size < (w1.alloc (.cells #[.func (.func 208) #[] #[a_f w.heap.size]] 80)).heap.size := s_)
 refine s_9 ?_; intro hV T2 T4
 refine (b_X (w1.heap.size + 1) 2 [⟨210, #[a_f w1.heap.size, a_f w.heap.size], v1⟩, ⟨218, #[a_f w.heap.size], v2⟩] _ s_ (show (2 : Nat) ≤ 10 from by decide) (fun j h => ?_) (fun j h => ?_)).mono ?_
 ·have h9 : j < 2 := h
  match j, h9 with
  | 0, _ => simp [go_sem]
  | 1, _ => simp [go_sem]
 ·have h9 : j < 2 := h
  match j, h9 with
  | 0, _ => exact T2
  | 1, _ => exact T4
 rintro e w2 ⟨rfl, hb2⟩
 go_wp2
 go_ret
 exact ⟨a_d (by rw [HJ.out, ← two]; rfl), a_9 hb2 (a_9 hV hw1)⟩
theorem r_m (s : Stp) (hop : s.op = 5) : f_3 s := by
 intro a w hW hU hA ho hu
 refine q_e ?_; intro HX
 have HSh := a_2 (show ∀ W, Below w.heap.size w W → Calls prog 207 #[.agg #[.int .i64 5, str s.src, .slice a.nA s.names.length a.nC, .slice a.oA s.others.length a.oC, .slice a.iA s.items.length a.iC, .slice a.cA s.cond.length a.cC]] W (fun e w' => e = .returned (.bool true) ∧ Below W.heap.size W w') from fun W hb => by
  refine j_l ?_; intro h
  rw [hu, hop] at h
  exact h)
 have HBx := a_2 (fun w1 (h : Below (w.heap.size + 1) (w.alloc (.cells #[.int .i64 5, str s.src, .slice a.nA s.names.length a.nC, .slice a.oA s.others.length a.oC, .slice a.iA s.items.length a.iC, .slice a.cA s.cond.length a.cC] 129)) w1) => show b_r w1 w.heap.size s a from d_l (t := 129) (by unfold Stp.cells; rw [hop]; exact h))
 refine k_8 ?_; intro HW HA HO HOp
 have hbox : Below (w.heap.size + 1) (w.alloc (.cells #[.int .i64 5, str s.src, .slice a.nA s.names.length a.nC, .slice a.oA s.others.length a.oC, .slice a.iA s.items.length a.iC, .slice a.cA s.cond.length a.cC] 129)) (w.alloc (.cells #[.int .i64 5, str s.src, .slice a.nA s.names.length a.nC, .slice a.oA s.others.length a.oC, .slice a.iA s.items.length a.iC, .slice a.cA s.cond.length a.cC] 129)) := b_ _ _
 show Calls prog 160 #[.agg #[.int .i64 s.op, str s.src, .slice a.nA s.names.length a.nC, .slice a.oA s.others.length a.oC, .slice a.iA s.items.length a.iC, .slice a.cA s.cond.length a.cC]] w _
 rw [hop]
 clear hW hU hA ho hu hop
 have HJ := a_2 (HX.out.trans (g_k s))
 have H2 := a_2 (fun (w1 V : World) (hbx : b_r w1 w.heap.size s a) (hw1 : Below w.heap.size w w1) (hV : Below w1.heap.size w1 V) (h3 : w1.heap.size < V.heap.size) (hf : V.cell? ⟨w1.heap.size, 0, none⟩ = some (.func (.func 208) #[] #[a_f w.heap.size])) =>
  e_Q w1.heap.size w.heap.size s a V (HW.out.below (a_9 hV hw1)) (hbx.below hV) h3 hf (HA.out.below (a_9 hV hw1)) HO.out)
 refine s_B ?_; intro H4
 clear HX
 generalize f_Z s = v1 at *
 generalize a_N s.items 0 false true false false (fun x => a_F x.col) = v2 at *
 generalize opS s = r at *
 go_enter func160, ntmps160
 go_wp2_with (go_at_call 207; refine (HSh.out _ (a_5 hbox)).mono ?_; rintro e w1 ⟨rfl, hb1⟩; have hcur := a_1 hbox s_ hb1; clear hbox; have hbx := HBx.out _ hcur; obtain ⟨hlw, c0, c1, c2, c3, c4, c5⟩ := HBx.out _ hcur; rw [HOp.out] at c0; have hw1 := a_5 hcur; have hwb : Below w1.heap.size w1 (w1.alloc (.cells #[.func (.func 208) #[] #[a_f w.heap.size]] 80)) := zX; have hff : (w1.alloc (.cells #[.func (.func 208) #[] #[a_f w.heap.size]] 80)).cell? ⟨w1.heap.size, 0, none⟩ = some (.func (.func 208) #[] #[a_f w.heap.size]) := (by simp [go_sem]); have hfl : w1.heap.size < (w1.alloc (.cells #[.func (.func 208) #[] #[a_f w.heap.size]] 80)).heap.size := s_)
 refine s_9 ?_; intro hV T2 T4
 refine (b_X (w1.heap.size + 1) 2 [⟨210, #[a_f w1.heap.size, a_f w.heap.size], v1⟩, ⟨218, #[a_f w.heap.size], v2⟩] _ s_ (show (2 : Nat) ≤ 10 from by decide) (fun j h => ?_) (fun j h => ?_)).mono ?_
 ·have h9 : j < 2 := h
  match j, h9 with
  | 0, _ => simp [go_sem]
  | 1, _ => simp [go_sem]
 ·have h9 : j < 2 := h
  match j, h9 with
  | 0, _ => exact T2
  | 1, _ => exact T4
 rintro e w2 ⟨rfl, hb2⟩
 go_wp2
 go_ret
 exact ⟨a_d (by rw [HJ.out, ← two]; rfl), a_9 hb2 (a_9 hV hw1)⟩
end Go.Proofs.YtnpjibaolicbmaaGreatDoor
