/- Parts of the proof. -/
import Derived.Test.YtnpjibaolicbmaaGreatDoorPp11
set_option linter.unusedVariables false
set_option linter.unusedSimpArgs false
set_option maxHeartbeats 8000000
namespace Go.Proofs.YtnpjibaolicbmaaGreatDoor
open Go.Proofs.Tryz
open Go.RowKit
set_option maxRecDepth 100000
theorem h_5 (s : Stp) (a : Adr) (w : World) (hA : s.At w a) (ho : s.ok) :
  Calls prog 238 #[s.agg a] w fun e w' => e = .returned (.int .i64 (g_1 s)) ∧ Below w.heap.size w w' := by
 have HI := a_2 hA.items
 have hli := ho.items
 have HE := a_2 (show g_1 s = a_c (c_E s.src) (a_c (a_z s.names 1) (a_c (a_z s.others 1) (a_c (if s.names.length = s.others.length then 0 else 8) (a_N s.items 0 false true false false fun x => a_F x.col)))) from rfl)
 have HR0 := a_2 (fun W => c_p s.src W ho.src)
 have HR1 := a_2 (fun W (hb : Below w.heap.size w W) => b_S a.nA s.names a.nC 1 W (hA.names.below hb) ho.names (l_ _) hA.cn)
 have HR2 := a_2 (fun W (hb : Below w.heap.size w W) => b_S a.oA s.others a.oC 1 W (hA.others.below hb) ho.others (l_ _) hA.co)
 clear hA ho
 obtain ⟨op, src, names, others, its, cond⟩ := s
 obtain ⟨nA, nC, oA, oC, iA, iC, cA, cC⟩ := a
 simp only at HI HE HR0 HR1 HR2 hli ⊢
 show Calls prog 238 #[.agg #[.int .i64 op, str src, .slice nA names.length nC, .slice oA others.length oC, .slice iA its.length iC, .slice cA cond.length cC]] w _
 generalize c_E src = e0 at *
 generalize a_z names 1 = e1 at *
 generalize a_z others 1 = e2 at *
 generalize names.length = ln at *
 generalize others.length = lo at *
 generalize cond.length = lc
 generalize g_1 _ = r at *
 have hbox : Below (w.heap.size + 1) (w.alloc (.cells #[.int .i64 op, str src, .slice nA ln nC, .slice oA lo oC, .slice iA its.length iC, .slice cA lc cC] 129)) (w.alloc (.cells #[.int .i64 op, str src, .slice nA ln nC, .slice oA lo oC, .slice iA its.length iC, .slice cA lc cC] 129)) := b_ _ _
 have SRC : ∀ W, Below (w.heap.size + 1) (w.alloc (.cells #[.int .i64 op, str src, .slice nA ln nC, .slice oA lo oC, .slice iA its.length iC, .slice cA lc cC] 129)) W → Calls prog 239 #[str src] W fun e w' => e = .returned (.int .i64 e0) ∧ Below (w.heap.size + 1) (w.alloc (.cells #[.int .i64 op, str src, .slice nA ln nC, .slice oA lo oC, .slice iA its.length iC, .slice cA lc cC] 129)) w' := fun W hW => (HR0.out W).mono fun e w' ⟨h1, h2⟩ => ⟨h1, a_1 hW s_ h2⟩
 have L1 : ∀ W, Below (w.heap.size + 1) (w.alloc (.cells #[.int .i64 op, str src, .slice nA ln nC, .slice oA lo oC, .slice iA its.length iC, .slice cA lc cC] 129)) W → Calls prog 237 #[.slice nA ln nC, .int .i64 1] W fun e w' => e = .returned (.int .i64 e1) ∧ Below (w.heap.size + 1) (w.alloc (.cells #[.int .i64 op, str src, .slice nA ln nC, .slice oA lo oC, .slice iA its.length iC, .slice cA lc cC] 129)) w' := fun W hW => (HR1.out W (a_5 hW)).mono fun e w' ⟨h1, h2⟩ => ⟨h1, a_1 hW s_ h2⟩
 have L2 : ∀ W, Below (w.heap.size + 1) (w.alloc (.cells #[.int .i64 op, str src, .slice nA ln nC, .slice oA lo oC, .slice iA its.length iC, .slice cA lc cC] 129)) W → Calls prog 237 #[.slice oA lo oC, .int .i64 1] W fun e w' => e = .returned (.int .i64 e2) ∧ Below (w.heap.size + 1) (w.alloc (.cells #[.int .i64 op, str src, .slice nA ln nC, .slice oA lo oC, .slice iA its.length iC, .slice cA lc cC] 129)) w' := fun W hW => (HR2.out W (a_5 hW)).mono fun e w' ⟨h1, h2⟩ => ⟨h1, a_1 hW s_ h2⟩
 clear HR0 HR1 HR2
 have SRC := a_2 SRC
 have L1 := a_2 L1
 have L2 := a_2 L2
 by_cases h0 : e0 = 0
 rotate_left
 ·have hb : (e0 != 0) = true := by simpa using h0
  have HX := a_2 (show r = e0 from by rw [HE.out]; unfold a_c; rw [if_neg h0])
  clear HE h0
  go_enter func238, ntmps238
  go_wp2_with (go_at_call 239; refine (SRC.out _ hbox).mono ?_; rintro e w1 ⟨rfl, hb1⟩)
  exact o_N
 subst h0
 by_cases h1 : e1 = 0
 rotate_left
 ·have hb : (e1 != 0) = true := by simpa using h1
  have HX := a_2 (show r = e1 from by rw [HE.out]; unfold a_c; rw [if_pos rfl, if_neg h1])
  clear HE h1
  go_enter func238, ntmps238
  go_wp2_with (first
   | (go_at_call 239; refine (SRC.out _ hbox).mono ?_; rintro e w1 ⟨rfl, hb1⟩; obtain ⟨m0, m1, m2, m3, m4, m5, hlw⟩ := a_R hb1)
   | (go_at_call 237; refine (L1.out _ hb1).mono ?_; rintro e w2 ⟨rfl, hb2⟩))
  exact q_m
 subst h1
 by_cases h2 : e2 = 0
 rotate_left
 ·have hb : (e2 != 0) = true := by simpa using h2
  have HX := a_2 (show r = e2 from by rw [HE.out]; unfold a_c; rw [if_pos rfl, if_pos rfl, if_neg h2])
  clear HE h2
  go_enter func238, ntmps238
  go_wp2_with (first
   | (go_at_call 239; refine (SRC.out _ hbox).mono ?_; rintro e w1 ⟨rfl, hb1⟩; obtain ⟨m0, m1, m2, m3, m4, m5, hlw⟩ := a_R hb1)
   | (go_at_call 237; refine (L1.out _ hb1).mono ?_; rintro e w2 ⟨rfl, hb2⟩; obtain ⟨q0, q1, q2, q3, q4, q5, hlw2⟩ := a_R hb2; clear hb1)
   | (go_at_call 237; refine (L2.out _ hb2).mono ?_; rintro e w3 ⟨rfl, hb3⟩))
  exact r_h
 subst h2
 have HE3 := a_2 (show r = a_c (if ln = lo then 0 else 8) (a_N its 0 false true false false fun x => a_F x.col) from by rw [HE.out]; unfold a_c; simp)
 clear HE
 by_cases h3 : ln = lo
 rotate_left
 ·have hb : ((ln : Int) != (lo : Int)) = true := by simp; omega
  have HX := a_2 (show r = 8 from by rw [HE3.out, if_neg h3]; rfl)
  clear HE3 h3
  go_enter func238, ntmps238
  go_wp2_with (first
   | (go_at_call 239; refine (SRC.out _ hbox).mono ?_; rintro e w1 ⟨rfl, hb1⟩; obtain ⟨m0, m1, m2, m3, m4, m5, hlw⟩ := a_R hb1)
   | (go_at_call 237; refine (L1.out _ hb1).mono ?_; rintro e w2 ⟨rfl, hb2⟩; obtain ⟨q0, q1, q2, q3, q4, q5, hlw2⟩ := a_R hb2; clear hb1)
   | (go_at_call 237; refine (L2.out _ hb2).mono ?_; rintro e w3 ⟨rfl, hb3⟩; obtain ⟨o0, o1, o2, o3, o4, o5, hlw3⟩ := a_R hb3))
  exact r_h
 subst h3
 have hbn : ((ln : Int) != (ln : Int)) = false := by simp
 have HE4 := a_2 (show r = a_N its 0 false true false false fun x => a_F x.col from by rw [HE3.out, if_pos rfl]; rfl)
 clear HE3
 by_cases h4 : 12 < its.length
 ·have HX := a_2 (show r = 2 from by rw [HE4.out]; unfold a_N; rw [if_pos (.inr h4)])
  clear HE4
  go_enter func238, ntmps238
  go_wp2_with (first
   | (go_at_call 239; refine (SRC.out _ hbox).mono ?_; rintro e w1 ⟨rfl, hb1⟩; obtain ⟨m0, m1, m2, m3, m4, m5, hlw⟩ := a_R hb1)
   | (go_at_call 237; refine (L1.out _ hb1).mono ?_; rintro e w2 ⟨rfl, hb2⟩; obtain ⟨q0, q1, q2, q3, q4, q5, hlw2⟩ := a_R hb2; clear hb1)
   | (go_at_call 237; refine (L2.out _ hb2).mono ?_; rintro e w3 ⟨rfl, hb3⟩; obtain ⟨o0, o1, o2, o3, o4, o5, hlw3⟩ := a_R hb3))
  exact r_h
 have HE5 := a_2 (HE4.out.trans (e_Z o_))
 clear HE4
 go_enter func238, ntmps238
 go_wp2_with (first
  | (go_at_call 239; refine (SRC.out _ hbox).mono ?_; rintro e w1 ⟨rfl, hb1⟩; obtain ⟨m0, m1, m2, m3, m4, m5, hlw⟩ := a_R hb1)
  | (go_at_call 237; refine (L1.out _ hb1).mono ?_; rintro e w2 ⟨rfl, hb2⟩; obtain ⟨q0, q1, q2, q3, q4, q5, hlw2⟩ := a_R hb2; clear hb1)
  | (go_at_call 237; refine (L2.out _ hb2).mono ?_; rintro e w3 ⟨rfl, hb3⟩; obtain ⟨o0, o1, o2, o3, o4, o5, hlw3⟩ := a_R hb3))
 clear SRC L1 L2 q0 q1 q2 q3 q4 q5 o0 o1 o2 o3 o4 o5 m0 m1 m2 m3 m4 m5 hb2
 go_loopw [6] (fun i wr => ∃ k : Nat, k ≤ its.length ∧ i = .int .i64 k ∧ Hid (∀ j, j < k → e_9 its false true false false (fun x => a_F x.col) j = 0) ∧ Below (w.heap.size + 1) (w.alloc (.cells #[.int .i64 op, str src, .slice nA ln nC, .slice oA ln oC, .slice iA its.length iC, .slice cA lc cC] 129)) wr) (fun i _ => its.length - (intOf i).toNat)
 case atStart => exact ⟨0, o_, rfl, fun j hj => absurd hj (Nat.not_lt_zero _), hb3⟩
 case round =>
  obtain ⟨k, hk, rfl, HZ, hbel⟩ := hrel
  have hbw := a_5 hbel
  obtain ⟨m0, m1, m2, m3, m4, m5, hlw⟩ := a_R hbel
  by_cases hlt : k < its.length
  ·rcases HI.out.below hbw with e | ⟨g, off, rfl, hg, hc⟩
   ·exact absurd hlt e_
   obtain ⟨c0, c1, c2, c3, E, ec, c4, hE⟩ := hc k hlt; have HIt := a_2 (c_f (some ⟨g, off, none⟩) its iC k false true false false wr (.inr ⟨g, off, rfl, hg, hc⟩) hlt hli (by simp [i_q])); have HV := a_2 (fun W => d_7 its[k].col W); have HT := a_2 (g_9 hlt false true false false (fun x => a_F x.col)); have HF := a_2 (fun x (e : e_9 its false true false false (fun x => a_F x.col) k = x) (hx : x ≠ 0) => (HE5.out.trans (a_q HZ.out (by rw [e]; exact hx) hlt)).trans e); have HN := a_2 (fun (e : e_9 its false true false false (fun x => a_F x.col) k = 0) => a_T HZ.out e); have HC4 := a_2 (fun W (hb : Below wr.heap.size wr W) => (hb.cell (p := ⟨g, off + k * 5 + 2, none⟩) hg).trans c2); clear hc hE; generalize d_r its k false true false false = u at *; generalize its[k] = x at *
   by_cases hu : u = 0
   rotate_left
   ·have hub : (u != 0) = true := by simpa using hu
    refine p_I ?_; intro HR; clear HT HF HN hu
    go_wp2_with (go_at_call 266; refine (HIt.out).mono ?_; rintro e w4 ⟨rfl, hb4⟩)
    go_ret
    exact ⟨a_d HR.out.symm, a_9 hb4 hbw⟩
   subst hu; refine o_p ?_; intro HT2; unfold a_F at HT2
   cases hv : nmB x.col
   ·rw [hv] at HV HT2
    have HR := a_2 (HF.out 4 (HT2.out.trans (if_neg d_)) d_); clear HT HF HN HT2 hv
    go_wp2_with (first
     | (go_at_call 266; refine (HIt.out).mono ?_; rintro e w4 ⟨rfl, hb4⟩; have hcur := a_1 hbel s_ hb4; obtain ⟨n0, n1, n2, n3, n4, n5, hlw1⟩ := a_R hcur; have d4 := HC4.out _ hb4)
     | (go_at_call 32; refine (HV.out _).mono ?_; rintro e w5 ⟨rfl, hb5⟩))
    go_ret
    exact ⟨a_d HR.out.symm, a_9 hb5 (a_9 hb4 hbw)⟩
   ·rw [hv] at HV HT2
    have HR := a_2 (HN.out (HT2.out.trans (if_pos rfl))); clear HT HF HN HT2 hv
    go_wp2_with (first
     | (go_at_call 266; refine (HIt.out).mono ?_; rintro e w4 ⟨rfl, hb4⟩; have hcur := a_1 hbel s_ hb4; obtain ⟨n0, n1, n2, n3, n4, n5, hlw1⟩ := a_R hcur; have d4 := HC4.out _ hb4)
     | (go_at_call 32; refine (HV.out _).mono ?_; rintro e w5 ⟨rfl, hb5⟩))
    exact ⟨⟨k + 1, o_, t_, HR, a_1 hcur s_ hb5⟩, w_⟩
  ·obtain rfl : k = its.length := by omega
   have HR := a_2 (HE5.out.trans (a_Y HZ.out))
   go_wp2
   exact o_P
set_option maxRecDepth 512
theorem a_E (f : Int) (w : World) : Calls prog 243 #[.int .i64 f] w fun e w' => e = .returned (.tuple #[.bool (f_0 f).1, .bool (f_0 f).2.1, .bool (f_0 f).2.2]) ∧ w = w' := by
 by_cases h : f = 1 ∨ f = 8 ∨ f = 9 ∨ f = 3 ∨ f = 12 ∨ f = 13 ∨ f = 10 ∨ f = 11
 ·rcases h with rfl | rfl | rfl | rfl | rfl | rfl | rfl | rfl
  all_goals
   go_enter func243, ntmps243
   go_wp2
   go_ret3
   exact ⟨rfl, rfl⟩
 ·have e : f_0 f = (false, false, false) := by unfold f_0; rw [if_neg o_, if_neg o_, if_neg o_]
  rw [e]
  have q1 : (f == 1) = false := beq_eq_false_iff_ne.2 o_
  have q8 : (f == 8) = false := beq_eq_false_iff_ne.2 o_
  have q9 : (f == 9) = false := beq_eq_false_iff_ne.2 o_
  have q3 : (f == 3) = false := beq_eq_false_iff_ne.2 o_
  have q12 : (f == 12) = false := beq_eq_false_iff_ne.2 o_
  have q13 : (f == 13) = false := beq_eq_false_iff_ne.2 o_
  have q10 : (f == 10) = false := beq_eq_false_iff_ne.2 o_
  have q11 : (f == 11) = false := beq_eq_false_iff_ne.2 o_
  clear h e
  go_enter func243, ntmps243
  go_wp2
  go_ret3
  exact ⟨rfl, rfl⟩
set_option maxRecDepth 100000
theorem g_b (s : Stp) (a : Adr) (w : World) (hA : s.At w a) (ho : s.ok) :
  Calls prog 240 #[s.agg a] w fun e w' => e = .returned (.int .i64 (f_A s)) ∧ Below w.heap.size w w' := by
 have HI := a_2 hA.items
 have hli := ho.items
 have hln := ho.names
 have HE := a_2 (show f_A s = a_c (a_z s.names 0) (if s.names.length + s.items.length = 0 then 2 else a_N s.items 0 true true false false (b_Y s.names)) from rfl)
 refine s_3 ?_; intro HR1 HR2 HH0
 clear hA ho
 obtain ⟨op, src, names, others, its, cond⟩ := s
 obtain ⟨nA, nC, oA, oC, iA, iC, cA, cC⟩ := a
 simp only at HI HE HR1 HR2 HH0 hli hln ⊢
 show Calls prog 240 #[.agg #[.int .i64 op, str src, .slice nA names.length nC, .slice oA others.length oC, .slice iA its.length iC, .slice cA cond.length cC]] w _
 generalize a_z names 0 = e1 at *
 generalize a_z others 0 = e2 at *
 generalize names.length = ln at *
 generalize others.length = lo at *
 generalize cond.length = lc
 generalize f_A _ = r at *
 refine r_Z ?_; intro hbox L1 L2
 clear HR1 HR2
 by_cases h1 : e1 = 0
 rotate_left
 ·have hb : (e1 != 0) = true := by simpa using h1
  have HX := a_2 (show r = e1 from by rw [HE.out]; unfold a_c; rw [if_neg h1])
  clear HE h1
  go_enter func240, ntmps240
  go_wp2_with (go_at_call 237; refine (L1.out _ hbox).mono ?_; rintro e w1 ⟨rfl, hb1⟩; obtain ⟨m0, m1, m2, m3, m4, m5, hlw⟩ := a_R hb1)
  exact o_N
 subst h1
 have HE2 := a_2 (show r = if ln + its.length = 0 then 2 else a_N its 0 true true false false (b_Y names) from by rw [HE.out]; unfold a_c; rw [if_pos rfl])
 clear HE
 by_cases h4 : 12 < its.length
 ·have HX := a_2 (show r = 2 from by rw [HE2.out, if_neg o_]; unfold a_N; rw [if_pos (.inr h4)])
  clear HE2
  go_enter func240, ntmps240
  go_wp2_with (first
   | (go_at_call 237; refine (L1.out _ hbox).mono ?_; rintro e w1 ⟨rfl, hb1⟩; obtain ⟨m0, m1, m2, m3, m4, m5, hlw⟩ := a_R hb1))
  all_goals first | (exfalso; omega) | skip
  exact o_N
 by_cases h3 : ln + its.length = 0
 ·have HX := a_2 (show r = 2 from by rw [HE2.out, if_pos h3])
  have hz : ((its.length : Int) + (ln : Int) == 0) = true := by simp; omega
  clear HE2
  go_enter func240, ntmps240
  go_wp2_with (first
   | (go_at_call 237; refine (L1.out _ hbox).mono ?_; rintro e w1 ⟨rfl, hb1⟩; obtain ⟨m0, m1, m2, m3, m4, m5, hlw⟩ := a_R hb1))
  all_goals first | (exfalso; omega) | skip
  exact o_N
 have hz : ((its.length : Int) + (ln : Int) == 0) = false := beq_eq_false_iff_ne.2 o_
 have HE5 := a_2 ((HE2.out.trans (if_neg h3)).trans (e_Z o_))
 clear HE2
 go_enter func240, ntmps240
 go_wp2_with (first
  | (go_at_call 237; refine (L1.out _ hbox).mono ?_; rintro e w1 ⟨rfl, hb1⟩; obtain ⟨m0, m1, m2, m3, m4, m5, hlw⟩ := a_R hb1))
 all_goals first | (exfalso; omega) | skip
 go_loopw [4] (fun i wr => ∃ k : Nat, k ≤ its.length ∧ i = .int .i64 k ∧ Hid (∀ j, j < k → e_9 its true true false false (b_Y names) j = 0) ∧ Below (w.heap.size + 1) (w.alloc (.cells #[.int .i64 op, str src, .slice nA ln nC, .slice oA lo oC, .slice iA its.length iC, .slice cA lc cC] 129)) wr) (fun i _ => its.length - (intOf i).toNat)
 case atStart => exact ⟨0, o_, rfl, fun j hj => absurd hj (Nat.not_lt_zero _), hb1⟩
 case round =>
  obtain ⟨k, hk, rfl, HZ, hbel⟩ := hrel
  have hbw := a_5 hbel
  obtain ⟨m0, m1, m2, m3, m4, m5, hlw⟩ := a_R hbel
  by_cases hlt : k < its.length
  ·rcases HI.out.below hbw with e | ⟨g, off, rfl, hg, hc⟩
   ·exact absurd hlt e_
   obtain ⟨c0, c1, c2, c3, E, ec, c4, hE⟩ := hc k hlt; have HIt := a_2 (fun W (hb : Below wr.heap.size wr W) => c_f (some ⟨g, off, none⟩) its iC k true true false false W (h_1.below (.inr ⟨g, off, rfl, hg, hc⟩) hb) hlt hli (by simp [i_q])); have HV := a_2 (fun W => d_7 its[k].col W); have HH := a_2 (fun W hb => HH0.out its[k].name W hb); have HT := a_2 (g_9 hlt true true false false (b_Y names)); have HF := a_2 (fun x (e : e_9 its true true false false (b_Y names) k = x) (hx : x ≠ 0) => (HE5.out.trans (a_q HZ.out (by rw [e]; exact hx) hlt)).trans e); have HN := a_2 (fun (e : e_9 its true true false false (b_Y names) k = 0) => a_T HZ.out e); clear hc hE; generalize d_r its k true true false false = u at *; generalize its[k] = x at *; obtain ⟨xn, xf, xc, xm, xe⟩ := x; simp only at c0 c1 c2 c3 c4 HV HH HT; generalize xe.length = le at *
   by_cases hu : u = 0
   rotate_left
   ·have hub : (u != 0) = true := by simpa using hu
    refine p_I ?_; intro HR; clear HT HF HN hu
    go_wp2_with (first
     | (go_at_call 266; refine (HIt.out _ ((b_ _ _).alloc (l_ _) _)).mono ?_; rintro e w4 ⟨rfl, hb4⟩; obtain ⟨n0, n1, n2, n3, n4, hlx⟩ := e_y (a_1 (b_ (wr.heap.size + 1) (wr.alloc _)) s_ hb4); have hs4 := a_1 (hbel.alloc hlw _) s_ hb4; obtain ⟨s0, s1, s2, s3, s4, s5, hls⟩ := a_R hs4))
    all_goals first | (go_ret; exact ⟨a_d HR.out.symm, a_5 hs4⟩) | (exfalso; omega) | (exfalso; simp_all; done)
   subst hu; refine o_p ?_; intro HT2; clear HT
   by_cases hin : xn ∈ names
   ·have hinb : decide (xn ∈ names) = true := by simpa using hin
    rw [hinb] at HH; have HR := a_2 (HF.out 6 (HT2.out.trans (by unfold b_Y; rw [if_pos hin])) d_); clear HF HN HT2 hin hinb
    go_wp2_with (first
     | (go_at_call 266; refine (HIt.out _ ((b_ _ _).alloc (l_ _) _)).mono ?_; rintro e w4 ⟨rfl, hb4⟩; obtain ⟨n0, n1, n2, n3, n4, hlx⟩ := e_y (a_1 (b_ (wr.heap.size + 1) (wr.alloc _)) s_ hb4); have hs4 := a_1 (hbel.alloc hlw _) s_ hb4; obtain ⟨s0, s1, s2, s3, s4, s5, hls⟩ := a_R hs4)
     | (go_at_call 34; refine (HH.out _ (a_5 hs4)).mono ?_; rintro e w' ⟨rfl, rfl⟩))
    all_goals first | (go_ret; exact ⟨a_d HR.out.symm, a_5 hs4⟩) | (exfalso; omega) | (exfalso; simp_all; done)
   have hinb : decide (xn ∈ names) = false := by simpa using hin
   rw [hinb] at HH; have HT3 := a_2 (HT2.out.trans (by unfold b_Y; rw [if_neg hin])); clear HT2 hinb hin; simp only at HT3
   by_cases q1 : xf < 1
   ·have HR := a_2 (HF.out 8 (HT3.out.trans (by rw [if_pos (.inl q1)])) d_)
    clear HF HN HT3
    go_wp2_with (first
     | (go_at_call 266; refine (HIt.out _ ((b_ _ _).alloc (l_ _) _)).mono ?_; rintro e w4 ⟨rfl, hb4⟩; obtain ⟨n0, n1, n2, n3, n4, hlx⟩ := e_y (a_1 (b_ (wr.heap.size + 1) (wr.alloc _)) s_ hb4); have hs4 := a_1 (hbel.alloc hlw _) s_ hb4; obtain ⟨s0, s1, s2, s3, s4, s5, hls⟩ := a_R hs4)
     | (go_at_call 34; refine (HH.out _ (a_5 hs4)).mono ?_; rintro e w' ⟨rfl, rfl⟩))
    all_goals first | (go_ret; exact ⟨a_d HR.out.symm, a_5 hs4⟩) | (exfalso; omega) | (exfalso; simp_all; done)
   by_cases q2 : 7 < xf
   ·have HR := a_2 (HF.out 8 (HT3.out.trans (by rw [if_pos (.inr (.inl q2))])) d_)
    clear HF HN HT3
    go_wp2_with (first
     | (go_at_call 266; refine (HIt.out _ ((b_ _ _).alloc (l_ _) _)).mono ?_; rintro e w4 ⟨rfl, hb4⟩; obtain ⟨n0, n1, n2, n3, n4, hlx⟩ := e_y (a_1 (b_ (wr.heap.size + 1) (wr.alloc _)) s_ hb4); have hs4 := a_1 (hbel.alloc hlw _) s_ hb4; obtain ⟨s0, s1, s2, s3, s4, s5, hls⟩ := a_R hs4)
     | (go_at_call 34; refine (HH.out _ (a_5 hs4)).mono ?_; rintro e w' ⟨rfl, rfl⟩))
    all_goals first | (go_ret; exact ⟨a_d HR.out.symm, a_5 hs4⟩) | (exfalso; omega) | (exfalso; simp_all; done)
   by_cases q3 : xf = 1
   ·subst q3
    by_cases q4 : xc = []
    ·subst q4
     have HR := a_2 (HN.out (HT3.out.trans s_)); clear HF HN HT3
     go_wp2_with (first
      | (go_at_call 266; refine (HIt.out _ ((b_ _ _).alloc (l_ _) _)).mono ?_; rintro e w4 ⟨rfl, hb4⟩; obtain ⟨n0, n1, n2, n3, n4, hlx⟩ := e_y (a_1 (b_ (wr.heap.size + 1) (wr.alloc _)) s_ hb4); have hs4 := a_1 (hbel.alloc hlw _) s_ hb4; obtain ⟨s0, s1, s2, s3, s4, s5, hls⟩ := a_R hs4)
      | (go_at_call 34; refine (HH.out _ (a_5 hs4)).mono ?_; rintro e w' ⟨rfl, rfl⟩))
     all_goals first | exact ⟨⟨k + 1, o_, t_, HR, hs4⟩, w_⟩ | (exfalso; omega) | (exfalso; simp_all; done)
    ·have q5 : xc.isEmpty = false := by cases xc <;> simp_all
     have HR := a_2 (HF.out 8 (HT3.out.trans (by simp [q4])) d_); clear HF HN HT3 q4
     go_wp2_with (first
      | (go_at_call 266; refine (HIt.out _ ((b_ _ _).alloc (l_ _) _)).mono ?_; rintro e w4 ⟨rfl, hb4⟩; obtain ⟨n0, n1, n2, n3, n4, hlx⟩ := e_y (a_1 (b_ (wr.heap.size + 1) (wr.alloc _)) s_ hb4); have hs4 := a_1 (hbel.alloc hlw _) s_ hb4; obtain ⟨s0, s1, s2, s3, s4, s5, hls⟩ := a_R hs4)
      | (go_at_call 34; refine (HH.out _ (a_5 hs4)).mono ?_; rintro e w' ⟨rfl, rfl⟩))
     all_goals first | (go_ret; exact ⟨a_d HR.out.symm, a_5 hs4⟩) | (exfalso; omega) | (exfalso; simp_all; done)
   have q6 : (xf == 1) = false := beq_eq_false_iff_ne.2 q3; have q7 : (xf != 1) = true := by simpa using q3
   have HT4 := a_2 (HT3.out.trans (by rw [if_neg (by simp [q3]; omega), if_pos q3])); clear HT3 q3; unfold a_F at HT4
   cases hv : nmB xc
   ·rw [hv] at HV HT4
    have HR := a_2 (HF.out 4 (HT4.out.trans (if_neg d_)) d_); clear HF HN HT4 hv
    go_wp2_with (first
     | (go_at_call 266; refine (HIt.out _ ((b_ _ _).alloc (l_ _) _)).mono ?_; rintro e w4 ⟨rfl, hb4⟩; obtain ⟨n0, n1, n2, n3, n4, hlx⟩ := e_y (a_1 (b_ (wr.heap.size + 1) (wr.alloc _)) s_ hb4); have hs4 := a_1 (hbel.alloc hlw _) s_ hb4; obtain ⟨s0, s1, s2, s3, s4, s5, hls⟩ := a_R hs4)
     | (go_at_call 34; refine (HH.out _ (a_5 hs4)).mono ?_; rintro e w' ⟨rfl, rfl⟩)
     | (go_at_call 32; refine (HV.out _).mono ?_; rintro e w5 ⟨rfl, hb5⟩; have hs5 := a_1 hs4 s_ hb5; obtain ⟨t0, t1, t2, t3, t4, t5, hlt5⟩ := a_R hs5; have hn5 := hb5.cell (p := ⟨wr.heap.size, 3, none⟩) hlx; rw [n3] at hn5))
    all_goals first | (go_ret; exact ⟨a_d HR.out.symm, a_5 hs5⟩) | (exfalso; omega) | (exfalso; simp_all; done)
   ·rw [hv] at HV HT4
    have HR := a_2 (HN.out (HT4.out.trans (if_pos rfl))); clear HF HN HT4 hv
    go_wp2_with (first
     | (go_at_call 266; refine (HIt.out _ ((b_ _ _).alloc (l_ _) _)).mono ?_; rintro e w4 ⟨rfl, hb4⟩; obtain ⟨n0, n1, n2, n3, n4, hlx⟩ := e_y (a_1 (b_ (wr.heap.size + 1) (wr.alloc _)) s_ hb4); have hs4 := a_1 (hbel.alloc hlw _) s_ hb4; obtain ⟨s0, s1, s2, s3, s4, s5, hls⟩ := a_R hs4)
     | (go_at_call 34; refine (HH.out _ (a_5 hs4)).mono ?_; rintro e w' ⟨rfl, rfl⟩)
     | (go_at_call 32; refine (HV.out _).mono ?_; rintro e w5 ⟨rfl, hb5⟩; have hs5 := a_1 hs4 s_ hb5; obtain ⟨t0, t1, t2, t3, t4, t5, hlt5⟩ := a_R hs5; have hn5 := hb5.cell (p := ⟨wr.heap.size, 3, none⟩) hlx; rw [n3] at hn5))
    all_goals first | exact ⟨⟨k + 1, o_, t_, HR, hs5⟩, w_⟩ | (exfalso; omega) | (exfalso; simp_all; done)
  ·obtain rfl : k = its.length := by omega
   have HR := a_2 (HE5.out.trans (a_Y HZ.out))
   go_wp2
   exact o_P
end Go.Proofs.YtnpjibaolicbmaaGreatDoor
