/- Parts of the proof. -/
import Derived.Test.YtmbeeefkpgfgmaaGreatDoorPp33
set_option linter.unusedVariables false
set_option linter.unusedSimpArgs false
set_option maxHeartbeats 8000000
namespace Go.Proofs.YtmbeeefkpgfgmaaGreatDoor
open Go.Proofs.Tryz
open Go.RowKit
set_option maxRecDepth 100000
theorem i_k (s : Stp) (a : Adr) (w : World) (hA : s.At w a) (ho : s.ok) :
  Calls prog 64 #[s.agg a] w fun e w' => e = .returned (.int .i64 (g_d s)) ∧ Below w.heap.size w w' := by
 have HI := a_0 hA.items
 have hli := ho.items
 have HE := a_0 (show g_d s = b_8 (d_3 s.src) (b_8 (a_Y s.names 1) (b_8 (a_Y s.others 1) (b_8 (if s.names.length = s.others.length then 0 else 8) (a_F s.items 0 false true false false fun x => c_f x.col)))) from rfl)
 have HR0 := a_0 (fun W => d_6 s.src W ho.src)
 have HR1 := a_0 (fun W (hb : Below w.heap.size w W) => c_n a.nA s.names a.nC 1 W (hA.names.below hb) ho.names (l_ _) hA.cn)
 have HR2 := a_0 (fun W (hb : Below w.heap.size w W) => c_n a.oA s.others a.oC 1 W (hA.others.below hb) ho.others (l_ _) hA.co)
 clear hA ho
 obtain ⟨op, src, names, others, its, cond⟩ := s
 obtain ⟨nA, nC, oA, oC, iA, iC, cA, cC⟩ := a
 simp only at HI HE HR0 HR1 HR2 hli ⊢
 show Calls prog 64 #[.agg #[.int .i64 op, str src, .slice nA names.length nC, .slice oA others.length oC, .slice iA its.length iC, .slice cA cond.length cC]] w _
 generalize d_3 src = e0 at *
 generalize a_Y names 1 = e1 at *
 generalize a_Y others 1 = e2 at *
 generalize names.length = ln at *
 generalize others.length = lo at *
 generalize cond.length = lc
 generalize g_d _ = r at *
 have hbox : Below (w.heap.size + 1) (w.alloc (.cells #[.int .i64 op, str src, .slice nA ln nC, .slice oA lo oC, .slice iA its.length iC, .slice cA lc cC] 27)) (w.alloc (.cells #[.int .i64 op, str src, .slice nA ln nC, .slice oA lo oC, .slice iA its.length iC, .slice cA lc cC] 27)) := b_ _ _
 have SRC : ∀ W, Below (w.heap.size + 1) (w.alloc (.cells #[.int .i64 op, str src, .slice nA ln nC, .slice oA lo oC, .slice iA its.length iC, .slice cA lc cC] 27)) W → Calls prog 65 #[str src] W fun e w' => e = .returned (.int .i64 e0) ∧ Below (w.heap.size + 1) (w.alloc (.cells #[.int .i64 op, str src, .slice nA ln nC, .slice oA lo oC, .slice iA its.length iC, .slice cA lc cC] 27)) w' := fun W hW => (HR0.out W).mono fun e w' ⟨h1, h2⟩ => ⟨h1, a_4 hW s_ h2⟩
 have L1 : ∀ W, Below (w.heap.size + 1) (w.alloc (.cells #[.int .i64 op, str src, .slice nA ln nC, .slice oA lo oC, .slice iA its.length iC, .slice cA lc cC] 27)) W → Calls prog 63 #[.slice nA ln nC, .int .i64 1] W fun e w' => e = .returned (.int .i64 e1) ∧ Below (w.heap.size + 1) (w.alloc (.cells #[.int .i64 op, str src, .slice nA ln nC, .slice oA lo oC, .slice iA its.length iC, .slice cA lc cC] 27)) w' := fun W hW => (HR1.out W (a_5 hW)).mono fun e w' ⟨h1, h2⟩ => ⟨h1, a_4 hW s_ h2⟩
 have L2 : ∀ W, Below (w.heap.size + 1) (w.alloc (.cells #[.int .i64 op, str src, .slice nA ln nC, .slice oA lo oC, .slice iA its.length iC, .slice cA lc cC] 27)) W → Calls prog 63 #[.slice oA lo oC, .int .i64 1] W fun e w' => e = .returned (.int .i64 e2) ∧ Below (w.heap.size + 1) (w.alloc (.cells #[.int .i64 op, str src, .slice nA ln nC, .slice oA lo oC, .slice iA its.length iC, .slice cA lc cC] 27)) w' := fun W hW => (HR2.out W (a_5 hW)).mono fun e w' ⟨h1, h2⟩ => ⟨h1, a_4 hW s_ h2⟩
 clear HR0 HR1 HR2
 have SRC := a_0 SRC
 have L1 := a_0 L1
 have L2 := a_0 L2
 by_cases h0 : e0 = 0
 rotate_left
 ·have hb : (e0 != 0) = true := by simpa using h0
  have HX := a_0 (show r = e0 from by rw [HE.out]; unfold b_8; rw [if_neg h0])
  clear HE h0
  go_enter func64, ntmps64
  go_wp2_with (go_at_call 65; refine (SRC.out _ hbox).mono ?_; rintro e w1 ⟨rfl, hb1⟩)
  exact s_q
 subst h0
 by_cases h1 : e1 = 0
 rotate_left
 ·have hb : (e1 != 0) = true := by simpa using h1
  have HX := a_0 (show r = e1 from by rw [HE.out]; unfold b_8; rw [if_pos rfl, if_neg h1])
  clear HE h1
  go_enter func64, ntmps64
  go_wp2_with (first
   | (go_at_call 65; refine (SRC.out _ hbox).mono ?_; rintro e w1 ⟨rfl, hb1⟩; obtain ⟨m0, m1, m2, m3, m4, m5, hlw⟩ := b_k hb1)
   | (go_at_call 63; refine (L1.out _ hb1).mono ?_; rintro e w2 ⟨rfl, hb2⟩))
  exact t_x
 subst h1
 by_cases h2 : e2 = 0
 rotate_left
 ·have hb : (e2 != 0) = true := by simpa using h2
  have HX := a_0 (show r = e2 from by rw [HE.out]; unfold b_8; rw [if_pos rfl, if_pos rfl, if_neg h2])
  clear HE h2
  go_enter func64, ntmps64
  go_wp2_with (first
   | (go_at_call 65; refine (SRC.out _ hbox).mono ?_; rintro e w1 ⟨rfl, hb1⟩; obtain ⟨m0, m1, m2, m3, m4, m5, hlw⟩ := b_k hb1)
   | (go_at_call 63; refine (L1.out _ hb1).mono ?_; rintro e w2 ⟨rfl, hb2⟩; obtain ⟨q0, q1, q2, q3, q4, q5, hlw2⟩ := b_k hb2; clear hb1)
   | (go_at_call 63; refine (L2.out _ hb2).mono ?_; rintro e w3 ⟨rfl, hb3⟩))
  exact u_f
 subst h2
 have HE3 := a_0 (show r = b_8 (if ln = lo then 0 else 8) (a_F its 0 false true false false fun x => c_f x.col) from by rw [HE.out]; unfold b_8; simp)
 clear HE
 by_cases h3 : ln = lo
 rotate_left
 ·have hb : ((ln : Int) != (lo : Int)) = true := by simp; omega
  have HX := a_0 (show r = 8 from by rw [HE3.out, if_neg h3]; rfl)
  clear HE3 h3
  go_enter func64, ntmps64
  go_wp2_with (first
   | (go_at_call 65; refine (SRC.out _ hbox).mono ?_; rintro e w1 ⟨rfl, hb1⟩; obtain ⟨m0, m1, m2, m3, m4, m5, hlw⟩ := b_k hb1)
   | (go_at_call 63; refine (L1.out _ hb1).mono ?_; rintro e w2 ⟨rfl, hb2⟩; obtain ⟨q0, q1, q2, q3, q4, q5, hlw2⟩ := b_k hb2; clear hb1)
   | (go_at_call 63; refine (L2.out _ hb2).mono ?_; rintro e w3 ⟨rfl, hb3⟩; obtain ⟨o0, o1, o2, o3, o4, o5, hlw3⟩ := b_k hb3))
  exact u_f
 subst h3
 have hbn : ((ln : Int) != (ln : Int)) = false := by simp
 have HE4 := a_0 (show r = a_F its 0 false true false false fun x => c_f x.col from by rw [HE3.out, if_pos rfl]; rfl)
 clear HE3
 by_cases h4 : 12 < its.length
 ·have HX := a_0 (show r = 2 from by rw [HE4.out]; unfold a_F; rw [if_pos (.inr h4)])
  clear HE4
  go_enter func64, ntmps64
  go_wp2_with (first
   | (go_at_call 65; refine (SRC.out _ hbox).mono ?_; rintro e w1 ⟨rfl, hb1⟩; obtain ⟨m0, m1, m2, m3, m4, m5, hlw⟩ := b_k hb1)
   | (go_at_call 63; refine (L1.out _ hb1).mono ?_; rintro e w2 ⟨rfl, hb2⟩; obtain ⟨q0, q1, q2, q3, q4, q5, hlw2⟩ := b_k hb2; clear hb1)
   | (go_at_call 63; refine (L2.out _ hb2).mono ?_; rintro e w3 ⟨rfl, hb3⟩; obtain ⟨o0, o1, o2, o3, o4, o5, hlw3⟩ := b_k hb3))
  exact u_f
 have HE5 := a_0 (HE4.out.trans (f_G o_))
 clear HE4
 go_enter func64, ntmps64
 go_wp2_with (first
  | (go_at_call 65; refine (SRC.out _ hbox).mono ?_; rintro e w1 ⟨rfl, hb1⟩; obtain ⟨m0, m1, m2, m3, m4, m5, hlw⟩ := b_k hb1)
  | (go_at_call 63; refine (L1.out _ hb1).mono ?_; rintro e w2 ⟨rfl, hb2⟩; obtain ⟨q0, q1, q2, q3, q4, q5, hlw2⟩ := b_k hb2; clear hb1)
  | (go_at_call 63; refine (L2.out _ hb2).mono ?_; rintro e w3 ⟨rfl, hb3⟩; obtain ⟨o0, o1, o2, o3, o4, o5, hlw3⟩ := b_k hb3))
 clear SRC L1 L2 q0 q1 q2 q3 q4 q5 o0 o1 o2 o3 o4 o5 m0 m1 m2 m3 m4 m5 hb2
 go_loopw [6] (fun i wr => ∃ k : Nat, k ≤ its.length ∧ i = .int .i64 k ∧ Hid (∀ j, j < k → f_3 its false true false false (fun x => c_f x.col) j = 0) ∧ Below (w.heap.size + 1) (w.alloc (.cells #[.int .i64 op, str src, .slice nA ln nC, .slice oA ln oC, .slice iA its.length iC, .slice cA lc cC] 27)) wr) (fun i _ => its.length - (intOf i).toNat)
 case atStart => exact ⟨0, o_, rfl, fun j hj => absurd hj (Nat.not_lt_zero _), hb3⟩
 case round =>
  obtain ⟨k, hk, rfl, HZ, hbel⟩ := hrel
  have hbw := a_5 hbel
  obtain ⟨m0, m1, m2, m3, m4, m5, hlw⟩ := b_k hbel
  by_cases hlt : k < its.length
  ·rcases HI.out.below hbw with e | ⟨g, off, rfl, hg, hc⟩
   ·exact absurd hlt e_
   obtain ⟨c0, c1, c2, c3, E, ec, c4, hE⟩ := hc k hlt; have HIt := a_0 (c_S (some ⟨g, off, none⟩) its iC k false true false false wr (.inr ⟨g, off, rfl, hg, hc⟩) hlt hli (by simp [j_N])); have HV := a_0 (fun W => h_r its[k].col W); have HT := a_0 (h_f hlt false true false false (fun x => c_f x.col)); have HF := a_0 (fun x (e : f_3 its false true false false (fun x => c_f x.col) k = x) (hx : x ≠ 0) => (HE5.out.trans (c_b HZ.out (by rw [e]; exact hx) hlt)).trans e); have HN := a_0 (fun (e : f_3 its false true false false (fun x => c_f x.col) k = 0) => e_N HZ.out e); have HC4 := a_0 (fun W (hb : Below wr.heap.size wr W) => (hb.cell (p := ⟨g, off + k * 5 + 2, none⟩) hg).trans c2); clear hc hE; generalize d_v its k false true false false = u at *; generalize its[k] = x at *
   by_cases hu : u = 0
   rotate_left
   ·have hub : (u != 0) = true := by simpa using hu
    refine t_D ?_; intro HR; clear HT HF HN hu
    go_wp2_with (go_at_call 103; refine (HIt.out).mono ?_; rintro e w4 ⟨rfl, hb4⟩)
    go_ret
    exact ⟨a_k HR.out.symm, a_n hb4 hbw⟩
   subst hu; refine s_5 ?_; intro HT2; unfold c_f at HT2
   cases hv : nmB x.col
   ·rw [hv] at HV HT2
    have HR := a_0 (HF.out 4 (HT2.out.trans (if_neg d_)) d_); clear HT HF HN HT2 hv
    go_wp2_with (first
     | (go_at_call 103; refine (HIt.out).mono ?_; rintro e w4 ⟨rfl, hb4⟩; have hcur := a_4 hbel s_ hb4; obtain ⟨n0, n1, n2, n3, n4, n5, hlw1⟩ := b_k hcur; have d4 := HC4.out _ hb4)
     | (go_at_call 104; refine (HV.out _).mono ?_; rintro e w5 ⟨rfl, hb5⟩))
    go_ret
    exact ⟨a_k HR.out.symm, a_n hb5 (a_n hb4 hbw)⟩
   ·rw [hv] at HV HT2
    have HR := a_0 (HN.out (HT2.out.trans (if_pos rfl))); clear HT HF HN HT2 hv
    go_wp2_with (first
     | (go_at_call 103; refine (HIt.out).mono ?_; rintro e w4 ⟨rfl, hb4⟩; have hcur := a_4 hbel s_ hb4; obtain ⟨n0, n1, n2, n3, n4, n5, hlw1⟩ := b_k hcur; have d4 := HC4.out _ hb4)
     | (go_at_call 104; refine (HV.out _).mono ?_; rintro e w5 ⟨rfl, hb5⟩))
    exact ⟨⟨k + 1, o_, t_, HR, a_4 hcur s_ hb5⟩, w_⟩
  ·obtain rfl : k = its.length := by omega
   have HR := a_0 (HE5.out.trans (c_u HZ.out))
   go_wp2
   exact s_z
set_option maxRecDepth 512
theorem a_y (f : Int) (w : World) : Calls prog 105 #[.int .i64 f] w fun e w' => e = .returned (.tuple #[.bool (e_l f).1, .bool (e_l f).2.1, .bool (e_l f).2.2]) ∧ w = w' := by
 by_cases h : f = 1 ∨ f = 8 ∨ f = 9 ∨ f = 3 ∨ f = 12 ∨ f = 13 ∨ f = 10 ∨ f = 11
 ·rcases h with rfl | rfl | rfl | rfl | rfl | rfl | rfl | rfl
  all_goals
   go_enter func105, ntmps105
   go_wp2
   go_ret3
   exact ⟨rfl, rfl⟩
 ·have e : e_l f = (false, false, false) := by unfold e_l; rw [if_neg o_, if_neg o_, if_neg o_]
  rw [e]
  have q1 : (f == 1) = false := beq_eq_false_iff_ne.2 o_
  have q8 : (f == 8) = false := beq_eq_false_iff_ne.2 o_
  have q9 : (f == 9) = false := beq_eq_false_iff_ne.2 o_
  have q3 : (f == 3) = false := beq_eq_false_iff_ne.2 o_
  have q12 : (f == 12) = false := beq_eq_false_iff_ne.2 o_
  have q13 : (f == 13) = false := beq_eq_false_iff_ne.2 o_
  have q10 : (f == 10) = false := beq_eq_false_iff_ne.2 o_
  have q11 : (f == 11) = false := beq_eq_false_iff_ne.2 o_
  clear h e
  go_enter func105, ntmps105
  go_wp2
  go_ret3
  exact ⟨rfl, rfl⟩
set_option maxRecDepth 100000
theorem h_x (s : Stp) (a : Adr) (w : World) (hA : s.At w a) (ho : s.ok) :
  Calls prog 66 #[s.agg a] w fun e w' => e = .returned (.int .i64 (f_W s)) ∧ Below w.heap.size w w' := by
 have HI := a_0 hA.items
 have hli := ho.items
 have hln := ho.names
 have HE := a_0 (show f_W s = b_8 (a_Y s.names 0) (if s.names.length + s.items.length = 0 then 2 else a_F s.items 0 true true false false (c_e s.names)) from rfl)
 refine v_S ?_; intro HR1 HR2 HH0
 clear hA ho
 obtain ⟨op, src, names, others, its, cond⟩ := s
 obtain ⟨nA, nC, oA, oC, iA, iC, cA, cC⟩ := a
 simp only at HI HE HR1 HR2 HH0 hli hln ⊢
 show Calls prog 66 #[.agg #[.int .i64 op, str src, .slice nA names.length nC, .slice oA others.length oC, .slice iA its.length iC, .slice cA cond.length cC]] w _
 generalize a_Y names 0 = e1 at *
 generalize a_Y others 0 = e2 at *
 generalize names.length = ln at *
 generalize others.length = lo at *
 generalize cond.length = lc
 generalize f_W _ = r at *
 refine v_D ?_; intro hbox L1 L2
 clear HR1 HR2
 by_cases h1 : e1 = 0
 rotate_left
 ·have hb : (e1 != 0) = true := by simpa using h1
  have HX := a_0 (show r = e1 from by rw [HE.out]; unfold b_8; rw [if_neg h1])
  clear HE h1
  go_enter func66, ntmps66
  go_wp2_with (go_at_call 63; refine (L1.out _ hbox).mono ?_; rintro e w1 ⟨rfl, hb1⟩; obtain ⟨m0, m1, m2, m3, m4, m5, hlw⟩ := b_k hb1)
  exact s_q
 subst h1
 have HE2 := a_0 (show r = if ln + its.length = 0 then 2 else a_F its 0 true true false false (c_e names) from by rw [HE.out]; unfold b_8; rw [if_pos rfl])
 clear HE
 by_cases h4 : 12 < its.length
 ·have HX := a_0 (show r = 2 from by rw [HE2.out, if_neg o_]; unfold a_F; rw [if_pos (.inr h4)])
  clear HE2
  go_enter func66, ntmps66
  go_wp2_with (first
   | (go_at_call 63; refine (L1.out _ hbox).mono ?_; rintro e w1 ⟨rfl, hb1⟩; obtain ⟨m0, m1, m2, m3, m4, m5, hlw⟩ := b_k hb1))
  all_goals first | (exfalso; omega) | skip
  exact s_q
 by_cases h3 : ln + its.length = 0
 ·have HX := a_0 (show r = 2 from by rw [HE2.out, if_pos h3])
  have hz : ((its.length : Int) + (ln : Int) == 0) = true := by simp; omega
  clear HE2
  go_enter func66, ntmps66
  go_wp2_with (first
   | (go_at_call 63; refine (L1.out _ hbox).mono ?_; rintro e w1 ⟨rfl, hb1⟩; obtain ⟨m0, m1, m2, m3, m4, m5, hlw⟩ := b_k hb1))
  all_goals first | (exfalso; omega) | skip
  exact s_q
 have hz : ((its.length : Int) + (ln : Int) == 0) = false := beq_eq_false_iff_ne.2 o_
 have HE5 := a_0 ((HE2.out.trans (if_neg h3)).trans (f_G o_))
 clear HE2
 go_enter func66, ntmps66
 go_wp2_with (first
  | (go_at_call 63; refine (L1.out _ hbox).mono ?_; rintro e w1 ⟨rfl, hb1⟩; obtain ⟨m0, m1, m2, m3, m4, m5, hlw⟩ := b_k hb1))
 all_goals first | (exfalso; omega) | skip
 go_loopw [4] (fun i wr => ∃ k : Nat, k ≤ its.length ∧ i = .int .i64 k ∧ Hid (∀ j, j < k → f_3 its true true false false (c_e names) j = 0) ∧ Below (w.heap.size + 1) (w.alloc (.cells #[.int .i64 op, str src, .slice nA ln nC, .slice oA lo oC, .slice iA its.length iC, .slice cA lc cC] 27)) wr) (fun i _ => its.length - (intOf i).toNat)
 case atStart => exact ⟨0, o_, rfl, fun j hj => absurd hj (Nat.not_lt_zero _), hb1⟩
 case round =>
  obtain ⟨k, hk, rfl, HZ, hbel⟩ := hrel
  have hbw := a_5 hbel
  obtain ⟨m0, m1, m2, m3, m4, m5, hlw⟩ := b_k hbel
  by_cases hlt : k < its.length
  ·rcases HI.out.below hbw with e | ⟨g, off, rfl, hg, hc⟩
   ·exact absurd hlt e_
   obtain ⟨c0, c1, c2, c3, E, ec, c4, hE⟩ := hc k hlt; have HIt := a_0 (fun W (hb : Below wr.heap.size wr W) => c_S (some ⟨g, off, none⟩) its iC k true true false false W (f_r.below (.inr ⟨g, off, rfl, hg, hc⟩) hb) hlt hli (by simp [j_N])); have HV := a_0 (fun W => h_r its[k].col W); have HH := a_0 (fun W hb => HH0.out its[k].name W hb); have HT := a_0 (h_f hlt true true false false (c_e names)); have HF := a_0 (fun x (e : f_3 its true true false false (c_e names) k = x) (hx : x ≠ 0) => (HE5.out.trans (c_b HZ.out (by rw [e]; exact hx) hlt)).trans e); have HN := a_0 (fun (e : f_3 its true true false false (c_e names) k = 0) => e_N HZ.out e); clear hc hE; generalize d_v its k true true false false = u at *; generalize its[k] = x at *; obtain ⟨xn, xf, xc, xm, xe⟩ := x; simp only at c0 c1 c2 c3 c4 HV HH HT; generalize xe.length = le at *
   by_cases hu : u = 0
   rotate_left
   ·have hub : (u != 0) = true := by simpa using hu
    refine t_D ?_; intro HR; clear HT HF HN hu
    go_wp2_with (first
     | (go_at_call 103; refine (HIt.out _ ((b_ _ _).alloc (l_ _) _)).mono ?_; rintro e w4 ⟨rfl, hb4⟩; obtain ⟨n0, n1, n2, n3, n4, hlx⟩ := f_f (a_4 (b_ (wr.heap.size + 1) (wr.alloc _)) s_ hb4); have hs4 := a_4 (hbel.alloc hlw _) s_ hb4; obtain ⟨s0, s1, s2, s3, s4, s5, hls⟩ := b_k hs4))
    all_goals first | (go_ret; exact ⟨a_k HR.out.symm, a_5 hs4⟩) | (exfalso; omega) | (exfalso; simp_all; done)
   subst hu; refine s_5 ?_; intro HT2; clear HT
   by_cases hin : xn ∈ names
   ·have hinb : decide (xn ∈ names) = true := by simpa using hin
    rw [hinb] at HH; have HR := a_0 (HF.out 6 (HT2.out.trans (by unfold c_e; rw [if_pos hin])) d_); clear HF HN HT2 hin hinb
    go_wp2_with (first
     | (go_at_call 103; refine (HIt.out _ ((b_ _ _).alloc (l_ _) _)).mono ?_; rintro e w4 ⟨rfl, hb4⟩; obtain ⟨n0, n1, n2, n3, n4, hlx⟩ := f_f (a_4 (b_ (wr.heap.size + 1) (wr.alloc _)) s_ hb4); have hs4 := a_4 (hbel.alloc hlw _) s_ hb4; obtain ⟨s0, s1, s2, s3, s4, s5, hls⟩ := b_k hs4)
     | (go_at_call 20; refine (HH.out _ (a_5 hs4)).mono ?_; rintro e w' ⟨rfl, rfl⟩))
    all_goals first | (go_ret; exact ⟨a_k HR.out.symm, a_5 hs4⟩) | (exfalso; omega) | (exfalso; simp_all; done)
   have hinb : decide (xn ∈ names) = false := by simpa using hin
   rw [hinb] at HH; have HT3 := a_0 (HT2.out.trans (by unfold c_e; rw [if_neg hin])); clear HT2 hinb hin; simp only at HT3
   by_cases q1 : xf < 1
   ·have HR := a_0 (HF.out 8 (HT3.out.trans (by rw [if_pos (.inl q1)])) d_)
    clear HF HN HT3
    go_wp2_with (first
     | (go_at_call 103; refine (HIt.out _ ((b_ _ _).alloc (l_ _) _)).mono ?_; rintro e w4 ⟨rfl, hb4⟩; obtain ⟨n0, n1, n2, n3, n4, hlx⟩ := f_f (a_4 (b_ (wr.heap.size + 1) (wr.alloc _)) s_ hb4); have hs4 := a_4 (hbel.alloc hlw _) s_ hb4; obtain ⟨s0, s1, s2, s3, s4, s5, hls⟩ := b_k hs4)
     | (go_at_call 20; refine (HH.out _ (a_5 hs4)).mono ?_; rintro e w' ⟨rfl, rfl⟩))
    all_goals first | (go_ret; exact ⟨a_k HR.out.symm, a_5 hs4⟩) | (exfalso; omega) | (exfalso; simp_all; done)
   by_cases q2 : 7 < xf
   ·have HR := a_0 (HF.out 8 (HT3.out.trans (by rw [if_pos (.inr (.inl q2))])) d_)
    clear HF HN HT3
    go_wp2_with (first
     | (go_at_call 103; refine (HIt.out _ ((b_ _ _).alloc (l_ _) _)).mono ?_; rintro e w4 ⟨rfl, hb4⟩; obtain ⟨n0, n1, n2, n3, n4, hlx⟩ := f_f (a_4 (b_ (wr.heap.size + 1) (wr.alloc _)) s_ hb4); have hs4 := a_4 (hbel.alloc hlw _) s_ hb4; obtain ⟨s0, s1, s2, s3, s4, s5, hls⟩ := b_k hs4)
     | (go_at_call 20; refine (HH.out _ (a_5 hs4)).mono ?_; rintro e w' ⟨rfl, rfl⟩))
    all_goals first | (go_ret; exact ⟨a_k HR.out.symm, a_5 hs4⟩) | (exfalso; omega) | (exfalso; simp_all; done)
   by_cases q3 : xf = 1
   ·subst q3
    by_cases q4 : xc = []
    ·subst q4
     have HR := a_0 (HN.out (HT3.out.trans s_)); clear HF HN HT3
     go_wp2_with (first
      | (go_at_call 103; refine (HIt.out _ ((b_ _ _).alloc (l_ _) _)).mono ?_; rintro e w4 ⟨rfl, hb4⟩; obtain ⟨n0, n1, n2, n3, n4, hlx⟩ := f_f (a_4 (b_ (wr.heap.size + 1) (wr.alloc _)) s_ hb4); have hs4 := a_4 (hbel.alloc hlw _) s_ hb4; obtain ⟨s0, s1, s2, s3, s4, s5, hls⟩ := b_k hs4)
      | (go_at_call 20; refine (HH.out _ (a_5 hs4)).mono ?_; rintro e w' ⟨rfl, rfl⟩))
     all_goals first | exact ⟨⟨k + 1, o_, t_, HR, hs4⟩, w_⟩ | (exfalso; omega) | (exfalso; simp_all; done)
    ·have q5 : xc.isEmpty = false := by cases xc <;> simp_all
     have HR := a_0 (HF.out 8 (HT3.out.trans (by simp [q4])) d_); clear HF HN HT3 q4
     go_wp2_with (first
      | (go_at_call 103; refine (HIt.out _ ((b_ _ _).alloc (l_ _) _)).mono ?_; rintro e w4 ⟨rfl, hb4⟩; obtain ⟨n0, n1, n2, n3, n4, hlx⟩ := f_f (a_4 (b_ (wr.heap.size + 1) (wr.alloc _)) s_ hb4); have hs4 := a_4 (hbel.alloc hlw _) s_ hb4; obtain ⟨s0, s1, s2, s3, s4, s5, hls⟩ := b_k hs4)
      | (go_at_call 20; refine (HH.out _ (a_5 hs4)).mono ?_; rintro e w' ⟨rfl, rfl⟩))
     all_goals first | (go_ret; exact ⟨a_k HR.out.symm, a_5 hs4⟩) | (exfalso; omega) | (exfalso; simp_all; done)
   have q6 : (xf == 1) = false := beq_eq_false_iff_ne.2 q3; have q7 : (xf != 1) = true := by simpa using q3
   have HT4 := a_0 (HT3.out.trans (by rw [if_neg (by simp [q3]; omega), if_pos q3])); clear HT3 q3; unfold c_f at HT4
   cases hv : nmB xc
   ·rw [hv] at HV HT4
    have HR := a_0 (HF.out 4 (HT4.out.trans (if_neg d_)) d_); clear HF HN HT4 hv
    go_wp2_with (first
     | (go_at_call 103; refine (HIt.out _ ((b_ _ _).alloc (l_ _) _)).mono ?_; rintro e w4 ⟨rfl, hb4⟩; obtain ⟨n0, n1, n2, n3, n4, hlx⟩ := f_f (a_4 (b_ (wr.heap.size + 1) (wr.alloc _)) s_ hb4); have hs4 := a_4 (hbel.alloc hlw _) s_ hb4; obtain ⟨s0, s1, s2, s3, s4, s5, hls⟩ := b_k hs4)
     | (go_at_call 20; refine (HH.out _ (a_5 hs4)).mono ?_; rintro e w' ⟨rfl, rfl⟩)
     | (go_at_call 104; refine (HV.out _).mono ?_; rintro e w5 ⟨rfl, hb5⟩; have hs5 := a_4 hs4 s_ hb5; obtain ⟨t0, t1, t2, t3, t4, t5, hlt5⟩ := b_k hs5; have hn5 := hb5.cell (p := ⟨wr.heap.size, 3, none⟩) hlx; rw [n3] at hn5))
    all_goals first | (go_ret; exact ⟨a_k HR.out.symm, a_5 hs5⟩) | (exfalso; omega) | (exfalso; simp_all; done)
   ·rw [hv] at HV HT4
    have HR := a_0 (HN.out (HT4.out.trans (if_pos rfl))); clear HF HN HT4 hv
    go_wp2_with (first
     | (go_at_call 103; refine (HIt.out _ ((b_ _ _).alloc (l_ _) _)).mono ?_; rintro e w4 ⟨rfl, hb4⟩; obtain ⟨n0, n1, n2, n3, n4, hlx⟩ := f_f (a_4 (b_ (wr.heap.size + 1) (wr.alloc _)) s_ hb4); have hs4 := a_4 (hbel.alloc hlw _) s_ hb4; obtain ⟨s0, s1, s2, s3, s4, s5, hls⟩ := b_k hs4)
     | (go_at_call 20; refine (HH.out _ (a_5 hs4)).mono ?_; rintro e w' ⟨rfl, rfl⟩)
     | (go_at_call 104; refine (HV.out _).mono ?_; rintro e w5 ⟨rfl, hb5⟩; have hs5 := a_4 hs4 s_ hb5; obtain ⟨t0, t1, t2, t3, t4, t5, hlt5⟩ := b_k hs5; have hn5 := hb5.cell (p := ⟨wr.heap.size, 3, none⟩) hlx; rw [n3] at hn5))
    all_goals first | exact ⟨⟨k + 1, o_, t_, HR, hs5⟩, w_⟩ | (exfalso; omega) | (exfalso; simp_all; done)
  ·obtain rfl : k = its.length := by omega
   have HR := a_0 (HE5.out.trans (c_u HZ.out))
   go_wp2
   exact s_z
set_option maxRecDepth 100000
theorem g_S (s : Stp) (a : Adr) (w : World) (hA : s.At w a) (ho : s.ok) :
  Calls prog 67 #[s.agg a] w fun e w' => e = .returned (.int .i64 (e_O s)) ∧ Below w.heap.size w w' := by
 have HI := a_0 hA.items
 have hli := ho.items
 have hln := ho.names
 have HE := a_0 (show e_O s = b_8 (a_Y s.names 0) (b_8 (a_Y s.others 0) (a_F s.items 1 true true true false b_I)) from rfl)
 refine v_S ?_; intro HR1 HR2 HH0
 clear hA ho
 obtain ⟨op, src, names, others, its, cond⟩ := s
 obtain ⟨nA, nC, oA, oC, iA, iC, cA, cC⟩ := a
 simp only at HI HE HR1 HR2 HH0 hli hln ⊢
 show Calls prog 67 #[.agg #[.int .i64 op, str src, .slice nA names.length nC, .slice oA others.length oC, .slice iA its.length iC, .slice cA cond.length cC]] w _
 generalize a_Y names 0 = e1 at *
 generalize a_Y others 0 = e2 at *
 generalize names.length = ln at *
 generalize others.length = lo at *
 generalize cond.length = lc
 generalize e_O _ = r at *
 refine v_D ?_; intro hbox L1 L2
 clear HR1 HR2
 by_cases h1 : e1 = 0
 rotate_left
 ·have hb : (e1 != 0) = true := by simpa using h1
  have HX := a_0 (show r = e1 from by rw [HE.out]; unfold b_8; rw [if_neg h1])
  clear HE h1
  go_enter func67, ntmps67
  go_wp2_with (go_at_call 63; refine (L1.out _ hbox).mono ?_; rintro e w1 ⟨rfl, hb1⟩; obtain ⟨m0, m1, m2, m3, m4, m5, hlw⟩ := b_k hb1; clear hbox)
  exact s_q
 subst h1
 by_cases h2 : e2 = 0
 rotate_left
 ·have hb : (e2 != 0) = true := by simpa using h2
  have HX := a_0 (show r = e2 from by rw [HE.out]; unfold b_8; rw [if_pos rfl, if_neg h2])
  clear HE h2
  go_enter func67, ntmps67
  go_wp2_with (first
   | (go_at_call 63; refine (L1.out _ hbox).mono ?_; rintro e w1 ⟨rfl, hb1⟩; obtain ⟨m0, m1, m2, m3, m4, m5, hlw⟩ := b_k hb1; clear hbox)
   | (go_at_call 63; refine (L2.out _ hb1).mono ?_; rintro e w2 ⟨rfl, hb2⟩; obtain ⟨o0, o1, o2, o3, o4, o5, hlw2⟩ := b_k hb2; clear hb1))
  exact t_x
 subst h2
 have HE2 := a_0 (show r = a_F its 1 true true true false b_I from by rw [HE.out]; unfold b_8; rw [if_pos rfl, if_pos rfl])
 clear HE
 by_cases h3 : its.length < 1
 ·have HX := a_0 (show r = 2 from by rw [HE2.out]; unfold a_F; rw [if_pos (.inl h3)])
  clear HE2
  go_enter func67, ntmps67
  go_wp2_with (first
   | (go_at_call 63; refine (L1.out _ hbox).mono ?_; rintro e w1 ⟨rfl, hb1⟩; obtain ⟨m0, m1, m2, m3, m4, m5, hlw⟩ := b_k hb1; clear hbox)
   | (go_at_call 63; refine (L2.out _ hb1).mono ?_; rintro e w2 ⟨rfl, hb2⟩; obtain ⟨o0, o1, o2, o3, o4, o5, hlw2⟩ := b_k hb2; clear hb1))
  all_goals first | (exfalso; omega) | skip
  exact t_x
 by_cases h4 : 12 < its.length
 ·have HX := a_0 (show r = 2 from by rw [HE2.out]; unfold a_F; rw [if_pos (.inr h4)])
  clear HE2
  go_enter func67, ntmps67
  go_wp2_with (first
   | (go_at_call 63; refine (L1.out _ hbox).mono ?_; rintro e w1 ⟨rfl, hb1⟩; obtain ⟨m0, m1, m2, m3, m4, m5, hlw⟩ := b_k hb1; clear hbox)
   | (go_at_call 63; refine (L2.out _ hb1).mono ?_; rintro e w2 ⟨rfl, hb2⟩; obtain ⟨o0, o1, o2, o3, o4, o5, hlw2⟩ := b_k hb2; clear hb1))
  all_goals first | (exfalso; omega) | skip
  exact t_x
 have HE5 := a_0 (HE2.out.trans (f_G o_))
 clear HE2
 go_enter func67, ntmps67
 go_wp2_with (first
  | (go_at_call 63; refine (L1.out _ hbox).mono ?_; rintro e w1 ⟨rfl, hb1⟩; obtain ⟨m0, m1, m2, m3, m4, m5, hlw⟩ := b_k hb1; clear hbox)
  | (go_at_call 63; refine (L2.out _ hb1).mono ?_; rintro e w2 ⟨rfl, hb2⟩; obtain ⟨o0, o1, o2, o3, o4, o5, hlw2⟩ := b_k hb2; clear hb1))
 all_goals first | (exfalso; omega) | skip
 go_loopw [5] (fun i wr => ∃ k : Nat, k ≤ its.length ∧ i = .int .i64 k ∧ Hid (∀ j, j < k → f_3 its true true true false b_I j = 0) ∧ Below (w.heap.size + 1) (w.alloc (.cells #[.int .i64 op, str src, .slice nA ln nC, .slice oA lo oC, .slice iA its.length iC, .slice cA lc cC] 27)) wr) (fun i _ => its.length - (intOf i).toNat)
 case atStart => exact ⟨0, o_, rfl, fun j hj => absurd hj (Nat.not_lt_zero _), hb2⟩
 case round =>
  obtain ⟨k, hk, rfl, HZ, hbel⟩ := hrel
  have hbw := a_5 hbel
  obtain ⟨m0, m1, m2, m3, m4, m5, hlw⟩ := b_k hbel
  by_cases hlt : k < its.length
  ·rcases HI.out.below hbw with e | ⟨g, off, rfl, hg, hc⟩
   ·exact absurd hlt e_
   obtain ⟨c0, c1, c2, c3, E, ec, c4, hE⟩ := hc k hlt; have HIt := a_0 (fun W (hb : Below wr.heap.size wr W) => c_S (some ⟨g, off, none⟩) its iC k true true true false W (f_r.below (.inr ⟨g, off, rfl, hg, hc⟩) hb) hlt hli (by simp [j_N])); have HV := a_0 (fun W => h_r its[k].col W); have HH := a_0 (fun W hb => HH0.out its[k].name W hb); have HT := a_0 (h_f hlt true true true false b_I); have HF := a_0 (fun x (e : f_3 its true true true false b_I k = x) (hx : x ≠ 0) => (HE5.out.trans (c_b HZ.out (by rw [e]; exact hx) hlt)).trans e); have HN := a_0 (fun (e : f_3 its true true true false b_I k = 0) => e_N HZ.out e); clear hc hE; generalize d_v its k true true true false = u at *; generalize its[k] = x at *; obtain ⟨xn, xf, xc, xm, xe⟩ := x; simp only at c0 c1 c2 c3 c4 HV HH HT; generalize xe.length = le at *
   by_cases hu : u = 0
   rotate_left
   ·have hub : (u != 0) = true := by simpa using hu
    refine t_D ?_; intro HR; clear HT HF HN hu
    go_wp2_with (first
     | (go_at_call 103; refine (HIt.out _ ((b_ _ _).alloc (l_ _) _)).mono ?_; rintro e w4 ⟨rfl, hb4⟩; obtain ⟨n0, n1, n2, n3, n4, hlx⟩ := f_f (a_4 (b_ (wr.heap.size + 1) (wr.alloc _)) s_ hb4); have hs4 := a_4 (hbel.alloc hlw _) s_ hb4; obtain ⟨s0, s1, s2, s3, s4, s5, hls⟩ := b_k hs4))
    all_goals first | (go_ret; exact ⟨a_k HR.out.symm, a_5 hs4⟩) | (exfalso; omega) | (exfalso; simp_all; done)
   subst hu; refine s_5 ?_; intro HT2; clear HT; obtain ⟨⟨i1, i2, i3⟩, hwb⟩ : ∃ t, t = e_l xf := ⟨_, rfl⟩; have HWB := a_0 hwb.symm
   have HT3 := a_0 (show f_3 its true true true false b_I k = if i1 = false ∨ (i2 = false ∧ xc ≠ []) ∨ (i3 = false ∧ xm ≠ 0) then 8 else if i2 = true ∧ nmB xc = false then 4 else if i3 = true ∧ (xm < 1 ∨ 4096 < xm) then 1 else 0 from by
    rw [HT2.out]; unfold b_I; simp only [← hwb])
   clear HT2 hwb
   by_cases q1 : i1 = false ∨ (i2 = false ∧ xc ≠ []) ∨ (i3 = false ∧ xm ≠ 0)
   ·have HR := a_0 (HF.out 8 (HT3.out.trans (if_pos q1)) d_)
    clear HF HN HT3
    rcases Decidable.em (xc = []) with q4 | q4
    ·subst q4
     rcases Decidable.em (xm = 0) with q5 | q5
     ·subst q5
      cases i1 <;> cases i2 <;> cases i3
      all_goals first
       | (exfalso; simp at q1; done)
       | skip
      all_goals
       clear q1
       go_wp2_with (first
        | (go_at_call 103; refine (HIt.out _ ((b_ _ _).alloc (l_ _) _)).mono ?_; rintro e w4 ⟨rfl, hb4⟩; obtain ⟨n0, n1, n2, n3, n4, hlx⟩ := f_f (a_4 (b_ (wr.heap.size + 1) (wr.alloc _)) s_ hb4); have hs4 := a_4 (hbel.alloc hlw _) s_ hb4; obtain ⟨s0, s1, s2, s3, s4, s5, hls⟩ := b_k hs4)
        | (go_at_call 105; refine (a_y _ _).mono ?_; rintro e w' ⟨rfl, rfl⟩; rw [HWB.out]))
       all_goals first | (go_ret; exact ⟨a_k HR.out.symm, a_5 hs4⟩) | (exfalso; omega) | (exfalso; simp_all; done)
     ·have q6 : (xm != 0) = true := by simpa using q5
      cases i1 <;> cases i2 <;> cases i3
      all_goals first
       | (exfalso; simp at q1; done)
       | skip
      all_goals
       clear q1 q5
       go_wp2_with (first
        | (go_at_call 103; refine (HIt.out _ ((b_ _ _).alloc (l_ _) _)).mono ?_; rintro e w4 ⟨rfl, hb4⟩; obtain ⟨n0, n1, n2, n3, n4, hlx⟩ := f_f (a_4 (b_ (wr.heap.size + 1) (wr.alloc _)) s_ hb4); have hs4 := a_4 (hbel.alloc hlw _) s_ hb4; obtain ⟨s0, s1, s2, s3, s4, s5, hls⟩ := b_k hs4)
        | (go_at_call 105; refine (a_y _ _).mono ?_; rintro e w' ⟨rfl, rfl⟩; rw [HWB.out]))
       all_goals first | (go_ret; exact ⟨a_k HR.out.symm, a_5 hs4⟩) | (exfalso; omega) | (exfalso; simp_all; done)
    ·have q7 : xc.isEmpty = false := by cases xc <;> simp_all
     rcases Decidable.em (xm = 0) with q5 | q5
     ·subst q5
      cases i1 <;> cases i2 <;> cases i3
      all_goals first
       | (exfalso; simp at q1; done)
       | skip
      all_goals
       clear q1 q4
       go_wp2_with (first
        | (go_at_call 103; refine (HIt.out _ ((b_ _ _).alloc (l_ _) _)).mono ?_; rintro e w4 ⟨rfl, hb4⟩; obtain ⟨n0, n1, n2, n3, n4, hlx⟩ := f_f (a_4 (b_ (wr.heap.size + 1) (wr.alloc _)) s_ hb4); have hs4 := a_4 (hbel.alloc hlw _) s_ hb4; obtain ⟨s0, s1, s2, s3, s4, s5, hls⟩ := b_k hs4)
        | (go_at_call 105; refine (a_y _ _).mono ?_; rintro e w' ⟨rfl, rfl⟩; rw [HWB.out]))
       all_goals first | (go_ret; exact ⟨a_k HR.out.symm, a_5 hs4⟩) | (exfalso; omega) | (exfalso; simp_all; done)
     ·have q6 : (xm != 0) = true := by simpa using q5
      cases i1 <;> cases i2 <;> cases i3
      all_goals first
       | (exfalso; simp at q1; done)
       | skip
      all_goals
       clear q1 q4 q5
       go_wp2_with (first
        | (go_at_call 103; refine (HIt.out _ ((b_ _ _).alloc (l_ _) _)).mono ?_; rintro e w4 ⟨rfl, hb4⟩; obtain ⟨n0, n1, n2, n3, n4, hlx⟩ := f_f (a_4 (b_ (wr.heap.size + 1) (wr.alloc _)) s_ hb4); have hs4 := a_4 (hbel.alloc hlw _) s_ hb4; obtain ⟨s0, s1, s2, s3, s4, s5, hls⟩ := b_k hs4)
        | (go_at_call 105; refine (a_y _ _).mono ?_; rintro e w' ⟨rfl, rfl⟩; rw [HWB.out]))
       all_goals first | (go_ret; exact ⟨a_k HR.out.symm, a_5 hs4⟩) | (exfalso; omega) | (exfalso; simp_all; done)
   have HT4 := a_0 (HT3.out.trans (if_neg q1)); clear HT3; obtain rfl : i1 = true := by cases i1 <;> simp_all
   have q8 : i2 = false → xc = [] := fun h => Classical.byContradiction fun hn => q1 (.inr (.inl ⟨h, hn⟩)); have q9 : i3 = false → xm = 0 := fun h => Classical.byContradiction fun hn => q1 (.inr (.inr ⟨h, hn⟩)); clear q1
   cases i2
   ·obtain rfl := q8 rfl
    cases i3
    ·obtain rfl := q9 rfl
     have HR := a_0 (HN.out (HT4.out.trans s_)); clear HF HN HT4 q8 q9
     go_wp2_with (first
      | (go_at_call 103; refine (HIt.out _ ((b_ _ _).alloc (l_ _) _)).mono ?_; rintro e w4 ⟨rfl, hb4⟩; obtain ⟨n0, n1, n2, n3, n4, hlx⟩ := f_f (a_4 (b_ (wr.heap.size + 1) (wr.alloc _)) s_ hb4); have hs4 := a_4 (hbel.alloc hlw _) s_ hb4; obtain ⟨s0, s1, s2, s3, s4, s5, hls⟩ := b_k hs4)
      | (go_at_call 105; refine (a_y _ _).mono ?_; rintro e w' ⟨rfl, rfl⟩; rw [HWB.out]))
     all_goals first | exact ⟨⟨k + 1, o_, t_, HR, hs4⟩, w_⟩ | (exfalso; omega) | (exfalso; simp_all; done)
    ·clear q8 q9
     exfalso
     have := HWB.out; unfold e_l at this
     repeat' split at this
     all_goals simp at this
   ·clear q8
    cases hv : nmB xc
    ·rw [hv] at HV HT4
     have HR := a_0 (HF.out 4 (HT4.out.trans s_) d_); clear HF HN HT4 hv
     cases i3
     ·obtain rfl := q9 rfl
      clear q9
      go_wp2_with (first
       | (go_at_call 103; refine (HIt.out _ ((b_ _ _).alloc (l_ _) _)).mono ?_; rintro e w4 ⟨rfl, hb4⟩; obtain ⟨n0, n1, n2, n3, n4, hlx⟩ := f_f (a_4 (b_ (wr.heap.size + 1) (wr.alloc _)) s_ hb4); have hs4 := a_4 (hbel.alloc hlw _) s_ hb4; obtain ⟨s0, s1, s2, s3, s4, s5, hls⟩ := b_k hs4)
       | (go_at_call 105; refine (a_y _ _).mono ?_; rintro e w' ⟨rfl, rfl⟩; rw [HWB.out])
       | (go_at_call 104; refine (HV.out _).mono ?_; rintro e w5 ⟨rfl, hb5⟩; have hs5 := a_4 hs4 s_ hb5; obtain ⟨t0, t1, t2, t3, t4, t5, hlt5⟩ := b_k hs5; have hn5 := hb5.cell (p := ⟨wr.heap.size, 3, none⟩) hlx; rw [n3] at hn5))
      all_goals first | (go_ret; exact ⟨a_k HR.out.symm, a_5 hs5⟩) | (exfalso; omega) | (exfalso; simp_all; done)
     ·clear q9
      go_wp2_with (first
       | (go_at_call 103; refine (HIt.out _ ((b_ _ _).alloc (l_ _) _)).mono ?_; rintro e w4 ⟨rfl, hb4⟩; obtain ⟨n0, n1, n2, n3, n4, hlx⟩ := f_f (a_4 (b_ (wr.heap.size + 1) (wr.alloc _)) s_ hb4); have hs4 := a_4 (hbel.alloc hlw _) s_ hb4; obtain ⟨s0, s1, s2, s3, s4, s5, hls⟩ := b_k hs4)
       | (go_at_call 105; refine (a_y _ _).mono ?_; rintro e w' ⟨rfl, rfl⟩; rw [HWB.out])
       | (go_at_call 104; refine (HV.out _).mono ?_; rintro e w5 ⟨rfl, hb5⟩; have hs5 := a_4 hs4 s_ hb5; obtain ⟨t0, t1, t2, t3, t4, t5, hlt5⟩ := b_k hs5; have hn5 := hb5.cell (p := ⟨wr.heap.size, 3, none⟩) hlx; rw [n3] at hn5))
      all_goals first | (go_ret; exact ⟨a_k HR.out.symm, a_5 hs5⟩) | (exfalso; omega) | (exfalso; simp_all; done)
    ·rw [hv] at HV HT4
     cases i3
     ·obtain rfl := q9 rfl
      have HR := a_0 (HN.out (HT4.out.trans s_)); clear HF HN HT4 hv q9
      go_wp2_with (first
       | (go_at_call 103; refine (HIt.out _ ((b_ _ _).alloc (l_ _) _)).mono ?_; rintro e w4 ⟨rfl, hb4⟩; obtain ⟨n0, n1, n2, n3, n4, hlx⟩ := f_f (a_4 (b_ (wr.heap.size + 1) (wr.alloc _)) s_ hb4); have hs4 := a_4 (hbel.alloc hlw _) s_ hb4; obtain ⟨s0, s1, s2, s3, s4, s5, hls⟩ := b_k hs4)
       | (go_at_call 105; refine (a_y _ _).mono ?_; rintro e w' ⟨rfl, rfl⟩; rw [HWB.out])
       | (go_at_call 104; refine (HV.out _).mono ?_; rintro e w5 ⟨rfl, hb5⟩; have hs5 := a_4 hs4 s_ hb5; obtain ⟨t0, t1, t2, t3, t4, t5, hlt5⟩ := b_k hs5; have hn5 := hb5.cell (p := ⟨wr.heap.size, 3, none⟩) hlx; rw [n3] at hn5))
      all_goals first | exact ⟨⟨k + 1, o_, t_, HR, hs5⟩, w_⟩ | (exfalso; omega) | (exfalso; simp_all; done)
     ·clear q9
      by_cases r1 : xm < 1
      ·have HR := a_0 (HF.out 1 (HT4.out.trans (by simp [r1])) d_)
       clear HF HN HT4 hv
       go_wp2_with (first
        | (go_at_call 103; refine (HIt.out _ ((b_ _ _).alloc (l_ _) _)).mono ?_; rintro e w4 ⟨rfl, hb4⟩; obtain ⟨n0, n1, n2, n3, n4, hlx⟩ := f_f (a_4 (b_ (wr.heap.size + 1) (wr.alloc _)) s_ hb4); have hs4 := a_4 (hbel.alloc hlw _) s_ hb4; obtain ⟨s0, s1, s2, s3, s4, s5, hls⟩ := b_k hs4)
        | (go_at_call 105; refine (a_y _ _).mono ?_; rintro e w' ⟨rfl, rfl⟩; rw [HWB.out])
        | (go_at_call 104; refine (HV.out _).mono ?_; rintro e w5 ⟨rfl, hb5⟩; have hs5 := a_4 hs4 s_ hb5; obtain ⟨t0, t1, t2, t3, t4, t5, hlt5⟩ := b_k hs5; have hn5 := hb5.cell (p := ⟨wr.heap.size, 3, none⟩) hlx; rw [n3] at hn5))
       all_goals first | (go_ret; exact ⟨a_k HR.out.symm, a_5 hs5⟩) | (exfalso; omega) | (exfalso; simp_all; done)
      by_cases r2 : 4096 < xm
      ·have HR := a_0 (HF.out 1 (HT4.out.trans (by simp [r2])) d_)
       clear HF HN HT4 hv
       go_wp2_with (first
        | (go_at_call 103; refine (HIt.out _ ((b_ _ _).alloc (l_ _) _)).mono ?_; rintro e w4 ⟨rfl, hb4⟩; obtain ⟨n0, n1, n2, n3, n4, hlx⟩ := f_f (a_4 (b_ (wr.heap.size + 1) (wr.alloc _)) s_ hb4); have hs4 := a_4 (hbel.alloc hlw _) s_ hb4; obtain ⟨s0, s1, s2, s3, s4, s5, hls⟩ := b_k hs4)
        | (go_at_call 105; refine (a_y _ _).mono ?_; rintro e w' ⟨rfl, rfl⟩; rw [HWB.out])
        | (go_at_call 104; refine (HV.out _).mono ?_; rintro e w5 ⟨rfl, hb5⟩; have hs5 := a_4 hs4 s_ hb5; obtain ⟨t0, t1, t2, t3, t4, t5, hlt5⟩ := b_k hs5; have hn5 := hb5.cell (p := ⟨wr.heap.size, 3, none⟩) hlx; rw [n3] at hn5))
       all_goals first | (go_ret; exact ⟨a_k HR.out.symm, a_5 hs5⟩) | (exfalso; omega) | (exfalso; simp_all; done)
      have HR := a_0 (HN.out (HT4.out.trans (by simp [r1, r2]))); clear HF HN HT4 hv
      go_wp2_with (first
       | (go_at_call 103; refine (HIt.out _ ((b_ _ _).alloc (l_ _) _)).mono ?_; rintro e w4 ⟨rfl, hb4⟩; obtain ⟨n0, n1, n2, n3, n4, hlx⟩ := f_f (a_4 (b_ (wr.heap.size + 1) (wr.alloc _)) s_ hb4); have hs4 := a_4 (hbel.alloc hlw _) s_ hb4; obtain ⟨s0, s1, s2, s3, s4, s5, hls⟩ := b_k hs4)
       | (go_at_call 105; refine (a_y _ _).mono ?_; rintro e w' ⟨rfl, rfl⟩; rw [HWB.out])
       | (go_at_call 104; refine (HV.out _).mono ?_; rintro e w5 ⟨rfl, hb5⟩; have hs5 := a_4 hs4 s_ hb5; obtain ⟨t0, t1, t2, t3, t4, t5, hlt5⟩ := b_k hs5; have hn5 := hb5.cell (p := ⟨wr.heap.size, 3, none⟩) hlx; rw [n3] at hn5))
      all_goals first | exact ⟨⟨k + 1, o_, t_, HR, hs5⟩, w_⟩ | (exfalso; omega) | (exfalso; simp_all; done)
  ·obtain rfl : k = its.length := by omega
   have HR := a_0 (HE5.out.trans (c_u HZ.out))
   go_wp2
   exact s_z
end Go.Proofs.YtmbeeefkpgfgmaaGreatDoor
