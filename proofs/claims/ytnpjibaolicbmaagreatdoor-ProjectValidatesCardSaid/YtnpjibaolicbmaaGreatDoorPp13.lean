/- Parts of the proof. -/
import Derived.Test.YtnpjibaolicbmaaGreatDoorPp12
set_option linter.unusedVariables false
set_option linter.unusedSimpArgs false
set_option maxHeartbeats 8000000
namespace Go.Proofs.YtnpjibaolicbmaaGreatDoor
open Go.Proofs.Tryz
open Go.RowKit
set_option maxRecDepth 100000
theorem g_3 (s : Stp) (a : Adr) (w : World) (hA : s.At w a) (ho : s.ok) :
  Calls prog 241 #[s.agg a] w fun e w' => e = .returned (.int .i64 (e_z s)) ∧ Below w.heap.size w w' := by
 have HI := a_2 hA.items
 have hli := ho.items
 have hln := ho.names
 have HE := a_2 (show e_z s = a_c (a_z s.names 0) (a_c (a_z s.others 0) (a_N s.items 1 true true true false b_A)) from rfl)
 refine s_3 ?_; intro HR1 HR2 HH0
 clear hA ho
 obtain ⟨op, src, names, others, its, cond⟩ := s
 obtain ⟨nA, nC, oA, oC, iA, iC, cA, cC⟩ := a
 simp only at HI HE HR1 HR2 HH0 hli hln ⊢
 show Calls prog 241 #[.agg #[.int .i64 op, str src, .slice nA names.length nC, .slice oA others.length oC, .slice iA its.length iC, .slice cA cond.length cC]] w _
 generalize a_z names 0 = e1 at *
 generalize a_z others 0 = e2 at *
 generalize names.length = ln at *
 generalize others.length = lo at *
 generalize cond.length = lc
 generalize e_z _ = r at *
 refine r_Z ?_; intro hbox L1 L2
 clear HR1 HR2
 by_cases h1 : e1 = 0
 rotate_left
 ·have hb : (e1 != 0) = true := by simpa using h1
  have HX := a_2 (show r = e1 from by rw [HE.out]; unfold a_c; rw [if_neg h1])
  clear HE h1
  go_enter func241, ntmps241
  go_wp2_with (go_at_call 237; refine (L1.out _ hbox).mono ?_; rintro e w1 ⟨rfl, hb1⟩; obtain ⟨m0, m1, m2, m3, m4, m5, hlw⟩ := a_R hb1; clear hbox)
  exact o_N
 subst h1
 by_cases h2 : e2 = 0
 rotate_left
 ·have hb : (e2 != 0) = true := by simpa using h2
  have HX := a_2 (show r = e2 from by rw [HE.out]; unfold a_c; rw [if_pos rfl, if_neg h2])
  clear HE h2
  go_enter func241, ntmps241
  go_wp2_with (first
   | (go_at_call 237; refine (L1.out _ hbox).mono ?_; rintro e w1 ⟨rfl, hb1⟩; obtain ⟨m0, m1, m2, m3, m4, m5, hlw⟩ := a_R hb1; clear hbox)
   | (go_at_call 237; refine (L2.out _ hb1).mono ?_; rintro e w2 ⟨rfl, hb2⟩; obtain ⟨o0, o1, o2, o3, o4, o5, hlw2⟩ := a_R hb2; clear hb1))
  exact q_m
 subst h2
 have HE2 := a_2 (show r = a_N its 1 true true true false b_A from by rw [HE.out]; unfold a_c; rw [if_pos rfl, if_pos rfl])
 clear HE
 by_cases h3 : its.length < 1
 ·have HX := a_2 (show r = 2 from by rw [HE2.out]; unfold a_N; rw [if_pos (.inl h3)])
  clear HE2
  go_enter func241, ntmps241
  go_wp2_with (first
   | (go_at_call 237; refine (L1.out _ hbox).mono ?_; rintro e w1 ⟨rfl, hb1⟩; obtain ⟨m0, m1, m2, m3, m4, m5, hlw⟩ := a_R hb1; clear hbox)
   | (go_at_call 237; refine (L2.out _ hb1).mono ?_; rintro e w2 ⟨rfl, hb2⟩; obtain ⟨o0, o1, o2, o3, o4, o5, hlw2⟩ := a_R hb2; clear hb1))
  all_goals first | (exfalso; omega) | skip
  exact q_m
 by_cases h4 : 12 < its.length
 ·have HX := a_2 (show r = 2 from by rw [HE2.out]; unfold a_N; rw [if_pos (.inr h4)])
  clear HE2
  go_enter func241, ntmps241
  go_wp2_with (first
   | (go_at_call 237; refine (L1.out _ hbox).mono ?_; rintro e w1 ⟨rfl, hb1⟩; obtain ⟨m0, m1, m2, m3, m4, m5, hlw⟩ := a_R hb1; clear hbox)
   | (go_at_call 237; refine (L2.out _ hb1).mono ?_; rintro e w2 ⟨rfl, hb2⟩; obtain ⟨o0, o1, o2, o3, o4, o5, hlw2⟩ := a_R hb2; clear hb1))
  all_goals first | (exfalso; omega) | skip
  exact q_m
 have HE5 := a_2 (HE2.out.trans (e_Z o_))
 clear HE2
 go_enter func241, ntmps241
 go_wp2_with (first
  | (go_at_call 237; refine (L1.out _ hbox).mono ?_; rintro e w1 ⟨rfl, hb1⟩; obtain ⟨m0, m1, m2, m3, m4, m5, hlw⟩ := a_R hb1; clear hbox)
  | (go_at_call 237; refine (L2.out _ hb1).mono ?_; rintro e w2 ⟨rfl, hb2⟩; obtain ⟨o0, o1, o2, o3, o4, o5, hlw2⟩ := a_R hb2; clear hb1))
 all_goals first | (exfalso; omega) | skip
 go_loopw [5] (fun i wr => ∃ k : Nat, k ≤ its.length ∧ i = .int .i64 k ∧ Hid (∀ j, j < k → e_9 its true true true false b_A j = 0) ∧ Below (w.heap.size + 1) (w.alloc (.cells #[.int .i64 op, str src, .slice nA ln nC, .slice oA lo oC, .slice iA its.length iC, .slice cA lc cC] 129)) wr) (fun i _ => its.length - (intOf i).toNat)
 case atStart => exact ⟨0, o_, rfl, fun j hj => absurd hj (Nat.not_lt_zero _), hb2⟩
 case round =>
  obtain ⟨k, hk, rfl, HZ, hbel⟩ := hrel
  have hbw := a_5 hbel
  obtain ⟨m0, m1, m2, m3, m4, m5, hlw⟩ := a_R hbel
  by_cases hlt : k < its.length
  ·rcases HI.out.below hbw with e | ⟨g, off, rfl, hg, hc⟩
   ·exact absurd hlt e_
   obtain ⟨c0, c1, c2, c3, E, ec, c4, hE⟩ := hc k hlt; have HIt := a_2 (fun W (hb : Below wr.heap.size wr W) => c_f (some ⟨g, off, none⟩) its iC k true true true false W (h_1.below (.inr ⟨g, off, rfl, hg, hc⟩) hb) hlt hli (by simp [i_q])); have HV := a_2 (fun W => d_7 its[k].col W); have HH := a_2 (fun W hb => HH0.out its[k].name W hb); have HT := a_2 (g_9 hlt true true true false b_A); have HF := a_2 (fun x (e : e_9 its true true true false b_A k = x) (hx : x ≠ 0) => (HE5.out.trans (a_q HZ.out (by rw [e]; exact hx) hlt)).trans e); have HN := a_2 (fun (e : e_9 its true true true false b_A k = 0) => a_T HZ.out e); clear hc hE; generalize d_r its k true true true false = u at *; generalize its[k] = x at *; obtain ⟨xn, xf, xc, xm, xe⟩ := x; simp only at c0 c1 c2 c3 c4 HV HH HT; generalize xe.length = le at *
   by_cases hu : u = 0
   rotate_left
   ·have hub : (u != 0) = true := by simpa using hu
    refine p_I ?_; intro HR; clear HT HF HN hu
    go_wp2_with (first
     | (go_at_call 266; refine (HIt.out _ ((b_ _ _).alloc (l_ _) _)).mono ?_; rintro e w4 ⟨rfl, hb4⟩; obtain ⟨n0, n1, n2, n3, n4, hlx⟩ := e_y (a_1 (b_ (wr.heap.size + 1) (wr.alloc _)) s_ hb4); have hs4 := a_1 (hbel.alloc hlw _) s_ hb4; obtain ⟨s0, s1, s2, s3, s4, s5, hls⟩ := a_R hs4))
    all_goals first | (go_ret; exact ⟨a_d HR.out.symm, a_5 hs4⟩) | (exfalso; omega) | (exfalso; simp_all; done)
   subst hu; refine o_p ?_; intro HT2; clear HT; obtain ⟨⟨i1, i2, i3⟩, hwb⟩ : ∃ t, t = f_0 xf := ⟨_, rfl⟩; have HWB := a_2 hwb.symm
   have HT3 := a_2 (show e_9 its true true true false b_A k = if i1 = false ∨ (i2 = false ∧ xc ≠ []) ∨ (i3 = false ∧ xm ≠ 0) then 8 else if i2 = true ∧ nmB xc = false then 4 else if i3 = true ∧ (xm < 1 ∨ 4096 < xm) then 1 else 0 from by
    rw [HT2.out]; unfold b_A; simp only [← hwb])
   clear HT2 hwb
   by_cases q1 : i1 = false ∨ (i2 = false ∧ xc ≠ []) ∨ (i3 = false ∧ xm ≠ 0)
   ·have HR := a_2 (HF.out 8 (HT3.out.trans (if_pos q1)) d_)
    clear HF HN HT3
    rcases Decidable.em (xc = []) with q4 | q4
    ·subst q4
     rcases Decidable.em (xm = 0) with q5 | q5
     ·subst q5
      cases i1 <;> cases i2 <;> cases i3
      all_goals first
       | (exfalso; simp at q1; done)
       | skip
      all_goals
       clear q1
       go_wp2_with (first
        | (go_at_call 266; refine (HIt.out _ ((b_ _ _).alloc (l_ _) _)).mono ?_; rintro e w4 ⟨rfl, hb4⟩; obtain ⟨n0, n1, n2, n3, n4, hlx⟩ := e_y (a_1 (b_ (wr.heap.size + 1) (wr.alloc _)) s_ hb4); have hs4 := a_1 (hbel.alloc hlw _) s_ hb4; obtain ⟨s0, s1, s2, s3, s4, s5, hls⟩ := a_R hs4)
        | (go_at_call 243; refine (a_E _ _).mono ?_; rintro e w' ⟨rfl, rfl⟩; rw [HWB.out]))
       all_goals first | (go_ret; exact ⟨a_d HR.out.symm, a_5 hs4⟩) | (exfalso; omega) | (exfalso; simp_all; done)
     ·have q6 : (xm != 0) = true := by simpa using q5
      cases i1 <;> cases i2 <;> cases i3
      all_goals first
       | (exfalso; simp at q1; done)
       | skip
      all_goals
       clear q1 q5
       go_wp2_with (first
        | (go_at_call 266; refine (HIt.out _ ((b_ _ _).alloc (l_ _) _)).mono ?_; rintro e w4 ⟨rfl, hb4⟩; obtain ⟨n0, n1, n2, n3, n4, hlx⟩ := e_y (a_1 (b_ (wr.heap.size + 1) (wr.alloc _)) s_ hb4); have hs4 := a_1 (hbel.alloc hlw _) s_ hb4; obtain ⟨s0, s1, s2, s3, s4, s5, hls⟩ := a_R hs4)
        | (go_at_call 243; refine (a_E _ _).mono ?_; rintro e w' ⟨rfl, rfl⟩; rw [HWB.out]))
       all_goals first | (go_ret; exact ⟨a_d HR.out.symm, a_5 hs4⟩) | (exfalso; omega) | (exfalso; simp_all; done)
    ·have q7 : xc.isEmpty = false := by cases xc <;> simp_all
     rcases Decidable.em (xm = 0) with q5 | q5
     ·subst q5
      cases i1 <;> cases i2 <;> cases i3
      all_goals first
       | (exfalso; simp at q1; done)
       | skip
      all_goals
       clear q1 q4
       go_wp2_with (first
        | (go_at_call 266; refine (HIt.out _ ((b_ _ _).alloc (l_ _) _)).mono ?_; rintro e w4 ⟨rfl, hb4⟩; obtain ⟨n0, n1, n2, n3, n4, hlx⟩ := e_y (a_1 (b_ (wr.heap.size + 1) (wr.alloc _)) s_ hb4); have hs4 := a_1 (hbel.alloc hlw _) s_ hb4; obtain ⟨s0, s1, s2, s3, s4, s5, hls⟩ := a_R hs4)
        | (go_at_call 243; refine (a_E _ _).mono ?_; rintro e w' ⟨rfl, rfl⟩; rw [HWB.out]))
       all_goals first | (go_ret; exact ⟨a_d HR.out.symm, a_5 hs4⟩) | (exfalso; omega) | (exfalso; simp_all; done)
     ·have q6 : (xm != 0) = true := by simpa using q5
      cases i1 <;> cases i2 <;> cases i3
      all_goals first
       | (exfalso; simp at q1; done)
       | skip
      all_goals
       clear q1 q4 q5
       go_wp2_with (first
        | (go_at_call 266; refine (HIt.out _ ((b_ _ _).alloc (l_ _) _)).mono ?_; rintro e w4 ⟨rfl, hb4⟩; obtain ⟨n0, n1, n2, n3, n4, hlx⟩ := e_y (a_1 (b_ (wr.heap.size + 1) (wr.alloc _)) s_ hb4); have hs4 := a_1 (hbel.alloc hlw _) s_ hb4; obtain ⟨s0, s1, s2, s3, s4, s5, hls⟩ := a_R hs4)
        | (go_at_call 243; refine (a_E _ _).mono ?_; rintro e w' ⟨rfl, rfl⟩; rw [HWB.out]))
       all_goals first | (go_ret; exact ⟨a_d HR.out.symm, a_5 hs4⟩) | (exfalso; omega) | (exfalso; simp_all; done)
   have HT4 := a_2 (HT3.out.trans (if_neg q1)); clear HT3; obtain rfl : i1 = true := by cases i1 <;> simp_all
   have q8 : i2 = false → xc = [] := fun h => Classical.byContradiction fun hn => q1 (.inr (.inl ⟨h, hn⟩)); have q9 : i3 = false → xm = 0 := fun h => Classical.byContradiction fun hn => q1 (.inr (.inr ⟨h, hn⟩)); clear q1
   cases i2
   ·obtain rfl := q8 rfl
    cases i3
    ·obtain rfl := q9 rfl
     have HR := a_2 (HN.out (HT4.out.trans s_)); clear HF HN HT4 q8 q9
     go_wp2_with (first
      | (go_at_call 266; refine (HIt.out _ ((b_ _ _).alloc (l_ _) _)).mono ?_; rintro e w4 ⟨rfl, hb4⟩; obtain ⟨n0, n1, n2, n3, n4, hlx⟩ := e_y (a_1 (b_ (wr.heap.size + 1) (wr.alloc _)) s_ hb4); have hs4 := a_1 (hbel.alloc hlw _) s_ hb4; obtain ⟨s0, s1, s2, s3, s4, s5, hls⟩ := a_R hs4)
      | (go_at_call 243; refine (a_E _ _).mono ?_; rintro e w' ⟨rfl, rfl⟩; rw [HWB.out]))
     all_goals first | exact ⟨⟨k + 1, o_, t_, HR, hs4⟩, w_⟩ | (exfalso; omega) | (exfalso; simp_all; done)
    ·clear q8 q9
     exfalso
     have := HWB.out; unfold f_0 at this
     repeat' split at this
     all_goals simp at this
   ·clear q8
    cases hv : nmB xc
    ·rw [hv] at HV HT4
     have HR := a_2 (HF.out 4 (HT4.out.trans s_) d_); clear HF HN HT4 hv
     cases i3
     ·obtain rfl := q9 rfl
      clear q9
      go_wp2_with (first
       | (go_at_call 266; refine (HIt.out _ ((b_ _ _).alloc (l_ _) _)).mono ?_; rintro e w4 ⟨rfl, hb4⟩; obtain ⟨n0, n1, n2, n3, n4, hlx⟩ := e_y (a_1 (b_ (wr.heap.size + 1) (wr.alloc _)) s_ hb4); have hs4 := a_1 (hbel.alloc hlw _) s_ hb4; obtain ⟨s0, s1, s2, s3, s4, s5, hls⟩ := a_R hs4)
       | (go_at_call 243; refine (a_E _ _).mono ?_; rintro e w' ⟨rfl, rfl⟩; rw [HWB.out])
       | (go_at_call 32; refine (HV.out _).mono ?_; rintro e w5 ⟨rfl, hb5⟩; have hs5 := a_1 hs4 s_ hb5; obtain ⟨t0, t1, t2, t3, t4, t5, hlt5⟩ := a_R hs5; have hn5 := hb5.cell (p := ⟨wr.heap.size, 3, none⟩) hlx; rw [n3] at hn5))
      all_goals first | (go_ret; exact ⟨a_d HR.out.symm, a_5 hs5⟩) | (exfalso; omega) | (exfalso; simp_all; done)
     ·clear q9
      go_wp2_with (first
       | (go_at_call 266; refine (HIt.out _ ((b_ _ _).alloc (l_ _) _)).mono ?_; rintro e w4 ⟨rfl, hb4⟩; obtain ⟨n0, n1, n2, n3, n4, hlx⟩ := e_y (a_1 (b_ (wr.heap.size + 1) (wr.alloc _)) s_ hb4); have hs4 := a_1 (hbel.alloc hlw _) s_ hb4; obtain ⟨s0, s1, s2, s3, s4, s5, hls⟩ := a_R hs4)
       | (go_at_call 243; refine (a_E _ _).mono ?_; rintro e w' ⟨rfl, rfl⟩; rw [HWB.out])
       | (go_at_call 32; refine (HV.out _).mono ?_; rintro e w5 ⟨rfl, hb5⟩; have hs5 := a_1 hs4 s_ hb5; obtain ⟨t0, t1, t2, t3, t4, t5, hlt5⟩ := a_R hs5; have hn5 := hb5.cell (p := ⟨wr.heap.size, 3, none⟩) hlx; rw [n3] at hn5))
      all_goals first | (go_ret; exact ⟨a_d HR.out.symm, a_5 hs5⟩) | (exfalso; omega) | (exfalso; simp_all; done)
    ·rw [hv] at HV HT4
     cases i3
     ·obtain rfl := q9 rfl
      have HR := a_2 (HN.out (HT4.out.trans s_)); clear HF HN HT4 hv q9
      go_wp2_with (first
       | (go_at_call 266; refine (HIt.out _ ((b_ _ _).alloc (l_ _) _)).mono ?_; rintro e w4 ⟨rfl, hb4⟩; obtain ⟨n0, n1, n2, n3, n4, hlx⟩ := e_y (a_1 (b_ (wr.heap.size + 1) (wr.alloc _)) s_ hb4); have hs4 := a_1 (hbel.alloc hlw _) s_ hb4; obtain ⟨s0, s1, s2, s3, s4, s5, hls⟩ := a_R hs4)
       | (go_at_call 243; refine (a_E _ _).mono ?_; rintro e w' ⟨rfl, rfl⟩; rw [HWB.out])
       | (go_at_call 32; refine (HV.out _).mono ?_; rintro e w5 ⟨rfl, hb5⟩; have hs5 := a_1 hs4 s_ hb5; obtain ⟨t0, t1, t2, t3, t4, t5, hlt5⟩ := a_R hs5; have hn5 := hb5.cell (p := ⟨wr.heap.size, 3, none⟩) hlx; rw [n3] at hn5))
      all_goals first | exact ⟨⟨k + 1, o_, t_, HR, hs5⟩, w_⟩ | (exfalso; omega) | (exfalso; simp_all; done)
     ·clear q9
      by_cases r1 : xm < 1
      ·have HR := a_2 (HF.out 1 (HT4.out.trans (by simp [r1])) d_)
       clear HF HN HT4 hv
       go_wp2_with (first
        | (go_at_call 266; refine (HIt.out _ ((b_ _ _).alloc (l_ _) _)).mono ?_; rintro e w4 ⟨rfl, hb4⟩; obtain ⟨n0, n1, n2, n3, n4, hlx⟩ := e_y (a_1 (b_ (wr.heap.size + 1) (wr.alloc _)) s_ hb4); have hs4 := a_1 (hbel.alloc hlw _) s_ hb4; obtain ⟨s0, s1, s2, s3, s4, s5, hls⟩ := a_R hs4)
        | (go_at_call 243; refine (a_E _ _).mono ?_; rintro e w' ⟨rfl, rfl⟩; rw [HWB.out])
        | (go_at_call 32; refine (HV.out _).mono ?_; rintro e w5 ⟨rfl, hb5⟩; have hs5 := a_1 hs4 s_ hb5; obtain ⟨t0, t1, t2, t3, t4, t5, hlt5⟩ := a_R hs5; have hn5 := hb5.cell (p := ⟨wr.heap.size, 3, none⟩) hlx; rw [n3] at hn5))
       all_goals first | (go_ret; exact ⟨a_d HR.out.symm, a_5 hs5⟩) | (exfalso; omega) | (exfalso; simp_all; done)
      by_cases r2 : 4096 < xm
      ·have HR := a_2 (HF.out 1 (HT4.out.trans (by simp [r2])) d_)
       clear HF HN HT4 hv
       go_wp2_with (first
        | (go_at_call 266; refine (HIt.out _ ((b_ _ _).alloc (l_ _) _)).mono ?_; rintro e w4 ⟨rfl, hb4⟩; obtain ⟨n0, n1, n2, n3, n4, hlx⟩ := e_y (a_1 (b_ (wr.heap.size + 1) (wr.alloc _)) s_ hb4); have hs4 := a_1 (hbel.alloc hlw _) s_ hb4; obtain ⟨s0, s1, s2, s3, s4, s5, hls⟩ := a_R hs4)
        | (go_at_call 243; refine (a_E _ _).mono ?_; rintro e w' ⟨rfl, rfl⟩; rw [HWB.out])
        | (go_at_call 32; refine (HV.out _).mono ?_; rintro e w5 ⟨rfl, hb5⟩; have hs5 := a_1 hs4 s_ hb5; obtain ⟨t0, t1, t2, t3, t4, t5, hlt5⟩ := a_R hs5; have hn5 := hb5.cell (p := ⟨wr.heap.size, 3, none⟩) hlx; rw [n3] at hn5))
       all_goals first | (go_ret; exact ⟨a_d HR.out.symm, a_5 hs5⟩) | (exfalso; omega) | (exfalso; simp_all; done)
      have HR := a_2 (HN.out (HT4.out.trans (by simp [r1, r2]))); clear HF HN HT4 hv
      go_wp2_with (first
       | (go_at_call 266; refine (HIt.out _ ((b_ _ _).alloc (l_ _) _)).mono ?_; rintro e w4 ⟨rfl, hb4⟩; obtain ⟨n0, n1, n2, n3, n4, hlx⟩ := e_y (a_1 (b_ (wr.heap.size + 1) (wr.alloc _)) s_ hb4); have hs4 := a_1 (hbel.alloc hlw _) s_ hb4; obtain ⟨s0, s1, s2, s3, s4, s5, hls⟩ := a_R hs4)
       | (go_at_call 243; refine (a_E _ _).mono ?_; rintro e w' ⟨rfl, rfl⟩; rw [HWB.out])
       | (go_at_call 32; refine (HV.out _).mono ?_; rintro e w5 ⟨rfl, hb5⟩; have hs5 := a_1 hs4 s_ hb5; obtain ⟨t0, t1, t2, t3, t4, t5, hlt5⟩ := a_R hs5; have hn5 := hb5.cell (p := ⟨wr.heap.size, 3, none⟩) hlx; rw [n3] at hn5))
      all_goals first | exact ⟨⟨k + 1, o_, t_, HR, hs5⟩, w_⟩ | (exfalso; omega) | (exfalso; simp_all; done)
  ·obtain rfl : k = its.length := by omega
   have HR := a_2 (HE5.out.trans (a_Y HZ.out))
   go_wp2
   exact o_P
set_option maxRecDepth 100000
theorem d_K (s : Stp) (a : Adr) (w : World) (hA : s.At w a) (ho : s.ok) :
  Calls prog 184 #[s.agg a] w fun e w' => e = .returned (.int .i64 (c_M s)) ∧ Below w.heap.size w w' := by
 by_cases hlo : s.op < 0
 ·have HX := a_2 (show c_M s = 8 from by unfold c_M; rw [if_pos (.inl hlo)])
  clear hA ho
  go_enter func184, ntmps184
  go_wp2
  go_ret
  exact ⟨a_d HX.out.symm, zX⟩
 by_cases hhi : 12 < s.op
 ·have HX := a_2 (show c_M s = 8 from by unfold c_M; rw [if_pos (.inr (.inl hhi))])
  clear hA ho
  go_enter func184, ntmps184
  go_wp2
  go_ret
  exact ⟨a_d HX.out.symm, zX⟩
 have HU := a_2 (fun W => f_R s a W o_ o_)
 have HS := a_2 (show c_M s = if b_z s.op s.src s.names.length s.others.length s.items.length s.cond.length = true then 8 else opS s from by
  unfold c_M
  cases hu : b_z s.op s.src s.names.length s.others.length s.items.length s.cond.length
  ·rw [if_neg m_]; rfl
  ·rw [if_pos s_]; rfl)
 cases hu : b_z s.op s.src s.names.length s.others.length s.items.length s.cond.length
 rotate_left
 ·rw [hu] at HU HS
  have HX := a_2 (HS.out.trans (if_pos rfl))
  clear hA ho HS hu
  go_enter func184, ntmps184
  go_wp2_with (go_at_call 235; refine (HU.out _).mono ?_; rintro e w1 ⟨rfl, hb1⟩)
  go_ret
  exact ⟨a_d HX.out.symm, a_5 (a_1 (b_ (w.heap.size + 1) (w.alloc _)) s_ hb1)⟩
 rw [hu] at HU HS
 have HX := a_2 (show c_M s = opS s from HS.out.trans (if_neg d_))
 clear HS hu
 have HA := a_2 hA
 have HO := a_2 ho
 clear hA ho
 obtain ⟨op, src, names, others, its, cond⟩ := s
 obtain ⟨nA, nC, oA, oC, iA, iC, cA, cC⟩ := a
 simp only at hlo hhi
 refine q_G ?_; intro hop
 show Calls prog 184 #[.agg #[.int .i64 op, str src, .slice nA names.length nC, .slice oA others.length oC, .slice iA its.length iC, .slice cA cond.length cC]] w _
 generalize c_M _ = r at *
 clear hlo hhi
 rcases hop with rfl | rfl | rfl | rfl | rfl | rfl | rfl | rfl | rfl | rfl | rfl | rfl | rfl
 ·have HV := a_2 (show r = a_L src from HX.out.trans (by unfold opS; simp))
  have HC := a_2 (fun W => d_D src W HO.out.src)
  clear HX
  unfold a_L at HV
  cases hq : qlB src
  all_goals
   rw [hq] at HC HV; clear HA HO hq
   go_enter func184, ntmps184
   go_wp2_with (first
    | (go_at_call 235; refine (HU.out _).mono ?_; rintro e w1 ⟨rfl, hb1⟩; have hcur := a_1 (b_ (w.heap.size + 1) (w.alloc _)) s_ hb1; obtain ⟨m0, m1, m2, m3, m4, m5, hlw⟩ := a_R hcur)
    | (go_at_call 67; refine (HC.out _).mono ?_; rintro e w2 ⟨rfl, hb2⟩))
   exact k_n
 ·have HV := a_2 (show r = a_u cond from HX.out.trans (by unfold opS; simp))
  have HC := a_2 (fun W (hW : Below w.heap.size w W) => b_l cA cond cC W (HA.out.cond.below hW) HO.out.cond HO.out.condN)
  clear HX HA HO
  go_enter func184, ntmps184
  go_wp2_with (first
   | (go_at_call 235; refine (HU.out _).mono ?_; rintro e w1 ⟨rfl, hb1⟩; have hcur := a_1 (b_ (w.heap.size + 1) (w.alloc _)) s_ hb1; obtain ⟨m0, m1, m2, m3, m4, m5, hlw⟩ := a_R hcur)
   | (go_at_call 182; refine (HC.out _ (a_5 hcur)).mono ?_; rintro e w2 ⟨rfl, hb2⟩))
  exact k_n
 ·have HV := a_2 (show r = a_N its 1 false false false true (fun x => a_u x.expr) from HX.out.trans (by unfold opS; simp))
  have HC := a_2 (fun W (hW : Below w.heap.size w W) => f_W _ _ W (HA.out.below hW) HO.out)
  clear HX HA HO
  go_enter func184, ntmps184
  go_wp2_with (first
   | (go_at_call 235; refine (HU.out _).mono ?_; rintro e w1 ⟨rfl, hb1⟩; have hcur := a_1 (b_ (w.heap.size + 1) (w.alloc _)) s_ hb1; obtain ⟨m0, m1, m2, m3, m4, m5, hlw⟩ := a_R hcur)
   | (go_at_call 236; refine (HC.out _ (a_5 hcur)).mono ?_; rintro e w2 ⟨rfl, hb2⟩))
  exact k_n
 ·have HV := a_2 (show r = a_z names 1 from HX.out.trans (by unfold opS; simp))
  have HC := a_2 (fun W (hW : Below w.heap.size w W) => b_S nA names nC 1 W (HA.out.names.below hW) HO.out.names (l_ _) HA.out.cn)
  clear HX HA HO
  go_enter func184, ntmps184
  go_wp2_with (first
   | (go_at_call 235; refine (HU.out _).mono ?_; rintro e w1 ⟨rfl, hb1⟩; have hcur := a_1 (b_ (w.heap.size + 1) (w.alloc _)) s_ hb1; obtain ⟨m0, m1, m2, m3, m4, m5, hlw⟩ := a_R hcur)
   | (go_at_call 237; refine (HC.out _ (a_5 hcur)).mono ?_; rintro e w2 ⟨rfl, hb2⟩))
  exact k_n
 ·have HV := a_2 (show r = g_1 ⟨4, src, names, others, its, cond⟩ from HX.out.trans (by unfold opS; simp))
  refine q_6 ?_; intro HC
  clear HX HA HO
  go_enter func184, ntmps184
  go_wp2_with (first
   | (go_at_call 235; refine (HU.out _).mono ?_; rintro e w1 ⟨rfl, hb1⟩; have hcur := a_1 (b_ (w.heap.size + 1) (w.alloc _)) s_ hb1; obtain ⟨m0, m1, m2, m3, m4, m5, hlw⟩ := a_R hcur)
   | (go_at_call 238; refine (HC.out _ (a_5 hcur)).mono ?_; rintro e w2 ⟨rfl, hb2⟩))
  exact k_n
 ·have HV := a_2 (show r = g_1 ⟨5, src, names, others, its, cond⟩ from HX.out.trans (by unfold opS; simp))
  refine q_6 ?_; intro HC
  clear HX HA HO
  go_enter func184, ntmps184
  go_wp2_with (first
   | (go_at_call 235; refine (HU.out _).mono ?_; rintro e w1 ⟨rfl, hb1⟩; have hcur := a_1 (b_ (w.heap.size + 1) (w.alloc _)) s_ hb1; obtain ⟨m0, m1, m2, m3, m4, m5, hlw⟩ := a_R hcur)
   | (go_at_call 238; refine (HC.out _ (a_5 hcur)).mono ?_; rintro e w2 ⟨rfl, hb2⟩))
  exact k_n
 ·have HV := a_2 (show r = g_1 ⟨6, src, names, others, its, cond⟩ from HX.out.trans (by unfold opS; simp))
  refine q_6 ?_; intro HC
  clear HX HA HO
  go_enter func184, ntmps184
  go_wp2_with (first
   | (go_at_call 235; refine (HU.out _).mono ?_; rintro e w1 ⟨rfl, hb1⟩; have hcur := a_1 (b_ (w.heap.size + 1) (w.alloc _)) s_ hb1; obtain ⟨m0, m1, m2, m3, m4, m5, hlw⟩ := a_R hcur)
   | (go_at_call 238; refine (HC.out _ (a_5 hcur)).mono ?_; rintro e w2 ⟨rfl, hb2⟩))
  exact k_n
 ·have HV := a_2 (show r = g_1 ⟨7, src, names, others, its, cond⟩ from HX.out.trans (by unfold opS; simp))
  refine q_6 ?_; intro HC
  clear HX HA HO
  go_enter func184, ntmps184
  go_wp2_with (first
   | (go_at_call 235; refine (HU.out _).mono ?_; rintro e w1 ⟨rfl, hb1⟩; have hcur := a_1 (b_ (w.heap.size + 1) (w.alloc _)) s_ hb1; obtain ⟨m0, m1, m2, m3, m4, m5, hlw⟩ := a_R hcur)
   | (go_at_call 238; refine (HC.out _ (a_5 hcur)).mono ?_; rintro e w2 ⟨rfl, hb2⟩))
  exact k_n
 ·have HV := a_2 (show r = c_E src from HX.out.trans (by unfold opS; simp))
  have HC := a_2 (fun W (hW : Below w.heap.size w W) => c_p src W HO.out.src)
  clear HX HA HO
  go_enter func184, ntmps184
  go_wp2_with (first
   | (go_at_call 235; refine (HU.out _).mono ?_; rintro e w1 ⟨rfl, hb1⟩; have hcur := a_1 (b_ (w.heap.size + 1) (w.alloc _)) s_ hb1; obtain ⟨m0, m1, m2, m3, m4, m5, hlw⟩ := a_R hcur)
   | (go_at_call 239; refine (HC.out _ (a_5 hcur)).mono ?_; rintro e w2 ⟨rfl, hb2⟩))
  exact k_n
 ·have HV := a_2 (show r = c_E src from HX.out.trans (by unfold opS; simp))
  have HC := a_2 (fun W (hW : Below w.heap.size w W) => c_p src W HO.out.src)
  clear HX HA HO
  go_enter func184, ntmps184
  go_wp2_with (first
   | (go_at_call 235; refine (HU.out _).mono ?_; rintro e w1 ⟨rfl, hb1⟩; have hcur := a_1 (b_ (w.heap.size + 1) (w.alloc _)) s_ hb1; obtain ⟨m0, m1, m2, m3, m4, m5, hlw⟩ := a_R hcur)
   | (go_at_call 239; refine (HC.out _ (a_5 hcur)).mono ?_; rintro e w2 ⟨rfl, hb2⟩))
  exact k_n
 ·have HV := a_2 (show r = 0 from HX.out.trans (by unfold opS; simp))
  clear HX HA HO
  go_enter func184, ntmps184
  go_wp2_with (go_at_call 235; refine (HU.out _).mono ?_; rintro e w1 ⟨rfl, hb1⟩; have hcur := a_1 (b_ (w.heap.size + 1) (w.alloc _)) s_ hb1; obtain ⟨m0, m1, m2, m3, m4, m5, hlw⟩ := a_R hcur)
  go_ret
  exact ⟨a_d HV.out.symm, a_5 hcur⟩
 ·have HV := a_2 (show r = f_A ⟨11, src, names, others, its, cond⟩ from HX.out.trans (by unfold opS; simp))
  have HC := a_2 (fun W (hW : Below w.heap.size w W) => g_b _ _ W (HA.out.below hW) HO.out)
  clear HX HA HO
  go_enter func184, ntmps184
  go_wp2_with (first
   | (go_at_call 235; refine (HU.out _).mono ?_; rintro e w1 ⟨rfl, hb1⟩; have hcur := a_1 (b_ (w.heap.size + 1) (w.alloc _)) s_ hb1; obtain ⟨m0, m1, m2, m3, m4, m5, hlw⟩ := a_R hcur)
   | (go_at_call 240; refine (HC.out _ (a_5 hcur)).mono ?_; rintro e w2 ⟨rfl, hb2⟩))
  exact k_n
 ·have HV := a_2 (show r = e_z ⟨12, src, names, others, its, cond⟩ from HX.out.trans (by unfold opS; simp))
  have HC := a_2 (fun W (hW : Below w.heap.size w W) => g_3 _ _ W (HA.out.below hW) HO.out)
  clear HX HA HO
  go_enter func184, ntmps184
  go_wp2_with (first
   | (go_at_call 235; refine (HU.out _).mono ?_; rintro e w1 ⟨rfl, hb1⟩; have hcur := a_1 (b_ (w.heap.size + 1) (w.alloc _)) s_ hb1; obtain ⟨m0, m1, m2, m3, m4, m5, hlw⟩ := a_R hcur)
   | (go_at_call 241; refine (HC.out _ (a_5 hcur)).mono ?_; rintro e w2 ⟨rfl, hb2⟩))
  exact k_n
def g_i (ss : List Stp) (i : Nat) : Int := if c_M (ss.getD i o_i) = 0 then (if ((ss.getD i o_i).op = 0 ↔ i = 0) then 0 else 8) else c_M (ss.getD i o_i)
set_option maxRecDepth 512
theorem l_t {ss : List Stp} {i : Nat} (h : i < ss.length) : g_i ss i = if c_M ss[i] = 0 then (if (ss[i].op = 0 ↔ i = 0) then 0 else 8) else c_M ss[i] := by
 unfold g_i; rw [List.getD_eq_getElem?_getD, List.getElem?_eq_getElem h]; rfl
theorem i_k {ss : List Stp} (h : ¬ (ss.length < 1 ∨ 16 < ss.length)) : b_o ss = a_o (g_i ss) ss.length := by
 unfold b_o; rw [if_neg h]; rfl
def m_e (ss : List Stp) : Prop := ∀ s ∈ ss, s.ok
set_option maxRecDepth 100000
theorem f_6 (A : Option Addr) (ss : List Stp) (c : Nat) (w : World) (h : b_L w A ss) (hl : ss.length ≤ 8796093022208) (hk : m_e ss) :
  Calls prog 127 #[.slice A ss.length c] w fun e w' => e = .returned (.int .i64 (b_o ss)) ∧ Below w.heap.size w w' := by
 have HA := a_2 h
 have HK := a_2 hk
 clear h hk
 by_cases h1 : ss.length < 1
 ·have HE := a_2 (show b_o ss = 2 from by unfold b_o; rw [if_pos (.inl h1)])
  go_enter func127, ntmps127
  go_wp2
  all_goals first | (exfalso; omega) | skip
  exact j_X
 by_cases h2 : 16 < ss.length
 ·have HE := a_2 (show b_o ss = 2 from by unfold b_o; rw [if_pos (.inr h2)])
  go_enter func127, ntmps127
  go_wp2
  all_goals first | (exfalso; omega) | skip
  exact j_X
 have HE := a_2 (i_k (ss := ss) o_)
 generalize b_o ss = r at *
 go_enter func127, ntmps127
 go_wp2
 all_goals first | (exfalso; omega) | skip
 go_loopw [3] (fun i wr => ∃ k : Nat, k ≤ ss.length ∧ i = .int .i64 k ∧ Hid (∀ j, j < k → g_i ss j = 0) ∧ Below w.heap.size w wr) (fun i _ => ss.length - (intOf i).toNat)
 case atStart => exact ⟨0, o_, rfl, fun j hj => absurd hj (Nat.not_lt_zero _), b_ _ _⟩
 case round =>
  obtain ⟨k, hk, rfl, HZ, hbel⟩ := hrel
  by_cases hlt : k < ss.length
  ·rcases HA.out.below hbel with e | ⟨g, off, rfl, hg, hc⟩
   ·exact absurd hlt e_
   obtain ⟨a, ha, c0, c1, c2, c3, c4, c5⟩ := hc k hlt; have HV := a_2 (d_K ss[k] a wr ha (HK.out _ (List.getElem_mem hlt))); refine s_p ?_; intro HT HF HN; have HC0 := a_2 (fun W (hb : Below wr.heap.size wr W) => (hb.cell (p := ⟨g, off + k * 6, none⟩) hg).trans c0); clear hc ha; generalize c_M ss[k] = v at *; obtain ⟨x, hx⟩ : ∃ x, x = ss[k] := ⟨_, rfl⟩; rw [← hx] at c0 c1 c2 c3 c4 c5 HV HT HC0; clear hx
   by_cases hv : v = 0
   rotate_left
   ·have hvb : (v != 0) = true := by simpa using hv
    have HR := a_2 (HF.out v (by rw [HT.out, if_neg hv]) hv); clear HT HF HN hv
    go_wp2_with (go_at_call 184; refine (HV.out).mono ?_; rintro e w1 ⟨rfl, hb1⟩)
    exact i_M
   subst hv; refine o_p ?_; intro HT2
   by_cases ho : x.op = 0
   ·have hp : (x.op == 0) = true := by simpa using ho
    by_cases hk0 : k = 0
    ·have hq : ((k : Int) == 0) = true := by simpa using hk0
     refine q_n ?_; intro HR; clear HT HF HN HT2 ho hk0
     go_wp2_with (go_at_call 184; refine (HV.out).mono ?_; rintro e w1 ⟨rfl, hb1⟩; have d0 := HC0.out _ hb1)
     exact p_Z
    ·have hq : ((k : Int) == 0) = false := beq_eq_false_iff_ne.2 o_
     refine p_P ?_; intro HR; clear HT HF HN HT2 ho hk0
     go_wp2_with (go_at_call 184; refine (HV.out).mono ?_; rintro e w1 ⟨rfl, hb1⟩; have d0 := HC0.out _ hb1)
     exact i_M
   ·have hp : (x.op == 0) = false := beq_eq_false_iff_ne.2 ho
    by_cases hk0 : k = 0
    ·have hq : ((k : Int) == 0) = true := by simpa using hk0
     refine p_P ?_; intro HR; clear HT HF HN HT2 ho hk0
     go_wp2_with (go_at_call 184; refine (HV.out).mono ?_; rintro e w1 ⟨rfl, hb1⟩; have d0 := HC0.out _ hb1)
     exact i_M
    ·have hq : ((k : Int) == 0) = false := beq_eq_false_iff_ne.2 o_
     refine q_n ?_; intro HR; clear HT HF HN HT2 ho hk0
     go_wp2_with (go_at_call 184; refine (HV.out).mono ?_; rintro e w1 ⟨rfl, hb1⟩; have d0 := HC0.out _ hb1)
     exact p_Z
  ·obtain rfl : k = ss.length := by omega
   refine i_2 ?_; intro HR
   go_wp2
   exact i_N
end Go.Proofs.YtnpjibaolicbmaaGreatDoor
