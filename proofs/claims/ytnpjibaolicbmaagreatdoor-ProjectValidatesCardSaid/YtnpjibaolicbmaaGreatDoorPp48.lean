/- Parts of the proof. -/
import Derived.Test.YtnpjibaolicbmaaGreatDoorPp14
import Derived.Deep.Cut
set_option linter.unusedVariables false
set_option linter.unusedSimpArgs false
set_option maxHeartbeats 16000000
namespace Go.Proofs.YtnpjibaolicbmaaGreatDoor
open Go.RowKit
set_option maxRecDepth 100000
theorem q_O : p_H true false := by
 intro k m a x nm g off Cp Z xc cm cc zm zc w k0 k1 k2 b0 b2 hg hcm c0 c1 c2 c3 c4 c5
 have HCM := a_2 hcm
 clear hcm
 refine o_8 ?_; intro L
 refine p_W ?_; intro d3 d4 d5 d6
 clear L
 go_enter Tryz.func255, Tryz.ntmps255
 go_wp2
 go_region_with (go_at_call 271; refine (c_A _ _ _ _ _).mono ?_; rintro e w1 ⟨⟨kr, rfl⟩, hb1⟩; rw [HCM.out]; obtain ⟨g1, h2, h3, hb2⟩ := n_O (w := w) (o1 := d_x 17 k m x nm a) (o2 := knO 0 false) (o3 := knO 0 false) (w1 := w1) ⟨hb1.os, hb1.tape, hb1.output, hb1.size, hb1.block⟩)
 all_goals
  refine p_T ?_; intro hlt l1 l2 f0 f1 f3 f5
  clear d3 d4 d5 d6 c0 c1 c2 c3 c4 c5 hb1
  obtain ⟨⟨x0, x1, xf⟩, ⟨y0, y1, yf⟩, s0, s1, u0, u1⟩ := b_7 h2 h3
  clear g1 x0 x1 xf u0 u1
  go_upto_region 17 with fail
  refine wp_region_any k_ ?_
  change wpAny _ _ _ _ _ _ _ (World.drew _)
  refine yT 0 ?_; refine yT 1 ?_; refine yT 2 ?_; refine yT 3 ?_; refine yT 12 ?_
  refine yR 4 (fun K hK => ?_)
  go_simp
  refine hK _ _ ?_
  clear hK K
  refine yT 5 ?_; refine yT 6 ?_; refine yT 7 ?_; refine yT 8 ?_; refine yT 13 ?_; refine yT 14 ?_; refine yT 15 ?_
  refine wpAny_ready (rs := [9, 16]) k_ s_ ?_
  refine AllReady.cons rfl (fun K hK => ?_) (AllReady.cons rfl (fun K hK => ?_) AllReady.nil)
  ·go_simp
   refine hK _ _ ?_; clear hK K; refine yT 10 ?_; refine yT 11 ?_; refine yR 16 (fun K hK => ?_)
   go_simp
   refine hK _ _ ?_; clear hK K; refine yR 17 (fun K hK => ?_)
   go_simp
   go_wp2_with (go_at_call 272; refine (a_V _ _ _ _).mono ?_; rintro e w' ⟨rfl, rfl⟩)
   refine yT 18 ?_; refine yR 19 (fun K hK => ?_)
   go_simp
   refine hK _ _ ?_; clear hK K; refine yT 20 ?_; refine wpAny_done k_ ?_ _; obtain ⟨⟨p0, p1, pf⟩, ⟨q0, q1, qf⟩, r0, r1, v0, v1⟩ := b_7 h2 h3; refine _aa ?_; intro T x0 x1 xf y0 y1 yf s0 s1 u0 u1 z1 z0 zz1 zz0 hb3; clear T h2 h3 f0 f1 f3 f5
   go_wp2
   all_goals
    refine a_S rfl ?_; apply Exists.intro; apply And.intro
    ·simp [results, Tryz.results255, go_sem, z0, z1, zz0, zz1, s0, s1, u0, u1, r0, r1, v0, v1]; rfl
    ·exact ⟨⟨_, _, _, rfl⟩, zX⟩
  ·go_simp
   refine hK _ _ ?_; clear hK K; refine wpAny_ready (rs := [9, 17]) k_ s_ ?_; refine AllReady.cons rfl (fun K hK => ?_) (AllReady.cons rfl (fun K hK => ?_) AllReady.nil)
   ·go_simp
    refine hK _ _ ?_; clear hK K; refine yT 10 ?_; refine yT 11 ?_; refine yR 17 (fun K hK => ?_)
    go_simp
    go_wp2_with (go_at_call 272; refine (a_V _ _ _ _).mono ?_; rintro e w' ⟨rfl, rfl⟩)
    refine yT 18 ?_; refine yR 19 (fun K hK => ?_)
    go_simp
    refine hK _ _ ?_; clear hK K; refine yT 20 ?_; refine wpAny_done k_ ?_ _; obtain ⟨⟨p0, p1, pf⟩, ⟨q0, q1, qf⟩, r0, r1, v0, v1⟩ := b_7 h2 h3; refine _aa ?_; intro T x0 x1 xf y0 y1 yf s0 s1 u0 u1 z1 z0 zz1 zz0 hb3; clear T h2 h3 f0 f1 f3 f5
    go_wp2
    all_goals
     refine a_S rfl ?_; apply Exists.intro; apply And.intro
     ·simp [results, Tryz.results255, go_sem, z0, z1, zz0, zz1, s0, s1, u0, u1, r0, r1, v0, v1]; rfl
     ·exact ⟨⟨_, _, _, rfl⟩, zX⟩
   ·go_simp
    go_wp2_with (go_at_call 272; refine (a_V _ _ _ _).mono ?_; rintro e w' ⟨rfl, rfl⟩)
    refine yT 18 ?_; refine yR 9 (fun K hK => ?_)
    go_simp
    refine hK _ _ ?_; clear hK K; refine yT 10 ?_; refine yT 11 ?_; refine yR 19 (fun K hK => ?_)
    go_simp
    refine hK _ _ ?_; clear hK K; refine yT 20 ?_; refine wpAny_done k_ ?_ _; obtain ⟨⟨p0, p1, pf⟩, ⟨q0, q1, qf⟩, r0, r1, v0, v1⟩ := b_7 h2 h3; refine _aa ?_; intro T x0 x1 xf y0 y1 yf s0 s1 u0 u1 z1 z0 zz1 zz0 hb3; clear T h2 h3 f0 f1 f3 f5
    go_wp2
    all_goals
     refine a_S rfl ?_; apply Exists.intro; apply And.intro
     ·simp [results, Tryz.results255, go_sem, z0, z1, zz0, zz1, s0, s1, u0, u1, r0, r1, v0, v1]; rfl
     ·exact ⟨⟨_, _, _, rfl⟩, zX⟩
end Go.Proofs.YtnpjibaolicbmaaGreatDoor
