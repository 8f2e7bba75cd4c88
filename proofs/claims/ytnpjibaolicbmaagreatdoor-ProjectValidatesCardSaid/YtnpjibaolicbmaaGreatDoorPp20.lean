/- Parts of the proof. -/
import Derived.Test.YtnpjibaolicbmaaGreatDoorPp08
import Derived.Test.YtnpjibaolicbmaaGreatDoorPp14
import Derived.Test.YtnpjibaolicbmaaGreatDoorPp19
import Derived.Deep.Cut
set_option linter.unusedVariables false
set_option linter.unusedSimpArgs false
set_option maxHeartbeats 16000000
namespace Go.Proofs.YtnpjibaolicbmaaGreatDoor
open Go.RowKit
def n_e (cs : List Col) (names : List a_3) (i : Nat) : Int := if c_k cs (names.getD i []) < 0 then 5 else if names.getD i [] ∈ names.take i then 6 else 0
def j_q (cs : List Col) (names : List a_3) : Int := a_o (n_e cs names) names.length
def e_E (cs : List Col) (names : List a_3) : List Int := if j_q cs names = 0 then names.map (c_k cs) else []
def r_P : Col := ⟨[], 0, false⟩
def f_s (cs : List Col) (i : Int) : Col := if 0 ≤ i ∧ i < cs.length then cs.getD i.toNat r_P else r_P
theorem k_K {cs : List Col} {names : List a_3} {k : Nat} (h : k < names.length) : n_e cs names k = if c_k cs names[k] < 0 then 5 else if names[k] ∈ names.take k then 6 else 0 := by
 unfold n_e; rw [List.getD_eq_getElem?_getD, List.getElem?_eq_getElem h]; rfl
def k_Y (cs : List Col) (names : List a_3) (w' : World) (e : Ending) : Prop := ∃ (A : Option Addr) (c : Nat), e = .returned (.tuple #[.slice A (e_E cs names).length c, .int .i64 (j_q cs names)]) ∧ b_R w' A (e_E cs names)
def m_k (w : World) (X : Option Addr) (xs : List Kn) : Prop :=
 xs = [] ∨ ∃ g off, X = some ⟨g, off, none⟩ ∧ g < w.heap.size ∧ ∀ i (h : i < xs.length), w.cell? ⟨g, off + i * 2, none⟩ = some (.int .i64 xs[i].1) ∧ w.cell? ⟨g, off + i * 2 + 1, none⟩ = some (.bool xs[i].2)
theorem m_k.below {w w' : World} {X : Option Addr} {xs : List Kn} (h : m_k w X xs) (hb : Below w.heap.size w w') : m_k w' X xs := by
 rcases h with h | ⟨g, off, hA, hg, hc⟩
 ·exact .inl h
 ·refine .inr ⟨g, off, hA, Nat.lt_of_lt_of_le hg hb.size, fun i hi => ?_⟩
  exact s_l
def okN (r : Kn × Bool) : Kn × Int := if r.2 = true then (r.1, 0) else ((0, false), 7)
def ifS (x y z : Kn) : Kn × Bool := (((o_U y z).1, y.2 || z.2), (o_U y z).2 && f_D x.1 1)
def n_r (cs : List Col) (zs : List Zon) (op k : Int) (nm : a_3) (xs : List Kn) : Kn × Int :=
 if op = 0 then ((k, k == 0), 0)
 else if op = 1 then (if c_k cs nm < 0 then ((0, false), 5) else match cs[(c_k cs nm).toNat]? with
  | some c => ((c.kind, c.null), 0)
  | none => ((0, false), 5))
 else if op = 21 then ((0, false), 5)
 else match xs with
  | [x] => if op = 20 then (if s_N zs nm = true then okN (unS 20 x) else ((0, false), 5)) else okN (unS op x)
  | [x, y] => okN (bnS op x y)
  | [x, y, z] => okN (ifS x y z)
  | _ => ((0, false), 7)
set_option maxRecDepth 100000
theorem r_u : p_H false false := by
 intro k m a x nm g off Cp Z xc cm cc zm zc w k0 k1 k2 b0 b2 hg hcm c0 c1 c2 c3 c4 c5
 have HCM := a_2 hcm
 clear hcm
 refine o_8 ?_; intro L
 refine p_W ?_; intro d3 d4 d5 d6
 clear L
 go_enter Tryz.func255, Tryz.ntmps255
 go_wp2
 go_region_with (go_at_call 271; refine (c_A _ _ _ _ _).mono ?_; rintro e w1 ⟨⟨kr, rfl⟩, hb1⟩; rw [HCM.out]; obtain ⟨g1, h2, h3, hb2⟩ := n_O (w := w) (o1 := d_x 17 k m x nm a) (o2 := knO 0 false) (o3 := knO 0 false) (w1 := w1) ⟨hb1.os, hb1.tape, hb1.output, hb1.size, hb1.block⟩)
 all_goals
  refine p_T ?_; intro hlt l1 l2 f0 f1 f3 f5
  clear d3 d4 d5 d6 c0 c1 c2 c3 c4 c5 hb1
  obtain ⟨⟨x0, x1, xf⟩, ⟨y0, y1, yf⟩, s0, s1, u0, u1⟩ := b_7 h2 h3
  clear g1 x0 x1 xf u0 u1
  go_upto_region 17 with fail
  refine wp_region_any k_ ?_
  change wpAny _ _ _ _ _ _ _ (World.drew _)
  refine yT 0 ?_; refine yT 1 ?_; refine yT 2 ?_; refine yT 3 ?_; refine yT 12 ?_
  refine yR 4 (fun K hK => ?_)
  go_simp
  refine hK _ _ ?_
  clear hK K
  refine yT 5 ?_; refine yT 6 ?_; refine yT 7 ?_; refine yT 8 ?_; refine yT 13 ?_; refine yS 14 ?_; refine yS 15 ?_; refine yS 16 ?_; refine yS 17 ?_; refine yT 18 ?_
  refine yR 9 (fun K hK => ?_)
  go_simp
  refine hK _ _ ?_
  clear hK K
  refine yT 10 ?_; refine yT 11 ?_
  refine yR 19 (fun K hK => ?_)
  go_simp
  refine hK _ _ ?_
  clear hK K
  refine yT 20 ?_
  refine wpAny_done k_ ?_ _
  obtain ⟨⟨p0, p1, pf⟩, ⟨q0, q1, qf⟩, r0, r1, v0, v1⟩ := b_7 h2 h3
  refine _aa ?_; intro T x0 x1 xf y0 y1 yf s0 s1 u0 u1 z1 z0 zz1 zz0 hb3
  clear T h2 h3 f0 f1 f3 f5
  go_wp2
  all_goals
   refine a_S rfl ?_; apply Exists.intro; apply And.intro
   ·simp [results, Tryz.results255, go_sem, z0, z1, zz0, zz1, s0, s1, u0, u1, r0, r1, v0, v1]; rfl
   ·exact ⟨⟨_, _, _, rfl⟩, zX⟩
set_option maxRecDepth 100000
theorem q_B : p_H false true := by
 intro k m a x nm g off Cp Z xc cm cc zm zc w k0 k1 k2 b0 b2 hg hcm c0 c1 c2 c3 c4 c5
 have HCM := a_2 hcm
 clear hcm
 refine o_8 ?_; intro L
 refine p_W ?_; intro d3 d4 d5 d6
 clear L
 go_enter Tryz.func255, Tryz.ntmps255
 go_wp2
 go_region_with (go_at_call 271; refine (c_A _ _ _ _ _).mono ?_; rintro e w1 ⟨⟨kr, rfl⟩, hb1⟩; rw [HCM.out]; obtain ⟨g1, h2, h3, hb2⟩ := n_O (w := w) (o1 := d_x 17 k m x nm a) (o2 := knO 0 false) (o3 := knO 0 false) (w1 := w1) ⟨hb1.os, hb1.tape, hb1.output, hb1.size, hb1.block⟩)
 all_goals
  refine p_T ?_; intro hlt l1 l2 f0 f1 f3 f5
  clear d3 d4 d5 d6 c0 c1 c2 c3 c4 c5 hb1
  obtain ⟨⟨x0, x1, xf⟩, ⟨y0, y1, yf⟩, s0, s1, u0, u1⟩ := b_7 h2 h3
  clear g1 x0 x1 xf u0 u1
  go_upto_region 17 with fail
  refine wp_region_any k_ ?_
  change wpAny _ _ _ _ _ _ _ (World.drew _)
  refine yT 0 ?_; refine yT 1 ?_; refine yT 2 ?_; refine yT 3 ?_; refine yT 12 ?_
  refine yR 4 (fun K hK => ?_)
  go_simp
  refine hK _ _ ?_
  clear hK K
  refine yT 5 ?_; refine yS 6 ?_; refine yS 7 ?_; refine yS 8 ?_; refine yS 9 ?_; refine yT 10 ?_; refine yT 11 ?_; refine yT 13 ?_; refine yS 14 ?_; refine yS 15 ?_; refine yS 16 ?_; refine yS 17 ?_; refine yT 18 ?_
  refine yR 19 (fun K hK => ?_)
  go_simp
  refine hK _ _ ?_
  clear hK K
  refine yT 20 ?_
  refine wpAny_done k_ ?_ _
  obtain ⟨⟨p0, p1, pf⟩, ⟨q0, q1, qf⟩, r0, r1, v0, v1⟩ := b_7 h2 h3
  refine _aa ?_; intro T x0 x1 xf y0 y1 yf s0 s1 u0 u1 z1 z0 zz1 zz0 hb3
  clear T h2 h3 f0 f1 f3 f5
  go_wp2
  all_goals
   refine a_S rfl ?_; apply Exists.intro; apply And.intro
   ·simp [results, Tryz.results255, go_sem, z0, z1, zz0, zz1, s0, s1, u0, u1, r0, r1, v0, v1]; rfl
   ·exact ⟨⟨_, _, _, rfl⟩, zX⟩
set_option maxRecDepth 100000
theorem q_x : p_H true true := by
 intro k m a x nm g off Cp Z xc cm cc zm zc w k0 k1 k2 b0 b2 hg hcm c0 c1 c2 c3 c4 c5
 have HCM := a_2 hcm
 clear hcm
 refine o_8 ?_; intro L
 refine p_W ?_; intro d3 d4 d5 d6
 clear L
 go_enter Tryz.func255, Tryz.ntmps255
 go_wp2
 go_region_with (go_at_call 271; refine (c_A _ _ _ _ _).mono ?_; rintro e w1 ⟨⟨kr, rfl⟩, hb1⟩; rw [HCM.out]; obtain ⟨g1, h2, h3, hb2⟩ := n_O (w := w) (o1 := d_x 17 k m x nm a) (o2 := knO 0 false) (o3 := knO 0 false) (w1 := w1) ⟨hb1.os, hb1.tape, hb1.output, hb1.size, hb1.block⟩)
 all_goals
  refine p_T ?_; intro hlt l1 l2 f0 f1 f3 f5
  clear d3 d4 d5 d6 c0 c1 c2 c3 c4 c5 hb1
  obtain ⟨⟨x0, x1, xf⟩, ⟨y0, y1, yf⟩, s0, s1, u0, u1⟩ := b_7 h2 h3
  clear g1 x0 x1 xf u0 u1
  go_upto_region 17 with fail
  refine wp_region_any k_ ?_
  change wpAny _ _ _ _ _ _ _ (World.drew _)
  refine yT 0 ?_; refine yT 1 ?_; refine yT 2 ?_; refine yT 3 ?_; refine yT 12 ?_
  refine yR 4 (fun K hK => ?_)
  go_simp
  refine hK _ _ ?_
  clear hK K
  refine yT 5 ?_; refine yS 6 ?_; refine yS 7 ?_; refine yS 8 ?_; refine yS 9 ?_; refine yT 10 ?_; refine yT 11 ?_; refine yT 13 ?_; refine yT 14 ?_; refine yT 15 ?_
  refine yR 16 (fun K hK => ?_)
  go_simp
  refine hK _ _ ?_
  clear hK K
  refine yR 17 (fun K hK => ?_)
  go_simp
  go_wp2_with (go_at_call 272; refine (a_V _ _ _ _).mono ?_; rintro e w' ⟨rfl, rfl⟩)
  refine yT 18 ?_
  refine yR 19 (fun K hK => ?_)
  go_simp
  refine hK _ _ ?_
  clear hK K
  refine yT 20 ?_
  refine wpAny_done k_ ?_ _
  obtain ⟨⟨p0, p1, pf⟩, ⟨q0, q1, qf⟩, r0, r1, v0, v1⟩ := b_7 h2 h3
  refine _aa ?_; intro T x0 x1 xf y0 y1 yf s0 s1 u0 u1 z1 z0 zz1 zz0 hb3
  clear T h2 h3 f0 f1 f3 f5
  go_wp2
  all_goals
   refine a_S rfl ?_; apply Exists.intro; apply And.intro
   ·simp [results, Tryz.results255, go_sem, z0, z1, zz0, zz1, s0, s1, u0, u1, r0, r1, v0, v1]; rfl
   ·exact ⟨⟨_, _, _, rfl⟩, zX⟩
end Go.Proofs.YtnpjibaolicbmaaGreatDoor
