/- The type of a node that is an if (ref9.node), told: true false. -/
import Derived.Test.YtmbeeefkpgfgmaaGreatDoorPq09
import Derived.Test.YtmbeeefkpgfgmaaGreatDoorPq07
set_option linter.unusedVariables false
set_option linter.unusedSimpArgs false
namespace Go.Proofs.YtmbeeefkpgfgmaaGreatDoor
open Go.RowKit
set_option maxRecDepth 100000 in
set_option maxHeartbeats 16000000 in
theorem if_tf_s : IfAtS true false := by
  intro cs zs k m a x nm g off Cp Z xc cm cc zm zc w k0 k1 k2 b0 b2 hg hcm c0 c1 c2 c3 c4 c5
  have HU := hide (fun W => ref9_common_s k1 k2 false b2 W)
  have HF := hide (fun (b : Bool) W => ref9_fits_any k0 1 b W)
  obtain ⟨kr, hkr⟩ : ∃ kr, comS (k1, false) (k2, b2) = (kr, true) := ⟨_, Prod.ext rfl hcm⟩
  have hR : nodeS cs zs 17 k (bs nm) [(k0, b0), (k1, false), (k2, b2)] = okN ((kr, false || b2), true && fitK k0 1) := by
    show okN (((comS (k1, false) (k2, b2)).1, false || b2), (comS (k1, false) (k2, b2)).2 && fitK k0 1) = _
    rw [hkr]
  rw [hkr] at HU
  clear hcm hkr
  generalize fitK k0 1 = f at *
  have HR := hide hR
  clear hR
  have L : ∀ (o1 o2 o3 : Obj) (p : Nat), (((w.alloc o1).alloc o2).alloc o3).cell? ⟨g, p, none⟩ = w.cell? ⟨g, p, none⟩ := fun o1 o2 o3 p => (show Below w.heap.size w (((w.alloc o1).alloc o2).alloc o3) from zX).cell (p := ⟨g, p, none⟩) hg
  have d3 := fun o1 o2 o3 => (L o1 o2 o3 _).trans c2
  have d4 := fun o1 o2 o3 => (L o1 o2 o3 _).trans c3
  have d5 := fun o1 o2 o3 => (L o1 o2 o3 _).trans c4
  have d6 := fun o1 o2 o3 => (L o1 o2 o3 _).trans c5
  clear L
  go_enter Tryz.func260, Tryz.ntmps260
  go_wp2
  go_region_with (go_at_call 277; refine (HU.out _).mono ?_; rintro e w1 ⟨rfl, hb1⟩; obtain ⟨g1, h2, h3, hb2⟩ := far3 (w := w) (o1 := ndBox 17 k m x nm a) (o2 := knO 0 false) (o3 := knO 0 false) (w1 := w1) ⟨hb1.os, hb1.tape, hb1.output, hb1.size, hb1.block⟩)
  all_goals
    have hlt := lt_of_heap h3
    have l1 : w.heap.size + 1 < w1.heap.size := by omega
    have l2 : g < w1.heap.size := by omega
    have f0 := (hb2.cell (p := ⟨g, _, none⟩) hg).trans c0
    have f1 := (hb2.cell (p := ⟨g, _, none⟩) hg).trans c1
    have f3 := (hb2.cell (p := ⟨g, _, none⟩) hg).trans c3
    have f5 := (hb2.cell (p := ⟨g, _, none⟩) hg).trans c5
    clear d3 d4 d5 d6 c0 c1 c2 c3 c4 c5 hb1
    obtain ⟨⟨x0, x1, xf⟩, ⟨y0, y1, yf⟩, s0, s1, u0, u1⟩ := two_boxes h2 h3
    clear g1 x0 x1 xf u0 u1
    go_upto_region 17 with fail
    refine wp_region_any (by kernel_rfl) ?_
    change wpAny _ _ _ _ _ _ _ (World.drew _)
    refine yT 0 ?_; refine yT 1 ?_; refine yT 2 ?_; refine yT 3 ?_; refine yT 12 ?_
    refine yR 4 (fun K hK => ?_)
    go_simp
    refine hK _ _ ?_
    clear hK K
    refine yT 5 ?_; refine yT 6 ?_; refine yT 7 ?_; refine yT 8 ?_; refine yT 13 ?_; refine yT 14 ?_; refine yT 15 ?_
    refine wpAny_ready (rs := [9, 16]) (by kernel_rfl) (by simp) ?_
    refine AllReady.cons rfl (fun K hK => ?_) (AllReady.cons rfl (fun K hK => ?_) AllReady.nil)
    · go_simp
      refine hK _ _ ?_
      clear hK K
      refine yT 10 ?_; refine yT 11 ?_
      refine yR 16 (fun K hK => ?_)
      go_simp
      refine hK _ _ ?_
      clear hK K
      refine yR 17 (fun K hK => ?_)
      go_simp
      go_wp2_with (go_at_call 278; refine (HF.out _ _).mono ?_; rintro e w' ⟨rfl, rfl⟩)
      refine yT 18 ?_
      refine yR 19 (fun K hK => ?_)
      go_simp
      refine hK _ _ ?_
      clear hK K
      refine yT 20 ?_
      refine wpAny_done (by kernel_rfl) ?_ _
      obtain ⟨⟨p0, p1, pf⟩, ⟨q0, q1, qf⟩, r0, r1, v0, v1⟩ := two_boxes h2 h3
      have T := fun o => two_boxes (w1 := w1.alloc o) ((heap_alloc_old _ _ (by omega)).trans h2) ((heap_alloc_old _ _ (by omega)).trans h3)
      have x0 := fun o => (T o).1.1
      have x1 := fun o => (T o).1.2.1
      have xf := fun o => (T o).1.2.2
      have y0 := fun o => (T o).2.1.1
      have y1 := fun o => (T o).2.1.2.1
      have yf := fun o => (T o).2.1.2.2
      have s0 := fun o => (T o).2.2.1
      have s1 := fun o => (T o).2.2.2.1
      have u0 := fun o => (T o).2.2.2.2.1
      have u1 := fun o => (T o).2.2.2.2.2
      have z1 : ∀ o a b, (((w1.setCell ⟨w.heap.size + 1, 0, none⟩ a).setCell ⟨w.heap.size + 1, 1, none⟩ b).alloc o).cell? ⟨w.heap.size + 1, 1, none⟩ = some b := fun o a b => ((show Below w1.heap.size ((w1.setCell ⟨w.heap.size + 1, 0, none⟩ a).setCell ⟨w.heap.size + 1, 1, none⟩ b) _ from zX).cell (p := ⟨w.heap.size + 1, 1, none⟩) l1).trans (box2set p0 p1 a b).2
      have z0 : ∀ o a b, (((w1.setCell ⟨w.heap.size + 1, 0, none⟩ a).setCell ⟨w.heap.size + 1, 1, none⟩ b).alloc o).cell? ⟨w.heap.size + 1, 0, none⟩ = some a := fun o a b => ((show Below w1.heap.size ((w1.setCell ⟨w.heap.size + 1, 0, none⟩ a).setCell ⟨w.heap.size + 1, 1, none⟩ b) _ from zX).cell (p := ⟨w.heap.size + 1, 0, none⟩) l1).trans ((World.cell?_setCell_other _ _ _ _ (by simp)).trans (box2set p0 p1 a b).1)
      have zz1 : ∀ o a b c d, (((((w1.setCell ⟨w.heap.size + 1 + 1, 0, none⟩ a).setCell ⟨w.heap.size + 1 + 1, 1, none⟩ b).setCell ⟨w.heap.size + 1, 0, none⟩ c).setCell ⟨w.heap.size + 1, 1, none⟩ d).alloc o).cell? ⟨w.heap.size + 1, 1, none⟩ = some d := fun o a b c d => ((Below.alloc (Below.refl _ _) (Nat.le_refl _) o).cell (p := ⟨w.heap.size + 1, 1, none⟩) (by simp; omega)).trans (v1 a b c d)
      have zz0 : ∀ o a b c d, (((((w1.setCell ⟨w.heap.size + 1 + 1, 0, none⟩ a).setCell ⟨w.heap.size + 1 + 1, 1, none⟩ b).setCell ⟨w.heap.size + 1, 0, none⟩ c).setCell ⟨w.heap.size + 1, 1, none⟩ d).alloc o).cell? ⟨w.heap.size + 1, 0, none⟩ = some c := fun o a b c d => ((Below.alloc (Below.refl _ _) (Nat.le_refl _) o).cell (p := ⟨w.heap.size + 1, 0, none⟩) (by simp; omega)).trans ((World.cell?_setCell_other _ _ _ _ (by simp)).trans (v0 a b c))
      have hb3 : ∀ o, Below w.heap.size w (w1.alloc o) := fun o => hb2.trans zX
      clear T h2 h3 f0 f1 f3 f5
      cases f
      · go_wp2
        all_goals
          refine bodyPost_ret (v := .tuple #[.agg #[.int .i64 0, .bool false], .int .i64 7]) (by first | (simp [results, Tryz.results260, go_sem, z0, z1, zz0, zz1, s0, s1, u0, u1, r0, r1, v0, v1]; done) | (simp [results, Tryz.results260, go_sem, z0, z1, zz0, zz1, s0, s1, u0, u1, r0, r1, v0, v1]; rfl)) rfl ⟨by rw [HR.out]; rfl, zX⟩
      · go_wp2
        all_goals
          refine bodyPost_ret (v := .tuple #[.agg #[.int .i64 kr, .bool b2], .int .i64 0]) (by first | (simp [results, Tryz.results260, go_sem, z0, z1, zz0, zz1, s0, s1, u0, u1, r0, r1, v0, v1]; done) | (simp [results, Tryz.results260, go_sem, z0, z1, zz0, zz1, s0, s1, u0, u1, r0, r1, v0, v1]; rfl)) rfl ⟨by rw [HR.out]; rfl, zX⟩
    · go_simp
      refine hK _ _ ?_
      clear hK K
      refine wpAny_ready (rs := [9, 17]) (by kernel_rfl) (by simp) ?_
      refine AllReady.cons rfl (fun K hK => ?_) (AllReady.cons rfl (fun K hK => ?_) AllReady.nil)
      · go_simp
        refine hK _ _ ?_
        clear hK K
        refine yT 10 ?_; refine yT 11 ?_
        refine yR 17 (fun K hK => ?_)
        go_simp
        go_wp2_with (go_at_call 278; refine (HF.out _ _).mono ?_; rintro e w' ⟨rfl, rfl⟩)
        refine yT 18 ?_
        refine yR 19 (fun K hK => ?_)
        go_simp
        refine hK _ _ ?_
        clear hK K
        refine yT 20 ?_
        refine wpAny_done (by kernel_rfl) ?_ _
        obtain ⟨⟨p0, p1, pf⟩, ⟨q0, q1, qf⟩, r0, r1, v0, v1⟩ := two_boxes h2 h3
        have T := fun o => two_boxes (w1 := w1.alloc o) ((heap_alloc_old _ _ (by omega)).trans h2) ((heap_alloc_old _ _ (by omega)).trans h3)
        have x0 := fun o => (T o).1.1
        have x1 := fun o => (T o).1.2.1
        have xf := fun o => (T o).1.2.2
        have y0 := fun o => (T o).2.1.1
        have y1 := fun o => (T o).2.1.2.1
        have yf := fun o => (T o).2.1.2.2
        have s0 := fun o => (T o).2.2.1
        have s1 := fun o => (T o).2.2.2.1
        have u0 := fun o => (T o).2.2.2.2.1
        have u1 := fun o => (T o).2.2.2.2.2
        have z1 : ∀ o a b, (((w1.setCell ⟨w.heap.size + 1, 0, none⟩ a).setCell ⟨w.heap.size + 1, 1, none⟩ b).alloc o).cell? ⟨w.heap.size + 1, 1, none⟩ = some b := fun o a b => ((show Below w1.heap.size ((w1.setCell ⟨w.heap.size + 1, 0, none⟩ a).setCell ⟨w.heap.size + 1, 1, none⟩ b) _ from zX).cell (p := ⟨w.heap.size + 1, 1, none⟩) l1).trans (box2set p0 p1 a b).2
        have z0 : ∀ o a b, (((w1.setCell ⟨w.heap.size + 1, 0, none⟩ a).setCell ⟨w.heap.size + 1, 1, none⟩ b).alloc o).cell? ⟨w.heap.size + 1, 0, none⟩ = some a := fun o a b => ((show Below w1.heap.size ((w1.setCell ⟨w.heap.size + 1, 0, none⟩ a).setCell ⟨w.heap.size + 1, 1, none⟩ b) _ from zX).cell (p := ⟨w.heap.size + 1, 0, none⟩) l1).trans ((World.cell?_setCell_other _ _ _ _ (by simp)).trans (box2set p0 p1 a b).1)
        have zz1 : ∀ o a b c d, (((((w1.setCell ⟨w.heap.size + 1 + 1, 0, none⟩ a).setCell ⟨w.heap.size + 1 + 1, 1, none⟩ b).setCell ⟨w.heap.size + 1, 0, none⟩ c).setCell ⟨w.heap.size + 1, 1, none⟩ d).alloc o).cell? ⟨w.heap.size + 1, 1, none⟩ = some d := fun o a b c d => ((Below.alloc (Below.refl _ _) (Nat.le_refl _) o).cell (p := ⟨w.heap.size + 1, 1, none⟩) (by simp; omega)).trans (v1 a b c d)
        have zz0 : ∀ o a b c d, (((((w1.setCell ⟨w.heap.size + 1 + 1, 0, none⟩ a).setCell ⟨w.heap.size + 1 + 1, 1, none⟩ b).setCell ⟨w.heap.size + 1, 0, none⟩ c).setCell ⟨w.heap.size + 1, 1, none⟩ d).alloc o).cell? ⟨w.heap.size + 1, 0, none⟩ = some c := fun o a b c d => ((Below.alloc (Below.refl _ _) (Nat.le_refl _) o).cell (p := ⟨w.heap.size + 1, 0, none⟩) (by simp; omega)).trans ((World.cell?_setCell_other _ _ _ _ (by simp)).trans (v0 a b c))
        have hb3 : ∀ o, Below w.heap.size w (w1.alloc o) := fun o => hb2.trans zX
        clear T h2 h3 f0 f1 f3 f5
        cases f
        · go_wp2
          all_goals
            refine bodyPost_ret (v := .tuple #[.agg #[.int .i64 0, .bool false], .int .i64 7]) (by first | (simp [results, Tryz.results260, go_sem, z0, z1, zz0, zz1, s0, s1, u0, u1, r0, r1, v0, v1]; done) | (simp [results, Tryz.results260, go_sem, z0, z1, zz0, zz1, s0, s1, u0, u1, r0, r1, v0, v1]; rfl)) rfl ⟨by rw [HR.out]; rfl, zX⟩
        · go_wp2
          all_goals
            refine bodyPost_ret (v := .tuple #[.agg #[.int .i64 kr, .bool b2], .int .i64 0]) (by first | (simp [results, Tryz.results260, go_sem, z0, z1, zz0, zz1, s0, s1, u0, u1, r0, r1, v0, v1]; done) | (simp [results, Tryz.results260, go_sem, z0, z1, zz0, zz1, s0, s1, u0, u1, r0, r1, v0, v1]; rfl)) rfl ⟨by rw [HR.out]; rfl, zX⟩
      · go_simp
        go_wp2_with (go_at_call 278; refine (HF.out _ _).mono ?_; rintro e w' ⟨rfl, rfl⟩)
        refine yT 18 ?_
        refine yR 9 (fun K hK => ?_)
        go_simp
        refine hK _ _ ?_
        clear hK K
        refine yT 10 ?_; refine yT 11 ?_
        refine yR 19 (fun K hK => ?_)
        go_simp
        refine hK _ _ ?_
        clear hK K
        refine yT 20 ?_
        refine wpAny_done (by kernel_rfl) ?_ _
        obtain ⟨⟨p0, p1, pf⟩, ⟨q0, q1, qf⟩, r0, r1, v0, v1⟩ := two_boxes h2 h3
        have T := fun o => two_boxes (w1 := w1.alloc o) ((heap_alloc_old _ _ (by omega)).trans h2) ((heap_alloc_old _ _ (by omega)).trans h3)
        have x0 := fun o => (T o).1.1
        have x1 := fun o => (T o).1.2.1
        have xf := fun o => (T o).1.2.2
        have y0 := fun o => (T o).2.1.1
        have y1 := fun o => (T o).2.1.2.1
        have yf := fun o => (T o).2.1.2.2
        have s0 := fun o => (T o).2.2.1
        have s1 := fun o => (T o).2.2.2.1
        have u0 := fun o => (T o).2.2.2.2.1
        have u1 := fun o => (T o).2.2.2.2.2
        have z1 : ∀ o a b, (((w1.setCell ⟨w.heap.size + 1, 0, none⟩ a).setCell ⟨w.heap.size + 1, 1, none⟩ b).alloc o).cell? ⟨w.heap.size + 1, 1, none⟩ = some b := fun o a b => ((show Below w1.heap.size ((w1.setCell ⟨w.heap.size + 1, 0, none⟩ a).setCell ⟨w.heap.size + 1, 1, none⟩ b) _ from zX).cell (p := ⟨w.heap.size + 1, 1, none⟩) l1).trans (box2set p0 p1 a b).2
        have z0 : ∀ o a b, (((w1.setCell ⟨w.heap.size + 1, 0, none⟩ a).setCell ⟨w.heap.size + 1, 1, none⟩ b).alloc o).cell? ⟨w.heap.size + 1, 0, none⟩ = some a := fun o a b => ((show Below w1.heap.size ((w1.setCell ⟨w.heap.size + 1, 0, none⟩ a).setCell ⟨w.heap.size + 1, 1, none⟩ b) _ from zX).cell (p := ⟨w.heap.size + 1, 0, none⟩) l1).trans ((World.cell?_setCell_other _ _ _ _ (by simp)).trans (box2set p0 p1 a b).1)
        have zz1 : ∀ o a b c d, (((((w1.setCell ⟨w.heap.size + 1 + 1, 0, none⟩ a).setCell ⟨w.heap.size + 1 + 1, 1, none⟩ b).setCell ⟨w.heap.size + 1, 0, none⟩ c).setCell ⟨w.heap.size + 1, 1, none⟩ d).alloc o).cell? ⟨w.heap.size + 1, 1, none⟩ = some d := fun o a b c d => ((Below.alloc (Below.refl _ _) (Nat.le_refl _) o).cell (p := ⟨w.heap.size + 1, 1, none⟩) (by simp; omega)).trans (v1 a b c d)
        have zz0 : ∀ o a b c d, (((((w1.setCell ⟨w.heap.size + 1 + 1, 0, none⟩ a).setCell ⟨w.heap.size + 1 + 1, 1, none⟩ b).setCell ⟨w.heap.size + 1, 0, none⟩ c).setCell ⟨w.heap.size + 1, 1, none⟩ d).alloc o).cell? ⟨w.heap.size + 1, 0, none⟩ = some c := fun o a b c d => ((Below.alloc (Below.refl _ _) (Nat.le_refl _) o).cell (p := ⟨w.heap.size + 1, 0, none⟩) (by simp; omega)).trans ((World.cell?_setCell_other _ _ _ _ (by simp)).trans (v0 a b c))
        have hb3 : ∀ o, Below w.heap.size w (w1.alloc o) := fun o => hb2.trans zX
        clear T h2 h3 f0 f1 f3 f5
        cases f
        · go_wp2
          all_goals
            refine bodyPost_ret (v := .tuple #[.agg #[.int .i64 0, .bool false], .int .i64 7]) (by first | (simp [results, Tryz.results260, go_sem, z0, z1, zz0, zz1, s0, s1, u0, u1, r0, r1, v0, v1]; done) | (simp [results, Tryz.results260, go_sem, z0, z1, zz0, zz1, s0, s1, u0, u1, r0, r1, v0, v1]; rfl)) rfl ⟨by rw [HR.out]; rfl, zX⟩
        · go_wp2
          all_goals
            refine bodyPost_ret (v := .tuple #[.agg #[.int .i64 kr, .bool b2], .int .i64 0]) (by first | (simp [results, Tryz.results260, go_sem, z0, z1, zz0, zz1, s0, s1, u0, u1, r0, r1, v0, v1]; done) | (simp [results, Tryz.results260, go_sem, z0, z1, zz0, zz1, s0, s1, u0, u1, r0, r1, v0, v1]; rfl)) rfl ⟨by rw [HR.out]; rfl, zX⟩
end Go.Proofs.YtmbeeefkpgfgmaaGreatDoor
