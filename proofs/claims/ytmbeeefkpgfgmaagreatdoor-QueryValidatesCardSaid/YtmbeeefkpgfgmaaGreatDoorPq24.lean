/- Contract, told: base.Step, the kinds group and window. Contract, told: base.Step, the kinds group and window. -/
import Derived.Test.YtmbeeefkpgfgmaaGreatDoorPq22
import Derived.Deep.Cut
import Derived.Test.YtmbeeefkpgfgmaaGreatDoorPq07
set_option linter.unusedVariables false
set_option linter.unusedSimpArgs false
namespace Go.Proofs.YtmbeeefkpgfgmaaGreatDoor
open Go.RowKit
set_option maxRecDepth 100000 in
set_option maxHeartbeats 4000000 in
theorem step_grp_c (cs : List Col) (rs : List Rel) (l : List Int) (i : Int) (hg : ColG cs) (hr : RelG rs) (h0 : 0 ≤ i) (h1 : i ≤ 1000) (hres : (lAt l i % 13 = 9 ∨ lAt l i % 13 = 10) ∧ lAt l i / 13 % 7 = 0 ∧ 0 < lAt l (i + 1) / 64 % 8) : StepTold cs rs l i := by
  have n0 := lAt_nn l i
  have n1 := lAt_top l i
  have k0 := lAt_nn l (i + 1)
  have k1 := lAt_top l (i + 1)
  have hcl := hg.le
  have hcp := hg.pos
  have hrp := hr.pos
  have hrl := hr.le
  obtain ⟨m, hm, hml⟩ : ∃ m : Nat, lAt l (i + 1) % (rs.length : Int) = m ∧ m < rs.length := ⟨(lAt l (i + 1) % (rs.length : Int)).toNat, by have := Int.emod_nonneg (lAt l (i + 1)) (show (rs.length : Int) ≠ 0 by omega); omega, by have := Int.emod_lt_of_pos (lAt l (i + 1)) (show (0 : Int) < rs.length by omega); have := Int.emod_nonneg (lAt l (i + 1)) (show (rs.length : Int) ≠ 0 by omega); omega⟩
  refine ⟨⟨11, [], somS cs (lAt l (i + 1)), [], [⟨freS cs (lAt l (i + 1)), 1, [], 0, []⟩], []⟩, ⟨Nat.zero_le _, Nat.le_trans (som_len _ _).2 (by omega), Nat.zero_le _, by simp, fun x hx => by simp at hx; subst hx; exact ⟨fun n hn => (List.not_mem_nil hn).elim, Nat.zero_le _⟩, Nat.zero_le _, fun x hx => (List.not_mem_nil hx).elim⟩, (by intro h9; cases h9), fun x hx => by simp at hx; subst hx; exact (freS_ok _ hcl).1, fun C cc R rc L lc w hC hR hL => ?_⟩
  have HA1 := hide (fun W (hb : Below w.heap.size w W) => at_below L l i W lc (hL.below hb))
  have HA2 := hide (fun W (hb : Below w.heap.size w W) => at_below L l (i + 1) W lc (hL.below hb))
  have HG := hide hg
  have HF := hide (fun W (hb : Below w.heap.size w W) => base_fresh_any C cs cc (lAt l (i + 1)) W (hC.below hb) hcl (by omega) (by omega))
  generalize freS cs (lAt l (i + 1)) = fn at *
  have HM := hide (fun W (hb : Below w.heap.size w W) => base_some_any C cs cc (lAt l (i + 1)) W (hC.below hb) hcp hcl (by omega) (by omega))
  generalize somS cs (lAt l (i + 1)) = ls at *
  rcases hR with e | ⟨gr, or, rfl, hgr, hcr⟩
  · exact absurd hrp (by rw [e]; simp)
  obtain ⟨D, dc, r0, r1, r2, r3, hD⟩ := hcr m hml
  have HD := hide hD
  have hb0 : (0 : Int) ≤ (m : Int) ∧ (m : Int) < (rs.length : Int) := by omega
  have hz : ¬ (rs.length : Int) = 0 := by omega
  have h00 := Below.refl w.heap.size w
  clear hcr hD hC hL hg hr
  generalize hn : lAt l i = n at *
  generalize hk : lAt l (i + 1) = k at *
  clear hn hk
  generalize rs[m] = rel at *
  obtain ⟨rn, rcs⟩ := rel
  simp only at r0 r1 HD
  obtain ⟨hres, hf, hnm⟩ := hres
  have hf1 : 1 + n / 13 % 7 = 1 := by omega
  rcases hres with hres | hres
  all_goals
    go_enter Tryz.func83, Tryz.ntmps83
    go_upto_region 23 with (first
        | (go_at_call 70; have _h := h00; refine (HA1.out _ zY).mono ?_; rintro e w1 ⟨rfl, hb1⟩; clear h00 _h; have hc1 : Below (w.heap.size + 1) (w.alloc (.cells #[.int .i64 0, str [], .slice none 0 0, .slice none 0 0, .slice none 0 0, .slice none 0 0] 27)) w1 := below_go (Below.refl _ _) (by simp) hb1; have hw1 := box_below hc1; clear hb1)
        | (go_at_call 70; refine (HA2.out _ hw1).mono ?_; rintro e w2 ⟨rfl, hb2⟩; have hc2 := below_go hc1 (by simp) hb2; have hw2 := box_below hc2; have t0 := (hw2.cell (p := ⟨gr, _, none⟩) hgr).trans r0; have t1 := (hw2.cell (p := ⟨gr, _, none⟩) hgr).trans r1; have t2 := (hw2.cell (p := ⟨gr, _, none⟩) hgr).trans r2; have t3 := (hw2.cell (p := ⟨gr, _, none⟩) hgr).trans r3; have hlw2 : w.heap.size < w2.heap.size := (by have h9 := hc2.size; rw [World.size_alloc] at h9; exact h9); have hlv2 : w.heap.size ≤ w2.heap.size := Nat.le_of_lt hlw2; clear hb2 hc1 hw1)
        | (go_at_call 142; refine (HF.out _ (hw2.alloc hlv2 _)).mono ?_; rintro e w3 ⟨rfl, hb3⟩; have hc3 := below_go (hc2.alloc hlw2 _) (by simp) hb3; have hlw3 : w.heap.size < w3.heap.size := (by have h9 := hc3.size; rw [World.size_alloc] at h9; exact h9); clear hb3))
    have h_wI : (w3.alloc (.cells #[str fn, .int .i64 (1), str [], .int .i64 0, .slice none 0 0] 61)).heap[w3.heap.size]? = some (.cells #[str fn, .int .i64 (1), str [], .int .i64 0, .slice none 0 0] 61) := heap_alloc_new _ _
    have hc_wI : Below (w.heap.size + 1) (w.alloc (.cells #[.int .i64 0, str [], .slice none 0 0, .slice none 0 0, .slice none 0 0, .slice none 0 0] 27)) (w3.alloc (.cells #[str fn, .int .i64 (1), str [], .int .i64 0, .slice none 0 0] 61)) := hc3.alloc hlw3 _
    generalize w3.alloc (.cells #[str fn, .int .i64 (1), str [], .int .i64 0, .slice none 0 0] 61) = wI at *
    generalize w3.heap.size = b13 at *
    go_upto_region 25 with fail
    have e0 := cell_of_heap h_wI 0
    have e1 := cell_of_heap h_wI 1
    have e2 := cell_of_heap h_wI 2
    have e3 := cell_of_heap h_wI 3
    have e4 := cell_of_heap h_wI 4
    have hlJ : w.heap.size < wI.heap.size := by have h9 := hc_wI.size; rw [World.size_alloc] at h9; exact h9
    go_upto_region 26 with fail
    have h_wK : ((wI.alloc (.cells #[str fn, .int .i64 (1), str [], .int .i64 0, .slice none 0 0] 61)).alloc (.cells #[.int .i64 11, str [], .slice none 0 0, .slice none 0 0, .slice (some ⟨wI.heap.size, 0, none⟩) 1 1, .slice none 0 0] 27)).heap[wI.heap.size + 1]? = some (.cells #[.int .i64 11, str [], .slice none 0 0, .slice none 0 0, .slice (some ⟨wI.heap.size, 0, none⟩) 1 1, .slice none 0 0] 27) := by
      have h9 := heap_alloc_new (wI.alloc (.cells #[str fn, .int .i64 (1), str [], .int .i64 0, .slice none 0 0] 61)) (.cells #[.int .i64 11, str [], .slice none 0 0, .slice none 0 0, .slice (some ⟨wI.heap.size, 0, none⟩) 1 1, .slice none 0 0] 27)
      rw [World.size_alloc] at h9
      exact h9
    have hc_wK : Below (w.heap.size + 1) (w.alloc (.cells #[.int .i64 0, str [], .slice none 0 0, .slice none 0 0, .slice none 0 0, .slice none 0 0] 27)) ((wI.alloc (.cells #[str fn, .int .i64 (1), str [], .int .i64 0, .slice none 0 0] 61)).alloc (.cells #[.int .i64 11, str [], .slice none 0 0, .slice none 0 0, .slice (some ⟨wI.heap.size, 0, none⟩) 1 1, .slice none 0 0] 27)) := (hc_wI.alloc hlJ _).alloc (by rw [World.size_alloc]; omega) _
    have HIt := hide (show Firm (fun W => ItsAt W (some ⟨wI.heap.size, 0, none⟩) [(⟨fn, 1, [], 0, []⟩ : It)]) ((wI.alloc (.cells #[str fn, .int .i64 (1), str [], .int .i64 0, .slice none 0 0] 61)).alloc (.cells #[.int .i64 11, str [], .slice none 0 0, .slice none 0 0, .slice (some ⟨wI.heap.size, 0, none⟩) 1 1, .slice none 0 0] 27)) from (firm_item (w := wI) (x := ⟨fn, 1, [], 0, []⟩) (E := none) (ec := 0) (firm_noNd _)).below ((Below.refl _ _).alloc (Nat.le_refl _) _))
    have hl14 : w.heap.size < wI.heap.size + 1 := by omega
    generalize (wI.alloc (.cells #[str fn, .int .i64 (1), str [], .int .i64 0, .slice none 0 0] 61)).alloc (.cells #[.int .i64 11, str [], .slice none 0 0, .slice none 0 0, .slice (some ⟨wI.heap.size, 0, none⟩) 1 1, .slice none 0 0] 27) = wK at *
    generalize wI.heap.size + 1 = b14 at *
    generalize wI.heap.size = ib at *
    go_upto_region 28 with (go_at_call 143; refine (HM.out _ (box_below hc_wK)).mono ?_; rintro e w6 ⟨⟨A6, rfl, hA6, hh6⟩, hb9⟩; have h_w6 := (hb9.block _ (lt_of_heap h_wK)).trans h_wK; have hc_w6 := below_go hc_wK (by simp) hb9; have d2 := cell_of_heap h_w6 2; have fd : ∀ j, w6.frozen? ⟨b14, j, none⟩ = false := (fun j => free_of_heap h_w6 j); have HS6 := hide (firm_strs hh6); have HI6 := hide (HIt.out.below hb9); clear hh6; clear hb9)
    have h_wL : (w6.setCell ⟨b14, 2, none⟩ (.slice (some ⟨A6, 0, none⟩) ls.length ls.length)).heap[b14]? = some (.cells #[.int .i64 11, str [], .slice (some ⟨A6, 0, none⟩) ls.length ls.length, .slice none 0 0, .slice (some ⟨ib, 0, none⟩) 1 1, .slice none 0 0] 27) := by
      have h9 := heap_setCell_same w6 b14 2 _ _ (.slice (some ⟨A6, 0, none⟩) ls.length ls.length) h_w6
      simpa using h9
    have hc_wL : Below (w.heap.size + 1) (w.alloc (.cells #[.int .i64 0, str [], .slice none 0 0, .slice none 0 0, .slice none 0 0, .slice none 0 0] 27)) (w6.setCell ⟨b14, 2, none⟩ (.slice (some ⟨A6, 0, none⟩) ls.length ls.length)) := hc_w6.setCell (show w.heap.size + 1 ≤ b14 from hl14) _
    have HSL := hide (HS6.out.keep (keep_set (j := 2) (u := .slice (some ⟨A6, 0, none⟩) ls.length ls.length) h_w6))
    have HIL := hide (HI6.out.keep (keep_set (j := 2) (u := .slice (some ⟨A6, 0, none⟩) ls.length ls.length) h_w6))
    generalize w6.setCell ⟨b14, 2, none⟩ (.slice (some ⟨A6, 0, none⟩) ls.length ls.length) = wL at *
    have g0 := cell_of_heap h_wL 0
    have g1 := cell_of_heap h_wL 1
    have g2 := cell_of_heap h_wL 2
    have g3 := cell_of_heap h_wL 3
    have g4 := cell_of_heap h_wL 4
    have g5 := cell_of_heap h_wL 5
    have hhz := heap_of_below hc_wL (Nat.lt_succ_self _)
    obtain ⟨z0, z1, z2, z3, z4, z5, hlw⟩ := box6 hc_wL
    have fr : ∀ j, wL.frozen? ⟨w.heap.size, j, none⟩ = false := fun j => free_of_heap hhz j
    have HFin := hide (firm_step (w := wL) (s := ⟨11, [], ls, [], [⟨fn, 1, [], 0, []⟩], []⟩) (a := ⟨some ⟨A6, 0, none⟩, ls.length, none, 0, some ⟨ib, 0, none⟩, 1, none, 0⟩) HSL.out (firm_none _) HIL.out (firm_noNd _) (Nat.le_refl _) (Nat.le_refl _) (Nat.le_refl _))
    have hbF := box_below hc_wL
    go_wp2
    refine step_ret (b := w.heap.size) ?_ ?_ (set6_heap hhz _ _ _ _ _ _) ?_
    · first | rfl | (simp; done) | kernel_rfl
    · rfl
    · exact ⟨⟨⟨some ⟨A6, 0, none⟩, ls.length, none, 0, some ⟨ib, 0, none⟩, 1, none, 0⟩, rfl, HFin.out.keep (keep_set6 hhz _ _ _ _ _ _)⟩, (below_set6 hbF (Nat.le_refl _) _ _ _ _ _ _)⟩
end Go.Proofs.YtmbeeefkpgfgmaaGreatDoor
namespace Go.Proofs.YtmbeeefkpgfgmaaGreatDoor
open Go.RowKit
set_option maxRecDepth 100000 in
set_option maxHeartbeats 4000000 in
theorem step_grp_d (cs : List Col) (rs : List Rel) (l : List Int) (i : Int) (hg : ColG cs) (hr : RelG rs) (h0 : 0 ≤ i) (h1 : i ≤ 1000) (hres : (lAt l i % 13 = 9 ∨ lAt l i % 13 = 10) ∧ lAt l i / 13 % 7 ≠ 0 ∧ 0 < lAt l (i + 1) / 64 % 8) : StepTold cs rs l i := by
  have n0 := lAt_nn l i
  have n1 := lAt_top l i
  have k0 := lAt_nn l (i + 1)
  have k1 := lAt_top l (i + 1)
  have hcl := hg.le
  have hcp := hg.pos
  have hrp := hr.pos
  have hrl := hr.le
  obtain ⟨m, hm, hml⟩ : ∃ m : Nat, lAt l (i + 1) % (rs.length : Int) = m ∧ m < rs.length := ⟨(lAt l (i + 1) % (rs.length : Int)).toNat, by have := Int.emod_nonneg (lAt l (i + 1)) (show (rs.length : Int) ≠ 0 by omega); omega, by have := Int.emod_lt_of_pos (lAt l (i + 1)) (show (0 : Int) < rs.length by omega); have := Int.emod_nonneg (lAt l (i + 1)) (show (rs.length : Int) ≠ 0 by omega); omega⟩
  refine ⟨⟨11, [], somS cs (lAt l (i + 1)), [], [⟨freS cs (lAt l (i + 1)), 1 + lAt l i / 13 % 7, namS cs (lAt l (i + 1) / 4), 0, []⟩], []⟩, ⟨Nat.zero_le _, Nat.le_trans (som_len _ _).2 (by omega), Nat.zero_le _, by simp, fun x hx => by simp at hx; subst hx; exact ⟨fun n hn => (List.not_mem_nil hn).elim, Nat.zero_le _⟩, Nat.zero_le _, fun x hx => (List.not_mem_nil hx).elim⟩, (by intro h9; cases h9), fun x hx => by simp at hx; subst hx; exact (freS_ok _ hcl).1, fun C cc R rc L lc w hC hR hL => ?_⟩
  have HA1 := hide (fun W (hb : Below w.heap.size w W) => at_below L l i W lc (hL.below hb))
  have HA2 := hide (fun W (hb : Below w.heap.size w W) => at_below L l (i + 1) W lc (hL.below hb))
  have HG := hide hg
  have HF := hide (fun W (hb : Below w.heap.size w W) => base_fresh_any C cs cc (lAt l (i + 1)) W (hC.below hb) hcl (by omega) (by omega))
  generalize freS cs (lAt l (i + 1)) = fn at *
  have HN := hide (fun W (hb : Below w.heap.size w W) => base_name_any C cs cc (lAt l (i + 1) / 4) W (hC.below hb) hcp hcl (by omega) (by omega))
  generalize namS cs (lAt l (i + 1) / 4) = cn at *
  have HM := hide (fun W (hb : Below w.heap.size w W) => base_some_any C cs cc (lAt l (i + 1)) W (hC.below hb) hcp hcl (by omega) (by omega))
  generalize somS cs (lAt l (i + 1)) = ls at *
  rcases hR with e | ⟨gr, or, rfl, hgr, hcr⟩
  · exact absurd hrp (by rw [e]; simp)
  obtain ⟨D, dc, r0, r1, r2, r3, hD⟩ := hcr m hml
  have HD := hide hD
  have hb0 : (0 : Int) ≤ (m : Int) ∧ (m : Int) < (rs.length : Int) := by omega
  have hz : ¬ (rs.length : Int) = 0 := by omega
  have h00 := Below.refl w.heap.size w
  clear hcr hD hC hL hg hr
  generalize hn : lAt l i = n at *
  generalize hk : lAt l (i + 1) = k at *
  clear hn hk
  generalize rs[m] = rel at *
  obtain ⟨rn, rcs⟩ := rel
  simp only at r0 r1 HD
  obtain ⟨hres, hf, hnm⟩ := hres
  have hf1 : ¬ 1 + n / 13 % 7 = 1 := by omega
  have hf2 : (1 + n / 13 % 7 != 1) = true := by simpa using hf1
  rcases hres with hres | hres
  all_goals
    go_enter Tryz.func83, Tryz.ntmps83
    go_upto_region 23 with (first
        | (go_at_call 70; have _h := h00; refine (HA1.out _ zY).mono ?_; rintro e w1 ⟨rfl, hb1⟩; clear h00 _h; have hc1 : Below (w.heap.size + 1) (w.alloc (.cells #[.int .i64 0, str [], .slice none 0 0, .slice none 0 0, .slice none 0 0, .slice none 0 0] 27)) w1 := below_go (Below.refl _ _) (by simp) hb1; have hw1 := box_below hc1; clear hb1)
        | (go_at_call 70; refine (HA2.out _ hw1).mono ?_; rintro e w2 ⟨rfl, hb2⟩; have hc2 := below_go hc1 (by simp) hb2; have hw2 := box_below hc2; have t0 := (hw2.cell (p := ⟨gr, _, none⟩) hgr).trans r0; have t1 := (hw2.cell (p := ⟨gr, _, none⟩) hgr).trans r1; have t2 := (hw2.cell (p := ⟨gr, _, none⟩) hgr).trans r2; have t3 := (hw2.cell (p := ⟨gr, _, none⟩) hgr).trans r3; have hlw2 : w.heap.size < w2.heap.size := (by have h9 := hc2.size; rw [World.size_alloc] at h9; exact h9); have hlv2 : w.heap.size ≤ w2.heap.size := Nat.le_of_lt hlw2; clear hb2 hc1 hw1)
        | (go_at_call 142; refine (HF.out _ (hw2.alloc hlv2 _)).mono ?_; rintro e w3 ⟨rfl, hb3⟩; have hc3 := below_go (hc2.alloc hlw2 _) (by simp) hb3; have hlw3 : w.heap.size < w3.heap.size := (by have h9 := hc3.size; rw [World.size_alloc] at h9; exact h9); clear hb3))
    have h_wI : (w3.alloc (.cells #[str fn, .int .i64 (1 + n / 13 % 7), str [], .int .i64 0, .slice none 0 0] 61)).heap[w3.heap.size]? = some (.cells #[str fn, .int .i64 (1 + n / 13 % 7), str [], .int .i64 0, .slice none 0 0] 61) := heap_alloc_new _ _
    have hc_wI : Below (w.heap.size + 1) (w.alloc (.cells #[.int .i64 0, str [], .slice none 0 0, .slice none 0 0, .slice none 0 0, .slice none 0 0] 27)) (w3.alloc (.cells #[str fn, .int .i64 (1 + n / 13 % 7), str [], .int .i64 0, .slice none 0 0] 61)) := hc3.alloc hlw3 _
    generalize w3.alloc (.cells #[str fn, .int .i64 (1 + n / 13 % 7), str [], .int .i64 0, .slice none 0 0] 61) = wI at *
    generalize w3.heap.size = b13 at *
    go_upto_region 25 with (go_at_call 145; refine (HN.out _ (box_below hc_wI)).mono ?_; rintro e w4 ⟨rfl, hb9⟩; have h_w4 := (hb9.block _ (lt_of_heap h_wI)).trans h_wI; have hc_w4 := below_go hc_wI (by simp) hb9; have d2 := cell_of_heap h_w4 2; have fd : ∀ j, w4.frozen? ⟨b13, j, none⟩ = false := (fun j => free_of_heap h_w4 j); clear hb9)
    have h_wJ : (w4.setCell ⟨b13, 2, none⟩ (str cn)).heap[b13]? = some (.cells #[str fn, .int .i64 (1 + n / 13 % 7), str cn, .int .i64 0, .slice none 0 0] 61) := by
      have h9 := heap_setCell_same w4 b13 2 _ _ (str cn) h_w4
      simpa using h9
    have hc_wJ : Below (w.heap.size + 1) (w.alloc (.cells #[.int .i64 0, str [], .slice none 0 0, .slice none 0 0, .slice none 0 0, .slice none 0 0] 27)) (w4.setCell ⟨b13, 2, none⟩ (str cn)) := hc_w4.setCell (show w.heap.size + 1 ≤ b13 from hlw3) _
    generalize w4.setCell ⟨b13, 2, none⟩ (str cn) = wJ at *
    have e0 := cell_of_heap h_wJ 0
    have e1 := cell_of_heap h_wJ 1
    have e2 := cell_of_heap h_wJ 2
    have e3 := cell_of_heap h_wJ 3
    have e4 := cell_of_heap h_wJ 4
    have hlJ : w.heap.size < wJ.heap.size := by have h9 := hc_wJ.size; rw [World.size_alloc] at h9; exact h9
    go_upto_region 26 with fail
    have h_wK : ((wJ.alloc (.cells #[str fn, .int .i64 (1 + n / 13 % 7), str cn, .int .i64 0, .slice none 0 0] 61)).alloc (.cells #[.int .i64 11, str [], .slice none 0 0, .slice none 0 0, .slice (some ⟨wJ.heap.size, 0, none⟩) 1 1, .slice none 0 0] 27)).heap[wJ.heap.size + 1]? = some (.cells #[.int .i64 11, str [], .slice none 0 0, .slice none 0 0, .slice (some ⟨wJ.heap.size, 0, none⟩) 1 1, .slice none 0 0] 27) := by
      have h9 := heap_alloc_new (wJ.alloc (.cells #[str fn, .int .i64 (1 + n / 13 % 7), str cn, .int .i64 0, .slice none 0 0] 61)) (.cells #[.int .i64 11, str [], .slice none 0 0, .slice none 0 0, .slice (some ⟨wJ.heap.size, 0, none⟩) 1 1, .slice none 0 0] 27)
      rw [World.size_alloc] at h9
      exact h9
    have hc_wK : Below (w.heap.size + 1) (w.alloc (.cells #[.int .i64 0, str [], .slice none 0 0, .slice none 0 0, .slice none 0 0, .slice none 0 0] 27)) ((wJ.alloc (.cells #[str fn, .int .i64 (1 + n / 13 % 7), str cn, .int .i64 0, .slice none 0 0] 61)).alloc (.cells #[.int .i64 11, str [], .slice none 0 0, .slice none 0 0, .slice (some ⟨wJ.heap.size, 0, none⟩) 1 1, .slice none 0 0] 27)) := (hc_wJ.alloc hlJ _).alloc (by rw [World.size_alloc]; omega) _
    have HIt := hide (show Firm (fun W => ItsAt W (some ⟨wJ.heap.size, 0, none⟩) [(⟨fn, 1 + n / 13 % 7, cn, 0, []⟩ : It)]) ((wJ.alloc (.cells #[str fn, .int .i64 (1 + n / 13 % 7), str cn, .int .i64 0, .slice none 0 0] 61)).alloc (.cells #[.int .i64 11, str [], .slice none 0 0, .slice none 0 0, .slice (some ⟨wJ.heap.size, 0, none⟩) 1 1, .slice none 0 0] 27)) from (firm_item (w := wJ) (x := ⟨fn, 1 + n / 13 % 7, cn, 0, []⟩) (E := none) (ec := 0) (firm_noNd _)).below ((Below.refl _ _).alloc (Nat.le_refl _) _))
    have hl14 : w.heap.size < wJ.heap.size + 1 := by omega
    generalize (wJ.alloc (.cells #[str fn, .int .i64 (1 + n / 13 % 7), str cn, .int .i64 0, .slice none 0 0] 61)).alloc (.cells #[.int .i64 11, str [], .slice none 0 0, .slice none 0 0, .slice (some ⟨wJ.heap.size, 0, none⟩) 1 1, .slice none 0 0] 27) = wK at *
    generalize wJ.heap.size + 1 = b14 at *
    generalize wJ.heap.size = ib at *
    go_upto_region 28 with (go_at_call 143; refine (HM.out _ (box_below hc_wK)).mono ?_; rintro e w6 ⟨⟨A6, rfl, hA6, hh6⟩, hb9⟩; have h_w6 := (hb9.block _ (lt_of_heap h_wK)).trans h_wK; have hc_w6 := below_go hc_wK (by simp) hb9; have d2 := cell_of_heap h_w6 2; have fd : ∀ j, w6.frozen? ⟨b14, j, none⟩ = false := (fun j => free_of_heap h_w6 j); have HS6 := hide (firm_strs hh6); have HI6 := hide (HIt.out.below hb9); clear hh6; clear hb9)
    have h_wL : (w6.setCell ⟨b14, 2, none⟩ (.slice (some ⟨A6, 0, none⟩) ls.length ls.length)).heap[b14]? = some (.cells #[.int .i64 11, str [], .slice (some ⟨A6, 0, none⟩) ls.length ls.length, .slice none 0 0, .slice (some ⟨ib, 0, none⟩) 1 1, .slice none 0 0] 27) := by
      have h9 := heap_setCell_same w6 b14 2 _ _ (.slice (some ⟨A6, 0, none⟩) ls.length ls.length) h_w6
      simpa using h9
    have hc_wL : Below (w.heap.size + 1) (w.alloc (.cells #[.int .i64 0, str [], .slice none 0 0, .slice none 0 0, .slice none 0 0, .slice none 0 0] 27)) (w6.setCell ⟨b14, 2, none⟩ (.slice (some ⟨A6, 0, none⟩) ls.length ls.length)) := hc_w6.setCell (show w.heap.size + 1 ≤ b14 from hl14) _
    have HSL := hide (HS6.out.keep (keep_set (j := 2) (u := .slice (some ⟨A6, 0, none⟩) ls.length ls.length) h_w6))
    have HIL := hide (HI6.out.keep (keep_set (j := 2) (u := .slice (some ⟨A6, 0, none⟩) ls.length ls.length) h_w6))
    generalize w6.setCell ⟨b14, 2, none⟩ (.slice (some ⟨A6, 0, none⟩) ls.length ls.length) = wL at *
    have g0 := cell_of_heap h_wL 0
    have g1 := cell_of_heap h_wL 1
    have g2 := cell_of_heap h_wL 2
    have g3 := cell_of_heap h_wL 3
    have g4 := cell_of_heap h_wL 4
    have g5 := cell_of_heap h_wL 5
    have hhz := heap_of_below hc_wL (Nat.lt_succ_self _)
    obtain ⟨z0, z1, z2, z3, z4, z5, hlw⟩ := box6 hc_wL
    have fr : ∀ j, wL.frozen? ⟨w.heap.size, j, none⟩ = false := fun j => free_of_heap hhz j
    have HFin := hide (firm_step (w := wL) (s := ⟨11, [], ls, [], [⟨fn, 1 + n / 13 % 7, cn, 0, []⟩], []⟩) (a := ⟨some ⟨A6, 0, none⟩, ls.length, none, 0, some ⟨ib, 0, none⟩, 1, none, 0⟩) HSL.out (firm_none _) HIL.out (firm_noNd _) (Nat.le_refl _) (Nat.le_refl _) (Nat.le_refl _))
    have hbF := box_below hc_wL
    go_wp2
    refine step_ret (b := w.heap.size) ?_ ?_ (set6_heap hhz _ _ _ _ _ _) ?_
    · first | rfl | (simp; done) | kernel_rfl
    · rfl
    · exact ⟨⟨⟨some ⟨A6, 0, none⟩, ls.length, none, 0, some ⟨ib, 0, none⟩, 1, none, 0⟩, rfl, HFin.out.keep (keep_set6 hhz _ _ _ _ _ _)⟩, (below_set6 hbF (Nat.le_refl _) _ _ _ _ _ _)⟩
end Go.Proofs.YtmbeeefkpgfgmaaGreatDoor
