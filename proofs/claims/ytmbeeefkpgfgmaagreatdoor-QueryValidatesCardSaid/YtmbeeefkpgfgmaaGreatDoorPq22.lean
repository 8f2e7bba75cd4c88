/- Contract, told: base.Step, the kinds where, derive, select, union, except, distinct. -/
import Derived.Test.YtmbeeefkpgfgmaaGreatDoorPq21
import Derived.Test.YtmbeeefkpgfgmaaGreatDoorPq07
set_option linter.unusedVariables false
set_option linter.unusedSimpArgs false
namespace Go.Proofs.YtmbeeefkpgfgmaaGreatDoor
open Go.RowKit
set_option maxRecDepth 100000 in
set_option maxHeartbeats 4000000 in
theorem step_where (cs : List Col) (rs : List Rel) (l : List Int) (i : Int) (hg : ColG cs) (hr : RelG rs) (h0 : 0 ≤ i) (h1 : i ≤ 1000) (hres : lAt l i % 13 = 0 ∨ lAt l i % 13 = 1) : StepTold cs rs l i := by
  have n0 := lAt_nn l i
  have n1 := lAt_top l i
  have k0 := lAt_nn l (i + 1)
  have k1 := lAt_top l (i + 1)
  have hcl := hg.le
  have hcp := hg.pos
  have hrp := hr.pos
  have hrl := hr.le
  obtain ⟨m, hm, hml⟩ : ∃ m : Nat, lAt l (i + 1) % (rs.length : Int) = m ∧ m < rs.length := ⟨(lAt l (i + 1) % (rs.length : Int)).toNat, by have := Int.emod_nonneg (lAt l (i + 1)) (show (rs.length : Int) ≠ 0 by omega); omega, by have := Int.emod_lt_of_pos (lAt l (i + 1)) (show (0 : Int) < rs.length by omega); have := Int.emod_nonneg (lAt l (i + 1)) (show (rs.length : Int) ≠ 0 by omega); omega⟩
  have hB : (1002 : Int) ≤ atB 2 := by decide
  obtain ⟨es, hgd, H⟩ := Expr_told 2 (by omega) 1 (i + 2) cs l hg.ok (by omega) (by omega) (by omega)
  refine ⟨⟨1, [], [], [], [], es⟩, ⟨Nat.zero_le _, Nat.zero_le _, Nat.zero_le _, Nat.zero_le _, fun x hx => (List.not_mem_nil hx).elim, Nat.le_trans (hgd.short (by omega)) (by omega), hgd.names⟩, (by intro h9; cases h9), fun x hx => (List.not_mem_nil hx).elim, fun C cc R rc L lc w hC hR hL => ?_⟩
  have HA1 := hide (fun W (hb : Below w.heap.size w W) => at_below L l i W lc (hL.below hb))
  have HA2 := hide (fun W (hb : Below w.heap.size w W) => at_below L l (i + 1) W lc (hL.below hb))
  have HG := hide hg
  have HE := hide (fun W (hb : Below w.heap.size w W) => H C cc L lc W (hC.below hb) (hL.below hb))
  clear H hB
  rcases hR with e | ⟨gr, or, rfl, hgr, hcr⟩
  · exact absurd hrp (by rw [e]; simp)
  obtain ⟨D, dc, r0, r1, r2, r3, hD⟩ := hcr m hml
  have HD := hide hD
  have hb0 : (0 : Int) ≤ (m : Int) ∧ (m : Int) < (rs.length : Int) := by omega
  have hz : ¬ (rs.length : Int) = 0 := by omega
  have h00 := Below.refl w.heap.size w
  clear hcr hD hC hL hg hr
  generalize hn : lAt l i = n at *
  generalize hk : lAt l (i + 1) = k at *
  clear hn hk
  generalize rs[m] = rel at *
  obtain ⟨rn, rcs⟩ := rel
  simp only at r0 r1 HD
  rcases hres with hres | hres
  all_goals
    go_enter Tryz.func83, Tryz.ntmps83
    go_wp2_with (first
    | (go_at_call 70; have _h := h00; refine (HA1.out _ zY).mono ?_; rintro e w1 ⟨rfl, hb1⟩; clear h00 _h; have hc1 : Below (w.heap.size + 1) (w.alloc (.cells #[.int .i64 0, str [], .slice none 0 0, .slice none 0 0, .slice none 0 0, .slice none 0 0] 27)) w1 := below_go (Below.refl _ _) (by simp) hb1; have hw1 := box_below hc1; clear hb1)
    | (go_at_call 70; refine (HA2.out _ hw1).mono ?_; rintro e w2 ⟨rfl, hb2⟩; have hc2 := below_go hc1 (by simp) hb2; have hw2 := box_below hc2; have t0 := (hw2.cell (p := ⟨gr, _, none⟩) hgr).trans r0; have t1 := (hw2.cell (p := ⟨gr, _, none⟩) hgr).trans r1; have t2 := (hw2.cell (p := ⟨gr, _, none⟩) hgr).trans r2; have t3 := (hw2.cell (p := ⟨gr, _, none⟩) hgr).trans r3; have hlw2 : w.heap.size < w2.heap.size := (by have h9 := hc2.size; rw [World.size_alloc] at h9; exact h9); have hlv2 : w.heap.size ≤ w2.heap.size := Nat.le_of_lt hlw2; clear hb2 hc1 hw1))
    refine (HE.out _ zY).mono ?_
    rintro e w3 ⟨⟨A3, c3, rfl, own3⟩, hb3⟩
    have hcur : Below (w.heap.size + 1) (w.alloc (.cells #[.int .i64 0, str [], .slice none 0 0, .slice none 0 0, .slice none 0 0, .slice none 0 0] 27)) w3 := below_go zY (by simp) hb3
    have HN3 := hide (Firm.nds own3)
    clear own3 hb3
    have hhz := heap_of_below hcur (Nat.lt_succ_self _)
    obtain ⟨z0, z1, z2, z3, z4, z5, hlw⟩ := box6 hcur
    have fr : ∀ j, w3.frozen? ⟨w.heap.size, j, none⟩ = false := fun j => free_of_heap hhz j
    have HFin := hide (firm_step (s := ⟨1, [], [], [], [], es⟩) (a := ⟨none, 0, none, 0, none, 0, A3, c3⟩) (firm_none w3) (firm_none w3) (firm_noIt w3) HN3.out (Nat.le_refl _) (Nat.le_refl _) (Nat.le_refl _))
    have hbF := box_below hcur
    go_wp2
    refine step_ret (b := w.heap.size) ?_ ?_ (set6_heap hhz _ _ _ _ _ _) ?_
    · first | rfl | (simp; done) | kernel_rfl
    · rfl
    · exact ⟨⟨⟨none, 0, none, 0, none, 0, A3, c3⟩, rfl, HFin.out.keep (keep_set6 hhz _ _ _ _ _ _)⟩, (below_set6 hbF (Nat.le_refl _) _ _ _ _ _ _)⟩
set_option maxRecDepth 100000 in
set_option maxHeartbeats 4000000 in
theorem step_derive (cs : List Col) (rs : List Rel) (l : List Int) (i : Int) (hg : ColG cs) (hr : RelG rs) (h0 : 0 ≤ i) (h1 : i ≤ 1000) (hres : lAt l i % 13 = 2 ∨ lAt l i % 13 = 3) : StepTold cs rs l i := by
  have n0 := lAt_nn l i
  have n1 := lAt_top l i
  have k0 := lAt_nn l (i + 1)
  have k1 := lAt_top l (i + 1)
  have hcl := hg.le
  have hcp := hg.pos
  have hrp := hr.pos
  have hrl := hr.le
  obtain ⟨m, hm, hml⟩ : ∃ m : Nat, lAt l (i + 1) % (rs.length : Int) = m ∧ m < rs.length := ⟨(lAt l (i + 1) % (rs.length : Int)).toNat, by have := Int.emod_nonneg (lAt l (i + 1)) (show (rs.length : Int) ≠ 0 by omega); omega, by have := Int.emod_lt_of_pos (lAt l (i + 1)) (show (0 : Int) < rs.length by omega); have := Int.emod_nonneg (lAt l (i + 1)) (show (rs.length : Int) ≠ 0 by omega); omega⟩
  have hB : (1002 : Int) ≤ atB 2 := by decide
  obtain ⟨es, hgd, H⟩ := Expr_told 2 (by omega) (1 + lAt l i / 13 % 4) (i + 2) cs l hg.ok (by omega) (by omega) (by omega)
  refine ⟨⟨2, [], [], [], [⟨freS cs (lAt l (i + 1)), 0, [], 0, es⟩], []⟩, ⟨Nat.zero_le _, Nat.zero_le _, Nat.zero_le _, by simp, fun x hx => by simp at hx; subst hx; exact ⟨hgd.names, Nat.le_trans (hgd.short (by omega)) (by omega)⟩, Nat.zero_le _, fun x hx => (List.not_mem_nil hx).elim⟩, (by intro h9; cases h9), fun x hx => by simp at hx; subst hx; exact (freS_ok _ hcl).1, fun C cc R rc L lc w hC hR hL => ?_⟩
  have HA1 := hide (fun W (hb : Below w.heap.size w W) => at_below L l i W lc (hL.below hb))
  have HA2 := hide (fun W (hb : Below w.heap.size w W) => at_below L l (i + 1) W lc (hL.below hb))
  have HG := hide hg
  have HE := hide (fun W (hb : Below w.heap.size w W) => H C cc L lc W (hC.below hb) (hL.below hb))
  have HF := hide (fun W (hb : Below w.heap.size w W) => base_fresh_any C cs cc (lAt l (i + 1)) W (hC.below hb) hcl (by omega) (by omega))
  generalize freS cs (lAt l (i + 1)) = fn at *
  clear H hB
  rcases hR with e | ⟨gr, or, rfl, hgr, hcr⟩
  · exact absurd hrp (by rw [e]; simp)
  obtain ⟨D, dc, r0, r1, r2, r3, hD⟩ := hcr m hml
  have HD := hide hD
  have hb0 : (0 : Int) ≤ (m : Int) ∧ (m : Int) < (rs.length : Int) := by omega
  have hz : ¬ (rs.length : Int) = 0 := by omega
  have h00 := Below.refl w.heap.size w
  clear hcr hD hC hL hg hr
  generalize hn : lAt l i = n at *
  generalize hk : lAt l (i + 1) = k at *
  clear hn hk
  generalize rs[m] = rel at *
  obtain ⟨rn, rcs⟩ := rel
  simp only at r0 r1 HD
  rcases hres with hres | hres
  all_goals
    go_enter Tryz.func83, Tryz.ntmps83
    go_wp2_with (first
    | (go_at_call 70; have _h := h00; refine (HA1.out _ zY).mono ?_; rintro e w1 ⟨rfl, hb1⟩; clear h00 _h; have hc1 : Below (w.heap.size + 1) (w.alloc (.cells #[.int .i64 0, str [], .slice none 0 0, .slice none 0 0, .slice none 0 0, .slice none 0 0] 27)) w1 := below_go (Below.refl _ _) (by simp) hb1; have hw1 := box_below hc1; clear hb1)
    | (go_at_call 70; refine (HA2.out _ hw1).mono ?_; rintro e w2 ⟨rfl, hb2⟩; have hc2 := below_go hc1 (by simp) hb2; have hw2 := box_below hc2; have t0 := (hw2.cell (p := ⟨gr, _, none⟩) hgr).trans r0; have t1 := (hw2.cell (p := ⟨gr, _, none⟩) hgr).trans r1; have t2 := (hw2.cell (p := ⟨gr, _, none⟩) hgr).trans r2; have t3 := (hw2.cell (p := ⟨gr, _, none⟩) hgr).trans r3; have hlw2 : w.heap.size < w2.heap.size := (by have h9 := hc2.size; rw [World.size_alloc] at h9; exact h9); have hlv2 : w.heap.size ≤ w2.heap.size := Nat.le_of_lt hlw2; clear hb2 hc1 hw1))
    refine (HF.out _ zY).mono ?_
    rintro e w3 ⟨rfl, hb3⟩
    have hcu3 : Below (w.heap.size + 1) (w.alloc (.cells #[.int .i64 0, str [], .slice none 0 0, .slice none 0 0, .slice none 0 0, .slice none 0 0] 27)) w3 := below_go zY (by simp) hb3
    have hbw3 := box_below hcu3
    clear hb3
    go_wp2_with fail
    refine (HE.out _ hbw3).mono ?_
    rintro e w4 ⟨⟨A3, c3, rfl, own3⟩, hb4⟩
    have hcu4 := below_go hcu3 (by simp) hb4
    have HN3 := hide (Firm.nds own3)
    have hlw4 : w.heap.size < w4.heap.size := by have h9 := hcu4.size; rw [World.size_alloc] at h9; exact h9
    clear own3 hb4 hcu3
    have HIt := hide (firm_item (x := ⟨fn, 0, [], 0, es⟩) (ec := c3) HN3.out)
    have hhz := heap_of_below hcu4 (Nat.lt_succ_self _)
    obtain ⟨z0, z1, z2, z3, z4, z5, hlw⟩ := box6 hcu4
    have fr : ∀ j, w4.frozen? ⟨w.heap.size, j, none⟩ = false := fun j => free_of_heap hhz j
    have HFin := hide (firm_step (s := ⟨2, [], [], [], [⟨fn, 0, [], 0, es⟩], []⟩) (a := ⟨none, 0, none, 0, some ⟨w4.heap.size, 0, none⟩, 1, none, 0⟩) (firm_none _) (firm_none _) HIt.out (firm_noNd _) (Nat.le_refl _) (Nat.le_refl _) (Nat.le_refl _))
    have hbF := box_below hcu4
    go_wp2
    refine step_ret (b := w.heap.size) ?_ ?_ (alloc_old (set6_heap hhz _ _ _ _ _ _)) ?_
    · first | rfl | (simp; done) | kernel_rfl
    · rfl
    · exact ⟨⟨⟨none, 0, none, 0, some ⟨w4.heap.size, 0, none⟩, 1, none, 0⟩, rfl, HFin.out.keep ((keep_set6 hhz _ _ _ _ _ _).alloc (by first | exact set6_size _ _ _ _ _ _ _ _ | simp) _)⟩, ((below_set6 hbF (Nat.le_refl _) _ _ _ _ _ _).alloc (by first | (rw [set6_size]; omega) | (simp; omega)) _)⟩
set_option maxRecDepth 100000 in
set_option maxHeartbeats 4000000 in
theorem step_select (cs : List Col) (rs : List Rel) (l : List Int) (i : Int) (hg : ColG cs) (hr : RelG rs) (h0 : 0 ≤ i) (h1 : i ≤ 1000) (hres : lAt l i % 13 = 4) : StepTold cs rs l i := by
  have n0 := lAt_nn l i
  have n1 := lAt_top l i
  have k0 := lAt_nn l (i + 1)
  have k1 := lAt_top l (i + 1)
  have hcl := hg.le
  have hcp := hg.pos
  have hrp := hr.pos
  have hrl := hr.le
  obtain ⟨m, hm, hml⟩ : ∃ m : Nat, lAt l (i + 1) % (rs.length : Int) = m ∧ m < rs.length := ⟨(lAt l (i + 1) % (rs.length : Int)).toNat, by have := Int.emod_nonneg (lAt l (i + 1)) (show (rs.length : Int) ≠ 0 by omega); omega, by have := Int.emod_lt_of_pos (lAt l (i + 1)) (show (0 : Int) < rs.length by omega); have := Int.emod_nonneg (lAt l (i + 1)) (show (rs.length : Int) ≠ 0 by omega); omega⟩
  refine ⟨⟨3, [], somS cs (lAt l (i + 1)), [], [], []⟩, ⟨Nat.zero_le _, Nat.le_trans (som_len _ _).2 (by omega), Nat.zero_le _, Nat.zero_le _, fun x hx => (List.not_mem_nil hx).elim, Nat.zero_le _, fun x hx => (List.not_mem_nil hx).elim⟩, (by intro h9; cases h9), fun x hx => (List.not_mem_nil hx).elim, fun C cc R rc L lc w hC hR hL => ?_⟩
  have HA1 := hide (fun W (hb : Below w.heap.size w W) => at_below L l i W lc (hL.below hb))
  have HA2 := hide (fun W (hb : Below w.heap.size w W) => at_below L l (i + 1) W lc (hL.below hb))
  have HG := hide hg
  have HE := hide (fun W (hb : Below w.heap.size w W) => base_some_any C cs cc (lAt l (i + 1)) W (hC.below hb) hcp hcl (by omega) (by omega))
  generalize somS cs (lAt l (i + 1)) = ls at *
  rcases hR with e | ⟨gr, or, rfl, hgr, hcr⟩
  · exact absurd hrp (by rw [e]; simp)
  obtain ⟨D, dc, r0, r1, r2, r3, hD⟩ := hcr m hml
  have HD := hide hD
  have hb0 : (0 : Int) ≤ (m : Int) ∧ (m : Int) < (rs.length : Int) := by omega
  have hz : ¬ (rs.length : Int) = 0 := by omega
  have h00 := Below.refl w.heap.size w
  clear hcr hD hC hL hg hr
  generalize hn : lAt l i = n at *
  generalize hk : lAt l (i + 1) = k at *
  clear hn hk
  generalize rs[m] = rel at *
  obtain ⟨rn, rcs⟩ := rel
  simp only at r0 r1 HD
  go_enter Tryz.func83, Tryz.ntmps83
  go_wp2_with (first
    | (go_at_call 70; have _h := h00; refine (HA1.out _ zY).mono ?_; rintro e w1 ⟨rfl, hb1⟩; clear h00 _h; have hc1 : Below (w.heap.size + 1) (w.alloc (.cells #[.int .i64 0, str [], .slice none 0 0, .slice none 0 0, .slice none 0 0, .slice none 0 0] 27)) w1 := below_go (Below.refl _ _) (by simp) hb1; have hw1 := box_below hc1; clear hb1)
    | (go_at_call 70; refine (HA2.out _ hw1).mono ?_; rintro e w2 ⟨rfl, hb2⟩; have hc2 := below_go hc1 (by simp) hb2; have hw2 := box_below hc2; have t0 := (hw2.cell (p := ⟨gr, _, none⟩) hgr).trans r0; have t1 := (hw2.cell (p := ⟨gr, _, none⟩) hgr).trans r1; have t2 := (hw2.cell (p := ⟨gr, _, none⟩) hgr).trans r2; have t3 := (hw2.cell (p := ⟨gr, _, none⟩) hgr).trans r3; have hlw2 : w.heap.size < w2.heap.size := (by have h9 := hc2.size; rw [World.size_alloc] at h9; exact h9); have hlv2 : w.heap.size ≤ w2.heap.size := Nat.le_of_lt hlw2; clear hb2 hc1 hw1))
  refine (HE.out _ zY).mono ?_
  rintro e w3 ⟨⟨A3, rfl, hA3, hh3⟩, hb3⟩
  have hcur : Below (w.heap.size + 1) (w.alloc (.cells #[.int .i64 0, str [], .slice none 0 0, .slice none 0 0, .slice none 0 0, .slice none 0 0] 27)) w3 := below_go zY (by simp) hb3
  have HN3 := hide (firm_strs hh3)
  clear hh3 hA3 hb3
  have hhz := heap_of_below hcur (Nat.lt_succ_self _)
  obtain ⟨z0, z1, z2, z3, z4, z5, hlw⟩ := box6 hcur
  have fr : ∀ j, w3.frozen? ⟨w.heap.size, j, none⟩ = false := fun j => free_of_heap hhz j
  have HFin := hide (firm_step (s := ⟨3, [], ls, [], [], []⟩) (a := ⟨some ⟨A3, 0, none⟩, ls.length, none, 0, none, 0, none, 0⟩) HN3.out (firm_none w3) (firm_noIt w3) (firm_noNd w3) (Nat.le_refl _) (Nat.le_refl _) (Nat.le_refl _))
  have hbF := box_below hcur
  go_wp2
  refine step_ret (b := w.heap.size) ?_ ?_ (set6_heap hhz _ _ _ _ _ _) ?_
  · first | rfl | (simp; done) | kernel_rfl
  · rfl
  · exact ⟨⟨⟨some ⟨A3, 0, none⟩, ls.length, none, 0, none, 0, none, 0⟩, rfl, HFin.out.keep (keep_set6 hhz _ _ _ _ _ _)⟩, (below_set6 hbF (Nat.le_refl _) _ _ _ _ _ _)⟩
set_option maxRecDepth 100000 in
set_option maxHeartbeats 4000000 in
theorem step_union (cs : List Col) (rs : List Rel) (l : List Int) (i : Int) (hg : ColG cs) (hr : RelG rs) (h0 : 0 ≤ i) (h1 : i ≤ 1000) (hres : lAt l i % 13 = 7) : StepTold cs rs l i := by
  have n0 := lAt_nn l i
  have n1 := lAt_top l i
  have k0 := lAt_nn l (i + 1)
  have k1 := lAt_top l (i + 1)
  have hcl := hg.le
  have hcp := hg.pos
  have hrp := hr.pos
  have hrl := hr.le
  obtain ⟨m, hm, hml⟩ : ∃ m : Nat, lAt l (i + 1) % (rs.length : Int) = m ∧ m < rs.length := ⟨(lAt l (i + 1) % (rs.length : Int)).toNat, by have := Int.emod_nonneg (lAt l (i + 1)) (show (rs.length : Int) ≠ 0 by omega); omega, by have := Int.emod_lt_of_pos (lAt l (i + 1)) (show (0 : Int) < rs.length by omega); have := Int.emod_nonneg (lAt l (i + 1)) (show (rs.length : Int) ≠ 0 by omega); omega⟩
  refine ⟨⟨8 + lAt l i / 13 % 2, rs[m].name, [], [], [], []⟩, ⟨Nat.le_trans (hr.names _ (List.getElem_mem hml)) (by unfold maxLen; omega), Nat.zero_le _, Nat.zero_le _, Nat.zero_le _, fun x hx => (List.not_mem_nil hx).elim, Nat.zero_le _, fun x hx => (List.not_mem_nil hx).elim⟩, by show 8 + lAt l i / 13 % 2 ≠ 0; omega, fun x hx => (List.not_mem_nil hx).elim, fun C cc R rc L lc w hC hR hL => ?_⟩
  have HA1 := hide (fun W (hb : Below w.heap.size w W) => at_below L l i W lc (hL.below hb))
  have HA2 := hide (fun W (hb : Below w.heap.size w W) => at_below L l (i + 1) W lc (hL.below hb))
  have HG := hide hg
  rcases hR with e | ⟨gr, or, rfl, hgr, hcr⟩
  · exact absurd hrp (by rw [e]; simp)
  obtain ⟨D, dc, r0, r1, r2, r3, hD⟩ := hcr m hml
  have HD := hide hD
  have hb0 : (0 : Int) ≤ (m : Int) ∧ (m : Int) < (rs.length : Int) := by omega
  have hz : ¬ (rs.length : Int) = 0 := by omega
  have h00 := Below.refl w.heap.size w
  clear hcr hD hC hL hg hr
  generalize hn : lAt l i = n at *
  generalize hk : lAt l (i + 1) = k at *
  clear hn hk
  generalize rs[m] = rel at *
  obtain ⟨rn, rcs⟩ := rel
  simp only at r0 r1 HD
  go_enter Tryz.func83, Tryz.ntmps83
  go_wp2_with (first
    | (go_at_call 70; have _h := h00; refine (HA1.out _ zY).mono ?_; rintro e w1 ⟨rfl, hb1⟩; clear h00 _h; have hc1 : Below (w.heap.size + 1) (w.alloc (.cells #[.int .i64 0, str [], .slice none 0 0, .slice none 0 0, .slice none 0 0, .slice none 0 0] 27)) w1 := below_go (Below.refl _ _) (by simp) hb1; have hw1 := box_below hc1; clear hb1)
    | (go_at_call 70; refine (HA2.out _ hw1).mono ?_; rintro e w2 ⟨rfl, hb2⟩; have hc2 := below_go hc1 (by simp) hb2; have hw2 := box_below hc2; have t0 := (hw2.cell (p := ⟨gr, _, none⟩) hgr).trans r0; have t1 := (hw2.cell (p := ⟨gr, _, none⟩) hgr).trans r1; have t2 := (hw2.cell (p := ⟨gr, _, none⟩) hgr).trans r2; have t3 := (hw2.cell (p := ⟨gr, _, none⟩) hgr).trans r3; have hlw2 : w.heap.size < w2.heap.size := (by have h9 := hc2.size; rw [World.size_alloc] at h9; exact h9); have hlv2 : w.heap.size ≤ w2.heap.size := Nat.le_of_lt hlw2; clear hb2 hc1 hw1; have hhz := heap_of_below hc2 (Nat.lt_succ_self _); obtain ⟨z0, z1, z2, z3, z4, z5, hlw⟩ := box6 hc2; have fr : ∀ j, w2.frozen? ⟨w.heap.size, j, none⟩ = false := fun j => free_of_heap hhz j; have HFin := hide (firm_step (w := w2.alloc (.cells #[str rn, .slice D rcs.length dc, .slice none 0 0, .slice none 0 0] 68)) (s := ⟨8 + n / 13 % 2, rn, [], [], [], []⟩) (a := ⟨none, 0, none, 0, none, 0, none, 0⟩) (firm_none _) (firm_none _) (firm_noIt _) (firm_noNd _) (Nat.le_refl _) (Nat.le_refl _) (Nat.le_refl _)); have hbF := box_below hc2))
  refine step_ret (b := w.heap.size) ?_ ?_ (alloc_old (set6_heap hhz _ _ _ _ _ _)) ?_
  · first | rfl | (simp; done) | kernel_rfl
  · rfl
  · exact ⟨⟨⟨none, 0, none, 0, none, 0, none, 0⟩, rfl, HFin.out.keep ((keep_set6 hhz _ _ _ _ _ _).alloc (by first | exact set6_size _ _ _ _ _ _ _ _ | simp) _)⟩, ((below_set6 hbF (Nat.le_refl _) _ _ _ _ _ _).alloc (by first | (rw [set6_size]; omega) | (simp; omega)) _)⟩
set_option maxRecDepth 100000 in
set_option maxHeartbeats 4000000 in
theorem step_distinct (cs : List Col) (rs : List Rel) (l : List Int) (i : Int) (hg : ColG cs) (hr : RelG rs) (h0 : 0 ≤ i) (h1 : i ≤ 1000) (hres : lAt l i % 13 = 8) : StepTold cs rs l i := by
  have n0 := lAt_nn l i
  have n1 := lAt_top l i
  have k0 := lAt_nn l (i + 1)
  have k1 := lAt_top l (i + 1)
  have hcl := hg.le
  have hcp := hg.pos
  have hrp := hr.pos
  have hrl := hr.le
  obtain ⟨m, hm, hml⟩ : ∃ m : Nat, lAt l (i + 1) % (rs.length : Int) = m ∧ m < rs.length := ⟨(lAt l (i + 1) % (rs.length : Int)).toNat, by have := Int.emod_nonneg (lAt l (i + 1)) (show (rs.length : Int) ≠ 0 by omega); omega, by have := Int.emod_lt_of_pos (lAt l (i + 1)) (show (0 : Int) < rs.length by omega); have := Int.emod_nonneg (lAt l (i + 1)) (show (rs.length : Int) ≠ 0 by omega); omega⟩
  refine ⟨⟨10, [], [], [], [], []⟩, ⟨Nat.zero_le _, Nat.zero_le _, Nat.zero_le _, Nat.zero_le _, fun x hx => (List.not_mem_nil hx).elim, Nat.zero_le _, fun x hx => (List.not_mem_nil hx).elim⟩, (by intro h9; cases h9), fun x hx => (List.not_mem_nil hx).elim, fun C cc R rc L lc w hC hR hL => ?_⟩
  have HA1 := hide (fun W (hb : Below w.heap.size w W) => at_below L l i W lc (hL.below hb))
  have HA2 := hide (fun W (hb : Below w.heap.size w W) => at_below L l (i + 1) W lc (hL.below hb))
  have HG := hide hg
  rcases hR with e | ⟨gr, or, rfl, hgr, hcr⟩
  · exact absurd hrp (by rw [e]; simp)
  obtain ⟨D, dc, r0, r1, r2, r3, hD⟩ := hcr m hml
  have HD := hide hD
  have hb0 : (0 : Int) ≤ (m : Int) ∧ (m : Int) < (rs.length : Int) := by omega
  have hz : ¬ (rs.length : Int) = 0 := by omega
  have h00 := Below.refl w.heap.size w
  clear hcr hD hC hL hg hr
  generalize hn : lAt l i = n at *
  generalize hk : lAt l (i + 1) = k at *
  clear hn hk
  generalize rs[m] = rel at *
  obtain ⟨rn, rcs⟩ := rel
  simp only at r0 r1 HD
  go_enter Tryz.func83, Tryz.ntmps83
  go_wp2_with (first
    | (go_at_call 70; have _h := h00; refine (HA1.out _ zY).mono ?_; rintro e w1 ⟨rfl, hb1⟩; clear h00 _h; have hc1 : Below (w.heap.size + 1) (w.alloc (.cells #[.int .i64 0, str [], .slice none 0 0, .slice none 0 0, .slice none 0 0, .slice none 0 0] 27)) w1 := below_go (Below.refl _ _) (by simp) hb1; have hw1 := box_below hc1; clear hb1)
    | (go_at_call 70; refine (HA2.out _ hw1).mono ?_; rintro e w2 ⟨rfl, hb2⟩; have hc2 := below_go hc1 (by simp) hb2; have hw2 := box_below hc2; have t0 := (hw2.cell (p := ⟨gr, _, none⟩) hgr).trans r0; have t1 := (hw2.cell (p := ⟨gr, _, none⟩) hgr).trans r1; have t2 := (hw2.cell (p := ⟨gr, _, none⟩) hgr).trans r2; have t3 := (hw2.cell (p := ⟨gr, _, none⟩) hgr).trans r3; have hlw2 : w.heap.size < w2.heap.size := (by have h9 := hc2.size; rw [World.size_alloc] at h9; exact h9); have hlv2 : w.heap.size ≤ w2.heap.size := Nat.le_of_lt hlw2; clear hb2 hc1 hw1; have hhz := heap_of_below hc2 (Nat.lt_succ_self _); obtain ⟨z0, z1, z2, z3, z4, z5, hlw⟩ := box6 hc2; have fr : ∀ j, w2.frozen? ⟨w.heap.size, j, none⟩ = false := fun j => free_of_heap hhz j; have HFin := hide (firm_step (w := w2.alloc (.cells #[str rn, .slice D rcs.length dc, .slice none 0 0, .slice none 0 0] 68)) (s := ⟨10, [], [], [], [], []⟩) (a := ⟨none, 0, none, 0, none, 0, none, 0⟩) (firm_none _) (firm_none _) (firm_noIt _) (firm_noNd _) (Nat.le_refl _) (Nat.le_refl _) (Nat.le_refl _)); have hbF := box_below hc2))
  refine step_ret (b := w.heap.size) ?_ ?_ (alloc_old (set6_heap hhz _ _ _ _ _ _)) ?_
  · first | rfl | (simp; done) | kernel_rfl
  · rfl
  · exact ⟨⟨⟨none, 0, none, 0, none, 0, none, 0⟩, rfl, HFin.out.keep ((keep_set6 hhz _ _ _ _ _ _).alloc (by first | exact set6_size _ _ _ _ _ _ _ _ | simp) _)⟩, ((below_set6 hbF (Nat.le_refl _) _ _ _ _ _ _).alloc (by first | (rw [set6_size]; omega) | (simp; omega)) _)⟩
end Go.Proofs.YtmbeeefkpgfgmaaGreatDoor
