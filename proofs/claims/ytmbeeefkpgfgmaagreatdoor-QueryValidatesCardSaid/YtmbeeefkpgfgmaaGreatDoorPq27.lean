/- Contract, told: base.joined. -/
import Derived.Test.YtmbeeefkpgfgmaaGreatDoorPq21
import Derived.Deep.RegionHeld3
import Derived.RegionTactic
import Derived.ChangeAlike
import Derived.BigRegion
import Derived.Deep.Cut
import Derived.Test.YtmbeeefkpgfgmaaGreatDoorPq07
set_option linter.unusedVariables false
set_option linter.unusedSimpArgs false
namespace Go.Proofs.YtmbeeefkpgfgmaaGreatDoor
open Go.RowKit
set_option maxRecDepth 100000 in
set_option maxHeartbeats 4000000 in
theorem joined_no (op n : Int) (cs rcs : List Col) (rn : Bytes) (C : Option Addr) (c : Nat) (R : Option Addr) (rc : Nat) (w : World) (hC : ColsAt w C cs) (hp : 0 < cs.length) (hl : cs.length ≤ 12) (hR : ColsAt w R rcs) (hp2 : 0 < rcs.length) (hl2 : rcs.length ≤ 12) (h0 : 0 ≤ n) (h1 : n ≤ 1000000) (hop : 4 ≤ op) (hop2 : op ≤ 7) (hit : ¬ ((op = 4 ∨ op = 5) ∧ 0 < n / 64 % 4)) :
    Calls Tryz.prog 144 #[.int .i64 op, .slice C cs.length c, .agg #[str rn, .slice R rcs.length rc, .slice none 0 0, .slice none 0 0], .int .i64 n] w fun e w' => StpR (jnS op cs ⟨rn, rcs⟩ n) w' e ∧ Below w.heap.size w w' := by
  have HC := hide hC
  have HR := hide hR
  have HF := hide (fun W (hb : Below w.heap.size w W) => base_fresh_any C cs c n W (hC.below hb) hl h0 (by omega))
  have HN := hide (fun W (hb : Below w.heap.size w W) => base_name_any R rcs rc (n / 256) W (hR.below hb) hp2 hl2 (by omega) (by omega))
  have HJ := hide (show jnS op cs ⟨rn, rcs⟩ n = ⟨op, rn, (jnN cs rcs n).1, (jnN cs rcs n).2, jnI op cs rcs n, []⟩ from rfl)
  have HI := hide (show jnI op cs rcs n = if (op = 4 ∨ op = 5) ∧ 0 < n / 64 % 4 then [⟨freS cs n, 0, namS rcs (n / 256), 0, []⟩] else [] from rfl)
  have HH := hide (fun k hk h hb => jnN_hit (cs := cs) (rc := rcs) (n := n) (k := k) hk h hb)
  have HNo := hide (fun hb => jnN_none (cs := cs) (rc := rcs) (n := n) hb)
  have hmul : cs.length * rcs.length ≤ 144 := Nat.mul_le_mul hl hl2
  have hmi : ((cs.length : Int) * (rcs.length : Int)) = ((cs.length * rcs.length : Nat) : Int) := by push_cast; rfl
  obtain ⟨h6, h8, h9⟩ := heap3 w (.cells #[str rn, .slice R rcs.length rc, .slice none 0 0, .slice none 0 0] 68) (.cells #[.int .i64 0, str [], .slice none 0 0, .slice none 0 0, .slice none 0 0, .slice none 0 0] 27) (.cells #[.int .i64 op, str rn, .slice none 0 0, .slice none 0 0, .slice none 0 0, .slice none 0 0] 27)
  have hb3 : Below w.heap.size w (((w.alloc (.cells #[str rn, .slice R rcs.length rc, .slice none 0 0, .slice none 0 0] 68)).alloc (.cells #[.int .i64 0, str [], .slice none 0 0, .slice none 0 0, .slice none 0 0, .slice none 0 0] 27)).alloc (.cells #[.int .i64 op, str rn, .slice none 0 0, .slice none 0 0, .slice none 0 0, .slice none 0 0] 27)) := zY
  have hz3 : (((w.alloc (.cells #[str rn, .slice R rcs.length rc, .slice none 0 0, .slice none 0 0] 68)).alloc (.cells #[.int .i64 0, str [], .slice none 0 0, .slice none 0 0, .slice none 0 0, .slice none 0 0] 27)).alloc (.cells #[.int .i64 op, str rn, .slice none 0 0, .slice none 0 0, .slice none 0 0, .slice none 0 0] 27)).heap.size = w.heap.size + 1 + 1 + 1 := by simp
  clear hC hR
  generalize freS cs n = fn at *
  generalize namS rcs (n / 256) = cn at *
  generalize jnS op cs ⟨rn, rcs⟩ n = sj at *
  generalize jnN cs rcs n = jn at *
  generalize jnI op cs rcs n = ji at *
  have HI2 := hide (show ji = [] from HI.out.trans (if_neg hit))
  obtain ⟨ml, hml⟩ : ∃ ml, ml = cs.length * rcs.length := ⟨_, rfl⟩
  rw [← hml] at hmi hmul
  have HM := hide hml
  clear hml
  go_enter Tryz.func144, Tryz.ntmps144
  go_wp2
  generalize (((w.alloc (.cells #[str rn, .slice R rcs.length rc, .slice none 0 0, .slice none 0 0] 68)).alloc (.cells #[.int .i64 0, str [], .slice none 0 0, .slice none 0 0, .slice none 0 0, .slice none 0 0] 27)).alloc (.cells #[.int .i64 op, str rn, .slice none 0 0, .slice none 0 0, .slice none 0 0, .slice none 0 0] 27)) = w3 at *
  have u1 := cell_of_heap h6 1
  go_loopw [10] (fun i wr => ∃ k : Nat, k ≤ ml ∧ i = .int .i64 k ∧ Hid (∀ j, j < k → kqB cs rcs n j = false) ∧ Below w3.heap.size w3 wr) (fun i _ => ml - (intOf i).toNat)
  case atStart => exact ⟨0, by omega, rfl, fun j hj => absurd hj (Nat.not_lt_zero _), Below.refl _ _⟩
  case round =>
    obtain ⟨k, hk, rfl, HZ, hbel⟩ := hrel
    have hsz := hbel.size
    have hbw : Below w.heap.size w wr := bel2 hbel hb3
    have v1 := (hbel.cell (p := ⟨w.heap.size, 1, none⟩) (by show w.heap.size < _; omega)).trans u1
    by_cases hlt : k < ml
    · have hlt2 : (k : Int) < (ml : Int) := by omega
      obtain ⟨p, hp9, hpl⟩ : ∃ p : Nat, (n + (k : Int)) % (cs.length : Int) = p ∧ p < cs.length := ⟨((n + (k : Int)) % (cs.length : Int)).toNat, by have := Int.emod_nonneg (n + (k : Int)) (show (cs.length : Int) ≠ 0 by omega); omega, by have := Int.emod_lt_of_pos (n + (k : Int)) (show (0 : Int) < cs.length by omega); have := Int.emod_nonneg (n + (k : Int)) (show (cs.length : Int) ≠ 0 by omega); omega⟩
      obtain ⟨d, hd, hdl⟩ : ∃ d : Nat, (k : Int) / (cs.length : Int) = d ∧ d ≤ 144 := ⟨k / cs.length, by push_cast; rfl, Nat.le_trans (Nat.div_le_self _ _) (by omega)⟩
      obtain ⟨q, hq9, hql⟩ : ∃ q : Nat, (n / 8 + (d : Int)) % (rcs.length : Int) = q ∧ q < rcs.length := ⟨((n / 8 + (d : Int)) % (rcs.length : Int)).toNat, by have := Int.emod_nonneg (n / 8 + (d : Int)) (show (rcs.length : Int) ≠ 0 by omega); omega, by have := Int.emod_lt_of_pos (n / 8 + (d : Int)) (show (0 : Int) < rcs.length by omega); have := Int.emod_nonneg (n / 8 + (d : Int)) (show (rcs.length : Int) ≠ 0 by omega); omega⟩
      have htd : Int.tdiv (k : Int) (cs.length : Int) = (d : Int) := by rw [quo_len _ _ hp, hd]
      have hnk : 0 ≤ n + (k : Int) := by omega
      have hnd : 0 ≤ n / 8 + (d : Int) := by omega
      have tm1 : (n + (k : Int)).tmod (cs.length : Int) = (p : Int) := by rw [Int.tmod_eq_emod_of_nonneg hnk, hp9]
      have tm2 : (n / 8 + (d : Int)).tmod (rcs.length : Int) = (q : Int) := by rw [Int.tmod_eq_emod_of_nonneg hnd, hq9]
      have hzb1 : ((cs.length : Int) == 0) = false := beq_eq_false_iff_ne.2 (by omega)
      have hzb2 : ((rcs.length : Int) == 0) = false := beq_eq_false_iff_ne.2 (by omega)
      have hk144 : (k : Int) ≤ 144 := by omega
      have hcne : ¬ cs = [] := fun e => by rw [e] at hp; simp at hp
      have hrne : ¬ rcs = [] := fun e => by rw [e] at hp2; simp at hp2
      have hwr1 : IntKind.i64.wrap (n + (k : Int)) = n + (k : Int) := IntWalk.i64_in _ (by omega)
      have hwr2 : IntKind.i64.wrap (n / 8 + (d : Int)) = n / 8 + (d : Int) := IntWalk.i64_in _ (by omega)
      have hwq1 : IntKind.i64.wrap ((k : Int).tdiv (cs.length : Int)) = (d : Int) := by rw [htd]; exact IntWalk.i64_in _ (by omega)
      have hwn8 : IntKind.i64.wrap (n.tdiv 8) = n / 8 := IntWalk.i64_quo n 8 (by omega)
      have hwr3 : IntKind.i64.wrap (d : Int) = (d : Int) := IntWalk.i64_in _ (by omega)
      have hd144 : (d : Int) ≤ 144 := by omega
      have HA := hide (show jnA cs n k = cs[p] from by unfold jnA; rw [hp9, Int.toNat_natCast, List.getD_eq_getElem?_getD, List.getElem?_eq_getElem hpl]; rfl)
      have HB := hide (show jnB cs rcs n k = rcs[q] from by unfold jnB; rw [hd, hq9, Int.toNat_natCast, List.getD_eq_getElem?_getD, List.getElem?_eq_getElem hql]; rfl)
      have HK := hide (show kqB cs rcs n k = ((jnA cs n k).kind == (jnB cs rcs n k).kind) from rfl)
      rcases HC.out.below hbw with e | ⟨gC, oC, rfl, hgC, hcC⟩
      · exact absurd hpl (by rw [e]; simp)
      rcases HR.out.below hbw with e | ⟨gR, oR, rfl, hgR, hcR⟩
      · exact absurd hql (by rw [e]; simp)
      obtain ⟨a0, a1, a2⟩ := hcC p hpl
      obtain ⟨b0, b1, b2⟩ := hcR q hql
      have hbp : (0 : Int) ≤ (p : Int) ∧ (p : Int) < (cs.length : Int) := by omega
      have hbq : (0 : Int) ≤ (q : Int) ∧ (q : Int) < (rcs.length : Int) := by omega
      have hzc : ¬ (cs.length : Int) = 0 := by omega
      have hzr : ¬ (rcs.length : Int) = 0 := by omega
      clear hcC hcR
      generalize cs[p] = ca at *
      generalize rcs[q] = cb at *
      obtain ⟨an, ak, ab⟩ := ca
      obtain ⟨bn, bk, bb⟩ := cb
      simp only at a0 a1 a2 b0 b1 b2
      by_cases hkk : ak = bk
      rotate_left
      · have HZ2 := hide (show ∀ j, j < k + 1 → kqB cs rcs n j = false from fun j hj => by
          by_cases e : j = k
          · subst e
            rw [HK.out, HA.out, HB.out]
            exact beq_eq_false_iff_ne.2 hkk
          · exact HZ.out j (by omega))
        have hkb : (ak == bk) = false := beq_eq_false_iff_ne.2 hkk
        go_wp2
        go_region_held3 (fun w' => w'.cell? ⟨w.heap.size, 1, none⟩ = some (.slice (some ⟨gR, oR, none⟩) rcs.length rc) ∧ w'.cell? ⟨gC, oC + p * 3, none⟩ = some (str an) ∧ w'.cell? ⟨gC, oC + p * 3 + 1, none⟩ = some (.int .i64 ak) ∧ w'.cell? ⟨gC, oC + p * 3 + 2, none⟩ = some (.bool ab) ∧ w'.cell? ⟨gR, oR + q * 3, none⟩ = some (str bn) ∧ w'.cell? ⟨gR, oR + q * 3 + 1, none⟩ = some (.int .i64 bk) ∧ w'.cell? ⟨gR, oR + q * 3 + 2, none⟩ = some (.bool bb))
          (go_keep) (fail)
        all_goals
          go_wp2
          exact ⟨⟨k + 1, by omega, by go_num, HZ2, zY⟩, by simp [intOf]; omega⟩
      · subst hkk
        have HJ2 := hide (show sj = ⟨op, rn, [an], [bn], [], []⟩ from by
          rw [HJ.out, HI2.out, HH.out k (by rw [← HM.out]; exact hlt) (by rw [HK.out, HA.out, HB.out]; exact beq_self_eq_true _) HZ.out, HA.out, HB.out])
        go_wp2
        go_region_held3 (fun w' => w'.cell? ⟨w.heap.size, 1, none⟩ = some (.slice (some ⟨gR, oR, none⟩) rcs.length rc) ∧ w'.cell? ⟨gC, oC + p * 3, none⟩ = some (str an) ∧ w'.cell? ⟨gC, oC + p * 3 + 1, none⟩ = some (.int .i64 ak) ∧ w'.cell? ⟨gC, oC + p * 3 + 2, none⟩ = some (.bool ab) ∧ w'.cell? ⟨gR, oR + q * 3, none⟩ = some (str bn) ∧ w'.cell? ⟨gR, oR + q * 3 + 1, none⟩ = some (.int .i64 ak) ∧ w'.cell? ⟨gR, oR + q * 3 + 2, none⟩ = some (.bool bb))
          (go_keep) (fail)
        · have q1 : ((wr.alloc (.cells #[str an, .int .i64 ak, .bool ab] 105)).alloc (.cells #[str bn, .int .i64 ak, .bool bb] 105)).drew.heap[wr.heap.size]? = some (.cells #[str an, .int .i64 ak, .bool ab] 105) := by
            show ((wr.alloc (.cells #[str an, .int .i64 ak, .bool ab] 105)).alloc (.cells #[str bn, .int .i64 ak, .bool bb] 105)).heap[wr.heap.size]? = some (.cells #[str an, .int .i64 ak, .bool ab] 105)
            exact alloc_old (heap_alloc_new wr (.cells #[str an, .int .i64 ak, .bool ab] 105))
          have q2 : ((wr.alloc (.cells #[str an, .int .i64 ak, .bool ab] 105)).alloc (.cells #[str bn, .int .i64 ak, .bool bb] 105)).drew.heap[wr.heap.size + 1]? = some (.cells #[str bn, .int .i64 ak, .bool bb] 105) := by
            show ((wr.alloc (.cells #[str an, .int .i64 ak, .bool ab] 105)).alloc (.cells #[str bn, .int .i64 ak, .bool bb] 105)).heap[wr.heap.size + 1]? = some (.cells #[str bn, .int .i64 ak, .bool bb] 105)
            have h := heap_alloc_new (wr.alloc (.cells #[str an, .int .i64 ak, .bool ab] 105)) (.cells #[str bn, .int .i64 ak, .bool bb] 105)
            rw [World.size_alloc] at h
            exact h
          have h11 := q1
          have h12 := q2
          clear q1 q2
          have b3D : Below w3.heap.size w3 ((wr.alloc (.cells #[str an, .int .i64 ak, .bool ab] 105)).alloc (.cells #[str bn, .int .i64 ak, .bool bb] 105)).drew := Below.drew ((hbel.alloc hsz _).alloc (by rw [World.size_alloc]; omega) _)
          have hge : w3.heap.size ≤ wr.heap.size := hsz
          have h9 := (b3D.block _ (lt_of_heap h9)).trans h9
          have h8 := (b3D.block _ (lt_of_heap h8)).trans h8
          have h6 := (b3D.block _ (lt_of_heap h6)).trans h6
          have bC := bel2 b3D hb3
          obtain ⟨b11, e11⟩ : ∃ b, b = wr.heap.size := ⟨_, rfl⟩
          obtain ⟨b12, e12⟩ : ∃ b, b = (wr.heap.size + 1) := ⟨_, rfl⟩
          have ne11 : w.heap.size + 1 + 1 ≠ b11 := by omega
          have ne12 : w.heap.size + 1 + 1 ≠ b12 := by omega
          generalize ((wr.alloc (.cells #[str an, .int .i64 ak, .bool ab] 105)).alloc (.cells #[str bn, .int .i64 ak, .bool bb] 105)).drew = wD at *
          rw [← e12] at h12 ⊢
          rw [← e11] at h11 ⊢
          clear e11 e12
          have n11 := cell_of_heap h11 0
          have k11 := cell_of_heap h11 1
          have n12 := cell_of_heap h12 0
          have k12 := cell_of_heap h12 1
          simp at n11 k11 n12 k12
          go_upto_region 7 with fail
          have bD : Below wD.heap.size wD wD.drew := Below.drew (Below.refl _ _)
          have s11 := (bD.cell (p := ⟨b11, 0, none⟩) (lt_of_heap h11)).trans n11
          have s12 := (bD.cell (p := ⟨b12, 0, none⟩) (lt_of_heap h12)).trans n12
          have t9 := (bD.block _ (lt_of_heap h9)).trans h9
          have t8 := (bD.block _ (lt_of_heap h8)).trans h8
          have t6 := (bD.block _ (lt_of_heap h6)).trans h6
          have bC := bel2 bD bC
          refine wp_region_held_drew (S := (fun w' => w'.cell? ⟨b11, 0, none⟩ = some (str an) ∧ w'.cell? ⟨b12, 0, none⟩ = some (str bn))) (by kernel_rfl) (by (try dsimp only); exact ⟨s11, s12⟩) (fun hHeld => ?_)
          clear h9 h8 h6 n11 n12
          generalize wD.drew = W0 at *
          have h9 := t9
          have h8 := t8
          have h6 := t6
          clear t9 t8 t6 bD
          refine zT 0 ?_; refine zT 1 ?_; refine zT 3 ?_; refine zT 4 ?_
          refine wpAnyH_ready (rs := [2, 5]) (by kernel_rfl) (by simp) ?_
          refine AllReadyH.cons rfl (fun K hK => ?_) (AllReadyH.cons rfl (fun K hK => ?_) AllReadyH.nil)
          · have l11 := World.block_lt_of_cell? _ _ s11
            have l12 := World.block_lt_of_cell? _ _ s12
            have a11 : (W0.alloc (.cells #[str an] 9)).cell? ⟨b11, 0, none⟩ = some (str an) := by rw [World.cell?_alloc_lt _ _ _ l11]; exact s11
            have a12 : (W0.alloc (.cells #[str an] 9)).cell? ⟨b12, 0, none⟩ = some (str bn) := by rw [World.cell?_alloc_lt _ _ _ l12]; exact s12
            go_simp
            refine zB hK ⟨a11, a12⟩ (fun hHeld => ?_)
            clear hK K
            have HNm := hide (firm_strs (l := [an]) (heap_alloc_new W0 (.cells #[str an] 9)))
            have h9 := alloc_old (o := (.cells #[str an] 9)) h9
            have h8 := alloc_old (o := (.cells #[str an] 9)) h8
            have h6 := alloc_old (o := (.cells #[str an] 9)) h6
            have bC := bC.alloc bC.size (.cells #[str an] 9)
            have s11 := a11
            have s12 := a12
            clear a11 a12 l11 l12
            generalize W0.alloc (.cells #[str an] 9) = V1 at *
            generalize W0.heap.size = i2 at *
            refine zT 6 ?_
            refine wpAnyH_ready (rs := [5, 7]) (by kernel_rfl) (by simp) ?_
            refine AllReadyH.cons rfl (fun K hK => ?_) (AllReadyH.cons rfl (fun K hK => ?_) AllReadyH.nil)
            · have l11 := World.block_lt_of_cell? _ _ s11
              have l12 := World.block_lt_of_cell? _ _ s12
              have a11 : (V1.alloc (.cells #[str bn] 9)).cell? ⟨b11, 0, none⟩ = some (str an) := by rw [World.cell?_alloc_lt _ _ _ l11]; exact s11
              have a12 : (V1.alloc (.cells #[str bn] 9)).cell? ⟨b12, 0, none⟩ = some (str bn) := by rw [World.cell?_alloc_lt _ _ _ l12]; exact s12
              go_simp
              refine zB hK ⟨a11, a12⟩ (fun hHeld => ?_)
              clear hK K
              have HOt := hide (firm_strs (l := [bn]) (heap_alloc_new V1 (.cells #[str bn] 9)))
              have HNm := hide (HNm.out.below ((Below.refl _ _).alloc (Nat.le_refl _) (.cells #[str bn] 9)))
              have h9 := alloc_old (o := (.cells #[str bn] 9)) h9
              have h8 := alloc_old (o := (.cells #[str bn] 9)) h8
              have h6 := alloc_old (o := (.cells #[str bn] 9)) h6
              have bC := bC.alloc bC.size (.cells #[str bn] 9)
              have s11 := a11
              have s12 := a12
              clear a11 a12 l11 l12
              generalize V1.alloc (.cells #[str bn] 9) = V2 at *
              generalize V1.heap.size = i5 at *
              refine zR 7 (fun K hK => ?_)
              have l11 := World.block_lt_of_cell? _ _ s11
              have l12 := World.block_lt_of_cell? _ _ s12
              have z9 := cell_of_heap h9 2
              have f9 : ∀ j, V2.frozen? ⟨w.heap.size + 1 + 1, j, none⟩ = false := fun j => free_of_heap h9 j
              have a11 : (V2.setCell ⟨w.heap.size + 1 + 1, 2, none⟩ (.slice (some ⟨i2, 0, none⟩) 1 1)).cell? ⟨b11, 0, none⟩ = some (str an) := by rw [World.cell?_setCell_other _ _ _ _ (by first | (simp; done) | (simp; omega))]; exact s11
              have a12 : (V2.setCell ⟨w.heap.size + 1 + 1, 2, none⟩ (.slice (some ⟨i2, 0, none⟩) 1 1)).cell? ⟨b12, 0, none⟩ = some (str bn) := by rw [World.cell?_setCell_other _ _ _ _ (by first | (simp; done) | (simp; omega))]; exact s12
              go_simp
              refine zB hK ⟨a11, a12⟩ (fun hHeld => ?_)
              clear hK K z9 f9
              have HNm := hide (HNm.out.keep (keep_set (j := 2) (u := .slice (some ⟨i2, 0, none⟩) 1 1) h9))
              have HOt := hide (HOt.out.keep (keep_set (j := 2) (u := .slice (some ⟨i2, 0, none⟩) 1 1) h9))
              have h8 := (heap_setCell_other V2 ⟨w.heap.size + 1 + 1, 2, none⟩ (w.heap.size + 1) (.slice (some ⟨i2, 0, none⟩) 1 1) (by first | (simp; done) | (simp; omega))).trans h8
              have h6 := (heap_setCell_other V2 ⟨w.heap.size + 1 + 1, 2, none⟩ w.heap.size (.slice (some ⟨i2, 0, none⟩) 1 1) (by first | (simp; done) | (simp; omega))).trans h6
              have h9 := heap_setCell_same V2 (w.heap.size + 1 + 1) 2 _ _ (.slice (some ⟨i2, 0, none⟩) 1 1) h9
              simp at h9
              have bC : Below w.heap.size w (V2.setCell ⟨w.heap.size + 1 + 1, 2, none⟩ (.slice (some ⟨i2, 0, none⟩) 1 1)) := bC.setCell (show w.heap.size ≤ w.heap.size + 1 + 1 by omega) _
              have s11 := a11
              have s12 := a12
              clear a11 a12 l11 l12
              generalize (V2.setCell ⟨w.heap.size + 1 + 1, 2, none⟩ (.slice (some ⟨i2, 0, none⟩) 1 1)) = V3 at *
              refine zT 8 ?_
              refine zR 9 (fun K hK => ?_)
              have l11 := World.block_lt_of_cell? _ _ s11
              have l12 := World.block_lt_of_cell? _ _ s12
              have z9 := cell_of_heap h9 3
              have f9 : ∀ j, V3.frozen? ⟨w.heap.size + 1 + 1, j, none⟩ = false := fun j => free_of_heap h9 j
              have a11 : (V3.setCell ⟨w.heap.size + 1 + 1, 3, none⟩ (.slice (some ⟨i5, 0, none⟩) 1 1)).cell? ⟨b11, 0, none⟩ = some (str an) := by rw [World.cell?_setCell_other _ _ _ _ (by first | (simp; done) | (simp; omega))]; exact s11
              have a12 : (V3.setCell ⟨w.heap.size + 1 + 1, 3, none⟩ (.slice (some ⟨i5, 0, none⟩) 1 1)).cell? ⟨b12, 0, none⟩ = some (str bn) := by rw [World.cell?_setCell_other _ _ _ _ (by first | (simp; done) | (simp; omega))]; exact s12
              go_simp
              refine zB hK ⟨a11, a12⟩ (fun hHeld => ?_)
              clear hK K z9 f9
              have HNm := hide (HNm.out.keep (keep_set (j := 3) (u := .slice (some ⟨i5, 0, none⟩) 1 1) h9))
              have HOt := hide (HOt.out.keep (keep_set (j := 3) (u := .slice (some ⟨i5, 0, none⟩) 1 1) h9))
              have h8 := (heap_setCell_other V3 ⟨w.heap.size + 1 + 1, 3, none⟩ (w.heap.size + 1) (.slice (some ⟨i5, 0, none⟩) 1 1) (by first | (simp; done) | (simp; omega))).trans h8
              have h6 := (heap_setCell_other V3 ⟨w.heap.size + 1 + 1, 3, none⟩ w.heap.size (.slice (some ⟨i5, 0, none⟩) 1 1) (by first | (simp; done) | (simp; omega))).trans h6
              have h9 := heap_setCell_same V3 (w.heap.size + 1 + 1) 3 _ _ (.slice (some ⟨i5, 0, none⟩) 1 1) h9
              simp at h9
              have bC : Below w.heap.size w (V3.setCell ⟨w.heap.size + 1 + 1, 3, none⟩ (.slice (some ⟨i5, 0, none⟩) 1 1)) := bC.setCell (show w.heap.size ≤ w.heap.size + 1 + 1 by omega) _
              have s11 := a11
              have s12 := a12
              clear a11 a12 l11 l12
              generalize (V3.setCell ⟨w.heap.size + 1 + 1, 3, none⟩ (.slice (some ⟨i5, 0, none⟩) 1 1)) = V4 at *
              clear hHeld s11 s12
              refine wpAnyH_done (by kernel_rfl) ?_ _
              go_upto_region 10 with fail
              all_goals first | (exfalso; omega) | (exfalso; simp_all; done) | skip
              all_goals
                have g0 := cell_of_heap h9 0
                have g1 := cell_of_heap h9 1
                have g2 := cell_of_heap h9 2
                have g3 := cell_of_heap h9 3
                have g4 := cell_of_heap h9 4
                have g5 := cell_of_heap h9 5
                have y0 := cell_of_heap h8 0
                have y1 := cell_of_heap h8 1
                have y2 := cell_of_heap h8 2
                have y3 := cell_of_heap h8 3
                have y4 := cell_of_heap h8 4
                have y5 := cell_of_heap h8 5
                have fr : ∀ j, V4.frozen? ⟨w.heap.size + 1, j, none⟩ = false := fun j => free_of_heap h8 j
                have HFin := hide (firm_step (w := V4) (s := ⟨op, rn, [an], [bn], [], []⟩) (a := ⟨some ⟨i2, 0, none⟩, 1, some ⟨i5, 0, none⟩, 1, none, 0, none, 0⟩) HNm.out HOt.out (firm_noIt _) (firm_noNd _) (Nat.le_refl _) (Nat.le_refl _) (Nat.le_refl _))
                go_wp2
                refine join_ret (b := w.heap.size + 1) ?_ ?_ (set6_heap h8 _ _ _ _ _ _) ?_
                · first | rfl | (simp; done) | kernel_rfl
                · rfl
                · refine ⟨⟨⟨some ⟨i2, 0, none⟩, 1, some ⟨i5, 0, none⟩, 1, none, 0, none, 0⟩, ?_, ?_⟩, below_set6 bC (Nat.le_succ _) _ _ _ _ _ _⟩
                  · rw [HJ2.out]
                    first | rfl | (have e : op = 4 := (by assumption); subst e; rfl) | (have e : op = 5 := (by assumption); subst e; rfl) | (have e : op = 6 := (by assumption); subst e; rfl) | (have e : op = 7 := (by assumption); subst e; rfl)
                  · rw [HJ2.out]
                    exact HFin.out.keep (keep_set6 h8 _ _ _ _ _ _)
            · have l11 := World.block_lt_of_cell? _ _ s11
              have l12 := World.block_lt_of_cell? _ _ s12
              have z9 := cell_of_heap h9 2
              have f9 : ∀ j, V1.frozen? ⟨w.heap.size + 1 + 1, j, none⟩ = false := fun j => free_of_heap h9 j
              have a11 : (V1.setCell ⟨w.heap.size + 1 + 1, 2, none⟩ (.slice (some ⟨i2, 0, none⟩) 1 1)).cell? ⟨b11, 0, none⟩ = some (str an) := by rw [World.cell?_setCell_other _ _ _ _ (by first | (simp; done) | (simp; omega))]; exact s11
              have a12 : (V1.setCell ⟨w.heap.size + 1 + 1, 2, none⟩ (.slice (some ⟨i2, 0, none⟩) 1 1)).cell? ⟨b12, 0, none⟩ = some (str bn) := by rw [World.cell?_setCell_other _ _ _ _ (by first | (simp; done) | (simp; omega))]; exact s12
              go_simp
              refine zB hK ⟨a11, a12⟩ (fun hHeld => ?_)
              clear hK K z9 f9
              have HNm := hide (HNm.out.keep (keep_set (j := 2) (u := .slice (some ⟨i2, 0, none⟩) 1 1) h9))
              have h8 := (heap_setCell_other V1 ⟨w.heap.size + 1 + 1, 2, none⟩ (w.heap.size + 1) (.slice (some ⟨i2, 0, none⟩) 1 1) (by first | (simp; done) | (simp; omega))).trans h8
              have h6 := (heap_setCell_other V1 ⟨w.heap.size + 1 + 1, 2, none⟩ w.heap.size (.slice (some ⟨i2, 0, none⟩) 1 1) (by first | (simp; done) | (simp; omega))).trans h6
              have h9 := heap_setCell_same V1 (w.heap.size + 1 + 1) 2 _ _ (.slice (some ⟨i2, 0, none⟩) 1 1) h9
              simp at h9
              have bC : Below w.heap.size w (V1.setCell ⟨w.heap.size + 1 + 1, 2, none⟩ (.slice (some ⟨i2, 0, none⟩) 1 1)) := bC.setCell (show w.heap.size ≤ w.heap.size + 1 + 1 by omega) _
              have s11 := a11
              have s12 := a12
              clear a11 a12 l11 l12
              generalize (V1.setCell ⟨w.heap.size + 1 + 1, 2, none⟩ (.slice (some ⟨i2, 0, none⟩) 1 1)) = V5 at *
              refine zR 5 (fun K hK => ?_)
              have l11 := World.block_lt_of_cell? _ _ s11
              have l12 := World.block_lt_of_cell? _ _ s12
              have a11 : (V5.alloc (.cells #[str bn] 9)).cell? ⟨b11, 0, none⟩ = some (str an) := by rw [World.cell?_alloc_lt _ _ _ l11]; exact s11
              have a12 : (V5.alloc (.cells #[str bn] 9)).cell? ⟨b12, 0, none⟩ = some (str bn) := by rw [World.cell?_alloc_lt _ _ _ l12]; exact s12
              go_simp
              refine zB hK ⟨a11, a12⟩ (fun hHeld => ?_)
              clear hK K
              have HOt := hide (firm_strs (l := [bn]) (heap_alloc_new V5 (.cells #[str bn] 9)))
              have HNm := hide (HNm.out.below ((Below.refl _ _).alloc (Nat.le_refl _) (.cells #[str bn] 9)))
              have h9 := alloc_old (o := (.cells #[str bn] 9)) h9
              have h8 := alloc_old (o := (.cells #[str bn] 9)) h8
              have h6 := alloc_old (o := (.cells #[str bn] 9)) h6
              have bC := bC.alloc bC.size (.cells #[str bn] 9)
              have s11 := a11
              have s12 := a12
              clear a11 a12 l11 l12
              generalize V5.alloc (.cells #[str bn] 9) = V6 at *
              generalize V5.heap.size = i5 at *
              refine zT 8 ?_
              refine zR 9 (fun K hK => ?_)
              have l11 := World.block_lt_of_cell? _ _ s11
              have l12 := World.block_lt_of_cell? _ _ s12
              have z9 := cell_of_heap h9 3
              have f9 : ∀ j, V6.frozen? ⟨w.heap.size + 1 + 1, j, none⟩ = false := fun j => free_of_heap h9 j
              have a11 : (V6.setCell ⟨w.heap.size + 1 + 1, 3, none⟩ (.slice (some ⟨i5, 0, none⟩) 1 1)).cell? ⟨b11, 0, none⟩ = some (str an) := by rw [World.cell?_setCell_other _ _ _ _ (by first | (simp; done) | (simp; omega))]; exact s11
              have a12 : (V6.setCell ⟨w.heap.size + 1 + 1, 3, none⟩ (.slice (some ⟨i5, 0, none⟩) 1 1)).cell? ⟨b12, 0, none⟩ = some (str bn) := by rw [World.cell?_setCell_other _ _ _ _ (by first | (simp; done) | (simp; omega))]; exact s12
              go_simp
              refine zB hK ⟨a11, a12⟩ (fun hHeld => ?_)
              clear hK K z9 f9
              have HNm := hide (HNm.out.keep (keep_set (j := 3) (u := .slice (some ⟨i5, 0, none⟩) 1 1) h9))
              have HOt := hide (HOt.out.keep (keep_set (j := 3) (u := .slice (some ⟨i5, 0, none⟩) 1 1) h9))
              have h8 := (heap_setCell_other V6 ⟨w.heap.size + 1 + 1, 3, none⟩ (w.heap.size + 1) (.slice (some ⟨i5, 0, none⟩) 1 1) (by first | (simp; done) | (simp; omega))).trans h8
              have h6 := (heap_setCell_other V6 ⟨w.heap.size + 1 + 1, 3, none⟩ w.heap.size (.slice (some ⟨i5, 0, none⟩) 1 1) (by first | (simp; done) | (simp; omega))).trans h6
              have h9 := heap_setCell_same V6 (w.heap.size + 1 + 1) 3 _ _ (.slice (some ⟨i5, 0, none⟩) 1 1) h9
              simp at h9
              have bC : Below w.heap.size w (V6.setCell ⟨w.heap.size + 1 + 1, 3, none⟩ (.slice (some ⟨i5, 0, none⟩) 1 1)) := bC.setCell (show w.heap.size ≤ w.heap.size + 1 + 1 by omega) _
              have s11 := a11
              have s12 := a12
              clear a11 a12 l11 l12
              generalize (V6.setCell ⟨w.heap.size + 1 + 1, 3, none⟩ (.slice (some ⟨i5, 0, none⟩) 1 1)) = V7 at *
              clear hHeld s11 s12
              refine wpAnyH_done (by kernel_rfl) ?_ _
              go_upto_region 10 with fail
              all_goals first | (exfalso; omega) | (exfalso; simp_all; done) | skip
              all_goals
                have g0 := cell_of_heap h9 0
                have g1 := cell_of_heap h9 1
                have g2 := cell_of_heap h9 2
                have g3 := cell_of_heap h9 3
                have g4 := cell_of_heap h9 4
                have g5 := cell_of_heap h9 5
                have y0 := cell_of_heap h8 0
                have y1 := cell_of_heap h8 1
                have y2 := cell_of_heap h8 2
                have y3 := cell_of_heap h8 3
                have y4 := cell_of_heap h8 4
                have y5 := cell_of_heap h8 5
                have fr : ∀ j, V7.frozen? ⟨w.heap.size + 1, j, none⟩ = false := fun j => free_of_heap h8 j
                have HFin := hide (firm_step (w := V7) (s := ⟨op, rn, [an], [bn], [], []⟩) (a := ⟨some ⟨i2, 0, none⟩, 1, some ⟨i5, 0, none⟩, 1, none, 0, none, 0⟩) HNm.out HOt.out (firm_noIt _) (firm_noNd _) (Nat.le_refl _) (Nat.le_refl _) (Nat.le_refl _))
                go_wp2
                refine join_ret (b := w.heap.size + 1) ?_ ?_ (set6_heap h8 _ _ _ _ _ _) ?_
                · first | rfl | (simp; done) | kernel_rfl
                · rfl
                · refine ⟨⟨⟨some ⟨i2, 0, none⟩, 1, some ⟨i5, 0, none⟩, 1, none, 0, none, 0⟩, ?_, ?_⟩, below_set6 bC (Nat.le_succ _) _ _ _ _ _ _⟩
                  · rw [HJ2.out]
                    first | rfl | (have e : op = 4 := (by assumption); subst e; rfl) | (have e : op = 5 := (by assumption); subst e; rfl) | (have e : op = 6 := (by assumption); subst e; rfl) | (have e : op = 7 := (by assumption); subst e; rfl)
                  · rw [HJ2.out]
                    exact HFin.out.keep (keep_set6 h8 _ _ _ _ _ _)
          · have l11 := World.block_lt_of_cell? _ _ s11
            have l12 := World.block_lt_of_cell? _ _ s12
            have a11 : (W0.alloc (.cells #[str bn] 9)).cell? ⟨b11, 0, none⟩ = some (str an) := by rw [World.cell?_alloc_lt _ _ _ l11]; exact s11
            have a12 : (W0.alloc (.cells #[str bn] 9)).cell? ⟨b12, 0, none⟩ = some (str bn) := by rw [World.cell?_alloc_lt _ _ _ l12]; exact s12
            go_simp
            refine zB hK ⟨a11, a12⟩ (fun hHeld => ?_)
            clear hK K
            have HOt := hide (firm_strs (l := [bn]) (heap_alloc_new W0 (.cells #[str bn] 9)))
            have h9 := alloc_old (o := (.cells #[str bn] 9)) h9
            have h8 := alloc_old (o := (.cells #[str bn] 9)) h8
            have h6 := alloc_old (o := (.cells #[str bn] 9)) h6
            have bC := bC.alloc bC.size (.cells #[str bn] 9)
            have s11 := a11
            have s12 := a12
            clear a11 a12 l11 l12
            generalize W0.alloc (.cells #[str bn] 9) = V8 at *
            generalize W0.heap.size = i5 at *
            refine zR 2 (fun K hK => ?_)
            have l11 := World.block_lt_of_cell? _ _ s11
            have l12 := World.block_lt_of_cell? _ _ s12
            have a11 : (V8.alloc (.cells #[str an] 9)).cell? ⟨b11, 0, none⟩ = some (str an) := by rw [World.cell?_alloc_lt _ _ _ l11]; exact s11
            have a12 : (V8.alloc (.cells #[str an] 9)).cell? ⟨b12, 0, none⟩ = some (str bn) := by rw [World.cell?_alloc_lt _ _ _ l12]; exact s12
            go_simp
            refine zB hK ⟨a11, a12⟩ (fun hHeld => ?_)
            clear hK K
            have HNm := hide (firm_strs (l := [an]) (heap_alloc_new V8 (.cells #[str an] 9)))
            have HOt := hide (HOt.out.below ((Below.refl _ _).alloc (Nat.le_refl _) (.cells #[str an] 9)))
            have h9 := alloc_old (o := (.cells #[str an] 9)) h9
            have h8 := alloc_old (o := (.cells #[str an] 9)) h8
            have h6 := alloc_old (o := (.cells #[str an] 9)) h6
            have bC := bC.alloc bC.size (.cells #[str an] 9)
            have s11 := a11
            have s12 := a12
            clear a11 a12 l11 l12
            generalize V8.alloc (.cells #[str an] 9) = V9 at *
            generalize V8.heap.size = i2 at *
            refine zT 6 ?_
            refine zR 7 (fun K hK => ?_)
            have l11 := World.block_lt_of_cell? _ _ s11
            have l12 := World.block_lt_of_cell? _ _ s12
            have z9 := cell_of_heap h9 2
            have f9 : ∀ j, V9.frozen? ⟨w.heap.size + 1 + 1, j, none⟩ = false := fun j => free_of_heap h9 j
            have a11 : (V9.setCell ⟨w.heap.size + 1 + 1, 2, none⟩ (.slice (some ⟨i2, 0, none⟩) 1 1)).cell? ⟨b11, 0, none⟩ = some (str an) := by rw [World.cell?_setCell_other _ _ _ _ (by first | (simp; done) | (simp; omega))]; exact s11
            have a12 : (V9.setCell ⟨w.heap.size + 1 + 1, 2, none⟩ (.slice (some ⟨i2, 0, none⟩) 1 1)).cell? ⟨b12, 0, none⟩ = some (str bn) := by rw [World.cell?_setCell_other _ _ _ _ (by first | (simp; done) | (simp; omega))]; exact s12
            go_simp
            refine zB hK ⟨a11, a12⟩ (fun hHeld => ?_)
            clear hK K z9 f9
            have HNm := hide (HNm.out.keep (keep_set (j := 2) (u := .slice (some ⟨i2, 0, none⟩) 1 1) h9))
            have HOt := hide (HOt.out.keep (keep_set (j := 2) (u := .slice (some ⟨i2, 0, none⟩) 1 1) h9))
            have h8 := (heap_setCell_other V9 ⟨w.heap.size + 1 + 1, 2, none⟩ (w.heap.size + 1) (.slice (some ⟨i2, 0, none⟩) 1 1) (by first | (simp; done) | (simp; omega))).trans h8
            have h6 := (heap_setCell_other V9 ⟨w.heap.size + 1 + 1, 2, none⟩ w.heap.size (.slice (some ⟨i2, 0, none⟩) 1 1) (by first | (simp; done) | (simp; omega))).trans h6
            have h9 := heap_setCell_same V9 (w.heap.size + 1 + 1) 2 _ _ (.slice (some ⟨i2, 0, none⟩) 1 1) h9
            simp at h9
            have bC : Below w.heap.size w (V9.setCell ⟨w.heap.size + 1 + 1, 2, none⟩ (.slice (some ⟨i2, 0, none⟩) 1 1)) := bC.setCell (show w.heap.size ≤ w.heap.size + 1 + 1 by omega) _
            have s11 := a11
            have s12 := a12
            clear a11 a12 l11 l12
            generalize (V9.setCell ⟨w.heap.size + 1 + 1, 2, none⟩ (.slice (some ⟨i2, 0, none⟩) 1 1)) = V10 at *
            refine zT 8 ?_
            refine zR 9 (fun K hK => ?_)
            have l11 := World.block_lt_of_cell? _ _ s11
            have l12 := World.block_lt_of_cell? _ _ s12
            have z9 := cell_of_heap h9 3
            have f9 : ∀ j, V10.frozen? ⟨w.heap.size + 1 + 1, j, none⟩ = false := fun j => free_of_heap h9 j
            have a11 : (V10.setCell ⟨w.heap.size + 1 + 1, 3, none⟩ (.slice (some ⟨i5, 0, none⟩) 1 1)).cell? ⟨b11, 0, none⟩ = some (str an) := by rw [World.cell?_setCell_other _ _ _ _ (by first | (simp; done) | (simp; omega))]; exact s11
            have a12 : (V10.setCell ⟨w.heap.size + 1 + 1, 3, none⟩ (.slice (some ⟨i5, 0, none⟩) 1 1)).cell? ⟨b12, 0, none⟩ = some (str bn) := by rw [World.cell?_setCell_other _ _ _ _ (by first | (simp; done) | (simp; omega))]; exact s12
            go_simp
            refine zB hK ⟨a11, a12⟩ (fun hHeld => ?_)
            clear hK K z9 f9
            have HNm := hide (HNm.out.keep (keep_set (j := 3) (u := .slice (some ⟨i5, 0, none⟩) 1 1) h9))
            have HOt := hide (HOt.out.keep (keep_set (j := 3) (u := .slice (some ⟨i5, 0, none⟩) 1 1) h9))
            have h8 := (heap_setCell_other V10 ⟨w.heap.size + 1 + 1, 3, none⟩ (w.heap.size + 1) (.slice (some ⟨i5, 0, none⟩) 1 1) (by first | (simp; done) | (simp; omega))).trans h8
            have h6 := (heap_setCell_other V10 ⟨w.heap.size + 1 + 1, 3, none⟩ w.heap.size (.slice (some ⟨i5, 0, none⟩) 1 1) (by first | (simp; done) | (simp; omega))).trans h6
            have h9 := heap_setCell_same V10 (w.heap.size + 1 + 1) 3 _ _ (.slice (some ⟨i5, 0, none⟩) 1 1) h9
            simp at h9
            have bC : Below w.heap.size w (V10.setCell ⟨w.heap.size + 1 + 1, 3, none⟩ (.slice (some ⟨i5, 0, none⟩) 1 1)) := bC.setCell (show w.heap.size ≤ w.heap.size + 1 + 1 by omega) _
            have s11 := a11
            have s12 := a12
            clear a11 a12 l11 l12
            generalize (V10.setCell ⟨w.heap.size + 1 + 1, 3, none⟩ (.slice (some ⟨i5, 0, none⟩) 1 1)) = V11 at *
            clear hHeld s11 s12
            refine wpAnyH_done (by kernel_rfl) ?_ _
            go_upto_region 10 with fail
            all_goals first | (exfalso; omega) | (exfalso; simp_all; done) | skip
            all_goals
              have g0 := cell_of_heap h9 0
              have g1 := cell_of_heap h9 1
              have g2 := cell_of_heap h9 2
              have g3 := cell_of_heap h9 3
              have g4 := cell_of_heap h9 4
              have g5 := cell_of_heap h9 5
              have y0 := cell_of_heap h8 0
              have y1 := cell_of_heap h8 1
              have y2 := cell_of_heap h8 2
              have y3 := cell_of_heap h8 3
              have y4 := cell_of_heap h8 4
              have y5 := cell_of_heap h8 5
              have fr : ∀ j, V11.frozen? ⟨w.heap.size + 1, j, none⟩ = false := fun j => free_of_heap h8 j
              have HFin := hide (firm_step (w := V11) (s := ⟨op, rn, [an], [bn], [], []⟩) (a := ⟨some ⟨i2, 0, none⟩, 1, some ⟨i5, 0, none⟩, 1, none, 0, none, 0⟩) HNm.out HOt.out (firm_noIt _) (firm_noNd _) (Nat.le_refl _) (Nat.le_refl _) (Nat.le_refl _))
              go_wp2
              refine join_ret (b := w.heap.size + 1) ?_ ?_ (set6_heap h8 _ _ _ _ _ _) ?_
              · first | rfl | (simp; done) | kernel_rfl
              · rfl
              · refine ⟨⟨⟨some ⟨i2, 0, none⟩, 1, some ⟨i5, 0, none⟩, 1, none, 0, none, 0⟩, ?_, ?_⟩, below_set6 bC (Nat.le_succ _) _ _ _ _ _ _⟩
                · rw [HJ2.out]
                  first | rfl | (have e : op = 4 := (by assumption); subst e; rfl) | (have e : op = 5 := (by assumption); subst e; rfl) | (have e : op = 6 := (by assumption); subst e; rfl) | (have e : op = 7 := (by assumption); subst e; rfl)
                · rw [HJ2.out]
                  exact HFin.out.keep (keep_set6 h8 _ _ _ _ _ _)
        · have q1 : ((wr.alloc (.cells #[str bn, .int .i64 ak, .bool bb] 105)).alloc (.cells #[str an, .int .i64 ak, .bool ab] 105)).drew.heap[wr.heap.size]? = some (.cells #[str bn, .int .i64 ak, .bool bb] 105) := by
            show ((wr.alloc (.cells #[str bn, .int .i64 ak, .bool bb] 105)).alloc (.cells #[str an, .int .i64 ak, .bool ab] 105)).heap[wr.heap.size]? = some (.cells #[str bn, .int .i64 ak, .bool bb] 105)
            exact alloc_old (heap_alloc_new wr (.cells #[str bn, .int .i64 ak, .bool bb] 105))
          have q2 : ((wr.alloc (.cells #[str bn, .int .i64 ak, .bool bb] 105)).alloc (.cells #[str an, .int .i64 ak, .bool ab] 105)).drew.heap[wr.heap.size + 1]? = some (.cells #[str an, .int .i64 ak, .bool ab] 105) := by
            show ((wr.alloc (.cells #[str bn, .int .i64 ak, .bool bb] 105)).alloc (.cells #[str an, .int .i64 ak, .bool ab] 105)).heap[wr.heap.size + 1]? = some (.cells #[str an, .int .i64 ak, .bool ab] 105)
            have h := heap_alloc_new (wr.alloc (.cells #[str bn, .int .i64 ak, .bool bb] 105)) (.cells #[str an, .int .i64 ak, .bool ab] 105)
            rw [World.size_alloc] at h
            exact h
          have h11 := q2
          have h12 := q1
          clear q1 q2
          have b3D : Below w3.heap.size w3 ((wr.alloc (.cells #[str bn, .int .i64 ak, .bool bb] 105)).alloc (.cells #[str an, .int .i64 ak, .bool ab] 105)).drew := Below.drew ((hbel.alloc hsz _).alloc (by rw [World.size_alloc]; omega) _)
          have hge : w3.heap.size ≤ wr.heap.size := hsz
          have h9 := (b3D.block _ (lt_of_heap h9)).trans h9
          have h8 := (b3D.block _ (lt_of_heap h8)).trans h8
          have h6 := (b3D.block _ (lt_of_heap h6)).trans h6
          have bC := bel2 b3D hb3
          obtain ⟨b11, e11⟩ : ∃ b, b = (wr.heap.size + 1) := ⟨_, rfl⟩
          obtain ⟨b12, e12⟩ : ∃ b, b = wr.heap.size := ⟨_, rfl⟩
          have ne11 : w.heap.size + 1 + 1 ≠ b11 := by omega
          have ne12 : w.heap.size + 1 + 1 ≠ b12 := by omega
          generalize ((wr.alloc (.cells #[str bn, .int .i64 ak, .bool bb] 105)).alloc (.cells #[str an, .int .i64 ak, .bool ab] 105)).drew = wD at *
          rw [← e11] at h11 ⊢
          rw [← e12] at h12 ⊢
          clear e11 e12
          have n11 := cell_of_heap h11 0
          have k11 := cell_of_heap h11 1
          have n12 := cell_of_heap h12 0
          have k12 := cell_of_heap h12 1
          simp at n11 k11 n12 k12
          go_upto_region 7 with fail
          have bD : Below wD.heap.size wD wD.drew := Below.drew (Below.refl _ _)
          have s11 := (bD.cell (p := ⟨b11, 0, none⟩) (lt_of_heap h11)).trans n11
          have s12 := (bD.cell (p := ⟨b12, 0, none⟩) (lt_of_heap h12)).trans n12
          have t9 := (bD.block _ (lt_of_heap h9)).trans h9
          have t8 := (bD.block _ (lt_of_heap h8)).trans h8
          have t6 := (bD.block _ (lt_of_heap h6)).trans h6
          have bC := bel2 bD bC
          refine wp_region_held_drew (S := (fun w' => w'.cell? ⟨b11, 0, none⟩ = some (str an) ∧ w'.cell? ⟨b12, 0, none⟩ = some (str bn))) (by kernel_rfl) (by (try dsimp only); exact ⟨s11, s12⟩) (fun hHeld => ?_)
          clear h9 h8 h6 n11 n12
          generalize wD.drew = W0 at *
          have h9 := t9
          have h8 := t8
          have h6 := t6
          clear t9 t8 t6 bD
          refine zT 0 ?_; refine zT 1 ?_; refine zT 3 ?_; refine zT 4 ?_
          refine wpAnyH_ready (rs := [2, 5]) (by kernel_rfl) (by simp) ?_
          refine AllReadyH.cons rfl (fun K hK => ?_) (AllReadyH.cons rfl (fun K hK => ?_) AllReadyH.nil)
          · have l11 := World.block_lt_of_cell? _ _ s11
            have l12 := World.block_lt_of_cell? _ _ s12
            have a11 : (W0.alloc (.cells #[str an] 9)).cell? ⟨b11, 0, none⟩ = some (str an) := by rw [World.cell?_alloc_lt _ _ _ l11]; exact s11
            have a12 : (W0.alloc (.cells #[str an] 9)).cell? ⟨b12, 0, none⟩ = some (str bn) := by rw [World.cell?_alloc_lt _ _ _ l12]; exact s12
            go_simp
            refine zB hK ⟨a11, a12⟩ (fun hHeld => ?_)
            clear hK K
            have HNm := hide (firm_strs (l := [an]) (heap_alloc_new W0 (.cells #[str an] 9)))
            have h9 := alloc_old (o := (.cells #[str an] 9)) h9
            have h8 := alloc_old (o := (.cells #[str an] 9)) h8
            have h6 := alloc_old (o := (.cells #[str an] 9)) h6
            have bC := bC.alloc bC.size (.cells #[str an] 9)
            have s11 := a11
            have s12 := a12
            clear a11 a12 l11 l12
            generalize W0.alloc (.cells #[str an] 9) = V1 at *
            generalize W0.heap.size = i2 at *
            refine zT 6 ?_
            refine wpAnyH_ready (rs := [5, 7]) (by kernel_rfl) (by simp) ?_
            refine AllReadyH.cons rfl (fun K hK => ?_) (AllReadyH.cons rfl (fun K hK => ?_) AllReadyH.nil)
            · have l11 := World.block_lt_of_cell? _ _ s11
              have l12 := World.block_lt_of_cell? _ _ s12
              have a11 : (V1.alloc (.cells #[str bn] 9)).cell? ⟨b11, 0, none⟩ = some (str an) := by rw [World.cell?_alloc_lt _ _ _ l11]; exact s11
              have a12 : (V1.alloc (.cells #[str bn] 9)).cell? ⟨b12, 0, none⟩ = some (str bn) := by rw [World.cell?_alloc_lt _ _ _ l12]; exact s12
              go_simp
              refine zB hK ⟨a11, a12⟩ (fun hHeld => ?_)
              clear hK K
              have HOt := hide (firm_strs (l := [bn]) (heap_alloc_new V1 (.cells #[str bn] 9)))
              have HNm := hide (HNm.out.below ((Below.refl _ _).alloc (Nat.le_refl _) (.cells #[str bn] 9)))
              have h9 := alloc_old (o := (.cells #[str bn] 9)) h9
              have h8 := alloc_old (o := (.cells #[str bn] 9)) h8
              have h6 := alloc_old (o := (.cells #[str bn] 9)) h6
              have bC := bC.alloc bC.size (.cells #[str bn] 9)
              have s11 := a11
              have s12 := a12
              clear a11 a12 l11 l12
              generalize V1.alloc (.cells #[str bn] 9) = V2 at *
              generalize V1.heap.size = i5 at *
              refine zR 7 (fun K hK => ?_)
              have l11 := World.block_lt_of_cell? _ _ s11
              have l12 := World.block_lt_of_cell? _ _ s12
              have z9 := cell_of_heap h9 2
              have f9 : ∀ j, V2.frozen? ⟨w.heap.size + 1 + 1, j, none⟩ = false := fun j => free_of_heap h9 j
              have a11 : (V2.setCell ⟨w.heap.size + 1 + 1, 2, none⟩ (.slice (some ⟨i2, 0, none⟩) 1 1)).cell? ⟨b11, 0, none⟩ = some (str an) := by rw [World.cell?_setCell_other _ _ _ _ (by first | (simp; done) | (simp; omega))]; exact s11
              have a12 : (V2.setCell ⟨w.heap.size + 1 + 1, 2, none⟩ (.slice (some ⟨i2, 0, none⟩) 1 1)).cell? ⟨b12, 0, none⟩ = some (str bn) := by rw [World.cell?_setCell_other _ _ _ _ (by first | (simp; done) | (simp; omega))]; exact s12
              go_simp
              refine zB hK ⟨a11, a12⟩ (fun hHeld => ?_)
              clear hK K z9 f9
              have HNm := hide (HNm.out.keep (keep_set (j := 2) (u := .slice (some ⟨i2, 0, none⟩) 1 1) h9))
              have HOt := hide (HOt.out.keep (keep_set (j := 2) (u := .slice (some ⟨i2, 0, none⟩) 1 1) h9))
              have h8 := (heap_setCell_other V2 ⟨w.heap.size + 1 + 1, 2, none⟩ (w.heap.size + 1) (.slice (some ⟨i2, 0, none⟩) 1 1) (by first | (simp; done) | (simp; omega))).trans h8
              have h6 := (heap_setCell_other V2 ⟨w.heap.size + 1 + 1, 2, none⟩ w.heap.size (.slice (some ⟨i2, 0, none⟩) 1 1) (by first | (simp; done) | (simp; omega))).trans h6
              have h9 := heap_setCell_same V2 (w.heap.size + 1 + 1) 2 _ _ (.slice (some ⟨i2, 0, none⟩) 1 1) h9
              simp at h9
              have bC : Below w.heap.size w (V2.setCell ⟨w.heap.size + 1 + 1, 2, none⟩ (.slice (some ⟨i2, 0, none⟩) 1 1)) := bC.setCell (show w.heap.size ≤ w.heap.size + 1 + 1 by omega) _
              have s11 := a11
              have s12 := a12
              clear a11 a12 l11 l12
              generalize (V2.setCell ⟨w.heap.size + 1 + 1, 2, none⟩ (.slice (some ⟨i2, 0, none⟩) 1 1)) = V3 at *
              refine zT 8 ?_
              refine zR 9 (fun K hK => ?_)
              have l11 := World.block_lt_of_cell? _ _ s11
              have l12 := World.block_lt_of_cell? _ _ s12
              have z9 := cell_of_heap h9 3
              have f9 : ∀ j, V3.frozen? ⟨w.heap.size + 1 + 1, j, none⟩ = false := fun j => free_of_heap h9 j
              have a11 : (V3.setCell ⟨w.heap.size + 1 + 1, 3, none⟩ (.slice (some ⟨i5, 0, none⟩) 1 1)).cell? ⟨b11, 0, none⟩ = some (str an) := by rw [World.cell?_setCell_other _ _ _ _ (by first | (simp; done) | (simp; omega))]; exact s11
              have a12 : (V3.setCell ⟨w.heap.size + 1 + 1, 3, none⟩ (.slice (some ⟨i5, 0, none⟩) 1 1)).cell? ⟨b12, 0, none⟩ = some (str bn) := by rw [World.cell?_setCell_other _ _ _ _ (by first | (simp; done) | (simp; omega))]; exact s12
              go_simp
              refine zB hK ⟨a11, a12⟩ (fun hHeld => ?_)
              clear hK K z9 f9
              have HNm := hide (HNm.out.keep (keep_set (j := 3) (u := .slice (some ⟨i5, 0, none⟩) 1 1) h9))
              have HOt := hide (HOt.out.keep (keep_set (j := 3) (u := .slice (some ⟨i5, 0, none⟩) 1 1) h9))
              have h8 := (heap_setCell_other V3 ⟨w.heap.size + 1 + 1, 3, none⟩ (w.heap.size + 1) (.slice (some ⟨i5, 0, none⟩) 1 1) (by first | (simp; done) | (simp; omega))).trans h8
              have h6 := (heap_setCell_other V3 ⟨w.heap.size + 1 + 1, 3, none⟩ w.heap.size (.slice (some ⟨i5, 0, none⟩) 1 1) (by first | (simp; done) | (simp; omega))).trans h6
              have h9 := heap_setCell_same V3 (w.heap.size + 1 + 1) 3 _ _ (.slice (some ⟨i5, 0, none⟩) 1 1) h9
              simp at h9
              have bC : Below w.heap.size w (V3.setCell ⟨w.heap.size + 1 + 1, 3, none⟩ (.slice (some ⟨i5, 0, none⟩) 1 1)) := bC.setCell (show w.heap.size ≤ w.heap.size + 1 + 1 by omega) _
              have s11 := a11
              have s12 := a12
              clear a11 a12 l11 l12
              generalize (V3.setCell ⟨w.heap.size + 1 + 1, 3, none⟩ (.slice (some ⟨i5, 0, none⟩) 1 1)) = V4 at *
              clear hHeld s11 s12
              refine wpAnyH_done (by kernel_rfl) ?_ _
              go_upto_region 10 with fail
              all_goals first | (exfalso; omega) | (exfalso; simp_all; done) | skip
              all_goals
                have g0 := cell_of_heap h9 0
                have g1 := cell_of_heap h9 1
                have g2 := cell_of_heap h9 2
                have g3 := cell_of_heap h9 3
                have g4 := cell_of_heap h9 4
                have g5 := cell_of_heap h9 5
                have y0 := cell_of_heap h8 0
                have y1 := cell_of_heap h8 1
                have y2 := cell_of_heap h8 2
                have y3 := cell_of_heap h8 3
                have y4 := cell_of_heap h8 4
                have y5 := cell_of_heap h8 5
                have fr : ∀ j, V4.frozen? ⟨w.heap.size + 1, j, none⟩ = false := fun j => free_of_heap h8 j
                have HFin := hide (firm_step (w := V4) (s := ⟨op, rn, [an], [bn], [], []⟩) (a := ⟨some ⟨i2, 0, none⟩, 1, some ⟨i5, 0, none⟩, 1, none, 0, none, 0⟩) HNm.out HOt.out (firm_noIt _) (firm_noNd _) (Nat.le_refl _) (Nat.le_refl _) (Nat.le_refl _))
                go_wp2
                refine join_ret (b := w.heap.size + 1) ?_ ?_ (set6_heap h8 _ _ _ _ _ _) ?_
                · first | rfl | (simp; done) | kernel_rfl
                · rfl
                · refine ⟨⟨⟨some ⟨i2, 0, none⟩, 1, some ⟨i5, 0, none⟩, 1, none, 0, none, 0⟩, ?_, ?_⟩, below_set6 bC (Nat.le_succ _) _ _ _ _ _ _⟩
                  · rw [HJ2.out]
                    first | rfl | (have e : op = 4 := (by assumption); subst e; rfl) | (have e : op = 5 := (by assumption); subst e; rfl) | (have e : op = 6 := (by assumption); subst e; rfl) | (have e : op = 7 := (by assumption); subst e; rfl)
                  · rw [HJ2.out]
                    exact HFin.out.keep (keep_set6 h8 _ _ _ _ _ _)
            · have l11 := World.block_lt_of_cell? _ _ s11
              have l12 := World.block_lt_of_cell? _ _ s12
              have z9 := cell_of_heap h9 2
              have f9 : ∀ j, V1.frozen? ⟨w.heap.size + 1 + 1, j, none⟩ = false := fun j => free_of_heap h9 j
              have a11 : (V1.setCell ⟨w.heap.size + 1 + 1, 2, none⟩ (.slice (some ⟨i2, 0, none⟩) 1 1)).cell? ⟨b11, 0, none⟩ = some (str an) := by rw [World.cell?_setCell_other _ _ _ _ (by first | (simp; done) | (simp; omega))]; exact s11
              have a12 : (V1.setCell ⟨w.heap.size + 1 + 1, 2, none⟩ (.slice (some ⟨i2, 0, none⟩) 1 1)).cell? ⟨b12, 0, none⟩ = some (str bn) := by rw [World.cell?_setCell_other _ _ _ _ (by first | (simp; done) | (simp; omega))]; exact s12
              go_simp
              refine zB hK ⟨a11, a12⟩ (fun hHeld => ?_)
              clear hK K z9 f9
              have HNm := hide (HNm.out.keep (keep_set (j := 2) (u := .slice (some ⟨i2, 0, none⟩) 1 1) h9))
              have h8 := (heap_setCell_other V1 ⟨w.heap.size + 1 + 1, 2, none⟩ (w.heap.size + 1) (.slice (some ⟨i2, 0, none⟩) 1 1) (by first | (simp; done) | (simp; omega))).trans h8
              have h6 := (heap_setCell_other V1 ⟨w.heap.size + 1 + 1, 2, none⟩ w.heap.size (.slice (some ⟨i2, 0, none⟩) 1 1) (by first | (simp; done) | (simp; omega))).trans h6
              have h9 := heap_setCell_same V1 (w.heap.size + 1 + 1) 2 _ _ (.slice (some ⟨i2, 0, none⟩) 1 1) h9
              simp at h9
              have bC : Below w.heap.size w (V1.setCell ⟨w.heap.size + 1 + 1, 2, none⟩ (.slice (some ⟨i2, 0, none⟩) 1 1)) := bC.setCell (show w.heap.size ≤ w.heap.size + 1 + 1 by omega) _
              have s11 := a11
              have s12 := a12
              clear a11 a12 l11 l12
              generalize (V1.setCell ⟨w.heap.size + 1 + 1, 2, none⟩ (.slice (some ⟨i2, 0, none⟩) 1 1)) = V5 at *
              refine zR 5 (fun K hK => ?_)
              have l11 := World.block_lt_of_cell? _ _ s11
              have l12 := World.block_lt_of_cell? _ _ s12
              have a11 : (V5.alloc (.cells #[str bn] 9)).cell? ⟨b11, 0, none⟩ = some (str an) := by rw [World.cell?_alloc_lt _ _ _ l11]; exact s11
              have a12 : (V5.alloc (.cells #[str bn] 9)).cell? ⟨b12, 0, none⟩ = some (str bn) := by rw [World.cell?_alloc_lt _ _ _ l12]; exact s12
              go_simp
              refine zB hK ⟨a11, a12⟩ (fun hHeld => ?_)
              clear hK K
              have HOt := hide (firm_strs (l := [bn]) (heap_alloc_new V5 (.cells #[str bn] 9)))
              have HNm := hide (HNm.out.below ((Below.refl _ _).alloc (Nat.le_refl _) (.cells #[str bn] 9)))
              have h9 := alloc_old (o := (.cells #[str bn] 9)) h9
              have h8 := alloc_old (o := (.cells #[str bn] 9)) h8
              have h6 := alloc_old (o := (.cells #[str bn] 9)) h6
              have bC := bC.alloc bC.size (.cells #[str bn] 9)
              have s11 := a11
              have s12 := a12
              clear a11 a12 l11 l12
              generalize V5.alloc (.cells #[str bn] 9) = V6 at *
              generalize V5.heap.size = i5 at *
              refine zT 8 ?_
              refine zR 9 (fun K hK => ?_)
              have l11 := World.block_lt_of_cell? _ _ s11
              have l12 := World.block_lt_of_cell? _ _ s12
              have z9 := cell_of_heap h9 3
              have f9 : ∀ j, V6.frozen? ⟨w.heap.size + 1 + 1, j, none⟩ = false := fun j => free_of_heap h9 j
              have a11 : (V6.setCell ⟨w.heap.size + 1 + 1, 3, none⟩ (.slice (some ⟨i5, 0, none⟩) 1 1)).cell? ⟨b11, 0, none⟩ = some (str an) := by rw [World.cell?_setCell_other _ _ _ _ (by first | (simp; done) | (simp; omega))]; exact s11
              have a12 : (V6.setCell ⟨w.heap.size + 1 + 1, 3, none⟩ (.slice (some ⟨i5, 0, none⟩) 1 1)).cell? ⟨b12, 0, none⟩ = some (str bn) := by rw [World.cell?_setCell_other _ _ _ _ (by first | (simp; done) | (simp; omega))]; exact s12
              go_simp
              refine zB hK ⟨a11, a12⟩ (fun hHeld => ?_)
              clear hK K z9 f9
              have HNm := hide (HNm.out.keep (keep_set (j := 3) (u := .slice (some ⟨i5, 0, none⟩) 1 1) h9))
              have HOt := hide (HOt.out.keep (keep_set (j := 3) (u := .slice (some ⟨i5, 0, none⟩) 1 1) h9))
              have h8 := (heap_setCell_other V6 ⟨w.heap.size + 1 + 1, 3, none⟩ (w.heap.size + 1) (.slice (some ⟨i5, 0, none⟩) 1 1) (by first | (simp; done) | (simp; omega))).trans h8
              have h6 := (heap_setCell_other V6 ⟨w.heap.size + 1 + 1, 3, none⟩ w.heap.size (.slice (some ⟨i5, 0, none⟩) 1 1) (by first | (simp; done) | (simp; omega))).trans h6
              have h9 := heap_setCell_same V6 (w.heap.size + 1 + 1) 3 _ _ (.slice (some ⟨i5, 0, none⟩) 1 1) h9
              simp at h9
              have bC : Below w.heap.size w (V6.setCell ⟨w.heap.size + 1 + 1, 3, none⟩ (.slice (some ⟨i5, 0, none⟩) 1 1)) := bC.setCell (show w.heap.size ≤ w.heap.size + 1 + 1 by omega) _
              have s11 := a11
              have s12 := a12
              clear a11 a12 l11 l12
              generalize (V6.setCell ⟨w.heap.size + 1 + 1, 3, none⟩ (.slice (some ⟨i5, 0, none⟩) 1 1)) = V7 at *
              clear hHeld s11 s12
              refine wpAnyH_done (by kernel_rfl) ?_ _
              go_upto_region 10 with fail
              all_goals first | (exfalso; omega) | (exfalso; simp_all; done) | skip
              all_goals
                have g0 := cell_of_heap h9 0
                have g1 := cell_of_heap h9 1
                have g2 := cell_of_heap h9 2
                have g3 := cell_of_heap h9 3
                have g4 := cell_of_heap h9 4
                have g5 := cell_of_heap h9 5
                have y0 := cell_of_heap h8 0
                have y1 := cell_of_heap h8 1
                have y2 := cell_of_heap h8 2
                have y3 := cell_of_heap h8 3
                have y4 := cell_of_heap h8 4
                have y5 := cell_of_heap h8 5
                have fr : ∀ j, V7.frozen? ⟨w.heap.size + 1, j, none⟩ = false := fun j => free_of_heap h8 j
                have HFin := hide (firm_step (w := V7) (s := ⟨op, rn, [an], [bn], [], []⟩) (a := ⟨some ⟨i2, 0, none⟩, 1, some ⟨i5, 0, none⟩, 1, none, 0, none, 0⟩) HNm.out HOt.out (firm_noIt _) (firm_noNd _) (Nat.le_refl _) (Nat.le_refl _) (Nat.le_refl _))
                go_wp2
                refine join_ret (b := w.heap.size + 1) ?_ ?_ (set6_heap h8 _ _ _ _ _ _) ?_
                · first | rfl | (simp; done) | kernel_rfl
                · rfl
                · refine ⟨⟨⟨some ⟨i2, 0, none⟩, 1, some ⟨i5, 0, none⟩, 1, none, 0, none, 0⟩, ?_, ?_⟩, below_set6 bC (Nat.le_succ _) _ _ _ _ _ _⟩
                  · rw [HJ2.out]
                    first | rfl | (have e : op = 4 := (by assumption); subst e; rfl) | (have e : op = 5 := (by assumption); subst e; rfl) | (have e : op = 6 := (by assumption); subst e; rfl) | (have e : op = 7 := (by assumption); subst e; rfl)
                  · rw [HJ2.out]
                    exact HFin.out.keep (keep_set6 h8 _ _ _ _ _ _)
          · have l11 := World.block_lt_of_cell? _ _ s11
            have l12 := World.block_lt_of_cell? _ _ s12
            have a11 : (W0.alloc (.cells #[str bn] 9)).cell? ⟨b11, 0, none⟩ = some (str an) := by rw [World.cell?_alloc_lt _ _ _ l11]; exact s11
            have a12 : (W0.alloc (.cells #[str bn] 9)).cell? ⟨b12, 0, none⟩ = some (str bn) := by rw [World.cell?_alloc_lt _ _ _ l12]; exact s12
            go_simp
            refine zB hK ⟨a11, a12⟩ (fun hHeld => ?_)
            clear hK K
            have HOt := hide (firm_strs (l := [bn]) (heap_alloc_new W0 (.cells #[str bn] 9)))
            have h9 := alloc_old (o := (.cells #[str bn] 9)) h9
            have h8 := alloc_old (o := (.cells #[str bn] 9)) h8
            have h6 := alloc_old (o := (.cells #[str bn] 9)) h6
            have bC := bC.alloc bC.size (.cells #[str bn] 9)
            have s11 := a11
            have s12 := a12
            clear a11 a12 l11 l12
            generalize W0.alloc (.cells #[str bn] 9) = V8 at *
            generalize W0.heap.size = i5 at *
            refine zR 2 (fun K hK => ?_)
            have l11 := World.block_lt_of_cell? _ _ s11
            have l12 := World.block_lt_of_cell? _ _ s12
            have a11 : (V8.alloc (.cells #[str an] 9)).cell? ⟨b11, 0, none⟩ = some (str an) := by rw [World.cell?_alloc_lt _ _ _ l11]; exact s11
            have a12 : (V8.alloc (.cells #[str an] 9)).cell? ⟨b12, 0, none⟩ = some (str bn) := by rw [World.cell?_alloc_lt _ _ _ l12]; exact s12
            go_simp
            refine zB hK ⟨a11, a12⟩ (fun hHeld => ?_)
            clear hK K
            have HNm := hide (firm_strs (l := [an]) (heap_alloc_new V8 (.cells #[str an] 9)))
            have HOt := hide (HOt.out.below ((Below.refl _ _).alloc (Nat.le_refl _) (.cells #[str an] 9)))
            have h9 := alloc_old (o := (.cells #[str an] 9)) h9
            have h8 := alloc_old (o := (.cells #[str an] 9)) h8
            have h6 := alloc_old (o := (.cells #[str an] 9)) h6
            have bC := bC.alloc bC.size (.cells #[str an] 9)
            have s11 := a11
            have s12 := a12
            clear a11 a12 l11 l12
            generalize V8.alloc (.cells #[str an] 9) = V9 at *
            generalize V8.heap.size = i2 at *
            refine zT 6 ?_
            refine zR 7 (fun K hK => ?_)
            have l11 := World.block_lt_of_cell? _ _ s11
            have l12 := World.block_lt_of_cell? _ _ s12
            have z9 := cell_of_heap h9 2
            have f9 : ∀ j, V9.frozen? ⟨w.heap.size + 1 + 1, j, none⟩ = false := fun j => free_of_heap h9 j
            have a11 : (V9.setCell ⟨w.heap.size + 1 + 1, 2, none⟩ (.slice (some ⟨i2, 0, none⟩) 1 1)).cell? ⟨b11, 0, none⟩ = some (str an) := by rw [World.cell?_setCell_other _ _ _ _ (by first | (simp; done) | (simp; omega))]; exact s11
            have a12 : (V9.setCell ⟨w.heap.size + 1 + 1, 2, none⟩ (.slice (some ⟨i2, 0, none⟩) 1 1)).cell? ⟨b12, 0, none⟩ = some (str bn) := by rw [World.cell?_setCell_other _ _ _ _ (by first | (simp; done) | (simp; omega))]; exact s12
            go_simp
            refine zB hK ⟨a11, a12⟩ (fun hHeld => ?_)
            clear hK K z9 f9
            have HNm := hide (HNm.out.keep (keep_set (j := 2) (u := .slice (some ⟨i2, 0, none⟩) 1 1) h9))
            have HOt := hide (HOt.out.keep (keep_set (j := 2) (u := .slice (some ⟨i2, 0, none⟩) 1 1) h9))
            have h8 := (heap_setCell_other V9 ⟨w.heap.size + 1 + 1, 2, none⟩ (w.heap.size + 1) (.slice (some ⟨i2, 0, none⟩) 1 1) (by first | (simp; done) | (simp; omega))).trans h8
            have h6 := (heap_setCell_other V9 ⟨w.heap.size + 1 + 1, 2, none⟩ w.heap.size (.slice (some ⟨i2, 0, none⟩) 1 1) (by first | (simp; done) | (simp; omega))).trans h6
            have h9 := heap_setCell_same V9 (w.heap.size + 1 + 1) 2 _ _ (.slice (some ⟨i2, 0, none⟩) 1 1) h9
            simp at h9
            have bC : Below w.heap.size w (V9.setCell ⟨w.heap.size + 1 + 1, 2, none⟩ (.slice (some ⟨i2, 0, none⟩) 1 1)) := bC.setCell (show w.heap.size ≤ w.heap.size + 1 + 1 by omega) _
            have s11 := a11
            have s12 := a12
            clear a11 a12 l11 l12
            generalize (V9.setCell ⟨w.heap.size + 1 + 1, 2, none⟩ (.slice (some ⟨i2, 0, none⟩) 1 1)) = V10 at *
            refine zT 8 ?_
            refine zR 9 (fun K hK => ?_)
            have l11 := World.block_lt_of_cell? _ _ s11
            have l12 := World.block_lt_of_cell? _ _ s12
            have z9 := cell_of_heap h9 3
            have f9 : ∀ j, V10.frozen? ⟨w.heap.size + 1 + 1, j, none⟩ = false := fun j => free_of_heap h9 j
            have a11 : (V10.setCell ⟨w.heap.size + 1 + 1, 3, none⟩ (.slice (some ⟨i5, 0, none⟩) 1 1)).cell? ⟨b11, 0, none⟩ = some (str an) := by rw [World.cell?_setCell_other _ _ _ _ (by first | (simp; done) | (simp; omega))]; exact s11
            have a12 : (V10.setCell ⟨w.heap.size + 1 + 1, 3, none⟩ (.slice (some ⟨i5, 0, none⟩) 1 1)).cell? ⟨b12, 0, none⟩ = some (str bn) := by rw [World.cell?_setCell_other _ _ _ _ (by first | (simp; done) | (simp; omega))]; exact s12
            go_simp
            refine zB hK ⟨a11, a12⟩ (fun hHeld => ?_)
            clear hK K z9 f9
            have HNm := hide (HNm.out.keep (keep_set (j := 3) (u := .slice (some ⟨i5, 0, none⟩) 1 1) h9))
            have HOt := hide (HOt.out.keep (keep_set (j := 3) (u := .slice (some ⟨i5, 0, none⟩) 1 1) h9))
            have h8 := (heap_setCell_other V10 ⟨w.heap.size + 1 + 1, 3, none⟩ (w.heap.size + 1) (.slice (some ⟨i5, 0, none⟩) 1 1) (by first | (simp; done) | (simp; omega))).trans h8
            have h6 := (heap_setCell_other V10 ⟨w.heap.size + 1 + 1, 3, none⟩ w.heap.size (.slice (some ⟨i5, 0, none⟩) 1 1) (by first | (simp; done) | (simp; omega))).trans h6
            have h9 := heap_setCell_same V10 (w.heap.size + 1 + 1) 3 _ _ (.slice (some ⟨i5, 0, none⟩) 1 1) h9
            simp at h9
            have bC : Below w.heap.size w (V10.setCell ⟨w.heap.size + 1 + 1, 3, none⟩ (.slice (some ⟨i5, 0, none⟩) 1 1)) := bC.setCell (show w.heap.size ≤ w.heap.size + 1 + 1 by omega) _
            have s11 := a11
            have s12 := a12
            clear a11 a12 l11 l12
            generalize (V10.setCell ⟨w.heap.size + 1 + 1, 3, none⟩ (.slice (some ⟨i5, 0, none⟩) 1 1)) = V11 at *
            clear hHeld s11 s12
            refine wpAnyH_done (by kernel_rfl) ?_ _
            go_upto_region 10 with fail
            all_goals first | (exfalso; omega) | (exfalso; simp_all; done) | skip
            all_goals
              have g0 := cell_of_heap h9 0
              have g1 := cell_of_heap h9 1
              have g2 := cell_of_heap h9 2
              have g3 := cell_of_heap h9 3
              have g4 := cell_of_heap h9 4
              have g5 := cell_of_heap h9 5
              have y0 := cell_of_heap h8 0
              have y1 := cell_of_heap h8 1
              have y2 := cell_of_heap h8 2
              have y3 := cell_of_heap h8 3
              have y4 := cell_of_heap h8 4
              have y5 := cell_of_heap h8 5
              have fr : ∀ j, V11.frozen? ⟨w.heap.size + 1, j, none⟩ = false := fun j => free_of_heap h8 j
              have HFin := hide (firm_step (w := V11) (s := ⟨op, rn, [an], [bn], [], []⟩) (a := ⟨some ⟨i2, 0, none⟩, 1, some ⟨i5, 0, none⟩, 1, none, 0, none, 0⟩) HNm.out HOt.out (firm_noIt _) (firm_noNd _) (Nat.le_refl _) (Nat.le_refl _) (Nat.le_refl _))
              go_wp2
              refine join_ret (b := w.heap.size + 1) ?_ ?_ (set6_heap h8 _ _ _ _ _ _) ?_
              · first | rfl | (simp; done) | kernel_rfl
              · rfl
              · refine ⟨⟨⟨some ⟨i2, 0, none⟩, 1, some ⟨i5, 0, none⟩, 1, none, 0, none, 0⟩, ?_, ?_⟩, below_set6 bC (Nat.le_succ _) _ _ _ _ _ _⟩
                · rw [HJ2.out]
                  first | rfl | (have e : op = 4 := (by assumption); subst e; rfl) | (have e : op = 5 := (by assumption); subst e; rfl) | (have e : op = 6 := (by assumption); subst e; rfl) | (have e : op = 7 := (by assumption); subst e; rfl)
                · rw [HJ2.out]
                  exact HFin.out.keep (keep_set6 h8 _ _ _ _ _ _)
    · obtain rfl : k = ml := by omega
      have HJ2 := hide (show sj = ⟨op, rn, [], [], [], []⟩ from by rw [HJ.out, HI2.out, HNo.out (fun j hj => HZ.out j (by rw [HM.out]; exact hj))])
      have h9 := (hbel.block _ (lt_of_heap h9)).trans h9
      have h8 := (hbel.block _ (lt_of_heap h8)).trans h8
      have h6 := (hbel.block _ (lt_of_heap h6)).trans h6
      have bC := hbw
      go_upto_region 10 with fail
      all_goals first | (exfalso; omega) | (exfalso; simp_all; done) | skip
      all_goals
        have g0 := cell_of_heap h9 0
        have g1 := cell_of_heap h9 1
        have g2 := cell_of_heap h9 2
        have g3 := cell_of_heap h9 3
        have g4 := cell_of_heap h9 4
        have g5 := cell_of_heap h9 5
        have y0 := cell_of_heap h8 0
        have y1 := cell_of_heap h8 1
        have y2 := cell_of_heap h8 2
        have y3 := cell_of_heap h8 3
        have y4 := cell_of_heap h8 4
        have y5 := cell_of_heap h8 5
        have fr : ∀ j, wr.frozen? ⟨w.heap.size + 1, j, none⟩ = false := fun j => free_of_heap h8 j
        have HFin := hide (firm_step (w := wr) (s := ⟨op, rn, [], [], [], []⟩) (a := ⟨none, 0, none, 0, none, 0, none, 0⟩) (firm_none _) (firm_none _) (firm_noIt _) (firm_noNd _) (Nat.le_refl _) (Nat.le_refl _) (Nat.le_refl _))
        go_wp2
        refine join_ret (b := w.heap.size + 1) ?_ ?_ (set6_heap h8 _ _ _ _ _ _) ?_
        · first | rfl | (simp; done) | kernel_rfl
        · rfl
        · refine ⟨⟨⟨none, 0, none, 0, none, 0, none, 0⟩, ?_, ?_⟩, below_set6 bC (Nat.le_succ _) _ _ _ _ _ _⟩
          · rw [HJ2.out]
            first | rfl | (have e : op = 4 := (by assumption); subst e; rfl) | (have e : op = 5 := (by assumption); subst e; rfl) | (have e : op = 6 := (by assumption); subst e; rfl) | (have e : op = 7 := (by assumption); subst e; rfl)
          · rw [HJ2.out]
            exact HFin.out.keep (keep_set6 h8 _ _ _ _ _ _)
end Go.Proofs.YtmbeeefkpgfgmaaGreatDoor
