/- Contract, told: base.joined, whole; base.Step, the kinds that join. Contract, told: base.Step, whole. -/
import Derived.Test.YtmbeeefkpgfgmaaGreatDoorPq22
import Derived.Test.YtmbeeefkpgfgmaaGreatDoorPq27
import Derived.Test.YtmbeeefkpgfgmaaGreatDoorPq28
import Derived.Test.YtmbeeefkpgfgmaaGreatDoorPq07
import Derived.Test.YtmbeeefkpgfgmaaGreatDoorPq23
import Derived.Test.YtmbeeefkpgfgmaaGreatDoorPq24
import Derived.Test.YtmbeeefkpgfgmaaGreatDoorPq25
set_option linter.unusedVariables false
set_option linter.unusedSimpArgs false
namespace Go.Proofs.YtmbeeefkpgfgmaaGreatDoor
open Go.RowKit
theorem base_joined_any (op n : Int) (cs rcs : List Col) (rn : Bytes) (C : Option Addr) (c : Nat) (R : Option Addr) (rc : Nat) (w : World) (hC : ColsAt w C cs) (hp : 0 < cs.length) (hl : cs.length ≤ 12) (hR : ColsAt w R rcs) (hp2 : 0 < rcs.length) (hl2 : rcs.length ≤ 12) (h0 : 0 ≤ n) (h1 : n ≤ 1000000) (hop : 4 ≤ op) (hop2 : op ≤ 7) :
    Calls Tryz.prog 144 #[.int .i64 op, .slice C cs.length c, .agg #[str rn, .slice R rcs.length rc, .slice none 0 0, .slice none 0 0], .int .i64 n] w fun e w' => StpR (jnS op cs ⟨rn, rcs⟩ n) w' e ∧ Below w.heap.size w w' := by
  by_cases hit : (op = 4 ∨ op = 5) ∧ 0 < n / 64 % 4
  · exact joined_yes op n cs rcs rn C c R rc w hC hp hl hR hp2 hl2 h0 h1 hop hop2 hit
  · exact joined_no op n cs rcs rn C c R rc w hC hp hl hR hp2 hl2 h0 h1 hop hop2 hit
theorem jnN_len (cs rc : List Col) (n : Int) : (jnN cs rc n).1.length ≤ 1 ∧ (jnN cs rc n).2.length ≤ 1 := by
  unfold jnN
  split <;> simp
theorem jnS_ok {op : Int} {cs : List Col} {r : Rel} {n : Int} (h : r.name.length ≤ 100) : (jnS op cs r n).ok := by
  have h1 := jnN_len cs r.cols n
  refine ⟨Nat.le_trans h (by unfold maxLen; omega), Nat.le_trans h1.1 (by omega), Nat.le_trans h1.2 (by omega), ?_, ?_, Nat.zero_le _, fun x hx => (List.not_mem_nil hx).elim⟩
  · show (jnI op cs r.cols n).length ≤ 1000000
    unfold jnI
    split <;> simp
  · intro x hx
    have hx2 : x ∈ jnI op cs r.cols n := hx
    unfold jnI at hx2
    split at hx2
    · simp at hx2
      subst hx2
      exact ⟨fun n hn => (List.not_mem_nil hn).elim, Nat.zero_le _⟩
    · exact (List.not_mem_nil hx2).elim
theorem jnS_nm {op : Int} {cs : List Col} {r : Rel} {n : Int} (hl : cs.length ≤ 12) : ∀ x ∈ (jnS op cs r n).items, nmB x.name = true := by
  intro x hx
  have hx2 : x ∈ jnI op cs r.cols n := hx
  unfold jnI at hx2
  split at hx2
  · simp at hx2
    subst hx2
    exact (freS_ok n hl).1
  · exact (List.not_mem_nil hx2).elim
set_option maxRecDepth 100000 in
set_option maxHeartbeats 4000000 in
theorem step_join (cs : List Col) (rs : List Rel) (l : List Int) (i : Int) (hg : ColG cs) (hr : RelG rs) (h0 : 0 ≤ i) (h1 : i ≤ 1000) (hres : lAt l i % 13 = 5 ∨ lAt l i % 13 = 6) : StepTold cs rs l i := by
  have n0 := lAt_nn l i
  have n1 := lAt_top l i
  have k0 := lAt_nn l (i + 1)
  have k1 := lAt_top l (i + 1)
  have hcl := hg.le
  have hcp := hg.pos
  have hrp := hr.pos
  have hrl := hr.le
  obtain ⟨m, hm, hml⟩ : ∃ m : Nat, lAt l (i + 1) % (rs.length : Int) = m ∧ m < rs.length := ⟨(lAt l (i + 1) % (rs.length : Int)).toNat, by have := Int.emod_nonneg (lAt l (i + 1)) (show (rs.length : Int) ≠ 0 by omega); omega, by have := Int.emod_lt_of_pos (lAt l (i + 1)) (show (0 : Int) < rs.length by omega); have := Int.emod_nonneg (lAt l (i + 1)) (show (rs.length : Int) ≠ 0 by omega); omega⟩
  have hrm := hr.cols _ (List.getElem_mem hml)
  have hrn := hr.names _ (List.getElem_mem hml)
  refine ⟨jnS (4 + lAt l i / 13 % 4) cs rs[m] (lAt l (i + 1) / 4), jnS_ok hrn, (by show 4 + lAt l i / 13 % 4 ≠ 0; omega), jnS_nm hcl, fun C cc R rc L lc w hC hR hL => ?_⟩
  have HA1 := hide (fun W (hb : Below w.heap.size w W) => at_below L l i W lc (hL.below hb))
  have HA2 := hide (fun W (hb : Below w.heap.size w W) => at_below L l (i + 1) W lc (hL.below hb))
  have HG := hide hg
  have hCk := hide hC
  have hrp2 : 0 < (rs[m].cols).length := hrm.pos
  have hrl2 : (rs[m].cols).length ≤ 12 := hrm.le
  clear hrm hrn
  rcases hR with e | ⟨gr, or, rfl, hgr, hcr⟩
  · exact absurd hrp (by rw [e]; simp)
  obtain ⟨D, dc, r0, r1, r2, r3, hD⟩ := hcr m hml
  have HD := hide hD
  have hb0 : (0 : Int) ≤ (m : Int) ∧ (m : Int) < (rs.length : Int) := by omega
  have hz : ¬ (rs.length : Int) = 0 := by omega
  have h00 := Below.refl w.heap.size w
  clear hcr hD hC hL hg hr
  generalize hn : lAt l i = n at *
  generalize hk : lAt l (i + 1) = k at *
  clear hn hk
  generalize rs[m] = rel at *
  obtain ⟨rn, rcs⟩ := rel
  simp only at r0 r1 HD hrp2 hrl2
  have HJn := hide (fun W (hb : Below w.heap.size w W) => base_joined_any (4 + n / 13 % 4) (k / 4) cs rcs rn C cc D dc W (hCk.out.below hb) hcp hcl (HD.out.below hb) hrp2 hrl2 (by omega) (by omega) (by omega) (by omega))
  generalize jnS (4 + n / 13 % 4) cs ⟨rn, rcs⟩ (k / 4) = sj at *
  rcases hres with hres | hres
  all_goals
    go_enter Tryz.func83, Tryz.ntmps83
    go_wp2_with (first
    | (go_at_call 70; have _h := h00; refine (HA1.out _ zY).mono ?_; rintro e w1 ⟨rfl, hb1⟩; clear h00 _h; have hc1 : Below (w.heap.size + 1) (w.alloc (.cells #[.int .i64 0, str [], .slice none 0 0, .slice none 0 0, .slice none 0 0, .slice none 0 0] 27)) w1 := below_go (Below.refl _ _) (by simp) hb1; have hw1 := box_below hc1; clear hb1)
    | (go_at_call 70; refine (HA2.out _ hw1).mono ?_; rintro e w2 ⟨rfl, hb2⟩; have hc2 := below_go hc1 (by simp) hb2; have hw2 := box_below hc2; have t0 := (hw2.cell (p := ⟨gr, _, none⟩) hgr).trans r0; have t1 := (hw2.cell (p := ⟨gr, _, none⟩) hgr).trans r1; have t2 := (hw2.cell (p := ⟨gr, _, none⟩) hgr).trans r2; have t3 := (hw2.cell (p := ⟨gr, _, none⟩) hgr).trans r3; have hlw2 : w.heap.size < w2.heap.size := (by have h9 := hc2.size; rw [World.size_alloc] at h9; exact h9); have hlv2 : w.heap.size ≤ w2.heap.size := Nat.le_of_lt hlw2; clear hb2 hc1 hw1))
    refine (HJn.out _ (hw2.alloc hlv2 _)).mono ?_
    rintro e w3 ⟨⟨a, rfl, hFa⟩, hb3⟩
    have hc3 := below_go (hc2.alloc hlw2 _) (by simp) hb3
    have HFa := hide hFa
    clear hb3 hFa
    dsimp only [Stp.agg]
    have hhz := heap_of_below hc3 (Nat.lt_succ_self _)
    obtain ⟨z0, z1, z2, z3, z4, z5, hlw⟩ := box6 hc3
    have fr : ∀ j, w3.frozen? ⟨w.heap.size, j, none⟩ = false := fun j => free_of_heap hhz j
    have HFin := hide (HFa.out)
    have hbF := box_below hc3
    go_wp2
    refine step_ret (b := w.heap.size) ?_ ?_ (set6_heap hhz _ _ _ _ _ _) ?_
    · first | rfl | (simp; done) | kernel_rfl
    · rfl
    · exact ⟨⟨a, rfl, HFin.out.keep (keep_set6 hhz _ _ _ _ _ _)⟩, (below_set6 hbF (Nat.le_refl _) _ _ _ _ _ _)⟩
end Go.Proofs.YtmbeeefkpgfgmaaGreatDoor
namespace Go.Proofs.YtmbeeefkpgfgmaaGreatDoor
open Go.RowKit
theorem step_window (cs : List Col) (rs : List Rel) (l : List Int) (i : Int) (hg : ColG cs) (hr : RelG rs) (h0 : 0 ≤ i) (h1 : i ≤ 1000) (hres : lAt l i % 13 = 11 ∨ lAt l i % 13 = 12) : StepTold cs rs l i := by
  have hj : lAt l i / 13 % 8 = 0 ∨ lAt l i / 13 % 8 = 1 ∨ lAt l i / 13 % 8 = 2 ∨ lAt l i / 13 % 8 = 3 ∨ lAt l i / 13 % 8 = 4 ∨ lAt l i / 13 % 8 = 5 ∨ lAt l i / 13 % 8 = 6 ∨ lAt l i / 13 % 8 = 7 := by omega
  rcases hj with hj | hj | hj | hj | hj | hj | hj | hj
  · exact step_win cs rs l i hg hr h0 h1 1 false false (by rw [hj]; rfl) (by decide) (by decide) hres
  · exact step_win cs rs l i hg hr h0 h1 3 true false (by rw [hj]; rfl) (by decide) (by decide) hres
  · exact step_win cs rs l i hg hr h0 h1 8 false false (by rw [hj]; rfl) (by decide) (by decide) hres
  · exact step_win cs rs l i hg hr h0 h1 9 false false (by rw [hj]; rfl) (by decide) (by decide) hres
  · exact step_win cs rs l i hg hr h0 h1 10 true true (by rw [hj]; rfl) (by decide) (by decide) hres
  · exact step_win cs rs l i hg hr h0 h1 11 true true (by rw [hj]; rfl) (by decide) (by decide) hres
  · exact step_win cs rs l i hg hr h0 h1 12 true false (by rw [hj]; rfl) (by decide) (by decide) hres
  · exact step_win cs rs l i hg hr h0 h1 13 true false (by rw [hj]; rfl) (by decide) (by decide) hres
theorem step_told (cs : List Col) (rs : List Rel) (l : List Int) (i : Int) (hg : ColG cs) (hr : RelG rs) (h0 : 0 ≤ i) (h1 : i ≤ 1000) : StepTold cs rs l i := by
  have hm : lAt l i % 13 = 0 ∨ lAt l i % 13 = 1 ∨ lAt l i % 13 = 2 ∨ lAt l i % 13 = 3 ∨ lAt l i % 13 = 4 ∨ lAt l i % 13 = 5 ∨ lAt l i % 13 = 6 ∨ lAt l i % 13 = 7 ∨ lAt l i % 13 = 8 ∨ lAt l i % 13 = 9 ∨ lAt l i % 13 = 10 ∨ lAt l i % 13 = 11 ∨ lAt l i % 13 = 12 := by omega
  have hgrp : (lAt l i % 13 = 9 ∨ lAt l i % 13 = 10) → StepTold cs rs l i := fun hres => by
    by_cases hf : lAt l i / 13 % 7 = 0
    · by_cases hn : 0 < lAt l (i + 1) / 64 % 8
      · exact step_grp_c cs rs l i hg hr h0 h1 ⟨hres, hf, hn⟩
      · exact step_grp_a cs rs l i hg hr h0 h1 ⟨hres, hf, by omega⟩
    · by_cases hn : 0 < lAt l (i + 1) / 64 % 8
      · exact step_grp_d cs rs l i hg hr h0 h1 ⟨hres, hf, hn⟩
      · exact step_grp_b cs rs l i hg hr h0 h1 ⟨hres, hf, by omega⟩
  rcases hm with h | h | h | h | h | h | h | h | h | h | h | h | h
  · exact step_where cs rs l i hg hr h0 h1 (.inl h)
  · exact step_where cs rs l i hg hr h0 h1 (.inr h)
  · exact step_derive cs rs l i hg hr h0 h1 (.inl h)
  · exact step_derive cs rs l i hg hr h0 h1 (.inr h)
  · exact step_select cs rs l i hg hr h0 h1 h
  · exact step_join cs rs l i hg hr h0 h1 (.inl h)
  · exact step_join cs rs l i hg hr h0 h1 (.inr h)
  · exact step_union cs rs l i hg hr h0 h1 h
  · exact step_distinct cs rs l i hg hr h0 h1 h
  · exact hgrp (.inl h)
  · exact hgrp (.inr h)
  · exact step_window cs rs l i hg hr h0 h1 (.inl h)
  · exact step_window cs rs l i hg hr h0 h1 (.inr h)
end Go.Proofs.YtmbeeefkpgfgmaaGreatDoor
