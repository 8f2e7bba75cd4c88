/- Parts of the proof. -/
import Derived.Test.YtnpjibaolicbmaaGreatDoorPp16
set_option linter.unusedVariables false
set_option linter.unusedSimpArgs false
set_option maxHeartbeats 1000000
namespace Go.Proofs.YtnpjibaolicbmaaGreatDoor
open Go.Proofs.Tryz
open Go.RowKit
def f_8 (p : Nat → Bool) (k : Nat) : Bool := (List.range k).any p
theorem m_R {p : Nat → Bool} {n k : Nat} (h : p n = true) (hn : n < k) : f_8 p k = true := List.any_eq_true.2 ⟨n, List.mem_range.2 hn, h⟩
theorem l_M {p : Nat → Bool} {k : Nat} (h : ∀ j, j < k → p j = false) : f_8 p k = false := List.any_eq_false.2 fun j hj => by rw [h j (List.mem_range.1 hj)]; simp
theorem c_D (p : Nat → Bool) : ∀ k : Nat, (0 ≤ b_h p k) ↔ f_8 p k = true
 | 0 => by simp [b_h, f_8]
 | k + 1 => by
  have ih := c_D p k
  have e : f_8 p (k + 1) = (f_8 p k || p k) := by unfold f_8; rw [List.range_succ, List.any_append]; simp
  rw [e]
  unfold b_h
  by_cases h : b_h p k < 0
  ·rw [if_pos h]
   have h2 : f_8 p k = false := by
    cases h3 : f_8 p k
    ·rfl
    ·have := ih.2 h3; omega
   rw [h2]
   cases h4 : p k <;> simp
  ·rw [if_neg h]
   have h2 := ih.1 o_; rw [h2]
   simp; omega
def n_U (W : World) (A : Option Addr) (k : Nat) (V : Nat → Value) : Prop := k = 0 ∨ ∃ g off, A = some ⟨g, off, none⟩ ∧ ∀ i, i < k → ∃ v0, V i = v0 ∧ W.cell? ⟨g, off + i, none⟩ = some v0
set_option maxRecDepth 100000
theorem m_x (A : Option Addr) (c k f : Nat) (lb : Array Value) (V : Nat → Value) (p : Nat → Bool) (w : World) (hl : k ≤ 8796093022208) (hA : ∀ W, Below w.heap.size w W → n_U W A k V)
  (eg : ∀ args W, (callFunc f args).run prog W = .ok (.enter f args) W) (hp : ∀ i, i < k → ∀ W, Below w.heap.size w W → Calls prog f (#[V i] ++ lb) W fun e w' => e = .returned (.bool (p i)) ∧ Below W.heap.size W w') :
  Calls prog 154 #[.slice A k c, .func (.func f) #[] lb] w fun e w' => e = .returned (.int .i64 (b_h p k)) ∧ Below w.heap.size w w' := by
 have HA := a_2 hA
 have HP := a_2 hp
 clear hA hp
 go_enter func154, ntmps154
 go_wp2
 go_loopw [8] (fun i wr => ∃ n : Nat, n ≤ k ∧ i = .int .i64 n ∧ Hid (∀ j, j < n → p j = false) ∧ Below w.heap.size w wr) (fun i _ => k - (intOf i).toNat)
 case atStart => exact ⟨0, o_, rfl, fun j hj => absurd hj (Nat.not_lt_zero _), b_ _ _⟩
 case round =>
  obtain ⟨n, hn, rfl, HZ, hbel⟩ := hrel
  by_cases hlt : n < k
  ·rcases HA.out wr hbel with e | ⟨g, off, rfl, hc⟩
   ·omega
   obtain ⟨v0, hV, c0⟩ := hc n hlt; have HC := a_2 (HP.out n hlt wr hbel); rw [hV] at HC; refine o_T ?_; intro HY HM; clear hc hV; generalize p n = q at *
   cases q
   ·have HR := a_2 (HY.out rfl)
    clear HY HM
    go_wp2_with (go_at_fn f; refine (HC.out).mono ?_; rintro e w1 ⟨rfl, hb1⟩)
    exact o_A
   ·have HR := a_2 (HM.out rfl)
    clear HY HM
    go_wp2_with (go_at_fn f; refine (HC.out).mono ?_; rintro e w1 ⟨rfl, hb1⟩)
    exact i_M
  ·obtain rfl : n = k := by omega
   have HR := a_2 (b_B HZ.out)
   go_wp2
   exact i_N
set_option maxRecDepth 512
theorem i_Z (A : Option Addr) (c k f : Nat) (lb : Array Value) (V : Nat → Value) (p : Nat → Bool) (w : World) (hl : k ≤ 8796093022208) (hA : ∀ W, Below w.heap.size w W → n_U W A k V)
  (eg : ∀ args W, (callFunc f args).run prog W = .ok (.enter f args) W) (hp : ∀ i, i < k → ∀ W, Below w.heap.size w W → Calls prog f (#[V i] ++ lb) W fun e w' => e = .returned (.bool (p i)) ∧ Below W.heap.size W w') :
  Calls prog 95 #[.slice A k c, .func (.func f) #[] lb] w fun e w' => e = .returned (.bool (f_8 p k)) ∧ Below w.heap.size w w' := by
 have HI := a_2 (m_x A c k f lb V p w hl hA eg hp)
 have hi := c_D p k
 clear hA hp eg
 generalize b_h p k = i at *
 generalize f_8 p k = q at *
 go_enter func95, ntmps95
 cases q
 ·go_wp2_with (go_at_call 154; refine (HI.out).mono ?_; rintro e w1 ⟨rfl, hb1⟩; have hi0 : ¬ 0 ≤ i := fun h => absurd (hi.1 h) s_)
  all_goals first | (exfalso; omega) | skip
  exact d_s
 ·go_wp2_with (go_at_call 154; refine (HI.out).mono ?_; rintro e w1 ⟨rfl, hb1⟩; have hi0 := hi.2 rfl)
  all_goals first | (exfalso; omega) | skip
  exact d_s
def n_S (W : World) (A : Option Addr) (k : Nat) (V : Nat → Value) : Prop := k = 0 ∨ ∃ g off, A = some ⟨g, off, none⟩ ∧ ∀ i, i < k → ∃ v0, V i = v0 ∧ W.cell? ⟨g, off + i, none⟩ = some v0
set_option maxRecDepth 100000
theorem m_l (A : Option Addr) (c k f : Nat) (lb : Array Value) (V : Nat → Value) (p : Nat → Bool) (w : World) (hl : k ≤ 8796093022208) (hA : ∀ W, Below w.heap.size w W → n_S W A k V)
  (eg : ∀ args W, (callFunc f args).run prog W = .ok (.enter f args) W) (hp : ∀ i, i < k → ∀ W, Below w.heap.size w W → Calls prog f (#[V i] ++ lb) W fun e w' => e = .returned (.bool (p i)) ∧ Below W.heap.size W w') :
  Calls prog 149 #[.slice A k c, .func (.func f) #[] lb] w fun e w' => e = .returned (.int .i64 (b_h p k)) ∧ Below w.heap.size w w' := by
 have HA := a_2 hA
 have HP := a_2 hp
 clear hA hp
 go_enter func149, ntmps149
 go_wp2
 go_loopw [8] (fun i wr => ∃ n : Nat, n ≤ k ∧ i = .int .i64 n ∧ Hid (∀ j, j < n → p j = false) ∧ Below w.heap.size w wr) (fun i _ => k - (intOf i).toNat)
 case atStart => exact ⟨0, o_, rfl, fun j hj => absurd hj (Nat.not_lt_zero _), b_ _ _⟩
 case round =>
  obtain ⟨n, hn, rfl, HZ, hbel⟩ := hrel
  by_cases hlt : n < k
  ·rcases HA.out wr hbel with e | ⟨g, off, rfl, hc⟩
   ·omega
   obtain ⟨v0, hV, c0⟩ := hc n hlt; have HC := a_2 (HP.out n hlt wr hbel); rw [hV] at HC; refine o_T ?_; intro HY HM; clear hc hV; generalize p n = q at *
   cases q
   ·have HR := a_2 (HY.out rfl)
    clear HY HM
    go_wp2_with (go_at_fn f; refine (HC.out).mono ?_; rintro e w1 ⟨rfl, hb1⟩)
    exact o_A
   ·have HR := a_2 (HM.out rfl)
    clear HY HM
    go_wp2_with (go_at_fn f; refine (HC.out).mono ?_; rintro e w1 ⟨rfl, hb1⟩)
    exact i_M
  ·obtain rfl : n = k := by omega
   have HR := a_2 (b_B HZ.out)
   go_wp2
   exact i_N
set_option maxRecDepth 512
theorem j_9 (A : Option Addr) (c k f : Nat) (lb : Array Value) (V : Nat → Value) (p : Nat → Bool) (w : World) (hl : k ≤ 8796093022208) (hA : ∀ W, Below w.heap.size w W → n_S W A k V)
  (eg : ∀ args W, (callFunc f args).run prog W = .ok (.enter f args) W) (hp : ∀ i, i < k → ∀ W, Below w.heap.size w W → Calls prog f (#[V i] ++ lb) W fun e w' => e = .returned (.bool (p i)) ∧ Below W.heap.size W w') :
  Calls prog 86 #[.slice A k c, .func (.func f) #[] lb] w fun e w' => e = .returned (.bool (f_8 p k)) ∧ Below w.heap.size w w' := by
 have HI := a_2 (m_l A c k f lb V p w hl hA eg hp)
 have hi := c_D p k
 clear hA hp eg
 generalize b_h p k = i at *
 generalize f_8 p k = q at *
 go_enter func86, ntmps86
 cases q
 ·go_wp2_with (go_at_call 149; refine (HI.out).mono ?_; rintro e w1 ⟨rfl, hb1⟩; have hi0 : ¬ 0 ≤ i := fun h => absurd (hi.1 h) s_)
  all_goals first | (exfalso; omega) | skip
  exact d_s
 ·go_wp2_with (go_at_call 149; refine (HI.out).mono ?_; rintro e w1 ⟨rfl, hb1⟩; have hi0 := hi.2 rfl)
  all_goals first | (exfalso; omega) | skip
  exact d_s
def n_t (W : World) (A : Option Addr) (k : Nat) (V : Nat → Value) : Prop := k = 0 ∨ ∃ g off, A = some ⟨g, off, none⟩ ∧ ∀ i, i < k → ∃ v0 v1 v2, V i = .agg #[v0, v1, v2] ∧ W.cell? ⟨g, off + i * 3, none⟩ = some v0 ∧ W.cell? ⟨g, off + i * 3 + 1, none⟩ = some v1 ∧ W.cell? ⟨g, off + i * 3 + 2, none⟩ = some v2
set_option maxRecDepth 100000
theorem j_y (A : Option Addr) (c k f : Nat) (lb : Array Value) (V : Nat → Value) (p : Nat → Bool) (w : World) (hl : k ≤ 8796093022208) (hA : ∀ W, Below w.heap.size w W → n_t W A k V)
  (eg : ∀ args W, (callFunc f args).run prog W = .ok (.enter f args) W) (hp : ∀ i, i < k → ∀ W, Below w.heap.size w W → Calls prog f (#[V i] ++ lb) W fun e w' => e = .returned (.bool (p i)) ∧ Below W.heap.size W w') :
  Calls prog 155 #[.slice A k c, .func (.func f) #[] lb] w fun e w' => e = .returned (.int .i64 (b_h p k)) ∧ Below w.heap.size w w' := by
 have HA := a_2 hA
 have HP := a_2 hp
 clear hA hp
 go_enter func155, ntmps155
 go_wp2
 go_loopw [8] (fun i wr => ∃ n : Nat, n ≤ k ∧ i = .int .i64 n ∧ Hid (∀ j, j < n → p j = false) ∧ Below w.heap.size w wr) (fun i _ => k - (intOf i).toNat)
 case atStart => exact ⟨0, o_, rfl, fun j hj => absurd hj (Nat.not_lt_zero _), b_ _ _⟩
 case round =>
  obtain ⟨n, hn, rfl, HZ, hbel⟩ := hrel
  by_cases hlt : n < k
  ·rcases HA.out wr hbel with e | ⟨g, off, rfl, hc⟩
   ·omega
   obtain ⟨v0, v1, v2, hV, c0, c1, c2⟩ := hc n hlt; have HC := a_2 (HP.out n hlt wr hbel); rw [hV] at HC; refine o_T ?_; intro HY HM; clear hc hV; generalize p n = q at *
   cases q
   ·have HR := a_2 (HY.out rfl)
    clear HY HM
    go_wp2_with (go_at_fn f; refine (HC.out).mono ?_; rintro e w1 ⟨rfl, hb1⟩)
    exact o_A
   ·have HR := a_2 (HM.out rfl)
    clear HY HM
    go_wp2_with (go_at_fn f; refine (HC.out).mono ?_; rintro e w1 ⟨rfl, hb1⟩)
    exact i_M
  ·obtain rfl : n = k := by omega
   have HR := a_2 (b_B HZ.out)
   go_wp2
   exact i_N
set_option maxRecDepth 512
theorem j_1 (A : Option Addr) (c k f : Nat) (lb : Array Value) (V : Nat → Value) (p : Nat → Bool) (w : World) (hl : k ≤ 8796093022208) (hA : ∀ W, Below w.heap.size w W → n_t W A k V)
  (eg : ∀ args W, (callFunc f args).run prog W = .ok (.enter f args) W) (hp : ∀ i, i < k → ∀ W, Below w.heap.size w W → Calls prog f (#[V i] ++ lb) W fun e w' => e = .returned (.bool (p i)) ∧ Below W.heap.size W w') :
  Calls prog 152 #[.slice A k c, .func (.func f) #[] lb] w fun e w' => e = .returned (.bool (f_8 p k)) ∧ Below w.heap.size w w' := by
 have HI := a_2 (j_y A c k f lb V p w hl hA eg hp)
 have hi := c_D p k
 clear hA hp eg
 generalize b_h p k = i at *
 generalize f_8 p k = q at *
 go_enter func152, ntmps152
 cases q
 ·go_wp2_with (go_at_call 155; refine (HI.out).mono ?_; rintro e w1 ⟨rfl, hb1⟩; have hi0 : ¬ 0 ≤ i := fun h => absurd (hi.1 h) s_)
  all_goals first | (exfalso; omega) | skip
  exact d_s
 ·go_wp2_with (go_at_call 155; refine (HI.out).mono ?_; rintro e w1 ⟨rfl, hb1⟩; have hi0 := hi.2 rfl)
  all_goals first | (exfalso; omega) | skip
  exact d_s
def r_y (W : World) (A : Option Addr) (k : Nat) (V : Nat → Value) : Prop := k = 0 ∨ ∃ g off, A = some ⟨g, off, none⟩ ∧ ∀ i, i < k → ∃ v0 v1 v2 v3 v4 v5, V i = .agg #[v0, v1, v2, v3, v4, v5] ∧ W.cell? ⟨g, off + i * 6, none⟩ = some v0 ∧ W.cell? ⟨g, off + i * 6 + 1, none⟩ = some v1 ∧ W.cell? ⟨g, off + i * 6 + 2, none⟩ = some v2 ∧ W.cell? ⟨g, off + i * 6 + 3, none⟩ = some v3 ∧ W.cell? ⟨g, off + i * 6 + 4, none⟩ = some v4 ∧ W.cell? ⟨g, off + i * 6 + 5, none⟩ = some v5
set_option maxRecDepth 100000
theorem o_9 (A : Option Addr) (c k f : Nat) (lb : Array Value) (V : Nat → Value) (p : Nat → Bool) (w : World) (hl : k ≤ 8796093022208) (hA : ∀ W, Below w.heap.size w W → r_y W A k V)
  (eg : ∀ args W, (callFunc f args).run prog W = .ok (.enter f args) W) (hp : ∀ i, i < k → ∀ W, Below w.heap.size w W → Calls prog f (#[V i] ++ lb) W fun e w' => e = .returned (.bool (p i)) ∧ Below W.heap.size W w') :
  Calls prog 159 #[.slice A k c, .func (.func f) #[] lb] w fun e w' => e = .returned (.int .i64 (b_h p k)) ∧ Below w.heap.size w w' := by
 have HA := a_2 hA
 have HP := a_2 hp
 clear hA hp
 go_enter func159, ntmps159
 go_wp2
 go_loopw [8] (fun i wr => ∃ n : Nat, n ≤ k ∧ i = .int .i64 n ∧ Hid (∀ j, j < n → p j = false) ∧ Below w.heap.size w wr) (fun i _ => k - (intOf i).toNat)
 case atStart => exact ⟨0, o_, rfl, fun j hj => absurd hj (Nat.not_lt_zero _), b_ _ _⟩
 case round =>
  obtain ⟨n, hn, rfl, HZ, hbel⟩ := hrel
  by_cases hlt : n < k
  ·rcases HA.out wr hbel with e | ⟨g, off, rfl, hc⟩
   ·omega
   obtain ⟨v0, v1, v2, v3, v4, v5, hV, c0, c1, c2, c3, c4, c5⟩ := hc n hlt; have HC := a_2 (HP.out n hlt wr hbel); rw [hV] at HC; refine o_T ?_; intro HY HM; clear hc hV; generalize p n = q at *
   cases q
   ·have HR := a_2 (HY.out rfl)
    clear HY HM
    go_wp2_with (go_at_fn f; refine (HC.out).mono ?_; rintro e w1 ⟨rfl, hb1⟩)
    exact o_A
   ·have HR := a_2 (HM.out rfl)
    clear HY HM
    go_wp2_with (go_at_fn f; refine (HC.out).mono ?_; rintro e w1 ⟨rfl, hb1⟩)
    exact i_M
  ·obtain rfl : n = k := by omega
   have HR := a_2 (b_B HZ.out)
   go_wp2
   exact i_N
set_option maxRecDepth 512
theorem j_T (A : Option Addr) (c k f : Nat) (lb : Array Value) (V : Nat → Value) (p : Nat → Bool) (w : World) (hl : k ≤ 8796093022208) (hA : ∀ W, Below w.heap.size w W → r_y W A k V)
  (eg : ∀ args W, (callFunc f args).run prog W = .ok (.enter f args) W) (hp : ∀ i, i < k → ∀ W, Below w.heap.size w W → Calls prog f (#[V i] ++ lb) W fun e w' => e = .returned (.bool (p i)) ∧ Below W.heap.size W w') :
  Calls prog 100 #[.slice A k c, .func (.func f) #[] lb] w fun e w' => e = .returned (.bool (f_8 p k)) ∧ Below w.heap.size w w' := by
 have HI := a_2 (o_9 A c k f lb V p w hl hA eg hp)
 have hi := c_D p k
 clear hA hp eg
 generalize b_h p k = i at *
 generalize f_8 p k = q at *
 go_enter func100, ntmps100
 cases q
 ·go_wp2_with (go_at_call 159; refine (HI.out).mono ?_; rintro e w1 ⟨rfl, hb1⟩; have hi0 : ¬ 0 ≤ i := fun h => absurd (hi.1 h) s_)
  all_goals first | (exfalso; omega) | skip
  exact d_s
 ·go_wp2_with (go_at_call 159; refine (HI.out).mono ?_; rintro e w1 ⟨rfl, hb1⟩; have hi0 := hi.2 rfl)
  all_goals first | (exfalso; omega) | skip
  exact d_s
def n_J (W : World) (A : Option Addr) (k : Nat) (V : Nat → Value) : Prop := k = 0 ∨ ∃ g off, A = some ⟨g, off, none⟩ ∧ ∀ i, i < k → ∃ v0 v1 v2 v3 v4 v5 v6 v7, V i = .agg #[v0, v1, v2, v3, v4, v5, v6, v7] ∧ W.cell? ⟨g, off + i * 8, none⟩ = some v0 ∧ W.cell? ⟨g, off + i * 8 + 1, none⟩ = some v1 ∧ W.cell? ⟨g, off + i * 8 + 2, none⟩ = some v2 ∧ W.cell? ⟨g, off + i * 8 + 3, none⟩ = some v3 ∧ W.cell? ⟨g, off + i * 8 + 4, none⟩ = some v4 ∧ W.cell? ⟨g, off + i * 8 + 5, none⟩ = some v5 ∧ W.cell? ⟨g, off + i * 8 + 6, none⟩ = some v6 ∧ W.cell? ⟨g, off + i * 8 + 7, none⟩ = some v7
set_option maxRecDepth 100000
theorem l_T (A : Option Addr) (c k f : Nat) (lb : Array Value) (V : Nat → Value) (p : Nat → Bool) (w : World) (hl : k ≤ 8796093022208) (hA : ∀ W, Below w.heap.size w W → n_J W A k V)
  (eg : ∀ args W, (callFunc f args).run prog W = .ok (.enter f args) W) (hp : ∀ i, i < k → ∀ W, Below w.heap.size w W → Calls prog f (#[V i] ++ lb) W fun e w' => e = .returned (.bool (p i)) ∧ Below W.heap.size W w') :
  Calls prog 83 #[.slice A k c, .func (.func f) #[] lb] w fun e w' => e = .returned (.int .i64 (b_h p k)) ∧ Below w.heap.size w w' := by
 have HA := a_2 hA
 have HP := a_2 hp
 clear hA hp
 go_enter func83, ntmps83
 go_wp2
 go_loopw [8] (fun i wr => ∃ n : Nat, n ≤ k ∧ i = .int .i64 n ∧ Hid (∀ j, j < n → p j = false) ∧ Below w.heap.size w wr) (fun i _ => k - (intOf i).toNat)
 case atStart => exact ⟨0, o_, rfl, fun j hj => absurd hj (Nat.not_lt_zero _), b_ _ _⟩
 case round =>
  obtain ⟨n, hn, rfl, HZ, hbel⟩ := hrel
  by_cases hlt : n < k
  ·rcases HA.out wr hbel with e | ⟨g, off, rfl, hc⟩
   ·omega
   obtain ⟨v0, v1, v2, v3, v4, v5, v6, v7, hV, c0, c1, c2, c3, c4, c5, c6, c7⟩ := hc n hlt; have HC := a_2 (HP.out n hlt wr hbel); rw [hV] at HC; refine o_T ?_; intro HY HM; clear hc hV; generalize p n = q at *
   cases q
   ·have HR := a_2 (HY.out rfl)
    clear HY HM
    go_wp2_with (go_at_fn f; refine (HC.out).mono ?_; rintro e w1 ⟨rfl, hb1⟩)
    exact o_A
   ·have HR := a_2 (HM.out rfl)
    clear HY HM
    go_wp2_with (go_at_fn f; refine (HC.out).mono ?_; rintro e w1 ⟨rfl, hb1⟩)
    exact i_M
  ·obtain rfl : n = k := by omega
   have HR := a_2 (b_B HZ.out)
   go_wp2
   exact i_N
set_option maxRecDepth 512
theorem i_W (A : Option Addr) (c k f : Nat) (lb : Array Value) (V : Nat → Value) (p : Nat → Bool) (w : World) (hl : k ≤ 8796093022208) (hA : ∀ W, Below w.heap.size w W → n_J W A k V)
  (eg : ∀ args W, (callFunc f args).run prog W = .ok (.enter f args) W) (hp : ∀ i, i < k → ∀ W, Below w.heap.size w W → Calls prog f (#[V i] ++ lb) W fun e w' => e = .returned (.bool (p i)) ∧ Below W.heap.size W w') :
  Calls prog 25 #[.slice A k c, .func (.func f) #[] lb] w fun e w' => e = .returned (.bool (f_8 p k)) ∧ Below w.heap.size w w' := by
 have HI := a_2 (l_T A c k f lb V p w hl hA eg hp)
 have hi := c_D p k
 clear hA hp eg
 generalize b_h p k = i at *
 generalize f_8 p k = q at *
 go_enter func25, ntmps25
 cases q
 ·go_wp2_with (go_at_call 83; refine (HI.out).mono ?_; rintro e w1 ⟨rfl, hb1⟩; have hi0 : ¬ 0 ≤ i := fun h => absurd (hi.1 h) s_)
  all_goals first | (exfalso; omega) | skip
  exact d_s
 ·go_wp2_with (go_at_call 83; refine (HI.out).mono ?_; rintro e w1 ⟨rfl, hb1⟩; have hi0 := hi.2 rfl)
  all_goals first | (exfalso; omega) | skip
  exact d_s
end Go.Proofs.YtnpjibaolicbmaaGreatDoor
