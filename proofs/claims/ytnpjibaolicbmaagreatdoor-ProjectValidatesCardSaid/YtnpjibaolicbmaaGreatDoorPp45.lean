/- Parts of the proof. -/
import Derived.Test.YtnpjibaolicbmaaGreatDoorPp34
import Derived.Test.YtnpjibaolicbmaaGreatDoorPp31
import Derived.Deep.CutRange
set_option linter.unusedVariables false
set_option linter.unusedSimpArgs false
set_option maxHeartbeats 16000000
namespace Go.Proofs.YtnpjibaolicbmaaGreatDoor
open Go.Proofs.Tryz
section
open Go.RowKit
open Go.BigFrame in
theorem c_K {P : Program} {ops : Array Oper} {C : World → Prop} {Q : Act → Prop} {Q' : Exit → Act → World → Prop} (hQ : ∀ a w, C w → Q a → Q' .normal a w) :
  ∀ (l : List Oper) (a : Act) (w : World), C w → wpQuiet P ops C Q l a → wpList P ops Q' l a w
 | [], _, _, hw, h => hQ _ _ hw h
 | o :: l, a, w, hw, h => by
  unfold wpQuiet at h
  unfold wpList
  split
  ·rename_i hg
   rw [if_pos hg] at h; exact .inl (Oper.wp_of_quiet hw (fun a' w' hw' h' => c_K hQ l a' w' hw' h') h)
  ·rename_i hg
   rw [if_neg hg] at h; exact c_K hQ l _ w hw h
theorem a_7 {P : Program} {id : Nat} {Q : Exit → Act → World → Prop} {a : Act} {w : World} {l : List Oper}
  (h : wpQuiet P l.toArray (fun w' => ∃ n, w' = w.drewN n) (fun a' => ∀ w', (∃ n, w' = w.drewN n) → Q .normal a' w') l a) : (Code.region id l.toArray false).wp P Q a w :=
 wp_region_lit (c_K (Q := fun a' => ∀ w', (∃ n, w' = w.drewN n) → Q .normal a' w') (fun _ w' hw' h => h w' hw') l a w ⟨0, rfl⟩ h)
theorem b_0 (n : Nat) : decide (0 < n) = (n != 0) := by cases n <;> simp
def t_5 (y : Int) : Prop := y = 0 ∨ ((y == 0) = false ∧ (y != 0) = true)
theorem o_G (y : Int) : t_5 y := by
 by_cases hx : y = 0
 ·exact .inl hx
 ·exact .inr ⟨beq_eq_false_iff_ne.2 hx, by simpa using hx⟩
def t_l (y : Nat) : Prop := y = 0 ∨ (decide (0 < y) = true ∧ (y != 0) = true)
theorem r_e (y : Nat) : t_l y := by
 by_cases hx : y = 0
 ·exact .inl hx
 ·exact .inr ⟨m_, by simpa using hx⟩
set_option maxRecDepth 100000
theorem i_Q (nm tb : a_3) (k : Int) (pA : Option Addr) (l1 pC : Nat) (x : a_3) (qA : Option Addr) (l2 qC : Nat) (y z : Int) (rA : Option Addr) (l3 rC : Nat) (a1 a2 a3 a4 po : Int) (w : World) (h0 : 0 ≤ k) (h6 : k ≤ 6) :
  Calls prog 130 #[.agg #[str nm, str tb, .int .i64 k, .slice pA l1 pC, str x, .slice qA l2 qC, .int .i64 y, .int .i64 z, .slice rA l3 rC, .int .i64 a1, .int .i64 a2, .int .i64 a3, .int .i64 a4, .int .i64 po]] w fun e w' => e = .returned (.bool (((k == 4 || k == 5) && l1 != 0) || (!(k == 3 || k == 6) && (x != [] || l2 != 0)) || (k != 2 && (y != 0 || z != 0)) || (!(k == 4 || k == 5) && l3 != 0) || (k != 5 && (a1 != 0 || a2 != 0 || a3 != 0 || a4 != 0)))) ∧ Below w.heap.size w w' := by
 have hk : k = 0 ∨ k = 1 ∨ k = 2 ∨ k = 3 ∨ k = 4 ∨ k = 5 ∨ k = 6 := by omega
 have hx : x = [] ∨ ((x == []) = false ∧ (x != []) = true) := by
  by_cases hx : x = []
  ·exact .inl hx
  ·exact .inr ⟨beq_eq_false_iff_ne.2 hx, by simpa using hx⟩
 have hy := o_G y
 have hz := o_G z
 have ha1 := o_G a1
 have ha2 := o_G a2
 have hb1 := o_G a3
 have hb2 := o_G a4
 have hn1 := r_e l1
 have hn2 := r_e l2
 have hn3 := r_e l3
 go_enter func130, ntmps130
 rcases hk with rfl | rfl | rfl | rfl | rfl | rfl | rfl
 ·go_upto_region 3 with fail
  go_cut [2, 3, 4, 5] from 6 (fun s2 s3 s4 s5 wx => s2 = .bool false ∧ s3 = .bool false ∧ s4 = .bool false ∧ s5 = .pointer (some ⟨w.heap.size + 1, 0, none⟩) ∧ wx.heap[w.heap.size]? = some (.cells #[str nm, str tb, .int .i64 0, .slice pA l1 pC, str x, .slice qA l2 qC, .int .i64 y, .int .i64 z, .slice rA l3 rC, .int .i64 a1, .int .i64 a2, .int .i64 a3, .int .i64 a4, .int .i64 po] 67) ∧ wx.heap[w.heap.size + 1]? = some (.cells #[.int .i64 0, .int .i64 0] 65) ∧ Below w.heap.size w wx)
  case first =>
   go_wp2_with fail
   go_meet
   exact ⟨rfl, rfl, rfl, rfl, (show Below (w.alloc (.cells #[str nm, str tb, .int .i64 0, .slice pA l1 pC, str x, .slice qA l2 qC, .int .i64 y, .int .i64 z, .slice rA l3 rC, .int .i64 a1, .int .i64 a2, .int .i64 a3, .int .i64 a4, .int .i64 po] 67)).heap.size (w.alloc (.cells #[str nm, str tb, .int .i64 0, .slice pA l1 pC, str x, .slice qA l2 qC, .int .i64 y, .int .i64 z, .slice rA l3 rC, .int .i64 a1, .int .i64 a2, .int .i64 a3, .int .i64 a4, .int .i64 po] 67)) _ from zX).block _ s_ |>.trans (heap_alloc_new _ _), by rw [show w.heap.size + 1 = (w.alloc (.cells #[str nm, str tb, .int .i64 0, .slice pA l1 pC, str x, .slice qA l2 qC, .int .i64 y, .int .i64 z, .slice rA l3 rC, .int .i64 a1, .int .i64 a2, .int .i64 a3, .int .i64 a4, .int .i64 po] 67)).heap.size from by simp]; exact heap_alloc_new _ _, zX⟩
  case rest =>
   obtain ⟨rfl, rfl, rfl, rfl, hc0, hc1, hbel⟩ := hcut; refine n_h ?_; intro w0 g0 g1 f2 f3 f4 f5 f6 f7 f8 f9 f10 f11 f12
   simp at f2 f3 f4 f5 f6 f7 f8 f9 f10 f11 f12 g0 g1
   clear w0 hc0 hc1
   go_upto_region 4 with fail
   simp only [List.append]
   rcases hx with rfl | ⟨e_hx, d_hx⟩
   rotate_left
   ·(refine a_7 ?_; (repeat (go_big_quiet_step (fail))); refine wpQuiet_nil ?_; intro _ hw'; obtain ⟨nq, hw''⟩ := hw'; subst hw''); go_wp2_with fail; all_goals (go_ret; exact ⟨a_a (by simp_all [b_0]), a_4 hbel _⟩)
   rcases hn2 with rfl | ⟨e_hn2, d_hn2⟩
   rotate_left
   ·(refine a_7 ?_; (repeat (go_big_quiet_step (fail))); refine wpQuiet_nil ?_; intro _ hw'; obtain ⟨nq, hw''⟩ := hw'; subst hw''); go_wp2_with fail; all_goals (go_ret; exact ⟨a_a (by simp_all [b_0]), a_4 hbel _⟩)
   rcases hy with rfl | ⟨e_hy, d_hy⟩
   rotate_left
   ·(refine a_7 ?_; (repeat (go_big_quiet_step (fail))); refine wpQuiet_nil ?_; intro _ hw'; obtain ⟨nq, hw''⟩ := hw'; subst hw''); go_wp2_with fail; all_goals (go_ret; exact ⟨a_a (by simp_all [b_0]), a_4 hbel _⟩)
   rcases hz with rfl | ⟨e_hz, d_hz⟩
   rotate_left
   ·(refine a_7 ?_; (repeat (go_big_quiet_step (fail))); refine wpQuiet_nil ?_; intro _ hw'; obtain ⟨nq, hw''⟩ := hw'; subst hw''); go_wp2_with fail; all_goals (go_ret; exact ⟨a_a (by simp_all [b_0]), a_4 hbel _⟩)
   rcases hn3 with rfl | ⟨e_hn3, d_hn3⟩
   rotate_left
   ·(refine a_7 ?_; (repeat (go_big_quiet_step (fail))); refine wpQuiet_nil ?_; intro _ hw'; obtain ⟨nq, hw''⟩ := hw'; subst hw''); go_wp2_with fail; all_goals (go_ret; exact ⟨a_a (by simp_all [b_0]), a_4 hbel _⟩)
   rcases ha1 with rfl | ⟨e_ha1, d_ha1⟩
   rotate_left
   ·(refine a_7 ?_; (repeat (go_big_quiet_step (fail))); refine wpQuiet_nil ?_; intro _ hw'; obtain ⟨nq, hw''⟩ := hw'; subst hw''); go_wp2_with fail; all_goals (go_ret; exact ⟨a_a (by simp_all [b_0]), a_4 hbel _⟩)
   rcases ha2 with rfl | ⟨e_ha2, d_ha2⟩
   rotate_left
   ·(refine a_7 ?_; (repeat (go_big_quiet_step (fail))); refine wpQuiet_nil ?_; intro _ hw'; obtain ⟨nq, hw''⟩ := hw'; subst hw''); go_wp2_with fail; all_goals (go_ret; exact ⟨a_a (by simp_all [b_0]), a_4 hbel _⟩)
   rcases hb1 with rfl | ⟨e_hb1, d_hb1⟩
   rotate_left
   ·(refine a_7 ?_; (repeat (go_big_quiet_step (fail))); refine wpQuiet_nil ?_; intro _ hw'; obtain ⟨nq, hw''⟩ := hw'; subst hw''); go_wp2_with fail; all_goals (go_ret; exact ⟨a_a (by simp_all [b_0]), a_4 hbel _⟩)
   rcases hb2 with rfl | ⟨e_hb2, d_hb2⟩
   rotate_left
   ·(refine a_7 ?_; (repeat (go_big_quiet_step (fail))); refine wpQuiet_nil ?_; intro _ hw'; obtain ⟨nq, hw''⟩ := hw'; subst hw''); go_wp2_with fail; all_goals (go_ret; exact ⟨a_a (by simp_all [b_0]), a_4 hbel _⟩)
   (refine a_7 ?_; (repeat (go_big_quiet_step (fail))); refine wpQuiet_nil ?_; intro _ hw'; obtain ⟨nq, hw''⟩ := hw'; subst hw''); go_wp2_with fail; all_goals (go_ret; exact ⟨a_a (by simp_all [b_0]), a_4 hbel _⟩)
 ·go_upto_region 3 with fail
  go_cut [2, 3, 4, 5] from 6 (fun s2 s3 s4 s5 wx => s2 = .bool false ∧ s3 = .bool false ∧ s4 = .bool false ∧ s5 = .pointer (some ⟨w.heap.size + 1, 0, none⟩) ∧ wx.heap[w.heap.size]? = some (.cells #[str nm, str tb, .int .i64 1, .slice pA l1 pC, str x, .slice qA l2 qC, .int .i64 y, .int .i64 z, .slice rA l3 rC, .int .i64 a1, .int .i64 a2, .int .i64 a3, .int .i64 a4, .int .i64 po] 67) ∧ wx.heap[w.heap.size + 1]? = some (.cells #[.int .i64 0, .int .i64 0] 65) ∧ Below w.heap.size w wx)
  case first =>
   go_wp2_with fail
   go_meet
   exact ⟨rfl, rfl, rfl, rfl, (show Below (w.alloc (.cells #[str nm, str tb, .int .i64 1, .slice pA l1 pC, str x, .slice qA l2 qC, .int .i64 y, .int .i64 z, .slice rA l3 rC, .int .i64 a1, .int .i64 a2, .int .i64 a3, .int .i64 a4, .int .i64 po] 67)).heap.size (w.alloc (.cells #[str nm, str tb, .int .i64 1, .slice pA l1 pC, str x, .slice qA l2 qC, .int .i64 y, .int .i64 z, .slice rA l3 rC, .int .i64 a1, .int .i64 a2, .int .i64 a3, .int .i64 a4, .int .i64 po] 67)) _ from zX).block _ s_ |>.trans (heap_alloc_new _ _), by rw [show w.heap.size + 1 = (w.alloc (.cells #[str nm, str tb, .int .i64 1, .slice pA l1 pC, str x, .slice qA l2 qC, .int .i64 y, .int .i64 z, .slice rA l3 rC, .int .i64 a1, .int .i64 a2, .int .i64 a3, .int .i64 a4, .int .i64 po] 67)).heap.size from by simp]; exact heap_alloc_new _ _, zX⟩
  case rest =>
   obtain ⟨rfl, rfl, rfl, rfl, hc0, hc1, hbel⟩ := hcut; refine n_h ?_; intro w0 g0 g1 f2 f3 f4 f5 f6 f7 f8 f9 f10 f11 f12
   simp at f2 f3 f4 f5 f6 f7 f8 f9 f10 f11 f12 g0 g1
   clear w0 hc0 hc1
   go_upto_region 4 with fail
   simp only [List.append]
   rcases hx with rfl | ⟨e_hx, d_hx⟩
   rotate_left
   ·(refine a_7 ?_; (repeat (go_big_quiet_step (fail))); refine wpQuiet_nil ?_; intro _ hw'; obtain ⟨nq, hw''⟩ := hw'; subst hw''); go_wp2_with fail; all_goals (go_ret; exact ⟨a_a (by simp_all [b_0]), a_4 hbel _⟩)
   rcases hn2 with rfl | ⟨e_hn2, d_hn2⟩
   rotate_left
   ·(refine a_7 ?_; (repeat (go_big_quiet_step (fail))); refine wpQuiet_nil ?_; intro _ hw'; obtain ⟨nq, hw''⟩ := hw'; subst hw''); go_wp2_with fail; all_goals (go_ret; exact ⟨a_a (by simp_all [b_0]), a_4 hbel _⟩)
   rcases hy with rfl | ⟨e_hy, d_hy⟩
   rotate_left
   ·(refine a_7 ?_; (repeat (go_big_quiet_step (fail))); refine wpQuiet_nil ?_; intro _ hw'; obtain ⟨nq, hw''⟩ := hw'; subst hw''); go_wp2_with fail; all_goals (go_ret; exact ⟨a_a (by simp_all [b_0]), a_4 hbel _⟩)
   rcases hz with rfl | ⟨e_hz, d_hz⟩
   rotate_left
   ·(refine a_7 ?_; (repeat (go_big_quiet_step (fail))); refine wpQuiet_nil ?_; intro _ hw'; obtain ⟨nq, hw''⟩ := hw'; subst hw''); go_wp2_with fail; all_goals (go_ret; exact ⟨a_a (by simp_all [b_0]), a_4 hbel _⟩)
   rcases hn3 with rfl | ⟨e_hn3, d_hn3⟩
   rotate_left
   ·(refine a_7 ?_; (repeat (go_big_quiet_step (fail))); refine wpQuiet_nil ?_; intro _ hw'; obtain ⟨nq, hw''⟩ := hw'; subst hw''); go_wp2_with fail; all_goals (go_ret; exact ⟨a_a (by simp_all [b_0]), a_4 hbel _⟩)
   rcases ha1 with rfl | ⟨e_ha1, d_ha1⟩
   rotate_left
   ·(refine a_7 ?_; (repeat (go_big_quiet_step (fail))); refine wpQuiet_nil ?_; intro _ hw'; obtain ⟨nq, hw''⟩ := hw'; subst hw''); go_wp2_with fail; all_goals (go_ret; exact ⟨a_a (by simp_all [b_0]), a_4 hbel _⟩)
   rcases ha2 with rfl | ⟨e_ha2, d_ha2⟩
   rotate_left
   ·(refine a_7 ?_; (repeat (go_big_quiet_step (fail))); refine wpQuiet_nil ?_; intro _ hw'; obtain ⟨nq, hw''⟩ := hw'; subst hw''); go_wp2_with fail; all_goals (go_ret; exact ⟨a_a (by simp_all [b_0]), a_4 hbel _⟩)
   rcases hb1 with rfl | ⟨e_hb1, d_hb1⟩
   rotate_left
   ·(refine a_7 ?_; (repeat (go_big_quiet_step (fail))); refine wpQuiet_nil ?_; intro _ hw'; obtain ⟨nq, hw''⟩ := hw'; subst hw''); go_wp2_with fail; all_goals (go_ret; exact ⟨a_a (by simp_all [b_0]), a_4 hbel _⟩)
   rcases hb2 with rfl | ⟨e_hb2, d_hb2⟩
   rotate_left
   ·(refine a_7 ?_; (repeat (go_big_quiet_step (fail))); refine wpQuiet_nil ?_; intro _ hw'; obtain ⟨nq, hw''⟩ := hw'; subst hw''); go_wp2_with fail; all_goals (go_ret; exact ⟨a_a (by simp_all [b_0]), a_4 hbel _⟩)
   (refine a_7 ?_; (repeat (go_big_quiet_step (fail))); refine wpQuiet_nil ?_; intro _ hw'; obtain ⟨nq, hw''⟩ := hw'; subst hw''); go_wp2_with fail; all_goals (go_ret; exact ⟨a_a (by simp_all [b_0]), a_4 hbel _⟩)
 ·go_upto_region 3 with fail
  go_cut [2, 3, 4, 5] from 6 (fun s2 s3 s4 s5 wx => s2 = .bool false ∧ s3 = .bool false ∧ s4 = .bool false ∧ s5 = .pointer (some ⟨w.heap.size + 1, 0, none⟩) ∧ wx.heap[w.heap.size]? = some (.cells #[str nm, str tb, .int .i64 2, .slice pA l1 pC, str x, .slice qA l2 qC, .int .i64 y, .int .i64 z, .slice rA l3 rC, .int .i64 a1, .int .i64 a2, .int .i64 a3, .int .i64 a4, .int .i64 po] 67) ∧ wx.heap[w.heap.size + 1]? = some (.cells #[.int .i64 0, .int .i64 0] 65) ∧ Below w.heap.size w wx)
  case first =>
   go_wp2_with fail
   go_meet
   exact ⟨rfl, rfl, rfl, rfl, (show Below (w.alloc (.cells #[str nm, str tb, .int .i64 2, .slice pA l1 pC, str x, .slice qA l2 qC, .int .i64 y, .int .i64 z, .slice rA l3 rC, .int .i64 a1, .int .i64 a2, .int .i64 a3, .int .i64 a4, .int .i64 po] 67)).heap.size (w.alloc (.cells #[str nm, str tb, .int .i64 2, .slice pA l1 pC, str x, .slice qA l2 qC, .int .i64 y, .int .i64 z, .slice rA l3 rC, .int .i64 a1, .int .i64 a2, .int .i64 a3, .int .i64 a4, .int .i64 po] 67)) _ from zX).block _ s_ |>.trans (heap_alloc_new _ _), by rw [show w.heap.size + 1 = (w.alloc (.cells #[str nm, str tb, .int .i64 2, .slice pA l1 pC, str x, .slice qA l2 qC, .int .i64 y, .int .i64 z, .slice rA l3 rC, .int .i64 a1, .int .i64 a2, .int .i64 a3, .int .i64 a4, .int .i64 po] 67)).heap.size from by simp]; exact heap_alloc_new _ _, zX⟩
  case rest =>
   obtain ⟨rfl, rfl, rfl, rfl, hc0, hc1, hbel⟩ := hcut; refine n_h ?_; intro w0 g0 g1 f2 f3 f4 f5 f6 f7 f8 f9 f10 f11 f12
   simp at f2 f3 f4 f5 f6 f7 f8 f9 f10 f11 f12 g0 g1
   clear w0 hc0 hc1
   go_upto_region 4 with fail
   simp only [List.append]
   rcases hx with rfl | ⟨e_hx, d_hx⟩
   rotate_left
   ·(refine a_7 ?_; (repeat (go_big_quiet_step (fail))); refine wpQuiet_nil ?_; intro _ hw'; obtain ⟨nq, hw''⟩ := hw'; subst hw''); go_wp2_with fail; all_goals (go_ret; exact ⟨a_a (by simp_all [b_0]), a_4 hbel _⟩)
   rcases hn2 with rfl | ⟨e_hn2, d_hn2⟩
   rotate_left
   ·(refine a_7 ?_; (repeat (go_big_quiet_step (fail))); refine wpQuiet_nil ?_; intro _ hw'; obtain ⟨nq, hw''⟩ := hw'; subst hw''); go_wp2_with fail; all_goals (go_ret; exact ⟨a_a (by simp_all [b_0]), a_4 hbel _⟩)
   rcases hn3 with rfl | ⟨e_hn3, d_hn3⟩
   rotate_left
   ·(refine a_7 ?_; (repeat (go_big_quiet_step (fail))); refine wpQuiet_nil ?_; intro _ hw'; obtain ⟨nq, hw''⟩ := hw'; subst hw''); go_wp2_with fail; all_goals (go_ret; exact ⟨a_a (by simp_all [b_0]), a_4 hbel _⟩)
   rcases ha1 with rfl | ⟨e_ha1, d_ha1⟩
   rotate_left
   ·(refine a_7 ?_; (repeat (go_big_quiet_step (fail))); refine wpQuiet_nil ?_; intro _ hw'; obtain ⟨nq, hw''⟩ := hw'; subst hw''); go_wp2_with fail; all_goals (go_ret; exact ⟨a_a (by simp_all [b_0]), a_4 hbel _⟩)
   rcases ha2 with rfl | ⟨e_ha2, d_ha2⟩
   rotate_left
   ·(refine a_7 ?_; (repeat (go_big_quiet_step (fail))); refine wpQuiet_nil ?_; intro _ hw'; obtain ⟨nq, hw''⟩ := hw'; subst hw''); go_wp2_with fail; all_goals (go_ret; exact ⟨a_a (by simp_all [b_0]), a_4 hbel _⟩)
   rcases hb1 with rfl | ⟨e_hb1, d_hb1⟩
   rotate_left
   ·(refine a_7 ?_; (repeat (go_big_quiet_step (fail))); refine wpQuiet_nil ?_; intro _ hw'; obtain ⟨nq, hw''⟩ := hw'; subst hw''); go_wp2_with fail; all_goals (go_ret; exact ⟨a_a (by simp_all [b_0]), a_4 hbel _⟩)
   rcases hb2 with rfl | ⟨e_hb2, d_hb2⟩
   rotate_left
   ·(refine a_7 ?_; (repeat (go_big_quiet_step (fail))); refine wpQuiet_nil ?_; intro _ hw'; obtain ⟨nq, hw''⟩ := hw'; subst hw''); go_wp2_with fail; all_goals (go_ret; exact ⟨a_a (by simp_all [b_0]), a_4 hbel _⟩)
   (refine a_7 ?_; (repeat (go_big_quiet_step (fail))); refine wpQuiet_nil ?_; intro _ hw'; obtain ⟨nq, hw''⟩ := hw'; subst hw''); go_wp2_with fail; all_goals (go_ret; exact ⟨a_a (by simp_all [b_0]), a_4 hbel _⟩)
 ·go_upto_region 3 with fail
  go_cut [2, 3, 4, 5] from 6 (fun s2 s3 s4 s5 wx => s2 = .bool false ∧ s3 = .bool true ∧ s4 = .bool false ∧ s5 = .pointer (some ⟨w.heap.size + 1, 0, none⟩) ∧ wx.heap[w.heap.size]? = some (.cells #[str nm, str tb, .int .i64 3, .slice pA l1 pC, str x, .slice qA l2 qC, .int .i64 y, .int .i64 z, .slice rA l3 rC, .int .i64 a1, .int .i64 a2, .int .i64 a3, .int .i64 a4, .int .i64 po] 67) ∧ wx.heap[w.heap.size + 1]? = some (.cells #[.int .i64 0, .int .i64 0] 65) ∧ Below w.heap.size w wx)
  case first =>
   go_wp2_with fail
   go_meet
   exact ⟨rfl, rfl, rfl, rfl, (show Below (w.alloc (.cells #[str nm, str tb, .int .i64 3, .slice pA l1 pC, str x, .slice qA l2 qC, .int .i64 y, .int .i64 z, .slice rA l3 rC, .int .i64 a1, .int .i64 a2, .int .i64 a3, .int .i64 a4, .int .i64 po] 67)).heap.size (w.alloc (.cells #[str nm, str tb, .int .i64 3, .slice pA l1 pC, str x, .slice qA l2 qC, .int .i64 y, .int .i64 z, .slice rA l3 rC, .int .i64 a1, .int .i64 a2, .int .i64 a3, .int .i64 a4, .int .i64 po] 67)) _ from zX).block _ s_ |>.trans (heap_alloc_new _ _), by rw [show w.heap.size + 1 = (w.alloc (.cells #[str nm, str tb, .int .i64 3, .slice pA l1 pC, str x, .slice qA l2 qC, .int .i64 y, .int .i64 z, .slice rA l3 rC, .int .i64 a1, .int .i64 a2, .int .i64 a3, .int .i64 a4, .int .i64 po] 67)).heap.size from by simp]; exact heap_alloc_new _ _, zX⟩
  case rest =>
   obtain ⟨rfl, rfl, rfl, rfl, hc0, hc1, hbel⟩ := hcut; refine n_h ?_; intro w0 g0 g1 f2 f3 f4 f5 f6 f7 f8 f9 f10 f11 f12
   simp at f2 f3 f4 f5 f6 f7 f8 f9 f10 f11 f12 g0 g1
   clear w0 hc0 hc1
   go_upto_region 4 with fail
   simp only [List.append]
   rcases hy with rfl | ⟨e_hy, d_hy⟩
   rotate_left
   ·(refine a_7 ?_; (repeat (go_big_quiet_step (fail))); refine wpQuiet_nil ?_; intro _ hw'; obtain ⟨nq, hw''⟩ := hw'; subst hw''); go_wp2_with fail; all_goals (go_ret; exact ⟨a_a (by simp_all [b_0]), a_4 hbel _⟩)
   rcases hz with rfl | ⟨e_hz, d_hz⟩
   rotate_left
   ·(refine a_7 ?_; (repeat (go_big_quiet_step (fail))); refine wpQuiet_nil ?_; intro _ hw'; obtain ⟨nq, hw''⟩ := hw'; subst hw''); go_wp2_with fail; all_goals (go_ret; exact ⟨a_a (by simp_all [b_0]), a_4 hbel _⟩)
   rcases hn3 with rfl | ⟨e_hn3, d_hn3⟩
   rotate_left
   ·(refine a_7 ?_; (repeat (go_big_quiet_step (fail))); refine wpQuiet_nil ?_; intro _ hw'; obtain ⟨nq, hw''⟩ := hw'; subst hw''); go_wp2_with fail; all_goals (go_ret; exact ⟨a_a (by simp_all [b_0]), a_4 hbel _⟩)
   rcases ha1 with rfl | ⟨e_ha1, d_ha1⟩
   rotate_left
   ·(refine a_7 ?_; (repeat (go_big_quiet_step (fail))); refine wpQuiet_nil ?_; intro _ hw'; obtain ⟨nq, hw''⟩ := hw'; subst hw''); go_wp2_with fail; all_goals (go_ret; exact ⟨a_a (by simp_all [b_0]), a_4 hbel _⟩)
   rcases ha2 with rfl | ⟨e_ha2, d_ha2⟩
   rotate_left
   ·(refine a_7 ?_; (repeat (go_big_quiet_step (fail))); refine wpQuiet_nil ?_; intro _ hw'; obtain ⟨nq, hw''⟩ := hw'; subst hw''); go_wp2_with fail; all_goals (go_ret; exact ⟨a_a (by simp_all [b_0]), a_4 hbel _⟩)
   rcases hb1 with rfl | ⟨e_hb1, d_hb1⟩
   rotate_left
   ·(refine a_7 ?_; (repeat (go_big_quiet_step (fail))); refine wpQuiet_nil ?_; intro _ hw'; obtain ⟨nq, hw''⟩ := hw'; subst hw''); go_wp2_with fail; all_goals (go_ret; exact ⟨a_a (by simp_all [b_0]), a_4 hbel _⟩)
   rcases hb2 with rfl | ⟨e_hb2, d_hb2⟩
   rotate_left
   ·(refine a_7 ?_; (repeat (go_big_quiet_step (fail))); refine wpQuiet_nil ?_; intro _ hw'; obtain ⟨nq, hw''⟩ := hw'; subst hw''); go_wp2_with fail; all_goals (go_ret; exact ⟨a_a (by simp_all [b_0]), a_4 hbel _⟩)
   (refine a_7 ?_; (repeat (go_big_quiet_step (fail))); refine wpQuiet_nil ?_; intro _ hw'; obtain ⟨nq, hw''⟩ := hw'; subst hw''); go_wp2_with fail; all_goals (go_ret; exact ⟨a_a (by simp_all [b_0]), a_4 hbel _⟩)
 ·go_upto_region 3 with fail
  go_cut [2, 3, 4, 5] from 6 (fun s2 s3 s4 s5 wx => s2 = .bool false ∧ s3 = .bool false ∧ s4 = .bool true ∧ s5 = .pointer (some ⟨w.heap.size + 1, 0, none⟩) ∧ wx.heap[w.heap.size]? = some (.cells #[str nm, str tb, .int .i64 4, .slice pA l1 pC, str x, .slice qA l2 qC, .int .i64 y, .int .i64 z, .slice rA l3 rC, .int .i64 a1, .int .i64 a2, .int .i64 a3, .int .i64 a4, .int .i64 po] 67) ∧ wx.heap[w.heap.size + 1]? = some (.cells #[.int .i64 0, .int .i64 0] 65) ∧ Below w.heap.size w wx)
  case first =>
   go_wp2_with fail
   go_meet
   exact ⟨rfl, rfl, rfl, rfl, (show Below (w.alloc (.cells #[str nm, str tb, .int .i64 4, .slice pA l1 pC, str x, .slice qA l2 qC, .int .i64 y, .int .i64 z, .slice rA l3 rC, .int .i64 a1, .int .i64 a2, .int .i64 a3, .int .i64 a4, .int .i64 po] 67)).heap.size (w.alloc (.cells #[str nm, str tb, .int .i64 4, .slice pA l1 pC, str x, .slice qA l2 qC, .int .i64 y, .int .i64 z, .slice rA l3 rC, .int .i64 a1, .int .i64 a2, .int .i64 a3, .int .i64 a4, .int .i64 po] 67)) _ from zX).block _ s_ |>.trans (heap_alloc_new _ _), by rw [show w.heap.size + 1 = (w.alloc (.cells #[str nm, str tb, .int .i64 4, .slice pA l1 pC, str x, .slice qA l2 qC, .int .i64 y, .int .i64 z, .slice rA l3 rC, .int .i64 a1, .int .i64 a2, .int .i64 a3, .int .i64 a4, .int .i64 po] 67)).heap.size from by simp]; exact heap_alloc_new _ _, zX⟩
  case rest =>
   obtain ⟨rfl, rfl, rfl, rfl, hc0, hc1, hbel⟩ := hcut; refine n_h ?_; intro w0 g0 g1 f2 f3 f4 f5 f6 f7 f8 f9 f10 f11 f12
   simp at f2 f3 f4 f5 f6 f7 f8 f9 f10 f11 f12 g0 g1
   clear w0 hc0 hc1
   go_upto_region 4 with fail
   simp only [List.append]
   rcases hn1 with rfl | ⟨e_hn1, d_hn1⟩
   rotate_left
   ·(refine a_7 ?_; (repeat (go_big_quiet_step (fail))); refine wpQuiet_nil ?_; intro _ hw'; obtain ⟨nq, hw''⟩ := hw'; subst hw''); go_wp2_with fail; all_goals (go_ret; exact ⟨a_a (by simp_all [b_0]), a_4 hbel _⟩)
   rcases hx with rfl | ⟨e_hx, d_hx⟩
   rotate_left
   ·(refine a_7 ?_; (repeat (go_big_quiet_step (fail))); refine wpQuiet_nil ?_; intro _ hw'; obtain ⟨nq, hw''⟩ := hw'; subst hw''); go_wp2_with fail; all_goals (go_ret; exact ⟨a_a (by simp_all [b_0]), a_4 hbel _⟩)
   rcases hn2 with rfl | ⟨e_hn2, d_hn2⟩
   rotate_left
   ·(refine a_7 ?_; (repeat (go_big_quiet_step (fail))); refine wpQuiet_nil ?_; intro _ hw'; obtain ⟨nq, hw''⟩ := hw'; subst hw''); go_wp2_with fail; all_goals (go_ret; exact ⟨a_a (by simp_all [b_0]), a_4 hbel _⟩)
   rcases hy with rfl | ⟨e_hy, d_hy⟩
   rotate_left
   ·(refine a_7 ?_; (repeat (go_big_quiet_step (fail))); refine wpQuiet_nil ?_; intro _ hw'; obtain ⟨nq, hw''⟩ := hw'; subst hw''); go_wp2_with fail; all_goals (go_ret; exact ⟨a_a (by simp_all [b_0]), a_4 hbel _⟩)
   rcases hz with rfl | ⟨e_hz, d_hz⟩
   rotate_left
   ·(refine a_7 ?_; (repeat (go_big_quiet_step (fail))); refine wpQuiet_nil ?_; intro _ hw'; obtain ⟨nq, hw''⟩ := hw'; subst hw''); go_wp2_with fail; all_goals (go_ret; exact ⟨a_a (by simp_all [b_0]), a_4 hbel _⟩)
   rcases ha1 with rfl | ⟨e_ha1, d_ha1⟩
   rotate_left
   ·(refine a_7 ?_; (repeat (go_big_quiet_step (fail))); refine wpQuiet_nil ?_; intro _ hw'; obtain ⟨nq, hw''⟩ := hw'; subst hw''); go_wp2_with fail; all_goals (go_ret; exact ⟨a_a (by simp_all [b_0]), a_4 hbel _⟩)
   rcases ha2 with rfl | ⟨e_ha2, d_ha2⟩
   rotate_left
   ·(refine a_7 ?_; (repeat (go_big_quiet_step (fail))); refine wpQuiet_nil ?_; intro _ hw'; obtain ⟨nq, hw''⟩ := hw'; subst hw''); go_wp2_with fail; all_goals (go_ret; exact ⟨a_a (by simp_all [b_0]), a_4 hbel _⟩)
   rcases hb1 with rfl | ⟨e_hb1, d_hb1⟩
   rotate_left
   ·(refine a_7 ?_; (repeat (go_big_quiet_step (fail))); refine wpQuiet_nil ?_; intro _ hw'; obtain ⟨nq, hw''⟩ := hw'; subst hw''); go_wp2_with fail; all_goals (go_ret; exact ⟨a_a (by simp_all [b_0]), a_4 hbel _⟩)
   rcases hb2 with rfl | ⟨e_hb2, d_hb2⟩
   rotate_left
   ·(refine a_7 ?_; (repeat (go_big_quiet_step (fail))); refine wpQuiet_nil ?_; intro _ hw'; obtain ⟨nq, hw''⟩ := hw'; subst hw''); go_wp2_with fail; all_goals (go_ret; exact ⟨a_a (by simp_all [b_0]), a_4 hbel _⟩)
   (refine a_7 ?_; (repeat (go_big_quiet_step (fail))); refine wpQuiet_nil ?_; intro _ hw'; obtain ⟨nq, hw''⟩ := hw'; subst hw''); go_wp2_with fail; all_goals (go_ret; exact ⟨a_a (by simp_all [b_0]), a_4 hbel _⟩)
 ·go_upto_region 3 with fail
  go_cut [2, 3, 4, 5] from 6 (fun s2 s3 s4 s5 wx => s2 = .bool false ∧ s3 = .bool false ∧ s4 = .bool true ∧ s5 = .pointer (some ⟨w.heap.size + 1, 0, none⟩) ∧ wx.heap[w.heap.size]? = some (.cells #[str nm, str tb, .int .i64 5, .slice pA l1 pC, str x, .slice qA l2 qC, .int .i64 y, .int .i64 z, .slice rA l3 rC, .int .i64 a1, .int .i64 a2, .int .i64 a3, .int .i64 a4, .int .i64 po] 67) ∧ wx.heap[w.heap.size + 1]? = some (.cells #[.int .i64 0, .int .i64 0] 65) ∧ Below w.heap.size w wx)
  case first =>
   go_wp2_with fail
   go_meet
   exact ⟨rfl, rfl, rfl, rfl, (show Below (w.alloc (.cells #[str nm, str tb, .int .i64 5, .slice pA l1 pC, str x, .slice qA l2 qC, .int .i64 y, .int .i64 z, .slice rA l3 rC, .int .i64 a1, .int .i64 a2, .int .i64 a3, .int .i64 a4, .int .i64 po] 67)).heap.size (w.alloc (.cells #[str nm, str tb, .int .i64 5, .slice pA l1 pC, str x, .slice qA l2 qC, .int .i64 y, .int .i64 z, .slice rA l3 rC, .int .i64 a1, .int .i64 a2, .int .i64 a3, .int .i64 a4, .int .i64 po] 67)) _ from zX).block _ s_ |>.trans (heap_alloc_new _ _), by rw [show w.heap.size + 1 = (w.alloc (.cells #[str nm, str tb, .int .i64 5, .slice pA l1 pC, str x, .slice qA l2 qC, .int .i64 y, .int .i64 z, .slice rA l3 rC, .int .i64 a1, .int .i64 a2, .int .i64 a3, .int .i64 a4, .int .i64 po] 67)).heap.size from by simp]; exact heap_alloc_new _ _, zX⟩
  case rest =>
   obtain ⟨rfl, rfl, rfl, rfl, hc0, hc1, hbel⟩ := hcut; refine n_h ?_; intro w0 g0 g1 f2 f3 f4 f5 f6 f7 f8 f9 f10 f11 f12
   simp at f2 f3 f4 f5 f6 f7 f8 f9 f10 f11 f12 g0 g1
   clear w0 hc0 hc1
   go_upto_region 4 with fail
   simp only [List.append]
   rcases hn1 with rfl | ⟨e_hn1, d_hn1⟩
   rotate_left
   ·(refine a_7 ?_; (repeat (go_big_quiet_step (fail))); refine wpQuiet_nil ?_; intro _ hw'; obtain ⟨nq, hw''⟩ := hw'; subst hw''); go_wp2_with fail; all_goals (go_ret; exact ⟨a_a (by simp_all [b_0]), a_4 hbel _⟩)
   rcases hx with rfl | ⟨e_hx, d_hx⟩
   rotate_left
   ·(refine a_7 ?_; (repeat (go_big_quiet_step (fail))); refine wpQuiet_nil ?_; intro _ hw'; obtain ⟨nq, hw''⟩ := hw'; subst hw''); go_wp2_with fail; all_goals (go_ret; exact ⟨a_a (by simp_all [b_0]), a_4 hbel _⟩)
   rcases hn2 with rfl | ⟨e_hn2, d_hn2⟩
   rotate_left
   ·(refine a_7 ?_; (repeat (go_big_quiet_step (fail))); refine wpQuiet_nil ?_; intro _ hw'; obtain ⟨nq, hw''⟩ := hw'; subst hw''); go_wp2_with fail; all_goals (go_ret; exact ⟨a_a (by simp_all [b_0]), a_4 hbel _⟩)
   rcases hy with rfl | ⟨e_hy, d_hy⟩
   rotate_left
   ·(refine a_7 ?_; (repeat (go_big_quiet_step (fail))); refine wpQuiet_nil ?_; intro _ hw'; obtain ⟨nq, hw''⟩ := hw'; subst hw''); go_wp2_with fail; all_goals (go_ret; exact ⟨a_a (by simp_all [b_0]), a_4 hbel _⟩)
   rcases hz with rfl | ⟨e_hz, d_hz⟩
   rotate_left
   ·(refine a_7 ?_; (repeat (go_big_quiet_step (fail))); refine wpQuiet_nil ?_; intro _ hw'; obtain ⟨nq, hw''⟩ := hw'; subst hw''); go_wp2_with fail; all_goals (go_ret; exact ⟨a_a (by simp_all [b_0]), a_4 hbel _⟩)
   (refine a_7 ?_; (repeat (go_big_quiet_step (fail))); refine wpQuiet_nil ?_; intro _ hw'; obtain ⟨nq, hw''⟩ := hw'; subst hw''); go_wp2_with fail; all_goals (go_ret; exact ⟨a_a (by simp_all [b_0]), a_4 hbel _⟩)
 ·go_upto_region 3 with fail
  go_cut [2, 3, 4, 5] from 6 (fun s2 s3 s4 s5 wx => s2 = .bool false ∧ s3 = .bool true ∧ s4 = .bool false ∧ s5 = .pointer (some ⟨w.heap.size + 1, 0, none⟩) ∧ wx.heap[w.heap.size]? = some (.cells #[str nm, str tb, .int .i64 6, .slice pA l1 pC, str x, .slice qA l2 qC, .int .i64 y, .int .i64 z, .slice rA l3 rC, .int .i64 a1, .int .i64 a2, .int .i64 a3, .int .i64 a4, .int .i64 po] 67) ∧ wx.heap[w.heap.size + 1]? = some (.cells #[.int .i64 0, .int .i64 0] 65) ∧ Below w.heap.size w wx)
  case first =>
   go_wp2_with fail
   go_meet
   exact ⟨rfl, rfl, rfl, rfl, (show Below (w.alloc (.cells #[str nm, str tb, .int .i64 6, .slice pA l1 pC, str x, .slice qA l2 qC, .int .i64 y, .int .i64 z, .slice rA l3 rC, .int .i64 a1, .int .i64 a2, .int .i64 a3, .int .i64 a4, .int .i64 po] 67)).heap.size (w.alloc (.cells #[str nm, str tb, .int .i64 6, .slice pA l1 pC, str x, .slice qA l2 qC, .int .i64 y, .int .i64 z, .slice rA l3 rC, .int .i64 a1, .int .i64 a2, .int .i64 a3, .int .i64 a4, .int .i64 po] 67)) _ from zX).block _ s_ |>.trans (heap_alloc_new _ _), by rw [show w.heap.size + 1 = (w.alloc (.cells #[str nm, str tb, .int .i64 6, .slice pA l1 pC, str x, .slice qA l2 qC, .int .i64 y, .int .i64 z, .slice rA l3 rC, .int .i64 a1, .int .i64 a2, .int .i64 a3, .int .i64 a4, .int .i64 po] 67)).heap.size from by simp]; exact heap_alloc_new _ _, zX⟩
  case rest =>
   obtain ⟨rfl, rfl, rfl, rfl, hc0, hc1, hbel⟩ := hcut; refine n_h ?_; intro w0 g0 g1 f2 f3 f4 f5 f6 f7 f8 f9 f10 f11 f12
   simp at f2 f3 f4 f5 f6 f7 f8 f9 f10 f11 f12 g0 g1
   clear w0 hc0 hc1
   go_upto_region 4 with fail
   simp only [List.append]
   rcases hy with rfl | ⟨e_hy, d_hy⟩
   rotate_left
   ·(refine a_7 ?_; (repeat (go_big_quiet_step (fail))); refine wpQuiet_nil ?_; intro _ hw'; obtain ⟨nq, hw''⟩ := hw'; subst hw''); go_wp2_with fail; all_goals (go_ret; exact ⟨a_a (by simp_all [b_0]), a_4 hbel _⟩)
   rcases hz with rfl | ⟨e_hz, d_hz⟩
   rotate_left
   ·(refine a_7 ?_; (repeat (go_big_quiet_step (fail))); refine wpQuiet_nil ?_; intro _ hw'; obtain ⟨nq, hw''⟩ := hw'; subst hw''); go_wp2_with fail; all_goals (go_ret; exact ⟨a_a (by simp_all [b_0]), a_4 hbel _⟩)
   rcases hn3 with rfl | ⟨e_hn3, d_hn3⟩
   rotate_left
   ·(refine a_7 ?_; (repeat (go_big_quiet_step (fail))); refine wpQuiet_nil ?_; intro _ hw'; obtain ⟨nq, hw''⟩ := hw'; subst hw''); go_wp2_with fail; all_goals (go_ret; exact ⟨a_a (by simp_all [b_0]), a_4 hbel _⟩)
   rcases ha1 with rfl | ⟨e_ha1, d_ha1⟩
   rotate_left
   ·(refine a_7 ?_; (repeat (go_big_quiet_step (fail))); refine wpQuiet_nil ?_; intro _ hw'; obtain ⟨nq, hw''⟩ := hw'; subst hw''); go_wp2_with fail; all_goals (go_ret; exact ⟨a_a (by simp_all [b_0]), a_4 hbel _⟩)
   rcases ha2 with rfl | ⟨e_ha2, d_ha2⟩
   rotate_left
   ·(refine a_7 ?_; (repeat (go_big_quiet_step (fail))); refine wpQuiet_nil ?_; intro _ hw'; obtain ⟨nq, hw''⟩ := hw'; subst hw''); go_wp2_with fail; all_goals (go_ret; exact ⟨a_a (by simp_all [b_0]), a_4 hbel _⟩)
   rcases hb1 with rfl | ⟨e_hb1, d_hb1⟩
   rotate_left
   ·(refine a_7 ?_; (repeat (go_big_quiet_step (fail))); refine wpQuiet_nil ?_; intro _ hw'; obtain ⟨nq, hw''⟩ := hw'; subst hw''); go_wp2_with fail; all_goals (go_ret; exact ⟨a_a (by simp_all [b_0]), a_4 hbel _⟩)
   rcases hb2 with rfl | ⟨e_hb2, d_hb2⟩
   rotate_left
   ·(refine a_7 ?_; (repeat (go_big_quiet_step (fail))); refine wpQuiet_nil ?_; intro _ hw'; obtain ⟨nq, hw''⟩ := hw'; subst hw''); go_wp2_with fail; all_goals (go_ret; exact ⟨a_a (by simp_all [b_0]), a_4 hbel _⟩)
   (refine a_7 ?_; (repeat (go_big_quiet_step (fail))); refine wpQuiet_nil ?_; intro _ hw'; obtain ⟨nq, hw''⟩ := hw'; subst hw''); go_wp2_with fail; all_goals (go_ret; exact ⟨a_a (by simp_all [b_0]), a_4 hbel _⟩)
set_option maxRecDepth 512
theorem g_4 (c : Chk) (p q r : Pl) (w : World) (h0 : 0 ≤ c.kind) (h6 : c.kind ≤ 6) :
  Calls prog 130 #[.agg #[str c.name, str c.table, .int .i64 c.kind, slV p c.cols.length, str c.other, slV q c.ocols.length, .int .i64 c.low, .int .i64 c.high, slV r c.cond.length, .int .i64 c.ln, .int .i64 c.ld, .int .i64 c.mn, .int .i64 c.md, .int .i64 c.pol]] w fun e w' => e = .returned (.bool (c_Z c)) ∧ Below w.heap.size w w' :=
 i_Q _ _ _ _ _ _ _ _ _ _ _ _ _ _ _ _ _ _ _ _ w h0 h6
end
section
open Go.RowKit
def p_m (c : Chk) : Int := a_c (a_z c.cols 1) (a_c (a_z c.ocols 1) (a_c (a_b (c.cols.length ≠ c.ocols.length) 8) (a_L c.other)))
set_option maxRecDepth 100000
theorem e_w (c : Chk) (p q r : Pl) (w : World) (h1 : b_9 w p c.cols) (h2 : b_9 w q c.ocols) (h3 : b_q w r.1 c.cond) (ho : c.ok) :
  Calls prog 186 #[.agg #[str c.name, str c.table, .int .i64 c.kind, slV p c.cols.length, str c.other, slV q c.ocols.length, .int .i64 c.low, .int .i64 c.high, slV r c.cond.length, .int .i64 c.ln, .int .i64 c.ld, .int .i64 c.mn, .int .i64 c.md, .int .i64 c.pol]] w fun e w' => e = .returned (.int .i64 (p_m c)) ∧ Below w.heap.size w w' := by
 refine q_r ?_; intro hx0 hr0
 have HE := a_2 (show p_m c = a_c (a_z c.cols 1) (a_c (a_z c.ocols 1) (a_c (a_b (c.cols.length ≠ c.ocols.length) 8) (a_L c.other))) from rfl)
 have H1 := a_2 (fun W (hb : Below w.heap.size w W) => c_c p.1 c.cols p.2 0 W (h1.1.below hb) ho.cols h1.2)
 have H2 := a_2 (fun W (hb : Below w.heap.size w W) => c_c q.1 c.ocols q.2 0 W (h2.1.below hb) ho.ocols h2.2)
 have H3 := a_2 (fun W => d_D c.other W ho.other)
 clear h1 h2 h3 ho
 unfold a_L at HE
 generalize p_m c = res at *
 generalize a_z c.cols 1 = v1 at *
 generalize a_z c.ocols 1 = v2 at *
 generalize qlB c.other = z at *
 by_cases e1 : v1 = 0
 rotate_left
 ·have HR := a_2 (HE.out.trans (a_h e1))
  have hvb : (v1 != 0) = true := by simpa using e1
  clear HE e1
  go_enter func186, ntmps186
  go_wp2_with (first
   | (go_at_call 185; refine (H1.out _ hr0).mono ?_; rintro e w1 ⟨rfl, hb1⟩; have hx1 := a_1 hx0 s_ hb1; have hr1 := a_9 hb1 hr0; obtain ⟨c0, c1, c2, c3, c4, c5, c6, c7, c8, c9, c10, c11, c12, c13, hlw⟩ := d_k hx1; clear H1))
  all_goals first | (exfalso; omega) | skip
  exact d_e
 subst e1
 rw [a_m] at HE
 by_cases e2 : v2 = 0
 rotate_left
 ·have HR := a_2 (HE.out.trans (a_h e2))
  have hvb : (v2 != 0) = true := by simpa using e2
  clear HE e2
  go_enter func186, ntmps186
  go_wp2_with (first
   | (go_at_call 185; refine (H1.out _ hr0).mono ?_; rintro e w1 ⟨rfl, hb1⟩; have hx1 := a_1 hx0 s_ hb1; have hr1 := a_9 hb1 hr0; obtain ⟨c0, c1, c2, c3, c4, c5, c6, c7, c8, c9, c10, c11, c12, c13, hlw⟩ := d_k hx1; clear H1)
   | (go_at_call 185; refine (H2.out _ hr1).mono ?_; rintro e w2 ⟨rfl, hb2⟩; have hx2 := a_1 hx1 s_ hb2; have hr2 := a_9 hb2 hr1; clear c0 c1 c2 c3 c4 c5 c6 c7 c8 c9 c10 c11 c12 c13; obtain ⟨c0, c1, c2, c3, c4, c5, c6, c7, c8, c9, c10, c11, c12, c13, hlw⟩ := d_k hx2))
  all_goals first | (exfalso; omega) | skip
  exact n_p
 subst e2
 rw [a_m] at HE
 by_cases e3 : c.cols.length = c.ocols.length
 rotate_left
 ·have HR := a_2 (show res = 8 from HE.out.trans (by rw [a_k e3]; exact a_h d_))
  have e4 : c.cols.length < c.ocols.length ∨ c.ocols.length < c.cols.length := by omega
  clear HE e3
  rcases e4 with e4 | e4
  all_goals
   go_enter func186, ntmps186
   go_wp2_with (first
    | (go_at_call 185; refine (H1.out _ hr0).mono ?_; rintro e w1 ⟨rfl, hb1⟩; have hx1 := a_1 hx0 s_ hb1; have hr1 := a_9 hb1 hr0; obtain ⟨c0, c1, c2, c3, c4, c5, c6, c7, c8, c9, c10, c11, c12, c13, hlw⟩ := d_k hx1; clear H1)
    | (go_at_call 185; refine (H2.out _ hr1).mono ?_; rintro e w2 ⟨rfl, hb2⟩; have hx2 := a_1 hx1 s_ hb2; have hr2 := a_9 hb2 hr1; clear c0 c1 c2 c3 c4 c5 c6 c7 c8 c9 c10 c11 c12 c13; obtain ⟨c0, c1, c2, c3, c4, c5, c6, c7, c8, c9, c10, c11, c12, c13, hlw⟩ := d_k hx2))
   all_goals first | (exfalso; omega) | skip
   exact n_p
 rw [a_G (by simpa using e3), a_m] at HE
 generalize c.cols.length = lc at *
 generalize c.ocols.length = lo at *
 subst e3
 cases z
 ·have HR := a_2 (show res = 4 from HE.out)
  clear HE
  go_enter func186, ntmps186
  go_wp2_with (first
   | (go_at_call 185; refine (H1.out _ hr0).mono ?_; rintro e w1 ⟨rfl, hb1⟩; have hx1 := a_1 hx0 s_ hb1; have hr1 := a_9 hb1 hr0; obtain ⟨c0, c1, c2, c3, c4, c5, c6, c7, c8, c9, c10, c11, c12, c13, hlw⟩ := d_k hx1; clear H1)
   | (go_at_call 185; refine (H2.out _ hr1).mono ?_; rintro e w2 ⟨rfl, hb2⟩; have hx2 := a_1 hx1 s_ hb2; have hr2 := a_9 hb2 hr1; clear c0 c1 c2 c3 c4 c5 c6 c7 c8 c9 c10 c11 c12 c13; obtain ⟨c0, c1, c2, c3, c4, c5, c6, c7, c8, c9, c10, c11, c12, c13, hlw⟩ := d_k hx2)
   | (go_at_call 67; refine (H3.out _).mono ?_; rintro e w3 ⟨rfl, hb3⟩; have hr3 := a_9 hb3 hr2))
  all_goals first | (exfalso; omega) | skip
  exact l_Q
 ·have HR := a_2 (show res = 0 from HE.out)
  clear HE
  go_enter func186, ntmps186
  go_wp2_with (first
   | (go_at_call 185; refine (H1.out _ hr0).mono ?_; rintro e w1 ⟨rfl, hb1⟩; have hx1 := a_1 hx0 s_ hb1; have hr1 := a_9 hb1 hr0; obtain ⟨c0, c1, c2, c3, c4, c5, c6, c7, c8, c9, c10, c11, c12, c13, hlw⟩ := d_k hx1; clear H1)
   | (go_at_call 185; refine (H2.out _ hr1).mono ?_; rintro e w2 ⟨rfl, hb2⟩; have hx2 := a_1 hx1 s_ hb2; have hr2 := a_9 hb2 hr1; clear c0 c1 c2 c3 c4 c5 c6 c7 c8 c9 c10 c11 c12 c13; obtain ⟨c0, c1, c2, c3, c4, c5, c6, c7, c8, c9, c10, c11, c12, c13, hlw⟩ := d_k hx2)
   | (go_at_call 67; refine (H3.out _).mono ?_; rintro e w3 ⟨rfl, hb3⟩; have hr3 := a_9 hb3 hr2))
  all_goals first | (exfalso; omega) | skip
  exact l_Q
set_option maxRecDepth 512
theorem f_j {w : World} {p : Pl} {l : List a_3} (h : b_9 w p l) (hl : l.length = 1) : ∃ g off, p.1 = some ⟨g, off, none⟩ ∧ g < w.heap.size ∧ w.cell? ⟨g, off, none⟩ = some (str (l.getD 0 [])) := by
 rcases h.1 with e | ⟨g, off, hA, hg, hc⟩
 ·rw [e] at hl; exact absurd hl s_
 ·refine ⟨g, off, hA, hg, ?_⟩
  have d0 := hc 0 o_
  rw [Nat.add_zero] at d0
  rw [d0, List.getD_eq_getElem?_getD, List.getElem?_eq_getElem o_]
  rfl
set_option maxRecDepth 100000
theorem h_8 (c : Chk) (p q r : Pl) (w : World) (h1 : b_9 w p c.cols) (h2 : b_9 w q c.ocols) (h3 : b_q w r.1 c.cond) (ho : c.ok) (hk0 : 0 ≤ c.kind) (hk6 : c.kind ≤ 6) :
  Calls prog 131 #[.agg #[str c.name, str c.table, .int .i64 c.kind, slV p c.cols.length, str c.other, slV q c.ocols.length, .int .i64 c.low, .int .i64 c.high, slV r c.cond.length, .int .i64 c.ln, .int .i64 c.ld, .int .i64 c.mn, .int .i64 c.md, .int .i64 c.pol]] w fun e w' => e = .returned (.int .i64 (e_c c)) ∧ Below w.heap.size w w' := by
 refine q_r ?_; intro hx0 hr0
 have HE := a_2 (show e_c c = if c.kind = 0 ∨ c.kind = 1 then a_z c.cols 1
  else if c.kind = 2 then a_c (a_b (c.cols.length ≠ 1) 2) (a_c (a_F (c.cols.getD 0 [])) (a_b (c.low < -1073741824 ∨ c.high < c.low ∨ 1073741824 < c.high) 1))
  else if c.kind = 3 then p_m c
  else if c.kind = 4 then a_u c.cond
  else if c.kind = 5 then a_c (a_u c.cond) (a_b (e_O c.ln c.ld = false ∨ e_O c.mn c.md = false) 1)
  else a_c (a_b (c.cols.length ≠ 1 ∨ c.ocols.length ≠ 1) 2) (a_c (a_F (c.cols.getD 0 [])) (a_c (a_F (c.ocols.getD 0 [])) (a_L c.other))) from rfl)
 have HP := a_2 h1
 have HQ := a_2 h2
 have HO := a_2 ho
 have HL := a_2 (fun W (hb : Below w.heap.size w W) => c_c p.1 c.cols p.2 0 W (h1.1.below hb) ho.cols h1.2)
 have HX := a_2 (fun W (hb : Below w.heap.size w W) => b_l r.1 c.cond r.2 W (h3.below hb) ho.cond ho.condN)
 have HRf := a_2 (fun W (hb : Below w.heap.size w W) => e_w c p q r W (h1.below hb) (h2.below hb) (h3.below hb) ho)
 have HRa := a_2 (fun W => d_S c.ln c.ld W)
 have HRb := a_2 (fun W => d_S c.mn c.md W)
 have HNm := a_2 (fun (x : a_3) W => d_7 x W)
 have HQl := a_2 (fun W => d_D c.other W ho.other)
 generalize e_c c = res at *
 clear h1 h2 h3 ho
 by_cases k0 : c.kind = 0
 ·have b0 : (c.kind == 0) = true := by simpa using k0
  have HR := a_2 (show res = a_z c.cols 1 from by rw [HE.out]; simp [k0])
  clear HE k0
  go_enter func131, ntmps131
  go_wp2_with (first
   | (go_at_call 185; refine (HL.out _ hr0).mono ?_; rintro e w1 ⟨rfl, hb1⟩; have hr1 := a_9 hb1 hr0))
  all_goals first | (exfalso; omega) | skip
  exact d_e
 have b0 : (c.kind == 0) = false := beq_eq_false_iff_ne.2 k0
 by_cases k1 : c.kind = 1
 ·have b1 : (c.kind == 1) = true := by simpa using k1
  have HR := a_2 (show res = a_z c.cols 1 from by rw [HE.out]; simp [k1])
  clear HE k1
  go_enter func131, ntmps131
  go_wp2_with (first
   | (go_at_call 185; refine (HL.out _ hr0).mono ?_; rintro e w1 ⟨rfl, hb1⟩; have hr1 := a_9 hb1 hr0))
  all_goals first | (exfalso; omega) | skip
  exact d_e
 have b1 : (c.kind == 1) = false := beq_eq_false_iff_ne.2 k1
 by_cases k2 : c.kind = 2
 ·have b2 : (c.kind == 2) = true := by simpa using k2
  rw [if_neg o_, if_pos k2] at HE
  clear k2
  by_cases hl : c.cols.length = 1
  rotate_left
  ·have HR := a_2 (show res = 2 from HE.out.trans (by rw [a_k hl]; exact a_h d_))
   have hl2 : c.cols.length < 1 ∨ 1 < c.cols.length := by omega
   clear HE hl
   rcases hl2 with hl2 | hl2
   all_goals
    go_enter func131, ntmps131
    go_wp2_with (first
     | fail)
    all_goals first | (exfalso; omega) | skip
    exact k_4
  rw [a_G (by simpa using hl), a_m] at HE
  obtain ⟨g, off, hA, hg, hd⟩ := f_j HP.out hl
  have HN1 := a_2 (fun W => HNm.out (c.cols.getD 0 []) W)
  have d0 := (hr0.cell (p := ⟨g, off, none⟩) hg).trans hd
  have hlz : ((c.cols.length : Nat) : Int) = 1 := by omega
  clear HP HL HX HRf hd
  obtain ⟨pA, pC⟩ := p
  simp only at hA
  subst hA
  dsimp only [slV] at *
  rw [hl] at hx0 hr0 d0 ⊢
  unfold a_F at HE
  generalize c.cols.getD 0 [] = x at *
  generalize nmB x = zz at *
  cases zz
  ·have HR := a_2 (show res = 4 from HE.out.trans (by exact a_h d_))
   clear HE
   go_enter func131, ntmps131
   go_wp2_with (first
    | (go_at_call 32; refine (HN1.out _).mono ?_; rintro e w1 ⟨rfl, hb1⟩; have hx1 := a_1 hx0 s_ hb1; have hr1 := a_9 hb1 hr0; obtain ⟨c0, c1, c2, c3, c4, c5, c6, c7, c8, c9, c10, c11, c12, c13, hlw⟩ := d_k hx1))
   all_goals first | (exfalso; omega) | skip
   exact d_e
  rw [if_pos rfl, a_m] at HE
  by_cases f1 : c.low < -1073741824
  ·have HR := a_2 (show res = 1 from HE.out.trans (a_k (.inl f1)))
   go_enter func131, ntmps131
   go_wp2_with (first
    | (go_at_call 32; refine (HN1.out _).mono ?_; rintro e w1 ⟨rfl, hb1⟩; have hx1 := a_1 hx0 s_ hb1; have hr1 := a_9 hb1 hr0; obtain ⟨c0, c1, c2, c3, c4, c5, c6, c7, c8, c9, c10, c11, c12, c13, hlw⟩ := d_k hx1))
   all_goals first | (exfalso; omega) | skip
   exact d_e
  by_cases f2 : c.high < c.low
  ·have HR := a_2 (show res = 1 from HE.out.trans (a_k (.inr (.inl f2))))
   go_enter func131, ntmps131
   go_wp2_with (first
    | (go_at_call 32; refine (HN1.out _).mono ?_; rintro e w1 ⟨rfl, hb1⟩; have hx1 := a_1 hx0 s_ hb1; have hr1 := a_9 hb1 hr0; obtain ⟨c0, c1, c2, c3, c4, c5, c6, c7, c8, c9, c10, c11, c12, c13, hlw⟩ := d_k hx1))
   all_goals first | (exfalso; omega) | skip
   exact d_e
  by_cases f3 : 1073741824 < c.high
  ·have HR := a_2 (show res = 1 from HE.out.trans (a_k (.inr (.inr f3))))
   go_enter func131, ntmps131
   go_wp2_with (first
    | (go_at_call 32; refine (HN1.out _).mono ?_; rintro e w1 ⟨rfl, hb1⟩; have hx1 := a_1 hx0 s_ hb1; have hr1 := a_9 hb1 hr0; obtain ⟨c0, c1, c2, c3, c4, c5, c6, c7, c8, c9, c10, c11, c12, c13, hlw⟩ := d_k hx1))
   all_goals first | (exfalso; omega) | skip
   exact d_e
  ·have HR := a_2 (show res = 0 from HE.out.trans (a_G o_))
   go_enter func131, ntmps131
   go_wp2_with (first
    | (go_at_call 32; refine (HN1.out _).mono ?_; rintro e w1 ⟨rfl, hb1⟩; have hx1 := a_1 hx0 s_ hb1; have hr1 := a_9 hb1 hr0; obtain ⟨c0, c1, c2, c3, c4, c5, c6, c7, c8, c9, c10, c11, c12, c13, hlw⟩ := d_k hx1))
   all_goals first | (exfalso; omega) | skip
   exact d_e
 have b2 : (c.kind == 2) = false := beq_eq_false_iff_ne.2 k2
 by_cases k3 : c.kind = 3
 ·have b3 : (c.kind == 3) = true := by simpa using k3
  have HR := a_2 (show res = p_m c from by rw [HE.out]; simp [k3])
  clear HE k3
  go_enter func131, ntmps131
  go_wp2_with (first
   | (go_at_call 186; refine (HRf.out _ hr0).mono ?_; rintro e w1 ⟨rfl, hb1⟩; have hr1 := a_9 hb1 hr0))
  all_goals first | (exfalso; omega) | skip
  exact d_e
 have b3 : (c.kind == 3) = false := beq_eq_false_iff_ne.2 k3
 by_cases k4 : c.kind = 4
 ·have b4 : (c.kind == 4) = true := by simpa using k4
  have HR := a_2 (show res = a_u c.cond from by rw [HE.out]; simp [k4])
  clear HE k4
  go_enter func131, ntmps131
  go_wp2_with (first
   | (go_at_call 182; refine (HX.out _ hr0).mono ?_; rintro e w1 ⟨rfl, hb1⟩; have hr1 := a_9 hb1 hr0))
  all_goals first | (exfalso; omega) | skip
  exact d_e
 have b4 : (c.kind == 4) = false := beq_eq_false_iff_ne.2 k4
 by_cases k5 : c.kind = 5
 ·have b5 : (c.kind == 5) = true := by simpa using k5
  rw [if_neg o_, if_neg o_, if_neg o_, if_neg o_, if_pos k5] at HE
  clear k5
  generalize a_u c.cond = v1 at *
  by_cases e1 : v1 = 0
  rotate_left
  ·have HR := a_2 (HE.out.trans (a_h e1))
   have hvb : (v1 != 0) = true := by simpa using e1
   clear HE e1
   go_enter func131, ntmps131
   go_wp2_with (first
    | (go_at_call 182; refine (HX.out _ hr0).mono ?_; rintro e w1 ⟨rfl, hb1⟩; have hx1 := a_1 hx0 s_ hb1; have hr1 := a_9 hb1 hr0; obtain ⟨c0, c1, c2, c3, c4, c5, c6, c7, c8, c9, c10, c11, c12, c13, hlw⟩ := d_k hx1))
   all_goals first | (exfalso; omega) | skip
   exact d_e
  subst e1
  rw [a_m] at HE
  generalize e_O c.ln c.ld = z1 at *
  generalize e_O c.mn c.md = z2 at *
  cases z1 <;> cases z2
  all_goals
   go_enter func131, ntmps131
   go_wp2_with (first
    | (go_at_call 182; refine (HX.out _ hr0).mono ?_; rintro e w1 ⟨rfl, hb1⟩; have hx1 := a_1 hx0 s_ hb1; have hr1 := a_9 hb1 hr0; obtain ⟨c0, c1, c2, c3, c4, c5, c6, c7, c8, c9, c10, c11, c12, c13, hlw⟩ := d_k hx1)
    | (go_at_call 187; refine (HRa.out _).mono ?_; rintro e w2 ⟨rfl, hb2⟩; have hx2 := a_1 hx1 s_ hb2; have hr2 := a_9 hb2 hr1; clear c0 c1 c2 c3 c4 c5 c6 c7 c8 c9 c10 c11 c12 c13; obtain ⟨c0, c1, c2, c3, c4, c5, c6, c7, c8, c9, c10, c11, c12, c13, hlw⟩ := d_k hx2; clear HRa)
    | (go_at_call 187; refine (HRb.out _).mono ?_; rintro e w3 ⟨rfl, hb3⟩))
   all_goals first | (exfalso; omega) | skip
   go_ret
   exact ⟨a_d (by rw [HE.out]; simp [a_b]), by first | exact a_9 hb3 hr2 | exact hr2⟩
 have b5 : (c.kind == 5) = false := beq_eq_false_iff_ne.2 k5
 have b6 : (c.kind == 6) = true := by rw [show c.kind = 6 by omega]; rfl
 rw [if_neg o_, if_neg k2, if_neg k3, if_neg k4, if_neg k5] at HE
 clear k0 k1 k2 k3 k4 k5
 by_cases hl : c.cols.length = 1 ∧ c.ocols.length = 1
 rotate_left
 ·have HR := a_2 (show res = 2 from HE.out.trans (by rw [a_k o_]; exact a_h d_))
  have hl2 : c.cols.length < 1 ∨ 1 < c.cols.length ∨ (c.cols.length = 1 ∧ c.ocols.length < 1) ∨ (c.cols.length = 1 ∧ 1 < c.ocols.length) := by omega
  clear HE hl
  rcases hl2 with hl2 | hl2 | ⟨hl3, hl2⟩ | ⟨hl3, hl2⟩
  all_goals
   go_enter func131, ntmps131
   go_wp2_with (first
    | fail)
   all_goals first | (exfalso; omega) | skip
   exact k_4
 obtain ⟨hl, hm⟩ := hl
 rw [a_G (by simp [hl, hm]), a_m] at HE
 obtain ⟨g, off, hA, hg, hd⟩ := f_j HP.out hl
 obtain ⟨g2, off2, hA2, hg2, hd2⟩ := f_j HQ.out hm
 have HN1 := a_2 (fun W => HNm.out (c.cols.getD 0 []) W)
 have HN2 := a_2 (fun W => HNm.out (c.ocols.getD 0 []) W)
 have d0 := (hr0.cell (p := ⟨g, off, none⟩) hg).trans hd
 have HD2 := a_2 (fun W (hb : Below w.heap.size w W) => (hb.cell (p := ⟨g2, off2, none⟩) hg2).trans hd2)
 clear HP HQ HL HX HRf hd hd2 HNm
 obtain ⟨pA, pC⟩ := p
 obtain ⟨qA, qC⟩ := q
 simp only at hA hA2
 subst hA hA2
 dsimp only [slV] at *
 rw [hl, hm] at hx0 hr0 d0 ⊢
 unfold a_F a_L at HE
 generalize c.cols.getD 0 [] = x at *
 generalize c.ocols.getD 0 [] = y at *
 generalize nmB x = z1 at *
 generalize nmB y = z2 at *
 generalize qlB c.other = z3 at *
 cases z1
 ·have HR := a_2 (show res = 4 from HE.out.trans (by exact a_h d_))
  clear HE
  go_enter func131, ntmps131
  go_wp2_with (first
   | (go_at_call 32; refine (HN1.out _).mono ?_; rintro e w1 ⟨rfl, hb1⟩; have d1 := HD2.out _ (a_9 hb1 hr0); have hx1 := a_1 hx0 s_ hb1; have hr1 := a_9 hb1 hr0; obtain ⟨c0, c1, c2, c3, c4, c5, c6, c7, c8, c9, c10, c11, c12, c13, hlw⟩ := d_k hx1; clear HN1))
  all_goals first | (exfalso; omega) | skip
  exact d_e
 rw [if_pos rfl, a_m] at HE
 cases z2
 ·have HR := a_2 (show res = 4 from HE.out.trans (by exact a_h d_))
  clear HE
  go_enter func131, ntmps131
  go_wp2_with (first
   | (go_at_call 32; refine (HN1.out _).mono ?_; rintro e w1 ⟨rfl, hb1⟩; have d1 := HD2.out _ (a_9 hb1 hr0); have hx1 := a_1 hx0 s_ hb1; have hr1 := a_9 hb1 hr0; obtain ⟨c0, c1, c2, c3, c4, c5, c6, c7, c8, c9, c10, c11, c12, c13, hlw⟩ := d_k hx1; clear HN1)
   | (go_at_call 32; refine (HN2.out _).mono ?_; rintro e w2 ⟨rfl, hb2⟩; have hx2 := a_1 hx1 s_ hb2; have hr2 := a_9 hb2 hr1; clear c0 c1 c2 c3 c4 c5 c6 c7 c8 c9 c10 c11 c12 c13; obtain ⟨c0, c1, c2, c3, c4, c5, c6, c7, c8, c9, c10, c11, c12, c13, hlw⟩ := d_k hx2))
  all_goals first | (exfalso; omega) | skip
  exact n_p
 rw [if_pos rfl, a_m] at HE
 cases z3
 all_goals
  have HR := a_2 HE.out
  go_enter func131, ntmps131
  go_wp2_with (first
   | (go_at_call 32; refine (HN1.out _).mono ?_; rintro e w1 ⟨rfl, hb1⟩; have d1 := HD2.out _ (a_9 hb1 hr0); have hx1 := a_1 hx0 s_ hb1; have hr1 := a_9 hb1 hr0; obtain ⟨c0, c1, c2, c3, c4, c5, c6, c7, c8, c9, c10, c11, c12, c13, hlw⟩ := d_k hx1; clear HN1)
   | (go_at_call 32; refine (HN2.out _).mono ?_; rintro e w2 ⟨rfl, hb2⟩; have hx2 := a_1 hx1 s_ hb2; have hr2 := a_9 hb2 hr1; clear c0 c1 c2 c3 c4 c5 c6 c7 c8 c9 c10 c11 c12 c13; obtain ⟨c0, c1, c2, c3, c4, c5, c6, c7, c8, c9, c10, c11, c12, c13, hlw⟩ := d_k hx2)
   | (go_at_call 67; refine (HQl.out _).mono ?_; rintro e w3 ⟨rfl, hb3⟩; have hr3 := a_9 hb3 hr2))
  all_goals first | (exfalso; omega) | skip
  exact l_Q
theorem g_e (c : Chk) (p q r : Pl) (w : World) (h1 : b_9 w p c.cols) (h2 : b_9 w q c.ocols) (h3 : b_q w r.1 c.cond) (ho : c.ok) :
  Calls prog 68 #[.agg #[str c.name, str c.table, .int .i64 c.kind, slV p c.cols.length, str c.other, slV q c.ocols.length, .int .i64 c.low, .int .i64 c.high, slV r c.cond.length, .int .i64 c.ln, .int .i64 c.ld, .int .i64 c.mn, .int .i64 c.md, .int .i64 c.pol]] w fun e w' => e = .returned (.int .i64 (e_x c)) ∧ Below w.heap.size w w' := by
 refine q_r ?_; intro hx0 hr0
 have HE := a_2 (show e_x c = a_c (a_L c.table) (a_c (a_b (c.kind < 0 ∨ 6 < c.kind ∨ c.pol < 0 ∨ 2 < c.pol) 1) (a_c (a_b (c_Z c = true) 8) (a_c (e_c c) (a_b (c.pol = 0 ∧ 5 ≤ c.kind) 7)))) from rfl)
 have H1 := a_2 (fun W => d_D c.table W ho.table)
 have HU := a_2 (fun (h0 : 0 ≤ c.kind) (h6 : c.kind ≤ 6) W => g_4 c p q r W h0 h6)
 have HRl := a_2 (fun (h0 : 0 ≤ c.kind) (h6 : c.kind ≤ 6) W (hb : Below w.heap.size w W) => h_8 c p q r W (h1.below hb) (h2.below hb) (h3.below hb) ho h0 h6)
 clear h1 h2 h3 ho
 unfold a_L at HE
 generalize e_x c = res at *
 generalize e_c c = v at *
 generalize c_Z c = sp at *
 generalize qlB c.table = z at *
 cases z
 ·have HR := a_2 (show res = 4 from HE.out.trans (by exact a_h d_))
  clear HE
  go_enter func68, ntmps68
  go_wp2_with (first
   | (go_at_call 67; refine (H1.out _).mono ?_; rintro e w1 ⟨rfl, hb1⟩; have hx1 := a_1 hx0 s_ hb1; have hr1 := a_9 hb1 hr0; obtain ⟨c0, c1, c2, c3, c4, c5, c6, c7, c8, c9, c10, c11, c12, c13, hlw⟩ := d_k hx1))
  all_goals first | (exfalso; omega) | skip
  exact d_e
 rw [if_pos rfl, a_m] at HE
 by_cases hr : c.kind < 0 ∨ 6 < c.kind ∨ c.pol < 0 ∨ 2 < c.pol
 ·have HR := a_2 (show res = 1 from HE.out.trans (by rw [a_k hr]; exact a_h d_))
  have hr' : c.kind < 0 ∨ 6 < c.kind ∨ (0 ≤ c.kind ∧ c.kind ≤ 6 ∧ c.pol < 0) ∨ (0 ≤ c.kind ∧ c.kind ≤ 6 ∧ 2 < c.pol) := by omega
  clear HE hr
  rcases hr' with g1 | g1 | ⟨g2, g3, g1⟩ | ⟨g2, g3, g1⟩
  all_goals
   go_enter func68, ntmps68
   go_wp2_with (first
    | (go_at_call 67; refine (H1.out _).mono ?_; rintro e w1 ⟨rfl, hb1⟩; have hx1 := a_1 hx0 s_ hb1; have hr1 := a_9 hb1 hr0; obtain ⟨c0, c1, c2, c3, c4, c5, c6, c7, c8, c9, c10, c11, c12, c13, hlw⟩ := d_k hx1))
   all_goals first | (exfalso; omega) | skip
   exact d_e
 rw [a_G hr, a_m] at HE
 have g1 : ¬ c.kind < 0 := by omega
 have g2 : ¬ 6 < c.kind := by omega
 have g3 : ¬ c.pol < 0 := by omega
 have g4 : ¬ 2 < c.pol := by omega
 have H2 := a_2 (HU.out o_ o_)
 have H3 := a_2 (HRl.out o_ o_)
 clear HU HRl hr
 cases sp
 rotate_left
 ·have HR := a_2 (show res = 8 from HE.out.trans (by rw [a_k rfl]; exact a_h d_))
  clear HE
  go_enter func68, ntmps68
  go_wp2_with (first
   | (go_at_call 67; refine (H1.out _).mono ?_; rintro e w1 ⟨rfl, hb1⟩; have hx1 := a_1 hx0 s_ hb1; have hr1 := a_9 hb1 hr0; obtain ⟨c0, c1, c2, c3, c4, c5, c6, c7, c8, c9, c10, c11, c12, c13, hlw⟩ := d_k hx1)
   | (go_at_call 130; refine (H2.out _).mono ?_; rintro e w2 ⟨rfl, hb2⟩; have hx2 := a_1 hx1 s_ hb2; have hr2 := a_9 hb2 hr1; clear c0 c1 c2 c3 c4 c5 c6 c7 c8 c9 c10 c11 c12 c13; obtain ⟨c0, c1, c2, c3, c4, c5, c6, c7, c8, c9, c10, c11, c12, c13, hlw⟩ := d_k hx2))
  all_goals first | (exfalso; omega) | skip
  exact n_p
 rw [a_G s_, a_m] at HE
 by_cases e1 : v = 0
 rotate_left
 ·have HR := a_2 (HE.out.trans (a_h e1))
  have hvb : (v != 0) = true := by simpa using e1
  clear HE e1
  go_enter func68, ntmps68
  go_wp2_with (first
   | (go_at_call 67; refine (H1.out _).mono ?_; rintro e w1 ⟨rfl, hb1⟩; have hx1 := a_1 hx0 s_ hb1; have hr1 := a_9 hb1 hr0; obtain ⟨c0, c1, c2, c3, c4, c5, c6, c7, c8, c9, c10, c11, c12, c13, hlw⟩ := d_k hx1)
   | (go_at_call 130; refine (H2.out _).mono ?_; rintro e w2 ⟨rfl, hb2⟩; have hx2 := a_1 hx1 s_ hb2; have hr2 := a_9 hb2 hr1; clear c0 c1 c2 c3 c4 c5 c6 c7 c8 c9 c10 c11 c12 c13; obtain ⟨c0, c1, c2, c3, c4, c5, c6, c7, c8, c9, c10, c11, c12, c13, hlw⟩ := d_k hx2)
   | (go_at_call 131; refine (H3.out _ hr2).mono ?_; rintro e w3 ⟨rfl, hb3⟩; have hx3 := a_1 hx2 s_ hb3; have hr3 := a_9 hb3 hr2; clear c0 c1 c2 c3 c4 c5 c6 c7 c8 c9 c10 c11 c12 c13; obtain ⟨c0, c1, c2, c3, c4, c5, c6, c7, c8, c9, c10, c11, c12, c13, hlw⟩ := d_k hx3))
  all_goals first | (exfalso; omega) | skip
  exact l_Q
 subst e1
 rw [a_m] at HE
 by_cases p0 : c.pol = 0
 rotate_left
 ·have HR := a_2 (show res = 0 from HE.out.trans (a_G o_))
  have p1 : (c.pol == 0) = false := beq_eq_false_iff_ne.2 p0
  clear HE p0
  go_enter func68, ntmps68
  go_wp2_with (first
   | (go_at_call 67; refine (H1.out _).mono ?_; rintro e w1 ⟨rfl, hb1⟩; have hx1 := a_1 hx0 s_ hb1; have hr1 := a_9 hb1 hr0; obtain ⟨c0, c1, c2, c3, c4, c5, c6, c7, c8, c9, c10, c11, c12, c13, hlw⟩ := d_k hx1)
   | (go_at_call 130; refine (H2.out _).mono ?_; rintro e w2 ⟨rfl, hb2⟩; have hx2 := a_1 hx1 s_ hb2; have hr2 := a_9 hb2 hr1; clear c0 c1 c2 c3 c4 c5 c6 c7 c8 c9 c10 c11 c12 c13; obtain ⟨c0, c1, c2, c3, c4, c5, c6, c7, c8, c9, c10, c11, c12, c13, hlw⟩ := d_k hx2)
   | (go_at_call 131; refine (H3.out _ hr2).mono ?_; rintro e w3 ⟨rfl, hb3⟩; have hx3 := a_1 hx2 s_ hb3; have hr3 := a_9 hb3 hr2; clear c0 c1 c2 c3 c4 c5 c6 c7 c8 c9 c10 c11 c12 c13; obtain ⟨c0, c1, c2, c3, c4, c5, c6, c7, c8, c9, c10, c11, c12, c13, hlw⟩ := d_k hx3))
  all_goals first | (exfalso; omega) | skip
  exact l_Q
 have p1 : (c.pol == 0) = true := by simpa using p0
 by_cases k5 : c.kind = 5
 ·have HR := a_2 (show res = 7 from HE.out.trans (a_k ⟨p0, o_⟩))
  have b5 : (c.kind == 5) = true := by simpa using k5
  clear HE p0 k5
  go_enter func68, ntmps68
  go_wp2_with (first
   | (go_at_call 67; refine (H1.out _).mono ?_; rintro e w1 ⟨rfl, hb1⟩; have hx1 := a_1 hx0 s_ hb1; have hr1 := a_9 hb1 hr0; obtain ⟨c0, c1, c2, c3, c4, c5, c6, c7, c8, c9, c10, c11, c12, c13, hlw⟩ := d_k hx1)
   | (go_at_call 130; refine (H2.out _).mono ?_; rintro e w2 ⟨rfl, hb2⟩; have hx2 := a_1 hx1 s_ hb2; have hr2 := a_9 hb2 hr1; clear c0 c1 c2 c3 c4 c5 c6 c7 c8 c9 c10 c11 c12 c13; obtain ⟨c0, c1, c2, c3, c4, c5, c6, c7, c8, c9, c10, c11, c12, c13, hlw⟩ := d_k hx2)
   | (go_at_call 131; refine (H3.out _ hr2).mono ?_; rintro e w3 ⟨rfl, hb3⟩; have hx3 := a_1 hx2 s_ hb3; have hr3 := a_9 hb3 hr2; clear c0 c1 c2 c3 c4 c5 c6 c7 c8 c9 c10 c11 c12 c13; obtain ⟨c0, c1, c2, c3, c4, c5, c6, c7, c8, c9, c10, c11, c12, c13, hlw⟩ := d_k hx3))
  all_goals first | (exfalso; omega) | skip
  exact l_Q
 have b5 : (c.kind == 5) = false := beq_eq_false_iff_ne.2 k5
 by_cases k6 : c.kind = 6
 ·have HR := a_2 (show res = 7 from HE.out.trans (a_k ⟨p0, o_⟩))
  have b6 : (c.kind == 6) = true := by simpa using k6
  clear HE p0 k5 k6
  go_enter func68, ntmps68
  go_wp2_with (first
   | (go_at_call 67; refine (H1.out _).mono ?_; rintro e w1 ⟨rfl, hb1⟩; have hx1 := a_1 hx0 s_ hb1; have hr1 := a_9 hb1 hr0; obtain ⟨c0, c1, c2, c3, c4, c5, c6, c7, c8, c9, c10, c11, c12, c13, hlw⟩ := d_k hx1)
   | (go_at_call 130; refine (H2.out _).mono ?_; rintro e w2 ⟨rfl, hb2⟩; have hx2 := a_1 hx1 s_ hb2; have hr2 := a_9 hb2 hr1; clear c0 c1 c2 c3 c4 c5 c6 c7 c8 c9 c10 c11 c12 c13; obtain ⟨c0, c1, c2, c3, c4, c5, c6, c7, c8, c9, c10, c11, c12, c13, hlw⟩ := d_k hx2)
   | (go_at_call 131; refine (H3.out _ hr2).mono ?_; rintro e w3 ⟨rfl, hb3⟩; have hx3 := a_1 hx2 s_ hb3; have hr3 := a_9 hb3 hr2; clear c0 c1 c2 c3 c4 c5 c6 c7 c8 c9 c10 c11 c12 c13; obtain ⟨c0, c1, c2, c3, c4, c5, c6, c7, c8, c9, c10, c11, c12, c13, hlw⟩ := d_k hx3))
  all_goals first | (exfalso; omega) | skip
  exact l_Q
 ·have b6 : (c.kind == 6) = false := beq_eq_false_iff_ne.2 k6
  have HR := a_2 (show res = 0 from HE.out.trans (a_G o_))
  clear HE p0 k5 k6
  go_enter func68, ntmps68
  go_wp2_with (first
   | (go_at_call 67; refine (H1.out _).mono ?_; rintro e w1 ⟨rfl, hb1⟩; have hx1 := a_1 hx0 s_ hb1; have hr1 := a_9 hb1 hr0; obtain ⟨c0, c1, c2, c3, c4, c5, c6, c7, c8, c9, c10, c11, c12, c13, hlw⟩ := d_k hx1)
   | (go_at_call 130; refine (H2.out _).mono ?_; rintro e w2 ⟨rfl, hb2⟩; have hx2 := a_1 hx1 s_ hb2; have hr2 := a_9 hb2 hr1; clear c0 c1 c2 c3 c4 c5 c6 c7 c8 c9 c10 c11 c12 c13; obtain ⟨c0, c1, c2, c3, c4, c5, c6, c7, c8, c9, c10, c11, c12, c13, hlw⟩ := d_k hx2)
   | (go_at_call 131; refine (H3.out _ hr2).mono ?_; rintro e w3 ⟨rfl, hb3⟩; have hx3 := a_1 hx2 s_ hb3; have hr3 := a_9 hb3 hr2; clear c0 c1 c2 c3 c4 c5 c6 c7 c8 c9 c10 c11 c12 c13; obtain ⟨c0, c1, c2, c3, c4, c5, c6, c7, c8, c9, c10, c11, c12, c13, hlw⟩ := d_k hx3))
  all_goals first | (exfalso; omega) | skip
  exact l_Q
end
end Go.Proofs.YtnpjibaolicbmaaGreatDoor
