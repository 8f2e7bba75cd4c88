/- Parts of the proof. -/
import Derived.Test.YtnpjibaolicbmaaGreatDoorPp09
import Derived.Shelf.Abstract
set_option linter.unusedVariables false
set_option linter.unusedSimpArgs false
set_option maxHeartbeats 8000000
namespace Go.Proofs.YtnpjibaolicbmaaGreatDoor
open Go.Proofs.Tryz
open Go.RowKit
theorem b_k (A : Option Addr) (l : List a_3) (c : Nat) (x : a_3) (W : World) (h : b_b W A l) (hl : l.length ≤ 8796093022208) :
  Calls prog 85 #[.slice A l.length c, str x] W fun e w' => e = .returned (.bool (decide (x ∈ l))) ∧ W = w' := by
 have hd : c_N l x = decide (x ∈ l) := by
  show l.contains x = _
  cases hc : l.contains x
  ·symm; rw [decide_eq_false_iff_not]; intro hm; rw [← List.contains_iff_mem, hc] at hm; cases hm
  ·symm; rw [decide_eq_true_eq]; exact List.contains_iff_mem.1 hc
 rcases h with e | ⟨g, off, rfl, hg, hc⟩
 ·subst e
  refine (Any.slices_Contains_string_empty Tryz.lays110 A c ⟨x.toArray⟩ W).mono ?_
  rintro e w' ⟨rfl, rfl⟩
  exact ⟨a_a s_, rfl⟩
 ·refine (i_J g off c l ⟨x.toArray⟩ W o_ (fun j hj => by rw [hc j hj, List.getD_eq_getElem?_getD, List.getElem?_eq_getElem hj]; rfl)).mono ?_
  rintro e w' ⟨rfl, rfl⟩
  exact ⟨a_a hd, rfl⟩
theorem b_T (x : a_3) (w : World) (hW : a_v w 1 a_w) : Calls prog 220 #[str x] w fun e w' => e = .returned (.int .i64 (a_F x)) ∧ Below w.heap.size w w' := by
 have H1 := a_2 (fun W => a_Z ⟨x.toArray⟩ W)
 refine p_O ?_; intro H2
 have HE := a_2 (show a_F x = if (a_i 24 x && !c_T x) = true then 0 else 4 from rfl)
 rw [show bs ⟨x.toArray⟩ = x from rfl] at H1 H2
 clear hW
 generalize a_i 24 x = p at *
 generalize c_T x = q at *
 go_enter func220, ntmps220
 cases p <;> cases q
 all_goals
  go_wp2_with (first
   | (go_at_call 81; refine (H1.out _).mono ?_; rintro e w1 ⟨rfl, hb1⟩)
   | (go_at_call 82; refine (H2.out _ hb1).mono ?_; rintro e w' ⟨rfl, rfl⟩))
  exact m_o
theorem d_G (x : a_3) (b : Bool) (w : World) (hW : a_v w 1 a_w) (hx : x.length ≤ maxLen) :
  Calls prog 209 #[str x, .bool b] w fun e w' => e = .returned (.int .i64 (if b = true then c_E x else a_L x)) ∧ Below w.heap.size w w' := by
 have H1 := a_2 (fun W => b_c ⟨x.toArray⟩ W (by show x.toArray.size ≤ _; simpa using hx))
 refine p_O ?_; intro H2
 rw [show bs ⟨x.toArray⟩ = x from rfl] at H1 H2
 clear hW hx
 by_cases hs : b = true ∧ x = b_P
 ·obtain ⟨rfl, rfl⟩ := hs
  clear H1 H2
  go_enter func209, ntmps209
  go_wp2
  go_ret
  exact ⟨a_d d_, b_ _ _⟩
 have HE := a_2 (show (if b = true then c_E x else a_L x) = if (b_4 24 x && !c_T x) = true then 0 else 4 from by
  cases b
  ·rfl
  ·have : x ≠ b_P := fun e => hs ⟨rfl, e⟩
   rw [if_pos rfl]; unfold c_E; rw [if_neg this]
   rfl)
 generalize (if b = true then c_E x else a_L x) = r at *
 have hne : b = true → (x == b_P) = false := fun h => beq_eq_false_iff_ne.2 fun e => hs ⟨h, e⟩
 clear hs
 unfold b_P at hne
 generalize b_4 24 x = p at *
 generalize c_T x = q at *
 go_enter func209, ntmps209
 cases b
 ·clear hne
  cases p <;> cases q
  all_goals
   go_wp2_with (first
    | (go_at_call 113; refine (H1.out _).mono ?_; rintro e w1 ⟨rfl, hb1⟩)
    | (go_at_call 82; refine (H2.out _ hb1).mono ?_; rintro e w' ⟨rfl, rfl⟩))
   exact m_o
 ·have hn2 := hne rfl
  clear hne
  cases p <;> cases q
  all_goals
   go_wp2_with (first
    | (go_at_call 113; refine (H1.out _).mono ?_; rintro e w1 ⟨rfl, hb1⟩)
    | (go_at_call 82; refine (H2.out _ hb1).mono ?_; rintro e w' ⟨rfl, rfl⟩))
   exact m_o
set_option maxRecDepth 100000
theorem b_w (A : Option Addr) (l : List a_3) (c m : Nat) (w : World) (hW : a_v w 1 a_w) (h : b_b w A l) (hl : l.length ≤ 8796093022208) (hm : m ≤ 1) (hcp : l.length ≤ c) :
  Calls prog 213 #[.slice A l.length c, .int .i64 m] w fun e w' => e = .returned (.int .i64 (a_z l m)) ∧ Below w.heap.size w w' := by
 have HA := a_2 h
 have HW := a_2 hW
 clear h hW
 by_cases h1 : l.length < m
 ·have HE := a_2 (show a_z l m = 2 from by unfold a_z; rw [if_pos (.inl h1)])
  go_enter func213, ntmps213
  go_wp2
  exact j_X
 by_cases h2 : 12 < l.length
 ·have HE := a_2 (show a_z l m = 2 from by unfold a_z; rw [if_pos (.inr h2)])
  go_enter func213, ntmps213
  go_wp2
  exact j_X
 have HE := a_2 (show a_z l m = a_o (d_O l) l.length from by unfold a_z; rw [if_neg o_])
 go_enter func213, ntmps213
 go_wp2
 go_loopw [19] (fun i wr => ∃ k : Nat, k ≤ l.length ∧ i = .int .i64 k ∧ Hid (∀ j, j < k → d_O l j = 0) ∧ Below w.heap.size w wr) (fun i _ => l.length - (intOf i).toNat)
 case atStart => exact ⟨0, o_, rfl, fun j hj => absurd hj (Nat.not_lt_zero _), b_ _ _⟩
 case round =>
  obtain ⟨k, hk, rfl, HZ, hbel⟩ := hrel
  by_cases hlt : k < l.length
  ·rcases HA.out.below hbel with e | ⟨g, off, rfl, hg, hc⟩
   ·exact absurd hlt e_
   have c0 := hc k hlt; have HC := a_2 (b_T l[k] wr (HW.out.below hbel))
   have HH := a_2 (fun W (hb : Below wr.heap.size wr W) => by
    have := b_k (some ⟨g, off, none⟩) (l.take k) c l[k] W ((b_F hg hc k).below hb) (by rw [List.length_take]; omega); rw [List.length_take, Nat.min_eq_left (Nat.le_of_lt hlt)] at this
    exact this)
   have HT := a_2 (f_f hlt); refine p_S ?_; intro HF HN hkc; clear hc; unfold a_F at HC; generalize l[k] = x at *
   by_cases hx : nmB x = true
   rotate_left
   ·rw [if_neg hx] at HT HC
    have HR := a_2 (HF.out 4 HT.out d_); clear hx
    go_wp2_with (go_at_call 220; refine (HC.out).mono ?_; rintro e w1 ⟨rfl, hb1⟩)
    exact i_M
   rw [if_pos hx] at HT HC
   by_cases hin : x ∈ l.take k
   ·rw [if_pos hin] at HT
    refine p_r ?_; intro hinb; rw [hinb] at HH; have HR := a_2 (HF.out 6 HT.out d_); clear hin hinb hx
    go_wp2_with (first
     | (go_at_call 220; refine (HC.out).mono ?_; rintro e w1 ⟨rfl, hb1⟩)
     | (go_at_call 85; refine (HH.out _ hb1).mono ?_; rintro e w' ⟨rfl, rfl⟩))
    exact i_M
   ·rw [if_neg hin] at HT
    refine p_g ?_; intro hinb; rw [hinb] at HH; have HR := a_2 (HN.out HT.out); clear hin hinb hx
    go_wp2_with (first
     | (go_at_call 220; refine (HC.out).mono ?_; rintro e w1 ⟨rfl, hb1⟩)
     | (go_at_call 85; refine (HH.out _ hb1).mono ?_; rintro e w' ⟨rfl, rfl⟩))
    exact p_Z
  ·obtain rfl : k = l.length := by omega
   refine i_2 ?_; intro HR
   go_wp2
   exact i_N
set_option maxRecDepth 512
abbrev a_f (b : Nat) : Value := .pointer (some ⟨b, 0, none⟩)
theorem l_k (b1 b2 : Nat) (p : Bool) (x : Int) (w : World) (h1 : w.cell? ⟨b1, 0, none⟩ = some (.bool p)) (h2 : w.cell? ⟨b2, 0, none⟩ = some (.int .i64 x)) :
  Calls prog 260 #[a_f b1, a_f b2] w fun e w' => e = .returned (.int .i64 (if p = true then x else 0)) ∧ w = w' := by
 go_enter func260, ntmps260
 cases p
 all_goals
  go_wp2
  exact m_Y
theorem h_6 (p : Bool) (x : Int) (w : World) :
  Calls prog 215 #[.bool p, .int .i64 x] w fun e w' => e = .returned (.func (.func 260) #[] #[a_f w.heap.size, a_f (w.heap.size + 1)]) ∧ (w.alloc (.cells #[.bool p] 4)).alloc (.cells #[.int .i64 x] 39) = w' := by
 go_enter func215, ntmps215
 go_wp2
 exact m_Y
set_option maxRecDepth 100000
theorem g_v (B c : Nat) (fs : List (Nat × Array Value)) (f : Nat → Int) (w : World) (hB : B < w.heap.size) (hn : fs.length ≤ 10)
  (hc : ∀ j (h : j < fs.length), w.cell? ⟨B, j, none⟩ = some (.func (.func fs[j].1) #[] fs[j].2))
  (eg : ∀ j (h : j < fs.length) args W, (callFunc fs[j].1 args).run prog W = .ok (.enter fs[j].1 args) W)
  (hp : ∀ j (h : j < fs.length) W, Below w.heap.size w W → Calls prog fs[j].1 fs[j].2 W fun e w' => e = .returned (.int .i64 (f j)) ∧ Below w.heap.size w w') :
  Calls prog 211 #[.slice (some ⟨B, 0, none⟩) fs.length c] w fun e w' => e = .returned (.int .i64 (a_o f fs.length)) ∧ Below w.heap.size w w' := by
 have HC := a_2 hc
 have HG := a_2 eg
 have HP := a_2 hp
 clear hc eg hp
 go_enter func211, ntmps211
 go_wp2
 go_loopw [8] (fun i wr => ∃ k : Nat, k ≤ fs.length ∧ i = .int .i64 k ∧ Hid (∀ j, j < k → f j = 0) ∧ Below w.heap.size w wr) (fun i _ => fs.length - (intOf i).toNat)
 case atStart => exact ⟨0, o_, rfl, fun j hj => absurd hj (Nat.not_lt_zero _), b_ _ _⟩
 case round =>
  obtain ⟨k, hk, rfl, HZ, hbel⟩ := hrel
  by_cases hlt : k < fs.length
  ·have c0 := (hbel.cell (p := ⟨B, k, none⟩) hB).trans (HC.out k hlt)
   have hcall := HP.out k hlt wr hbel; refine s_a ?_; intro hgo HF HN; obtain ⟨⟨g, lb⟩, hgl⟩ : ∃ r, r = fs[k] := ⟨_, rfl⟩; rw [← hgl] at c0 hcall hgo; simp only at c0 hcall hgo; clear hgl; generalize f k = v at *
   by_cases hv : v = 0
   ·subst hv
    have HR := a_2 (HN.out rfl); clear HF HN
    go_wp2_with (go_at_fn g; refine hcall.mono ?_; rintro e w1 ⟨rfl, hb1⟩)
    exact ⟨⟨k + 1, o_, t_, HR, hb1⟩, w_⟩
   ·have hvb : (v != 0) = true := by simpa using hv
    have HR := a_2 (HF.out hv); clear HF HN
    go_wp2_with (go_at_fn g; refine hcall.mono ?_; rintro e w1 ⟨rfl, hb1⟩)
    exact q_h
  ·obtain rfl : k = fs.length := by omega
   have HR := a_2 (a_Y HZ.out)
   go_wp2
   exact i_N
set_option maxRecDepth 512
def i_H : List Bool := [true, false, false, false, false, false, false, false, false, true, false, false, false, true, false, false, true, false, false, false, true, true, true, true, false, true, true, true, true, false, true, true, true, false, false, true, true, true, false, false, true, false, false, false, false, true, false, false, false, false, false, false, false, false, false, false, true, false, true, false, false, true, true, true, false]
def c_7 (w : World) : Prop := 2 < w.heap.size ∧ ∀ j, j < 65 → w.cell? ⟨2, j, none⟩ = some (.bool (i_H.getD j false))
theorem c_7.below {w w' : World} (h : c_7 w) (hb : Below w.heap.size w w') : c_7 w' := ⟨Nat.lt_of_lt_of_le h.1 hb.size, fun j hj => (hb.cell (p := ⟨_, _, none⟩) h.1).trans (h.2 j hj)⟩
set_option maxRecDepth 100000
theorem f_S (op : Int) (src : a_3) (nA : Option Addr) (ln nC : Nat) (oA : Option Addr) (lo oC : Nat) (iA : Option Addr) (li iC : Nat) (cA : Option Addr) (lc cC : Nat) (w : World) (hU : c_7 w) :
  Calls prog 207 #[.agg #[.int .i64 op, str src, .slice nA ln nC, .slice oA lo oC, .slice iA li iC, .slice cA lc cC]] w fun e w' => e = .returned (.bool (decide (0 ≤ op ∧ op ≤ 12) && !b_z op src ln lo li lc)) ∧ Below w.heap.size w w' := by
 by_cases hlo : op < 0
 ·have HX := a_2 (show decide (0 ≤ op ∧ op ≤ 12) = false from by simp; omega)
  clear hU
  generalize b_z op src ln lo li lc = ub
  go_enter func207, ntmps207
  go_wp2
  exact r_N
 by_cases hhi : 12 < op
 ·have HX := a_2 (show decide (0 ≤ op ∧ op ≤ 12) = false from by simp; omega)
  clear hU
  generalize b_z op src ln lo li lc = ub
  go_enter func207, ntmps207
  go_wp2
  exact r_N
 have hg := hU.1
 refine q_G ?_; intro hop
 clear hlo hhi
 rcases hop with rfl | rfl | rfl | rfl | rfl | rfl | rfl | rfl | rfl | rfl | rfl | rfl | rfl
 ·have u0 : w.cell? ⟨2, 0, none⟩ = some (.bool true) := hU.2 0 d_
  have u1 : w.cell? ⟨2, 1, none⟩ = some (.bool false) := hU.2 1 d_
  have u2 : w.cell? ⟨2, 2, none⟩ = some (.bool false) := hU.2 2 d_
  have u3 : w.cell? ⟨2, 3, none⟩ = some (.bool false) := hU.2 3 d_
  have u4 : w.cell? ⟨2, 4, none⟩ = some (.bool false) := hU.2 4 d_
  clear hU
  go_enter func207, ntmps207
  go_wp2
  all_goals
   exact k_e
 ·have u0 : w.cell? ⟨2, 5, none⟩ = some (.bool false) := hU.2 5 d_
  have u1 : w.cell? ⟨2, 6, none⟩ = some (.bool false) := hU.2 6 d_
  have u2 : w.cell? ⟨2, 7, none⟩ = some (.bool false) := hU.2 7 d_
  have u3 : w.cell? ⟨2, 8, none⟩ = some (.bool false) := hU.2 8 d_
  have u4 : w.cell? ⟨2, 9, none⟩ = some (.bool true) := hU.2 9 d_
  clear hU
  go_enter func207, ntmps207
  go_wp2
  all_goals
   exact k_e
 ·have u0 : w.cell? ⟨2, 10, none⟩ = some (.bool false) := hU.2 10 d_
  have u1 : w.cell? ⟨2, 11, none⟩ = some (.bool false) := hU.2 11 d_
  have u2 : w.cell? ⟨2, 12, none⟩ = some (.bool false) := hU.2 12 d_
  have u3 : w.cell? ⟨2, 13, none⟩ = some (.bool true) := hU.2 13 d_
  have u4 : w.cell? ⟨2, 14, none⟩ = some (.bool false) := hU.2 14 d_
  clear hU
  go_enter func207, ntmps207
  go_wp2
  all_goals
   exact k_e
 ·have u0 : w.cell? ⟨2, 15, none⟩ = some (.bool false) := hU.2 15 d_
  have u1 : w.cell? ⟨2, 16, none⟩ = some (.bool true) := hU.2 16 d_
  have u2 : w.cell? ⟨2, 17, none⟩ = some (.bool false) := hU.2 17 d_
  have u3 : w.cell? ⟨2, 18, none⟩ = some (.bool false) := hU.2 18 d_
  have u4 : w.cell? ⟨2, 19, none⟩ = some (.bool false) := hU.2 19 d_
  clear hU
  go_enter func207, ntmps207
  go_wp2
  all_goals
   exact k_e
 ·have u0 : w.cell? ⟨2, 20, none⟩ = some (.bool true) := hU.2 20 d_
  have u1 : w.cell? ⟨2, 21, none⟩ = some (.bool true) := hU.2 21 d_
  have u2 : w.cell? ⟨2, 22, none⟩ = some (.bool true) := hU.2 22 d_
  have u3 : w.cell? ⟨2, 23, none⟩ = some (.bool true) := hU.2 23 d_
  have u4 : w.cell? ⟨2, 24, none⟩ = some (.bool false) := hU.2 24 d_
  clear hU
  go_enter func207, ntmps207
  go_wp2
  all_goals
   exact k_e
 ·have u0 : w.cell? ⟨2, 25, none⟩ = some (.bool true) := hU.2 25 d_
  have u1 : w.cell? ⟨2, 26, none⟩ = some (.bool true) := hU.2 26 d_
  have u2 : w.cell? ⟨2, 27, none⟩ = some (.bool true) := hU.2 27 d_
  have u3 : w.cell? ⟨2, 28, none⟩ = some (.bool true) := hU.2 28 d_
  have u4 : w.cell? ⟨2, 29, none⟩ = some (.bool false) := hU.2 29 d_
  clear hU
  go_enter func207, ntmps207
  go_wp2
  all_goals
   exact k_e
 ·have u0 : w.cell? ⟨2, 30, none⟩ = some (.bool true) := hU.2 30 d_
  have u1 : w.cell? ⟨2, 31, none⟩ = some (.bool true) := hU.2 31 d_
  have u2 : w.cell? ⟨2, 32, none⟩ = some (.bool true) := hU.2 32 d_
  have u3 : w.cell? ⟨2, 33, none⟩ = some (.bool false) := hU.2 33 d_
  have u4 : w.cell? ⟨2, 34, none⟩ = some (.bool false) := hU.2 34 d_
  clear hU
  go_enter func207, ntmps207
  go_wp2
  all_goals
   exact k_e
 ·have u0 : w.cell? ⟨2, 35, none⟩ = some (.bool true) := hU.2 35 d_
  have u1 : w.cell? ⟨2, 36, none⟩ = some (.bool true) := hU.2 36 d_
  have u2 : w.cell? ⟨2, 37, none⟩ = some (.bool true) := hU.2 37 d_
  have u3 : w.cell? ⟨2, 38, none⟩ = some (.bool false) := hU.2 38 d_
  have u4 : w.cell? ⟨2, 39, none⟩ = some (.bool false) := hU.2 39 d_
  clear hU
  go_enter func207, ntmps207
  go_wp2
  all_goals
   exact k_e
 ·have u0 : w.cell? ⟨2, 40, none⟩ = some (.bool true) := hU.2 40 d_
  have u1 : w.cell? ⟨2, 41, none⟩ = some (.bool false) := hU.2 41 d_
  have u2 : w.cell? ⟨2, 42, none⟩ = some (.bool false) := hU.2 42 d_
  have u3 : w.cell? ⟨2, 43, none⟩ = some (.bool false) := hU.2 43 d_
  have u4 : w.cell? ⟨2, 44, none⟩ = some (.bool false) := hU.2 44 d_
  clear hU
  go_enter func207, ntmps207
  go_wp2
  all_goals
   exact k_e
 ·have u0 : w.cell? ⟨2, 45, none⟩ = some (.bool true) := hU.2 45 d_
  have u1 : w.cell? ⟨2, 46, none⟩ = some (.bool false) := hU.2 46 d_
  have u2 : w.cell? ⟨2, 47, none⟩ = some (.bool false) := hU.2 47 d_
  have u3 : w.cell? ⟨2, 48, none⟩ = some (.bool false) := hU.2 48 d_
  have u4 : w.cell? ⟨2, 49, none⟩ = some (.bool false) := hU.2 49 d_
  clear hU
  go_enter func207, ntmps207
  go_wp2
  all_goals
   exact k_e
 ·have u0 : w.cell? ⟨2, 50, none⟩ = some (.bool false) := hU.2 50 d_
  have u1 : w.cell? ⟨2, 51, none⟩ = some (.bool false) := hU.2 51 d_
  have u2 : w.cell? ⟨2, 52, none⟩ = some (.bool false) := hU.2 52 d_
  have u3 : w.cell? ⟨2, 53, none⟩ = some (.bool false) := hU.2 53 d_
  have u4 : w.cell? ⟨2, 54, none⟩ = some (.bool false) := hU.2 54 d_
  clear hU
  go_enter func207, ntmps207
  go_wp2
  all_goals
   exact k_e
 ·have u0 : w.cell? ⟨2, 55, none⟩ = some (.bool false) := hU.2 55 d_
  have u1 : w.cell? ⟨2, 56, none⟩ = some (.bool true) := hU.2 56 d_
  have u2 : w.cell? ⟨2, 57, none⟩ = some (.bool false) := hU.2 57 d_
  have u3 : w.cell? ⟨2, 58, none⟩ = some (.bool true) := hU.2 58 d_
  have u4 : w.cell? ⟨2, 59, none⟩ = some (.bool false) := hU.2 59 d_
  clear hU
  go_enter func207, ntmps207
  go_wp2
  all_goals
   exact k_e
 ·have u0 : w.cell? ⟨2, 60, none⟩ = some (.bool false) := hU.2 60 d_
  have u1 : w.cell? ⟨2, 61, none⟩ = some (.bool true) := hU.2 61 d_
  have u2 : w.cell? ⟨2, 62, none⟩ = some (.bool true) := hU.2 62 d_
  have u3 : w.cell? ⟨2, 63, none⟩ = some (.bool true) := hU.2 63 d_
  have u4 : w.cell? ⟨2, 64, none⟩ = some (.bool false) := hU.2 64 d_
  clear hU
  go_enter func207, ntmps207
  go_wp2
  all_goals
   exact k_e
set_option maxRecDepth 512
theorem s_D : Go.Maps.Keyed prog 9 := Go.Maps.string_keyed underlying9
theorem r_L : prog.underlying 88 = some (.map 9 4) := by kernel_rfl
theorem q_X (w : World) : (zeroValue 4).run prog w = .ok (.bool false) w := by kernel_rfl
theorem r_O (s : a_3) (hs : s.length ≤ maxLen) : keyOf prog 9 (str s) = some (.string s) := by
 have h := Go.WideMaps.keyOf_string_mk (P := prog) underlying9 (s := ⟨s.toArray⟩) (by show s.toArray.size ≤ maxLen; simpa using hs)
 simpa using h
theorem f_1 {H : Type} {P : Program} {e : TypeId} (he : P.underlying e = some .bool) {v : Value} {z : DataW H × List MemPlace} (h : plainElem P e v = some z) : ∃ x, v = .bool x ∧ z = (.lit (.bool x), []) := by
 unfold plainElem at h
 rw [he] at h
 cases v <;> simp at h
 exact ⟨_, rfl, h.symm⟩
def b_d (w : World) (b n : Nat) (l : List a_3) : Prop :=
 ∃ D : DataW Unit, w.ownsMap prog 9 (plainElem prog 4) b n D ∧ Go.Maps.IsMap D ∧ ∀ s : a_3, D.atKey (.string s) (.lit (.bool false)) = .lit (.bool (decide (s ∈ l)))
theorem b_d.made (w : World) : b_d (w.alloc (.map #[] 0)) w.heap.size 0 [] :=
 ⟨_, World.ownsMap_made w _ _ _, Go.Maps.isMap_empty, fun s => by simp [DataW.atKey]⟩
theorem b_d.lt {w : World} {b n : Nat} {l : List a_3} (h : b_d w b n l) : b < w.heap.size := by
 obtain ⟨D, ho, _⟩ := h
 exact ho.lt
theorem b_d.kept {w w' : World} {b n B : Nat} {l : List a_3} (h : b_d w b n l) (hb : Below B w w') (hB : b < B) : b_d w' b n l := by
 obtain ⟨D, ⟨es, clock, hh, r⟩, hm, hd⟩ := h
 exact ⟨D, ⟨es, clock, (hb.block b hB).trans hh, r⟩, hm, hd⟩
theorem b_d.look {w : World} {b n : Nat} {l : List a_3} (h : b_d w b n l) {s : a_3} (hs : s.length ≤ maxLen) :
  (Instr.lookup 88 (.map (some b)) (str s) false).run prog w = .ok (.bool (decide (s ∈ l))) w := by
 obtain ⟨D, ho, hm, hd⟩ := h
 obtain ⟨v, ps, hrun, hv⟩ := ho.lookup s_D r_L (q_X w) (plainElem_bool underlying4 false) (r_O s hs)
 obtain ⟨x, rfl, hx⟩ := f_1 underlying4 hv
 rw [hd] at hx
 simp at hx
 rw [hrun, ← hx.1]
theorem b_d.put {w : World} {b n : Nat} {l : List a_3} (h : b_d w b n l) (hn : n < maxLen) {s : a_3} (hs : s.length ≤ maxLen) :
  ∃ w', (Instr.mapUpdate 88 (.map (some b)) (str s) (.bool true)).run prog w = .ok () w' ∧ b_d w' b (n + 1) (l ++ [s]) ∧ w.grownBy w' (some b) := by
 obtain ⟨D, ho, hm, hd⟩ := h
 obtain ⟨w', hrun, ho', hg⟩ := ho.update s_D r_L hn (r_O s hs) (plainElem_bool underlying4 true)
 refine ⟨w', hrun, ⟨_, ho', hm.put _ _, fun t => ?_⟩, hg⟩
 by_cases e : t = s
 ·subst e
  rw [Go.Maps.atKey_put_same hm (by trivial)]
  simp
 ·rw [Go.Maps.atKey_put_other (by simpa using e), hd]
  simp [e]
theorem a_p (w : World) {ops : Array Oper} {rest : List Oper} {o : Oper} {a : Act} {Q : Exit → Act → World → Prop}
  (hg : o.guard = none) (m x : Operand) (hop : o.op = Op.lookup 88 m x false) (b n : Nat) (l : List a_3) (s : a_3)
  (hm : a.eval m = .map (some b)) (hx : a.eval x = str s) (h : b_d w b n l) (hs : s.length ≤ maxLen) (q : Bool) (hq : decide (s ∈ l) = q)
  (hK : wpList prog ops Q rest (a.put o.dst (.bool q)) w) : wpList prog ops Q (o :: rest) a w := by
 subst hq
 refine wpList_plain hg fun K' hK' => ?_
 unfold Oper.wp
 simp [execOp, hop, hm, hx, h.look hs, Result.andThen]
 exact hK' _ _ hK
theorem a_P (w : World) {ops : Array Oper} {rest : List Oper} {o : Oper} {a : Act} {Q : Exit → Act → World → Prop}
  (hg : o.guard = none) (m x v : Operand) (hop : o.op = Op.mapUpdate 88 m x v) (b n : Nat) (l : List a_3) (s : a_3)
  (hm : a.eval m = .map (some b)) (hx : a.eval x = str s) (hv : a.eval v = .bool true) (h : b_d w b n l) (hn : n < maxLen) (hs : s.length ≤ maxLen)
  (hK : ∀ w', b_d w' b (n + 1) (l ++ [s]) → w.grownBy w' (some b) → wpList prog ops Q rest (a.put o.dst undef) w') : wpList prog ops Q (o :: rest) a w := by
 refine wpList_plain hg fun K' hK' => ?_
 obtain ⟨w', hrun, r1, r2⟩ := h.put hn hs
 unfold Oper.wp
 simp [execOp, hop, hm, hx, hv, hrun, Result.andThen]
 exact hK' _ _ (hK w' r1 r2)
end Go.Proofs.YtnpjibaolicbmaaGreatDoor
