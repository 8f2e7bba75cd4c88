/- Parts of the proof. -/
import Derived.Test.YtmbeeefkpgfgmaaGreatDoorPp34
set_option linter.unusedVariables false
set_option linter.unusedSimpArgs false
set_option maxHeartbeats 8000000
namespace Go.Proofs.YtmbeeefkpgfgmaaGreatDoor
open Go.Proofs.Tryz
open Go.RowKit
set_option maxRecDepth 100000
theorem l_l (A B : Option Addr) (l : List It) (c d : Nat) (w : World) (hA : f_r w A l) (hB : f_r w B l) (hl : l.length ≤ 1000000) (hx : ∀ x ∈ l, x.expr.length ≤ 1000000) :
  Calls prog 76 #[.slice A l.length c, .slice B l.length d] w fun e w' => e = .returned (.bool true) ∧ Below w.heap.size w w' := by
 have HA := a_0 hA
 have HB := a_0 hB
 have HX := a_0 hx
 clear hA hB hx
 go_enter func76, ntmps76
 go_wp2_with fail
 go_loopw [5] (fun m wr => ∃ k : Nat, m = .int .i64 k ∧ k ≤ l.length ∧ Hid (Below w.heap.size w wr)) (fun m wr => match m with | .int _ i => l.length - i.toNat | _ => 0)
 case atStart => exact ⟨0, rfl, Nat.zero_le _, a_0 (b_ _ _)⟩
 case round =>
  obtain ⟨k, rfl, hk, HW⟩ := hrel
  by_cases hkk : k < l.length
  ·rcases HA.out with h0 | ⟨gA, oA, rfl, hgA, hcA⟩
   ·rw [h0] at hkk; simp at hkk
   rcases HB.out with h0 | ⟨gB, oB, rfl, hgB, hcB⟩
   ·rw [h0] at hkk; simp at hkk
   obtain ⟨a0, a1, a2, a3, E, m, a4, hE⟩ := hcA k hkk; obtain ⟨b0, b1, b2, b3, F, n, b4, hF⟩ := hcB k hkk; have hxl := HX.out l[k] s_; have HS8 := a_0 (fun W (hb : Below w.heap.size w W) => g_M E F l[k].expr m n W (hE.below hb) (hF.below hb) hxl); clear hcA hcB hE hF; generalize l[k] = y at *; obtain ⟨y0, y1, y2, y3, y4⟩ := y; simp only at a0 a1 a2 a3 a4 b0 b1 b2 b3 b4 HS8 hxl; refine s_o ?_; intro hkI; have HK := a_0 (fun w' (hb : Below w.heap.size w w') => show w'.cell? ⟨gA, oA + k * 5, none⟩ = some (str y0) ∧ w'.cell? ⟨gA, oA + k * 5 + 1, none⟩ = some (.int .i64 y1) ∧ w'.cell? ⟨gA, oA + k * 5 + 2, none⟩ = some (str y2) ∧ w'.cell? ⟨gA, oA + k * 5 + 3, none⟩ = some (.int .i64 y3) ∧ w'.cell? ⟨gA, oA + k * 5 + 4, none⟩ = some (.slice E y4.length m) ∧ w'.cell? ⟨gB, oB + k * 5, none⟩ = some (str y0) ∧ w'.cell? ⟨gB, oB + k * 5 + 1, none⟩ = some (.int .i64 y1) ∧ w'.cell? ⟨gB, oB + k * 5 + 2, none⟩ = some (str y2) ∧ w'.cell? ⟨gB, oB + k * 5 + 3, none⟩ = some (.int .i64 y3) ∧ w'.cell? ⟨gB, oB + k * 5 + 4, none⟩ = some (.slice F y4.length n) from ⟨(hb.cell (p := ⟨gA, _, none⟩) hgA).trans a0, (hb.cell (p := ⟨gA, _, none⟩) hgA).trans a1, (hb.cell (p := ⟨gA, _, none⟩) hgA).trans a2, (hb.cell (p := ⟨gA, _, none⟩) hgA).trans a3, (hb.cell (p := ⟨gA, _, none⟩) hgA).trans a4, (hb.cell (p := ⟨gB, _, none⟩) hgB).trans b0, (hb.cell (p := ⟨gB, _, none⟩) hgB).trans b1, (hb.cell (p := ⟨gB, _, none⟩) hgB).trans b2, (hb.cell (p := ⟨gB, _, none⟩) hgB).trans b3, (hb.cell (p := ⟨gB, _, none⟩) hgB).trans b4⟩); clear a0 a1 a2 a3 a4 b0 b1 b2 b3 b4; have hbw := HW.out; have hzw := hbw.size
   go_upto_region 6 with fail
   go_region_held3 (fun w' => w'.cell? ⟨gA, oA + k * 5, none⟩ = some (str y0) ∧ w'.cell? ⟨gA, oA + k * 5 + 1, none⟩ = some (.int .i64 y1) ∧ w'.cell? ⟨gA, oA + k * 5 + 2, none⟩ = some (str y2) ∧ w'.cell? ⟨gA, oA + k * 5 + 3, none⟩ = some (.int .i64 y3) ∧ w'.cell? ⟨gA, oA + k * 5 + 4, none⟩ = some (.slice E y4.length m) ∧ w'.cell? ⟨gB, oB + k * 5, none⟩ = some (str y0) ∧ w'.cell? ⟨gB, oB + k * 5 + 1, none⟩ = some (.int .i64 y1) ∧ w'.cell? ⟨gB, oB + k * 5 + 2, none⟩ = some (str y2) ∧ w'.cell? ⟨gB, oB + k * 5 + 3, none⟩ = some (.int .i64 y3) ∧ w'.cell? ⟨gB, oB + k * 5 + 4, none⟩ = some (.slice F y4.length n))
    (first | exact HK.out _ (by first | exact hb6 | exact zX))
    ((go_at_call 77; refine (HS8.out _ (hbw.trans ((Below.drew (b_ _ wr)).mono hzw))).mono ?_; rintro e w5 ⟨rfl, hb5⟩; have hb6 : Below w.heap.size w w5 := (hbw.trans ((Below.drew (b_ _ wr)).mono hzw)).trans (hb5.mono hzw)))
   all_goals
    go_wp2
    exact ⟨⟨k + 1, s_, o_, a_0 zX⟩, m_⟩
  ·have hb := HW.out
   go_wp2
   go_ret
   exact ⟨rfl, HW.out⟩
set_option maxRecDepth 512
theorem g_z (A : Option Addr) (l : List a_3) (c : Nat) (x : a_3) (W : World) (h : b_l W A l) (hl : l.length ≤ 1000000) :
  Calls prog 68 #[.slice A l.length c, str x] W fun e w' => e = .returned (.bool (decide (x ∈ l))) ∧ W = w' := by
 have hd : k_N l x = decide (x ∈ l) := by
  show l.contains x = _
  cases hc : l.contains x
  ·symm; rw [decide_eq_false_iff_not]; intro hm; rw [← List.contains_iff_mem, hc] at hm; cases hm
  ·symm; rw [decide_eq_true_eq]; exact List.contains_iff_mem.1 hc
 rcases h with e | ⟨g, off, rfl, hg, hc⟩
 ·subst e
  refine (Any.slices_Contains_string_empty Tryz.lays110 A c ⟨x.toArray⟩ W).mono ?_
  rintro e w' ⟨rfl, rfl⟩
  exact ⟨a_g s_, rfl⟩
 ·refine (g_A g off c l ⟨x.toArray⟩ W o_ (fun j hj => by rw [hc j hj, List.getD_eq_getElem?_getD, List.getElem?_eq_getElem hj]; rfl)).mono ?_
  rintro e w' ⟨rfl, rfl⟩
  exact ⟨a_g hd, rfl⟩
theorem c_m (x : a_3) (w : World) (hW : a_X w 2 a_J) : Calls prog 50 #[str x] w fun e w' => e = .returned (.int .i64 (c_f x)) ∧ Below w.heap.size w w' := by
 have H1 := a_0 (fun W => b_y ⟨x.toArray⟩ W)
 have H2 := a_0 (fun W (hb : Below w.heap.size w W) => b_M ⟨x.toArray⟩ W (hW.below hb))
 have HE := a_0 (show c_f x = if (a_p 24 x && !e_g x) = true then 0 else 4 from rfl)
 rw [show bs ⟨x.toArray⟩ = x from rfl] at H1 H2
 clear hW
 generalize a_p 24 x = p at *
 generalize e_g x = q at *
 go_enter func50, ntmps50
 cases p <;> cases q
 all_goals
  go_wp2_with (first
   | (go_at_call 97; refine (H1.out _).mono ?_; rintro e w1 ⟨rfl, hb1⟩)
   | (go_at_call 89; refine (H2.out _ hb1).mono ?_; rintro e w' ⟨rfl, rfl⟩))
  exact t_R
theorem e_h (x : a_3) (b : Bool) (w : World) (hW : a_X w 2 a_J) (hx : x.length ≤ maxLen) :
  Calls prog 38 #[str x, .bool b] w fun e w' => e = .returned (.int .i64 (if b = true then d_3 x else g_X x)) ∧ Below w.heap.size w w' := by
 have H1 := a_0 (fun W => b_m ⟨x.toArray⟩ W (by show x.toArray.size ≤ _; simpa using hx))
 have H2 := a_0 (fun W (hb : Below w.heap.size w W) => b_M ⟨x.toArray⟩ W (hW.below hb))
 rw [show bs ⟨x.toArray⟩ = x from rfl] at H1 H2
 clear hW hx
 by_cases hs : b = true ∧ x = m_z
 ·obtain ⟨rfl, rfl⟩ := hs
  clear H1 H2
  go_enter func38, ntmps38
  go_wp2
  go_ret
  exact ⟨a_k d_, b_ _ _⟩
 have HE := a_0 (show (if b = true then d_3 x else g_X x) = if (a_K 24 x && !e_g x) = true then 0 else 4 from by
  cases b
  ·rfl
  ·have : x ≠ m_z := fun e => hs ⟨rfl, e⟩
   rw [if_pos rfl]; unfold d_3; rw [if_neg this]
   rfl)
 generalize (if b = true then d_3 x else g_X x) = r at *
 have hne : b = true → (x == m_z) = false := fun h => beq_eq_false_iff_ne.2 fun e => hs ⟨h, e⟩
 clear hs
 unfold m_z at hne
 generalize a_K 24 x = p at *
 generalize e_g x = q at *
 go_enter func38, ntmps38
 cases b
 ·clear hne
  cases p <;> cases q
  all_goals
   go_wp2_with (first
    | (go_at_call 88; refine (H1.out _).mono ?_; rintro e w1 ⟨rfl, hb1⟩)
    | (go_at_call 89; refine (H2.out _ hb1).mono ?_; rintro e w' ⟨rfl, rfl⟩))
   exact t_R
 ·have hn2 := hne rfl
  clear hne
  cases p <;> cases q
  all_goals
   go_wp2_with (first
    | (go_at_call 88; refine (H1.out _).mono ?_; rintro e w1 ⟨rfl, hb1⟩)
    | (go_at_call 89; refine (H2.out _ hb1).mono ?_; rintro e w' ⟨rfl, rfl⟩))
   exact t_R
set_option maxRecDepth 100000
theorem b_Q (A : Option Addr) (l : List a_3) (c m : Nat) (w : World) (hW : a_X w 2 a_J) (h : b_l w A l) (hl : l.length ≤ 1000000) (hm : m ≤ 1) (hcp : l.length ≤ c) :
  Calls prog 42 #[.slice A l.length c, .int .i64 m] w fun e w' => e = .returned (.int .i64 (a_Y l m)) ∧ Below w.heap.size w w' := by
 have HA := a_0 h
 have HW := a_0 hW
 clear h hW
 by_cases h1 : l.length < m
 ·have HE := a_0 (show a_Y l m = 2 from by unfold a_Y; rw [if_pos (.inl h1)])
  go_enter func42, ntmps42
  go_wp2
  exact q_P
 by_cases h2 : 12 < l.length
 ·have HE := a_0 (show a_Y l m = 2 from by unfold a_Y; rw [if_pos (.inr h2)])
  go_enter func42, ntmps42
  go_wp2
  exact q_P
 have HE := a_0 (show a_Y l m = b_p (i_j l) l.length from by unfold a_Y; rw [if_neg o_])
 go_enter func42, ntmps42
 go_wp2
 go_loopw [19] (fun i wr => ∃ k : Nat, k ≤ l.length ∧ i = .int .i64 k ∧ Hid (∀ j, j < k → i_j l j = 0) ∧ Below w.heap.size w wr) (fun i _ => l.length - (intOf i).toNat)
 case atStart => exact ⟨0, o_, rfl, fun j hj => absurd hj (Nat.not_lt_zero _), b_ _ _⟩
 case round =>
  obtain ⟨k, hk, rfl, HZ, hbel⟩ := hrel
  by_cases hlt : k < l.length
  ·rcases HA.out.below hbel with e | ⟨g, off, rfl, hg, hc⟩
   ·exact absurd hlt e_
   have c0 := hc k hlt; have HC := a_0 (c_m l[k] wr (HW.out.below hbel))
   have HH := a_0 (fun W (hb : Below wr.heap.size wr W) => by
    have := g_z (some ⟨g, off, none⟩) (l.take k) c l[k] W ((k_q hg hc k).below hb) (by rw [List.length_take]; omega); rw [List.length_take, Nat.min_eq_left (Nat.le_of_lt hlt)] at this
    exact this)
   have HT := a_0 (l_R hlt); refine v_K ?_; intro HF HN hkc; clear hc; unfold c_f at HC; generalize l[k] = x at *
   by_cases hx : nmB x = true
   rotate_left
   ·rw [if_neg hx] at HT HC
    have HR := a_0 (HF.out 4 HT.out d_); clear hx
    go_wp2_with (go_at_call 50; refine (HC.out).mono ?_; rintro e w1 ⟨rfl, hb1⟩)
    exact s_c
   rw [if_pos hx] at HT HC
   by_cases hin : x ∈ l.take k
   ·rw [if_pos hin] at HT
    have hinb : decide (x ∈ l.take k) = true := by simpa using hin
    rw [hinb] at HH; have HR := a_0 (HF.out 6 HT.out d_); clear hin hinb hx
    go_wp2_with (first
     | (go_at_call 50; refine (HC.out).mono ?_; rintro e w1 ⟨rfl, hb1⟩)
     | (go_at_call 68; refine (HH.out _ hb1).mono ?_; rintro e w' ⟨rfl, rfl⟩))
    exact s_c
   ·rw [if_neg hin] at HT
    have hinb : decide (x ∈ l.take k) = false := by simpa using hin
    rw [hinb] at HH; have HR := a_0 (HN.out HT.out); clear hin hinb hx
    go_wp2_with (first
     | (go_at_call 50; refine (HC.out).mono ?_; rintro e w1 ⟨rfl, hb1⟩)
     | (go_at_call 68; refine (HH.out _ hb1).mono ?_; rintro e w' ⟨rfl, rfl⟩))
    exact ⟨⟨k + 1, o_, t_, HR, a_n hb1 hbel⟩, w_⟩
  ·obtain rfl : k = l.length := by omega
   refine r_W ?_; intro HR
   go_wp2
   exact s_K
set_option maxRecDepth 512
abbrev a_N (b : Nat) : Value := .pointer (some ⟨b, 0, none⟩)
theorem n_Y (b1 b2 : Nat) (p : Bool) (x : Int) (w : World) (h1 : w.cell? ⟨b1, 0, none⟩ = some (.bool p)) (h2 : w.cell? ⟨b2, 0, none⟩ = some (.int .i64 x)) :
  Calls prog 90 #[a_N b1, a_N b2] w fun e w' => e = .returned (.int .i64 (if p = true then x else 0)) ∧ w = w' := by
 go_enter func90, ntmps90
 cases p
 all_goals
  go_wp2
  exact r_8
theorem i_r (p : Bool) (x : Int) (w : World) :
  Calls prog 44 #[.bool p, .int .i64 x] w fun e w' => e = .returned (.func (.func 90) #[] #[a_N w.heap.size, a_N (w.heap.size + 1)]) ∧ (w.alloc (.cells #[.bool p] 4)).alloc (.cells #[.int .i64 x] 34) = w' := by
 go_enter func44, ntmps44
 go_wp2
 exact r_8
set_option maxRecDepth 100000
theorem i_2 (B c : Nat) (fs : List (Nat × Array Value)) (f : Nat → Int) (w : World) (hB : B < w.heap.size) (hn : fs.length ≤ 10)
  (hc : ∀ j (h : j < fs.length), w.cell? ⟨B, j, none⟩ = some (.func (.func fs[j].1) #[] fs[j].2))
  (eg : ∀ j (h : j < fs.length) args W, (callFunc fs[j].1 args).run prog W = .ok (.enter fs[j].1 args) W)
  (hp : ∀ j (h : j < fs.length) W, Below w.heap.size w W → Calls prog fs[j].1 fs[j].2 W fun e w' => e = .returned (.int .i64 (f j)) ∧ Below w.heap.size w w') :
  Calls prog 40 #[.slice (some ⟨B, 0, none⟩) fs.length c] w fun e w' => e = .returned (.int .i64 (b_p f fs.length)) ∧ Below w.heap.size w w' := by
 have HC := a_0 hc
 have HG := a_0 eg
 have HP := a_0 hp
 clear hc eg hp
 go_enter func40, ntmps40
 go_wp2
 go_loopw [8] (fun i wr => ∃ k : Nat, k ≤ fs.length ∧ i = .int .i64 k ∧ Hid (∀ j, j < k → f j = 0) ∧ Below w.heap.size w wr) (fun i _ => fs.length - (intOf i).toNat)
 case atStart => exact ⟨0, o_, rfl, fun j hj => absurd hj (Nat.not_lt_zero _), b_ _ _⟩
 case round =>
  obtain ⟨k, hk, rfl, HZ, hbel⟩ := hrel
  by_cases hlt : k < fs.length
  ·have c0 := (hbel.cell (p := ⟨B, k, none⟩) hB).trans (HC.out k hlt)
   have hcall := HP.out k hlt wr hbel; have hgo := HG.out k hlt; have HF := a_0 (fun (hx : f k ≠ 0) => c_b HZ.out hx hlt); have HN := a_0 (fun (e : f k = 0) => e_N HZ.out e); obtain ⟨⟨g, lb⟩, hgl⟩ : ∃ r, r = fs[k] := ⟨_, rfl⟩; rw [← hgl] at c0 hcall hgo; simp only at c0 hcall hgo; clear hgl; generalize f k = v at *
   by_cases hv : v = 0
   ·subst hv
    have HR := a_0 (HN.out rfl); clear HF HN
    go_wp2_with (go_at_fn g; refine hcall.mono ?_; rintro e w1 ⟨rfl, hb1⟩)
    exact ⟨⟨k + 1, o_, t_, HR, hb1⟩, w_⟩
   ·have hvb : (v != 0) = true := by simpa using hv
    have HR := a_0 (HF.out hv); clear HF HN
    go_wp2_with (go_at_fn g; refine hcall.mono ?_; rintro e w1 ⟨rfl, hb1⟩)
    go_ret
    exact ⟨a_k HR.out.symm, hb1⟩
  ·obtain rfl : k = fs.length := by omega
   have HR := a_0 (c_u HZ.out)
   go_wp2
   exact s_K
set_option maxRecDepth 512
def k_S : List Bool := [true, false, false, false, false, false, false, false, false, true, false, false, false, true, false, false, true, false, false, false, true, true, true, true, false, true, true, true, true, false, true, true, true, false, false, true, true, true, false, false, true, false, false, false, false, true, false, false, false, false, false, false, false, false, false, false, true, false, true, false, false, true, true, true, false]
def b_R (w : World) : Prop := 0 < w.heap.size ∧ ∀ j, j < 65 → w.cell? ⟨0, j, none⟩ = some (.bool (k_S.getD j false))
theorem b_R.below {w w' : World} (h : b_R w) (hb : Below w.heap.size w w') : b_R w' := ⟨Nat.lt_of_lt_of_le h.1 hb.size, fun j hj => (hb.cell (p := ⟨_, _, none⟩) h.1).trans (h.2 j hj)⟩
set_option maxRecDepth 100000
theorem g_Y (op : Int) (src : a_3) (nA : Option Addr) (ln nC : Nat) (oA : Option Addr) (lo oC : Nat) (iA : Option Addr) (li iC : Nat) (cA : Option Addr) (lc cC : Nat) (w : World) (hU : b_R w) :
  Calls prog 36 #[.agg #[.int .i64 op, str src, .slice nA ln nC, .slice oA lo oC, .slice iA li iC, .slice cA lc cC]] w fun e w' => e = .returned (.bool (decide (0 ≤ op ∧ op ≤ 12) && !a_W op src ln lo li lc)) ∧ Below w.heap.size w w' := by
 by_cases hlo : op < 0
 ·have HX := a_0 (show decide (0 ≤ op ∧ op ≤ 12) = false from by simp; omega)
  clear hU
  generalize a_W op src ln lo li lc = ub
  go_enter func36, ntmps36
  go_wp2
  exact v_J
 by_cases hhi : 12 < op
 ·have HX := a_0 (show decide (0 ≤ op ∧ op ≤ 12) = false from by simp; omega)
  clear hU
  generalize a_W op src ln lo li lc = ub
  go_enter func36, ntmps36
  go_wp2
  exact v_J
 have hg := hU.1
 refine u_k ?_; intro hop
 clear hlo hhi
 rcases hop with rfl | rfl | rfl | rfl | rfl | rfl | rfl | rfl | rfl | rfl | rfl | rfl | rfl
 ·have u0 : w.cell? ⟨0, 0, none⟩ = some (.bool true) := hU.2 0 d_
  have u1 : w.cell? ⟨0, 1, none⟩ = some (.bool false) := hU.2 1 d_
  have u2 : w.cell? ⟨0, 2, none⟩ = some (.bool false) := hU.2 2 d_
  have u3 : w.cell? ⟨0, 3, none⟩ = some (.bool false) := hU.2 3 d_
  have u4 : w.cell? ⟨0, 4, none⟩ = some (.bool false) := hU.2 4 d_
  clear hU
  go_enter func36, ntmps36
  go_wp2
  all_goals
   exact m_p
 ·have u0 : w.cell? ⟨0, 5, none⟩ = some (.bool false) := hU.2 5 d_
  have u1 : w.cell? ⟨0, 6, none⟩ = some (.bool false) := hU.2 6 d_
  have u2 : w.cell? ⟨0, 7, none⟩ = some (.bool false) := hU.2 7 d_
  have u3 : w.cell? ⟨0, 8, none⟩ = some (.bool false) := hU.2 8 d_
  have u4 : w.cell? ⟨0, 9, none⟩ = some (.bool true) := hU.2 9 d_
  clear hU
  go_enter func36, ntmps36
  go_wp2
  all_goals
   exact m_p
 ·have u0 : w.cell? ⟨0, 10, none⟩ = some (.bool false) := hU.2 10 d_
  have u1 : w.cell? ⟨0, 11, none⟩ = some (.bool false) := hU.2 11 d_
  have u2 : w.cell? ⟨0, 12, none⟩ = some (.bool false) := hU.2 12 d_
  have u3 : w.cell? ⟨0, 13, none⟩ = some (.bool true) := hU.2 13 d_
  have u4 : w.cell? ⟨0, 14, none⟩ = some (.bool false) := hU.2 14 d_
  clear hU
  go_enter func36, ntmps36
  go_wp2
  all_goals
   exact m_p
 ·have u0 : w.cell? ⟨0, 15, none⟩ = some (.bool false) := hU.2 15 d_
  have u1 : w.cell? ⟨0, 16, none⟩ = some (.bool true) := hU.2 16 d_
  have u2 : w.cell? ⟨0, 17, none⟩ = some (.bool false) := hU.2 17 d_
  have u3 : w.cell? ⟨0, 18, none⟩ = some (.bool false) := hU.2 18 d_
  have u4 : w.cell? ⟨0, 19, none⟩ = some (.bool false) := hU.2 19 d_
  clear hU
  go_enter func36, ntmps36
  go_wp2
  all_goals
   exact m_p
 ·have u0 : w.cell? ⟨0, 20, none⟩ = some (.bool true) := hU.2 20 d_
  have u1 : w.cell? ⟨0, 21, none⟩ = some (.bool true) := hU.2 21 d_
  have u2 : w.cell? ⟨0, 22, none⟩ = some (.bool true) := hU.2 22 d_
  have u3 : w.cell? ⟨0, 23, none⟩ = some (.bool true) := hU.2 23 d_
  have u4 : w.cell? ⟨0, 24, none⟩ = some (.bool false) := hU.2 24 d_
  clear hU
  go_enter func36, ntmps36
  go_wp2
  all_goals
   exact m_p
 ·have u0 : w.cell? ⟨0, 25, none⟩ = some (.bool true) := hU.2 25 d_
  have u1 : w.cell? ⟨0, 26, none⟩ = some (.bool true) := hU.2 26 d_
  have u2 : w.cell? ⟨0, 27, none⟩ = some (.bool true) := hU.2 27 d_
  have u3 : w.cell? ⟨0, 28, none⟩ = some (.bool true) := hU.2 28 d_
  have u4 : w.cell? ⟨0, 29, none⟩ = some (.bool false) := hU.2 29 d_
  clear hU
  go_enter func36, ntmps36
  go_wp2
  all_goals
   exact m_p
 ·have u0 : w.cell? ⟨0, 30, none⟩ = some (.bool true) := hU.2 30 d_
  have u1 : w.cell? ⟨0, 31, none⟩ = some (.bool true) := hU.2 31 d_
  have u2 : w.cell? ⟨0, 32, none⟩ = some (.bool true) := hU.2 32 d_
  have u3 : w.cell? ⟨0, 33, none⟩ = some (.bool false) := hU.2 33 d_
  have u4 : w.cell? ⟨0, 34, none⟩ = some (.bool false) := hU.2 34 d_
  clear hU
  go_enter func36, ntmps36
  go_wp2
  all_goals
   exact m_p
 ·have u0 : w.cell? ⟨0, 35, none⟩ = some (.bool true) := hU.2 35 d_
  have u1 : w.cell? ⟨0, 36, none⟩ = some (.bool true) := hU.2 36 d_
  have u2 : w.cell? ⟨0, 37, none⟩ = some (.bool true) := hU.2 37 d_
  have u3 : w.cell? ⟨0, 38, none⟩ = some (.bool false) := hU.2 38 d_
  have u4 : w.cell? ⟨0, 39, none⟩ = some (.bool false) := hU.2 39 d_
  clear hU
  go_enter func36, ntmps36
  go_wp2
  all_goals
   exact m_p
 ·have u0 : w.cell? ⟨0, 40, none⟩ = some (.bool true) := hU.2 40 d_
  have u1 : w.cell? ⟨0, 41, none⟩ = some (.bool false) := hU.2 41 d_
  have u2 : w.cell? ⟨0, 42, none⟩ = some (.bool false) := hU.2 42 d_
  have u3 : w.cell? ⟨0, 43, none⟩ = some (.bool false) := hU.2 43 d_
  have u4 : w.cell? ⟨0, 44, none⟩ = some (.bool false) := hU.2 44 d_
  clear hU
  go_enter func36, ntmps36
  go_wp2
  all_goals
   exact m_p
 ·have u0 : w.cell? ⟨0, 45, none⟩ = some (.bool true) := hU.2 45 d_
  have u1 : w.cell? ⟨0, 46, none⟩ = some (.bool false) := hU.2 46 d_
  have u2 : w.cell? ⟨0, 47, none⟩ = some (.bool false) := hU.2 47 d_
  have u3 : w.cell? ⟨0, 48, none⟩ = some (.bool false) := hU.2 48 d_
  have u4 : w.cell? ⟨0, 49, none⟩ = some (.bool false) := hU.2 49 d_
  clear hU
  go_enter func36, ntmps36
  go_wp2
  all_goals
   exact m_p
 ·have u0 : w.cell? ⟨0, 50, none⟩ = some (.bool false) := hU.2 50 d_
  have u1 : w.cell? ⟨0, 51, none⟩ = some (.bool false) := hU.2 51 d_
  have u2 : w.cell? ⟨0, 52, none⟩ = some (.bool false) := hU.2 52 d_
  have u3 : w.cell? ⟨0, 53, none⟩ = some (.bool false) := hU.2 53 d_
  have u4 : w.cell? ⟨0, 54, none⟩ = some (.bool false) := hU.2 54 d_
  clear hU
  go_enter func36, ntmps36
  go_wp2
  all_goals
   exact m_p
 ·have u0 : w.cell? ⟨0, 55, none⟩ = some (.bool false) := hU.2 55 d_
  have u1 : w.cell? ⟨0, 56, none⟩ = some (.bool true) := hU.2 56 d_
  have u2 : w.cell? ⟨0, 57, none⟩ = some (.bool false) := hU.2 57 d_
  have u3 : w.cell? ⟨0, 58, none⟩ = some (.bool true) := hU.2 58 d_
  have u4 : w.cell? ⟨0, 59, none⟩ = some (.bool false) := hU.2 59 d_
  clear hU
  go_enter func36, ntmps36
  go_wp2
  all_goals
   exact m_p
 ·have u0 : w.cell? ⟨0, 60, none⟩ = some (.bool false) := hU.2 60 d_
  have u1 : w.cell? ⟨0, 61, none⟩ = some (.bool true) := hU.2 61 d_
  have u2 : w.cell? ⟨0, 62, none⟩ = some (.bool true) := hU.2 62 d_
  have u3 : w.cell? ⟨0, 63, none⟩ = some (.bool true) := hU.2 63 d_
  have u4 : w.cell? ⟨0, 64, none⟩ = some (.bool false) := hU.2 64 d_
  clear hU
  go_enter func36, ntmps36
  go_wp2
  all_goals
   exact m_p
set_option maxRecDepth 512
def e_B (w : World) (g : Nat) (lb : Array Value) (v : Int) : Prop :=
 (∀ args W, (callFunc g args).run prog W = .ok (.enter g args) W) ∧ ∀ W, Below w.heap.size w W → Calls prog g lb W fun e W' => e = .returned (.int .i64 v) ∧ Below W.heap.size W W'
theorem e_B.below {w w' : World} {g : Nat} {lb : Array Value} {v : Int} (h : e_B w g lb v) (hb : Below w.heap.size w w') : e_B w' g lb v := ⟨h.1, fun W hW => h.2 W (a_n hW hb)⟩
theorem c_P (p : Bool) (x : Int) (w : World) :
  Calls prog 44 #[.bool p, .int .i64 x] w fun e w' => (∃ (lb : Array Value) (v : Int), e = .returned (.func (.func 90) #[] lb) ∧ v = (if p = true then x else 0) ∧ e_B w' 90 lb v) ∧ Below w.heap.size w w' := by
 refine (i_r p x w).mono ?_
 rintro e w' ⟨rfl, rfl⟩
 refine ⟨⟨_, _, rfl, rfl, fun args W => by kernel_rfl, fun W hW => ?_⟩, zX⟩
 have h1 : W.cell? ⟨w.heap.size, 0, none⟩ = some (.bool p) := by
  rw [hW.cell (p := ⟨w.heap.size, 0, none⟩) m_]
  simp [go_sem]
 have h2 : W.cell? ⟨w.heap.size + 1, 0, none⟩ = some (.int .i64 x) := by
  rw [hW.cell (p := ⟨w.heap.size + 1, 0, none⟩) s_]
  simp [go_sem]
 refine (n_Y _ _ p x W h1 h2).mono ?_
 rintro e w' ⟨rfl, rfl⟩
 exact ⟨rfl, b_ _ _⟩
structure Thk where
 g : Nat
 lb : Array Value
 v : Int
theorem c_x (B c : Nat) (fs : List Thk) (w : World) (hB : B < w.heap.size) (hn : fs.length ≤ 10)
  (hc : ∀ j (h : j < fs.length), w.cell? ⟨B, j, none⟩ = some (.func (.func fs[j].g) #[] fs[j].lb)) (ht : ∀ j (h : j < fs.length), e_B w fs[j].g fs[j].lb fs[j].v) :
  Calls prog 40 #[.slice (some ⟨B, 0, none⟩) fs.length c] w fun e w' => e = .returned (.int .i64 (b_p (fun j => (fs.map Thk.v).getD j 0) fs.length)) ∧ Below w.heap.size w w' := by
 have hl : (fs.map fun t => (t.g, t.lb)).length = fs.length := by simp
 have H := i_2 B c (fs.map fun t => (t.g, t.lb)) (fun j => (fs.map Thk.v).getD j 0) w hB (by simpa using hn)
  (fun j h => by
    have h' : j < fs.length := by simpa using h
    simpa using hc j h')
  (fun j h => by
    have h' : j < fs.length := by simpa using h
    simpa using (ht j h').1)
  (fun j h W hW => by
   have h' : j < fs.length := by simpa using h
   have h2 := (ht j h').2 W hW; have e : (fs.map Thk.v).getD j 0 = fs[j].v := by rw [List.getD_eq_getElem?_getD, List.getElem?_eq_getElem (by simpa using h')]; simp
   simp only [List.getElem_map, e]
   exact h2.mono fun e w' ⟨h3, h4⟩ => ⟨h3, a_n h4 hW⟩)
 rw [hl] at H
 exact H
set_option maxRecDepth 100000
theorem g_i (s : Stp) (a : Adr) (x : It) (E : Option Addr) (ec : Nat) (w : World) (hW : a_X w 2 a_J) (hN : b_l w a.nA s.names) (hl : s.names.length ≤ 1000000) :
  Calls prog 54 #[s.agg a, itV x E ec] w fun e w' => e = .returned (.int .i64 (c_e s.names x)) ∧ Below w.heap.size w w' := by
 have HC := a_0 (fun W (hb : Below w.heap.size w W) => g_z a.nA s.names a.nC x.name W (hN.below hb) hl)
 have HM := a_0 (fun W (hb : Below w.heap.size w W) => c_m x.col W (hW.below hb))
 have HX := a_0 (show c_e s.names x = if x.name ∈ s.names then 6 else if x.fn < 1 ∨ 7 < x.fn ∨ (x.fn = 1 ∧ x.col ≠ []) then 8 else if x.fn ≠ 1 then c_f x.col else 0 from rfl)
 clear hW hN hl
 obtain ⟨op, src, names, others, its, cond⟩ := s
 obtain ⟨nA, nC, oA, oC, iA, iC, cA, cC⟩ := a
 obtain ⟨xn, xf, xc, xm, xe⟩ := x
 simp only at HC HM HX
 show Calls prog 54 #[.agg #[.int .i64 op, str src, .slice nA names.length nC, .slice oA others.length oC, .slice iA its.length iC, .slice cA cond.length cC], .agg #[str xn, .int .i64 xf, str xc, .int .i64 xm, .slice E xe.length ec]] w _
 generalize c_e _ _ = r at *
 generalize xe.length = le at *
 generalize names.length = ln at *
 generalize others.length = lo at *
 generalize its.length = li at *
 generalize cond.length = lc at *
 generalize c_f xc = v at *
 by_cases hm : xn ∈ names
 ·have hb : decide (xn ∈ names) = true := by simpa using hm
  have HR := a_0 (HX.out.trans (if_pos hm))
  rw [hb] at HC
  clear HX hm hb HM
  go_enter func54, ntmps54
  go_wp2_with (go_at_call 68; refine (HC.out _ zX).mono ?_; rintro e w' ⟨rfl, rfl⟩)
  exact s_0
 have hb : decide (xn ∈ names) = false := by simpa using hm
 have HX2 := a_0 (HX.out.trans (if_neg hm))
 rw [hb] at HC
 clear HX hm hb
 by_cases h1 : xf = 1
 ·subst h1
  by_cases hc : xc = []
  ·subst hc
   have HR := a_0 (show r = 0 from by rw [HX2.out]; simp); clear HX2
   go_enter func54, ntmps54
   go_wp2_with (go_at_call 68; refine (HC.out _ zX).mono ?_; rintro e w' ⟨rfl, rfl⟩)
   exact s_0
  ·have HR := a_0 (show r = 8 from by rw [HX2.out]; simp [hc])
   have q1 : xc.isEmpty = false := by cases xc; exact absurd rfl hc; rfl
   have q2 : (xc == []) = false := beq_eq_false_iff_ne.2 hc; clear HX2
   go_enter func54, ntmps54
   go_wp2_with (go_at_call 68; refine (HC.out _ zX).mono ?_; rintro e w' ⟨rfl, rfl⟩)
   all_goals first | (exfalso; omega) | (exfalso; simp_all; done) | skip
   exact s_0
 by_cases h2 : xf < 1
 ·have HR := a_0 (show r = 8 from by rw [HX2.out, if_pos (.inl h2)])
  clear HX2
  go_enter func54, ntmps54
  go_wp2_with (go_at_call 68; refine (HC.out _ zX).mono ?_; rintro e w' ⟨rfl, rfl⟩)
  all_goals first | (exfalso; omega) | skip
  exact s_0
 by_cases h3 : 7 < xf
 ·have HR := a_0 (show r = 8 from by rw [HX2.out, if_pos (.inr (.inl h3))])
  clear HX2
  go_enter func54, ntmps54
  go_wp2_with (go_at_call 68; refine (HC.out _ zX).mono ?_; rintro e w' ⟨rfl, rfl⟩)
  all_goals first | (exfalso; omega) | skip
  exact s_0
 have HR := a_0 (show r = v from by rw [HX2.out, if_neg (by simp [h1]; omega), if_pos h1])
 have h1b : (xf != 1) = true := by simpa using h1
 clear HX2
 go_enter func54, ntmps54
 go_wp2_with (first
  | (go_at_call 68; refine (HC.out _ zX).mono ?_; rintro e w' ⟨rfl, rfl⟩)
  | (go_at_call 50; refine (HM.out _ zX).mono ?_; rintro e w' ⟨rfl, hb1⟩))
 all_goals first | (exfalso; omega) | skip
 exact o_S
theorem g_b (x : It) (E : Option Addr) (ec : Nat) (w : World) (hW : a_X w 2 a_J) :
  Calls prog 58 #[itV x E ec] w fun e w' => e = .returned (.int .i64 (b_I x)) ∧ Below w.heap.size w w' := by
 have HM := a_0 (fun W (hb : Below w.heap.size w W) => show Calls prog 50 #[str x.col] W (fun e w' => e = .returned (.int .i64 (if nmB x.col = true then 0 else 4)) ∧ Below W.heap.size W w') from c_m x.col W (hW.below hb))
 have HX := a_0 (show b_I x = if (e_l x.fn).1 = false ∨ ((e_l x.fn).2.1 = false ∧ x.col ≠ []) ∨ ((e_l x.fn).2.2 = false ∧ x.num ≠ 0) then 8
  else if (e_l x.fn).2.1 = true ∧ nmB x.col = false then 4 else if (e_l x.fn).2.2 = true ∧ (x.num < 1 ∨ 4096 < x.num) then 1 else 0 from rfl)
 clear hW
 obtain ⟨xn, xf, xc, xm, xe⟩ := x
 simp only at HM HX
 show Calls prog 58 #[.agg #[str xn, .int .i64 xf, str xc, .int .i64 xm, .slice E xe.length ec]] w _
 generalize b_I _ = r at *
 generalize xe.length = le at *
 generalize nmB xc = v at *
 by_cases h : xf = 1 ∨ xf = 8 ∨ xf = 9 ∨ xf = 3 ∨ xf = 12 ∨ xf = 13 ∨ xf = 10 ∨ xf = 11
 rotate_left
 ·have e : e_l xf = (false, false, false) := by unfold e_l; rw [if_neg o_, if_neg o_, if_neg o_]
  have HR := a_0 (show r = 8 from by rw [HX.out, e]; simp)
  have q1 : (xf == 1) = false := beq_eq_false_iff_ne.2 o_
  have q3 : (xf == 3) = false := beq_eq_false_iff_ne.2 o_
  have q8 : (xf == 8) = false := beq_eq_false_iff_ne.2 o_
  have q9 : (xf == 9) = false := beq_eq_false_iff_ne.2 o_
  have q10 : (xf == 10) = false := beq_eq_false_iff_ne.2 o_
  have q11 : (xf == 11) = false := beq_eq_false_iff_ne.2 o_
  have n1 : (xf != 1) = true := by simp [bne, q1]
  have n3 : (xf != 3) = true := by simp [bne, q3]
  have hsp : xf < 8 ∨ 13 < xf := by omega
  clear HX HM e h
  rcases hsp with hsp | hsp
  all_goals
   go_enter func58, ntmps58
   go_wp2
   all_goals first | (exfalso; omega) | (exfalso; simp_all; done) | skip
   exact s_0
 have hce : xc = [] ∨ (xc ≠ [] ∧ xc.isEmpty = false ∧ (xc == []) = false) := by
  by_cases hc : xc = []
  ·exact .inl hc
  ·exact .inr ⟨hc, by cases xc; exact absurd rfl hc; rfl, beq_eq_false_iff_ne.2 hc⟩
 have hme : xm = 0 ∨ (xm ≠ 0 ∧ (xm == 0) = false ∧ (xm != 0) = true) := by
  by_cases hc : xm = 0
  ·exact .inl hc
  ·exact .inr ⟨hc, beq_eq_false_iff_ne.2 hc, by simpa using hc⟩
 have hgr : (xf = 1 ∨ xf = 8 ∨ xf = 9) ∨ (xf = 3 ∨ xf = 12 ∨ xf = 13) ∨ (xf = 10 ∨ xf = 11) := by omega
 clear h
 rcases hgr with h | h | h
 ·rcases h with rfl | rfl | rfl
  all_goals
   rcases hce with rfl | ⟨c1, c2, c3⟩
   ·rcases hme with rfl | ⟨m1, m2, m3⟩
    ·have HR := a_0 (show r = 0 from by rw [HX.out]; simp_all [e_l] <;> omega)
     go_enter func58, ntmps58
     go_wp2_with (go_at_call 50; refine (HM.out _ zX).mono ?_; rintro e w' ⟨rfl, hb1⟩; have hcur := a_4 (b_ (w.heap.size + 1) (w.alloc (.cells #[str xn, .int .i64 _, _, _, .slice E le ec] 61))) s_ hb1; obtain ⟨k0, k1, k2, k3, k4, hlw⟩ := f_f hcur)
     all_goals first | (exfalso; omega) | (exfalso; simp_all; done) | skip
     exact o_S
    ·have HR := a_0 (show r = 8 from by rw [HX.out]; simp_all [e_l] <;> omega)
     go_enter func58, ntmps58
     go_wp2_with (go_at_call 50; refine (HM.out _ zX).mono ?_; rintro e w' ⟨rfl, hb1⟩; have hcur := a_4 (b_ (w.heap.size + 1) (w.alloc (.cells #[str xn, .int .i64 _, _, _, .slice E le ec] 61))) s_ hb1; obtain ⟨k0, k1, k2, k3, k4, hlw⟩ := f_f hcur)
     all_goals first | (exfalso; omega) | (exfalso; simp_all; done) | skip
     exact o_S
   ·have HR := a_0 (show r = 8 from by rw [HX.out]; simp_all [e_l] <;> omega)
    go_enter func58, ntmps58
    go_wp2_with (go_at_call 50; refine (HM.out _ zX).mono ?_; rintro e w' ⟨rfl, hb1⟩; have hcur := a_4 (b_ (w.heap.size + 1) (w.alloc (.cells #[str xn, .int .i64 _, _, _, .slice E le ec] 61))) s_ hb1; obtain ⟨k0, k1, k2, k3, k4, hlw⟩ := f_f hcur)
    all_goals first | (exfalso; omega) | (exfalso; simp_all; done) | skip
    exact o_S
 ·rcases h with rfl | rfl | rfl
  all_goals
   rcases hme with rfl | ⟨m1, m2, m3⟩
   ·cases v
    ·have HR := a_0 (show r = 4 from by rw [HX.out]; simp_all [e_l] <;> omega)
     go_enter func58, ntmps58
     go_wp2_with (go_at_call 50; refine (HM.out _ zX).mono ?_; rintro e w' ⟨rfl, hb1⟩; have hcur := a_4 (b_ (w.heap.size + 1) (w.alloc (.cells #[str xn, .int .i64 _, _, _, .slice E le ec] 61))) s_ hb1; obtain ⟨k0, k1, k2, k3, k4, hlw⟩ := f_f hcur)
     all_goals first | (exfalso; omega) | (exfalso; simp_all; done) | skip
     exact o_S
    ·have HR := a_0 (show r = 0 from by rw [HX.out]; simp_all [e_l] <;> omega)
     go_enter func58, ntmps58
     go_wp2_with (go_at_call 50; refine (HM.out _ zX).mono ?_; rintro e w' ⟨rfl, hb1⟩; have hcur := a_4 (b_ (w.heap.size + 1) (w.alloc (.cells #[str xn, .int .i64 _, _, _, .slice E le ec] 61))) s_ hb1; obtain ⟨k0, k1, k2, k3, k4, hlw⟩ := f_f hcur)
     all_goals first | (exfalso; omega) | (exfalso; simp_all; done) | skip
     exact o_S
   ·have HR := a_0 (show r = 8 from by rw [HX.out]; simp_all [e_l] <;> omega)
    go_enter func58, ntmps58
    go_wp2_with (go_at_call 50; refine (HM.out _ zX).mono ?_; rintro e w' ⟨rfl, hb1⟩; have hcur := a_4 (b_ (w.heap.size + 1) (w.alloc (.cells #[str xn, .int .i64 _, _, _, .slice E le ec] 61))) s_ hb1; obtain ⟨k0, k1, k2, k3, k4, hlw⟩ := f_f hcur)
    all_goals first | (exfalso; omega) | (exfalso; simp_all; done) | skip
    exact o_S
 ·rcases h with rfl | rfl
  all_goals
   cases v
   ·have HR := a_0 (show r = 4 from by rw [HX.out]; simp_all [e_l] <;> omega)
    go_enter func58, ntmps58
    go_wp2_with (go_at_call 50; refine (HM.out _ zX).mono ?_; rintro e w' ⟨rfl, hb1⟩; have hcur := a_4 (b_ (w.heap.size + 1) (w.alloc (.cells #[str xn, .int .i64 _, _, _, .slice E le ec] 61))) s_ hb1; obtain ⟨k0, k1, k2, k3, k4, hlw⟩ := f_f hcur)
    all_goals first | (exfalso; omega) | (exfalso; simp_all; done) | skip
    exact o_S
   ·by_cases q1 : xm < 1
    ·have HR := a_0 (show r = 1 from by rw [HX.out]; simp_all [e_l] <;> omega)
     go_enter func58, ntmps58
     go_wp2_with (go_at_call 50; refine (HM.out _ zX).mono ?_; rintro e w' ⟨rfl, hb1⟩; have hcur := a_4 (b_ (w.heap.size + 1) (w.alloc (.cells #[str xn, .int .i64 _, _, _, .slice E le ec] 61))) s_ hb1; obtain ⟨k0, k1, k2, k3, k4, hlw⟩ := f_f hcur)
     all_goals first | (exfalso; omega) | (exfalso; simp_all; done) | skip
     exact o_S
    ·by_cases q2 : 4096 < xm
     ·have HR := a_0 (show r = 1 from by rw [HX.out]; simp_all [e_l] <;> omega)
      go_enter func58, ntmps58
      go_wp2_with (go_at_call 50; refine (HM.out _ zX).mono ?_; rintro e w' ⟨rfl, hb1⟩; have hcur := a_4 (b_ (w.heap.size + 1) (w.alloc (.cells #[str xn, .int .i64 _, _, _, .slice E le ec] 61))) s_ hb1; obtain ⟨k0, k1, k2, k3, k4, hlw⟩ := f_f hcur)
      all_goals first | (exfalso; omega) | (exfalso; simp_all; done) | skip
      exact o_S
     ·have HR := a_0 (show r = 0 from by rw [HX.out]; simp_all [e_l] <;> omega)
      go_enter func58, ntmps58
      go_wp2_with (go_at_call 50; refine (HM.out _ zX).mono ?_; rintro e w' ⟨rfl, hb1⟩; have hcur := a_4 (b_ (w.heap.size + 1) (w.alloc (.cells #[str xn, .int .i64 _, _, _, .slice E le ec] 61))) s_ hb1; obtain ⟨k0, k1, k2, k3, k4, hlw⟩ := f_f hcur)
      all_goals first | (exfalso; omega) | (exfalso; simp_all; done) | skip
      exact o_S
set_option maxRecDepth 512
theorem j_V (b : Nat) (x : a_3) (w : World) (hW : a_X w 2 a_J) (hb : b < w.heap.size) (hc : w.cell? ⟨b, 0, none⟩ = some (str x)) : e_B w 93 #[a_N b] (c_f x) := by
 refine ⟨fun args W => by kernel_rfl, fun W hW2 => ?_⟩
 have c0 := (hW2.cell (p := ⟨b, 0, none⟩) hb).trans hc
 have HM := a_0 (c_m x W (hW.below hW2))
 clear hW hc hW2
 generalize c_f x = v at *
 go_enter func93, ntmps93
 go_wp2_with (go_at_call 50; refine (HM.out).mono ?_; rintro e w1 ⟨rfl, hb1⟩)
 exact m_6
theorem m_i (b : Nat) (y : It) (E : Option Addr) (ec : Nat) (x : a_3) (w : World) (hb : b < w.heap.size) (hc : w.cell? ⟨b, 0, none⟩ = some (str x)) :
  Calls prog 95 #[itV y E ec, a_N b] w fun e w' => e = .returned (.bool (decide (y.name = x))) ∧ Below w.heap.size w w' := by
 obtain ⟨yn, yf, yc, ym, ye⟩ := y
 show Calls prog 95 #[.agg #[str yn, .int .i64 yf, str yc, .int .i64 ym, .slice E ye.length ec], a_N b] w _
 generalize ye.length = le
 have c1 : (w.alloc (.cells #[str yn, .int .i64 yf, str yc, .int .i64 ym, .slice E le ec] 61)).cell? ⟨b, 0, none⟩ = some (str x) := by
  rw [World.cell?_alloc_lt _ _ _ hb]
  exact hc
 by_cases h : yn = x
 ·have hb1 : (yn == x) = true := by simpa using h
  have HR := a_0 (show decide (yn = x) = true from by simpa using h)
  clear h
  go_enter func95, ntmps95
  go_wp2
  go_ret
  exact ⟨a_g HR.out.symm, zX⟩
 ·have hb1 : (yn == x) = false := beq_eq_false_iff_ne.2 h
  have HR := a_0 (show decide (yn = x) = false from by simpa using h)
  clear h
  go_enter func95, ntmps95
  go_wp2
  go_ret
  exact ⟨a_g HR.out.symm, zX⟩
theorem k_I (b1 b2 : Nat) (g : Nat) (lb : Array Value) (x : It) (E : Option Addr) (ec : Nat) (v : Int) (w : World) (h1 : b1 < w.heap.size) (h2 : b2 < w.heap.size)
  (hf : w.cell? ⟨b1, 0, none⟩ = some (.func (.func g) #[] lb)) (c0 : w.cell? ⟨b2, 0, none⟩ = some (str x.name)) (c1 : w.cell? ⟨b2, 1, none⟩ = some (.int .i64 x.fn)) (c2 : w.cell? ⟨b2, 2, none⟩ = some (str x.col)) (c3 : w.cell? ⟨b2, 3, none⟩ = some (.int .i64 x.num)) (c4 : w.cell? ⟨b2, 4, none⟩ = some (.slice E x.expr.length ec))
  (eg : ∀ args W, (callFunc g args).run prog W = .ok (.enter g args) W)
  (hp : ∀ W, Below w.heap.size w W → Calls prog g (#[itV x E ec] ++ lb) W fun e w' => e = .returned (.int .i64 v) ∧ Below W.heap.size W w') : e_B w 96 #[a_N b1, a_N b2] v := by
 refine ⟨fun args W => by kernel_rfl, fun W hW => ?_⟩
 have d := (hW.cell (p := ⟨b1, 0, none⟩) h1).trans hf
 have d0 := (hW.cell (p := ⟨b2, 0, none⟩) h2).trans c0
 have d1 := (hW.cell (p := ⟨b2, 1, none⟩) h2).trans c1
 have d2 := (hW.cell (p := ⟨b2, 2, none⟩) h2).trans c2
 have d3 := (hW.cell (p := ⟨b2, 3, none⟩) h2).trans c3
 have d4 := (hW.cell (p := ⟨b2, 4, none⟩) h2).trans c4
 have HP := a_0 (hp W hW)
 clear hf c0 c1 c2 c3 c4 hp hW
 obtain ⟨xn, xf, xc, xm, xe⟩ := x
 simp only at d0 d1 d2 d3 d4 HP
 have HP2 := a_0 (show Calls prog g (#[.agg #[str xn, .int .i64 xf, str xc, .int .i64 xm, .slice E xe.length ec]] ++ lb) W (fun e w' => e = .returned (.int .i64 v) ∧ Below W.heap.size W w') from HP.out)
 clear HP
 generalize xe.length = le at *
 go_enter func96, ntmps96
 go_wp2_with (go_at_fn g; refine (HP2.out).mono ?_; rintro e w1 ⟨rfl, hb1⟩)
 exact m_6
theorem l_d (g off c k b : Nat) (its : List It) (x : a_3) (w : World) (hg : g < w.heap.size) (hk : k ≤ its.length) (hl : its.length ≤ 1000000) (hA : ∀ i (h : i < its.length), r_U w g (off + i * 5) its[i]) (hb : b < w.heap.size) (hc : w.cell? ⟨b, 0, none⟩ = some (str x)) :
  Calls prog 161 #[.slice (some ⟨g, off, none⟩) k c, .func (.func 95) #[] #[a_N b]] w fun e w' => (∃ i : Int, e = .returned (.int .i64 i) ∧ ((0 ≤ i) ↔ x ∈ (its.take k).map It.name)) ∧ Below w.heap.size w w' := by
 have HA := a_0 hA
 have HB := a_0 (fun W (h : Below w.heap.size w W) (y : It) (E : Option Addr) (ec : Nat) => m_i b y E ec x W (Nat.lt_of_lt_of_le hb h.size) ((h.cell (p := ⟨b, 0, none⟩) hb).trans hc))
 have eg : ∀ args W, (callFunc 95 args).run prog W = .ok (.enter 95 args) W := fun args W => by kernel_rfl
 clear hA hc
 go_enter func161, ntmps161
 go_wp2
 go_loopw [8] (fun i wr => ∃ n : Nat, n ≤ k ∧ i = .int .i64 n ∧ Hid (∀ j (h : j < its.length), j < n → its[j].name ≠ x) ∧ Below w.heap.size w wr) (fun i _ => k - (intOf i).toNat)
 case atStart => exact ⟨0, o_, rfl, fun j h hj => absurd hj (Nat.not_lt_zero _), b_ _ _⟩
 case round =>
  obtain ⟨n, hn, rfl, HZ, hbel⟩ := hrel
  by_cases hlt : n < k
  ·have hlt2 : n < its.length := by omega
   have hgw := Nat.lt_of_lt_of_le hg hbel.size; obtain ⟨c0, c1, c2, c3, E, ec, c4, hE⟩ := (HA.out n hlt2).below hg hbel; have HC := a_0 (HB.out wr hbel its[n] E ec)
   have HY := a_0 (fun (h : its[n].name ≠ x) => show ∀ j (h : j < its.length), j < n + 1 → its[j].name ≠ x from fun j h' hj => by
    by_cases e : j = n
    ·subst e; exact h
    ·exact HZ.out j h' o_)
   have HM := a_0 (fun (h : its[n].name = x) => show x ∈ (its.take k).map It.name from by
    refine List.mem_map.2 ⟨its[n], ?_, h⟩; rw [List.mem_iff_getElem]
    exact ⟨n, by rw [List.length_take]; omega, List.getElem_take⟩)
   clear hE; generalize its[n] = y at *; obtain ⟨yn, yf, yc, ym, ye⟩ := y; simp only at c0 c1 c2 c3 c4 HY HM; have HC2 := a_0 (show Calls prog 95 #[.agg #[str yn, .int .i64 yf, str yc, .int .i64 ym, .slice E ye.length ec], a_N b] wr (fun e w' => e = .returned (.bool (decide (yn = x))) ∧ Below wr.heap.size wr w') from HC.out); clear HC; generalize ye.length = le at *
   by_cases hx : yn = x
   ·have HR := a_0 (HM.out hx)
    have hd : decide (yn = x) = true := by simpa using hx
    rw [hd] at HC2; clear HY HM hx hd
    go_wp2_with (go_at_fn 95; refine (HC2.out).mono ?_; rintro e w1 ⟨rfl, hb1⟩)
    go_ret
    exact ⟨⟨n, rfl, iff_of_true o_ HR.out⟩, a_n hb1 hbel⟩
   ·have HR := a_0 (HY.out hx)
    have hd : decide (yn = x) = false := by simpa using hx
    rw [hd] at HC2; clear HY HM hx hd
    go_wp2_with (go_at_fn 95; refine (HC2.out).mono ?_; rintro e w1 ⟨rfl, hb1⟩)
    exact ⟨⟨n + 1, o_, t_, HR, a_n hb1 hbel⟩, w_⟩
  ·obtain rfl : n = k := by omega
   have HR := a_0 (show ¬ x ∈ (its.take n).map It.name from fun hm => by
    obtain ⟨y, hy, e⟩ := List.mem_map.1 hm; obtain ⟨j, hj, rfl⟩ := List.mem_iff_getElem.1 hy; rw [List.length_take] at hj; rw [List.getElem_take] at e
    exact HZ.out j o_ o_ e)
   go_wp2
   go_ret
   exact ⟨⟨-1, rfl, iff_of_false o_ HR.out⟩, hbel⟩
theorem o_i (g off c k b : Nat) (its : List It) (x : a_3) (w : World) (hg : g < w.heap.size) (hk : k ≤ its.length) (hl : its.length ≤ 1000000) (hA : ∀ i (h : i < its.length), r_U w g (off + i * 5) its[i]) (hb : b < w.heap.size) (hc : w.cell? ⟨b, 0, none⟩ = some (str x)) :
  Calls prog 94 #[.slice (some ⟨g, off, none⟩) k c, .func (.func 95) #[] #[a_N b]] w fun e w' => e = .returned (.bool (decide (x ∈ (its.take k).map It.name))) ∧ Below w.heap.size w w' := by
 have HI := a_0 (l_d g off c k b its x w hg hk hl hA hb hc)
 clear hA hc
 generalize (its.take k).map It.name = l at *
 go_enter func94, ntmps94
 by_cases hm : x ∈ l
 ·have hd := a_0 (show decide (x ∈ l) = true from by simpa using hm)
  go_wp2_with (go_at_call 161; refine (HI.out).mono ?_; rintro e w1 ⟨⟨i, rfl, hi⟩, hb1⟩; have hi0 := hi.2 hm)
  all_goals first | (exfalso; omega) | skip
  go_ret
  exact ⟨a_g hd.out.symm, hb1⟩
 ·have hd := a_0 (show decide (x ∈ l) = false from by simpa using hm)
  go_wp2_with (go_at_call 161; refine (HI.out).mono ?_; rintro e w1 ⟨⟨i, rfl, hi⟩, hb1⟩; have hi0 : ¬ 0 ≤ i := fun h => hm (hi.1 h))
  all_goals first | (exfalso; omega) | skip
  go_ret
  exact ⟨a_g hd.out.symm, hb1⟩
theorem v_5 (a b c d : Bool) (n u o : Int) : b_p (fun j => [if a = true then 8 else 0, if b = true then 8 else 0, if c = true then 8 else 0, if d = true then 8 else 0, n, u, o].getD j 0) 7 = if (a || b || c || d) = true then 8 else if n ≠ 0 then n else if u ≠ 0 then u else o := by
 cases a <;> cases b <;> cases c <;> cases d <;> by_cases hn : n = 0 <;> by_cases hu : u = 0 <;> simp [b_p, hn, hu]
theorem q_3 {its : List It} {k : Nat} (h : k < its.length) (fB cB nB eB : Bool) (own : It → Int) (a b c d : Bool) (hs : (a || b || c || d) = e_L its[k] fB cB nB eB) :
  b_p (fun j => [if a = true then 8 else 0, if b = true then 8 else 0, if c = true then 8 else 0, if d = true then 8 else 0, c_f its[k].name, if decide (its[k].name ∈ (its.take k).map It.name) = true then 6 else 0, own its[k]].getD j 0) 7 = if d_v its k fB cB nB eB = 0 then own its[k] else d_v its k fB cB nB eB := by
 rw [v_5, hs, l_I h]
 unfold c_f
 cases e_L its[k] fB cB nB eB <;> cases nmB its[k].name <;> by_cases hm : its[k].name ∈ (its.take k).map It.name <;> simp [hm]
end Go.Proofs.YtmbeeefkpgfgmaaGreatDoor
