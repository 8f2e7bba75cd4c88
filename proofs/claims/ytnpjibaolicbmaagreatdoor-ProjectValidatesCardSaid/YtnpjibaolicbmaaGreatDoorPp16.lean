/- Parts of the proof. -/
import Derived.Test.YtnpjibaolicbmaaGreatDoorPp10
import Derived.Test.YtnpjibaolicbmaaGreatDoorPp12
set_option linter.unusedVariables false
set_option linter.unusedSimpArgs false
set_option maxHeartbeats 8000000
namespace Go.Proofs.YtnpjibaolicbmaaGreatDoor
open Go.Proofs.Tryz
open Go.RowKit
def b_8 (w : World) (g : Nat) (lb : Array Value) (v : Int) : Prop :=
 (∀ args W, (callFunc g args).run prog W = .ok (.enter g args) W) ∧ ∀ W, Below w.heap.size w W → Calls prog g lb W fun e W' => e = .returned (.int .i64 v) ∧ Below W.heap.size W W'
theorem b_8.below {w w' : World} {g : Nat} {lb : Array Value} {v : Int} (h : b_8 w g lb v) (hb : Below w.heap.size w w') : b_8 w' g lb v := ⟨h.1, fun W hW => h.2 W (a_9 hW hb)⟩
theorem c_d (p : Bool) (x : Int) (w : World) :
  Calls prog 215 #[.bool p, .int .i64 x] w fun e w' => (∃ (lb : Array Value) (v : Int), e = .returned (.func (.func 260) #[] lb) ∧ v = (if p = true then x else 0) ∧ b_8 w' 260 lb v) ∧ Below w.heap.size w w' := by
 refine (h_6 p x w).mono ?_
 rintro e w' ⟨rfl, rfl⟩
 refine ⟨⟨_, _, rfl, rfl, fun args W => by kernel_rfl, fun W hW => ?_⟩, zX⟩
 have h1 : W.cell? ⟨w.heap.size, 0, none⟩ = some (.bool p) := by
  rw [hW.cell (p := ⟨w.heap.size, 0, none⟩) m_]
  simp [go_sem]
 have h2 : W.cell? ⟨w.heap.size + 1, 0, none⟩ = some (.int .i64 x) := by
  rw [hW.cell (p := ⟨w.heap.size + 1, 0, none⟩) s_]
  simp [go_sem]
 refine (l_k _ _ p x W h1 h2).mono ?_
 rintro e w' ⟨rfl, rfl⟩
 exact ⟨rfl, b_ _ _⟩
structure Thk where
 g : Nat
 lb : Array Value
 v : Int
theorem b_X (B c : Nat) (fs : List Thk) (w : World) (hB : B < w.heap.size) (hn : fs.length ≤ 10)
  (hc : ∀ j (h : j < fs.length), w.cell? ⟨B, j, none⟩ = some (.func (.func fs[j].g) #[] fs[j].lb)) (ht : ∀ j (h : j < fs.length), b_8 w fs[j].g fs[j].lb fs[j].v) :
  Calls prog 211 #[.slice (some ⟨B, 0, none⟩) fs.length c] w fun e w' => e = .returned (.int .i64 (a_o (fun j => (fs.map Thk.v).getD j 0) fs.length)) ∧ Below w.heap.size w w' := by
 have hl : (fs.map fun t => (t.g, t.lb)).length = fs.length := by simp
 have H := g_v B c (fs.map fun t => (t.g, t.lb)) (fun j => (fs.map Thk.v).getD j 0) w hB (by simpa using hn)
  (fun j h => by
    refine o_o ?_; intro h'
    simpa using hc j h')
  (fun j h => by
    refine o_o ?_; intro h'
    simpa using (ht j h').1)
  (fun j h W hW => by
   refine o_o ?_; intro h'; have h2 := (ht j h').2 W hW; refine r_H ?_; intro e; simp only [List.getElem_map, e]
   exact h2.mono fun e w' ⟨h3, h4⟩ => ⟨h3, a_9 h4 hW⟩)
 rw [hl] at H
 exact H
set_option maxRecDepth 100000
theorem f_p (s : Stp) (a : Adr) (x : It) (E : Option Addr) (ec : Nat) (w : World) (hW : a_v w 1 a_w) (hN : b_b w a.nA s.names) (hl : s.names.length ≤ 8796093022208) :
  Calls prog 224 #[s.agg a, itV x E ec] w fun e w' => e = .returned (.int .i64 (b_Y s.names x)) ∧ Below w.heap.size w w' := by
 have HC := a_2 (fun W (hb : Below w.heap.size w W) => b_k a.nA s.names a.nC x.name W (hN.below hb) hl)
 have HM := a_2 (fun W (hb : Below w.heap.size w W) => b_T x.col W (hW.below hb))
 have HX := a_2 (show b_Y s.names x = if x.name ∈ s.names then 6 else if x.fn < 1 ∨ 7 < x.fn ∨ (x.fn = 1 ∧ x.col ≠ []) then 8 else if x.fn ≠ 1 then a_F x.col else 0 from rfl)
 clear hW hN hl
 obtain ⟨op, src, names, others, its, cond⟩ := s
 obtain ⟨nA, nC, oA, oC, iA, iC, cA, cC⟩ := a
 obtain ⟨xn, xf, xc, xm, xe⟩ := x
 simp only at HC HM HX
 show Calls prog 224 #[.agg #[.int .i64 op, str src, .slice nA names.length nC, .slice oA others.length oC, .slice iA its.length iC, .slice cA cond.length cC], .agg #[str xn, .int .i64 xf, str xc, .int .i64 xm, .slice E xe.length ec]] w _
 generalize b_Y _ _ = r at *
 generalize xe.length = le at *
 generalize names.length = ln at *
 generalize others.length = lo at *
 generalize its.length = li at *
 generalize cond.length = lc at *
 generalize a_F xc = v at *
 by_cases hm : xn ∈ names
 ·have hb : decide (xn ∈ names) = true := by simpa using hm
  have HR := a_2 (HX.out.trans (if_pos hm))
  rw [hb] at HC
  clear HX hm hb HM
  go_enter func224, ntmps224
  go_wp2_with (go_at_call 85; refine (HC.out _ zX).mono ?_; rintro e w' ⟨rfl, rfl⟩)
  exact k_4
 have hb : decide (xn ∈ names) = false := by simpa using hm
 have HX2 := a_2 (HX.out.trans (if_neg hm))
 rw [hb] at HC
 clear HX hm hb
 by_cases h1 : xf = 1
 ·subst h1
  by_cases hc : xc = []
  ·subst hc
   have HR := a_2 (show r = 0 from by rw [HX2.out]; simp); clear HX2
   go_enter func224, ntmps224
   go_wp2_with (go_at_call 85; refine (HC.out _ zX).mono ?_; rintro e w' ⟨rfl, rfl⟩)
   exact k_4
  ·have HR := a_2 (show r = 8 from by rw [HX2.out]; simp [hc])
   have q1 : xc.isEmpty = false := by cases xc; exact absurd rfl hc; rfl
   have q2 : (xc == []) = false := beq_eq_false_iff_ne.2 hc; clear HX2
   go_enter func224, ntmps224
   go_wp2_with (go_at_call 85; refine (HC.out _ zX).mono ?_; rintro e w' ⟨rfl, rfl⟩)
   all_goals first | (exfalso; omega) | (exfalso; simp_all; done) | skip
   exact k_4
 by_cases h2 : xf < 1
 ·have HR := a_2 (show r = 8 from by rw [HX2.out, if_pos (.inl h2)])
  clear HX2
  go_enter func224, ntmps224
  go_wp2_with (go_at_call 85; refine (HC.out _ zX).mono ?_; rintro e w' ⟨rfl, rfl⟩)
  all_goals first | (exfalso; omega) | skip
  exact k_4
 by_cases h3 : 7 < xf
 ·have HR := a_2 (show r = 8 from by rw [HX2.out, if_pos (.inr (.inl h3))])
  clear HX2
  go_enter func224, ntmps224
  go_wp2_with (go_at_call 85; refine (HC.out _ zX).mono ?_; rintro e w' ⟨rfl, rfl⟩)
  all_goals first | (exfalso; omega) | skip
  exact k_4
 have HR := a_2 (show r = v from by rw [HX2.out, if_neg (by simp [h1]; omega), if_pos h1])
 have h1b : (xf != 1) = true := by simpa using h1
 clear HX2
 go_enter func224, ntmps224
 go_wp2_with (first
  | (go_at_call 85; refine (HC.out _ zX).mono ?_; rintro e w' ⟨rfl, rfl⟩)
  | (go_at_call 220; refine (HM.out _ zX).mono ?_; rintro e w' ⟨rfl, hb1⟩))
 all_goals first | (exfalso; omega) | skip
 exact l_p
theorem f_d (x : It) (E : Option Addr) (ec : Nat) (w : World) (hW : a_v w 1 a_w) :
  Calls prog 228 #[itV x E ec] w fun e w' => e = .returned (.int .i64 (b_A x)) ∧ Below w.heap.size w w' := by
 have HM := a_2 (fun W (hb : Below w.heap.size w W) => show Calls prog 220 #[str x.col] W (fun e w' => e = .returned (.int .i64 (if nmB x.col = true then 0 else 4)) ∧ Below W.heap.size W w') from b_T x.col W (hW.below hb))
 have HX := a_2 (show b_A x = if (f_0 x.fn).1 = false ∨ ((f_0 x.fn).2.1 = false ∧ x.col ≠ []) ∨ ((f_0 x.fn).2.2 = false ∧ x.num ≠ 0) then 8
  else if (f_0 x.fn).2.1 = true ∧ nmB x.col = false then 4 else if (f_0 x.fn).2.2 = true ∧ (x.num < 1 ∨ 4096 < x.num) then 1 else 0 from rfl)
 clear hW
 obtain ⟨xn, xf, xc, xm, xe⟩ := x
 simp only at HM HX
 show Calls prog 228 #[.agg #[str xn, .int .i64 xf, str xc, .int .i64 xm, .slice E xe.length ec]] w _
 generalize b_A _ = r at *
 generalize xe.length = le at *
 generalize nmB xc = v at *
 by_cases h : xf = 1 ∨ xf = 8 ∨ xf = 9 ∨ xf = 3 ∨ xf = 12 ∨ xf = 13 ∨ xf = 10 ∨ xf = 11
 rotate_left
 ·have e : f_0 xf = (false, false, false) := by unfold f_0; rw [if_neg o_, if_neg o_, if_neg o_]
  have HR := a_2 (show r = 8 from by rw [HX.out, e]; simp)
  have q1 : (xf == 1) = false := beq_eq_false_iff_ne.2 o_
  have q3 : (xf == 3) = false := beq_eq_false_iff_ne.2 o_
  have q8 : (xf == 8) = false := beq_eq_false_iff_ne.2 o_
  have q9 : (xf == 9) = false := beq_eq_false_iff_ne.2 o_
  have q10 : (xf == 10) = false := beq_eq_false_iff_ne.2 o_
  have q11 : (xf == 11) = false := beq_eq_false_iff_ne.2 o_
  have n1 : (xf != 1) = true := by simp [bne, q1]
  have n3 : (xf != 3) = true := by simp [bne, q3]
  have hsp : xf < 8 ∨ 13 < xf := by omega
  clear HX HM e h
  rcases hsp with hsp | hsp
  all_goals
   go_enter func228, ntmps228
   go_wp2
   all_goals first | (exfalso; omega) | (exfalso; simp_all; done) | skip
   exact k_4
 have hce : xc = [] ∨ (xc ≠ [] ∧ xc.isEmpty = false ∧ (xc == []) = false) := by
  by_cases hc : xc = []
  ·exact .inl hc
  ·exact .inr ⟨hc, by cases xc; exact absurd rfl hc; rfl, beq_eq_false_iff_ne.2 hc⟩
 have hme : xm = 0 ∨ (xm ≠ 0 ∧ (xm == 0) = false ∧ (xm != 0) = true) := by
  by_cases hc : xm = 0
  ·exact .inl hc
  ·exact .inr ⟨hc, beq_eq_false_iff_ne.2 hc, by simpa using hc⟩
 have hgr : (xf = 1 ∨ xf = 8 ∨ xf = 9) ∨ (xf = 3 ∨ xf = 12 ∨ xf = 13) ∨ (xf = 10 ∨ xf = 11) := by omega
 clear h
 rcases hgr with h | h | h
 ·rcases h with rfl | rfl | rfl
  all_goals
   rcases hce with rfl | ⟨c1, c2, c3⟩
   ·rcases hme with rfl | ⟨m1, m2, m3⟩
    ·have HR := a_2 (show r = 0 from by rw [HX.out]; simp_all [f_0] <;> omega)
     go_enter func228, ntmps228
     go_wp2_with (go_at_call 220; refine (HM.out _ zX).mono ?_; rintro e w' ⟨rfl, hb1⟩; have hcur := a_1 (b_ (w.heap.size + 1) (w.alloc (.cells #[str xn, .int .i64 _, _, _, .slice E le ec] 135))) s_ hb1; obtain ⟨k0, k1, k2, k3, k4, hlw⟩ := e_y hcur)
     all_goals first | (exfalso; omega) | (exfalso; simp_all; done) | skip
     exact l_p
    ·have HR := a_2 (show r = 8 from by rw [HX.out]; simp_all [f_0] <;> omega)
     go_enter func228, ntmps228
     go_wp2_with (go_at_call 220; refine (HM.out _ zX).mono ?_; rintro e w' ⟨rfl, hb1⟩; have hcur := a_1 (b_ (w.heap.size + 1) (w.alloc (.cells #[str xn, .int .i64 _, _, _, .slice E le ec] 135))) s_ hb1; obtain ⟨k0, k1, k2, k3, k4, hlw⟩ := e_y hcur)
     all_goals first | (exfalso; omega) | (exfalso; simp_all; done) | skip
     exact l_p
   ·have HR := a_2 (show r = 8 from by rw [HX.out]; simp_all [f_0] <;> omega)
    go_enter func228, ntmps228
    go_wp2_with (go_at_call 220; refine (HM.out _ zX).mono ?_; rintro e w' ⟨rfl, hb1⟩; have hcur := a_1 (b_ (w.heap.size + 1) (w.alloc (.cells #[str xn, .int .i64 _, _, _, .slice E le ec] 135))) s_ hb1; obtain ⟨k0, k1, k2, k3, k4, hlw⟩ := e_y hcur)
    all_goals first | (exfalso; omega) | (exfalso; simp_all; done) | skip
    exact l_p
 ·rcases h with rfl | rfl | rfl
  all_goals
   rcases hme with rfl | ⟨m1, m2, m3⟩
   ·cases v
    ·have HR := a_2 (show r = 4 from by rw [HX.out]; simp_all [f_0] <;> omega)
     go_enter func228, ntmps228
     go_wp2_with (go_at_call 220; refine (HM.out _ zX).mono ?_; rintro e w' ⟨rfl, hb1⟩; have hcur := a_1 (b_ (w.heap.size + 1) (w.alloc (.cells #[str xn, .int .i64 _, _, _, .slice E le ec] 135))) s_ hb1; obtain ⟨k0, k1, k2, k3, k4, hlw⟩ := e_y hcur)
     all_goals first | (exfalso; omega) | (exfalso; simp_all; done) | skip
     exact l_p
    ·have HR := a_2 (show r = 0 from by rw [HX.out]; simp_all [f_0] <;> omega)
     go_enter func228, ntmps228
     go_wp2_with (go_at_call 220; refine (HM.out _ zX).mono ?_; rintro e w' ⟨rfl, hb1⟩; have hcur := a_1 (b_ (w.heap.size + 1) (w.alloc (.cells #[str xn, .int .i64 _, _, _, .slice E le ec] 135))) s_ hb1; obtain ⟨k0, k1, k2, k3, k4, hlw⟩ := e_y hcur)
     all_goals first | (exfalso; omega) | (exfalso; simp_all; done) | skip
     exact l_p
   ·have HR := a_2 (show r = 8 from by rw [HX.out]; simp_all [f_0] <;> omega)
    go_enter func228, ntmps228
    go_wp2_with (go_at_call 220; refine (HM.out _ zX).mono ?_; rintro e w' ⟨rfl, hb1⟩; have hcur := a_1 (b_ (w.heap.size + 1) (w.alloc (.cells #[str xn, .int .i64 _, _, _, .slice E le ec] 135))) s_ hb1; obtain ⟨k0, k1, k2, k3, k4, hlw⟩ := e_y hcur)
    all_goals first | (exfalso; omega) | (exfalso; simp_all; done) | skip
    exact l_p
 ·rcases h with rfl | rfl
  all_goals
   cases v
   ·have HR := a_2 (show r = 4 from by rw [HX.out]; simp_all [f_0] <;> omega)
    go_enter func228, ntmps228
    go_wp2_with (go_at_call 220; refine (HM.out _ zX).mono ?_; rintro e w' ⟨rfl, hb1⟩; have hcur := a_1 (b_ (w.heap.size + 1) (w.alloc (.cells #[str xn, .int .i64 _, _, _, .slice E le ec] 135))) s_ hb1; obtain ⟨k0, k1, k2, k3, k4, hlw⟩ := e_y hcur)
    all_goals first | (exfalso; omega) | (exfalso; simp_all; done) | skip
    exact l_p
   ·by_cases q1 : xm < 1
    ·have HR := a_2 (show r = 1 from by rw [HX.out]; simp_all [f_0] <;> omega)
     go_enter func228, ntmps228
     go_wp2_with (go_at_call 220; refine (HM.out _ zX).mono ?_; rintro e w' ⟨rfl, hb1⟩; have hcur := a_1 (b_ (w.heap.size + 1) (w.alloc (.cells #[str xn, .int .i64 _, _, _, .slice E le ec] 135))) s_ hb1; obtain ⟨k0, k1, k2, k3, k4, hlw⟩ := e_y hcur)
     all_goals first | (exfalso; omega) | (exfalso; simp_all; done) | skip
     exact l_p
    ·by_cases q2 : 4096 < xm
     ·have HR := a_2 (show r = 1 from by rw [HX.out]; simp_all [f_0] <;> omega)
      go_enter func228, ntmps228
      go_wp2_with (go_at_call 220; refine (HM.out _ zX).mono ?_; rintro e w' ⟨rfl, hb1⟩; have hcur := a_1 (b_ (w.heap.size + 1) (w.alloc (.cells #[str xn, .int .i64 _, _, _, .slice E le ec] 135))) s_ hb1; obtain ⟨k0, k1, k2, k3, k4, hlw⟩ := e_y hcur)
      all_goals first | (exfalso; omega) | (exfalso; simp_all; done) | skip
      exact l_p
     ·have HR := a_2 (show r = 0 from by rw [HX.out]; simp_all [f_0] <;> omega)
      go_enter func228, ntmps228
      go_wp2_with (go_at_call 220; refine (HM.out _ zX).mono ?_; rintro e w' ⟨rfl, hb1⟩; have hcur := a_1 (b_ (w.heap.size + 1) (w.alloc (.cells #[str xn, .int .i64 _, _, _, .slice E le ec] 135))) s_ hb1; obtain ⟨k0, k1, k2, k3, k4, hlw⟩ := e_y hcur)
      all_goals first | (exfalso; omega) | (exfalso; simp_all; done) | skip
      exact l_p
set_option maxRecDepth 512
theorem i_j (b : Nat) (x : a_3) (w : World) (hW : a_v w 1 a_w) (hb : b < w.heap.size) (hc : w.cell? ⟨b, 0, none⟩ = some (str x)) : b_8 w 261 #[a_f b] (a_F x) := by
 refine ⟨fun args W => by kernel_rfl, fun W hW2 => ?_⟩
 have c0 := (hW2.cell (p := ⟨b, 0, none⟩) hb).trans hc
 have HM := a_2 (b_T x W (hW.below hW2))
 clear hW hc hW2
 generalize a_F x = v at *
 go_enter func261, ntmps261
 go_wp2_with (go_at_call 220; refine (HM.out).mono ?_; rintro e w1 ⟨rfl, hb1⟩)
 exact d_s
theorem k_i (b : Nat) (y : It) (E : Option Addr) (ec : Nat) (x : a_3) (w : World) (hb : b < w.heap.size) (hc : w.cell? ⟨b, 0, none⟩ = some (str x)) :
  Calls prog 263 #[itV y E ec, a_f b] w fun e w' => e = .returned (.bool (decide (y.name = x))) ∧ Below w.heap.size w w' := by
 obtain ⟨yn, yf, yc, ym, ye⟩ := y
 show Calls prog 263 #[.agg #[str yn, .int .i64 yf, str yc, .int .i64 ym, .slice E ye.length ec], a_f b] w _
 generalize ye.length = le
 have c1 : (w.alloc (.cells #[str yn, .int .i64 yf, str yc, .int .i64 ym, .slice E le ec] 135)).cell? ⟨b, 0, none⟩ = some (str x) := by
  exact q_3
 by_cases h : yn = x
 ·have hb1 : (yn == x) = true := by simpa using h
  have HR := a_2 (show decide (yn = x) = true from by simpa using h)
  clear h
  go_enter func263, ntmps263
  go_wp2
  go_ret
  exact ⟨a_a HR.out.symm, zX⟩
 ·have hb1 : (yn == x) = false := beq_eq_false_iff_ne.2 h
  have HR := a_2 (show decide (yn = x) = false from by simpa using h)
  clear h
  go_enter func263, ntmps263
  go_wp2
  go_ret
  exact ⟨a_a HR.out.symm, zX⟩
theorem i_3 (b1 b2 : Nat) (g : Nat) (lb : Array Value) (x : It) (E : Option Addr) (ec : Nat) (v : Int) (w : World) (h1 : b1 < w.heap.size) (h2 : b2 < w.heap.size)
  (hf : w.cell? ⟨b1, 0, none⟩ = some (.func (.func g) #[] lb)) (c0 : w.cell? ⟨b2, 0, none⟩ = some (str x.name)) (c1 : w.cell? ⟨b2, 1, none⟩ = some (.int .i64 x.fn)) (c2 : w.cell? ⟨b2, 2, none⟩ = some (str x.col)) (c3 : w.cell? ⟨b2, 3, none⟩ = some (.int .i64 x.num)) (c4 : w.cell? ⟨b2, 4, none⟩ = some (.slice E x.expr.length ec))
  (eg : ∀ args W, (callFunc g args).run prog W = .ok (.enter g args) W)
  (hp : ∀ W, Below w.heap.size w W → Calls prog g (#[itV x E ec] ++ lb) W fun e w' => e = .returned (.int .i64 v) ∧ Below W.heap.size W w') : b_8 w 264 #[a_f b1, a_f b2] v := by
 refine ⟨fun args W => by kernel_rfl, fun W hW => ?_⟩
 have d := (hW.cell (p := ⟨b1, 0, none⟩) h1).trans hf
 have d0 := (hW.cell (p := ⟨b2, 0, none⟩) h2).trans c0
 have d1 := (hW.cell (p := ⟨b2, 1, none⟩) h2).trans c1
 have d2 := (hW.cell (p := ⟨b2, 2, none⟩) h2).trans c2
 have d3 := (hW.cell (p := ⟨b2, 3, none⟩) h2).trans c3
 have d4 := (hW.cell (p := ⟨b2, 4, none⟩) h2).trans c4
 have HP := a_2 (hp W hW)
 clear hf c0 c1 c2 c3 c4 hp hW
 obtain ⟨xn, xf, xc, xm, xe⟩ := x
 simp only at d0 d1 d2 d3 d4 HP
 have HP2 := a_2 (show Calls prog g (#[.agg #[str xn, .int .i64 xf, str xc, .int .i64 xm, .slice E xe.length ec]] ++ lb) W (fun e w' => e = .returned (.int .i64 v) ∧ Below W.heap.size W w') from HP.out)
 clear HP
 generalize xe.length = le at *
 go_enter func264, ntmps264
 go_wp2_with (go_at_fn g; refine (HP2.out).mono ?_; rintro e w1 ⟨rfl, hb1⟩)
 exact d_s
theorem i_T (g off c k b : Nat) (its : List It) (x : a_3) (w : World) (hg : g < w.heap.size) (hk : k ≤ its.length) (hl : its.length ≤ 8796093022208) (hA : ∀ i (h : i < its.length), o_w w g (off + i * 5) its[i]) (hb : b < w.heap.size) (hc : w.cell? ⟨b, 0, none⟩ = some (str x)) :
  Calls prog 277 #[.slice (some ⟨g, off, none⟩) k c, .func (.func 263) #[] #[a_f b]] w fun e w' => (∃ i : Int, e = .returned (.int .i64 i) ∧ ((0 ≤ i) ↔ x ∈ (its.take k).map It.name)) ∧ Below w.heap.size w w' := by
 have HA := a_2 hA
 have HB := a_2 (fun W (h : Below w.heap.size w W) (y : It) (E : Option Addr) (ec : Nat) => k_i b y E ec x W (Nat.lt_of_lt_of_le hb h.size) ((h.cell (p := ⟨b, 0, none⟩) hb).trans hc))
 have eg : ∀ args W, (callFunc 263 args).run prog W = .ok (.enter 263 args) W := fun args W => by kernel_rfl
 clear hA hc
 go_enter func277, ntmps277
 go_wp2
 go_loopw [8] (fun i wr => ∃ n : Nat, n ≤ k ∧ i = .int .i64 n ∧ Hid (∀ j (h : j < its.length), j < n → its[j].name ≠ x) ∧ Below w.heap.size w wr) (fun i _ => k - (intOf i).toNat)
 case atStart => exact ⟨0, o_, rfl, fun j h hj => absurd hj (Nat.not_lt_zero _), b_ _ _⟩
 case round =>
  obtain ⟨n, hn, rfl, HZ, hbel⟩ := hrel
  by_cases hlt : n < k
  ·have hlt2 : n < its.length := by omega
   have hgw := Nat.lt_of_lt_of_le hg hbel.size; obtain ⟨c0, c1, c2, c3, E, ec, c4, hE⟩ := (HA.out n hlt2).below hg hbel; have HC := a_2 (HB.out wr hbel its[n] E ec)
   have HY := a_2 (fun (h : its[n].name ≠ x) => show ∀ j (h : j < its.length), j < n + 1 → its[j].name ≠ x from fun j h' hj => by
    by_cases e : j = n
    ·subst e; exact h
    ·exact HZ.out j h' o_)
   have HM := a_2 (fun (h : its[n].name = x) => show x ∈ (its.take k).map It.name from by
    refine List.mem_map.2 ⟨its[n], ?_, h⟩; rw [List.mem_iff_getElem]
    exact ⟨n, by rw [List.length_take]; omega, List.getElem_take⟩)
   clear hE; generalize its[n] = y at *; obtain ⟨yn, yf, yc, ym, ye⟩ := y; simp only at c0 c1 c2 c3 c4 HY HM; have HC2 := a_2 (show Calls prog 263 #[.agg #[str yn, .int .i64 yf, str yc, .int .i64 ym, .slice E ye.length ec], a_f b] wr (fun e w' => e = .returned (.bool (decide (yn = x))) ∧ Below wr.heap.size wr w') from HC.out); clear HC; generalize ye.length = le at *
   by_cases hx : yn = x
   ·have HR := a_2 (HM.out hx)
    have hd : decide (yn = x) = true := by simpa using hx
    rw [hd] at HC2; clear HY HM hx hd
    go_wp2_with (go_at_fn 263; refine (HC2.out).mono ?_; rintro e w1 ⟨rfl, hb1⟩)
    go_ret
    exact ⟨⟨n, rfl, iff_of_true o_ HR.out⟩, a_9 hb1 hbel⟩
   ·have HR := a_2 (HY.out hx)
    have hd : decide (yn = x) = false := by simpa using hx
    rw [hd] at HC2; clear HY HM hx hd
    go_wp2_with (go_at_fn 263; refine (HC2.out).mono ?_; rintro e w1 ⟨rfl, hb1⟩)
    exact o_A
  ·obtain rfl : n = k := by omega
   have HR := a_2 (show ¬ x ∈ (its.take n).map It.name from fun hm => by
    obtain ⟨y, hy, e⟩ := List.mem_map.1 hm; obtain ⟨j, hj, rfl⟩ := List.mem_iff_getElem.1 hy; rw [List.length_take] at hj; rw [List.getElem_take] at e
    exact HZ.out j o_ o_ e)
   go_wp2
   go_ret
   exact ⟨⟨-1, rfl, iff_of_false o_ HR.out⟩, hbel⟩
theorem k_C (g off c k b : Nat) (its : List It) (x : a_3) (w : World) (hg : g < w.heap.size) (hk : k ≤ its.length) (hl : its.length ≤ 8796093022208) (hA : ∀ i (h : i < its.length), o_w w g (off + i * 5) its[i]) (hb : b < w.heap.size) (hc : w.cell? ⟨b, 0, none⟩ = some (str x)) :
  Calls prog 262 #[.slice (some ⟨g, off, none⟩) k c, .func (.func 263) #[] #[a_f b]] w fun e w' => e = .returned (.bool (decide (x ∈ (its.take k).map It.name))) ∧ Below w.heap.size w w' := by
 have HI := a_2 (i_T g off c k b its x w hg hk hl hA hb hc)
 clear hA hc
 generalize (its.take k).map It.name = l at *
 go_enter func262, ntmps262
 by_cases hm : x ∈ l
 ·have hd := a_2 (show decide (x ∈ l) = true from by simpa using hm)
  go_wp2_with (go_at_call 277; refine (HI.out).mono ?_; rintro e w1 ⟨⟨i, rfl, hi⟩, hb1⟩; have hi0 := hi.2 hm)
  all_goals first | (exfalso; omega) | skip
  go_ret
  exact ⟨a_a hd.out.symm, hb1⟩
 ·have hd := a_2 (show decide (x ∈ l) = false from by simpa using hm)
  go_wp2_with (go_at_call 277; refine (HI.out).mono ?_; rintro e w1 ⟨⟨i, rfl, hi⟩, hb1⟩; have hi0 : ¬ 0 ≤ i := fun h => hm (hi.1 h))
  all_goals first | (exfalso; omega) | skip
  go_ret
  exact ⟨a_a hd.out.symm, hb1⟩
theorem r_x (a b c d : Bool) (n u o : Int) : a_o (fun j => [if a = true then 8 else 0, if b = true then 8 else 0, if c = true then 8 else 0, if d = true then 8 else 0, n, u, o].getD j 0) 7 = if (a || b || c || d) = true then 8 else if n ≠ 0 then n else if u ≠ 0 then u else o := by
 cases a <;> cases b <;> cases c <;> cases d <;> by_cases hn : n = 0 <;> by_cases hu : u = 0 <;> simp [a_o, hn, hu]
theorem m_w {its : List It} {k : Nat} (h : k < its.length) (fB cB nB eB : Bool) (own : It → Int) (a b c d : Bool) (hs : (a || b || c || d) = d_Q its[k] fB cB nB eB) :
  a_o (fun j => [if a = true then 8 else 0, if b = true then 8 else 0, if c = true then 8 else 0, if d = true then 8 else 0, a_F its[k].name, if decide (its[k].name ∈ (its.take k).map It.name) = true then 6 else 0, own its[k]].getD j 0) 7 = if d_r its k fB cB nB eB = 0 then own its[k] else d_r its k fB cB nB eB := by
 rw [r_x, hs, j_v h]
 unfold a_F
 cases d_Q its[k] fB cB nB eB <;> cases nmB its[k].name <;> by_cases hm : its[k].name ∈ (its.take k).map It.name <;> simp [hm]
end Go.Proofs.YtnpjibaolicbmaaGreatDoor
