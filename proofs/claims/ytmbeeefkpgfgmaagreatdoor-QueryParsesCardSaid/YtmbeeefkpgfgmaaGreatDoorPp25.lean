/- Parts of the proof. -/
import Derived.Test.YtmbeeefkpgfgmaaGreatDoorPp23
set_option linter.unusedVariables false
set_option linter.unusedSimpArgs false
set_option maxHeartbeats 8000000
namespace Go.Proofs.YtmbeeefkpgfgmaaGreatDoor
open Go.Proofs.Tryz
open Go.RowKit Go.WideMaps Go.Maps
structure ItB (W0 : World) (P bx Bm nm : Nat) (L : List (a_3 × Int)) (W : World) (x : It) : Prop where
 gr : W0.grownBy W (some P)
 pl : P < W0.heap.size
 le : W0.heap.size ≤ bx
 ml : Bm < W0.heap.size
 mp : Bm ≠ P
 box : W.heap[bx]? = some (.cells #[str x.name, .int .i64 x.fn, str x.col, .int .i64 x.num, .slice none 0 0] 61 (0, 0))
 map : W.ownsMap prog 9 (plainElem prog 3) Bm nm (f_s f_q L)
section
variable {W0 W W' : World} {P bx Bm nm cc : Nat} {L : List (a_3 × Int)} {x : It} {A : Option Addr} {ts : List Tok} {s : QSt}
theorem ItB.step (h : ItB W0 P bx Bm nm L W x) (hg : W.grownBy W' (some P)) : ItB W0 P bx Bm nm L W' x := by
 have h1 := h.pl
 have h2 := h.le
 exact ⟨h.gr.trans hg, h1, h2, h.ml, h.mp, a_r hg h.box o_, h.map.kept hg (by intro e; injection e with e; exact h.mp e)⟩
theorem ItB.cells (h : ItB W0 P bx Bm nm L W x) : W.cell? ⟨bx, 0, none⟩ = some (str x.name) ∧ W.cell? ⟨bx, 1, none⟩ = some (.int .i64 x.fn) ∧ W.cell? ⟨bx, 2, none⟩ = some (str x.col) ∧ W.cell? ⟨bx, 3, none⟩ = some (.int .i64 x.num) ∧ W.cell? ⟨bx, 4, none⟩ = some (.slice none 0 0) := by
 have hb := h.box
 simp [World.cell?, hb]
theorem ItB.set (h : ItB W0 P bx Bm nm L W x) (i : Nat) (v : Value) (y : It) (hy : #[str x.name, .int .i64 x.fn, str x.col, .int .i64 x.num, .slice none 0 0].setIfInBounds i v = #[str y.name, .int .i64 y.fn, str y.col, .int .i64 y.num, .slice none 0 0]) : ItB W0 P bx Bm nm L (W.setCell ⟨bx, i, none⟩ v) y := by
 have h1 := h.pl
 have h2 := h.le
 have h3 := h.ml
 refine u_n ?_; intro g
 refine ⟨h.gr.andThen g (fun j e => .inl j_), h1, h2, h3, h.mp, ?_, h.map.kept g i_⟩
 have := heap_setCell_same W bx i _ _ v h.box
 rw [hy] at this
 exact this
theorem QPt.box (h : QPt QT W P A ts cc s) (hb : P < bx) (i : Nat) (v : Value) : QPt QT (W.setCell ⟨bx, i, none⟩ v) P A ts cc s :=
 h.gr (a_d (g_ W (some bx)) i v) (fun j e => by injection e with e; omega)
end
theorem q_m {W w1 : World} {P r cc : Nat} {A : Option Addr} {ts : List Tok} {s : QSt} (hq : QPt QT w1 P A ts cc s) (hW : W.grownBy w1 (some P)) (hr : W.heap.size ≤ r) (hP : P < W.heap.size) (v0 v1 v2 v3 v4 : Value) :
  QPost QT W P A ts cc s (((((w1.setCell ⟨r, 0, none⟩ v0).setCell ⟨r, 1, none⟩ v1).setCell ⟨r, 2, none⟩ v2).setCell ⟨r, 3, none⟩ v3).setCell ⟨r, 4, none⟩ v4) := by
 refine v_t ?_; intro g
 exact w_w
theorem q_T (ts : List Tok) (s : QSt) : inT ts s = if a_e ts s = true then (if isT ts (a_7 ts s).2 5 b_t = true then ((a_7 ts s).1, (l_X ts ⟨(a_7 ts s).2.i + 1, 0⟩).1, (l_X ts ⟨(a_7 ts s).2.i + 1, 0⟩).2) else ((a_7 ts s).1, 0, (a_7 ts s).2)) else ([], 0, s) := by
 unfold inT h_P
 split
 ·split <;> rfl
 ·rfl
set_option maxRecDepth 100000
theorem q_A (L : List (a_3 × Int)) (Bm nm : Nat) (W : World) (P : Nat) (A : Option Addr) (ts : List Tok) (cc : Nat) (s : QSt) (hv : a_O ts = true) (hS : QPt QT W P A ts cc s) (hi : s.i < ts.length) (hl : ts.length ≤ 1000000) (hM : W.ownsMap prog 9 (plainElem prog 3) Bm nm (f_s f_q L)) (hmp : Bm ≠ P) :
  Calls prog 241 #[a_G P, .map (some Bm)] W fun e w' => e = .returned (itV (b_5 ts (d_2 L) s).1 none 0) ∧ QPost QT W P A ts cc (b_5 ts (d_2 L) s).2 w' := by
 have hP := hS.lt
 have hBm := hM.lt
 have hM1 := fun o => hM.alloc o
 have g1 := (a_V hv s).trans (a_H hv (a_7 ts s).2 (k := 5) d_ wEq)
 have hi2 := g1.lt hi
 refine t_N ?_; intro HN
 have HSy := a_0 (fun (W' : World) (h : QPt QT W' P A ts cc (a_7 ts s).2) => e_2 W' P A ts cc _ h ((a_V hv s).lt hi) hl wEq)
 have HX : b_5 ts (d_2 L) s = if a_e ts (a_c ts (a_7 ts s).2 5 wEq) = true ∧ d_2 L (tk ts (a_c ts (a_7 ts s).2 5 wEq).i).text ≠ 0 then
   (⟨(a_7 ts s).1, d_2 L (tk ts (a_c ts (a_7 ts s).2 5 wEq).i).text, (inT ts (a_c ts ⟨(a_c ts (a_7 ts s).2 5 wEq).i + 1, 0⟩ 5 f_0)).1, (inT ts (a_c ts ⟨(a_c ts (a_7 ts s).2 5 wEq).i + 1, 0⟩ 5 f_0)).2.1, []⟩, a_c ts (inT ts (a_c ts ⟨(a_c ts (a_7 ts s).2 5 wEq).i + 1, 0⟩ 5 f_0)).2.2 5 c_Z)
   else (⟨(a_7 ts s).1, 0, [], 0, []⟩, (a_c ts (a_7 ts s).2 5 wEq).fail 3) := rfl
 generalize a_7 ts s = r1 at *
 obtain ⟨x, s1⟩ := r1
 simp only at HN HSy HX hi2 g1
 generalize a_c ts s1 5 wEq = s2 at *
 have HNm := a_0 (fun (W' : World) (h : QPt QT W' P A ts cc s2) => e_r W' P A ts cc s2 h hi2 hl)
 have hti := d_d hv hi2
 have htx : (tk ts s2.i).text.length ≤ maxLen := by unfold maxLen; omega
 have HNx := a_0 (fun (W' : World) (h : QPt QT W' P A ts cc s2) => show Calls prog 113 #[.pointer (some ⟨P, 0, none⟩)] W' (fun e' w' => e' = .returned (.agg #[.int .i64 (tk ts s2.i).kind, str (tk ts s2.i).text, .int .i64 (tk ts s2.i).num, .int .i64 (tk ts s2.i).off]) ∧ Below W'.heap.size W' w') from k_n W' P A ts cc s2 h hi2 hl)
 have HN2 := a_0 (fun (hn : a_e ts s2 = true) (W' : World) (h : QPt QT W' P A ts cc s2) => show Calls prog 110 #[.pointer (some ⟨P, 0, none⟩)] W' (fun e' w' => e' = .returned (str (tk ts s2.i).text) ∧ QPost QT W' P A ts cc ⟨s2.i + 1, 0⟩ w') from by
  have := g_F W' P A ts cc s2 h hi2 hl
  rw [show a_7 ts s2 = ((tk ts s2.i).text, ⟨s2.i + 1, 0⟩) from by unfold a_7; rw [if_pos hn]] at this
  exact this)
 have HSy2 := a_0 (fun (hn : a_e ts s2 = true) (W' : World) (h : QPt QT W' P A ts cc ⟨s2.i + 1, 0⟩) => e_2 W' P A ts cc _ h (b_r hv hi2 hn) hl f_0)
 have hi4 := fun (hn : a_e ts s2 = true) => (a_H hv ⟨s2.i + 1, 0⟩ (k := 5) d_ f_0).lt (b_r hv hi2 hn)
 have HLk := a_0 (fun (W' : World) (h : W'.ownsMap prog 9 (plainElem prog 3) Bm nm (f_s f_q L)) => o_H h (tk ts s2.i).text htx)
 clear htx hti
 generalize (tk ts s2.i).text = y at *
 generalize d_2 L y = k at *
 generalize hvv : a_e ts s2 = v at *
 clear hvv
 have f1 := n_s
 have HS := a_0 hS
 have HM := a_0 hM
 have HIn := q_T ts (a_c ts ⟨s2.i + 1, 0⟩ 5 f_0)
 generalize a_c ts ⟨s2.i + 1, 0⟩ 5 f_0 = s4 at *
 have HNm4 := a_0 (fun (hn : v = true) (W' : World) (h : QPt QT W' P A ts cc s4) => e_r W' P A ts cc s4 h (hi4 hn) hl)
 have HN4 := a_0 (fun (hn : v = true) (W' : World) (h : QPt QT W' P A ts cc s4) => g_F W' P A ts cc s4 h (hi4 hn) hl)
 have hi5 := fun (hn : v = true) => (a_V hv s4).lt (hi4 hn)
 generalize a_7 ts s4 = r5 at *
 obtain ⟨z, s5⟩ := r5
 simp only at HN4 HIn hi5
 have HSk5 := a_0 (fun (hn : v = true) (W' : World) (h : QPt QT W' P A ts cc s5) => h_Z W' P A ts cc s5 h (hi5 hn) hl 5 b_t)
 have HIn6 := a_0 (fun (hn : v = true) (hc : isT ts s5 5 b_t = true) (W' : World) (h : QPt QT W' P A ts cc ⟨s5.i + 1, 0⟩) => o_O W' P A ts cc _ h (b_e hv (hi5 hn) d_ hc) hl)
 have hi7 := fun (hn : v = true) (hc : isT ts s5 5 b_t = true) => (o_M hv ⟨s5.i + 1, 0⟩).lt (b_e hv (hi5 hn) d_ hc)
 generalize l_X ts ⟨s5.i + 1, 0⟩ = r7 at *
 obtain ⟨m, s7⟩ := r7
 simp only at HIn6 HIn hi7
 have HSy7 := a_0 (fun (t : QSt) (hn : v = true) (ht : t.i < ts.length) (W' : World) (h : QPt QT W' P A ts cc t) => e_2 W' P A ts cc t h ht hl c_Z)
 generalize hv4 : a_e ts s4 = v4 at *
 generalize hv5 : isT ts s5 5 b_t = v5 at *
 clear hv4 hv5
 have HIX := a_0 HIn
 have HXX := a_0 HX
 have HI4 := a_0 hi4
 have HI5 := a_0 hi5
 have HI7 := a_0 hi7
 refine w_o ?_; intro hW1 HRR
 clear HIn HX hi4 hi5 hi7 g1 hS hM hM1 hi hi2
 go_enter func241, ntmps241
 go_wp2_with fail
 refine (HN.out _ zX).mono ?_
 rintro e w1 ⟨rfl, hq1⟩
 have z1 := hq1.gr.size
 simp at z1
 have rr1 : w1.heap[W.heap.size]? = _ := a_r hq1.gr HRR.out o_
 have HG1 := a_0 (hW1.trans hq1.gr)
 have HR1 := a_0 rr1
 have hp1 := hq1.pt.lt
 have hb1 : w1.heap.size > P := hp1
 have HI1 := a_0 (show ItB w1 P w1.heap.size Bm nm L (w1.alloc (.cells #[str x, .int .i64 0, str [], .int .i64 0, .slice none 0 0] 61)) ⟨x, 0, [], 0, []⟩ from
  ⟨World.grownBy_alloc _ _ _, hp1, l_ _, o_, hmp, heap_alloc_new w1 _, ((HM.out.alloc _).kept hq1.gr (by intro e; injection e with e; exact hmp e)).alloc _⟩)
 have HQ1 := a_0 hq1.pt
 clear hq1 rr1 HN HM HRR hW1
 go_wp2_with fail
 refine (HSy.out _ (HQ1.out.below zX)).mono ?_
 rintro e w2 ⟨rfl, hq2⟩
 have HI2 := a_0 (HI1.out.step hq2.gr)
 have HQ2 := a_0 hq2.pt
 clear hq2 HI1 HQ1 HSy
 go_wp2_with fail
 refine (HNm.out _ HQ2.out).mono ?_
 rintro e w3 ⟨rfl, hb3⟩
 have HI3 := a_0 (HI2.out.step (a_1 hb3))
 have HQ3 := a_0 (HQ2.out.below hb3)
 clear hb3 HI2 HQ2 HNm
 have hbx : P < w1.heap.size := hp1
 cases v with
 | false =>
  go_wp2_with fail
  refine (g_C w3 P A ts cc s2 HQ3.out 3).mono ?_
  rintro e w4 ⟨rfl, hq4⟩
  clear HN2 HSy2 HNm4 HN4 HSk5 HIn6 HSy7 HNx HLk HI4 HI5 HI7 HIX
  have hib := HI3.out.step hq4.gr
  have hq := hq4.pt
  refine p_R ?_; intro hR b0 b1 b2 b3 b4 r0 r1 r2 r3 r4 fr
  simp at b0 b1 b2 b3 b4 r0 r1 r2 r3 r4
  refine t_h ?_; intro hlR hlB HF
  have HEQ := a_0 (show b_5 ts (d_2 L) s = (⟨x, 0, [], 0, []⟩, s2.fail 3) from HXX.out.trans (if_neg s_))
  clear hib hq hR
  go_wp2
  refine u_8 ?_; intro hp
  exact w_7
 | true =>
  go_wp2_with fail
  refine (HNx.out w3 HQ3.out).mono ?_
  rintro e w4 ⟨rfl, hb4⟩
  have HI4b := a_0 (HI3.out.step (a_1 hb4))
  have HQ4 := a_0 (HQ3.out.below hb4)
  have lk := HLk.out w4 HI4b.out.map
  clear hb4 HI3 HQ3 HNx
  by_cases hk : k = 0
  ·subst hk
   go_wp2_with fail
   refine (g_C w4 P A ts cc s2 HQ4.out 3).mono ?_; rintro e w5 ⟨rfl, hq5⟩; clear HN2 HSy2 HNm4 HN4 HSk5 HIn6 HSy7 HLk HI4 HI5 HI7 HIX lk; have hib := HI4b.out.step hq5.gr; have hq := hq5.pt; refine p_R ?_; intro hR b0 b1 b2 b3 b4 r0 r1 r2 r3 r4 fr
   simp at b0 b1 b2 b3 b4 r0 r1 r2 r3 r4
   refine t_h ?_; intro hlR hlB HF; have HEQ := a_0 (show b_5 ts (d_2 L) s = (⟨x, 0, [], 0, []⟩, s2.fail 3) from HXX.out.trans (if_neg s_)); clear hib hq hR
   go_wp2
   refine u_8 ?_; intro hp; exact w_7
  ·have hkb : (k == 0) = false := beq_eq_false_iff_ne.2 hk
   have HXK := a_0 (HXX.out.trans (if_pos ⟨s_, hk⟩)); clear HXX hk
   go_wp2_with fail
   refine (HN2.out s_ w4 HQ4.out).mono ?_; rintro e w5 ⟨rfl, hq5⟩; have HI5b := a_0 (HI4b.out.step hq5.gr); have HQ5 := a_0 hq5.pt; clear lk hkb hq5 HI4b HQ4 HN2; have lk := HLk.out w5 HI5b.out.map; obtain ⟨a0, a1, a2, a3, a4⟩ := HI5b.out.cells; have af := b_1 HI5b.out.box; have HI5c := a_0 (HI5b.out.set 1 (.int .i64 k) ⟨x, k, [], 0, []⟩ s_); have HQ5c := a_0 (HQ5.out.box hbx 1 (.int .i64 k)); clear HI5b HQ5 HLk
   go_wp2_with fail
   refine (HSy2.out s_ _ HQ5c.out).mono ?_; rintro e w6 ⟨rfl, hq6⟩; have HI6b := a_0 (HI5c.out.step hq6.gr); have HQ6 := a_0 hq6.pt; clear hq6 HI5c HQ5c HSy2 a0 a1 a2 a3 a4 af lk
   go_wp2_with fail
   refine (HNm4.out s_ w6 HQ6.out).mono ?_; rintro e w7 ⟨rfl, hb7⟩; have HI7b := a_0 (HI6b.out.step (a_1 hb7)); have HQ7 := a_0 (HQ6.out.below hb7); clear hb7 HI6b HQ6 HNm4
   cases v4 with
   | false =>
    have HXX := a_0 (show b_5 ts (d_2 L) s = (⟨x, k, [], 0, []⟩, a_c ts s4 5 c_Z) from by have := HXK.out; rw [show inT ts s4 = ([], 0, s4) from HIX.out] at this; exact this); have hi9 := HI4.out s_; clear HXK
    go_wp2_with fail
    refine (HSy7.out s4 s_ hi9 w7 HQ7.out).mono ?_; rintro e w9 ⟨rfl, hq9⟩; clear HN4 HSk5 HIn6 HSy7 HI4 HI5 HI7 HIX; have hib := HI7b.out.step hq9.gr; have hq := hq9.pt; refine p_R ?_; intro hR b0 b1 b2 b3 b4 r0 r1 r2 r3 r4 fr
    simp at b0 b1 b2 b3 b4 r0 r1 r2 r3 r4
    refine t_h ?_; intro hlR hlB HF; have HEQ := a_0 (show b_5 ts (d_2 L) s = (⟨x, k, [], 0, []⟩, a_c ts s4 5 c_Z) from HXX.out.trans (rfl)); clear hib hq hR
    go_wp2
    have hp := HF.out (str x) (.int .i64 k) (str ([] : a_3)) (.int .i64 0) (.slice none 0 0); refine bodyPost_ret (v := .agg #[str x, .int .i64 k, str ([] : a_3), .int .i64 0, .slice none 0 0]) (by simp [results, results241, go_sem, r0, r1, r2, r3, r4]) rfl ?_; exact _ar
   | true =>
    go_wp2_with fail
    refine (HN4.out s_ w7 HQ7.out).mono ?_; rintro e w8 ⟨rfl, hq8⟩; have HI8b := a_0 (HI7b.out.step hq8.gr); have HQ8 := a_0 hq8.pt; clear hq8 HI7b HQ7 HN4; obtain ⟨a0, a1, a2, a3, a4⟩ := HI8b.out.cells; have af := b_1 HI8b.out.box; have HI8c := a_0 (HI8b.out.set 2 (str z) ⟨x, k, z, 0, []⟩ s_); have HQ8c := a_0 (HQ8.out.box hbx 2 (str z)); clear HI8b HQ8
    go_wp2_with fail
    refine (HSk5.out s_ _ HQ8c.out).mono ?_; rintro e w10 ⟨rfl, hq10⟩; have HI10 := a_0 (HI8c.out.step hq10.gr); have HQ10 := a_0 hq10.pt; clear hq10 HI8c HQ8c HSk5 a0 a1 a2 a3 a4 af
    cases v5 with
    | false =>
     have HXX := a_0 (show b_5 ts (d_2 L) s = (⟨x, k, z, 0, []⟩, a_c ts s5 5 c_Z) from by have := HXK.out; rw [show inT ts s4 = (z, 0, s5) from HIX.out] at this; exact this); have hi9 := HI5.out s_; have HQ11 := a_0 (show QPt QT w10 P A ts cc s5 from HQ10.out); clear HXK
     go_wp2_with fail
     refine (HSy7.out s5 s_ hi9 w10 HQ11.out).mono ?_; rintro e w9 ⟨rfl, hq9⟩; clear HIn6 HSy7 HI4 HI5 HI7 HIX HQ10; have hib := HI10.out.step hq9.gr; have hq := hq9.pt; refine p_R ?_; intro hR b0 b1 b2 b3 b4 r0 r1 r2 r3 r4 fr
     simp at b0 b1 b2 b3 b4 r0 r1 r2 r3 r4
     refine t_h ?_; intro hlR hlB HF; have HEQ := a_0 (show b_5 ts (d_2 L) s = (⟨x, k, z, 0, []⟩, a_c ts s5 5 c_Z) from HXX.out.trans (rfl)); clear hib hq hR
     go_wp2
     have hp := HF.out (str x) (.int .i64 k) (str (z : a_3)) (.int .i64 0) (.slice none 0 0); refine bodyPost_ret (v := .agg #[str x, .int .i64 k, str (z : a_3), .int .i64 0, .slice none 0 0]) (by simp [results, results241, go_sem, r0, r1, r2, r3, r4]) rfl ?_; exact _ar
    | true =>
     have HXX := a_0 (show b_5 ts (d_2 L) s = (⟨x, k, z, m, []⟩, a_c ts s7 5 c_Z) from by have := HXK.out; rw [show inT ts s4 = (z, m, s7) from HIX.out] at this; exact this); have hi9 := HI7.out s_ s_; have HQ11 := a_0 (show QPt QT w10 P A ts cc ⟨s5.i + 1, 0⟩ from HQ10.out); clear HXK
     go_wp2_with fail
     refine (HIn6.out s_ s_ w10 HQ11.out).mono ?_; rintro e w11 ⟨rfl, hq11⟩; have HI11 := a_0 (HI10.out.step hq11.gr); have HQ12 := a_0 hq11.pt; clear hq11 HI10 HQ10 HQ11 HIn6; obtain ⟨a0, a1, a2, a3, a4⟩ := HI11.out.cells; have af := b_1 HI11.out.box; have HI11c := a_0 (HI11.out.set 3 (.int .i64 m) ⟨x, k, z, m, []⟩ s_); have HQ12c := a_0 (HQ12.out.box hbx 3 (.int .i64 m)); clear HI11 HQ12
     go_wp2_with fail
     refine (HSy7.out s7 s_ hi9 _ HQ12c.out).mono ?_; rintro e w9 ⟨rfl, hq9⟩; clear HSy7 HI4 HI5 HI7 HIX HQ12c a0 a1 a2 a3 a4 af; have hib := HI11c.out.step hq9.gr; have hq := hq9.pt; refine p_R ?_; intro hR b0 b1 b2 b3 b4 r0 r1 r2 r3 r4 fr
     simp at b0 b1 b2 b3 b4 r0 r1 r2 r3 r4
     refine t_h ?_; intro hlR hlB HF; have HEQ := a_0 (show b_5 ts (d_2 L) s = (⟨x, k, z, m, []⟩, a_c ts s7 5 c_Z) from HXX.out.trans (rfl)); clear hib hq hR
     go_wp2
     have hp := HF.out (str x) (.int .i64 k) (str (z : a_3)) (.int .i64 m) (.slice none 0 0); refine bodyPost_ret (v := .agg #[str x, .int .i64 k, str (z : a_3), .int .i64 m, .slice none 0 0]) (by simp [results, results241, go_sem, r0, r1, r2, r3, r4]) rfl ?_; exact _ar
set_option maxRecDepth 100000
theorem p_H (W0 W1 W : World) (P Bp Bs : Nat) (op : Int) (src : a_3) (names others : List a_3) (nA : Option Addr) (nC : Nat) (oA : Option Addr) (oC : Nat) (A : Option Addr) (ts : List Tok) (cc : Nat) (c : List It) (s : QSt) (hv : a_O ts = true) (hS : QPt QT W P A ts cc s) (hC : ∃ I n es, BxC W0 P Bp Bs op src names others nA nC oA oC W1 W c I n es) (hi : s.i < ts.length) (hl : ts.length ≤ 1000000) (hc : c.length ≤ 2000000) :
  Calls prog 240 #[a_G Bs, a_G Bp] W fun e w' => e = .returned (.tuple #[]) ∧ QPt QT w' P A ts cc (b_n ts c_6 c s).2 ∧ ∃ I n es, BxC W0 P Bp Bs op src names others nA nC oA oC W1 w' (b_n ts c_6 c s).1 I n es := by
 obtain ⟨i0, hi0, hz0, hz1, hz2⟩ := info_parts Tryz.info_it
 obtain ⟨I, n, es, hC⟩ := hC
 have h1 := hC.pb.lt
 have h2 := hC.pb.le
 have h3 := hC.ne
 have hlb := a_6 hC.box
 have hlp := a_6 hC.pb.box
 have hP := hS.lt
 refine t_L ?_; intro HC HS hb0
 have hb4 := a_2 hC.box 4
 simp at hb0 hb4
 have hlo := a_0 (fun j e => (hC.own.lt j e).1)
 have HIt := a_0 (fun (W' : World) (Bm nm : Nat) (hS' : QPt QT W' P A ts cc s) (hM : W'.ownsMap prog 9 (plainElem prog 3) Bm nm (f_s f_q d_y)) (hmp : Bm ≠ P) => q_A d_y Bm nm W' P A ts cc s hv hS' hi hl hM hmp)
 have HX := a_0 (show b_n ts c_6 c s = (c ++ [(b_5 ts (d_2 d_y) s).1], (b_5 ts (d_2 d_y) s).2) from rfl)
 have HEx : (b_5 ts (d_2 d_y) s).1.expr = [] := by unfold b_5; simp only; split <;> rfl
 rw [HX.out]
 clear hS hC HX
 generalize b_5 ts (d_2 d_y) s = r at *
 obtain ⟨⟨x0, x1, x2, x3, x4⟩, s'⟩ := r
 simp only at HEx HIt ⊢
 subst HEx
 have hne : Bs ≠ Bp := by omega
 go_enter func240, ntmps240
 (go_region_law (first
  | (go_simp; go_at_call 134; refine (i_v _).mono ?_; rintro e wm ⟨⟨Bm, nm, rfl, hBm, hm⟩, hbm⟩; have hbw : Below W.heap.size W wm := a_n hbm zX; have zm := hbw.size; have lm1 : Bs < wm.heap.size := Nat.lt_of_lt_of_le hlb zm; have lm2 : Bp < wm.heap.size := Nat.lt_of_lt_of_le hlp zm; have HMm := a_0 hm; have hmp : Bm ≠ P := (by simp at hBm; omega); have HCm := a_0 (HC.out.step HS.out (a_1 hbw)); have HSm := a_0 (HS.out.below hbw); have m0 := a_2 HCm.out.pb.box 0; have m4 := a_2 HCm.out.box 4; simp at m0 m4; clear hm hbm)
  | (go_simp; go_at_call 241; refine (HIt.out _ _ _ HSm.out HMm.out hmp).mono ?_; rintro e w1 ⟨rfl, hq1⟩; have HQ1 := a_0 hq1.pt; have HG1 := a_0 hq1.gr; have z1 := hq1.gr.size; have l1 : Bs < w1.heap.size := Nat.lt_of_lt_of_le lm1 z1; have l2 : Bp < w1.heap.size := Nat.lt_of_lt_of_le lm2 z1; have HC1 := a_0 (HCm.out.step HSm.out hq1.gr); have e2 := a_2 HC1.out.pb.box 0; have e4 := a_2 HC1.out.box 4; simp at e2 e4; clear hq1)
  | (refine c_C r_ _ _ _ r_ (Bs + 1) 61 i0 _ 5 72 underlying24 hi0 hz0 hz1 hz2 rfl o_ _ _ _ r_ (a_8 HC1.out.own zX) ⟨_, 0, none⟩ 1 1 [str x0, .int .i64 x1, str x2, .int .i64 x3, .slice none 0 0] r_ rfl (by exact f_k (b_d s_)) c_ x_ o_ m_ ?_; intro v4 w4 o4 g4; obtain ⟨B4, n4, rfl⟩ := a_i o4; have hba : Below w1.heap.size w1 _ := Below.alloc (b_ _ w1) (l_ _) (.cells #[str x0, .int .i64 x1, str x2, .int .i64 x3, .slice none 0 0] 61); have b4 := c_F HC1.out.box (a_1 (r := some P) hba) o_ g4 (fun j e => Nat.lt_of_succ_le (hlo.out j e)); have p4 := c_F HC1.out.pb.box (a_1 (r := some P) hba) o_ g4 (fun j e => Nat.lt_trans h3 (Nat.lt_of_succ_le (hlo.out j e))); have d0 := a_2 b4 4; have d1 := b_1 b4 4; have d2 := a_2 p4 0; simp at d0 d2; have l4 := a_6 b4; have HF := a_0 (BxC.done (x := ⟨x0, x1, x2, x3, []⟩) (E := none) (ec := 0) HC1.out HQ1.out (HQ1.out.below hba) (a_1 hba) (fun _ _ => .inl rfl) g4 o4); clear o4 g4 b4 p4 hba)))
 all_goals
  go_wp2
  go_end0
  exact _au
theorem n_l (W0 W1 W : World) (P Bp Bs : Nat) (op : Int) (src : a_3) (names others : List a_3) (nA : Option Addr) (nC : Nat) (oA : Option Addr) (oC : Nat) (A : Option Addr) (ts : List Tok) (cc : Nat) (c : List It) (s : QSt) (hv : a_O ts = true) (hS : QPt QT W P A ts cc s) (hC : ∃ I n es, BxC W0 P Bp Bs op src names others nA nC oA oC W1 W c I n es) (hi : s.i < ts.length) (hl : ts.length ≤ 1000000) (hc : c.length ≤ 2000000) :
  Calls prog 242 #[a_G Bs, a_G Bp] W fun e w' => e = .returned (.tuple #[]) ∧ QPt QT w' P A ts cc (b_n ts b_g c s).2 ∧ ∃ I n es, BxC W0 P Bp Bs op src names others nA nC oA oC W1 w' (b_n ts b_g c s).1 I n es := by
 obtain ⟨i0, hi0, hz0, hz1, hz2⟩ := info_parts Tryz.info_it
 obtain ⟨I, n, es, hC⟩ := hC
 have h1 := hC.pb.lt
 have h2 := hC.pb.le
 have h3 := hC.ne
 have hlb := a_6 hC.box
 have hlp := a_6 hC.pb.box
 have hP := hS.lt
 refine t_L ?_; intro HC HS hb0
 have hb4 := a_2 hC.box 4
 simp at hb0 hb4
 have hlo := a_0 (fun j e => (hC.own.lt j e).1)
 have HIt := a_0 (fun (W' : World) (Bm nm : Nat) (hS' : QPt QT W' P A ts cc s) (hM : W'.ownsMap prog 9 (plainElem prog 3) Bm nm (f_s f_q c_g)) (hmp : Bm ≠ P) => q_A c_g Bm nm W' P A ts cc s hv hS' hi hl hM hmp)
 have HX := a_0 (show b_n ts b_g c s = (c ++ [(b_5 ts (d_2 c_g) s).1], (b_5 ts (d_2 c_g) s).2) from rfl)
 have HEx : (b_5 ts (d_2 c_g) s).1.expr = [] := by unfold b_5; simp only; split <;> rfl
 rw [HX.out]
 clear hS hC HX
 generalize b_5 ts (d_2 c_g) s = r at *
 obtain ⟨⟨x0, x1, x2, x3, x4⟩, s'⟩ := r
 simp only at HEx HIt ⊢
 subst HEx
 have hne : Bs ≠ Bp := by omega
 go_enter func242, ntmps242
 (go_region_law (first
  | (go_simp; go_at_call 135; refine (e_K _).mono ?_; rintro e wm ⟨⟨Bm, nm, rfl, hBm, hm⟩, hbm⟩; have hbw : Below W.heap.size W wm := a_n hbm zX; have zm := hbw.size; have lm1 : Bs < wm.heap.size := Nat.lt_of_lt_of_le hlb zm; have lm2 : Bp < wm.heap.size := Nat.lt_of_lt_of_le hlp zm; have HMm := a_0 hm; have hmp : Bm ≠ P := (by simp at hBm; omega); have HCm := a_0 (HC.out.step HS.out (a_1 hbw)); have HSm := a_0 (HS.out.below hbw); have m0 := a_2 HCm.out.pb.box 0; have m4 := a_2 HCm.out.box 4; simp at m0 m4; clear hm hbm)
  | (go_simp; go_at_call 241; refine (HIt.out _ _ _ HSm.out HMm.out hmp).mono ?_; rintro e w1 ⟨rfl, hq1⟩; have HQ1 := a_0 hq1.pt; have HG1 := a_0 hq1.gr; have z1 := hq1.gr.size; have l1 : Bs < w1.heap.size := Nat.lt_of_lt_of_le lm1 z1; have l2 : Bp < w1.heap.size := Nat.lt_of_lt_of_le lm2 z1; have HC1 := a_0 (HCm.out.step HSm.out hq1.gr); have e2 := a_2 HC1.out.pb.box 0; have e4 := a_2 HC1.out.box 4; simp at e2 e4; clear hq1)
  | (refine c_C r_ _ _ _ r_ (Bs + 1) 61 i0 _ 5 72 underlying24 hi0 hz0 hz1 hz2 rfl o_ _ _ _ r_ (a_8 HC1.out.own zX) ⟨_, 0, none⟩ 1 1 [str x0, .int .i64 x1, str x2, .int .i64 x3, .slice none 0 0] r_ rfl (by exact f_k (b_d s_)) c_ x_ o_ m_ ?_; intro v4 w4 o4 g4; obtain ⟨B4, n4, rfl⟩ := a_i o4; have hba : Below w1.heap.size w1 _ := Below.alloc (b_ _ w1) (l_ _) (.cells #[str x0, .int .i64 x1, str x2, .int .i64 x3, .slice none 0 0] 61); have b4 := c_F HC1.out.box (a_1 (r := some P) hba) o_ g4 (fun j e => Nat.lt_of_succ_le (hlo.out j e)); have p4 := c_F HC1.out.pb.box (a_1 (r := some P) hba) o_ g4 (fun j e => Nat.lt_trans h3 (Nat.lt_of_succ_le (hlo.out j e))); have d0 := a_2 b4 4; have d1 := b_1 b4 4; have d2 := a_2 p4 0; simp at d0 d2; have l4 := a_6 b4; have HF := a_0 (BxC.done (x := ⟨x0, x1, x2, x3, []⟩) (E := none) (ec := 0) HC1.out HQ1.out (HQ1.out.below hba) (a_1 hba) (fun _ _ => .inl rfl) g4 o4); clear o4 g4 b4 p4 hba)))
 all_goals
  go_wp2
  go_end0
  exact _au
set_option maxRecDepth 512
theorem b_s {w : World} {b : Nat} {a0 a1 a2 a3 a4 a5 : Value} {t : TypeId} (h : w.heap[b]? = some (.cells #[a0, a1, a2, a3, a4, a5] t (0, 0))) :
  w.cell? ⟨b, 0, none⟩ = some a0 ∧ w.cell? ⟨b, 1, none⟩ = some a1 ∧ w.cell? ⟨b, 2, none⟩ = some a2 ∧ w.cell? ⟨b, 3, none⟩ = some a3 ∧ w.cell? ⟨b, 4, none⟩ = some a4 ∧ w.cell? ⟨b, 5, none⟩ = some a5 ∧ (∀ o, w.frozen? ⟨b, o, none⟩ = false) ∧ b < w.heap.size :=
 ⟨a_2 h 0, a_2 h 1, a_2 h 2, a_2 h 3, a_2 h 4, a_2 h 5, b_1 h, a_6 h⟩
section
variable {W0 W1 W W' : World} {P Bp Bs n nC cc : Nat} {op : Int} {src : a_3} {names others : List a_3} {A nA oA : Option Addr} {oC : Nat} {ts : List Tok} {s : QSt}
theorem BxC.rebase {c : List It} {I : Option Addr} {m : Nat} {es : List (Option Addr × Nat)} (h : BxC W0 P Bp Bs op src names others nA nC oA oC W1 W c I m es) : BxC W0 P Bp Bs op src names others nA nC oA oC W W c I m es := { h with kt := a_I.refl _ _ }
theorem BxC.reback {c : List It} {I : Option Addr} {m : Nat} {es : List (Option Addr × Nat)} (h : BxC W0 P Bp Bs op src names others nA nC oA oC W W' c I m es) (k : a_I tSQ W1 W) : BxC W0 P Bp Bs op src names others nA nC oA oC W1 W' c I m es := { h with kt := k.trans h.kt }
theorem BxC.setNames (h : BxC W0 P Bp Bs op src [] others none 0 oA oC W1 W [] none 0 []) (hS : QPt QT W P A ts cc s) (hf : b_b tSQ (fun v => b_l v nA names) W) : 
  QPt QT (W.setCell ⟨Bs, 2, none⟩ (.slice nA names.length nC)) P A ts cc s ∧ BxC W0 P Bp Bs op src names others nA nC oA oC W1 (W.setCell ⟨Bs, 2, none⟩ (.slice nA names.length nC)) [] none 0 [] ∧ b_b tSQ (fun v => b_l v nA names) (W.setCell ⟨Bs, 2, none⟩ (.slice nA names.length nC)) := by
 refine p_T ?_; intro h1 h2 h3
 have h4 := h.w0
 have g5 : W.grownBy (W.setCell ⟨Bs, 2, none⟩ (.slice nA names.length nC)) (some Bs) := a_d (g_ _ _) _ _
 have k5 : a_I tSQ W (W.setCell ⟨Bs, 2, none⟩ (.slice nA names.length nC)) := a_I.of_grown g5 fun k e => by injection e with e; subst e; exact ⟨_, _, _, h.box, d_⟩
 refine ⟨hS.gr g5 (fun j e => by injection e with e; omega), ⟨⟨h.pb.gr.andThen g5 (fun j e => .inl j_), h1, h2, (g5.block Bp (a_6 h.pb.box) (fun e => by injection e with e; omega)).trans h.pb.box⟩, h4, h3, h.kt.trans k5, ?_, a_o _ _ _ _, rfl, fun v _ i h => absurd h s_⟩, hf.keep k5⟩
 have := heap_setCell_same W Bs 2 _ _ (.slice nA names.length nC) h.box
 simpa using this
theorem BxC.setOthers (h : BxC W0 P Bp Bs op src names [] nA nC none 0 W1 W [] none 0 []) (hS : QPt QT W P A ts cc s) (hf : b_b tSQ (fun v => b_l v oA others) W) : 
  QPt QT (W.setCell ⟨Bs, 3, none⟩ (.slice oA others.length oC)) P A ts cc s ∧ BxC W0 P Bp Bs op src names others nA nC oA oC W1 (W.setCell ⟨Bs, 3, none⟩ (.slice oA others.length oC)) [] none 0 [] ∧ b_b tSQ (fun v => b_l v oA others) (W.setCell ⟨Bs, 3, none⟩ (.slice oA others.length oC)) := by
 refine p_T ?_; intro h1 h2 h3
 have h4 := h.w0
 have g5 : W.grownBy (W.setCell ⟨Bs, 3, none⟩ (.slice oA others.length oC)) (some Bs) := a_d (g_ _ _) _ _
 have k5 : a_I tSQ W (W.setCell ⟨Bs, 3, none⟩ (.slice oA others.length oC)) := a_I.of_grown g5 fun k e => by injection e with e; subst e; exact ⟨_, _, _, h.box, d_⟩
 refine ⟨hS.gr g5 (fun j e => by injection e with e; omega), ⟨⟨h.pb.gr.andThen g5 (fun j e => .inl j_), h1, h2, (g5.block Bp (a_6 h.pb.box) (fun e => by injection e with e; omega)).trans h.pb.box⟩, h4, h3, h.kt.trans k5, ?_, a_o _ _ _ _, rfl, fun v _ i h => absurd h s_⟩, hf.keep k5⟩
 have := heap_setCell_same W Bs 3 _ _ (.slice oA others.length oC) h.box
 simpa using this
end
set_option maxRecDepth 100000
theorem r_N (W : World) (P : Nat) (A : Option Addr) (ts : List Tok) (cc : Nat) (s : QSt) (hv : a_O ts = true) (hS : QPt QT W P A ts cc s) (hi : s.i < ts.length) (hl : ts.length ≤ 1000000) :
  Calls prog 185 #[a_G P] W fun e w' => k_P w' (e_z false ts s).1 e ∧ QPost QT W P A ts cc (e_z false ts s).2 w' := by
 have hP := hS.lt
 refine p_0 ?_; intro hmf
 obtain ⟨W2, hW2⟩ : ∃ W2, W2 = ((W.alloc (.cells #[a_G P] 88)).alloc (.cells #[.int .i64 0, str [], .slice none 0 0, .slice none 0 0, .slice none 0 0, .slice none 0 0] 27)) := ⟨_, rfl⟩
 obtain ⟨W3, hW3⟩ : ∃ W3, W3 = W2.alloc (.cells #[.int .i64 11, str [], .slice none 0 0, .slice none 0 0, .slice none 0 0, .slice none 0 0] 27) := ⟨_, rfl⟩
 have HE := a_0 (fun (names : List a_3) (nA : Option Addr) (nC : Nat) (Wx w1 : World) (b : QSt) (hb : b.i < ts.length) (h1 : BxC W2 P W.heap.size (W.heap.size + 2) 11 [] names [] nA nC none 0 Wx w1 [] none 0 []) (h2 : QPt QT w1 P A ts cc b) => i_W 240 #[a_G (W.heap.size + 2), a_G W.heap.size] P A ts cc hv hl (fun w c => ∃ I n es, BxC W2 P W.heap.size (W.heap.size + 2) 11 [] names [] nA nC none 0 Wx w c I n es) (b_n ts c_6) (e_W hv c_6) List.length (fun x s => by simp [b_n]) 2000000
  (fun args W => by kernel_rfl) (fun W W' x s h1 h2 g => by obtain ⟨I, n, es, h⟩ := h2; exact ⟨I, n, es, h.step h1 g⟩) (fun W x s h1 h2 h3 h4 h5 => p_H _ _ W P _ _ _ _ _ _ _ _ _ _ A ts cc x s hv h1 h2 h4 hl h5) w1 [] b h2 ⟨_, _, _, h1⟩ hb m_)
 have HI := a_0 (show BxC W2 P W.heap.size (W.heap.size + 2) 11 [] [] [] none 0 none 0 W3 W3 [] none 0 [] from
  ⟨⟨hW3 ▸ World.grownBy_alloc _ _ _, by rw [hW2]; simp; omega, hP, by rw [hW3, hW2]; exact b_O (b_O (heap_alloc_new W _) _) _⟩, by rw [hW2]; simp, o_, a_I.refl _ _, by rw [hW3]; exact b_d (by rw [hW2]; simp), a_o _ _ _ _, rfl, fun v _ i h => absurd h s_⟩)
 refine u_l ?_; intro HR HW HQ3
 have HNmS := a_0 (e_r _ P A ts cc s HQ3.out hi hl)
 have HNa := a_0 (fun (W' : World) (h : QPt QT W' P A ts cc s) => j_p W' P A ts cc s hv h hi hl)
 obtain ⟨an, sx, hax⟩ : ∃ an sx, (an, sx) = (if a_e ts s = true then a_u false ts s else ([], s)) := ⟨_, _, rfl⟩
 have hsx : sx.i < ts.length := by
  have h2 := (b_x hv (c_s hv) false [] s hi).lt hi
  have h3 := congrArg Prod.snd hax
  simp only at h3
  rw [h3]
  split
  ·exact h2
  ·exact hi
 have hbl := (a_H hv sx (k := 5) d_ a_M).lt hsx
 have HSy := a_0 (fun (W' : World) (h : QPt QT W' P A ts cc sx) => e_2 W' P A ts cc sx h hsx hl a_M)
 obtain ⟨b, hbb⟩ : ∃ b, b = a_c ts sx 5 a_M := ⟨_, rfl⟩
 rw [← hbb] at HSy hbl
 have HNm := a_0 (fun (W' : World) (h : QPt QT W' P A ts cc b) => e_r W' P A ts cc b h hbl hl)
 obtain ⟨vb, hvb⟩ : ∃ vb, vb = decide (a_e ts b = true ∧ a_9 (tk ts (b.i + 1)) wEq = true) := ⟨_, rfl⟩
 obtain ⟨c, s', hcs⟩ : ∃ c s', (c, s') = (if a_e ts b = true ∧ a_9 (tk ts (b.i + 1)) wEq = true then a_z false ts (b_n ts c_6) [] b else ([], b)) := ⟨_, _, rfl⟩
 have HEQ := a_0 (show e_z false ts s = (⟨11, [], an, [], c, []⟩, s') from by
  unfold e_z
  simp only
  rw [← hax]
  simp only
  rw [← hbb, ← hcs])
 have HNx := a_0 (fun (h : a_e ts b = true) => b_r hv hbl h)
 have HVt := a_0 (fun (h : vb = true) => show a_z false ts (b_n ts c_6) [] b = (c, s') from by rw [hcs, if_pos (of_decide_eq_true (hvb.symm.trans h))])
 have HVf := a_0 (fun (h : vb = false) => show ([], b) = (c, s') from by rw [hcs, if_neg (of_decide_eq_false (hvb.symm.trans h))])
 have HVb := a_0 hvb
 have HAt := a_0 (fun (h : a_e ts s = true) => show a_u false ts s = (an, sx) from by rw [hax, if_pos h])
 have HAf := a_0 (fun (h : a_e ts s = false) => show (([] : List a_3), s) = (an, sx) from by rw [hax, if_neg (by rw [h]; decide)])
 generalize a_u false ts s = aa at *
 obtain ⟨a, sa⟩ := aa
 simp only at HNa
 rw [HEQ.out]
 generalize a_e ts s = v at *
 clear hS hax hbb hcs hvb
 have hL3 : W3.heap.size = W.heap.size + 3 := by rw [hW3, hW2]; simp
 have HX := a_0 hL3
 have HW3 := a_0 hW3
 have HW2 := a_0 hW2
 clear hL3
 go_enter func185, ntmps185
 go_upto_if 6 with (rw [← HW2.out, ← HW3.out]; go_at_call 114; refine HNmS.out.mono ?_; rintro e w1 ⟨rfl, hb1⟩)
 refine u_0 ?_; intro HI1 HQ1 e1
 simp at e1
 clear hb1 HI HQ3 HNmS hW2 hW3
 go_cut [] from 7 to 9 (fun wx => ∃ (nA : Option Addr) (nC : Nat), Hid (BxC W2 P W.heap.size (W.heap.size + 2) 11 [] an [] nA nC none 0 W3 wx [] none 0 []) ∧ Hid (QPt QT wx P A ts cc sx) ∧ Hid (b_b tSQ (fun v => b_l v nA an) wx) ∧ an.length ≤ nC)
 case first =>
  cases v with
  | true =>
   have hxx := HAt.out rfl; injection hxx with hx1 hx2; subst hx1; subst hx2
   go_wp2_with fail
   refine (HNa.out w1 HQ1.out).mono ?_; rintro e w2 ⟨⟨nA, nC, rfl, ho⟩, hq2⟩; refine _al ?_; intro hf hcap hI2 c0 c1 c2 c3 c4 c5 cf cl hq3 hI3 hf3 HI3 HQ3 HF3; clear hq2 ho hf hI2 hq3 hI3 hf3 HI1 HQ1 e1 HNa
   go_wp2_with fail
   go_meet
   exact ⟨nA, nC, HI3, HQ3, HF3, hcap⟩
  | false =>
   have hxx := HAf.out rfl; injection hxx with hx1 hx2; subst hx1; subst hx2
   go_wp2_with fail
   go_meet
   exact ⟨none, 0, HI1, HQ1, a_0 (fun _ _ => .inl rfl), l_ _⟩
 case rest =>
  obtain ⟨nA, nC, HI3, HQ3, HF3, hcap⟩ := hcut
  have e3 := a_2 HI3.out.pb.box 0
  simp at e3
  clear HI1 HQ1 e1 HNa HAt HAf
  go_upto_region 5 with (go_at_call 236; refine (HSy.out _ HQ3.out).mono ?_; rintro e w4 ⟨rfl, hq4⟩)
  have hI4 := HI3.out.step HQ3.out hq4.gr
  have hf4 := HF3.out.keep (e_C HQ3.out hq4.gr d_)
  have hQ4 := hq4.pt
  clear hq4 HI3 HQ3 HF3 e3 HSy
  have e4 := a_2 hI4.pb.box 0
  have le4 := a_6 hI4.pb.box
  have hP4 := hQ4.lt
  simp at e4
  have HNb := a_0 (fun (W' : World) (h : Below w4.heap.size w4 W') => HNm.out W' (hQ4.below h))
  have HI4 := a_0 hI4
  have HQ4 := a_0 hQ4
  have HF4 := a_0 hf4
  clear hI4 hQ4 hf4 HNm
  go_cut [43] from 12 to 43 (fun s43 wx => s43 = .bool vb ∧ Hid (Below w4.heap.size w4 wx))
  case first =>
   by_cases hnb : a_e ts b = true
   ·have hnx := HNx.out hnb
    have HCd := a_0 (show ∀ tk0 tk1, tk0 = (tk ts (b.i + 1)).kind → tk1 = (tk ts (b.i + 1)).text → vb = decide (tk0 = 5 ∧ tk1 = [61]) from fun _ _ h1 h2 => by rw [h1, h2, HVb.out]; simp [hnb, a_9, wEq]); rw [hnb] at HNb; clear hnb HNx HE HVt HVf HVb; obtain ⟨c0, c1, c2⟩ := HQ4.out.cells; obtain ⟨g, off, rfl, hgP, t0, t1, t2, t3⟩ := HQ4.out.tok.at_ hnx; obtain ⟨tk0, htk0⟩ : ∃ k, k = (tk ts (b.i + 1)).kind := ⟨_, rfl⟩; obtain ⟨tk1, htk1⟩ : ∃ k, k = (tk ts (b.i + 1)).text := ⟨_, rfl⟩; have HCd := a_0 (HCd.out tk0 tk1 htk0 htk1); rw [← htk0] at t0; rw [← htk1] at t1; clear htk0 htk1 t2 t3; obtain ⟨bi, hbi⟩ : ∃ bi, bi = b.i := ⟨_, rfl⟩; rw [← hbi] at c1 t0 t1 hnx; clear hbi c2; have hg4 : g < w4.heap.size := by omega
    have hw1 : IntKind.i64.wrap ((bi : Int) + 1) = (bi : Int) + 1 := IntWalk.i64_in _ o_; have hw2 : (0 : Int) ≤ (bi : Int) + 1 := by omega
    have hw3 : (bi : Int) + 1 < (ts.length : Int) := by omega
    have HK := a_0 (fun w' (hb : Below w4.heap.size w4 w') => show w'.cell? ⟨W.heap.size, 0, none⟩ = some (a_G P) ∧ w'.cell? ⟨P, 0, none⟩ = some (.slice (some ⟨g, off, none⟩) ts.length cc) ∧ w'.cell? ⟨P, 1, none⟩ = some (.int .i64 (bi : Nat)) ∧ w'.cell? ⟨g, off + (bi + 1) * 4, none⟩ = some (.int .i64 tk0) ∧ w'.cell? ⟨g, off + (bi + 1) * 4 + 1, none⟩ = some (str tk1) from
     ⟨(hb.cell (p := ⟨_, _, none⟩) le4).trans e4, (hb.cell (p := ⟨_, _, none⟩) hP4).trans c0, (hb.cell (p := ⟨_, _, none⟩) hP4).trans c1, (hb.cell (p := ⟨_, _, none⟩) hg4).trans t0, (hb.cell (p := ⟨_, _, none⟩) hg4).trans t1⟩)
    clear t0 t1 c0 c1 e4
    by_cases hk5 : tk0 = 5
    ·subst hk5
     by_cases htx : tk1 = [61]
     ·subst htx
      have HVV := a_0 (show vb = true from HCd.out.trans s_); clear HCd; refine wp_region_held_drew (S := (fun w' => w'.cell? ⟨W.heap.size, 0, none⟩ = some (a_G P) ∧ w'.cell? ⟨P, 0, none⟩ = some (.slice (some ⟨g, off, none⟩) ts.length cc) ∧ w'.cell? ⟨P, 1, none⟩ = some (.int .i64 (bi : Nat)) ∧ w'.cell? ⟨g, off + (bi + 1) * 4, none⟩ = some (.int .i64 5) ∧ w'.cell? ⟨g, off + (bi + 1) * 4 + 1, none⟩ = some (str [61]))) k_ (by (try dsimp only); exact HK.out _ (Below.drew (b_ _ _))) (fun hHeld => ?_); refine zT 0 ?_; refine zR 1 (fun K hK => ?_)
      go_simp
      go_wp2_with (go_at_call 114; refine (HNb.out _ (Below.drew (b_ _ _))).mono ?_; rintro e w5 ⟨rfl, hb5⟩; have hb45 := a_n hb5 (show Below w4.heap.size w4 _ from Below.drew (b_ _ _)))
      refine zB hK (HK.out _ hb45) (fun hHeld => ?_); clear hK K; refine zT 2 ?_; refine zT 3 ?_; refine zT 4 ?_; refine zT 5 ?_; refine zT 6 ?_; refine zT 7 ?_; refine zT 8 ?_; refine zT 9 ?_; refine zT 10 ?_; refine zT 11 ?_; refine zT 12 ?_; refine zT 13 ?_; refine zT 14 ?_; refine zT 15 ?_; refine zT 16 ?_; refine zT 17 ?_; refine zT 18 ?_; refine zT 19 ?_; refine zT 20 ?_; refine zT 21 ?_; refine zT 22 ?_; refine zT 23 ?_; refine zT 24 ?_; refine zT 25 ?_; refine zT 26 ?_; refine zT 27 ?_; refine zT 28 ?_; refine zT 29 ?_; refine zT 30 ?_; refine zT 31 ?_; refine wpAnyH_done k_ ?_ _
      try simp only [List.getElem_toArray, List.getElem_cons_succ, List.getElem_cons_zero, Act.put, List.setIfInBounds_toArray, List.set_cons_zero, List.set_cons_succ]
      go_wp2_with fail
      go_meet
      exact ⟨by rw [HVV.out], a_0 hb45⟩
     ·have htb : (tk1 == [61]) = false := beq_eq_false_iff_ne.2 htx
      have HVV := a_0 (show vb = false from HCd.out.trans (by simp [htx])); clear HCd htx; refine wp_region_held_drew (S := (fun w' => w'.cell? ⟨W.heap.size, 0, none⟩ = some (a_G P) ∧ w'.cell? ⟨P, 0, none⟩ = some (.slice (some ⟨g, off, none⟩) ts.length cc) ∧ w'.cell? ⟨P, 1, none⟩ = some (.int .i64 (bi : Nat)) ∧ w'.cell? ⟨g, off + (bi + 1) * 4, none⟩ = some (.int .i64 5) ∧ w'.cell? ⟨g, off + (bi + 1) * 4 + 1, none⟩ = some (str tk1))) k_ (by (try dsimp only); exact HK.out _ (Below.drew (b_ _ _))) (fun hHeld => ?_); refine zT 0 ?_; refine zR 1 (fun K hK => ?_)
      go_simp
      go_wp2_with (go_at_call 114; refine (HNb.out _ (Below.drew (b_ _ _))).mono ?_; rintro e w5 ⟨rfl, hb5⟩; have hb45 := a_n hb5 (show Below w4.heap.size w4 _ from Below.drew (b_ _ _)))
      refine zB hK (HK.out _ hb45) (fun hHeld => ?_); clear hK K; refine zT 2 ?_; refine zT 3 ?_; refine zT 4 ?_; refine zT 5 ?_; refine zT 6 ?_; refine zT 7 ?_; refine zT 8 ?_; refine zT 9 ?_; refine zT 10 ?_; refine zT 11 ?_; refine zT 12 ?_; refine zT 13 ?_; refine zT 14 ?_; refine zT 15 ?_; refine zT 16 ?_; refine zT 17 ?_; refine zT 18 ?_; refine zT 19 ?_; refine zT 20 ?_; refine zT 21 ?_; refine zT 22 ?_; refine zT 23 ?_; refine zT 24 ?_; refine zT 25 ?_; refine zT 26 ?_; refine zT 27 ?_; refine zT 28 ?_; refine zT 29 ?_; refine zT 30 ?_; refine zT 31 ?_; refine wpAnyH_done k_ ?_ _
      try simp only [List.getElem_toArray, List.getElem_cons_succ, List.getElem_cons_zero, Act.put, List.setIfInBounds_toArray, List.set_cons_zero, List.set_cons_succ]
      go_wp2_with fail
      go_meet
      exact ⟨by rw [HVV.out], a_0 hb45⟩
    ·have hkb : (tk0 == 5) = false := beq_eq_false_iff_ne.2 hk5
     have HVV := a_0 (show vb = false from HCd.out.trans (by simp [hk5])); clear HCd hk5; refine wp_region_held_drew (S := (fun w' => w'.cell? ⟨W.heap.size, 0, none⟩ = some (a_G P) ∧ w'.cell? ⟨P, 0, none⟩ = some (.slice (some ⟨g, off, none⟩) ts.length cc) ∧ w'.cell? ⟨P, 1, none⟩ = some (.int .i64 (bi : Nat)) ∧ w'.cell? ⟨g, off + (bi + 1) * 4, none⟩ = some (.int .i64 tk0) ∧ w'.cell? ⟨g, off + (bi + 1) * 4 + 1, none⟩ = some (str tk1))) k_ (by (try dsimp only); exact HK.out _ (Below.drew (b_ _ _))) (fun hHeld => ?_); refine zT 0 ?_; refine zR 1 (fun K hK => ?_)
     go_simp
     go_wp2_with (go_at_call 114; refine (HNb.out _ (Below.drew (b_ _ _))).mono ?_; rintro e w5 ⟨rfl, hb5⟩; have hb45 := a_n hb5 (show Below w4.heap.size w4 _ from Below.drew (b_ _ _)))
     refine zB hK (HK.out _ hb45) (fun hHeld => ?_); clear hK K; refine zT 2 ?_; refine zT 3 ?_; refine zT 4 ?_; refine zT 5 ?_; refine zT 6 ?_; refine zT 7 ?_; refine zT 8 ?_; refine zT 9 ?_; refine zT 10 ?_; refine zT 11 ?_; refine zT 12 ?_; refine zT 13 ?_; refine zT 14 ?_; refine zT 15 ?_; refine zT 16 ?_; refine zT 17 ?_; refine zK 18 ?_; refine zK 19 ?_; refine zK 20 ?_; refine zK 21 ?_; refine zK 22 ?_; refine zK 23 ?_; refine zK 24 ?_; refine zK 25 ?_; refine zK 26 ?_; refine zK 27 ?_; refine zK 28 ?_; refine zK 29 ?_; refine zK 30 ?_; refine zT 31 ?_; refine wpAnyH_done k_ ?_ _
     try simp only [List.getElem_toArray, List.getElem_cons_succ, List.getElem_cons_zero, Act.put, List.setIfInBounds_toArray, List.set_cons_zero, List.set_cons_succ]
     go_wp2_with fail
     go_meet
     exact ⟨by rw [HVV.out], a_0 hb45⟩
   ·have hnf : a_e ts b = false := by simpa using hnb
    have HVV := a_0 (show vb = false from HVb.out.trans (by simp [hnf])); rw [hnf] at HNb; clear hnb hnf HNx HE HVt HVf HVb; have HK := a_0 (fun w' (hb : Below w4.heap.size w4 w') => show w'.cell? ⟨W.heap.size, 0, none⟩ = some (a_G P) from (hb.cell (p := ⟨_, _, none⟩) le4).trans e4); refine wp_region_held_drew (S := (fun w' => w'.cell? ⟨W.heap.size, 0, none⟩ = some (a_G P))) k_ (by (try dsimp only); exact HK.out _ (Below.drew (b_ _ _))) (fun hHeld => ?_); refine zT 0 ?_; refine zR 1 (fun K hK => ?_)
    go_simp
    go_wp2_with (go_at_call 114; refine (HNb.out _ (Below.drew (b_ _ _))).mono ?_; rintro e w5 ⟨rfl, hb5⟩; have hb45 := a_n hb5 (show Below w4.heap.size w4 _ from Below.drew (b_ _ _)))
    refine zB hK (HK.out _ hb45) (fun hHeld => ?_); clear hK K; refine zT 2 ?_; refine zK 3 ?_; refine zK 4 ?_; refine zK 5 ?_; refine zK 6 ?_; refine zK 7 ?_; refine zK 8 ?_; refine zK 9 ?_; refine zK 10 ?_; refine zK 11 ?_; refine zK 12 ?_; refine zK 13 ?_; refine zK 14 ?_; refine zK 15 ?_; refine zT 16 ?_; refine zT 17 ?_; refine zK 18 ?_; refine zK 19 ?_; refine zK 20 ?_; refine zK 21 ?_; refine zK 22 ?_; refine zK 23 ?_; refine zK 24 ?_; refine zK 25 ?_; refine zK 26 ?_; refine zK 27 ?_; refine zK 28 ?_; refine zK 29 ?_; refine zK 30 ?_; refine zT 31 ?_; refine wpAnyH_done k_ ?_ _
    try simp only [List.getElem_toArray, List.getElem_cons_succ, List.getElem_cons_zero, Act.put, List.setIfInBounds_toArray, List.set_cons_zero, List.set_cons_succ]
    go_wp2_with fail
    go_meet
    exact ⟨by rw [HVV.out], a_0 hb45⟩
  case rest =>
   obtain ⟨rfl, HB5⟩ := hcut; have hb5 := HB5.out; refine v_M ?_; intro HI5 HQ5 HF5; clear HB5 hb5 HI4 HQ4 HF4 HNb e4 le4 hP4 HVb HNx; have e5 := a_2 HI5.out.pb.box 0
   simp at e5
   go_upto_if 43 with fail
   go_cut [] from 44 to 46 (fun wx => ∃ (I : Option Addr) (n : Nat) (es : List (Option Addr × Nat)), Hid (BxC W2 P W.heap.size (W.heap.size + 2) 11 [] an [] nA nC none 0 W3 wx c I n es) ∧ Hid (QPt QT wx P A ts cc s') ∧ Hid (b_b tSQ (fun v => b_l v nA an) wx))
   case first =>
    cases vb with
    | true =>
     have hxx := HVt.out rfl; have HEb := a_0 (HE.out an nA nC _ _ b hbl (HI5.out.rebase) HQ5.out); rw [hxx] at HEb; clear hxx HE HVt HVf
     go_wp2_with fail
     refine HEb.out.mono ?_; rintro e w6 ⟨rfl, hq, I, n, es, hc⟩; have HFn := a_0 (HF5.out.keep hc.kt); have HC6 := a_0 (hc.reback HI5.out.kt); have HQ6 := a_0 hq; clear HI5 HQ5 HF5 HEb e5 hq hc
     go_wp2_with fail
     go_meet
     exact ⟨I, n, es, HC6, HQ6, HFn⟩
    | false =>
     have hxx := HVf.out rfl; injection hxx with hx1 hx2; subst hx1; subst hx2; clear HE HVt HVf
     go_wp2_with fail
     go_meet
     exact ⟨none, 0, [], HI5, HQ5, HF5⟩
   case rest =>
    obtain ⟨I, n, es, HC6, HQ6, HF6⟩ := hcut; clear HI5 HQ5 HF5 HE HVt HVf e5; obtain ⟨b0, b1, b2, b3, b4, b5, bf, hlB⟩ := b_s HC6.out.box; have hR := a_r HC6.out.pb.gr HR.out o_; obtain ⟨r0, r1, r2, r3, r4, r5, fr, hlR⟩ := b_s hR; have HF := a_0 (fun v0 v1 v2 v3 v4 v5 => c_8 (l := tI) d_ (r := W.heap.size + 1) ⟨_, hR⟩ HQ6.out (HW.out.trans HC6.out.pb.gr) o_ hP ⟨11, [], an, [], c, []⟩ ⟨nA, nC, none, 0, I, n, none, 0⟩ (fun v hv => ⟨HF6.out v (hv.sub (fun t ht => by simp at ht; rcases ht with rfl | rfl <;> simp)), .inl rfl, e_v HC6.out.own HC6.out.len HC6.out.firm v hv, .inl rfl, hcap, l_ _, b_7 HC6.out.own⟩) v0 v1 v2 v3 v4 v5); clear HQ6 HC6 HF6 hR HR HW
    go_wp2
    obtain ⟨hf, hp⟩ := HF.out (.int .i64 11) (str []) (.slice nA an.length nC) (.slice none 0 0) (.slice I c.length n) (.slice none 0 0); exact bodyPost_ret (v := .agg #[.int .i64 11, str [], .slice nA an.length nC, .slice none 0 0, .slice I c.length n, .slice none 0 0]) (by simp [results, results185, go_sem, r0, r1, r2, r3, r4, r5]) rfl ⟨⟨_, rfl, hf⟩, hp⟩
end Go.Proofs.YtmbeeefkpgfgmaaGreatDoor
