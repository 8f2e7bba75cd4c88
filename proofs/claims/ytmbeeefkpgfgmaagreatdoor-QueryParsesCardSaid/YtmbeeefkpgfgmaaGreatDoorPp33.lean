/- Parts of the proof. -/
import Derived.Test.YtmbeeefkpgfgmaaGreatDoorPp32
set_option linter.unusedVariables false
set_option linter.unusedSimpArgs false
set_option maxHeartbeats 8000000
namespace Go.Proofs.YtmbeeefkpgfgmaaGreatDoor
open Go.Proofs.Tryz
open Go.RowKit
structure ItX (W0 : World) (P bx : Nat) (W : World) (x : It) : Prop where
 gr : W0.grownBy W (some P)
 pl : P < W0.heap.size
 le : W0.heap.size ≤ bx
 box : W.heap[bx]? = some (.cells #[str x.name, .int .i64 x.fn, str x.col, .int .i64 x.num, .slice none 0 0] 61 (0, 0))
section
variable {W0 W W' : World} {P bx cc : Nat} {x : It} {A : Option Addr} {ts : List Tok} {s : QSt}
theorem ItX.step (h : ItX W0 P bx W x) (hg : W.grownBy W' (some P)) : ItX W0 P bx W' x := by
 exact w_n
theorem ItX.cells (h : ItX W0 P bx W x) : W.cell? ⟨bx, 0, none⟩ = some (str x.name) ∧ W.cell? ⟨bx, 1, none⟩ = some (.int .i64 x.fn) ∧ W.cell? ⟨bx, 2, none⟩ = some (str x.col) ∧ W.cell? ⟨bx, 3, none⟩ = some (.int .i64 x.num) ∧ W.cell? ⟨bx, 4, none⟩ = some (.slice none 0 0) := by
 have hb := h.box
 simp [World.cell?, hb]
theorem ItX.set (h : ItX W0 P bx W x) (i : Nat) (v : Value) (y : It) (hy : #[str x.name, .int .i64 x.fn, str x.col, .int .i64 x.num, .slice none 0 0].setIfInBounds i v = #[str y.name, .int .i64 y.fn, str y.col, .int .i64 y.num, .slice none 0 0]) : ItX W0 P bx (W.setCell ⟨bx, i, none⟩ v) y := by
 have h1 := h.pl
 have h2 := h.le
 refine u_n ?_; intro g
 refine ⟨h.gr.andThen g (fun j e => .inl j_), h1, h2, ?_⟩
 have := heap_setCell_same W bx i _ _ v h.box
 rw [hy] at this
 exact this
theorem QPt.boxR (h : QPt QR W P A ts cc s) (hb : P < bx) (i : Nat) (v : Value) : QPt QR (W.setCell ⟨bx, i, none⟩ v) P A ts cc s :=
 h.gr (a_d (g_ W (some bx)) i v) (fun j e => by injection e with e; omega)
end
theorem o_1 {W w1 : World} {P r cc : Nat} {A : Option Addr} {ts : List Tok} {s : QSt} (hq : QPt QR w1 P A ts cc s) (hW : W.grownBy w1 (some P)) (hr : W.heap.size ≤ r) (hP : P < W.heap.size) (v0 v1 v2 v3 v4 : Value) :
  QPost QR W P A ts cc s (((((w1.setCell ⟨r, 0, none⟩ v0).setCell ⟨r, 1, none⟩ v1).setCell ⟨r, 2, none⟩ v2).setCell ⟨r, 3, none⟩ v3).setCell ⟨r, 4, none⟩ v4) := by
 refine v_t ?_; intro g
 exact w_w
set_option maxRecDepth 100000
theorem q_w (op : Int) (l : List a_3) (wf : a_3 → Int) (hll : 1 ≤ l.length ∧ l.length ≤ 20) (hwf : ∀ x, c_A l x l.length = wf x) (hfn : ∀ W, Calls prog 265 #[.int .i64 op] W fun e w' => m_3 W w' l e)
  (W : World) (P : Nat) (A : Option Addr) (ts : List Tok) (cc : Nat) (s : QSt) (hv : a_O ts = true) (hS : QPt QR W P A ts cc s) (hi : s.i < ts.length) (hl : ts.length ≤ 1000000) :
  Calls prog 244 #[a_G P, .int .i64 op] W fun e w' => e = .returned (itV (b_5 ts wf s).1 none 0) ∧ QPost QR W P A ts cc (b_5 ts wf s).2 w' := by
 have hP := hS.lt
 have g1 := (a_V hv s).trans (a_H hv (a_7 ts s).2 (k := 5) d_ wEq)
 have hi2 := g1.lt hi
 have HN := a_0 (fun (W' : World) (hb : Below W.heap.size W W') => c_V W' P A ts cc s (hS.below hb) hi hl)
 have HSy := a_0 (fun (W' : World) (h : QPt QR W' P A ts cc (a_7 ts s).2) => d_F W' P A ts cc _ h ((a_V hv s).lt hi) hl wEq)
 have HX : b_5 ts wf s = if a_e ts (a_c ts (a_7 ts s).2 5 wEq) = true ∧ wf (tk ts (a_c ts (a_7 ts s).2 5 wEq).i).text ≠ 0 then
   (⟨(a_7 ts s).1, wf (tk ts (a_c ts (a_7 ts s).2 5 wEq).i).text, (inT ts (a_c ts ⟨(a_c ts (a_7 ts s).2 5 wEq).i + 1, 0⟩ 5 f_0)).1, (inT ts (a_c ts ⟨(a_c ts (a_7 ts s).2 5 wEq).i + 1, 0⟩ 5 f_0)).2.1, []⟩, a_c ts (inT ts (a_c ts ⟨(a_c ts (a_7 ts s).2 5 wEq).i + 1, 0⟩ 5 f_0)).2.2 5 c_Z)
   else (⟨(a_7 ts s).1, 0, [], 0, []⟩, (a_c ts (a_7 ts s).2 5 wEq).fail 3) := rfl
 generalize a_7 ts s = r1 at *
 obtain ⟨x, s1⟩ := r1
 simp only at HN HSy HX hi2 g1
 generalize a_c ts s1 5 wEq = s2 at *
 have HWd := a_0 (fun (w : a_3) (W' : World) (h : QPt QR W' P A ts cc s2) => show Calls prog 188 #[.pointer (some ⟨P, 0, none⟩), str w] W' (fun e' w' => e' = .returned (.bool (a_e ts s2 && (tk ts s2.i).text == w)) ∧ Below W'.heap.size W' w') from h_d W' P A ts cc s2 h hi2 hl w)
 have HFl := a_0 (fun (W' : World) (h : QPt QR W' P A ts cc s2) => e_4 W' P A ts cc s2 h 3)
 have hn2 := fun (hn : a_e ts s2 = true) => b_r hv hi2 hn
 have hn0 := fun (hn : a_e ts s2 = true) => (a_D hn).1
 have HSy2 := a_0 (fun (hn : a_e ts s2 = true) (W' : World) (h : QPt QR W' P A ts cc ⟨s2.i + 1, 0⟩) => d_F W' P A ts cc _ h (b_r hv hi2 hn) hl f_0)
 have hi4 := fun (hn : a_e ts s2 = true) => (a_H hv ⟨s2.i + 1, 0⟩ (k := 5) d_ f_0).lt (b_r hv hi2 hn)
 have HIn := q_T ts (a_c ts ⟨s2.i + 1, 0⟩ 5 f_0)
 generalize a_c ts ⟨s2.i + 1, 0⟩ 5 f_0 = s4 at *
 have HNm4 := a_0 (fun (hn : a_e ts s2 = true) (W' : World) (h : QPt QR W' P A ts cc s4) => e_u W' P A ts cc s4 h (hi4 hn) hl)
 have HN4 := a_0 (fun (hn : a_e ts s2 = true) (W' : World) (h : QPt QR W' P A ts cc s4) => c_V W' P A ts cc s4 h (hi4 hn) hl)
 have hi5 := fun (hn : a_e ts s2 = true) => (a_V hv s4).lt (hi4 hn)
 generalize a_7 ts s4 = r5 at *
 obtain ⟨z, s5⟩ := r5
 simp only at HN4 HIn hi5
 have HSk5 := a_0 (fun (hn : a_e ts s2 = true) (W' : World) (h : QPt QR W' P A ts cc s5) => d_s W' P A ts cc s5 h (hi5 hn) hl b_t)
 have HIn6 := a_0 (fun (hn : a_e ts s2 = true) (hc : isT ts s5 5 b_t = true) (W' : World) (h : QPt QR W' P A ts cc ⟨s5.i + 1, 0⟩) => l_g W' P A ts cc _ h (b_e hv (hi5 hn) d_ hc) hl)
 have hi7 := fun (hn : a_e ts s2 = true) (hc : isT ts s5 5 b_t = true) => (o_M hv ⟨s5.i + 1, 0⟩).lt (b_e hv (hi5 hn) d_ hc)
 have h50 := fun (hc : isT ts s5 5 b_t = true) => (b_3 hc).1
 generalize l_X ts ⟨s5.i + 1, 0⟩ = r7 at *
 obtain ⟨m, s7⟩ := r7
 simp only at HIn6 HIn hi7
 have HSy7 := a_0 (fun (t : QSt) (ht : t.i < ts.length) (W' : World) (h : QPt QR W' P A ts cc t) => d_F W' P A ts cc t h ht hl c_Z)
 generalize hv4 : a_e ts s4 = v4 at *
 generalize hv5 : isT ts s5 5 b_t = v5 at *
 clear hv4 hv5
 have HIX := a_0 HIn
 have HN0 := a_0 hn0
 have H50 := a_0 h50
 have HI4 := a_0 hi4
 have HI5 := a_0 hi5
 have HI7 := a_0 hi7
 clear HIn hi4 hi5 hi7 hn2 hn0 h50
 have HFn := a_0 hfn
 have HS := a_0 hS
 have hWf := hwf (tk ts s2.i).text
 generalize (tk ts s2.i).text = y at *
 generalize hvv : a_e ts s2 = v at *
 refine w_o ?_; intro hW1 HRR
 have HXX := a_0 HX
 have HVV := a_0 hvv
 clear HX hvv g1 hS hfn hwf
 go_enter func244, ntmps244
 go_wp2_with fail
 refine (HN.out _ zX).mono ?_
 rintro e w1 ⟨rfl, hq1⟩
 have z1 := hq1.gr.size
 simp at z1
 have rr1 : w1.heap[W.heap.size]? = _ := a_r hq1.gr HRR.out o_
 have HG1 := a_0 (hW1.trans hq1.gr)
 have HR1 := a_0 rr1
 have hp1 := hq1.pt.lt
 have HI1 := a_0 (show ItX w1 P w1.heap.size (w1.alloc (.cells #[str x, .int .i64 0, str [], .int .i64 0, .slice none 0 0] 61)) ⟨x, 0, [], 0, []⟩ from ⟨World.grownBy_alloc _ _ _, hp1, l_ _, heap_alloc_new w1 _⟩)
 have HQ1 := a_0 hq1.pt
 clear hq1 rr1 HN HRR hW1
 go_wp2_with fail
 refine (HSy.out _ (HQ1.out.below zX)).mono ?_
 rintro e w2 ⟨rfl, hq2⟩
 have HI2 := a_0 (HI1.out.step hq2.gr)
 have HQ2 := a_0 hq2.pt
 have hz2 := hq2.gr.size
 simp at hz2
 clear hq2 HI1 HQ1 HSy
 go_wp2_with fail
 refine (HFn.out w2).mono ?_
 rintro e w3 ⟨rfl, ho3, hb3⟩
 have HI3 := a_0 (HI2.out.step (a_1 hb3))
 have HQ3 := a_0 (HQ2.out.below hb3)
 have HO3 := a_0 ho3
 clear hb3 ho3 HI2 HQ2 HFn
 go_wp2_with fail
 go_loopw [7] (fun m wr => ∃ (k : Nat), m = .int .i64 k ∧ 1 ≤ k ∧ k ≤ l.length ∧ Hid (ItX w1 P w1.heap.size wr ⟨x, if v = true then c_A l y k else 0, [], 0, []⟩) ∧ Hid (QPt QR wr P A ts cc s2) ∧ Hid (wr.ownsRow w2.heap.size 9 1 (.slice (some ⟨w2.heap.size, 0, none⟩) l.length l.length) l.length (l.map str))) (fun m wr => match m with | .int _ i => l.length - i.toNat | _ => 0)
 case atStart => exact ⟨1, rfl, l_ _, hll.1, by have := HI3; simpa [c_A] using this, HQ3, HO3⟩
 case round =>
  clear HI3 HQ3 HO3
  obtain ⟨k, rfl, hk1, hk2, HI, HQ, HO⟩ := hrel
  by_cases hk : k < l.length
  ·obtain ⟨gE, hgE, _, hcE⟩ := f_D (a := l) HO.out hk
   injection hgE with hgE; injection hgE with hgE; subst hgE; refine s_o ?_; intro hkI; have hgd : l.getD k [] = l[k] := by simp [hk]
   have hsc : c_A l y (k + 1) = if l[k] ≠ [] ∧ y = l[k] then (k : Int) else c_A l y k := by
    show (if 1 ≤ k ∧ l.getD k [] ≠ [] ∧ y = l.getD k [] then (k : Int) else c_A l y k) = _
    rw [hgd]; have h : (1 ≤ k ∧ l[k] ≠ [] ∧ y = l[k]) ↔ (l[k] ≠ [] ∧ y = l[k]) := ⟨And.right, fun h => ⟨hk1, h⟩⟩; simp only [h]
   clear hgd; generalize l[k] = q at *; have hms : ∀ z : Int, l.length - (((k : Int) + 1).toNat) < l.length - ((k : Int).toNat) := fun _ => by omega
   by_cases he : q = []
   ·subst he
    have HI2 := a_0 (show ItX w1 P w1.heap.size wr ⟨x, if v = true then c_A l y (k + 1) else 0, [], 0, []⟩ from by
     have h0 : c_A l y (k + 1) = c_A l y k := hsc.trans (if_neg s_); rw [h0]
     exact HI.out)
    clear HI hsc
    go_wp2
    exact ⟨⟨k + 1, s_, o_, o_, HI2, HQ, HO⟩, hms 0⟩
   ·have heb : q.isEmpty = false := by cases q with | nil => exact absurd rfl he | cons _ _ => rfl
    have HWq := a_0 (HWd.out q)
    by_cases hm : (v && y == q) = true
    ·rw [hm] at HWq
     simp only [Bool.and_eq_true, beq_iff_eq] at hm; obtain ⟨rfl, rfl⟩ := hm; rw [if_pos ⟨he, rfl⟩] at hsc; have HSC := a_0 hsc; clear hsc
     go_wp2_with fail
     refine (HWq.out _ HQ.out).mono ?_; rintro e w5 ⟨rfl, hb5⟩; have HI5 := a_0 (HI.out.step (a_1 hb5)); refine t_P ?_; intro HQ5 HO5; obtain ⟨a0, a1, a2, a3, a4⟩ := HI5.out.cells; have af := b_1 HI5.out.box; have hlB := a_6 HI5.out.box; have HI6 := a_0 (HI5.out.set 1 (.int .i64 k) ⟨x, if true = true then c_A l y (k + 1) else 0, [], 0, []⟩ (by rw [HSC.out]; simp)); have HQ6 := a_0 (HQ5.out.boxR hp1 1 (.int .i64 k)); have HO6 := a_0 (a_v HO5.out (a_d (g_ w5 (some w1.heap.size)) 1 (.int .i64 k)) o_); clear HI HQ HO HI5 HQ5 HO5 hb5 HWq hcE a0 a2 a3 a4
     go_wp2
     exact ⟨⟨k + 1, s_, o_, o_, HI6, HQ6, HO6⟩, hms 0⟩
    ·have hmf : (v && y == q) = false := by simpa using hm
     rw [hmf] at HWq
     have HI2 := a_0 (show ItX w1 P w1.heap.size wr ⟨x, if v = true then c_A l y (k + 1) else 0, [], 0, []⟩ from by
      cases v with
      | false => exact HI.out
      | true =>
       have : ¬ (q ≠ [] ∧ y = q) := fun h => hm (by simp [h.2]); have h0 : c_A l y (k + 1) = c_A l y k := hsc.trans (if_neg this); rw [h0]
       exact HI.out)
     clear HI hsc hm hmf
     go_wp2_with fail
     refine (HWq.out _ HQ.out).mono ?_; rintro e w5 ⟨rfl, hb5⟩; have HI5 := a_0 (HI2.out.step (a_1 hb5)); refine t_P ?_; intro HQ5 HO5; clear HI2 HQ HO hb5 HWq hcE
     go_wp2
     exact ⟨⟨k + 1, s_, o_, o_, HI5, HQ5, HO5⟩, hms 0⟩
  ·have hkl : k = l.length := by omega
   subst hkl; rw [hWf] at HI; clear hk hk1 hk2 HO HWd; have hlB := a_6 HI.out.box; obtain ⟨a0, a1, a2, a3, a4⟩ := HI.out.cells; simp only at a1
   by_cases hz : v = true ∧ wf y ≠ 0
   ·obtain ⟨rfl, hk0⟩ := hz
    have HXK := a_0 (HXX.out.trans (if_pos ⟨rfl, hk0⟩)); rw [if_pos rfl] at a1 HI; have hkb : (wf y == 0) = false := beq_eq_false_iff_ne.2 hk0; clear HXX hk0 HFl hWf; generalize wf y = k at *; obtain ⟨k0, k1, k2⟩ := HQ.out.cells; have hf := HQ.out.free; have hPr := HQ.out.lt; have g7 : wr.grownBy (wr.setCell ⟨P, 1, none⟩ (.int .i64 ((s2.i + 1 : Nat) : Int))) (some P) := a_d (g_ wr (some P)) 1 (.int .i64 ((s2.i + 1 : Nat) : Int)); have HQ5 := a_0 (show QPt QR (wr.setCell ⟨P, 1, none⟩ (.int .i64 ((s2.i + 1 : Nat) : Int))) P A ts cc ⟨s2.i + 1, 0⟩ from by have := HQ.out.setAt (s2.i + 1); rw [HN0.out s_] at this; exact this); have HI5b := a_0 (HI.out.step g7); clear HI HQ g7 a0 a2 a3 a4
    go_wp2_with fail
    refine (HSy2.out s_ _ HQ5.out).mono ?_; rintro e w6 ⟨rfl, hq6⟩; have HI6b := a_0 (HI5b.out.step hq6.gr); have HQ6 := a_0 hq6.pt; clear hq6 HI5b HQ5 HSy2 a1 k0 k1 k2 hf
    go_wp2_with fail
    refine (HNm4.out s_ w6 HQ6.out).mono ?_; rintro e w7 ⟨rfl, hb7⟩; have HI7b := a_0 (HI6b.out.step (a_1 hb7)); have HQ7 := a_0 (HQ6.out.below hb7); clear hb7 HI6b HQ6 HNm4
    cases v4 with
    | false =>
     have HXX := a_0 (show b_5 ts wf s = (⟨x, k, [], 0, []⟩, a_c ts s4 5 c_Z) from by have := HXK.out; rw [show inT ts s4 = ([], 0, s4) from HIX.out] at this; exact this); have hi9 := HI4.out s_; clear HXK
     go_wp2_with fail
     refine (HSy7.out s4 hi9 w7 HQ7.out).mono ?_; rintro e w9 ⟨rfl, hq9⟩; clear HN4 HSk5 HIn6 HSy7 HI4 HI5 HI7 HIX; have hib := HI7b.out.step hq9.gr; have hq := hq9.pt; refine p_R ?_; intro hR b0 b1 b2 b3 b4 r0 r1 r2 r3 r4 fr
     simp at b0 b1 b2 b3 b4 r0 r1 r2 r3 r4
     refine t_V ?_; intro hlR hlB HF; have HEQ := a_0 (show b_5 ts wf s = (⟨x, k, [], 0, []⟩, a_c ts s4 5 c_Z) from HXX.out); clear hib hq hR
     go_wp2
     have hp := HF.out (str x) (.int .i64 k) (str ([] : a_3)) (.int .i64 0) (.slice none 0 0); refine bodyPost_ret (v := .agg #[str x, .int .i64 k, str ([] : a_3), .int .i64 0, .slice none 0 0]) (by simp [results, results244, go_sem, r0, r1, r2, r3, r4]) rfl ?_; exact _ar
    | true =>
     go_wp2_with fail
     refine (HN4.out s_ w7 HQ7.out).mono ?_; rintro e w8 ⟨rfl, hq8⟩; have HI8b := a_0 (HI7b.out.step hq8.gr); have HQ8 := a_0 hq8.pt; clear hq8 HI7b HQ7 HN4; have hl8 := a_6 HI8b.out.box; obtain ⟨a0, a1, a2, a3, a4⟩ := HI8b.out.cells; have af := b_1 HI8b.out.box; have HI8c := a_0 (HI8b.out.set 2 (str z) ⟨x, k, z, 0, []⟩ s_); have HQ8c := a_0 (HQ8.out.boxR hp1 2 (str z)); clear HI8b HQ8
     go_wp2_with fail
     refine (HSk5.out s_ _ HQ8c.out).mono ?_; rintro e w10 ⟨rfl, hb10⟩; have HI10 := a_0 (HI8c.out.step (a_1 hb10)); have HQ10 := a_0 (HQ8c.out.below hb10); clear hb10 HI8c HQ8c HSk5 a0 a1 a2 a3 a4 af
     cases v5 with
     | false =>
      have HXX := a_0 (show b_5 ts wf s = (⟨x, k, z, 0, []⟩, a_c ts s5 5 c_Z) from by have := HXK.out; rw [show inT ts s4 = (z, 0, s5) from HIX.out] at this; exact this); have hi9 := HI5.out s_; clear HXK
      go_wp2_with fail
      refine (HSy7.out s5 hi9 w10 HQ10.out).mono ?_; rintro e w9 ⟨rfl, hq9⟩; clear HIn6 HSy7 HI4 HI5 HI7 HIX HQ10; have hib := HI10.out.step hq9.gr; have hq := hq9.pt; refine p_R ?_; intro hR b0 b1 b2 b3 b4 r0 r1 r2 r3 r4 fr
      simp at b0 b1 b2 b3 b4 r0 r1 r2 r3 r4
      refine t_V ?_; intro hlR hlB HF; have HEQ := a_0 (show b_5 ts wf s = (⟨x, k, z, 0, []⟩, a_c ts s5 5 c_Z) from HXX.out); clear hib hq hR
      go_wp2
      have hp := HF.out (str x) (.int .i64 k) (str (z : a_3)) (.int .i64 0) (.slice none 0 0); refine bodyPost_ret (v := .agg #[str x, .int .i64 k, str (z : a_3), .int .i64 0, .slice none 0 0]) (by simp [results, results244, go_sem, r0, r1, r2, r3, r4]) rfl ?_; exact _ar
     | true =>
      have HXX := a_0 (show b_5 ts wf s = (⟨x, k, z, m, []⟩, a_c ts s7 5 c_Z) from by have := HXK.out; rw [show inT ts s4 = (z, m, s7) from HIX.out] at this; exact this); have hi9 := HI7.out s_ s_; have hb5 : s5.i < ts.length := HI5.out s_; obtain ⟨k0, k1, k2⟩ := HQ10.out.cells; have hf := HQ10.out.free; have hPr := HQ10.out.lt; have g7 : w10.grownBy (w10.setCell ⟨P, 1, none⟩ (.int .i64 ((s5.i + 1 : Nat) : Int))) (some P) := a_d (g_ w10 (some P)) 1 (.int .i64 ((s5.i + 1 : Nat) : Int)); have HQ11 := a_0 (show QPt QR (w10.setCell ⟨P, 1, none⟩ (.int .i64 ((s5.i + 1 : Nat) : Int))) P A ts cc ⟨s5.i + 1, 0⟩ from by have := HQ10.out.setAt (s5.i + 1); rw [H50.out s_] at this; exact this); have HI11 := a_0 (HI10.out.step g7); clear HXK HI10 HQ10 g7
      go_wp2_with fail
      refine (HIn6.out s_ s_ _ HQ11.out).mono ?_; rintro e w11 ⟨rfl, hq11⟩; have HI12 := a_0 (HI11.out.step hq11.gr); have HQ12 := a_0 hq11.pt; clear hq11 HI11 HQ11 HIn6 k0 k1 k2 hf; have hl12 := a_6 HI12.out.box; obtain ⟨a0, a1, a2, a3, a4⟩ := HI12.out.cells; have af := b_1 HI12.out.box; have HI12c := a_0 (HI12.out.set 3 (.int .i64 m) ⟨x, k, z, m, []⟩ s_); have HQ12c := a_0 (HQ12.out.boxR hp1 3 (.int .i64 m)); clear HI12 HQ12
      go_wp2_with fail
      refine (HSy7.out s7 hi9 _ HQ12c.out).mono ?_; rintro e w9 ⟨rfl, hq9⟩; clear HSy7 HI4 HI5 HI7 HIX HQ12c a0 a1 a2 a3 a4 af; have hib := HI12c.out.step hq9.gr; have hq := hq9.pt; refine p_R ?_; intro hR b0 b1 b2 b3 b4 r0 r1 r2 r3 r4 fr
      simp at b0 b1 b2 b3 b4 r0 r1 r2 r3 r4
      refine t_V ?_; intro hlR hlB HF; have HEQ := a_0 (show b_5 ts wf s = (⟨x, k, z, m, []⟩, a_c ts s7 5 c_Z) from HXX.out); clear hib hq hR
      go_wp2
      have hp := HF.out (str x) (.int .i64 k) (str (z : a_3)) (.int .i64 m) (.slice none 0 0); refine bodyPost_ret (v := .agg #[str x, .int .i64 k, str (z : a_3), .int .i64 m, .slice none 0 0]) (by simp [results, results244, go_sem, r0, r1, r2, r3, r4]) rfl ?_; exact _ar
   ·have hf0 : (if v = true then wf y else 0) = 0 := by
     by_cases h1 : v = true
     ·rw [if_pos h1]
      by_cases h2 : wf y = 0
      ·exact h2
      ·exact absurd ⟨h1, h2⟩ hz
     ·rw [if_neg h1]
    have HXX2 := a_0 (HXX.out.trans (if_neg hz)); rw [hf0] at a1 HI; clear HXX hz hf0 hWf
    go_wp2_with fail
    refine (HFl.out wr HQ.out).mono ?_; rintro e w9 ⟨rfl, hq9⟩; clear HN4 HSk5 HIn6 HSy7 HI4 HI5 HI7 HIX HSy2 HNm4 HFl a0 a1 a2 a3 a4; have hib := HI.out.step hq9.gr; have hq := hq9.pt; refine p_R ?_; intro hR b0 b1 b2 b3 b4 r0 r1 r2 r3 r4 fr
    simp at b0 b1 b2 b3 b4 r0 r1 r2 r3 r4
    refine t_V ?_; intro hlR hlB HF; have HEQ := a_0 (show b_5 ts wf s = (⟨x, 0, [], 0, []⟩, s2.fail 3) from HXX2.out); clear hib hq hR
    go_wp2
    refine u_8 ?_; intro hp; refine bodyPost_ret (v := .agg #[str x, .int .i64 0, str ([] : a_3), .int .i64 0, .slice none 0 0]) (by simp [results, results244, go_sem, r0, r1, r2, r3, r4]) rfl ?_; exact _ar
set_option maxRecDepth 100000
theorem n_q (op : Int) (wf : a_3 → Int) (W : World) (P : Nat) (A : Option Addr) (ts : List Tok) (cc : Nat) (s : QSt) (hv : a_O ts = true)
  (hitem : ∀ (W' : World) (t : QSt), QPt QR W' P A ts cc t → t.i < ts.length → Calls prog 244 #[.pointer (some ⟨P, 0, none⟩), .int .i64 op] W' fun e w' => e = .returned (.agg #[str (b_5 ts wf t).1.name, .int .i64 (b_5 ts wf t).1.fn, str (b_5 ts wf t).1.col, .int .i64 (b_5 ts wf t).1.num, .slice none 0 0]) ∧ QPost QR W' P A ts cc (b_5 ts wf t).2 w')
  (hS : QPt QR W P A ts cc s) (hi : s.i < ts.length) (hl : ts.length ≤ 1000000) :
  Calls prog 199 #[a_G P, .int .i64 op] W fun e w' => (∃ B n es, e = .returned (.slice B (a_z true ts (b_n ts wf) [] s).1.length n) ∧ ItR W.heap.size w' (a_z true ts (b_n ts wf) [] s).1 B n es) ∧ QPost QR W P A ts cc (a_z true ts (b_n ts wf) [] s).2 w' := by
 obtain ⟨i0, hi0, hz0, hz1, hz2⟩ := info_parts Tryz.info_it
 have hitx : ∀ t, (b_5 ts wf t).1.expr = [] := fun t => by unfold b_5; simp only; split <;> rfl
 have hP := hS.lt
 have HN := a_0 (hitem W s hS hi)
 have hi1 := (k_Z hv wf s).lt hi
 have HStart := a_0 (show ∃ G, ((b_5 ts wf s).2.e = 0 → ts.length < (b_5 ts wf s).2.i + G + 1) ∧ e_H ts (b_n ts wf) G [(b_5 ts wf s).1] (b_5 ts wf s).2 = a_z true ts (b_n ts wf) [] s from ⟨ts.length, fun _ => by omega, by unfold a_z; rw [if_neg s_, d_k]; rfl⟩)
 have hx4 := hitx s
 generalize a_z true ts (b_n ts wf) [] s = R at *
 generalize b_5 ts wf s = r1 at *
 obtain ⟨⟨x0, x1, x2, x3, x4⟩, s1⟩ := r1
 obtain rfl : x4 = [] := hx4
 simp only at HN hi1 HStart
 have Hitx := a_0 hitx
 clear hitx
 clear hS hi
 have Hitem := a_0 hitem
 clear hitem
 go_enter func199, ntmps199
 go_wp2_with fail
 refine HN.out.mono ?_
 rintro e w1 ⟨rfl, hq1⟩
 have hz1' := hq1.gr.size
 have HR1 := a_0 (show ItR W.heap.size (w1.alloc (.cells #[str x0, .int .i64 x1, str x2, .int .i64 x3, .slice none 0 0] 61)) [(⟨x0, x1, x2, x3, []⟩ : It)] (some ⟨w1.heap.size, 0, none⟩) 1 [(none, 0)] from ⟨by
  have := d_o (e := 61) w1 (base := W.heap.size) (size := 5) (n := 1) (cur := #[str x0, .int .i64 x1, str x2, .int .i64 x3, .slice none 0 0]) hz1' s_ d_
  simpa [b_T] using this, rfl, fun v _ i hi hi' => by
  have e : i = 0 := by simp at hi; omega
  subst e
  exact .inl rfl⟩)
 have HB1 := a_0 (show Below w1.heap.size w1 (w1.alloc (.cells #[str x0, .int .i64 x1, str x2, .int .i64 x3, .slice none 0 0] 61)) from Below.alloc (b_ _ w1) (l_ _) _)
 have HQ1 := a_0 (hq1.pt.below HB1.out)
 have HG1 := a_0 (hq1.gr.trans (a_1 HB1.out))
 clear hq1 HN
 go_wp2_with fail
 go_loopw [5] (fun m wr => ∃ (l : List It) (B : Option Addr) (n : Nat) (es : List (Option Addr × Nat)) (t : QSt), m = .slice B l.length n ∧ Hid (QPt QR wr P A ts cc t) ∧ Hid (ItR W.heap.size wr l B n es) ∧ Hid (W.grownBy wr (some P)) ∧ t.i < ts.length ∧ l.length ≤ ts.length + 1 ∧ (t.e = 0 → l.length ≤ t.i + 1) ∧ Hid (∃ G, (t.e = 0 → ts.length < t.i + G + 1) ∧ e_H ts (b_n ts wf) G l t = R)) (fun m wr => n_4 ts P wr)
 case atStart => exact ⟨[(⟨x0, x1, x2, x3, []⟩ : It)], _, _, _, s1, rfl, HQ1, HR1, HG1, hi1, s_, fun _ => by simp, HStart⟩
 case round =>
  clear HQ1 HR1 HG1 HB1 hi1 HStart
  obtain ⟨l, B, n, es, t, rfl, HS, HR, HG, hi, hlt, hln, HE⟩ := hrel
  have HIs := a_0 (d_s wr P A ts cc t HS.out hi hl b_t)
  have hms := d_H HS.out
  obtain ⟨G, hGl, hE⟩ := HE.out
  by_cases hb : isT ts t 5 b_t = true
  ·have he0 := (b_3 hb).1
   have hGl := hGl he0; have hln := hln he0; rw [if_pos he0] at hms; have hnx := b_e hv hi d_ hb
   cases G with
   | zero => omega
   | succ G =>
   unfold e_H at hE; rw [if_pos hb, d_k] at hE; rw [hb] at HIs; have HN := a_0 (fun (W' : World) (h : QPt QR W' P A ts cc ⟨t.i + 1, 0⟩) => Hitem.out W' ⟨t.i + 1, 0⟩ h hnx); have hg := k_Z hv wf ⟨t.i + 1, 0⟩; have hE2 : e_H ts (b_n ts wf) G (l ++ [(b_5 ts wf ⟨t.i + 1, 0⟩).1]) (b_5 ts wf ⟨t.i + 1, 0⟩).2 = R := hE; have HE2 := a_0 hE2; have hy4 := Hitx.out ⟨t.i + 1, 0⟩; clear hE hE2 HE; generalize b_5 ts wf ⟨t.i + 1, 0⟩ = r2 at *; obtain ⟨⟨y0, y1, y2, y3, y4⟩, u⟩ := r2; obtain rfl : y4 = [] := hy4; simp only at HN HE2 hg
   go_wp2_with fail
   refine HIs.out.mono ?_; rintro e w2 ⟨rfl, hb2⟩; refine v_r ?_; intro hQ2 hQ2e k0 k1 k2 hf hP2 g3 HQ3; have HR3 := a_0 ((HR.out.below hb2).step hQ2 g3 hP); have HG3 := a_0 ((HG.out.trans (a_1 hb2)).trans g3); clear hQ2 hQ2e g3 hb2 HS HR HG HIs
   go_wp2_with fail
   refine (HN.out _ HQ3.out).mono ?_; rintro e w4 ⟨rfl, hq4⟩; have HQ4 := a_0 hq4.pt; have HR4 := a_0 (HR3.out.step HQ3.out hq4.gr hP); have HG4 := a_0 (HG3.out.trans hq4.gr); have hz4 := HG4.out.size; have hP4 := hq4.pt.lt; clear hq4 HQ3 HR3 HG3 HN k0 k1 k2 hf
   go_wp2_with (at_builtin; refine wpList_append_own _ rfl _ _ 24 rfl W.heap.size 61 i0 _ 5 72 underlying24 hi0 hz0 hz1 hz2 rfl d_ _ _ _ rfl (a_8 HR4.out.own zX) ⟨_, 0, none⟩ 1 1 [str y0, .int .i64 y1, str y2, .int .i64 y3, .slice none 0 0] rfl rfl (by exact f_k (b_d s_)) c_ x_ o_ m_ ?_; intro v4 w5 o4 g4 _; obtain ⟨B4, n4, rfl⟩ := a_i o4; have hbx : Below w4.heap.size w4 _ := Below.alloc (b_ _ w4) (l_ _) (.cells #[str y0, .int .i64 y1, str y2, .int .i64 y3, .slice none 0 0] 61); have hr := fun k e => ((HR4.out.below hbx).own.lt k e).1; have HR5 := a_0 (ItR.push (x := (⟨y0, y1, y2, y3, []⟩ : It)) (E := none) (ec := 0) (HR4.out.below hbx) (fun v _ => .inl rfl) g4 o4); have HQ5 := a_0 ((HQ4.out.below hbx).gr g4 (fun k e => by have := hr k e; omega)); have HG5 := a_0 ((HG4.out.trans (a_1 hbx)).andThen g4 (fun k e => .inl (hr k e))); clear o4 g4 hbx hr HQ4 HR4 HG4)
   refine ⟨⟨l ++ [(⟨y0, y1, y2, y3, []⟩ : It)], B4, n4, es ++ [(none, 0)], u, s_, HQ5, HR5, HG5, hg.lt hnx, m_, fun h0 => by have := (hg.mono h0).2; simp at this ⊢; omega, a_0 ⟨G, fun h0 => by have := (hg.mono h0).2; simp at this; omega, HE2.out⟩⟩, ?_⟩; rw [hms, d_H HQ5.out]
   split
   ·rename_i h0
    have := (hg.mono h0).2
    simp at this
    omega
   ·omega
  ·have hbf : isT ts t 5 b_t = false := by simpa using hb
   have hE : (l, t) = R := by
    rw [← hE]; unfold e_H; rw [if_neg hb]
   rw [hbf] at HIs; have HE2 := a_0 hE; clear HE hE
   go_wp2_with fail
   refine HIs.out.mono ?_; rintro e w2 ⟨rfl, hb2⟩; have HQ2 := a_0 (show QPost QR W P A ts cc t w2 from ⟨HS.out.below hb2, HG.out.trans (a_1 hb2)⟩); have HR2 := a_0 (HR.out.below hb2); clear hb2 HIs HS HR HG
   go_wp2
   go_ret
   rw [← HE2.out]; exact ⟨⟨_, _, _, rfl, HR2.out⟩, HQ2.out⟩
set_option maxRecDepth 512
theorem k_j (ts : List Tok) (wf : a_3 → Int) (t : QSt) : (b_5 ts wf t).1.expr = [] := by unfold b_5; simp only; split <;> rfl
theorem j_x (W : World) (P : Nat) (A : Option Addr) (ts : List Tok) (cc : Nat) (s : QSt) (hv : a_O ts = true) (hS : QPt QR W P A ts cc s) (hi : s.i < ts.length) (hl : ts.length ≤ 1000000) :
  Calls prog 199 #[a_G P, .int .i64 11] W fun e w' => (∃ B n es, e = .returned (.slice B (a_z true ts (b_n ts c_6) [] s).1.length n) ∧ ItR W.heap.size w' (a_z true ts (b_n ts c_6) [] s).1 B n es) ∧ QPost QR W P A ts cc (a_z true ts (b_n ts c_6) [] s).2 w' :=
 n_q 11 c_6 W P A ts cc s hv (fun W' t h ht => by
  have h1 := q_w 11 h_R c_6 d_ m_D (fun W => h_w 11 W) W' P A ts cc t hv h ht hl
  refine h1.mono ?_
  rintro e w' ⟨rfl, hq⟩
  exact ⟨by simp [itV, k_j], hq⟩) hS hi hl
theorem i_u (W : World) (P : Nat) (A : Option Addr) (ts : List Tok) (cc : Nat) (s : QSt) (hv : a_O ts = true) (hS : QPt QR W P A ts cc s) (hi : s.i < ts.length) (hl : ts.length ≤ 1000000) :
  Calls prog 199 #[a_G P, .int .i64 12] W fun e w' => (∃ B n es, e = .returned (.slice B (a_z true ts (b_n ts b_g) [] s).1.length n) ∧ ItR W.heap.size w' (a_z true ts (b_n ts b_g) [] s).1 B n es) ∧ QPost QR W P A ts cc (a_z true ts (b_n ts b_g) [] s).2 w' :=
 n_q 12 b_g W P A ts cc s hv (fun W' t h ht => by
  have h1 := q_w 12 f_i b_g d_ l_o (fun W => h_w 12 W) W' P A ts cc t hv h ht hl
  refine h1.mono ?_
  rintro e w' ⟨rfl, hq⟩
  exact ⟨by simp [itV, k_j], hq⟩) hS hi hl
set_option maxRecDepth 100000
theorem n_B (W : World) (P : Nat) (A : Option Addr) (ts : List Tok) (cc : Nat) (s : QSt) (hv : a_O ts = true) (hS : QPt QR W P A ts cc s) (hi : s.i < ts.length) (hl : ts.length ≤ 1000000) :
  Calls prog 198 #[.pointer (some ⟨P, 0, none⟩)] W fun e w' => e = .returned (.bool (a_e ts s && a_9 (tk ts (s.i + 1)) wEq)) ∧ Below W.heap.size W w' := by
 have HN := a_0 (e_u W P A ts cc s hS hi hl)
 have HIs := a_0 (fun (h : a_e ts s = true) (W' : World) (hb : Below W.heap.size W W') => o_o W' P A ts cc s (hS.below hb) 1 (b_r hv hi h) hl wEq)
 have H0 := a_0 (fun (h : a_e ts s = true) => (a_D h).1)
 clear hS
 generalize a_9 (tk ts (s.i + 1)) wEq = x at *
 generalize a_e ts s = v at *
 cases v with
 | false =>
  go_enter func198, ntmps198
  go_wp2_with fail
  refine HN.out.mono ?_
  rintro e w1 ⟨rfl, hb1⟩
  go_wp2
  exact m_6
 | true =>
  have h0 := H0.out s_
  have HI2 := a_0 (fun (W' : World) (hb : Below W.heap.size W W') => HIs.out s_ W' hb)
  rw [h0] at HI2
  clear h0 H0 HIs
  go_enter func198, ntmps198
  go_wp2_with fail
  refine HN.out.mono ?_
  rintro e w1 ⟨rfl, hb1⟩
  go_wp2_with fail
  refine (HI2.out w1 hb1).mono ?_
  rintro e w2 ⟨rfl, hb2⟩
  go_wp2
  go_ret
  exact ⟨s_, a_n hb2 hb1⟩
set_option maxRecDepth 512
theorem k_q {w : World} {g off : Nat} {l : List a_3} (hg : g < w.heap.size) (hc : ∀ j (h : j < l.length), w.cell? ⟨g, off + j, none⟩ = some (str l[j])) (k : Nat) : b_l w (some ⟨g, off, none⟩) (l.take k) :=
 .inr ⟨g, off, rfl, hg, fun i hi => by
  have h1 : i < l.length := by rw [List.length_take] at hi; omega
  rw [hc i h1, List.getElem_take]⟩
theorem h_r (x : a_3) (W : World) : Calls prog 104 #[str x] W fun e w' => e = .returned (.bool (nmB x)) ∧ Below W.heap.size W w' := d_N ⟨x.toArray⟩ W
theorem n_G (x : a_3) (W : World) (h : x.length ≤ maxLen) : Calls prog 60 #[str x] W fun e w' => e = .returned (.bool (qlB x)) ∧ Below W.heap.size W w' := c_h ⟨x.toArray⟩ W (by show x.toArray.size ≤ _; simpa using h)
theorem n_D (A : Option Addr) (l : List a_3) (c : Nat) (x : a_3) (W : World) (h : b_l W A l) (hl : l.length ≤ 1000000) : Calls prog 20 #[.slice A l.length c, str x] W fun e w' => e = .returned (.bool (decide (x ∈ l))) ∧ W = w' := by
 refine (e_x A l c ⟨x.toArray⟩ W h hl).mono ?_
 rintro e w' ⟨rfl, rfl⟩
 refine ⟨a_g ?_, rfl⟩
 show l.contains x = _
 cases hc : l.contains x
 ·symm; rw [decide_eq_false_iff_not]; intro hm; rw [← List.contains_iff_mem, hc] at hm; cases hm
 ·symm; rw [decide_eq_true_eq]; exact List.contains_iff_mem.1 hc
theorem l_R {l : List a_3} {k : Nat} (h : k < l.length) : i_j l k = if nmB l[k] = true then (if l[k] ∈ l.take k then 6 else 0) else 4 := by
 unfold i_j; rw [List.getD_eq_getElem?_getD, List.getElem?_eq_getElem h]; rfl
set_option maxRecDepth 100000
theorem c_n (A : Option Addr) (l : List a_3) (c m : Nat) (w : World) (h : b_l w A l) (hl : l.length ≤ 1000000) (hm : m ≤ 1) (hcp : l.length ≤ c) :
  Calls prog 63 #[.slice A l.length c, .int .i64 m] w fun e w' => e = .returned (.int .i64 (a_Y l m)) ∧ Below w.heap.size w w' := by
 have HA := a_0 h
 clear h
 by_cases h1 : l.length < m
 ·have HE := a_0 (show a_Y l m = 2 from by unfold a_Y; rw [if_pos (.inl h1)])
  go_enter func63, ntmps63
  go_wp2
  exact q_P
 by_cases h2 : 12 < l.length
 ·have HE := a_0 (show a_Y l m = 2 from by unfold a_Y; rw [if_pos (.inr h2)])
  go_enter func63, ntmps63
  go_wp2
  exact q_P
 have HE := a_0 (show a_Y l m = b_p (i_j l) l.length from by unfold a_Y; rw [if_neg o_])
 go_enter func63, ntmps63
 go_wp2
 go_loopw [5] (fun i wr => ∃ k : Nat, k ≤ l.length ∧ i = .int .i64 k ∧ Hid (∀ j, j < k → i_j l j = 0) ∧ Below w.heap.size w wr) (fun i _ => l.length - (intOf i).toNat)
 case atStart => exact ⟨0, o_, rfl, fun j hj => absurd hj (Nat.not_lt_zero _), b_ _ _⟩
 case round =>
  obtain ⟨k, hk, rfl, HZ, hbel⟩ := hrel
  by_cases hlt : k < l.length
  ·rcases HA.out.below hbel with e | ⟨g, off, rfl, hg, hc⟩
   ·exact absurd hlt e_
   have c0 := hc k hlt; have HC := a_0 (fun W => h_r l[k] W)
   have HH := a_0 (fun W (hb : Below wr.heap.size wr W) => by
    have := n_D (some ⟨g, off, none⟩) (l.take k) c l[k] W ((k_q hg hc k).below hb) (by rw [List.length_take]; omega); rw [List.length_take, Nat.min_eq_left (Nat.le_of_lt hlt)] at this
    exact this)
   have HT := a_0 (l_R hlt); have HC2 := a_0 (fun W (hb : Below wr.heap.size wr W) => (hb.cell (p := ⟨g, off + k, none⟩) hg).trans c0); refine v_K ?_; intro HF HN hkc; clear hc; generalize l[k] = x at *
   by_cases hx : nmB x = true
   rotate_left
   ·rw [if_neg hx] at HT
    have hxf : nmB x = false := by simpa using hx
    rw [hxf] at HC; have HR := a_0 (HF.out 4 HT.out d_)
    go_wp2_with (go_at_call 104; refine (HC.out _).mono ?_; rintro e w1 ⟨rfl, hb1⟩)
    exact s_c
   rw [hx] at HC; rw [if_pos hx] at HT
   by_cases hin : x ∈ l.take k
   ·rw [if_pos hin] at HT
    have hinb : decide (x ∈ l.take k) = true := by simpa using hin
    rw [hinb] at HH; have HR := a_0 (HF.out 6 HT.out d_); clear hin hinb hx
    go_wp2_with (go_at_call 104; refine (HC.out _).mono ?_; rintro e w1 ⟨rfl, hb1⟩; have c1 := HC2.out _ hb1)
    go_region_with (go_at_call 20; refine (HH.out _ (by first | exact hb1 | exact a_f hb1 1 | exact zX)).mono ?_; rintro e w' ⟨rfl, rfl⟩)
    all_goals (try go_wp2)
    all_goals
     go_ret
     exact ⟨a_k HR.out.symm, by first | exact a_n hb1 hbel | exact a_f (a_n hb1 hbel) 1 | exact zX⟩
   ·rw [if_neg hin] at HT
    have hinb : decide (x ∈ l.take k) = false := by simpa using hin
    rw [hinb] at HH; have HR := a_0 (HN.out HT.out); clear hin hinb hx
    go_wp2_with (go_at_call 104; refine (HC.out _).mono ?_; rintro e w1 ⟨rfl, hb1⟩; have c1 := HC2.out _ hb1)
    go_region_with (go_at_call 20; refine (HH.out _ (by first | exact hb1 | exact a_f hb1 1 | exact zX)).mono ?_; rintro e w' ⟨rfl, rfl⟩)
    all_goals (try go_wp2)
    all_goals exact ⟨⟨k + 1, o_, t_, HR, by first | exact a_n hb1 hbel | exact a_f (a_n hb1 hbel) 1 | exact zX⟩, w_⟩
  ·obtain rfl : k = l.length := by omega
   refine r_W ?_; intro HR
   go_wp2
   exact s_K
set_option maxRecDepth 512
theorem d_6 (x : a_3) (w : World) (hx : x.length ≤ maxLen) : Calls prog 65 #[str x] w fun e w' => e = .returned (.int .i64 (d_3 x)) ∧ Below w.heap.size w w' := by
 have H := a_0 (fun W => n_G x W hx)
 clear hx
 by_cases hs : x = m_z
 ·subst hs
  clear H
  go_enter func65, ntmps65
  go_wp2
  go_ret
  exact ⟨a_k d_, b_ _ _⟩
 have hne : (x == [115, 101, 108, 102]) = false := beq_eq_false_iff_ne.2 hs
 have HE := a_0 (show d_3 x = if qlB x = true then 0 else 4 from by unfold d_3; rw [if_neg hs])
 clear hs
 generalize qlB x = q at *
 go_enter func65, ntmps65
 cases q
 all_goals
  go_wp2_with (go_at_call 60; refine (H.out _).mono ?_; rintro e w1 ⟨rfl, hb1⟩)
  exact t_R
theorem o_r (op : Int) (src : a_3) (nA : Option Addr) (ln nC : Nat) (oA : Option Addr) (lo oC : Nat) (iA : Option Addr) (li iC : Nat) (cA : Option Addr) (lc cC : Nat) (w : World) (h0 : 0 ≤ op) (h1 : op ≤ 12) :
  Calls prog 59 #[.agg #[.int .i64 op, str src, .slice nA ln nC, .slice oA lo oC, .slice iA li iC, .slice cA lc cC]] w fun e w' => e = .returned (.bool (a_W op src ln lo li lc)) ∧ Below w.heap.size w w' := by
 refine u_k ?_; intro hop
 rcases hop with rfl | rfl | rfl | rfl | rfl | rfl | rfl | rfl | rfl | rfl | rfl | rfl | rfl
 all_goals
  go_enter func59, ntmps59
  go_wp2
  all_goals
   go_ret
   exact ⟨a_g (by simp_all [a_W] <;> first | omega | (cases lc <;> simp) | (cases src <;> simp)), zX⟩
theorem g_T (s : Stp) (a : Adr) (w : World) (h0 : 0 ≤ s.op) (h1 : s.op ≤ 12) :
  Calls prog 59 #[s.agg a] w fun e w' => e = .returned (.bool (a_W s.op s.src s.names.length s.others.length s.items.length s.cond.length)) ∧ Below w.heap.size w w' :=
 o_r _ _ _ _ _ _ _ _ _ _ _ _ _ _ w h0 h1
theorem f_f {w w1 : World} {a b c d e : Value} {t : TypeId} (h : Below (w.heap.size + 1) (w.alloc (.cells #[a, b, c, d, e] t)) w1) :
  w1.cell? ⟨w.heap.size, 0, none⟩ = some a ∧ w1.cell? ⟨w.heap.size, 1, none⟩ = some b ∧ w1.cell? ⟨w.heap.size, 2, none⟩ = some c ∧ w1.cell? ⟨w.heap.size, 3, none⟩ = some d ∧ w1.cell? ⟨w.heap.size, 4, none⟩ = some e ∧ w.heap.size < w1.heap.size := by
 have hheap := d_g h (Nat.lt_succ_self _)
 exact ⟨a_2 hheap 0, a_2 hheap 1, a_2 hheap 2, a_2 hheap 3, a_2 hheap 4, a_6 hheap⟩
def e_L (x : It) (fB cB nB eB : Bool) : Bool := (!fB && x.fn != 0) || (!cB && x.col != []) || (!nB && x.num != 0) || (!eB && x.expr.length != 0)
theorem l_I {its : List It} {i : Nat} (h : i < its.length) (fB cB nB eB : Bool) :
  d_v its i fB cB nB eB = if e_L its[i] fB cB nB eB = true then 8 else if nmB its[i].name = false then 4 else if its[i].name ∈ (its.take i).map It.name then 6 else 0 := by
 unfold d_v
 have e : its.getD i it0 = its[i] := by rw [List.getD_eq_getElem?_getD, List.getElem?_eq_getElem h]; rfl
 simp only [e]
 have hs : (e_L its[i] fB cB nB eB = true) ↔ (fB = false ∧ its[i].fn ≠ 0) ∨ (cB = false ∧ its[i].col ≠ []) ∨ (nB = false ∧ its[i].num ≠ 0) ∨ (eB = false ∧ its[i].expr ≠ []) := by
  unfold e_L
  simp [or_assoc]
 by_cases hb : e_L its[i] fB cB nB eB = true
 ·rw [if_pos hb, if_pos (hs.1 hb)]
 ·rw [if_neg hb, if_neg (fun h => hb (hs.2 h))]
def j_N (fB cB nB eB : Bool) : Prop := (fB = false ∧ cB = true ∧ nB = false ∧ eB = false) ∨ (fB = false ∧ cB = false ∧ nB = false ∧ eB = true) ∨ (fB = true ∧ cB = true ∧ nB = false ∧ eB = false) ∨ (fB = true ∧ cB = true ∧ nB = true ∧ eB = false)
set_option maxRecDepth 100000
theorem c_S (A : Option Addr) (its : List It) (c i : Nat) (fB cB nB eB : Bool) (w : World) (h : f_r w A its) (hi : i < its.length) (hl : its.length ≤ 1000000) (hk : j_N fB cB nB eB) :
  Calls prog 103 #[.slice A its.length c, .int .i64 i, .bool fB, .bool cB, .bool nB, .bool eB] w fun e w' => e = .returned (.int .i64 (d_v its i fB cB nB eB)) ∧ Below w.heap.size w w' := by
 rcases h with e | ⟨g, off, rfl, hg, hc⟩
 ·exact absurd hi e_
 obtain ⟨c0, c1, c2, c3, E, ec, c4, hE⟩ := hc i hi
 clear hE
 have HI := a_0 (fun k (hk : k < i) W (hb : Below w.heap.size w W) => (hb.cell (p := ⟨g, off + k * 5, none⟩) hg).trans (hc k o_).1)
 have HX := a_0 (l_I hi fB cB nB eB)
 have HM := a_0 (fun k (hk : k < i) (e : (its[k]'o_).name = its[i].name) => show its[i].name ∈ (its.take i).map It.name from by
  rw [← e]
  refine List.mem_map.2 ⟨its[k]'o_, ?_, rfl⟩
  rw [List.mem_iff_getElem]
  exact ⟨k, by rw [List.length_take]; omega, List.getElem_take⟩)
 have HO := a_0 (fun (hn : ∀ k (hk : k < i), (its[k]'o_).name ≠ its[i].name) (hm : its[i].name ∈ (its.take i).map It.name) => by
  obtain ⟨y, hy, e⟩ := List.mem_map.1 hm
  obtain ⟨k, hk, rfl⟩ := List.mem_iff_getElem.1 hy
  rw [List.length_take] at hk
  rw [List.getElem_take] at e
  exact hn k o_ e)
 have HC := a_0 (fun W => h_r its[i].name W)
 generalize d_v its i fB cB nB eB = r at *
 obtain ⟨x, hx⟩ : ∃ x, x = its[i] := ⟨_, rfl⟩
 rw [← hx] at c0 c1 c2 c3 c4 HX HM HO HC
 clear hx hc
 obtain ⟨xn, xf, xc, xm, xe⟩ := x
 simp only [e_L] at *
 generalize xe.length = le at *
 by_cases hsh : ((!fB && xf != 0) || (!cB && xc != []) || (!nB && xm != 0) || (!eB && le != 0)) = true
 ·have HR := a_0 (show r = 8 from by have := HX.out; rw [if_pos hsh] at this; exact this)
  clear HX HM HO HC HI
  rcases hk with ⟨rfl, rfl, rfl, rfl⟩ | ⟨rfl, rfl, rfl, rfl⟩ | ⟨rfl, rfl, rfl, rfl⟩ | ⟨rfl, rfl, rfl, rfl⟩
  all_goals
   go_enter func103, ntmps103
   go_wp2_with (exfalso; simp_all; done)
   all_goals first | (go_ret; exact ⟨a_k HR.out.symm, zX⟩) | (exfalso; simp_all; done)
 have HX2 := a_0 (show r = if nmB xn = false then 4 else if xn ∈ (its.take i).map It.name then 6 else 0 from by have := HX.out; rw [if_neg hsh] at this; exact this)
 clear HX
 have hshf : ((!fB && xf != 0) || (!cB && xc != []) || (!nB && xm != 0) || (!eB && le != 0)) = false := by simpa using hsh
 simp only [Bool.or_eq_false_iff] at hshf
 obtain ⟨⟨⟨p1, p2⟩, p3⟩, p4⟩ := hshf
 clear hsh
 have hgo : Calls prog 103 #[.slice (some ⟨g, off, none⟩) its.length c, .int .i64 i, .bool fB, .bool cB, .bool nB, .bool eB] w fun e w' => e = .returned (.int .i64 r) ∧ Below w.heap.size w w' := by
  cases hx : nmB xn
  ·rw [hx] at HC HX2
   have HR := a_0 (HX2.out.trans (if_pos rfl)); clear HX2 HM HO HI hx
   rcases hk with ⟨rfl, rfl, rfl, rfl⟩ | ⟨rfl, rfl, rfl, rfl⟩ | ⟨rfl, rfl, rfl, rfl⟩ | ⟨rfl, rfl, rfl, rfl⟩
   all_goals
    simp only [Bool.not_true, Bool.not_false, Bool.true_and, Bool.false_and] at p1 p2 p3 p4
    go_enter func103, ntmps103
    go_wp2_with (go_at_call 104; refine (HC.out _).mono ?_; rintro e w1 ⟨rfl, hb1⟩)
    all_goals first | (exfalso; simp_all; done) | skip
    go_ret
    exact ⟨a_k HR.out.symm, a_5 (a_4 (b_ (w.heap.size + 1) (w.alloc (.cells #[str xn, .int .i64 xf, str xc, .int .i64 xm, .slice E le ec] 61))) s_ hb1)⟩
  ·rw [hx] at HC HX2
   have HX3 := a_0 (HX2.out.trans (if_neg d_)); clear HX2 hx
   rcases hk with ⟨rfl, rfl, rfl, rfl⟩ | ⟨rfl, rfl, rfl, rfl⟩ | ⟨rfl, rfl, rfl, rfl⟩ | ⟨rfl, rfl, rfl, rfl⟩
   all_goals
    simp only [Bool.not_true, Bool.not_false, Bool.true_and, Bool.false_and] at p1 p2 p3 p4
    go_enter func103, ntmps103
    go_wp2_with (go_at_call 104; refine (HC.out _).mono ?_; rintro e w1 ⟨rfl, hb1⟩)
    all_goals first | (exfalso; simp_all; done) | skip
    have hbx := a_4 (b_ (w.heap.size + 1) (w.alloc (.cells #[str xn, .int .i64 xf, str xc, .int .i64 xm, .slice E le ec] 61))) s_ hb1
    go_loopw [14] (fun z wr => ∃ k : Nat, k ≤ i ∧ z = .int .i64 k ∧ Hid (∀ j (hj : j < k) (hi' : j < i), (its[j]'o_).name ≠ xn) ∧ Below (w.heap.size + 1) (w.alloc (.cells #[str xn, .int .i64 xf, str xc, .int .i64 xm, .slice E le ec] 61)) wr) (fun z _ => i - (intOf z).toNat)
    case atStart => exact ⟨0, o_, rfl, fun j hj => absurd hj (Nat.not_lt_zero _), hbx⟩
    case round =>
     obtain ⟨k, hk, rfl, HZ, hbel⟩ := hrel; have hbw := a_5 hbel; obtain ⟨m0, m1, m2, m3, m4, hlw⟩ := f_f hbel; have hgw : g < wr.heap.size := Nat.lt_of_lt_of_le hg hbw.size
     by_cases hlt : k < i
     ·have d0 := HI.out k hlt wr hbw
      have HMk := a_0 (HM.out k hlt)
      have HZk := a_0 (fun (hne : (its[k]'o_).name ≠ xn) => show ∀ j (hj : j < k + 1) (hi' : j < i), (its[j]'o_).name ≠ xn from fun j hj hi' => by
       by_cases e : j = k
       ·subst e; exact hne
       ·exact HZ.out j o_ hi')
      generalize (its[k]'o_).name = y at *
      by_cases hy : y = xn
      ·subst hy
       have HR := a_0 (HX3.out.trans (if_pos (HMk.out rfl))); clear HX3 HM HO HZ HI HMk HZk
       go_wp2
       try go_region
       all_goals (try go_wp2)
       all_goals (go_ret; exact ⟨a_k HR.out.symm, by first | exact hbw | exact a_f hbw 1 | exact zX⟩)
      ·have hyb : (y == xn) = false := beq_eq_false_iff_ne.2 hy
       have HR := a_0 (HZk.out hy); clear HX3 HM HO HZ HI HMk HZk
       go_wp2
       try go_region
       all_goals (try go_wp2)
       all_goals exact ⟨⟨k + 1, o_, t_, HR, by first | exact hbel | exact a_f hbel 1 | exact zX⟩, w_⟩
     ·obtain rfl : k = i := by omega
      have HR := a_0 (HX3.out.trans (if_neg (HO.out fun j hj => HZ.out j hj hj)))
      go_wp2
      exact s_z
 exact hgo
set_option maxRecDepth 512
def f_3 (its : List It) (fB cB nB eB : Bool) (own : It → Int) (i : Nat) : Int := if d_v its i fB cB nB eB = 0 then own (its.getD i it0) else d_v its i fB cB nB eB
theorem h_f {its : List It} {i : Nat} (h : i < its.length) (fB cB nB eB : Bool) (own : It → Int) : f_3 its fB cB nB eB own i = if d_v its i fB cB nB eB = 0 then own its[i] else d_v its i fB cB nB eB := by
 unfold f_3; rw [List.getD_eq_getElem?_getD, List.getElem?_eq_getElem h]; rfl
theorem f_G {its : List It} {m : Nat} {fB cB nB eB : Bool} {own : It → Int} (h : ¬ (its.length < m ∨ 12 < its.length)) : a_F its m fB cB nB eB own = b_p (f_3 its fB cB nB eB own) its.length := by
 unfold a_F; rw [if_neg h]; rfl
set_option maxRecDepth 100000
theorem g_Z (s : Stp) (a : Adr) (w : World) (hA : s.At w a) (ho : s.ok) :
  Calls prog 62 #[s.agg a] w fun e w' => e = .returned (.int .i64 (a_F s.items 1 false false false true (fun x => a_x x.expr))) ∧ Below w.heap.size w w' := by
 have HI := a_0 hA.items
 have HO := a_0 ho.item
 have hli := ho.items
 clear hA ho
 obtain ⟨op, src, names, others, its, cond⟩ := s
 obtain ⟨nA, nC, oA, oC, iA, iC, cA, cC⟩ := a
 simp only at HI HO hli ⊢
 show Calls prog 62 #[.agg #[.int .i64 op, str src, .slice nA names.length nC, .slice oA others.length oC, .slice iA its.length iC, .slice cA cond.length cC]] w _
 generalize names.length = ln
 generalize others.length = lo
 generalize cond.length = lc
 by_cases h1 : its.length < 1
 ·have HE := a_0 (show a_F its 1 false false false true (fun x => a_x x.expr) = 2 from by unfold a_F; rw [if_pos (.inl h1)])
  go_enter func62, ntmps62
  go_wp2
  all_goals first | (exfalso; omega) | skip
  exact t_T
 by_cases h2 : 12 < its.length
 ·have HE := a_0 (show a_F its 1 false false false true (fun x => a_x x.expr) = 2 from by unfold a_F; rw [if_pos (.inr h2)])
  go_enter func62, ntmps62
  go_wp2
  all_goals first | (exfalso; omega) | skip
  exact t_T
 have HE := a_0 (f_G (fB := false) (cB := false) (nB := false) (eB := true) (own := fun x => a_x x.expr) (its := its) (m := 1) o_)
 generalize a_F its 1 false false false true (fun x => a_x x.expr) = r at *
 have hbox : Below w.heap.size w (w.alloc (.cells #[.int .i64 op, str src, .slice nA ln nC, .slice oA lo oC, .slice iA its.length iC, .slice cA lc cC] 27)) := zX
 have HB := a_0 hbox
 clear hbox
 go_enter func62, ntmps62
 go_wp2
 all_goals first | (exfalso; omega) | skip
 go_loopw [3] (fun i wr => ∃ k : Nat, k ≤ its.length ∧ i = .int .i64 k ∧ Hid (∀ j, j < k → f_3 its false false false true (fun x => a_x x.expr) j = 0) ∧ Below (w.heap.size + 1) (w.alloc (.cells #[.int .i64 op, str src, .slice nA ln nC, .slice oA lo oC, .slice iA its.length iC, .slice cA lc cC] 27)) wr) (fun i _ => its.length - (intOf i).toNat)
 case atStart => exact ⟨0, o_, rfl, fun j hj => absurd hj (Nat.not_lt_zero _), b_ _ _⟩
 case round =>
  obtain ⟨k, hk, rfl, HZ, hbel⟩ := hrel
  have hbw := a_5 hbel
  obtain ⟨m0, m1, m2, m3, m4, m5, hlw⟩ := b_k hbel
  by_cases hlt : k < its.length
  ·rcases HI.out.below hbw with e | ⟨g, off, rfl, hg, hc⟩
   ·exact absurd hlt e_
   obtain ⟨c0, c1, c2, c3, E, ec, c4, hE⟩ := hc k hlt; have HIt := a_0 (c_S (some ⟨g, off, none⟩) its iC k false false false true wr (.inr ⟨g, off, rfl, hg, hc⟩) hlt hli (by simp [j_N])); have hok := HO.out _ (List.getElem_mem hlt); have HV := a_0 (fun W (hb : Below wr.heap.size wr W) => c_O E its[k].expr ec W (hE.below hb) hok.2 hok.1); have HT := a_0 (h_f hlt false false false true (fun x => a_x x.expr)); have HF := a_0 (fun x (e : f_3 its false false false true (fun x => a_x x.expr) k = x) (hx : x ≠ 0) => (HE.out.trans (c_b HZ.out (by rw [e]; exact hx) hlt)).trans e); have HN := a_0 (fun (e : f_3 its false false false true (fun x => a_x x.expr) k = 0) => e_N HZ.out e); have HC4 := a_0 (fun W (hb : Below wr.heap.size wr W) => (hb.cell (p := ⟨g, off + k * 5 + 4, none⟩) hg).trans c4); clear hc hE hok; generalize its[k].expr.length = le at *; generalize a_x its[k].expr = v at *; generalize d_v its k false false false true = u at *; generalize its[k] = x at *
   by_cases hu : u = 0
   rotate_left
   ·have hub : (u != 0) = true := by simpa using hu
    refine t_D ?_; intro HR; clear HT HF HN hu
    go_wp2_with (go_at_call 103; refine (HIt.out).mono ?_; rintro e w1 ⟨rfl, hb1⟩)
    go_ret
    exact ⟨a_k HR.out.symm, a_n hb1 hbw⟩
   subst hu; refine s_5 ?_; intro HT2
   by_cases hv : v = 0
   ·subst hv
    have HR := a_0 (HN.out HT2.out); clear HT HF HN HT2
    go_wp2_with (first
     | (go_at_call 103; refine (HIt.out).mono ?_; rintro e w1 ⟨rfl, hb1⟩; have hcur := a_4 hbel s_ hb1; obtain ⟨n0, n1, n2, n3, n4, n5, hlw1⟩ := b_k hcur; have d4 := HC4.out _ hb1)
     | (go_at_call 61; refine (HV.out _ hb1).mono ?_; rintro e w2 ⟨rfl, hb2⟩))
    exact ⟨⟨k + 1, o_, t_, HR, a_4 hcur s_ hb2⟩, w_⟩
   ·have hvb : (v != 0) = true := by simpa using hv
    have HR := a_0 (HF.out v HT2.out hv); clear HT HF HN HT2 hv
    go_wp2_with (first
     | (go_at_call 103; refine (HIt.out).mono ?_; rintro e w1 ⟨rfl, hb1⟩; have hcur := a_4 hbel s_ hb1; obtain ⟨n0, n1, n2, n3, n4, n5, hlw1⟩ := b_k hcur; have d4 := HC4.out _ hb1)
     | (go_at_call 61; refine (HV.out _ hb1).mono ?_; rintro e w2 ⟨rfl, hb2⟩))
    go_ret
    exact ⟨a_k HR.out.symm, a_n hb2 (a_n hb1 hbw)⟩
  ·obtain rfl : k = its.length := by omega
   refine r_W ?_; intro HR
   go_wp2
   exact s_z
end Go.Proofs.YtmbeeefkpgfgmaaGreatDoor
