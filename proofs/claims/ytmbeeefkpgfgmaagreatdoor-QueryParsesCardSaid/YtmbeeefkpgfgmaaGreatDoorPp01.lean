/- Parts of the proof. -/
import Derived.Test.YtmbeeefkpgfgmaaGreatDoorProg
import Derived.Below
import Derived.KernelRfl
import Derived.WalkKit
import Derived.WalkSpells
import Derived.Laws.BytesArg
import Derived.Deep.QuietTactic
import Derived.BigQuiet
import Derived.Lib.Bytealg
set_option linter.unusedVariables false
set_option linter.unusedSimpArgs false
namespace Go.Proofs.YtmbeeefkpgfgmaaGreatDoor
open Go.RowKit
theorem zX {B : Nat} {w w' : World} (h : Below B w w' := by (repeat (first | exact Below.refl _ _ | assumption | refine Below.drew ?_ | refine a_f ?_ _ | refine Below.alloc ?_ (by first | omega | (simp; done) | (simp; omega)) _ | refine Below.setCell ?_ (by first | omega | (simp; done) | (simp; omega)) _))) : Below B w w' := h
theorem _aa {G H : Prop} (k : H) (h : H → G := by
  have HPX := a_0 (show ∀ X : World, Below wr.heap.size wr X → PSt RT (X.setCell ⟨P, 1, none⟩ (.int .i64 ((j + 1 : Nat) : Int))) P A ts c (j + 1) d' 0 ∧ W.grownBy (X.setCell ⟨P, 1, none⟩ (.int .i64 ((j + 1 : Nat) : Int))) (some P) ∧ (X.setCell ⟨P, 1, none⟩ (.int .i64 ((j + 1 : Nat) : Int))).ownsRow W.heap.size 116 6 (.slice B es.length n) es.length (a_a es) from fun X hb => ⟨(HSx.out.below hb).setAt (j + 1), a_d (a_h HG.out hb) 1 _, a_v (a_8 HO.out hb) (a_d (g_ X (some P)) 1 (.int .i64 ((j + 1 : Nat) : Int))) hP⟩)
  intro k_
  revert HPX
  exact k_) : G := h k
theorem n_1 {G H : Prop} (k : H) (h : H → G := by
  have HO5 := a_0 (a_8 HO3.out hb5)
  have HN5 := a_0 ((hb5.block W.heap.size (Array.getElem?_eq_some_iff.1 HN3.out).1).trans HN3.out)
  have HS5 := a_0 (HS3.out.below hb5)
  have HG5 := a_0 (a_h HG3.out hb5)
  have hz5 := hb5.size
  intro k_
  revert HO5 HN5 HS5 HG5 hz5
  exact k_) : G := h k
theorem l_N {G H : Prop} (k : H) (h : H → G := by
  have h := g_Y s.op s.src a.nA s.names.length a.nC a.oA s.others.length a.oC a.iA s.items.length a.iC a.cA s.cond.length a.cC W (hU.below hb)
  intro k_
  revert h
  exact k_) : G := h k
theorem p_R {G H : Prop} (k : H) (h : H → G := by
  have hR := a_r hib.gr HR1.out o_
  obtain ⟨b0, b1, b2, b3, b4⟩ := hib.cells
  have r0 := a_2 hR 0
  have r1 := a_2 hR 1
  have r2 := a_2 hR 2
  have r3 := a_2 hR 3
  have r4 := a_2 hR 4
  have fr := b_1 hR
  intro k_
  revert hR b0 b1 b2 b3 b4 r0 r1 r2 r3 r4 fr
  exact k_) : G := h k
theorem r_q {G H : Prop} (k : H) (h : H → G := by
  have HRR := a_0 (heap_alloc_new W (.cells #[.int .i64 0, str [], .slice none 0 0, .slice none 0 0, .slice none 0 0, .slice none 0 0] 27))
  have HW1 := a_0 (World.grownBy_alloc W (.cells #[.int .i64 0, str [], .slice none 0 0, .slice none 0 0, .slice none 0 0, .slice none 0 0] 27) (some P))
  intro k_
  revert HRR HW1
  exact k_) : G := h k
theorem q_5 {G H : Prop} (k : H) (h : H → G := by
  have HS3 := a_0 (((HS.out.setAt (i + 1)).below zX).below hb3)
  have HG3 := a_0 (a_h (a_h (a_d (g_ W (some P)) 1 (.int .i64 ((i + 1 : Nat) : Int))) zX) hb3)
  have HO3 := a_0 (a_Z ho (b2 := W.heap.size) s_)
  intro k_
  revert HS3 HG3 HO3
  exact k_) : G := h k
theorem t_U {G H : Prop} (k : H) (h : H → G := by
  have hi2 := (a_V hv s1).lt h1i
  have hi3 := (a_H hv (a_7 ts s1).2 (k := 1) d_ wOn).lt hi2
  have hi4 := (b_x hv (f_B hv) true ([], []) (a_c ts (a_7 ts s1).2 1 wOn) hi3).lt hi3
  have HC1 := a_0 (fun (W' : World) (h : QPt QR W' P A ts cc s1) => c_V W' P A ts cc s1 h h1i hl0)
  have HC2 := a_0 (fun (W' : World) (h : QPt QR W' P A ts cc (a_7 ts s1).2) => e_S W' P A ts cc _ h hi2 hl0 wOn)
  have HC3 := a_0 (fun (W' : World) (h : QPt QR W' P A ts cc (a_c ts (a_7 ts s1).2 1 wOn)) => n_F W' P A ts cc _ hv h hi3 hl0)
  intro k_
  revert hi2 hi3 hi4 HC1 HC2 HC3
  exact k_) : G := h k
theorem q_E {G H : Prop} (k : H) (h : H → G := by
  have HO2 := a_0 (a_v (HPX.out w9 hcur).2.2 hgx hP)
  have HJ := a_0 (fun (o : Int) => n_x w2 B B2 es fs n n2 W.heap.size W.heap.size o HO2.out ho2 o_ o_)
  have HS2 := a_0 hs2
  have HG2 := a_0 hg2
  have HD2 := a_0 hD2
  have hz2 := hg2.size
  intro k_
  revert HO2 HJ HS2 HG2 HD2 hz2
  exact k_) : G := h k
theorem t_X {G H : Prop} (k : H) (h : H → G := by
  have r0 := a_2 hR 0
  have r1 := a_2 hR 1
  have r2 := a_2 hR 2
  have r3 := a_2 hR 3
  have r4 := a_2 hR 4
  intro k_
  revert r0 r1 r2 r3 r4
  exact k_) : G := h k
theorem v_D {G H : Prop} (k : H) (h : H → G := by
  have hbox : Below (w.heap.size + 1) (w.alloc (.cells #[.int .i64 op, str src, .slice nA ln nC, .slice oA lo oC, .slice iA its.length iC, .slice cA lc cC] 27)) (w.alloc (.cells #[.int .i64 op, str src, .slice nA ln nC, .slice oA lo oC, .slice iA its.length iC, .slice cA lc cC] 27)) := b_ _ _
  have L1 := a_0 (show ∀ W, Below (w.heap.size + 1) (w.alloc (.cells #[.int .i64 op, str src, .slice nA ln nC, .slice oA lo oC, .slice iA its.length iC, .slice cA lc cC] 27)) W → Calls prog 63 #[.slice nA ln nC, .int .i64 0] W fun e w' => e = .returned (.int .i64 e1) ∧ Below (w.heap.size + 1) (w.alloc (.cells #[.int .i64 op, str src, .slice nA ln nC, .slice oA lo oC, .slice iA its.length iC, .slice cA lc cC] 27)) w' from fun W hW => (HR1.out W (a_5 hW)).mono fun e w' ⟨h1, h2⟩ => ⟨h1, a_4 hW s_ h2⟩)
  have L2 := a_0 (show ∀ W, Below (w.heap.size + 1) (w.alloc (.cells #[.int .i64 op, str src, .slice nA ln nC, .slice oA lo oC, .slice iA its.length iC, .slice cA lc cC] 27)) W → Calls prog 63 #[.slice oA lo oC, .int .i64 0] W fun e w' => e = .returned (.int .i64 e2) ∧ Below (w.heap.size + 1) (w.alloc (.cells #[.int .i64 op, str src, .slice nA ln nC, .slice oA lo oC, .slice iA its.length iC, .slice cA lc cC] 27)) w' from fun W hW => (HR2.out W (a_5 hW)).mono fun e w' ⟨h1, h2⟩ => ⟨h1, a_4 hW s_ h2⟩)
  intro k_
  revert hbox L1 L2
  exact k_) : G := h k
theorem p_0 {G H : Prop} (k : H) (h : H → G := by
  have hmf : ∀ (fn : Fn) (first cap : Array Value) (w : World), (Instr.makeFunc fn first cap).run prog w = .ok (.func fn first cap) w := fun _ _ _ _ => rfl
  intro k_
  revert hmf
  exact k_) : G := h k
theorem _ab {G H : Prop} (k : H) (h : H → G := by
  have HO5 := a_0 (a_v HO3.out hg5 o_)
  have HN5 := a_0 ((hg5.block W.heap.size (Array.getElem?_eq_some_iff.1 HN3.out).1 i_).trans HN3.out)
  have HS5 := a_0 hS5
  have HG5 := a_0 (HG3.out.trans hg5)
  have hz5 := hg5.size
  intro k_
  revert HO5 HN5 HS5 HG5 hz5
  exact k_) : G := h k
theorem d_V {G H : Prop} (k : H) (h : H → G := by
  obtain ⟨a0, a1, a2, a3, a4, a5, af, hlB⟩ := b_s HI.out.box
  intro k_
  revert a0 a1 a2 a3 a4 a5 af hlB
  exact k_) : G := h k
theorem u_b {G H : Prop} (k : H) (h : H → G := by
  have HYB := a_0 (show ∀ w1 : World, Below (W.alloc (.cells #[.int .i64 21, .int .i64 0, .int .i64 0, str [], str x, .int .i64 0] 116)).heap.size (W.alloc (.cells #[.int .i64 21, .int .i64 0, .int .i64 0, str [], str x, .int .i64 0] 116)) w1 → w1.heap[W.heap.size]? = some (.cells #[.int .i64 21, .int .i64 0, .int .i64 0, str [], str x, .int .i64 0] 116 (0, 0)) from fun w1 hb => (hb.block W.heap.size s_).trans (heap_alloc_new _ _))
  intro k_
  revert HYB
  exact k_) : G := h k
theorem u_l {G H : Prop} (k : H) (h : H → G := by
  have HR := a_0 (show W2.heap[W.heap.size + 1]? = some (.cells #[.int .i64 0, str [], .slice none 0 0, .slice none 0 0, .slice none 0 0, .slice none 0 0] 27 (0, 0)) from by rw [hW2]; exact b_d s_)
  have HW := a_0 (show W.grownBy W2 (some P) from by rw [hW2]; exact (World.grownBy_alloc _ _ _).trans (World.grownBy_alloc _ _ _))
  have HQ3 := a_0 (show QPt QT W3 P A ts cc s from hS.below (by rw [hW3, hW2]; exact zX))
  intro k_
  revert HR HW HQ3
  exact k_) : G := h k
theorem o_Z {G H : Prop} (k : H) (h : H → G := by
  have HO3 := a_0 (a_Z ho3 hz2)
  have HS3 := a_0 (HS2.out.below hb3)
  have HG3 := a_0 (a_h HG2.out hb3)
  intro k_
  revert HO3 HS3 HG3
  exact k_) : G := h k
theorem t_S {G H : Prop} (k : H) (h : H → G := by
  have HC4 := a_0 (fun (W' : World) (h : QPt QR W' P A ts cc s4) => d_s W' P A ts cc s4 h hi4 hl0 a_M)
  have HE4 := a_0 (fun h => (b_3 (ts := ts) (s := s4) (k := 5) (x := a_M) h).1)
  have HNx := a_0 (fun h => b_e hv hi4 (k := 5) d_ (x := a_M) h)
  intro k_
  revert HC4 HE4 HNx
  exact k_) : G := h k
theorem m_W {G H : Prop} (k : H) (h : H → G := by
  have HW := a_0 hW
  have HA := a_0 hA
  have HO := a_0 ho
  have HOp := a_0 hop
  intro k_
  revert HW HA HO HOp
  exact k_) : G := h k
theorem u_g {G H : Prop} (k : H) (h : H → G := by
  have HC3 := a_0 (fun (W' : World) (h : QPt QR W' P A ts cc b) => e_u W' P A ts cc b h hi3 hl0)
  have HC4 := a_0 (fun (W' : World) (h : QPt QR W' P A ts cc b) => j_y W' P A ts cc b hv h hi3 hl0)
  have hi4 : (if a_e ts b = true then a_u true ts b else ([], b)).2.i < ts.length := by split; exact (b_x hv (c_s hv) true [] b hi3).lt hi3; exact hi3
  intro k_
  revert HC3 HC4 hi4
  exact k_) : G := h k
theorem t_C {G H : Prop} (k : H) (h : H → G := by
  obtain ⟨c0, c1, c2, c3⟩ := hS3.cells
  have hP3 := hS3.lt
  have hfr := hS3.free
  have HS4 := a_0 (hS3.setDepth d3)
  have HG4 := a_0 (a_d hg3 2 (.int .i64 (d3 : Int)))
  have HO4 := a_0 (a_v ho2 (a_d (g_ w3 (some P)) 2 (.int .i64 (d3 : Int))) hP)
  intro k_
  revert c0 c1 c2 c3 hP3 hfr HS4 HG4 HO4
  exact k_) : G := h k
theorem r_X {G H : Prop} (k : H) (h : H → G := by
  have HE := a_0 hG2
  have hsb : (x2 == 0 && ((tk ts k2).kind == 5 && (tk ts k2).text == [44])) = false := by rw [beq_eq_false_iff_ne.2 hx2]; rfl
  intro k_
  revert HE hsb
  exact k_) : G := h k
theorem t_h {G H : Prop} (k : H) (h : H → G := by
  have hlR := a_6 hR
  have hlB := a_6 hib.box
  have HF := a_0 (fun v0 v1 v2 v3 v4 => q_m (r := W.heap.size) hq (HG1.out.trans hib.gr) (l_ _) hP v0 v1 v2 v3 v4)
  intro k_
  revert hlR hlB HF
  exact k_) : G := h k
theorem _ac {G H : Prop} (k : H) (h : H → G := by
  have HF := a_0 (show ∀ (X : World) (y : a_3), Below wr.heap.size wr X → Calls prog 335 #[.pointer (some ⟨P, 0, none⟩), str y] X (fun e' w' => e' = .returned (.bool (a_9 (tk ts j) y)) ∧ Below X.heap.size X w') from fun X y hb => l_f X P A ts c j d' 0 (HSx.out.below hb) hjl hlen y)
  intro k_
  revert HF
  exact k_) : G := h k
theorem t_z {G H : Prop} (k : H) (h : H → G := by
  have b0 := a_2 hc.box 0
  have b1 := a_2 hc.box 1
  have b2 := a_2 hc.box 2
  have b3 := a_2 hc.box 3
  have b4 := a_2 hc.box 4
  have b5 := a_2 hc.box 5
  intro k_
  revert b0 b1 b2 b3 b4 b5
  exact k_) : G := h k
theorem u_r {G H : Prop} (k : H) (h : H → G := by
  have HS2 := a_0 (HPW.out.1.below hb2)
  have HG2 := a_0 (a_h HPW.out.2.1 hb2)
  have hn2 := (hb2.block W.heap.size (Array.getElem?_eq_some_iff.1 HPW.out.2.2).1).trans HPW.out.2.2
  have hz2' : W.heap.size + 1 ≤ w2.heap.size := (Array.getElem?_eq_some_iff.1 hn2).1
  have HN2 := a_0 hn2
  intro k_
  revert HS2 HG2 hn2 hz2' HN2
  exact k_) : G := h k
theorem p_6 {G H : Prop} (k : H) (h : H → G := by
  have HS5 := a_0 (HS4.out.below hb5)
  have HG5 := a_0 (a_h HG4.out hb5)
  intro k_
  revert HS5 HG5
  exact k_) : G := h k
theorem v_1 {G H : Prop} (k : H) (h : H → G := by
  have hP := hS.lt
  have hR : e_G (fun l i d => prs ts F l i d) ts x (i + 2) (d + 1) = (if a_9 (tk ts (i + 2)) [41] = true then g_g x [] 0 (i + 2) else d_f (fun j => prs ts F 0 j (d + 1)) x ts ts.length [] 0 (i + 2)) := by unfold e_G; rw [if_neg hday]
  intro k_
  revert hP hR
  exact k_) : G := h k
theorem t_V {G H : Prop} (k : H) (h : H → G := by
  have hlR := a_6 hR
  have hlB := a_6 hib.box
  have HF := a_0 (fun v0 v1 v2 v3 v4 => o_1 (r := W.heap.size) hq (HG1.out.trans hib.gr) (l_ _) hP v0 v1 v2 v3 v4)
  intro k_
  revert hlR hlB HF
  exact k_) : G := h k
theorem s_7 {G H : Prop} (k : H) (h : H → G := by
  have HC6 := a_0 (fun (W' : World) (h : QPt QR W' P A ts cc d) => i_u W' P A ts cc d hv h hi5 hl0)
  intro k_
  revert HC6
  exact k_) : G := h k
theorem u_S {G H : Prop} (k : H) (h : H → G := by
  have HS3 := a_0 ((((HS.out.below hb1).setAt (i + 1)).below zX).below hb3)
  have HG3 := a_0 (a_h (a_h (a_d (a_1 (r := some P) hb1) 1 (.int .i64 ((i + 1 : Nat) : Int))) zX) hb3)
  have HO3 := a_0 (a_Z ho (b2 := W.heap.size) m_)
  intro k_
  revert HS3 HG3 HO3
  exact k_) : G := h k
theorem v_L {G H : Prop} (k : H) (h : H → G := by
  have g3s : w3.grownBy (w3.setCell ⟨w1.heap.size, 4, none⟩ (.slice B ex.length n3)) (some w1.heap.size) := a_d (g_ _ _) _ _
  have HY := a_0 y3
  have HG3 := a_0 ((HG2.out.trans hq3.gr).andThen g3s (fun j e => .inl j_))
  have HQ3 := a_0 (hq3.pt.gr g3s (fun j e => by injection e with e; omega))
  have HF3 := a_0 (show b_b [ 116 ] (fun v => c_L v B ex) (w3.setCell ⟨w1.heap.size, 4, none⟩ (.slice B ex.length n3)) from b_b.of_own (a_v ho3 g3s o_) d_ (fun v h => c_X h))
  intro k_
  revert g3s HY HG3 HQ3 HF3
  exact k_) : G := h k
theorem q_4 {G H : Prop} (k : H) (h : H → G := by
  have hS1 := HS.out.below hb1
  obtain ⟨c0, c1, c2⟩ := hS1.cells
  have hP := hS1.lt
  intro k_
  revert hS1 c0 c1 c2 hP
  exact k_) : G := h k
theorem s_g {G H : Prop} (k : H) (h : H → G := by
  have hxb : (x == 0) = false := beq_eq_false_iff_ne.2 hx
  have hxn : (x != 0) = true := by simpa using hx
  intro k_
  revert hxb hxn
  exact k_) : G := h k
theorem _ad {G H : Prop} (k : H) (h : H → G := by
  have HF1 := a_0 (b_i (l := tI) d_ ho.own1)
  have HF2 := a_0 (b_i (l := tI) d_ ho.own2)
  have hc1 := b_7 ho.own1
  have hc2 := b_7 ho.own2
  intro k_
  revert HF1 HF2 hc1 hc2
  exact k_) : G := h k
theorem u_O {G H : Prop} (k : H) (h : H → G := by
  have hoe := a_v HOw.out hg2 (show P < W.heap.size + 1 by omega)
  have HN2 := a_0 ((hg2.block W.heap.size o_ i_).trans HNr.out)
  have HS2 := a_0 hS2
  have HG2 := a_0 (HGr.out.trans hg2)
  have HD2 := a_0 hD2
  have hgw := hg2.size
  intro k_
  revert hoe HN2 HS2 HG2 HD2 hgw
  exact k_) : G := h k
theorem v_r {G H : Prop} (k : H) (h : H → G := by
  have hQ2 := HS.out.below hb2
  have hQ2e := hQ2
  obtain ⟨k0, k1, k2⟩ := hQ2.cells
  have hf := hQ2.free
  have hP2 := hQ2.lt
  have g3 : w2.grownBy (w2.setCell ⟨P, 1, none⟩ (.int .i64 ((t.i + 1 : Nat) : Int))) (some P) := a_d (g_ w2 (some P)) 1 (.int .i64 ((t.i + 1 : Nat) : Int))
  have HQ3 := a_0 (show QPt QR (w2.setCell ⟨P, 1, none⟩ (.int .i64 ((t.i + 1 : Nat) : Int))) P A ts cc ⟨t.i + 1, 0⟩ from by have := hQ2.setAt (t.i + 1); rw [he0] at this; exact this)
  intro k_
  revert hQ2 hQ2e k0 k1 k2 hf hP2 g3 HQ3
  exact k_) : G := h k
theorem v_4 {G H : Prop} (k : H) (h : H → G := by
  have z1 := a_6 rr1
  have l1 : W.heap.size < w1.heap.size := by omega
  have HG1 := a_0 (((World.grownBy_alloc W _ _).trans (World.grownBy_alloc _ _ _)).trans hq1.gr)
  have HR1 := a_0 rr1
  have HQ1 := a_0 hq1.pt
  intro k_
  revert z1 l1 HG1 HR1 HQ1
  exact k_) : G := h k
theorem w_0 {G H : Prop} (k : H) (h : H → G := by
  obtain ⟨k0, k1, k2⟩ := HQ.out.cells
  have hf := HQ.out.free
  have hPr := HQ.out.lt
  have g7 : w9.grownBy (w9.setCell ⟨P, 1, none⟩ (.int .i64 ((s4.i + 1 : Nat) : Int))) (some P) := a_d (g_ w9 (some P)) 1 (.int .i64 ((s4.i + 1 : Nat) : Int))
  have HQ7 := a_0 (show QPt QR (w9.setCell ⟨P, 1, none⟩ (.int .i64 ((s4.i + 1 : Nat) : Int))) P A ts cc ⟨s4.i + 1, 0⟩ from by have := HQ.out.setAt (s4.i + 1); rw [h40] at this; exact this)
  intro k_
  revert k0 k1 k2 hf hPr g7 HQ7
  exact k_) : G := h k
theorem v_S {G H : Prop} (k : H) (h : H → G := by
  have HR1 := a_0 (fun W (hb : Below w.heap.size w W) => c_n a.nA s.names a.nC 0 W (hA.names.below hb) ho.names o_ hA.cn)
  have HR2 := a_0 (fun W (hb : Below w.heap.size w W) => c_n a.oA s.others a.oC 0 W (hA.others.below hb) ho.others o_ hA.co)
  have HH0 := a_0 (fun (x : a_3) W (hb : Below w.heap.size w W) => n_D a.nA s.names a.nC x W (hA.names.below hb) ho.names)
  intro k_
  revert HR1 HR2 HH0
  exact k_) : G := h k
theorem r_Y {G H : Prop} (k : H) (h : H → G := by
  have hR : w1.heap[W.heap.size]? = _ := a_r hq1.gr HRR.out o_
  obtain ⟨r0, r1, r2, r3, r4, r5, fr, hlR⟩ := b_s hR
  intro k_
  revert hR r0 r1 r2 r3 r4 r5 fr hlR
  exact k_) : G := h k
theorem w_u {G H : Prop} (k : H) (h : H → G := by
  obtain ⟨k0, k1, k2⟩ := hQ6.cells
  have hf := hQ6.free
  have hP6 := hQ6.lt
  have g7 : w6.grownBy (w6.setCell ⟨P, 1, none⟩ (.int .i64 ((u.i + 1 : Nat) : Int))) (some P) := a_d (g_ w6 (some P)) 1 (.int .i64 ((u.i + 1 : Nat) : Int))
  have HQ7 := a_0 (show QPt QR (w6.setCell ⟨P, 1, none⟩ (.int .i64 ((u.i + 1 : Nat) : Int))) P A ts cc ⟨u.i + 1, 0⟩ from by have := hQ6.setAt (u.i + 1); rw [he0] at this; exact this)
  intro k_
  revert k0 k1 k2 hf hP6 g7 HQ7
  exact k_) : G := h k
theorem t_y {G H : Prop} (k : H) (h : H → G := by
  have HE := a_0 hE
  have hsb : (e == 0 && ((tk ts j).kind == 5 && (tk ts j).text == [41])) = false := by rw [beq_eq_false_iff_ne.2 he]; rfl
  intro k_
  revert HE hsb
  exact k_) : G := h k
theorem u_z {G H : Prop} (k : H) (h : H → G := by
  have bp1 : w1.heap[W.heap.size]? = _ := a_r hq1.gr (b_O (heap_alloc_new W _) _) o_
  have rr1 : w1.heap[W.heap.size + 1]? = _ := a_r hq1.gr (b_d s_) o_
  have e1 := a_2 bp1 0
  intro k_
  revert bp1 rr1 e1
  exact k_) : G := h k
theorem v_y {G H : Prop} (k : H) (h : H → G := by
  have m6 : w6.cell? ⟨w4.heap.size, 1, none⟩ = some (str tk1) := hg6.cell hm5 (by intro e; injection e with e; simp at e; omega)
  have hz6 := hg6.size
  obtain ⟨c0, c1, c2, c3⟩ := hS6.cells
  have hP6 := hS6.lt
  have hfr := hS6.free
  have HS7 := a_0 (hS6.setDepth d)
  have HG7 := a_0 (a_d (HG5.out.trans hg6) 2 (.int .i64 (d : Int)))
  have HO7 := a_0 (a_v (a_v HO5.out hg6 hP) (a_d (g_ w6 (some P)) 2 (.int .i64 (d : Int))) hP)
  intro k_
  revert m6 hz6 c0 c1 c2 c3 hP6 hfr HS7 HG7 HO7
  exact k_) : G := h k
theorem _ae {G H : Prop} (k : H) (h : H → G := by
  have HZ := i_H k m x
  have HY := a_0 (c_j nm)
  intro k_
  revert HZ HY
  exact k_) : G := h k
theorem t_b {G H : Prop} (k : H) (h : H → G := by
  have hmm := @run_makeMap prog
  have hm := World.ownsMap_made (H := Unit) w prog 9 (plainElem prog 3)
  intro k_
  revert hmm hm
  exact k_) : G := h k
theorem w_F {G H : Prop} (k : H) (h : H → G := by
  have p1 := a_v h.own1 hg o_
  have p2 := a_v h.own2 hg o_
  have hW0 := h.pb.gr.trans hg
  have z0 := h.pb.gr.size
  have b3 := a_r hg h.box o_
  have b4 := (g4.block Bs (a_6 b3) (fun e => by have := hr Bs e.symm; omega)).trans b3
  have q3 := a_r hg h.pb.box o_
  have q4 := (g4.block Bp (a_6 q3) (fun e => by have := hr Bp e.symm; omega)).trans q3
  intro k_
  revert p1 p2 hW0 z0 b3 b4 q3 q4
  exact k_) : G := h k
theorem s_1 {G H : Prop} (k : H) (h : H → G := by
  have hz1 := hb1.size
  have hS1 := HS.out.below hb1
  intro k_
  revert hz1 hS1
  exact k_) : G := h k
theorem r_T {G H : Prop} (k : H) (h : H → G := by
  have hd3 : d3 ≤ 1000000 := by rcases hD2 with ⟨_, q2, _⟩ | ⟨_, _, _, q2⟩ <;> omega
  intro k_
  revert hd3
  exact k_) : G := h k
theorem v_8 {G H : Prop} (k : H) (h : H → G := by
  have h1 := (HS.out.below (Below.alloc (b_ _ W) (l_ _) _)).below hb
  have h2 := a_h (a_h (g_ W (some P)) (Below.alloc (b_ _ W) (l_ _) _)) hb
  have h3 := HYB.out w1 hb
  intro k_
  revert h1 h2 h3
  exact k_) : G := h k
theorem w_q {G H : Prop} (k : H) (h : H → G := by
  have hV : Below w1.heap.size w1 ((w1.alloc (.cells #[.func (.func 37) #[] #[a_N w.heap.size]] 73)).alloc (.cells #[.func (.func 39) #[] #[a_N w1.heap.size, a_N w.heap.size], .func (.func 48) #[] #[a_N w.heap.size]] 73)) := zX
  have T2 := H2.out w1 _ hbx hw1 hV m_ (by simp [go_sem])
  have T4 := H4.out w1 _ hbx hw1 hV
  intro k_
  revert hV T2 T4
  exact k_) : G := h k
theorem p_5 {G H : Prop} (k : H) (h : H → G := by
  have HF3 := a_0 ho.firmT
  have hc3 := b_7 ho.own
  intro k_
  revert HF3 hc3
  exact k_) : G := h k
theorem p_T {G H : Prop} (k : H) (h : H → G := by
  have h1 := h.pb.lt
  have h2 := h.pb.le
  have h3 := h.ne
  intro k_
  revert h1 h2 h3
  exact k_) : G := h k
theorem v_7 {G H : Prop} (k : H) (h : H → G := by
  have k0 := a_2 HY.out 0
  have k1 := a_2 HY.out 1
  have k2 := a_2 HY.out 2
  have k3 := a_2 HY.out 3
  have k4 := a_2 HY.out 4
  intro k_
  revert k0 k1 k2 k3 k4
  exact k_) : G := h k
theorem v_3 {G H : Prop} (k : H) (h : H → G := by
  have hi5 := (a_H hv s4 (k := 5) d_ a_M).lt hi4
  have HC5 := a_0 (fun (W' : World) (h : QPt QR W' P A ts cc s4) => d_F W' P A ts cc _ h hi4 hl0 a_M)
  intro k_
  revert hi5 HC5
  exact k_) : G := h k
theorem _af {G H : Prop} (k : H) (h : H → G := by
  have hi5 := (a_H hv b (k := 5) d_ a_M).lt hi4
  have HC5 := a_0 (fun (W' : World) (h : QPt QR W' P A ts cc b) => d_F W' P A ts cc _ h hi4 hl0 a_M)
  intro k_
  revert hi5 HC5
  exact k_) : G := h k
theorem t_N {G H : Prop} (k : H) (h : H → G := by
  have HN := a_0 (fun (W' : World) (hb : Below W.heap.size W W') => g_F W' P A ts cc s (hS.below hb) hi hl)
  intro k_
  revert HN
  exact k_) : G := h k
theorem v_Z {G H : Prop} (k : H) (h : H → G := by
  have HF := a_0 (show ∀ (X : World) (y : a_3), Below wr.heap.size wr X → Calls prog 291 #[.pointer (some ⟨P, 0, none⟩), str y] X (fun e' w' => e' = .returned (.bool (c_k (tk ts j) y)) ∧ Below X.heap.size X w') from fun X y hb => m_7 X P A ts c j d' 0 (HSx.out.below hb) hjl hlen y)
  intro k_
  revert HF
  exact k_) : G := h k
theorem t_9 {G H : Prop} (k : H) (h : H → G := by
  have HI := a_0 (HI5.out.step (a_1 hb))
  have HQ := a_0 (HQ5.out.below hb)
  intro k_
  revert HI HQ
  exact k_) : G := h k
theorem w_s {G H : Prop} (k : H) (h : H → G := by
  have f1 : (((⟨#[48, 48, 48, 48, 45, 48, 48, 45, 48, 48, 84, 48, 48, 58, 48, 48]⟩ : ByteArray)[k].toNat : Int) == 48) = false := by simp; omega
  have f2 : (((⟨#[48, 48, 48, 48, 45, 48, 48, 45, 48, 48, 84, 48, 48, 58, 48, 48]⟩ : ByteArray)[k].toNat : Int) != 48) = true := by simp; omega
  intro k_
  revert f1 f2
  exact k_) : G := h k
theorem v_p {G H : Prop} (k : H) (h : H → G := by
  have f1 : (((⟨#[48, 48, 48, 48, 45, 48, 48, 45, 48, 48, 84, 48, 48, 58, 48, 48]⟩ : ByteArray)[k].toNat : Int) == 48) = true := by simp [h48]
  have f2 : (((⟨#[48, 48, 48, 48, 45, 48, 48, 45, 48, 48, 84, 48, 48, 58, 48, 48]⟩ : ByteArray)[k].toNat : Int) != 48) = false := by simp [h48]
  intro k_
  revert f1 f2
  exact k_) : G := h k
theorem w_t {G H : Prop} (k : H) (h : H → G := by
  have hw1 : IntKind.i64.wrap ((i : Int) + (k : Int)) = (i : Int) + (k : Int) := IntWalk.i64_in _ o_
  have hw2 : IntKind.i64.wrap ((ts.length : Int) - 1) = (ts.length : Int) - 1 := IntWalk.i64_in _ o_
  have hmin : min ((i : Int) + (k : Int)) ((ts.length : Int) - 1) = (i : Int) + (k : Int) := by omega
  intro k_
  revert hw1 hw2 hmin
  exact k_) : G := h k
theorem t_G {G H : Prop} (k : H) (h : H → G := by
  obtain ⟨i0, hi0, hz0, hz1, hz2⟩ := info_parts Tryz.info_it
  obtain ⟨I, n, es, hC⟩ := hC
  have h1 := hC.pb.lt
  have h2 := hC.pb.le
  have h3 := hC.ne
  intro k_
  revert i0 hi0 hz0 hz1 hz2 I n es hC h1 h2 h3
  exact k_) : G := h k
theorem w_v {G H : Prop} (k : H) (h : H → G := by
  have H4 := a_0 (fun (w1 V : World) (hbx : b_E w1 w.heap.size s a) (hw1 : Below w.heap.size w w1) (hV : Below w1.heap.size w1 V) => m_Y w.heap.size s a V (HW.out.below (a_n hV hw1)) (hbx.below hV) (HA.out.below (a_n hV hw1)) HO.out (by rw [HOp.out]; omega))
  intro k_
  revert H4
  exact k_) : G := h k
theorem v_I {G H : Prop} (k : H) (h : H → G := by
  have g1 := a_V hv s
  have g2 := g1.trans (a_H hv (a_7 ts s).2 (k := 5) d_ wEq)
  have hi1 := g1.lt hi
  have hi2 := g2.lt hi
  have HN := a_0 (g_F W P A ts cc s hS hi hl)
  have HSy := a_0 (fun (W' : World) (h : QPt QT W' P A ts cc (a_7 ts s).2) => e_2 W' P A ts cc _ h hi1 hl wEq)
  intro k_
  revert g1 g2 hi1 hi2 HN HSy
  exact k_) : G := h k
theorem t_K {G H : Prop} (k : H) (h : H → G := by
  have HC := a_0 (fun W (hW : Below w.heap.size w W) => i_k _ _ W (HA.out.below hW) HO.out)
  intro k_
  revert HC
  exact k_) : G := h k
theorem _ag {G H : Prop} (k : H) (h : H → G := by
  obtain ⟨i0, hi0, hz0, hz1, hz2⟩ := info_parts Tryz.info_nd
  intro k_
  revert i0 hi0 hz0 hz1 hz2
  exact k_) : G := h k
theorem t_Q {G H : Prop} (k : H) (h : H → G := by
  have hvt : a_O ts = true := by simpa using hv
  have hE : h_N ts = 0 := by unfold h_N; rw [hvt]; rfl
  intro k_
  revert hvt hE
  exact k_) : G := h k
theorem u_k {G H : Prop} (k : H) (h : H → G := by
  have hop : op = 0 ∨ op = 1 ∨ op = 2 ∨ op = 3 ∨ op = 4 ∨ op = 5 ∨ op = 6 ∨ op = 7 ∨ op = 8 ∨ op = 9 ∨ op = 10 ∨ op = 11 ∨ op = 12 := by omega
  intro k_
  revert hop
  exact k_) : G := h k
theorem w_a {G H : Prop} (k : H) (h : H → G := by
  have HO2 := a_0 (a_Z ho2 (b2 := w.heap.size) m_)
  have HO2b := a_0 (a_Z ho2 (b2 := w1.heap.size + 1) s_)
  have HNm := a_0 (show prs ts ((ts.length - i) * 10 + 9) 0 i 0 = .ok es j → b_9 es from fun h => by rw [h] at hf; exact hf.2.2.2)
  have HS2 := a_0 hS2
  have HD2 := a_0 hD2
  intro k_
  revert HO2 HO2b HNm HS2 HD2
  exact k_) : G := h k
theorem v_s {G H : Prop} (k : H) (h : H → G := by
  have HO := a_0 (d_o (w.alloc (.cells #[.int .i64 v.kind, .int .i64 v.num, str v.text] 114)) (base := w.heap.size) (e := 116) (size := 6) (n := 1) (cur := #[.int .i64 0, .int .i64 v.kind, .int .i64 v.num, str v.text, str [], .int .i64 0]) s_ s_ d_)
  intro k_
  revert HO
  exact k_) : G := h k
theorem p_Z {G H : Prop} (k : H) (h : H → G := by
  have hg : g < W.heap.size := Nat.lt_trans hgP hP
  intro k_
  revert hg
  exact k_) : G := h k
theorem u_0 {G H : Prop} (k : H) (h : H → G := by
  have HI1 := a_0 (HI.out.step HQ3.out (a_1 hb1))
  have HQ1 := a_0 (HQ3.out.below hb1)
  have e1 := a_2 HI1.out.pb.box 0
  intro k_
  revert HI1 HQ1 e1
  exact k_) : G := h k
theorem v_o {G H : Prop} (k : H) (h : H → G := by
  have hcur := b_ (w.heap.size + 1) (w.alloc (i_b op k m x nm a))
  have b0 : (op == 0) = false := by simpa using h0
  have b1 : (op == 1) = false := by simpa using h1
  have b20 : (op == 20) = false := by simpa using h20
  have b21 : (op == 21) = false := by simpa using h21
  intro k_
  revert hcur b0 b1 b20 b21
  exact k_) : G := h k
theorem v_t {G H : Prop} (k : H) (h : H → G := by
  have g : w1.grownBy (((((w1.setCell ⟨r, 0, none⟩ v0).setCell ⟨r, 1, none⟩ v1).setCell ⟨r, 2, none⟩ v2).setCell ⟨r, 3, none⟩ v3).setCell ⟨r, 4, none⟩ v4) (some r) := a_d (a_d (a_d (a_d (a_d (g_ _ _) _ _) _ _) _ _) _ _) _ _
  intro k_
  revert g
  exact k_) : G := h k
theorem w_d {G H : Prop} (k : H) (h : H → G := by
  have c : decide (23 < hour) = true ∨ (decide (23 < hour) = false ∧ decide (59 < minute) = true) ∨ (decide (23 < hour) = false ∧ decide (59 < minute) = false ∧ decide (575999999 < N * 1440 + hour * 60 + minute) = true) := by simp; omega
  intro k_
  revert c
  exact k_) : G := h k
theorem u_M {G H : Prop} (k : H) (h : H → G := by
  have hd3 : d3 ≤ 1000000 := by omega
  have HS4 := a_0 (HSr.out.setDepth d3)
  have HG4 := a_0 (a_d HGr.out 2 (.int .i64 (d3 : Int)))
  intro k_
  revert hd3 HS4 HG4
  exact k_) : G := h k
theorem _ah {G H : Prop} (k : H) (h : H → G := by
  have HF := a_0 (fun v0 v1 v2 v3 v4 v5 => c_8 (l := tI) d_ (r := W.heap.size) ⟨_, hR⟩ hq1.pt (HW1.out.trans hq1.gr) (l_ _) hP ⟨o1, o2, o3, o4, o5, o6⟩ ⟨nA, nC, oA, oC, iA, iC, cA, cC⟩ (fun v hv => hx v hv) v0 v1 v2 v3 v4 v5)
  intro k_
  revert HF
  exact k_) : G := h k
theorem t_q {G H : Prop} (k : H) (h : H → G := by
  have hPr := HSx.out.lt
  have hWw := HG.out.size
  have hcur := b_ wr.heap.size wr
  intro k_
  revert hPr hWw hcur
  exact k_) : G := h k
theorem w_D {G H : Prop} (k : H) (h : H → G := by
  have hb1 : Below w.heap.size w w1 := ((b_ _ w).alloc (l_ _) _).grown g1 s_ (fun k hk => by injection hk with hk; omega)
  have hb2 : Below w.heap.size w w2 := (hb1.alloc o_ _).grown g2 m_ (fun k hk => by injection hk with hk; omega)
  intro k_
  revert hb1 hb2
  exact k_) : G := h k
theorem w_z {G H : Prop} (k : H) (h : H → G := by
  have HPv := a_0 (show paS ts (i : Int) = (if a_x es = 0 then (es, (j : Int), 0) else ([], (j : Int), a_x es)) from by rw [HP.out, HR.out])
  have hbw3 : Below w.heap.size w w3 := hbw.trans (hb3.mono (by have := hbw.size; omega))
  intro k_
  revert HPv hbw3
  exact k_) : G := h k
theorem v_X {G H : Prop} (k : H) (h : H → G := by
  have HT := a_0 (o_X hlt)
  have HF := a_0 (fun x (e : h_g ss k = x) (hx : x ≠ 0) => (HE.out.trans (c_b HZ.out (by rw [e]; exact hx) hlt)).trans e)
  have HN := a_0 (fun (e : h_g ss k = 0) => e_N HZ.out e)
  intro k_
  revert HT HF HN
  exact k_) : G := h k
theorem w_o {G H : Prop} (k : H) (h : H → G := by
  have hW1 := World.grownBy_alloc W (.cells #[str [], .int .i64 0, str [], .int .i64 0, .slice none 0 0] 61) (some P)
  have HRR := a_0 (heap_alloc_new W (.cells #[str [], .int .i64 0, str [], .int .i64 0, .slice none 0 0] 61))
  intro k_
  revert hW1 HRR
  exact k_) : G := h k
theorem s_h {G H : Prop} (k : H) (h : H → G := by
  have HI := a_0 (HI5.out.step hq.gr)
  have HQ := a_0 hq.pt
  intro k_
  revert HI HQ
  exact k_) : G := h k
theorem q_r {G H : Prop} (k : H) (h : H → G := by
  obtain ⟨k0, k1, k2, k3, ⟨f0, f1, f2, f3⟩, hz, hb0⟩ := v_Q (by simpa using hb)
  intro k_
  revert k0 k1 k2 k3 f0 f1 f2 f3 hz hb0
  exact k_) : G := h k
theorem v_w {G H : Prop} (k : H) (h : H → G := by
  have p2 : w2.heap[Bp]? = _ := a_r hq2.gr (((Below.alloc (b_ _ w1) (l_ _) _).block Bp l2).trans HP1.out) o_
  have x2 : w2.heap[w1.heap.size]? = _ := a_r hq2.gr (heap_alloc_new w1 _) o_
  have e2 := a_2 p2 0
  intro k_
  revert p2 x2 e2
  exact k_) : G := h k
theorem v_n {G H : Prop} (k : H) (h : H → G := by
  have HRs := a_0 (fun (X : World) => c_a ⟨(tk ts i).text.toArray⟩ X)
  have HNm := a_0 (fun (X : World) => b_W ⟨(tk ts i).text.toArray⟩ X)
  have hbs : bs ⟨(tk ts i).text.toArray⟩ = (tk ts i).text := rfl
  intro k_
  revert HRs HNm hbs
  exact k_) : G := h k
theorem v_K {G H : Prop} (k : H) (h : H → G := by
  have HF := a_0 (fun x (e : i_j l k = x) (hx : x ≠ 0) => (HE.out.trans (c_b HZ.out (by rw [e]; exact hx) hlt)).trans e)
  have HN := a_0 (fun (e : i_j l k = 0) => e_N HZ.out e)
  have hkc : k ≤ c := by omega
  intro k_
  revert HF HN hkc
  exact k_) : G := h k
theorem _ai {G H : Prop} (k : H) (h : H → G := by
  have HX2 := a_0 x2
  have HQ2 := a_0 hq2.pt
  have HG2 := a_0 ((HG1.out.trans (World.grownBy_alloc w1 _ _)).trans hq2.gr)
  intro k_
  revert HX2 HQ2 HG2
  exact k_) : G := h k
theorem v_A {G H : Prop} (k : H) (h : H → G := by
  have HC3 := a_0 (fun (W' : World) (h : QPt QR W' P A ts cc b) => n_B W' P A ts cc b hv h hi3 hl0)
  have HC4 := a_0 (fun (W' : World) (h : QPt QR W' P A ts cc b) => j_x W' P A ts cc b hv h hi3 hl0)
  intro k_
  revert HC3 HC4
  exact k_) : G := h k
theorem s_e {G H : Prop} (k : H) (h : H → G := by
  have HO := a_0 ho
  have HSx := a_0 hs
  have HG := a_0 hg
  intro k_
  revert HO HSx HG
  exact k_) : G := h k
theorem v_E {G H : Prop} (k : H) (h : H → G := by
  have HN := a_0 (show Calls prog 113 #[.pointer (some ⟨P, 0, none⟩)] W (fun e' w' => e' = .returned (.agg #[.int .i64 tk0, str tk1, .int .i64 tk2, .int .i64 tk3]) ∧ Below W.heap.size W w') from HN.out)
  intro k_
  revert HN
  exact k_) : G := h k
theorem v_0 {G H : Prop} (k : H) (h : H → G := by
  have hfact := fun j (hj : j < ts.length) => b_6 hv F 0 j (d + 1) hj (fun e => absurd e o_)
  have HFa := a_0 hfact
  intro k_
  revert hfact HFa
  exact k_) : G := h k
theorem w_g {G H : Prop} (k : H) (h : H → G := by
  have h1 := (List.mem_filter.1 hj)
  have h2 : (!listed.getD j true) = true := by have := h1.2; simp at this; simp [this.1]
  have h3 := (List.countP_pos_iff (p := fun i => !listed.getD i true)).2 ⟨j, h1.1, h2⟩
  intro k_
  revert h1 h2 h3
  exact k_) : G := h k
theorem v_Y {G H : Prop} (k : H) (h : H → G := by
  have HO3 := a_0 (show w3.ownsRow (W.heap.size + 1) 116 6 (.slice B3 (es ++ []).length n3) (es ++ []).length (a_a (es ++ [])) from by rw [List.append_nil]; exact hoe)
  have HS3 := HS2
  have HG3 := HG2
  have HN3 := HN2
  intro k_
  revert HO3 HS3 HG3 HN3
  exact k_) : G := h k
theorem w_9 {G H : Prop} (k : H) (h : H → G := by
  have HGW := a_0 (show W.grownBy ((W.setCell ⟨P, 1, none⟩ (.int .i64 ((i + 2 : Nat) : Int))).setCell ⟨P, 2, none⟩ (.int .i64 ((d + 1 : Nat) : Int))) (some P) from a_d (a_d (g_ _ _) 1 _) 2 _)
  intro k_
  revert HGW
  exact k_) : G := h k
theorem v_v {G H : Prop} (k : H) (h : H → G := by
  have HN := a_0 (fun W (hW : Below wr.heap.size wr W) => (nd_of_cells (w := W) (g := g) (off := off) (es := es) (fun j u hu => (hW.cell (p := ⟨g, off + j, none⟩) hg).trans (hc j u hu)) k hlt))
  intro k_
  revert HN
  exact k_) : G := h k
theorem v_m {G H : Prop} (k : H) (h : H → G := by
  obtain ⟨c0, c1, c2, c3⟩ := HS3.cells
  have hP3 := HS3.lt
  have hfr := HS3.free
  have hz3 := hb3.size
  have HO3 := a_0 (a_Z (b2 := w.heap.size) (a_v (a_8 HO2b.out hb3) (a_d (g_ w3 (some w1.heap.size)) 3 (.int .i64 (a_x es))) o_) o_)
  intro k_
  revert c0 c1 c2 c3 hP3 hfr hz3 HO3
  exact k_) : G := h k
theorem v_j {G H : Prop} (k : H) (h : H → G := by
  have hs50 : a_9 (tk ts k2) [41] = false := by simpa using hs5
  have hb5 : ((0 : Int) == 0 && ((tk ts k2).kind == 5 && (tk ts k2).text == [41])) = false := hs50
  have HIs := a_0 (fun X hb => HIr.out X hb [41])
  intro k_
  revert hs50 hb5 HIs
  exact k_) : G := h k
theorem _aj {G H : Prop} (k : H) (h : H → G := by
  have HX := a_0 (hx.keep (a_I.of_below (Below.alloc (b_ _ w1) (l_ _) (.cells #[.int .i64 op, str x, .slice nA a.length nC, .slice oA b.length oC, .slice none 0 0, .slice none 0 0] 27))))
  intro k_
  revert HX
  exact k_) : G := h k
theorem t_A {G H : Prop} (k : H) (h : H → G := by
  have HR := a_0 (HF.out 8 (HT2.out.trans (if_neg (by simp [ho, hk0]))) d_)
  intro k_
  revert HR
  exact k_) : G := h k
theorem r_W {G H : Prop} (k : H) (h : H → G := by
  have HR := a_0 (HE.out.trans (c_u HZ.out))
  intro k_
  revert HR
  exact k_) : G := h k
theorem v_C {G H : Prop} (k : H) (h : H → G := by
  have hi3 := g3.lt hi
  have HN := a_0 (c_V wr P A ts cc t HS.out hi hl)
  have HSy := a_0 (fun (W' : World) (h : QPt QR W' P A ts cc (a_7 ts t).2) => d_F W' P A ts cc _ h hi1 hl wEq)
  intro k_
  revert hi3 HN HSy
  exact k_) : G := h k
theorem t_L {G H : Prop} (k : H) (h : H → G := by
  have HC := a_0 hC
  have HS := a_0 hS
  have hb0 := a_2 hC.pb.box 0
  intro k_
  revert HC HS hb0
  exact k_) : G := h k
theorem t_P {G H : Prop} (k : H) (h : H → G := by
  have HQ5 := a_0 (HQ.out.below hb5)
  have HO5 := a_0 (a_8 HO.out hb5)
  intro k_
  revert HQ5 HO5
  exact k_) : G := h k
theorem r_Z {G H : Prop} (k : H) (h : H → G := by
  have hk1 := a_T hv hkl hs4
  have HE := a_0 hG2
  intro k_
  revert hk1 HE
  exact k_) : G := h k
theorem w_8 {G H : Prop} (k : H) (h : H → G := by
  have HP := a_0 (show qpS (bs s) = ([], ((x.1 : Nat) : Int), x.2) from by unfold qpS; rw [hsp])
  have hne : ((x.2 : Int) != 0) = true := by have := m_l hsp; simpa using this
  intro k_
  revert HP hne
  exact k_) : G := h k
theorem q_y {G H : Prop} (k : H) (h : H → G := by
  obtain ⟨c0, c1, c2, c3⟩ := hS.cells
  have hP := hS.lt
  intro k_
  revert c0 c1 c2 c3 hP
  exact k_) : G := h k
theorem q_M {G H : Prop} (k : H) (h : H → G := by
  obtain ⟨c0, c1, c2⟩ := hS.cells
  have hP := hS.lt
  intro k_
  revert c0 c1 c2 hP
  exact k_) : G := h k
theorem t_O {G H : Prop} (k : H) (h : H → G := by
  have HR := a_0 (HN.out (HT2.out.trans (if_pos (by simp [ho, hk0]))))
  intro k_
  revert HR
  exact k_) : G := h k
theorem _ak {G H : Prop} (k : H) (h : H → G := by
  have HX := a_0 (show opS s = g_d s from by unfold opS; simp [hop])
  intro k_
  revert HX
  exact k_) : G := h k
theorem v_u {G H : Prop} (k : H) (h : H → G := by
  have hbw : Below w.heap.size w w2 := h_y hq2.gr (hb1.alloc hb1.size _) hb1.size (by have := hb1.size; simp; omega)
  have HS2 := a_0 hq2.pt
  have HR2 := a_0 hR2.at_
  have HRw := a_0 hR2
  intro k_
  revert hbw HS2 HR2 HRw
  exact k_) : G := h k
theorem t_M {G H : Prop} (k : H) (h : H → G := by
  obtain ⟨c0, c1, c2, c3⟩ := HSr.out.cells
  have hPr := HSr.out.lt
  have hfr := HSr.out.free
  intro k_
  revert c0 c1 c2 c3 hPr hfr
  exact k_) : G := h k
theorem q_F {G H : Prop} (k : H) (h : H → G := by
  have HQ := a_0 (fun j => congrFun hq j)
  intro k_
  revert HQ
  exact k_) : G := h k
theorem w_3 {G H : Prop} (k : H) (h : H → G := by
  obtain ⟨w1, r1, o1, g1⟩ := hm.update (t := 152) (val := .int .i64 1) a_Q underlying152 d_ (keyOf_string_mk (s := ⟨#[99, 111, 117, 110, 116]⟩) underlying9 d_) (plainElem_int underlying3 d_)
  intro k_
  revert w1 r1 o1 g1
  exact k_) : G := h k
theorem u_I {G H : Prop} (k : H) (h : H → G := by
  have HR := a_0 (fun W (hb : Below w.heap.size w W) => b_M nm W (hW.below hb))
  intro k_
  revert HR
  exact k_) : G := h k
theorem u_8 {G H : Prop} (k : H) (h : H → G := by
  have hp := HF.out (str x) (.int .i64 0) (str ([] : a_3)) (.int .i64 0) (.slice none 0 0)
  intro k_
  revert hp
  exact k_) : G := h k
theorem u_N {G H : Prop} (k : H) (h : H → G := by
  have HS5 := a_0 hS5
  have HG5 := a_0 (HG4.out.trans hg5)
  have HO5 := a_0 (a_v HO4.out hg5 hP)
  intro k_
  revert HS5 HG5 HO5
  exact k_) : G := h k
theorem u_K {G H : Prop} (k : H) (h : H → G := by
  have hst : ((0 : Int) == 0 && ((tk ts j).kind == 5 && (tk ts j).text == [41])) = true := hs
  intro k_
  revert hst
  exact k_) : G := h k
theorem v_l {G H : Prop} (k : H) (h : H → G := by
  have h40 := HE4.out hcl
  have hnx := HNx.out hcl
  have HC5 := a_0 (fun (W' : World) (h : QPt QR W' P A ts cc ⟨s4.i + 1, 0⟩) => r_1 W' P A ts cc ⟨s4.i + 1, 0⟩ hv h hnx hl9)
  intro k_
  revert h40 hnx HC5
  exact k_) : G := h k
theorem v_k {G H : Prop} (k : H) (h : H → G := by
  have z1 : w.heap.size < w1.heap.size := by have := g1.size; simp at this; omega
  have z2 : w1.heap.size < w2.heap.size := by have := g2.size; simp at this; omega
  intro k_
  revert z1 z2
  exact k_) : G := h k
theorem _al {G H : Prop} (k : H) (h : H → G := by
  have hf := b_i (l := tSQ) d_ ho
  have hcap := b_7 ho
  have hI2 := HI1.out.step HQ1.out hq2.gr
  obtain ⟨c0, c1, c2, c3, c4, c5, cf, cl⟩ := b_s hI2.box
  obtain ⟨hq3, hI3, hf3⟩ := BxC.setNames (nC := nC) hI2 hq2.pt hf
  have HI3 := a_0 hI3
  have HQ3 := a_0 hq3
  have HF3 := a_0 hf3
  intro k_
  revert hf hcap hI2 c0 c1 c2 c3 c4 c5 cf cl hq3 hI3 hf3 HI3 HQ3 HF3
  exact k_) : G := h k
theorem u_p {G H : Prop} (k : H) (h : H → G := by
  have hn5 := (hb5.block W.heap.size hz4).trans HN4.out
  have HN5 := a_0 hn5
  have hz5 := hb5.size
  intro k_
  revert hn5 HN5 hz5
  exact k_) : G := h k
theorem t_W {G H : Prop} (k : H) (h : H → G := by
  have hb2 : Below w.heap.size w w1 := Below.trans zX (hb1.mono m_)
  intro k_
  revert hb2
  exact k_) : G := h k
theorem t_v {G H : Prop} (k : H) (h : H → G := by
  have hc : (c.toNat : Int) < 256 := by have := c.toNat_lt; omega
  intro k_
  revert hc
  exact k_) : G := h k
theorem v_O {G H : Prop} (k : H) (h : H → G := by
  have HE := a_0 hG2
  have hb6 : ((0 : Int) == 0 && ((tk ts k2).kind == 5 && (tk ts k2).text == [44])) = false := hs60
  have HIc := a_0 (fun X hb => HIr.out X hb [44])
  intro k_
  revert HE hb6 HIc
  exact k_) : G := h k
theorem p_y {G H : Prop} (k : H) (h : H → G := by
  have he := HE.out
  have hy := HY.out
  intro k_
  revert he hy
  exact k_) : G := h k
theorem w_f {G H : Prop} (k : H) (h : H → G := by
  have HE := a_0 hG2
  have hb5 : ((0 : Int) == 0 && ((tk ts k2).kind == 5 && (tk ts k2).text == [41])) = true := hs5
  have HIs := a_0 (fun X hb => HIr.out X hb [41])
  intro k_
  revert HE hb5 HIs
  exact k_) : G := h k
theorem w_k {G H : Prop} (k : H) (h : H → G := by
  have HE := a_0 hG2
  have hb6 : ((0 : Int) == 0 && ((tk ts k2).kind == 5 && (tk ts k2).text == [44])) = true := hs6
  have HIc := a_0 (fun X hb => HIr.out X hb [44])
  intro k_
  revert HE hb6 HIc
  exact k_) : G := h k
theorem w_5 {G H : Prop} (k : H) (h : H → G := by
  have c : decide (23 < hour) = false ∧ decide (59 < minute) = false ∧ decide (575999999 < N * 1440 + hour * 60 + minute) = false := by simp; omega
  intro k_
  revert c
  exact k_) : G := h k
theorem w_E {G H : Prop} (k : H) (h : H → G := by
  have hi3 := (a_H hv s1 (k := 1) d_ wBy).lt hi2
  have HC2 := a_0 (fun (W' : World) (h : QPt QR W' P A ts cc s1) => e_S W' P A ts cc _ h hi2 hl0 wBy)
  intro k_
  revert hi3 HC2
  exact k_) : G := h k
theorem w_r {G H : Prop} (k : H) (h : H → G := by
  have hbd := g_n y m
  have hr : e_j y m d = if 400000 < q_k y m d then none else some (q_k y m d) := by unfold e_j; rw [if_pos hb]
  have HR := a_0 hr
  intro k_
  revert hbd hr HR
  exact k_) : G := h k
theorem _am {G H : Prop} (k : H) (h : H → G := by
  have hE : (r.bind fun es j => if a_9 (tk ts j) [41] = true then PR.ok es (j + 1) else PR.err 3 j) = .err x2 k := by rw [hr]; rfl
  have HE := a_0 hE
  intro k_
  revert hE HE
  exact k_) : G := h k
theorem s_3 {G H : Prop} (k : H) (h : H → G := by
  have HQ1 := a_0 hq1.pt
  have HG1 := a_0 hq1.gr
  intro k_
  revert HQ1 HG1
  exact k_) : G := h k
theorem v_F {G H : Prop} (k : H) (h : H → G := by
  have hbw : Below w.heap.size w w2 := h_y hg2 (hb1.alloc hb1.size _) hb1.size (by have := hb1.size; simp; omega)
  have hz1 := hb1.size
  have hz2 := hg2.size
  intro k_
  revert hbw hz1 hz2
  exact k_) : G := h k
theorem r_t {G H : Prop} (k : H) (h : H → G := by
  have hb2 := m_a hbel hown hgrow o_
  intro k_
  revert hb2
  exact k_) : G := h k
theorem u_n {G H : Prop} (k : H) (h : H → G := by
  have g : W.grownBy (W.setCell ⟨bx, i, none⟩ v) (some bx) := a_d (g_ _ _) _ _
  intro k_
  revert g
  exact k_) : G := h k
theorem w_x {G H : Prop} (k : H) (h : H → G := by
  have hgg := a_h (a_d (a_d (a_1 (r := some P) hb) 1 (.int .i64 ((i + 1 : Nat) : Int))) 2 (.int .i64 ((d + 1 : Nat) : Int))) hY
  intro k_
  revert hgg
  exact k_) : G := h k
theorem s_o {G H : Prop} (k : H) (h : H → G := by
  have hkI : (k : Int) < (l.length : Int) := by omega
  intro k_
  revert hkI
  exact k_) : G := h k
theorem v_P {G H : Prop} (k : H) (h : H → G := by
  obtain ⟨hf, hp⟩ := HF.out (.int .i64 o1) (str o2) (.slice nA o3.length nC) (.slice oA o4.length oC) (.slice iA o5.length iC) (.slice cA o6.length cC)
  intro k_
  revert hf hp
  exact k_) : G := h k
theorem w_1 {G H : Prop} (k : H) (h : H → G := by
  have HV := a_0 (fun x hf => m_Q (x := x) H256.out HR.out hlt hf)
  have HS := a_0 (fun st' hf => e_i.step (st' := st') HR.out hlt hf)
  intro k_
  revert HV HS
  exact k_) : G := h k
theorem u_3 {G H : Prop} (k : H) (h : H → G := by
  have hz4 : W.heap.size < X4.heap.size := (Array.getElem?_eq_some_iff.1 HN4.out).1
  intro k_
  revert hz4
  exact k_) : G := h k
theorem s_5 {G H : Prop} (k : H) (h : H → G := by
  have HT2 := a_0 (HT.out.trans (if_pos rfl))
  intro k_
  revert HT2
  exact k_) : G := h k
theorem _an {G H : Prop} (k : H) (h : H → G := by
  have hat := j_A HS5.out
  intro k_
  revert hat
  exact k_) : G := h k
theorem v_B {G H : Prop} (k : H) (h : H → G := by
  have hkb : ((tk ts (i + 1)).kind == 2) = false := beq_eq_false_iff_ne.2 hk
  have hff := b_6 hv F 7 (i + 1) (d + 1) hi1 (fun e => absurd e o_)
  intro k_
  revert hkb hff
  exact k_) : G := h k
theorem w_4 {G H : Prop} (k : H) (h : H → G := by
  have hz3' := hq3.gr.size
  have p3 := a_r hq3.gr HP2.out o_
  have x3 := a_r hq3.gr HX2.out o_
  have s3c := a_r (HG2.out.trans hq3.gr) HC.out.box o_
  intro k_
  revert hz3' p3 x3 s3c
  exact k_) : G := h k
theorem u_B {G H : Prop} (k : H) (h : H → G := by
  have hX4 : ∃ X, X = wr.setCell ⟨P, 2, none⟩ (.int .i64 (d3 : Int)) := ⟨_, rfl⟩
  intro k_
  revert hX4
  exact k_) : G := h k
theorem w_h {G H : Prop} (k : H) (h : H → G := by
  have HX := a_0 (show l_X ts s = if s.e = 0 ∧ (tk ts s.i).kind = 2 then ((tk ts s.i).num, ⟨s.i + 1, 0⟩) else (0, s.fail 3) from rfl)
  intro k_
  revert HX
  exact k_) : G := h k
theorem v_N {G H : Prop} (k : H) (h : H → G := by
  have HX := a_0 (show b_J ts s = ((paS ts s.i).1, ⟨j, (paS ts s.i).2.2⟩) from by unfold b_J; rw [if_neg (by simp [he]), hj]; rfl)
  intro k_
  revert HX
  exact k_) : G := h k
theorem v_M {G H : Prop} (k : H) (h : H → G := by
  have HI5 := a_0 (HI4.out.step HQ4.out (a_1 hb5))
  have HQ5 := a_0 (HQ4.out.below hb5)
  have HF5 := a_0 (HF4.out.keep (a_I.of_below hb5))
  intro k_
  revert HI5 HQ5 HF5
  exact k_) : G := h k
theorem t_D {G H : Prop} (k : H) (h : H → G := by
  have HR := a_0 (HF.out u (by rw [HT.out, if_neg hu]) hu)
  intro k_
  revert HR
  exact k_) : G := h k
theorem t_w {G H : Prop} (k : H) (h : H → G := by
  have hclf : isT ts s4 5 a_M = false := by simpa using hcl
  intro k_
  revert hclf
  exact k_) : G := h k
theorem m_p {p : Prop} (h : p := by
  go_ret
  exact ⟨a_g (by simp_all [a_W] <;> first | omega | (cases lc <;> simp <;> omega) | (cases src <;> simp)), zX⟩) : p := h
theorem o_S {p : Prop} (h : p := by
  go_ret
  exact ⟨a_k HR.out.symm, by first | exact a_n hb1 zX | exact zX⟩) : p := h
theorem _ao {p : Prop} (h : p := by
  rw [e4] at hE
  simp only [PR.bind, Bool.false_eq_true, ↓reduceIte, List.append_nil, List.nil_append] at hE
  rw [← hE]
  subst e1 e2
  exact ⟨HG4.out, ⟨B4, n4, by first | rfl | (simp; done) | (simp; omega), HO4.out⟩, HS4.out⟩) : p := h
theorem w_B {p : Prop} (h : p := by
  replace HF2 := a_0 (HF2.out.keep (HI.out.kept 4 (.slice I c.length n5)))
  replace HF3 := a_0 (HF3.out.keep (HI.out.kept 4 (.slice I c.length n5)))
  replace HI := a_0 (HI.out.set 4 (.slice I c.length n5))
  replace HQ := a_0 (HQ.out.boxR hp3 4 (.slice I c.length n5))
  obtain ⟨⟨r0, r1, r2, r3, r4, r5, fr, hlR⟩, ⟨b0, b1, b2, b3, b4, b5, bf, hlX⟩, HF⟩ := c_p HI.out HQ.out HR1.out HG1.out hP ⟨12, [], [], ob, c, []⟩ ⟨none, 0, B2, n2, I, n5, none, 0⟩ (fun v hv => ⟨.inl rfl, HF2.out v hv, HF3.out v hv, .inl rfl, l_ _, hc2, hc3⟩)
  replace HF := a_0 HF
  have HEQ := a_0 (show R = (⟨12, [], [], ob, c, []⟩, s6) from HE5.out)
  exact c_z) : p := h
theorem n_5 {p : Prop} (h : p := by
  go_ret
  exact ⟨a_k HV.out.symm, a_n hb2 (a_5 hcur)⟩) : p := h
theorem m_U {p : Prop} (h : p := by
  go_ret
  exact ⟨HG3.out, ⟨B, n, rfl, HO3.out⟩, HS3.out⟩) : p := h
theorem w_b {p : Prop} (h : p := by
  replace HF3 := a_0 (HF3.out.keep (HI.out.kept 4 (.slice I c.length n5)))
  replace HI := a_0 (HI.out.set 4 (.slice I c.length n5))
  replace HQ := a_0 (HQ.out.boxR hp3 4 (.slice I c.length n5))
  obtain ⟨⟨r0, r1, r2, r3, r4, r5, fr, hlR⟩, ⟨b0, b1, b2, b3, b4, b5, bf, hlX⟩, HF⟩ := c_p HI.out HQ.out HR1.out HG1.out hP ⟨12, [], [], [], c, []⟩ ⟨none, 0, none, 0, I, n5, none, 0⟩ (fun v hv => ⟨.inl rfl, .inl rfl, HF3.out v hv, .inl rfl, l_ _, l_ _, hc3⟩)
  replace HF := a_0 HF
  have HEQ := a_0 (show R = (⟨12, [], [], [], c, []⟩, s6) from HE5.out)
  exact c_z) : p := h
theorem t_i {p : Prop} (h : p := by
  go_ret
  rw [HE.out]
  exact ⟨a_h HG.out hcur, es, d', ⟨B, n, rfl, a_8 HO.out hcur⟩, hij, hel, hdE, HSx.out.below hcur⟩) : p := h
theorem s_b {p : Prop} (h : p := by
  go_ret
  rw [HE.out]
  exact ⟨HG8.out, [], d3, ⟨none, 0, rfl, a_o _ _ _ _⟩, o_, s_, hdd4, HS8.out⟩) : p := h
theorem l_b {p : Prop} (h : p := by
  go_ret
  exact ⟨a_g HB.out.symm, zX⟩) : p := h
theorem t_I {p : Prop} (h : p := by
  go_ret
  exact ⟨⟨B9, n9, by first | rfl | (simp; done) | (simp; omega), by first | exact k_F o9 | simpa [b_v, a_a, Nd.cells, c_3, vl0] using o9⟩, hb9⟩) : p := h
theorem s_D {p : Prop} (h : p := by
  go_ret
  exact ⟨(a_1 hb1).trans hg2, [], d, ⟨none, 0, rfl, a_o _ _ _ _⟩, l_ _, s_, ⟨l_ _, hd⟩, HS2.out⟩) : p := h
theorem n_E {p : Prop} (h : p := by
  go_ret
  exact ⟨a_g (by rw [HE.out]), rfl⟩) : p := h
theorem _ap {p : Prop} (h : p := by
  exact ⟨HG8.out, [], d + 1, ⟨none, 0, rfl, a_o _ _ _ _⟩, o_, s_, ⟨o_, o_⟩, HS8.out⟩) : p := h
theorem q_N {p : Prop} (h : p := by
  go_ret
  exact ⟨a_g (by rw [HE.out]), m_t _ _ _⟩) : p := h
theorem v_q {p : Prop} (h : p := by
  obtain ⟨⟨r0, r1, r2, r3, r4, r5, fr, hlR⟩, ⟨b0, b1, b2, b3, b4, b5, bf, hlX⟩, HF⟩ := c_p HI.out HQ.out HR1.out HG1.out hP ⟨6, x, a, b, [], []⟩ ⟨E, n1, F, m1, none, 0, none, 0⟩ (fun v hv => ⟨HF1.out v hv, HF2.out v hv, .inl rfl, .inl rfl, hc1, hc2, l_ _⟩)
  replace HF := a_0 HF
  have HEQ := a_0 (show R = (⟨6, x, a, b, [], []⟩, s4) from HE5.out)
  exact c_z) : p := h
theorem w_C {p : Prop} (h : p := by
  obtain ⟨⟨r0, r1, r2, r3, r4, r5, fr, hlR⟩, ⟨b0, b1, b2, b3, b4, b5, bf, hlX⟩, HF⟩ := c_p HI.out HQ.out HR1.out HG1.out hP ⟨7, x, a, b, [], []⟩ ⟨E, n1, F, m1, none, 0, none, 0⟩ (fun v hv => ⟨HF1.out v hv, HF2.out v hv, .inl rfl, .inl rfl, hc1, hc2, l_ _⟩)
  replace HF := a_0 HF
  have HEQ := a_0 (show R = (⟨7, x, a, b, [], []⟩, s4) from HE5.out)
  exact c_z) : p := h
theorem t_e {p : Prop} (h : p := by
  rw [← hE]
  exact ⟨a_h HG.out hcur, ⟨B, n, rfl, a_8 HO.out hcur⟩, HSx.out.below hcur⟩) : p := h
theorem v_6 {p : Prop} (h : p := by
  refine bodyPost_ret (v := .tuple #[t.agg, .int .i64 n, .int .i64 c]) (by simp [results, results140, go_sem, k0, k1, k2, k3]) rfl ⟨by rw [H.out]; exact HR.out, ?_⟩
  exact zX) : p := h
theorem s_6 {p : Prop} (h : p := by
  have : a_9 (tk ts k2) [44] = false := by simpa using hs4
  exact this) : p := h
theorem s_2 {p : Prop} (h : p := by
  go_ret3
  rw [HP.out]
  exact ⟨⟨none, 0, rfl, .inl rfl⟩, hb1⟩) : p := h
theorem s_a {p : Prop} (h : p := by
  go_ret
  exact ⟨a_k HX.out.symm, a_n hb2 (a_n hwb hw1)⟩) : p := h
theorem q_P {p : Prop} (h : p := by
  go_ret
  exact ⟨a_k HE.out.symm, b_ _ _⟩) : p := h
theorem m_6 {p : Prop} (h : p := by
  go_ret
  exact ⟨rfl, hb1⟩) : p := h
theorem _aq {p : Prop} (h : p := by
  go_ret3
  rw [HE.out]
  exact ⟨⟨none, 0, rfl, .inl rfl⟩, by have := HB3.out; exact zX⟩) : p := h
theorem s_c {p : Prop} (h : p := by
  go_ret
  exact ⟨a_k HR.out.symm, a_n hb1 hbel⟩) : p := h
theorem v_h {p : Prop} (h : p := by
  go_ret3
  refine ⟨?_, hb2⟩
  rw [HE.out]
  subst hv
  exact ⟨A', c', s_, by simpa [Tok.cells] using hown'⟩) : p := h
theorem p_4 {p : Prop} (h : p := by
  rw [e4] at hE
  exact hE.symm) : p := h
theorem w_j {p : Prop} (h : p := by
  refine bodyPost_ret (v := .tuple #[.agg #[.int .i64 0, str [], .int .i64 0, .int .i64 0], .int .i64 0, .int .i64 3]) (by simp [results, results140, go_sem]) rfl ⟨b_C HE.out d_ _ _ _ _ _, ?_⟩
  exact zX) : p := h
theorem w_i {p : Prop} (h : p := by
  refine bodyPost_ret (v := .tuple #[.agg #[.int .i64 0, str [], .int .i64 0, .int .i64 0], .int .i64 0, .int .i64 4]) (by simp [results, results211, go_sem]) rfl ⟨b_C H.out d_ _ _ _ _ _, ?_⟩
  exact zX) : p := h
theorem w_e {p : Prop} (h : p := by
  refine bodyPost_ret (v := .tuple #[.agg #[.int .i64 0, str [], .int .i64 0, .int .i64 0], .int .i64 0, .int .i64 3]) (by simp [results, results213, go_sem]) rfl ⟨b_C H.out d_ _ _ _ _ _, ?_⟩
  exact zX) : p := h
theorem w_7 {p : Prop} (h : p := by
  refine bodyPost_ret (v := .agg #[str x, .int .i64 0, str ([] : a_3), .int .i64 0, .slice none 0 0]) (by simp [results, results241, go_sem, r0, r1, r2, r3, r4]) rfl ?_
  rw [HEQ.out]
  exact ⟨rfl, hp⟩) : p := h
theorem v_c {p : Prop} (h : p := by
  go_ret
  rw [HE.out]
  exact ⟨HG6.out, [], d3, ⟨none, 0, rfl, a_o _ _ _ _⟩, o_, s_, hdd4, HS6.out⟩) : p := h
theorem t_u {p : Prop} (h : p := by
  go_ret3
  rw [HP.out]
  exact ⟨⟨none, 0, rfl, a_o _ _ _ _⟩, hb1⟩) : p := h
theorem t_E {p : Prop} (h : p := by
  go_ret3
  rw [HPx.out]
  exact ⟨⟨none, 0, rfl, a_o _ _ _ _⟩, zX⟩) : p := h
theorem _ar {p : Prop} (h : p := by
  rw [HEQ.out]
  exact ⟨rfl, hp⟩) : p := h
theorem s_d {p : Prop} (h : p := by
  go_ret
  exact ⟨a_g (by simp [hb]), zX⟩) : p := h
theorem s_q {p : Prop} (h : p := by
  go_ret
  exact ⟨a_k HX.out.symm, a_5 hb1⟩) : p := h
theorem s_V {p : Prop} (h : p := by
  exact ⟨rfl, HS1.out, a_d (a_1 hb1) _ _⟩) : p := h
theorem s_0 {p : Prop} (h : p := by
  go_ret
  exact ⟨a_k HR.out.symm, zX⟩) : p := h
theorem p_2 {p : Prop} (h : p := by
  rw [e4] at hE
  exact hE) : p := h
theorem w_m {p : Prop} (h : p := by
  rw [e4] at hE
  simp only [PR.bind, Bool.false_eq_true, ↓reduceIte] at hE
  rw [← hE]
  subst e1 e2
  exact ⟨HG3.out, ⟨B3, n3, v_, HO3.out⟩, HS3.out⟩) : p := h
theorem s_K {p : Prop} (h : p := by
  go_ret
  exact ⟨a_k HR.out.symm, hbel⟩) : p := h
theorem s_z {p : Prop} (h : p := by
  go_ret
  exact ⟨a_k HR.out.symm, hbw⟩) : p := h
theorem t_x {p : Prop} (h : p := by
  go_ret
  exact ⟨a_k HX.out.symm, a_5 hb2⟩) : p := h
theorem s_Q {p : Prop} (h : p := by
  go_ret2
  exact ⟨n_0 H.out, rfl⟩) : p := h
theorem _as {p : Prop} (h : p := by
  go_ret
  exact ⟨a_k (by rw [HE.out]), b_ _ _⟩) : p := h
theorem u_W {p : Prop} (h : p := by
  have : a_9 (tk ts j) [41] = false := by simpa using hs
  exact this) : p := h
theorem t_J {p : Prop} (h : p := by
  exact ⟨q1, q2, q3, q4, fun h0 => q5 (no 0 d_ h0)⟩) : p := h
theorem w_2 {p : Prop} (h : p := by
  obtain ⟨A', c', rfl⟩ := a_i hown'
  exact ⟨⟨k + 1, b ++ [s[k]], A', c', s_, t_, o_, hrel', by simpa using hown', hb2⟩, w_⟩) : p := h
theorem v_V {p : Prop} (h : p := by
  go_ret
  rw [HE.out]
  have hd33 := HD33.out
  subst hd33
  exact ⟨HG7.out, ⟨B7, n7, v_, a_Z HO7.out o_⟩, HS7.out⟩) : p := h
theorem t_B {p : Prop} (h : p := by
  go_ret
  exact ⟨a_k (by rw [HE.out]), hb2⟩) : p := h
theorem p_f {p : Prop} (h : p := by
  go_ret
  exact HR.out) : p := h
theorem u_T {p : Prop} (h : p := by
  go_ret2
  exact ⟨c_M HE.out d_ _, a_f (b_ _ _) _⟩) : p := h
theorem u_d {p : Prop} (h : p := by
  go_ret3
  rw [HPx.out]
  exact ⟨⟨none, 0, rfl, .inl rfl⟩, zX⟩) : p := h
theorem r_8 {p : Prop} (h : p := by
  go_ret
  exact ⟨rfl, rfl⟩) : p := h
theorem u_y {p : Prop} (h : p := by
  go_ret
  exact ⟨a_k HR.out.symm, a_n (a_n hb1 zX) hbel⟩) : p := h
theorem _at {p : Prop} (h : p := by
  go_ret
  exact ⟨by rw [HE.out]; rfl, hbel⟩) : p := h
theorem t_F {p : Prop} (h : p := by
  exact ⟨by simpa using h1, by simpa using h2⟩) : p := h
theorem v_i {p : Prop} (h : p := by
  have hs2 : a_9 (tk ts (i + 2)) [41] = false := by simpa using hs
  exact ⟨false, hs2, a_0 (.inl ⟨rfl, _, hr⟩)⟩) : p := h
theorem v_R {p : Prop} (h : p := by
  refine key.mono fun e w' ⟨he, hb⟩ => ⟨?_, hb⟩
  rw [he]
  exact congrArg (fun l => Ending.returned (str l)) hj) : p := h
theorem v_z {p : Prop} (h : p := by
  go_ret
  exact ⟨rfl, (HS1.out.below zX), (a_d (a_1 HB.out) _ _).trans (World.grownBy_alloc _ _ _)⟩) : p := h
theorem v_T {p : Prop} (h : p := by
  go_ret
  rw [HE.out]
  exact ⟨HG6.out, [], d + 1, ⟨none, 0, rfl, a_o _ _ _ _⟩, o_, s_, ⟨o_, o_⟩, HS6.out⟩) : p := h
theorem t_R {p : Prop} (h : p := by
  go_ret
  exact ⟨a_k HE.out.symm, hb1⟩) : p := h
theorem t_T {p : Prop} (h : p := by
  go_ret
  exact ⟨a_k HE.out.symm, zX⟩) : p := h
theorem w_y {p : Prop} (h : p := by
  exact ⟨q1, q2, o_, (r3.block _ q3 (by intro e; injection e with e; exact q5 d0 e)).trans q4, fun _ => q5 d0⟩) : p := h
theorem v_J {p : Prop} (h : p := by
  go_ret
  exact ⟨a_g (by first | (rw [HX.out]; rfl) | (simp; intros; omega) | (simp_all; done)), zX⟩) : p := h
theorem w_l {p : Prop} (h : p := by
  go_ret
  exact ⟨rfl, hq2.pt, ((a_1 HB.out).trans (World.grownBy_alloc _ _ _)).trans hq2.gr⟩) : p := h
theorem _au {p : Prop} (h : p := by
  exact ⟨rfl, HF.out.1, _, _, _, HF.out.2⟩) : p := h
theorem w_c {p : Prop} (h : p := by
  go_ret
  exact ⟨rfl, HS1.out.below zX, (a_d (a_1 hb1) _ _).trans (a_1 zX)⟩) : p := h
theorem v_2 {p : Prop} (h : p := by
  go_ret
  exact ⟨a_k (by rw [H.out]; simp), rfl⟩) : p := h
theorem u_f {p : Prop} (h : p := by
  go_ret
  exact ⟨a_k HX.out.symm, a_5 hb3⟩) : p := h
theorem v_G {p : Prop} (h : p := by
  go_ret3
  rw [HPx.out]
  exact ⟨⟨B, n, rfl, a_8 HO3.out (a_f (b_ _ _) _)⟩, zX⟩) : p := h
theorem u_q {p : Prop} (h : p := by
  exact ⟨World.block_lt_of_cell? W _ (read 0 d_), read⟩) : p := h
theorem u_U {p : Prop} (h : p := by
  go_ret2
  exact ⟨c_M HE.out d_ _, b_ _ _⟩) : p := h
theorem w_w {p : Prop} (h : p := by
  exact ⟨hq.gr g (fun j e => by injection e with e; omega), hW.andThen g (fun j e => .inl j_)⟩) : p := h
theorem w_n {p : Prop} (h : p := by
  have h1 := h.pl
  have h2 := h.le
  exact ⟨h.gr.trans hg, h1, h2, a_r hg h.box o_⟩) : p := h
theorem u_t {p : Prop} (h : p := by
  go_ret
  exact ⟨a_k (by rw [HE.out]), hbel⟩) : p := h
theorem v_U {p : Prop} (h : p := by
  go_ret2
  exact ⟨by rw [HT.out]; first | rfl | (simp; done) | (simp [hw]; done), _, rfl⟩) : p := h
theorem _av {p : Prop} (h : p := by
  go_ret
  have hx := HX.out
  exact ⟨by simp_all, by first | exact hb1 | exact b_ _ _⟩) : p := h
theorem l_ (n : Nat) : n ≤ n := Nat.le_refl n
theorem b_ (B : Nat) (w : World) : Below B w w := Below.refl B w
theorem g_ (w : World) (r : Option Nat) : w.grownBy w r := World.grownBy.refl w r
theorem o_ {p : Prop} (h : p := by omega) : p := h
theorem d_ {p : Prop} (h : p := by decide) : p := h
theorem s_ {p : Prop} (h : p := by simp) : p := h
theorem r_ {p : Prop} (h : p := by rfl) : p := h
theorem m_ {p : Prop} (h : p := by simp; omega) : p := h
theorem x_ {p : Prop} (h : p := by unfold maxLen; omega) : p := h
theorem n_ {p : Prop} (h : p := by first | (simp; done) | (simp; omega)) : p := h
theorem k_ {p : Prop} (h : p := by kernel_rfl) : p := h
theorem c_ {p : Prop} (h : p := by simp [Value.oneCell']) : p := h
theorem i_ {p : Prop} (h : p := by intro e; injection e with e; omega) : p := h
theorem j_ {p : Prop} (h : p := by injection e with e; omega) : p := h
theorem v_ {p : Prop} (h : p := by first | rfl | (simp; done)) : p := h
theorem w_ {p : Prop} (h : p := by simp [intOf]; omega) : p := h
theorem t_ {p : Prop} (h : p := by go_num) : p := h
theorem y_ {p : Prop} (h : p := by show wr.heap.size < _; omega) : p := h
theorem z_ {p : Prop} (h : p := by simp only; omega) : p := h
theorem e_ {p : Prop} (h : p := by rw [e]; simp) : p := h
abbrev a_3 := List UInt8
def bs (s : ByteArray) : a_3 := s.data.toList
def c_K (c : UInt8) : Bool := decide (97 ≤ c.toNat) && decide (c.toNat ≤ 122)
def c_T (c : UInt8) : Bool := decide (48 ≤ c.toNat) && decide (c.toNat ≤ 57)
def b_S (c : UInt8) : Bool := c_K c || c_T c || (c.toNat == 95)
def a_s (l : a_3) : Nat := (l.takeWhile b_S).length
theorem a_b (s : ByteArray) : (bs s).length = s.size := rfl
theorem c_D (l : a_3) : a_s l ≤ l.length := (List.takeWhile_sublist _).length_le
theorem h_c : ∀ (l : a_3) (k : Nat) (_ : k < a_s l), ∃ h' : k < l.length, b_S (l[k]'h') = true
 | [], k, h => by simp [a_s] at h
 | c :: l, k, h => by
  unfold a_s at h
  rw [List.takeWhile_cons] at h
  by_cases hc : b_S c = true
  ·rw [if_pos hc] at h
   match k with
   | 0 => exact ⟨s_, by simpa using hc⟩
   | k + 1 =>
    obtain ⟨h1, h2⟩ := h_c l k (by simpa [a_s] using h); exact t_F
  ·rw [if_neg hc] at h; simp at h
theorem g_k : ∀ (l : a_3) (h : a_s l < l.length), b_S (l[a_s l]'h) = false
 | [], h => by simp [a_s] at h
 | c :: l, h => by
  by_cases hc : b_S c = true
  ·have e : a_s (c :: l) = a_s l + 1 := by unfold a_s; rw [List.takeWhile_cons, if_pos hc]; simp
   have h' : a_s l < l.length := by rw [e] at h; simpa using h
   have := g_k l h'
   simpa [e] using this
  ·have e : a_s (c :: l) = 0 := by unfold a_s; rw [List.takeWhile_cons, if_neg hc]; simp
   simpa [e] using hc
theorem a_0 {p : Prop} (h : p) : Hid p := h
theorem a_k {k : IntKind} {a b : Int} (h : a = b) : Ending.returned (.int k a) = .returned (.int k b) := by rw [h]
theorem a_g {a b : Bool} (h : a = b) : Ending.returned (.bool a) = .returned (.bool b) := by rw [h]
theorem f_o {c : UInt8} (h : b_S c = true) : c_K c = true ∨ (c_K c = false ∧ c_T c = true) ∨ (c_K c = false ∧ c_T c = false ∧ ((c.toNat : Int) == 95) = true) := by
 unfold b_S at h
 cases h1 : c_K c <;> cases h2 : c_T c <;> simp_all <;> omega
theorem h_4 {c : UInt8} (h : b_S c = false) : c_K c = false ∧ c_T c = false ∧ ((c.toNat : Int) == 95) = false := by
 unfold b_S at h
 cases h1 : c_K c <;> cases h2 : c_T c <;> simp_all <;> omega
structure Tok where
 kind : Int
 text : a_3
 num : Int
 off : Int
abbrev str (l : a_3) : Value := .string ⟨l.toArray⟩
def Tok.cells (t : Tok) : List Value := [.int .i64 t.kind, str t.text, .int .i64 t.num, .int .i64 t.off]
abbrev Tok.agg (t : Tok) : Value := .agg #[.int .i64 t.kind, str t.text, .int .i64 t.num, .int .i64 t.off]
def w_P : Tok := ⟨0, [], 0, 0⟩
theorem p_M (l : a_3) : bs ⟨l.toArray⟩ = l := rfl
theorem k_0 (s : ByteArray) : (⟨(bs s).toArray⟩ : ByteArray) = s := by simp [bs]
theorem o_s {a b : ByteArray} (h : bs a = bs b) : a = b := by rw [← k_0 a, ← k_0 b, h]
theorem b_B (s : ByteArray) (a b : Nat) : bs (s.extract a b) = ((bs s).take b).drop a := by
 simp only [bs, ByteArray.data_extract, Array.toList_extract, List.extract_eq_take_drop]
 rw [List.drop_take]
theorem f_t (s : ByteArray) (n : Nat) : Value.string (s.extract 0 n) = str ((bs s).take n) := by
 have h : bs (s.extract 0 n) = (bs s).take n := by rw [b_B]; rfl
 unfold str; rw [← h, k_0]
def p_7 (l : a_3) (p : Nat) : Bool := if h : p + 1 < l.length then (l[p].toNat == 46) && c_K l[p+1] else false
def c_l (l : a_3) : Except Int (Tok × Nat) :=
 if 24 < a_s l then .error 4
 else if p_7 l (a_s l) = true then
  if 24 < a_s (l.drop (a_s l + 1)) then .error 4
  else .ok (⟨1, l.take (a_s l + (1 + a_s (l.drop (a_s l + 1)))), 0, 0⟩, a_s l + (1 + a_s (l.drop (a_s l + 1))))
 else .ok (⟨1, l.take (a_s l), 0, 0⟩, a_s l)
def c_0 (l : a_3) : Nat := (l.takeWhile c_T).length
def f_X (l : a_3) : Int := l.foldl (fun v c => min (10 * v + ((c.toNat : Int) - 48)) 1073741825) 0
def j_o (l : a_3) (p : Nat) : Bool := if h : p < l.length then c_K l[p] || (l[p].toNat == 95) else false
def i_O (l : a_3) : Except Int (Tok × Nat) :=
 if (match l with | c :: _ => (c.toNat == 48) && decide (1 < c_0 l) | [] => false) || j_o l (c_0 l) then .error 3
 else if 1073741824 < f_X (l.take (c_0 l)) then .error 1
 else .ok (⟨2, [], f_X (l.take (c_0 l)), 0⟩, c_0 l)
def d_w : a_3 → Option (a_3 × Nat)
 | [] => none
 | [c] => if c.toNat = 39 then some ([], 1) else none
 | c :: d :: r =>
  if c.toNat = 39 then
   if d.toNat = 39 then (d_w r).map fun x => (d :: x.1, x.2 + 2) else some ([], 1)
  else (d_w (d :: r)).map fun x => (c :: x.1, x.2 + 1)
def i_h (l : a_3) : Except Int (Tok × Nat) :=
 match d_w (l.drop 1) with
 | none => .error 3
 | some (t, n) => if 64 < t.length then .error 2 else .ok (⟨3, t, 0, 0⟩, n + 1)
def g_W (y : Int) : Bool := (y % 4 == 0) && (y % 100 != 0) || (y % 400 == 0)
def j_I (y m : Int) : Int := if m = 2 then (if g_W y = true then 29 else 28) else if m = 4 ∨ m = 6 ∨ m = 9 ∨ m = 11 then 30 else 31
def i_w (y : Int) : Int := if g_W y = true then 366 else 365
def g_e : Nat → Int
 | 0 => 0
 | k + 1 => g_e k + i_w (1970 + k)
def g_w (y : Int) : Nat → Int
 | 0 => 0
 | k + 1 => g_w y k + j_I y (1 + k)
def k_A (y m d : Int) : Bool := decide (1970 ≤ y) && decide (y ≤ 3065) && decide (1 ≤ m) && decide (m ≤ 12) && decide (1 ≤ d) && decide (d ≤ j_I y m)
def q_k (y m d : Int) : Int := d - 1 + g_e (y - 1970).toNat + g_w y (m - 1).toNat
def e_j (y m d : Int) : Option Int := if k_A y m d = true then (if 400000 < q_k y m d then none else some (q_k y m d)) else none
def c_W (l : a_3) : Int := l.foldl (fun v c => 10 * v + ((c.toNat : Int) - 48)) 0
def a_P : a_3 := [48, 48, 48, 48, 45, 48, 48, 45, 48, 48, 84, 48, 48, 58, 48, 48]
def i_N : a_3 → a_3 → Bool
 | [], [] => true
 | f :: fs, c :: cs => (if f.toNat = 48 then c_T c else c.toNat == f.toNat) && i_N fs cs
 | _, _ => false
def c_Y (l : a_3) : Except Int Int :=
 if i_N a_P l = false then .error 3
 else match e_j (c_W (l.take 4)) (c_W ((l.take 7).drop 5)) (c_W ((l.take 10).drop 8)) with
  | none => .error 1
  | some n =>
   if 23 < c_W ((l.take 13).drop 11) ∨ 59 < c_W ((l.take 16).drop 14) ∨ 575999999 < n * 1440 + c_W ((l.take 13).drop 11) * 60 + c_W ((l.take 16).drop 14) then .error 1
   else .ok (n * 1440 + c_W ((l.take 13).drop 11) * 60 + c_W ((l.take 16).drop 14))
def a_l : List a_3 := [[43, 43], [60, 61], [62, 61], [33, 61], [40], [41], [44], [59], [58], [124], [61], [43], [45], [42], [47], [37], [60], [62]]
def m_5 (l : a_3) : Except Int (Tok × Nat) :=
 match a_l.find? (fun x => x.isPrefixOf l) with
 | some x => .ok (⟨5, x, 0, 0⟩, x.length)
 | none => .error 3
def atS (l : a_3) : Except Int (Tok × Nat) :=
 if l.length < 17 then .error 3 else match c_Y ((l.take 17).drop 1) with
  | .error e => .error e
  | .ok n => .ok (⟨4, [], n, 0⟩, 17)
def e_Y (l : a_3) : Except Int (Tok × Nat) :=
 match l with
 | [] => .error 3
 | c :: _ =>
  if c_K c = true then c_l l else if c_T c = true then i_O l else if c.toNat = 39 then i_h l else if c.toNat = 64 then atS l else m_5 l
def c_c (c : UInt8) : Bool := (c.toNat == 32) || (c.toNat == 9) || (c.toNat == 10)
def b_w (l : a_3) : Nat := (l.takeWhile fun c => c.toNat != 10).length
def a_U : Nat → a_3 → Nat → Except (Nat × Int) (List Tok)
 | 0, _, i => .ok [⟨0, [], 0, i⟩]
 | f + 1, l, i =>
  match l with
  | [] => .ok [⟨0, [], 0, i⟩]
  | c :: r =>
   if c_c c = true then a_U f r (i + 1)
   else if c.toNat = 35 then a_U f (l.drop (b_w l)) (i + b_w l)
   else match e_Y l with
    | .error e => .error (i, e)
    | .ok (t, n) => match a_U f (l.drop n) (i + n) with
     | .error e => .error e
     | .ok ts => .ok ({ t with off := i } :: ts)
def b_z (l : a_3) : Except (Nat × Int) (List Tok) :=
 if 65536 < l.length then .error (0, 2) else a_U l.length l 0
def a_J : List a_3 := [[97, 110, 100], [111, 114], [110, 111, 116], [110, 117, 108, 108], [116, 114, 117, 101], [102, 97, 108, 115, 101], [98, 121], [115, 101, 108, 102]]
abbrev k_G (c : UInt8) : Value := .int .u8 (c.toNat : Int)
theorem a_i {w : World} {base e size n : Nat} {v : Value} {xs : List Value} (h : w.ownsRow base e size v n xs) : ∃ A c, v = .slice A n c := by
 rcases h.2 with ⟨rfl, rfl⟩ | ⟨g, cap, cur, rfl, _⟩
 ·exact ⟨none, 0, rfl⟩
 ·exact ⟨_, _, rfl⟩
theorem a_o (w : World) (base e size : Nat) : w.ownsRow base e size (.slice none 0 0) 0 [] := ⟨s_, .inl ⟨rfl, rfl⟩⟩
theorem l_7 (b : a_3) : strOfNums (b.map fun c => (c.toNat : Int)) = ⟨b.toArray⟩ := by
 unfold strOfNums
 congr 2
 rw [List.map_map]
 conv => rhs; rw [← List.map_id b]
 apply List.map_congr_left
 intro c _
 simp
theorem g_B {P : Program} {w : World} {src e dst : TypeId} (hs : P.underlying src = some (.slice e)) (he : P.underlying e = some (.int .u8)) (hd : P.underlying dst = some .string)
  {base : Nat} {A : Option Addr} {n c : Nat} {b : a_3} (h : w.ownsRow base e 1 (.slice A n c) b.length (b.map k_G)) :
  (convert src dst (.slice A n c)).run P w = .ok (str b) w := by
 rcases h.2 with ⟨hv, hn⟩ | ⟨g, cap, cur, hv, hg, hh, hnc, hcap, hsz, htk⟩
 ·injection hv with h1 h2 h3
  subst h1
  have hb : b = [] := List.eq_nil_of_length_eq_zero hn
  subst hb
  rw [run_convert_bytes_nil w src e hs he _ _ dst hd]
  rfl
 ·have hv' := hv
  injection hv with h1 h2 h3
  subst h1
  subst h2 h3
  have hcell := fun j hj => World.ownsRow.cellAt (h) j hj
  rw [run_convert_bytes_arg w src e hs he g 0 b.length c (b.map fun c => (c.toNat : Int)) s_ (fun i hi => ?_) dst hd, l_7]
  rw [Nat.zero_add, hcell i o_]
  simp [List.getD, List.getElem?_eq_getElem hi]
theorem d_g {B : Nat} {w w' : World} {o : Obj} (h : Below B (w.alloc o) w') (hB : w.heap.size < B) : w'.heap[w.heap.size]? = some o := by
 rw [h.block _ hB]; exact heap_alloc_new w o
theorem a_2 {w : World} {g : Nat} {cs : Array Value} {t : TypeId} (h : w.heap[g]? = some (.cells cs t)) (i : Nat) : w.cell? ⟨g, i, none⟩ = cs[i]? := by simp [World.cell?, h]
theorem b_F {w : World} {g : Nat} {cs : Array Value} {t : TypeId} (h : w.heap[g]? = some (.cells cs t)) (i : Nat) : w.frozen? ⟨g, i, none⟩ = false := by simp [World.frozen?, h]
theorem a_6 {w : World} {g : Nat} {o : Obj} (h : w.heap[g]? = some o) : g < w.heap.size := by
 rcases Nat.lt_or_ge g w.heap.size with h1 | h1
 ·exact h1
 ·rw [Array.getElem?_eq_none h1] at h; cases h
theorem m_a {B e size n c : Nat} {W0 wr w1 : World} {A : Option Addr} {xs : List Value} {o : Obj} (hbel : Below B W0 wr) (hown : wr.ownsRow B e size (.slice A n c) n xs)
  (hgrow : (wr.alloc o).grownBy w1 (Value.slice A n c).ownBlock) (hB : B ≤ wr.heap.size) : Below B W0 w1 :=
 (hbel.alloc hB o).grown hgrow m_ (fun k hk => (hown.lt k hk).1)
def f_Q (l : a_3) (k : Nat) (b : a_3) : Prop := d_w (l.drop 1) = (d_w (l.drop k)).map (fun x => (b ++ x.1, x.2 + (k - 1))) ∧ b.length + 1 ≤ k ∧ 1 ≤ k
theorem g_D (l : a_3) : f_Q l 1 [] := ⟨s_, s_, s_⟩
theorem b_V (s : ByteArray) (k : Nat) (h : k < s.size) : (bs s).drop k = s[k] :: (bs s).drop (k + 1) := by
 rw [List.drop_eq_getElem_cons (by rw [a_b]; exact h)]; rfl
theorem l_t (c : UInt8) (r : a_3) (h : c.toNat ≠ 39) : d_w (c :: r) = (d_w r).map fun x => (c :: x.1, x.2 + 1) := by
 cases r with
 | nil => simp [d_w, h]
 | cons d r => rw [d_w, if_neg h]
theorem g_O {s : ByteArray} {k : Nat} {b : a_3} (h : f_Q (bs s) k b) (hk : k < s.size) (hc : s[k].toNat ≠ 39) : f_Q (bs s) (k + 1) (b ++ [s[k]]) := by
 obtain ⟨h1, h2, h3⟩ := h
 refine ⟨?_, m_, o_⟩
 rw [h1, b_V s k hk, l_t _ _ hc]
 cases d_w ((bs s).drop (k + 1)) with
 | none => rfl
 | some x => simp; omega
theorem h_A {s : ByteArray} {k : Nat} {b : a_3} (h : f_Q (bs s) k b) (hk : k + 1 < s.size) (hc : s[k].toNat = 39) (hd : s[k+1].toNat = 39) : f_Q (bs s) (k + 2) (b ++ [s[k+1]]) := by
 obtain ⟨h1, h2, h3⟩ := h
 refine ⟨?_, m_, o_⟩
 rw [h1, b_V s k o_, b_V s (k + 1) hk, d_w, if_pos hc, if_pos hd]
 cases d_w ((bs s).drop (k + 1 + 1)) with
 | none => rfl
 | some x => simp; omega
theorem g_H {s : ByteArray} {k : Nat} {b : a_3} (h : f_Q (bs s) k b) (hk : k < s.size) (hc : s[k].toNat = 39) (hd : ∀ h : k + 1 < s.size, s[k+1].toNat ≠ 39) :
  i_h (bs s) = if 64 < b.length then .error 2 else .ok (⟨3, b, 0, 0⟩, k + 1) := by
 obtain ⟨h1, h2, h3⟩ := h
 have e : d_w ((bs s).drop k) = some ([], 1) := by
  rw [b_V s k hk]
  by_cases h4 : k + 1 < s.size
  ·rw [b_V s (k + 1) h4, d_w, if_pos hc, if_neg (hd h4)]
  ·have : (bs s).drop (k + 1) = [] := List.drop_eq_nil_of_le (by rw [a_b]; omega)
   rw [this, d_w, if_pos hc]
 unfold i_h
 rw [h1, e]
 simp
 rw [show 1 + (k - 1) + 1 = k + 1 by omega]
theorem i_S {s : ByteArray} {k : Nat} {b : a_3} (h : f_Q (bs s) k b) (hk : ¬ k < s.size) : i_h (bs s) = .error 3 := by
 obtain ⟨h1, h2, h3⟩ := h
 have : (bs s).drop k = [] := List.drop_eq_nil_of_le (by rw [a_b]; omega)
 unfold i_h
 rw [h1, this]
 rfl
def g_J : List Int := [31, 28, 31, 30, 31, 30, 31, 31, 30, 31, 30, 31]
def a_X (w : World) (g : Nat) (l : List a_3) : Prop :=
 g < w.heap.size ∧ ∃ b off c, b < w.heap.size ∧ w.cell? ⟨g, 0, none⟩ = some (.slice (some ⟨b, off, none⟩) l.length c) ∧ ∀ j, j < l.length → w.cell? ⟨b, off + j, none⟩ = some (str (l.getD j []))
def e_t (w : World) (g : Nat) : Prop := g < w.heap.size ∧ ∀ j, j < 12 → w.cell? ⟨g, j, none⟩ = some (.int .i64 (g_J.getD j 0))
theorem a_X.below {w w' : World} {g : Nat} {l : List a_3} (h : a_X w g l) (hb : Below w.heap.size w w') : a_X w' g l := by
 obtain ⟨h0, b, off, c, h1, h2, h3⟩ := h
 refine ⟨Nat.lt_of_lt_of_le h0 hb.size, b, off, c, Nat.lt_of_lt_of_le h1 hb.size, ?_, fun j hj => ?_⟩
 ·rw [hb.cell (p := ⟨g, 0, none⟩) h0]; exact h2
 ·rw [hb.cell (p := ⟨b, off + j, none⟩) h1]; exact h3 j hj
theorem e_t.below {w w' : World} {g : Nat} (h : e_t w g) (hb : Below w.heap.size w w') : e_t w' g :=
 ⟨Nat.lt_of_lt_of_le h.1 hb.size, fun j hj => by rw [hb.cell (p := ⟨g, j, none⟩) h.1]; exact h.2 j hj⟩
theorem a_j {P : Program} {f : FuncId} {args : Array Value} {w : World} {n : Nat} {v : Value}
  (h : Calls P f args (w.drewN n) fun e w' => e = .returned v ∧ w.drewN n = w') : Calls P f args (w.drewN n) fun e w' => e = .returned v ∧ ∃ m, w' = w.drewN m :=
 h.mono fun _ _ ⟨he, hw⟩ => ⟨he, n, hw.symm⟩
theorem a_f {B : Nat} {a w : World} (h : Below B a w) (n : Nat) : Below B a (w.drewN n) := ⟨h.os, h.tape, h.output, h.size, h.block⟩
structure Glob (w : World) : Prop where
 lens : e_t w 5
 words : a_X w 2 a_J
 syms : a_X w 3 a_l
theorem Glob.below {w w' : World} (h : Glob w) (hb : Below w.heap.size w w') : Glob w' := by
 constructor
 all_goals first | exact h.lens.below hb | exact h.syms.below hb | exact h.words.below hb
theorem h_M {c : UInt8} {r : a_3} (h : c_K c = true) : 1 ≤ a_s (c :: r) := by
 unfold a_s; rw [List.takeWhile_cons, if_pos (by unfold b_S; rw [h]; rfl)]; simp
theorem n_Z {c : UInt8} {r : a_3} {t : Tok} {n : Nat} (hc : c_K c = true) (h : c_l (c :: r) = .ok (t, n)) : 1 ≤ n ∧ n ≤ (c :: r).length := by
 have h1 := h_M (r := r) hc
 have h2 := c_D (c :: r)
 have h3 := c_D ((c :: r).drop (a_s (c :: r) + 1))
 unfold c_l at h
 split at h
 ·cases h
 ·split at h
  ·rename_i hd
   have hd' : a_s (c :: r) + 1 < (c :: r).length := by
    unfold p_7 at hd
    by_cases h : a_s (c :: r) + 1 < (c :: r).length
    ·exact h
    ·rw [dif_neg h] at hd; cases hd
   rw [List.length_drop] at h3
   split at h
   ·cases h
   ·injection h with h; injection h with _ h; omega
  ·injection h with h; injection h with _ h; omega
def u_C (l : a_3) : Bool := match l with | c :: _ => (c.toNat == 48) && decide (1 < c_0 l) | [] => false
theorem p_K (l : a_3) : i_O l = if u_C l || j_o l (c_0 l) then .error 3 else if 1073741824 < f_X (l.take (c_0 l)) then .error 1 else .ok (⟨2, [], f_X (l.take (c_0 l)), 0⟩, c_0 l) := rfl
theorem p_B {c : UInt8} {r : a_3} {t : Tok} {n : Nat} (hc : c_T c = true) (h : i_O (c :: r) = .ok (t, n)) : 1 ≤ n ∧ n ≤ (c :: r).length := by
 have h1 : 1 ≤ c_0 (c :: r) := by unfold c_0; rw [List.takeWhile_cons, if_pos hc]; simp
 have h2 : c_0 (c :: r) ≤ (c :: r).length := (List.takeWhile_sublist _).length_le
 rw [p_K] at h
 split at h
 ·cases h
 ·split at h
  ·cases h
  ·injection h with h; injection h with _ h; omega
theorem i_9 : ∀ (f : Nat) (l t : a_3) (n : Nat), l.length ≤ f → d_w l = some (t, n) → n ≤ l.length
 | 0, l, t, n, hf, h => by
  have : l = [] := List.eq_nil_of_length_eq_zero o_
  subst this; simp [d_w] at h
 | f + 1, [], t, n, _, h => by simp [d_w] at h
 | f + 1, [c], t, n, _, h => by
  unfold d_w at h
  split at h
  ·injection h with h; injection h with _ h; simp; omega
  ·cases h
 | f + 1, c :: d :: r, t, n, hf, h => by
  unfold d_w at h
  simp only [List.length_cons] at hf ⊢
  split at h
  ·split at h
   ·cases hr : d_w r with
    | none => rw [hr] at h; cases h
    | some x =>
     rw [hr] at h; injection h with h; injection h with _ h; have := i_9 f r x.1 x.2 o_ hr
     omega
   ·injection h with h; injection h with _ h; omega
  ·cases hr : d_w (d :: r) with
   | none => rw [hr] at h; cases h
   | some x =>
    rw [hr] at h; injection h with h; injection h with _ h; have := i_9 f (d :: r) x.1 x.2 m_ hr; simp only [List.length_cons] at this
    omega
theorem p_G {c : UInt8} {r : a_3} {t : Tok} {n : Nat} (h : i_h (c :: r) = .ok (t, n)) : 1 ≤ n ∧ n ≤ (c :: r).length := by
 unfold i_h at h
 split at h
 ·cases h
 ·rename_i t' n' hg
  split at h
  ·cases h
  ·injection h with h; injection h with _ h
   have := i_9 _ _ _ _ (l_ _) hg
   simp at this ⊢; omega
theorem p_n {l : a_3} {t : Tok} {n : Nat} (h : m_5 l = .ok (t, n)) : 1 ≤ n ∧ n ≤ l.length := by
 unfold m_5 at h
 split at h
 ·rename_i x hx
  injection h with h; injection h with _ h
  have h1 := List.find?_some hx
  have h2 := List.mem_of_find?_eq_some hx
  have h3 : x.length ≤ l.length := (List.isPrefixOf_iff_prefix.1 h1).length_le
  have h4 : ∀ y ∈ a_l, 1 ≤ y.length := by decide
  have := h4 x h2
  omega
 ·cases h
theorem j_n {l : a_3} {t : Tok} {n : Nat} (h : e_Y l = .ok (t, n)) : 1 ≤ n ∧ n ≤ l.length := by
 unfold e_Y at h
 split at h
 ·cases h
 ·rename_i c r
  split at h
  ·rename_i hc; exact n_Z hc h
  ·split at h
   ·rename_i hc; exact p_B hc h
   ·split at h
    ·exact p_G h
    ·split at h
     ·unfold atS at h
      split at h
      ·cases h
      ·split at h
       ·cases h
       ·injection h with h; injection h with _ h; omega
     ·exact p_n h
theorem j_g (l : a_3) : b_w l ≤ l.length := (List.takeWhile_sublist _).length_le
theorem f_C {c : UInt8} {r : a_3} (h : c.toNat = 35) : 1 ≤ b_w (c :: r) := by
 unfold b_w; rw [List.takeWhile_cons, if_pos (by rw [h]; decide)]; simp
theorem c_2 : ∀ (f : Nat) (l : a_3) (i : Nat), l.length ≤ f → a_U f l i = a_U l.length l i
 | 0, l, i, h => by
  have : l = [] := List.eq_nil_of_length_eq_zero o_
  subst this; rfl
 | f + 1, [], i, _ => rfl
 | f + 1, c :: r, i, h => by
  simp only [List.length_cons] at h
  have h' : r.length ≤ f := by omega
  show a_U (f + 1) (c :: r) i = a_U (r.length + 1) (c :: r) i
  unfold a_U
  by_cases h1 : c_c c = true
  ·simp only [h1, if_true]; rw [c_2 f r _ h']
  ·simp only [h1, Bool.false_eq_true, if_false]
   by_cases h2 : c.toNat = 35
   ·simp only [h2, if_true]
    have hp := f_C (r := r) h2; have hl : ((c :: r).drop (b_w (c :: r))).length ≤ r.length := by rw [List.length_drop]; simp; omega
    rw [c_2 f _ _ o_, c_2 r.length _ _ hl]
   ·simp only [h2, if_false]
    cases ho : e_Y (c :: r) with
    | error e => rfl
    | ok x =>
     obtain ⟨n1, n2⟩ := j_n (t := x.1) (n := x.2) ho; have hl : ((c :: r).drop x.2).length ≤ r.length := by rw [List.length_drop]; simp; omega
     simp only
     rw [c_2 f _ _ o_, c_2 r.length _ _ hl]
termination_by f _ _ _ => f
def b_H (l : a_3) (i : Nat) (acc : List Tok) : Prop :=
 a_U l.length l 0 = (match a_U (l.length - i) (l.drop i) i with | .error e => .error e | .ok ts => .ok (acc ++ ts)) ∧ i ≤ l.length ∧ acc.length ≤ i
theorem f_9 (l : a_3) : b_H l 0 [] := by
 refine ⟨?_, o_, s_⟩
 simp only [Nat.sub_zero, List.drop_zero, List.nil_append]
 cases a_U l.length l 0 <;> rfl
theorem d_D (f : Nat) (c : UInt8) (r : a_3) (i : Nat) : a_U (f + 1) (c :: r) i =
  if c_c c = true then a_U f r (i + 1)
  else if c.toNat = 35 then a_U f ((c :: r).drop (b_w (c :: r))) (i + b_w (c :: r))
  else match e_Y (c :: r) with
   | .error e => .error (i, e)
   | .ok (t, n) => match a_U f ((c :: r).drop n) (i + n) with
    | .error e => .error e
    | .ok ts => .ok ({ t with off := i } :: ts) := rfl
theorem e_U {s : ByteArray} {i : Nat} (hi : i < s.size) : a_U ((bs s).length - i) ((bs s).drop i) i =
  if c_c s[i] = true then a_U ((bs s).length - (i + 1)) ((bs s).drop (i + 1)) (i + 1)
  else if s[i].toNat = 35 then a_U ((bs s).length - (i + b_w ((bs s).drop i))) ((bs s).drop (i + b_w ((bs s).drop i))) (i + b_w ((bs s).drop i))
  else match e_Y ((bs s).drop i) with
   | .error e => .error (i, e)
   | .ok (t, n) => match a_U ((bs s).length - (i + n)) ((bs s).drop (i + n)) (i + n) with
    | .error e => .error e
    | .ok ts => .ok ({ t with off := i } :: ts) := by
 have hl : (bs s).length = s.size := rfl
 have hd := b_V s i hi
 have hlen : ((bs s).drop (i + 1)).length = s.size - (i + 1) := by rw [List.length_drop, hl]
 obtain ⟨f, hf⟩ : ∃ f, (bs s).length - i = f + 1 := ⟨(bs s).length - (i + 1), o_⟩
 have hf' : f = (bs s).length - (i + 1) := by omega
 have hlenI : ((bs s).drop i).length = s.size - i := by rw [List.length_drop, hl]
 rw [hf]
 rw [show a_U (f + 1) ((bs s).drop i) i = a_U (f + 1) (s[i] :: (bs s).drop (i + 1)) i from by rw [← hd], d_D, ← hd]
 by_cases h1 : c_c s[i] = true
 ·rw [if_pos h1, if_pos h1, hf']
 ·rw [if_neg h1, if_neg h1]
  by_cases h2 : s[i].toNat = 35
  ·rw [if_pos h2, if_pos h2]
   have hp := f_C (r := (bs s).drop (i + 1)) h2; rw [← hd] at hp; have hle := j_g ((bs s).drop i); rw [List.drop_drop, c_2 f _ _ (by rw [List.length_drop]; omega), List.length_drop]
  ·rw [if_neg h2, if_neg h2]
   cases ho : e_Y ((bs s).drop i) with
   | error e => rfl
   | ok x =>
    obtain ⟨n1, n2⟩ := j_n (t := x.1) (n := x.2) ho
    simp only
    rw [List.drop_drop, c_2 f _ _ (by rw [List.length_drop]; omega), List.length_drop]
theorem f_a {s : ByteArray} {i : Nat} {acc : List Tok} (h : b_H (bs s) i acc) (hi : i < s.size) (hb : c_c s[i] = true) : b_H (bs s) (i + 1) acc := by
 obtain ⟨h1, h2, h3⟩ := h
 rw [e_U hi, if_pos hb] at h1
 exact ⟨h1, hi, o_⟩
theorem f_N {s : ByteArray} {i : Nat} {acc : List Tok} (h : b_H (bs s) i acc) (hi : i < s.size) (hb : c_c s[i] = false) (hc : s[i].toNat = 35) : b_H (bs s) (i + b_w ((bs s).drop i)) acc ∧ 1 ≤ b_w ((bs s).drop i) ∧ i + b_w ((bs s).drop i) ≤ s.size := by
 obtain ⟨h1, h2, h3⟩ := h
 have hp := f_C (r := (bs s).drop (i + 1)) hc
 rw [← b_V s i hi] at hp
 have hle := j_g ((bs s).drop i)
 rw [List.length_drop, a_b] at hle
 rw [e_U hi, if_neg (by rw [hb]; decide), if_pos hc] at h1
 exact ⟨⟨h1, by rw [a_b]; omega, o_⟩, hp, o_⟩
theorem g_E {s : ByteArray} {i n : Nat} {acc : List Tok} {t : Tok} (h : b_H (bs s) i acc) (hi : i < s.size) (hb : c_c s[i] = false) (hc : s[i].toNat ≠ 35) (ho : e_Y ((bs s).drop i) = .ok (t, n)) :
  b_H (bs s) (i + n) (acc ++ [{ t with off := i }]) ∧ 1 ≤ n ∧ i + n ≤ s.size := by
 obtain ⟨h1, h2, h3⟩ := h
 obtain ⟨n1, n2⟩ := j_n ho
 rw [List.length_drop, a_b] at n2
 rw [e_U hi, if_neg (by rw [hb]; decide), if_neg hc, ho] at h1
 refine ⟨⟨?_, by rw [a_b]; omega, m_⟩, n1, o_⟩
 rw [h1]
 simp only
 cases a_U ((bs s).length - (i + n)) ((bs s).drop (i + n)) (i + n) with
 | error e => rfl
 | ok ts => simp
theorem g_P {s : ByteArray} {i : Nat} {acc : List Tok} {e : Int} (h : b_H (bs s) i acc) (hi : i < s.size) (hb : c_c s[i] = false) (hc : s[i].toNat ≠ 35) (ho : e_Y ((bs s).drop i) = .error e) :
  a_U (bs s).length (bs s) 0 = .error (i, e) := by
 obtain ⟨h1, h2, h3⟩ := h
 rw [e_U hi, if_neg (by rw [hb]; decide), if_neg hc, ho] at h1
 exact h1
theorem e_J {s : ByteArray} {acc : List Tok} (h : b_H (bs s) s.size acc) : a_U (bs s).length (bs s) 0 = .ok (acc ++ [⟨0, [], 0, s.size⟩]) := by
 obtain ⟨h1, h2, h3⟩ := h
 have e : (bs s).drop s.size = [] := List.drop_eq_nil_of_le (by rw [a_b]; exact l_ _)
 rw [a_b, Nat.sub_self, e] at h1
 exact h1
theorem k_o : ∀ l : a_3, (Lib.indexByte l 10 < 0 → b_w l = l.length) ∧ (¬ Lib.indexByte l 10 < 0 → Lib.indexByte l 10 = b_w l)
 | [] => by simp [Lib.indexByte, b_w]
 | c :: l => by
  obtain ⟨i1, i2⟩ := k_o l
  have hge := Lib.indexByte_ge l 10
  by_cases hc : c.toNat = 10
  ·have e : c = 10 := by apply UInt8.toNat_inj.1; rw [hc]; rfl
   subst e
   simp [Lib.indexByte, b_w]
  ·have hne : (c == 10) = false := by rw [beq_eq_false_iff_ne]; intro e; subst e; exact hc rfl
   have hn : (c.toNat != 10) = true := by simp [hc]
   have el : b_w (c :: l) = b_w l + 1 := by unfold b_w; rw [List.takeWhile_cons, if_pos hn]; simp
   rw [el]; unfold Lib.indexByte; rw [hne]; simp only [Bool.false_eq_true, if_false]
   by_cases hm : Lib.indexByte l 10 = -1
   ·rw [hm]; simp; rw [i1 o_]
   ·have hm' : (Lib.indexByte l 10 == -1) = false := by simp [hm]
    rw [hm']; simp; have := i2 o_
    omega
end Go.Proofs.YtmbeeefkpgfgmaaGreatDoor
