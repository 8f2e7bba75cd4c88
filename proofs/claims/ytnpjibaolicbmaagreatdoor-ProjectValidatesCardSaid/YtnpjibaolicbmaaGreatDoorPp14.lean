/- Parts of the proof. -/
import Derived.Test.YtnpjibaolicbmaaGreatDoorPp07
import Derived.ChangeAlike
import Derived.BigRegion
set_option linter.unusedVariables false
set_option linter.unusedSimpArgs false
set_option maxHeartbeats 8000000
namespace Go.Proofs.YtnpjibaolicbmaaGreatDoor
open Go.Proofs.Tryz
open Go.RowKit
set_option maxRecDepth 100000
theorem m_T (k m a : Int) (x nm : ByteArray) (X C Z : Option Addr) (cs : List Col) (xm xc cc zm zc : Nat) (w : World) (hC : b_1 w C cs) (hl : cs.length ≤ 8796093022208) :
  Calls prog 255 #[ndV 1 k m x nm a, .slice X xm xc, .slice C cs.length cc, .slice Z zm zc] w fun e w' => e_U e ∧ Below w.heap.size w w' := by
 have HC := a_2 hC
 clear hC
 go_enter func255, ntmps255
 go_wp2_with fail
 refine (e_f C cs cc nm _ (HC.out.below zX) hl).mono ?_
 rintro e w' ⟨⟨i, i0, i1, rfl⟩, rfl⟩
 by_cases hi : i < 0
 ·go_wp2
  refine a_S rfl ?_
  apply Exists.intro
  apply And.intro
  ·simp [results, results255, go_sem]; rfl
  ·exact ⟨⟨_, _, _, rfl⟩, zX⟩
 ·obtain ⟨n, rfl⟩ : ∃ n : Nat, i = n := ⟨i.toNat, o_⟩
  have hn : n < cs.length := by omega
  rcases HC.out with e | ⟨g, off, rfl, hg, hc⟩
  ·rw [e] at hn; simp at hn
  obtain ⟨c0, c1, c2⟩ := hc n hn
  clear hc
  generalize cs[n] = y at *
  refine o_8 ?_; intro L
  have d1 := fun o1 o2 o3 => (L o1 o2 o3 _).trans c1
  have d2 := fun o1 o2 o3 => (L o1 o2 o3 _).trans c2
  clear L c0 c1 c2
  go_wp2
  go_region
  all_goals
   go_wp2
   refine a_S rfl ?_; apply Exists.intro; apply And.intro
   ·simp [results, results255, go_sem]; rfl
   ·exact ⟨⟨_, _, _, rfl⟩, zX⟩
set_option maxRecDepth 512
theorem b_7 {w1 : World} {B : Nat} {x0 x1 y0 y1 : Value} {t1 t2 : TypeId} (h2 : w1.heap[B + 1]? = some (.cells #[x0, x1] t1)) (h3 : w1.heap[B + 1 + 1]? = some (.cells #[y0, y1] t2)) :
  (w1.cell? ⟨B + 1, 0, none⟩ = some x0 ∧ w1.cell? ⟨B + 1, 1, none⟩ = some x1 ∧ ∀ i, w1.frozen? ⟨B + 1, i, none⟩ = false) ∧
  (w1.cell? ⟨B + 1 + 1, 0, none⟩ = some y0 ∧ w1.cell? ⟨B + 1 + 1, 1, none⟩ = some y1 ∧ ∀ i, w1.frozen? ⟨B + 1 + 1, i, none⟩ = false) ∧
  (∀ a, (w1.setCell ⟨B + 1 + 1, 0, none⟩ a).cell? ⟨B + 1 + 1, 0, none⟩ = some a) ∧
  (∀ a b, ((w1.setCell ⟨B + 1 + 1, 0, none⟩ a).setCell ⟨B + 1 + 1, 1, none⟩ b).cell? ⟨B + 1 + 1, 1, none⟩ = some b) ∧
  (∀ a b c, (((w1.setCell ⟨B + 1 + 1, 0, none⟩ a).setCell ⟨B + 1 + 1, 1, none⟩ b).setCell ⟨B + 1, 0, none⟩ c).cell? ⟨B + 1, 0, none⟩ = some c) ∧
  (∀ a b c d, ((((w1.setCell ⟨B + 1 + 1, 0, none⟩ a).setCell ⟨B + 1 + 1, 1, none⟩ b).setCell ⟨B + 1, 0, none⟩ c).setCell ⟨B + 1, 1, none⟩ d).cell? ⟨B + 1, 1, none⟩ = some d) := by
 have a0 : w1.cell? ⟨B + 1, 0, none⟩ = some x0 := by rw [a_0 h2]; rfl
 have a1 : w1.cell? ⟨B + 1, 1, none⟩ = some x1 := by rw [a_0 h2]; rfl
 have b0 : w1.cell? ⟨B + 1 + 1, 0, none⟩ = some y0 := by rw [a_0 h3]; rfl
 have b1 : w1.cell? ⟨B + 1 + 1, 1, none⟩ = some y1 := by rw [a_0 h3]; rfl
 refine ⟨⟨a0, a1, fun i => a_C h2 i⟩, ⟨b0, b1, fun i => a_C h3 i⟩, fun a => (b_x b0 b1 a (.bool true)).1, fun a b => (b_x b0 b1 a b).2, fun a b c => ?_, fun a b c d => ?_⟩
 ·exact (b_x (x := x0) (y := x1) (by rw [World.cell?_setCell_other _ _ _ _ s_, World.cell?_setCell_other _ _ _ _ s_]; exact a0) (by rw [World.cell?_setCell_other _ _ _ _ s_, World.cell?_setCell_other _ _ _ _ s_]; exact a1) c (.bool true)).1
 ·exact (b_x (x := x0) (y := x1) (by rw [World.cell?_setCell_other _ _ _ _ s_, World.cell?_setCell_other _ _ _ _ s_]; exact a0) (by rw [World.cell?_setCell_other _ _ _ _ s_, World.cell?_setCell_other _ _ _ _ s_]; exact a1) c d).2
set_option maxRecDepth 100000
theorem n_x (op k m a : Int) (x nm : ByteArray) (X C Z : Option Addr) (xc cm cc zm zc : Nat) (w : World) (hX : e_M w X 1) (h0 : (op == 0) = false) (h1 : (op == 1) = false) (h21 : (op == 21) = false) (h17 : (op == 17) = false) (h20 : (op == 20) = false) :
  Calls prog 255 #[ndV op k m x nm a, .slice X 1 xc, .slice C cm cc, .slice Z zm zc] w fun e w' => e_U e ∧ Below w.heap.size w w' := by
 rcases hX with e | ⟨g, off, rfl, hg, hc⟩
 ·cases e
 obtain ⟨k0, b0, c0, c1⟩ := hc 0 o_
 simp only [Nat.zero_mul, Nat.add_zero] at c0 c1
 clear hc
 refine o_8 ?_; intro L
 have d1 := fun o1 o2 o3 => (L o1 o2 o3 _).trans c0
 have d2 := fun o1 o2 o3 => (L o1 o2 o3 _).trans c1
 clear L c0 c1
 go_enter func255, ntmps255
 go_wp2
 go_region_with (go_at_call 273; refine (e_k _ _ _ _).mono ?_; rintro e w1 ⟨⟨kr, br, cr, rfl⟩, hb1⟩; obtain ⟨_, h2, h3, hb2⟩ := n_O (w := w) (o1 := d_x op k m x nm a) (o2 := knO 0 false) (o3 := knO 0 false) (w1 := w1) ⟨hb1.os, hb1.tape, hb1.output, hb1.size, hb1.block⟩; obtain ⟨⟨x0, x1, xf⟩, ⟨y0, y1, yf⟩, s0, s1, u0, u1⟩ := b_7 h2 h3; clear hb1 h2 h3)
 all_goals
  go_wp2
  all_goals
   refine a_S rfl ?_; apply Exists.intro; apply And.intro
   ·simp [results, results255, go_sem, s0, s1, u0, u1]; rfl
   ·exact ⟨⟨_, _, _, rfl⟩, zX⟩
theorem m_d (op k m a : Int) (x nm : ByteArray) (X C Z : Option Addr) (xc cm cc zm zc : Nat) (w : World) (hX : e_M w X 2) (h0 : (op == 0) = false) (h1 : (op == 1) = false) (h21 : (op == 21) = false) (h17 : (op == 17) = false) (h20 : (op == 20) = false) :
  Calls prog 255 #[ndV op k m x nm a, .slice X 2 xc, .slice C cm cc, .slice Z zm zc] w fun e w' => e_U e ∧ Below w.heap.size w w' := by
 rcases hX with e | ⟨g, off, rfl, hg, hc⟩
 ·cases e
 obtain ⟨k0, b0, c0, c1⟩ := hc 0 o_
 simp only [Nat.zero_mul, Nat.add_zero] at c0 c1
 obtain ⟨k1, b1, c2, c3⟩ := hc 1 o_
 simp only [Nat.one_mul] at c2 c3
 clear hc
 refine o_8 ?_; intro L
 have d1 := fun o1 o2 o3 => (L o1 o2 o3 _).trans c0
 have d2 := fun o1 o2 o3 => (L o1 o2 o3 _).trans c1
 have d3 := fun o1 o2 o3 => (L o1 o2 o3 _).trans c2
 have d4 := fun o1 o2 o3 => (L o1 o2 o3 _).trans c3
 clear L c0 c1 c2 c3
 go_enter func255, ntmps255
 go_wp2
 go_region_with (go_at_call 274; refine (g_C _ _ _ _ _ _).mono ?_; rintro e w1 ⟨⟨kr, br, cr, rfl⟩, hb1⟩; obtain ⟨_, h2, h3, hb2⟩ := n_O (w := w) (o1 := d_x op k m x nm a) (o2 := knO 0 false) (o3 := knO 0 false) (w1 := w1) ⟨hb1.os, hb1.tape, hb1.output, hb1.size, hb1.block⟩; obtain ⟨⟨x0, x1, xf⟩, ⟨y0, y1, yf⟩, s0, s1, u0, u1⟩ := b_7 h2 h3; clear hb1 h2 h3)
 all_goals
  go_wp2
  all_goals
   refine a_S rfl ?_; apply Exists.intro; apply And.intro
   ·simp [results, results255, go_sem, s0, s1, u0, u1]; rfl
   ·exact ⟨⟨_, _, _, rfl⟩, zX⟩
set_option maxRecDepth 100000
theorem m_t (k m a : Int) (x nm : ByteArray) (X C Z : Option Addr) (xc cm cc zm zc : Nat) (w : World) (hX : e_M w X 1) (hZ : d_C w Z zm) (hz : zm ≤ 8796093022208) :
  Calls prog 255 #[ndV 20 k m x nm a, .slice X 1 xc, .slice C cm cc, .slice Z zm zc] w fun e w' => e_U e ∧ Below w.heap.size w w' := by
 have HX := a_2 hX
 have HZ := a_2 hZ
 clear hX hZ
 go_enter func255, ntmps255
 go_wp2_with fail
 refine (h_O Z zm zc nm _ (HZ.out.below zX) hz).mono ?_
 rintro e w1 ⟨⟨znm, zo, zS, zsm, zsc, zb, rfl⟩, hb1⟩
 obtain ⟨g1, h2, h3, hb2⟩ := n_O (w := w) (o1 := d_x 20 k m x nm a) (o2 := knO 0 false) (o3 := knO 0 false) (w1 := w1) ⟨hb1.os, hb1.tape, hb1.output, hb1.size, hb1.block⟩
 have hlt := a_6 h3
 have l0 : w.heap.size < w1.heap.size := by omega
 have l1 : w.heap.size + 1 < w1.heap.size := by omega
 have G1 : ∀ o, (w1.alloc o).heap[w.heap.size]? = some (d_x 20 k m x nm a) := fun o => (heap_alloc_old _ _ o_).trans g1
 have G2 : ∀ o, (w1.alloc o).heap[w.heap.size + 1]? = some (knO 0 false) := fun o => (heap_alloc_old _ _ o_).trans h2
 have G3 : ∀ o, (w1.alloc o).heap[w.heap.size + 1 + 1]? = some (knO 0 false) := fun o => (heap_alloc_old _ _ o_).trans h3
 have T := fun o => b_7 (w1 := w1.alloc o) (G2 o) (G3 o)
 have x0 := fun o => (T o).1.1
 have x1 := fun o => (T o).1.2.1
 have xf := fun o => (T o).1.2.2
 have y0 := fun o => (T o).2.1.1
 have y1 := fun o => (T o).2.1.2.1
 have yf := fun o => (T o).2.1.2.2
 obtain ⟨⟨p0, p1, pf⟩, ⟨q0, q1, qf⟩, r0, r1, v0, v1⟩ := b_7 h2 h3
 have s0 := fun o => (T o).2.2.1
 have s1 := fun o => (T o).2.2.2.1
 have u0 := fun o => (T o).2.2.2.2.1
 have u1 := fun o => (T o).2.2.2.2.2
 have n0 : ∀ o, (w1.alloc o).cell? ⟨w.heap.size, 0, none⟩ = some (.int .i64 20) := fun o => by rw [a_0 (G1 o)]; rfl
 have n1 : w1.cell? ⟨w.heap.size, 0, none⟩ = some (.int .i64 20) := by rw [a_0 g1]; rfl
 have z1 : ∀ o a b, (((w1.setCell ⟨w.heap.size + 1, 0, none⟩ a).setCell ⟨w.heap.size + 1, 1, none⟩ b).alloc o).cell? ⟨w.heap.size + 1, 1, none⟩ = some b := fun o a b => ((show Below w1.heap.size ((w1.setCell ⟨w.heap.size + 1, 0, none⟩ a).setCell ⟨w.heap.size + 1, 1, none⟩ b) _ from zX).cell (p := ⟨w.heap.size + 1, 1, none⟩) l1).trans (b_x p0 p1 a b).2
 have z0 : ∀ o a b, (((w1.setCell ⟨w.heap.size + 1, 0, none⟩ a).setCell ⟨w.heap.size + 1, 1, none⟩ b).alloc o).cell? ⟨w.heap.size + 1, 0, none⟩ = some a := fun o a b => ((show Below w1.heap.size ((w1.setCell ⟨w.heap.size + 1, 0, none⟩ a).setCell ⟨w.heap.size + 1, 1, none⟩ b) _ from zX).cell (p := ⟨w.heap.size + 1, 0, none⟩) l1).trans ((World.cell?_setCell_other _ _ _ _ s_).trans (b_x p0 p1 a b).1)
 have hb3 : ∀ o, Below w.heap.size w (w1.alloc o) := fun o => hb2.trans zX
 clear T g1 h2 h3 hb1
 cases zb
 ·go_wp2
  all_goals
   refine a_S rfl ?_; apply Exists.intro; apply And.intro
   ·simp [results, results255, go_sem, z0, z1, s0, s1, u0, u1]; rfl
   ·exact ⟨⟨_, _, _, rfl⟩, zX⟩
 ·rcases HX.out with e | ⟨g, off, rfl, hg, hc⟩
  ·cases e
  obtain ⟨k0, b0, c0, c1⟩ := hc 0 o_
  simp only [Nat.zero_mul, Nat.add_zero] at c0 c1
  have e1 := (hb2.cell (p := ⟨g, _, none⟩) hg).trans c0
  have e2 := (hb2.cell (p := ⟨g, _, none⟩) hg).trans c1
  have hgw : g < w1.heap.size := by omega
  have d1 := fun o => ((hb3 o).cell (p := ⟨g, _, none⟩) hg).trans c0
  have d2 := fun o => ((hb3 o).cell (p := ⟨g, _, none⟩) hg).trans c1
  clear hc c0 c1
  go_wp2
  go_region_with (go_at_call 273; refine (e_k _ _ _ _).mono ?_; rintro e w2 ⟨⟨kr, br, cr, rfl⟩, hb4⟩; have hb6 : Below (w1.alloc (.cells #[.string znm, .int .i64 zo, .slice zS zsm zsc] 47)).heap.size (w1.alloc (.cells #[.string znm, .int .i64 zo, .slice zS zsm zsc] 47)) w2 := ⟨hb4.os, hb4.tape, hb4.output, hb4.size, hb4.block⟩; have h2 := (hb6.block (w.heap.size + 1) m_).trans (G2 _); have h3 := (hb6.block (w.heap.size + 1 + 1) m_).trans (G3 _); have hb5 := (hb3 _).trans (hb6.mono m_); clear p0 p1 pf q0 q1 qf r0 r1 v0 v1 s0 s1 u0 u1; obtain ⟨⟨p0, p1, pf⟩, ⟨q0, q1, qf⟩, s0, s1, u0, u1⟩ := b_7 h2 h3; clear hb4 hb6 h2 h3)
  all_goals
   go_wp2
   all_goals
    refine a_S rfl ?_; apply Exists.intro; apply And.intro
    ·simp [results, results255, go_sem, s0, s1, u0, u1]; rfl
    ·exact ⟨⟨_, _, _, rfl⟩, zX⟩
set_option maxRecDepth 512
theorem m_7 (op k m a : Int) (x nm : ByteArray) (X C Z : Option Addr) (cs : List Col) (n xc cc zm zc : Nat) (w : World) (ha : (n : Int) = b_N op a) (h17 : op ≠ 17) (hX : e_M w X n) (hC : b_1 w C cs) (hl : cs.length ≤ 8796093022208) (hZ : d_C w Z zm) (hz : zm ≤ 8796093022208) :
  Calls prog 255 #[ndV op k m x nm a, .slice X n xc, .slice C cs.length cc, .slice Z zm zc] w fun e w' => e_U e ∧ Below w.heap.size w w' := by
 by_cases h0 : op = 0
 ·subst h0; exact j_V k m a x nm X C Z n xc cs.length cc zm zc w
 by_cases h1 : op = 1
 ·subst h1; exact m_T k m a x nm X C Z cs n xc cc zm zc w hC hl
 by_cases h21 : op = 21
 ·subst h21; exact l_9 k m a x nm X C Z n xc cs.length cc zm zc w
 have e0 : (op == 0) = false := by simpa using h0
 have e1 : (op == 1) = false := by simpa using h1
 have e21 : (op == 21) = false := by simpa using h21
 have e17 : (op == 17) = false := by simpa using h17
 unfold b_N at ha
 rw [if_neg o_] at ha
 by_cases h : op = 2 ∨ op = 3 ∨ op = 16 ∨ op = 19 ∨ op = 20
 ·rw [if_pos h] at ha
  have hn : n = 1 := by omega
  subst hn
  by_cases h20 : op = 20
  ·subst h20; exact m_t k m a x nm X C Z xc cs.length cc zm zc w hX hZ hz
  ·exact n_x op k m a x nm X C Z xc cs.length cc zm zc w hX e0 e1 e21 e17 (by simpa using h20)
 ·rw [if_neg h, if_neg h17, if_neg h21] at ha
  split at ha
  ·have hn : n = 2 := by omega
   subst hn; exact m_d op k m a x nm X C Z xc cs.length cc zm zc w hX e0 e1 e21 e17 m_
  ·omega
def cmB (k1 k2 : Int) : Bool := (k1 == 0) || f_D k2 k1
set_option maxRecDepth 100000
theorem c_A (k1 k2 : Int) (b1 b2 : Bool) (w : World) : Calls prog 271 #[knV k1 b1, knV k2 b2] w fun e w' => (∃ k : Int, e = .returned (.tuple #[.int .i64 k, .bool (cmB k1 k2)])) ∧ Below w.heap.size w w' := by
 by_cases h : k1 = 0
 ·subst h
  go_enter func271, ntmps271
  go_wp2
  go_ret2
  exact ⟨⟨_, rfl⟩, zX⟩
 ·have hb : (k1 == 0) = false := by simpa using h
  have HE := a_2 (show cmB k1 k2 = f_D k2 k1 from by unfold cmB; rw [hb]; rfl)
  go_enter func271, ntmps271
  go_wp2
  go_region_with (go_at_call 272; refine (a_V _ _ _ _).mono ?_; rintro e w' ⟨rfl, rfl⟩)
  all_goals
   go_wp2
   rw [HE.out]
   go_ret2
   exact ⟨⟨_, rfl⟩, zX⟩
def p_H (C B : Bool) : Prop := ∀ (k m a : Int) (x nm : ByteArray) (g off : Nat) (Cp Z : Option Addr) (xc cm cc zm zc : Nat) (w : World) (k0 k1 k2 : Int) (b0 b2 : Bool), g < w.heap.size → cmB k1 k2 = C →
  w.cell? ⟨g, off, none⟩ = some (.int .i64 k0) → w.cell? ⟨g, off + 1, none⟩ = some (.bool b0) → w.cell? ⟨g, off + 2, none⟩ = some (.int .i64 k1) → w.cell? ⟨g, off + 2 + 1, none⟩ = some (.bool B) → w.cell? ⟨g, off + 4, none⟩ = some (.int .i64 k2) → w.cell? ⟨g, off + 4 + 1, none⟩ = some (.bool b2) →
  Calls prog 255 #[ndV 17 k m x nm a, .slice (some ⟨g, off, none⟩) 3 xc, .slice Cp cm cc, .slice Z zm zc] w fun e w' => e_U e ∧ Below w.heap.size w w'
end Go.Proofs.YtnpjibaolicbmaaGreatDoor
