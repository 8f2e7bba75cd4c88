/- Parts of the proof. -/
import Derived.Test.YtmbeeefkpgfgmaaGreatDoorPp23
set_option linter.unusedVariables false
set_option linter.unusedSimpArgs false
set_option maxHeartbeats 8000000
namespace Go.Proofs.YtmbeeefkpgfgmaaGreatDoor
open Go.Proofs.Tryz
open Go.RowKit
structure PrC (W0 : World) (P Bp Bs : Nat) (op : Int) (src : a_3) (W : World) (c : List a_3 × List a_3) (E : Option Addr) (n : Nat) (F : Option Addr) (m : Nat) : Prop where
 pb : PBox W0 P Bp W
 w0 : W0.heap.size ≤ Bs
 ne : Bp < Bs
 box : W.heap[Bs]? = some (.cells #[.int .i64 op, str src, .slice E c.1.length n, .slice F c.2.length m, .slice none 0 0, .slice none 0 0] 27 (0, 0))
 own1 : W.ownsRow (Bs + 1) 9 1 (.slice E c.1.length n) c.1.length (c.1.map str)
 own2 : W.ownsRow (Bs + 1) 9 1 (.slice F c.2.length m) c.2.length (c.2.map str)
 dis : ∀ k, (Value.slice E c.1.length n).ownBlock = some k → (Value.slice F c.2.length m).ownBlock ≠ some k
section
variable {W0 W W' w3 w4 : World} {P Bp Bs n m g k cc : Nat} {op : Int} {src x : a_3} {A E F : Option Addr} {ts : List Tok} {s s0 : QSt} {a b : List a_3}
theorem PrC.step {c : List a_3 × List a_3} (h : PrC W0 P Bp Bs op src W c E n F m) (hg : W.grownBy W' (some P)) : PrC W0 P Bp Bs op src W' c E n F m := by
 refine p_T ?_; intro h1 h2 h3
 exact ⟨h.pb.step hg, h.w0, h3, a_r hg h.box o_, a_v h.own1 hg o_, a_v h.own2 hg o_, h.dis⟩
theorem e_T {w : World} {base e size l : Nat} {v : Value} {xs : List Value} (h : w.ownsRow base e size v l xs) (j : Nat) (hj : v.ownBlock = some j) : j < w.heap.size := (h.lt j hj).2
theorem PrC.done1 (h : PrC W0 P Bp Bs op src W (a, b) E n F m) (hq : QPt QT w3 P A ts cc s) (hg : W.grownBy w3 (some P)) (g4 : w3.grownBy w4 (Value.slice E a.length n).ownBlock)
  (hl : (Value.slice E a.length n).ownBlock = some g ∨ g = w3.heap.size) (o4 : w4.ownsRow (Bs + 1) 9 1 (.slice (some ⟨g, 0, none⟩) (a.length + 1) k) (a.length + 1) (a.map str ++ [str x])) :
  QPt QT (w4.setCell ⟨Bs, 2, none⟩ (.slice (some ⟨g, 0, none⟩) (a.length + 1) k)) P A ts cc s ∧ PrC W0 P Bp Bs op src (w4.setCell ⟨Bs, 2, none⟩ (.slice (some ⟨g, 0, none⟩) (a.length + 1) k)) (a ++ [x], b) (some ⟨g, 0, none⟩) k F m := by
 refine p_T ?_; intro h1 h2 h3
 have h4 := h.w0
 have hr : ∀ j, (Value.slice E a.length n).ownBlock = some j → Bs < j := fun j e => (h.own1.lt j e).1
 refine w_F ?_; intro p1 p2 hW0 z0 b3 b4 q3 q4
 have g5 : w4.grownBy (w4.setCell ⟨Bs, 2, none⟩ (.slice (some ⟨g, 0, none⟩) (a.length + 1) k)) (some Bs) := a_d (g_ _ _) _ _
 have p4 : w4.ownsRow (Bs + 1) 9 1 (.slice F b.length m) b.length (b.map str) := p2.kept g4 (by
  cases hb : (Value.slice F b.length m).ownBlock with
  | none => exact .inl rfl
  | some j => exact .inr (fun e => h.dis j e.symm hb))
 refine ⟨(hq.gr g4 (fun j e => by have := hr j e; omega)).gr g5 (fun j e => by injection e with e; omega), ⟨⟨(hW0.andThen g4 (fun j e => .inl (by have := hr j e; omega))).andThen g5 (fun j e => .inl j_), h1, h2, ?_⟩, h4, h3, ?_, ?_, a_v p4 g5 (Nat.lt_succ_self _), ?_⟩⟩
 ·exact (g5.block Bp (a_6 q4) (fun e => by injection e with e; omega)).trans q4
 ·have := heap_setCell_same w4 Bs 2 _ _ (.slice (some ⟨g, 0, none⟩) (a.length + 1) k) b4
  simpa using this
 ·have := a_v o4 g5 (Nat.lt_succ_self _)
  simpa using this
 ·intro j e1 e2
  injection e1 with e1
  subst e1
  rcases hl with hl | hl
  ·exact h.dis _ hl e2
  ·have := e_T p2 g e2
   omega
theorem PrC.done2 (h : PrC W0 P Bp Bs op src W (a, b) E n F m) (hq : QPt QT w3 P A ts cc s) (hg : W.grownBy w3 (some P)) (g4 : w3.grownBy w4 (Value.slice F b.length m).ownBlock)
  (hl : (Value.slice F b.length m).ownBlock = some g ∨ g = w3.heap.size) (o4 : w4.ownsRow (Bs + 1) 9 1 (.slice (some ⟨g, 0, none⟩) (b.length + 1) k) (b.length + 1) (b.map str ++ [str x])) :
  QPt QT (w4.setCell ⟨Bs, 3, none⟩ (.slice (some ⟨g, 0, none⟩) (b.length + 1) k)) P A ts cc s ∧ PrC W0 P Bp Bs op src (w4.setCell ⟨Bs, 3, none⟩ (.slice (some ⟨g, 0, none⟩) (b.length + 1) k)) (a, b ++ [x]) E n (some ⟨g, 0, none⟩) k := by
 refine p_T ?_; intro h1 h2 h3
 have h4 := h.w0
 have hr : ∀ j, (Value.slice F b.length m).ownBlock = some j → Bs < j := fun j e => (h.own2.lt j e).1
 refine w_F ?_; intro p1 p2 hW0 z0 b3 b4 q3 q4
 have g5 : w4.grownBy (w4.setCell ⟨Bs, 3, none⟩ (.slice (some ⟨g, 0, none⟩) (b.length + 1) k)) (some Bs) := a_d (g_ _ _) _ _
 have p4 : w4.ownsRow (Bs + 1) 9 1 (.slice E a.length n) a.length (a.map str) := p1.kept g4 (by
  cases hb : (Value.slice E a.length n).ownBlock with
  | none => exact .inl rfl
  | some j => exact .inr (fun e => h.dis j hb e.symm))
 refine ⟨(hq.gr g4 (fun j e => by have := hr j e; omega)).gr g5 (fun j e => by injection e with e; omega), ⟨⟨(hW0.andThen g4 (fun j e => .inl (by have := hr j e; omega))).andThen g5 (fun j e => .inl j_), h1, h2, ?_⟩, h4, h3, ?_, a_v p4 g5 (Nat.lt_succ_self _), ?_, ?_⟩⟩
 ·exact (g5.block Bp (a_6 q4) (fun e => by injection e with e; omega)).trans q4
 ·have := heap_setCell_same w4 Bs 3 _ _ (.slice (some ⟨g, 0, none⟩) (b.length + 1) k) b4
  simpa using this
 ·have := a_v o4 g5 (Nat.lt_succ_self _)
  simpa using this
 ·intro j e1 e2
  injection e2 with e2
  subst e2
  rcases hl with hl | hl
  ·exact h.dis _ e1 hl
  ·have := e_T p1 g e1
   omega
end
set_option maxRecDepth 100000
theorem q_1 (W0 W : World) (P Bp Bs : Nat) (op : Int) (src : a_3) (A : Option Addr) (ts : List Tok) (cc : Nat) (c : List a_3 × List a_3) (s : QSt) (hv : a_O ts = true) (hS : QPt QT W P A ts cc s) (hC : ∃ E n F m, PrC W0 P Bp Bs op src W c E n F m) (hi : s.i < ts.length) (hl : ts.length ≤ 1000000) (hc : c.1.length ≤ 2000000) (hd : c.2.length ≤ 2000000) :
  Calls prog 239 #[a_G Bs, a_G Bp] W fun e w' => e = .returned (.tuple #[]) ∧ QPt QT w' P A ts cc (c_1 ts c s).2 ∧ ∃ E n F m, PrC W0 P Bp Bs op src w' (c_1 ts c s).1 E n F m := by
 obtain ⟨i0, hi0, hz0, hz1, hz2⟩ := info_parts Tryz.info_txt
 obtain ⟨E, n, F, m, hC⟩ := hC
 obtain ⟨a, b⟩ := c
 have h1 := hC.pb.lt
 have h2 := hC.pb.le
 have h3 := hC.ne
 have z0 := hC.pb.gr.size
 have hb0 := a_2 hC.pb.box 0
 have hb2 := a_2 hC.box 2
 have hlb := a_6 hC.box
 have HC := a_0 hC
 have ho1 := e_T hC.own1
 have hl1 := a_0 (fun j e => (hC.own1.lt j e).1)
 simp at hb0 hb2
 have g1 := a_V hv s
 have g2 := g1.trans (a_H hv (a_7 ts s).2 (k := 5) d_ wEq)
 refine t_N ?_; intro HN
 have HSy := a_0 (fun (W' : World) (h : QPt QT W' P A ts cc (a_7 ts s).2) => e_2 W' P A ts cc _ h (g1.lt hi) hl wEq)
 have HN2 := a_0 (fun (W' : World) (h : QPt QT W' P A ts cc (a_c ts (a_7 ts s).2 5 wEq)) => g_F W' P A ts cc _ h (g2.lt hi) hl)
 clear hS hC g1 g2 ho1
 have HD := a_0 (show c_1 ts (a, b) s = ((a ++ [(a_7 ts s).1], b ++ [(a_7 ts (a_c ts (a_7 ts s).2 5 wEq)).1]), (a_7 ts (a_c ts (a_7 ts s).2 5 wEq)).2) from rfl)
 rw [HD.out]
 clear HD
 simp only at hc hd hb2
 generalize a_7 ts (a_c ts (a_7 ts s).2 5 wEq) = r3 at *
 generalize a_c ts (a_7 ts s).2 5 wEq = s2 at *
 generalize a_7 ts s = r1 at *
 obtain ⟨x, s1⟩ := r1
 obtain ⟨y, s3⟩ := r3
 simp only at HN HSy HN2 ⊢
 go_enter func239, ntmps239
 go_upto_region 0 with fail
 (go_region_law (first
  | (go_simp; go_at_call 110; refine (HN.out _ zX).mono ?_; rintro e w1 ⟨rfl, hq1⟩; have g1 := (a_1 (r := some P) (show Below W.heap.size W _ from zX)).trans hq1.gr; have HQ1 := a_0 hq1.pt; have HG1 := a_0 g1; have hz1' := g1.size; have l1 : Bs < w1.heap.size := Nat.lt_of_lt_of_le hlb hz1'; have l2 : Bp < w1.heap.size := o_; have e1 := a_2 (a_r g1 HC.out.box o_) 2; have e2 := a_2 (a_r g1 HC.out.pb.box o_) 0; simp at e1 e2; have HO1 := a_0 (show w1.ownsRow (Bs + 1) 9 1 (.slice E a.length n) a.length (a.map str) from a_v HC.out.own1 g1 o_); clear hq1 g1)
  | (refine step_append_lies _ r_ _ _ _ r_ (Bs + 1) 9 i0 _ 1 16 underlying23 hi0 hz0 hz1 hz2 rfl o_ _ _ _ r_ (a_8 HO1.out zX) ⟨_, 0, none⟩ 1 1 [str x] r_ rfl (by exact d_L (b_d s_)) c_ o_ x_ o_ m_ _ rfl ?_; intro g4 n4 w4 o4 gr4 hl4 hs4; have b4 := c_F HC.out.box (a_h HG1.out zX) o_ gr4 (fun j e => Nat.lt_of_succ_le (hl1.out j e)); have d0 := a_2 b4 2; have d1 := b_1 b4 2; simp at d0; have l4 := a_6 b4; have HF := a_0 (PrC.done1 HC.out (HQ1.out.below zX) (a_h HG1.out zX) gr4 hl4 o4); clear o4 gr4 hl4 b4)))
 all_goals
  have hq5 := HF.out.1
  have hc5 := HF.out.2
  clear HF HQ1 HG1 HO1 d0 d1 e1 e2 hs4 l1 l2 l4 hz1' hb0 hb2 HC HN hl1 hlb
  generalize w4.setCell ⟨Bs, 2, none⟩ (.slice (some ⟨g4, 0, none⟩) (a.length + 1) n4) = w5 at *
  have hb0 := a_2 hc5.pb.box 0
  simp at hb0
  have HQ5 := a_0 hq5
  have HC5 := a_0 hc5
  clear hq5 hc5
  go_wp2_with fail
  refine (HSy.out _ HQ5.out).mono ?_
  rintro e w6 ⟨rfl, hq6⟩
  have HC6 := a_0 (HC5.out.step hq6.gr)
  have HQ6 := a_0 hq6.pt
  have z6 := HC6.out.pb.gr.size
  have hlb6 := a_6 HC6.out.box
  have hl6 := a_0 (fun j e => (HC6.out.own2.lt j e).1)
  clear hq6 HQ5 HC5 HSy hb0
  have hb0 := a_2 HC6.out.pb.box 0
  have hb3 := a_2 HC6.out.box 3
  simp at hb0 hb3
  have HN6 := a_0 (fun (W' : World) (hb : Below w6.heap.size w6 W') => HN2.out W' (HQ6.out.below hb))
  clear HN2
  go_upto_region 2 with fail
  (go_region_law (first
   | (go_simp; go_at_call 110; refine (HN6.out _ zX).mono ?_; rintro e w1 ⟨rfl, hq1⟩; have g1 := (a_1 (r := some P) (show Below w6.heap.size w6 _ from zX)).trans hq1.gr; have HQ1 := a_0 hq1.pt; have HG1 := a_0 g1; have hz1' := g1.size; have l1 : Bs < w1.heap.size := Nat.lt_of_lt_of_le hlb6 hz1'; have l2 : Bp < w1.heap.size := o_; have e1 := a_2 (a_r g1 HC6.out.box o_) 3; have e2 := a_2 (a_r g1 HC6.out.pb.box o_) 0; simp at e1 e2; have HO1 := a_0 (show w1.ownsRow (Bs + 1) 9 1 (.slice F b.length m) b.length (b.map str) from a_v HC6.out.own2 g1 o_); clear hq1 g1)
   | (refine step_append_lies _ r_ _ _ _ r_ (Bs + 1) 9 i0 _ 1 16 underlying23 hi0 hz0 hz1 hz2 rfl o_ _ _ _ r_ (a_8 HO1.out zX) ⟨_, 0, none⟩ 1 1 [str y] r_ rfl (by exact d_L (b_d s_)) c_ o_ x_ o_ m_ _ rfl ?_; intro g7 n7 w7 o7 gr7 hl7 hs7; have b7 := c_F HC6.out.box (a_h HG1.out zX) o_ gr7 (fun j e => Nat.lt_of_succ_le (hl6.out j e)); have d0 := a_2 b7 3; have d1 := b_1 b7 3; simp at d0; have l7 := a_6 b7; have HF := a_0 (PrC.done2 HC6.out (HQ1.out.below zX) (a_h HG1.out zX) gr7 hl7 o7); clear o7 gr7 hl7 b7)))
  all_goals
   go_wp2
   go_end0
   exact ⟨rfl, HF.out.1, _, _, _, _, HF.out.2⟩
set_option maxRecDepth 512
theorem h_v {s : QSt} (h : s.e ≠ 0) (x : Int) : s.fail x = s := by unfold QSt.fail; rw [if_neg h]
theorem h_u {ts : List Tok} {s : QSt} (h : s.e ≠ 0) (k : Int) (x : a_3) : a_c ts s k x = s := by unfold a_c; rw [if_neg (by rw [h_b h]; decide), h_v h]
theorem g_6 {ts : List Tok} {s : QSt} (h : s.e ≠ 0) : a_7 ts s = ([], s) := by unfold a_7; rw [if_neg (by rw [h_z h]; decide), h_v h]
theorem n_R {ts : List Tok} {s : QSt} (h : s.e ≠ 0) : b_J ts s = ([], s) := by unfold b_J; rw [if_pos h]
theorem o_u {ts : List Tok} {s : QSt} (h : s.e ≠ 0) (wf : a_3 → Int) : (b_5 ts wf s).2 = s := by
 unfold b_5
 simp only [g_6 h, h_u h]
 rw [if_neg (by rw [h_z h]; simp)]
 exact h_v h 3
def s_f {α : Type} (part : α → QSt → α × QSt) : Prop := ∀ c s, s.e ≠ 0 → (part c s).2 = s
theorem m_H (ts : List Tok) : s_f (f_J ts) := fun c s h => by unfold f_J; rw [g_6 h]
theorem k_x (ts : List Tok) : s_f (b_a ts) := fun c s h => by unfold b_a; simp only [g_6 h, h_u h, n_R h]
theorem m_O (ts : List Tok) : s_f (c_1 ts) := fun c s h => by unfold c_1; simp only [g_6 h, h_u h]
theorem m_f (ts : List Tok) (wf : a_3 → Int) : s_f (b_n ts wf) := fun c s h => o_u h wf
theorem j_2 {α : Type} {ts : List Tok} {part : α → QSt → α × QSt} (hd : s_f part) {s : QSt} (h : s.e ≠ 0) : ∀ (G : Nat) (c : α), (d_1 ts part G c s).2 = s
 | 0, _ => rfl
 | G + 1, c => by
  unfold d_1
  rw [hd c s h, if_neg (by rw [h_b h]; decide)]
  exact hd c s h
def Sim {α : Type} (x y : α × QSt) : Prop := x.2 = y.2 ∧ (x.2.e = 0 → x.1 = y.1)
theorem Sim.refl {α : Type} (x : α × QSt) : Sim x x := ⟨rfl, fun _ => rfl⟩
theorem h_7 {α : Type} {ts : List Tok} {part : α → QSt → α × QSt} (hd : s_f part) (c : α) (s : QSt) : Sim (a_z true ts part c s) (a_z false ts part c s) := by
 unfold a_z
 rw [if_neg s_]
 by_cases h : s.e = 0
 ·rw [if_neg (by simp [h])]
  exact Sim.refl _
 ·rw [if_pos ⟨h, rfl⟩]
  exact ⟨j_2 hd h _ c, fun e => absurd ((congrArg QSt.e (j_2 (ts := ts) hd h (ts.length + 1) c)).symm.trans e) h⟩
theorem c_G {α : Type} {ts : List Tok} {part : α → QSt → α × QSt} {s : QSt} (h : s.e = 0) (d : Bool) (c : α) : a_z d ts part c s = d_1 ts part (ts.length + 1) c s := by
 unfold a_z
 rw [if_neg (by simp [h])]
theorem i_D {ts : List Tok} {s : QSt} (h : s.e ≠ 0) (op : Int) : b_G ts op s = ([], s) := by unfold b_G; rw [if_neg (by rw [h_b h]; simp)]
theorem q_e (ts : List Tok) (op : Int) (s : QSt) : Sim (f_2 true ts op s) (f_2 false ts op s) := by
 unfold f_2 a_t
 simp only
 have h := h_7 (ts := ts) (m_O ts) ([], []) (a_c ts (a_7 ts s).2 1 wOn)
 obtain ⟨h1, h2⟩ := h
 by_cases he : (a_z true ts (c_1 ts) ([], []) (a_c ts (a_7 ts s).2 1 wOn)).2.e = 0
 ·rw [show a_z true ts (c_1 ts) ([], []) (a_c ts (a_7 ts s).2 1 wOn) = a_z false ts (c_1 ts) ([], []) (a_c ts (a_7 ts s).2 1 wOn) from Prod.ext (h2 he) h1]
  exact Sim.refl _
 ·rw [i_D he, ← h1, i_D he]
  exact ⟨rfl, fun e => absurd e he⟩
theorem o_w (ts : List Tok) (s : QSt) : e_z true ts s = e_z false ts s := by
 have h1 : (if a_e ts s = true then a_u true ts s else ([], s)) = (if a_e ts s = true then a_u false ts s else ([], s)) := by
  split
  ·rename_i h
   unfold a_u; rw [c_G (a_D h).1, c_G (a_D h).1]
  ·rfl
 unfold e_z
 simp only
 rw [h1]
 generalize a_c ts _ 5 a_M = b
 have h2 : (if a_e ts b = true ∧ a_9 (tk ts (b.i + 1)) wEq = true then a_z true ts (b_n ts c_6) [] b else ([], b)) = (if a_e ts b = true ∧ a_9 (tk ts (b.i + 1)) wEq = true then a_z false ts (b_n ts c_6) [] b else ([], b)) := by
  split
  ·rename_i h
   rw [c_G (a_D h.1).1, c_G (a_D h.1).1]
  ·rfl
 rw [h2]
theorem m_B (ts : List Tok) (s : QSt) : Sim (d_m true ts s) (d_m false ts s) := by
 have h1 : (if a_e ts s = true ∧ isT ts s 1 wBy = false then a_u true ts s else ([], s)) = (if a_e ts s = true ∧ isT ts s 1 wBy = false then a_u false ts s else ([], s)) := by
  split
  ·rename_i h
   unfold a_u; rw [c_G (a_D h.1).1, c_G (a_D h.1).1]
  ·rfl
 unfold d_m
 simp only
 rw [h1]
 generalize a_c ts _ 1 wBy = b
 have h2 : (if a_e ts b = true then a_u true ts b else ([], b)) = (if a_e ts b = true then a_u false ts b else ([], b)) := by
  split
  ·rename_i h
   unfold a_u; rw [c_G (a_D h).1, c_G (a_D h).1]
  ·rfl
 rw [h2]
 generalize a_c ts _ 5 a_M = c
 obtain ⟨h3, h4⟩ := h_7 (ts := ts) (m_f ts b_g) [] c
 refine ⟨h3, fun e => ?_⟩
 simp only at e ⊢
 rw [h4 e]
theorem q_2 (ts : List Tok) (op : Int) (s : QSt) : Sim (b_2 true ts op s) (b_2 false ts op s) := by
 unfold b_2
 split
 ·exact Sim.refl _
 split
 ·obtain ⟨h3, h4⟩ := h_7 (ts := ts) (k_x ts) [] s
  refine ⟨h3, fun e => ?_⟩
  simp only at e ⊢
  rw [h4 e]
 split
 ·obtain ⟨h3, h4⟩ := h_7 (ts := ts) (m_H ts) [] s
  refine ⟨h3, fun e => ?_⟩
  simp only [a_u] at e ⊢
  rw [h4 e]
 split
 ·exact q_e ts op s
 split
 ·exact Sim.refl _
 split
 ·exact Sim.refl _
 split
 ·rw [o_w]; exact Sim.refl _
 ·exact m_B ts s
theorem g_m {ts : List Tok} {s : QSt} (h : s.e ≠ 0) (d : Bool) (l : List Stp) : ∀ G, c_d d ts G l s = (l, s)
 | 0 => rfl
 | G + 1 => by unfold c_d; rw [if_neg (by rw [h_b h]; decide)]
theorem k_6 (ts : List Tok) : ∀ G l s, Sim (c_d true ts G l s) (c_d false ts G l s)
 | 0, l, s => Sim.refl _
 | G + 1, l, s => by
  unfold c_d
  split
  ·split
   ·obtain ⟨h1, h2⟩ := q_2 ts (b_f (tk ts (s.i + 1)).text) ⟨s.i + 2, 0⟩
    rw [← h1]
    by_cases he : (b_2 true ts (b_f (tk ts (s.i + 1)).text) ⟨s.i + 2, 0⟩).2.e = 0
    ·rw [← h2 he]
     exact k_6 ts G _ _
    ·rw [g_m he, g_m he]
     exact ⟨rfl, fun e => absurd e he⟩
   ·exact ⟨rfl, fun e => absurd (show (3 : Int) = 0 from e) d_⟩
  ·exact Sim.refl _
theorem o_C (ts : List Tok) (s : QSt) : Sim (a_w true ts s) (a_w false ts s) := k_6 ts _ _ _
theorem r_h (ts : List Tok) (i : Nat) (hv : a_O ts = true) (hi : i < ts.length) :
  qaS ts i = (if (a_w true ts ⟨i, 0⟩).2.e = 0 then (if a_E (a_w true ts ⟨i, 0⟩).1 = 0 then ((a_w true ts ⟨i, 0⟩).1, ((a_w true ts ⟨i, 0⟩).2.i : Int), 0) else ([], ((a_w true ts ⟨i, 0⟩).2.i : Int), a_E (a_w true ts ⟨i, 0⟩).1)) else ([], ((a_w true ts ⟨i, 0⟩).2.i : Int), (a_w true ts ⟨i, 0⟩).2.e)) := by
 obtain ⟨h1, h2⟩ := o_C ts ⟨i, 0⟩
 unfold qaS
 rw [if_neg (by rw [hv]; decide), if_neg o_]
 simp only [Int.toNat_natCast]
 rw [← h1]
 by_cases he : (a_w true ts ⟨i, 0⟩).2.e = 0
 ·rw [← h2 he, if_pos he, if_pos he]
  by_cases hq : a_E (a_w true ts ⟨i, 0⟩).1 = 0
  ·rw [if_neg (by simp [hq]), if_pos hq]
  ·rw [if_pos hq, if_neg hq]
 ·rw [if_neg he, if_pos he, if_neg he]
theorem j_6 {ts : List Tok} (hv : a_O ts = true) (s : QSt) (hi : s.i < ts.length) : (a_7 ts s).1.length ≤ 64 := by
 unfold a_7
 split
 ·exact d_d hv hi
 ·simp
theorem g_3 {ts : List Tok} (hv : a_O ts = true) (d : Bool) (s : QSt) (hi : s.i < ts.length) : (a_u d ts s).1.length ≤ ts.length + 1 := by
 obtain ⟨m, hm, h⟩ := e_D hv (c_s hv) (fun k (c : List a_3) => c.length = k) (fun k c s _ h => by simp [f_J, h]) d [] s hi rfl
 unfold a_u
 omega
theorem k_a {ts : List Tok} (hv : a_O ts = true) (d : Bool) (s : QSt) (hi : s.i < ts.length) : (a_t d ts s).1.1.length ≤ ts.length + 1 ∧ (a_t d ts s).1.2.length ≤ ts.length + 1 := by
 obtain ⟨m, hm, h⟩ := e_D hv (f_B hv) (fun k (c : List a_3 × List a_3) => c.1.length = k ∧ c.2.length = k) (fun k c s _ h => by simp [c_1, h]) d ([], []) s hi ⟨rfl, rfl⟩
 unfold a_t
 omega
def e_3 (k : Nat) (c : List It) : Prop := c.length = k ∧ ∀ x ∈ c, x.ok
theorem j_q {k : Nat} {c : List It} {x : It} (h : e_3 k c) (hx : x.ok) : e_3 (k + 1) (c ++ [x]) :=
 ⟨by simp [h.1], fun y hy => by
  rcases List.mem_append.1 hy with hy | hy
  ·exact h.2 y hy
  ·simp at hy; rw [hy]; exact hx⟩
theorem j_k : e_3 0 [] := ⟨rfl, fun _ h => absurd h s_⟩
theorem It.plain_ok (n : a_3) (f : Int) (c : a_3) (m : Int) : (⟨n, f, c, m, []⟩ : It).ok := ⟨fun _ h => absurd h s_, s_⟩
theorem m_T {ts : List Tok} (hv : a_O ts = true) : ∀ k c s, s.i < ts.length → e_3 k c → e_3 (k + 1) (b_a ts c s).1 := fun k c s hi h =>
 j_q h (n_u hv _ (((a_V hv s).trans (a_H hv (a_7 ts s).2 (k := 5) d_ wEq)).lt hi))
theorem n_p (ts : List Tok) : ∀ k c s, s.i < ts.length → e_3 k c → e_3 (k + 1) (c_4 ts c s).1 := fun k c s _ h => j_q h (It.plain_ok _ _ _ _)
theorem l_L (ts : List Tok) (wf : a_3 → Int) : ∀ k c s, s.i < ts.length → e_3 k c → e_3 (k + 1) (b_n ts wf c s).1 := fun k c s _ h => j_q h (by
 unfold b_5
 simp only
 split
 ·exact It.plain_ok _ _ _ _
 ·exact It.plain_ok _ _ _ _)
theorem e_3.done {k n : Nat} {c : List It} (h : ∃ m, m ≤ n ∧ e_3 m c) : c.length ≤ n ∧ ∀ x ∈ c, x.ok := by
 obtain ⟨m, hm, h1, h2⟩ := h
 exact ⟨o_, h2⟩
theorem b_u : b_9 [] := fun _ h => absurd h s_
theorem k_Q {ts : List Tok} (hv : a_O ts = true) (hl : ts.length + 1 ≤ 1000000) (d : Bool) (op : Int) (s : QSt) (hi : s.i < ts.length) : (b_2 d ts op s).1.ok ∧ Go ts.length s (b_2 d ts op s).2 := by
 have hz : ∀ n : a_3, n.length ≤ 64 → n.length ≤ maxLen := fun n h => by unfold maxLen; omega
 have h0 : ([] : a_3).length ≤ maxLen := by unfold maxLen; simp
 have hno : ∀ x ∈ ([] : List It), x.ok := fun _ h => absurd h s_
 unfold b_2
 split
 ·have h := n_u hv s hi
  exact ⟨⟨h0, s_, s_, s_, hno, h.2, h.1⟩, l_5 hv s hi⟩
 split
 ·obtain ⟨h1, h2⟩ := e_3.done (k := 0) (e_D hv (g_r hv) e_3 (m_T hv) d [] s hi j_k)
  exact ⟨⟨h0, s_, s_, z_, h2, s_, b_u⟩, b_x hv (g_r hv) d [] s hi⟩
 split
 ·have h := g_3 hv d s hi
  exact ⟨⟨h0, z_, s_, s_, hno, s_, b_u⟩, b_x hv (c_s hv) d [] s hi⟩
 split
 ·unfold f_2
  simp only
  have g1 := (a_V hv s).trans (a_H hv (a_7 ts s).2 (k := 1) d_ wOn)
  have hl1 := k_a hv d _ (g1.lt hi)
  have g2 : Go ts.length s (a_t d ts (a_c ts (a_7 ts s).2 1 wOn)).2 := g1.trans (b_x hv (f_B hv) d ([], []) _ (g1.lt hi))
  have hn := hz _ (j_6 hv s hi)
  generalize a_t d ts (a_c ts (a_7 ts s).2 1 wOn) = b at *
  unfold b_G
  split
  ·rename_i hc
   have hn1 := b_e hv (g2.lt hi) d_ hc.1; have g3 : Go ts.length b.2 ⟨b.2.i + 1, 0⟩ := ⟨fun _ => hn1, fun _ => ⟨(b_3 hc.1).1, Nat.le_succ _⟩⟩
   obtain ⟨h1, h2⟩ := e_3.done (k := 0) (n := ts.length + 1) (by
    obtain ⟨m, hm, h⟩ := h_l hv (h_S hv) e_3 (n_p ts) (ts.length + 1) 0 [] ⟨b.2.i + 1, 0⟩ hn1 j_k
    exact ⟨m, o_, h⟩)
   exact ⟨⟨hn, z_, z_, z_, h2, s_, b_u⟩, (g2.trans g3).trans (j_e hv (h_S hv) _ [] _ hn1)⟩
  ·exact ⟨⟨hn, z_, z_, s_, hno, s_, b_u⟩, g2⟩
 split
 ·exact ⟨⟨hz _ (j_6 hv s hi), s_, s_, s_, hno, s_, b_u⟩, a_V hv s⟩
 split
 ·exact ⟨⟨h0, s_, s_, s_, hno, s_, b_u⟩, Go.refl _ _⟩
 split
 ·unfold e_z
  simp only
  have g1 : (if a_e ts s = true then a_u d ts s else ([], s)).1.length ≤ ts.length + 1 ∧ Go ts.length s (if a_e ts s = true then a_u d ts s else ([], s)).2 := by
   split
   ·exact ⟨g_3 hv d s hi, b_x hv (c_s hv) d [] s hi⟩
   ·exact ⟨s_, Go.refl _ _⟩
  generalize (if a_e ts s = true then a_u d ts s else ([], s)) = a at *
  have g2 := g1.2.trans (a_H hv a.2 (k := 5) d_ a_M)
  generalize a_c ts a.2 5 a_M = b at *
  have g3 : ((if a_e ts b = true ∧ a_9 (tk ts (b.i + 1)) wEq = true then a_z d ts (b_n ts c_6) [] b else ([], b)).1.length ≤ ts.length + 1 ∧ ∀ x ∈ (if a_e ts b = true ∧ a_9 (tk ts (b.i + 1)) wEq = true then a_z d ts (b_n ts c_6) [] b else ([], b)).1, x.ok) ∧ Go ts.length b (if a_e ts b = true ∧ a_9 (tk ts (b.i + 1)) wEq = true then a_z d ts (b_n ts c_6) [] b else ([], b)).2 := by
   split
   ·exact ⟨e_3.done (k := 0) (e_D hv (e_W hv _) e_3 (l_L ts _) d [] b (g2.lt hi) j_k), b_x hv (e_W hv _) d [] b (g2.lt hi)⟩
   ·exact ⟨⟨s_, hno⟩, Go.refl _ _⟩
  generalize (if a_e ts b = true ∧ a_9 (tk ts (b.i + 1)) wEq = true then a_z d ts (b_n ts c_6) [] b else ([], b)) = c at *
  exact ⟨⟨h0, z_, s_, z_, g3.1.2, s_, b_u⟩, g2.trans g3.2⟩
 ·unfold d_m
  simp only
  have g1 : (if a_e ts s = true ∧ isT ts s 1 wBy = false then a_u d ts s else ([], s)).1.length ≤ ts.length + 1 ∧ Go ts.length s (if a_e ts s = true ∧ isT ts s 1 wBy = false then a_u d ts s else ([], s)).2 := by
   split
   ·exact ⟨g_3 hv d s hi, b_x hv (c_s hv) d [] s hi⟩
   ·exact ⟨s_, Go.refl _ _⟩
  generalize (if a_e ts s = true ∧ isT ts s 1 wBy = false then a_u d ts s else ([], s)) = a at *
  have g2 := g1.2.trans (a_H hv a.2 (k := 1) d_ wBy)
  generalize a_c ts a.2 1 wBy = b at *
  have g3 : (if a_e ts b = true then a_u d ts b else ([], b)).1.length ≤ ts.length + 1 ∧ Go ts.length b (if a_e ts b = true then a_u d ts b else ([], b)).2 := by
   split
   ·exact ⟨g_3 hv d b (g2.lt hi), b_x hv (c_s hv) d [] b (g2.lt hi)⟩
   ·exact ⟨s_, Go.refl _ _⟩
  generalize (if a_e ts b = true then a_u d ts b else ([], b)) = c at *
  have g4 := (g2.trans g3.2).trans (a_H hv c.2 (k := 5) d_ a_M)
  generalize a_c ts c.2 5 a_M = x at *
  obtain ⟨h1, h2⟩ := e_3.done (k := 0) (e_D hv (e_W hv b_g) e_3 (l_L ts b_g) d [] x (g4.lt hi) j_k)
  exact ⟨⟨h0, z_, z_, z_, h2, s_, b_u⟩, g4.trans (b_x hv (e_W hv b_g) d [] x (g4.lt hi))⟩
theorem r_3 : j_J.ok := ⟨by unfold maxLen; simp [j_J], by simp [j_J], by simp [j_J], by simp [j_J], fun _ h => absurd h (by simp [j_J]), by simp [j_J], b_u⟩
theorem l_F {ts : List Tok} (hv : a_O ts = true) (hl : ts.length + 1 ≤ 1000000) (d : Bool) : ∀ G l s, s.i < ts.length → (∀ x ∈ l, Stp.ok x) → (∀ x ∈ (c_d d ts G l s).1, Stp.ok x) ∧ (c_d d ts G l s).1.length ≤ l.length + G ∧ Go ts.length s (c_d d ts G l s).2
 | 0, l, s, _, h => ⟨h, by simp [c_d], Go.refl _ _⟩
 | G + 1, l, s, hi, h => by
  unfold c_d
  split
  ·rename_i hc
   have hn := b_e hv hi d_ hc; have g1 : Go ts.length s ⟨s.i + 1, 0⟩ := ⟨fun _ => hn, fun _ => ⟨(b_3 hc).1, Nat.le_succ _⟩⟩
   split
   ·rename_i hk
    have hn2 : s.i + 2 < ts.length := b_0 hv hn (by rw [hk.1]; decide); have g2 : Go ts.length s ⟨s.i + 2, 0⟩ := g1.trans ⟨fun _ => hn2, fun _ => ⟨rfl, Nat.le_succ _⟩⟩; obtain ⟨h1, h2⟩ := k_Q hv hl d (b_f (tk ts (s.i + 1)).text) ⟨s.i + 2, 0⟩ hn2
    obtain ⟨h3, h4, h5⟩ := l_F hv hl d G (l ++ [(b_2 d ts (b_f (tk ts (s.i + 1)).text) ⟨s.i + 2, 0⟩).1]) (b_2 d ts (b_f (tk ts (s.i + 1)).text) ⟨s.i + 2, 0⟩).2 (h2.lt hn2) (fun x hx => by
     rcases List.mem_append.1 hx with hx | hx
     ·exact h x hx
     ·simp at hx; rw [hx]; exact h1)
    exact ⟨h3, by simp at h4; omega, (g2.trans h2).trans h5⟩
   ·refine ⟨fun x hx => ?_, by split <;> simp <;> omega, g1.trans ⟨id, fun e => absurd (show (3 : Int) = 0 from e) d_⟩⟩
    simp only at hx
    split at hx
    ·rcases List.mem_append.1 hx with hx | hx
     ·exact h x hx
     ·simp at hx; rw [hx]; exact r_3
    ·exact h x hx
  ·exact ⟨h, z_, Go.refl _ _⟩
theorem h_6 {ts : List Tok} (hv : a_O ts = true) (hl : ts.length + 1 ≤ 1000000) (d : Bool) (s : QSt) (hi : s.i < ts.length) :
  (∀ x ∈ (a_w d ts s).1, Stp.ok x) ∧ (a_w d ts s).1.length ≤ ts.length + 2 ∧ (a_w d ts s).2.i < ts.length := by
 have g := (a_H hv s (k := 1) d_ d_7).trans (a_V hv _)
 unfold a_w
 simp only
 obtain ⟨h1, h2, h3⟩ := l_F hv hl d (ts.length + 1) [⟨0, (a_7 ts (a_c ts s 1 d_7)).1, [], [], [], []⟩] (a_7 ts (a_c ts s 1 d_7)).2 (g.lt hi) (fun x hx => by
  simp at hx
  rw [hx]
  exact ⟨by have := j_6 hv (a_c ts s 1 d_7) ((a_H hv s (k := 1) d_ d_7).lt hi); unfold maxLen; simp only; omega, s_, s_, s_, fun _ h => absurd h s_, s_, b_u⟩)
 exact ⟨h1, by simp at h2; omega, h3.lt (g.lt hi)⟩
set_option maxRecDepth 100000
theorem p_g (W0 W1 W : World) (P Bp Bs : Nat) (op : Int) (src : a_3) (names others : List a_3) (nA : Option Addr) (nC : Nat) (oA : Option Addr) (oC : Nat) (A : Option Addr) (ts : List Tok) (cc : Nat) (c : List It) (s : QSt) (hv : a_O ts = true) (hS : QPt QT W P A ts cc s) (hC : ∃ I n es, BxC W0 P Bp Bs op src names others nA nC oA oC W1 W c I n es) (hi : s.i < ts.length) (hl : ts.length ≤ 1000000) (hc : c.length ≤ 2000000) :
  Calls prog 238 #[a_G Bp, a_G Bs] W fun e w' => e = .returned (.tuple #[]) ∧ QPt QT w' P A ts cc (c_4 ts c s).2 ∧ ∃ I n es, BxC W0 P Bp Bs op src names others nA nC oA oC W1 w' (c_4 ts c s).1 I n es := by
 obtain ⟨i0, hi0, hz0, hz1, hz2⟩ := info_parts Tryz.info_it
 obtain ⟨I, n, es, hC⟩ := hC
 have h1 := hC.pb.lt
 have h2 := hC.pb.le
 have h3 := hC.ne
 have hw1 := a_6 hC.box
 have hw2 := a_6 hC.pb.box
 refine t_L ?_; intro HC HS hb0
 simp at hb0
 refine v_I ?_; intro g1 g2 hi1 hi2 HN HSy
 have HEx := a_0 (fun (W' : World) (h : QPt QT W' P A ts cc (a_c ts (a_7 ts s).2 5 wEq)) => g_F W' P A ts cc _ h hi2 hl)
 clear hS hC g1 g2 hi1 hi2 hi hv
 have HD := a_0 (show c_4 ts c s = (c ++ [⟨(a_7 ts s).1, 0, (a_7 ts (a_c ts (a_7 ts s).2 5 wEq)).1, 0, []⟩], (a_7 ts (a_c ts (a_7 ts s).2 5 wEq)).2) from rfl)
 rw [HD.out]
 clear HD
 generalize a_7 ts (a_c ts (a_7 ts s).2 5 wEq) = r3 at *
 generalize a_c ts (a_7 ts s).2 5 wEq = s2 at *
 generalize a_7 ts s = r1 at *
 obtain ⟨x, s1⟩ := r1
 obtain ⟨y, s3⟩ := r3
 simp only at HN HSy HEx ⊢
 go_enter func238, ntmps238
 go_wp2_with fail
 refine HN.out.mono ?_
 rintro e w1 ⟨rfl, hq1⟩
 have hz1' := hq1.gr.size
 have hp1 := hq1.pt.lt
 have p1 := a_r hq1.gr HC.out.pb.box o_
 have e1 := a_2 p1 0
 simp at e1
 have HP1 := a_0 p1
 refine s_3 ?_; intro HQ1 HG1
 clear hq1 HN p1 hb0
 have l2 : Bp < w1.heap.size := by omega
 have l1 : Bs < w1.heap.size := by omega
 go_wp2_with fail
 refine (HSy.out _ (HQ1.out.below zX)).mono ?_
 rintro e w2 ⟨rfl, hq2⟩
 have hz2' := hq2.gr.size
 simp at hz2'
 refine v_w ?_; intro p2 x2 e2
 simp at e2
 have HP2 := a_0 p2
 refine _ai ?_; intro HX2 HQ2 HG2
 clear hq2 p2 x2 e1 HSy HP1 HQ1 HG1
 go_wp2_with fail
 refine (HEx.out w2 HQ2.out).mono ?_
 rintro e w3 ⟨rfl, hq3⟩
 refine w_4 ?_; intro hz3' p3 x3 s3c
 have d0 := a_2 x3 2
 have d1 := b_1 x3 2
 have b0 := a_2 s3c 4
 simp at d0 b0
 have l3 : w1.heap.size < w3.heap.size := by omega
 have l4 : Bs < w3.heap.size := by omega
 have y3 : (w3.setCell ⟨w1.heap.size, 2, none⟩ (str y)).heap[w1.heap.size]? = some (.cells #[str x, .int .i64 0, str y, .int .i64 0, .slice none 0 0] 61 (0, 0)) := by
  have := heap_setCell_same w3 w1.heap.size 2 _ _ (str y) x3
  simpa using this
 have g3s : w3.grownBy (w3.setCell ⟨w1.heap.size, 2, none⟩ (str y)) (some w1.heap.size) := a_d (g_ _ _) _ _
 have HY := a_0 y3
 have HG3 := a_0 ((HG2.out.trans hq3.gr).andThen g3s (fun j e => .inl j_))
 have HQ3 := a_0 (hq3.pt.gr g3s (fun j e => by injection e with e; omega))
 have HF3 := a_0 (show b_b [ 116 ] (fun v => c_L v none ([] : List Nd)) (w3.setCell ⟨w1.heap.size, 2, none⟩ (str y)) from fun _ _ => .inl rfl)
 have HO3 := a_0 (a_v HC.out.own HG3.out o_)
 have hl := a_0 (fun j e => (HC.out.own.lt j e).1)
 have b0' : (w3.setCell ⟨w1.heap.size, 2, none⟩ (str y)).cell? ⟨Bs, 4, none⟩ = some (.slice I c.length n) := by
  have := a_2 (a_r HG3.out HC.out.box o_) 4
  simpa using this
 clear hq3 p3 x3 y3 g3s s3c HEx HX2 HP2 HQ2 HG2 e2
 refine v_7 ?_; intro k0 k1 k2 k3 k4
 simp at k0 k1 k2 k3 k4
 go_wp2_with (at_builtin; refine wpList_append_own _ rfl _ _ 24 rfl (Bs + 1) 61 i0 _ 5 72 underlying24 hi0 hz0 hz1 hz2 rfl d_ _ _ _ rfl (a_8 HO3.out zX) ⟨_, 0, none⟩ 1 1 [str x, .int .i64 0, str y, .int .i64 0, .slice none 0 0] rfl rfl (by exact f_k (b_d s_)) c_ x_ o_ m_ ?_; intro v4 w4 o4 g4 _; obtain ⟨B4, n4, rfl⟩ := a_i o4; have hbx : Below (w3.setCell ⟨w1.heap.size, 2, none⟩ (str y)).heap.size (w3.setCell ⟨w1.heap.size, 2, none⟩ (str y)) _ := Below.alloc (b_ _ _) (l_ _) (.cells #[str x, .int .i64 0, str y, .int .i64 0, .slice none 0 0] 61); have b4 := c_F HC.out.box (a_h HG3.out hbx) o_ g4 (fun j e => Nat.lt_of_succ_le (hl.out j e)); have q0 := a_2 b4 4; have q1 := b_1 b4 4; simp at q0; have HF := a_0 (BxC.done (x := ⟨x, 0, y, 0, []⟩) (ec := 0) HC.out HS.out (HQ3.out.below hbx) (a_h HG3.out hbx) (HF3.out.keep (a_I.of_below hbx)) g4 o4); clear o4 g4 b4 hbx)
 go_end0
 exact _au
theorem l_m (op : Int) (W : World) (P : Nat) (A : Option Addr) (ts : List Tok) (cc : Nat) (s : QSt) (hv : a_O ts = true) (hS : QPt QT W P A ts cc s) (hi : s.i < ts.length) (hl : ts.length ≤ 1000000) :
  Calls prog 182 #[a_G P, .int .i64 op] W fun e w' => (∃ (nA : Option Addr) (nC : Nat) (oA : Option Addr) (oC : Nat), e = .returned ((⟨op, (a_7 ts s).1, (a_t false ts (a_c ts (a_7 ts s).2 1 wOn)).1.1, (a_t false ts (a_c ts (a_7 ts s).2 1 wOn)).1.2, [], []⟩ : Stp).agg ⟨nA, nC, oA, oC, none, 0, none, 0⟩) ∧ b_b tSQ (fun v => (⟨op, (a_7 ts s).1, (a_t false ts (a_c ts (a_7 ts s).2 1 wOn)).1.1, (a_t false ts (a_c ts (a_7 ts s).2 1 wOn)).1.2, [], []⟩ : Stp).At v ⟨nA, nC, oA, oC, none, 0, none, 0⟩) w') ∧ QPost QT W P A ts cc (a_t false ts (a_c ts (a_7 ts s).2 1 wOn)).2 w' := by
 have hP := hS.lt
 refine p_0 ?_; intro hmf
 have g1 := a_V hv s
 have g2 := g1.trans (a_H hv (a_7 ts s).2 (k := 1) d_ wOn)
 have hi2 := g2.lt hi
 refine t_N ?_; intro HN
 have HWo := a_0 (fun (W' : World) (h : QPt QT W' P A ts cc (a_7 ts s).2) => n_9 W' P A ts cc _ h (g1.lt hi) hl wOn)
 unfold a_t
 generalize a_7 ts s = r1 at *
 obtain ⟨x, s1⟩ := r1
 simp only at HN HWo hi2 ⊢
 have HE := a_0 (fun (w0 w1 : World) (Bs : Nat) (h1 : ∃ E n F m, PrC w0 P W.heap.size Bs op x w1 ([], []) E n F m) (h2 : QPt QT w1 P A ts cc (a_c ts s1 1 wOn)) => i_W 239 #[a_G Bs, a_G W.heap.size] P A ts cc hv hl (fun w c => (∃ E n F m, PrC w0 P W.heap.size Bs op x w c E n F m) ∧ c.1.length = c.2.length) (c_1 ts) (f_B hv) (fun c => c.1.length) (fun x s => by simp [c_1]) 2000000
  (fun args W => by kernel_rfl) (fun W W' x s h1 h2 g => by obtain ⟨⟨E, n, F, m, h⟩, h3⟩ := h2; exact ⟨⟨E, n, F, m, h.step g⟩, h3⟩) (fun W y s h1 h2 h3 h4 h5 => (q_1 _ W P _ _ op x A ts cc y s hv h1 h2.1 h4 hl h5 o_).mono fun e w' h => ⟨h.1, h.2.1, h.2.2, by have := h2.2; simp [c_1, this]⟩) w1 ([], []) _ h2 ⟨h1, rfl⟩ hi2 m_)
 generalize a_c ts s1 1 wOn = s2 at *
 generalize a_z false ts (c_1 ts) ([], []) s2 = r at *
 obtain ⟨⟨c, d⟩, s'⟩ := r
 simp only at HE ⊢
 have HS := a_0 hS
 clear hS g1 g2 hi2
 go_enter func182, ntmps182
 go_wp2_with fail
 refine (HN.out _ zX).mono ?_
 rintro e w1 ⟨rfl, hq1⟩
 refine u_z ?_; intro bp1 rr1 e1
 simp at e1
 refine v_4 ?_; intro z1 l1 HG1 HR1 HQ1
 have HI := a_0 (show PrC w1 P W.heap.size w1.heap.size op x (w1.alloc (.cells #[.int .i64 op, str x, .slice none 0 0, .slice none 0 0, .slice none 0 0, .slice none 0 0] 27)) ([], []) none 0 none 0 from
  ⟨⟨World.grownBy_alloc _ _ _, o_, hP, b_O bp1 _⟩, l_ _, l1, heap_alloc_new w1 _, a_o _ _ _ _, a_o _ _ _ _, fun k h => by cases h⟩)
 clear hq1 bp1 rr1 HN
 go_wp2_with fail
 refine (HWo.out _ (HQ1.out.below zX)).mono ?_
 rintro e w2 ⟨rfl, hq2⟩
 have HI2 := a_0 (HI.out.step hq2.gr)
 have HQ2 := a_0 hq2.pt
 have e2 := a_2 HI2.out.pb.box 0
 simp at e2
 clear hq2 HI HQ1 HWo e1
 go_wp2_with fail
 refine (HE.out w1 w2 w1.heap.size ⟨_, _, _, _, HI2.out⟩ HQ2.out).mono ?_
 rintro e w3 ⟨rfl, hq, ⟨E, n, F, m, hc⟩, hcl⟩
 have hR := a_r hc.pb.gr HR1.out o_
 refine t_z ?_; intro b0 b1 b2 b3 b4 b5
 refine t_X ?_; intro r0 r1 r2 r3 r4
 have r5 := a_2 hR 5
 have fr := b_1 hR
 simp at b0 b1 b2 b3 b4 b5 r0 r1 r2 r3 r4 r5
 have hlR := a_6 hR
 have hlB := a_6 hc.box
 have HF := a_0 (fun v0 v1 v2 v3 v4 v5 => c_8 (l := tSQ) d_ (r := W.heap.size + 1) ⟨_, hR⟩ hq (HG1.out.trans hc.pb.gr) o_ hP ⟨op, x, c, d, [], []⟩ ⟨E, n, F, m, none, 0, none, 0⟩ (fun v hv => ⟨b_i d_ hc.own1 v hv, b_i d_ hc.own2 v hv, .inl rfl, .inl rfl, b_7 hc.own1, b_7 hc.own2, l_ _⟩) v0 v1 v2 v3 v4 v5)
 clear hq hc HE HI2 HQ2 hR HR1 HG1 HS e2 hcl
 go_wp2
 obtain ⟨hf, hp⟩ := HF.out (.int .i64 op) (str x) (.slice E c.length n) (.slice F d.length m) (.slice none 0 0) (.slice none 0 0)
 exact bodyPost_ret (v := .agg #[.int .i64 op, str x, .slice E c.length n, .slice F d.length m, .slice none 0 0, .slice none 0 0]) (by simp [results, results182, go_sem, r0, r1, r2, r3, r4, r5]) rfl ⟨⟨_, _, _, _, rfl, hf⟩, hp⟩
theorem q_v (op : Int) (hop : op = 4 ∨ op = 5) (W : World) (P : Nat) (A : Option Addr) (ts : List Tok) (cc : Nat) (s : QSt) (hv : a_O ts = true) (hS : QPt QT W P A ts cc s) (hi : s.i < ts.length) (hl : ts.length ≤ 1000000) :
  Calls prog 179 #[a_G P, .int .i64 op] W fun e w' => k_P w' (f_2 false ts op s).1 e ∧ QPost QT W P A ts cc (f_2 false ts op s).2 w' := by
 have hP := hS.lt
 refine p_0 ?_; intro hmf
 have g2 := (a_V hv s).trans (a_H hv (a_7 ts s).2 (k := 1) d_ wOn)
 have g3 := b_x hv (f_B hv) false ([], []) (a_c ts (a_7 ts s).2 1 wOn) (g2.lt hi)
 have hi3 := g3.lt (g2.lt hi)
 have HPr := a_0 (fun (W' : World) (hb : Below W.heap.size W W') => l_m op W' P A ts cc s hv (hS.below hb) hi hl)
 clear g2 g3
 unfold f_2
 simp only
 have hAd := fun s1 => (show b_G ts op s1 = (if isT ts s1 5 a_M = true then a_z false ts (c_4 ts) [] ⟨s1.i + 1, 0⟩ else ([], s1)) from by unfold b_G; rw [c_G rfl]; simp [hop])
 generalize (a_7 ts s).1 = x at *
 rw [show a_z false ts (c_1 ts) ([], []) (a_c ts (a_7 ts s).2 1 wOn) = a_t false ts (a_c ts (a_7 ts s).2 1 wOn) from rfl] at hi3
 generalize a_t false ts (a_c ts (a_7 ts s).2 1 wOn) = r at *
 obtain ⟨⟨a, b⟩, s1⟩ := r
 simp only at HPr hi3 ⊢
 have HSk := a_0 (fun (W' : World) (h : QPt QT W' P A ts cc s1) => h_Z W' P A ts cc s1 h hi3 hl 5 a_M)
 have HE := a_0 (fun (hcl : isT ts s1 5 a_M = true) (w0 w1 w2 : World) (Bs nC oC : Nat) (nA oA : Option Addr) (h1 : ∃ I n es, BxC w0 P W.heap.size Bs op x a b nA nC oA oC w1 w2 [] I n es) (h2 : QPt QT w2 P A ts cc ⟨s1.i + 1, 0⟩) => i_W 238 #[a_G W.heap.size, a_G Bs] P A ts cc hv hl (fun w c => ∃ I n es, BxC w0 P W.heap.size Bs op x a b nA nC oA oC w1 w c I n es) (c_4 ts) (h_S hv) List.length (fun x s => by simp [c_4]) 2000000
  (fun args W => by kernel_rfl) (fun W W' x s h1 h2 g => by obtain ⟨I, n, es, h⟩ := h2; exact ⟨I, n, es, h.step h1 g⟩) (fun W x s h1 h2 h3 h4 h5 => p_g _ _ W P _ _ _ _ _ _ _ _ _ _ A ts cc x s hv h1 h2 h4 hl h5) w2 [] _ h2 h1 (b_e hv hi3 d_ hcl) m_)
 have HS := a_0 hS
 clear hS
 by_cases hb : isT ts s1 5 a_M = true
 ·have HA := a_0 ((hAd s1).trans (if_pos hb))
  have HE2 := a_0 (HE.out hb)
  rw [HA.out]
  clear HE hAd HA
  generalize a_z false ts (c_4 ts) [] ⟨s1.i + 1, 0⟩ = r at *
  obtain ⟨c, s'⟩ := r
  simp only [hb, ↓reduceIte] at HSk HE2 ⊢
  clear hb
  go_enter func179, ntmps179
  go_wp2_with fail
  refine (HPr.out _ zX).mono ?_
  rintro e w1 ⟨⟨nA, nC, oA, oC, rfl, hx⟩, hq1⟩
  refine u_z ?_; intro bp1 rr1 e1
  simp at e1
  refine v_4 ?_; intro z1 l1 HG1 HR1 HQ1
  refine _aj ?_; intro HX
  have HI := a_0 (show BxC w1 P W.heap.size w1.heap.size op x a b nA nC oA oC (w1.alloc (.cells #[.int .i64 op, str x, .slice nA a.length nC, .slice oA b.length oC, .slice none 0 0, .slice none 0 0] 27)) (w1.alloc (.cells #[.int .i64 op, str x, .slice nA a.length nC, .slice oA b.length oC, .slice none 0 0, .slice none 0 0] 27)) [] none 0 [] from
   ⟨⟨World.grownBy_alloc _ _ _, o_, hP, b_O bp1 _⟩, l_ _, l1, a_I.refl _ _, heap_alloc_new w1 _, a_o _ _ _ _, rfl, fun v _ i h => absurd h s_⟩)
  clear hq1 bp1 rr1 HPr hx
  go_wp2_with fail
  refine (HSk.out _ (HQ1.out.below zX)).mono ?_
  rintro e w2 ⟨rfl, hq2⟩
  have HI2 := a_0 (HI.out.step (HQ1.out.below zX) hq2.gr)
  have HQ2 := a_0 hq2.pt
  have e2 := a_2 HI2.out.pb.box 0
  simp at e2
  clear hq2 HI HQ1 HSk e1
  go_wp2_with fail
  refine (HE2.out w1 _ w2 w1.heap.size nC oC nA oA ⟨_, _, _, HI2.out⟩ HQ2.out).mono ?_
  rintro e w3 ⟨rfl, hq, I, n, es, hc⟩
  clear HE2 HI2 HQ2 e2
  have hR := a_r hc.pb.gr HR1.out o_
  refine t_z ?_; intro b0 b1 b2 b3 b4 b5
  refine t_X ?_; intro r0 r1 r2 r3 r4
  have r5 := a_2 hR 5
  have fr := b_1 hR
  simp at b0 b1 b2 b3 b4 b5 r0 r1 r2 r3 r4 r5
  have hlR := a_6 hR
  have hlB := a_6 hc.box
  have HF := a_0 (fun v0 v1 v2 v3 v4 v5 => c_8 (l := tI) d_ (r := W.heap.size + 1) ⟨_, hR⟩ hq (HG1.out.trans hc.pb.gr) o_ hP ⟨op, x, a, b, c, []⟩ ⟨nA, nC, oA, oC, I, n, none, 0⟩ (fun v hv => have hh := HX.out v (hc.kt.trans (hv.sub (fun t ht => by simp at ht; rcases ht with rfl | rfl <;> simp))); ⟨hh.names, hh.others, e_v hc.own hc.len hc.firm v hv, .inl rfl, hh.cn, hh.co, b_7 hc.own⟩) v0 v1 v2 v3 v4 v5)
  clear hq hc hR HR1 HG1 HS HX
  go_wp2
  obtain ⟨hf, hp⟩ := HF.out (.int .i64 op) (str x) (.slice nA a.length nC) (.slice oA b.length oC) (.slice I c.length n) (.slice none 0 0)
  exact bodyPost_ret (v := .agg #[.int .i64 op, str x, .slice nA a.length nC, .slice oA b.length oC, .slice I c.length n, .slice none 0 0]) (by simp [results, results179, go_sem, r0, r1, r2, r3, r4, r5]) rfl ⟨⟨_, rfl, hf⟩, hp⟩
 ·have hbf : isT ts s1 5 a_M = false := by simpa using hb
  have HA := a_0 ((hAd s1).trans (if_neg hb))
  rw [HA.out]
  simp only [hbf, Bool.false_eq_true, ↓reduceIte] at HSk ⊢
  clear HE hAd HA hb hbf
  go_enter func179, ntmps179
  go_wp2_with fail
  refine (HPr.out _ zX).mono ?_
  rintro e w1 ⟨⟨nA, nC, oA, oC, rfl, hx⟩, hq1⟩
  refine u_z ?_; intro bp1 rr1 e1
  simp at e1
  refine v_4 ?_; intro z1 l1 HG1 HR1 HQ1
  refine _aj ?_; intro HX
  have HI := a_0 (show BxC w1 P W.heap.size w1.heap.size op x a b nA nC oA oC (w1.alloc (.cells #[.int .i64 op, str x, .slice nA a.length nC, .slice oA b.length oC, .slice none 0 0, .slice none 0 0] 27)) (w1.alloc (.cells #[.int .i64 op, str x, .slice nA a.length nC, .slice oA b.length oC, .slice none 0 0, .slice none 0 0] 27)) [] none 0 [] from
   ⟨⟨World.grownBy_alloc _ _ _, o_, hP, b_O bp1 _⟩, l_ _, l1, a_I.refl _ _, heap_alloc_new w1 _, a_o _ _ _ _, rfl, fun v _ i h => absurd h s_⟩)
  clear hq1 bp1 rr1 HPr hx
  go_wp2_with fail
  refine (HSk.out _ (HQ1.out.below zX)).mono ?_
  rintro e w3 ⟨rfl, hq2⟩
  have hc := HI.out.step (HQ1.out.below zX) hq2.gr
  have hq := hq2.pt
  clear hq2 HI HQ1 HSk e1
  have hR := a_r hc.pb.gr HR1.out o_
  refine t_z ?_; intro b0 b1 b2 b3 b4 b5
  refine t_X ?_; intro r0 r1 r2 r3 r4
  have r5 := a_2 hR 5
  have fr := b_1 hR
  simp at b0 b1 b2 b3 b4 b5 r0 r1 r2 r3 r4 r5
  have hlR := a_6 hR
  have hlB := a_6 hc.box
  have HF := a_0 (fun v0 v1 v2 v3 v4 v5 => c_8 (l := tI) d_ (r := W.heap.size + 1) ⟨_, hR⟩ hq (HG1.out.trans hc.pb.gr) o_ hP ⟨op, x, a, b, [], []⟩ ⟨nA, nC, oA, oC, none, 0, none, 0⟩ (fun v hv => have hh := HX.out v (hc.kt.trans (hv.sub (fun t ht => by simp at ht; rcases ht with rfl | rfl <;> simp))); ⟨hh.names, hh.others, e_v hc.own hc.len hc.firm v hv, .inl rfl, hh.cn, hh.co, b_7 hc.own⟩) v0 v1 v2 v3 v4 v5)
  clear hq hc hR HR1 HG1 HS HX
  go_wp2
  obtain ⟨hf, hp⟩ := HF.out (.int .i64 op) (str x) (.slice nA a.length nC) (.slice oA b.length oC) (.slice none 0 0) (.slice none 0 0)
  exact bodyPost_ret (v := .agg #[.int .i64 op, str x, .slice nA a.length nC, .slice oA b.length oC, .slice none 0 0, .slice none 0 0]) (by simp [results, results179, go_sem, r0, r1, r2, r3, r4, r5]) rfl ⟨⟨_, rfl, hf⟩, hp⟩
end Go.Proofs.YtmbeeefkpgfgmaaGreatDoor
