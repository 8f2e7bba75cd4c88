/- Parts of the proof. -/
import Derived.Test.YtnpjibaolicbmaaGreatDoorPp22
import Derived.Test.YtnpjibaolicbmaaGreatDoorPp24
import Derived.Test.YtnpjibaolicbmaaGreatDoorPp33
set_option linter.unusedVariables false
set_option linter.unusedSimpArgs false
set_option maxHeartbeats 16000000
namespace Go.Proofs.YtnpjibaolicbmaaGreatDoor
open Go.Proofs.Tryz
section
open Go.RowKit
theorem b_C {W : World} {g j : Nat} {vs rest : List Value} {t : TypeId} {v : Value} (h : W.heap[g]? = some (.cells (vs ++ rest).toArray t)) (hj : j < vs.length) : (W.setCell ⟨g, j, none⟩ v).heap[g]? = some (.cells (vs.set j v ++ rest).toArray t) := by
 rw [a_t h, List.setIfInBounds_toArray, List.set_append_left _ _ hj]
theorem c_e {W : World} {g : Nat} {vs rest : List Value} {t : TypeId} (h : W.heap[g]? = some (.cells (vs ++ rest).toArray t)) (j : Nat) (hj : j < vs.length) : W.cell? ⟨g, j, none⟩ = some vs[j] ∧ W.frozen? ⟨g, j, none⟩ = false := by
 refine ⟨?_, a_C h j⟩
 rw [a_0 h]
 simp [List.getElem?_append_left hj, hj]
def h_R {α : Type} (n : Nat) (T : TypeId) (C : Cel α) (ok : α → Prop) (B : Nat) (w0 : World) (g : Nat) (rest : List Value) (w w' : World) : Prop :=
 ∃ (x : α) (vs : List Value), w'.heap[g]? = some (.cells (vs ++ rest).toArray T) ∧ vs.length = n ∧ ok x ∧ (∀ V, Below B w0 V → KeepX XB w' V → C V x vs) ∧ But g w w' ∧ Below B w0 w'
theorem t_e {k : Int} (h : 0 ≤ k) : k % 5 = 0 ∨ k % 5 = 1 ∨ k % 5 = 2 ∨ k % 5 = 3 ∨ k % 5 = 4 := by omega
set_option maxRecDepth 100000
theorem c_l (B : Nat) (w0 w : World) (g : Nat) (x : Srx) (p q : Pl) (rest : List Value) (part k : Int) (h0 : 0 ≤ k) (h1 : k ≤ 15) (hb : Below B w0 w) (hg : B ≤ g) (h : w.heap[g]? = some (.cells (x.cells p q ++ rest).toArray 57)) (hx : ∀ V, Below B w0 V → b_1 V p.1 x.cols ∧ b_9 V q x.key) (hk : x.ok) :
  Calls prog 14 #[.pointer (some ⟨g, 0, none⟩), .int .i64 part, .int .i64 k] w fun e w' => e = .returned (.tuple #[]) ∧ h_R 7 57 h_f Srx.ok B w0 g rest w w' := by
 have hf := c_e h
 obtain ⟨y2, f2⟩ := hf 2 s_
 obtain ⟨y3, f3⟩ := hf 3 s_
 obtain ⟨y4, f4⟩ := hf 4 s_
 obtain ⟨y5, f5⟩ := hf 5 s_
 obtain ⟨y6, f6⟩ := hf 6 s_
 simp at y2 y3 y4 y5 y6
 have l0 := a_6 h
 obtain ⟨l1, l2, l3⟩ := e_g l0
 have l4 : g < w.heap.size + 1 + 1 + 1 + 1 := by omega
 clear hf
 go_enter func14, ntmps14
 by_cases e0 : part = 0
 ·subst e0
  have hm := t_e h0
  rcases hm with hm | hm | hm | hm | hm
  ·go_wp2_with fail
   go_end0
   have hs := b_C (j := 2) (v := .slice none 0 0) h s_; have hu : (w.setCell ⟨g, 2, none⟩ (.slice none 0 0)).heap.size = w.heap.size := by simp [World.setCell]
   have hw0 : Below (w.setCell ⟨g, 2, none⟩ (.slice none 0 0)).heap.size (w.setCell ⟨g, 2, none⟩ (.slice none 0 0)) ((((((w.setCell ⟨g, 2, none⟩ (.slice none 0 0)).alloc (.cells #[str [105, 100], str [105, 100]] 9)).alloc (.cells #[str [118]] 9)).alloc (.cells #[str [110, 111, 110, 101]] 9)).alloc (.cells #[str [99], str [105, 100]] 9)).alloc (.cells #[.slice none 0 0, .slice (some ⟨w.heap.size, 0, none⟩) 2 2, .slice (some ⟨w.heap.size + 1, 0, none⟩) 1 1, .slice (some ⟨w.heap.size + 1 + 1, 0, none⟩) 1 1, .slice (some ⟨w.heap.size + 1 + 1 + 1, 0, none⟩) 2 2] 26)) := ((((b_ _ _).alloc (l_ _) _).alloc s_ _).alloc m_ _).alloc m_ _ |>.alloc m_ _; refine o_M ?_; intro hr; exact ⟨rfl, { x with key := [] }, _, hr, rfl, { hk with key := by simp }, fun V hb hk => ⟨p, (none, 0), (hx V hb).1, ⟨.inl rfl, l_ _⟩, rfl⟩, (But.set g 2 w _).trans (But.of hw0), ((((((hb.setCell hg _).alloc (by rw [hu]; omega) _).alloc (by simp [World.setCell]; omega) _).alloc (by simp [World.setCell]; omega) _).alloc (by simp [World.setCell]; omega) _).alloc (by simp [World.setCell]; omega) _)⟩
  ·go_wp2_with fail
   go_end0
   have hs := b_C (j := 2) (v := .slice (some ⟨w.heap.size, 0, none⟩) 2 2) h s_; have hu : (w.setCell ⟨g, 2, none⟩ (.slice (some ⟨w.heap.size, 0, none⟩) 2 2)).heap.size = w.heap.size := by simp [World.setCell]
   have hw0 : Below (w.setCell ⟨g, 2, none⟩ (.slice (some ⟨w.heap.size, 0, none⟩) 2 2)).heap.size (w.setCell ⟨g, 2, none⟩ (.slice (some ⟨w.heap.size, 0, none⟩) 2 2)) ((((((w.setCell ⟨g, 2, none⟩ (.slice (some ⟨w.heap.size, 0, none⟩) 2 2)).alloc (.cells #[str [105, 100], str [105, 100]] 9)).alloc (.cells #[str [118]] 9)).alloc (.cells #[str [110, 111, 110, 101]] 9)).alloc (.cells #[str [99], str [105, 100]] 9)).alloc (.cells #[.slice none 0 0, .slice (some ⟨w.heap.size, 0, none⟩) 2 2, .slice (some ⟨w.heap.size + 1, 0, none⟩) 1 1, .slice (some ⟨w.heap.size + 1 + 1, 0, none⟩) 1 1, .slice (some ⟨w.heap.size + 1 + 1 + 1, 0, none⟩) 2 2] 26)) := ((((b_ _ _).alloc (l_ _) _).alloc s_ _).alloc m_ _).alloc m_ _ |>.alloc m_ _; refine o_M ?_; intro hr; have hn : ((((((w.setCell ⟨g, 2, none⟩ (.slice (some ⟨w.heap.size, 0, none⟩) 2 2)).alloc (.cells #[str [105, 100], str [105, 100]] 9)).alloc (.cells #[str [118]] 9)).alloc (.cells #[str [110, 111, 110, 101]] 9)).alloc (.cells #[str [99], str [105, 100]] 9)).alloc (.cells #[.slice none 0 0, .slice (some ⟨w.heap.size, 0, none⟩) 2 2, .slice (some ⟨w.heap.size + 1, 0, none⟩) 1 1, .slice (some ⟨w.heap.size + 1 + 1, 0, none⟩) 1 1, .slice (some ⟨w.heap.size + 1 + 1 + 1, 0, none⟩) 2 2] 26)).heap[w.heap.size]? = some (.cells #[str [105, 100], str [105, 100]] 9) := a_K (a_K (a_K (a_K (a_M (w.setCell ⟨g, 2, none⟩ (.slice (some ⟨w.heap.size, 0, none⟩) 2 2)) (.cells #[str [105, 100], str [105, 100]] 9) (w.heap.size) (by simp [World.setCell]))))); exact ⟨rfl, { x with key := [ [105, 100], [105, 100]] }, _, hr, rfl, { hk with key := by simp }, fun V hb hk => ⟨p, (some ⟨w.heap.size, 0, none⟩, 2), (hx V hb).1, b_t (X := XB) (l := [ [105, 100], [105, 100]]) (c := 2) hn (nXB d_ d_) s_ V hk, rfl⟩, (But.set g 2 w _).trans (But.of hw0), ((((((hb.setCell hg _).alloc (by rw [hu]; omega) _).alloc (by simp [World.setCell]; omega) _).alloc (by simp [World.setCell]; omega) _).alloc (by simp [World.setCell]; omega) _).alloc (by simp [World.setCell]; omega) _)⟩
  ·go_wp2_with fail
   go_end0
   have hs := b_C (j := 2) (v := .slice (some ⟨w.heap.size + 1, 0, none⟩) 1 1) h s_; have hu : (w.setCell ⟨g, 2, none⟩ (.slice (some ⟨w.heap.size + 1, 0, none⟩) 1 1)).heap.size = w.heap.size := by simp [World.setCell]
   have hw0 : Below (w.setCell ⟨g, 2, none⟩ (.slice (some ⟨w.heap.size + 1, 0, none⟩) 1 1)).heap.size (w.setCell ⟨g, 2, none⟩ (.slice (some ⟨w.heap.size + 1, 0, none⟩) 1 1)) ((((((w.setCell ⟨g, 2, none⟩ (.slice (some ⟨w.heap.size + 1, 0, none⟩) 1 1)).alloc (.cells #[str [105, 100], str [105, 100]] 9)).alloc (.cells #[str [118]] 9)).alloc (.cells #[str [110, 111, 110, 101]] 9)).alloc (.cells #[str [99], str [105, 100]] 9)).alloc (.cells #[.slice none 0 0, .slice (some ⟨w.heap.size, 0, none⟩) 2 2, .slice (some ⟨w.heap.size + 1, 0, none⟩) 1 1, .slice (some ⟨w.heap.size + 1 + 1, 0, none⟩) 1 1, .slice (some ⟨w.heap.size + 1 + 1 + 1, 0, none⟩) 2 2] 26)) := ((((b_ _ _).alloc (l_ _) _).alloc s_ _).alloc m_ _).alloc m_ _ |>.alloc m_ _; refine o_M ?_; intro hr; have hn : ((((((w.setCell ⟨g, 2, none⟩ (.slice (some ⟨w.heap.size + 1, 0, none⟩) 1 1)).alloc (.cells #[str [105, 100], str [105, 100]] 9)).alloc (.cells #[str [118]] 9)).alloc (.cells #[str [110, 111, 110, 101]] 9)).alloc (.cells #[str [99], str [105, 100]] 9)).alloc (.cells #[.slice none 0 0, .slice (some ⟨w.heap.size, 0, none⟩) 2 2, .slice (some ⟨w.heap.size + 1, 0, none⟩) 1 1, .slice (some ⟨w.heap.size + 1 + 1, 0, none⟩) 1 1, .slice (some ⟨w.heap.size + 1 + 1 + 1, 0, none⟩) 2 2] 26)).heap[w.heap.size + 1]? = some (.cells #[str [118]] 9) := a_K (a_K (a_K (a_M ((w.setCell ⟨g, 2, none⟩ (.slice (some ⟨w.heap.size + 1, 0, none⟩) 1 1)).alloc (.cells #[str [105, 100], str [105, 100]] 9)) (.cells #[str [118]] 9) (w.heap.size + 1) (by simp [World.setCell])))); exact ⟨rfl, { x with key := [ [118]] }, _, hr, rfl, { hk with key := by simp }, fun V hb hk => ⟨p, (some ⟨w.heap.size + 1, 0, none⟩, 1), (hx V hb).1, b_t (X := XB) (l := [ [118]]) (c := 1) hn (nXB d_ d_) s_ V hk, rfl⟩, (But.set g 2 w _).trans (But.of hw0), ((((((hb.setCell hg _).alloc (by rw [hu]; omega) _).alloc (by simp [World.setCell]; omega) _).alloc (by simp [World.setCell]; omega) _).alloc (by simp [World.setCell]; omega) _).alloc (by simp [World.setCell]; omega) _)⟩
  ·go_wp2_with fail
   go_end0
   have hs := b_C (j := 2) (v := .slice (some ⟨w.heap.size + 1 + 1, 0, none⟩) 1 1) h s_; have hu : (w.setCell ⟨g, 2, none⟩ (.slice (some ⟨w.heap.size + 1 + 1, 0, none⟩) 1 1)).heap.size = w.heap.size := by simp [World.setCell]
   have hw0 : Below (w.setCell ⟨g, 2, none⟩ (.slice (some ⟨w.heap.size + 1 + 1, 0, none⟩) 1 1)).heap.size (w.setCell ⟨g, 2, none⟩ (.slice (some ⟨w.heap.size + 1 + 1, 0, none⟩) 1 1)) ((((((w.setCell ⟨g, 2, none⟩ (.slice (some ⟨w.heap.size + 1 + 1, 0, none⟩) 1 1)).alloc (.cells #[str [105, 100], str [105, 100]] 9)).alloc (.cells #[str [118]] 9)).alloc (.cells #[str [110, 111, 110, 101]] 9)).alloc (.cells #[str [99], str [105, 100]] 9)).alloc (.cells #[.slice none 0 0, .slice (some ⟨w.heap.size, 0, none⟩) 2 2, .slice (some ⟨w.heap.size + 1, 0, none⟩) 1 1, .slice (some ⟨w.heap.size + 1 + 1, 0, none⟩) 1 1, .slice (some ⟨w.heap.size + 1 + 1 + 1, 0, none⟩) 2 2] 26)) := ((((b_ _ _).alloc (l_ _) _).alloc s_ _).alloc m_ _).alloc m_ _ |>.alloc m_ _; refine o_M ?_; intro hr; have hn : ((((((w.setCell ⟨g, 2, none⟩ (.slice (some ⟨w.heap.size + 1 + 1, 0, none⟩) 1 1)).alloc (.cells #[str [105, 100], str [105, 100]] 9)).alloc (.cells #[str [118]] 9)).alloc (.cells #[str [110, 111, 110, 101]] 9)).alloc (.cells #[str [99], str [105, 100]] 9)).alloc (.cells #[.slice none 0 0, .slice (some ⟨w.heap.size, 0, none⟩) 2 2, .slice (some ⟨w.heap.size + 1, 0, none⟩) 1 1, .slice (some ⟨w.heap.size + 1 + 1, 0, none⟩) 1 1, .slice (some ⟨w.heap.size + 1 + 1 + 1, 0, none⟩) 2 2] 26)).heap[w.heap.size + 1 + 1]? = some (.cells #[str [110, 111, 110, 101]] 9) := a_K (a_K (a_M (((w.setCell ⟨g, 2, none⟩ (.slice (some ⟨w.heap.size + 1 + 1, 0, none⟩) 1 1)).alloc (.cells #[str [105, 100], str [105, 100]] 9)).alloc (.cells #[str [118]] 9)) (.cells #[str [110, 111, 110, 101]] 9) (w.heap.size + 1 + 1) (by simp [World.setCell]))); exact ⟨rfl, { x with key := [ [110, 111, 110, 101]] }, _, hr, rfl, { hk with key := by simp }, fun V hb hk => ⟨p, (some ⟨w.heap.size + 1 + 1, 0, none⟩, 1), (hx V hb).1, b_t (X := XB) (l := [ [110, 111, 110, 101]]) (c := 1) hn (nXB d_ d_) s_ V hk, rfl⟩, (But.set g 2 w _).trans (But.of hw0), ((((((hb.setCell hg _).alloc (by rw [hu]; omega) _).alloc (by simp [World.setCell]; omega) _).alloc (by simp [World.setCell]; omega) _).alloc (by simp [World.setCell]; omega) _).alloc (by simp [World.setCell]; omega) _)⟩
  ·go_wp2_with fail
   go_end0
   have hs := b_C (j := 2) (v := .slice (some ⟨w.heap.size + 1 + 1 + 1, 0, none⟩) 2 2) h s_; have hu : (w.setCell ⟨g, 2, none⟩ (.slice (some ⟨w.heap.size + 1 + 1 + 1, 0, none⟩) 2 2)).heap.size = w.heap.size := by simp [World.setCell]
   have hw0 : Below (w.setCell ⟨g, 2, none⟩ (.slice (some ⟨w.heap.size + 1 + 1 + 1, 0, none⟩) 2 2)).heap.size (w.setCell ⟨g, 2, none⟩ (.slice (some ⟨w.heap.size + 1 + 1 + 1, 0, none⟩) 2 2)) ((((((w.setCell ⟨g, 2, none⟩ (.slice (some ⟨w.heap.size + 1 + 1 + 1, 0, none⟩) 2 2)).alloc (.cells #[str [105, 100], str [105, 100]] 9)).alloc (.cells #[str [118]] 9)).alloc (.cells #[str [110, 111, 110, 101]] 9)).alloc (.cells #[str [99], str [105, 100]] 9)).alloc (.cells #[.slice none 0 0, .slice (some ⟨w.heap.size, 0, none⟩) 2 2, .slice (some ⟨w.heap.size + 1, 0, none⟩) 1 1, .slice (some ⟨w.heap.size + 1 + 1, 0, none⟩) 1 1, .slice (some ⟨w.heap.size + 1 + 1 + 1, 0, none⟩) 2 2] 26)) := ((((b_ _ _).alloc (l_ _) _).alloc s_ _).alloc m_ _).alloc m_ _ |>.alloc m_ _; refine o_M ?_; intro hr; have hn : ((((((w.setCell ⟨g, 2, none⟩ (.slice (some ⟨w.heap.size + 1 + 1 + 1, 0, none⟩) 2 2)).alloc (.cells #[str [105, 100], str [105, 100]] 9)).alloc (.cells #[str [118]] 9)).alloc (.cells #[str [110, 111, 110, 101]] 9)).alloc (.cells #[str [99], str [105, 100]] 9)).alloc (.cells #[.slice none 0 0, .slice (some ⟨w.heap.size, 0, none⟩) 2 2, .slice (some ⟨w.heap.size + 1, 0, none⟩) 1 1, .slice (some ⟨w.heap.size + 1 + 1, 0, none⟩) 1 1, .slice (some ⟨w.heap.size + 1 + 1 + 1, 0, none⟩) 2 2] 26)).heap[w.heap.size + 1 + 1 + 1]? = some (.cells #[str [99], str [105, 100]] 9) := a_K (a_M ((((w.setCell ⟨g, 2, none⟩ (.slice (some ⟨w.heap.size + 1 + 1 + 1, 0, none⟩) 2 2)).alloc (.cells #[str [105, 100], str [105, 100]] 9)).alloc (.cells #[str [118]] 9)).alloc (.cells #[str [110, 111, 110, 101]] 9)) (.cells #[str [99], str [105, 100]] 9) (w.heap.size + 1 + 1 + 1) (by simp [World.setCell])); exact ⟨rfl, { x with key := [ [99], [105, 100]] }, _, hr, rfl, { hk with key := by simp }, fun V hb hk => ⟨p, (some ⟨w.heap.size + 1 + 1 + 1, 0, none⟩, 2), (hx V hb).1, b_t (X := XB) (l := [ [99], [105, 100]]) (c := 2) hn (nXB d_ d_) s_ V hk, rfl⟩, (But.set g 2 w _).trans (But.of hw0), ((((((hb.setCell hg _).alloc (by rw [hu]; omega) _).alloc (by simp [World.setCell]; omega) _).alloc (by simp [World.setCell]; omega) _).alloc (by simp [World.setCell]; omega) _).alloc (by simp [World.setCell]; omega) _)⟩
 by_cases e1 : part = 1
 rotate_left
 ·have e0' : (part == 0) = false := beq_eq_false_iff_ne.2 e0
  have e1' : (part == 1) = false := beq_eq_false_iff_ne.2 e1
  go_wp2_with fail
  go_end0
  have s1 := b_C (j := 5) (v := .int .i64 (k - 1)) h s_
  have s2 := b_C (j := 6) (v := .int .i64 ((k - 2) * 575999999)) s1 s_
  exact ⟨rfl, { x with late := k - 1, reop := (k - 2) * 575999999 }, _, s2, rfl, ⟨hk.name, hk.zone, hk.cols, hk.key⟩, fun V hb _ => ⟨p, q, (hx V hb).1, (hx V hb).2, rfl⟩, (But.set g 5 w _).trans (But.set g 6 _ _), (hb.setCell hg _).setCell hg _⟩
 subst e1
 clear e0
 go_upto_region 5 with fail
 have CC := a_2 (n_c (T := 57) (C := fun _ W => ∃ x' : Srx, W.heap[g]? = some (.cells (x'.cells p q ++ rest).toArray 57) ∧ x'.ok ∧ x'.cols = x.cols ∧ x'.key = x.key ∧ But g w W ∧ Below B w0 W) (fun i L W W' ⟨x', h1, h2, h3, h4, h5, h6⟩ hb => ⟨x', (hb.block _ (a_6 h1)).trans h1, h2, h3, h4, h5.trans (But.of hb), h6.trans (hb.mono (Nat.le_trans hg (Nat.le_of_lt (a_6 h1))))⟩))
 clear y2 y3 y4 y5 y6 f2 f3 f4 f5 f6 l1 l2 l3 l4
 refine b_a (H := fun _ => KeepX (XT 57)) (C := fun _ W => ∃ x' : Srx, W.heap[g]? = some (.cells (x'.cells p q ++ rest).toArray 57) ∧ x'.ok ∧ x'.cols = x.cols ∧ x'.key = x.key ∧ But g w W ∧ Below B w0 W) (R := fun i => match i with
  | 0 => vC (.pointer (some ⟨g, 0, none⟩))
  | 1 => vC (.pointer (some ⟨g, 0, none⟩))
  | 2 => vS [ [97, 116], [118], [110, 111, 110, 101], [105, 100]]
  | 3 => vC (.int .i64 k)
  | 4 => vI 0 3
  | 5 => vP [ [97, 116], [118], [110, 111, 110, 101], [105, 100]]
  | 6 => vT [ [97, 116], [118], [110, 111, 110, 101], [105, 100]]
  | 7 => vS [ [122, 48], [98, 121], [], [120, 46, 122]]
  | 8 => vC (.int .i64 k)
  | 9 => vI 0 3
  | 10 => vP [ [122, 48], [98, 121], [], [120, 46, 122]]
  | 11 => vT [ [122, 48], [98, 121], [], [120, 46, 122]]
  | 12 => vC (.pointer (some ⟨g, 0, none⟩))
  | 13 => vC (.pointer (some ⟨g, 3, none⟩))
  | 15 => vC (.pointer (some ⟨g, 0, none⟩))
  | 16 => vC (.pointer (some ⟨g, 4, none⟩))
  | _ => fun _ _ => True) (fun _ _ _ _ _ h k => h.trans k) rfl k_ ?hc0 (c_a.all ?hop) ?hend
 case' hop => refine ⟨?o0, ?o1, ?o2, ?o3, ?o4, ?o5, ?o6, ?o7, ?o8, ?o9, ?o10, ?o11, ?o12, ?o13, ?o14, ?o15, ?o16, ?o17, trivial⟩
 case o0 =>
  exact m_H
 case o1 =>
  exact m_H
 case o2 =>
  exact s_k
 case o3 =>
  exact q_d
 case o4 =>
  refine a_s CC.out fun L a W hf hc hL hn ht => ?_
  have e1 : a.tmps.getD 37 undef = (.int .i64 k) := ht 3 k_ 37 rfl W (CC.out.refl L _)
  refine p_G ?_; intro hm hm2
  refine a_e.veil fun K hK => ?_
  unfold a_e
  go_simp
  exact p_M
 case o5 =>
  exact b_V CC.out (show 9 ≠ 57 by decide) _ 2 36 4 38 rfl k_ k_ rfl rfl rfl (fun _ _ h => h) rfl
 case o6 =>
  exact c_u CC.out _ 5 39 rfl k_ rfl rfl rfl
 case o7 =>
  exact s_k
 case o8 =>
  exact q_d
 case o9 =>
  exact d_5 CC.out (lo := 0) (hi := 15) (fun n => n / 4) 8 42 (fun a w n e n0 n1 => by go_simp) (fun n n0 n1 => ⟨o_, o_⟩) k_ rfl (fun _ _ h => e_n ⟨h0, h1⟩ _ _ h) rfl
 case o10 =>
  exact b_V CC.out (show 9 ≠ 57 by decide) _ 7 41 9 43 rfl k_ k_ rfl rfl rfl (fun _ _ h => h) rfl
 case o11 =>
  exact c_u CC.out _ 10 44 rfl k_ rfl rfl rfl
 case o12 =>
  refine a_s CC.out fun L a W hf hc hL hn ht => ?_
  have e1 : a.tmps.getD 34 undef = (.pointer (some ⟨g, 0, none⟩)) := ht 0 k_ 34 rfl W (CC.out.refl L _)
  refine a_e.veil fun K hK => ?_
  unfold a_e
  go_simp
  exact d_d
 case o13 =>
  refine a_s CC.out fun L a W hf hc hL hn ht => ?_
  have e1 : a.tmps.getD 46 undef = (.pointer (some ⟨g, 0, none⟩)) := ht 12 k_ 46 rfl W (CC.out.refl L _)
  refine a_e.veil fun K hK => ?_
  unfold a_e
  go_simp
  exact d_d
 case o14 =>
  intro L a W hf hc hL hn ht
  obtain ⟨x', h1', h2', h3', h4', h5', h6'⟩ := hc
  obtain ⟨s, hs, e1⟩ := (ht 6 k_).2 40 rfl W (CC.out.refl L _)
  have e2 : a.tmps.getD 47 undef = .pointer (some ⟨g, 3, none⟩) := (ht 13 k_).2 47 rfl W (CC.out.refl L _)
  obtain ⟨y1, y2⟩ := c_e h1' 3 s_
  have hsl := d_g hs (by simp [maxLen])
  refine a_e.veil fun K hK => ?_
  unfold a_e
  go_simp
  exact hK _ _ ⟨⟨{ x' with tm := s }, b_C (j := 3) h1' s_, ⟨h2'.name, h2'.zone, h2'.cols, h2'.key⟩, h3', h4', h5'.trans (But.set g 3 W _), h6'.setCell hg _⟩, (i_w ⟨_, _, h1'⟩).1, fun h => by cases h⟩
 case o15 =>
  refine a_s CC.out fun L a W hf hc hL hn ht => ?_
  have e1 : a.tmps.getD 35 undef = (.pointer (some ⟨g, 0, none⟩)) := ht 1 k_ 35 rfl W (CC.out.refl L _)
  refine a_e.veil fun K hK => ?_
  unfold a_e
  go_simp
  exact d_d
 case o16 =>
  refine a_s CC.out fun L a W hf hc hL hn ht => ?_
  have e1 : a.tmps.getD 48 undef = (.pointer (some ⟨g, 0, none⟩)) := ht 15 k_ 48 rfl W (CC.out.refl L _)
  refine a_e.veil fun K hK => ?_
  unfold a_e
  go_simp
  exact d_d
 case o17 =>
  intro L a W hf hc hL hn ht
  obtain ⟨x', h1', h2', h3', h4', h5', h6'⟩ := hc
  obtain ⟨s, hs, e1⟩ := (ht 11 k_).2 45 rfl W (CC.out.refl L _)
  have e2 : a.tmps.getD 49 undef = .pointer (some ⟨g, 4, none⟩) := (ht 16 k_).2 49 rfl W (CC.out.refl L _)
  obtain ⟨y1, y2⟩ := c_e h1' 4 s_
  have hsl := d_g hs (by simp [maxLen])
  refine a_e.veil fun K hK => ?_
  unfold a_e
  go_simp
  exact s_u
 case hc0 => exact ⟨x, h, hk, rfl, rfl, But.of (Below.drew (b_ _ _)), hb.trans ((Below.drew (b_ _ _)).mono (Nat.le_trans hg (Nat.le_of_lt l0)))⟩
 case hend =>
  intro V W1 L hg1 _ _
  obtain ⟨x', q1, q2, q3, q4, q5, q6⟩ := hg1
  simp only [c_V, List.setIfInBounds_toArray, List.set_cons_zero, List.set_cons_succ]
  go_wp2_with fail
  go_end0
  exact ⟨rfl, x', _, q1, rfl, q2, fun V hb _ => ⟨p, q, by rw [q3]; exact (hx V hb).1, by rw [q4]; exact (hx V hb).2, rfl⟩, q5, q6⟩
set_option maxRecDepth 512
def d_j (x : a_3) (l : List a_3) : Int := if qlB x = true then (if x ∈ l then 6 else 0) else 4
theorem b_D (x : a_3) (A : Option Addr) (l : List a_3) (c : Nat) (w : World) (hx : x.length ≤ maxLen) (h : b_b w A l) (hl : l.length ≤ 8796093022208) :
  Calls prog 65 #[str x, .slice A l.length c] w fun e w' => e = .returned (.int .i64 (d_j x l)) ∧ Below w.heap.size w w' := by
 have H1 := a_2 (fun W => d_D x W hx)
 have H2 := a_2 (fun W (hb : Below w.heap.size w W) => d_a A l c x W (h.below hb) hl)
 have HE := a_2 (show d_j x l = if qlB x = true then (if decide (x ∈ l) = true then 6 else 0) else 4 from by unfold d_j; simp only [decide_eq_true_eq])
 clear h hx
 generalize qlB x = p at *
 generalize decide (x ∈ l) = q at *
 go_enter func65, ntmps65
 cases p <;> cases q
 all_goals
  go_wp2_with (first
   | (go_at_call 67; refine (H1.out _).mono ?_; rintro e w1 ⟨rfl, hb1⟩)
   | (go_at_call 34; refine (H2.out _ hb1).mono ?_; rintro e w' ⟨rfl, rfl⟩))
  exact m_o
def n_V (n : Int) : Bool := decide (0 ≤ n) && decide (n ≤ 575999999)
theorem d_p (n : Int) (w : World) : Calls prog 180 #[.int .i64 n] w fun e w' => e = .returned (.bool (n_V n)) ∧ w = w' := by
 have HE := a_2 (show n_V n = (decide (0 ≤ n) && decide (n ≤ 575999999)) from rfl)
 go_enter func180, ntmps180
 go_wp2
 all_goals
  exact r_d
theorem g_X (n : Int) (w : World) : Calls prog 267 #[.int .i64 n] w fun e w' => e = .returned (.bool (decide (-1073741824 ≤ n) && decide (n ≤ 1073741824))) ∧ w = w' := by
 go_enter func267, ntmps267
 go_wp2
 all_goals
  go_ret
  exact ⟨a_a (by first | (simp_all; done) | (simp_all; omega)), rfl⟩
theorem e_o (a b : Int) (w : World) : Calls prog 242 #[.agg #[.int .i64 a, .int .i64 b]] w fun e w' => e = .returned (.bool (decide (-1073741824 ≤ a) && decide (a ≤ 1073741824) && (decide (1 ≤ b) && decide (b ≤ 1073741824)))) ∧ Below w.heap.size w w' := by
 have H := a_2 (fun W => g_X a W)
 have HE := a_2 (show (decide (-1073741824 ≤ a) && decide (a ≤ 1073741824)) = (decide (-1073741824 ≤ a) && decide (a ≤ 1073741824)) from rfl)
 generalize (decide (-1073741824 ≤ a) && decide (a ≤ 1073741824)) = q at H ⊢
 clear HE
 go_enter func242, ntmps242
 cases q
 all_goals
  go_wp2_with (go_at_call 267; refine (H.out _).mono ?_; rintro e w' ⟨rfl, rfl⟩)
  all_goals
   go_ret
   exact ⟨a_a (by first | (simp_all; done) | (simp_all; omega)), zX⟩
theorem d_S (a b : Int) (w : World) : Calls prog 187 #[.agg #[.int .i64 a, .int .i64 b]] w fun e w' => e = .returned (.bool (e_O a b)) ∧ Below w.heap.size w w' := by
 have H := a_2 (fun W => e_o a b W)
 have HE := a_2 (show e_O a b = ((decide (-1073741824 ≤ a) && decide (a ≤ 1073741824) && (decide (1 ≤ b) && decide (b ≤ 1073741824))) && decide (0 ≤ a)) from by
  unfold e_O
  by_cases h0 : 0 ≤ a <;> by_cases h1 : a ≤ 1073741824 <;> by_cases h2 : 1 ≤ b <;> by_cases h3 : b ≤ 1073741824 <;> simp [h0, h1, h2, h3] <;> omega)
 generalize (decide (-1073741824 ≤ a) && decide (a ≤ 1073741824) && (decide (1 ≤ b) && decide (b ≤ 1073741824))) = q at *
 generalize e_O a b = r at *
 have hbox : Below (w.heap.size + 1) (w.alloc (.cells #[.int .i64 a, .int .i64 b] 65)) (w.alloc (.cells #[.int .i64 a, .int .i64 b] 65)) := b_ _ _
 go_enter func187, ntmps187
 cases q
 all_goals
  go_wp2_with (go_at_call 242; refine (H.out _).mono ?_; rintro e w1 ⟨rfl, hb1⟩; obtain ⟨d0, d1, dl⟩ := bx2 (a_1 hbox s_ hb1))
  all_goals
   go_ret
   exact ⟨a_a (by rw [HE.out]; first | (simp_all; done) | (simp_all; omega)), by first | exact a_9 hb1 zX | exact zX⟩
set_option maxRecDepth 100000
theorem c_c (A : Option Addr) (l : List a_3) (c m : Nat) (w : World) (h : b_b w A l) (hl : l.length ≤ 8796093022208) (hcp : l.length ≤ c) :
  Calls prog 185 #[.slice A l.length c] w fun e w' => e = .returned (.int .i64 (a_z l 1)) ∧ Below w.heap.size w w' := by
 have HA := a_2 h
 clear h
 by_cases h1 : l.length < 1
 ·have HE := a_2 (show a_z l 1 = 2 from by unfold a_z; rw [if_pos (.inl h1)])
  go_enter func185, ntmps185
  go_wp2
  all_goals first | (exfalso; omega) | skip
  exact j_X
 by_cases h2 : 12 < l.length
 ·have HE := a_2 (show a_z l 1 = 2 from by unfold a_z; rw [if_pos (.inr h2)])
  go_enter func185, ntmps185
  go_wp2
  all_goals first | (exfalso; omega) | skip
  exact j_X
 have HE := a_2 (show a_z l 1 = a_o (d_O l) l.length from by unfold a_z; rw [if_neg o_])
 go_enter func185, ntmps185
 go_wp2
 all_goals first | (exfalso; omega) | skip
 go_loopw [3] (fun i wr => ∃ k : Nat, k ≤ l.length ∧ i = .int .i64 k ∧ Hid (∀ j, j < k → d_O l j = 0) ∧ Below w.heap.size w wr) (fun i _ => l.length - (intOf i).toNat)
 case atStart => exact ⟨0, o_, rfl, fun j hj => absurd hj (Nat.not_lt_zero _), b_ _ _⟩
 case round =>
  obtain ⟨k, hk, rfl, HZ, hbel⟩ := hrel
  by_cases hlt : k < l.length
  ·rcases HA.out.below hbel with e | ⟨g, off, rfl, hg, hc⟩
   ·exact absurd hlt e_
   have c0 := hc k hlt; have HC := a_2 (fun W => d_7 l[k] W)
   have HH := a_2 (fun W (hb : Below wr.heap.size wr W) => by
    have := d_a (some ⟨g, off, none⟩) (l.take k) c l[k] W ((b_F hg hc k).below hb) (by rw [List.length_take]; omega); rw [List.length_take, Nat.min_eq_left (Nat.le_of_lt hlt)] at this
    exact this)
   have HT := a_2 (f_f hlt); have HC2 := a_2 (fun W (hb : Below wr.heap.size wr W) => (hb.cell (p := ⟨g, off + k, none⟩) hg).trans c0); refine p_S ?_; intro HF HN hkc; clear hc; generalize l[k] = x at *
   by_cases hx : nmB x = true
   rotate_left
   ·rw [if_neg hx] at HT
    have hxf : nmB x = false := by simpa using hx
    rw [hxf] at HC; have HR := a_2 (HF.out 4 HT.out d_)
    go_wp2_with (go_at_call 32; refine (HC.out _).mono ?_; rintro e w1 ⟨rfl, hb1⟩)
    exact i_M
   rw [hx] at HC; rw [if_pos hx] at HT
   by_cases hin : x ∈ l.take k
   ·rw [if_pos hin] at HT
    refine p_r ?_; intro hinb; rw [hinb] at HH; have HR := a_2 (HF.out 6 HT.out d_); clear hin hinb hx
    go_wp2_with (go_at_call 32; refine (HC.out _).mono ?_; rintro e w1 ⟨rfl, hb1⟩; have c1 := HC2.out _ hb1)
    go_region_with (go_at_call 34; refine (HH.out _ (by first | exact hb1 | exact a_4 hb1 1 | exact zX)).mono ?_; rintro e w' ⟨rfl, rfl⟩)
    all_goals (try go_wp2)
    all_goals
     exact q_u
   ·rw [if_neg hin] at HT
    refine p_g ?_; intro hinb; rw [hinb] at HH; have HR := a_2 (HN.out HT.out); clear hin hinb hx
    go_wp2_with (go_at_call 32; refine (HC.out _).mono ?_; rintro e w1 ⟨rfl, hb1⟩; have c1 := HC2.out _ hb1)
    go_region_with (go_at_call 34; refine (HH.out _ (by first | exact hb1 | exact a_4 hb1 1 | exact zX)).mono ?_; rintro e w' ⟨rfl, rfl⟩)
    all_goals (try go_wp2)
    all_goals exact ⟨⟨k + 1, o_, t_, HR, by first | exact a_9 hb1 hbel | exact a_4 (a_9 hb1 hbel) 1 | exact zX⟩, w_⟩
  ·obtain rfl : k = l.length := by omega
   refine i_2 ?_; intro HR
   go_wp2
   exact i_N
set_option maxRecDepth 512
theorem n_i (x : a_3) (W : World) : Calls prog 230 #[str x] W fun e w' => e = .returned (.bool (biB x)) ∧ Below W.heap.size W w' := d_3 ⟨x.toArray⟩ W
theorem e_p (x : a_3) (w : World) : Calls prog 181 #[str x] w fun e w' => e = .returned (.bool (biB x)) ∧ Below w.heap.size w w' := by
 have H := a_2 (n_i x w)
 generalize biB x = q at *
 go_enter func181, ntmps181
 go_wp2_with (go_at_call 230; refine (H.out).mono ?_; rintro e w1 ⟨rfl, hb1⟩)
 exact d_s
theorem f_U (x : a_3) (w : World) (hx : x.length ≤ maxLen) : Calls prog 123 #[str x] w fun e w' => e = .returned (.bool (qlB x && !biB x)) ∧ Below w.heap.size w w' := by
 have H1 := a_2 (fun W => c_w ⟨x.toArray⟩ W (by show x.toArray.size ≤ _; simpa using hx))
 have H2 := a_2 (fun W => b_H ⟨x.toArray⟩ W)
 have H3 := a_2 (fun W => e_p x W)
 rw [show bs ⟨x.toArray⟩ = x from rfl] at H1 H2
 have HE := a_2 (show (qlB x && !biB x) = ((b_4 24 x && !c_T x) && !biB x) from rfl)
 generalize (qlB x && !biB x) = r at *
 generalize b_4 24 x = p at *
 generalize c_T x = q at *
 generalize biB x = z at *
 go_enter func123, ntmps123
 cases p <;> cases q <;> cases z
 all_goals
  go_wp2_with (first
   | (go_at_call 129; refine (H1.out _).mono ?_; rintro e w' ⟨rfl, rfl⟩)
   | (go_at_call 90; refine (H2.out _).mono ?_; rintro e w2 ⟨rfl, hb2⟩)
   | (go_at_call 181; refine (H3.out _).mono ?_; rintro e w3 ⟨rfl, hb3⟩))
  go_ret
  exact ⟨a_a HE.out.symm, by first | exact a_9 hb3 hb2 | exact hb2 | exact zX⟩
theorem n_m {cs : List Col} {k : Nat} (h : ∀ j (hj : j < cs.length), j < k → c_T cs[j].name = false) (hk : cs.length ≤ k) : i_O cs = false := by
 unfold i_O
 rw [List.any_eq_false]
 intro c hc
 obtain ⟨j, hj, rfl⟩ := List.mem_iff_getElem.1 hc
 rw [h j hj o_]; simp
set_option maxRecDepth 100000
theorem e_1 (A : Option Addr) (cs : List Col) (c : Nat) (w : World) (h : b_1 w A cs) (hl : cs.length ≤ 8796093022208) :
  Calls prog 126 #[.slice A cs.length c] w fun e w' => e = .returned (.bool (i_O cs)) ∧ Below w.heap.size w w' := by
 have HA := a_2 h
 clear h
 go_enter func126, ntmps126
 go_wp2
 go_loopw [3] (fun i wr => ∃ k : Nat, k ≤ cs.length ∧ i = .int .i64 k ∧ Hid (∀ j (hj : j < cs.length), j < k → c_T cs[j].name = false) ∧ Below w.heap.size w wr) (fun i _ => cs.length - (intOf i).toNat)
 case atStart => exact ⟨0, o_, rfl, fun j _ hj => absurd hj (Nat.not_lt_zero _), b_ _ _⟩
 case round =>
  obtain ⟨k, hk, rfl, HZ, hbel⟩ := hrel
  by_cases hlt : k < cs.length
  ·rcases HA.out.below hbel with e | ⟨g, off, rfl, hg, hc⟩
   ·exact absurd hlt e_
   obtain ⟨c0, c1, c2⟩ := hc k hlt; have HR := a_2 (fun W => show Calls prog 90 #[str cs[k].name] W (fun e w' => e = .returned (.bool (c_T cs[k].name)) ∧ Below W.heap.size W w') from b_H ⟨cs[k].name.toArray⟩ W)
   have HY := a_2 (fun (e : c_T cs[k].name = false) => show ∀ j (hj : j < cs.length), j < k + 1 → c_T cs[j].name = false from fun j hj h9 => by
    by_cases e2 : j = k
    ·subst e2; exact e
    ·exact HZ.out j hj o_)
   have HN := a_2 (fun (e : c_T cs[k].name = true) => show i_O cs = true from List.any_eq_true.2 ⟨cs[k], List.getElem_mem hlt, e⟩); clear hc; generalize c_T cs[k].name = q at *; generalize cs[k] = y at *; obtain ⟨yn, yk, yl⟩ := y; simp only at c0 c1 c2 HR
   cases q
   ·have HX := a_2 (HY.out rfl)
    clear HY HN
    go_wp2_with (go_at_call 90; refine (HR.out _).mono ?_; rintro e w1 ⟨rfl, hb1⟩)
    exact ⟨⟨k + 1, o_, t_, HX, a_9 hb1 hbel⟩, w_⟩
   ·have HX := a_2 (HN.out rfl)
    clear HY HN
    go_wp2_with (go_at_call 90; refine (HR.out _).mono ?_; rintro e w1 ⟨rfl, hb1⟩)
    go_ret
    exact ⟨a_a HX.out.symm, a_9 hb1 hbel⟩
  ·obtain rfl : k = cs.length := by omega
   have HX := a_2 (n_m HZ.out (l_ _))
   go_wp2
   go_ret
   exact ⟨a_a HX.out.symm, hbel⟩
end
section
open Go.ChangeShapes Go.WideShapes Go.ChangeAt Go.RowKit
theorem m_D {α : Type} (z : α) {m : Nat} {P : Nat → α → Prop} (h : ∀ i, i < m → ∃ x, P i x) : ∃ f : Nat → α, ∀ i, i < m → P i (f i) :=
 ⟨fun i => if h' : i < m then (h i h').choose else z, fun i h' => by simp only [dif_pos h']; exact (h i h').choose_spec⟩
theorem k_x {W : World} {a : Addr} {v : Value} (h : W.cell? (a.add 0) = some v) : ∃ g off, a = ⟨g, off, none⟩ ∧ g < W.heap.size := by
 obtain ⟨g, off, spot⟩ := a
 have hspot : spot = none := by simpa [Addr.add] using World.cell?_spot h
 subst hspot
 exact ⟨g, off, rfl, by have := World.block_lt_of_cell? W _ h; simpa [Addr.add] using this⟩
namespace Step
theorem handed_sized {H : Type} {enc : TypeId × Value → H} {a : Assume} {C : Checked} {os : Os} {f : FuncId} {fn : Func} {s : ChangeSpec} {conds : List PathCond} {apart fresh handsOn again : Bool} {X : World → Array Value → Prop}
  (hX : ∀ (w w' : World) (args : Array Value), w.heap = w'.heap → X w args → X w' args)
  (own : ownKnob C.prog.godebug = none) (started : os.Started) (noInit : C.prog.inits.idxOf? f = none) (hfn : C.prog.funcs[f]? = some fn)
  (witness : ∃ (w : World) (tape : Tape) (i : Input), w.os = os ∧ (w.forCall tape i).Shaped C.prog ∧ i.vars = [] ∧ Input.okWide C.prog (w.forCall tape i) .any w.heap.size f i ∧
   ((s.pre enc C.prog fn conds apart (w.forCall tape i).memory i.args ∧ X (w.forCall tape i).memory i.args) ∧ sizedMet enc C.prog fn (OpenSpec.ofChange s) apart (w.forCall tape i).memory i.args) ∧ a.holds C.prog (lone (Frame.enter C.prog f i.args .normal) [] (w.forCall tape i)))
  (hvars : (OpenSpec.ofChange s).vars = s.vars)
  (contract : ∀ (W : World) (base : Nat) (args : Array Value) (ds gs : List (DataW H)) (before : List MemPlace),
   (∀ (j : Nat) t v, fn.params[j]? = some t → args[j]? = some v → Value.okWide C.prog W .any base t v) →
   DataW.Whole enc C.prog fn.params.toList s.vars apart W args.toList ds gs before → (DataW.weightsEach C.prog (fn.params.toList ++ (OpenSpec.ofChange s).bare.plain.varTypes C.prog) (ds ++ gs)).all (· ≤ reachBytes) = true → W.ShapedOpen C.prog → X W args →
   Calls C.prog f args W fun e W' => ∃ v, e = .returned v ∧ s.post enc C.prog fn apart fresh handsOn again W args v W') :
  ReturnsInHanded a C os f .any (fun w args => (s.pre enc C.prog fn conds apart w args ∧ X w args) ∧ sizedMet enc C.prog fn (OpenSpec.ofChange s) apart w args) (s.post enc C.prog fn apart fresh handsOn again) := by
 refine returnsInHanded_of_calls own started noInit witness ?_
 intro w tape i hos hshape hvars2 hok hpre hholds
 obtain ⟨_, _, _, fn2, hfn2, _, _, _, _, hval⟩ := hok
 obtain rfl : fn2 = fn := Option.some.inj (hfn2.symm.trans hfn)
 obtain ⟨⟨_, hx⟩, _, ds, gs, before, hw, hwt⟩ := hpre
 rw [hvars] at hw
 have hw2 := DataW.Whole.of_heap (w' := w.forCall tape i) r_ hw
 refine (contract (w.forCall tape i) w.heap.size i.args ds gs before hval hw2 hwt hshape (hX _ _ _ r_ hx)).mono fun e W' ⟨v, he, hp⟩ => ?_
 subst he
 exact ChangeSpec.post_blind hp
theorem cF : prog.cellsOf 185 = 5 := by kernel_rfl
theorem cFs : prog.cellsOf 186 = 65 := by kernel_rfl
theorem q_T : prog.cellsOf 4 = 1 := by kernel_rfl
theorem uFs : prog.underlying 186 = some (.array 13 185) := by kernel_rfl
theorem gU : prog.globalNamed "warehouse/query.used" = some 2 := by kernel_rfl
theorem tU : (prog.globals[ 2 ]?).map (·.type) = some 186 := by kernel_rfl
set_option maxRecDepth 100000
theorem l_7 {W : World} {held : Bool} {f : Nat} {cs : List Value} {x : DataW Unit × List MemPlace} (hl : cs.length = 5) (h : DataW.trod (fun _ => ()) prog W 0 (fun _ => true) held f 185 cs = some x) :
  ∃ b0 b1 b2 b3 b4 : Bool, cs = [.bool b0, .bool b1, .bool b2, .bool b3, .bool b4] ∧ x.1 = .agg [.lit (.bool b0), .lit (.bool b1), .lit (.bool b2), .lit (.bool b3), .lit (.bool b4)] := by
 obtain ⟨ys, k, _, hy, _, hyl, hg⟩ := DataW.trod_struct underlying185 h
 match cs, hl with
 | [c0, c1, c2, c3, c4], _ =>
  match ys, hyl with
  | [y0, y1, y2, y3, y4], _ =>
   have g0 : DataW.trod (fun _ => ()) prog W 0 (fun _ => true) held k 4 (([c0, c1, c2, c3, c4].drop 0).take (prog.cellsOf 4)) = some y0 := hg 0 _ rfl; have g1 : DataW.trod (fun _ => ()) prog W 0 (fun _ => true) held k 4 (([c0, c1, c2, c3, c4].drop 1).take (prog.cellsOf 4)) = some y1 := hg 1 _ rfl; have g2 : DataW.trod (fun _ => ()) prog W 0 (fun _ => true) held k 4 (([c0, c1, c2, c3, c4].drop 2).take (prog.cellsOf 4)) = some y2 := hg 2 _ rfl; have g3 : DataW.trod (fun _ => ()) prog W 0 (fun _ => true) held k 4 (([c0, c1, c2, c3, c4].drop 3).take (prog.cellsOf 4)) = some y3 := hg 3 _ rfl; have g4 : DataW.trod (fun _ => ()) prog W 0 (fun _ => true) held k 4 (([c0, c1, c2, c3, c4].drop 4).take (prog.cellsOf 4)) = some y4 := hg 4 _ rfl; rw [q_T] at g0 g1 g2 g3 g4; obtain ⟨b0, e0, z0⟩ := DataW.trod_bool underlying4 g0; obtain ⟨b1, e1, z1⟩ := DataW.trod_bool underlying4 g1; obtain ⟨b2, e2, z2⟩ := DataW.trod_bool underlying4 g2; obtain ⟨b3, e3, z3⟩ := DataW.trod_bool underlying4 g3; obtain ⟨b4, e4, z4⟩ := DataW.trod_bool underlying4 g4
   simp at e0 e1 e2 e3 e4
   subst e0 e1 e2 e3 e4 z0 z1 z2 z3 z4; exact ⟨b0, b1, b2, b3, b4, rfl, by rw [hy]; rfl⟩
def g_d : List (DataW Unit) := match (Rows.laid_warehouse_query_used : DataW Unit) with
 | .agg l => l
 | _ => []
set_option maxRecDepth 512
theorem i_a : ∀ a : Nat, a < 13 → ∃ b0 b1 b2 b3 b4 : Bool, g_d[a]? = some (.agg [.lit (.bool b0), .lit (.bool b1), .lit (.bool b2), .lit (.bool b3), .lit (.bool b4)]) ∧ i_H.getD (a * 5) false = b0 ∧ i_H.getD (a * 5 + 1) false = b1 ∧ i_H.getD (a * 5 + 2) false = b2 ∧ i_H.getD (a * 5 + 3) false = b3 ∧ i_H.getD (a * 5 + 4) false = b4
 | 0, _ => ⟨_, _, _, _, _, rfl, rfl, rfl, rfl, rfl, rfl⟩
 | 1, _ => ⟨_, _, _, _, _, rfl, rfl, rfl, rfl, rfl, rfl⟩
 | 2, _ => ⟨_, _, _, _, _, rfl, rfl, rfl, rfl, rfl, rfl⟩
 | 3, _ => ⟨_, _, _, _, _, rfl, rfl, rfl, rfl, rfl, rfl⟩
 | 4, _ => ⟨_, _, _, _, _, rfl, rfl, rfl, rfl, rfl, rfl⟩
 | 5, _ => ⟨_, _, _, _, _, rfl, rfl, rfl, rfl, rfl, rfl⟩
 | 6, _ => ⟨_, _, _, _, _, rfl, rfl, rfl, rfl, rfl, rfl⟩
 | 7, _ => ⟨_, _, _, _, _, rfl, rfl, rfl, rfl, rfl, rfl⟩
 | 8, _ => ⟨_, _, _, _, _, rfl, rfl, rfl, rfl, rfl, rfl⟩
 | 9, _ => ⟨_, _, _, _, _, rfl, rfl, rfl, rfl, rfl, rfl⟩
 | 10, _ => ⟨_, _, _, _, _, rfl, rfl, rfl, rfl, rfl, rfl⟩
 | 11, _ => ⟨_, _, _, _, _, rfl, rfl, rfl, rfl, rfl, rfl⟩
 | 12, _ => ⟨_, _, _, _, _, rfl, rfl, rfl, rfl, rfl, rfl⟩
 | n + 13, h => absurd h o_
theorem k_k {W : World} {cs : Array Value} {f : Nat} {p : List MemPlace} {held : Bool} (hv : W.var? prog "warehouse/query.used" = some cs)
  (hd : DataW.trod (fun _ => ()) prog W 0 (fun _ => true) held f 186 cs.toList = some (Rows.laid_warehouse_query_used, p)) : c_7 W := by
 obtain ⟨xs, m, _, hx, hlen, hn, hel⟩ := DataW.trod_array uFs hd
 rw [cFs] at hlen
 have hparts : g_d = xs.map (·.1) := by
  have h1 : (Rows.laid_warehouse_query_used : DataW Unit) = .agg (xs.map (·.1)) := congrArg Prod.fst hx
  unfold g_d
  rw [h1]
 have read : ∀ j, j < 65 → W.cell? ⟨2, j, none⟩ = some (.bool (i_H.getD j false)) := fun j hj => by
  have ha : j / 5 < 13 := by omega
  have h := hel (j / 5) ha
  rw [cF] at h
  have hja : j / 5 < xs.length := by omega
  rw [List.getElem?_eq_getElem hja] at h
  have hl5 : ((cs.toList.drop (j / 5 * 5)).take 5).length = 5 := by rw [List.length_take, List.length_drop]; omega
  obtain ⟨b0, b1, b2, b3, b4, e, e2⟩ := l_7 hl5 h
  obtain ⟨d0, d1, d2, d3, d4, hp, u0, u1, u2, u3, u4⟩ := i_a (j / 5) ha
  rw [hparts, List.getElem?_map, List.getElem?_eq_getElem hja, Option.map_some, e2] at hp
  simp only [Option.some.injEq, DataW.agg.injEq, List.cons.injEq, DataW.lit.injEq, Lit.bool.injEq, and_true] at hp
  obtain ⟨rfl, rfl, rfl, rfl, rfl⟩ := hp
  have hc : cs[j]? = ([Value.bool b0, .bool b1, .bool b2, .bool b3, .bool b4] : List Value)[j % 5]? := by
   rw [← e, List.getElem?_take, if_pos o_, List.getElem?_drop, show j / 5 * 5 + j % 5 = j by omega]
   simp
  rw [World.var?_cell gU hv j, hc]
  have hr : j % 5 < 5 := by omega
  have hj2 : j = j / 5 * 5 + j % 5 := by omega
  generalize j % 5 = r at *
  generalize j / 5 = a at *
  subst hj2
  match r, hr with
  | 0, _ => rw [Nat.add_zero, u0]; rfl
  | 1, _ => rw [u1]; rfl
  | 2, _ => rw [u2]; rfl
  | 3, _ => rw [u3]; rfl
  | 4, _ => rw [u4]; rfl
 exact ⟨World.block_lt_of_cell? W _ (read 0 d_), read⟩
end Step
end
end Go.Proofs.YtnpjibaolicbmaaGreatDoor
