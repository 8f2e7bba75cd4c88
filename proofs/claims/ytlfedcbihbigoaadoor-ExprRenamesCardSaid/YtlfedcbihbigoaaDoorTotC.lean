/- Contracts that tell only that there is an answer: the types of binary operators; a zone by its name. -/
import Derived.Test.YtlfedcbihbigoaaDoorTotB
set_option linter.unusedVariables false
set_option linter.unusedSimpArgs false
namespace Go.Proofs.YtlfedcbihbigoaaDoor
open Go.RowKit
theorem cells2_far {w w1 : World} {a1 b1 a2 b2 a b : Value} {t1 t2 t : TypeId} (h : Below (((w.alloc (.cells #[a1, b1] t1)).alloc (.cells #[a2, b2] t2)).alloc (.cells #[a, b] t)).heap.size (((w.alloc (.cells #[a1, b1] t1)).alloc (.cells #[a2, b2] t2)).alloc (.cells #[a, b] t)) w1) :
    w1.cell? ⟨w.heap.size + 1 + 1, 0, none⟩ = some a ∧ w1.cell? ⟨w.heap.size + 1 + 1, 1, none⟩ = some b ∧ (∀ i, w1.frozen? ⟨w.heap.size + 1 + 1, i, none⟩ = false) ∧ Below w.heap.size w w1 ∧
      w1.cell? ⟨w.heap.size, 1, none⟩ = some b1 ∧ w1.cell? ⟨w.heap.size + 1, 1, none⟩ = some b2 := by
  have h0 := heap_alloc_new ((w.alloc (.cells #[a1, b1] t1)).alloc (.cells #[a2, b2] t2)) (.cells #[a, b] t)
  have hs : ((w.alloc (.cells #[a1, b1] t1)).alloc (.cells #[a2, b2] t2)).heap.size = w.heap.size + 1 + 1 := by simp
  rw [hs] at h0
  have hh : w1.heap[w.heap.size + 1 + 1]? = some (.cells #[a, b] t) := (h.block _ (by simp)).trans h0
  have h1 : w1.heap[w.heap.size]? = some (.cells #[a1, b1] t1) := (h.block _ (by simp; omega)).trans ((heap_alloc_old _ _ (by simp; omega)).trans ((heap_alloc_old _ _ (by simp)).trans (heap_alloc_new w _)))
  have h2 : w1.heap[w.heap.size + 1]? = some (.cells #[a2, b2] t2) := (h.block _ (by simp)).trans ((heap_alloc_old _ _ (by simp)).trans (by have := heap_alloc_new (w.alloc (.cells #[a1, b1] t1)) (.cells #[a2, b2] t2); simpa using this))
  refine ⟨by rw [cell_of_heap hh]; rfl, by rw [cell_of_heap hh]; rfl, fun i => free_of_heap hh i, ?_, by rw [cell_of_heap h1]; rfl, by rw [cell_of_heap h2]; rfl⟩
  exact Below.trans (by (repeat (first | exact Below.refl _ _ | assumption | refine Below.drew ?_ | refine below_drewN ?_ _ | refine Below.alloc ?_ (by first | omega | (simp; done) | (simp; omega)) _ | refine Below.setCell ?_ (by first | omega | (simp; done) | (simp; omega)) _))) (h.mono (by simp; omega))
theorem box2set {w : World} {B : Nat} {x y : Value} (h0 : w.cell? ⟨B, 0, none⟩ = some x) (h1 : w.cell? ⟨B, 1, none⟩ = some y) (a b : Value) :
    (w.setCell ⟨B, 0, none⟩ a).cell? ⟨B, 0, none⟩ = some a ∧ ((w.setCell ⟨B, 0, none⟩ a).setCell ⟨B, 1, none⟩ b).cell? ⟨B, 1, none⟩ = some b := by
  refine ⟨World.cell?_setCell_same _ _ _ h0, World.cell?_setCell_same (u := y) _ _ _ ?_⟩
  rw [World.cell?_setCell_other _ _ _ _ (by simp)]; exact h1
set_option maxRecDepth 100000 in
set_option maxHeartbeats 4000000 in
theorem ref9_binary_any (op k1 k2 : Int) (b1 b2 : Bool) (w : World) : Calls Tryd.prog 85 #[.int .i64 op, knV k1 b1, knV k2 b2] w fun e w' => KnIs e ∧ Below w.heap.size w w' := by
  cases b1 <;> cases b2
  all_goals
    go_enter Tryd.func85, Tryd.ntmps85
    go_wp2_with (first
      | (go_at_call 82; refine (ref9_fits_any _ _ _ _).mono ?_; rintro e w' ⟨rfl, rfl⟩)
      | (go_at_call 88; refine (ref9_difference_any _ _ _ _ _).mono ?_; rintro e w1 ⟨⟨kr, br, cr, rfl⟩, hb1⟩; obtain ⟨r0, r1, fr, hb2, q1, q2⟩ := cells2_far hb1; have s0 := (fun a => (box2set r0 r1 a (.bool true)).1); have s1 := (fun a b => (box2set r0 r1 a b).2); clear hb1)
      | (go_at_call 81; refine (ref9_common_any _ _ _ _ _).mono ?_; rintro e w1 ⟨⟨kr, cr, rfl⟩, hb1⟩; obtain ⟨r0, r1, fr, hb2, q1, q2⟩ := cells2_far hb1; have s0 := (fun a => (box2set r0 r1 a (.bool true)).1); have s1 := (fun a b => (box2set r0 r1 a b).2); clear hb1))
    all_goals
      refine bodyPost_ex rfl ?_
      apply Exists.intro
      apply And.intro
      · first | (simp [results, Tryd.results85, go_sem, s0, s1]; rfl) | (simp [results, Tryd.results85, go_sem]; rfl)
      · exact ⟨⟨_, _, _, rfl⟩, by (repeat (first | exact Below.refl _ _ | assumption | refine Below.drew ?_ | refine below_drewN ?_ _ | refine Below.alloc ?_ (by first | omega | (simp; done) | (simp; omega)) _ | refine Below.setCell ?_ (by first | omega | (simp; done) | (simp; omega)) _))⟩
end Go.Proofs.YtlfedcbihbigoaaDoor
