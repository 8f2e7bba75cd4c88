/- Contracts that tell only that there is an answer: the type of a node that leans on columns or on its parts (ref9.node). -/
import Derived.Test.YtlfedcbihbigoaaDoorTotD
import Derived.RegionTactic
import Derived.ChangeAlike
import Derived.BigRegion
set_option linter.unusedVariables false
set_option linter.unusedSimpArgs false
namespace Go.Proofs.YtlfedcbihbigoaaDoor
open Go.RowKit
set_option maxRecDepth 100000 in
set_option maxHeartbeats 2000000 in
theorem node_col (k m a : Int) (x nm : ByteArray) (X C Z : Option Addr) (cs : List Col) (xm xc cc zm zc : Nat) (w : World) (hC : ColsAt w C cs) (hl : cs.length ≤ 1000000) :
    Calls Tryd.prog 71 #[ndV 1 k m x nm a, .slice X xm xc, .slice C cs.length cc, .slice Z zm zc] w fun e w' => NodeIs e ∧ Below w.heap.size w w' := by
  have HC := hide hC
  clear hC
  go_enter Tryd.func71, Tryd.ntmps71
  go_wp2_with fail
  refine (ref5_Index_any C cs cc nm _ (HC.out.below (by (repeat (first | exact Below.refl _ _ | assumption | refine Below.drew ?_ | refine below_drewN ?_ _ | refine Below.alloc ?_ (by first | omega | (simp; done) | (simp; omega)) _ | refine Below.setCell ?_ (by first | omega | (simp; done) | (simp; omega)) _)))) hl).mono ?_
  rintro e w' ⟨⟨i, i0, i1, rfl⟩, rfl⟩
  by_cases hi : i < 0
  · go_wp2
    refine bodyPost_ex rfl ?_
    apply Exists.intro
    apply And.intro
    · simp [results, Tryd.results71, go_sem]; rfl
    · exact ⟨⟨_, _, _, rfl⟩, by (repeat (first | exact Below.refl _ _ | assumption | refine Below.drew ?_ | refine below_drewN ?_ _ | refine Below.alloc ?_ (by first | omega | (simp; done) | (simp; omega)) _ | refine Below.setCell ?_ (by first | omega | (simp; done) | (simp; omega)) _))⟩
  · obtain ⟨n, rfl⟩ : ∃ n : Nat, i = n := ⟨i.toNat, by omega⟩
    have hn : n < cs.length := by omega
    rcases HC.out with e | ⟨g, off, rfl, hg, hc⟩
    · rw [e] at hn; simp at hn
    obtain ⟨c0, c1, c2⟩ := hc n hn
    clear hc
    generalize cs[n] = y at *
    have L : ∀ (o1 o2 o3 : Obj) (p : Nat), (((w.alloc o1).alloc o2).alloc o3).cell? ⟨g, p, none⟩ = w.cell? ⟨g, p, none⟩ := fun o1 o2 o3 p => (show Below w.heap.size w (((w.alloc o1).alloc o2).alloc o3) from by (repeat (first | exact Below.refl _ _ | assumption | refine Below.drew ?_ | refine below_drewN ?_ _ | refine Below.alloc ?_ (by first | omega | (simp; done) | (simp; omega)) _ | refine Below.setCell ?_ (by first | omega | (simp; done) | (simp; omega)) _))).cell (p := ⟨g, p, none⟩) hg
    have d1 := fun o1 o2 o3 => (L o1 o2 o3 _).trans c1
    have d2 := fun o1 o2 o3 => (L o1 o2 o3 _).trans c2
    clear L c0 c1 c2
    go_wp2
    go_region
    all_goals
      go_wp2
      refine bodyPost_ex rfl ?_
      apply Exists.intro
      apply And.intro
      · simp [results, Tryd.results71, go_sem]; rfl
      · exact ⟨⟨_, _, _, rfl⟩, by (repeat (first | exact Below.refl _ _ | assumption | refine Below.drew ?_ | refine below_drewN ?_ _ | refine Below.alloc ?_ (by first | omega | (simp; done) | (simp; omega)) _ | refine Below.setCell ?_ (by first | omega | (simp; done) | (simp; omega)) _))⟩
theorem two_boxes {w1 : World} {B : Nat} {x0 x1 y0 y1 : Value} {t1 t2 : TypeId} (h2 : w1.heap[B + 1]? = some (.cells #[x0, x1] t1)) (h3 : w1.heap[B + 1 + 1]? = some (.cells #[y0, y1] t2)) :
    (w1.cell? ⟨B + 1, 0, none⟩ = some x0 ∧ w1.cell? ⟨B + 1, 1, none⟩ = some x1 ∧ ∀ i, w1.frozen? ⟨B + 1, i, none⟩ = false) ∧
    (w1.cell? ⟨B + 1 + 1, 0, none⟩ = some y0 ∧ w1.cell? ⟨B + 1 + 1, 1, none⟩ = some y1 ∧ ∀ i, w1.frozen? ⟨B + 1 + 1, i, none⟩ = false) ∧
    (∀ a, (w1.setCell ⟨B + 1 + 1, 0, none⟩ a).cell? ⟨B + 1 + 1, 0, none⟩ = some a) ∧
    (∀ a b, ((w1.setCell ⟨B + 1 + 1, 0, none⟩ a).setCell ⟨B + 1 + 1, 1, none⟩ b).cell? ⟨B + 1 + 1, 1, none⟩ = some b) ∧
    (∀ a b c, (((w1.setCell ⟨B + 1 + 1, 0, none⟩ a).setCell ⟨B + 1 + 1, 1, none⟩ b).setCell ⟨B + 1, 0, none⟩ c).cell? ⟨B + 1, 0, none⟩ = some c) ∧
    (∀ a b c d, ((((w1.setCell ⟨B + 1 + 1, 0, none⟩ a).setCell ⟨B + 1 + 1, 1, none⟩ b).setCell ⟨B + 1, 0, none⟩ c).setCell ⟨B + 1, 1, none⟩ d).cell? ⟨B + 1, 1, none⟩ = some d) := by
  have a0 : w1.cell? ⟨B + 1, 0, none⟩ = some x0 := by rw [cell_of_heap h2]; rfl
  have a1 : w1.cell? ⟨B + 1, 1, none⟩ = some x1 := by rw [cell_of_heap h2]; rfl
  have b0 : w1.cell? ⟨B + 1 + 1, 0, none⟩ = some y0 := by rw [cell_of_heap h3]; rfl
  have b1 : w1.cell? ⟨B + 1 + 1, 1, none⟩ = some y1 := by rw [cell_of_heap h3]; rfl
  refine ⟨⟨a0, a1, fun i => free_of_heap h2 i⟩, ⟨b0, b1, fun i => free_of_heap h3 i⟩, fun a => (box2set b0 b1 a (.bool true)).1, fun a b => (box2set b0 b1 a b).2, fun a b c => ?_, fun a b c d => ?_⟩
  · exact (box2set (x := x0) (y := x1) (by rw [World.cell?_setCell_other _ _ _ _ (by simp), World.cell?_setCell_other _ _ _ _ (by simp)]; exact a0) (by rw [World.cell?_setCell_other _ _ _ _ (by simp), World.cell?_setCell_other _ _ _ _ (by simp)]; exact a1) c (.bool true)).1
  · exact (box2set (x := x0) (y := x1) (by rw [World.cell?_setCell_other _ _ _ _ (by simp), World.cell?_setCell_other _ _ _ _ (by simp)]; exact a0) (by rw [World.cell?_setCell_other _ _ _ _ (by simp), World.cell?_setCell_other _ _ _ _ (by simp)]; exact a1) c d).2
set_option maxRecDepth 100000 in
set_option maxHeartbeats 2000000 in
theorem node_un (op k m a : Int) (x nm : ByteArray) (X C Z : Option Addr) (xc cm cc zm zc : Nat) (w : World) (hX : KnsAt w X 1) (h0 : (op == 0) = false) (h1 : (op == 1) = false) (h21 : (op == 21) = false) (h17 : (op == 17) = false) (h20 : (op == 20) = false) :
    Calls Tryd.prog 71 #[ndV op k m x nm a, .slice X 1 xc, .slice C cm cc, .slice Z zm zc] w fun e w' => NodeIs e ∧ Below w.heap.size w w' := by
  rcases hX with e | ⟨g, off, rfl, hg, hc⟩
  · cases e
  obtain ⟨k0, b0, c0, c1⟩ := hc 0 (by omega)
  simp only [Nat.zero_mul, Nat.add_zero] at c0 c1
  clear hc
  have L : ∀ (o1 o2 o3 : Obj) (p : Nat), (((w.alloc o1).alloc o2).alloc o3).cell? ⟨g, p, none⟩ = w.cell? ⟨g, p, none⟩ := fun o1 o2 o3 p => (show Below w.heap.size w (((w.alloc o1).alloc o2).alloc o3) from by (repeat (first | exact Below.refl _ _ | assumption | refine Below.drew ?_ | refine below_drewN ?_ _ | refine Below.alloc ?_ (by first | omega | (simp; done) | (simp; omega)) _ | refine Below.setCell ?_ (by first | omega | (simp; done) | (simp; omega)) _))).cell (p := ⟨g, p, none⟩) hg
  have d1 := fun o1 o2 o3 => (L o1 o2 o3 _).trans c0
  have d2 := fun o1 o2 o3 => (L o1 o2 o3 _).trans c1
  clear L c0 c1
  go_enter Tryd.func71, Tryd.ntmps71
  go_wp2
  go_region_with (go_at_call 84; refine (ref9_unary_any _ _ _ _).mono ?_; rintro e w1 ⟨⟨kr, br, cr, rfl⟩, hb1⟩; obtain ⟨_, h2, h3, hb2⟩ := far3 (w := w) (o1 := ndBox op k m x nm a) (o2 := knO 0 false) (o3 := knO 0 false) (w1 := w1) ⟨hb1.os, hb1.tape, hb1.output, hb1.size, hb1.block⟩; obtain ⟨⟨x0, x1, xf⟩, ⟨y0, y1, yf⟩, s0, s1, u0, u1⟩ := two_boxes h2 h3; clear hb1 h2 h3)
  all_goals
    go_wp2
    all_goals
      refine bodyPost_ex rfl ?_
      apply Exists.intro
      apply And.intro
      · simp [results, Tryd.results71, go_sem, s0, s1, u0, u1]; rfl
      · exact ⟨⟨_, _, _, rfl⟩, by (repeat (first | exact Below.refl _ _ | assumption | refine Below.drew ?_ | refine below_drewN ?_ _ | refine Below.alloc ?_ (by first | omega | (simp; done) | (simp; omega)) _ | refine Below.setCell ?_ (by first | omega | (simp; done) | (simp; omega)) _))⟩
set_option maxRecDepth 100000 in
set_option maxHeartbeats 8000000 in
theorem node_bin (op k m a : Int) (x nm : ByteArray) (X C Z : Option Addr) (xc cm cc zm zc : Nat) (w : World) (hX : KnsAt w X 2) (h0 : (op == 0) = false) (h1 : (op == 1) = false) (h21 : (op == 21) = false) (h17 : (op == 17) = false) (h20 : (op == 20) = false) :
    Calls Tryd.prog 71 #[ndV op k m x nm a, .slice X 2 xc, .slice C cm cc, .slice Z zm zc] w fun e w' => NodeIs e ∧ Below w.heap.size w w' := by
  rcases hX with e | ⟨g, off, rfl, hg, hc⟩
  · cases e
  obtain ⟨k0, b0, c0, c1⟩ := hc 0 (by omega)
  simp only [Nat.zero_mul, Nat.add_zero] at c0 c1
  obtain ⟨k1, b1, c2, c3⟩ := hc 1 (by omega)
  simp only [Nat.one_mul] at c2 c3
  clear hc
  have L : ∀ (o1 o2 o3 : Obj) (p : Nat), (((w.alloc o1).alloc o2).alloc o3).cell? ⟨g, p, none⟩ = w.cell? ⟨g, p, none⟩ := fun o1 o2 o3 p => (show Below w.heap.size w (((w.alloc o1).alloc o2).alloc o3) from by (repeat (first | exact Below.refl _ _ | assumption | refine Below.drew ?_ | refine below_drewN ?_ _ | refine Below.alloc ?_ (by first | omega | (simp; done) | (simp; omega)) _ | refine Below.setCell ?_ (by first | omega | (simp; done) | (simp; omega)) _))).cell (p := ⟨g, p, none⟩) hg
  have d1 := fun o1 o2 o3 => (L o1 o2 o3 _).trans c0
  have d2 := fun o1 o2 o3 => (L o1 o2 o3 _).trans c1
  have d3 := fun o1 o2 o3 => (L o1 o2 o3 _).trans c2
  have d4 := fun o1 o2 o3 => (L o1 o2 o3 _).trans c3
  clear L c0 c1 c2 c3
  go_enter Tryd.func71, Tryd.ntmps71
  go_wp2
  go_region_with (go_at_call 85; refine (ref9_binary_any _ _ _ _ _ _).mono ?_; rintro e w1 ⟨⟨kr, br, cr, rfl⟩, hb1⟩; obtain ⟨_, h2, h3, hb2⟩ := far3 (w := w) (o1 := ndBox op k m x nm a) (o2 := knO 0 false) (o3 := knO 0 false) (w1 := w1) ⟨hb1.os, hb1.tape, hb1.output, hb1.size, hb1.block⟩; obtain ⟨⟨x0, x1, xf⟩, ⟨y0, y1, yf⟩, s0, s1, u0, u1⟩ := two_boxes h2 h3; clear hb1 h2 h3)
  all_goals
    go_wp2
    all_goals
      refine bodyPost_ex rfl ?_
      apply Exists.intro
      apply And.intro
      · simp [results, Tryd.results71, go_sem, s0, s1, u0, u1]; rfl
      · exact ⟨⟨_, _, _, rfl⟩, by (repeat (first | exact Below.refl _ _ | assumption | refine Below.drew ?_ | refine below_drewN ?_ _ | refine Below.alloc ?_ (by first | omega | (simp; done) | (simp; omega)) _ | refine Below.setCell ?_ (by first | omega | (simp; done) | (simp; omega)) _))⟩
end Go.Proofs.YtlfedcbihbigoaaDoor
