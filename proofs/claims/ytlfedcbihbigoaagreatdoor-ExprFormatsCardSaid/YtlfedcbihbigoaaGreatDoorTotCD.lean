/- Contracts that tell only that there is an answer: the types of binary operators; a zone by its name. Contracts that tell only that there is an answer: a zone by its name; the type of a node (ref9.Zone, ref9.node). -/
import Derived.Test.YtlfedcbihbigoaaGreatDoorTotAB
set_option linter.unusedVariables false
set_option linter.unusedSimpArgs false
namespace Go.Proofs.YtlfedcbihbigoaaGreatDoor
open Go.RowKit
theorem cells2_far {w w1 : World} {a1 b1 a2 b2 a b : Value} {t1 t2 t : TypeId} (h : Below (((w.alloc (.cells #[a1, b1] t1)).alloc (.cells #[a2, b2] t2)).alloc (.cells #[a, b] t)).heap.size (((w.alloc (.cells #[a1, b1] t1)).alloc (.cells #[a2, b2] t2)).alloc (.cells #[a, b] t)) w1) :
    w1.cell? ⟨w.heap.size + 1 + 1, 0, none⟩ = some a ∧ w1.cell? ⟨w.heap.size + 1 + 1, 1, none⟩ = some b ∧ (∀ i, w1.frozen? ⟨w.heap.size + 1 + 1, i, none⟩ = false) ∧ Below w.heap.size w w1 ∧
      w1.cell? ⟨w.heap.size, 1, none⟩ = some b1 ∧ w1.cell? ⟨w.heap.size + 1, 1, none⟩ = some b2 := by
  have h0 := heap_alloc_new ((w.alloc (.cells #[a1, b1] t1)).alloc (.cells #[a2, b2] t2)) (.cells #[a, b] t)
  have hs : ((w.alloc (.cells #[a1, b1] t1)).alloc (.cells #[a2, b2] t2)).heap.size = w.heap.size + 1 + 1 := by simp
  rw [hs] at h0
  have hh : w1.heap[w.heap.size + 1 + 1]? = some (.cells #[a, b] t) := (h.block _ (by simp)).trans h0
  have h1 : w1.heap[w.heap.size]? = some (.cells #[a1, b1] t1) := (h.block _ (by simp; omega)).trans ((heap_alloc_old _ _ (by simp; omega)).trans ((heap_alloc_old _ _ (by simp)).trans (heap_alloc_new w _)))
  have h2 : w1.heap[w.heap.size + 1]? = some (.cells #[a2, b2] t2) := (h.block _ (by simp)).trans ((heap_alloc_old _ _ (by simp)).trans (by have := heap_alloc_new (w.alloc (.cells #[a1, b1] t1)) (.cells #[a2, b2] t2); simpa using this))
  refine ⟨by rw [cell_of_heap hh]; rfl, by rw [cell_of_heap hh]; rfl, fun i => free_of_heap hh i, ?_, by rw [cell_of_heap h1]; rfl, by rw [cell_of_heap h2]; rfl⟩
  exact Below.trans (by (repeat (first | exact Below.refl _ _ | assumption | refine Below.drew ?_ | refine below_drewN ?_ _ | refine Below.alloc ?_ (by first | omega | simp <;> omega) _ | refine Below.setCell ?_ (by first | omega | simp <;> omega) _))) (h.mono (by simp; omega))
theorem box2set {w : World} {B : Nat} {x y : Value} (h0 : w.cell? ⟨B, 0, none⟩ = some x) (h1 : w.cell? ⟨B, 1, none⟩ = some y) (a b : Value) :
    (w.setCell ⟨B, 0, none⟩ a).cell? ⟨B, 0, none⟩ = some a ∧ ((w.setCell ⟨B, 0, none⟩ a).setCell ⟨B, 1, none⟩ b).cell? ⟨B, 1, none⟩ = some b := by
  refine ⟨World.cell?_setCell_same _ _ _ h0, World.cell?_setCell_same (u := y) _ _ _ ?_⟩
  rw [World.cell?_setCell_other _ _ _ _ (by simp)]; exact h1
set_option maxRecDepth 100000 in
set_option maxHeartbeats 4000000 in
theorem ref9_binary_any (op k1 k2 : Int) (b1 b2 : Bool) (w : World) : Calls Tryz.prog 149 #[.int .i64 op, knV k1 b1, knV k2 b2] w fun e w' => KnIs e ∧ Below w.heap.size w w' := by
  cases b1 <;> cases b2
  all_goals
    go_enter Tryz.func149, Tryz.ntmps149
    go_wp2_with (first
      | (go_at_call 146; refine (ref9_fits_any _ _ _ _).mono ?_; rintro e w' ⟨rfl, rfl⟩)
      | (go_at_call 166; refine (ref9_difference_any _ _ _ _ _).mono ?_; rintro e w1 ⟨⟨kr, br, cr, rfl⟩, hb1⟩; obtain ⟨r0, r1, fr, hb2, q1, q2⟩ := cells2_far hb1; have s0 := (fun a => (box2set r0 r1 a (.bool true)).1); have s1 := (fun a b => (box2set r0 r1 a b).2); clear hb1)
      | (go_at_call 145; refine (ref9_common_any _ _ _ _ _).mono ?_; rintro e w1 ⟨⟨kr, cr, rfl⟩, hb1⟩; obtain ⟨r0, r1, fr, hb2, q1, q2⟩ := cells2_far hb1; have s0 := (fun a => (box2set r0 r1 a (.bool true)).1); have s1 := (fun a b => (box2set r0 r1 a b).2); clear hb1))
    all_goals
      refine bodyPost_ex rfl ?_
      apply Exists.intro
      apply And.intro
      · first | (simp [results, Tryz.results149, go_sem, s0, s1]; rfl) | (simp [results, Tryz.results149, go_sem]; rfl)
      · exact ⟨⟨_, _, _, rfl⟩, by (repeat (first | exact Below.refl _ _ | assumption | refine Below.drew ?_ | refine below_drewN ?_ _ | refine Below.alloc ?_ (by first | omega | simp <;> omega) _ | refine Below.setCell ?_ (by first | omega | simp <;> omega) _))⟩
end Go.Proofs.YtlfedcbihbigoaaGreatDoor

namespace Go.Proofs.YtlfedcbihbigoaaGreatDoor
open Go.RowKit
/-- A slice of zones. -/
def ZonesAt (w : World) (Z : Option Addr) (m : Nat) : Prop :=
  m = 0 ∨ ∃ g off, Z = some ⟨g, off, none⟩ ∧ g < w.heap.size ∧ ∀ i, i < m → ∃ (nm : Bytes) (o : Int) (S : Option Addr) (sm sc : Nat),
    w.cell? ⟨g, off + i * 3, none⟩ = some (str nm) ∧ w.cell? ⟨g, off + i * 3 + 1, none⟩ = some (.int .i64 o) ∧ w.cell? ⟨g, off + i * 3 + 2, none⟩ = some (.slice S sm sc) ∧ ShAt w S sm ∧ sm ≤ 1000000
theorem ZonesAt.below {w w' : World} {Z : Option Addr} {m : Nat} (h : ZonesAt w Z m) (hb : Below w.heap.size w w') : ZonesAt w' Z m := by
  rcases h with h | ⟨g, off, hA, hg, hc⟩
  · exact .inl h
  · refine .inr ⟨g, off, hA, Nat.lt_of_lt_of_le hg hb.size, fun i hi => ?_⟩
    obtain ⟨nm, o, S, sm, sc, h1, h2, h3, h4, h5⟩ := hc i hi
    exact ⟨nm, o, S, sm, sc, (hb.cell (p := ⟨g, _, none⟩) hg).trans h1, (hb.cell (p := ⟨g, _, none⟩) hg).trans h2, (hb.cell (p := ⟨g, _, none⟩) hg).trans h3, h4.below hb, h5⟩
def ZnIs (e : Ending) : Prop := ∃ (nm : ByteArray) (o : Int) (S : Option Addr) (sm sc : Nat) (b : Bool), e = .returned (.tuple #[.agg #[.string nm, .int .i64 o, .slice S sm sc], .bool b])
set_option maxRecDepth 100000 in
set_option maxHeartbeats 1000000 in
theorem ref9_Zone_any (Z : Option Addr) (m c : Nat) (s : ByteArray) (w : World) (h : ZonesAt w Z m) (hl : m ≤ 1000000) :
    Calls Tryz.prog 147 #[.slice Z m c, .string s] w fun e w' => ZnIs e ∧ Below w.heap.size w w' := by
  have HA := hide h; clear h
  go_enter Tryz.func147, Tryz.ntmps147
  go_wp2
  go_loop [6] (fun i => ∃ k : Nat, k ≤ m ∧ i = .int .i64 k) (fun i => m - (intOf i).toNat)
  case atStart => exact ⟨0, by omega, rfl⟩
  case round =>
    obtain ⟨k, hk, rfl⟩ := hrel
    by_cases hlt : k < m
    · rcases HA.out with e | ⟨g, off, rfl, hg, hc⟩
      · omega
      obtain ⟨nm, o, S, sm, sc, c0, c1, c2, _, _⟩ := hc k hlt
      clear hc
      go_wp2
      · refine bodyPost_ret (v := .tuple #[.agg #[.string ⟨nm.toArray⟩, .int .i64 o, .slice S sm sc], .bool true]) (by simp [results, Tryz.results147, go_sem]) rfl ⟨⟨_, _, _, _, _, _, rfl⟩, by (repeat (first | exact Below.refl _ _ | assumption | refine Below.drew ?_ | refine below_drewN ?_ _ | refine Below.alloc ?_ (by first | omega | simp <;> omega) _ | refine Below.setCell ?_ (by first | omega | simp <;> omega) _))⟩
      · go_round
        case rel => exact ⟨k + 1, by omega, by go_num⟩
        case measure => simp [intOf]; omega
    · go_wp2
      refine bodyPost_ret (v := .tuple #[.agg #[.string ⟨#[]⟩, .int .i64 0, .slice none 0 0], .bool false]) (by simp [results, Tryz.results147, go_sem]) rfl ⟨⟨_, _, _, _, _, _, rfl⟩, by (repeat (first | exact Below.refl _ _ | assumption | refine Below.drew ?_ | refine below_drewN ?_ _ | refine Below.alloc ?_ (by first | omega | simp <;> omega) _ | refine Below.setCell ?_ (by first | omega | simp <;> omega) _))⟩
def ZsIs (w' : World) (e : Ending) : Prop := ∃ (Z : Option Addr) (c : Nat), e = .returned (.slice Z 3 c) ∧ ZonesAt w' Z 3
set_option maxRecDepth 100000 in
set_option maxHeartbeats 1000000 in
theorem base_Zones_any (w : World) : Calls Tryz.prog 82 #[] w fun e w' => ZsIs w' e ∧ Below w.heap.size w w' := by
  go_enter Tryz.func82, Tryz.ntmps82
  go_wp2
  go_ret
  refine ⟨⟨_, 3, rfl, .inr ⟨w.heap.size + 1 + 1, 0, rfl, by simp, fun i hi => ?_⟩⟩, by (repeat (first | exact Below.refl _ _ | assumption | refine Below.drew ?_ | refine below_drewN ?_ _ | refine Below.alloc ?_ (by first | omega | simp <;> omega) _ | refine Below.setCell ?_ (by first | omega | simp <;> omega) _))⟩
  match i, hi with
  | 0, _ => exact ⟨[122, 48], 60, none, 0, 0, by first | (simp [go_sem]; done) | (simp [go_sem]; rfl), by simp [go_sem], by simp [go_sem], .inl rfl, by omega⟩
  | 1, _ => exact ⟨[122, 49], -300, some ⟨w.heap.size, 0, none⟩, 2, 2, by first | (simp [go_sem]; done) | (simp [go_sem]; rfl), by simp [go_sem], by simp [go_sem], .inr ⟨w.heap.size, 0, rfl, by first | (simp; done) | (simp; omega), fun j hj => by
      match j, hj with
      | 0, _ => exact ⟨145000, -240, by simp [go_sem], by simp [go_sem]⟩
      | 1, _ => exact ⟨147000, -300, by simp [go_sem], by simp [go_sem]⟩⟩, by omega⟩
  | 2, _ => exact ⟨[122, 50], 120, some ⟨w.heap.size + 1, 0, none⟩, 1, 1, by first | (simp [go_sem]; done) | (simp [go_sem]; rfl), by simp [go_sem], by simp [go_sem], .inr ⟨w.heap.size + 1, 0, rfl, by first | (simp; done) | (simp; omega), fun j hj => by
      match j, hj with
      | 0, _ => exact ⟨145450, 0, by simp [go_sem], by simp [go_sem]⟩⟩, by omega⟩
/-- A slice of kinds. -/
def KnsAt (w : World) (X : Option Addr) (m : Nat) : Prop :=
  m = 0 ∨ ∃ g off, X = some ⟨g, off, none⟩ ∧ g < w.heap.size ∧ ∀ i, i < m → ∃ (k : Int) (b : Bool), w.cell? ⟨g, off + i * 2, none⟩ = some (.int .i64 k) ∧ w.cell? ⟨g, off + i * 2 + 1, none⟩ = some (.bool b)
theorem KnsAt.below {w w' : World} {X : Option Addr} {m : Nat} (h : KnsAt w X m) (hb : Below w.heap.size w w') : KnsAt w' X m := by
  rcases h with h | ⟨g, off, hA, hg, hc⟩
  · exact .inl h
  · refine .inr ⟨g, off, hA, Nat.lt_of_lt_of_le hg hb.size, fun i hi => ?_⟩
    obtain ⟨k, b, h1, h2⟩ := hc i hi
    exact ⟨k, b, (hb.cell (p := ⟨g, _, none⟩) hg).trans h1, (hb.cell (p := ⟨g, _, none⟩) hg).trans h2⟩
theorem far3 {w w1 : World} {o1 o2 o3 : Obj} (h : Below (((w.alloc o1).alloc o2).alloc o3).heap.size (((w.alloc o1).alloc o2).alloc o3) w1) :
    w1.heap[w.heap.size]? = some o1 ∧ w1.heap[w.heap.size + 1]? = some o2 ∧ w1.heap[w.heap.size + 1 + 1]? = some o3 ∧ Below w.heap.size w w1 := by
  have h0 := heap_alloc_new ((w.alloc o1).alloc o2) o3
  have hs : ((w.alloc o1).alloc o2).heap.size = w.heap.size + 1 + 1 := by simp
  rw [hs] at h0
  have hh : w1.heap[w.heap.size + 1 + 1]? = some o3 := (h.block _ (by simp)).trans h0
  have h1 : w1.heap[w.heap.size]? = some o1 := (h.block _ (by simp; omega)).trans ((heap_alloc_old _ _ (by simp; omega)).trans ((heap_alloc_old _ _ (by simp)).trans (heap_alloc_new w _)))
  have h2 : w1.heap[w.heap.size + 1]? = some o2 := (h.block _ (by simp)).trans ((heap_alloc_old _ _ (by simp)).trans (by have := heap_alloc_new (w.alloc o1) o2; simpa using this))
  exact ⟨h1, h2, hh, Below.trans (by (repeat (first | exact Below.refl _ _ | assumption | refine Below.drew ?_ | refine below_drewN ?_ _ | refine Below.alloc ?_ (by first | omega | simp <;> omega) _ | refine Below.setCell ?_ (by first | omega | simp <;> omega) _))) (h.mono (by simp; omega))⟩
def NodeIs (e : Ending) : Prop := ∃ (k : Int) (b : Bool) (x : Int), e = .returned (.tuple #[.agg #[.int .i64 k, .bool b], .int .i64 x])
abbrev closeN (e : Ending) : Prop := NodeIs e
set_option maxRecDepth 100000 in
set_option maxHeartbeats 2000000 in
theorem node_const (k m a : Int) (x nm : ByteArray) (X C Z : Option Addr) (xm xc cm cc zm zc : Nat) (w : World) :
    Calls Tryz.prog 119 #[ndV 0 k m x nm a, .slice X xm xc, .slice C cm cc, .slice Z zm zc] w fun e w' => NodeIs e ∧ Below w.heap.size w w' := by
  go_enter Tryz.func119, Tryz.ntmps119
  go_wp2
  all_goals
    refine bodyPost_ex rfl ?_
    apply Exists.intro
    apply And.intro
    · simp [results, Tryz.results119, go_sem]; rfl
    · exact ⟨⟨_, _, _, rfl⟩, by (repeat (first | exact Below.refl _ _ | assumption | refine Below.drew ?_ | refine below_drewN ?_ _ | refine Below.alloc ?_ (by first | omega | simp <;> omega) _ | refine Below.setCell ?_ (by first | omega | simp <;> omega) _))⟩
set_option maxRecDepth 100000 in
set_option maxHeartbeats 2000000 in
theorem node_call (k m a : Int) (x nm : ByteArray) (X C Z : Option Addr) (xm xc cm cc zm zc : Nat) (w : World) :
    Calls Tryz.prog 119 #[ndV 21 k m x nm a, .slice X xm xc, .slice C cm cc, .slice Z zm zc] w fun e w' => NodeIs e ∧ Below w.heap.size w w' := by
  go_enter Tryz.func119, Tryz.ntmps119
  go_wp2
  all_goals
    refine bodyPost_ex rfl ?_
    apply Exists.intro
    apply And.intro
    · simp [results, Tryz.results119, go_sem]; rfl
    · exact ⟨⟨_, _, _, rfl⟩, by (repeat (first | exact Below.refl _ _ | assumption | refine Below.drew ?_ | refine below_drewN ?_ _ | refine Below.alloc ?_ (by first | omega | simp <;> omega) _ | refine Below.setCell ?_ (by first | omega | simp <;> omega) _))⟩
end Go.Proofs.YtlfedcbihbigoaaGreatDoor
