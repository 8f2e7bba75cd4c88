/- The built-in names: a map that a call makes of constants. -/
import Derived.Test.YtlfedcbihbigoaaGreatDoorVlE
import Derived.Maps.Own
import Derived.Maps.OwnOps
import Derived.Maps.OwnSet
set_option linter.unusedVariables false
set_option linter.unusedSimpArgs false
namespace Go.Proofs.YtlfedcbihbigoaaGreatDoor
open Go.RowKit Go.WideMaps Go.Maps
theorem lawStr : Keyed Tryz.prog 9 := string_keyed Tryz.underlying9
def biD : DataW Unit := ((((((DataW.map [] : DataW Unit).put (.string [105, 102]) (.lit (.int .i64 17))).put (.string [99, 111, 97, 108, 101, 115, 99, 101]) (.lit (.int .i64 18))).put (.string [105, 115, 110, 117, 108, 108]) (.lit (.int .i64 16))).put (.string [108, 101, 110, 103, 116, 104]) (.lit (.int .i64 19))).put (.string [100, 97, 121]) (.lit (.int .i64 20)))
def BiIs (w w' : World) (e : Ending) : Prop := ∃ B, e = .returned (.map (some B)) ∧ w'.ownsMap Tryz.prog 9 (plainElem Tryz.prog 3) B 5 biD ∧ w.heap.size ≤ B ∧ B < w'.heap.size
set_option maxRecDepth 100000 in
theorem builtin_any (w : World) : Calls Tryz.prog 68 #[] w fun e w' => BiIs w w' e ∧ Below w.heap.size w w' := by
  have hmm := @run_makeMap Tryz.prog
  have hm := World.ownsMap_made (H := Unit) w Tryz.prog 9 (plainElem Tryz.prog 3)
  obtain ⟨w1, r1, o1, g1⟩ := hm.update (t := 109) lawStr Tryz.underlying109 (by decide) (keyOf_string_mk (s := ⟨#[105, 102]⟩) Tryz.underlying9 (by decide)) (plainElem_int (a := 17) Tryz.underlying3 (by decide))
  obtain ⟨w2, r2, o2, g2⟩ := o1.update (t := 109) lawStr Tryz.underlying109 (by decide) (keyOf_string_mk (s := ⟨#[99, 111, 97, 108, 101, 115, 99, 101]⟩) Tryz.underlying9 (by decide)) (plainElem_int (a := 18) Tryz.underlying3 (by decide))
  obtain ⟨w3, r3, o3, g3⟩ := o2.update (t := 109) lawStr Tryz.underlying109 (by decide) (keyOf_string_mk (s := ⟨#[105, 115, 110, 117, 108, 108]⟩) Tryz.underlying9 (by decide)) (plainElem_int (a := 16) Tryz.underlying3 (by decide))
  obtain ⟨w4, r4, o4, g4⟩ := o3.update (t := 109) lawStr Tryz.underlying109 (by decide) (keyOf_string_mk (s := ⟨#[108, 101, 110, 103, 116, 104]⟩) Tryz.underlying9 (by decide)) (plainElem_int (a := 19) Tryz.underlying3 (by decide))
  obtain ⟨w5, r5, o5, g5⟩ := o4.update (t := 109) lawStr Tryz.underlying109 (by decide) (keyOf_string_mk (s := ⟨#[100, 97, 121]⟩) Tryz.underlying9 (by decide)) (plainElem_int (a := 20) Tryz.underlying3 (by decide))
  have HO := hide o5
  have hz : w.heap.size < w5.heap.size := by have := g1.size; have := g2.size; have := g3.size; have := g4.size; have := g5.size; simp at *; omega
  have hb : Below w.heap.size w w5 := by
    refine Below.grown (Below.grown (Below.grown (Below.grown (Below.grown ((Below.refl _ w).alloc (Nat.le_refl _) _) g1 ?_ ?_) g2 ?_ ?_) g3 ?_ ?_) g4 ?_ ?_) g5 ?_ ?_
    all_goals first
      | (intro k hk; injection hk with hk; omega)
      | (have := g1.size; have := g2.size; have := g3.size; have := g4.size; simp at *; first | done | omega)
  have HB := hide hb
  clear hm o1 o2 o3 o4 o5 g1 g2 g3 g4 g5 hb
  go_enter Tryz.func68, Tryz.ntmps68
  go_wp2
  go_ret
  exact ⟨⟨w.heap.size, rfl, HO.out, Nat.le_refl _, hz⟩, HB.out⟩
theorem biD_is : biD = .map [(.string [99, 111, 97, 108, 101, 115, 99, 101], .lit (.int .i64 18)), (.string [100, 97, 121], .lit (.int .i64 20)), (.string [105, 102], .lit (.int .i64 17)), (.string [105, 115, 110, 117, 108, 108], .lit (.int .i64 16)), (.string [108, 101, 110, 103, 116, 104], .lit (.int .i64 19))] := by rfl
theorem biD_has (l : Bytes) : Maps.has biD (.string l) = biB l := by
  rw [biD_is]
  unfold biB hasB builtinS Maps.has
  rw [Bool.eq_iff_iff]
  simp [Lit.sameKey]
  grind
end Go.Proofs.YtlfedcbihbigoaaGreatDoor
