/- Parts of the proof. -/
import Derived.Test.YtmbeeefkpgfgmaaGreatDoorPp01
import Derived.Deep.RegionHeld3
import Derived.RegionTactic
import Derived.WalkSmall
set_option linter.unusedVariables false
set_option linter.unusedSimpArgs false
namespace Go.Proofs.YtmbeeefkpgfgmaaGreatDoor
open Go.RowKit
section
variable {P : Program} {ops : Array Oper} {Q : Exit → Act → World → Prop} {md : Region.Mode} {S : World → Prop}
theorem zT (i : Nat) {oi : Oper} {v : Value} {fuel : Nat} {listed : Array Bool} {a : Act} {w : World} {G : Prop} (h : G) (hi : ops[i]? = some oi := by exact rfl)
  (hs : Region.noSelect ops = true := by kernel_rfl) (hf : Region.free md ops listed i = true := by kernel_rfl) (hr : (Region.ready md ops listed).contains i = true := by kernel_rfl)
  (hQ : ∀ c a w, Q (.panic c) (a.put oi.dst v) w → Q (.panic c) a w := by exact fun _ _ _ h => h) (hw : Region.wanted oi (yielded ops a.tmps) = true := by kernel_rfl)
  (hy : ∀ w9, S w9 → (execOp a.eval oi).run P w9 = .ok (.value v) w9 := by intro w9 hSw; (try dsimp only at hSw); go_simp; first | done | with_reducible rfl)
  (hS : S w := by assumption) (hn : wpAnyH P md ops Q S fuel (listed.setIfInBounds i true) (a.put oi.dst v) w = G := by (try simp only [Act.put, List.setIfInBounds_toArray, List.set_cons_zero, List.set_cons_succ]); exact rfl) :
  wpAnyH P md ops Q S (fuel + 1) listed a w := wpAnyH_take hi hs hf hr hQ (Or.inl ⟨hw, hy⟩) hS (hn.mpr h)
theorem zK (i : Nat) {oi : Oper} {fuel : Nat} {listed : Array Bool} {a : Act} {w : World} {G : Prop} (h : G) (hi : ops[i]? = some oi := by exact rfl)
  (hs : Region.noSelect ops = true := by kernel_rfl) (hf : Region.free md ops listed i = true := by kernel_rfl) (hr : (Region.ready md ops listed).contains i = true := by kernel_rfl)
  (hQ : ∀ c a w, Q (.panic c) (a.put oi.dst undef) w → Q (.panic c) a w := by exact fun _ _ _ h => h) (hw : Region.wanted oi (yielded ops a.tmps) = false := by kernel_rfl)
  (hS : S w := by assumption) (hn : wpAnyH P md ops Q S fuel (listed.setIfInBounds i true) (a.put oi.dst undef) w = G := by (try simp only [Act.put, List.setIfInBounds_toArray, List.set_cons_zero, List.set_cons_succ]); exact rfl) :
  wpAnyH P md ops Q S (fuel + 1) listed a w := wpAnyH_take hi hs hf hr hQ (Or.inr ⟨hw, rfl⟩) hS (hn.mpr h)
theorem zR (i : Nat) {o : Oper} {fuel : Nat} {listed : Array Bool} {a : Act} {w : World} (h : ∀ K' : Act → World → Prop, Shut (∀ a w, S w → (S w → wpAnyH P md ops Q S fuel (listed.setIfInBounds i true) a w) → K' a w) → if Region.wanted o (yielded ops a.tmps) = true then Oper.wp P o a w K' Q else K' (a.put o.dst undef) w)
  (ho : ops[i]? = some o := by exact rfl) (hr : Region.ready md ops listed = [i] := by kernel_rfl) : wpAnyH P md ops Q S (fuel + 1) listed a w :=
 wpAnyH_ready hr s_ (AllReadyH.cons ho h AllReadyH.nil)
theorem zB {K' : Act → World → Prop} {fuel : Nat} {listed : Array Bool} {a : Act} {w : World} {G : Prop} (hK : Shut (∀ a w, S w → (S w → wpAnyH P md ops Q S fuel listed a w) → K' a w)) (hS : S w) (h : S w → G)
  (hn : wpAnyH P md ops Q S fuel listed a w = G := by (try simp only [Act.put, List.setIfInBounds_toArray, List.set_cons_zero, List.set_cons_succ]); exact rfl) : K' a w := hK.out a w hS (fun s => hn.mpr (h s))
end
end Go.Proofs.YtmbeeefkpgfgmaaGreatDoor
