/- QueryNames: the row's step. -/
import Derived.Test.YtmbeeefkpgfgmaaGreatDoorPq47
import Derived.Test.YtmbeeefkpgfgmaaGreatDoorPq48
import Derived.Test.YtmbeeefkpgfgmaaGreatDoorCards
import Derived.Test.YtmbeeefkpgfgmaaGreatDoorTie
import Derived.Carry
set_option linter.unusedVariables false
set_option linter.unusedSimpArgs false
namespace Go.Proofs.YtmbeeefkpgfgmaaGreatDoor
open Go.ChangeShapes Go.WideShapes Go.ChangeAt Go.RowKit
open Go.ChangeMaps (open_string shut_string)

set_option maxRecDepth 100000 in
set_option maxHeartbeats 2000000 in
theorem queryNames_lifted (os : Os) (started : os.Started) (H : Type) (enc : TypeId × Value → H) :
    ReturnsInHanded {} Tryz.checked os 4 .any (fun w args => (Rows.queryNamesSpec.pre enc Tryz.prog Tryz.f4 [] false w args ∧ laidMetH Tryz.prog Step.laidQ w) ∧ sizedMet enc Tryz.prog Tryz.f4 (OpenSpec.ofChange Rows.queryNamesSpec) false w args)
      (Rows.queryNamesSpec.post enc Tryz.prog Tryz.f4 false true false false) := by
  refine Step.handed_sized (C := Tryz.checked) (X := fun w _ => laidMetH Tryz.prog Step.laidQ w) (fun _ _ _ hh h => h.of_heap hh) Step.own started (by kernel_rfl) Tryz.func4
    (ChangeSpec.witness_shaped (enc := enc) (C := Tryz.checked) (os := os) (X := fun w _ => laidMetH Tryz.prog Step.laidQ w) false (World.laidAll Tryz.prog os Step.laidQ) #[.slice none 0 0, .slice none 0 0, .int .i64 0] 8 (World.laidAll_os _ _ _) (Step.door_shapedQ os _) (by kernel_rfl) (by kernel_rfl) (by kernel_rfl) (Step.door_metQ os _)) rfl ?_
  intro W base args ds gs before hval0 hW hwt0 hSh hL
  have hwt := hwt0
  have hval : ∀ (j : Nat) t v, Tryz.f4.params[j]? = some t → args[j]? = some v → Value.okWide Tryz.prog W .any base t v := hval0
  have hW' := hW
  obtain ⟨p, q, hA0, hV, rfl, hfz, hnd⟩ := hW
  have hA : DataW.TrodAll enc Tryz.prog W 0 (fun _ => true) true Tryz.f4.params.toList args.toList ds p := hA0
  rw [ Tryz.params4 ] at hA hval hwt
  obtain ⟨v0, v1, v2, d0, d1, d2, p0, p1, p2, rfl, rfl, rfl, h0, h1, h2⟩ := trodAll_three hA
  obtain ⟨rfl, rfl⟩ := trodVars_none hV
  have k0 := h0
  have lt0 : ∀ x ∈ p0, x.block < W.heap.size := by obtain ⟨m, hm⟩ := k0; exact DataW.trod_lt m _ _ _ hm
  obtain ⟨A0, len0, cap0, rfl⟩ := okWide_slice Tryz.underlying22 (hval 0 22 v0 rfl rfl)
  obtain ⟨ss0, rfl, hR0, hX0, hC0⟩ := Step.sts_of h0
  have k1 := h1
  have lt1 : ∀ x ∈ p1, x.block < W.heap.size := by obtain ⟨m, hm⟩ := k1; exact DataW.trod_lt m _ _ _ hm
  obtain ⟨A1, len1, cap1, rfl⟩ := okWide_slice Tryz.underlying28 (hval 1 28 v1 rfl rfl)
  have hw1 : (d1.weights Tryz.prog 28).all (· ≤ reachBytes) = true := by
    have h9 := hwt
    simp only [List.cons_append, List.nil_append, DataW.weightsEach, List.all_append, Bool.and_eq_true] at h9
    exact h9.2.1
  have hz1 := Step.ints_sized h1 hw1
  obtain ⟨l1, rfl, hI1⟩ := Step.ints_of h1
  obtain ⟨n2, rfl, rfl, rfl, wn2⟩ := open_int Tryz.underlying3 (hval 2 3 v2 rfl rfl) h2
  have hG := Step.vars_of_Q hL
  clear hA0 hval0 hwt hwt0
  simp only [List.append_nil] at hW'
  refine (law11_QueryNames_any A0 ss0 cap0 A1 l1 cap1 n2 W hG.1 hG.2 hR0 hI1 hz1.1 hz1.2).mono fun e W' ⟨he, bel⟩ => ?_
  subst he
  exact ⟨_, rfl, _, _, _, [], _, [], hW', trodAll_mk1 (shut_bool Tryz.underlying4 _), trodAll_mk3 (Below.trod Step.laidOut (by kernel_rfl) (of_decide_eq_true (by kernel_rfl)) k0 bel lt0) (Below.trod Step.laidOut (by kernel_rfl) (of_decide_eq_true (by kernel_rfl)) k1 bel lt1) (shut_int Tryz.underlying3 wn2), rfl, bel.frame _, fun h => by cases h⟩

end Go.Proofs.YtmbeeefkpgfgmaaGreatDoor
