/- TokenRoundTrips: the row's step and the tied card. -/
import Derived.Test.YtedjahbieheeoaaDoorRowJ
import Derived.Test.YtedjahbieheeoaaDoorLawI
import Derived.Test.YtedjahbieheeoaaDoorCards
import Derived.Test.YtedjahbieheeoaaDoorTie
import Derived.Carry
set_option linter.unusedVariables false
set_option linter.unusedSimpArgs false
namespace Go.Proofs.YtedjahbieheeoaaDoor
open Go.ChangeShapes Go.WideShapes Go.ChangeAt Go.RowKit
open Go.ChangeMaps (open_string shut_string)

set_option maxRecDepth 100000 in
theorem tokenRoundTrips_lifted (os : Os) (started : os.Started) (H : Type) (enc : TypeId × Value → H) :
    ReturnsInHanded {} Tryd.checked os 8 .any (fun w args => (Rows.tokenRoundTripsSpec.pre enc Tryd.prog Tryd.f8 [] false w args ∧ laidMetH Tryd.prog Step.laidJ w) ∧ sizedMet enc Tryd.prog Tryd.f8 (OpenSpec.ofChange Rows.tokenRoundTripsSpec) false w args)
      (Rows.tokenRoundTripsSpec.post enc Tryd.prog Tryd.f8 false true false false) := by
  refine Step.handed_and_shaped (C := Tryd.checked) (X := fun w _ => laidMetH Tryd.prog Step.laidJ w) (fun _ _ _ hh h => h.of_heap hh) Step.own started (by kernel_rfl) Tryd.func8
    (ChangeSpec.witness_shaped (enc := enc) (C := Tryd.checked) (os := os) (X := fun w _ => laidMetH Tryd.prog Step.laidJ w) false (World.laidAll Tryd.prog os Step.laidJ) #[.slice none 0 0, .string ⟨#[]⟩, .int .i64 0] 8 (World.laidAll_os _ _ _) (Step.door_shapedJ os _) (by kernel_rfl) (by kernel_rfl) (by kernel_rfl) (Step.door_metJ os _)) ?_
  intro W base args ds gs before hval0 hW hSh hL
  have hval : ∀ (j : Nat) t v, Tryd.f8.params[j]? = some t → args[j]? = some v → Value.okWide Tryd.prog W .any base t v := hval0
  have hW' := hW
  obtain ⟨p, q, hA0, hV, rfl, hfz, hnd⟩ := hW
  have hA : DataW.TrodAll enc Tryd.prog W 0 (fun _ => true) true Tryd.f8.params.toList args.toList ds p := hA0
  rw [ Tryd.params8 ] at hA hval
  obtain ⟨v0, v1, v2, d0, d1, d2, p0, p1, p2, rfl, rfl, rfl, h0, h1, h2⟩ := trodAll_three hA
  obtain ⟨rfl, rfl⟩ := trodVars_none hV
  obtain ⟨A0, len0, cap0, rfl⟩ := okWide_slice Tryd.underlying22 (hval 0 22 v0 rfl rfl)
  have k0 := h0
  have lt0 : ∀ x ∈ p0, x.block < W.heap.size := by obtain ⟨m, hm⟩ := k0; exact DataW.trod_lt m _ _ _ hm
  obtain ⟨l0, rfl, hI0⟩ := Step.ints_of h0
  obtain ⟨s1, rfl, rfl, rfl, ws1⟩ := open_string Tryd.underlying9 (hval 1 9 v1 rfl rfl) h1
  obtain ⟨n2, rfl, rfl, rfl, wn2⟩ := open_int Tryd.underlying3 (hval 2 3 v2 rfl rfl) h2
  have hG := Step.globJ_of hL hSh
  clear hA0 hval0
  simp only [List.append_nil] at hW'
  refine (law7_TokenRoundTrips_any A0 l0 cap0 s1 n2 W hG hI0 (show s1.size ≤ maxLen from by first | exact ws1 | exact ws1.1 | (unfold maxLen; exact ws1))).mono fun e W' ⟨he, bel⟩ => ?_
  subst he
  exact ⟨_, rfl, _, _, _, [], _, [], hW', trodAll_mk1 (shut_bool Tryd.underlying4 _), trodAll_mk3 (Below.trod Step.laidOut (by kernel_rfl) (of_decide_eq_true (by kernel_rfl)) k0 bel lt0) (shut_string Tryd.underlying9 ws1) (shut_int Tryd.underlying3 wn2), rfl, bel.frame _, fun h => by cases h⟩

theorem tokenRoundTrips_row : Rows.TokenRoundTripsSaid :=
  OpenClaim.holds_of_wide 8 Tryd.f8 rfl rfl rfl rfl rfl rfl rfl ⟨rfl, rfl, rfl, rfl, rfl⟩ rfl rfl rfl rfl rfl (by kernel_rfl) Tryd.func8 (by kernel_rfl)
    (of_decide_eq_true (by kernel_rfl)) (by unfold Func.isWrapper; first | (rw [if_pos (by decide +kernel)]; kernel_rfl) | (rw [if_neg (by decide +kernel)]; exact ⟨rfl, rfl⟩))
    (fun os started H enc _ => tokenRoundTrips_lifted os started H enc)

theorem tokenRoundTrips_holds : Rows.TokenRoundTripsCardSaid :=
  Claim7.holds_tied_plain_at .later [] [.data, .data, .data, .data, .data, .widerDeep, .widerDeep, .pinned] true (true, "01cf227b1885d0834f08ccf5b8b8443e2310a06e932af80de5b1c60eab73ac53") false
    tokenRoundTrips_row (fun _ h => by cases h) (by kernel_rfl) (fun _ h => by cases h) tokenRoundTrips_row_tie rfl ⟨rfl, rfl⟩ (by kernel_rfl) rfl
    (fun f fn hf hfn => by
      obtain rfl : f = 8 := Option.some.inj ((show Tryd.prog.funcNamed "warehouse/warehouselaw7.TokenRoundTrips" = some 8 by kernel_rfl).symm.trans hf) |>.symm
      obtain rfl : fn = Tryd.f8 := (Option.some.inj (Tryd.func8.symm.trans hfn)).symm
      exact ⟨by kernel_rfl, fun j t ht => by
        rw [ Tryd.params8 ] at ht
        have hm : t ∈ [ 22, 9, 3 ] := by simpa using Array.mem_of_getElem? ht
        have hall : ([ 22, 9, 3 ].all fun u => !Tryd.prog.wantsStandIn u) = true := by kernel_rfl
        exact (show Tryd.prog.wantsStandIn t = false by simpa using List.all_eq_true.1 hall t hm)⟩)
    (by kernel_rfl)
#print axioms tokenRoundTrips_holds
end Go.Proofs.YtedjahbieheeoaaDoor
