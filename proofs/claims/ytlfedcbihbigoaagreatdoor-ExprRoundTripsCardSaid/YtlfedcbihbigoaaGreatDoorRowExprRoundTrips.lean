/- ExprRoundTrips: the row's step and the tied card. -/
import Derived.Test.YtlfedcbihbigoaaGreatDoorRowE
import Derived.Test.YtlfedcbihbigoaaGreatDoorLwRt
import Derived.Test.YtlfedcbihbigoaaGreatDoorCards
import Derived.Test.YtlfedcbihbigoaaGreatDoorTie
import Derived.Carry
set_option linter.unusedVariables false
set_option linter.unusedSimpArgs false
namespace Go.Proofs.YtlfedcbihbigoaaGreatDoor
open Go.ChangeShapes Go.WideShapes Go.ChangeAt Go.RowKit
open Go.ChangeMaps (open_string shut_string)

set_option maxRecDepth 100000 in
set_option maxHeartbeats 2000000 in
theorem exprRoundTrips_lifted (os : Os) (started : os.Started) (H : Type) (enc : TypeId × Value → H) :
    ReturnsInHanded {} Tryz.checked os 7 .any (fun w args => (Rows.exprRoundTripsSpec.pre enc Tryz.prog Tryz.f7 [] false w args ∧ laidMetH Tryz.prog Step.laidZ w) ∧ sizedMet enc Tryz.prog Tryz.f7 (OpenSpec.ofChange Rows.exprRoundTripsSpec) false w args)
      (Rows.exprRoundTripsSpec.post enc Tryz.prog Tryz.f7 false true false false) := by
  refine Step.handed_and_shaped (C := Tryz.checked) (X := fun w _ => laidMetH Tryz.prog Step.laidZ w) (fun _ _ _ hh h => h.of_heap hh) Step.own started (by kernel_rfl) Tryz.func7
    (ChangeSpec.witness_shaped (enc := enc) (C := Tryz.checked) (os := os) (X := fun w _ => laidMetH Tryz.prog Step.laidZ w) false (World.laidAll Tryz.prog os Step.laidZ) #[.slice none 0 0, .string ⟨#[]⟩, .slice none 0 0, .int .i64 0] 8 (World.laidAll_os _ _ _) (Step.door_shapedZ os _) (by kernel_rfl) (by kernel_rfl) (by kernel_rfl) (Step.door_metZ os _)) ?_
  intro W base args ds gs before hval0 hW hSh hL
  have hval : ∀ (j : Nat) t v, Tryz.f7.params[j]? = some t → args[j]? = some v → Value.okWide Tryz.prog W .any base t v := hval0
  have hW' := hW
  obtain ⟨p, q, hA0, hV, rfl, hfz, hnd⟩ := hW
  have hA : DataW.TrodAll enc Tryz.prog W 0 (fun _ => true) true Tryz.f7.params.toList args.toList ds p := hA0
  rw [ Tryz.params7 ] at hA hval
  obtain ⟨v0, v1, v2, v3, d0, d1, d2, d3, p0, p1, p2, p3, rfl, rfl, rfl, h0, h1, h2, h3⟩ := trodAll_four hA
  obtain ⟨rfl, rfl⟩ := trodVars_none hV
  have k0 := h0
  have lt0 : ∀ x ∈ p0, x.block < W.heap.size := by obtain ⟨m, hm⟩ := k0; exact DataW.trod_lt m _ _ _ hm
  obtain ⟨A0, len0, cap0, rfl⟩ := okWide_slice Tryz.underlying30 (hval 0 30 v0 rfl rfl)
  obtain ⟨es0, rfl, hR0, hX0, hC0⟩ := Step.nds_of h0
  obtain ⟨s1, rfl, rfl, rfl, ws1⟩ := open_string Tryz.underlying9 (hval 1 9 v1 rfl rfl) h1
  have k2 := h2
  have lt2 : ∀ x ∈ p2, x.block < W.heap.size := by obtain ⟨m, hm⟩ := k2; exact DataW.trod_lt m _ _ _ hm
  obtain ⟨A2, len2, cap2, rfl⟩ := okWide_slice Tryz.underlying22 (hval 2 22 v2 rfl rfl)
  obtain ⟨l2, rfl, hI2⟩ := Step.ints_of h2
  obtain ⟨n3, rfl, rfl, rfl, wn3⟩ := open_int Tryz.underlying3 (hval 3 3 v3 rfl rfl) h3
  have hG := Step.globZ_of hL hSh
  clear hA0 hval0
  simp only [List.append_nil] at hW'
  refine (law8_ExprRoundTrips_any A0 es0 cap0 s1 A2 l2 cap2 n3 W hG hR0 hX0 (show s1.size ≤ maxLen from by first | exact ws1 | exact ws1.1 | (unfold maxLen; exact ws1)) hI2).mono fun e W' ⟨he, bel⟩ => ?_
  subst he
  exact ⟨_, rfl, _, _, _, [], _, [], hW', trodAll_mk1 (shut_bool Tryz.underlying4 _), trodAll_mk4 (Below.trod Step.laidOut (by kernel_rfl) (of_decide_eq_true (by kernel_rfl)) k0 bel lt0) (shut_string Tryz.underlying9 ws1) (Below.trod Step.laidOut (by kernel_rfl) (of_decide_eq_true (by kernel_rfl)) k2 bel lt2) (shut_int Tryz.underlying3 wn3), rfl, bel.frame _, fun h => by cases h⟩

theorem exprRoundTrips_row : Rows.ExprRoundTripsSaid :=
  OpenClaim.holds_of_wide 7 Tryz.f7 rfl rfl rfl rfl rfl rfl rfl ⟨rfl, rfl, rfl, rfl, rfl⟩ rfl rfl rfl rfl rfl (by kernel_rfl) Tryz.func7 (by kernel_rfl)
    (of_decide_eq_true (by kernel_rfl)) (by unfold Func.isWrapper; first | (rw [if_pos (by decide +kernel)]; kernel_rfl) | (rw [if_neg (by decide +kernel)]; exact ⟨rfl, rfl⟩))
    (fun os started H enc _ => exprRoundTrips_lifted os started H enc)

theorem exprRoundTrips_holds : Rows.ExprRoundTripsCardSaid :=
  Claim7.holds_tied_plain_at .later [] [.data, .data, .data, .data, .data, .widerDeep, .widerDeep, .pinned] true (true, "aee2afa879f94208902783779fa18fdc04c4eedae20963e7b4a2970aafd267e0") false
    exprRoundTrips_row (fun _ h => by cases h) (by kernel_rfl) (fun _ h => by cases h) exprRoundTrips_row_tie rfl ⟨rfl, rfl⟩ (by kernel_rfl) rfl
    (fun f fn hf hfn => by
      obtain rfl : f = 7 := Option.some.inj ((show Tryz.prog.funcNamed "warehouse/warehouselaw8.ExprRoundTrips" = some 7 by kernel_rfl).symm.trans hf) |>.symm
      obtain rfl : fn = Tryz.f7 := (Option.some.inj (Tryz.func7.symm.trans hfn)).symm
      exact ⟨by kernel_rfl, fun j t ht => by
        rw [ Tryz.params7 ] at ht
        have hm : t ∈ [ 30, 9, 22, 3 ] := by simpa using Array.mem_of_getElem? ht
        have hall : ([ 30, 9, 22, 3 ].all fun u => !Tryz.prog.wantsStandIn u) = true := by kernel_rfl
        exact (show Tryz.prog.wantsStandIn t = false by simpa using List.all_eq_true.1 hall t hm)⟩)
    (by kernel_rfl)
#print axioms exprRoundTrips_holds
end Go.Proofs.YtlfedcbihbigoaaGreatDoor
