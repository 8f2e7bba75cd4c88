/- ExprReads: the row's step and the tied card. -/
import Derived.Test.YtlfedcbihbigoaaGreatDoorTrod5
import Derived.Test.YtlfedcbihbigoaaGreatDoorLwRd
import Derived.Test.YtlfedcbihbigoaaGreatDoorCards
import Derived.Test.YtlfedcbihbigoaaGreatDoorTie
import Derived.Carry
set_option linter.unusedVariables false
set_option linter.unusedSimpArgs false
namespace Go.Proofs.YtlfedcbihbigoaaGreatDoor
open Go.ChangeShapes Go.WideShapes Go.ChangeAt Go.RowKit
open Go.ChangeMaps (open_string shut_string)

set_option maxRecDepth 100000 in
set_option maxHeartbeats 2000000 in
theorem exprReads_lifted (os : Os) (started : os.Started) (H : Type) (enc : TypeId × Value → H) :
    ReturnsInHanded {} Tryz.checked os 4 .any (fun w args => (Rows.exprReadsSpec.pre enc Tryz.prog Tryz.f4 [] false w args ∧ laidMetH Tryz.prog Step.laidZ w) ∧ sizedMet enc Tryz.prog Tryz.f4 (OpenSpec.ofChange Rows.exprReadsSpec) false w args)
      (Rows.exprReadsSpec.post enc Tryz.prog Tryz.f4 false true false false) := by
  refine Step.handed_and_shaped (C := Tryz.checked) (X := fun w _ => laidMetH Tryz.prog Step.laidZ w) (fun _ _ _ hh h => h.of_heap hh) Step.own started (by kernel_rfl) Tryz.func4
    (ChangeSpec.witness_shaped (enc := enc) (C := Tryz.checked) (os := os) (X := fun w _ => laidMetH Tryz.prog Step.laidZ w) false (World.laidAll Tryz.prog os Step.laidZ) #[.slice none 0 0, .slice none 0 0, .int .i64 0, .int .i64 0, .int .i64 0] 8 (World.laidAll_os _ _ _) (Step.door_shapedZ os _) (by kernel_rfl) (by kernel_rfl) (by kernel_rfl) (Step.door_metZ os _)) ?_
  intro W base args ds gs before hval0 hW hSh hL
  have hval : ∀ (j : Nat) t v, Tryz.f4.params[j]? = some t → args[j]? = some v → Value.okWide Tryz.prog W .any base t v := hval0
  have hW' := hW
  obtain ⟨p, q, hA0, hV, rfl, hfz, hnd⟩ := hW
  have hA : DataW.TrodAll enc Tryz.prog W 0 (fun _ => true) true Tryz.f4.params.toList args.toList ds p := hA0
  rw [ Tryz.params4 ] at hA hval
  obtain ⟨v0, v1, v2, v3, v4, d0, d1, d2, d3, d4, p0, p1, p2, p3, p4, rfl, rfl, rfl, h0, h1, h2, h3, h4⟩ := trodAll_five5 hA
  obtain ⟨rfl, rfl⟩ := trodVars_none hV
  have k0 := h0
  have lt0 : ∀ x ∈ p0, x.block < W.heap.size := by obtain ⟨m, hm⟩ := k0; exact DataW.trod_lt m _ _ _ hm
  obtain ⟨A0, len0, cap0, rfl⟩ := okWide_slice Tryz.underlying22 (hval 0 22 v0 rfl rfl)
  obtain ⟨l0, rfl, hI0⟩ := Step.ints_of h0
  have k1 := h1
  have lt1 : ∀ x ∈ p1, x.block < W.heap.size := by obtain ⟨m, hm⟩ := k1; exact DataW.trod_lt m _ _ _ hm
  obtain ⟨A1, len1, cap1, rfl⟩ := okWide_slice Tryz.underlying22 (hval 1 22 v1 rfl rfl)
  obtain ⟨l1, rfl, hI1⟩ := Step.ints_of h1
  obtain ⟨n2, rfl, rfl, rfl, wn2⟩ := open_int Tryz.underlying3 (hval 2 3 v2 rfl rfl) h2
  obtain ⟨n3, rfl, rfl, rfl, wn3⟩ := open_int Tryz.underlying3 (hval 3 3 v3 rfl rfl) h3
  obtain ⟨n4, rfl, rfl, rfl, wn4⟩ := open_int Tryz.underlying3 (hval 4 3 v4 rfl rfl) h4
  have hG := Step.globZ_of hL hSh
  clear hA0 hval0
  simp only [List.append_nil] at hW'
  refine (law8_ExprReads_any A0 l0 cap0 A1 l1 cap1 n2 n3 n4 W hG hI0 hI1).mono fun e W' ⟨he, bel⟩ => ?_
  subst he
  exact ⟨_, rfl, _, _, _, [], _, [], hW', trodAll_mk1 (shut_bool Tryz.underlying4 _), trodAll_mk55 (Below.trod Step.laidOut (by kernel_rfl) (of_decide_eq_true (by kernel_rfl)) k0 bel lt0) (Below.trod Step.laidOut (by kernel_rfl) (of_decide_eq_true (by kernel_rfl)) k1 bel lt1) (shut_int Tryz.underlying3 wn2) (shut_int Tryz.underlying3 wn3) (shut_int Tryz.underlying3 wn4), rfl, bel.frame _, fun h => by cases h⟩

theorem exprReads_row : Rows.ExprReadsSaid :=
  OpenClaim.holds_of_wide 4 Tryz.f4 rfl rfl rfl rfl rfl rfl rfl ⟨rfl, rfl, rfl, rfl, rfl⟩ rfl rfl rfl rfl rfl (by kernel_rfl) Tryz.func4 (by kernel_rfl)
    (of_decide_eq_true (by kernel_rfl)) (by unfold Func.isWrapper; first | (rw [if_pos (by decide +kernel)]; kernel_rfl) | (rw [if_neg (by decide +kernel)]; exact ⟨rfl, rfl⟩))
    (fun os started H enc _ => exprReads_lifted os started H enc)

theorem exprReads_holds : Rows.ExprReadsCardSaid :=
  Claim7.holds_tied_plain_at .later [] [.data, .data, .data, .data, .data, .widerDeep, .widerDeep, .pinned] true (true, "aee2afa879f94208902783779fa18fdc04c4eedae20963e7b4a2970aafd267e0") false
    exprReads_row (fun _ h => by cases h) (by kernel_rfl) (fun _ h => by cases h) exprReads_row_tie rfl ⟨rfl, rfl⟩ (by kernel_rfl) rfl
    (fun f fn hf hfn => by
      obtain rfl : f = 4 := Option.some.inj ((show Tryz.prog.funcNamed "warehouse/warehouselaw8.ExprReads" = some 4 by kernel_rfl).symm.trans hf) |>.symm
      obtain rfl : fn = Tryz.f4 := (Option.some.inj (Tryz.func4.symm.trans hfn)).symm
      exact ⟨by kernel_rfl, fun j t ht => by
        rw [ Tryz.params4 ] at ht
        have hm : t ∈ [ 22, 22, 3, 3, 3 ] := by simpa using Array.mem_of_getElem? ht
        have hall : ([ 22, 22, 3, 3, 3 ].all fun u => !Tryz.prog.wantsStandIn u) = true := by kernel_rfl
        exact (show Tryz.prog.wantsStandIn t = false by simpa using List.all_eq_true.1 hall t hm)⟩)
    (by kernel_rfl)
#print axioms exprReads_holds
end Go.Proofs.YtlfedcbihbigoaaGreatDoor
