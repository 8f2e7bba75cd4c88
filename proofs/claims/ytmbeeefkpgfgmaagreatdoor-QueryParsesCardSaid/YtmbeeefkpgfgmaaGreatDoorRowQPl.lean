/- QueryParses: the row's step. -/
import Derived.Test.YtmbeeefkpgfgmaaGreatDoorPp40
import Derived.Test.YtmbeeefkpgfgmaaGreatDoorPp42
import Derived.Test.YtmbeeefkpgfgmaaGreatDoorCards
import Derived.Test.YtmbeeefkpgfgmaaGreatDoorTie
import Derived.Carry
set_option linter.unusedVariables false
set_option linter.unusedSimpArgs false
set_option maxHeartbeats 2000000
namespace Go.Proofs.YtmbeeefkpgfgmaaGreatDoor
open Go.Proofs.Tryz
open Go.ChangeShapes Go.WideShapes Go.ChangeAt Go.RowKit
open Go.ChangeMaps (open_string shut_string)
set_option maxRecDepth 100000
theorem g_c (os : Os) (started : os.Started) (H : Type) (enc : TypeId × Value → H) :
  ReturnsInHanded {} Tryz.checked os 5 .any (fun w args => (Rows.queryParsesSpec.pre enc prog Tryz.f5 [] false w args ∧ laidMetH prog Step.laidP w) ∧ sizedMet enc prog Tryz.f5 (OpenSpec.ofChange Rows.queryParsesSpec) false w args)
   (Rows.queryParsesSpec.post enc prog Tryz.f5 false true false false) := by
 refine Step.handed_and_shaped (C := Tryz.checked) (X := fun w _ => laidMetH prog Step.laidP w) (fun _ _ _ hh h => h.of_heap hh) Step.own started k_ func5
  (ChangeSpec.witness_shaped (enc := enc) (C := Tryz.checked) (os := os) (X := fun w _ => laidMetH prog Step.laidP w) false (World.laidAll prog os Step.laidP) #[.string ⟨#[]⟩, .slice none 0 0, .int .i64 0] 8 (World.laidAll_os _ _ _) (Step.door_shapedP os _) k_ k_ k_ (Step.door_metP os _)) ?_
 intro W base args ds gs before hval0 hW hSh hL
 have hval : ∀ (j : Nat) t v, Tryz.f5.params[j]? = some t → args[j]? = some v → Value.okWide prog W .any base t v := hval0
 have hW' := hW
 obtain ⟨p, q, hA0, hV, rfl, hfz, hnd⟩ := hW
 have hA : DataW.TrodAll enc prog W 0 (fun _ => true) true Tryz.f5.params.toList args.toList ds p := hA0
 rw [ params5 ] at hA hval
 obtain ⟨v0, v1, v2, d0, d1, d2, p0, p1, p2, rfl, rfl, rfl, h0, h1, h2⟩ := trodAll_three hA
 obtain ⟨rfl, rfl⟩ := trodVars_none hV
 obtain ⟨s0, rfl, rfl, rfl, ws0⟩ := open_string underlying9 (hval 0 9 v0 rfl rfl) h0
 have k1 := h1
 have lt1 : ∀ x ∈ p1, x.block < W.heap.size := by obtain ⟨m, hm⟩ := k1; exact DataW.trod_lt m _ _ _ hm
 obtain ⟨A1, len1, cap1, rfl⟩ := okWide_slice underlying28 (hval 1 28 v1 rfl rfl)
 obtain ⟨l1, rfl, hI1⟩ := Step.ints_of h1
 obtain ⟨n2, rfl, rfl, rfl, wn2⟩ := open_int underlying3 (hval 2 3 v2 rfl rfl) h2
 have hG := Step.globP_of hL hSh
 have hU := Step.usedP_of hL
 clear hA0 hval0
 simp only [List.append_nil] at hW'
 refine (e_F s0 A1 l1 cap1 n2 W hG hU.1 hU.2 hI1 (show s0.size ≤ maxLen from by first | exact ws0 | exact ws0.1 | (unfold maxLen; exact ws0))).mono fun e W' ⟨he, bel⟩ => ?_
 subst he
 exact ⟨_, rfl, _, _, _, [], _, [], hW', trodAll_mk1 (shut_bool underlying4 _), trodAll_mk3 (shut_string underlying9 ws0) (Below.trod Step.laidOut k_ (of_decide_eq_true k_) k1 bel lt1) (shut_int underlying3 wn2), rfl, bel.frame _, fun h => by cases h⟩
end Go.Proofs.YtmbeeefkpgfgmaaGreatDoor
