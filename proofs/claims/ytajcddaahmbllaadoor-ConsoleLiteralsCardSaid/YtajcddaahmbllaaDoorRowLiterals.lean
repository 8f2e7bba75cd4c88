/- ConsoleLiterals: the row's step and the tied card. -/
import Derived.Test.YtajcddaahmbllaaDoorRowC
import Derived.Test.YtajcddaahmbllaaDoorConG
import Derived.Test.YtajcddaahmbllaaDoorCards
import Derived.Test.YtajcddaahmbllaaDoorTie
import Derived.Carry
set_option linter.unusedVariables false
set_option linter.unusedSimpArgs false
namespace Go.Proofs.YtajcddaahmbllaaDoor
open Go.ChangeShapes Go.WideShapes Go.ChangeAt Go.RowKit
open Go.ChangeMaps (open_string shut_string)

set_option maxRecDepth 100000 in
theorem consoleLiterals_lifted (os : Os) (started : os.Started) (H : Type) (enc : TypeId × Value → H) :
    ReturnsInHanded {} Tryd.checked os 3 .any (fun w args => (Rows.consoleLiteralsSpec.pre enc Tryd.prog Tryd.f3 [] false w args ∧ laidMetH Tryd.prog Step.laidK w) ∧ sizedMet enc Tryd.prog Tryd.f3 (OpenSpec.ofChange Rows.consoleLiteralsSpec) false w args)
      (Rows.consoleLiteralsSpec.post enc Tryd.prog Tryd.f3 false true false false) := by
  refine Step.handed_and_shaped (C := Tryd.checked) (X := fun w _ => laidMetH Tryd.prog Step.laidK w) (fun _ _ _ hh h => h.of_heap hh) Step.own started (by kernel_rfl) Tryd.func3
    (ChangeSpec.witness_shaped (enc := enc) (C := Tryd.checked) (os := os) (X := fun w _ => laidMetH Tryd.prog Step.laidK w) false (World.laidAll Tryd.prog os Step.laidK) #[.agg #[.int .i64 0, .int .i64 0, .string ⟨#[]⟩], .string ⟨#[]⟩] 8 (World.laidAll_os _ _ _) (Step.door_shapedK os _) (by kernel_rfl) (by kernel_rfl) (by kernel_rfl) (Step.door_metK os _)) ?_
  intro W base args ds gs before hval0 hW hSh hL
  have hval : ∀ (j : Nat) t v, Tryd.f3.params[j]? = some t → args[j]? = some v → Value.okWide Tryd.prog W .any base t v := hval0
  have hW' := hW
  obtain ⟨p, q, hA0, hV, rfl, hfz, hnd⟩ := hW
  have hA : DataW.TrodAll enc Tryd.prog W 0 (fun _ => true) true Tryd.f3.params.toList args.toList ds p := hA0
  rw [ Tryd.params3 ] at hA hval
  obtain ⟨v0, v1, d0, d1, p0, p1, rfl, rfl, rfl, h0, h1⟩ := trodAll_two hA
  obtain ⟨rfl, rfl⟩ := trodVars_none hV
  obtain ⟨va0, vb0, vc0, ya0, yb0, yc0, fu0, rfl, rfl, rfl, ta0, tb0, tc0⟩ := Go.Joins.open_agg3 Tryd.underlying23 (by kernel_rfl) (by kernel_rfl) (hval 0 23 v0 rfl rfl) h0
  obtain ⟨k0, ea0, rfl, wa0⟩ := DataW.trod_int Tryd.underlying3 ta0
  obtain ⟨n0, eb0, rfl, wb0⟩ := DataW.trod_int Tryd.underlying3 tb0
  obtain ⟨x0, ec0, rfl, wc0⟩ := DataW.trod_string Tryd.underlying9 tc0
  simp only [List.cons.injEq, and_true] at ea0 eb0 ec0
  subst ea0 eb0 ec0
  obtain ⟨s1, rfl, rfl, rfl, ws1⟩ := open_string Tryd.underlying9 (hval 1 9 v1 rfl rfl) h1
  have hG := Step.globK_of hL hSh
  clear hA0 hval0
  simp only [List.append_nil] at hW'
  refine (law42_ConsoleLiterals_any k0 n0 x0 s1 W hG wc0 (show s1.size ≤ maxLen from by first | exact ws1 | exact ws1.1 | (unfold maxLen; exact ws1))).mono fun e W' ⟨he, bel⟩ => ?_
  subst he
  exact ⟨_, rfl, _, _, _, [], _, [], hW', trodAll_mk1 (shut_bool Tryd.underlying4 _), trodAll_mk2 (Go.Joins.shut_agg3 Tryd.underlying23 (by kernel_rfl) (by kernel_rfl) (shut_int Tryd.underlying3 wa0) (shut_int Tryd.underlying3 wb0) (shut_string Tryd.underlying9 wc0)) (shut_string Tryd.underlying9 ws1), rfl, bel.frame _, fun h => by cases h⟩

theorem consoleLiterals_row : Rows.ConsoleLiteralsSaid :=
  OpenClaim.holds_of_wide 3 Tryd.f3 rfl rfl rfl rfl rfl rfl rfl ⟨rfl, rfl, rfl, rfl, rfl⟩ rfl rfl rfl rfl rfl (by kernel_rfl) Tryd.func3 (by kernel_rfl)
    (of_decide_eq_true (by kernel_rfl)) (by unfold Func.isWrapper; first | (rw [if_pos (by decide +kernel)]; kernel_rfl) | (rw [if_neg (by decide +kernel)]; exact ⟨rfl, rfl⟩))
    (fun os started H enc _ => consoleLiterals_lifted os started H enc)

theorem consoleLiterals_holds : Rows.ConsoleLiteralsCardSaid :=
  Claim7.holds_tied_plain_at .later [] [.data, .data, .data, .data, .data, .widerDeep, .pinned] true (true, "2ceb2e07bd41b2f7074e2a3acf75b908b956a2aca0543be38252ce5aa5a9d6ba") false
    consoleLiterals_row (fun _ h => by cases h) (by kernel_rfl) (fun _ h => by cases h) consoleLiterals_row_tie rfl ⟨rfl, rfl⟩ (by kernel_rfl) rfl
    (fun f fn hf hfn => by
      obtain rfl : f = 3 := Option.some.inj ((show Tryd.prog.funcNamed "warehouse/warehouselaw42.ConsoleLiterals" = some 3 by kernel_rfl).symm.trans hf) |>.symm
      obtain rfl : fn = Tryd.f3 := (Option.some.inj (Tryd.func3.symm.trans hfn)).symm
      exact ⟨by kernel_rfl, fun j t ht => by
        rw [ Tryd.params3 ] at ht
        have hm : t ∈ [ 23, 9 ] := by simpa using Array.mem_of_getElem? ht
        have hall : ([ 23, 9 ].all fun u => !Tryd.prog.wantsStandIn u) = true := by kernel_rfl
        exact (show Tryd.prog.wantsStandIn t = false by simpa using List.all_eq_true.1 hall t hm)⟩)
    (by kernel_rfl)
#print axioms consoleLiterals_holds
end Go.Proofs.YtajcddaahmbllaaDoor
