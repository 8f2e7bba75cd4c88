/- ConsoleRows: the row's step and the tied card. -/
import Derived.Test.YtajcddaahmbllaaDoorRowC
import Derived.Test.YtajcddaahmbllaaDoorRowI
import Derived.Test.YtajcddaahmbllaaDoorConR
import Derived.Test.YtajcddaahmbllaaDoorCards
import Derived.Test.YtajcddaahmbllaaDoorTie
import Derived.Carry
set_option linter.unusedVariables false
set_option linter.unusedSimpArgs false
namespace Go.Proofs.YtajcddaahmbllaaDoor
open Go.ChangeShapes Go.WideShapes Go.ChangeAt Go.RowKit
open Go.ChangeMaps (open_string shut_string)

set_option maxRecDepth 100000 in
theorem consoleRows_lifted (os : Os) (started : os.Started) (H : Type) (enc : TypeId × Value → H) :
    ReturnsInHanded {} Tryd.checked os 4 .any (fun w args => (Rows.consoleRowsSpec.pre enc Tryd.prog Tryd.f4 [] false w args ∧ laidMetH Tryd.prog Step.laidK w) ∧ sizedMet enc Tryd.prog Tryd.f4 (OpenSpec.ofChange Rows.consoleRowsSpec) false w args)
      (Rows.consoleRowsSpec.post enc Tryd.prog Tryd.f4 false true false false) := by
  refine Step.handed_and_shaped (C := Tryd.checked) (X := fun w _ => laidMetH Tryd.prog Step.laidK w) (fun _ _ _ hh h => h.of_heap hh) Step.own started (by kernel_rfl) Tryd.func4
    (ChangeSpec.witness_shaped (enc := enc) (C := Tryd.checked) (os := os) (X := fun w _ => laidMetH Tryd.prog Step.laidK w) false (World.laidAll Tryd.prog os Step.laidK) #[.slice none 0 0, .int .i64 0, .int .i64 0] 8 (World.laidAll_os _ _ _) (Step.door_shapedK os _) (by kernel_rfl) (by kernel_rfl) (by kernel_rfl) (Step.door_metK os _)) ?_
  intro W base args ds gs before hval0 hW hSh hL
  have hval : ∀ (j : Nat) t v, Tryd.f4.params[j]? = some t → args[j]? = some v → Value.okWide Tryd.prog W .any base t v := hval0
  have hW' := hW
  obtain ⟨p, q, hA0, hV, rfl, hfz, hnd⟩ := hW
  have hA : DataW.TrodAll enc Tryd.prog W 0 (fun _ => true) true Tryd.f4.params.toList args.toList ds p := hA0
  rw [ Tryd.params4 ] at hA hval
  obtain ⟨v0, v1, v2, d0, d1, d2, p0, p1, p2, rfl, rfl, rfl, h0, h1, h2⟩ := trodAll_three hA
  obtain ⟨rfl, rfl⟩ := trodVars_none hV
  obtain ⟨A0, len0, cap0, rfl⟩ := okWide_slice Tryd.underlying32 (hval 0 32 v0 rfl rfl)
  have k0 := h0
  have lt0 : ∀ x ∈ p0, x.block < W.heap.size := by obtain ⟨m, hm⟩ := k0; exact DataW.trod_lt m _ _ _ hm
  obtain ⟨l0, rfl, hI0⟩ := Step.ints_of h0
  obtain ⟨n1, rfl, rfl, rfl, wn1⟩ := open_int Tryd.underlying3 (hval 1 3 v1 rfl rfl) h1
  obtain ⟨n2, rfl, rfl, rfl, wn2⟩ := open_int Tryd.underlying3 (hval 2 3 v2 rfl rfl) h2
  have hG := Step.globK_of hL hSh
  clear hA0 hval0
  simp only [List.append_nil] at hW'
  refine (law42_ConsoleRows_any A0 l0 cap0 n1 n2 W hG hI0 (Step.ints_len hI0)).mono fun e W' ⟨he, bel⟩ => ?_
  subst he
  exact ⟨_, rfl, _, _, _, [], _, [], hW', trodAll_mk1 (shut_bool Tryd.underlying4 _), trodAll_mk3 (Below.trod Step.laidOut (by kernel_rfl) (of_decide_eq_true (by kernel_rfl)) k0 bel lt0) (shut_int Tryd.underlying3 wn1) (shut_int Tryd.underlying3 wn2), rfl, bel.frame _, fun h => by cases h⟩

theorem consoleRows_row : Rows.ConsoleRowsSaid :=
  OpenClaim.holds_of_wide 4 Tryd.f4 rfl rfl rfl rfl rfl rfl rfl ⟨rfl, rfl, rfl, rfl, rfl⟩ rfl rfl rfl rfl rfl (by kernel_rfl) Tryd.func4 (by kernel_rfl)
    (of_decide_eq_true (by kernel_rfl)) (by unfold Func.isWrapper; first | (rw [if_pos (by decide +kernel)]; kernel_rfl) | (rw [if_neg (by decide +kernel)]; exact ⟨rfl, rfl⟩))
    (fun os started H enc _ => consoleRows_lifted os started H enc)

theorem consoleRows_holds : Rows.ConsoleRowsCardSaid :=
  Claim7.holds_tied_plain_at .later [] [.data, .data, .data, .data, .data, .widerDeep, .pinned] true (true, "2ceb2e07bd41b2f7074e2a3acf75b908b956a2aca0543be38252ce5aa5a9d6ba") false
    consoleRows_row (fun _ h => by cases h) (by kernel_rfl) (fun _ h => by cases h) consoleRows_row_tie rfl ⟨rfl, rfl⟩ (by kernel_rfl) rfl
    (fun f fn hf hfn => by
      obtain rfl : f = 4 := Option.some.inj ((show Tryd.prog.funcNamed "warehouse/warehouselaw42.ConsoleRows" = some 4 by kernel_rfl).symm.trans hf) |>.symm
      obtain rfl : fn = Tryd.f4 := (Option.some.inj (Tryd.func4.symm.trans hfn)).symm
      exact ⟨by kernel_rfl, fun j t ht => by
        rw [ Tryd.params4 ] at ht
        have hm : t ∈ [ 32, 3, 3 ] := by simpa using Array.mem_of_getElem? ht
        have hall : ([ 32, 3, 3 ].all fun u => !Tryd.prog.wantsStandIn u) = true := by kernel_rfl
        exact (show Tryd.prog.wantsStandIn t = false by simpa using List.all_eq_true.1 hall t hm)⟩)
    (by kernel_rfl)
#print axioms consoleRows_holds
end Go.Proofs.YtajcddaahmbllaaDoor
