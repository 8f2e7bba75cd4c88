/- TokenSplits: the row's step and the tied card. -/
import Derived.Test.YtedjahbieheeoaaDoorRowA
import Derived.Test.YtedjahbieheeoaaDoorLawE
import Derived.Test.YtedjahbieheeoaaDoorCards
import Derived.Test.YtedjahbieheeoaaDoorTie
set_option linter.unusedVariables false
set_option linter.unusedSimpArgs false
namespace Go.Proofs.YtedjahbieheeoaaDoor
open Go.ChangeShapes Go.WideShapes Go.ChangeAt Go.RowKit
open Go.ChangeMaps (open_string shut_string)

theorem Step.ints_of {H : Type} {enc : TypeId × Value → H} {W : World} {A : Option Addr} {len cap : Nat} {d : DataW H} {p : List MemPlace} {held : Bool}
    (h : DataW.Trod enc Tryd.prog W 0 (fun _ => true) held 22 (.slice A len cap) d p) : ∃ l : List Int, len = l.length ∧ IntsAt W A l := by
  obtain ⟨fuel, hf⟩ := h
  rcases open_ints Tryd.underlying22 Tryd.underlying3 (by kernel_rfl) hf with ⟨hcs, _⟩ | ⟨x, len', cap', zs, hcs, _, hl, hm, hz, _, hcell, hwz⟩
  · simp [Value.cells] at hcs
    obtain ⟨rfl, rfl, rfl⟩ := hcs
    exact ⟨[], rfl, .inl rfl⟩
  · simp [Value.cells] at hcs
    obtain ⟨rfl, rfl, rfl⟩ := hcs
    have hz' : zs.length = cap := by simpa using hz
    refine ⟨zs.take len, by simp; omega, ?_⟩
    by_cases h0 : cap = 0
    · exact .inl (List.eq_nil_of_length_eq_zero (by simp; omega))
    · refine .inr ⟨x, rfl, ?_, by simp; omega, fun k hk => ?_⟩
      · have := World.block_lt_of_cell? W _ (hcell 0 (by omega))
        simpa [Addr.add] using this
      · have hk' : k < len ∧ k < zs.length := by
          rw [List.length_take] at hk
          omega
        rw [hcell k hk'.2]
        simp [List.getD_eq_getElem?_getD, List.getElem?_take, hk'.1]

set_option maxRecDepth 100000 in
theorem tokenSplits_lifted (os : Os) (started : os.Started) (H : Type) (enc : TypeId × Value → H) :
    ReturnsInHanded {} Tryd.checked os 3 .any (fun w args => (Rows.tokenSplitsSpec.pre enc Tryd.prog Tryd.f3 [] false w args ∧ laidMetH Tryd.prog Step.laidL w) ∧ sizedMet enc Tryd.prog Tryd.f3 (OpenSpec.ofChange Rows.tokenSplitsSpec) false w args)
      (Rows.tokenSplitsSpec.post enc Tryd.prog Tryd.f3 false true false false) := by
  refine returnsInHanded_of_change_and (C := Tryd.checked) (X := fun w _ => laidMetH Tryd.prog Step.laidL w) (fun _ _ _ hh h => h.of_heap hh) Step.own started (by kernel_rfl) Tryd.func3
    (ChangeSpec.witness_shaped (enc := enc) (C := Tryd.checked) (os := os) (X := fun w _ => laidMetH Tryd.prog Step.laidL w) false (World.doorLaid Tryd.prog 49 os) #[.string ⟨#[]⟩, .slice none 0 0, .int .i64 0] 8 rfl (Step.door_shaped os _) (by kernel_rfl) (by kernel_rfl) (by kernel_rfl) (Step.door_met os _)) ?_
  intro W base args ds gs before hval0 hW _ _ hL _
  have hval : ∀ (j : Nat) t v, Tryd.f3.params[j]? = some t → args[j]? = some v → Value.okWide Tryd.prog W .any base t v := hval0
  have hW' := hW
  obtain ⟨p, q, hA0, hV, rfl, hfz, hnd⟩ := hW
  have hA : DataW.TrodAll enc Tryd.prog W 0 (fun _ => true) true Tryd.f3.params.toList args.toList ds p := hA0
  rw [ Tryd.params3 ] at hA hval
  obtain ⟨v0, v1, v2, d0, d1, d2, p0, p1, p2, rfl, rfl, rfl, h0, h1, h2⟩ := trodAll_three hA
  obtain ⟨rfl, rfl⟩ := trodVars_none hV
  obtain ⟨s, rfl, rfl, rfl, ws⟩ := open_string Tryd.underlying9 (hval 0 9 v0 rfl rfl) h0
  obtain ⟨A, len1, cap1, rfl⟩ := okWide_slice Tryd.underlying22 (hval 1 22 v1 rfl rfl)
  have k1 := h1
  have lt1 : ∀ x ∈ p1, x.block < W.heap.size := by obtain ⟨m, hm⟩ := k1; exact DataW.trod_lt m _ _ _ hm
  obtain ⟨l, rfl, hI⟩ := Step.ints_of h1
  obtain ⟨n, rfl, rfl, rfl, wn⟩ := open_int Tryd.underlying3 (hval 2 3 v2 rfl rfl) h2
  have hG := Step.glob_of_laid hL
  clear hA0 hval0
  simp only [List.append_nil] at hW'
  refine (law7_TokenSplits_any s A l cap1 n W hG hI).mono fun e W' ⟨he, bel⟩ => ?_
  subst he
  exact ⟨_, rfl, _, _, _, [], _, [], hW', trodAll_mk1 (shut_bool Tryd.underlying4 _), trodAll_mk3 (shut_string Tryd.underlying9 ws) (Below.trod Step.laidOut (by kernel_rfl) (of_decide_eq_true (by kernel_rfl)) k1 bel lt1) (shut_int Tryd.underlying3 wn), rfl, bel.frame _, fun h => by cases h⟩

theorem tokenSplits_row : Rows.TokenSplitsSaid :=
  OpenClaim.holds_of_wide 3 Tryd.f3 rfl rfl rfl rfl rfl rfl rfl ⟨rfl, rfl, rfl, rfl, rfl⟩ rfl rfl rfl rfl rfl (by kernel_rfl) Tryd.func3 (by kernel_rfl)
    (of_decide_eq_true (by kernel_rfl)) (by unfold Func.isWrapper; first | (rw [if_pos (by decide +kernel)]; kernel_rfl) | (rw [if_neg (by decide +kernel)]; exact ⟨rfl, rfl⟩))
    (fun os started H enc _ => tokenSplits_lifted os started H enc)

theorem tokenSplits_holds : Rows.TokenSplitsCardSaid :=
  Claim7.holds_tied_plain_at .later [] [.data, .widerDeep, .widerDeep] true (true, "01cf227b1885d0834f08ccf5b8b8443e2310a06e932af80de5b1c60eab73ac53") false
    tokenSplits_row (fun _ h => by cases h) (by kernel_rfl) (fun _ h => by cases h) tokenSplits_row_tie rfl ⟨rfl, rfl⟩ (by kernel_rfl) rfl
    (fun f fn hf hfn => by
      obtain rfl : f = 3 := Option.some.inj ((show Tryd.prog.funcNamed "warehouse/warehouselaw7.TokenSplits" = some 3 by kernel_rfl).symm.trans hf) |>.symm
      obtain rfl : fn = Tryd.f3 := (Option.some.inj (Tryd.func3.symm.trans hfn)).symm
      exact ⟨by kernel_rfl, fun j t ht => by
        rw [ Tryd.params3 ] at ht
        have hm : t ∈ [ 9, 22, 3 ] := by simpa using Array.mem_of_getElem? ht
        have hall : ([ 9, 22, 3 ].all fun u => !Tryd.prog.wantsStandIn u) = true := by kernel_rfl
        exact (show Tryd.prog.wantsStandIn t = false by simpa using List.all_eq_true.1 hall t hm)⟩)
    (by kernel_rfl)
#print axioms tokenSplits_holds
end Go.Proofs.YtedjahbieheeoaaDoor
