/- QueryValidates: the row's step. -/
import Derived.Test.YtmbeeefkpgfgmaaGreatDoorLwV
import Derived.Test.YtmbeeefkpgfgmaaGreatDoorPq48
import Derived.Carry
import Derived.Test.YtmbeeefkpgfgmaaGreatDoorPv01
import Derived.Test.YtmbeeefkpgfgmaaGreatDoorCards
import Derived.Test.YtmbeeefkpgfgmaaGreatDoorTie
set_option linter.unusedVariables false
set_option linter.unusedSimpArgs false
namespace Go.Proofs.YtmbeeefkpgfgmaaGreatDoor
open Go.ChangeShapes Go.WideShapes Go.ChangeAt Go.RowKit
open Go.ChangeMaps (open_string shut_string)

theorem Stp.ok_of {s : Stp} (h : s.raw) (hl : lightB s = true) : s.ok := by
  unfold lightB at hl
  simp only [Bool.and_eq_true, decide_eq_true_eq, List.all_eq_true] at hl
  obtain ⟨⟨⟨⟨h1, h2⟩, h3⟩, h4⟩, h5⟩ := hl
  exact ⟨h.src, by omega, by omega, by omega, fun x hx => ⟨h.item x hx, by have := h5 x hx; omega⟩, by omega, h.cond⟩
theorem oks_of {ss : List Stp} (h : ∀ s ∈ ss, s.raw) (hl : lightsB ss = true) : StsOk ss := by
  unfold lightsB at hl
  simp only [Bool.and_eq_true, List.all_eq_true] at hl
  exact fun s hs => Stp.ok_of (h s hs) (hl.2 s hs)
set_option maxRecDepth 100000 in
set_option maxHeartbeats 2000000 in
theorem queryValidates_lifted (os : Os) (started : os.Started) (H : Type) (enc : TypeId × Value → H) :
    ReturnsInHanded {} Tryz.checked os 3 .any (fun w args => (Rows.queryValidatesSpec.pre enc Tryz.prog Tryz.f3 [] false w args ∧ laidMetH Tryz.prog Step.laidQ w) ∧ sizedMet enc Tryz.prog Tryz.f3 (OpenSpec.ofChange Rows.queryValidatesSpec) false w args)
      (Rows.queryValidatesSpec.post enc Tryz.prog Tryz.f3 false true false false) := by
  refine Step.handed_sized (C := Tryz.checked) (X := fun w _ => laidMetH Tryz.prog Step.laidQ w) (fun _ _ _ hh h => h.of_heap hh) Step.own started (by kernel_rfl) Tryz.func3
    (ChangeSpec.witness_shaped (enc := enc) (C := Tryz.checked) (os := os) (X := fun w _ => laidMetH Tryz.prog Step.laidQ w) false (World.laidAll Tryz.prog os Step.laidQ) #[.slice none 0 0, .agg #[.int .i64 0, .string ⟨#[]⟩, .slice none 0 0, .slice none 0 0, .slice none 0 0, .slice none 0 0], .slice none 0 0, .int .i64 0, .int .i64 0] 8 (World.laidAll_os _ _ _) (Step.door_shapedQ os _) (by kernel_rfl) (by kernel_rfl) (by kernel_rfl) (Step.door_metQ os _)) rfl ?_
  intro W base args ds gs before hval0 hW hwt0 hSh hL
  have hwt := hwt0
  have hval : ∀ (j : Nat) t v, Tryz.f3.params[j]? = some t → args[j]? = some v → Value.okWide Tryz.prog W .any base t v := hval0
  have hW' := hW
  obtain ⟨p, q, hA0, hV, rfl, hfz, hnd⟩ := hW
  have hA : DataW.TrodAll enc Tryz.prog W 0 (fun _ => true) true Tryz.f3.params.toList args.toList ds p := hA0
  rw [ Tryz.params3 ] at hA hval hwt
  obtain ⟨v0, v1, v2, v3, v4, d0, d1, d2, d3, d4, p0, p1, p2, p3, p4, rfl, rfl, rfl, h0, h1, h2, h3, h4⟩ := trodAll_five5 hA
  obtain ⟨rfl, rfl⟩ := trodVars_none hV
  have k0 := h0
  have lt0 : ∀ x ∈ p0, x.block < W.heap.size := by obtain ⟨m, hm⟩ := k0; exact DataW.trod_lt m _ _ _ hm
  obtain ⟨A0, len0, cap0, rfl⟩ := okWide_slice Tryz.underlying22 (hval 0 22 v0 rfl rfl)
  obtain ⟨ss0, rfl, hR0, hX0, hC0⟩ := Step.sts_of h0
  have k1 := h1
  have lt1 : ∀ x ∈ p1, x.block < W.heap.size := by obtain ⟨m, hm⟩ := k1; exact DataW.trod_lt m _ _ _ hm
  obtain ⟨s1, a1, rfl, hR1, hX1⟩ := Step.st_of (hval 1 27 v1 rfl rfl) h1
  have k2 := h2
  have lt2 : ∀ x ∈ p2, x.block < W.heap.size := by obtain ⟨m, hm⟩ := k2; exact DataW.trod_lt m _ _ _ hm
  obtain ⟨A2, len2, cap2, rfl⟩ := okWide_slice Tryz.underlying28 (hval 2 28 v2 rfl rfl)
  have hw2 : (d2.weights Tryz.prog 28).all (· ≤ reachBytes) = true := by
    have h9 := hwt
    simp only [List.cons_append, List.nil_append, DataW.weightsEach, List.all_append, Bool.and_eq_true] at h9
    exact h9.2.2.1
  have hz2 := Step.ints_sized h2 hw2
  obtain ⟨l2, rfl, hI2⟩ := Step.ints_of h2
  obtain ⟨n3, rfl, rfl, rfl, wn3⟩ := open_int Tryz.underlying3 (hval 3 3 v3 rfl rfl) h3
  obtain ⟨n4, rfl, rfl, rfl, wn4⟩ := open_int Tryz.underlying3 (hval 4 3 v4 rfl rfl) h4
  have hG := Step.vars_of_Q hL
  clear hA0 hval0 hwt hwt0
  simp only [List.append_nil] at hW'
  refine (law11_QueryValidates_any A0 ss0 cap0 s1 a1 A2 l2 cap2 n3 n4 W hG.1 hG.2 hR0 (fun h => oks_of hX0 h) hR1 (fun h => Stp.ok_of hX1 h) hI2 hz2.1 hz2.2).mono fun e W' ⟨he, bel⟩ => ?_
  subst he
  exact ⟨_, rfl, _, _, _, [], _, [], hW', trodAll_mk1 (shut_bool Tryz.underlying4 _), trodAll_mk55 (Below.trod Step.laidOut (by kernel_rfl) (of_decide_eq_true (by kernel_rfl)) k0 bel lt0) (Below.trod Step.laidOut (by kernel_rfl) (of_decide_eq_true (by kernel_rfl)) k1 bel lt1) (Below.trod Step.laidOut (by kernel_rfl) (of_decide_eq_true (by kernel_rfl)) k2 bel lt2) (shut_int Tryz.underlying3 wn3) (shut_int Tryz.underlying3 wn4), rfl, bel.frame _, fun h => by cases h⟩

end Go.Proofs.YtmbeeefkpgfgmaaGreatDoor

