/- TokenBytes: the row's step and the tied card. -/
import Derived.Test.YtedjahbieheeoaaDoorRowSplits
import Derived.Test.YtedjahbieheeoaaDoorLawF
import Derived.Test.YtedjahbieheeoaaDoorCards
import Derived.Test.YtedjahbieheeoaaDoorTie
set_option linter.unusedVariables false
set_option linter.unusedSimpArgs false
namespace Go.Proofs.YtedjahbieheeoaaDoor
open Go.ChangeShapes Go.WideShapes Go.ChangeAt Go.RowKit
open Go.ChangeMaps (open_string shut_string)

theorem Step.load_none {w : World} (x : Addr) : (loadCells x 0).run Tryd.prog w = .ok #[] w := run_loadCells_list (P := Tryd.prog) w x [] (fun j v hj => by simp at hj)
theorem Step.bytes_of {H : Type} {enc : TypeId × Value → H} {W : World} {B : Option Addr} {m d : Nat} {r : DataW H} {p : List MemPlace} {held : Bool}
    (h : DataW.Trod enc Tryd.prog W 0 (fun _ => true) held 27 (.slice B m d) r p) : ∃ y : ByteArray, (m ≤ 200 → y.size ≤ 200) ∧
      ∀ w', Below W.heap.size W w' → (convert 27 9 (.slice B m d)).run Tryd.prog w' = .ok (.string y) w' := by
  obtain ⟨fuel, hf⟩ := h
  rcases open_ints Tryd.underlying27 Tryd.underlying5 (by kernel_rfl) hf with ⟨hcs, _⟩ | ⟨x, len', cap', zs, hcs, _, hl, hm, hz, _, hcell, hwz⟩
  · simp [Value.cells] at hcs
    obtain ⟨rfl, rfl, rfl⟩ := hcs
    exact ⟨ByteArray.empty, fun _ => by decide, fun w' _ => run_convert_bytes_nil w' _ _ Tryd.underlying27 Tryd.underlying5 _ _ _ Tryd.underlying9⟩
  · simp [Value.cells] at hcs
    obtain ⟨rfl, rfl, rfl⟩ := hcs
    have hz' : zs.length = d := by simpa using hz
    by_cases h0 : m = 0
    · subst h0
      refine ⟨strOfNums [], fun _ => by decide, fun w' _ => ?_⟩
      rw [run_convert_bytes_string w' _ _ _ _ _ _ Tryd.underlying27 Tryd.underlying5 Tryd.underlying9, run_bytesToString w' _ 0 d [] (Step.load_none x)]
      rfl
    · have hc0 := hcell 0 (by omega)
      obtain ⟨g, off, spot⟩ := x
      have hspot : spot = none := by simpa [Addr.add] using World.cell?_spot hc0
      subst hspot
      have hg := World.block_lt_of_cell? W _ hc0
      have hg' : g < W.heap.size := by simpa [Addr.add] using hg
      refine ⟨strOfNums (zs.take m), fun h => by simp [strOfNums, ByteArray.size]; omega, fun w' hb => ?_⟩
      refine run_convert_bytes_arg w' _ _ Tryd.underlying27 Tryd.underlying5 g off m d (zs.take m) (by simp; omega) (fun i hi => ?_) _ Tryd.underlying9
      rw [hb.cell (p := ⟨g, off + i, none⟩) hg']
      have hplain : (⟨g, off, none⟩ : Addr).add i = ⟨g, off + i, none⟩ := by unfold Addr.add; split <;> simp_all
      rw [← hplain, hcell i (by omega)]
      simp [List.getD_eq_getElem?_getD, List.getElem?_take, hi]

set_option maxRecDepth 100000 in
theorem tokenBytes_lifted (os : Os) (started : os.Started) (H : Type) (enc : TypeId × Value → H) :
    ReturnsInHanded {} Tryd.checked os 4 .any (fun w args => (Rows.tokenBytesSpec.pre enc Tryd.prog Tryd.f4 [] false w args ∧ laidMetH Tryd.prog Step.laidL w) ∧ sizedMet enc Tryd.prog Tryd.f4 (OpenSpec.ofChange Rows.tokenBytesSpec) false w args)
      (Rows.tokenBytesSpec.post enc Tryd.prog Tryd.f4 false true false false) := by
  refine returnsInHanded_of_change_and (C := Tryd.checked) (X := fun w _ => laidMetH Tryd.prog Step.laidL w) (fun _ _ _ hh h => h.of_heap hh) Step.own started (by kernel_rfl) Tryd.func4
    (ChangeSpec.witness_shaped (enc := enc) (C := Tryd.checked) (os := os) (X := fun w _ => laidMetH Tryd.prog Step.laidL w) false (World.doorLaid Tryd.prog 49 os) #[.slice none 0 0, .slice none 0 0, .int .i64 0] 8 rfl (Step.door_shaped os _) (by kernel_rfl) (by kernel_rfl) (by kernel_rfl) (Step.door_met os _)) ?_
  intro W base args ds gs before hval0 hW _ _ hL _
  have hval : ∀ (j : Nat) t v, Tryd.f4.params[j]? = some t → args[j]? = some v → Value.okWide Tryd.prog W .any base t v := hval0
  have hW' := hW
  obtain ⟨p, q, hA0, hV, rfl, hfz, hnd⟩ := hW
  have hA : DataW.TrodAll enc Tryd.prog W 0 (fun _ => true) true Tryd.f4.params.toList args.toList ds p := hA0
  rw [ Tryd.params4 ] at hA hval
  obtain ⟨v0, v1, v2, d0, d1, d2, p0, p1, p2, rfl, rfl, rfl, h0, h1, h2⟩ := trodAll_three hA
  obtain ⟨rfl, rfl⟩ := trodVars_none hV
  obtain ⟨A, len0, cap0, rfl⟩ := okWide_slice Tryd.underlying22 (hval 0 22 v0 rfl rfl)
  obtain ⟨B, m, d, rfl⟩ := okWide_slice Tryd.underlying27 (hval 1 27 v1 rfl rfl)
  have k0 := h0
  have k1 := h1
  have lt0 : ∀ x ∈ p0, x.block < W.heap.size := by obtain ⟨m, hm⟩ := k0; exact DataW.trod_lt m _ _ _ hm
  have lt1 : ∀ x ∈ p1, x.block < W.heap.size := by obtain ⟨m, hm⟩ := k1; exact DataW.trod_lt m _ _ _ hm
  obtain ⟨l, rfl, hI⟩ := Step.ints_of h0
  obtain ⟨y, hy, hB⟩ := Step.bytes_of h1
  obtain ⟨n, rfl, rfl, rfl, wn⟩ := open_int Tryd.underlying3 (hval 2 3 v2 rfl rfl) h2
  have hG := Step.glob_of_laid hL
  clear hA0 hval0
  simp only [List.append_nil] at hW'
  refine (law7_TokenBytes_any A l cap0 B m d y n W hG hI hB hy).mono fun e W' ⟨he, bel⟩ => ?_
  subst he
  exact ⟨_, rfl, _, _, _, [], _, [], hW', trodAll_mk1 (shut_bool Tryd.underlying4 _), trodAll_mk3 (Below.trod Step.laidOut (by kernel_rfl) (of_decide_eq_true (by kernel_rfl)) k0 bel lt0) (Below.trod Step.laidOut (by kernel_rfl) (of_decide_eq_true (by kernel_rfl)) k1 bel lt1) (shut_int Tryd.underlying3 wn), rfl, bel.frame _, fun h => by cases h⟩

theorem tokenBytes_row : Rows.TokenBytesSaid :=
  OpenClaim.holds_of_wide 4 Tryd.f4 rfl rfl rfl rfl rfl rfl rfl ⟨rfl, rfl, rfl, rfl, rfl⟩ rfl rfl rfl rfl rfl (by kernel_rfl) Tryd.func4 (by kernel_rfl)
    (of_decide_eq_true (by kernel_rfl)) (by unfold Func.isWrapper; first | (rw [if_pos (by decide +kernel)]; kernel_rfl) | (rw [if_neg (by decide +kernel)]; exact ⟨rfl, rfl⟩))
    (fun os started H enc _ => tokenBytes_lifted os started H enc)

theorem tokenBytes_holds : Rows.TokenBytesCardSaid :=
  Claim7.holds_tied_plain_at .later [] [.data, .widerDeep, .widerDeep] true (true, "01cf227b1885d0834f08ccf5b8b8443e2310a06e932af80de5b1c60eab73ac53") false
    tokenBytes_row (fun _ h => by cases h) (by kernel_rfl) (fun _ h => by cases h) tokenBytes_row_tie rfl ⟨rfl, rfl⟩ (by kernel_rfl) rfl
    (fun f fn hf hfn => by
      obtain rfl : f = 4 := Option.some.inj ((show Tryd.prog.funcNamed "warehouse/warehouselaw7.TokenBytes" = some 4 by kernel_rfl).symm.trans hf) |>.symm
      obtain rfl : fn = Tryd.f4 := (Option.some.inj (Tryd.func4.symm.trans hfn)).symm
      exact ⟨by kernel_rfl, fun j t ht => by
        rw [ Tryd.params4 ] at ht
        have hm : t ∈ [ 22, 27, 3 ] := by simpa using Array.mem_of_getElem? ht
        have hall : ([ 22, 27, 3 ].all fun u => !Tryd.prog.wantsStandIn u) = true := by kernel_rfl
        exact (show Tryd.prog.wantsStandIn t = false by simpa using List.all_eq_true.1 hall t hm)⟩)
    (by kernel_rfl)
#print axioms tokenBytes_holds
end Go.Proofs.YtedjahbieheeoaaDoor
