/- ProjectValidates: the row's step. -/
import Derived.Test.YtnpjibaolicbmaaGreatDoorPp49
import Derived.Test.YtnpjibaolicbmaaGreatDoorPp47
import Derived.Test.YtnpjibaolicbmaaGreatDoorCards
import Derived.Test.YtnpjibaolicbmaaGreatDoorTie
set_option linter.unusedVariables false
set_option linter.unusedSimpArgs false
set_option maxHeartbeats 2000000
namespace Go.Proofs.YtnpjibaolicbmaaGreatDoor
open Go.Proofs.Tryz
open Go.ChangeShapes Go.WideShapes Go.ChangeAt Go.RowKit
open Go.ChangeMaps (open_string shut_string)
namespace Step
def laidV : List (String × DataW Unit) := Rows.projectValidatesRow.laid
theorem door_metV (os : Os) (args : Array Value) : laidMetH prog laidV ((World.laidAll prog os laidV).forCall (fun _ _ => 0) ⟨#[], args, []⟩).memory := by
 rw [MakeChecks.laidMetH_plain _ _ _ k_]
 exact laidMet_laidAll args k_ k_
theorem door_shapedV (os : Os) (args : Array Value) : ((World.laidAll prog os laidV).forCall (fun _ _ => 0) ⟨#[], args, []⟩).Shaped prog :=
 World.shaped_of_ZipB k_ k_
theorem gBi : prog.globalNamed "warehouse/macro.builtin" = some 0 := by kernel_rfl
theorem tBi : (prog.globals[ 0 ]?).map (·.type) = some 26 := by kernel_rfl
theorem vars_of_V {W : World} (h : laidMetH prog laidV W) : PjV W := by
 have e : laidV = [("warehouse/token.words", Rows.laid_warehouse_token_words), ("warehouse/macro.builtin", Rows.laid_warehouse_macro_builtin), ("warehouse/query.used", Rows.laid_warehouse_query_used)] := rfl
 rw [e, MakeChecks.laidMetH_plain _ _ _ k_] at h
 obtain ⟨ps, ⟨g0, t0, cs0, f0, p0, q0, hg0, ht0, hv0, hd0, ⟨g1, t1, cs1, f1, p1, q1, hg1, ht1, hv1, hd1, ⟨g2, t2, cs2, f2, p2, q2, hg2, ht2, hv2, hd2, _, _⟩, _⟩, _⟩, _, _⟩ := h
 obtain rfl := Option.some.inj (gW.symm.trans hg0)
 obtain rfl := Option.some.inj (tW.symm.trans ht0)
 obtain rfl := Option.some.inj (gBi.symm.trans hg1)
 obtain rfl := Option.some.inj (tBi.symm.trans ht1)
 obtain rfl := Option.some.inj (gU.symm.trans hg2)
 obtain rfl := Option.some.inj (tU.symm.trans ht2)
 exact ⟨i_o a_w hg0 hv0 hd0 d_, k_k hv2 hd2, i_o b_I hg1 hv1 hd1 d_⟩
theorem ints_cap {H : Type} {enc : TypeId × Value → H} {W : World} {A : Option Addr} {len cap : Nat} {d : DataW H} {p : List MemPlace} {held : Bool}
  (h : DataW.Trod enc prog W 0 (fun _ => true) held 23 (.slice A len cap) d p) : len ≤ cap ∧ (A = none → cap = 0) := by
 obtain ⟨fuel, hf⟩ := h
 rcases Go.Deep.open_slice underlying23 hf with ⟨hcs, hx⟩ | ⟨a, len', cap', m, n, D, Pl, hcs, _, hl, _, hm, hx, _⟩
 ·simp [Value.cells] at hcs
  obtain ⟨rfl, rfl, rfl⟩ := hcs
  exact ⟨l_ _, fun _ => rfl⟩
 ·simp [Value.cells] at hcs
  obtain ⟨rfl, rfl, rfl⟩ := hcs
  exact ⟨hl, fun e => by cases e⟩
end Step
set_option maxRecDepth 100000
theorem d_u (os : Os) (started : os.Started) (H : Type) (enc : TypeId × Value → H) :
  ReturnsInHanded {} Tryz.checked os 3 .any (fun w args => (Rows.projectValidatesSpec.pre enc prog Tryz.f3 [] false w args ∧ laidMetH prog Step.laidV w) ∧ sizedMet enc prog Tryz.f3 (OpenSpec.ofChange Rows.projectValidatesSpec) false w args)
   (Rows.projectValidatesSpec.post enc prog Tryz.f3 false true false false) := by
 refine Step.handed_sized (C := Tryz.checked) (X := fun w _ => laidMetH prog Step.laidV w) (fun _ _ _ hh h => h.of_heap hh) Step.own started k_ func3
  (ChangeSpec.witness_shaped (enc := enc) (C := Tryz.checked) (os := os) (X := fun w _ => laidMetH prog Step.laidV w) false (World.laidAll prog os Step.laidV) #[.slice none 0 0, .slice none 0 0, .int .i64 0, .int .i64 0] 8 (World.laidAll_os _ _ _) (Step.door_shapedV os _) k_ k_ k_ (Step.door_metV os _)) rfl ?_
 intro W base args ds gs before hval0 hW hwt0 hSh hL
 have hwt := hwt0
 have hval : ∀ (j : Nat) t v, Tryz.f3.params[j]? = some t → args[j]? = some v → Value.okWide prog W .any base t v := hval0
 have hW' := hW
 obtain ⟨p, q, hA0, hV, rfl, hfz, hnd⟩ := hW
 have hA : DataW.TrodAll enc prog W 0 (fun _ => true) true Tryz.f3.params.toList args.toList ds p := hA0
 rw [ params3 ] at hA hval hwt
 obtain ⟨v0, v1, v2, v3, d0, d1, d2, d3, p0, p1, p2, p3, rfl, rfl, rfl, h0, h1, h2, h3⟩ := trodAll_four hA
 obtain ⟨rfl, rfl⟩ := trodVars_none hV
 have k0 := h0
 have lt0 : ∀ x ∈ p0, x.block < W.heap.size := by obtain ⟨m, hm⟩ := k0; exact DataW.trod_lt m _ _ _ hm
 obtain ⟨A0, len0, cap0, rfl⟩ := okWide_slice underlying22 (hval 0 22 v0 rfl rfl)
 have hw0 : b_2 22 d0 := by
  have h9 := hwt
  simp only [List.cons_append, List.nil_append, DataW.weightsEach, List.all_append, Bool.and_eq_true] at h9
  exact h9.1
 obtain ⟨ms0, rfl, hM0, hC0, hK0⟩ : ∃ ms : List Mdu, len0 = ms.length ∧ c_b W A0 ms ∧ ms.length ≤ cap0 ∧ g_O ms := by
  obtain ⟨m, hm⟩ := h0
  obtain ⟨A, c, l, e, g1, g2, g3, _⟩ := Step.mdus_sl hm hw0
  injection e with e1 e2 e3
  subst e1 e2 e3
  exact ⟨l, rfl, g1, g2, g3⟩
 have k1 := h1
 have lt1 : ∀ x ∈ p1, x.block < W.heap.size := by obtain ⟨m, hm⟩ := k1; exact DataW.trod_lt m _ _ _ hm
 obtain ⟨A1, len1, cap1, rfl⟩ := okWide_slice underlying23 (hval 1 23 v1 rfl rfl)
 have hcap1 := Step.ints_cap h1
 obtain ⟨l1, rfl, hI1⟩ := Step.ints_of h1
 obtain ⟨n2, rfl, rfl, rfl, wn2⟩ := open_int underlying3 (hval 2 3 v2 rfl rfl) h2
 obtain ⟨n3, rfl, rfl, rfl, wn3⟩ := open_int underlying3 (hval 3 3 v3 rfl rfl) h3
 have hG := Step.vars_of_V hL
 clear hA0 hval0 hwt hwt0
 simp only [List.append_nil] at hW'
 refine (e_C m_5 PjV (fun _ _ h hb => h.below hb) (fun A ms c w h1 h2 h3 h4 h5 => e_8 A ms c w h1 h2 h3 o_ h5) (fun d a w h1 h2 h3 => b_p d a w h1 h2 h3) (fun A ms c w h1 h2 h3 => e_I A ms c w h1 h2 h3) A0 cap0 ms0 A1 cap1 l1 n2 n3 W hG hM0 hC0 hK0 ⟨hI1, hcap1.1, hcap1.2⟩).mono fun e W' ⟨he, bel⟩ => ?_
 subst he
 exact ⟨_, rfl, _, _, _, [], _, [], hW', trodAll_mk1 (shut_bool underlying4 _), trodAll_mk4 (Below.trod Step.laidOut k_ (of_decide_eq_true k_) k0 bel lt0) (Below.trod Step.laidOut k_ (of_decide_eq_true k_) k1 bel lt1) (shut_int underlying3 wn2) (shut_int underlying3 wn3), rfl, bel.frame _, fun h => by cases h⟩
end Go.Proofs.YtnpjibaolicbmaaGreatDoor
