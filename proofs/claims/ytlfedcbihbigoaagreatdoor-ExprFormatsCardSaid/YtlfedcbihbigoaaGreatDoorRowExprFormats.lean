/- ExprFormats: the law returns true (law8.ExprFormats); the row's step and the tied card. -/
import Derived.Test.YtlfedcbihbigoaaGreatDoorRowE
import Derived.Test.YtlfedcbihbigoaaGreatDoorKnoN
import Derived.Test.YtlfedcbihbigoaaGreatDoorRfmA
import Derived.Test.YtlfedcbihbigoaaGreatDoorTyK
import Derived.Test.YtlfedcbihbigoaaGreatDoorCards
import Derived.Test.YtlfedcbihbigoaaGreatDoorTie
import Derived.Carry
set_option linter.unusedVariables false
set_option linter.unusedSimpArgs false
namespace Go.Proofs.YtlfedcbihbigoaaGreatDoor
open Go.RowKit
set_option maxRecDepth 100000 in
set_option maxHeartbeats 4000000 in
theorem law8_ExprFormats_any (A : Option Addr) (es : List Nd) (c : Nat) (L : Option Addr) (l : List Int) (lc : Nat) (n : Int) (w : World) (hG : GlobJ w) (hE : NdsAt w A es) (hx : NamesOk es) (hI : IntsAt w L l) :
    Calls Tryz.prog 6 #[.slice A es.length c, .slice L l.length lc, .int .i64 n] w fun e w' => e = .returned (.bool true) ∧ Below w.heap.size w w' := by
  have HG := hide hG
  have HI := hide hI
  have q3 := mask_3
  by_cases h4 : es.length ≤ 400
  rotate_left
  · have hd : decide (es.length ≤ 400) = false := by simpa using h4
    clear hG hE hx hI
    go_enter Tryz.func6, Tryz.ntmps6
    go_wp2_with (go_at_call 17; refine (law8_light_any _ _ _ _).mono ?_; rintro e w' ⟨rfl, rfl⟩)
    refine (law8_known_any _ HG.out).mono ?_
    rintro e w1 ⟨rfl, hb1⟩
    go_wp2
    go_ret
    exact ⟨rfl, hb1⟩
  have hd : decide (es.length ≤ 400) = true := by simpa using h4
  obtain ⟨fs, g, HM0⟩ := law8_made_told l n
  have HM := hide (fun W (hb : Below w.heap.size w W) => HM0 L lc W (hI.below hb))
  have HFa := hide (fun W (hb : Below w.heap.size w W) => expr_Format_any A es c W (hG.below hb) (hE.below hb) (by omega) hx)
  have HFb := hide (fun W (hb : Below w.heap.size w W) => ref8_Format_any A es c W (hE.below hb) (by omega) hx)
  have hfl : fs.length ≤ 121 := g.short (Nat.le_refl 4)
  have HFc := hide (fun B k W (hb : Below w.heap.size w W) (hN : NdsAt W B fs) => expr_Format_any B fs k W (hG.below hb) hN (by omega) g.names)
  have HFd := hide (fun B k W (hN : NdsAt W B fs) => ref8_Format_any B fs k W hN (by omega) g.names)
  clear hG hE hx hI HM0 g
  obtain ⟨⟨t1, x1⟩, ht1⟩ : ∃ r, fmtR es = r := ⟨_, rfl⟩
  obtain ⟨⟨t2, x2⟩, ht2⟩ : ∃ r, fmtR fs = r := ⟨_, rfl⟩
  rw [ht1] at HFa HFb
  rw [ht2] at HFc HFd
  clear ht1 ht2
  obtain ⟨m, hm, hm2⟩ : ∃ m : Nat, 1 + n % 4 = (m : Int) ∧ m ≤ 10 := ⟨(1 + n % 4).toNat, by omega, by omega⟩
  go_enter Tryz.func6, Tryz.ntmps6
  go_wp2_with (go_at_call 17; refine (law8_light_any _ _ _ _).mono ?_; rintro e w' ⟨rfl, rfl⟩)
  refine (HFa.out _ (Below.refl _ _)).mono ?_
  rintro e w1 ⟨rfl, hb1⟩
  go_wp2_with fail
  refine (HFb.out _ hb1).mono ?_
  rintro e w2 ⟨rfl, hb2⟩
  have hc2 := bel2 hb2 hb1
  go_wp2_with fail
  refine (HM.out _ hc2).mono ?_
  rintro e w3 ⟨⟨B1, k1, rfl, o1⟩, hb3⟩
  have hc3 := bel2 hb3 hc2
  have HN1 := hide (NdsAt_of_own o1)
  clear o1
  go_wp2_with fail
  refine (HFc.out _ _ _ hc3 HN1.out).mono ?_
  rintro e w4 ⟨rfl, hb4⟩
  have hc4 := bel2 hb4 hc3
  clear HN1
  go_wp2_with fail
  refine (HM.out _ hc4).mono ?_
  rintro e w5 ⟨⟨B2, k2, rfl, o2⟩, hb5⟩
  have hc5 := bel2 hb5 hc4
  have HN2 := hide (NdsAt_of_own o2)
  clear o2
  go_wp2_with fail
  refine (HFd.out _ _ _ HN2.out).mono ?_
  rintro e w6 ⟨rfl, hb6⟩
  have hc6 := bel2 hb6 hc5
  clear HN2
  go_wp2_with fail
  refine (base_Nodes_any L l lc m _ (HI.out.below hc6) hm2).mono ?_
  rintro e w7 ⟨⟨gs, hgl, hgn, B3, k3, rfl, o3⟩, hb7⟩
  have hc7 := bel2 hb7 hc6
  have HN3 := hide (NdsAt_of_own o3)
  have HNm := hide hgn
  have hg10 : gs.length ≤ 1000000 := by omega
  clear o3 hgn hgl
  have HFe := hide (expr_Format_any B3 gs k3 w7 (HG.out.below hc7) HN3.out hg10 HNm.out)
  have HFf := hide (fun W (hb : Below w7.heap.size w7 W) => ref8_Format_any B3 gs k3 W (HN3.out.below hb) hg10 HNm.out)
  obtain ⟨⟨t3, x3⟩, ht3⟩ : ∃ r, fmtR gs = r := ⟨_, rfl⟩
  rw [ht3] at HFe HFf
  clear ht3
  go_wp2_with fail
  refine (HFe.out).mono ?_
  rintro e w8 ⟨rfl, hb8⟩
  have hc8 := bel2 hb8 hc7
  go_wp2_with fail
  refine (HFf.out _ hb8).mono ?_
  rintro e w9 ⟨rfl, hb9⟩
  have hc9 := bel2 hb9 hc8
  have e1 : (t1 == t1) = true := by simp
  have e2 : (t2 == t2) = true := by simp
  have e3 : (t3 == t3) = true := by simp
  have y1 : (x1 == x1) = true := by simp
  have y2 : (x2 == x2) = true := by simp
  have y3 : (x3 == x3) = true := by simp
  go_wp2_with fail
  refine (law8_known_any _ (HG.out.below hc9)).mono ?_
  rintro e w10 ⟨rfl, hb10⟩
  go_wp2
  go_ret
  exact ⟨ret_bool (by simp), bel2 hb10 hc9⟩
end Go.Proofs.YtlfedcbihbigoaaGreatDoor

namespace Go.Proofs.YtlfedcbihbigoaaGreatDoor
open Go.ChangeShapes Go.WideShapes Go.ChangeAt Go.RowKit
open Go.ChangeMaps (open_string shut_string)

set_option maxRecDepth 100000 in
set_option maxHeartbeats 2000000 in
theorem exprFormats_lifted (os : Os) (started : os.Started) (H : Type) (enc : TypeId × Value → H) :
    ReturnsInHanded {} Tryz.checked os 6 .any (fun w args => (Rows.exprFormatsSpec.pre enc Tryz.prog Tryz.f6 [] false w args ∧ laidMetH Tryz.prog Step.laidZ w) ∧ sizedMet enc Tryz.prog Tryz.f6 (OpenSpec.ofChange Rows.exprFormatsSpec) false w args)
      (Rows.exprFormatsSpec.post enc Tryz.prog Tryz.f6 false true false false) := by
  refine Step.handed_and_shaped (C := Tryz.checked) (X := fun w _ => laidMetH Tryz.prog Step.laidZ w) (fun _ _ _ hh h => h.of_heap hh) Step.own started (by kernel_rfl) Tryz.func6
    (ChangeSpec.witness_shaped (enc := enc) (C := Tryz.checked) (os := os) (X := fun w _ => laidMetH Tryz.prog Step.laidZ w) false (World.laidAll Tryz.prog os Step.laidZ) #[.slice none 0 0, .slice none 0 0, .int .i64 0] 8 (World.laidAll_os _ _ _) (Step.door_shapedZ os _) (by kernel_rfl) (by kernel_rfl) (by kernel_rfl) (Step.door_metZ os _)) ?_
  intro W base args ds gs before hval0 hW hSh hL
  have hval : ∀ (j : Nat) t v, Tryz.f6.params[j]? = some t → args[j]? = some v → Value.okWide Tryz.prog W .any base t v := hval0
  have hW' := hW
  obtain ⟨p, q, hA0, hV, rfl, hfz, hnd⟩ := hW
  have hA : DataW.TrodAll enc Tryz.prog W 0 (fun _ => true) true Tryz.f6.params.toList args.toList ds p := hA0
  rw [ Tryz.params6 ] at hA hval
  obtain ⟨v0, v1, v2, d0, d1, d2, p0, p1, p2, rfl, rfl, rfl, h0, h1, h2⟩ := trodAll_three hA
  obtain ⟨rfl, rfl⟩ := trodVars_none hV
  have k0 := h0
  have lt0 : ∀ x ∈ p0, x.block < W.heap.size := by obtain ⟨m, hm⟩ := k0; exact DataW.trod_lt m _ _ _ hm
  obtain ⟨A0, len0, cap0, rfl⟩ := okWide_slice Tryz.underlying30 (hval 0 30 v0 rfl rfl)
  obtain ⟨es0, rfl, hR0, hX0, hC0⟩ := Step.nds_of h0
  have k1 := h1
  have lt1 : ∀ x ∈ p1, x.block < W.heap.size := by obtain ⟨m, hm⟩ := k1; exact DataW.trod_lt m _ _ _ hm
  obtain ⟨A1, len1, cap1, rfl⟩ := okWide_slice Tryz.underlying22 (hval 1 22 v1 rfl rfl)
  obtain ⟨l1, rfl, hI1⟩ := Step.ints_of h1
  obtain ⟨n2, rfl, rfl, rfl, wn2⟩ := open_int Tryz.underlying3 (hval 2 3 v2 rfl rfl) h2
  have hG := Step.globZ_of hL hSh
  clear hA0 hval0
  simp only [List.append_nil] at hW'
  refine (law8_ExprFormats_any A0 es0 cap0 A1 l1 cap1 n2 W hG hR0 hX0 hI1).mono fun e W' ⟨he, bel⟩ => ?_
  subst he
  exact ⟨_, rfl, _, _, _, [], _, [], hW', trodAll_mk1 (shut_bool Tryz.underlying4 _), trodAll_mk3 (Below.trod Step.laidOut (by kernel_rfl) (of_decide_eq_true (by kernel_rfl)) k0 bel lt0) (Below.trod Step.laidOut (by kernel_rfl) (of_decide_eq_true (by kernel_rfl)) k1 bel lt1) (shut_int Tryz.underlying3 wn2), rfl, bel.frame _, fun h => by cases h⟩

theorem exprFormats_row : Rows.ExprFormatsSaid :=
  OpenClaim.holds_of_wide 6 Tryz.f6 rfl rfl rfl rfl rfl rfl rfl ⟨rfl, rfl, rfl, rfl, rfl⟩ rfl rfl rfl rfl rfl (by kernel_rfl) Tryz.func6 (by kernel_rfl)
    (of_decide_eq_true (by kernel_rfl)) (by unfold Func.isWrapper; first | (rw [if_pos (by decide +kernel)]; kernel_rfl) | (rw [if_neg (by decide +kernel)]; exact ⟨rfl, rfl⟩))
    (fun os started H enc _ => exprFormats_lifted os started H enc)

theorem exprFormats_holds : Rows.ExprFormatsCardSaid :=
  Claim7.holds_tied_plain_at .later [] [.data, .data, .data, .data, .data, .widerDeep, .widerDeep, .pinned] true (true, "aee2afa879f94208902783779fa18fdc04c4eedae20963e7b4a2970aafd267e0") false
    exprFormats_row (fun _ h => by cases h) (by kernel_rfl) (fun _ h => by cases h) exprFormats_row_tie rfl ⟨rfl, rfl⟩ (by kernel_rfl) rfl
    (fun f fn hf hfn => by
      obtain rfl : f = 6 := Option.some.inj ((show Tryz.prog.funcNamed "warehouse/warehouselaw8.ExprFormats" = some 6 by kernel_rfl).symm.trans hf) |>.symm
      obtain rfl : fn = Tryz.f6 := (Option.some.inj (Tryz.func6.symm.trans hfn)).symm
      exact ⟨by kernel_rfl, fun j t ht => by
        rw [ Tryz.params6 ] at ht
        have hm : t ∈ [ 30, 22, 3 ] := by simpa using Array.mem_of_getElem? ht
        have hall : ([ 30, 22, 3 ].all fun u => !Tryz.prog.wantsStandIn u) = true := by kernel_rfl
        exact (show Tryz.prog.wantsStandIn t = false by simpa using List.all_eq_true.1 hall t hm)⟩)
    (by kernel_rfl)
#print axioms exprFormats_holds
end Go.Proofs.YtlfedcbihbigoaaGreatDoor
