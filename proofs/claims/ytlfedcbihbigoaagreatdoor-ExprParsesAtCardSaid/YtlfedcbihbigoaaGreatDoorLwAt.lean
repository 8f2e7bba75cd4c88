/- ExprParsesAt: the law returns true (law8.ExprParsesAt). -/
import Derived.Test.YtlfedcbihbigoaaGreatDoorKnoN
import Derived.Test.YtlfedcbihbigoaaGreatDoorRsN
import Derived.Test.YtlfedcbihbigoaaGreatDoorBaseB
set_option linter.unusedVariables false
set_option linter.unusedSimpArgs false
namespace Go.Proofs.YtlfedcbihbigoaaGreatDoor
open Go.RowKit
theorem paS_len (ts : List Tok) (a : Int) : (paS ts a).1.length ≤ 1000000 := by
  unfold paS
  split
  · simp
  split
  · simp
  split
  · split
    · rename_i h; have := valid_le h; simp only; omega
    · simp
  · simp
  · simp
theorem msk_255 (i : Int) : bits .and .i64 i 255 = i % 256 := by
  show IntKind.i64.wrap ((BitVec.ofInt 64 i &&& BitVec.ofInt 64 255).toNat : Int) = _
  have h : (BitVec.ofInt 64 (255 : Int)).toNat = 2 ^ 8 - 1 := by decide
  rw [BitVec.toNat_and, h, Nat.and_two_pow_sub_one_eq_mod, IntKind.wrap_i64]
  simp only [BitVec.toNat_ofInt]
  omega
set_option maxRecDepth 100000 in
set_option maxHeartbeats 4000000 in
theorem law8_ExprParsesAt_any (A : Option Addr) (ts : List Tok) (c : Nat) (a : Int) (L : Option Addr) (l : List Int) (lc : Nat) (n : Int) (w : World) (hG : GlobJ w) (hA : ToksAt w A ts) (hx : ∀ j (h : j < ts.length), ts[j].text.length ≤ maxLen) (hI : IntsAt w L l) :
    Calls Tryz.prog 5 #[.slice A ts.length c, .int .i64 a, .slice L l.length lc, .int .i64 n] w fun e w' => e = .returned (.bool true) ∧ Below w.heap.size w w' := by
  have HG := hide hG
  have HI := hide hI
  have HA := hide hA
  have HX := hide hx
  clear hG hI hA hx
  by_cases h5 : 200 < ts.length
  · go_enter Tryz.func5, Tryz.ntmps5
    go_wp2_with fail
    refine (law8_known_any _ HG.out).mono ?_
    rintro e w1 ⟨rfl, hb1⟩
    go_wp2
    go_ret
    exact ⟨rfl, hb1⟩
  have hm := mask_31
  have hm2 := msk_255
  obtain ⟨m, hmm⟩ : ∃ m : Nat, n % 32 = (m : Int) := ⟨(n % 32).toNat, by omega⟩
  have hm16 : m < 32 := by omega
  have HPa := hide (expr_ParseAt_any A ts c a w HG.out.glob HA.out (by omega) HX.out)
  have HPb := hide (fun W (hb : Below w.heap.size w W) => ref8_ParseAt_any A ts c a W (HG.out.below hb).glob (HA.out.below hb) (by omega) HX.out)
  have hl := paS_len ts a
  generalize paS ts a = r at *
  obtain ⟨es, p, x⟩ := r
  simp only at hl
  have hpp : (p != p) = false := by simp
  have hxx : (x != x) = false := by simp
  go_enter Tryz.func5, Tryz.ntmps5
  go_wp2_with fail
  refine HPa.out.mono ?_
  rintro e w1 ⟨⟨B1, n1, rfl, ho⟩, hb1⟩
  have HO1 := hide (NdsAt_of_own ho)
  clear ho
  simp only at HO1 ⊢
  go_wp2_with fail
  refine (HPb.out _ hb1).mono ?_
  rintro e w2 ⟨⟨B2, n2, rfl, ho⟩, hb2⟩
  have HO2 := hide (NdsAt_of_own ho)
  clear ho
  simp only at HO2 ⊢
  have hb12 := bel2 hb2 hb1
  go_wp2_with fail
  refine (ref8_Same_eq _ _ _ _ _ _ (HO1.out.below hb2) HO2.out hl).mono ?_
  rintro e w3 ⟨rfl, hb3⟩
  have hb13 := bel2 hb3 hb12
  go_wp2_with fail
  refine (base_Text_any L l m w3 lc (HI.out.below hb13) hm16).mono ?_
  rintro e w4 ⟨⟨s, rfl, hs⟩, hb4⟩
  have hb14 := bel2 hb4 hb13
  have hS := ref7_Split_any s w4 (by unfold maxLen; omega)
  clear HO1 HO2 HPa HPb hb1 hb2 hb3 hb4 hb12 hb13
  cases hsp : splitS (bs s) with
  | error y =>
    have hne : ((y.2 : Int) != 0) = true := by have := splitS_err hsp; simpa using this
    rw [hsp] at hS
    have HS := hide hS
    clear hsp hS
    obtain ⟨y1, y2⟩ := y
    go_wp2_with fail
    refine HS.out.mono ?_
    rintro e w5 ⟨h, hb5⟩
    obtain rfl : e = .returned (.tuple #[.slice none 0 0, .int .i64 (y1 : Nat), .int .i64 y2]) := h
    have hb15 := bel2 hb5 hb14
    go_wp2_with fail
    refine (law8_known_any _ (HG.out.below hb15)).mono ?_
    rintro e w6 ⟨rfl, hb6⟩
    go_wp2
    go_ret
    exact ⟨rfl, bel2 hb6 hb15⟩
  | ok us =>
    have hv := splitS_fine hsp
    have hn := splitS_count hsp
    have h0 : 0 < us.length := ((valT_iff us).1 hv).1
    have HSh := hide (show ∀ j (h : j < us.length), us[j].text.length ≤ maxLen from fun j h => by
      have := okTok_len (((valT_iff us).1 hv).2 j h).1
      unfold maxLen; omega)
    rw [hsp] at hS
    have HS := hide hS
    clear hsp hS hv
    go_wp2_with fail
    refine HS.out.mono ?_
    rintro e w5 ⟨⟨A5, c5, rfl, ho⟩, hb5⟩
    have HTa := hide (ToksAt_of_own ho)
    have hb15 := bel2 hb5 hb14
    clear ho HS
    have HPa := hide (fun (i : Int) (W : World) (hb : Below w5.heap.size w5 W) => expr_ParseAt_any A5 us c5 i W (HG.out.below (bel2 hb hb15)).glob (HTa.out.below hb) (by omega) HSh.out)
    have HPb := hide (fun (i : Int) (W : World) (hb : Below w5.heap.size w5 W) => ref8_ParseAt_any A5 us c5 i W (HG.out.below (bel2 hb hb15)).glob (HTa.out.below hb) (by omega) HSh.out)
    have HLen := hide (fun i => paS_len us i)
    go_wp2_with fail
    refine (HPa.out _ _ (Below.refl _ _)).mono ?_
    generalize hr : paS us _ = r
    have hl2 : r.1.length ≤ 1000000 := by rw [← hr]; exact HLen.out _
    have HR := hide hr
    clear hr HLen
    obtain ⟨fs, q, y⟩ := r
    simp only at hl2
    have hqq : (q == q) = true := by simp
    have hyy : (y == y) = true := by simp
    rintro e w6 ⟨⟨B6, n6, rfl, ho⟩, hb6⟩
    have HO6 := hide (NdsAt_of_own ho)
    clear ho
    simp only at HO6 ⊢
    go_wp2_with fail
    refine (HPb.out _ _ hb6).mono ?_
    rw [HR.out]
    rintro e w7 ⟨⟨B7, n7, rfl, ho⟩, hb7⟩
    have HO7 := hide (NdsAt_of_own ho)
    clear ho
    simp only at HO7 ⊢
    have hb67 := bel2 hb7 hb6
    go_wp2_with fail
    refine (ref8_Same_eq _ _ _ _ _ _ (HO6.out.below hb7) HO7.out hl2).mono ?_
    rintro e w8 ⟨rfl, hb8⟩
    have hb18 := bel2 (bel2 hb8 hb67) hb15
    go_wp2_with fail
    refine (law8_known_any _ (HG.out.below hb18)).mono ?_
    rintro e w9 ⟨rfl, hb9⟩
    go_wp2
    go_ret
    exact ⟨ret_bool (by simp), bel2 hb9 hb18⟩
end Go.Proofs.YtlfedcbihbigoaaGreatDoor
