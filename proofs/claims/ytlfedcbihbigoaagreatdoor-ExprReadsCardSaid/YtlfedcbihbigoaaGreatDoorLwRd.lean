/- ExprReads: the law returns true (law8.ExprReads). -/
import Derived.Test.YtlfedcbihbigoaaGreatDoorLw8K
import Derived.Test.YtlfedcbihbigoaaGreatDoorRfmA
import Derived.Test.YtlfedcbihbigoaaGreatDoorTotJ
import Derived.Deep.RegionWith
import Derived.Deep.RegionHeld3
set_option linter.unusedVariables false
set_option linter.unusedSimpArgs false
namespace Go.Proofs.YtlfedcbihbigoaaGreatDoor
open Go.RowKit
theorem msk_ffff (i : Int) : bits .and .i64 i 65535 = i % 65536 := by
  show IntKind.i64.wrap ((BitVec.ofInt 64 i &&& BitVec.ofInt 64 65535).toNat : Int) = _
  have h : (BitVec.ofInt 64 (65535 : Int)).toNat = 2 ^ 16 - 1 := by decide
  rw [BitVec.toNat_and, h, Nat.and_two_pow_sub_one_eq_mod, IntKind.wrap_i64]
  simp only [BitVec.toNat_ofInt]
  omega
theorem fmtR_snd' (es : List Nd) : (fmtR es).2 = validE es := by
  unfold fmtR
  split
  · rename_i h; exact h.symm
  · rfl
/-- Building an expression and writing it: some text. -/
theorem made_text (L : Option Addr) (l : List Int) (lc : Nat) (n : Int) (w : World) (hI : IntsAt w L l) : Calls Tryz.prog 12 #[.slice L l.length lc, .int .i64 n] w fun e w' => (∃ (A : Option Addr) (k c : Nat), e = .returned (.slice A k c) ∧ ∀ W, Below w'.heap.size w' W → Calls Tryz.prog 11 #[.slice A k c] W fun e2 w2 => (∃ s : ByteArray, e2 = .returned (.tuple #[.string s, .int .i64 0])) ∧ Below W.heap.size W w2) ∧ Below w.heap.size w w' :=
  (law8_made_any L l lc n w hI).mono fun e w' ⟨⟨es, g, A, c, he, own⟩, hb⟩ => ⟨⟨A, es.length, c, he, fun W hW => by
    refine (ref8_Format_any A es c W ((NdsAt_of_own own).below hW) (by have := g.short (Nat.le_refl 4); omega) g.names).mono ?_
    rintro e2 w2 ⟨rfl, hb2⟩
    rw [fmtR_snd', g.valid (Nat.le_refl 4)]
    exact ⟨⟨_, rfl⟩, hb2⟩⟩, hb⟩
set_option maxRecDepth 100000 in
set_option maxHeartbeats 2000000 in
theorem law8_ExprReads_any (L : Option Addr) (l : List Int) (lc : Nat) (M : Option Addr) (m : List Int) (mc : Nat) (n a b : Int) (w : World) (hG : GlobJ w) (hI : IntsAt w L l) (hJ : IntsAt w M m) :
    Calls Tryz.prog 4 #[.slice L l.length lc, .slice M m.length mc, .int .i64 n, .int .i64 a, .int .i64 b] w fun e w' => e = .returned (.bool true) ∧ Below w.heap.size w w' := by
  have HG := hide hG
  have HI := hide hI
  have HJ := hide hJ
  clear hG hI hJ
  have q1 := mask_1
  have q3 := mask_3
  have qf := msk_ffff
  go_enter Tryz.func4, Tryz.ntmps4
  go_wp2_with fail
  refine (made_text L l lc n w HI.out).mono ?_
  rintro e w1 ⟨⟨A, k, c, rfl, hF⟩, hb1⟩
  have HF := hide hF
  clear hF
  go_wp2_with fail
  refine (HF.out _ (Below.refl _ _)).mono ?_
  rintro e w2 ⟨⟨s, rfl⟩, hb2⟩
  have hbw := bel2 hb2 hb1
  clear HF
  by_cases h5 : 2000 < s.size
  · go_wp2_with fail
    refine (law8_known_any _ (HG.out.below hbw)).mono ?_
    rintro e w3 ⟨rfl, hb3⟩
    go_wp2
    go_ret
    exact ⟨rfl, bel2 hb3 hbw⟩
  obtain ⟨i, hi, hil⟩ : ∃ i : Nat, a % 65536 % ((s.size : Int) + 1) = i ∧ i ≤ s.size := by
    have y0 : 0 ≤ a % 65536 % ((s.size : Int) + 1) := Int.emod_nonneg _ (by omega)
    have y1 : a % 65536 % ((s.size : Int) + 1) < (s.size : Int) + 1 := Int.emod_lt_of_pos _ (by omega)
    exact ⟨(a % 65536 % ((s.size : Int) + 1)).toNat, by omega, by omega⟩
  have hti : (a % 65536).tmod ((s.size : Int) + 1) = i := (Int.tmod_eq_emod_of_nonneg (by omega)).trans hi
  obtain ⟨m4, hm4, hm4l⟩ : ∃ m : Nat, b % 4 = m ∧ m < 4 := ⟨(b % 4).toNat, by omega, by omega⟩
  obtain ⟨j, hj, hjl⟩ : ∃ j : Nat, min (s.size : Int) ((i : Int) + m4) = j ∧ j ≤ s.size := ⟨(min (s.size : Int) ((i : Int) + m4)).toNat, by omega, by omega⟩
  have hz : ((s.size : Int) + 1 == 0) = false := beq_eq_false_iff_ne.2 (by omega)
  obtain ⟨p, hp, hpl⟩ : ∃ p : Nat, b / 4 % 2 = p ∧ p < 2 := ⟨(b / 4 % 2).toNat, by omega, by omega⟩
  have hw1 : IntKind.i64.wrap (1 + (p : Int)) = ((1 + p : Nat) : Int) := (IntWalk.i64_in _ (by omega)).trans (by simp)
  have HPs := hide (fun (t : ByteArray) (W : World) (hb : Below w.heap.size w W) (hs : t.size ≤ maxLen) => (law8_parses_any t W (HG.out.below hb).glob hs).mono (fun e w' h => show e = .returned (.bool true) ∧ Below w.heap.size w w' from ⟨h.1, bel2 h.2 hb⟩))
  have HKn := hide (fun (W : World) (hb : Below w.heap.size w W) => (law8_known_any W (HG.out.below hb)).mono (fun e w' h => show e = .returned (.bool true) ∧ Below w.heap.size w w' from ⟨h.1, bel2 h.2 hb⟩))
  have HTx := hide (fun (W : World) (hb : Below w.heap.size w W) => (base_Text_any M m (1 + p) W mc (HJ.out.below hb) (by omega)).mono (fun e w' h => show (∃ t : ByteArray, e = .returned (.string t) ∧ t.size ≤ 1000) ∧ Below w.heap.size w w' from by
    obtain ⟨⟨t, h1, h2⟩, h3⟩ := h
    exact ⟨⟨t, h1, by omega⟩, bel2 h3 hb⟩))
  have hn1 : ¬ 9223372036854775807 < i + (s.size - j) := by omega
  have hn2 : ¬ 9223372036854775807 < min i s.size + (s.size - j) := by omega
  have hn3 : ¬ 9223372036854775807 < min i s.size + (min s.size s.size - j) := by omega
  go_wp2
  first | (go_region_held3 (fun w' => Below w.heap.size w w') (first | assumption | ((repeat (first | exact Below.refl _ _ | assumption | refine Below.drew ?_ | refine below_drewN ?_ _ | refine Below.alloc ?_ (by first | omega | (simp; done) | (simp; omega)) _ | refine Below.setCell ?_ (by first | omega | (simp; done) | (simp; omega)) _)); done)) ((first
    | (go_at_call 9; refine (HPs.out _ _ (by (repeat (first | exact Below.refl _ _ | assumption | refine Below.drew ?_ | refine below_drewN ?_ _ | refine Below.alloc ?_ (by first | omega | (simp; done) | (simp; omega)) _ | refine Below.setCell ?_ (by first | omega | (simp; done) | (simp; omega)) _))) (by unfold maxLen; simp; omega)).mono ?_; rintro e w3 ⟨rfl, hb3⟩)
    | (go_at_call 10; refine (HTx.out _ (by (repeat (first | exact Below.refl _ _ | assumption | refine Below.drew ?_ | refine below_drewN ?_ _ | refine Below.alloc ?_ (by first | omega | (simp; done) | (simp; omega)) _ | refine Below.setCell ?_ (by first | omega | (simp; done) | (simp; omega)) _)))).mono ?_; rintro e w3 ⟨⟨t, rfl, htl⟩, hb3⟩; have hm1 : ¬ 9223372036854775807 < i + t.size := (by omega); have hm2 : ¬ 9223372036854775807 < min i s.size + t.size := (by omega); have hm3 : ¬ 9223372036854775807 < i + t.size + (s.size - j) := (by omega); have hm4 : ¬ 9223372036854775807 < min i s.size + t.size + (s.size - j) := (by omega); have hm5 : ¬ 9223372036854775807 < min i s.size + t.size + (min s.size s.size - j) := (by omega))
    | (go_at_call 8; refine (HKn.out _ (by (repeat (first | exact Below.refl _ _ | assumption | refine Below.drew ?_ | refine below_drewN ?_ _ | refine Below.alloc ?_ (by first | omega | (simp; done) | (simp; omega)) _ | refine Below.setCell ?_ (by first | omega | (simp; done) | (simp; omega)) _)))).mono ?_; rintro e w3 ⟨rfl, hb3⟩)))) | fail
  all_goals
    go_wp2
    go_ret
    exact ⟨ret_bool (by simp), by (repeat (first | exact Below.refl _ _ | assumption | refine Below.drew ?_ | refine below_drewN ?_ _ | refine Below.alloc ?_ (by first | omega | (simp; done) | (simp; omega)) _ | refine Below.setCell ?_ (by first | omega | (simp; done) | (simp; omega)) _))⟩
end Go.Proofs.YtlfedcbihbigoaaGreatDoor
