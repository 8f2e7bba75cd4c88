/- The law TokenReserves, walked. -/
import Derived.Test.YtedjahbieheeoaaDoorLawC
import Derived.Deep.RegionHeld3
set_option linter.unusedVariables false
set_option linter.unusedSimpArgs false
namespace Go.Proofs.YtedjahbieheeoaaDoor
open Go.RowKit
theorem and_ff (i : Int) : bits .and .i64 i 255 = i % 256 := by
  show IntKind.i64.wrap ((BitVec.ofInt 64 i &&& BitVec.ofInt 64 255).toNat : Int) = _
  have h : (BitVec.ofInt 64 (255 : Int)).toNat = 2 ^ 8 - 1 := by decide
  rw [BitVec.toNat_and, h, Nat.and_two_pow_sub_one_eq_mod, IntKind.wrap_i64]
  simp only [BitVec.toNat_ofInt]
  omega
def resV : List Value := [Value.string { data := #[97, 110, 100] }, Value.string { data := #[111, 114] },
              Value.string { data := #[110, 111, 116] }, Value.string { data := #[110, 117, 108, 108] },
              Value.string { data := #[116, 114, 117, 101] }, Value.string { data := #[102, 97, 108, 115, 101] },
              Value.string { data := #[98, 121] }, Value.string { data := #[115, 101, 108, 102] },
              Value.string { data := #[102, 114, 111, 109] }, Value.string { data := #[111, 110] },
              Value.string { data := #[97] }, Value.string { data := #[] }]
theorem resV_at (k : Nat) (h : k < 12) : ∃ x, resV[k]'h = .string x ∧ resB (bs x) = decide ((k : Int) < 8) := by
  match k, h with
  | 0, _ => exact ⟨_, rfl, by decide⟩
  | 1, _ => exact ⟨_, rfl, by decide⟩
  | 2, _ => exact ⟨_, rfl, by decide⟩
  | 3, _ => exact ⟨_, rfl, by decide⟩
  | 4, _ => exact ⟨_, rfl, by decide⟩
  | 5, _ => exact ⟨_, rfl, by decide⟩
  | 6, _ => exact ⟨_, rfl, by decide⟩
  | 7, _ => exact ⟨_, rfl, by decide⟩
  | 8, _ => exact ⟨_, rfl, by decide⟩
  | 9, _ => exact ⟨_, rfl, by decide⟩
  | 10, _ => exact ⟨_, rfl, by decide⟩
  | 11, _ => exact ⟨_, rfl, by decide⟩
  | k + 12, h => exact absurd h (by omega)
theorem below_step {w w1 w2 : World} (h2 : Below w1.heap.size w1 w2) (h : Below w.heap.size w w1) : Below w.heap.size w w2 := h.trans (h2.mono h.size)
set_option maxRecDepth 100000 in
set_option maxHeartbeats 2000000 in
theorem law7_TokenReserves_any (s : ByteArray) (n : Int) (w : World) (hG : Glob w) : Calls Tryd.prog 5 #[.string s, .int .i64 n] w fun e w' => e = .returned (.bool true) ∧ Below w.heap.size w w' := by
  have hm := and_ff n
  have h0 : 0 ≤ n % 256 % 12 := by omega
  have h1 : n % 256 % 12 < 12 := by omega
  have HG := hide hG; clear hG
  obtain ⟨x, hx, hr⟩ := resV_at (n % 256 % 12).toNat (by omega)
  rw [Int.toNat_of_nonneg h0] at hr
  unfold resV at hx
  obtain ⟨r, hr0⟩ : ∃ r, resB (bs s) = r := ⟨_, rfl⟩
  go_enter Tryd.func5, Tryd.ntmps5
  go_wp2_with fail
  clear hx
  have ht : (n % 256).tmod 12 = n % 256 % 12 := Int.tmod_eq_emod_of_nonneg (by omega)
  rw [← ht] at hr
  by_cases hp : (n % 256).tmod 12 < 8
  case pos =>
    have hq : n % 256 % 12 < 8 := ht ▸ hp
    rw [decide_eq_true hp] at hr
    clear ht h1
    cases r
    all_goals (
      have HS := hide hr0
      clear hr0
      have HR := hide hr
      clear hr
      go_region_held3 (fun w' => Below w.heap.size w w') (first | assumption | ((repeat (first | exact Below.refl _ _ | assumption | refine Below.drew ?_ | refine below_drewN ?_ _ | refine Below.alloc ?_ (by first | omega | (simp; done) | (simp; omega)) _ | refine Below.setCell ?_ (by first | omega | (simp; done) | (simp; omega)) _)); done) | (refine below_step hb' ?_; ((repeat (first | exact Below.refl _ _ | assumption | refine Below.drew ?_ | refine below_drewN ?_ _ | refine Below.alloc ?_ (by first | omega | (simp; done) | (simp; omega)) _ | refine Below.setCell ?_ (by first | omega | (simp; done) | (simp; omega)) _)); done)))
        (first
          | (go_at_call 12; refine (token_Reserved_any s _ (HG.out.below (by first | assumption | (repeat (first | exact Below.refl _ _ | assumption | refine Below.drew ?_ | refine below_drewN ?_ _ | refine Below.alloc ?_ (by first | omega | (simp; done) | (simp; omega)) _ | refine Below.setCell ?_ (by first | omega | (simp; done) | (simp; omega)) _))))).mono ?_; rintro e w' ⟨rfl, rfl⟩; rw [HS.out])
          | (go_at_call 12; refine (token_Reserved_any x _ (HG.out.below (by first | assumption | (repeat (first | exact Below.refl _ _ | assumption | refine Below.drew ?_ | refine below_drewN ?_ _ | refine Below.alloc ?_ (by first | omega | (simp; done) | (simp; omega)) _ | refine Below.setCell ?_ (by first | omega | (simp; done) | (simp; omega)) _))))).mono ?_; rintro e w' ⟨rfl, rfl⟩; rw [HR.out])
          | (go_at_call 13; refine (ref7_Reserved_any s _).mono ?_; rintro e w' ⟨rfl, hb'⟩; rw [HS.out])
          | (go_at_call 9; refine (law7_known_any _ (HG.out.below (by first | assumption | (repeat (first | exact Below.refl _ _ | assumption | refine Below.drew ?_ | refine below_drewN ?_ _ | refine Below.alloc ?_ (by first | omega | (simp; done) | (simp; omega)) _ | refine Below.setCell ?_ (by first | omega | (simp; done) | (simp; omega)) _))))).mono ?_; rintro e w' ⟨rfl, hb'⟩))
      go_wp2
      go_ret
      exact ⟨rfl, by assumption⟩)
  case neg =>
    have hq : ¬ n % 256 % 12 < 8 := ht ▸ hp
    rw [decide_eq_false hp] at hr
    clear ht
    cases r
    all_goals (
      have HS := hide hr0
      clear hr0
      have HR := hide hr
      clear hr
      go_region_held3 (fun w' => Below w.heap.size w w') (first | assumption | ((repeat (first | exact Below.refl _ _ | assumption | refine Below.drew ?_ | refine below_drewN ?_ _ | refine Below.alloc ?_ (by first | omega | (simp; done) | (simp; omega)) _ | refine Below.setCell ?_ (by first | omega | (simp; done) | (simp; omega)) _)); done) | (refine below_step hb' ?_; ((repeat (first | exact Below.refl _ _ | assumption | refine Below.drew ?_ | refine below_drewN ?_ _ | refine Below.alloc ?_ (by first | omega | (simp; done) | (simp; omega)) _ | refine Below.setCell ?_ (by first | omega | (simp; done) | (simp; omega)) _)); done)))
        (first
          | (go_at_call 12; refine (token_Reserved_any s _ (HG.out.below (by first | assumption | (repeat (first | exact Below.refl _ _ | assumption | refine Below.drew ?_ | refine below_drewN ?_ _ | refine Below.alloc ?_ (by first | omega | (simp; done) | (simp; omega)) _ | refine Below.setCell ?_ (by first | omega | (simp; done) | (simp; omega)) _))))).mono ?_; rintro e w' ⟨rfl, rfl⟩; rw [HS.out])
          | (go_at_call 12; refine (token_Reserved_any x _ (HG.out.below (by first | assumption | (repeat (first | exact Below.refl _ _ | assumption | refine Below.drew ?_ | refine below_drewN ?_ _ | refine Below.alloc ?_ (by first | omega | (simp; done) | (simp; omega)) _ | refine Below.setCell ?_ (by first | omega | (simp; done) | (simp; omega)) _))))).mono ?_; rintro e w' ⟨rfl, rfl⟩; rw [HR.out])
          | (go_at_call 13; refine (ref7_Reserved_any s _).mono ?_; rintro e w' ⟨rfl, hb'⟩; rw [HS.out])
          | (go_at_call 9; refine (law7_known_any _ (HG.out.below (by first | assumption | (repeat (first | exact Below.refl _ _ | assumption | refine Below.drew ?_ | refine below_drewN ?_ _ | refine Below.alloc ?_ (by first | omega | (simp; done) | (simp; omega)) _ | refine Below.setCell ?_ (by first | omega | (simp; done) | (simp; omega)) _))))).mono ?_; rintro e w' ⟨rfl, hb'⟩))
      go_wp2
      go_ret
      exact ⟨ret_bool (show (!decide ((n % 256).tmod 12 < 8)) = true from by rw [decide_eq_false (Int.not_lt.2 hp)]; rfl), by assumption⟩)
end Go.Proofs.YtedjahbieheeoaaDoor
