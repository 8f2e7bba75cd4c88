/- The law TokenBytes, walked. -/
import Derived.Test.YtedjahbieheeoaaDoorLawE
set_option linter.unusedVariables false
set_option linter.unusedSimpArgs false
namespace Go.Proofs.YtedjahbieheeoaaDoor
open Go.RowKit
theorem and_15 (i : Int) : bits .and .i64 i 15 = i % 16 := by
  show IntKind.i64.wrap ((BitVec.ofInt 64 i &&& BitVec.ofInt 64 15).toNat : Int) = _
  have h : (BitVec.ofInt 64 (15 : Int)).toNat = 2 ^ 4 - 1 := by decide
  rw [BitVec.toNat_and, h, Nat.and_two_pow_sub_one_eq_mod, IntKind.wrap_i64]
  simp only [BitVec.toNat_ofInt]
  omega
set_option maxRecDepth 100000 in
set_option maxHeartbeats 2000000 in
theorem law7_TokenBytes_any (A : Option Addr) (l : List Int) (c : Nat) (B : Option Addr) (m d : Nat) (y : ByteArray) (n : Int) (w : World) (hG : Glob w) (hA : IntsAt w A l)
    (hB : ∀ w', Below w.heap.size w w' → (convert 27 9 (.slice B m d)).run Tryd.prog w' = .ok (.string y) w') (hy : m ≤ 200 → y.size ≤ 200) :
    Calls Tryd.prog 4 #[.slice A l.length c, .slice B m d, .int .i64 n] w fun e w' => e = .returned (.bool true) ∧ Below w.heap.size w w' := by
  have hm := and_15 n
  obtain ⟨k, hk⟩ : ∃ k : Nat, n % 16 = k := ⟨(n % 16).toNat, by omega⟩
  have hk16 : k < 32 := by omega
  rw [hk] at hm
  clear hk
  have hf : ∀ i : Int, bits .and .i64 i 255 = i % 256 := and_ff
  have HG := hide hG; clear hG
  have HA := hide hA; clear hA
  have HB := hide hB; clear hB
  by_cases hs : m > 200
  · go_enter Tryd.func4, Tryd.ntmps4
    go_wp2_with fail
    refine (law7_known_any _ HG.out).mono ?_
    rintro e w' ⟨rfl, hb⟩
    go_wp2
    go_ret
    exact ⟨rfl, hb⟩
  · have hy2 := hy (by omega)
    clear hy
    go_enter Tryd.func4, Tryd.ntmps4
    go_wp2_with fail
    refine (base_Text_any A l k _ c HA.out hk16).mono ?_
    rintro e w2 ⟨⟨x, rfl, hx⟩, hb2⟩
    have a0 : 0 ≤ n / 16 % 256 % ((x.size : Int) + 1) := Int.emod_nonneg _ (by omega)
    have a1 : n / 16 % 256 % ((x.size : Int) + 1) < (x.size : Int) + 1 := Int.emod_lt_of_pos _ (by omega)
    obtain ⟨a, ha⟩ : ∃ a : Nat, n / 16 % 256 % ((x.size : Int) + 1) = a := ⟨(n / 16 % 256 % ((x.size : Int) + 1)).toNat, by omega⟩
    rw [ha] at a0 a1
    have a2 : a ≤ x.size := by omega
    clear a0 a1
    go_wp2_with fail
    try simp only [ha]
    clear ha hm hf
    have hcv := HB.out w2.drew (show Below w.heap.size w w2.drew from by (repeat (first | exact Below.refl _ _ | assumption | refine Below.drew ?_ | refine below_drewN ?_ _ | refine Below.alloc ?_ (by first | omega | (simp; done) | (simp; omega)) _ | refine Below.setCell ?_ (by first | omega | (simp; done) | (simp; omega)) _)))
    have hsz : (x.extract 0 a ++ y ++ x.extract a x.size).size ≤ maxLen := by
      have : (1000:Nat) ≤ maxLen := by decide
      rw [ByteArray.size_append, ByteArray.size_append, ByteArray.size_extract, ByteArray.size_extract]
      omega
    have HZ := hide hsz
    clear hsz
    go_region_with
      (first
        | (go_at_call 10; refine (law7_splits_any _ _ (HG.out.below (by first | assumption | (repeat (first | exact Below.refl _ _ | assumption | refine Below.drew ?_ | refine below_drewN ?_ _ | refine Below.alloc ?_ (by first | omega | (simp; done) | (simp; omega)) _ | refine Below.setCell ?_ (by first | omega | (simp; done) | (simp; omega)) _)))) HZ.out).mono ?_; rintro e w' ⟨rfl, hb'⟩; have hc3 := below_step hb' (show Below w.heap.size w _ from by (repeat (first | exact Below.refl _ _ | assumption | refine Below.drew ?_ | refine below_drewN ?_ _ | refine Below.alloc ?_ (by first | omega | (simp; done) | (simp; omega)) _ | refine Below.setCell ?_ (by first | omega | (simp; done) | (simp; omega)) _))))
        | (go_at_call 9; refine (law7_known_any _ (HG.out.below (by first | assumption | (repeat (first | exact Below.refl _ _ | assumption | refine Below.drew ?_ | refine below_drewN ?_ _ | refine Below.alloc ?_ (by first | omega | (simp; done) | (simp; omega)) _ | refine Below.setCell ?_ (by first | omega | (simp; done) | (simp; omega)) _))))).mono ?_; rintro e w' ⟨rfl, hb''⟩; have hc4 := below_step hb'' hc3))
    go_wp2
    go_ret
    exact ⟨rfl, by assumption⟩
end Go.Proofs.YtedjahbieheeoaaDoor
