/- The law TokenJoins, walked. -/
import Derived.Test.YtedjahbieheeoaaDoorJoinC
import Derived.Test.YtedjahbieheeoaaDoorLawG
set_option linter.unusedVariables false
set_option linter.unusedSimpArgs false
namespace Go.Proofs.YtedjahbieheeoaaDoor
open Go.RowKit
theorem joinR_len (ts : List Tok) : (joinR ts).1.length ≤ 65536 := by
  unfold joinR
  split
  · split
    · simp
    · simp; omega
  · simp
set_option maxRecDepth 100000 in
set_option maxHeartbeats 4000000 in
theorem law7_TokenJoins_any (R : Option Addr) (rs : List Tok) (rc : Nat) (A : Option Addr) (l : List Int) (c : Nat) (n : Int) (w : World) (hG : GlobJ w) (hR : ToksAt w R rs) (hrc : rs.length ≤ rc) (hx : ∀ j (h : j < rs.length), rs[j].text.length ≤ maxLen) (hI : IntsAt w A l) :
    Calls Tryd.prog 7 #[.slice R rs.length rc, .slice A l.length c, .int .i64 n] w fun e w' => e = .returned (.bool true) ∧ Below w.heap.size w w' := by
  have HG := hide hG; clear hG
  have HI := hide hI; clear hI
  have HR := hide hR; clear hR
  have HX := hide hx; clear hx
  by_cases hlen : 200 < rs.length
  · go_enter Tryd.func7, Tryd.ntmps7
    go_wp2_with fail
    refine (law7_known_any _ HG.out.glob).mono ?_
    rintro e w' ⟨rfl, hb⟩
    go_wp2
    go_ret
    exact ⟨rfl, hb⟩
  have hm := and_15 n
  obtain ⟨k, hk⟩ : ∃ k : Nat, n % 16 = k := ⟨(n % 16).toNat, by omega⟩
  have hk16 : k ≤ 15 := by omega
  rw [hk] at hm
  clear hk
  have HV := hide (fun W (h : Below w.heap.size w W) => token_Join_any R rs rc W (HG.out.below h) (HR.out.below h) (by omega) hrc HX.out)
  have HV2 := hide (fun W (h : Below w.heap.size w W) => ref7_Join_any R rs rc W (HR.out.below h) (by omega) HX.out)
  generalize joinR rs = v at *
  have HT := hide (fun (W : World) (T : Option Addr) (tc : Nat) (hb0 : Below w.heap.size w W) (hta : ToksAt W T (tokensS l k)) (hc : k + 1 ≤ tc) =>
    tokensS_len l k ▸ token_Join_any T (tokensS l k) tc W (HG.out.below hb0) hta (by rw [tokensS_len]; omega) (by rw [tokensS_len]; exact hc) (short_le (tokensS_short l k)))
  have HT2 := hide (fun (W : World) (T : Option Addr) (tc : Nat) (hta : ToksAt W T (tokensS l k)) =>
    tokensS_len l k ▸ ref7_Join_any T (tokensS l k) tc W hta (by rw [tokensS_len]; omega) (short_le (tokensS_short l k)))
  have HTok := hide (fun (W : World) (hb0 : Below w.heap.size w W) => law7_tokens_any A l c k W (HI.out.below hb0) hk16)
  unfold TokensRes at HTok
  generalize tokensS l k = ts at *
  generalize joinR ts = u at *
  obtain ⟨v1, v2⟩ := v
  obtain ⟨u1, u2⟩ := u
  have hv : (v2 == v2) = true := by simp
  have hu : (u2 == u2) = true := by simp
  have hv1 : (v1 == v1) = true := by simp
  have hu1 : (u1 == u1) = true := by simp
  go_enter Tryd.func7, Tryd.ntmps7
  go_wp2_with fail
  refine (HV.out _ (Below.refl _ _)).mono ?_
  rintro e w1 ⟨rfl, hb1⟩
  go_wp2_with fail
  refine (HV2.out _ hb1).mono ?_
  rintro e w2 ⟨rfl, hb2⟩
  have hc2 := below_st hb2 hb1
  go_wp2_with fail
  refine (HTok.out _ hc2).mono ?_
  rintro e w3 ⟨⟨T3, c3, rfl, ht3, hl3⟩, hb3⟩
  have hc3 := below_st hb3 hc2
  go_wp2_with fail
  refine (HT.out _ T3 c3 hc3 ht3 hl3).mono ?_
  rintro e w4 ⟨rfl, hb4⟩
  have hc4 := below_st hb4 hc3
  go_wp2_with fail
  refine (HTok.out _ hc4).mono ?_
  rintro e w5 ⟨⟨T5, c5, rfl, ht5, hl5⟩, hb5⟩
  have hc5 := below_st hb5 hc4
  go_wp2_with fail
  refine (HT2.out _ T5 c5 ht5).mono ?_
  rintro e w6 ⟨rfl, hb6⟩
  have hc6 := below_st hb6 hc5
  go_wp2_with fail
  refine (law7_known_any _ (HG.out.below hc6).glob).mono ?_
  rintro e w7 ⟨rfl, hb7⟩
  go_wp2
  go_ret
  exact ⟨rfl, below_st hb7 hc6⟩
end Go.Proofs.YtedjahbieheeoaaDoor
