/- The law TokenValidates, walked. -/
import Derived.Test.YtedjahbieheeoaaDoorValG
import Derived.Test.YtedjahbieheeoaaDoorLawF
set_option linter.unusedVariables false
set_option linter.unusedSimpArgs false
namespace Go.Proofs.YtedjahbieheeoaaDoor
open Go.RowKit
theorem ToksAt.front {w : World} {A : Option Addr} {ts : List Tok} (h : ToksAt w A ts) (n : Nat) : ToksAt w A (ts.take n) := by
  rcases h with h | ⟨g, off, hA, hg, hc⟩
  · exact .inl (by rw [h]; simp)
  · refine .inr ⟨g, off, hA, hg, fun i hi => ?_⟩
    have h2 : i < ts.length := by rw [List.length_take] at hi; omega
    have := hc i h2
    simpa using this
theorem shortT.front {ts : List Tok} (h : shortT ts) (n : Nat) : shortT (ts.take n) := by
  intro j hj
  have h2 : j < ts.length := by rw [List.length_take] at hj; omega
  have := h j h2
  simpa using this
theorem short_le {ts : List Tok} (h : shortT ts) : ∀ j (h : j < ts.length), ts[j].text.length ≤ maxLen := fun j hj => by
  have := h j hj
  have h2 : (100 : Nat) ≤ maxLen := by decide
  omega
set_option maxRecDepth 100000 in
set_option maxHeartbeats 4000000 in
theorem law7_TokenValidates_any (R : Option Addr) (rs : List Tok) (rc : Nat) (A : Option Addr) (l : List Int) (c : Nat) (n : Int) (w : World) (hG : Glob w) (hR : ToksAt w R rs) (hx : ∀ j (h : j < rs.length), rs[j].text.length ≤ maxLen) (hI : IntsAt w A l) :
    Calls Tryd.prog 6 #[.slice R rs.length rc, .slice A l.length c, .int .i64 n] w fun e w' => e = .returned (.bool true) ∧ Below w.heap.size w w' := by
  have HG := hide hG; clear hG
  have HI := hide hI; clear hI
  have HR := hide hR; clear hR
  have HX := hide hx; clear hx
  by_cases hlen : 200 < rs.length
  · go_enter Tryd.func6, Tryd.ntmps6
    go_wp2_with fail
    refine (law7_known_any _ HG.out).mono ?_
    rintro e w' ⟨rfl, hb⟩
    go_wp2
    go_ret
    exact ⟨rfl, hb⟩
  have hm := and_15 n
  obtain ⟨k, hk⟩ : ∃ k : Nat, n % 16 = k := ⟨(n % 16).toNat, by omega⟩
  have hk16 : k ≤ 15 := by omega
  rw [hk] at hm
  clear hk
  have hq : bits .and .i64 (n / 16) 3 = n / 16 % 4 := and_3 _
  have HV := hide (fun W (h : Below w.heap.size w W) => token_Validate_any R rs rc W (HG.out.below h) (HR.out.below h) (by omega) HX.out)
  have HV2 := hide (fun W (h : Below w.heap.size w W) => ref7_Validate_any R rs rc W (HR.out.below h) (by omega) HX.out)
  generalize valE rs = v at *
  have hvv : (v == v) = true := by simp
  have HT := hide (fun (W0 : World) (T : Option Addr) (ts : List Tok) (tc : Nat) (hb0 : Below w.heap.size w W0) (hta : ToksAt W0 T ts) (hsh : shortT ts) (hl : ts.length ≤ 1000000) (W : World) (h : Below W0.heap.size W0 W) =>
    token_Validate_any T ts tc W (HG.out.below (below_step h hb0)) (hta.below h) hl (short_le hsh))
  have HT2 := hide (fun (W0 : World) (T : Option Addr) (ts : List Tok) (tc : Nat) (hta : ToksAt W0 T ts) (hsh : shortT ts) (hl : ts.length ≤ 1000000) (W : World) (h : Below W0.heap.size W0 W) =>
    ref7_Validate_any T ts tc W (hta.below h) hl (short_le hsh))
  cases h4 : (n / 16 % 4 == 0)
  case false =>
    go_enter Tryd.func6, Tryd.ntmps6
    go_wp2_with fail
    refine (law7_tokens_any A l c k _ HI.out hk16).mono ?_
    rintro e w1 ⟨⟨T, tc, rfl, hta, hcap⟩, hb1⟩
    have hl := tokensS_len l k
    have hsh := tokensS_short l k
    rw [← hl]
    rw [← hl] at hcap
    generalize tokensS l k = ts at *
    have HT' := hide (HT.out w1 T ts tc hb1 hta hsh (by omega))
    have HT2' := hide (HT2.out w1 T ts tc hta hsh (by omega))
    clear hl hta hsh
    generalize ts.length = m at *
    generalize valE ts = u at *
    have huu : (u == u) = true := by simp
    go_wp2_with fail
    refine (HV.out _ hb1).mono ?_
    rintro e w2 ⟨rfl, hb2⟩
    have hc2 := below_step hb2 hb1
    go_wp2_with fail
    refine (HV2.out _ hc2).mono ?_
    rintro e w3 ⟨rfl, hb3⟩
    have hc3 := below_step hb3 hc2
    have hd3 := below_step hb3 hb2
    go_wp2_with fail
    refine (HT'.out _ hd3).mono ?_
    rintro e w4 ⟨rfl, hb4⟩
    have hc4 := below_step hb4 hc3
    have hd4 := below_step hb4 hd3
    go_wp2_with fail
    refine (HT2'.out _ hd4).mono ?_
    rintro e w5 ⟨rfl, hb5⟩
    have hc5 := below_step hb5 hc4
    go_wp2_with fail
    refine (law7_known_any _ (HG.out.below hc5)).mono ?_
    rintro e w6 ⟨rfl, hb6⟩
    go_wp2
    go_ret
    exact ⟨rfl, below_step hb6 hc5⟩
  case true =>
    go_enter Tryd.func6, Tryd.ntmps6
    go_wp2_with fail
    refine (law7_tokens_any A l c k _ HI.out hk16).mono ?_
    rintro e w1 ⟨⟨T, tc, rfl, hta, hcap⟩, hb1⟩
    have hl := tokensS_len l k
    have hsh := tokensS_short l k
    rw [← hl]
    rw [← hl] at hcap
    generalize tokensS l k = ts at *
    have HT' := hide (HT.out w1 T (ts.take k) tc hb1 (hta.front k) (hsh.front k) (by rw [List.length_take]; omega))
    have HT2' := hide (HT2.out w1 T (ts.take k) tc (hta.front k) (hsh.front k) (by rw [List.length_take]; omega))
    have htl : (ts.take k).length = k := by rw [List.length_take]; omega
    rw [htl] at HT' HT2'
    rw [hl] at hcap
    rw [hl]
    clear hl hta hsh htl
    generalize valE (ts.take k) = u at *
    have huu : (u == u) = true := by simp
    go_wp2_with fail
    refine (HV.out _ hb1).mono ?_
    rintro e w2 ⟨rfl, hb2⟩
    have hc2 := below_step hb2 hb1
    go_wp2_with fail
    refine (HV2.out _ hc2).mono ?_
    rintro e w3 ⟨rfl, hb3⟩
    have hc3 := below_step hb3 hc2
    have hd3 := below_step hb3 hb2
    go_wp2_with fail
    refine (HT'.out _ hd3).mono ?_
    rintro e w4 ⟨rfl, hb4⟩
    have hc4 := below_step hb4 hc3
    have hd4 := below_step hb4 hd3
    go_wp2_with fail
    refine (HT2'.out _ hd4).mono ?_
    rintro e w5 ⟨rfl, hb5⟩
    have hc5 := below_step hb5 hc4
    go_wp2_with fail
    refine (law7_known_any _ (HG.out.below hc5)).mono ?_
    rintro e w6 ⟨rfl, hb6⟩
    go_wp2
    go_ret
    exact ⟨rfl, below_step hb6 hc5⟩
end Go.Proofs.YtedjahbieheeoaaDoor
