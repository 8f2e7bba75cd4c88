/- Plain: the examples of the chapter on expressions. Contracts: Same of equal lists (ref8); known (law8). -/
import Derived.Test.YtlfedcbihbigoaaGreatDoorPsN
import Derived.Test.YtlfedcbihbigoaaGreatDoorFmtS
import Derived.KernelRfl
import Derived.Test.YtlfedcbihbigoaaGreatDoorFmtJ
set_option linter.unusedVariables false
set_option linter.unusedSimpArgs false
namespace Go.Proofs.YtlfedcbihbigoaaGreatDoor
open Go.RowKit
def knoE : List Nd := [⟨1, vl0, [98], 0⟩, cNd 2 1 [], opNd 4, ⟨1, vl0, [97], 0⟩, opNd 12]
theorem kno_split : splitS [97, 32, 62, 32, 98, 32, 43, 32, 49] = .ok [⟨1, [97], 0, 0⟩, ⟨5, [62], 0, 2⟩, ⟨1, [98], 0, 4⟩, ⟨5, [43], 0, 6⟩, ⟨2, [], 1, 8⟩, ⟨0, [], 0, 9⟩] := by kernel_rfl
theorem kno_pa : paS [⟨1, [97], 0, 0⟩, ⟨5, [62], 0, 2⟩, ⟨1, [98], 0, 4⟩, ⟨5, [43], 0, 6⟩, ⟨2, [], 1, 8⟩, ⟨0, [], 0, 9⟩] 0 = (knoE, 5, 0) := by kernel_rfl
theorem kno_par : parS [97, 32, 62, 32, 98, 32, 43, 32, 49] = (knoE, 0, 0) := by
  unfold parS
  rw [kno_split]
  simp only
  rw [kno_pa]
  rfl
theorem kno_split2 : splitS [97, 32, 61, 32, 98, 32, 61, 32, 99] = .ok [⟨1, [97], 0, 0⟩, ⟨5, [61], 0, 2⟩, ⟨1, [98], 0, 4⟩, ⟨5, [61], 0, 6⟩, ⟨1, [99], 0, 8⟩, ⟨0, [], 0, 9⟩] := by kernel_rfl
theorem kno_pa2 : paS [⟨1, [97], 0, 0⟩, ⟨5, [61], 0, 2⟩, ⟨1, [98], 0, 4⟩, ⟨5, [61], 0, 6⟩, ⟨1, [99], 0, 8⟩, ⟨0, [], 0, 9⟩] 0 = ([⟨1, vl0, [97], 0⟩, ⟨1, vl0, [98], 0⟩, opNd 10], 3, 0) := by kernel_rfl
theorem kno_par2 : parS [97, 32, 61, 32, 98, 32, 61, 32, 99] = ([], 6, 3) := by
  unfold parS
  rw [kno_split2]
  simp only
  rw [kno_pa2]
  rfl
theorem kno_ok : validE knoE = 0 := by kernel_rfl
theorem kno_fmt : fmtR knoE = ([98, 32, 43, 32, 49, 32, 60, 32, 97], 0) := by
  have h1 : litP ⟨2, 1, []⟩ = ⟨[49], 8, true⟩ := by
    unfold litP
    simp only [Int.reduceEq, ↓reduceIte]
    rw [if_neg (by decide), show Lib.decDigits (1 : Int).toNat = [49] from Lib.decDigits_one (by decide)]
  have h2 : stepF (cNd 2 1 []) [⟨[98], 8, false⟩] = [⟨[98], 8, false⟩, ⟨[49], 8, true⟩] := by
    show [⟨[98], 8, false⟩] ++ [litP ⟨2, 1, []⟩] = _
    rw [h1]; rfl
  unfold fmtR
  rw [if_pos kno_ok]
  show (((runF [opNd 4, ⟨1, vl0, [97], 0⟩, opNd 12] (stepF (cNd 2 1 []) [⟨[98], 8, false⟩])).getD 0 pc0).text, (0 : Int)) = _
  rw [h2]
  rfl
/-- What Parse answers without an error is valid. -/
theorem parS_valid {l : Bytes} (h : (parS l).2.2 = 0) : validE (parS l).1 = 0 ∧ (parS l).2.1 = 0 := by
  unfold parS at h ⊢
  cases hs : splitS l with
  | error x => rw [hs] at h; exact absurd h (splitS_err hs)
  | ok ts =>
    rw [hs] at h
    simp only at h ⊢
    split at h
    · rename_i h0
      rw [if_pos h0]
      split at h
      · rename_i h1
        rw [if_pos h1]
        simp only
        refine ⟨?_, by first | rfl | trivial⟩
        unfold paS at h0 ⊢
        split at h0
        · simp at h0
        rename_i hv
        rw [if_neg hv]
        split at h0
        · simp at h0
        rename_i hr
        rw [if_neg hr]
        have hv : valT ts = true := by simpa using hv
        have hlen : 0 < ts.length := ((valT_iff ts).1 hv).1
        have hf := prs_fact hv ((ts.length - (0 : Int).toNat) * 10 + 9) 0 (0 : Int).toNat 0 hlen (by omega)
        have hne := prs_ne hv ((ts.length - (0 : Int).toNat) * 10 + 9) 0 (0 : Int).toNat 0 hlen (by omega) (by omega) (by simp)
        cases hp : prs ts ((ts.length - (0 : Int).toNat) * 10 + 9) 0 (0 : Int).toNat 0 with
        | ok es j =>
          rw [hp] at h0
          simp only at h0 ⊢
          split at h0
          · rename_i hve
            rw [if_pos hve]; exact hve
          · exact absurd h0 (by assumption)
        | err x j =>
          rw [hp] at h0 hf
          simp only at h0
          rcases hf.2 with e | e <;> omega
        | out => exact absurd hp hne
      · cases h
    · exact absurd h (by assumption)
end Go.Proofs.YtlfedcbihbigoaaGreatDoor

namespace Go.Proofs.YtlfedcbihbigoaaGreatDoor
open Go.RowKit
set_option maxRecDepth 100000 in
set_option maxHeartbeats 1000000 in
theorem ref8_Same_eq (A B : Option Addr) (es : List Nd) (ca cb : Nat) (w : World) (hA : NdsAt w A es) (hB : NdsAt w B es) (hl : es.length ≤ 1000000) :
    Calls Tryz.prog 15 #[.slice A es.length ca, .slice B es.length cb] w fun e w' => e = .returned (.bool true) ∧ Below w.heap.size w w' := by
  have HA := hide hA; have HB := hide hB
  clear hA hB
  go_enter Tryz.func15, Tryz.ntmps15
  go_wp2
  go_loopw [5] (fun i wr => ∃ k : Nat, k ≤ es.length ∧ i = .int .i64 k ∧ Below w.heap.size w wr) (fun i _ => es.length - (intOf i).toNat)
  case atStart => exact ⟨0, by omega, rfl, Below.refl _ _⟩
  case round =>
    obtain ⟨k, hk, rfl, hbel⟩ := hrel
    by_cases hlt : k < es.length
    · rcases HA.out.below hbel with e | ⟨ga, oa, rfl, hga, hca⟩
      · exact absurd hlt (by rw [e]; simp)
      rcases HB.out.below hbel with e | ⟨gb, ob, rfl, hgb, hcb⟩
      · exact absurd hlt (by rw [e]; simp)
      obtain ⟨n0, n1, n2, n3, n4, n5⟩ := nd_of_cells hca k hlt
      obtain ⟨m0, m1, m2, m3, m4, m5⟩ := nd_of_cells hcb k hlt
      clear hca hcb
      generalize es[k] = nd at *
      go_wp2
      go_big_quiet (fail)
      go_wp2
      exact ⟨⟨k + 1, by omega, by go_num, by (repeat (first | exact Below.refl _ _ | assumption | refine Below.drew ?_ | refine below_drewN ?_ _ | refine Below.alloc ?_ (by first | omega | (simp; done) | (simp; omega)) _ | refine Below.setCell ?_ (by first | omega | (simp; done) | (simp; omega)) _))⟩, by simp [intOf]; omega⟩
    · go_wp2
      go_ret
      exact ⟨rfl, hbel⟩
/-- Parsing the example, and what follows of it. -/
theorem kno_parse1 (W : World) (h : Glob W) : Calls Tryz.prog 21 #[.string ⟨#[97, 32, 62, 32, 98, 32, 43, 32, 49]⟩] W fun e w' => (∃ (B : Option Addr) (n : Nat), e = .returned (.tuple #[.slice B 5 n, .int .i64 0, .int .i64 0]) ∧ NdsAt w' B knoE) ∧ Below W.heap.size W w' :=
  (expr_Parse_any ⟨#[97, 32, 62, 32, 98, 32, 43, 32, 49]⟩ W h (by decide)).mono fun e w' ⟨⟨B, n, he, ho⟩, hb⟩ => by
    rw [show parS (bs ⟨#[97, 32, 62, 32, 98, 32, 43, 32, 49]⟩) = (knoE, 0, 0) from kno_par] at he ho
    exact ⟨⟨B, n, he, NdsAt_of_own ho⟩, hb⟩
theorem kno_parse2 (W : World) (h : Glob W) : Calls Tryz.prog 21 #[.string ⟨#[97, 32, 61, 32, 98, 32, 61, 32, 99]⟩] W fun e w' => (∃ (B : Option Addr) (n : Nat), e = .returned (.tuple #[.slice B 0 n, .int .i64 6, .int .i64 3])) ∧ Below W.heap.size W w' :=
  (expr_Parse_any ⟨#[97, 32, 61, 32, 98, 32, 61, 32, 99]⟩ W h (by decide)).mono fun e w' ⟨⟨B, n, he, ho⟩, hb⟩ => by
    rw [show parS (bs ⟨#[97, 32, 61, 32, 98, 32, 61, 32, 99]⟩) = ([], 6, 3) from kno_par2] at he
    exact ⟨⟨B, n, he⟩, hb⟩
theorem kno_names : NamesOk knoE := fun n hn => by
  simp only [knoE, List.mem_cons, List.not_mem_nil, or_false] at hn
  rcases hn with rfl | rfl | rfl | rfl | rfl <;> decide
theorem kno_format (B : Option Addr) (n : Nat) (W : World) (h : GlobJ W) (hN : NdsAt W B knoE) : Calls Tryz.prog 18 #[.slice B 5 n] W fun e w' => e = .returned (.tuple #[.string ⟨#[98, 32, 43, 32, 49, 32, 60, 32, 97]⟩, .int .i64 0]) ∧ Below W.heap.size W w' :=
  (expr_Format_any B knoE n W h hN (by decide) kno_names).mono fun e w' ⟨he, hb⟩ => by
    rw [kno_fmt] at he
    exact ⟨he, hb⟩
set_option maxRecDepth 100000 in
set_option maxHeartbeats 2000000 in
theorem law8_known_any (w : World) (hG : GlobJ w) : Calls Tryz.prog 8 #[] w fun e w' => e = .returned (.bool true) ∧ Below w.heap.size w w' := by
  have HG := hide hG
  clear hG
  go_enter Tryz.func8, Tryz.ntmps8
  go_wp2_with fail
  refine (kno_parse1 _ HG.out.glob).mono ?_
  rintro e w1 ⟨⟨A, n, rfl, hN⟩, hb1⟩
  have HN := hide hN
  clear hN
  go_wp2_with fail
  refine (kno_format _ _ _ (HG.out.below hb1) HN.out).mono ?_
  rintro e w2 ⟨rfl, hb2⟩
  have hb3 := bel2 hb2 hb1
  go_wp2_with fail
  refine (kno_parse2 _ (HG.out.below hb3).glob).mono ?_
  rintro e w4 ⟨⟨A2, n2, rfl⟩, hb4⟩
  go_wp2
  go_ret
  exact ⟨rfl, bel2 hb4 hb3⟩
end Go.Proofs.YtlfedcbihbigoaaGreatDoor
