/- Contract: expr.Parse. -/
import Derived.Test.YtlfedcbihbigoaaGreatDoorPsJM
import Derived.Test.YtlfedcbihbigoaaGreatDoorTokF
import Derived.Test.YtlfedcbihbigoaaGreatDoorJoiRv
set_option linter.unusedVariables false
set_option linter.unusedSimpArgs false
namespace Go.Proofs.YtlfedcbihbigoaaGreatDoor
open Go.RowKit
/-- What Parse answers: the nodes, the offset, the error. -/
def parS (l : Bytes) : List Nd × Int × Int := match splitS l with
  | .error x => ([], (x.1 : Nat), x.2)
  | .ok ts =>
    if (paS ts 0).2.2 = 0 then (if (tk ts (paS ts 0).2.1.toNat).kind = 0 then ((paS ts 0).1, 0, 0) else ([], (tk ts (paS ts 0).2.1.toNat).off, 3))
    else ([], (tk ts (paS ts 0).2.1.toNat).off, (paS ts 0).2.2)
theorem paS_at {ts : List Tok} (hv : valT ts = true) (h0 : 0 < ts.length) : ∃ j : Nat, (paS ts 0).2.1 = (j : Int) ∧ j < ts.length := by
  have hf := prs_fact hv ((ts.length - 0) * 10 + 9) 0 0 0 h0 (fun e => absurd e (by omega))
  unfold paS
  rw [if_neg (by rw [hv]; decide), if_neg (by omega)]
  simp only [Int.toNat_zero]
  cases hp : prs ts ((ts.length - 0) * 10 + 9) 0 0 0 with
  | ok es j =>
    rw [hp] at hf
    simp only
    split
    · exact ⟨j, rfl, hf.2.1⟩
    · exact ⟨j, rfl, hf.2.1⟩
  | err x j => rw [hp] at hf; exact ⟨j, rfl, hf.1⟩
  | out => exact ⟨0, rfl, h0⟩
set_option maxRecDepth 100000 in
set_option maxHeartbeats 2000000 in
theorem expr_Parse_any (s : ByteArray) (w : World) (hG : Glob w) (hs : s.size ≤ maxLen) :
    Calls Tryz.prog 21 #[.string s] w fun e w' => PaRes w w' (parS (bs s)) e ∧ Below w.heap.size w w' := by
  have HSp := hide (token_Split_any s w hG hs)
  have HG := hide hG
  clear hG hs
  cases hsp : splitS (bs s) with
  | error x =>
    have HP := hide (show parS (bs s) = ([], ((x.1 : Nat) : Int), x.2) from by unfold parS; rw [hsp])
    have hne : ((x.2 : Int) != 0) = true := by have := splitS_err hsp; simpa using this
    rw [hsp] at HSp
    clear hsp
    obtain ⟨x1, x2⟩ := x
    go_enter Tryz.func21, Tryz.ntmps21
    go_wp2_with fail
    refine HSp.out.mono ?_
    rintro e w1 ⟨h, hb1⟩
    obtain rfl : e = .returned (.tuple #[.slice none 0 0, .int .i64 (x1 : Nat), .int .i64 x2]) := h
    go_wp2
    go_ret3
    rw [HP.out]
    exact ⟨⟨none, 0, rfl, own_nil _ _ _ _⟩, hb1⟩
  | ok ts =>
    have hv := splitS_fine hsp
    have hn := splitS_count hsp
    have h0 : 0 < ts.length := ((valT_iff ts).1 hv).1
    obtain ⟨j, hj, hjl⟩ := paS_at hv h0
    have hsh : ∀ j (h : j < ts.length), ts[j].text.length ≤ maxLen := fun j h => by
      have := okTok_len (((valT_iff ts).1 hv).2 j h).1
      unfold maxLen; omega
    have HSh := hide hsh
    have HP := hide (show parS (bs s) = (if (paS ts 0).2.2 = 0 then (if (tk ts j).kind = 0 then ((paS ts 0).1, 0, 0) else ([], (tk ts j).off, 3)) else ([], (tk ts j).off, (paS ts 0).2.2)) from by
      unfold parS; rw [hsp]; simp only; rw [hj]; rfl)
    rw [hsp] at HSp
    clear hsp hsh
    have HPa := hide (fun (W : World) (A : Option Addr) (c : Nat) (hb : Below w.heap.size w W) (ht : ToksAt W A ts) => expr_ParseAt_any A ts c 0 W (HG.out.below hb) ht (by omega) HSh.out)
    clear hv
    generalize hr : paS ts 0 = r at *
    obtain ⟨es, a, x⟩ := r
    simp only at hj HP
    subst hj
    clear hr
    go_enter Tryz.func21, Tryz.ntmps21
    go_wp2_with fail
    refine HSp.out.mono ?_
    rintro e w1 ⟨⟨A, c, rfl, ho⟩, hb1⟩
    have hta := ToksAt_of_own ho
    have HTa := hide hta
    clear ho HSp
    go_wp2_with fail
    refine (HPa.out w1 A c hb1 hta).mono ?_
    rintro e w2 ⟨⟨B, n, rfl, ho2⟩, hb2⟩
    have hb3 := bel2 hb2 hb1
    have HO2 := hide (own_low ho2 hb1.size)
    simp only at HO2
    clear hta ho2 HPa
    rcases HTa.out.below hb2 with hnil | ⟨g, off, rfl, hg, hc⟩
    · exact absurd h0 (by rw [hnil]; simp)
    obtain ⟨t0, t1, t2, t3⟩ := hc j hjl
    rw [← tk_eq hjl] at t0 t1 t2 t3
    clear hc
    generalize tk ts j = t at *
    obtain ⟨tk0, tk1, tk2, tk3⟩ := t
    simp only at t0 t1 t2 t3 HP
    have HB3 := hide hb3
    by_cases hx : x = 0
    · subst hx
      by_cases hk : tk0 = 0
      · subst hk
        have HE := hide (show parS (bs s) = (es, 0, 0) from HP.out)
        clear HP
        go_wp2
        go_ret3
        rw [HE.out]
        exact ⟨⟨B, n, rfl, HO2.out⟩, HB3.out⟩
      · have HE := hide (show parS (bs s) = ([], tk3, 3) from by rw [HP.out, if_pos rfl, if_neg hk])
        have hkn : (tk0 != 0) = true := by simpa using hk
        clear HP hk
        go_wp2
        go_big_quiet (fail)
        go_wp2
        go_ret3
        rw [HE.out]
        exact ⟨⟨none, 0, rfl, own_nil _ _ _ _⟩, by have := HB3.out; (repeat (first | exact Below.refl _ _ | assumption | refine Below.drew ?_ | refine below_drewN ?_ _ | refine Below.alloc ?_ (by first | omega | simp <;> omega) _ | refine Below.setCell ?_ (by first | omega | simp <;> omega) _))⟩
    · have HE := hide (show parS (bs s) = ([], tk3, x) from by rw [HP.out, if_neg hx])
      have hxb : (x == 0) = false := beq_eq_false_iff_ne.2 hx
      have hxn : (x != 0) = true := by simpa using hx
      clear HP hx
      go_wp2
      go_big_quiet (fail)
      go_wp2
      go_ret3
      rw [HE.out]
      exact ⟨⟨none, 0, rfl, own_nil _ _ _ _⟩, by have := HB3.out; (repeat (first | exact Below.refl _ _ | assumption | refine Below.drew ?_ | refine below_drewN ?_ _ | refine Below.alloc ?_ (by first | omega | simp <;> omega) _ | refine Below.setCell ?_ (by first | omega | simp <;> omega) _))⟩
end Go.Proofs.YtlfedcbihbigoaaGreatDoor
