/- Contracts: named, primary of ref8's parser. Contracts: compare of ref8's parser. Contracts: call of ref8's parser. Contracts: every level of ref8's parser, whatever the fuel; ref8.ParseAt. -/
import Derived.Test.YtlfedcbihbigoaaGreatDoorBaseVX
import Derived.Test.YtlfedcbihbigoaaGreatDoorRsDF
import Derived.Test.YtlfedcbihbigoaaGreatDoorPsJM
set_option linter.unusedVariables false
set_option linter.unusedSimpArgs false
namespace Go.Proofs.YtlfedcbihbigoaaGreatDoor
open Go.RowKit
/-- call of the reference's parser. -/
def CallR (F P : Nat) (A : Option Addr) (ts : List Tok) (c : Nat) : Prop := ∀ (W : World) (x : Bytes) (i d : Nat), PSt RT W P A ts c i d 0 → i + 2 < ts.length → d ≤ i → x.length ≤ 64 → (ts.length - (i + 2)) * 10 + 9 ≤ F →
  Calls Tryz.prog 198 #[.pointer (some ⟨P, 0, none⟩), str x] W (PPost RT W P A ts c i d (callP (fun l i d => prs ts F l i d) ts x (i + 2) (d + 1)))
/-- named of the reference's parser. -/
def NamR (F P : Nat) (A : Option Addr) (ts : List Tok) (c : Nat) : Prop := ∀ (W : World) (i d : Nat), PSt RT W P A ts c i d 0 → i < ts.length → d ≤ i → begB ts i = true → (tk ts i).kind = 1 → (ts.length - i) * 10 ≤ F →
  Calls Tryz.prog 196 #[.pointer (some ⟨P, 0, none⟩), str (tk ts i).text] W (PPost RT W P A ts c i d (namP (fun l i d => prs ts F l i d) ts i d))
theorem prs_8n (ts : List Tok) (F i d : Nat) : prs ts (F + 1) 8 i d = if (tk ts i).kind = 2 then .ok [cNd 2 (tk ts i).num []] (i + 1)
  else if (tk ts i).kind = 3 then .ok [cNd 3 0 (tk ts i).text] (i + 1)
  else if (tk ts i).kind = 4 then .ok [cNd 4 (tk ts i).num []] (i + 1)
  else if (tk ts i).kind = 5 then (prs ts F 0 (i + 1) (d + 1)).bind fun es j => if isSym (tk ts j) [41] = true then .ok es (j + 1) else .err 3 j
  else namP (fun l i d => prs ts F l i d) ts i d := rfl
theorem name_beg {ts : List Tok} {i : Nat} (hb : begB ts i = true) (hk : (tk ts i).kind = 1) (h1 : ¬ (tk ts i).text = wNull) (h2 : ¬ (tk ts i).text = wTrue) (h3 : ¬ (tk ts i).text = wFalse) :
    resB (tk ts i).text = false ∧ (isSym (tk ts (i + 1)) [40] = false → isNameB 24 (tk ts i).text = true) := by
  unfold begB at hb
  rw [if_neg (by rw [hk]; decide), if_pos hk, if_neg (fun h => h.elim h1 (fun h => h.elim h2 h3))] at hb
  simp only [Bool.and_eq_true, Bool.not_eq_true', Bool.or_eq_true] at hb
  exact ⟨hb.1, fun h => by rcases hb.2 with h2 | h2; · rw [h] at h2; cases h2
                           · exact h2⟩
set_option maxRecDepth 100000 in
set_option maxHeartbeats 2000000 in
theorem r_named (F P : Nat) (A : Option Addr) (ts : List Tok) (c : Nat) (hv : valT ts = true) (hlen : ts.length ≤ 1000000) (hCl : CallR F P A ts c) : NamR F P A ts c := by
  intro W i d hS hi hd hb hk hF
  have hi1 := tk_next hv hi (beg_kind hb)
  have hsh := tk_short hv hi
  have hnb := name_beg hb hk
  have hi2 := fun (h : isSym (tk ts (i + 1)) [40] = true) => sym_next hv hi1 h
  have hP := hS.lt
  have HPk := hide (fun (X : World) (hb : Below W.heap.size W X) => r_peek X P A ts c i d 0 (hS.below hb) 1 hi1 hlen)
  have HRs := hide (fun (X : World) => ref7_Reserved_any ⟨(tk ts i).text.toArray⟩ X)
  have HNm := hide (fun (X : World) => ref5_IsName_any ⟨(tk ts i).text.toArray⟩ X)
  have hbs : bs ⟨(tk ts i).text.toArray⟩ = (tk ts i).text := rfl
  rw [hbs] at HRs HNm
  obtain ⟨c0, c1, c2, c3⟩ := hS.cells
  have hfr := hS.free
  have HS := hide hS
  have HCl := hide hCl
  clear hS hCl hb hbs
  unfold namP
  generalize tk ts i = t at *
  obtain ⟨tk0, tk1, tk2, tk3⟩ := t
  simp only at hk hsh hnb HRs HNm ⊢
  clear hk
  by_cases qNull : tk1 = wNull
  · rw [if_pos qNull]
    subst qNull
    unfold wNull at *
    clear HPk HRs HNm hnb hi2
    go_enter Tryz.func196, Tryz.ntmps196
    go_wp2_with fail
    refine (r_constant ⟨0, 0, []⟩ _).mono ?_
    rintro e3 w3 ⟨⟨B, n, rfl, ho⟩, hb3⟩
    have HS3 := hide (((HS.out.setAt (i + 1)).below (by (repeat (first | exact Below.refl _ _ | assumption | refine Below.drew ?_ | refine below_drewN ?_ _ | refine Below.alloc ?_ (by first | omega | simp <;> omega) _ | refine Below.setCell ?_ (by first | omega | simp <;> omega) _)))).below hb3)
    have HG3 := hide (gr_bel (gr_bel (gr_set (World.grownBy.refl W (some P)) 1 (.int .i64 ((i + 1 : Nat) : Int))) (by (repeat (first | exact Below.refl _ _ | assumption | refine Below.drew ?_ | refine below_drewN ?_ _ | refine Below.alloc ?_ (by first | omega | simp <;> omega) _ | refine Below.setCell ?_ (by first | omega | simp <;> omega) _)))) hb3)
    have HO3 := hide (own_low ho (b2 := W.heap.size) (by simp))
    clear ho c0 c1 c2 c3
    go_wp2
    go_ret
    exact ⟨HG3.out, ⟨B, n, rfl, HO3.out⟩, HS3.out⟩
  rw [if_neg qNull]
  have rNull : (tk1 == wNull) = false := beq_eq_false_iff_ne.2 qNull
  unfold wNull at rNull
  by_cases qTrue : tk1 = wTrue
  · rw [if_pos qTrue]
    subst qTrue
    unfold wTrue at *
    clear HPk HRs HNm hnb hi2
    go_enter Tryz.func196, Tryz.ntmps196
    go_wp2_with fail
    refine (r_constant ⟨1, 1, []⟩ _).mono ?_
    rintro e3 w3 ⟨⟨B, n, rfl, ho⟩, hb3⟩
    have HS3 := hide (((HS.out.setAt (i + 1)).below (by (repeat (first | exact Below.refl _ _ | assumption | refine Below.drew ?_ | refine below_drewN ?_ _ | refine Below.alloc ?_ (by first | omega | simp <;> omega) _ | refine Below.setCell ?_ (by first | omega | simp <;> omega) _)))).below hb3)
    have HG3 := hide (gr_bel (gr_bel (gr_set (World.grownBy.refl W (some P)) 1 (.int .i64 ((i + 1 : Nat) : Int))) (by (repeat (first | exact Below.refl _ _ | assumption | refine Below.drew ?_ | refine below_drewN ?_ _ | refine Below.alloc ?_ (by first | omega | simp <;> omega) _ | refine Below.setCell ?_ (by first | omega | simp <;> omega) _)))) hb3)
    have HO3 := hide (own_low ho (b2 := W.heap.size) (by simp))
    clear ho c0 c1 c2 c3
    go_wp2
    go_ret
    exact ⟨HG3.out, ⟨B, n, rfl, HO3.out⟩, HS3.out⟩
  rw [if_neg qTrue]
  have rTrue : (tk1 == wTrue) = false := beq_eq_false_iff_ne.2 qTrue
  unfold wTrue at rTrue
  by_cases qFalse : tk1 = wFalse
  · rw [if_pos qFalse]
    subst qFalse
    unfold wFalse at *
    clear HPk HRs HNm hnb hi2
    go_enter Tryz.func196, Tryz.ntmps196
    go_wp2_with fail
    refine (r_constant ⟨1, 0, []⟩ _).mono ?_
    rintro e3 w3 ⟨⟨B, n, rfl, ho⟩, hb3⟩
    have HS3 := hide (((HS.out.setAt (i + 1)).below (by (repeat (first | exact Below.refl _ _ | assumption | refine Below.drew ?_ | refine below_drewN ?_ _ | refine Below.alloc ?_ (by first | omega | simp <;> omega) _ | refine Below.setCell ?_ (by first | omega | simp <;> omega) _)))).below hb3)
    have HG3 := hide (gr_bel (gr_bel (gr_set (World.grownBy.refl W (some P)) 1 (.int .i64 ((i + 1 : Nat) : Int))) (by (repeat (first | exact Below.refl _ _ | assumption | refine Below.drew ?_ | refine below_drewN ?_ _ | refine Below.alloc ?_ (by first | omega | simp <;> omega) _ | refine Below.setCell ?_ (by first | omega | simp <;> omega) _)))) hb3)
    have HO3 := hide (own_low ho (b2 := W.heap.size) (by simp))
    clear ho c0 c1 c2 c3
    go_wp2
    go_ret
    exact ⟨HG3.out, ⟨B, n, rfl, HO3.out⟩, HS3.out⟩
  rw [if_neg qFalse]
  have rFalse : (tk1 == wFalse) = false := beq_eq_false_iff_ne.2 qFalse
  unfold wFalse at rFalse
  obtain ⟨hrs, hnm⟩ := hnb qNull qTrue qFalse
  clear qNull qTrue qFalse hnb
  rw [hrs] at HRs
  by_cases hp : isSym (tk ts (i + 1)) [40] = true
  · rw [if_pos hp]
    have hi3 := hi2 hp
    clear hi2
    have hp5 := isSym_kind hp
    have hpt := isSym_text hp
    clear hp hnm HNm
    generalize tk ts (i + 1) = u at *
    obtain ⟨uk0, uk1, uk2, uk3⟩ := u
    simp only at hp5 hpt
    subst hp5 hpt
    go_enter Tryz.func196, Tryz.ntmps196
    go_wp2_with (go_at_call 106; refine (HRs.out _).mono ?_; rintro e9 w5 ⟨rfl, hb5⟩)
    refine (HPk.out w5 hb5).mono ?_
    rintro e w6 ⟨rfl, hb6⟩
    have hb7 := bel2 hb6 hb5
    have hz7 := hb7.size
    clear HPk HRs
    go_wp2_with fail
    refine (HCl.out _ tk1 i d (HS.out.below (by (repeat (first | exact Below.refl _ _ | assumption | refine Below.drew ?_ | refine below_drewN ?_ _ | refine Below.alloc ?_ (by first | omega | simp <;> omega) _ | refine Below.setCell ?_ (by first | omega | simp <;> omega) _)))) hi3 hd hsh (by omega)).mono ?_
    intro e8 w8 h8
    obtain ⟨v, rfl⟩ := h8.ret
    have HR := hide (h8.up (show W.grownBy _ (some P) from grown_of_below (by (repeat (first | exact Below.refl _ _ | assumption | refine Below.drew ?_ | refine below_drewN ?_ _ | refine Below.alloc ?_ (by first | omega | simp <;> omega) _ | refine Below.setCell ?_ (by first | omega | simp <;> omega) _)))))
    clear h8
    go_wp2
    go_ret
    exact HR.out
  · rw [if_neg hp]
    have hp0 : isSym (tk ts (i + 1)) [40] = false := by simpa using hp
    have hnt := hnm hp0
    rw [hnt] at HNm
    clear hp hnm hnt hi2
    generalize tk ts (i + 1) = u at *
    obtain ⟨uk0, uk1, uk2, uk3⟩ := u
    have hpp : (uk0 == 5) = false ∨ (uk0 = 5 ∧ (uk1 == [40]) = false) := by
      unfold isSym at hp0
      by_cases h : uk0 = 5
      · right
        subst h
        exact ⟨rfl, by simpa using hp0⟩
      · left
        exact beq_eq_false_iff_ne.2 h
    clear hp0
    rcases hpp with h5 | ⟨rfl, h4⟩
    all_goals
      go_enter Tryz.func196, Tryz.ntmps196
      go_wp2_with (first
        | (go_at_call 106; refine (HRs.out _).mono ?_; rintro e9 w5 ⟨rfl, hb5⟩)
        | (go_at_call 93; refine (HPk.out w5 hb5).mono ?_; rintro e w6 ⟨rfl, hb6⟩; have hb7 := bel2 hb6 hb5; have hz7 := hb7.size; clear c0 c1 c2 c3; obtain ⟨c0, c1, c2, c3⟩ := (HS.out.below hb7).cells; have hfr := (HS.out.below hb7).free; have hP9 := (HS.out.below hb7).lt)
        | (go_at_call 105; refine (HNm.out _).mono ?_; rintro e w8 ⟨rfl, rfl⟩))
      go_ret
      exact ⟨gr_bel (gr_set (grown_of_below (r := some P) hb7) 1 (.int .i64 ((i + 1 : Nat) : Int))) (by (repeat (first | exact Below.refl _ _ | assumption | refine Below.drew ?_ | refine below_drewN ?_ _ | refine Below.alloc ?_ (by first | omega | simp <;> omega) _ | refine Below.setCell ?_ (by first | omega | simp <;> omega) _))), ⟨_, 1, by first | rfl | (simp; done), own_fresh _ (by first | (simp; omega) | omega) (by simp) (by show 1 ≤ maxLen; decide)⟩, ((HS.out.below hb7).setAt (i + 1)).below (by (repeat (first | exact Below.refl _ _ | assumption | refine Below.drew ?_ | refine below_drewN ?_ _ | refine Below.alloc ?_ (by first | omega | simp <;> omega) _ | refine Below.setCell ?_ (by first | omega | simp <;> omega) _)))⟩
set_option maxRecDepth 100000 in
set_option maxHeartbeats 2000000 in
theorem r_primary (F P : Nat) (A : Option Addr) (ts : List Tok) (c : Nat) (hv : valT ts = true) (hlen : ts.length ≤ 1000000) (hO : LvR 32 F 0 P A ts c) (hNa : NamR F P A ts c) : PrR (F + 1) P A ts c := by
  intro W i d hS hi hd hbeg hm hF
  have hi1 := tk_next hv hi (beg_kind hbeg)
  have hnm := fun k2 k3 k4 k5 => beg_name hbeg k2 k3 k4 k5
  have hpa : (tk ts i).kind = 5 → isSym (tk ts i) [40] = true := fun h5 => by
    unfold begB at hbeg
    rw [if_neg (by rw [h5]; decide), if_neg (by rw [h5]; decide), hm] at hbeg
    simpa using hbeg
  have hnc := fun (h1 : (tk ts i).kind = 1) (X : World) (hS : PSt RT X P A ts c i d 0) => hNa X i d hS hi hd hbeg h1 (by omega)
  have HPk := hide (r_peek W P A ts c i d 0 hS 0 hi hlen)
  rw [Nat.add_zero] at HPk
  have HIs := hide (fun (X : World) (hb : Below W.heap.size W X) => r_is X P A ts c i d 0 (hS.below hb) hi hlen [40])
  rw [prs_8n]
  have hP := hS.lt
  have HS := hide hS
  have HO := hide hO
  have HNc := hide hnc
  clear hS hO hNa hnc hbeg hm
  have HNp : namP (fun l i d => prs ts F l i d) ts i d = namP (fun l i d => prs ts F l i d) ts i d := rfl
  generalize namP (fun l i d => prs ts F l i d) ts i d = np at *
  clear HNp
  have hIv : ((0 : Int) == 0 && ((tk ts i).kind == 5 && (tk ts i).text == [40])) = isSym (tk ts i) [40] := by simp [isSym]
  rw [hIv] at HIs
  clear hIv
  generalize isSym (tk ts i) [40] = bp at *
  generalize tk ts i = t at *
  obtain ⟨tk0, tk1, tk2, tk3⟩ := t
  simp only at hnm hpa HNc ⊢
  by_cases k2 : tk0 = 2
  · rw [if_pos k2]
    subst k2
    clear hnm hpa HNc HIs
    go_enter Tryz.func194, Tryz.ntmps194
    go_wp2_with fail
    refine HPk.out.mono ?_
    rintro e w1 ⟨rfl, hb1⟩
    have hz1 := hb1.size
    have hS1 := HS.out.below hb1
    obtain ⟨c0, c1, c2, c3⟩ := hS1.cells
    have hP1 := hS1.lt
    have hfr := hS1.free
    clear hS1
    go_wp2_with fail
    refine (r_constant ⟨2, tk2, []⟩ _).mono ?_
    rintro e3 w3 ⟨⟨B, n, rfl, ho⟩, hb3⟩
    have HS3 := hide ((((HS.out.below hb1).setAt (i + 1)).below (by (repeat (first | exact Below.refl _ _ | assumption | refine Below.drew ?_ | refine below_drewN ?_ _ | refine Below.alloc ?_ (by first | omega | simp <;> omega) _ | refine Below.setCell ?_ (by first | omega | simp <;> omega) _)))).below hb3)
    have HG3 := hide (gr_bel (gr_bel (gr_set (grown_of_below (r := some P) hb1) 1 (.int .i64 ((i + 1 : Nat) : Int))) (by (repeat (first | exact Below.refl _ _ | assumption | refine Below.drew ?_ | refine below_drewN ?_ _ | refine Below.alloc ?_ (by first | omega | simp <;> omega) _ | refine Below.setCell ?_ (by first | omega | simp <;> omega) _)))) hb3)
    have HO3 := hide (own_low ho (b2 := W.heap.size) (by simp; omega))
    clear ho c0 c1 c2 c3
    go_wp2
    go_ret
    exact ⟨HG3.out, ⟨B, n, rfl, HO3.out⟩, HS3.out⟩
  rw [if_neg k2]
  have b2 : (tk0 == 2) = false := beq_eq_false_iff_ne.2 k2
  by_cases k3 : tk0 = 3
  · rw [if_pos k3]
    subst k3
    clear hnm hpa HNc HIs
    go_enter Tryz.func194, Tryz.ntmps194
    go_wp2_with fail
    refine HPk.out.mono ?_
    rintro e w1 ⟨rfl, hb1⟩
    have hz1 := hb1.size
    have hS1 := HS.out.below hb1
    obtain ⟨c0, c1, c2, c3⟩ := hS1.cells
    have hP1 := hS1.lt
    have hfr := hS1.free
    clear hS1
    go_wp2_with fail
    refine (r_constant ⟨3, 0, tk1⟩ _).mono ?_
    rintro e3 w3 ⟨⟨B, n, rfl, ho⟩, hb3⟩
    have HS3 := hide ((((HS.out.below hb1).setAt (i + 1)).below (by (repeat (first | exact Below.refl _ _ | assumption | refine Below.drew ?_ | refine below_drewN ?_ _ | refine Below.alloc ?_ (by first | omega | simp <;> omega) _ | refine Below.setCell ?_ (by first | omega | simp <;> omega) _)))).below hb3)
    have HG3 := hide (gr_bel (gr_bel (gr_set (grown_of_below (r := some P) hb1) 1 (.int .i64 ((i + 1 : Nat) : Int))) (by (repeat (first | exact Below.refl _ _ | assumption | refine Below.drew ?_ | refine below_drewN ?_ _ | refine Below.alloc ?_ (by first | omega | simp <;> omega) _ | refine Below.setCell ?_ (by first | omega | simp <;> omega) _)))) hb3)
    have HO3 := hide (own_low ho (b2 := W.heap.size) (by simp; omega))
    clear ho c0 c1 c2 c3
    go_wp2
    go_ret
    exact ⟨HG3.out, ⟨B, n, rfl, HO3.out⟩, HS3.out⟩
  rw [if_neg k3]
  have b3 : (tk0 == 3) = false := beq_eq_false_iff_ne.2 k3
  by_cases k4 : tk0 = 4
  · rw [if_pos k4]
    subst k4
    clear hnm hpa HNc HIs
    go_enter Tryz.func194, Tryz.ntmps194
    go_wp2_with fail
    refine HPk.out.mono ?_
    rintro e w1 ⟨rfl, hb1⟩
    have hz1 := hb1.size
    have hS1 := HS.out.below hb1
    obtain ⟨c0, c1, c2, c3⟩ := hS1.cells
    have hP1 := hS1.lt
    have hfr := hS1.free
    clear hS1
    go_wp2_with fail
    refine (r_constant ⟨4, tk2, []⟩ _).mono ?_
    rintro e3 w3 ⟨⟨B, n, rfl, ho⟩, hb3⟩
    have HS3 := hide ((((HS.out.below hb1).setAt (i + 1)).below (by (repeat (first | exact Below.refl _ _ | assumption | refine Below.drew ?_ | refine below_drewN ?_ _ | refine Below.alloc ?_ (by first | omega | simp <;> omega) _ | refine Below.setCell ?_ (by first | omega | simp <;> omega) _)))).below hb3)
    have HG3 := hide (gr_bel (gr_bel (gr_set (grown_of_below (r := some P) hb1) 1 (.int .i64 ((i + 1 : Nat) : Int))) (by (repeat (first | exact Below.refl _ _ | assumption | refine Below.drew ?_ | refine below_drewN ?_ _ | refine Below.alloc ?_ (by first | omega | simp <;> omega) _ | refine Below.setCell ?_ (by first | omega | simp <;> omega) _)))) hb3)
    have HO3 := hide (own_low ho (b2 := W.heap.size) (by simp; omega))
    clear ho c0 c1 c2 c3
    go_wp2
    go_ret
    exact ⟨HG3.out, ⟨B, n, rfl, HO3.out⟩, HS3.out⟩
  rw [if_neg k4]
  have b4 : (tk0 == 4) = false := beq_eq_false_iff_ne.2 k4
  by_cases k5 : tk0 = 5
  rotate_left
  · rw [if_neg k5]
    have k1 := hnm k2 k3 k4 k5
    subst k1
    have HNc2 := hide (HNc.out rfl)
    clear hnm hpa HNc HIs k2 k3 k4 k5 b2 b3 b4
    go_enter Tryz.func194, Tryz.ntmps194
    go_wp2_with fail
    refine HPk.out.mono ?_
    rintro e w1 ⟨rfl, hb1⟩
    have hz1 := hb1.size
    go_wp2_with fail
    refine (HNc2.out _ (HS.out.below (by (repeat (first | exact Below.refl _ _ | assumption | refine Below.drew ?_ | refine below_drewN ?_ _ | refine Below.alloc ?_ (by first | omega | simp <;> omega) _ | refine Below.setCell ?_ (by first | omega | simp <;> omega) _))))).mono ?_
    intro e8 w8 h8
    obtain ⟨v, rfl⟩ := h8.ret
    have HR := hide (h8.up (show W.grownBy _ (some P) from grown_of_below (by (repeat (first | exact Below.refl _ _ | assumption | refine Below.drew ?_ | refine below_drewN ?_ _ | refine Below.alloc ?_ (by first | omega | simp <;> omega) _ | refine Below.setCell ?_ (by first | omega | simp <;> omega) _)))))
    clear h8
    go_wp2
    go_ret
    exact HR.out
  rw [if_pos k5]
  have hbp := hpa k5
  subst k5 hbp
  clear hnm hpa HNc k2 k3 k4 b2 b3 b4
  have hff := prs_fact hv F 0 (i + 1) (d + 1) hi1 (fun e => absurd e (by omega))
  have HCal := hide (show ∀ W' : World, Below W.heap.size W W' → ∀ X : World, Below ((W'.setCell ⟨P, 1, none⟩ (.int .i64 ((i + 1 : Nat) : Int))).setCell ⟨P, 2, none⟩ (.int .i64 ((d + 1 : Nat) : Int))).heap.size ((W'.setCell ⟨P, 1, none⟩ (.int .i64 ((i + 1 : Nat) : Int))).setCell ⟨P, 2, none⟩ (.int .i64 ((d + 1 : Nat) : Int))) X → Calls Tryz.prog 32 #[.pointer (some ⟨P, 0, none⟩)] X (fun e2 w2 => ∃ (B2 : Option Addr) (n2 : Nat) (fs : List Nd) (k d3 : Nat) (x2 : Int), e2 = .returned (.slice B2 fs.length n2) ∧ w2.ownsRow W.heap.size 53 6 (.slice B2 fs.length n2) fs.length (ndCells fs) ∧ PSt RT w2 P A ts c k (d3 + 1) x2 ∧ W.grownBy w2 (some P) ∧ i + 1 ≤ k ∧ k < ts.length ∧ fs.length ≤ k - (i + 1) ∧
      ((x2 = 0 ∧ d3 = d ∧ i + 1 < k ∧ prs ts F 0 (i + 1) (d + 1) = .ok fs k) ∨ (x2 ≠ 0 ∧ prs ts F 0 (i + 1) (d + 1) = .err x2 k ∧ d ≤ d3 ∧ d3 ≤ k))) from fun W' hbW X hb =>
    (HO.out X (i + 1) (d + 1) ((((HS.out.below hbW).setAt (i + 1)).setDepth (d + 1)).below hb) hi1 (by omega) (fun e => absurd e (by omega)) (by omega)).mono fun e2 w2 h => by
      obtain ⟨B2, n2, fs, k, d2, x2, h1, h2, h3, h4, h5, h6, h7, h8⟩ := ppost_open hff h
      have hgg := gr_bel (gr_set (gr_set (grown_of_below (r := some P) hbW) 1 (.int .i64 ((i + 1 : Nat) : Int))) 2 (.int .i64 ((d + 1 : Nat) : Int))) hb
      obtain ⟨d3, rfl⟩ : ∃ d3, d2 = d3 + 1 := ⟨d2 - 1, by rcases h8 with h8 | h8 <;> omega⟩
      exact ⟨B2, n2, fs, k, d3, x2, h1, own_low h2 hgg.size, h3, hgg.trans h4, h5, h6, h7, by rcases h8 with ⟨q1, q2, q3, q4⟩ | ⟨q1, q2, q3⟩; exact .inl ⟨q1, by omega, q3, q4⟩; exact .inr ⟨q1, q2, by omega, by omega⟩⟩)
  clear hff
  generalize prs ts F 0 (i + 1) (d + 1) = r at *
  go_enter Tryz.func194, Tryz.ntmps194
  go_wp2_with fail
  refine HPk.out.mono ?_
  rintro e w1 ⟨rfl, hb1⟩
  have hz1 := hb1.size
  go_wp2_with fail
  refine (HIs.out _ (by (repeat (first | exact Below.refl _ _ | assumption | refine Below.drew ?_ | refine below_drewN ?_ _ | refine Below.alloc ?_ (by first | omega | simp <;> omega) _ | refine Below.setCell ?_ (by first | omega | simp <;> omega) _)))).mono ?_
  rintro e w2 ⟨rfl, hb2⟩
  have hbW : Below W.heap.size W w2 := bel2 hb2 (by (repeat (first | exact Below.refl _ _ | assumption | refine Below.drew ?_ | refine below_drewN ?_ _ | refine Below.alloc ?_ (by first | omega | simp <;> omega) _ | refine Below.setCell ?_ (by first | omega | simp <;> omega) _)))
  have hzW := hbW.size
  have hS1 := HS.out.below hbW
  obtain ⟨c0, c1, c2, c3⟩ := hS1.cells
  have hP1 := hS1.lt
  have hfr := hS1.free
  clear hS1
  go_wp2_with fail
  refine (HCal.out w2 hbW _ (by (repeat (first | exact Below.refl _ _ | assumption | refine Below.drew ?_ | refine below_drewN ?_ _ | refine Below.alloc ?_ (by first | omega | simp <;> omega) _ | refine Below.setCell ?_ (by first | omega | simp <;> omega) _)))).mono ?_
  rintro e2 w3 ⟨B2, n2, fs, k, d3, x2, rfl, ho2, hS3, hg3, hjk, hkl, hfl, hD2⟩
  have hd3 : d3 ≤ 1000000 := by rcases hD2 with ⟨_, q2, _⟩ | ⟨_, _, _, q2⟩ <;> omega
  clear c0 c1 c2 c3 hfr HCal
  obtain ⟨c0, c1, c2, c3⟩ := hS3.cells
  have hP3 := hS3.lt
  have hfr := hS3.free
  have HS4 := hide (hS3.setDepth d3)
  have HG4 := hide (gr_set hg3 2 (.int .i64 (d3 : Int)))
  have HO4 := hide (own_fr ho2 (gr_set (World.grownBy.refl w3 (some P)) 2 (.int .i64 (d3 : Int))) hP)
  have hDD := hide hD2
  clear hS3 hg3 ho2 hD2
  generalize hX4 : w3.setCell ⟨P, 2, none⟩ (.int .i64 (d3 : Int)) = X4 at *
  have HX4 := hide hX4
  clear hX4
  by_cases hx : x2 = 0
  · rcases hDD.out with ⟨_, hdd, hik, hr⟩ | ⟨h, _⟩
    rotate_left
    · exact absurd hx h
    subst hx hdd
    by_cases hs : isSym (tk ts k) [41] = true
    · have hE : (r.bind fun es j => if isSym (tk ts j) [41] = true then PR.ok es (j + 1) else PR.err 3 j) = .ok fs (k + 1) := by rw [hr]; simp only [PR.bind]; rw [if_pos hs]
      have HE := hide hE
      have HSk := hide (r_take_yes X4 P A ts c k d3 HS4.out hkl hlen [41] hs)
      clear hE hr hs hDD
      go_wp2_with fail
      rw [HX4.out]
      refine HSk.out.mono ?_
      rintro e5 w5 ⟨rfl, hS5, hg5⟩
      have HS5 := hide hS5
      have HG5 := hide (HG4.out.trans hg5)
      have HO5 := hide (own_fr HO4.out hg5 hP)
      clear hS5 hg5
      go_wp2
      go_ret
      rw [HE.out]
      exact ⟨HG5.out, ⟨B2, n2, rfl, HO5.out⟩, HS5.out⟩
    · have hE : (r.bind fun es j => if isSym (tk ts j) [41] = true then PR.ok es (j + 1) else PR.err 3 j) = .err 3 k := by rw [hr]; simp only [PR.bind]; rw [if_neg hs]
      have HE := hide hE
      have hsb : isSym (tk ts k) [41] = false := by simpa using hs
      have HSk := hide (r_take_no X4 P A ts c k d3 HS4.out hkl hlen [41] hsb)
      clear hE hr hs hDD hsb
      go_wp2_with fail
      rw [HX4.out]
      refine HSk.out.mono ?_
      rintro e5 w5 ⟨rfl, hS5, hg5⟩
      have HS5 := hide hS5
      have HG5 := hide (HG4.out.trans hg5)
      have HO5 := hide (own_fr HO4.out hg5 hP)
      clear hS5 hg5
      go_wp2
      go_ret
      rw [HE.out]
      exact ⟨HG5.out, fs, d3, ⟨B2, n2, rfl, HO5.out⟩, by omega, by omega, ⟨by omega, by omega⟩, HS5.out⟩
  · rcases hDD.out with ⟨h, _⟩ | ⟨_, hr, hd4⟩
    · exact absurd h hx
    have hE : (r.bind fun es j => if isSym (tk ts j) [41] = true then PR.ok es (j + 1) else PR.err 3 j) = .err x2 k := by rw [hr]; rfl
    have HE := hide hE
    have HSk := hide (r_take_err X4 P A ts c k d3 x2 HS4.out hx hkl hlen [41])
    clear hE hr hDD
    go_wp2_with fail
    rw [HX4.out]
    refine HSk.out.mono ?_
    rintro e5 w5 ⟨rfl, hb5⟩
    have HS5 := hide (HS4.out.below hb5)
    have HG5 := hide (gr_bel HG4.out hb5)
    have HO5 := hide (own_below HO4.out hb5)
    go_wp2
    go_ret
    rw [HE.out]
    exact ⟨HG5.out, fs, d3, ⟨B2, n2, rfl, HO5.out⟩, by omega, by omega, hd4, HS5.out⟩
end Go.Proofs.YtlfedcbihbigoaaGreatDoor

namespace Go.Proofs.YtlfedcbihbigoaaGreatDoor
open Go.RowKit
def symN (t : Nat) : Bytes := [[61], [33, 61], [60], [60, 61], [62], [62, 61]].getD t []
def symO (t : Nat) : Int := [10, 11, 12, 13, 12, 13].getD t 0
theorem cmp_hit {t : Tok} {m : Nat} (hm : m < 6) (h : isSym t (symN m) = true) : cmpOf t = some (symO m, decide (4 ≤ m)) := by
  have hx := isSym_text h
  have hk := isSym_kind h
  rw [cmpOf_T, if_pos hk, hx]
  rcases (by omega : m = 0 ∨ m = 1 ∨ m = 2 ∨ m = 3 ∨ m = 4 ∨ m = 5) with rfl | rfl | rfl | rfl | rfl | rfl <;> rfl
theorem cmp_miss {t : Tok} (h : ∀ m, m < 6 → isSym t (symN m) = false) : cmpOf t = none := by
  have h0 : isSym t [61] = false := h 0 (by decide)
  have h1 : isSym t [33, 61] = false := h 1 (by decide)
  have h2 : isSym t [60] = false := h 2 (by decide)
  have h3 : isSym t [60, 61] = false := h 3 (by decide)
  have h4 : isSym t [62] = false := h 4 (by decide)
  have h5 : isSym t [62, 61] = false := h 5 (by decide)
  unfold cmpOf
  simp [h0, h1, h2, h3, h4, h5]
set_option maxRecDepth 100000 in
set_option maxHeartbeats 2000000 in
theorem r_compare (F P : Nat) (A : Option Addr) (ts : List Tok) (c : Nat) (hv : valT ts = true) (hlen : ts.length ≤ 1000000) (IH : LvR 155 F 4 P A ts c) : LvR 125 (F + 1) 3 P A ts c := by
  intro W i d hS hi hd _ hF
  rw [prs_3k]
  have hP := hS.lt
  have HI := hide (show ∀ (X : World) (j : Nat), PSt RT X P A ts c j d 0 → W.grownBy X (some P) → j < ts.length → i ≤ j → Calls Tryz.prog 155 #[.pointer (some ⟨P, 0, none⟩)] X (fun e2 w2 => ∃ (B2 : Option Addr) (n2 : Nat) (fs : List Nd) (k d2 : Nat) (x2 : Int), e2 = .returned (.slice B2 fs.length n2) ∧ w2.ownsRow W.heap.size 53 6 (.slice B2 fs.length n2) fs.length (ndCells fs) ∧ PSt RT w2 P A ts c k d2 x2 ∧ W.grownBy w2 (some P) ∧ X.grownBy w2 (some P) ∧ j ≤ k ∧ k < ts.length ∧ fs.length ≤ k - j ∧
      ((x2 = 0 ∧ d2 = d ∧ j < k ∧ prs ts F 4 j d = .ok fs k) ∨ (x2 ≠ 0 ∧ prs ts F 4 j d = .err x2 k ∧ d ≤ d2 ∧ d2 ≤ k))) from fun X j hx hg hj hij =>
    (IH X j d hx hj (by omega) (fun e => absurd e (by omega)) (by omega)).mono fun e2 w2 h => by
      obtain ⟨B2, n2, fs, k, d2, x2, h1, h2, h3, h4, h5, h6, h7, h8⟩ := ppost_open (prs_fact hv F 4 j d hj (fun e => absurd e (by omega))) h
      exact ⟨B2, n2, fs, k, d2, x2, h1, own_low h2 hg.size, h3, hg.trans h4, h4, h5, h6, h7, h8⟩)
  have HS := hide hS
  clear hS IH
  generalize hr : prs ts F 4 i d = r at *
  have Hr := hide hr
  clear hr
  generalize hRR : r.bind (cmpK ts F d) = R at *
  have HR := hide hRR
  clear hRR
  go_enter Tryz.func125, Tryz.ntmps125
  go_wp2_with fail
  refine (HI.out W i HS.out (World.grownBy.refl _ _) hi (Nat.le_refl _)).mono ?_
  rw [Hr.out]
  rintro e2 w1 ⟨B, n, es, j, d', x, rfl, ho, hs, hg, _, hij, hjl, hel, hD⟩
  have HD := hide (show (x = 0 ∧ d' = d ∧ i < j ∧ cmpK ts F d es j = R) ∨ (x ≠ 0 ∧ R = .err x j ∧ d ≤ d' ∧ d' ≤ j) from by
    have hr := HR.out
    rcases hD with ⟨h1, h2, h3, h4⟩ | ⟨h1, h2, h3⟩
    · rw [h4] at hr; exact .inl ⟨h1, h2, h3, hr⟩
    · rw [h2] at hr; exact .inr ⟨h1, hr.symm, h3⟩)
  have HO := hide ho
  have HSx := hide hs
  have HG := hide hg
  have hz1 := hg.size
  clear ho hs hg hD HR HS Hr
  obtain ⟨hit, HH⟩ : ∃ hit : Nat → Bool, Hid (∀ m, (x == 0 && ((tk ts j).kind == 5 && (tk ts j).text == symN m)) = hit m) := ⟨_, hide fun _ => rfl⟩
  go_wp2
  go_loopw [6] (fun s wr => ∃ m : Nat, s = .int .i64 (m : Int) ∧ m ≤ 6 ∧ Hid (Below w1.heap.size w1 wr) ∧ Hid (wr.heap[w1.heap.size]? = some (.cells #[str (symN 0), str (symN 1), str (symN 2), str (symN 3), str (symN 4), str (symN 5)] 9 (0, 0))) ∧ Hid (wr.heap[w1.heap.size + 1]? = some (.cells #[.int .i64 10, .int .i64 11, .int .i64 12, .int .i64 13, .int .i64 12, .int .i64 13] 3 (0, 0))) ∧ Hid (∀ t, t < m → hit t = false)) (fun s _ => 6 - (intOf s).toNat)
  case atStart =>
    refine ⟨0, rfl, by omega, hide (by (repeat (first | exact Below.refl _ _ | assumption | refine Below.drew ?_ | refine below_drewN ?_ _ | refine Below.alloc ?_ (by first | omega | simp <;> omega) _ | refine Below.setCell ?_ (by first | omega | simp <;> omega) _))), hide ?_, hide ?_, hide fun t ht => absurd ht (by omega)⟩
    · exact (two_under w1 _ _).1
    · exact (two_under w1 _ _).2
  case round =>
    obtain ⟨m, rfl, hm, HBx, HX0, HX1, HT⟩ := hrel
    have hzx : w1.heap.size + 1 < wr.heap.size := (Array.getElem?_eq_some_iff.1 HX1.out).1
    by_cases hm6 : m < 6
    rotate_left
    · obtain rfl : m = 6 := by omega
      have HE := hide (show PPost RT W P A ts c i d R (.returned (.slice B es.length n)) wr from by
        refine ⟨gr_bel HG.out HBx.out, ?_⟩
        rcases HD.out with ⟨h1, h2, h3, h4⟩ | ⟨h1, h2, h3⟩
        · subst h1 h2
          have hc : cmpOf (tk ts j) = none := cmp_miss fun t ht => by
            have := HH.out t
            rw [HT.out t ht] at this
            exact this
          have : R = .ok es j := by rw [← h4]; unfold cmpK; rw [hc]
          rw [this]
          exact ⟨⟨B, n, rfl, own_below HO.out HBx.out⟩, HSx.out.below HBx.out⟩
        · rw [h2]
          exact ⟨es, d', ⟨B, n, rfl, own_below HO.out HBx.out⟩, hij, hel, h3, HSx.out.below HBx.out⟩)
      go_wp2
      go_ret
      exact HE.out
    have hn0 : wr.cell? ⟨w1.heap.size, m, none⟩ = some (str (symN m)) := by
      have h := HX0.out
      rcases (by omega : m = 0 ∨ m = 1 ∨ m = 2 ∨ m = 3 ∨ m = 4 ∨ m = 5) with rfl | rfl | rfl | rfl | rfl | rfl <;> simp [World.cell?, h]
    have HIs := hide (r_is wr P A ts c j d' x (HSx.out.below HBx.out) hjl hlen (symN m))
    rw [HH.out m] at HIs
    by_cases hb : hit m = true
    rotate_left
    · have hb0 : hit m = false := by simpa using hb
      rw [hb0] at HIs
      clear hb
      go_wp2_with (go_at_call 156; refine HIs.out.mono ?_; rintro e9 w9 ⟨rfl, hb9⟩)
      refine ⟨⟨m + 1, by go_num, by omega, hide (HBx.out.trans (hb9.mono HBx.out.size)), hide ((hb9.block _ (by omega)).trans HX0.out), hide ((hb9.block _ (by omega)).trans HX1.out), hide fun t ht => ?_⟩, by simp [intOf]; omega⟩
      rcases (by omega : t < m ∨ t = m) with h | rfl
      · exact HT.out t h
      · exact hb0
    have hh := HH.out m
    rw [hb] at hh HIs
    have hx0 : x = 0 := by
      simp only [Bool.and_eq_true, beq_iff_eq] at hh; exact hh.1
    subst hx0
    have hsy : isSym (tk ts j) (symN m) = true := hh
    have hcm := cmp_hit hm6 hsy
    have hj1 := sym_next hv hjl hsy
    rcases HD.out with ⟨_, hdd, hij2, hG⟩ | ⟨h, _⟩
    rotate_left
    · exact absurd rfl h
    subst hdd
    unfold cmpK at hG
    rw [hcm] at hG
    simp only at hG
    have HE := hide hG
    clear hG hcm hsy hh hb HH HT HD
    have HPX := hide (show ∀ X : World, Below wr.heap.size wr X → PSt RT (X.setCell ⟨P, 1, none⟩ (.int .i64 ((j + 1 : Nat) : Int))) P A ts c (j + 1) d' 0 ∧ W.grownBy (X.setCell ⟨P, 1, none⟩ (.int .i64 ((j + 1 : Nat) : Int))) (some P) ∧ (X.setCell ⟨P, 1, none⟩ (.int .i64 ((j + 1 : Nat) : Int))).ownsRow W.heap.size 53 6 (.slice B es.length n) es.length (ndCells es) ∧ (X.setCell ⟨P, 1, none⟩ (.int .i64 ((j + 1 : Nat) : Int))).heap[w1.heap.size + 1]? = some (.cells #[.int .i64 10, .int .i64 11, .int .i64 12, .int .i64 13, .int .i64 12, .int .i64 13] 3 (0, 0)) from fun X hb => by
      have hb1 : Below w1.heap.size w1 X := HBx.out.trans (hb.mono HBx.out.size)
      exact ⟨(HSx.out.below hb1).setAt (j + 1), gr_set (gr_bel HG.out hb1) 1 _, own_fr (own_below HO.out hb1) (gr_set (World.grownBy.refl X (some P)) 1 (.int .i64 ((j + 1 : Nat) : Int))) hP, (Below.heap_setCell _ _ _ _ (by simp; omega)).trans ((hb.block _ hzx).trans HX1.out)⟩)
    have HCl := hide (fun X (hb : Below wr.heap.size wr X) => (HSx.out.below (HBx.out.trans (hb.mono HBx.out.size))))
    clear HSx HG HO HX0 HX1 HBx
    go_wp2_with (go_at_call 156; refine HIs.out.mono ?_; rintro e9 w9 ⟨rfl, hb9⟩; obtain ⟨c0, c1, c2, c3⟩ := (HCl.out w9 hb9).cells; have hP9 := (HCl.out w9 hb9).lt; have hfr := (HCl.out w9 hb9).free)
    refine (HI.out _ (j + 1) (HPX.out w9 hb9).1 (HPX.out w9 hb9).2.1 hj1 (by omega)).mono ?_
    rintro e2 w2 ⟨B2, n2, fs, k, d2, x2, rfl, ho2, hs2, hg2, hgx, hjk, hkl, hfl, hD2⟩
    have HO2 := hide (own_fr (HPX.out w9 hb9).2.2.1 hgx hP)
    have hX1 := (hgx.block (w1.heap.size + 1) (Array.getElem?_eq_some_iff.1 (HPX.out w9 hb9).2.2.2).1 (by intro e; injection e with e; omega)).trans (HPX.out w9 hb9).2.2.2
    have hn1 : w2.cell? ⟨w1.heap.size + 1, m, none⟩ = some (.int .i64 (symO m)) := by
      rcases (by omega : m = 0 ∨ m = 1 ∨ m = 2 ∨ m = 3 ∨ m = 4 ∨ m = 5) with rfl | rfl | rfl | rfl | rfl | rfl <;> simp [World.cell?, hX1, symO]
    have hzw : w1.heap.size + 1 < w2.heap.size := (Array.getElem?_eq_some_iff.1 hX1).1
    have HJ := hide (fun (o : Int) => r_join w2 B B2 es fs n n2 W.heap.size W.heap.size o HO2.out ho2 (by omega) (by omega))
    have HK := hide (fun (o : Int) => r_join w2 B2 B fs es n2 n W.heap.size W.heap.size o ho2 HO2.out (by omega) (by omega))
    have HS2 := hide hs2
    have HG2 := hide hg2
    have HD2 := hide hD2
    have hz2 := hg2.size
    clear ho2 hs2 hg2 hgx hD2 c0 c1 c2 c3 hfr HPX HI HCl HIs hX1
    by_cases h4 : 4 ≤ m
    · have hE := HE.out
      rw [decide_eq_true h4] at hE
      have HE := hide hE
      clear hE HO2
      go_wp2_with fail
      refine (HK.out (symO m)).mono ?_
      rintro e3 w3 ⟨⟨B3, n3, rfl, ho3⟩, hb3⟩
      have HO3 := hide (own_low ho3 hz2)
      have HS3 := hide (HS2.out.below hb3)
      have HG3 := hide (gr_bel HG2.out hb3)
      clear ho3 HJ HK
      go_wp2
      go_ret
      rcases HD2.out with ⟨e1, e2, e3, e4⟩ | ⟨e1, e4, e5⟩
      · have hE := HE.out
        rw [e4] at hE
        simp only [PR.bind, Bool.false_eq_true, ↓reduceIte] at hE
        rw [← hE]
        subst e1 e2
        exact ⟨HG3.out, ⟨B3, n3, by first | rfl | (simp; done), HO3.out⟩, HS3.out⟩
      · have hE := HE.out
        rw [e4] at hE
        simp only [PR.bind] at hE
        rw [← hE]
        exact ⟨HG3.out, fs ++ es ++ [opNd (symO m)], d2, ⟨B3, n3, by first | rfl | (simp; done), HO3.out⟩, by omega, by simp only [List.length_append, List.length_singleton]; omega, e5, HS3.out⟩
    · have hE := HE.out
      rw [decide_eq_false h4] at hE
      have HE := hide hE
      clear hE HO2
      go_wp2_with fail
      refine (HJ.out (symO m)).mono ?_
      rintro e3 w3 ⟨⟨B3, n3, rfl, ho3⟩, hb3⟩
      have HO3 := hide (own_low ho3 hz2)
      have HS3 := hide (HS2.out.below hb3)
      have HG3 := hide (gr_bel HG2.out hb3)
      clear ho3 HJ HK
      go_wp2
      go_ret
      rcases HD2.out with ⟨e1, e2, e3, e4⟩ | ⟨e1, e4, e5⟩
      · have hE := HE.out
        rw [e4] at hE
        simp only [PR.bind, Bool.false_eq_true, ↓reduceIte] at hE
        rw [← hE]
        subst e1 e2
        exact ⟨HG3.out, ⟨B3, n3, by first | rfl | (simp; done), HO3.out⟩, HS3.out⟩
      · have hE := HE.out
        rw [e4] at hE
        simp only [PR.bind] at hE
        rw [← hE]
        exact ⟨HG3.out, es ++ fs ++ [opNd (symO m)], d2, ⟨B3, n3, by first | rfl | (simp; done), HO3.out⟩, by omega, by simp only [List.length_append, List.length_singleton]; omega, e5, HS3.out⟩
end Go.Proofs.YtlfedcbihbigoaaGreatDoor

namespace Go.Proofs.YtlfedcbihbigoaaGreatDoor
open Go.RowKit
/-- append of nodes to nodes of the call's own, whatever their number. -/
theorem append_nds {w : World} {ops : Array Oper} {rest : List Oper} {o : Oper} {a : Act} {Q : Exit → Act → World → Prop} (hgd : o.guard = none) (s x : Operand)
    (ho : o.op = .call { callee := .builtin .append, args := #[s, x], argTypes := #[30, 30] })
    (base b2 : Nat) (es fs : List Nd) (A B : Option Addr) (n m : Nat) (hs : a.eval s = .slice A es.length n) (hown : w.ownsRow base 53 6 (.slice A es.length n) es.length (ndCells es))
    (hx : a.eval x = .slice B fs.length m) (hsrc : w.ownsRow b2 53 6 (.slice B fs.length m) fs.length (ndCells fs)) (h1 : es.length ≤ 1000000) (h2 : fs.length ≤ 1000000) (hbase : base ≤ w.heap.size)
    (h : ∀ A' n' w', w'.ownsRow base 53 6 (.slice A' (es ++ fs).length n') (es ++ fs).length (ndCells (es ++ fs)) → w.grownBy w' (Value.slice A es.length n).ownBlock → wpList Tryz.prog ops Q rest (a.put o.dst (.slice A' (es ++ fs).length n')) w') : wpList Tryz.prog ops Q (o :: rest) a w := by
  obtain ⟨i0, hi0, hz0, hz1, hz2⟩ := info_parts Tryz.info_nd
  rcases own_addr hsrc with ⟨rfl, l2, rfl⟩ | ⟨gb, rfl⟩
  · obtain rfl : fs = [] := List.eq_nil_of_length_eq_zero l2
    refine wpList_append_own_none hgd s x _ ho base 53 i0 6 Tryz.underlying30 hi0 _ _ _ hs hown hx ?_
    have := h A n w (by rw [List.append_nil]; exact hown) (World.grownBy.refl _ _)
    rw [List.append_nil] at this
    exact this
  · refine wpList_append_own _ hgd s x 30 ho base 53 i0 _ 6 64 Tryz.underlying30 hi0 hz0 hz1 hz2 rfl (by decide) _ _ _ hs hown ⟨gb, 0, none⟩ fs.length m (ndCells fs) hx (ndCells_len _) (orow_cells hsrc).2.2 (nd_one _) (by unfold maxLen; omega) (by omega) hbase ?_
    intro v w' o1 g1 _
    obtain ⟨A', n', rfl⟩ := own_form o1
    have := h A' n' w' (by rw [ndCells_append, List.length_append]; exact o1) g1
    rw [List.length_append] at this
    exact this
theorem PPost.low {T : TypeId} {W : World} {P : Nat} {A : Option Addr} {ts : List Tok} {c b b' d : Nat} {r : PR} {e : Ending} {w1 : World} (h : PPost T W P A ts c b d r e w1) (hb : b' ≤ b) : PPost T W P A ts c b' d r e w1 := by
  obtain ⟨hg, h⟩ := h
  refine ⟨hg, ?_⟩
  cases r with
  | ok es j => exact h
  | err x j => obtain ⟨es, d', h1, h2, h3, h4, h5⟩ := h; exact ⟨es, d', h1, by omega, by omega, h4, h5⟩
  | out => exact h
def fnN (t : Nat) : Bytes := [[105, 102], [99, 111, 97, 108, 101, 115, 99, 101], [105, 115, 110, 117, 108, 108], [108, 101, 110, 103, 116, 104]].getD t []
def fnO (t : Nat) : Int := [17, 18, 16, 19].getD t 0
def lastN (x : Bytes) (n : Nat) : Nat → Nd
  | 0 => ⟨21, vl0, x, n⟩
  | m + 1 => if fnN m = x then opNd (fnO m) else lastN x n m
theorem last_call (x : Bytes) (n : Nat) : callS x n = if n ≤ 8 ∧ (lastN x n 4).ar = n then some (lastN x n 4) else none := by
  by_cases h1 : x = [105, 102]
  · subst h1
    have e : lastN [105, 102] n 4 = opNd 17 := rfl
    have e2 : (opNd 17).ar = 3 := rfl
    have e3 : callS [105, 102] n = if n = 3 then some (opNd 17) else none := rfl
    rw [e, e2, e3]
    by_cases h : n = 3
    · subst h; rfl
    · rw [if_neg h, if_neg (by omega)]
  by_cases h2 : x = [99, 111, 97, 108, 101, 115, 99, 101]
  · subst h2
    have e : lastN [99, 111, 97, 108, 101, 115, 99, 101] n 4 = opNd 18 := rfl
    have e2 : (opNd 18).ar = 2 := rfl
    have e3 : callS [99, 111, 97, 108, 101, 115, 99, 101] n = if n = 2 then some (opNd 18) else none := rfl
    rw [e, e2, e3]
    by_cases h : n = 2
    · subst h; rfl
    · rw [if_neg h, if_neg (by omega)]
  by_cases h3 : x = [105, 115, 110, 117, 108, 108]
  · subst h3
    have e : lastN [105, 115, 110, 117, 108, 108] n 4 = opNd 16 := rfl
    have e2 : (opNd 16).ar = 1 := rfl
    have e3 : callS [105, 115, 110, 117, 108, 108] n = if n = 1 then some (opNd 16) else none := rfl
    rw [e, e2, e3]
    by_cases h : n = 1
    · subst h; rfl
    · rw [if_neg h, if_neg (by omega)]
  by_cases h4 : x = [108, 101, 110, 103, 116, 104]
  · subst h4
    have e : lastN [108, 101, 110, 103, 116, 104] n 4 = opNd 19 := rfl
    have e2 : (opNd 19).ar = 1 := rfl
    have e3 : callS [108, 101, 110, 103, 116, 104] n = if n = 1 then some (opNd 19) else none := rfl
    rw [e, e2, e3]
    by_cases h : n = 1
    · subst h; rfl
    · rw [if_neg h, if_neg (by omega)]
  have e : lastN x n 4 = ⟨21, vl0, x, n⟩ := by
    unfold lastN
    rw [if_neg (fun e => h4 e.symm)]
    unfold lastN
    rw [if_neg (fun e => h3 e.symm)]
    unfold lastN
    rw [if_neg (fun e => h2 e.symm)]
    unfold lastN
    rw [if_neg (fun e => h1 e.symm)]
    rfl
  have e2 : (⟨21, vl0, x, n⟩ : Nd).ar = n := rfl
  have e3 : callS x n = if n ≤ 8 then some ⟨21, vl0, x, n⟩ else none := by
    unfold callS builtS
    rw [if_neg h1, if_neg h2, if_neg h3, if_neg h4]
  rw [e, e2, e3]
  by_cases h : n ≤ 8
  · rw [if_pos h, if_pos ⟨h, rfl⟩]
  · rw [if_neg h, if_neg (fun k => h k.1)]
theorem six_other (w : World) (N k : Nat) (hk : k ≠ N) (b0 b1 b2 b3 b4 b5 : Value) :
    ((((((w.setCell ⟨N, 0, none⟩ b0).setCell ⟨N, 1, none⟩ b1).setCell ⟨N, 2, none⟩ b2).setCell ⟨N, 3, none⟩ b3).setCell ⟨N, 4, none⟩ b4).setCell ⟨N, 5, none⟩ b5).heap[k]? = w.heap[k]? := by
  iterate 6 rw [Below.heap_setCell _ _ _ _ hk]
theorem six_below {B N : Nat} {w X : World} (h : Below B w X) (hN : B ≤ N) (b0 b1 b2 b3 b4 b5 : Value) :
    Below B w ((((((X.setCell ⟨N, 0, none⟩ b0).setCell ⟨N, 1, none⟩ b1).setCell ⟨N, 2, none⟩ b2).setCell ⟨N, 3, none⟩ b3).setCell ⟨N, 4, none⟩ b4).setCell ⟨N, 5, none⟩ b5) :=
  (((((h.setCell hN _).setCell hN _).setCell hN _).setCell hN _).setCell hN _).setCell hN _
theorem paren_comma {t : Tok} (h : isSym t [41] = true) : isSym t [44] = false := by
  unfold isSym
  rw [isSym_text h]
  simp
set_option maxRecDepth 100000 in
set_option maxHeartbeats 4000000 in
theorem r_call_x (F P : Nat) (A : Option Addr) (ts : List Tok) (c : Nat) (hv : valT ts = true) (hlen : ts.length ≤ 1000000) (hO : LvR 32 F 0 P A ts c) (W : World) (x : Bytes) (i d : Nat) (hS : PSt RT W P A ts c i d 0) (hi : i + 2 < ts.length) (hd : d ≤ i) (hx : x.length ≤ 64) (hF : (ts.length - (i + 2)) * 10 + 9 ≤ F) (hday : x ≠ wDay) :
    Calls Tryz.prog 198 #[.pointer (some ⟨P, 0, none⟩), str x] W (PPost RT W P A ts c i d (callP (fun l i d => prs ts F l i d) ts x (i + 2) (d + 1))) := by
  have hP := hS.lt
  have hR : callP (fun l i d => prs ts F l i d) ts x (i + 2) (d + 1) = (if isSym (tk ts (i + 2)) [41] = true then endS x [] 0 (i + 2) else argsG (fun j => prs ts F 0 j (d + 1)) x ts ts.length [] 0 (i + 2)) := by unfold callP; rw [if_neg hday]
  rw [hR]
  clear hR
  have hfact := fun j (hj : j < ts.length) => prs_fact hv F 0 j (d + 1) hj (fun e => absurd e (by omega))
  have HFa := hide hfact
  have hne : (if isSym (tk ts (i + 2)) [41] = true then endS x [] 0 (i + 2) else argsG (fun j => prs ts F 0 j (d + 1)) x ts ts.length [] 0 (i + 2)) ≠ .out := by
    split
    · exact endS_ne
    · exact argsG_ne hv hfact _ _ _ _ hi (by omega) (fun j hj hjl => prs_ne hv F 0 j (d + 1) hjl (by omega) (fun e => absurd e (by omega)) (by omega))
  have HS := hide hS
  have HO := hide hO
  clear hS hO hfact
  have HOr := hide (show ∀ (X : World) (j : Nat), PSt RT X P A ts c j (d + 1) 0 → j < ts.length → i + 2 ≤ j → Calls Tryz.prog 32 #[.pointer (some ⟨P, 0, none⟩)] X (fun e2 w2 => ∃ (B2 : Option Addr) (n2 : Nat) (fs : List Nd) (k d2 : Nat) (x2 : Int), e2 = .returned (.slice B2 fs.length n2) ∧ w2.ownsRow X.heap.size 53 6 (.slice B2 fs.length n2) fs.length (ndCells fs) ∧ PSt RT w2 P A ts c k d2 x2 ∧ X.grownBy w2 (some P) ∧ j ≤ k ∧ k < ts.length ∧ fs.length ≤ k - j ∧
      ((x2 = 0 ∧ d2 = d + 1 ∧ j < k ∧ prs ts F 0 j (d + 1) = .ok fs k) ∨ (x2 ≠ 0 ∧ prs ts F 0 j (d + 1) = .err x2 k ∧ d + 1 ≤ d2 ∧ d2 ≤ k))) from fun X j hx hj hij =>
    (HO.out X j (d + 1) hx hj (by omega) (fun e => absurd e (by omega)) (by omega)).mono fun e2 w2 h => ppost_open (HFa.out j hj) h)
  generalize hq : (fun j => prs ts F 0 j (d + 1)) = q at *
  have HQ := hide (fun j => congrFun hq j)
  clear hq HO
  generalize hRR : (if isSym (tk ts (i + 2)) [41] = true then endS x [] 0 (i + 2) else argsG q x ts ts.length [] 0 (i + 2)) = R at *
  have HD0 := hide (show (isSym (tk ts (i + 2)) [41] = true ∧ R = endS x [] 0 (i + 2)) ∨ (isSym (tk ts (i + 2)) [41] = false ∧ ∃ G, argsG q x ts G [] 0 (i + 2) = R) from by
    by_cases hs : isSym (tk ts (i + 2)) [41] = true
    · rw [if_pos hs] at hRR
      exact .inl ⟨hs, hRR.symm⟩
    · rw [if_neg hs] at hRR
      exact .inr ⟨by simpa using hs, _, hRR⟩)
  clear hRR
  have HPW := hide (show PSt RT ((W.setCell ⟨P, 1, none⟩ (.int .i64 ((i + 2 : Nat) : Int))).setCell ⟨P, 2, none⟩ (.int .i64 ((d + 1 : Nat) : Int))) P A ts c (i + 2) (d + 1) 0 from (HS.out.setAt (i + 2)).setDepth (d + 1))
  have HGW := hide (show W.grownBy ((W.setCell ⟨P, 1, none⟩ (.int .i64 ((i + 2 : Nat) : Int))).setCell ⟨P, 2, none⟩ (.int .i64 ((d + 1 : Nat) : Int))) (some P) from gr_set (gr_set (World.grownBy.refl _ _) 1 _) 2 _)
  have hdb : (x == [100, 97, 121]) = false := beq_eq_false_iff_ne.2 hday
  obtain ⟨i0, hi0, hz0, hz1, hz2⟩ := info_parts Tryz.info_nd
  obtain ⟨c0, c1, c2, c3⟩ := HS.out.cells
  have hfr := HS.out.free
  go_enter Tryz.func198, Tryz.ntmps198
  go_wp2
  clear c0 c1 c2 c3 hfr HS
  go_loopw [5, 6] (fun s n wr => ∃ (B : Option Addr) (nn : Nat) (es : List Nd) (k j d' : Nat) (e : Int), s = .slice B es.length nn ∧ n = .int .i64 (k : Int) ∧ Hid (wr.ownsRow W.heap.size 53 6 (.slice B es.length nn) es.length (ndCells es)) ∧ Hid (PSt RT wr P A ts c j d' e) ∧ Hid (W.grownBy wr (some P)) ∧ i + 2 ≤ j ∧ j < ts.length ∧ es.length ≤ j - i ∧ k ≤ j ∧ Hid ((e = 0 ∧ d' = d + 1 ∧ ((isSym (tk ts j) [41] = true ∧ R = endS x es k j) ∨ (isSym (tk ts j) [41] = false ∧ k = 0 ∧ ∃ G, argsG q x ts G es k j = R) ∨ (isSym (tk ts j) [41] = false ∧ isSym (tk ts j) [44] = true ∧ 0 < k ∧ ∃ G, argsG q x ts G es k (j + 1) = R))) ∨ (e ≠ 0 ∧ R = .err e j ∧ d + 1 ≤ d' ∧ d' ≤ j))) (fun _ _ wr => msr P ts wr)
  case atStart =>
    exact ⟨none, 0, [], 0, i + 2, d + 1, 0, rfl, rfl, hide (own_nil _ _ _ _), HPW, HGW, Nat.le_refl _, hi, by simp, by omega, hide (.inl ⟨rfl, rfl, HD0.out.imp id (fun h => .inl ⟨h.1, rfl, h.2⟩)⟩)⟩
  case round =>
    clear HPW HGW HD0
    obtain ⟨B, nn, es, k, j, d', e, rfl, rfl, HOw, HSr, HGr, hij, hjl, hel, hkj, HD⟩ := hrel
    obtain ⟨c0, c1, c2, c3⟩ := HSr.out.cells
    have hPr := HSr.out.lt
    have hfr := HSr.out.free
    have hWr := HGr.out.size
    have HMs := hide (msr_eq HSr.out)
    by_cases he : e = 0
    rotate_left
    · rcases HD.out with ⟨h, _⟩ | ⟨_, hE, hdE⟩
      · exact absurd h he
      have HE := hide hE
      have hsb : (e == 0 && ((tk ts j).kind == 5 && (tk ts j).text == [41])) = false := by rw [beq_eq_false_iff_ne.2 he]; rfl
      have heb : (e == 0) = false := beq_eq_false_iff_ne.2 he
      have hen : (e != 0) = true := by simpa using he
      have HI := hide (r_is wr P A ts c j d' e HSr.out hjl hlen [41])
      rw [hsb] at HI
      clear hsb hE HD he
      go_wp2_with (go_at_call 156; refine HI.out.mono ?_; rintro e9 w9 ⟨rfl, hb9⟩; clear c0 c1 c2 c3; obtain ⟨c0, c1, c2, c3⟩ := (HSr.out.below hb9).cells; have hP9 := (HSr.out.below hb9).lt)
      go_ret
      rw [HE.out]
      exact ⟨gr_bel HGr.out hb9, [], d', ⟨none, 0, rfl, own_nil _ _ _ _⟩, by omega, by simp, ⟨by omega, by omega⟩, HSr.out.below hb9⟩
    subst he
    have HI := hide (fun y => r_is wr P A ts c j d' 0 HSr.out hjl hlen y)
    rcases HD.out with ⟨_, rfl, hD⟩ | ⟨h, _⟩
    rotate_left
    · exact absurd rfl h
    clear HD
    rcases hD with ⟨hs, hRR⟩ | ⟨hs, hk0, G, hG⟩ | ⟨hs, hs4, hk0, G, hG⟩
    · have hsb : ((0 : Int) == 0 && ((tk ts j).kind == 5 && (tk ts j).text == [41])) = true := hs
      have HI5 := hide (HI.out [41])
      rw [hsb] at HI5
      have hj1 := sym_next hv hjl hs
      have hRR2 : R = (if k ≤ 8 ∧ (lastN x k 4).ar = k then .ok (es ++ [lastN x k 4]) (j + 1) else .err 3 j) := by
        rw [hRR]; unfold endS; rw [last_call]
        by_cases h : k ≤ 8 ∧ (lastN x k 4).ar = k
        · rw [if_pos h, if_pos h]
        · rw [if_neg h, if_neg h]
      have HRR := hide hRR2
      clear hsb hs hRR hRR2 HI
      go_wp2_with (go_at_call 156; refine HI5.out.mono ?_; rintro e9 w9 ⟨rfl, hb9⟩; clear c0 c1 c2 c3; obtain ⟨c0, c1, c2, c3⟩ := (HSr.out.below hb9).cells; have hP9 := (HSr.out.below hb9).lt)
      have HS9 := hide (HSr.out.below hb9)
      have HG9 := hide (gr_bel HGr.out hb9)
      have HO9 := hide (own_below HOw.out hb9)
      have hz9 := hb9.size
      clear HSr HGr HOw HI5 c0 c1 c2 c3 hfr
      go_loopw [10] (fun s wr => ∃ m : Nat, s = .int .i64 (m : Int) ∧ m ≤ 4 ∧ Hid (Below w9.heap.size w9 wr) ∧ Hid (wr.heap[w9.heap.size]? = some (.cells #[str (fnN 0), str (fnN 1), str (fnN 2), str (fnN 3)] 9 (0, 0))) ∧ Hid (wr.heap[w9.heap.size + 1]? = some (.cells #[.int .i64 17, .int .i64 18, .int .i64 16, .int .i64 19] 3 (0, 0))) ∧ Hid (wr.heap[w9.heap.size + 2]? = some (.cells (lastN x k m).cells.toArray 53 (0, 0)))) (fun s _ => 4 - (intOf s).toNat)
      case atStart =>
        refine ⟨0, rfl, by omega, hide (by (repeat (first | exact Below.refl _ _ | assumption | refine Below.drew ?_ | refine below_drewN ?_ _ | refine Below.alloc ?_ (by first | omega | simp <;> omega) _ | refine Below.setCell ?_ (by first | omega | simp <;> omega) _))), hide ?_, hide ?_, hide ?_⟩
        · exact (three_under w9 _ _ _).1
        · exact (three_under w9 _ _ _).2.1
        · exact (three_under w9 _ _ _).2.2
      case round =>
        obtain ⟨m, rfl, hm, HBx, HX0, HX1, HX2⟩ := hrel
        have hzx : w9.heap.size + 2 < wr.heap.size := (Array.getElem?_eq_some_iff.1 HX2.out).1
        by_cases hm4 : m < 4
        · have hn0 : wr.cell? ⟨w9.heap.size, m, none⟩ = some (str (fnN m)) := by
            have h := HX0.out
            rcases (by omega : m = 0 ∨ m = 1 ∨ m = 2 ∨ m = 3) with rfl | rfl | rfl | rfl <;> simp [World.cell?, h]
          have hn1 : wr.cell? ⟨w9.heap.size + 1, m, none⟩ = some (.int .i64 (fnO m)) := by
            have h := HX1.out
            rcases (by omega : m = 0 ∨ m = 1 ∨ m = 2 ∨ m = 3) with rfl | rfl | rfl | rfl <;> simp [World.cell?, h, fnO]
          obtain ⟨nd, hnd⟩ : ∃ nd, lastN x k m = nd := ⟨_, rfl⟩
          rw [hnd] at HX2
          have hnx : lastN x k (m + 1) = if fnN m = x then opNd (fnO m) else nd := by rw [← hnd]; rfl
          clear hnd
          obtain ⟨lop, ⟨lk, ln, lx⟩, lnm, la⟩ := nd
          have hx2 := HX2.out
          simp only [Nd.cells] at hx2
          have hf2 := free6 hx2
          obtain ⟨l0, l1, l2, l3, l4, l5⟩ := cells6 hx2
          have HX22 := hide (fun o => six_set hx2 (.int .i64 o) (.int .i64 0) (.int .i64 0) (str []) (str []) (.int .i64 0))
          have HNx := hide hnx
          clear hx2 hnx
          generalize fnN m = nm at *
          generalize fnO m = no at *
          by_cases hq : nm = x
          · have hqb : (nm == x) = true := beq_iff_eq.2 hq
            have HL := hide (HNx.out.trans (if_pos hq))
            clear hq HNx
            go_wp2
            refine ⟨⟨m + 1, by go_num, by omega, hide ?_, hide ?_, hide ?_, hide ?_⟩, ?_⟩
            · exact six_below HBx.out (by omega) _ _ _ _ _ _
            · exact (six_other wr _ _ (by omega) _ _ _ _ _ _).trans HX0.out
            · exact (six_other wr _ _ (by omega) _ _ _ _ _ _).trans HX1.out
            · rw [HL.out]; exact HX22.out no
            · simp [intOf]; omega
          · have hqb : (nm == x) = false := beq_eq_false_iff_ne.2 hq
            have HL := hide (HNx.out.trans (if_neg hq))
            clear hq HNx HX22
            go_wp2
            exact ⟨⟨m + 1, by go_num, by omega, HBx, HX0, HX1, hide (by rw [HL.out]; exact HX2.out)⟩, by simp [intOf]; omega⟩
        · obtain rfl : m = 4 := by omega
          have HSx := hide (HS9.out.below HBx.out)
          have HGx := hide (gr_bel HG9.out HBx.out)
          have HOx := hide (own_below HO9.out HBx.out)
          have hzz := HBx.out.size
          clear HS9 HG9 HO9 HX0 HX1 HBx
          generalize lastN x k 4 = nd at *
          obtain ⟨lop, ⟨lk, ln, lx⟩, lnm, la⟩ := nd
          have hx2 := HX2.out
          simp only [Nd.cells] at hx2
          obtain ⟨l0, l1, l2, l3, l4, l5⟩ := cells6 hx2
          have HXn := hide hx2
          clear HX2 hx2
          have hR := HRR.out
          simp only [Nd.ar] at hR
          clear HRR
          by_cases hk8 : k ≤ 8
          rotate_left
          · rw [if_neg (fun h => hk8 h.1)] at hR
            have HE := hide hR
            have hkd : decide ((8 : Int) < (k : Int)) = true := decide_eq_true (by omega)
            have hkn : (8 : Int) < (k : Int) := by omega
            clear hR hk8
            go_wp2_with fail
            refine (r_fail _ P A ts c j (d + 1) HSx.out 3).mono ?_
            rintro e8 w8 ⟨rfl, hS8, hg8⟩
            have HS8 := hide hS8
            have HG8 := hide ((HGx.out).trans hg8)
            clear hS8 hg8
            go_wp2
            go_ret
            rw [HE.out]
            exact ⟨HG8.out, [], d + 1, ⟨none, 0, rfl, own_nil _ _ _ _⟩, by omega, by simp, ⟨by omega, by omega⟩, HS8.out⟩
          have hkd : decide ((8 : Int) < (k : Int)) = false := decide_eq_false (by omega)
          have hkn : ¬ (8 : Int) < (k : Int) := by omega
          have HAr := hide (fun X => ref8_Arity_any lop lk ln la ⟨lx.toArray⟩ ⟨lnm.toArray⟩ X)
          by_cases hka : arityN lop la = (k : Int)
          rotate_left
          · rw [if_neg (fun h => hka h.2)] at hR
            have HE := hide hR
            clear hR
            generalize arityN lop la = av at *
            have hkn : (av != (k : Int)) = true := by simpa using hka
            go_wp2_with (go_at_call 24; refine (HAr.out _).mono ?_; rintro e6 w6 ⟨rfl, hb6⟩)
            refine (r_fail _ P A ts c j (d + 1) (HSx.out.below (by (repeat (first | exact Below.refl _ _ | assumption | refine Below.drew ?_ | refine below_drewN ?_ _ | refine Below.alloc ?_ (by first | omega | simp <;> omega) _ | refine Below.setCell ?_ (by first | omega | simp <;> omega) _)))) 3).mono ?_
            rintro e8 w8 ⟨rfl, hS8, hg8⟩
            have HS8 := hide hS8
            have HG8 := hide ((gr_bel HGx.out (by (repeat (first | exact Below.refl _ _ | assumption | refine Below.drew ?_ | refine below_drewN ?_ _ | refine Below.alloc ?_ (by first | omega | simp <;> omega) _ | refine Below.setCell ?_ (by first | omega | simp <;> omega) _)))).trans hg8)
            clear hS8 hg8
            go_wp2
            go_ret
            rw [HE.out]
            exact ⟨HG8.out, [], d + 1, ⟨none, 0, rfl, own_nil _ _ _ _⟩, by omega, by simp, ⟨by omega, by omega⟩, HS8.out⟩
          rw [if_pos ⟨hk8, hka⟩] at hR
          have HE := hide hR
          clear hR
          rw [hka] at HAr
          clear hka
          go_wp2_with (first
            | (go_at_call 24; refine (HAr.out _).mono ?_; rintro e6 w6 ⟨rfl, hb6⟩; clear l0 l1 l2 l3 l4 l5; obtain ⟨l0, l1, l2, l3, l4, l5⟩ := cells6 ((hb6.block (w9.heap.size + 2) (by omega)).trans HXn.out); have hS6 := HSx.out.below hb6; obtain ⟨c0, c1, c2, c3⟩ := hS6.cells; have hfr := hS6.free; have hP6 := hS6.lt; have HS6 := hide ((hS6.setDepth d).setAt (j + 1)); have HG6 := hide (gr_set (gr_set (gr_bel HGx.out hb6) 2 (.int .i64 (d : Int))) 1 (.int .i64 ((j + 1 : Nat) : Int))); have HO6 := hide (own_fr (own_fr (own_below HOx.out hb6) (gr_set (World.grownBy.refl w6 (some P)) 2 (.int .i64 (d : Int))) hP) (gr_set (World.grownBy.refl _ (some P)) 1 (.int .i64 ((j + 1 : Nat) : Int))) hP); have hz6 := hb6.size; clear hS6)
            | (at_builtin; refine wpList_append_own _ rfl _ _ 30 rfl W.heap.size 53 i0 _ 6 64 Tryz.underlying30 hi0 hz0 hz1 hz2 rfl (by decide) _ _ _ rfl (HO6.out.alloc _) ⟨w6.heap.size, 0, none⟩ 1 1 [.int .i64 lop, .int .i64 lk, .int .i64 ln, str lx, str lnm, .int .i64 la] rfl rfl (by exact cells_6 (hn_at (by simp))) (by simp [Value.oneCell']) (by unfold maxLen; omega) (by omega) (by simp; omega) ?_; intro v7 w7 o7 g7 _; obtain ⟨B7, n7, rfl⟩ := own_form o7; have HS7 := hide ((HS6.out.below (Below.alloc (Below.refl _ _) (Nat.le_refl _) _)).gr g7 (fun j hj => by have := (HO6.out.lt j hj).1; omega)); have HG7 := hide ((gr_bel HG6.out (Below.alloc (Below.refl _ _) (Nat.le_refl _) _)).andThen g7 (fun j hj => .inl (HO6.out.lt j hj).1)); have HO7 := hide (own_nd1 (nd := ⟨lop, ⟨lk, ln, lx⟩, lnm, la⟩) o7); clear o7 g7))
          go_ret
          rw [HE.out]
          exact ⟨HG7.out, ⟨B7, n7, by first | rfl | (simp; done), HO7.out⟩, HS7.out⟩
    · have hG2 : (q (j)).bind (fun fs k2 => if isSym (tk ts k2) [44] = true then argsG q x ts (G - 1) (es ++ fs) (k + 1) (k2 + 1) else if isSym (tk ts k2) [41] = true then endS x (es ++ fs) (k + 1) k2 else .err 3 k2) = R := by
        cases G with
        | zero => exact absurd hG.symm hne
        | succ G => exact hG
      clear hG
      have hsb : ((0 : Int) == 0 && ((tk ts j).kind == 5 && (tk ts j).text == [41])) = false := hs
      have HI5 := hide (HI.out [41])
      rw [hsb] at HI5
      clear hsb hs HI
      have hkd : decide ((0 : Int) < (k : Int)) = false := decide_eq_false (by omega)
      have hkn : ¬ (0 : Int) < (k : Int) := by omega
      clear hk0
      go_wp2_with (go_at_call 156; refine HI5.out.mono ?_; rintro e9 w9 ⟨rfl, hb9⟩; clear c0 c1 c2 c3; obtain ⟨c0, c1, c2, c3⟩ := (HSr.out.below hb9).cells; have hP9 := (HSr.out.below hb9).lt)
      have HSa := hide (HSr.out.below hb9)
      have HGa := hide (gr_bel HGr.out hb9)
      have HOa := hide (own_below HOw.out hb9)
      clear HI5 c0 c1 c2 c3 hfr
      refine (HOr.out w9 j HSa.out hjl hij).mono ?_
      rw [HQ.out (j)]
      rintro e2 w2 ⟨B2, n2, fs, k2, d2, x2, rfl, ho2, hS2, hg2, hjk, hkl, hfl, hD2⟩
      have HO2 := hide ho2
      have HS2 := hide hS2
      have HG2 := hide (HGa.out.trans hg2)
      have HD2 := hide hD2
      have HOe := hide (own_fr HOa.out hg2 hP)
      have hgw := hg2.size
      clear hS2 hg2 hD2 ho2 HSa HGa HOa
      have hWa := HG2.out.size
      have hk3 : (es ++ fs).length ≤ k2 - i := by simp only [List.length_append]; omega
      by_cases hx2 : x2 = 0
      · rcases HD2.out with ⟨_, hdd, hjk2, hr⟩ | ⟨h, _⟩
        rotate_left
        · exact absurd hx2 h
        subst hx2 hdd
        rw [hr] at hG2
        simp only [PR.bind] at hG2
        clear hr HD2
        go_wp2_with (at_builtin; refine append_nds rfl _ _ rfl W.heap.size _ es fs _ B2 _ n2 rfl HOe.out rfl HO2.out (by omega) (by omega) (by omega) ?_; intro B3 n3 w3 o3 g3; have HS3 := hide (HS2.out.gr g3 (fun j hj => by have := (HOe.out.lt j hj).1; omega)); have HG3 := hide (HG2.out.andThen g3 (fun j hj => .inl (HOe.out.lt j hj).1)); have HO3 := hide o3; have hz3 := g3.size; obtain ⟨c0, c1, c2, c3⟩ := HS3.out.cells; have hP3 := HS3.out.lt; clear g3 o3 HOe HO2 HS2 HG2)
        have HIr := hide (fun X (hb : Below w3.heap.size w3 X) y => r_is X P A ts c k2 (d + 1) 0 (HS3.out.below hb) hkl hlen y)
        by_cases hs5 : isSym (tk ts k2) [41] = true
        · have h44 := paren_comma hs5
          rw [if_neg (by rw [h44]; decide), if_pos hs5] at hG2
          have HE := hide hG2
          have hb5 : ((0 : Int) == 0 && ((tk ts k2).kind == 5 && (tk ts k2).text == [41])) = true := hs5
          have HIs := hide (fun X hb => HIr.out X hb [41])
          rw [hb5] at HIs
          clear hG2 hb5 HIr
          go_wp2_with (go_at_call 156; refine (HIs.out _ (by (repeat (first | exact Below.refl _ _ | assumption | refine Below.drew ?_ | refine below_drewN ?_ _ | refine Below.alloc ?_ (by first | omega | simp <;> omega) _ | refine Below.setCell ?_ (by first | omega | simp <;> omega) _)))).mono ?_; rintro e6 w6 ⟨rfl, hb6⟩)
          have HS6 := hide (HS3.out.below hb6)
          refine ⟨⟨B3, n3, es ++ fs, k + 1, k2, d + 1, 0, by first | rfl | (simp; done), by go_num, hide (own_below HO3.out hb6), HS6, hide (gr_bel HG3.out hb6), by omega, hkl, hk3, by omega, hide (.inl ⟨rfl, rfl, .inl ⟨hs5, HE.out.symm⟩⟩)⟩, ?_⟩
          rw [msr_eq HS6.out, HMs.out]
          simp only [↓reduceIte]
          omega
        have hs50 : isSym (tk ts k2) [41] = false := by simpa using hs5
        have hb5 : ((0 : Int) == 0 && ((tk ts k2).kind == 5 && (tk ts k2).text == [41])) = false := hs50
        have HIs := hide (fun X hb => HIr.out X hb [41])
        rw [hb5] at HIs
        clear hb5 hs5
        by_cases hs6 : isSym (tk ts k2) [44] = true
        · rw [if_pos hs6] at hG2
          have HE := hide hG2
          have hb6 : ((0 : Int) == 0 && ((tk ts k2).kind == 5 && (tk ts k2).text == [44])) = true := hs6
          have HIc := hide (fun X hb => HIr.out X hb [44])
          rw [hb6] at HIc
          clear hG2 hb6 HIr
          go_wp2_with (first
            | (go_at_call_of 156 (Value.string { data := #[41] }); refine (HIs.out _ (by (repeat (first | exact Below.refl _ _ | assumption | refine Below.drew ?_ | refine below_drewN ?_ _ | refine Below.alloc ?_ (by first | omega | simp <;> omega) _ | refine Below.setCell ?_ (by first | omega | simp <;> omega) _)))).mono ?_; rintro e6 w6 ⟨rfl, hb6⟩)
            | (go_at_call_of 156 (Value.string { data := #[44] }); refine (HIc.out _ hb6).mono ?_; rintro e7 w7 ⟨rfl, hb7⟩))
          have hb8 := bel2 hb7 hb6
          have HS6 := hide (HS3.out.below hb8)
          refine ⟨⟨B3, n3, es ++ fs, k + 1, k2, d + 1, 0, by first | rfl | (simp; done), by go_num, hide (own_below HO3.out hb8), HS6, hide (gr_bel HG3.out hb8), by omega, hkl, hk3, by omega, hide (.inl ⟨rfl, rfl, .inr (.inr ⟨hs50, hs6, by omega, _, HE.out⟩)⟩)⟩, ?_⟩
          rw [msr_eq HS6.out, HMs.out]
          simp only [↓reduceIte]
          omega
        · have hs60 : isSym (tk ts k2) [44] = false := by simpa using hs6
          rw [if_neg hs6, if_neg (by rw [hs50]; decide)] at hG2
          have HE := hide hG2
          have hb6 : ((0 : Int) == 0 && ((tk ts k2).kind == 5 && (tk ts k2).text == [44])) = false := hs60
          have HIc := hide (fun X hb => HIr.out X hb [44])
          rw [hb6] at HIc
          clear hG2 hb6 HIr hs6
          go_wp2_with (first
            | (go_at_call_of 156 (Value.string { data := #[41] }); refine (HIs.out _ (by (repeat (first | exact Below.refl _ _ | assumption | refine Below.drew ?_ | refine below_drewN ?_ _ | refine Below.alloc ?_ (by first | omega | simp <;> omega) _ | refine Below.setCell ?_ (by first | omega | simp <;> omega) _)))).mono ?_; rintro e6 w6 ⟨rfl, hb6⟩)
            | (go_at_call_of 156 (Value.string { data := #[44] }); refine (HIc.out _ hb6).mono ?_; rintro e7 w7 ⟨rfl, hb7⟩))
          have hb8 := bel2 hb7 hb6
          refine (r_fail w7 P A ts c k2 (d + 1) (HS3.out.below hb8) 3).mono ?_
          rintro e8 w8 ⟨rfl, hS8, hg8⟩
          have HS8 := hide hS8
          have HG8 := hide ((gr_bel HG3.out hb8).trans hg8)
          clear hS8 hg8
          go_wp2
          go_ret
          rw [← HE.out]
          exact ⟨HG8.out, [], d + 1, ⟨none, 0, rfl, own_nil _ _ _ _⟩, by omega, by simp, ⟨by omega, by omega⟩, HS8.out⟩
      · rcases HD2.out with ⟨h, _⟩ | ⟨_, hr, hd4, hd5⟩
        · exact absurd h hx2
        rw [hr] at hG2
        simp only [PR.bind] at hG2
        have HE := hide hG2
        have hxb : (x2 == 0) = false := beq_eq_false_iff_ne.2 hx2
        have HXn := hide hx2
        clear hG2 hr HD2 hx2
        go_wp2_with (at_builtin; refine append_nds rfl _ _ rfl W.heap.size _ es fs _ B2 _ n2 rfl HOe.out rfl HO2.out (by omega) (by omega) (by omega) ?_; intro B3 n3 w3 o3 g3; have HS3 := hide (HS2.out.gr g3 (fun j hj => by have := (HOe.out.lt j hj).1; omega)); have HG3 := hide (HG2.out.andThen g3 (fun j hj => .inl (HOe.out.lt j hj).1)); have HO3 := hide o3; have hz3 := g3.size; obtain ⟨c0, c1, c2, c3⟩ := HS3.out.cells; have hP3 := HS3.out.lt; clear g3 o3 HOe HO2 HS2 HG2)
        try go_wp2
        refine ⟨⟨B3, n3, es ++ fs, k + 1, k2, d2, x2, by first | rfl | (simp; done), by go_num, HO3, HS3, HG3, by omega, hkl, hk3, by omega, hide (.inr ⟨HXn.out, HE.out.symm, hd4, hd5⟩)⟩, ?_⟩
        rw [msr_eq HS3.out, HMs.out, if_neg HXn.out, if_pos trivial]
        omega
    · have hG2 : (q (j + 1)).bind (fun fs k2 => if isSym (tk ts k2) [44] = true then argsG q x ts (G - 1) (es ++ fs) (k + 1) (k2 + 1) else if isSym (tk ts k2) [41] = true then endS x (es ++ fs) (k + 1) k2 else .err 3 k2) = R := by
        cases G with
        | zero => exact absurd hG.symm hne
        | succ G => exact hG
      clear hG
      have hsb : ((0 : Int) == 0 && ((tk ts j).kind == 5 && (tk ts j).text == [41])) = false := hs
      have HI5 := hide (HI.out [41])
      rw [hsb] at HI5
      clear hsb hs HI
      have hkd : decide ((0 : Int) < (k : Int)) = true := decide_eq_true (by omega)
      have hkn : (0 : Int) < (k : Int) := by omega
      have hj1 := sym_next hv hjl hs4
      have HTk := hide (fun X (hb : Below wr.heap.size wr X) => r_take_yes X P A ts c j (d + 1) (HSr.out.below hb) hjl hlen [44] hs4)
      clear hs4
      go_wp2_with (first
        | (go_at_call 156; refine HI5.out.mono ?_; rintro e9 w9 ⟨rfl, hb9⟩; clear c0 c1 c2 c3; obtain ⟨c0, c1, c2, c3⟩ := (HSr.out.below hb9).cells; have hP9 := (HSr.out.below hb9).lt)
        | (go_at_call 197; refine (HTk.out _ hb9).mono ?_; rintro e8 wa ⟨rfl, hSa, hga⟩; have HSa := hide hSa; have HGa := hide ((gr_bel HGr.out hb9).trans hga); have HOa := hide (own_fr (own_below HOw.out hb9) hga hP); clear c0 c1 c2 c3; obtain ⟨c0, c1, c2, c3⟩ := hSa.cells; have hPa := hSa.lt; clear hSa hga))
      clear HI5 c0 c1 c2 c3 hfr HTk
      refine (HOr.out wa (j + 1) HSa.out hj1 (by omega)).mono ?_
      rw [HQ.out (j + 1)]
      rintro e2 w2 ⟨B2, n2, fs, k2, d2, x2, rfl, ho2, hS2, hg2, hjk, hkl, hfl, hD2⟩
      have HO2 := hide ho2
      have HS2 := hide hS2
      have HG2 := hide (HGa.out.trans hg2)
      have HD2 := hide hD2
      have HOe := hide (own_fr HOa.out hg2 hP)
      have hgw := hg2.size
      clear hS2 hg2 hD2 ho2 HSa HGa HOa
      have hWa := HG2.out.size
      have hk3 : (es ++ fs).length ≤ k2 - i := by simp only [List.length_append]; omega
      by_cases hx2 : x2 = 0
      · rcases HD2.out with ⟨_, hdd, hjk2, hr⟩ | ⟨h, _⟩
        rotate_left
        · exact absurd hx2 h
        subst hx2 hdd
        rw [hr] at hG2
        simp only [PR.bind] at hG2
        clear hr HD2
        go_wp2_with (at_builtin; refine append_nds rfl _ _ rfl W.heap.size _ es fs _ B2 _ n2 rfl HOe.out rfl HO2.out (by omega) (by omega) (by omega) ?_; intro B3 n3 w3 o3 g3; have HS3 := hide (HS2.out.gr g3 (fun j hj => by have := (HOe.out.lt j hj).1; omega)); have HG3 := hide (HG2.out.andThen g3 (fun j hj => .inl (HOe.out.lt j hj).1)); have HO3 := hide o3; have hz3 := g3.size; obtain ⟨c0, c1, c2, c3⟩ := HS3.out.cells; have hP3 := HS3.out.lt; clear g3 o3 HOe HO2 HS2 HG2)
        have HIr := hide (fun X (hb : Below w3.heap.size w3 X) y => r_is X P A ts c k2 (d + 1) 0 (HS3.out.below hb) hkl hlen y)
        by_cases hs5 : isSym (tk ts k2) [41] = true
        · have h44 := paren_comma hs5
          rw [if_neg (by rw [h44]; decide), if_pos hs5] at hG2
          have HE := hide hG2
          have hb5 : ((0 : Int) == 0 && ((tk ts k2).kind == 5 && (tk ts k2).text == [41])) = true := hs5
          have HIs := hide (fun X hb => HIr.out X hb [41])
          rw [hb5] at HIs
          clear hG2 hb5 HIr
          go_wp2_with (go_at_call 156; refine (HIs.out _ (by (repeat (first | exact Below.refl _ _ | assumption | refine Below.drew ?_ | refine below_drewN ?_ _ | refine Below.alloc ?_ (by first | omega | simp <;> omega) _ | refine Below.setCell ?_ (by first | omega | simp <;> omega) _)))).mono ?_; rintro e6 w6 ⟨rfl, hb6⟩)
          have HS6 := hide (HS3.out.below hb6)
          refine ⟨⟨B3, n3, es ++ fs, k + 1, k2, d + 1, 0, by first | rfl | (simp; done), by go_num, hide (own_below HO3.out hb6), HS6, hide (gr_bel HG3.out hb6), by omega, hkl, hk3, by omega, hide (.inl ⟨rfl, rfl, .inl ⟨hs5, HE.out.symm⟩⟩)⟩, ?_⟩
          rw [msr_eq HS6.out, HMs.out]
          simp only [↓reduceIte]
          omega
        have hs50 : isSym (tk ts k2) [41] = false := by simpa using hs5
        have hb5 : ((0 : Int) == 0 && ((tk ts k2).kind == 5 && (tk ts k2).text == [41])) = false := hs50
        have HIs := hide (fun X hb => HIr.out X hb [41])
        rw [hb5] at HIs
        clear hb5 hs5
        by_cases hs6 : isSym (tk ts k2) [44] = true
        · rw [if_pos hs6] at hG2
          have HE := hide hG2
          have hb6 : ((0 : Int) == 0 && ((tk ts k2).kind == 5 && (tk ts k2).text == [44])) = true := hs6
          have HIc := hide (fun X hb => HIr.out X hb [44])
          rw [hb6] at HIc
          clear hG2 hb6 HIr
          go_wp2_with (first
            | (go_at_call_of 156 (Value.string { data := #[41] }); refine (HIs.out _ (by (repeat (first | exact Below.refl _ _ | assumption | refine Below.drew ?_ | refine below_drewN ?_ _ | refine Below.alloc ?_ (by first | omega | simp <;> omega) _ | refine Below.setCell ?_ (by first | omega | simp <;> omega) _)))).mono ?_; rintro e6 w6 ⟨rfl, hb6⟩)
            | (go_at_call_of 156 (Value.string { data := #[44] }); refine (HIc.out _ hb6).mono ?_; rintro e7 w7 ⟨rfl, hb7⟩))
          have hb8 := bel2 hb7 hb6
          have HS6 := hide (HS3.out.below hb8)
          refine ⟨⟨B3, n3, es ++ fs, k + 1, k2, d + 1, 0, by first | rfl | (simp; done), by go_num, hide (own_below HO3.out hb8), HS6, hide (gr_bel HG3.out hb8), by omega, hkl, hk3, by omega, hide (.inl ⟨rfl, rfl, .inr (.inr ⟨hs50, hs6, by omega, _, HE.out⟩)⟩)⟩, ?_⟩
          rw [msr_eq HS6.out, HMs.out]
          simp only [↓reduceIte]
          omega
        · have hs60 : isSym (tk ts k2) [44] = false := by simpa using hs6
          rw [if_neg hs6, if_neg (by rw [hs50]; decide)] at hG2
          have HE := hide hG2
          have hb6 : ((0 : Int) == 0 && ((tk ts k2).kind == 5 && (tk ts k2).text == [44])) = false := hs60
          have HIc := hide (fun X hb => HIr.out X hb [44])
          rw [hb6] at HIc
          clear hG2 hb6 HIr hs6
          go_wp2_with (first
            | (go_at_call_of 156 (Value.string { data := #[41] }); refine (HIs.out _ (by (repeat (first | exact Below.refl _ _ | assumption | refine Below.drew ?_ | refine below_drewN ?_ _ | refine Below.alloc ?_ (by first | omega | simp <;> omega) _ | refine Below.setCell ?_ (by first | omega | simp <;> omega) _)))).mono ?_; rintro e6 w6 ⟨rfl, hb6⟩)
            | (go_at_call_of 156 (Value.string { data := #[44] }); refine (HIc.out _ hb6).mono ?_; rintro e7 w7 ⟨rfl, hb7⟩))
          have hb8 := bel2 hb7 hb6
          refine (r_fail w7 P A ts c k2 (d + 1) (HS3.out.below hb8) 3).mono ?_
          rintro e8 w8 ⟨rfl, hS8, hg8⟩
          have HS8 := hide hS8
          have HG8 := hide ((gr_bel HG3.out hb8).trans hg8)
          clear hS8 hg8
          go_wp2
          go_ret
          rw [← HE.out]
          exact ⟨HG8.out, [], d + 1, ⟨none, 0, rfl, own_nil _ _ _ _⟩, by omega, by simp, ⟨by omega, by omega⟩, HS8.out⟩
      · rcases HD2.out with ⟨h, _⟩ | ⟨_, hr, hd4, hd5⟩
        · exact absurd h hx2
        rw [hr] at hG2
        simp only [PR.bind] at hG2
        have HE := hide hG2
        have hxb : (x2 == 0) = false := beq_eq_false_iff_ne.2 hx2
        have HXn := hide hx2
        clear hG2 hr HD2 hx2
        go_wp2_with (at_builtin; refine append_nds rfl _ _ rfl W.heap.size _ es fs _ B2 _ n2 rfl HOe.out rfl HO2.out (by omega) (by omega) (by omega) ?_; intro B3 n3 w3 o3 g3; have HS3 := hide (HS2.out.gr g3 (fun j hj => by have := (HOe.out.lt j hj).1; omega)); have HG3 := hide (HG2.out.andThen g3 (fun j hj => .inl (HOe.out.lt j hj).1)); have HO3 := hide o3; have hz3 := g3.size; obtain ⟨c0, c1, c2, c3⟩ := HS3.out.cells; have hP3 := HS3.out.lt; clear g3 o3 HOe HO2 HS2 HG2)
        try go_wp2
        refine ⟨⟨B3, n3, es ++ fs, k + 1, k2, d2, x2, by first | rfl | (simp; done), by go_num, HO3, HS3, HG3, by omega, hkl, hk3, by omega, hide (.inr ⟨HXn.out, HE.out.symm, hd4, hd5⟩)⟩, ?_⟩
        rw [msr_eq HS3.out, HMs.out, if_neg HXn.out, if_pos trivial]
        omega
set_option maxRecDepth 100000 in
set_option maxHeartbeats 1000000 in
theorem r_call (F P : Nat) (A : Option Addr) (ts : List Tok) (c : Nat) (hv : valT ts = true) (hlen : ts.length ≤ 1000000) (hO : LvR 32 F 0 P A ts c) : CallR F P A ts c := by
  intro W x i d hS hi hd hx hF
  by_cases hday : x = wDay
  rotate_left
  · exact r_call_x F P A ts c hv hlen hO W x i d hS hi hd hx hF hday
  have hR : callP (fun l i d => prs ts F l i d) ts x (i + 2) (d + 1) = (prs ts F 0 (i + 2) (d + 1)).bind (dayS ts) := by
    unfold callP
    rw [if_pos hday]
    by_cases hs : isSym (tk ts (i + 2)) [41] = true
    · rw [if_pos hs, prs_close (by omega) hs]; rfl
    · rw [if_neg hs]
  rw [hR]
  subst hday
  clear hR hx
  unfold wDay
  have hP := hS.lt
  have HDy := hide (fun X hX => r_day F P A ts c hv hlen hO X (i + 2) d hX hi (by omega) hF)
  have HPW := hide (show PSt RT ((W.setCell ⟨P, 1, none⟩ (.int .i64 ((i + 2 : Nat) : Int))).setCell ⟨P, 2, none⟩ (.int .i64 ((d + 1 : Nat) : Int))) P A ts c (i + 2) (d + 1) 0 from (hS.setAt (i + 2)).setDepth (d + 1))
  have HGW := hide (show W.grownBy ((W.setCell ⟨P, 1, none⟩ (.int .i64 ((i + 2 : Nat) : Int))).setCell ⟨P, 2, none⟩ (.int .i64 ((d + 1 : Nat) : Int))) (some P) from gr_set (gr_set (World.grownBy.refl _ _) 1 _) 2 _)
  obtain ⟨c0, c1, c2, c3⟩ := hS.cells
  have hfr := hS.free
  generalize (prs ts F 0 (i + 2) (d + 1)).bind (dayS ts) = R at *
  clear hS hO
  go_enter Tryz.func198, Tryz.ntmps198
  go_wp2_with fail
  refine (HDy.out _ HPW.out).mono ?_
  intro e8 w8 h8
  obtain ⟨v, rfl⟩ := h8.ret
  have HR := hide (PPost.low (b' := i) (h8.up HGW.out) (by omega))
  clear h8
  go_wp2
  go_ret
  exact HR.out
end Go.Proofs.YtlfedcbihbigoaaGreatDoor

namespace Go.Proofs.YtlfedcbihbigoaaGreatDoor
open Go.RowKit
structure AllR (F P : Nat) (A : Option Addr) (ts : List Tok) (c : Nat) : Prop where
  or : LvR 32 F 0 P A ts c
  and : LvR 55 F 1 P A ts c
  no : LvR 92 F 2 P A ts c
  cmp : LvR 125 F 3 P A ts c
  con : LvR 155 F 4 P A ts c
  sum : LvR 170 F 5 P A ts c
  pro : LvR 183 F 6 P A ts c
  un : LvR 190 F 7 P A ts c
  pr : PrR F P A ts c
theorem r_all (P : Nat) (A : Option Addr) (ts : List Tok) (c : Nat) (hv : valT ts = true) (hlen : ts.length ≤ 1000000) : ∀ F, AllR F P A ts c
  | 0 => by
    constructor
    all_goals first
      | (intro W i d hS hi hd h8 hF; exfalso; omega)
      | (intro W i d hS hi hd h8 hm hF; exfalso; omega)
  | F + 1 => by
    have ih := r_all P A ts c hv hlen F
    exact ⟨r_or F P A ts c hv hlen ih.and, r_and F P A ts c hv hlen ih.no, r_not F P A ts c hv hlen ih.no ih.cmp, r_compare F P A ts c hv hlen ih.con, r_concat F P A ts c hv hlen ih.sum, r_sum F P A ts c hv hlen ih.pro, r_product F P A ts c hv hlen ih.un, r_unary F P A ts c hv hlen ih.un ih.pr, r_primary F P A ts c hv hlen ih.or (r_named F P A ts c hv hlen (r_call F P A ts c hv hlen ih.or))⟩
set_option maxRecDepth 100000 in
set_option maxHeartbeats 2000000 in
theorem ref8_ParseAt_any (A : Option Addr) (ts : List Tok) (c : Nat) (a : Int) (w : World) (hG : Glob w) (hA : ToksAt w A ts) (hl : ts.length ≤ 1000000) (hx : ∀ j (h : j < ts.length), ts[j].text.length ≤ maxLen) :
    Calls Tryz.prog 14 #[.slice A ts.length c, .int .i64 a] w fun e w' => PaRes w w' (paS ts a) e ∧ Below w.heap.size w w' := by
  have HV := hide (ref7_Validate_any A ts c w hA hl hx)
  have HG := hide hG
  have HA := hide hA
  clear hG hA hx
  by_cases hv : valT ts = false
  · have hE : valE ts = 8 := by unfold valE; rw [hv]; rfl
    have HP := hide (show paS ts a = ([], 0, 8) from by unfold paS; rw [if_pos hv])
    rw [hE] at HV
    clear hv hE
    go_enter Tryz.func14, Tryz.ntmps14
    go_wp2_with fail
    refine HV.out.mono ?_
    rintro e w1 ⟨rfl, hb1⟩
    go_wp2
    go_ret3
    rw [HP.out]
    exact ⟨⟨none, 0, rfl, own_nil _ _ _ _⟩, hb1⟩
  have hvt : valT ts = true := by simpa using hv
  have hE : valE ts = 0 := by unfold valE; rw [hvt]; rfl
  rw [hE] at HV
  clear hE
  by_cases hr : a < 0 ∨ (ts.length : Int) ≤ a
  · have HP := hide (show paS ts a = ([], 0, 1) from by unfold paS; rw [if_neg hv, if_pos hr])
    clear hv hvt
    rcases hr with h | h
    all_goals
      go_enter Tryz.func14, Tryz.ntmps14
      go_wp2_with fail
      refine HV.out.mono ?_
      rintro e w1 ⟨rfl, hb1⟩
      go_wp2
      go_ret3
      rw [HP.out]
      exact ⟨⟨none, 0, rfl, own_nil _ _ _ _⟩, hb1⟩
  obtain ⟨i, rfl⟩ : ∃ i : Nat, a = (i : Int) := ⟨a.toNat, by omega⟩
  have hi : i < ts.length := by omega
  have HP := hide (show paS ts (i : Int) = (match prs ts ((ts.length - i) * 10 + 9) 0 i 0 with
    | .ok es j => if validE es = 0 then (es, (j : Int), 0) else ([], (j : Int), validE es)
    | .err x j => ([], (j : Int), x)
    | .out => ([], 0, 0)) from by unfold paS; rw [if_neg hv, if_neg hr]; rfl)
  have hf := prs_fact hvt ((ts.length - i) * 10 + 9) 0 i 0 hi (fun e => absurd e (by omega))
  clear hv hr
  have HOr := hide (fun (P : Nat) => (r_all P A ts c hvt hl ((ts.length - i) * 10 + 9)).or)
  have HSt := hide (show ∀ w1 : World, Below w.heap.size w w1 → PSt RT (w1.alloc (.cells #[.slice A ts.length c, .int .i64 i, .int .i64 0, .int .i64 0] RT)) w1.heap.size A ts c i 0 0 from fun w1 hb =>
    ⟨heap_alloc_new w1 _, (TokP_of (HA.out.below hb) (by omega)).fr (grown_of_below (Below.alloc (Below.refl _ w1) (Nat.le_refl _) _)), (WrdP.of_words (HG.out.below hb).words).fr (grown_of_below (Below.alloc (Below.refl _ w1) (Nat.le_refl _) _))⟩)
  clear hvt
  go_enter Tryz.func14, Tryz.ntmps14
  go_wp2_with fail
  refine HV.out.mono ?_
  rintro e w1 ⟨rfl, hb1⟩
  go_wp2_with fail
  refine (HOr.out w1.heap.size _ i 0 (HSt.out w1 hb1) hi (Nat.zero_le _) (fun e => absurd e (by omega)) (by omega)).mono ?_
  intro e2 w2 h2
  obtain ⟨B, n, es, j, d', x, rfl, ho2, hS2, hg2, hij, hjl, hel, hD2⟩ := ppost_open hf h2
  have hbw : Below w.heap.size w w2 := below_of_gr hg2 (hb1.alloc hb1.size _) hb1.size (by have := hb1.size; simp; omega)
  have hz1 := hb1.size
  have hz2 := hg2.size
  simp at hz2
  have HO2 := hide (own_low ho2 (b2 := w.heap.size) (by simp; omega))
  have HO2b := hide (own_low ho2 (b2 := w1.heap.size + 1) (by simp))
  have HNm := hide (show prs ts ((ts.length - i) * 10 + 9) 0 i 0 = .ok es j → NamesOk es from fun h => by rw [h] at hf; exact hf.2.2.2)
  have HS2 := hide hS2
  have HD2 := hide hD2
  clear h2 ho2 hg2 hD2 hf HOr HSt HV
  obtain ⟨c0, c1, c2, c3⟩ := hS2.cells
  have hP2 := hS2.lt
  have hfr := hS2.free
  clear hS2
  by_cases hx : x = 0
  · rcases HD2.out with ⟨_, hdd, hij2, hr⟩ | ⟨h, _⟩
    rotate_left
    · exact absurd hx h
    subst hx
    have HR := hide hr
    have HVe := hide (ref8_Validate_any B es n w2 (NdsAt_of_own HO2.out) (by omega) (HNm.out hr))
    clear hr hdd
    go_wp2_with fail
    refine HVe.out.mono ?_
    rintro e3 w3 ⟨rfl, hb3⟩
    have HS3 := HS2.out.below hb3
    clear c0 c1 c2 c3 hfr
    obtain ⟨c0, c1, c2, c3⟩ := HS3.cells
    have hP3 := HS3.lt
    have hfr := HS3.free
    have hz3 := hb3.size
    have HO3 := hide (own_low (b2 := w.heap.size) (own_fr (own_below HO2b.out hb3) (gr_set (World.grownBy.refl w3 (some w1.heap.size)) 3 (.int .i64 (validE es))) (by omega)) (by omega))
    clear HS3
    have HPv := hide (show paS ts (i : Int) = (if validE es = 0 then (es, (j : Int), 0) else ([], (j : Int), validE es)) from by rw [HP.out, HR.out])
    have hbw3 : Below w.heap.size w w3 := hbw.trans (hb3.mono (by have := hbw.size; omega))
    by_cases hve : validE es = 0
    · have HPx := hide (show paS ts (i : Int) = (es, (j : Int), 0) from by rw [HPv.out, if_pos hve])
      rw [hve] at HO3 ⊢
      clear hve HVe HPv
      go_wp2
      go_big_quiet (fail)
      go_wp2
      go_ret3
      rw [HPx.out]
      exact ⟨⟨B, n, rfl, own_below HO3.out (below_drewN (Below.refl _ _) _)⟩, by (repeat (first | exact Below.refl _ _ | assumption | refine Below.drew ?_ | refine below_drewN ?_ _ | refine Below.alloc ?_ (by first | omega | simp <;> omega) _ | refine Below.setCell ?_ (by first | omega | simp <;> omega) _))⟩
    · have HPx := hide (show paS ts (i : Int) = ([], (j : Int), validE es) from by rw [HPv.out, if_neg hve])
      have hvb : (validE es == 0) = false := beq_eq_false_iff_ne.2 hve
      have hvn : (validE es != 0) = true := by simpa using hve
      clear HVe HPv HO3 hve
      generalize validE es = v at *
      go_wp2
      go_big_quiet (fail)
      go_wp2
      go_ret3
      rw [HPx.out]
      exact ⟨⟨none, 0, rfl, own_nil _ _ _ _⟩, by (repeat (first | exact Below.refl _ _ | assumption | refine Below.drew ?_ | refine below_drewN ?_ _ | refine Below.alloc ?_ (by first | omega | simp <;> omega) _ | refine Below.setCell ?_ (by first | omega | simp <;> omega) _))⟩
  · rcases HD2.out with ⟨h, _⟩ | ⟨_, hr, hd4⟩
    · exact absurd h hx
    have HPx := hide (show paS ts (i : Int) = ([], (j : Int), x) from by rw [HP.out, hr])
    have hxb : (x == 0) = false := beq_eq_false_iff_ne.2 hx
    have hxn : (x != 0) = true := by simpa using hx
    clear hr hx
    go_wp2
    go_big_quiet (fail)
    go_wp2
    go_ret3
    rw [HPx.out]
    exact ⟨⟨none, 0, rfl, own_nil _ _ _ _⟩, by (repeat (first | exact Below.refl _ _ | assumption | refine Below.drew ?_ | refine below_drewN ?_ _ | refine Below.alloc ?_ (by first | omega | simp <;> omega) _ | refine Below.setCell ?_ (by first | omega | simp <;> omega) _))⟩
end Go.Proofs.YtlfedcbihbigoaaGreatDoor
