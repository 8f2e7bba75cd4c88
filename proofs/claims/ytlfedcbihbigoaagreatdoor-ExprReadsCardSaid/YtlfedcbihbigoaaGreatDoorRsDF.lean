/- Contracts: begins of ref8's parser. Contracts: not, unary of ref8's parser. Contracts: day of ref8's parser. -/
import Derived.Test.YtlfedcbihbigoaaGreatDoorRsAC
import Derived.Test.YtlfedcbihbigoaaGreatDoorPsJM
set_option linter.unusedVariables false
set_option linter.unusedSimpArgs false
namespace Go.Proofs.YtlfedcbihbigoaaGreatDoor
open Go.RowKit
set_option maxRecDepth 100000 in
set_option maxHeartbeats 2000000 in
theorem r_begins (W : World) (P : Nat) (A : Option Addr) (ts : List Tok) (c i d : Nat) (hS : PSt RT W P A ts c i d 0) (hv : valT ts = true) (hi : i < ts.length) (hl : ts.length ≤ 1000000) :
    Calls Tryz.prog 193 #[.pointer (some ⟨P, 0, none⟩)] W fun e' w' => e' = .returned (.bool (begB ts i)) ∧ Below W.heap.size W w' := by
  have HPk0 := hide (fun (X : World) (hb : Below W.heap.size W X) => r_peek X P A ts c i d 0 (hS.below hb) 0 hi hl)
  have HIs := hide (fun (X : World) (y : Bytes) (hb : Below W.heap.size W X) => r_is X P A ts c i d 0 (hS.below hb) hi hl y)
  have hnx := fun hk => tk_next hv hi hk
  have HS := hide hS
  clear hv hS
  rw [Nat.add_zero] at HPk0
  by_cases k234 : (tk ts i).kind = 2 ∨ (tk ts i).kind = 3 ∨ (tk ts i).kind = 4
  · have HB := hide (show begB ts i = true from by unfold begB; rw [if_pos k234])
    clear hnx HIs
    generalize tk ts i = t at *
    obtain ⟨tk0, tk1, tk2, tk3⟩ := t
    simp only at k234
    rcases k234 with rfl | rfl | rfl
    all_goals
      go_enter Tryz.func193, Tryz.ntmps193
      go_wp2_with (first | (go_at_call_of 93 (Value.int .i64 0); refine (HPk0.out _ (Below.refl _ _)).mono ?_; rintro e9 wa ⟨rfl, hba⟩; have hcur : Below W.heap.size W wa := hba; have hza := hba.size))
      go_ret
      exact ⟨ret_bool HB.out.symm, by (repeat (first | exact Below.refl _ _ | assumption | refine Below.drew ?_ | refine below_drewN ?_ _ | refine Below.alloc ?_ (by first | omega | simp <;> omega) _ | refine Below.setCell ?_ (by first | omega | simp <;> omega) _))⟩
  by_cases k1 : (tk ts i).kind = 1
  · have hn1 := hnx (by rw [k1]; decide)
    by_cases hw : (tk ts i).text = wNull ∨ (tk ts i).text = wTrue ∨ (tk ts i).text = wFalse
    · have HB := hide (show begB ts i = true from by unfold begB; rw [if_neg k234, if_pos k1, if_pos hw])
      clear hnx HIs
      generalize tk ts i = t at *
      obtain ⟨tk0, tk1, tk2, tk3⟩ := t
      simp only at k1 hw
      subst k1
      clear k234
      rcases hw with rfl | rfl | rfl
      all_goals
        try unfold wNull at *
        try unfold wTrue at *
        try unfold wFalse at *
        go_enter Tryz.func193, Tryz.ntmps193
        go_wp2_with (first | (go_at_call_of 93 (Value.int .i64 0); refine (HPk0.out _ (Below.refl _ _)).mono ?_; rintro e9 wa ⟨rfl, hba⟩; have hcur : Below W.heap.size W wa := hba; have hza := hba.size))
        go_ret
        exact ⟨ret_bool HB.out.symm, by (repeat (first | exact Below.refl _ _ | assumption | refine Below.drew ?_ | refine below_drewN ?_ _ | refine Below.alloc ?_ (by first | omega | simp <;> omega) _ | refine Below.setCell ?_ (by first | omega | simp <;> omega) _))⟩
    · have HPk1 := hide (fun (X : World) (hb : Below W.heap.size W X) => r_peek X P A ts c i d 0 (HS.out.below hb) 1 hn1 hl)
      have HRs := hide (fun (X : World) => ref7_Reserved_any ⟨(tk ts i).text.toArray⟩ X)
      have HNm := hide (fun (X : World) => ref5_IsName_any ⟨(tk ts i).text.toArray⟩ X)
      have hbs : bs ⟨(tk ts i).text.toArray⟩ = (tk ts i).text := rfl
      rw [hbs] at HRs HNm
      have HB0 := hide (show begB ts i = (!resB (tk ts i).text && (((tk ts (i + 1)).kind == 5 && (tk ts (i + 1)).text == [40]) || isNameB 24 (tk ts i).text)) from by unfold begB; rw [if_neg k234, if_pos k1, if_neg hw]; rfl)
      clear hnx hbs HIs
      generalize begB ts i = ans at *
      generalize tk ts i = t at *
      generalize tk ts (i + 1) = u at *
      obtain ⟨tk0, tk1, tk2, tk3⟩ := t
      obtain ⟨uk0, uk1, uk2, uk3⟩ := u
      simp only at k1 hw HB0 HRs HNm
      subst k1
      clear k234
      have v1 : (tk1 == wNull) = false := beq_eq_false_iff_ne.2 (fun h => hw (.inl h))
      have v2 : (tk1 == wTrue) = false := beq_eq_false_iff_ne.2 (fun h => hw (.inr (.inl h)))
      have v3 : (tk1 == wFalse) = false := beq_eq_false_iff_ne.2 (fun h => hw (.inr (.inr h)))
      unfold wNull at v1
      unfold wTrue at v2
      unfold wFalse at v3
      clear hw
      generalize isNameB 24 tk1 = nb at *
      have tk0e : ∃ z : Int, z = 1 := ⟨1, rfl⟩
      rcases hr : resB tk1 with _ | _ <;> rw [hr] at HRs HB0 <;> clear hr
      · by_cases h5 : uk0 = 5
        · by_cases hp : uk1 = [40]
          · subst h5 hp
            have HB := hide (show ans = true from by rw [HB0.out]; rfl)
            clear HB0
            go_enter Tryz.func193, Tryz.ntmps193
            go_wp2_with (first | (go_at_call_of 93 (Value.int .i64 0); refine (HPk0.out _ (Below.refl _ _)).mono ?_; rintro e9 wa ⟨rfl, hba⟩; have hcur : Below W.heap.size W wa := hba; have hza := hba.size) | (go_at_call_of 93 (Value.int .i64 1); refine (HPk1.out _ (by (repeat (first | exact Below.refl _ _ | assumption | refine Below.drew ?_ | refine below_drewN ?_ _ | refine Below.alloc ?_ (by first | omega | simp <;> omega) _ | refine Below.setCell ?_ (by first | omega | simp <;> omega) _)))).mono ?_; rintro e9 wb ⟨rfl, hbb⟩; have hcub : Below W.heap.size W wb := bel2 hbb (by (repeat (first | exact Below.refl _ _ | assumption | refine Below.drew ?_ | refine below_drewN ?_ _ | refine Below.alloc ?_ (by first | omega | simp <;> omega) _ | refine Below.setCell ?_ (by first | omega | simp <;> omega) _))); have hzb := hcub.size; have n0 : wb.cell? ⟨wa.heap.size, 0, none⟩ = some (.int .i64 1) := (hbb.cell (p := ⟨wa.heap.size, 0, none⟩) (by first | (simp; done) | (simp; omega))).trans (by first | exact n0 | go_simp); have n1 : wb.cell? ⟨wa.heap.size, 1, none⟩ = some (str tk1) := (hbb.cell (p := ⟨wa.heap.size, 1, none⟩) (by first | (simp; done) | (simp; omega))).trans (by first | exact n1 | go_simp); have hwa : wa.heap.size < wb.heap.size := (by have := hbb.size; first | omega | (simp at this; omega))) | (go_at_call 106; refine (HRs.out _).mono ?_; rintro e9 wc ⟨rfl, hbc⟩; have hcuc : Below W.heap.size W wc := bel2 hbc (by (repeat (first | exact Below.refl _ _ | assumption | refine Below.drew ?_ | refine below_drewN ?_ _ | refine Below.alloc ?_ (by first | omega | simp <;> omega) _ | refine Below.setCell ?_ (by first | omega | simp <;> omega) _))); have hzc := hcuc.size; have n0 : wc.cell? ⟨wa.heap.size, 0, none⟩ = some (.int .i64 1) := (hbc.cell (p := ⟨wa.heap.size, 0, none⟩) (by first | (simp; done) | (simp; omega))).trans (by first | exact n0 | go_simp); have n1 : wc.cell? ⟨wa.heap.size, 1, none⟩ = some (str tk1) := (hbc.cell (p := ⟨wa.heap.size, 1, none⟩) (by first | (simp; done) | (simp; omega))).trans (by first | exact n1 | go_simp); have hwa : wa.heap.size < wc.heap.size := (by have := hbc.size; first | omega | (simp at this; omega))) | (go_at_call 105; refine (HNm.out _).mono ?_; rintro e9 wd ⟨rfl, rfl⟩))
            go_ret
            exact ⟨ret_bool HB.out.symm, by (repeat (first | exact Below.refl _ _ | assumption | refine Below.drew ?_ | refine below_drewN ?_ _ | refine Below.alloc ?_ (by first | omega | simp <;> omega) _ | refine Below.setCell ?_ (by first | omega | simp <;> omega) _))⟩
          · subst h5
            have hpb : (uk1 == [40]) = false := beq_eq_false_iff_ne.2 hp
            have HB := hide (show ans = nb from by rw [HB0.out, hpb]; rfl)
            clear HB0 hp
            go_enter Tryz.func193, Tryz.ntmps193
            go_wp2_with (first | (go_at_call_of 93 (Value.int .i64 0); refine (HPk0.out _ (Below.refl _ _)).mono ?_; rintro e9 wa ⟨rfl, hba⟩; have hcur : Below W.heap.size W wa := hba; have hza := hba.size) | (go_at_call_of 93 (Value.int .i64 1); refine (HPk1.out _ (by (repeat (first | exact Below.refl _ _ | assumption | refine Below.drew ?_ | refine below_drewN ?_ _ | refine Below.alloc ?_ (by first | omega | simp <;> omega) _ | refine Below.setCell ?_ (by first | omega | simp <;> omega) _)))).mono ?_; rintro e9 wb ⟨rfl, hbb⟩; have hcub : Below W.heap.size W wb := bel2 hbb (by (repeat (first | exact Below.refl _ _ | assumption | refine Below.drew ?_ | refine below_drewN ?_ _ | refine Below.alloc ?_ (by first | omega | simp <;> omega) _ | refine Below.setCell ?_ (by first | omega | simp <;> omega) _))); have hzb := hcub.size; have n0 : wb.cell? ⟨wa.heap.size, 0, none⟩ = some (.int .i64 1) := (hbb.cell (p := ⟨wa.heap.size, 0, none⟩) (by first | (simp; done) | (simp; omega))).trans (by first | exact n0 | go_simp); have n1 : wb.cell? ⟨wa.heap.size, 1, none⟩ = some (str tk1) := (hbb.cell (p := ⟨wa.heap.size, 1, none⟩) (by first | (simp; done) | (simp; omega))).trans (by first | exact n1 | go_simp); have hwa : wa.heap.size < wb.heap.size := (by have := hbb.size; first | omega | (simp at this; omega))) | (go_at_call 106; refine (HRs.out _).mono ?_; rintro e9 wc ⟨rfl, hbc⟩; have hcuc : Below W.heap.size W wc := bel2 hbc (by (repeat (first | exact Below.refl _ _ | assumption | refine Below.drew ?_ | refine below_drewN ?_ _ | refine Below.alloc ?_ (by first | omega | simp <;> omega) _ | refine Below.setCell ?_ (by first | omega | simp <;> omega) _))); have hzc := hcuc.size; have n0 : wc.cell? ⟨wa.heap.size, 0, none⟩ = some (.int .i64 1) := (hbc.cell (p := ⟨wa.heap.size, 0, none⟩) (by first | (simp; done) | (simp; omega))).trans (by first | exact n0 | go_simp); have n1 : wc.cell? ⟨wa.heap.size, 1, none⟩ = some (str tk1) := (hbc.cell (p := ⟨wa.heap.size, 1, none⟩) (by first | (simp; done) | (simp; omega))).trans (by first | exact n1 | go_simp); have hwa : wa.heap.size < wc.heap.size := (by have := hbc.size; first | omega | (simp at this; omega))) | (go_at_call 105; refine (HNm.out _).mono ?_; rintro e9 wd ⟨rfl, rfl⟩))
            go_ret
            exact ⟨ret_bool HB.out.symm, by (repeat (first | exact Below.refl _ _ | assumption | refine Below.drew ?_ | refine below_drewN ?_ _ | refine Below.alloc ?_ (by first | omega | simp <;> omega) _ | refine Below.setCell ?_ (by first | omega | simp <;> omega) _))⟩
        · have h5b : (uk0 == 5) = false := beq_eq_false_iff_ne.2 h5
          have HB := hide (show ans = nb from by rw [HB0.out, h5b]; rfl)
          clear HB0 h5
          go_enter Tryz.func193, Tryz.ntmps193
          go_wp2_with (first | (go_at_call_of 93 (Value.int .i64 0); refine (HPk0.out _ (Below.refl _ _)).mono ?_; rintro e9 wa ⟨rfl, hba⟩; have hcur : Below W.heap.size W wa := hba; have hza := hba.size) | (go_at_call_of 93 (Value.int .i64 1); refine (HPk1.out _ (by (repeat (first | exact Below.refl _ _ | assumption | refine Below.drew ?_ | refine below_drewN ?_ _ | refine Below.alloc ?_ (by first | omega | simp <;> omega) _ | refine Below.setCell ?_ (by first | omega | simp <;> omega) _)))).mono ?_; rintro e9 wb ⟨rfl, hbb⟩; have hcub : Below W.heap.size W wb := bel2 hbb (by (repeat (first | exact Below.refl _ _ | assumption | refine Below.drew ?_ | refine below_drewN ?_ _ | refine Below.alloc ?_ (by first | omega | simp <;> omega) _ | refine Below.setCell ?_ (by first | omega | simp <;> omega) _))); have hzb := hcub.size; have n0 : wb.cell? ⟨wa.heap.size, 0, none⟩ = some (.int .i64 1) := (hbb.cell (p := ⟨wa.heap.size, 0, none⟩) (by first | (simp; done) | (simp; omega))).trans (by first | exact n0 | go_simp); have n1 : wb.cell? ⟨wa.heap.size, 1, none⟩ = some (str tk1) := (hbb.cell (p := ⟨wa.heap.size, 1, none⟩) (by first | (simp; done) | (simp; omega))).trans (by first | exact n1 | go_simp); have hwa : wa.heap.size < wb.heap.size := (by have := hbb.size; first | omega | (simp at this; omega))) | (go_at_call 106; refine (HRs.out _).mono ?_; rintro e9 wc ⟨rfl, hbc⟩; have hcuc : Below W.heap.size W wc := bel2 hbc (by (repeat (first | exact Below.refl _ _ | assumption | refine Below.drew ?_ | refine below_drewN ?_ _ | refine Below.alloc ?_ (by first | omega | simp <;> omega) _ | refine Below.setCell ?_ (by first | omega | simp <;> omega) _))); have hzc := hcuc.size; have n0 : wc.cell? ⟨wa.heap.size, 0, none⟩ = some (.int .i64 1) := (hbc.cell (p := ⟨wa.heap.size, 0, none⟩) (by first | (simp; done) | (simp; omega))).trans (by first | exact n0 | go_simp); have n1 : wc.cell? ⟨wa.heap.size, 1, none⟩ = some (str tk1) := (hbc.cell (p := ⟨wa.heap.size, 1, none⟩) (by first | (simp; done) | (simp; omega))).trans (by first | exact n1 | go_simp); have hwa : wa.heap.size < wc.heap.size := (by have := hbc.size; first | omega | (simp at this; omega))) | (go_at_call 105; refine (HNm.out _).mono ?_; rintro e9 wd ⟨rfl, rfl⟩))
          go_ret
          exact ⟨ret_bool HB.out.symm, by (repeat (first | exact Below.refl _ _ | assumption | refine Below.drew ?_ | refine below_drewN ?_ _ | refine Below.alloc ?_ (by first | omega | simp <;> omega) _ | refine Below.setCell ?_ (by first | omega | simp <;> omega) _))⟩
      · have HB := hide (show ans = false from by rw [HB0.out]; rfl)
        clear HB0
        go_enter Tryz.func193, Tryz.ntmps193
        go_wp2_with (first | (go_at_call_of 93 (Value.int .i64 0); refine (HPk0.out _ (Below.refl _ _)).mono ?_; rintro e9 wa ⟨rfl, hba⟩; have hcur : Below W.heap.size W wa := hba; have hza := hba.size) | (go_at_call_of 93 (Value.int .i64 1); refine (HPk1.out _ (by (repeat (first | exact Below.refl _ _ | assumption | refine Below.drew ?_ | refine below_drewN ?_ _ | refine Below.alloc ?_ (by first | omega | simp <;> omega) _ | refine Below.setCell ?_ (by first | omega | simp <;> omega) _)))).mono ?_; rintro e9 wb ⟨rfl, hbb⟩; have hcub : Below W.heap.size W wb := bel2 hbb (by (repeat (first | exact Below.refl _ _ | assumption | refine Below.drew ?_ | refine below_drewN ?_ _ | refine Below.alloc ?_ (by first | omega | simp <;> omega) _ | refine Below.setCell ?_ (by first | omega | simp <;> omega) _))); have hzb := hcub.size; have n0 : wb.cell? ⟨wa.heap.size, 0, none⟩ = some (.int .i64 1) := (hbb.cell (p := ⟨wa.heap.size, 0, none⟩) (by first | (simp; done) | (simp; omega))).trans (by first | exact n0 | go_simp); have n1 : wb.cell? ⟨wa.heap.size, 1, none⟩ = some (str tk1) := (hbb.cell (p := ⟨wa.heap.size, 1, none⟩) (by first | (simp; done) | (simp; omega))).trans (by first | exact n1 | go_simp); have hwa : wa.heap.size < wb.heap.size := (by have := hbb.size; first | omega | (simp at this; omega))) | (go_at_call 106; refine (HRs.out _).mono ?_; rintro e9 wc ⟨rfl, hbc⟩; have hcuc : Below W.heap.size W wc := bel2 hbc (by (repeat (first | exact Below.refl _ _ | assumption | refine Below.drew ?_ | refine below_drewN ?_ _ | refine Below.alloc ?_ (by first | omega | simp <;> omega) _ | refine Below.setCell ?_ (by first | omega | simp <;> omega) _))); have hzc := hcuc.size; have n0 : wc.cell? ⟨wa.heap.size, 0, none⟩ = some (.int .i64 1) := (hbc.cell (p := ⟨wa.heap.size, 0, none⟩) (by first | (simp; done) | (simp; omega))).trans (by first | exact n0 | go_simp); have n1 : wc.cell? ⟨wa.heap.size, 1, none⟩ = some (str tk1) := (hbc.cell (p := ⟨wa.heap.size, 1, none⟩) (by first | (simp; done) | (simp; omega))).trans (by first | exact n1 | go_simp); have hwa : wa.heap.size < wc.heap.size := (by have := hbc.size; first | omega | (simp at this; omega))) | (go_at_call 105; refine (HNm.out _).mono ?_; rintro e9 wd ⟨rfl, rfl⟩))
        all_goals
          go_ret
          exact ⟨ret_bool HB.out.symm, by (repeat (first | exact Below.refl _ _ | assumption | refine Below.drew ?_ | refine below_drewN ?_ _ | refine Below.alloc ?_ (by first | omega | simp <;> omega) _ | refine Below.setCell ?_ (by first | omega | simp <;> omega) _))⟩
  · have k1b : ((tk ts i).kind == 1) = false := beq_eq_false_iff_ne.2 k1
    have HB0 := hide (show begB ts i = (isSym (tk ts i) [45] || isSym (tk ts i) [40]) from by unfold begB; rw [if_neg k234, if_neg k1])
    have HIs2 := hide (show ∀ (X : World) (y : Bytes), Below W.heap.size W X → Calls Tryz.prog 156 #[.pointer (some ⟨P, 0, none⟩), str y] X (fun e' w' => e' = .returned (.bool (isSym (tk ts i) y)) ∧ Below X.heap.size X w') from fun X y hb => HIs.out X y hb)
    clear HIs
    have HIs := HIs2
    clear HIs2 hnx
    generalize begB ts i = ans at *
    have b2 : ((tk ts i).kind == 2) = false := beq_eq_false_iff_ne.2 (fun h => k234 (.inl h))
    have b3 : ((tk ts i).kind == 3) = false := beq_eq_false_iff_ne.2 (fun h => k234 (.inr (.inl h)))
    have b4 : ((tk ts i).kind == 4) = false := beq_eq_false_iff_ne.2 (fun h => k234 (.inr (.inr h)))
    clear k234 k1
    generalize hs1 : isSym (tk ts i) [45] = s1 at *
    generalize hs2 : isSym (tk ts i) [40] = s2 at *
    have H1 := hide (fun X hb => by have h := HIs.out X [45] hb; rw [hs1] at h; exact h)
    have H2 := hide (fun X hb => by have h := HIs.out X [40] hb; rw [hs2] at h; exact h)
    clear HIs hs1 hs2
    generalize tk ts i = t at *
    obtain ⟨tk0, tk1, tk2, tk3⟩ := t
    simp only at k1b b2 b3 b4
    cases s1
    · have HB := hide (show ans = s2 from by rw [HB0.out]; rfl)
      clear HB0
      go_enter Tryz.func193, Tryz.ntmps193
      go_wp2_with (first | (go_at_call_of 93 (Value.int .i64 0); refine (HPk0.out _ (Below.refl _ _)).mono ?_; rintro e9 wa ⟨rfl, hba⟩; have hcur : Below W.heap.size W wa := hba; have hza := hba.size) | (go_at_call_of 156 (Value.string { data := #[45] }); refine (H1.out _ (by (repeat (first | exact Below.refl _ _ | assumption | refine Below.drew ?_ | refine below_drewN ?_ _ | refine Below.alloc ?_ (by first | omega | simp <;> omega) _ | refine Below.setCell ?_ (by first | omega | simp <;> omega) _)))).mono ?_; rintro e9 we ⟨rfl, hbe⟩; have hcue : Below W.heap.size W we := bel2 hbe (by (repeat (first | exact Below.refl _ _ | assumption | refine Below.drew ?_ | refine below_drewN ?_ _ | refine Below.alloc ?_ (by first | omega | simp <;> omega) _ | refine Below.setCell ?_ (by first | omega | simp <;> omega) _))); have hze := hcue.size) | (go_at_call_of 156 (Value.string { data := #[40] }); refine (H2.out _ (by (repeat (first | exact Below.refl _ _ | assumption | refine Below.drew ?_ | refine below_drewN ?_ _ | refine Below.alloc ?_ (by first | omega | simp <;> omega) _ | refine Below.setCell ?_ (by first | omega | simp <;> omega) _)))).mono ?_; rintro e9 wf ⟨rfl, hbf⟩; have hcuf : Below W.heap.size W wf := bel2 hbf (by (repeat (first | exact Below.refl _ _ | assumption | refine Below.drew ?_ | refine below_drewN ?_ _ | refine Below.alloc ?_ (by first | omega | simp <;> omega) _ | refine Below.setCell ?_ (by first | omega | simp <;> omega) _)))))
      go_ret
      exact ⟨ret_bool HB.out.symm, by (repeat (first | exact Below.refl _ _ | assumption | refine Below.drew ?_ | refine below_drewN ?_ _ | refine Below.alloc ?_ (by first | omega | simp <;> omega) _ | refine Below.setCell ?_ (by first | omega | simp <;> omega) _))⟩
    · have HB := hide (show ans = true from by rw [HB0.out]; rfl)
      clear HB0
      go_enter Tryz.func193, Tryz.ntmps193
      go_wp2_with (first | (go_at_call_of 93 (Value.int .i64 0); refine (HPk0.out _ (Below.refl _ _)).mono ?_; rintro e9 wa ⟨rfl, hba⟩; have hcur : Below W.heap.size W wa := hba; have hza := hba.size) | (go_at_call_of 156 (Value.string { data := #[45] }); refine (H1.out _ (by (repeat (first | exact Below.refl _ _ | assumption | refine Below.drew ?_ | refine below_drewN ?_ _ | refine Below.alloc ?_ (by first | omega | simp <;> omega) _ | refine Below.setCell ?_ (by first | omega | simp <;> omega) _)))).mono ?_; rintro e9 we ⟨rfl, hbe⟩; have hcue : Below W.heap.size W we := bel2 hbe (by (repeat (first | exact Below.refl _ _ | assumption | refine Below.drew ?_ | refine below_drewN ?_ _ | refine Below.alloc ?_ (by first | omega | simp <;> omega) _ | refine Below.setCell ?_ (by first | omega | simp <;> omega) _))); have hze := hcue.size) | (go_at_call_of 156 (Value.string { data := #[40] }); refine (H2.out _ (by (repeat (first | exact Below.refl _ _ | assumption | refine Below.drew ?_ | refine below_drewN ?_ _ | refine Below.alloc ?_ (by first | omega | simp <;> omega) _ | refine Below.setCell ?_ (by first | omega | simp <;> omega) _)))).mono ?_; rintro e9 wf ⟨rfl, hbf⟩; have hcuf : Below W.heap.size W wf := bel2 hbf (by (repeat (first | exact Below.refl _ _ | assumption | refine Below.drew ?_ | refine below_drewN ?_ _ | refine Below.alloc ?_ (by first | omega | simp <;> omega) _ | refine Below.setCell ?_ (by first | omega | simp <;> omega) _)))))
      go_ret
      exact ⟨ret_bool HB.out.symm, by (repeat (first | exact Below.refl _ _ | assumption | refine Below.drew ?_ | refine below_drewN ?_ _ | refine Below.alloc ?_ (by first | omega | simp <;> omega) _ | refine Below.setCell ?_ (by first | omega | simp <;> omega) _))⟩
end Go.Proofs.YtlfedcbihbigoaaGreatDoor

namespace Go.Proofs.YtlfedcbihbigoaaGreatDoor
open Go.RowKit
set_option maxRecDepth 100000 in
set_option maxHeartbeats 2000000 in
theorem r_not (F P : Nat) (A : Option Addr) (ts : List Tok) (c : Nat) (hv : valT ts = true) (hlen : ts.length ≤ 1000000) (hN : LvR 92 F 2 P A ts c) (hC : LvR 125 F 3 P A ts c) : LvR 92 (F + 1) 2 P A ts c := by
  intro W i d hS hi hd _ hF
  rw [prs_2]
  have hP := hS.lt
  have HI := hide (r_word W P A ts c i d 0 hS hi hlen wNot)
  have HS := hide hS
  have HN := hide hN
  have HC := hide hC
  clear hS hN hC
  by_cases hw : isWord (tk ts i) wNot = true
  · rw [if_pos hw]
    have hi1 := word_next hv hi hw
    have hb : ((0 : Int) == 0 && ((tk ts i).kind == 1 && (tk ts i).text == wNot)) = true := hw
    rw [hb] at HI
    clear hb hw
    by_cases hd2 : 256 < d
    · rw [if_pos hd2]
      have HDp := hide (fun W' (hb : Below W.heap.size W W') => r_deep_yes W' P A ts c i d (HS.out.below hb) hd2)
      unfold wNot at *
      go_enter Tryz.func92, Tryz.ntmps92
      go_wp2_with fail
      refine HI.out.mono ?_
      rintro e w1 ⟨rfl, hb1⟩
      go_wp2_with fail
      refine (HDp.out w1 hb1).mono ?_
      rintro e w2 ⟨rfl, hS2, hg2⟩
      have HS2 := hide hS2
      clear hS2
      go_wp2
      go_ret
      exact ⟨(grown_of_below hb1).trans hg2, [], d, ⟨none, 0, rfl, own_nil _ _ _ _⟩, Nat.le_refl _, by simp, ⟨Nat.le_refl _, hd⟩, HS2.out⟩
    · rw [if_neg hd2]
      have HDn := hide (fun W' (hb : Below W.heap.size W W') => r_deep_no W' P A ts c i d (HS.out.below hb) hd2)
      have hff := prs_fact hv F 2 (i + 1) (d + 1) hi1 (fun e => absurd e (by omega))
      have HCal := hide (show ∀ W' : World, Below W.heap.size W W' → ∀ Y : World, Below ((W'.setCell ⟨P, 1, none⟩ (.int .i64 ((i + 1 : Nat) : Int))).setCell ⟨P, 2, none⟩ (.int .i64 ((d + 1 : Nat) : Int))).heap.size ((W'.setCell ⟨P, 1, none⟩ (.int .i64 ((i + 1 : Nat) : Int))).setCell ⟨P, 2, none⟩ (.int .i64 ((d + 1 : Nat) : Int))) Y → Calls Tryz.prog 92 #[.pointer (some ⟨P, 0, none⟩)] Y (fun e2 w2 => ∃ (B2 : Option Addr) (n2 : Nat) (fs : List Nd) (k d3 : Nat) (x2 : Int), e2 = .returned (.slice B2 fs.length n2) ∧ w2.ownsRow W.heap.size 53 6 (.slice B2 fs.length n2) fs.length (ndCells fs) ∧ PSt RT w2 P A ts c k (d3 + 1) x2 ∧ W.grownBy w2 (some P) ∧ i + 1 ≤ k ∧ k < ts.length ∧ fs.length ≤ k - (i + 1) ∧
          ((x2 = 0 ∧ d3 = d ∧ i + 1 < k ∧ prs ts F 2 (i + 1) (d + 1) = .ok fs k) ∨ (x2 ≠ 0 ∧ prs ts F 2 (i + 1) (d + 1) = .err x2 k ∧ d ≤ d3 ∧ d3 ≤ k))) from fun W' hb Y hY =>
        (HN.out Y (i + 1) (d + 1) ((((HS.out.below hb).setAt (i + 1)).setDepth (d + 1)).below hY) hi1 (by omega) (fun e => absurd e (by omega)) (by omega)).mono fun e2 w2 h => by
          obtain ⟨B2, n2, fs, k, d2, x2, h1, h2, h3, h4, h5, h6, h7, h8⟩ := ppost_open hff h
          have hgg := gr_bel (gr_set (gr_set (grown_of_below (r := some P) hb) 1 (.int .i64 ((i + 1 : Nat) : Int))) 2 (.int .i64 ((d + 1 : Nat) : Int))) hY
          obtain ⟨d3, rfl⟩ : ∃ d3, d2 = d3 + 1 := ⟨d2 - 1, by rcases h8 with h8 | h8 <;> omega⟩
          exact ⟨B2, n2, fs, k, d3, x2, h1, own_low h2 hgg.size, h3, hgg.trans h4, h5, h6, h7, by rcases h8 with ⟨q1, q2, q3, q4⟩ | ⟨q1, q2, q3⟩; exact .inl ⟨q1, by omega, q3, q4⟩; exact .inr ⟨q1, q2, by omega, by omega⟩⟩)
      clear hff
      generalize prs ts F 2 (i + 1) (d + 1) = r at *
      obtain ⟨i0, hi0, hz0, hz1, hz2⟩ := info_parts Tryz.info_nd
      unfold wNot at *
      go_enter Tryz.func92, Tryz.ntmps92
      go_wp2_with fail
      refine HI.out.mono ?_
      rintro e w1 ⟨rfl, hb1⟩
      go_wp2_with fail
      refine (HDn.out w1 hb1).mono ?_
      rintro e w2 ⟨rfl, hb2⟩
      have hbw := bel2 hb2 hb1
      obtain ⟨c0, c1, c2, c3⟩ := (HS.out.below hbw).cells
      have hP1 := (HS.out.below hbw).lt
      have hfr := (HS.out.below hbw).free
      go_wp2_with fail
      refine (HCal.out w2 hbw _ (Below.refl _ _)).mono ?_
      rintro e2 w3 ⟨B2, n2, fs, k, d3, x2, rfl, ho2, hS3, hg3, hjk, hkl, hfl, hD2⟩
      have hd3 : d3 ≤ 1000000 := by rcases hD2 with ⟨_, q2, _⟩ | ⟨_, _, _, q2⟩ <;> omega
      have HD2 := hide hD2
      have hgs := hg3.size
      try clear c0 c1 c2 c3 hfr
      obtain ⟨c0, c1, c2, c3⟩ := hS3.cells
      have hP3 := hS3.lt
      have hfr := hS3.free
      have HS4 := hide (hS3.setDepth d3)
      have HG4 := hide (gr_set hg3 2 (.int .i64 (d3 : Int)))
      have HO4 := hide (own_fr ho2 (gr_set (World.grownBy.refl w3 (some P)) 2 (.int .i64 (d3 : Int))) hP)
      clear hS3 hg3 ho2 hD2 HCal
      go_wp2_with (at_builtin; refine wpList_append_own _ rfl _ _ 30 rfl W.heap.size 53 i0 _ 6 64 Tryz.underlying30 hi0 hz0 hz1 hz2 rfl (by decide) _ _ _ rfl (HO4.out.alloc _) ⟨w3.heap.size, 0, none⟩ 1 1 [.int .i64 2, .int .i64 0, .int .i64 0, str [], str [], .int .i64 0] rfl rfl (by exact cells_6 (hn_at' (by simp))) (by simp [Value.oneCell']) (by unfold maxLen; omega) (by omega) (by simp; omega) ?_; intro v5 w5 o5 g5 _; obtain ⟨B5, n5, rfl⟩ := own_form o5; have HS5 := hide ((HS4.out.below (Below.alloc (Below.refl _ _) (Nat.le_refl _) _)).gr g5 (fun j hj => by have := (HO4.out.lt j hj).1; omega)); have HG5 := hide ((gr_bel HG4.out (Below.alloc (Below.refl _ _) (Nat.le_refl _) _)).andThen g5 (fun j hj => .inl (HO4.out.lt j hj).1)); have HO5 := hide (own_nd1 (nd := opNd 2) o5); clear o5 g5)
      go_ret
      rcases HD2.out with ⟨e1, e2, e3, e4⟩ | ⟨e1, e4, e5⟩
      · rw [e4]
        subst e1 e2
        exact ⟨HG5.out, ⟨B5, n5, by first | rfl | (simp; done), HO5.out⟩, HS5.out⟩
      · rw [e4]
        exact ⟨HG5.out, fs ++ [opNd 2], d3, ⟨B5, n5, by first | rfl | (simp; done), HO5.out⟩, by omega, by simp only [List.length_append, List.length_singleton]; omega, e5, HS5.out⟩
  · rw [if_neg hw]
    have hb : ((0 : Int) == 0 && ((tk ts i).kind == 1 && (tk ts i).text == wNot)) = false := by
      have : isWord (tk ts i) wNot = false := by simpa using hw
      exact this
    rw [hb] at HI
    clear hb hw
    unfold wNot at *
    go_enter Tryz.func92, Tryz.ntmps92
    go_wp2_with fail
    refine HI.out.mono ?_
    rintro e w1 ⟨rfl, hb1⟩
    go_wp2_with fail
    refine (HC.out w1 i d (HS.out.below hb1) hi hd (by omega) (by omega)).mono ?_
    intro e2 w2 h2
    obtain ⟨v, rfl⟩ := h2.ret
    have HR := hide (h2.up (grown_of_below hb1))
    clear h2
    go_wp2
    go_ret
    exact HR.out
/-- primary of the reference: behind begins, with no minus. -/
def PrR (F P : Nat) (A : Option Addr) (ts : List Tok) (c : Nat) : Prop := ∀ (W : World) (i d : Nat), PSt RT W P A ts c i d 0 → i < ts.length → d ≤ i → begB ts i = true → isSym (tk ts i) [45] = false → (ts.length - i) * 10 + 1 ≤ F →
  Calls Tryz.prog 194 #[.pointer (some ⟨P, 0, none⟩)] W (PPost RT W P A ts c i d (prs ts F 8 i d))
set_option maxRecDepth 100000 in
set_option maxHeartbeats 2000000 in
theorem r_unary (F P : Nat) (A : Option Addr) (ts : List Tok) (c : Nat) (hv : valT ts = true) (hlen : ts.length ≤ 1000000) (hN : LvR 190 F 7 P A ts c) (hPr : PrR F P A ts c) : LvR 190 (F + 1) 7 P A ts c := by
  intro W i d hS hi hd _ hF
  rw [prs_7]
  have hP := hS.lt
  have HB := hide (r_begins W P A ts c i d hS hv hi hlen)
  obtain ⟨c0, c1, c2, c3⟩ := hS.cells
  have HS := hide hS
  have HN := hide hN
  have HPr := hide hPr
  clear hS hN hPr
  by_cases hb : begB ts i = false
  · rw [if_pos hb]
    rw [hb] at HB
    clear hb
    have HFl := hide (fun W' (hb : Below W.heap.size W W') => r_fail W' P A ts c i d (HS.out.below hb) 3)
    go_enter Tryz.func190, Tryz.ntmps190
    go_wp2_with (go_at_call 193; refine HB.out.mono ?_; rintro e w1 ⟨rfl, hb1⟩)
    refine (HFl.out w1 hb1).mono ?_
    rintro e w2 ⟨rfl, hS2, hg2⟩
    have HS2 := hide hS2
    have HG2 := hide ((grown_of_below hb1).trans hg2)
    clear hS2 hg2
    go_wp2_with fail
    refine (r_deep_err w2 P A ts c i d 3 HS2.out (by decide)).mono ?_
    rintro e w3 ⟨rfl, hb3⟩
    go_wp2
    go_ret
    exact ⟨gr_bel HG2.out hb3, [], d, ⟨none, 0, rfl, own_nil _ _ _ _⟩, Nat.le_refl _, by simp, ⟨Nat.le_refl _, hd⟩, HS2.out.below hb3⟩
  rw [if_neg hb]
  have hbt : begB ts i = true := by simpa using hb
  rw [hbt] at HB
  have hi1 := tk_next hv hi (beg_kind hbt)
  clear hb
  by_cases hd2 : 256 < d
  · rw [if_pos hd2]
    have HDp := hide (fun W' (hb : Below W.heap.size W W') => r_deep_yes W' P A ts c i d (HS.out.below hb) hd2)
    go_enter Tryz.func190, Tryz.ntmps190
    go_wp2_with (go_at_call 193; refine HB.out.mono ?_; rintro e w1 ⟨rfl, hb1⟩)
    refine (HDp.out w1 hb1).mono ?_
    rintro e w2 ⟨rfl, hS2, hg2⟩
    have HS2 := hide hS2
    clear hS2
    go_wp2
    go_ret
    exact ⟨(grown_of_below hb1).trans hg2, [], d, ⟨none, 0, rfl, own_nil _ _ _ _⟩, Nat.le_refl _, by simp, ⟨Nat.le_refl _, hd⟩, HS2.out⟩
  rw [if_neg hd2]
  have HDn := hide (fun W' (hb : Below W.heap.size W W') => r_deep_no W' P A ts c i d (HS.out.below hb) hd2)
  have HIs := hide (fun W' (hb : Below W.heap.size W W') => r_is W' P A ts c i d 0 (HS.out.below hb) hi hlen [45])
  by_cases hm : isSym (tk ts i) [45] = true
  rotate_left
  · rw [if_neg hm]
    have hm0 : isSym (tk ts i) [45] = false := by simpa using hm
    have hmb : ((0 : Int) == 0 && ((tk ts i).kind == 5 && (tk ts i).text == [45])) = false := hm0
    rw [hmb] at HIs
    clear hmb hm
    go_enter Tryz.func190, Tryz.ntmps190
    go_wp2_with (go_at_call 193; refine HB.out.mono ?_; rintro e w1 ⟨rfl, hb1⟩)
    refine (HDn.out w1 hb1).mono ?_
    rintro e w2 ⟨rfl, hb2⟩
    have hb3 := bel2 hb2 hb1
    go_wp2_with fail
    refine (HIs.out w2 hb3).mono ?_
    rintro e w3 ⟨rfl, hb4⟩
    have hb5 := bel2 hb4 hb3
    go_wp2_with fail
    refine (HPr.out w3 i d (HS.out.below hb5) hi hd hbt hm0 (by omega)).mono ?_
    intro e2 w4 h4
    obtain ⟨v, rfl⟩ := h4.ret
    have HR := hide (h4.up (grown_of_below hb5))
    clear h4
    go_wp2
    go_ret
    exact HR.out
  rw [if_pos hm]
  have hmb : ((0 : Int) == 0 && ((tk ts i).kind == 5 && (tk ts i).text == [45])) = true := hm
  rw [hmb] at HIs
  have HPk := hide (fun W' (hb : Below W.heap.size W W') => r_peek W' P A ts c i d 0 (HS.out.below hb) 1 hi1 hlen)
  clear hmb hm hbt
  by_cases hk : (tk ts (i + 1)).kind = 2
  · rw [if_pos hk]
    have hnb := tk_num hv hi1 hk
    generalize tk ts (i + 1) = t at *
    obtain ⟨tk0, tk1, tk2, tk3⟩ := t
    simp only at hk hnb
    subst hk
    obtain ⟨nb1, nb2⟩ := hnb
    go_enter Tryz.func190, Tryz.ntmps190
    go_wp2_with (go_at_call 193; refine HB.out.mono ?_; rintro e w1 ⟨rfl, hb1⟩)
    refine (HDn.out w1 hb1).mono ?_
    rintro e w2 ⟨rfl, hb2⟩
    have hb3 := bel2 hb2 hb1
    go_wp2_with fail
    refine (HIs.out w2 hb3).mono ?_
    rintro e w3 ⟨rfl, hb4⟩
    have hb5 := bel2 hb4 hb3
    go_wp2_with fail
    refine (HPk.out w3 hb5).mono ?_
    rintro e w4 ⟨rfl, hb6⟩
    have hb7 := bel2 hb6 hb5
    have hS4 := HS.out.below hb7
    clear c0 c1 c2 c3
    obtain ⟨c0, c1, c2, c3⟩ := hS4.cells
    have hP4 := hS4.lt
    have hfr := hS4.free
    have HS4 := hide (hS4.setAt (i + 2))
    have HG4 := hide (gr_set (grown_of_below (r := some P) hb7) 1 (.int .i64 ((i + 2 : Nat) : Int)))
    have hz4 := hb7.size
    clear hS4
    go_wp2_with fail
    refine (r_constant ⟨2, -tk2, []⟩ _).mono ?_
    rintro e3 w5 ⟨⟨B, n, rfl, ho⟩, hb8⟩
    have HS5 := hide (PSt.below (HS4.out.below (by (repeat (first | exact Below.refl _ _ | assumption | refine Below.drew ?_ | refine below_drewN ?_ _ | refine Below.alloc ?_ (by first | omega | simp <;> omega) _ | refine Below.setCell ?_ (by first | omega | simp <;> omega) _)))) hb8)
    have HG5 := hide (gr_bel (gr_bel HG4.out (by (repeat (first | exact Below.refl _ _ | assumption | refine Below.drew ?_ | refine below_drewN ?_ _ | refine Below.alloc ?_ (by first | omega | simp <;> omega) _ | refine Below.setCell ?_ (by first | omega | simp <;> omega) _)))) hb8)
    have HO5 := hide (own_low ho (b2 := W.heap.size) (by simp; omega))
    clear ho c0 c1 c2 c3
    go_wp2
    go_ret
    exact ⟨HG5.out, ⟨B, n, rfl, HO5.out⟩, HS5.out⟩
  rw [if_neg hk]
  have hkb : ((tk ts (i + 1)).kind == 2) = false := beq_eq_false_iff_ne.2 hk
  have hff := prs_fact hv F 7 (i + 1) (d + 1) hi1 (fun e => absurd e (by omega))
  have HCal := hide (show ∀ W' : World, Below W.heap.size W W' → ∀ Y : World, Below ((W'.setCell ⟨P, 1, none⟩ (.int .i64 ((i + 1 : Nat) : Int))).setCell ⟨P, 2, none⟩ (.int .i64 ((d + 1 : Nat) : Int))).heap.size ((W'.setCell ⟨P, 1, none⟩ (.int .i64 ((i + 1 : Nat) : Int))).setCell ⟨P, 2, none⟩ (.int .i64 ((d + 1 : Nat) : Int))) Y → Calls Tryz.prog 190 #[.pointer (some ⟨P, 0, none⟩)] Y (fun e2 w2 => ∃ (B2 : Option Addr) (n2 : Nat) (fs : List Nd) (k d3 : Nat) (x2 : Int), e2 = .returned (.slice B2 fs.length n2) ∧ w2.ownsRow W.heap.size 53 6 (.slice B2 fs.length n2) fs.length (ndCells fs) ∧ PSt RT w2 P A ts c k (d3 + 1) x2 ∧ W.grownBy w2 (some P) ∧ i + 1 ≤ k ∧ k < ts.length ∧ fs.length ≤ k - (i + 1) ∧
      ((x2 = 0 ∧ d3 = d ∧ i + 1 < k ∧ prs ts F 7 (i + 1) (d + 1) = .ok fs k) ∨ (x2 ≠ 0 ∧ prs ts F 7 (i + 1) (d + 1) = .err x2 k ∧ d ≤ d3 ∧ d3 ≤ k))) from fun W' hb Y hY =>
    (HN.out Y (i + 1) (d + 1) ((((HS.out.below hb).setAt (i + 1)).setDepth (d + 1)).below hY) hi1 (by omega) (fun e => absurd e (by omega)) (by omega)).mono fun e2 w2 h => by
      obtain ⟨B2, n2, fs, k, d2, x2, h1, h2, h3, h4, h5, h6, h7, h8⟩ := ppost_open hff h
      have hgg := gr_bel (gr_set (gr_set (grown_of_below (r := some P) hb) 1 (.int .i64 ((i + 1 : Nat) : Int))) 2 (.int .i64 ((d + 1 : Nat) : Int))) hY
      obtain ⟨d3, rfl⟩ : ∃ d3, d2 = d3 + 1 := ⟨d2 - 1, by rcases h8 with h8 | h8 <;> omega⟩
      exact ⟨B2, n2, fs, k, d3, x2, h1, own_low h2 hgg.size, h3, hgg.trans h4, h5, h6, h7, by rcases h8 with ⟨q1, q2, q3, q4⟩ | ⟨q1, q2, q3⟩; exact .inl ⟨q1, by omega, q3, q4⟩; exact .inr ⟨q1, q2, by omega, by omega⟩⟩)
  clear hff
  generalize prs ts F 7 (i + 1) (d + 1) = r at *
  obtain ⟨i0, hi0, hz0, hz1, hz2⟩ := info_parts Tryz.info_nd
  generalize tk ts (i + 1) = t at *
  obtain ⟨tk0, tk1, tk2, tk3⟩ := t
  simp only at hkb
  clear hk
  go_enter Tryz.func190, Tryz.ntmps190
  go_wp2_with (go_at_call 193; refine HB.out.mono ?_; rintro e w1 ⟨rfl, hb1⟩)
  refine (HDn.out w1 hb1).mono ?_
  rintro e w2 ⟨rfl, hb2⟩
  have hb3 := bel2 hb2 hb1
  go_wp2_with fail
  refine (HIs.out w2 hb3).mono ?_
  rintro e w3 ⟨rfl, hb4⟩
  have hb5 := bel2 hb4 hb3
  go_wp2_with fail
  refine (HPk.out w3 hb5).mono ?_
  rintro e w4 ⟨rfl, hb6⟩
  have hb7 := bel2 hb6 hb5
  have hS4 := HS.out.below hb7
  clear c0 c1 c2 c3
  obtain ⟨c0, c1, c2, c3⟩ := hS4.cells
  have hP4 := hS4.lt
  have hfr := hS4.free
  have hz4 := hb7.size
  clear hS4
  go_wp2_with fail
  refine (HCal.out w4 hb7 _ (by (repeat (first | exact Below.refl _ _ | assumption | refine Below.drew ?_ | refine below_drewN ?_ _ | refine Below.alloc ?_ (by first | omega | simp <;> omega) _ | refine Below.setCell ?_ (by first | omega | simp <;> omega) _)))).mono ?_
  rintro e2 w3 ⟨B2, n2, fs, k, d3, x2, rfl, ho2, hS3, hg3, hjk, hkl, hfl, hD2⟩
  have hd3 : d3 ≤ 1000000 := by rcases hD2 with ⟨_, q2, _⟩ | ⟨_, _, _, q2⟩ <;> omega
  have HD2 := hide hD2
  have hgs := hg3.size
  try clear c0 c1 c2 c3 hfr
  obtain ⟨c0, c1, c2, c3⟩ := hS3.cells
  have hP3 := hS3.lt
  have hfr := hS3.free
  have HS4 := hide (hS3.setDepth d3)
  have HG4 := hide (gr_set hg3 2 (.int .i64 (d3 : Int)))
  have HO4 := hide (own_fr ho2 (gr_set (World.grownBy.refl w3 (some P)) 2 (.int .i64 (d3 : Int))) hP)
  clear hS3 hg3 ho2 hD2 HCal
  go_wp2_with (at_builtin; refine wpList_append_own _ rfl _ _ 30 rfl W.heap.size 53 i0 _ 6 64 Tryz.underlying30 hi0 hz0 hz1 hz2 rfl (by decide) _ _ _ rfl (HO4.out.alloc _) ⟨w3.heap.size, 0, none⟩ 1 1 [.int .i64 3, .int .i64 0, .int .i64 0, str [], str [], .int .i64 0] rfl rfl (by exact cells_6 (hn_at' (by simp))) (by simp [Value.oneCell']) (by unfold maxLen; omega) (by omega) (by simp; omega) ?_; intro v5 w5 o5 g5 _; obtain ⟨B5, n5, rfl⟩ := own_form o5; have HS5 := hide ((HS4.out.below (Below.alloc (Below.refl _ _) (Nat.le_refl _) _)).gr g5 (fun j hj => by have := (HO4.out.lt j hj).1; omega)); have HG5 := hide ((gr_bel HG4.out (Below.alloc (Below.refl _ _) (Nat.le_refl _) _)).andThen g5 (fun j hj => .inl (HO4.out.lt j hj).1)); have HO5 := hide (own_nd1 (nd := opNd 3) o5); clear o5 g5)
  go_ret
  rcases HD2.out with ⟨e1, e2, e3, e4⟩ | ⟨e1, e4, e5⟩
  · rw [e4]
    subst e1 e2
    exact ⟨HG5.out, ⟨B5, n5, by first | rfl | (simp; done), HO5.out⟩, HS5.out⟩
  · rw [e4]
    exact ⟨HG5.out, fs ++ [opNd 3], d3, ⟨B5, n5, by first | rfl | (simp; done), HO5.out⟩, by omega, by simp only [List.length_append, List.length_singleton]; omega, e5, HS5.out⟩
end Go.Proofs.YtlfedcbihbigoaaGreatDoor

namespace Go.Proofs.YtlfedcbihbigoaaGreatDoor
open Go.RowKit
theorem prs_close {ts : List Tok} {F i d : Nat} (hF : 9 ≤ F) (hs : isSym (tk ts i) [41] = true) : prs ts F 0 i d = .err 3 i := by
  have hk := isSym_kind hs
  have ht := isSym_text hs
  have hb : begB ts i = false := by
    unfold begB
    have h1 : isSym (tk ts i) [45] = false := by unfold isSym; rw [ht]; simp
    have h2 : isSym (tk ts i) [40] = false := by unfold isSym; rw [ht]; simp
    rw [h1, h2, hk]
    simp
  have hw : isWord (tk ts i) wNot = false := by unfold isWord; rw [hk]; rfl
  obtain ⟨G, rfl⟩ : ∃ G, F = G + 8 := ⟨F - 8, by omega⟩
  have e7 : ∀ G d, prs ts (G + 1) 7 i d = .err 3 i := fun G d => by rw [prs_7, if_pos hb]
  have ch : ∀ G l d, l ≠ 2 → l ≠ 3 → l ≠ 7 → l ≠ 8 → prs ts G (l + 1) i d = .err 3 i → prs ts (G + 1) l i d = .err 3 i := fun G l d h2 h3 h7 h8 h => by
    conv => lhs; unfold prs
    rw [if_neg h2, if_neg h3, if_neg h7, if_neg h8]
    unfold chnP
    simp only [h, PR.bind]
  have e4 : prs ts (G + 4) 4 i d = .err 3 i := ch _ 4 d (by decide) (by decide) (by decide) (by decide) (ch _ 5 d (by decide) (by decide) (by decide) (by decide) (ch _ 6 d (by decide) (by decide) (by decide) (by decide) (e7 G d)))
  have e3 : prs ts (G + 5) 3 i d = .err 3 i := by
    conv => lhs; unfold prs
    rw [if_neg (by decide), if_pos rfl]
    unfold cmpP
    simp only [e4, PR.bind]
  have e2 : prs ts (G + 6) 2 i d = .err 3 i := by
    conv => lhs; unfold prs
    rw [if_pos rfl]
    unfold notP
    rw [hw, if_neg (by decide)]
    exact e3
  exact ch _ 0 d (by decide) (by decide) (by decide) (by decide) (ch _ 1 d (by decide) (by decide) (by decide) (by decide) e2)
set_option maxRecDepth 100000 in
set_option maxHeartbeats 2000000 in
theorem r_day (F P : Nat) (A : Option Addr) (ts : List Tok) (c : Nat) (hv : valT ts = true) (hlen : ts.length ≤ 1000000) (hO : LvR 32 F 0 P A ts c) (W : World) (i d : Nat) (hS : PSt RT W P A ts c i (d + 1) 0) (hi : i < ts.length) (hd : d + 1 ≤ i) (hF : (ts.length - i) * 10 + 9 ≤ F) :
    Calls Tryz.prog 199 #[.pointer (some ⟨P, 0, none⟩)] W (PPost RT W P A ts c i d ((prs ts F 0 i (d + 1)).bind (dayS ts))) := by
  have hP := hS.lt
  have hff := prs_fact hv F 0 i (d + 1) hi (fun e => absurd e (by omega))
  have HOr := hide ((hO W i (d + 1) hS hi hd (fun e => absurd e (by omega)) (by omega)).mono fun e2 w2 h => ppost_open hff h)
  obtain ⟨i0, hi0, hz0, hz1, hz2⟩ := info_parts Tryz.info_nd
  clear hff hS hO
  generalize prs ts F 0 i (d + 1) = r at *
  go_enter Tryz.func199, Tryz.ntmps199
  go_wp2_with fail
  refine HOr.out.mono ?_
  rintro e2 w2 ⟨B2, n2, fs, k, d2, x2, rfl, ho2, hS2, hg2, hjk, hkl, hfl, hD2⟩
  have HS2 := hide hS2
  have HG2 := hide hg2
  have HO2 := hide ho2
  have hgs := hg2.size
  have hd2 : d2 ≤ 1000000 := by rcases hD2 with ⟨_, q2, _, _⟩ | ⟨_, _, _, q2⟩ <;> omega
  have HD2 := hide hD2
  clear hS2 hg2 ho2 hD2 HOr
  by_cases hx : x2 = 0
  rotate_left
  · rcases HD2.out with ⟨h, _⟩ | ⟨_, hr, hd4, hd5⟩
    · exact absurd h hx
    have HE := hide (show r.bind (dayS ts) = .err x2 k from by rw [hr]; rfl)
    have hxb : (x2 == 0) = false := beq_eq_false_iff_ne.2 hx
    have hxn : (x2 != 0) = true := by simpa using hx
    clear hr HD2
    go_wp2_with fail
    refine (r_take_err w2 P A ts c k d2 x2 HS2.out hx hkl hlen [44]).mono ?_
    rintro e3 w3 ⟨rfl, hb3⟩
    go_wp2_with fail
    refine (r_peek w3 P A ts c k d2 x2 (HS2.out.below hb3) 0 hkl hlen).mono ?_
    rintro e4 w4 ⟨rfl, hb4⟩
    have hb5 := bel2 hb4 hb3
    have hz5 := hb5.size
    rw [Nat.add_zero]
    generalize tk ts k = t at *
    obtain ⟨tk0, tk1, tk2, tk3⟩ := t
    obtain ⟨c0, c1, c2, c3⟩ := (HS2.out.below hb5).cells
    have hP4 := (HS2.out.below hb5).lt
    have HFl := hide (fun X (hb : Below w2.heap.size w2 X) => r_fail_no X P A ts c k d2 x2 (HS2.out.below hb) hx 3)
    go_wp2_with fail
    refine (HFl.out _ (by (repeat (first | exact Below.refl _ _ | assumption | refine Below.drew ?_ | refine below_drewN ?_ _ | refine Below.alloc ?_ (by first | omega | simp <;> omega) _ | refine Below.setCell ?_ (by first | omega | simp <;> omega) _)))).mono ?_
    rintro e6 w6 ⟨rfl, hb6⟩
    have hb7 : Below w2.heap.size w2 w6 := bel2 hb6 (by (repeat (first | exact Below.refl _ _ | assumption | refine Below.drew ?_ | refine below_drewN ?_ _ | refine Below.alloc ?_ (by first | omega | simp <;> omega) _ | refine Below.setCell ?_ (by first | omega | simp <;> omega) _)))
    go_wp2
    go_ret
    rw [HE.out]
    exact ⟨gr_bel HG2.out hb7, [], d2, ⟨none, 0, rfl, own_nil _ _ _ _⟩, by omega, by simp, ⟨by omega, by omega⟩, HS2.out.below hb7⟩
  rcases HD2.out with ⟨_, hdd, hik, hr⟩ | ⟨h, _⟩
  rotate_left
  · exact absurd hx h
  subst hx hdd
  have hR : r.bind (dayS ts) = (if isSym (tk ts k) [44] = true then dayT ts fs (k + 1) else .err 3 k) := by rw [hr]; rfl
  clear hr HD2
  generalize r.bind (dayS ts) = R at *
  by_cases hs : isSym (tk ts k) [44] = true
  rotate_left
  · rw [if_neg hs] at hR
    have HE := hide hR
    clear hR
    have hsb : isSym (tk ts k) [44] = false := by simpa using hs
    have HTk := hide (r_take_no w2 P A ts c k (d + 1) HS2.out hkl hlen [44] hsb)
    clear hs hsb
    go_wp2_with fail
    refine HTk.out.mono ?_
    rintro e3 w3 ⟨rfl, hS3, hg3⟩
    have HS3 := hide hS3
    have HG3 := hide (HG2.out.trans hg3)
    clear hS3 hg3
    go_wp2_with fail
    refine (r_peek w3 P A ts c k (d + 1) 3 HS3.out 0 hkl hlen).mono ?_
    rintro e4 w4 ⟨rfl, hb4⟩
    have hz4 := hb4.size
    rw [Nat.add_zero]
    generalize tk ts k = t at *
    obtain ⟨tk0, tk1, tk2, tk3⟩ := t
    obtain ⟨c0, c1, c2, c3⟩ := (HS3.out.below hb4).cells
    have hP4 := (HS3.out.below hb4).lt
    have HFl := hide (fun X (hb : Below w3.heap.size w3 X) => r_fail_no X P A ts c k (d + 1) 3 (HS3.out.below hb) (by decide) 3)
    go_wp2_with fail
    refine (HFl.out _ (by (repeat (first | exact Below.refl _ _ | assumption | refine Below.drew ?_ | refine below_drewN ?_ _ | refine Below.alloc ?_ (by first | omega | simp <;> omega) _ | refine Below.setCell ?_ (by first | omega | simp <;> omega) _)))).mono ?_
    rintro e6 w6 ⟨rfl, hb6⟩
    have hb7 : Below w3.heap.size w3 w6 := bel2 hb6 (by (repeat (first | exact Below.refl _ _ | assumption | refine Below.drew ?_ | refine below_drewN ?_ _ | refine Below.alloc ?_ (by first | omega | simp <;> omega) _ | refine Below.setCell ?_ (by first | omega | simp <;> omega) _)))
    go_wp2
    go_ret
    rw [HE.out]
    exact ⟨gr_bel HG3.out hb7, [], d + 1, ⟨none, 0, rfl, own_nil _ _ _ _⟩, by omega, by simp, ⟨by omega, by omega⟩, HS3.out.below hb7⟩
  rw [if_pos hs] at hR
  unfold dayT at hR
  have HR0 := hide hR
  clear hR
  have hk1 := sym_next hv hkl hs
  have HTk := hide (r_take_yes w2 P A ts c k (d + 1) HS2.out hkl hlen [44] hs)
  clear hs
  have hnx := fun hk => tk_next hv hk1 hk
  go_wp2_with fail
  refine HTk.out.mono ?_
  rintro e3 w3 ⟨rfl, hS3, hg3⟩
  have HS3 := hide hS3
  have HG3 := hide (HG2.out.trans hg3)
  have HO3 := hide (own_fr HO2.out hg3 hP)
  have hgs3 := hg3.size
  clear hS3 hg3 HTk HS2 HG2 HO2
  go_wp2_with fail
  refine (r_peek w3 P A ts c (k + 1) (d + 1) 0 HS3.out 0 hk1 hlen).mono ?_
  rintro e4 w4 ⟨rfl, hb4⟩
  rw [Nat.add_zero]
  have hz4 := hb4.size
  have hR := HR0.out
  clear HR0
  by_cases hk : (tk ts (k + 1)).kind = 1
  rotate_left
  · rw [if_neg (fun h => hk h.1)] at hR
    have HE := hide hR
    clear hnx hR
    have hkb : ((tk ts (k + 1)).kind == 1) = false := beq_eq_false_iff_ne.2 hk
    have hkn : ((tk ts (k + 1)).kind != 1) = true := by simpa using hk
    generalize tk ts (k + 1) = t at *
    obtain ⟨tk0, tk1, tk2, tk3⟩ := t
    simp only at hkb hkn
    obtain ⟨c0, c1, c2, c3⟩ := (HS3.out.below hb4).cells
    have hP4 := (HS3.out.below hb4).lt
    have HFl := hide (fun X (hb : Below w3.heap.size w3 X) => r_fail X P A ts c (k + 1) (d + 1) (HS3.out.below hb) 3)
    go_wp2_with fail
    refine (HFl.out _ (by (repeat (first | exact Below.refl _ _ | assumption | refine Below.drew ?_ | refine below_drewN ?_ _ | refine Below.alloc ?_ (by first | omega | simp <;> omega) _ | refine Below.setCell ?_ (by first | omega | simp <;> omega) _)))).mono ?_
    rintro e6 w6 ⟨rfl, hS6, hg6⟩
    have HS6 := hide hS6
    have HG6 := hide (World.grownBy.trans (gr_bel HG3.out (by (repeat (first | exact Below.refl _ _ | assumption | refine Below.drew ?_ | refine below_drewN ?_ _ | refine Below.alloc ?_ (by first | omega | simp <;> omega) _ | refine Below.setCell ?_ (by first | omega | simp <;> omega) _)))) hg6)
    clear hS6 hg6 c0 c1 c2 c3
    go_wp2
    go_ret
    rw [HE.out]
    exact ⟨HG6.out, [], d + 1, ⟨none, 0, rfl, own_nil _ _ _ _⟩, by omega, by simp, ⟨by omega, by omega⟩, HS6.out⟩
  have hk2 := hnx (by rw [hk]; decide)
  have HRs := hide (fun (X : World) => ref7_Reserved_any ⟨(tk ts (k + 1)).text.toArray⟩ X)
  have hbs : bs ⟨(tk ts (k + 1)).text.toArray⟩ = (tk ts (k + 1)).text := rfl
  rw [hbs] at HRs
  have hwr : wordsS.contains (tk ts (k + 1)).text = resB (tk ts (k + 1)).text := rfl
  rw [hwr] at hR
  clear hbs hnx hwr
  generalize tk ts (k + 1) = t at *
  obtain ⟨tk0, tk1, tk2, tk3⟩ := t
  simp only at hk HRs hR hk2
  have hkn : (tk0 != 1) = false := by simp [hk]
  obtain ⟨c0, c1, c2, c3⟩ := (HS3.out.below hb4).cells
  have hP4 := (HS3.out.below hb4).lt
  by_cases hr : resB tk1 = true
  · rw [if_neg (fun h => by have h2 := h.2; rw [hr] at h2; cases h2)] at hR
    have HE := hide hR
    rw [hr] at HRs
    clear hr hR
    have HFl := hide (fun X (hb : Below w3.heap.size w3 X) => r_fail X P A ts c (k + 1) (d + 1) (HS3.out.below hb) 3)
    go_wp2_with (go_at_call 106; refine (HRs.out _).mono ?_; rintro e9 w5 ⟨rfl, hb5⟩; have hcu5 : Below w3.heap.size w3 w5 := bel2 hb5 (by (repeat (first | exact Below.refl _ _ | assumption | refine Below.drew ?_ | refine below_drewN ?_ _ | refine Below.alloc ?_ (by first | omega | simp <;> omega) _ | refine Below.setCell ?_ (by first | omega | simp <;> omega) _))))
    refine (HFl.out _ hcu5).mono ?_
    rintro e6 w6 ⟨rfl, hS6, hg6⟩
    have HS6 := hide hS6
    have HG6 := hide (World.grownBy.trans (gr_bel HG3.out hcu5) hg6)
    clear hS6 hg6 c0 c1 c2 c3
    go_wp2
    go_ret
    rw [HE.out]
    exact ⟨HG6.out, [], d + 1, ⟨none, 0, rfl, own_nil _ _ _ _⟩, by omega, by simp, ⟨by omega, by omega⟩, HS6.out⟩
  have hr : resB tk1 = false := by simpa using hr
  rw [if_pos ⟨hk, hr⟩] at hR
  clear hk
  have HR := hide hR
  rw [hr] at HRs
  clear hr hR
  have HAt := hide (fun X (hb : Below w3.heap.size w3 X) => And.intro ((HS3.out.below hb).setAt (k + 2)) (And.intro (gr_set (gr_bel HG3.out hb) 1 (.int .i64 ((k + 2 : Nat) : Int))) (own_fr (own_below HO3.out hb) (gr_set (World.grownBy.refl X (some P)) 1 (.int .i64 ((k + 2 : Nat) : Int))) hP)))
  have HCl := hide (fun X (hb : Below w3.heap.size w3 X) => (HS3.out.below hb).cells)
  have HFz := hide (fun X (hb : Below w3.heap.size w3 X) => (HS3.out.below hb).free)
  have HLt := hide (fun X (hb : Below w3.heap.size w3 X) => (HS3.out.below hb).lt)
  clear c0 c1 c2 c3
  obtain ⟨c0, c1, c2, c3⟩ := HCl.out w4 hb4
  go_wp2_with (go_at_call 106; refine (HRs.out _).mono ?_; rintro e9 w5 ⟨rfl, hb5⟩; have hcu5 : Below w3.heap.size w3 w5 := bel2 hb5 (by (repeat (first | exact Below.refl _ _ | assumption | refine Below.drew ?_ | refine below_drewN ?_ _ | refine Below.alloc ?_ (by first | omega | simp <;> omega) _ | refine Below.setCell ?_ (by first | omega | simp <;> omega) _))); have m1 : w5.cell? ⟨w4.heap.size, 1, none⟩ = some (str tk1) := (hb5.cell (p := ⟨w4.heap.size, 1, none⟩) (by first | (simp; done) | (simp; omega))).trans (by go_simp); have hz5 : w4.heap.size < w5.heap.size := (by have := hb5.size; simp at this; omega); clear c0 c1 c2 c3; obtain ⟨c0, c1, c2, c3⟩ := HCl.out w5 hcu5; have hfr := HFz.out w5 hcu5; have hP5 := HLt.out w5 hcu5)
  have HS5 := hide (HAt.out w5 hcu5).1
  have HG5 := hide (HAt.out w5 hcu5).2.1
  have HO5 := hide (HAt.out w5 hcu5).2.2
  have hm5 : (w5.setCell ⟨P, 1, none⟩ (.int .i64 ((k + 2 : Nat) : Int))).cell? ⟨w4.heap.size, 1, none⟩ = some (str tk1) := by go_simp
  have hz5b : w4.heap.size < (w5.setCell ⟨P, 1, none⟩ (.int .i64 ((k + 2 : Nat) : Int))).heap.size := by simp; omega
  have hzP : P < w4.heap.size := hP4
  have hz34 := hb4.size
  clear HAt HCl HFz HLt HS3 HG3 HO3 HRs c0 c1 c2 c3 hfr m1
  have hcc : ((k + 2 : Nat) : Int) = (k : Int) + 1 + 1 := by omega
  rw [hcc] at HS5 HG5 HO5 hm5 hz5b
  clear hcc
  generalize w5.setCell ⟨P, 1, none⟩ (.int .i64 ((k : Int) + 1 + 1)) = X5 at *
  by_cases hs : isSym (tk ts (k + 2)) [41] = true
  · have HE := hide (HR.out.trans (if_pos hs))
    refine (r_take_yes X5 P A ts c (k + 2) (d + 1) HS5.out hk2 hlen [41] hs).mono ?_
    rintro e6 w6 ⟨rfl, hS6, hg6⟩
    have m6 : w6.cell? ⟨w4.heap.size, 1, none⟩ = some (str tk1) := hg6.cell hm5 (by intro e; injection e with e; simp at e; omega)
    have hz6 := hg6.size
    obtain ⟨c0, c1, c2, c3⟩ := hS6.cells
    have hP6 := hS6.lt
    have hfr := hS6.free
    have HS7 := hide (hS6.setDepth d)
    have HG7 := hide (gr_set (HG5.out.trans hg6) 2 (.int .i64 (d : Int)))
    have HO7 := hide (own_fr (own_fr HO5.out hg6 hP) (gr_set (World.grownBy.refl w6 (some P)) 2 (.int .i64 (d : Int))) hP)
    clear hS6 hg6 HS5 HG5 HO5
    go_wp2_with (at_builtin; refine wpList_append_own _ rfl _ _ 30 rfl W.heap.size 53 i0 _ 6 64 Tryz.underlying30 hi0 hz0 hz1 hz2 rfl (by decide) _ _ _ rfl (HO7.out.alloc _) ⟨w6.heap.size, 0, none⟩ 1 1 [.int .i64 20, .int .i64 0, .int .i64 0, str [], str tk1, .int .i64 0] rfl rfl (by exact cells_6 (hn_at' (by simp))) (by simp [Value.oneCell']) (by unfold maxLen; omega) (by omega) (by simp; omega) ?_; intro v8 w8 o8 g8 _; obtain ⟨B8, n8, rfl⟩ := own_form o8; have HS8 := hide ((HS7.out.below (Below.alloc (Below.refl _ _) (Nat.le_refl _) _)).gr g8 (fun j hj => by have := (HO7.out.lt j hj).1; omega)); have HG8 := hide ((gr_bel HG7.out (Below.alloc (Below.refl _ _) (Nat.le_refl _) _)).andThen g8 (fun j hj => .inl (HO7.out.lt j hj).1)); have HO8 := hide (own_nd1 (nd := ⟨20, vl0, tk1, 0⟩) o8); clear o8 g8)
    go_ret
    rw [HE.out]
    exact ⟨HG8.out, ⟨B8, n8, by first | rfl | (simp; done), HO8.out⟩, HS8.out⟩
  · have HE := hide (HR.out.trans (if_neg hs))
    have hsb : isSym (tk ts (k + 2)) [41] = false := by simpa using hs
    refine (r_take_no X5 P A ts c (k + 2) (d + 1) HS5.out hk2 hlen [41] hsb).mono ?_
    rintro e6 w6 ⟨rfl, hS6, hg6⟩
    have m6 : w6.cell? ⟨w4.heap.size, 1, none⟩ = some (str tk1) := hg6.cell hm5 (by intro e; injection e with e; simp at e; omega)
    have hz6 := hg6.size
    obtain ⟨c0, c1, c2, c3⟩ := hS6.cells
    have hP6 := hS6.lt
    have hfr := hS6.free
    have HS7 := hide (hS6.setDepth d)
    have HG7 := hide (gr_set (HG5.out.trans hg6) 2 (.int .i64 (d : Int)))
    have HO7 := hide (own_fr (own_fr HO5.out hg6 hP) (gr_set (World.grownBy.refl w6 (some P)) 2 (.int .i64 (d : Int))) hP)
    clear hS6 hg6 HS5 HG5 HO5
    go_wp2_with (at_builtin; refine wpList_append_own _ rfl _ _ 30 rfl W.heap.size 53 i0 _ 6 64 Tryz.underlying30 hi0 hz0 hz1 hz2 rfl (by decide) _ _ _ rfl (HO7.out.alloc _) ⟨w6.heap.size, 0, none⟩ 1 1 [.int .i64 20, .int .i64 0, .int .i64 0, str [], str tk1, .int .i64 0] rfl rfl (by exact cells_6 (hn_at' (by simp))) (by simp [Value.oneCell']) (by unfold maxLen; omega) (by omega) (by simp; omega) ?_; intro v8 w8 o8 g8 _; obtain ⟨B8, n8, rfl⟩ := own_form o8; have HS8 := hide ((HS7.out.below (Below.alloc (Below.refl _ _) (Nat.le_refl _) _)).gr g8 (fun j hj => by have := (HO7.out.lt j hj).1; omega)); have HG8 := hide ((gr_bel HG7.out (Below.alloc (Below.refl _ _) (Nat.le_refl _) _)).andThen g8 (fun j hj => .inl (HO7.out.lt j hj).1)); have HO8 := hide (own_nd1 (nd := ⟨20, vl0, tk1, 0⟩) o8); clear o8 g8)
    go_ret
    rw [HE.out]
    exact ⟨HG8.out, fs ++ [⟨20, vl0, tk1, 0⟩], d, ⟨B8, n8, by first | rfl | (simp; done), HO8.out⟩, by omega, by simp only [List.length_append, List.length_singleton]; omega, ⟨by omega, by omega⟩, HS8.out⟩
end Go.Proofs.YtlfedcbihbigoaaGreatDoor
