/- Parts of the proof. -/
import Derived.Test.YtmbeeefkpgfgmaaGreatDoorPp29
import Derived.Test.YtmbeeefkpgfgmaaGreatDoorPp21
set_option linter.unusedVariables false
set_option linter.unusedSimpArgs false
set_option maxHeartbeats 2000000
namespace Go.Proofs.YtmbeeefkpgfgmaaGreatDoor
open Go.Proofs.Tryz
open Go.RowKit
set_option maxRecDepth 100000
theorem p_s (W : World) (P : Nat) (A : Option Addr) (ts : List Tok) (c i d : Nat) (hS : PSt RT W P A ts c i d 0) (hv : a_O ts = true) (hi : i < ts.length) (hl : ts.length ≤ 1000000) :
  Calls prog 343 #[.pointer (some ⟨P, 0, none⟩)] W fun e' w' => e' = .returned (.bool (d_4 ts i)) ∧ Below W.heap.size W w' := by
 have HPk0 := a_0 (fun (X : World) (hb : Below W.heap.size W X) => f_7 X P A ts c i d 0 (hS.below hb) 0 hi hl)
 have HIs := a_0 (fun (X : World) (y : a_3) (hb : Below W.heap.size W X) => l_f X P A ts c i d 0 (hS.below hb) hi hl y)
 have hnx := fun hk => b_0 hv hi hk
 have HS := a_0 hS
 clear hv hS
 rw [Nat.add_zero] at HPk0
 by_cases k234 : (tk ts i).kind = 2 ∨ (tk ts i).kind = 3 ∨ (tk ts i).kind = 4
 ·have HB := a_0 (show d_4 ts i = true from by unfold d_4; rw [if_pos k234])
  clear hnx HIs
  generalize tk ts i = t at *
  obtain ⟨tk0, tk1, tk2, tk3⟩ := t
  simp only at k234
  rcases k234 with rfl | rfl | rfl
  all_goals
   go_enter func343, ntmps343
   go_wp2_with (first | (go_at_call_of 309 (Value.int .i64 0); refine (HPk0.out _ (b_ _ _)).mono ?_; rintro e9 wa ⟨rfl, hba⟩; have hcur : Below W.heap.size W wa := hba; have hza := hba.size))
   exact l_b
 by_cases k1 : (tk ts i).kind = 1
 ·have hn1 := hnx (by rw [k1]; decide)
  by_cases hw : (tk ts i).text = d_K ∨ (tk ts i).text = d_I ∨ (tk ts i).text = c_o
  ·have HB := a_0 (show d_4 ts i = true from by unfold d_4; rw [if_neg k234, if_pos k1, if_pos hw])
   clear hnx HIs; generalize tk ts i = t at *; obtain ⟨tk0, tk1, tk2, tk3⟩ := t; simp only at k1 hw; subst k1; clear k234
   rcases hw with rfl | rfl | rfl
   all_goals
    try unfold d_K at *
    try unfold d_I at *
    try unfold c_o at *
    go_enter func343, ntmps343
    go_wp2_with (first | (go_at_call_of 309 (Value.int .i64 0); refine (HPk0.out _ (b_ _ _)).mono ?_; rintro e9 wa ⟨rfl, hba⟩; have hcur : Below W.heap.size W wa := hba; have hza := hba.size))
    exact l_b
  ·have HPk1 := a_0 (fun (X : World) (hb : Below W.heap.size W X) => f_7 X P A ts c i d 0 (HS.out.below hb) 1 hn1 hl)
   refine v_n ?_; intro HRs HNm hbs; rw [hbs] at HRs HNm; have HB0 := a_0 (show d_4 ts i = (!e_g (tk ts i).text && (((tk ts (i + 1)).kind == 5 && (tk ts (i + 1)).text == [40]) || a_p 24 (tk ts i).text)) from by unfold d_4; rw [if_neg k234, if_pos k1, if_neg hw]; rfl); clear hnx hbs HIs; generalize d_4 ts i = ans at *; generalize tk ts i = t at *; generalize tk ts (i + 1) = u at *; obtain ⟨tk0, tk1, tk2, tk3⟩ := t; obtain ⟨uk0, uk1, uk2, uk3⟩ := u; simp only at k1 hw HB0 HRs HNm; subst k1; clear k234; have v1 : (tk1 == d_K) = false := beq_eq_false_iff_ne.2 (fun h => hw (.inl h)); have v2 : (tk1 == d_I) = false := beq_eq_false_iff_ne.2 (fun h => hw (.inr (.inl h))); have v3 : (tk1 == c_o) = false := beq_eq_false_iff_ne.2 (fun h => hw (.inr (.inr h))); unfold d_K at v1; unfold d_I at v2; unfold c_o at v3; clear hw; generalize a_p 24 tk1 = nb at *; have tk0e : ∃ z : Int, z = 1 := ⟨1, rfl⟩
   rcases hr : e_g tk1 with _ | _ <;> rw [hr] at HRs HB0 <;> clear hr
   ·by_cases h5 : uk0 = 5
    ·by_cases hp : uk1 = [40]
     ·subst h5 hp
      have HB := a_0 (show ans = true from by rw [HB0.out]; rfl); clear HB0
      go_enter func343, ntmps343
      go_wp2_with (first | (go_at_call_of 309 (Value.int .i64 0); refine (HPk0.out _ (b_ _ _)).mono ?_; rintro e9 wa ⟨rfl, hba⟩; have hcur : Below W.heap.size W wa := hba; have hza := hba.size) | (go_at_call_of 309 (Value.int .i64 1); refine (HPk1.out _ zX).mono ?_; rintro e9 wb ⟨rfl, hbb⟩; have hcub : Below W.heap.size W wb := a_n hbb zX; have hzb := hcub.size; have n0 : wb.cell? ⟨wa.heap.size, 0, none⟩ = some (.int .i64 1) := (hbb.cell (p := ⟨wa.heap.size, 0, none⟩) n_).trans (by first | exact n0 | go_simp); have n1 : wb.cell? ⟨wa.heap.size, 1, none⟩ = some (str tk1) := (hbb.cell (p := ⟨wa.heap.size, 1, none⟩) n_).trans (by first | exact n1 | go_simp); have hwa : wa.heap.size < wb.heap.size := (by have := hbb.size; first | omega | (simp at this; omega))) | (go_at_call 99; refine (HRs.out _).mono ?_; rintro e9 wc ⟨rfl, hbc⟩; have hcuc : Below W.heap.size W wc := a_n hbc zX; have hzc := hcuc.size; have n0 : wc.cell? ⟨wa.heap.size, 0, none⟩ = some (.int .i64 1) := (hbc.cell (p := ⟨wa.heap.size, 0, none⟩) n_).trans (by first | exact n0 | go_simp); have n1 : wc.cell? ⟨wa.heap.size, 1, none⟩ = some (str tk1) := (hbc.cell (p := ⟨wa.heap.size, 1, none⟩) n_).trans (by first | exact n1 | go_simp); have hwa : wa.heap.size < wc.heap.size := (by have := hbc.size; first | omega | (simp at this; omega))) | (go_at_call 162; refine (HNm.out _).mono ?_; rintro e9 wd ⟨rfl, rfl⟩))
      exact l_b
     ·subst h5
      have hpb : (uk1 == [40]) = false := beq_eq_false_iff_ne.2 hp; have HB := a_0 (show ans = nb from by rw [HB0.out, hpb]; rfl); clear HB0 hp
      go_enter func343, ntmps343
      go_wp2_with (first | (go_at_call_of 309 (Value.int .i64 0); refine (HPk0.out _ (b_ _ _)).mono ?_; rintro e9 wa ⟨rfl, hba⟩; have hcur : Below W.heap.size W wa := hba; have hza := hba.size) | (go_at_call_of 309 (Value.int .i64 1); refine (HPk1.out _ zX).mono ?_; rintro e9 wb ⟨rfl, hbb⟩; have hcub : Below W.heap.size W wb := a_n hbb zX; have hzb := hcub.size; have n0 : wb.cell? ⟨wa.heap.size, 0, none⟩ = some (.int .i64 1) := (hbb.cell (p := ⟨wa.heap.size, 0, none⟩) n_).trans (by first | exact n0 | go_simp); have n1 : wb.cell? ⟨wa.heap.size, 1, none⟩ = some (str tk1) := (hbb.cell (p := ⟨wa.heap.size, 1, none⟩) n_).trans (by first | exact n1 | go_simp); have hwa : wa.heap.size < wb.heap.size := (by have := hbb.size; first | omega | (simp at this; omega))) | (go_at_call 99; refine (HRs.out _).mono ?_; rintro e9 wc ⟨rfl, hbc⟩; have hcuc : Below W.heap.size W wc := a_n hbc zX; have hzc := hcuc.size; have n0 : wc.cell? ⟨wa.heap.size, 0, none⟩ = some (.int .i64 1) := (hbc.cell (p := ⟨wa.heap.size, 0, none⟩) n_).trans (by first | exact n0 | go_simp); have n1 : wc.cell? ⟨wa.heap.size, 1, none⟩ = some (str tk1) := (hbc.cell (p := ⟨wa.heap.size, 1, none⟩) n_).trans (by first | exact n1 | go_simp); have hwa : wa.heap.size < wc.heap.size := (by have := hbc.size; first | omega | (simp at this; omega))) | (go_at_call 162; refine (HNm.out _).mono ?_; rintro e9 wd ⟨rfl, rfl⟩))
      exact l_b
    ·have h5b : (uk0 == 5) = false := beq_eq_false_iff_ne.2 h5
     have HB := a_0 (show ans = nb from by rw [HB0.out, h5b]; rfl); clear HB0 h5
     go_enter func343, ntmps343
     go_wp2_with (first | (go_at_call_of 309 (Value.int .i64 0); refine (HPk0.out _ (b_ _ _)).mono ?_; rintro e9 wa ⟨rfl, hba⟩; have hcur : Below W.heap.size W wa := hba; have hza := hba.size) | (go_at_call_of 309 (Value.int .i64 1); refine (HPk1.out _ zX).mono ?_; rintro e9 wb ⟨rfl, hbb⟩; have hcub : Below W.heap.size W wb := a_n hbb zX; have hzb := hcub.size; have n0 : wb.cell? ⟨wa.heap.size, 0, none⟩ = some (.int .i64 1) := (hbb.cell (p := ⟨wa.heap.size, 0, none⟩) n_).trans (by first | exact n0 | go_simp); have n1 : wb.cell? ⟨wa.heap.size, 1, none⟩ = some (str tk1) := (hbb.cell (p := ⟨wa.heap.size, 1, none⟩) n_).trans (by first | exact n1 | go_simp); have hwa : wa.heap.size < wb.heap.size := (by have := hbb.size; first | omega | (simp at this; omega))) | (go_at_call 99; refine (HRs.out _).mono ?_; rintro e9 wc ⟨rfl, hbc⟩; have hcuc : Below W.heap.size W wc := a_n hbc zX; have hzc := hcuc.size; have n0 : wc.cell? ⟨wa.heap.size, 0, none⟩ = some (.int .i64 1) := (hbc.cell (p := ⟨wa.heap.size, 0, none⟩) n_).trans (by first | exact n0 | go_simp); have n1 : wc.cell? ⟨wa.heap.size, 1, none⟩ = some (str tk1) := (hbc.cell (p := ⟨wa.heap.size, 1, none⟩) n_).trans (by first | exact n1 | go_simp); have hwa : wa.heap.size < wc.heap.size := (by have := hbc.size; first | omega | (simp at this; omega))) | (go_at_call 162; refine (HNm.out _).mono ?_; rintro e9 wd ⟨rfl, rfl⟩))
     exact l_b
   ·have HB := a_0 (show ans = false from by rw [HB0.out]; rfl)
    clear HB0
    go_enter func343, ntmps343
    go_wp2_with (first | (go_at_call_of 309 (Value.int .i64 0); refine (HPk0.out _ (b_ _ _)).mono ?_; rintro e9 wa ⟨rfl, hba⟩; have hcur : Below W.heap.size W wa := hba; have hza := hba.size) | (go_at_call_of 309 (Value.int .i64 1); refine (HPk1.out _ zX).mono ?_; rintro e9 wb ⟨rfl, hbb⟩; have hcub : Below W.heap.size W wb := a_n hbb zX; have hzb := hcub.size; have n0 : wb.cell? ⟨wa.heap.size, 0, none⟩ = some (.int .i64 1) := (hbb.cell (p := ⟨wa.heap.size, 0, none⟩) n_).trans (by first | exact n0 | go_simp); have n1 : wb.cell? ⟨wa.heap.size, 1, none⟩ = some (str tk1) := (hbb.cell (p := ⟨wa.heap.size, 1, none⟩) n_).trans (by first | exact n1 | go_simp); have hwa : wa.heap.size < wb.heap.size := (by have := hbb.size; first | omega | (simp at this; omega))) | (go_at_call 99; refine (HRs.out _).mono ?_; rintro e9 wc ⟨rfl, hbc⟩; have hcuc : Below W.heap.size W wc := a_n hbc zX; have hzc := hcuc.size; have n0 : wc.cell? ⟨wa.heap.size, 0, none⟩ = some (.int .i64 1) := (hbc.cell (p := ⟨wa.heap.size, 0, none⟩) n_).trans (by first | exact n0 | go_simp); have n1 : wc.cell? ⟨wa.heap.size, 1, none⟩ = some (str tk1) := (hbc.cell (p := ⟨wa.heap.size, 1, none⟩) n_).trans (by first | exact n1 | go_simp); have hwa : wa.heap.size < wc.heap.size := (by have := hbc.size; first | omega | (simp at this; omega))) | (go_at_call 162; refine (HNm.out _).mono ?_; rintro e9 wd ⟨rfl, rfl⟩))
    all_goals
     exact l_b
 ·have k1b : ((tk ts i).kind == 1) = false := beq_eq_false_iff_ne.2 k1
  have HB0 := a_0 (show d_4 ts i = (a_9 (tk ts i) [45] || a_9 (tk ts i) [40]) from by unfold d_4; rw [if_neg k234, if_neg k1])
  have HIs2 := a_0 (show ∀ (X : World) (y : a_3), Below W.heap.size W X → Calls prog 335 #[.pointer (some ⟨P, 0, none⟩), str y] X (fun e' w' => e' = .returned (.bool (a_9 (tk ts i) y)) ∧ Below X.heap.size X w') from fun X y hb => HIs.out X y hb)
  clear HIs
  have HIs := HIs2
  clear HIs2 hnx
  generalize d_4 ts i = ans at *
  have b2 : ((tk ts i).kind == 2) = false := beq_eq_false_iff_ne.2 (fun h => k234 (.inl h))
  have b3 : ((tk ts i).kind == 3) = false := beq_eq_false_iff_ne.2 (fun h => k234 (.inr (.inl h)))
  have b4 : ((tk ts i).kind == 4) = false := beq_eq_false_iff_ne.2 (fun h => k234 (.inr (.inr h)))
  clear k234 k1
  generalize hs1 : a_9 (tk ts i) [45] = s1 at *
  generalize hs2 : a_9 (tk ts i) [40] = s2 at *
  have H1 := a_0 (fun X hb => by have h := HIs.out X [45] hb; rw [hs1] at h; exact h)
  have H2 := a_0 (fun X hb => by have h := HIs.out X [40] hb; rw [hs2] at h; exact h)
  clear HIs hs1 hs2
  generalize tk ts i = t at *
  obtain ⟨tk0, tk1, tk2, tk3⟩ := t
  simp only at k1b b2 b3 b4
  cases s1
  ·have HB := a_0 (show ans = s2 from by rw [HB0.out]; rfl)
   clear HB0
   go_enter func343, ntmps343
   go_wp2_with (first | (go_at_call_of 309 (Value.int .i64 0); refine (HPk0.out _ (b_ _ _)).mono ?_; rintro e9 wa ⟨rfl, hba⟩; have hcur : Below W.heap.size W wa := hba; have hza := hba.size) | (go_at_call_of 335 (Value.string { data := #[45] }); refine (H1.out _ zX).mono ?_; rintro e9 we ⟨rfl, hbe⟩; have hcue : Below W.heap.size W we := a_n hbe zX; have hze := hcue.size) | (go_at_call_of 335 (Value.string { data := #[40] }); refine (H2.out _ zX).mono ?_; rintro e9 wf ⟨rfl, hbf⟩; have hcuf : Below W.heap.size W wf := a_n hbf zX))
   exact l_b
  ·have HB := a_0 (show ans = true from by rw [HB0.out]; rfl)
   clear HB0
   go_enter func343, ntmps343
   go_wp2_with (first | (go_at_call_of 309 (Value.int .i64 0); refine (HPk0.out _ (b_ _ _)).mono ?_; rintro e9 wa ⟨rfl, hba⟩; have hcur : Below W.heap.size W wa := hba; have hza := hba.size) | (go_at_call_of 335 (Value.string { data := #[45] }); refine (H1.out _ zX).mono ?_; rintro e9 we ⟨rfl, hbe⟩; have hcue : Below W.heap.size W we := a_n hbe zX; have hze := hcue.size) | (go_at_call_of 335 (Value.string { data := #[40] }); refine (H2.out _ zX).mono ?_; rintro e9 wf ⟨rfl, hbf⟩; have hcuf : Below W.heap.size W wf := a_n hbf zX))
   exact l_b
set_option maxRecDepth 100000
theorem u_i (F P : Nat) (A : Option Addr) (ts : List Tok) (c : Nat) (hv : a_O ts = true) (hlen : ts.length ≤ 1000000) (hN : LvR 308 F 2 P A ts c) (hC : LvR 323 F 3 P A ts c) : LvR 308 (F + 1) 2 P A ts c := by
 intro W i d hS hi hd _ hF
 rw [s_H]
 have hP := hS.lt
 have HI := a_0 (m_7 W P A ts c i d 0 hS hi hlen j_j)
 have HS := a_0 hS
 have HN := a_0 hN
 have HC := a_0 hC
 clear hS hN hC
 by_cases hw : c_k (tk ts i) j_j = true
 ·rw [if_pos hw]
  have hi1 := d_Q hv hi hw
  have hb : ((0 : Int) == 0 && ((tk ts i).kind == 1 && (tk ts i).text == j_j)) = true := hw
  rw [hb] at HI
  clear hb hw
  by_cases hd2 : 256 < d
  ·rw [if_pos hd2]
   have HDp := a_0 (fun W' (hb : Below W.heap.size W W') => j_1 W' P A ts c i d (HS.out.below hb) hd2); unfold j_j at *
   go_enter func308, ntmps308
   go_wp2_with fail
   refine HI.out.mono ?_; rintro e w1 ⟨rfl, hb1⟩
   go_wp2_with fail
   refine (HDp.out w1 hb1).mono ?_; rintro e w2 ⟨rfl, hS2, hg2⟩; have HS2 := a_0 hS2; clear hS2
   go_wp2
   exact s_D
  ·rw [if_neg hd2]
   have HDn := a_0 (fun W' (hb : Below W.heap.size W W') => k_J W' P A ts c i d (HS.out.below hb) hd2); have hff := b_6 hv F 2 (i + 1) (d + 1) hi1 (fun e => absurd e o_)
   have HCal := a_0 (show ∀ W' : World, Below W.heap.size W W' → ∀ Y : World, Below ((W'.setCell ⟨P, 1, none⟩ (.int .i64 ((i + 1 : Nat) : Int))).setCell ⟨P, 2, none⟩ (.int .i64 ((d + 1 : Nat) : Int))).heap.size ((W'.setCell ⟨P, 1, none⟩ (.int .i64 ((i + 1 : Nat) : Int))).setCell ⟨P, 2, none⟩ (.int .i64 ((d + 1 : Nat) : Int))) Y → Calls prog 308 #[.pointer (some ⟨P, 0, none⟩)] Y (fun e2 w2 => ∃ (B2 : Option Addr) (n2 : Nat) (fs : List Nd) (k d3 : Nat) (x2 : Int), e2 = .returned (.slice B2 fs.length n2) ∧ w2.ownsRow W.heap.size 116 6 (.slice B2 fs.length n2) fs.length (a_a fs) ∧ PSt RT w2 P A ts c k (d3 + 1) x2 ∧ W.grownBy w2 (some P) ∧ i + 1 ≤ k ∧ k < ts.length ∧ fs.length ≤ k - (i + 1) ∧
     ((x2 = 0 ∧ d3 = d ∧ i + 1 < k ∧ prs ts F 2 (i + 1) (d + 1) = .ok fs k) ∨ (x2 ≠ 0 ∧ prs ts F 2 (i + 1) (d + 1) = .err x2 k ∧ d ≤ d3 ∧ d3 ≤ k))) from fun W' hb Y hY =>
    (HN.out Y (i + 1) (d + 1) ((((HS.out.below hb).setAt (i + 1)).setDepth (d + 1)).below hY) hi1 o_ (fun e => absurd e o_) o_).mono fun e2 w2 h => by
     obtain ⟨B2, n2, fs, k, d2, x2, h1, h2, h3, h4, h5, h6, h7, h8⟩ := a_C hff h; refine w_x ?_; intro hgg; obtain ⟨d3, rfl⟩ : ∃ d3, d2 = d3 + 1 := ⟨d2 - 1, by rcases h8 with h8 | h8 <;> omega⟩
     exact ⟨B2, n2, fs, k, d3, x2, h1, a_Z h2 hgg.size, h3, hgg.trans h4, h5, h6, h7, by rcases h8 with ⟨q1, q2, q3, q4⟩ | ⟨q1, q2, q3⟩; exact .inl ⟨q1, o_, q3, q4⟩; exact .inr ⟨q1, q2, o_, o_⟩⟩)
   clear hff; generalize prs ts F 2 (i + 1) (d + 1) = r at *; refine _ag ?_; intro i0 hi0 hz0 hz1 hz2; unfold j_j at *
   go_enter func308, ntmps308
   go_wp2_with fail
   refine HI.out.mono ?_; rintro e w1 ⟨rfl, hb1⟩
   go_wp2_with fail
   refine (HDn.out w1 hb1).mono ?_; rintro e w2 ⟨rfl, hb2⟩; have hbw := a_n hb2 hb1; obtain ⟨c0, c1, c2, c3⟩ := (HS.out.below hbw).cells; have hP1 := (HS.out.below hbw).lt; have hfr := (HS.out.below hbw).free
   go_wp2_with fail
   refine (HCal.out w2 hbw _ (b_ _ _)).mono ?_; rintro e2 w3 ⟨B2, n2, fs, k, d3, x2, rfl, ho2, hS3, hg3, hjk, hkl, hfl, hD2⟩; refine r_T ?_; intro hd3; have HD2 := a_0 hD2; have hgs := hg3.size
   try clear c0 c1 c2 c3 hfr
   refine t_C ?_; intro c0 c1 c2 c3 hP3 hfr HS4 HG4 HO4; clear hS3 hg3 ho2 hD2 HCal
   go_wp2_with (at_builtin; refine wpList_append_own _ rfl _ _ 25 rfl W.heap.size 116 i0 _ 6 64 underlying25 hi0 hz0 hz1 hz2 rfl d_ _ _ _ rfl (HO4.out.alloc _) ⟨w3.heap.size, 0, none⟩ 1 1 [.int .i64 2, .int .i64 0, .int .i64 0, str [], str [], .int .i64 0] rfl rfl (by exact b_h (b_d s_)) c_ x_ o_ m_ ?_; intro v5 w5 o5 g5 _; obtain ⟨B5, n5, rfl⟩ := a_i o5; have HS5 := a_0 ((HS4.out.below (Below.alloc (b_ _ _) (l_ _) _)).gr g5 (fun j hj => by have := (HO4.out.lt j hj).1; omega)); have HG5 := a_0 ((a_h HG4.out (Below.alloc (b_ _ _) (l_ _) _)).andThen g5 (fun j hj => .inl (HO4.out.lt j hj).1)); have HO5 := a_0 (d_5 (nd := c_3 2) o5); clear o5 g5)
   go_ret
   rcases HD2.out with ⟨e1, e2, e3, e4⟩ | ⟨e1, e4, e5⟩
   ·rw [e4]
    subst e1 e2; exact ⟨HG5.out, ⟨B5, n5, v_, HO5.out⟩, HS5.out⟩
   ·rw [e4]
    exact ⟨HG5.out, fs ++ [c_3 2], d3, ⟨B5, n5, v_, HO5.out⟩, o_, by simp only [List.length_append, List.length_singleton]; omega, e5, HS5.out⟩
 ·rw [if_neg hw]
  have hb : ((0 : Int) == 0 && ((tk ts i).kind == 1 && (tk ts i).text == j_j)) = false := by
   have : c_k (tk ts i) j_j = false := by simpa using hw
   exact this
  rw [hb] at HI
  clear hb hw
  unfold j_j at *
  go_enter func308, ntmps308
  go_wp2_with fail
  refine HI.out.mono ?_
  rintro e w1 ⟨rfl, hb1⟩
  go_wp2_with fail
  refine (HC.out w1 i d (HS.out.below hb1) hi hd o_ o_).mono ?_
  intro e2 w2 h2
  obtain ⟨v, rfl⟩ := h2.ret
  have HR := a_0 (h2.up (a_1 hb1))
  clear h2
  go_wp2
  exact p_f
def PrR (F P : Nat) (A : Option Addr) (ts : List Tok) (c : Nat) : Prop := ∀ (W : World) (i d : Nat), PSt RT W P A ts c i d 0 → i < ts.length → d ≤ i → d_4 ts i = true → a_9 (tk ts i) [45] = false → (ts.length - i) * 10 + 1 ≤ F →
 Calls prog 344 #[.pointer (some ⟨P, 0, none⟩)] W (d_e RT W P A ts c i d (prs ts F 8 i d))
theorem r_F (F P : Nat) (A : Option Addr) (ts : List Tok) (c : Nat) (hv : a_O ts = true) (hlen : ts.length ≤ 1000000) (hN : LvR 342 F 7 P A ts c) (hPr : PrR F P A ts c) : LvR 342 (F + 1) 7 P A ts c := by
 intro W i d hS hi hd _ hF
 rw [q_W]
 have hP := hS.lt
 have HB := a_0 (p_s W P A ts c i d hS hv hi hlen)
 obtain ⟨c0, c1, c2, c3⟩ := hS.cells
 have HS := a_0 hS
 have HN := a_0 hN
 have HPr := a_0 hPr
 clear hS hN hPr
 by_cases hb : d_4 ts i = false
 ·rw [if_pos hb]
  rw [hb] at HB
  clear hb
  have HFl := a_0 (fun W' (hb : Below W.heap.size W W') => f_K W' P A ts c i d (HS.out.below hb) 3)
  go_enter func342, ntmps342
  go_wp2_with (go_at_call 343; refine HB.out.mono ?_; rintro e w1 ⟨rfl, hb1⟩)
  refine (HFl.out w1 hb1).mono ?_
  rintro e w2 ⟨rfl, hS2, hg2⟩
  have HS2 := a_0 hS2
  have HG2 := a_0 ((a_1 hb1).trans hg2)
  clear hS2 hg2
  go_wp2_with fail
  refine (m_b w2 P A ts c i d 3 HS2.out d_).mono ?_
  rintro e w3 ⟨rfl, hb3⟩
  go_wp2
  go_ret
  exact ⟨a_h HG2.out hb3, [], d, ⟨none, 0, rfl, a_o _ _ _ _⟩, l_ _, s_, ⟨l_ _, hd⟩, HS2.out.below hb3⟩
 rw [if_neg hb]
 have hbt : d_4 ts i = true := by simpa using hb
 rw [hbt] at HB
 have hi1 := b_0 hv hi (d_j hbt)
 clear hb
 by_cases hd2 : 256 < d
 ·rw [if_pos hd2]
  have HDp := a_0 (fun W' (hb : Below W.heap.size W W') => j_1 W' P A ts c i d (HS.out.below hb) hd2)
  go_enter func342, ntmps342
  go_wp2_with (go_at_call 343; refine HB.out.mono ?_; rintro e w1 ⟨rfl, hb1⟩)
  refine (HDp.out w1 hb1).mono ?_
  rintro e w2 ⟨rfl, hS2, hg2⟩
  have HS2 := a_0 hS2
  clear hS2
  go_wp2
  exact s_D
 rw [if_neg hd2]
 have HDn := a_0 (fun W' (hb : Below W.heap.size W W') => k_J W' P A ts c i d (HS.out.below hb) hd2)
 have HIs := a_0 (fun W' (hb : Below W.heap.size W W') => l_f W' P A ts c i d 0 (HS.out.below hb) hi hlen [45])
 by_cases hm : a_9 (tk ts i) [45] = true
 rotate_left
 ·rw [if_neg hm]
  have hm0 : a_9 (tk ts i) [45] = false := by simpa using hm
  have hmb : ((0 : Int) == 0 && ((tk ts i).kind == 5 && (tk ts i).text == [45])) = false := hm0
  rw [hmb] at HIs
  clear hmb hm
  go_enter func342, ntmps342
  go_wp2_with (go_at_call 343; refine HB.out.mono ?_; rintro e w1 ⟨rfl, hb1⟩)
  refine (HDn.out w1 hb1).mono ?_
  rintro e w2 ⟨rfl, hb2⟩
  have hb3 := a_n hb2 hb1
  go_wp2_with fail
  refine (HIs.out w2 hb3).mono ?_
  rintro e w3 ⟨rfl, hb4⟩
  have hb5 := a_n hb4 hb3
  go_wp2_with fail
  refine (HPr.out w3 i d (HS.out.below hb5) hi hd hbt hm0 o_).mono ?_
  intro e2 w4 h4
  obtain ⟨v, rfl⟩ := h4.ret
  have HR := a_0 (h4.up (a_1 hb5))
  clear h4
  go_wp2
  exact p_f
 rw [if_pos hm]
 have hmb : ((0 : Int) == 0 && ((tk ts i).kind == 5 && (tk ts i).text == [45])) = true := hm
 rw [hmb] at HIs
 have HPk := a_0 (fun W' (hb : Below W.heap.size W W') => f_7 W' P A ts c i d 0 (HS.out.below hb) 1 hi1 hlen)
 clear hmb hm hbt
 by_cases hk : (tk ts (i + 1)).kind = 2
 ·rw [if_pos hk]
  have hnb := q_O hv hi1 hk
  generalize tk ts (i + 1) = t at *
  obtain ⟨tk0, tk1, tk2, tk3⟩ := t
  simp only at hk hnb
  subst hk
  obtain ⟨nb1, nb2⟩ := hnb
  go_enter func342, ntmps342
  go_wp2_with (go_at_call 343; refine HB.out.mono ?_; rintro e w1 ⟨rfl, hb1⟩)
  refine (HDn.out w1 hb1).mono ?_
  rintro e w2 ⟨rfl, hb2⟩
  have hb3 := a_n hb2 hb1
  go_wp2_with fail
  refine (HIs.out w2 hb3).mono ?_
  rintro e w3 ⟨rfl, hb4⟩
  have hb5 := a_n hb4 hb3
  go_wp2_with fail
  refine (HPk.out w3 hb5).mono ?_
  rintro e w4 ⟨rfl, hb6⟩
  have hb7 := a_n hb6 hb5
  have hS4 := HS.out.below hb7
  clear c0 c1 c2 c3
  obtain ⟨c0, c1, c2, c3⟩ := hS4.cells
  have hP4 := hS4.lt
  have hfr := hS4.free
  have HS4 := a_0 (hS4.setAt (i + 2))
  have HG4 := a_0 (a_d (a_1 (r := some P) hb7) 1 (.int .i64 ((i + 2 : Nat) : Int)))
  have hz4 := hb7.size
  clear hS4
  go_wp2_with fail
  refine (c_Q ⟨2, -tk2, []⟩ _).mono ?_
  rintro e3 w5 ⟨⟨B, n, rfl, ho⟩, hb8⟩
  have HS5 := a_0 (PSt.below (HS4.out.below zX) hb8)
  have HG5 := a_0 (a_h (a_h HG4.out zX) hb8)
  have HO5 := a_0 (a_Z ho (b2 := W.heap.size) m_)
  clear ho c0 c1 c2 c3
  go_wp2
  go_ret
  exact ⟨HG5.out, ⟨B, n, rfl, HO5.out⟩, HS5.out⟩
 rw [if_neg hk]
 refine v_B ?_; intro hkb hff
 have HCal := a_0 (show ∀ W' : World, Below W.heap.size W W' → ∀ Y : World, Below ((W'.setCell ⟨P, 1, none⟩ (.int .i64 ((i + 1 : Nat) : Int))).setCell ⟨P, 2, none⟩ (.int .i64 ((d + 1 : Nat) : Int))).heap.size ((W'.setCell ⟨P, 1, none⟩ (.int .i64 ((i + 1 : Nat) : Int))).setCell ⟨P, 2, none⟩ (.int .i64 ((d + 1 : Nat) : Int))) Y → Calls prog 342 #[.pointer (some ⟨P, 0, none⟩)] Y (fun e2 w2 => ∃ (B2 : Option Addr) (n2 : Nat) (fs : List Nd) (k d3 : Nat) (x2 : Int), e2 = .returned (.slice B2 fs.length n2) ∧ w2.ownsRow W.heap.size 116 6 (.slice B2 fs.length n2) fs.length (a_a fs) ∧ PSt RT w2 P A ts c k (d3 + 1) x2 ∧ W.grownBy w2 (some P) ∧ i + 1 ≤ k ∧ k < ts.length ∧ fs.length ≤ k - (i + 1) ∧
   ((x2 = 0 ∧ d3 = d ∧ i + 1 < k ∧ prs ts F 7 (i + 1) (d + 1) = .ok fs k) ∨ (x2 ≠ 0 ∧ prs ts F 7 (i + 1) (d + 1) = .err x2 k ∧ d ≤ d3 ∧ d3 ≤ k))) from fun W' hb Y hY =>
  (HN.out Y (i + 1) (d + 1) ((((HS.out.below hb).setAt (i + 1)).setDepth (d + 1)).below hY) hi1 o_ (fun e => absurd e o_) o_).mono fun e2 w2 h => by
   obtain ⟨B2, n2, fs, k, d2, x2, h1, h2, h3, h4, h5, h6, h7, h8⟩ := a_C hff h; refine w_x ?_; intro hgg; obtain ⟨d3, rfl⟩ : ∃ d3, d2 = d3 + 1 := ⟨d2 - 1, by rcases h8 with h8 | h8 <;> omega⟩
   exact ⟨B2, n2, fs, k, d3, x2, h1, a_Z h2 hgg.size, h3, hgg.trans h4, h5, h6, h7, by rcases h8 with ⟨q1, q2, q3, q4⟩ | ⟨q1, q2, q3⟩; exact .inl ⟨q1, o_, q3, q4⟩; exact .inr ⟨q1, q2, o_, o_⟩⟩)
 clear hff
 generalize prs ts F 7 (i + 1) (d + 1) = r at *
 refine _ag ?_; intro i0 hi0 hz0 hz1 hz2
 generalize tk ts (i + 1) = t at *
 obtain ⟨tk0, tk1, tk2, tk3⟩ := t
 simp only at hkb
 clear hk
 go_enter func342, ntmps342
 go_wp2_with (go_at_call 343; refine HB.out.mono ?_; rintro e w1 ⟨rfl, hb1⟩)
 refine (HDn.out w1 hb1).mono ?_
 rintro e w2 ⟨rfl, hb2⟩
 have hb3 := a_n hb2 hb1
 go_wp2_with fail
 refine (HIs.out w2 hb3).mono ?_
 rintro e w3 ⟨rfl, hb4⟩
 have hb5 := a_n hb4 hb3
 go_wp2_with fail
 refine (HPk.out w3 hb5).mono ?_
 rintro e w4 ⟨rfl, hb6⟩
 have hb7 := a_n hb6 hb5
 have hS4 := HS.out.below hb7
 clear c0 c1 c2 c3
 obtain ⟨c0, c1, c2, c3⟩ := hS4.cells
 have hP4 := hS4.lt
 have hfr := hS4.free
 have hz4 := hb7.size
 clear hS4
 go_wp2_with fail
 refine (HCal.out w4 hb7 _ zX).mono ?_
 rintro e2 w3 ⟨B2, n2, fs, k, d3, x2, rfl, ho2, hS3, hg3, hjk, hkl, hfl, hD2⟩
 refine r_T ?_; intro hd3
 have HD2 := a_0 hD2
 have hgs := hg3.size
 try clear c0 c1 c2 c3 hfr
 refine t_C ?_; intro c0 c1 c2 c3 hP3 hfr HS4 HG4 HO4
 clear hS3 hg3 ho2 hD2 HCal
 go_wp2_with (at_builtin; refine wpList_append_own _ rfl _ _ 25 rfl W.heap.size 116 i0 _ 6 64 underlying25 hi0 hz0 hz1 hz2 rfl d_ _ _ _ rfl (HO4.out.alloc _) ⟨w3.heap.size, 0, none⟩ 1 1 [.int .i64 3, .int .i64 0, .int .i64 0, str [], str [], .int .i64 0] rfl rfl (by exact b_h (b_d s_)) c_ x_ o_ m_ ?_; intro v5 w5 o5 g5 _; obtain ⟨B5, n5, rfl⟩ := a_i o5; have HS5 := a_0 ((HS4.out.below (Below.alloc (b_ _ _) (l_ _) _)).gr g5 (fun j hj => by have := (HO4.out.lt j hj).1; omega)); have HG5 := a_0 ((a_h HG4.out (Below.alloc (b_ _ _) (l_ _) _)).andThen g5 (fun j hj => .inl (HO4.out.lt j hj).1)); have HO5 := a_0 (d_5 (nd := c_3 3) o5); clear o5 g5)
 go_ret
 rcases HD2.out with ⟨e1, e2, e3, e4⟩ | ⟨e1, e4, e5⟩
 ·rw [e4]
  subst e1 e2
  exact ⟨HG5.out, ⟨B5, n5, v_, HO5.out⟩, HS5.out⟩
 ·rw [e4]
  exact ⟨HG5.out, fs ++ [c_3 3], d3, ⟨B5, n5, v_, HO5.out⟩, o_, by simp only [List.length_append, List.length_singleton]; omega, e5, HS5.out⟩
set_option maxRecDepth 512
theorem n_K {ts : List Tok} {F i d : Nat} (hF : 9 ≤ F) (hs : a_9 (tk ts i) [41] = true) : prs ts F 0 i d = .err 3 i := by
 have hk := e_P hs
 have ht := c_y hs
 have hb : d_4 ts i = false := by
  unfold d_4
  have h1 : a_9 (tk ts i) [45] = false := by unfold a_9; rw [ht]; simp
  have h2 : a_9 (tk ts i) [40] = false := by unfold a_9; rw [ht]; simp
  rw [h1, h2, hk]
  simp
 have hw : c_k (tk ts i) j_j = false := by unfold c_k; rw [hk]; rfl
 obtain ⟨G, rfl⟩ : ∃ G, F = G + 8 := ⟨F - 8, o_⟩
 have e7 : ∀ G d, prs ts (G + 1) 7 i d = .err 3 i := fun G d => by rw [q_W, if_pos hb]
 have ch : ∀ G l d, l ≠ 2 → l ≠ 3 → l ≠ 7 → l ≠ 8 → prs ts G (l + 1) i d = .err 3 i → prs ts (G + 1) l i d = .err 3 i := fun G l d h2 h3 h7 h8 h => by
  conv => lhs; unfold prs
  rw [if_neg h2, if_neg h3, if_neg h7, if_neg h8]
  unfold u_R
  simp only [h, PR.bind]
 have e4 : prs ts (G + 4) 4 i d = .err 3 i := ch _ 4 d d_ d_ d_ d_ (ch _ 5 d d_ d_ d_ d_ (ch _ 6 d d_ d_ d_ d_ (e7 G d)))
 have e3 : prs ts (G + 5) 3 i d = .err 3 i := by
  conv => lhs; unfold prs
  rw [if_neg d_, if_pos rfl]
  unfold s_v
  simp only [e4, PR.bind]
 have e2 : prs ts (G + 6) 2 i d = .err 3 i := by
  conv => lhs; unfold prs
  rw [if_pos rfl]
  unfold s_L
  rw [hw, if_neg d_]
  exact e3
 exact ch _ 0 d d_ d_ d_ d_ (ch _ 1 d d_ d_ d_ d_ e2)
set_option maxRecDepth 100000
theorem u_V (F P : Nat) (A : Option Addr) (ts : List Tok) (c : Nat) (hv : a_O ts = true) (hlen : ts.length ≤ 1000000) (hO : LvR 269 F 0 P A ts c) (W : World) (i d : Nat) (hS : PSt RT W P A ts c i (d + 1) 0) (hi : i < ts.length) (hd : d + 1 ≤ i) (hF : (ts.length - i) * 10 + 9 ≤ F) :
  Calls prog 349 #[.pointer (some ⟨P, 0, none⟩)] W (d_e RT W P A ts c i d ((prs ts F 0 i (d + 1)).bind (k_O ts))) := by
 have hP := hS.lt
 have hff := b_6 hv F 0 i (d + 1) hi (fun e => absurd e o_)
 have HOr := a_0 ((hO W i (d + 1) hS hi hd (fun e => absurd e o_) o_).mono fun e2 w2 h => a_C hff h)
 refine _ag ?_; intro i0 hi0 hz0 hz1 hz2
 clear hff hS hO
 generalize prs ts F 0 i (d + 1) = r at *
 go_enter func349, ntmps349
 go_wp2_with fail
 refine HOr.out.mono ?_
 rintro e2 w2 ⟨B2, n2, fs, k, d2, x2, rfl, ho2, hS2, hg2, hjk, hkl, hfl, hD2⟩
 have HS2 := a_0 hS2
 have HG2 := a_0 hg2
 have HO2 := a_0 ho2
 have hgs := hg2.size
 have hd2 : d2 ≤ 1000000 := by rcases hD2 with ⟨_, q2, _, _⟩ | ⟨_, _, _, q2⟩ <;> omega
 have HD2 := a_0 hD2
 clear hS2 hg2 ho2 hD2 HOr
 by_cases hx : x2 = 0
 rotate_left
 ·rcases HD2.out with ⟨h, _⟩ | ⟨_, hr, hd4, hd5⟩
  ·exact absurd h hx
  have HE := a_0 (show r.bind (k_O ts) = .err x2 k from by rw [hr]; rfl)
  have hxb : (x2 == 0) = false := beq_eq_false_iff_ne.2 hx
  have hxn : (x2 != 0) = true := by simpa using hx
  clear hr HD2
  go_wp2_with fail
  refine (i_F w2 P A ts c k d2 x2 HS2.out hx hkl hlen [44]).mono ?_
  rintro e3 w3 ⟨rfl, hb3⟩
  go_wp2_with fail
  refine (f_7 w3 P A ts c k d2 x2 (HS2.out.below hb3) 0 hkl hlen).mono ?_
  rintro e4 w4 ⟨rfl, hb4⟩
  have hb5 := a_n hb4 hb3
  have hz5 := hb5.size
  rw [Nat.add_zero]
  generalize tk ts k = t at *
  obtain ⟨tk0, tk1, tk2, tk3⟩ := t
  obtain ⟨c0, c1, c2, c3⟩ := (HS2.out.below hb5).cells
  have hP4 := (HS2.out.below hb5).lt
  have HFl := a_0 (fun X (hb : Below w2.heap.size w2 X) => h_K X P A ts c k d2 x2 (HS2.out.below hb) hx 3)
  go_wp2_with fail
  refine (HFl.out _ zX).mono ?_
  rintro e6 w6 ⟨rfl, hb6⟩
  have hb7 : Below w2.heap.size w2 w6 := a_n hb6 zX
  go_wp2
  go_ret
  rw [HE.out]
  exact ⟨a_h HG2.out hb7, [], d2, ⟨none, 0, rfl, a_o _ _ _ _⟩, o_, s_, ⟨o_, o_⟩, HS2.out.below hb7⟩
 rcases HD2.out with ⟨_, hdd, hik, hr⟩ | ⟨h, _⟩
 rotate_left
 ·exact absurd hx h
 subst hx hdd
 have hR : r.bind (k_O ts) = (if a_9 (tk ts k) [44] = true then s_m ts fs (k + 1) else .err 3 k) := by rw [hr]; rfl
 clear hr HD2
 generalize r.bind (k_O ts) = R at *
 by_cases hs : a_9 (tk ts k) [44] = true
 rotate_left
 ·rw [if_neg hs] at hR
  have HE := a_0 hR
  clear hR
  have hsb : a_9 (tk ts k) [44] = false := by simpa using hs
  have HTk := a_0 (h_j w2 P A ts c k (d + 1) HS2.out hkl hlen [44] hsb)
  clear hs hsb
  go_wp2_with fail
  refine HTk.out.mono ?_
  rintro e3 w3 ⟨rfl, hS3, hg3⟩
  have HS3 := a_0 hS3
  have HG3 := a_0 (HG2.out.trans hg3)
  clear hS3 hg3
  go_wp2_with fail
  refine (f_7 w3 P A ts c k (d + 1) 3 HS3.out 0 hkl hlen).mono ?_
  rintro e4 w4 ⟨rfl, hb4⟩
  have hz4 := hb4.size
  rw [Nat.add_zero]
  generalize tk ts k = t at *
  obtain ⟨tk0, tk1, tk2, tk3⟩ := t
  obtain ⟨c0, c1, c2, c3⟩ := (HS3.out.below hb4).cells
  have hP4 := (HS3.out.below hb4).lt
  have HFl := a_0 (fun X (hb : Below w3.heap.size w3 X) => h_K X P A ts c k (d + 1) 3 (HS3.out.below hb) d_ 3)
  go_wp2_with fail
  refine (HFl.out _ zX).mono ?_
  rintro e6 w6 ⟨rfl, hb6⟩
  have hb7 : Below w3.heap.size w3 w6 := a_n hb6 zX
  go_wp2
  go_ret
  rw [HE.out]
  exact ⟨a_h HG3.out hb7, [], d + 1, ⟨none, 0, rfl, a_o _ _ _ _⟩, o_, s_, ⟨o_, o_⟩, HS3.out.below hb7⟩
 rw [if_pos hs] at hR
 unfold s_m at hR
 have HR0 := a_0 hR
 clear hR
 have hk1 := a_T hv hkl hs
 have HTk := a_0 (e_R w2 P A ts c k (d + 1) HS2.out hkl hlen [44] hs)
 clear hs
 have hnx := fun hk => b_0 hv hk1 hk
 go_wp2_with fail
 refine HTk.out.mono ?_
 rintro e3 w3 ⟨rfl, hS3, hg3⟩
 have HS3 := a_0 hS3
 have HG3 := a_0 (HG2.out.trans hg3)
 have HO3 := a_0 (a_v HO2.out hg3 hP)
 have hgs3 := hg3.size
 clear hS3 hg3 HTk HS2 HG2 HO2
 go_wp2_with fail
 refine (f_7 w3 P A ts c (k + 1) (d + 1) 0 HS3.out 0 hk1 hlen).mono ?_
 rintro e4 w4 ⟨rfl, hb4⟩
 rw [Nat.add_zero]
 have hz4 := hb4.size
 have hR := HR0.out
 clear HR0
 by_cases hk : (tk ts (k + 1)).kind = 1
 rotate_left
 ·rw [if_neg (fun h => hk h.1)] at hR
  have HE := a_0 hR
  clear hnx hR
  have hkb : ((tk ts (k + 1)).kind == 1) = false := beq_eq_false_iff_ne.2 hk
  have hkn : ((tk ts (k + 1)).kind != 1) = true := by simpa using hk
  generalize tk ts (k + 1) = t at *
  obtain ⟨tk0, tk1, tk2, tk3⟩ := t
  simp only at hkb hkn
  obtain ⟨c0, c1, c2, c3⟩ := (HS3.out.below hb4).cells
  have hP4 := (HS3.out.below hb4).lt
  have HFl := a_0 (fun X (hb : Below w3.heap.size w3 X) => f_K X P A ts c (k + 1) (d + 1) (HS3.out.below hb) 3)
  go_wp2_with fail
  refine (HFl.out _ zX).mono ?_
  rintro e6 w6 ⟨rfl, hS6, hg6⟩
  have HS6 := a_0 hS6
  have HG6 := a_0 (World.grownBy.trans (a_h HG3.out zX) hg6)
  clear hS6 hg6 c0 c1 c2 c3
  go_wp2
  exact v_T
 have hk2 := hnx (by rw [hk]; decide)
 have HRs := a_0 (fun (X : World) => c_a ⟨(tk ts (k + 1)).text.toArray⟩ X)
 have hbs : bs ⟨(tk ts (k + 1)).text.toArray⟩ = (tk ts (k + 1)).text := rfl
 rw [hbs] at HRs
 have hwr : a_J.contains (tk ts (k + 1)).text = e_g (tk ts (k + 1)).text := rfl
 rw [hwr] at hR
 clear hbs hnx hwr
 generalize tk ts (k + 1) = t at *
 obtain ⟨tk0, tk1, tk2, tk3⟩ := t
 simp only at hk HRs hR hk2
 have hkn : (tk0 != 1) = false := by simp [hk]
 obtain ⟨c0, c1, c2, c3⟩ := (HS3.out.below hb4).cells
 have hP4 := (HS3.out.below hb4).lt
 by_cases hr : e_g tk1 = true
 ·rw [if_neg (fun h => by have h2 := h.2; rw [hr] at h2; cases h2)] at hR
  have HE := a_0 hR
  rw [hr] at HRs
  clear hr hR
  have HFl := a_0 (fun X (hb : Below w3.heap.size w3 X) => f_K X P A ts c (k + 1) (d + 1) (HS3.out.below hb) 3)
  go_wp2_with (go_at_call 99; refine (HRs.out _).mono ?_; rintro e9 w5 ⟨rfl, hb5⟩; have hcu5 : Below w3.heap.size w3 w5 := a_n hb5 zX)
  refine (HFl.out _ hcu5).mono ?_
  rintro e6 w6 ⟨rfl, hS6, hg6⟩
  have HS6 := a_0 hS6
  have HG6 := a_0 (World.grownBy.trans (a_h HG3.out hcu5) hg6)
  clear hS6 hg6 c0 c1 c2 c3
  go_wp2
  exact v_T
 have hr : e_g tk1 = false := by simpa using hr
 rw [if_pos ⟨hk, hr⟩] at hR
 clear hk
 have HR := a_0 hR
 rw [hr] at HRs
 clear hr hR
 have HAt := a_0 (fun X (hb : Below w3.heap.size w3 X) => And.intro ((HS3.out.below hb).setAt (k + 2)) (And.intro (a_d (a_h HG3.out hb) 1 (.int .i64 ((k + 2 : Nat) : Int))) (a_v (a_8 HO3.out hb) (a_d (g_ X (some P)) 1 (.int .i64 ((k + 2 : Nat) : Int))) hP)))
 have HCl := a_0 (fun X (hb : Below w3.heap.size w3 X) => (HS3.out.below hb).cells)
 have HFz := a_0 (fun X (hb : Below w3.heap.size w3 X) => (HS3.out.below hb).free)
 have HLt := a_0 (fun X (hb : Below w3.heap.size w3 X) => (HS3.out.below hb).lt)
 clear c0 c1 c2 c3
 obtain ⟨c0, c1, c2, c3⟩ := HCl.out w4 hb4
 go_wp2_with (go_at_call 99; refine (HRs.out _).mono ?_; rintro e9 w5 ⟨rfl, hb5⟩; have hcu5 : Below w3.heap.size w3 w5 := a_n hb5 zX; have m1 : w5.cell? ⟨w4.heap.size, 1, none⟩ = some (str tk1) := (hb5.cell (p := ⟨w4.heap.size, 1, none⟩) n_).trans (by go_simp); have hz5 : w4.heap.size < w5.heap.size := (by have := hb5.size; simp at this; omega); clear c0 c1 c2 c3; obtain ⟨c0, c1, c2, c3⟩ := HCl.out w5 hcu5; have hfr := HFz.out w5 hcu5; have hP5 := HLt.out w5 hcu5)
 have HS5 := a_0 (HAt.out w5 hcu5).1
 have HG5 := a_0 (HAt.out w5 hcu5).2.1
 have HO5 := a_0 (HAt.out w5 hcu5).2.2
 have hm5 : (w5.setCell ⟨P, 1, none⟩ (.int .i64 ((k + 2 : Nat) : Int))).cell? ⟨w4.heap.size, 1, none⟩ = some (str tk1) := by go_simp
 have hz5b : w4.heap.size < (w5.setCell ⟨P, 1, none⟩ (.int .i64 ((k + 2 : Nat) : Int))).heap.size := by simp; omega
 have hzP : P < w4.heap.size := hP4
 have hz34 := hb4.size
 clear HAt HCl HFz HLt HS3 HG3 HO3 HRs c0 c1 c2 c3 hfr m1
 have hcc : ((k + 2 : Nat) : Int) = (k : Int) + 1 + 1 := by omega
 rw [hcc] at HS5 HG5 HO5 hm5 hz5b
 clear hcc
 generalize w5.setCell ⟨P, 1, none⟩ (.int .i64 ((k : Int) + 1 + 1)) = X5 at *
 by_cases hs : a_9 (tk ts (k + 2)) [41] = true
 ·have HE := a_0 (HR.out.trans (if_pos hs))
  refine (e_R X5 P A ts c (k + 2) (d + 1) HS5.out hk2 hlen [41] hs).mono ?_
  rintro e6 w6 ⟨rfl, hS6, hg6⟩
  refine v_y ?_; intro m6 hz6 c0 c1 c2 c3 hP6 hfr HS7 HG7 HO7
  clear hS6 hg6 HS5 HG5 HO5
  go_wp2_with (at_builtin; refine wpList_append_own _ rfl _ _ 25 rfl W.heap.size 116 i0 _ 6 64 underlying25 hi0 hz0 hz1 hz2 rfl d_ _ _ _ rfl (HO7.out.alloc _) ⟨w6.heap.size, 0, none⟩ 1 1 [.int .i64 20, .int .i64 0, .int .i64 0, str [], str tk1, .int .i64 0] rfl rfl (by exact b_h (b_d s_)) c_ x_ o_ m_ ?_; intro v8 w8 o8 g8 _; obtain ⟨B8, n8, rfl⟩ := a_i o8; have HS8 := a_0 ((HS7.out.below (Below.alloc (b_ _ _) (l_ _) _)).gr g8 (fun j hj => by have := (HO7.out.lt j hj).1; omega)); have HG8 := a_0 ((a_h HG7.out (Below.alloc (b_ _ _) (l_ _) _)).andThen g8 (fun j hj => .inl (HO7.out.lt j hj).1)); have HO8 := a_0 (d_5 (nd := ⟨20, vl0, tk1, 0⟩) o8); clear o8 g8)
  go_ret
  rw [HE.out]
  exact ⟨HG8.out, ⟨B8, n8, v_, HO8.out⟩, HS8.out⟩
 ·have HE := a_0 (HR.out.trans (if_neg hs))
  have hsb : a_9 (tk ts (k + 2)) [41] = false := by simpa using hs
  refine (h_j X5 P A ts c (k + 2) (d + 1) HS5.out hk2 hlen [41] hsb).mono ?_
  rintro e6 w6 ⟨rfl, hS6, hg6⟩
  refine v_y ?_; intro m6 hz6 c0 c1 c2 c3 hP6 hfr HS7 HG7 HO7
  clear hS6 hg6 HS5 HG5 HO5
  go_wp2_with (at_builtin; refine wpList_append_own _ rfl _ _ 25 rfl W.heap.size 116 i0 _ 6 64 underlying25 hi0 hz0 hz1 hz2 rfl d_ _ _ _ rfl (HO7.out.alloc _) ⟨w6.heap.size, 0, none⟩ 1 1 [.int .i64 20, .int .i64 0, .int .i64 0, str [], str tk1, .int .i64 0] rfl rfl (by exact b_h (b_d s_)) c_ x_ o_ m_ ?_; intro v8 w8 o8 g8 _; obtain ⟨B8, n8, rfl⟩ := a_i o8; have HS8 := a_0 ((HS7.out.below (Below.alloc (b_ _ _) (l_ _) _)).gr g8 (fun j hj => by have := (HO7.out.lt j hj).1; omega)); have HG8 := a_0 ((a_h HG7.out (Below.alloc (b_ _ _) (l_ _) _)).andThen g8 (fun j hj => .inl (HO7.out.lt j hj).1)); have HO8 := a_0 (d_5 (nd := ⟨20, vl0, tk1, 0⟩) o8); clear o8 g8)
  go_ret
  rw [HE.out]
  exact ⟨HG8.out, fs ++ [⟨20, vl0, tk1, 0⟩], d, ⟨B8, n8, v_, HO8.out⟩, o_, by simp only [List.length_append, List.length_singleton]; omega, ⟨o_, o_⟩, HS8.out⟩
end Go.Proofs.YtmbeeefkpgfgmaaGreatDoor
