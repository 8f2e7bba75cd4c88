/- Parts of the proof. -/
import Derived.Test.YtmbeeefkpgfgmaaGreatDoorPp30
set_option linter.unusedVariables false
set_option linter.unusedSimpArgs false
set_option maxHeartbeats 4000000
namespace Go.Proofs.YtmbeeefkpgfgmaaGreatDoor
open Go.Proofs.Tryz
open Go.RowKit
def s_G (F P : Nat) (A : Option Addr) (ts : List Tok) (c : Nat) : Prop := ∀ (W : World) (x : a_3) (i d : Nat), PSt RT W P A ts c i d 0 → i + 2 < ts.length → d ≤ i → x.length ≤ 64 → (ts.length - (i + 2)) * 10 + 9 ≤ F →
 Calls prog 348 #[.pointer (some ⟨P, 0, none⟩), str x] W (d_e RT W P A ts c i d (e_G (fun l i d => prs ts F l i d) ts x (i + 2) (d + 1)))
def w_A (F P : Nat) (A : Option Addr) (ts : List Tok) (c : Nat) : Prop := ∀ (W : World) (i d : Nat), PSt RT W P A ts c i d 0 → i < ts.length → d ≤ i → d_4 ts i = true → (tk ts i).kind = 1 → (ts.length - i) * 10 ≤ F →
 Calls prog 346 #[.pointer (some ⟨P, 0, none⟩), str (tk ts i).text] W (d_e RT W P A ts c i d (p_3 (fun l i d => prs ts F l i d) ts i d))
theorem s_O (ts : List Tok) (F i d : Nat) : prs ts (F + 1) 8 i d = if (tk ts i).kind = 2 then .ok [cNd 2 (tk ts i).num []] (i + 1)
 else if (tk ts i).kind = 3 then .ok [cNd 3 0 (tk ts i).text] (i + 1)
 else if (tk ts i).kind = 4 then .ok [cNd 4 (tk ts i).num []] (i + 1)
 else if (tk ts i).kind = 5 then (prs ts F 0 (i + 1) (d + 1)).bind fun es j => if a_9 (tk ts j) [41] = true then .ok es (j + 1) else .err 3 j
 else p_3 (fun l i d => prs ts F l i d) ts i d := rfl
theorem p_O {ts : List Tok} {i : Nat} (hb : d_4 ts i = true) (hk : (tk ts i).kind = 1) (h1 : ¬ (tk ts i).text = d_K) (h2 : ¬ (tk ts i).text = d_I) (h3 : ¬ (tk ts i).text = c_o) :
  e_g (tk ts i).text = false ∧ (a_9 (tk ts (i + 1)) [40] = false → a_p 24 (tk ts i).text = true) := by
 unfold d_4 at hb
 rw [if_neg (by rw [hk]; decide), if_pos hk, if_neg (fun h => h.elim h1 (fun h => h.elim h2 h3))] at hb
 simp only [Bool.and_eq_true, Bool.not_eq_true', Bool.or_eq_true] at hb
 exact ⟨hb.1, fun h => by
   rcases hb.2 with h2 | h2; · rw [h] at h2; cases h2
   ·exact h2⟩
set_option maxRecDepth 100000
theorem r_G (F P : Nat) (A : Option Addr) (ts : List Tok) (c : Nat) (hv : a_O ts = true) (hlen : ts.length ≤ 1000000) (hCl : s_G F P A ts c) : w_A F P A ts c := by
 intro W i d hS hi hd hb hk hF
 have hi1 := b_0 hv hi (d_j hb)
 have hsh := d_d hv hi
 have hnb := p_O hb hk
 have hi2 := fun (h : a_9 (tk ts (i + 1)) [40] = true) => a_T hv hi1 h
 have hP := hS.lt
 have HPk := a_0 (fun (X : World) (hb : Below W.heap.size W X) => f_7 X P A ts c i d 0 (hS.below hb) 1 hi1 hlen)
 refine v_n ?_; intro HRs HNm hbs
 rw [hbs] at HRs HNm
 obtain ⟨c0, c1, c2, c3⟩ := hS.cells
 have hfr := hS.free
 have HS := a_0 hS
 have HCl := a_0 hCl
 clear hS hCl hb hbs
 unfold p_3
 generalize tk ts i = t at *
 obtain ⟨tk0, tk1, tk2, tk3⟩ := t
 simp only at hk hsh hnb HRs HNm ⊢
 clear hk
 by_cases qNull : tk1 = d_K
 ·rw [if_pos qNull]
  subst qNull
  unfold d_K at *
  clear HPk HRs HNm hnb hi2
  go_enter func346, ntmps346
  go_wp2_with fail
  refine (c_Q ⟨0, 0, []⟩ _).mono ?_
  rintro e3 w3 ⟨⟨B, n, rfl, ho⟩, hb3⟩
  refine q_5 ?_; intro HS3 HG3 HO3
  clear ho c0 c1 c2 c3
  go_wp2
  exact m_U
 rw [if_neg qNull]
 have rNull : (tk1 == d_K) = false := beq_eq_false_iff_ne.2 qNull
 unfold d_K at rNull
 by_cases qTrue : tk1 = d_I
 ·rw [if_pos qTrue]
  subst qTrue
  unfold d_I at *
  clear HPk HRs HNm hnb hi2
  go_enter func346, ntmps346
  go_wp2_with fail
  refine (c_Q ⟨1, 1, []⟩ _).mono ?_
  rintro e3 w3 ⟨⟨B, n, rfl, ho⟩, hb3⟩
  refine q_5 ?_; intro HS3 HG3 HO3
  clear ho c0 c1 c2 c3
  go_wp2
  exact m_U
 rw [if_neg qTrue]
 have rTrue : (tk1 == d_I) = false := beq_eq_false_iff_ne.2 qTrue
 unfold d_I at rTrue
 by_cases qFalse : tk1 = c_o
 ·rw [if_pos qFalse]
  subst qFalse
  unfold c_o at *
  clear HPk HRs HNm hnb hi2
  go_enter func346, ntmps346
  go_wp2_with fail
  refine (c_Q ⟨1, 0, []⟩ _).mono ?_
  rintro e3 w3 ⟨⟨B, n, rfl, ho⟩, hb3⟩
  refine q_5 ?_; intro HS3 HG3 HO3
  clear ho c0 c1 c2 c3
  go_wp2
  exact m_U
 rw [if_neg qFalse]
 have rFalse : (tk1 == c_o) = false := beq_eq_false_iff_ne.2 qFalse
 unfold c_o at rFalse
 obtain ⟨hrs, hnm⟩ := hnb qNull qTrue qFalse
 clear qNull qTrue qFalse hnb
 rw [hrs] at HRs
 by_cases hp : a_9 (tk ts (i + 1)) [40] = true
 ·rw [if_pos hp]
  have hi3 := hi2 hp
  clear hi2
  have hp5 := e_P hp
  have hpt := c_y hp
  clear hp hnm HNm
  generalize tk ts (i + 1) = u at *
  obtain ⟨uk0, uk1, uk2, uk3⟩ := u
  simp only at hp5 hpt
  subst hp5 hpt
  go_enter func346, ntmps346
  go_wp2_with (go_at_call 99; refine (HRs.out _).mono ?_; rintro e9 w5 ⟨rfl, hb5⟩)
  refine (HPk.out w5 hb5).mono ?_
  rintro e w6 ⟨rfl, hb6⟩
  have hb7 := a_n hb6 hb5
  have hz7 := hb7.size
  clear HPk HRs
  go_wp2_with fail
  refine (HCl.out _ tk1 i d (HS.out.below zX) hi3 hd hsh o_).mono ?_
  intro e8 w8 h8
  obtain ⟨v, rfl⟩ := h8.ret
  have HR := a_0 (h8.up (show W.grownBy _ (some P) from a_1 zX))
  clear h8
  go_wp2
  exact p_f
 ·rw [if_neg hp]
  have hp0 : a_9 (tk ts (i + 1)) [40] = false := by simpa using hp
  have hnt := hnm hp0
  rw [hnt] at HNm
  clear hp hnm hnt hi2
  generalize tk ts (i + 1) = u at *
  obtain ⟨uk0, uk1, uk2, uk3⟩ := u
  have hpp : (uk0 == 5) = false ∨ (uk0 = 5 ∧ (uk1 == [40]) = false) := by
   unfold a_9 at hp0
   by_cases h : uk0 = 5
   ·right
    subst h; exact ⟨rfl, by simpa using hp0⟩
   ·left
    exact beq_eq_false_iff_ne.2 h
  clear hp0
  rcases hpp with h5 | ⟨rfl, h4⟩
  all_goals
   go_enter func346, ntmps346
   go_wp2_with (first
    | (go_at_call 99; refine (HRs.out _).mono ?_; rintro e9 w5 ⟨rfl, hb5⟩)
    | (go_at_call 309; refine (HPk.out w5 hb5).mono ?_; rintro e w6 ⟨rfl, hb6⟩; have hb7 := a_n hb6 hb5; have hz7 := hb7.size; clear c0 c1 c2 c3; obtain ⟨c0, c1, c2, c3⟩ := (HS.out.below hb7).cells; have hfr := (HS.out.below hb7).free; have hP9 := (HS.out.below hb7).lt)
    | (go_at_call 162; refine (HNm.out _).mono ?_; rintro e w8 ⟨rfl, rfl⟩))
   go_ret
   exact ⟨a_h (a_d (a_1 (r := some P) hb7) 1 (.int .i64 ((i + 1 : Nat) : Int))) zX, ⟨_, 1, v_, d_o _ (by first | (simp; omega) | omega) s_ (by show 1 ≤ maxLen; decide)⟩, ((HS.out.below hb7).setAt (i + 1)).below zX⟩
theorem n_O (F P : Nat) (A : Option Addr) (ts : List Tok) (c : Nat) (hv : a_O ts = true) (hlen : ts.length ≤ 1000000) (hO : LvR 269 F 0 P A ts c) (hNa : w_A F P A ts c) : PrR (F + 1) P A ts c := by
 intro W i d hS hi hd hbeg hm hF
 have hi1 := b_0 hv hi (d_j hbeg)
 have hnm := fun k2 k3 k4 k5 => j_f hbeg k2 k3 k4 k5
 have hpa : (tk ts i).kind = 5 → a_9 (tk ts i) [40] = true := fun h5 => by
  unfold d_4 at hbeg
  rw [if_neg (by rw [h5]; decide), if_neg (by rw [h5]; decide), hm] at hbeg
  simpa using hbeg
 have hnc := fun (h1 : (tk ts i).kind = 1) (X : World) (hS : PSt RT X P A ts c i d 0) => hNa X i d hS hi hd hbeg h1 o_
 have HPk := a_0 (f_7 W P A ts c i d 0 hS 0 hi hlen)
 rw [Nat.add_zero] at HPk
 have HIs := a_0 (fun (X : World) (hb : Below W.heap.size W X) => l_f X P A ts c i d 0 (hS.below hb) hi hlen [40])
 rw [s_O]
 have hP := hS.lt
 have HS := a_0 hS
 have HO := a_0 hO
 have HNc := a_0 hnc
 clear hS hO hNa hnc hbeg hm
 have HNp : p_3 (fun l i d => prs ts F l i d) ts i d = p_3 (fun l i d => prs ts F l i d) ts i d := rfl
 generalize p_3 (fun l i d => prs ts F l i d) ts i d = np at *
 clear HNp
 have hIv : ((0 : Int) == 0 && ((tk ts i).kind == 5 && (tk ts i).text == [40])) = a_9 (tk ts i) [40] := by simp [a_9]
 rw [hIv] at HIs
 clear hIv
 generalize a_9 (tk ts i) [40] = bp at *
 generalize tk ts i = t at *
 obtain ⟨tk0, tk1, tk2, tk3⟩ := t
 simp only at hnm hpa HNc ⊢
 by_cases k2 : tk0 = 2
 ·rw [if_pos k2]
  subst k2
  clear hnm hpa HNc HIs
  go_enter func344, ntmps344
  go_wp2_with fail
  refine HPk.out.mono ?_
  rintro e w1 ⟨rfl, hb1⟩
  refine s_1 ?_; intro hz1 hS1
  obtain ⟨c0, c1, c2, c3⟩ := hS1.cells
  have hP1 := hS1.lt
  have hfr := hS1.free
  clear hS1
  go_wp2_with fail
  refine (c_Q ⟨2, tk2, []⟩ _).mono ?_
  rintro e3 w3 ⟨⟨B, n, rfl, ho⟩, hb3⟩
  refine u_S ?_; intro HS3 HG3 HO3
  clear ho c0 c1 c2 c3
  go_wp2
  exact m_U
 rw [if_neg k2]
 have b2 : (tk0 == 2) = false := beq_eq_false_iff_ne.2 k2
 by_cases k3 : tk0 = 3
 ·rw [if_pos k3]
  subst k3
  clear hnm hpa HNc HIs
  go_enter func344, ntmps344
  go_wp2_with fail
  refine HPk.out.mono ?_
  rintro e w1 ⟨rfl, hb1⟩
  refine s_1 ?_; intro hz1 hS1
  obtain ⟨c0, c1, c2, c3⟩ := hS1.cells
  have hP1 := hS1.lt
  have hfr := hS1.free
  clear hS1
  go_wp2_with fail
  refine (c_Q ⟨3, 0, tk1⟩ _).mono ?_
  rintro e3 w3 ⟨⟨B, n, rfl, ho⟩, hb3⟩
  refine u_S ?_; intro HS3 HG3 HO3
  clear ho c0 c1 c2 c3
  go_wp2
  exact m_U
 rw [if_neg k3]
 have b3 : (tk0 == 3) = false := beq_eq_false_iff_ne.2 k3
 by_cases k4 : tk0 = 4
 ·rw [if_pos k4]
  subst k4
  clear hnm hpa HNc HIs
  go_enter func344, ntmps344
  go_wp2_with fail
  refine HPk.out.mono ?_
  rintro e w1 ⟨rfl, hb1⟩
  refine s_1 ?_; intro hz1 hS1
  obtain ⟨c0, c1, c2, c3⟩ := hS1.cells
  have hP1 := hS1.lt
  have hfr := hS1.free
  clear hS1
  go_wp2_with fail
  refine (c_Q ⟨4, tk2, []⟩ _).mono ?_
  rintro e3 w3 ⟨⟨B, n, rfl, ho⟩, hb3⟩
  refine u_S ?_; intro HS3 HG3 HO3
  clear ho c0 c1 c2 c3
  go_wp2
  exact m_U
 rw [if_neg k4]
 have b4 : (tk0 == 4) = false := beq_eq_false_iff_ne.2 k4
 by_cases k5 : tk0 = 5
 rotate_left
 ·rw [if_neg k5]
  have k1 := hnm k2 k3 k4 k5
  subst k1
  have HNc2 := a_0 (HNc.out rfl)
  clear hnm hpa HNc HIs k2 k3 k4 k5 b2 b3 b4
  go_enter func344, ntmps344
  go_wp2_with fail
  refine HPk.out.mono ?_
  rintro e w1 ⟨rfl, hb1⟩
  have hz1 := hb1.size
  go_wp2_with fail
  refine (HNc2.out _ (HS.out.below zX)).mono ?_
  intro e8 w8 h8
  obtain ⟨v, rfl⟩ := h8.ret
  have HR := a_0 (h8.up (show W.grownBy _ (some P) from a_1 zX))
  clear h8
  go_wp2
  exact p_f
 rw [if_pos k5]
 have hbp := hpa k5
 subst k5 hbp
 clear hnm hpa HNc k2 k3 k4 b2 b3 b4
 have hff := b_6 hv F 0 (i + 1) (d + 1) hi1 (fun e => absurd e o_)
 have HCal := a_0 (show ∀ W' : World, Below W.heap.size W W' → ∀ X : World, Below ((W'.setCell ⟨P, 1, none⟩ (.int .i64 ((i + 1 : Nat) : Int))).setCell ⟨P, 2, none⟩ (.int .i64 ((d + 1 : Nat) : Int))).heap.size ((W'.setCell ⟨P, 1, none⟩ (.int .i64 ((i + 1 : Nat) : Int))).setCell ⟨P, 2, none⟩ (.int .i64 ((d + 1 : Nat) : Int))) X → Calls prog 269 #[.pointer (some ⟨P, 0, none⟩)] X (fun e2 w2 => ∃ (B2 : Option Addr) (n2 : Nat) (fs : List Nd) (k d3 : Nat) (x2 : Int), e2 = .returned (.slice B2 fs.length n2) ∧ w2.ownsRow W.heap.size 116 6 (.slice B2 fs.length n2) fs.length (a_a fs) ∧ PSt RT w2 P A ts c k (d3 + 1) x2 ∧ W.grownBy w2 (some P) ∧ i + 1 ≤ k ∧ k < ts.length ∧ fs.length ≤ k - (i + 1) ∧
   ((x2 = 0 ∧ d3 = d ∧ i + 1 < k ∧ prs ts F 0 (i + 1) (d + 1) = .ok fs k) ∨ (x2 ≠ 0 ∧ prs ts F 0 (i + 1) (d + 1) = .err x2 k ∧ d ≤ d3 ∧ d3 ≤ k))) from fun W' hbW X hb =>
  (HO.out X (i + 1) (d + 1) ((((HS.out.below hbW).setAt (i + 1)).setDepth (d + 1)).below hb) hi1 o_ (fun e => absurd e o_) o_).mono fun e2 w2 h => by
   obtain ⟨B2, n2, fs, k, d2, x2, h1, h2, h3, h4, h5, h6, h7, h8⟩ := a_C hff h; have hgg := a_h (a_d (a_d (a_1 (r := some P) hbW) 1 (.int .i64 ((i + 1 : Nat) : Int))) 2 (.int .i64 ((d + 1 : Nat) : Int))) hb; obtain ⟨d3, rfl⟩ : ∃ d3, d2 = d3 + 1 := ⟨d2 - 1, by rcases h8 with h8 | h8 <;> omega⟩
   exact ⟨B2, n2, fs, k, d3, x2, h1, a_Z h2 hgg.size, h3, hgg.trans h4, h5, h6, h7, by rcases h8 with ⟨q1, q2, q3, q4⟩ | ⟨q1, q2, q3⟩; exact .inl ⟨q1, o_, q3, q4⟩; exact .inr ⟨q1, q2, o_, o_⟩⟩)
 clear hff
 generalize prs ts F 0 (i + 1) (d + 1) = r at *
 go_enter func344, ntmps344
 go_wp2_with fail
 refine HPk.out.mono ?_
 rintro e w1 ⟨rfl, hb1⟩
 have hz1 := hb1.size
 go_wp2_with fail
 refine (HIs.out _ zX).mono ?_
 rintro e w2 ⟨rfl, hb2⟩
 have hbW : Below W.heap.size W w2 := a_n hb2 zX
 have hzW := hbW.size
 have hS1 := HS.out.below hbW
 obtain ⟨c0, c1, c2, c3⟩ := hS1.cells
 have hP1 := hS1.lt
 have hfr := hS1.free
 clear hS1
 go_wp2_with fail
 refine (HCal.out w2 hbW _ zX).mono ?_
 rintro e2 w3 ⟨B2, n2, fs, k, d3, x2, rfl, ho2, hS3, hg3, hjk, hkl, hfl, hD2⟩
 refine r_T ?_; intro hd3
 clear c0 c1 c2 c3 hfr HCal
 refine t_C ?_; intro c0 c1 c2 c3 hP3 hfr HS4 HG4 HO4
 have hDD := a_0 hD2
 clear hS3 hg3 ho2 hD2
 generalize hX4 : w3.setCell ⟨P, 2, none⟩ (.int .i64 (d3 : Int)) = X4 at *
 have HX4 := a_0 hX4
 clear hX4
 by_cases hx : x2 = 0
 ·rcases hDD.out with ⟨_, hdd, hik, hr⟩ | ⟨h, _⟩
  rotate_left
  ·exact absurd hx h
  subst hx hdd
  by_cases hs : a_9 (tk ts k) [41] = true
  ·have hE : (r.bind fun es j => if a_9 (tk ts j) [41] = true then PR.ok es (j + 1) else PR.err 3 j) = .ok fs (k + 1) := by rw [hr]; simp only [PR.bind]; rw [if_pos hs]
   have HE := a_0 hE; have HSk := a_0 (e_R X4 P A ts c k d3 HS4.out hkl hlen [41] hs); clear hE hr hs hDD
   go_wp2_with fail
   rw [HX4.out]; refine HSk.out.mono ?_; rintro e5 w5 ⟨rfl, hS5, hg5⟩; refine u_N ?_; intro HS5 HG5 HO5; clear hS5 hg5
   go_wp2
   go_ret
   rw [HE.out]; exact ⟨HG5.out, ⟨B2, n2, rfl, HO5.out⟩, HS5.out⟩
  ·have hE : (r.bind fun es j => if a_9 (tk ts j) [41] = true then PR.ok es (j + 1) else PR.err 3 j) = .err 3 k := by rw [hr]; simp only [PR.bind]; rw [if_neg hs]
   have HE := a_0 hE; have hsb : a_9 (tk ts k) [41] = false := by simpa using hs
   have HSk := a_0 (h_j X4 P A ts c k d3 HS4.out hkl hlen [41] hsb); clear hE hr hs hDD hsb
   go_wp2_with fail
   rw [HX4.out]; refine HSk.out.mono ?_; rintro e5 w5 ⟨rfl, hS5, hg5⟩; refine u_N ?_; intro HS5 HG5 HO5; clear hS5 hg5
   go_wp2
   go_ret
   rw [HE.out]; exact ⟨HG5.out, fs, d3, ⟨B2, n2, rfl, HO5.out⟩, o_, o_, ⟨o_, o_⟩, HS5.out⟩
 ·rcases hDD.out with ⟨h, _⟩ | ⟨_, hr, hd4⟩
  ·exact absurd h hx
  refine _am ?_; intro hE HE
  have HSk := a_0 (i_F X4 P A ts c k d3 x2 HS4.out hx hkl hlen [41])
  clear hE hr hDD
  go_wp2_with fail
  rw [HX4.out]
  refine HSk.out.mono ?_
  rintro e5 w5 ⟨rfl, hb5⟩
  refine p_6 ?_; intro HS5 HG5
  have HO5 := a_0 (a_8 HO4.out hb5)
  go_wp2
  go_ret
  rw [HE.out]
  exact ⟨HG5.out, fs, d3, ⟨B2, n2, rfl, HO5.out⟩, o_, o_, hd4, HS5.out⟩
set_option maxRecDepth 512
def n_3 (t : Nat) : a_3 := [[61], [33, 61], [60], [60, 61], [62], [62, 61]].getD t []
def r_6 (t : Nat) : Int := [10, 11, 12, 13, 12, 13].getD t 0
theorem r_M {t : Tok} {m : Nat} (hm : m < 6) (h : a_9 t (n_3 m) = true) : i_o t = some (r_6 m, decide (4 ≤ m)) := by
 have hx := c_y h
 have hk := e_P h
 rw [n_o, if_pos hk, hx]
 rcases (by omega : m = 0 ∨ m = 1 ∨ m = 2 ∨ m = 3 ∨ m = 4 ∨ m = 5) with rfl | rfl | rfl | rfl | rfl | rfl <;> rfl
theorem p_F {t : Tok} (h : ∀ m, m < 6 → a_9 t (n_3 m) = false) : i_o t = none := by
 have h0 : a_9 t [61] = false := h 0 d_
 have h1 : a_9 t [33, 61] = false := h 1 d_
 have h2 : a_9 t [60] = false := h 2 d_
 have h3 : a_9 t [60, 61] = false := h 3 d_
 have h4 : a_9 t [62] = false := h 4 d_
 have h5 : a_9 t [62, 61] = false := h 5 d_
 unfold i_o
 simp [h0, h1, h2, h3, h4, h5]
set_option maxRecDepth 100000
theorem o_I (F P : Nat) (A : Option Addr) (ts : List Tok) (c : Nat) (hv : a_O ts = true) (hlen : ts.length ≤ 1000000) (IH : LvR 334 F 4 P A ts c) : LvR 323 (F + 1) 3 P A ts c := by
 intro W i d hS hi hd _ hF
 rw [q_J]
 have hP := hS.lt
 have HI := a_0 (show ∀ (X : World) (j : Nat), PSt RT X P A ts c j d 0 → W.grownBy X (some P) → j < ts.length → i ≤ j → Calls prog 334 #[.pointer (some ⟨P, 0, none⟩)] X (fun e2 w2 => ∃ (B2 : Option Addr) (n2 : Nat) (fs : List Nd) (k d2 : Nat) (x2 : Int), e2 = .returned (.slice B2 fs.length n2) ∧ w2.ownsRow W.heap.size 116 6 (.slice B2 fs.length n2) fs.length (a_a fs) ∧ PSt RT w2 P A ts c k d2 x2 ∧ W.grownBy w2 (some P) ∧ X.grownBy w2 (some P) ∧ j ≤ k ∧ k < ts.length ∧ fs.length ≤ k - j ∧
   ((x2 = 0 ∧ d2 = d ∧ j < k ∧ prs ts F 4 j d = .ok fs k) ∨ (x2 ≠ 0 ∧ prs ts F 4 j d = .err x2 k ∧ d ≤ d2 ∧ d2 ≤ k))) from fun X j hx hg hj hij =>
  (IH X j d hx hj o_ (fun e => absurd e o_) o_).mono fun e2 w2 h => by
   obtain ⟨B2, n2, fs, k, d2, x2, h1, h2, h3, h4, h5, h6, h7, h8⟩ := a_C (b_6 hv F 4 j d hj (fun e => absurd e o_)) h
   exact ⟨B2, n2, fs, k, d2, x2, h1, a_Z h2 hg.size, h3, hg.trans h4, h4, h5, h6, h7, h8⟩)
 have HS := a_0 hS
 clear hS IH
 generalize hr : prs ts F 4 i d = r at *
 have Hr := a_0 hr
 clear hr
 generalize hRR : r.bind (q_u ts F d) = R at *
 have HR := a_0 hRR
 clear hRR
 go_enter func323, ntmps323
 go_wp2_with fail
 refine (HI.out W i HS.out (g_ _ _) hi (l_ _)).mono ?_
 rw [Hr.out]
 rintro e2 w1 ⟨B, n, es, j, d', x, rfl, ho, hs, hg, _, hij, hjl, hel, hD⟩
 have HD := a_0 (show (x = 0 ∧ d' = d ∧ i < j ∧ q_u ts F d es j = R) ∨ (x ≠ 0 ∧ R = .err x j ∧ d ≤ d' ∧ d' ≤ j) from by
  have hr := HR.out
  rcases hD with ⟨h1, h2, h3, h4⟩ | ⟨h1, h2, h3⟩
  ·rw [h4] at hr; exact .inl ⟨h1, h2, h3, hr⟩
  ·rw [h2] at hr; exact .inr ⟨h1, hr.symm, h3⟩)
 refine s_e ?_; intro HO HSx HG
 have hz1 := hg.size
 clear ho hs hg hD HR HS Hr
 obtain ⟨hit, HH⟩ : ∃ hit : Nat → Bool, Hid (∀ m, (x == 0 && ((tk ts j).kind == 5 && (tk ts j).text == n_3 m)) = hit m) := ⟨_, a_0 fun _ => rfl⟩
 go_wp2
 go_loopw [6] (fun s wr => ∃ m : Nat, s = .int .i64 (m : Int) ∧ m ≤ 6 ∧ Hid (Below w1.heap.size w1 wr) ∧ Hid (wr.heap[w1.heap.size]? = some (.cells #[str (n_3 0), str (n_3 1), str (n_3 2), str (n_3 3), str (n_3 4), str (n_3 5)] 9 (0, 0))) ∧ Hid (wr.heap[w1.heap.size + 1]? = some (.cells #[.int .i64 10, .int .i64 11, .int .i64 12, .int .i64 13, .int .i64 12, .int .i64 13] 3 (0, 0))) ∧ Hid (∀ t, t < m → hit t = false)) (fun s _ => 6 - (intOf s).toNat)
 case atStart =>
  refine ⟨0, rfl, o_, a_0 zX, a_0 ?_, a_0 ?_, a_0 fun t ht => absurd ht o_⟩
  ·exact (f_z w1 _ _).1
  ·exact (f_z w1 _ _).2
 case round =>
  obtain ⟨m, rfl, hm, HBx, HX0, HX1, HT⟩ := hrel
  have hzx : w1.heap.size + 1 < wr.heap.size := (Array.getElem?_eq_some_iff.1 HX1.out).1
  by_cases hm6 : m < 6
  rotate_left
  ·obtain rfl : m = 6 := by omega
   have HE := a_0 (show d_e RT W P A ts c i d R (.returned (.slice B es.length n)) wr from by
    refine ⟨a_h HG.out HBx.out, ?_⟩
    rcases HD.out with ⟨h1, h2, h3, h4⟩ | ⟨h1, h2, h3⟩
    ·subst h1 h2
     have hc : i_o (tk ts j) = none := p_F fun t ht => by
      have := HH.out t; rw [HT.out t ht] at this; exact this
     have : R = .ok es j := by rw [← h4]; unfold q_u; rw [hc]
     rw [this]; exact ⟨⟨B, n, rfl, a_8 HO.out HBx.out⟩, HSx.out.below HBx.out⟩
    ·rw [h2]
     exact ⟨es, d', ⟨B, n, rfl, a_8 HO.out HBx.out⟩, hij, hel, h3, HSx.out.below HBx.out⟩)
   go_wp2
   go_ret
   exact HE.out
  have hn0 : wr.cell? ⟨w1.heap.size, m, none⟩ = some (str (n_3 m)) := by
   have h := HX0.out
   rcases (by omega : m = 0 ∨ m = 1 ∨ m = 2 ∨ m = 3 ∨ m = 4 ∨ m = 5) with rfl | rfl | rfl | rfl | rfl | rfl <;> simp [World.cell?, h]
  have HIs := a_0 (l_f wr P A ts c j d' x (HSx.out.below HBx.out) hjl hlen (n_3 m))
  rw [HH.out m] at HIs
  by_cases hb : hit m = true
  rotate_left
  ·have hb0 : hit m = false := by simpa using hb
   rw [hb0] at HIs; clear hb
   go_wp2_with (go_at_call 335; refine HIs.out.mono ?_; rintro e9 w9 ⟨rfl, hb9⟩)
   refine ⟨⟨m + 1, t_, o_, a_0 (HBx.out.trans (hb9.mono HBx.out.size)), a_0 ((hb9.block _ o_).trans HX0.out), a_0 ((hb9.block _ o_).trans HX1.out), a_0 fun t ht => ?_⟩, w_⟩
   rcases (by omega : t < m ∨ t = m) with h | rfl
   ·exact HT.out t h
   ·exact hb0
  have hh := HH.out m
  rw [hb] at hh HIs
  have hx0 : x = 0 := by
   simp only [Bool.and_eq_true, beq_iff_eq] at hh; exact hh.1
  subst hx0
  have hsy : a_9 (tk ts j) (n_3 m) = true := hh
  have hcm := r_M hm6 hsy
  have hj1 := a_T hv hjl hsy
  rcases HD.out with ⟨_, hdd, hij2, hG⟩ | ⟨h, _⟩
  rotate_left
  ·exact absurd rfl h
  subst hdd
  unfold q_u at hG
  rw [hcm] at hG
  simp only at hG
  have HE := a_0 hG
  clear hG hcm hsy hh hb HH HT HD
  have HPX := a_0 (show ∀ X : World, Below wr.heap.size wr X → PSt RT (X.setCell ⟨P, 1, none⟩ (.int .i64 ((j + 1 : Nat) : Int))) P A ts c (j + 1) d' 0 ∧ W.grownBy (X.setCell ⟨P, 1, none⟩ (.int .i64 ((j + 1 : Nat) : Int))) (some P) ∧ (X.setCell ⟨P, 1, none⟩ (.int .i64 ((j + 1 : Nat) : Int))).ownsRow W.heap.size 116 6 (.slice B es.length n) es.length (a_a es) ∧ (X.setCell ⟨P, 1, none⟩ (.int .i64 ((j + 1 : Nat) : Int))).heap[w1.heap.size + 1]? = some (.cells #[.int .i64 10, .int .i64 11, .int .i64 12, .int .i64 13, .int .i64 12, .int .i64 13] 3 (0, 0)) from fun X hb => by
   have hb1 : Below w1.heap.size w1 X := HBx.out.trans (hb.mono HBx.out.size)
   exact ⟨(HSx.out.below hb1).setAt (j + 1), a_d (a_h HG.out hb1) 1 _, a_v (a_8 HO.out hb1) (a_d (g_ X (some P)) 1 (.int .i64 ((j + 1 : Nat) : Int))) hP, (Below.heap_setCell _ _ _ _ m_).trans ((hb.block _ hzx).trans HX1.out)⟩)
  have HCl := a_0 (fun X (hb : Below wr.heap.size wr X) => (HSx.out.below (HBx.out.trans (hb.mono HBx.out.size))))
  clear HSx HG HO HX0 HX1 HBx
  go_wp2_with (go_at_call 335; refine HIs.out.mono ?_; rintro e9 w9 ⟨rfl, hb9⟩; obtain ⟨c0, c1, c2, c3⟩ := (HCl.out w9 hb9).cells; have hP9 := (HCl.out w9 hb9).lt; have hfr := (HCl.out w9 hb9).free)
  refine (HI.out _ (j + 1) (HPX.out w9 hb9).1 (HPX.out w9 hb9).2.1 hj1 o_).mono ?_
  rintro e2 w2 ⟨B2, n2, fs, k, d2, x2, rfl, ho2, hs2, hg2, hgx, hjk, hkl, hfl, hD2⟩
  have HO2 := a_0 (a_v (HPX.out w9 hb9).2.2.1 hgx hP)
  have hX1 := (hgx.block (w1.heap.size + 1) (Array.getElem?_eq_some_iff.1 (HPX.out w9 hb9).2.2.2).1 i_).trans (HPX.out w9 hb9).2.2.2
  have hn1 : w2.cell? ⟨w1.heap.size + 1, m, none⟩ = some (.int .i64 (r_6 m)) := by
   rcases (by omega : m = 0 ∨ m = 1 ∨ m = 2 ∨ m = 3 ∨ m = 4 ∨ m = 5) with rfl | rfl | rfl | rfl | rfl | rfl <;> simp [World.cell?, hX1, r_6]
  have hzw : w1.heap.size + 1 < w2.heap.size := (Array.getElem?_eq_some_iff.1 hX1).1
  have HJ := a_0 (fun (o : Int) => n_x w2 B B2 es fs n n2 W.heap.size W.heap.size o HO2.out ho2 o_ o_)
  have HK := a_0 (fun (o : Int) => n_x w2 B2 B fs es n2 n W.heap.size W.heap.size o ho2 HO2.out o_ o_)
  have HS2 := a_0 hs2
  have HG2 := a_0 hg2
  have HD2 := a_0 hD2
  have hz2 := hg2.size
  clear ho2 hs2 hg2 hgx hD2 c0 c1 c2 c3 hfr HPX HI HCl HIs hX1
  by_cases h4 : 4 ≤ m
  ·have hE := HE.out
   rw [decide_eq_true h4] at hE; have HE := a_0 hE; clear hE HO2
   go_wp2_with fail
   refine (HK.out (r_6 m)).mono ?_; rintro e3 w3 ⟨⟨B3, n3, rfl, ho3⟩, hb3⟩; refine o_Z ?_; intro HO3 HS3 HG3; clear ho3 HJ HK
   go_wp2
   go_ret
   rcases HD2.out with ⟨e1, e2, e3, e4⟩ | ⟨e1, e4, e5⟩
   ·have hE := HE.out
    exact w_m
   ·have hE := HE.out
    rw [e4] at hE; simp only [PR.bind] at hE; rw [← hE]; exact ⟨HG3.out, fs ++ es ++ [c_3 (r_6 m)], d2, ⟨B3, n3, v_, HO3.out⟩, o_, by simp only [List.length_append, List.length_singleton]; omega, e5, HS3.out⟩
  ·have hE := HE.out
   rw [decide_eq_false h4] at hE; have HE := a_0 hE; clear hE HO2
   go_wp2_with fail
   refine (HJ.out (r_6 m)).mono ?_; rintro e3 w3 ⟨⟨B3, n3, rfl, ho3⟩, hb3⟩; refine o_Z ?_; intro HO3 HS3 HG3; clear ho3 HJ HK
   go_wp2
   go_ret
   rcases HD2.out with ⟨e1, e2, e3, e4⟩ | ⟨e1, e4, e5⟩
   ·have hE := HE.out
    exact w_m
   ·have hE := HE.out
    rw [e4] at hE; simp only [PR.bind] at hE; rw [← hE]; exact ⟨HG3.out, es ++ fs ++ [c_3 (r_6 m)], d2, ⟨B3, n3, v_, HO3.out⟩, o_, by simp only [List.length_append, List.length_singleton]; omega, e5, HS3.out⟩
set_option maxRecDepth 512
theorem e_X {w : World} {ops : Array Oper} {rest : List Oper} {o : Oper} {a : Act} {Q : Exit → Act → World → Prop} (hgd : o.guard = none) (s x : Operand)
  (ho : o.op = .call { callee := .builtin .append, args := #[s, x], argTypes := #[25, 25] })
  (base b2 : Nat) (es fs : List Nd) (A B : Option Addr) (n m : Nat) (hs : a.eval s = .slice A es.length n) (hown : w.ownsRow base 116 6 (.slice A es.length n) es.length (a_a es))
  (hx : a.eval x = .slice B fs.length m) (hsrc : w.ownsRow b2 116 6 (.slice B fs.length m) fs.length (a_a fs)) (h1 : es.length ≤ 1000000) (h2 : fs.length ≤ 1000000) (hbase : base ≤ w.heap.size)
  (h : ∀ A' n' w', w'.ownsRow base 116 6 (.slice A' (es ++ fs).length n') (es ++ fs).length (a_a (es ++ fs)) → w.grownBy w' (Value.slice A es.length n).ownBlock → wpList prog ops Q rest (a.put o.dst (.slice A' (es ++ fs).length n')) w') : wpList prog ops Q (o :: rest) a w := by
 refine _ag ?_; intro i0 hi0 hz0 hz1 hz2
 rcases d_h hsrc with ⟨rfl, l2, rfl⟩ | ⟨gb, rfl⟩
 ·obtain rfl : fs = [] := List.eq_nil_of_length_eq_zero l2
  refine wpList_append_own_none hgd s x _ ho base 116 i0 6 underlying25 hi0 _ _ _ hs hown hx ?_
  have := h A n w (by rw [List.append_nil]; exact hown) (g_ _ _)
  rw [List.append_nil] at this
  exact this
 ·refine wpList_append_own _ hgd s x 25 ho base 116 i0 _ 6 64 underlying25 hi0 hz0 hz1 hz2 rfl d_ _ _ _ hs hown ⟨gb, 0, none⟩ fs.length m (a_a fs) hx (b_4 _) (b_q hsrc).2.2 (e_d _) x_ o_ hbase ?_
  intro v w' o1 g1 _
  obtain ⟨A', n', rfl⟩ := a_i o1
  have := h A' n' w' (by rw [b_v, List.length_append]; exact o1) g1
  rw [List.length_append] at this
  exact this
theorem d_e.low {T : TypeId} {W : World} {P : Nat} {A : Option Addr} {ts : List Tok} {c b b' d : Nat} {r : PR} {e : Ending} {w1 : World} (h : d_e T W P A ts c b d r e w1) (hb : b' ≤ b) : d_e T W P A ts c b' d r e w1 := by
 obtain ⟨hg, h⟩ := h
 refine ⟨hg, ?_⟩
 cases r with
 | ok es j => exact h
 | err x j => obtain ⟨es, d', h1, h2, h3, h4, h5⟩ := h; exact ⟨es, d', h1, o_, o_, h4, h5⟩
 | out => exact h
def fnN (t : Nat) : a_3 := [[105, 102], [99, 111, 97, 108, 101, 115, 99, 101], [105, 115, 110, 117, 108, 108], [108, 101, 110, 103, 116, 104]].getD t []
def fnO (t : Nat) : Int := [17, 18, 16, 19].getD t 0
def e_b (x : a_3) (n : Nat) : Nat → Nd
 | 0 => ⟨21, vl0, x, n⟩
 | m + 1 => if fnN m = x then c_3 (fnO m) else e_b x n m
theorem o_L (x : a_3) (n : Nat) : h_3 x n = if n ≤ 8 ∧ (e_b x n 4).ar = n then some (e_b x n 4) else none := by
 by_cases h1 : x = [105, 102]
 ·subst h1
  have e : e_b [105, 102] n 4 = c_3 17 := rfl
  have e2 : (c_3 17).ar = 3 := rfl
  have e3 : h_3 [105, 102] n = if n = 3 then some (c_3 17) else none := rfl
  rw [e, e2, e3]
  by_cases h : n = 3
  ·subst h; rfl
  ·rw [if_neg h, if_neg o_]
 by_cases h2 : x = [99, 111, 97, 108, 101, 115, 99, 101]
 ·subst h2
  have e : e_b [99, 111, 97, 108, 101, 115, 99, 101] n 4 = c_3 18 := rfl
  have e2 : (c_3 18).ar = 2 := rfl
  have e3 : h_3 [99, 111, 97, 108, 101, 115, 99, 101] n = if n = 2 then some (c_3 18) else none := rfl
  rw [e, e2, e3]
  by_cases h : n = 2
  ·subst h; rfl
  ·rw [if_neg h, if_neg o_]
 by_cases h3 : x = [105, 115, 110, 117, 108, 108]
 ·subst h3
  have e : e_b [105, 115, 110, 117, 108, 108] n 4 = c_3 16 := rfl
  have e2 : (c_3 16).ar = 1 := rfl
  have e3 : h_3 [105, 115, 110, 117, 108, 108] n = if n = 1 then some (c_3 16) else none := rfl
  rw [e, e2, e3]
  by_cases h : n = 1
  ·subst h; rfl
  ·rw [if_neg h, if_neg o_]
 by_cases h4 : x = [108, 101, 110, 103, 116, 104]
 ·subst h4
  have e : e_b [108, 101, 110, 103, 116, 104] n 4 = c_3 19 := rfl
  have e2 : (c_3 19).ar = 1 := rfl
  have e3 : h_3 [108, 101, 110, 103, 116, 104] n = if n = 1 then some (c_3 19) else none := rfl
  rw [e, e2, e3]
  by_cases h : n = 1
  ·subst h; rfl
  ·rw [if_neg h, if_neg o_]
 have e : e_b x n 4 = ⟨21, vl0, x, n⟩ := by
  unfold e_b
  rw [if_neg (fun e => h4 e.symm)]
  unfold e_b
  rw [if_neg (fun e => h3 e.symm)]
  unfold e_b
  rw [if_neg (fun e => h2 e.symm)]
  unfold e_b
  rw [if_neg (fun e => h1 e.symm)]
  rfl
 have e2 : (⟨21, vl0, x, n⟩ : Nd).ar = n := rfl
 have e3 : h_3 x n = if n ≤ 8 then some ⟨21, vl0, x, n⟩ else none := by
  unfold h_3 f_c
  rw [if_neg h1, if_neg h2, if_neg h3, if_neg h4]
 rw [e, e2, e3]
 by_cases h : n ≤ 8
 ·rw [if_pos h, if_pos ⟨h, rfl⟩]
 ·rw [if_neg h, if_neg (fun k => h k.1)]
theorem k_f (w : World) (N k : Nat) (hk : k ≠ N) (b0 b1 b2 b3 b4 b5 : Value) :
  ((((((w.setCell ⟨N, 0, none⟩ b0).setCell ⟨N, 1, none⟩ b1).setCell ⟨N, 2, none⟩ b2).setCell ⟨N, 3, none⟩ b3).setCell ⟨N, 4, none⟩ b4).setCell ⟨N, 5, none⟩ b5).heap[k]? = w.heap[k]? := by
 iterate 6 rw [Below.heap_setCell _ _ _ _ hk]
theorem o_3 {B N : Nat} {w X : World} (h : Below B w X) (hN : B ≤ N) (b0 b1 b2 b3 b4 b5 : Value) :
  Below B w ((((((X.setCell ⟨N, 0, none⟩ b0).setCell ⟨N, 1, none⟩ b1).setCell ⟨N, 2, none⟩ b2).setCell ⟨N, 3, none⟩ b3).setCell ⟨N, 4, none⟩ b4).setCell ⟨N, 5, none⟩ b5) :=
 (((((h.setCell hN _).setCell hN _).setCell hN _).setCell hN _).setCell hN _).setCell hN _
theorem h_B {t : Tok} (h : a_9 t [41] = true) : a_9 t [44] = false := by
 unfold a_9
 rw [c_y h]
 simp
set_option maxRecDepth 100000
theorem p_t (F P : Nat) (A : Option Addr) (ts : List Tok) (c : Nat) (hv : a_O ts = true) (hlen : ts.length ≤ 1000000) (hO : LvR 269 F 0 P A ts c) (W : World) (x : a_3) (i d : Nat) (hS : PSt RT W P A ts c i d 0) (hi : i + 2 < ts.length) (hd : d ≤ i) (hx : x.length ≤ 64) (hF : (ts.length - (i + 2)) * 10 + 9 ≤ F) (hday : x ≠ m_0) :
  Calls prog 348 #[.pointer (some ⟨P, 0, none⟩), str x] W (d_e RT W P A ts c i d (e_G (fun l i d => prs ts F l i d) ts x (i + 2) (d + 1))) := by
 refine v_1 ?_; intro hP hR
 rw [hR]
 clear hR
 refine v_0 ?_; intro hfact HFa
 have hne : (if a_9 (tk ts (i + 2)) [41] = true then g_g x [] 0 (i + 2) else d_f (fun j => prs ts F 0 j (d + 1)) x ts ts.length [] 0 (i + 2)) ≠ .out := by
  split
  ·exact i_3
  ·exact f_v hv hfact _ _ _ _ hi o_ (fun j hj hjl => e_n hv F 0 j (d + 1) hjl o_ (fun e => absurd e o_) o_)
 have HS := a_0 hS
 have HO := a_0 hO
 clear hS hO hfact
 have HOr := a_0 (show ∀ (X : World) (j : Nat), PSt RT X P A ts c j (d + 1) 0 → j < ts.length → i + 2 ≤ j → Calls prog 269 #[.pointer (some ⟨P, 0, none⟩)] X (fun e2 w2 => ∃ (B2 : Option Addr) (n2 : Nat) (fs : List Nd) (k d2 : Nat) (x2 : Int), e2 = .returned (.slice B2 fs.length n2) ∧ w2.ownsRow X.heap.size 116 6 (.slice B2 fs.length n2) fs.length (a_a fs) ∧ PSt RT w2 P A ts c k d2 x2 ∧ X.grownBy w2 (some P) ∧ j ≤ k ∧ k < ts.length ∧ fs.length ≤ k - j ∧
   ((x2 = 0 ∧ d2 = d + 1 ∧ j < k ∧ prs ts F 0 j (d + 1) = .ok fs k) ∨ (x2 ≠ 0 ∧ prs ts F 0 j (d + 1) = .err x2 k ∧ d + 1 ≤ d2 ∧ d2 ≤ k))) from fun X j hx hj hij =>
  (HO.out X j (d + 1) hx hj o_ (fun e => absurd e o_) o_).mono fun e2 w2 h => a_C (HFa.out j hj) h)
 generalize hq : (fun j => prs ts F 0 j (d + 1)) = q at *
 refine q_F ?_; intro HQ
 clear hq HO
 generalize hRR : (if a_9 (tk ts (i + 2)) [41] = true then g_g x [] 0 (i + 2) else d_f q x ts ts.length [] 0 (i + 2)) = R at *
 have HD0 := a_0 (show (a_9 (tk ts (i + 2)) [41] = true ∧ R = g_g x [] 0 (i + 2)) ∨ (a_9 (tk ts (i + 2)) [41] = false ∧ ∃ G, d_f q x ts G [] 0 (i + 2) = R) from by
  by_cases hs : a_9 (tk ts (i + 2)) [41] = true
  ·rw [if_pos hs] at hRR
   exact .inl ⟨hs, hRR.symm⟩
  ·rw [if_neg hs] at hRR
   exact .inr ⟨by simpa using hs, _, hRR⟩)
 clear hRR
 have HPW := a_0 (show PSt RT ((W.setCell ⟨P, 1, none⟩ (.int .i64 ((i + 2 : Nat) : Int))).setCell ⟨P, 2, none⟩ (.int .i64 ((d + 1 : Nat) : Int))) P A ts c (i + 2) (d + 1) 0 from (HS.out.setAt (i + 2)).setDepth (d + 1))
 refine w_9 ?_; intro HGW
 have hdb : (x == [100, 97, 121]) = false := beq_eq_false_iff_ne.2 hday
 refine _ag ?_; intro i0 hi0 hz0 hz1 hz2
 obtain ⟨c0, c1, c2, c3⟩ := HS.out.cells
 have hfr := HS.out.free
 go_enter func348, ntmps348
 go_wp2
 clear c0 c1 c2 c3 hfr HS
 go_loopw [5, 6] (fun s n wr => ∃ (B : Option Addr) (nn : Nat) (es : List Nd) (k j d' : Nat) (e : Int), s = .slice B es.length nn ∧ n = .int .i64 (k : Int) ∧ Hid (wr.ownsRow W.heap.size 116 6 (.slice B es.length nn) es.length (a_a es)) ∧ Hid (PSt RT wr P A ts c j d' e) ∧ Hid (W.grownBy wr (some P)) ∧ i + 2 ≤ j ∧ j < ts.length ∧ es.length ≤ j - i ∧ k ≤ j ∧ Hid ((e = 0 ∧ d' = d + 1 ∧ ((a_9 (tk ts j) [41] = true ∧ R = g_g x es k j) ∨ (a_9 (tk ts j) [41] = false ∧ k = 0 ∧ ∃ G, d_f q x ts G es k j = R) ∨ (a_9 (tk ts j) [41] = false ∧ a_9 (tk ts j) [44] = true ∧ 0 < k ∧ ∃ G, d_f q x ts G es k (j + 1) = R))) ∨ (e ≠ 0 ∧ R = .err e j ∧ d + 1 ≤ d' ∧ d' ≤ j))) (fun _ _ wr => msr P ts wr)
 case atStart =>
  exact ⟨none, 0, [], 0, i + 2, d + 1, 0, rfl, rfl, a_0 (a_o _ _ _ _), HPW, HGW, l_ _, hi, s_, o_, a_0 (.inl ⟨rfl, rfl, HD0.out.imp id (fun h => .inl ⟨h.1, rfl, h.2⟩)⟩)⟩
 case round =>
  clear HPW HGW HD0
  obtain ⟨B, nn, es, k, j, d', e, rfl, rfl, HOw, HSr, HGr, hij, hjl, hel, hkj, HD⟩ := hrel
  refine t_M ?_; intro c0 c1 c2 c3 hPr hfr
  have hWr := HGr.out.size
  have HMs := a_0 (b_D HSr.out)
  by_cases he : e = 0
  rotate_left
  ·rcases HD.out with ⟨h, _⟩ | ⟨_, hE, hdE⟩
   ·exact absurd h he
   refine t_y ?_; intro HE hsb; have heb : (e == 0) = false := beq_eq_false_iff_ne.2 he; have hen : (e != 0) = true := by simpa using he
   have HI := a_0 (l_f wr P A ts c j d' e HSr.out hjl hlen [41]); rw [hsb] at HI; clear hsb hE HD he
   go_wp2_with (go_at_call 335; refine HI.out.mono ?_; rintro e9 w9 ⟨rfl, hb9⟩; clear c0 c1 c2 c3; obtain ⟨c0, c1, c2, c3⟩ := (HSr.out.below hb9).cells; have hP9 := (HSr.out.below hb9).lt)
   go_ret
   rw [HE.out]; exact ⟨a_h HGr.out hb9, [], d', ⟨none, 0, rfl, a_o _ _ _ _⟩, o_, s_, ⟨o_, o_⟩, HSr.out.below hb9⟩
  subst he
  have HI := a_0 (fun y => l_f wr P A ts c j d' 0 HSr.out hjl hlen y)
  rcases HD.out with ⟨_, rfl, hD⟩ | ⟨h, _⟩
  rotate_left
  ·exact absurd rfl h
  clear HD
  rcases hD with ⟨hs, hRR⟩ | ⟨hs, hk0, G, hG⟩ | ⟨hs, hs4, hk0, G, hG⟩
  ·have hsb : ((0 : Int) == 0 && ((tk ts j).kind == 5 && (tk ts j).text == [41])) = true := hs
   have HI5 := a_0 (HI.out [41]); rw [hsb] at HI5; have hj1 := a_T hv hjl hs
   have hRR2 : R = (if k ≤ 8 ∧ (e_b x k 4).ar = k then .ok (es ++ [e_b x k 4]) (j + 1) else .err 3 j) := by
    rw [hRR]; unfold g_g; rw [o_L]
    by_cases h : k ≤ 8 ∧ (e_b x k 4).ar = k
    ·rw [if_pos h, if_pos h]
    ·rw [if_neg h, if_neg h]
   have HRR := a_0 hRR2; clear hsb hs hRR hRR2 HI
   go_wp2_with (go_at_call 335; refine HI5.out.mono ?_; rintro e9 w9 ⟨rfl, hb9⟩; clear c0 c1 c2 c3; obtain ⟨c0, c1, c2, c3⟩ := (HSr.out.below hb9).cells; have hP9 := (HSr.out.below hb9).lt)
   have HS9 := a_0 (HSr.out.below hb9); have HG9 := a_0 (a_h HGr.out hb9); have HO9 := a_0 (a_8 HOw.out hb9); have hz9 := hb9.size; clear HSr HGr HOw HI5 c0 c1 c2 c3 hfr
   go_loopw [10] (fun s wr => ∃ m : Nat, s = .int .i64 (m : Int) ∧ m ≤ 4 ∧ Hid (Below w9.heap.size w9 wr) ∧ Hid (wr.heap[w9.heap.size]? = some (.cells #[str (fnN 0), str (fnN 1), str (fnN 2), str (fnN 3)] 9 (0, 0))) ∧ Hid (wr.heap[w9.heap.size + 1]? = some (.cells #[.int .i64 17, .int .i64 18, .int .i64 16, .int .i64 19] 3 (0, 0))) ∧ Hid (wr.heap[w9.heap.size + 2]? = some (.cells (e_b x k m).cells.toArray 116 (0, 0)))) (fun s _ => 4 - (intOf s).toNat)
   case atStart =>
    refine ⟨0, rfl, o_, a_0 zX, a_0 ?_, a_0 ?_, a_0 ?_⟩
    ·exact (f_h w9 _ _ _).1
    ·exact (f_h w9 _ _ _).2.1
    ·exact (f_h w9 _ _ _).2.2
   case round =>
    obtain ⟨m, rfl, hm, HBx, HX0, HX1, HX2⟩ := hrel; have hzx : w9.heap.size + 2 < wr.heap.size := (Array.getElem?_eq_some_iff.1 HX2.out).1
    by_cases hm4 : m < 4
    ·have hn0 : wr.cell? ⟨w9.heap.size, m, none⟩ = some (str (fnN m)) := by
      have h := HX0.out
      rcases (by omega : m = 0 ∨ m = 1 ∨ m = 2 ∨ m = 3) with rfl | rfl | rfl | rfl <;> simp [World.cell?, h]
     have hn1 : wr.cell? ⟨w9.heap.size + 1, m, none⟩ = some (.int .i64 (fnO m)) := by
      have h := HX1.out
      rcases (by omega : m = 0 ∨ m = 1 ∨ m = 2 ∨ m = 3) with rfl | rfl | rfl | rfl <;> simp [World.cell?, h, fnO]
     obtain ⟨nd, hnd⟩ : ∃ nd, e_b x k m = nd := ⟨_, rfl⟩; rw [hnd] at HX2; have hnx : e_b x k (m + 1) = if fnN m = x then c_3 (fnO m) else nd := by rw [← hnd]; rfl
     clear hnd; obtain ⟨lop, ⟨lk, ln, lx⟩, lnm, la⟩ := nd; have hx2 := HX2.out; simp only [Nd.cells] at hx2; have hf2 := m_d hx2; obtain ⟨l0, l1, l2, l3, l4, l5⟩ := d_t hx2; have HX22 := a_0 (fun o => l_1 hx2 (.int .i64 o) (.int .i64 0) (.int .i64 0) (str []) (str []) (.int .i64 0)); have HNx := a_0 hnx; clear hx2 hnx; generalize fnN m = nm at *; generalize fnO m = no at *
     by_cases hq : nm = x
     ·have hqb : (nm == x) = true := beq_iff_eq.2 hq
      have HL := a_0 (HNx.out.trans (if_pos hq)); clear hq HNx
      go_wp2
      refine ⟨⟨m + 1, t_, o_, a_0 ?_, a_0 ?_, a_0 ?_, a_0 ?_⟩, ?_⟩
      ·exact o_3 HBx.out o_ _ _ _ _ _ _
      ·exact (k_f wr _ _ o_ _ _ _ _ _ _).trans HX0.out
      ·exact (k_f wr _ _ o_ _ _ _ _ _ _).trans HX1.out
      ·rw [HL.out]; exact HX22.out no
      ·simp [intOf]; omega
     ·have hqb : (nm == x) = false := beq_eq_false_iff_ne.2 hq
      have HL := a_0 (HNx.out.trans (if_neg hq)); clear hq HNx HX22
      go_wp2
      exact ⟨⟨m + 1, t_, o_, HBx, HX0, HX1, a_0 (by rw [HL.out]; exact HX2.out)⟩, w_⟩
    ·obtain rfl : m = 4 := by omega
     have HSx := a_0 (HS9.out.below HBx.out); have HGx := a_0 (a_h HG9.out HBx.out); have HOx := a_0 (a_8 HO9.out HBx.out); have hzz := HBx.out.size; clear HS9 HG9 HO9 HX0 HX1 HBx; generalize e_b x k 4 = nd at *; obtain ⟨lop, ⟨lk, ln, lx⟩, lnm, la⟩ := nd; have hx2 := HX2.out; simp only [Nd.cells] at hx2; obtain ⟨l0, l1, l2, l3, l4, l5⟩ := d_t hx2; have HXn := a_0 hx2; clear HX2 hx2; have hR := HRR.out; simp only [Nd.ar] at hR; clear HRR
     by_cases hk8 : k ≤ 8
     rotate_left
     ·rw [if_neg (fun h => hk8 h.1)] at hR
      have HE := a_0 hR; have hkd : decide ((8 : Int) < (k : Int)) = true := decide_eq_true o_; have hkn : (8 : Int) < (k : Int) := by omega
      clear hR hk8
      go_wp2_with fail
      refine (f_K _ P A ts c j (d + 1) HSx.out 3).mono ?_; rintro e8 w8 ⟨rfl, hS8, hg8⟩; have HS8 := a_0 hS8; have HG8 := a_0 ((HGx.out).trans hg8); clear hS8 hg8
      go_wp2
      go_ret
      rw [HE.out]; exact _ap
     have hkd : decide ((8 : Int) < (k : Int)) = false := decide_eq_false o_; have hkn : ¬ (8 : Int) < (k : Int) := by omega
     have HAr := a_0 (fun X => d_G lop lk ln la ⟨lx.toArray⟩ ⟨lnm.toArray⟩ X)
     by_cases hka : c_B lop la = (k : Int)
     rotate_left
     ·rw [if_neg (fun h => hka h.2)] at hR
      have HE := a_0 hR; clear hR; generalize c_B lop la = av at *; have hkn : (av != (k : Int)) = true := by simpa using hka
      go_wp2_with (go_at_call 101; refine (HAr.out _).mono ?_; rintro e6 w6 ⟨rfl, hb6⟩)
      refine (f_K _ P A ts c j (d + 1) (HSx.out.below zX) 3).mono ?_; rintro e8 w8 ⟨rfl, hS8, hg8⟩; have HS8 := a_0 hS8; have HG8 := a_0 ((a_h HGx.out zX).trans hg8); clear hS8 hg8
      go_wp2
      go_ret
      rw [HE.out]; exact _ap
     rw [if_pos ⟨hk8, hka⟩] at hR; have HE := a_0 hR; clear hR; rw [hka] at HAr; clear hka
     go_wp2_with (first
      | (go_at_call 101; refine (HAr.out _).mono ?_; rintro e6 w6 ⟨rfl, hb6⟩; clear l0 l1 l2 l3 l4 l5; obtain ⟨l0, l1, l2, l3, l4, l5⟩ := d_t ((hb6.block (w9.heap.size + 2) o_).trans HXn.out); have hS6 := HSx.out.below hb6; obtain ⟨c0, c1, c2, c3⟩ := hS6.cells; have hfr := hS6.free; have hP6 := hS6.lt; have HS6 := a_0 ((hS6.setDepth d).setAt (j + 1)); have HG6 := a_0 (a_d (a_d (a_h HGx.out hb6) 2 (.int .i64 (d : Int))) 1 (.int .i64 ((j + 1 : Nat) : Int))); have HO6 := a_0 (a_v (a_v (a_8 HOx.out hb6) (a_d (g_ w6 (some P)) 2 (.int .i64 (d : Int))) hP) (a_d (g_ _ (some P)) 1 (.int .i64 ((j + 1 : Nat) : Int))) hP); have hz6 := hb6.size; clear hS6)
      | (at_builtin; refine wpList_append_own _ rfl _ _ 25 rfl W.heap.size 116 i0 _ 6 64 underlying25 hi0 hz0 hz1 hz2 rfl d_ _ _ _ rfl (HO6.out.alloc _) ⟨w6.heap.size, 0, none⟩ 1 1 [.int .i64 lop, .int .i64 lk, .int .i64 ln, str lx, str lnm, .int .i64 la] rfl rfl (by exact b_h (p_S s_)) c_ x_ o_ m_ ?_; intro v7 w7 o7 g7 _; obtain ⟨B7, n7, rfl⟩ := a_i o7; have HS7 := a_0 ((HS6.out.below (Below.alloc (b_ _ _) (l_ _) _)).gr g7 (fun j hj => by have := (HO6.out.lt j hj).1; omega)); have HG7 := a_0 ((a_h HG6.out (Below.alloc (b_ _ _) (l_ _) _)).andThen g7 (fun j hj => .inl (HO6.out.lt j hj).1)); have HO7 := a_0 (d_5 (nd := ⟨lop, ⟨lk, ln, lx⟩, lnm, la⟩) o7); clear o7 g7))
     go_ret
     rw [HE.out]; exact ⟨HG7.out, ⟨B7, n7, v_, HO7.out⟩, HS7.out⟩
  ·have hG2 : (q (j)).bind (fun fs k2 => if a_9 (tk ts k2) [44] = true then d_f q x ts (G - 1) (es ++ fs) (k + 1) (k2 + 1) else if a_9 (tk ts k2) [41] = true then g_g x (es ++ fs) (k + 1) k2 else .err 3 k2) = R := by
    cases G with
    | zero => exact absurd hG.symm hne
    | succ G => exact hG
   clear hG; have hsb : ((0 : Int) == 0 && ((tk ts j).kind == 5 && (tk ts j).text == [41])) = false := hs; have HI5 := a_0 (HI.out [41]); rw [hsb] at HI5; clear hsb hs HI; have hkd : decide ((0 : Int) < (k : Int)) = false := decide_eq_false o_; have hkn : ¬ (0 : Int) < (k : Int) := by omega
   clear hk0
   go_wp2_with (go_at_call 335; refine HI5.out.mono ?_; rintro e9 w9 ⟨rfl, hb9⟩; clear c0 c1 c2 c3; obtain ⟨c0, c1, c2, c3⟩ := (HSr.out.below hb9).cells; have hP9 := (HSr.out.below hb9).lt)
   have HSa := a_0 (HSr.out.below hb9); have HGa := a_0 (a_h HGr.out hb9); have HOa := a_0 (a_8 HOw.out hb9); clear HI5 c0 c1 c2 c3 hfr; refine (HOr.out w9 j HSa.out hjl hij).mono ?_; rw [HQ.out (j)]; rintro e2 w2 ⟨B2, n2, fs, k2, d2, x2, rfl, ho2, hS2, hg2, hjk, hkl, hfl, hD2⟩; have HO2 := a_0 ho2; have HS2 := a_0 hS2; have HG2 := a_0 (HGa.out.trans hg2); have HD2 := a_0 hD2; have HOe := a_0 (a_v HOa.out hg2 hP); have hgw := hg2.size; clear hS2 hg2 hD2 ho2 HSa HGa HOa; have hWa := HG2.out.size; have hk3 : (es ++ fs).length ≤ k2 - i := by simp only [List.length_append]; omega
   by_cases hx2 : x2 = 0
   ·rcases HD2.out with ⟨_, hdd, hjk2, hr⟩ | ⟨h, _⟩
    rotate_left
    ·exact absurd hx2 h
    subst hx2 hdd; rw [hr] at hG2; simp only [PR.bind] at hG2; clear hr HD2
    go_wp2_with (at_builtin; refine e_X rfl _ _ rfl W.heap.size _ es fs _ B2 _ n2 rfl HOe.out rfl HO2.out o_ o_ o_ ?_; intro B3 n3 w3 o3 g3; have HS3 := a_0 (HS2.out.gr g3 (fun j hj => by have := (HOe.out.lt j hj).1; omega)); have HG3 := a_0 (HG2.out.andThen g3 (fun j hj => .inl (HOe.out.lt j hj).1)); have HO3 := a_0 o3; have hz3 := g3.size; obtain ⟨c0, c1, c2, c3⟩ := HS3.out.cells; have hP3 := HS3.out.lt; clear g3 o3 HOe HO2 HS2 HG2)
    have HIr := a_0 (fun X (hb : Below w3.heap.size w3 X) y => l_f X P A ts c k2 (d + 1) 0 (HS3.out.below hb) hkl hlen y)
    by_cases hs5 : a_9 (tk ts k2) [41] = true
    ·have h44 := h_B hs5
     rw [if_neg (by rw [h44]; decide), if_pos hs5] at hG2; refine w_f ?_; intro HE hb5 HIs; rw [hb5] at HIs; clear hG2 hb5 HIr
     go_wp2_with (go_at_call 335; refine (HIs.out _ zX).mono ?_; rintro e6 w6 ⟨rfl, hb6⟩)
     have HS6 := a_0 (HS3.out.below hb6); refine ⟨⟨B3, n3, es ++ fs, k + 1, k2, d + 1, 0, v_, t_, a_0 (a_8 HO3.out hb6), HS6, a_0 (a_h HG3.out hb6), o_, hkl, hk3, o_, a_0 (.inl ⟨rfl, rfl, .inl ⟨hs5, HE.out.symm⟩⟩)⟩, ?_⟩; rw [b_D HS6.out, HMs.out]; simp only [↓reduceIte]
     omega
    refine v_j ?_; intro hs50 hb5 HIs; rw [hb5] at HIs; clear hb5 hs5
    by_cases hs6 : a_9 (tk ts k2) [44] = true
    ·rw [if_pos hs6] at hG2
     refine w_k ?_; intro HE hb6 HIc; rw [hb6] at HIc; clear hG2 hb6 HIr
     go_wp2_with (first
      | (go_at_call_of 335 (Value.string { data := #[41] }); refine (HIs.out _ zX).mono ?_; rintro e6 w6 ⟨rfl, hb6⟩)
      | (go_at_call_of 335 (Value.string { data := #[44] }); refine (HIc.out _ hb6).mono ?_; rintro e7 w7 ⟨rfl, hb7⟩))
     have hb8 := a_n hb7 hb6; have HS6 := a_0 (HS3.out.below hb8); refine ⟨⟨B3, n3, es ++ fs, k + 1, k2, d + 1, 0, v_, t_, a_0 (a_8 HO3.out hb8), HS6, a_0 (a_h HG3.out hb8), o_, hkl, hk3, o_, a_0 (.inl ⟨rfl, rfl, .inr (.inr ⟨hs50, hs6, o_, _, HE.out⟩)⟩)⟩, ?_⟩; rw [b_D HS6.out, HMs.out]; simp only [↓reduceIte]
     omega
    ·have hs60 : a_9 (tk ts k2) [44] = false := by simpa using hs6
     rw [if_neg hs6, if_neg (by rw [hs50]; decide)] at hG2; refine v_O ?_; intro HE hb6 HIc; rw [hb6] at HIc; clear hG2 hb6 HIr hs6
     go_wp2_with (first
      | (go_at_call_of 335 (Value.string { data := #[41] }); refine (HIs.out _ zX).mono ?_; rintro e6 w6 ⟨rfl, hb6⟩)
      | (go_at_call_of 335 (Value.string { data := #[44] }); refine (HIc.out _ hb6).mono ?_; rintro e7 w7 ⟨rfl, hb7⟩))
     have hb8 := a_n hb7 hb6; refine (f_K w7 P A ts c k2 (d + 1) (HS3.out.below hb8) 3).mono ?_; rintro e8 w8 ⟨rfl, hS8, hg8⟩; have HS8 := a_0 hS8; have HG8 := a_0 ((a_h HG3.out hb8).trans hg8); clear hS8 hg8
     go_wp2
     go_ret
     rw [← HE.out]; exact _ap
   ·rcases HD2.out with ⟨h, _⟩ | ⟨_, hr, hd4, hd5⟩
    ·exact absurd h hx2
    rw [hr] at hG2; simp only [PR.bind] at hG2; have HE := a_0 hG2; have hxb : (x2 == 0) = false := beq_eq_false_iff_ne.2 hx2; have HXn := a_0 hx2; clear hG2 hr HD2 hx2
    go_wp2_with (at_builtin; refine e_X rfl _ _ rfl W.heap.size _ es fs _ B2 _ n2 rfl HOe.out rfl HO2.out o_ o_ o_ ?_; intro B3 n3 w3 o3 g3; have HS3 := a_0 (HS2.out.gr g3 (fun j hj => by have := (HOe.out.lt j hj).1; omega)); have HG3 := a_0 (HG2.out.andThen g3 (fun j hj => .inl (HOe.out.lt j hj).1)); have HO3 := a_0 o3; have hz3 := g3.size; obtain ⟨c0, c1, c2, c3⟩ := HS3.out.cells; have hP3 := HS3.out.lt; clear g3 o3 HOe HO2 HS2 HG2)
    try go_wp2
    refine ⟨⟨B3, n3, es ++ fs, k + 1, k2, d2, x2, v_, t_, HO3, HS3, HG3, o_, hkl, hk3, o_, a_0 (.inr ⟨HXn.out, HE.out.symm, hd4, hd5⟩)⟩, ?_⟩; rw [b_D HS3.out, HMs.out, if_neg HXn.out, if_pos trivial]
    omega
  ·have hG2 : (q (j + 1)).bind (fun fs k2 => if a_9 (tk ts k2) [44] = true then d_f q x ts (G - 1) (es ++ fs) (k + 1) (k2 + 1) else if a_9 (tk ts k2) [41] = true then g_g x (es ++ fs) (k + 1) k2 else .err 3 k2) = R := by
    cases G with
    | zero => exact absurd hG.symm hne
    | succ G => exact hG
   clear hG; have hsb : ((0 : Int) == 0 && ((tk ts j).kind == 5 && (tk ts j).text == [41])) = false := hs; have HI5 := a_0 (HI.out [41]); rw [hsb] at HI5; clear hsb hs HI; have hkd : decide ((0 : Int) < (k : Int)) = true := decide_eq_true o_; have hkn : (0 : Int) < (k : Int) := by omega
   have hj1 := a_T hv hjl hs4; have HTk := a_0 (fun X (hb : Below wr.heap.size wr X) => e_R X P A ts c j (d + 1) (HSr.out.below hb) hjl hlen [44] hs4); clear hs4
   go_wp2_with (first
    | (go_at_call 335; refine HI5.out.mono ?_; rintro e9 w9 ⟨rfl, hb9⟩; clear c0 c1 c2 c3; obtain ⟨c0, c1, c2, c3⟩ := (HSr.out.below hb9).cells; have hP9 := (HSr.out.below hb9).lt)
    | (go_at_call 347; refine (HTk.out _ hb9).mono ?_; rintro e8 wa ⟨rfl, hSa, hga⟩; have HSa := a_0 hSa; have HGa := a_0 ((a_h HGr.out hb9).trans hga); have HOa := a_0 (a_v (a_8 HOw.out hb9) hga hP); clear c0 c1 c2 c3; obtain ⟨c0, c1, c2, c3⟩ := hSa.cells; have hPa := hSa.lt; clear hSa hga))
   clear HI5 c0 c1 c2 c3 hfr HTk; refine (HOr.out wa (j + 1) HSa.out hj1 o_).mono ?_; rw [HQ.out (j + 1)]; rintro e2 w2 ⟨B2, n2, fs, k2, d2, x2, rfl, ho2, hS2, hg2, hjk, hkl, hfl, hD2⟩; have HO2 := a_0 ho2; have HS2 := a_0 hS2; have HG2 := a_0 (HGa.out.trans hg2); have HD2 := a_0 hD2; have HOe := a_0 (a_v HOa.out hg2 hP); have hgw := hg2.size; clear hS2 hg2 hD2 ho2 HSa HGa HOa; have hWa := HG2.out.size; have hk3 : (es ++ fs).length ≤ k2 - i := by simp only [List.length_append]; omega
   by_cases hx2 : x2 = 0
   ·rcases HD2.out with ⟨_, hdd, hjk2, hr⟩ | ⟨h, _⟩
    rotate_left
    ·exact absurd hx2 h
    subst hx2 hdd; rw [hr] at hG2; simp only [PR.bind] at hG2; clear hr HD2
    go_wp2_with (at_builtin; refine e_X rfl _ _ rfl W.heap.size _ es fs _ B2 _ n2 rfl HOe.out rfl HO2.out o_ o_ o_ ?_; intro B3 n3 w3 o3 g3; have HS3 := a_0 (HS2.out.gr g3 (fun j hj => by have := (HOe.out.lt j hj).1; omega)); have HG3 := a_0 (HG2.out.andThen g3 (fun j hj => .inl (HOe.out.lt j hj).1)); have HO3 := a_0 o3; have hz3 := g3.size; obtain ⟨c0, c1, c2, c3⟩ := HS3.out.cells; have hP3 := HS3.out.lt; clear g3 o3 HOe HO2 HS2 HG2)
    have HIr := a_0 (fun X (hb : Below w3.heap.size w3 X) y => l_f X P A ts c k2 (d + 1) 0 (HS3.out.below hb) hkl hlen y)
    by_cases hs5 : a_9 (tk ts k2) [41] = true
    ·have h44 := h_B hs5
     rw [if_neg (by rw [h44]; decide), if_pos hs5] at hG2; refine w_f ?_; intro HE hb5 HIs; rw [hb5] at HIs; clear hG2 hb5 HIr
     go_wp2_with (go_at_call 335; refine (HIs.out _ zX).mono ?_; rintro e6 w6 ⟨rfl, hb6⟩)
     have HS6 := a_0 (HS3.out.below hb6); refine ⟨⟨B3, n3, es ++ fs, k + 1, k2, d + 1, 0, v_, t_, a_0 (a_8 HO3.out hb6), HS6, a_0 (a_h HG3.out hb6), o_, hkl, hk3, o_, a_0 (.inl ⟨rfl, rfl, .inl ⟨hs5, HE.out.symm⟩⟩)⟩, ?_⟩; rw [b_D HS6.out, HMs.out]; simp only [↓reduceIte]
     omega
    refine v_j ?_; intro hs50 hb5 HIs; rw [hb5] at HIs; clear hb5 hs5
    by_cases hs6 : a_9 (tk ts k2) [44] = true
    ·rw [if_pos hs6] at hG2
     refine w_k ?_; intro HE hb6 HIc; rw [hb6] at HIc; clear hG2 hb6 HIr
     go_wp2_with (first
      | (go_at_call_of 335 (Value.string { data := #[41] }); refine (HIs.out _ zX).mono ?_; rintro e6 w6 ⟨rfl, hb6⟩)
      | (go_at_call_of 335 (Value.string { data := #[44] }); refine (HIc.out _ hb6).mono ?_; rintro e7 w7 ⟨rfl, hb7⟩))
     have hb8 := a_n hb7 hb6; have HS6 := a_0 (HS3.out.below hb8); refine ⟨⟨B3, n3, es ++ fs, k + 1, k2, d + 1, 0, v_, t_, a_0 (a_8 HO3.out hb8), HS6, a_0 (a_h HG3.out hb8), o_, hkl, hk3, o_, a_0 (.inl ⟨rfl, rfl, .inr (.inr ⟨hs50, hs6, o_, _, HE.out⟩)⟩)⟩, ?_⟩; rw [b_D HS6.out, HMs.out]; simp only [↓reduceIte]
     omega
    ·have hs60 : a_9 (tk ts k2) [44] = false := by simpa using hs6
     rw [if_neg hs6, if_neg (by rw [hs50]; decide)] at hG2; refine v_O ?_; intro HE hb6 HIc; rw [hb6] at HIc; clear hG2 hb6 HIr hs6
     go_wp2_with (first
      | (go_at_call_of 335 (Value.string { data := #[41] }); refine (HIs.out _ zX).mono ?_; rintro e6 w6 ⟨rfl, hb6⟩)
      | (go_at_call_of 335 (Value.string { data := #[44] }); refine (HIc.out _ hb6).mono ?_; rintro e7 w7 ⟨rfl, hb7⟩))
     have hb8 := a_n hb7 hb6; refine (f_K w7 P A ts c k2 (d + 1) (HS3.out.below hb8) 3).mono ?_; rintro e8 w8 ⟨rfl, hS8, hg8⟩; have HS8 := a_0 hS8; have HG8 := a_0 ((a_h HG3.out hb8).trans hg8); clear hS8 hg8
     go_wp2
     go_ret
     rw [← HE.out]; exact _ap
   ·rcases HD2.out with ⟨h, _⟩ | ⟨_, hr, hd4, hd5⟩
    ·exact absurd h hx2
    rw [hr] at hG2; simp only [PR.bind] at hG2; have HE := a_0 hG2; have hxb : (x2 == 0) = false := beq_eq_false_iff_ne.2 hx2; have HXn := a_0 hx2; clear hG2 hr HD2 hx2
    go_wp2_with (at_builtin; refine e_X rfl _ _ rfl W.heap.size _ es fs _ B2 _ n2 rfl HOe.out rfl HO2.out o_ o_ o_ ?_; intro B3 n3 w3 o3 g3; have HS3 := a_0 (HS2.out.gr g3 (fun j hj => by have := (HOe.out.lt j hj).1; omega)); have HG3 := a_0 (HG2.out.andThen g3 (fun j hj => .inl (HOe.out.lt j hj).1)); have HO3 := a_0 o3; have hz3 := g3.size; obtain ⟨c0, c1, c2, c3⟩ := HS3.out.cells; have hP3 := HS3.out.lt; clear g3 o3 HOe HO2 HS2 HG2)
    try go_wp2
    refine ⟨⟨B3, n3, es ++ fs, k + 1, k2, d2, x2, v_, t_, HO3, HS3, HG3, o_, hkl, hk3, o_, a_0 (.inr ⟨HXn.out, HE.out.symm, hd4, hd5⟩)⟩, ?_⟩; rw [b_D HS3.out, HMs.out, if_neg HXn.out, if_pos trivial]
    omega
theorem t_m (F P : Nat) (A : Option Addr) (ts : List Tok) (c : Nat) (hv : a_O ts = true) (hlen : ts.length ≤ 1000000) (hO : LvR 269 F 0 P A ts c) : s_G F P A ts c := by
 intro W x i d hS hi hd hx hF
 by_cases hday : x = m_0
 rotate_left
 ·exact p_t F P A ts c hv hlen hO W x i d hS hi hd hx hF hday
 have hR : e_G (fun l i d => prs ts F l i d) ts x (i + 2) (d + 1) = (prs ts F 0 (i + 2) (d + 1)).bind (k_O ts) := by
  unfold e_G
  rw [if_pos hday]
  by_cases hs : a_9 (tk ts (i + 2)) [41] = true
  ·rw [if_pos hs, n_K o_ hs]; rfl
  ·rw [if_neg hs]
 rw [hR]
 subst hday
 clear hR hx
 unfold m_0
 have hP := hS.lt
 have HDy := a_0 (fun X hX => u_V F P A ts c hv hlen hO X (i + 2) d hX hi o_ hF)
 have HPW := a_0 (show PSt RT ((W.setCell ⟨P, 1, none⟩ (.int .i64 ((i + 2 : Nat) : Int))).setCell ⟨P, 2, none⟩ (.int .i64 ((d + 1 : Nat) : Int))) P A ts c (i + 2) (d + 1) 0 from (hS.setAt (i + 2)).setDepth (d + 1))
 refine w_9 ?_; intro HGW
 obtain ⟨c0, c1, c2, c3⟩ := hS.cells
 have hfr := hS.free
 generalize (prs ts F 0 (i + 2) (d + 1)).bind (k_O ts) = R at *
 clear hS hO
 go_enter func348, ntmps348
 go_wp2_with fail
 refine (HDy.out _ HPW.out).mono ?_
 intro e8 w8 h8
 obtain ⟨v, rfl⟩ := h8.ret
 have HR := a_0 (d_e.low (b' := i) (h8.up HGW.out) o_)
 clear h8
 go_wp2
 exact p_f
set_option maxRecDepth 512
structure AllR (F P : Nat) (A : Option Addr) (ts : List Tok) (c : Nat) : Prop where
 or : LvR 269 F 0 P A ts c
 and : LvR 290 F 1 P A ts c
 no : LvR 308 F 2 P A ts c
 cmp : LvR 323 F 3 P A ts c
 con : LvR 334 F 4 P A ts c
 sum : LvR 339 F 5 P A ts c
 pro : LvR 341 F 6 P A ts c
 un : LvR 342 F 7 P A ts c
 pr : PrR F P A ts c
theorem s_U (P : Nat) (A : Option Addr) (ts : List Tok) (c : Nat) (hv : a_O ts = true) (hlen : ts.length ≤ 1000000) : ∀ F, AllR F P A ts c
 | 0 => by
  constructor
  all_goals first
   | (intro W i d hS hi hd h8 hF; exfalso; omega)
   | (intro W i d hS hi hd h8 hm hF; exfalso; omega)
 | F + 1 => by
  have ih := s_U P A ts c hv hlen F
  exact ⟨w_G F P A ts c hv hlen ih.and, t_Z F P A ts c hv hlen ih.no, u_i F P A ts c hv hlen ih.no ih.cmp, o_I F P A ts c hv hlen ih.con, p_q F P A ts c hv hlen ih.sum, u_6 F P A ts c hv hlen ih.pro, o_8 F P A ts c hv hlen ih.un, r_F F P A ts c hv hlen ih.un ih.pr, n_O F P A ts c hv hlen ih.or (r_G F P A ts c hv hlen (t_m F P A ts c hv hlen ih.or))⟩
set_option maxRecDepth 100000
theorem h_0 (A : Option Addr) (ts : List Tok) (c : Nat) (a : Int) (w : World) (hG : Glob w) (hA : d_a w A ts) (hl : ts.length ≤ 1000000) (hx : ∀ j (h : j < ts.length), ts[j].text.length ≤ maxLen) :
  Calls prog 243 #[.slice A ts.length c, .int .i64 a] w fun e w' => t_4 w w' (paS ts a) e ∧ Below w.heap.size w w' := by
 have HV := a_0 (d_O A ts c w hA hl hx)
 have HG := a_0 hG
 have HA := a_0 hA
 clear hG hA hx
 by_cases hv : a_O ts = false
 ·have hE : h_N ts = 8 := by unfold h_N; rw [hv]; rfl
  have HP := a_0 (show paS ts a = ([], 0, 8) from by unfold paS; rw [if_pos hv])
  rw [hE] at HV
  clear hv hE
  go_enter func243, ntmps243
  go_wp2_with fail
  refine HV.out.mono ?_
  rintro e w1 ⟨rfl, hb1⟩
  go_wp2
  exact t_u
 refine t_Q ?_; intro hvt hE
 rw [hE] at HV
 clear hE
 by_cases hr : a < 0 ∨ (ts.length : Int) ≤ a
 ·have HP := a_0 (show paS ts a = ([], 0, 1) from by unfold paS; rw [if_neg hv, if_pos hr])
  clear hv hvt
  rcases hr with h | h
  all_goals
   go_enter func243, ntmps243
   go_wp2_with fail
   refine HV.out.mono ?_; rintro e w1 ⟨rfl, hb1⟩
   go_wp2
   exact t_u
 obtain ⟨i, rfl⟩ : ∃ i : Nat, a = (i : Int) := ⟨a.toNat, o_⟩
 have hi : i < ts.length := by omega
 have HP := a_0 (show paS ts (i : Int) = (match prs ts ((ts.length - i) * 10 + 9) 0 i 0 with
  | .ok es j => if a_x es = 0 then (es, (j : Int), 0) else ([], (j : Int), a_x es)
  | .err x j => ([], (j : Int), x)
  | .out => ([], 0, 0)) from by unfold paS; rw [if_neg hv, if_neg hr]; rfl)
 have hf := b_6 hvt ((ts.length - i) * 10 + 9) 0 i 0 hi (fun e => absurd e o_)
 clear hv hr
 have HOr := a_0 (fun (P : Nat) => (s_U P A ts c hvt hl ((ts.length - i) * 10 + 9)).or)
 have HSt := a_0 (show ∀ w1 : World, Below w.heap.size w w1 → PSt RT (w1.alloc (.cells #[.slice A ts.length c, .int .i64 i, .int .i64 0, .int .i64 0] RT)) w1.heap.size A ts c i 0 0 from fun w1 hb =>
  ⟨heap_alloc_new w1 _, (j_B (HA.out.below hb) o_).fr (a_1 (Below.alloc (b_ _ w1) (l_ _) _)), (o_Y.of_words (HG.out.below hb).words).fr (a_1 (Below.alloc (b_ _ w1) (l_ _) _))⟩)
 clear hvt
 go_enter func243, ntmps243
 go_wp2_with fail
 refine HV.out.mono ?_
 rintro e w1 ⟨rfl, hb1⟩
 go_wp2_with fail
 refine (HOr.out w1.heap.size _ i 0 (HSt.out w1 hb1) hi (Nat.zero_le _) (fun e => absurd e o_) o_).mono ?_
 intro e2 w2 h2
 obtain ⟨B, n, es, j, d', x, rfl, ho2, hS2, hg2, hij, hjl, hel, hD2⟩ := a_C hf h2
 refine v_F ?_; intro hbw hz1 hz2
 simp at hz2
 refine w_a ?_; intro HO2 HO2b HNm HS2 HD2
 clear h2 ho2 hg2 hD2 hf HOr HSt HV
 obtain ⟨c0, c1, c2, c3⟩ := hS2.cells
 have hP2 := hS2.lt
 have hfr := hS2.free
 clear hS2
 by_cases hx : x = 0
 ·rcases HD2.out with ⟨_, hdd, hij2, hr⟩ | ⟨h, _⟩
  rotate_left
  ·exact absurd hx h
  subst hx
  have HR := a_0 hr
  have HVe := a_0 (c_O B es n w2 (c_X HO2.out) o_ (HNm.out hr))
  clear hr hdd
  go_wp2_with fail
  refine HVe.out.mono ?_
  rintro e3 w3 ⟨rfl, hb3⟩
  have HS3 := HS2.out.below hb3
  clear c0 c1 c2 c3 hfr
  refine v_m ?_; intro c0 c1 c2 c3 hP3 hfr hz3 HO3
  clear HS3
  refine w_z ?_; intro HPv hbw3
  by_cases hve : a_x es = 0
  ·have HPx := a_0 (show paS ts (i : Int) = (es, (j : Int), 0) from by rw [HPv.out, if_pos hve])
   rw [hve] at HO3 ⊢; clear hve HVe HPv
   go_wp2
   go_big_quiet (fail)
   go_wp2
   exact v_G
  ·have HPx := a_0 (show paS ts (i : Int) = ([], (j : Int), a_x es) from by rw [HPv.out, if_neg hve])
   have hvb : (a_x es == 0) = false := beq_eq_false_iff_ne.2 hve; have hvn : (a_x es != 0) = true := by simpa using hve
   clear HVe HPv HO3 hve; generalize a_x es = v at *
   go_wp2
   go_big_quiet (fail)
   go_wp2
   exact t_E
 ·rcases HD2.out with ⟨h, _⟩ | ⟨_, hr, hd4⟩
  ·exact absurd h hx
  have HPx := a_0 (show paS ts (i : Int) = ([], (j : Int), x) from by rw [HP.out, hr])
  refine s_g ?_; intro hxb hxn
  clear hr hx
  go_wp2
  go_big_quiet (fail)
  go_wp2
  exact t_E
end Go.Proofs.YtmbeeefkpgfgmaaGreatDoor
