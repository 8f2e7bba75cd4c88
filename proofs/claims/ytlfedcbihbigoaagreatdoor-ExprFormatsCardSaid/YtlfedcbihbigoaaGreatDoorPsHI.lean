/- Contracts: primary of expr's parser. Contracts: call of expr's parser. -/
import Derived.Test.YtlfedcbihbigoaaGreatDoorPsEG
set_option linter.unusedVariables false
set_option linter.unusedSimpArgs false
namespace Go.Proofs.YtlfedcbihbigoaaGreatDoor
open Go.RowKit
def CallC (F P : Nat) (A : Option Addr) (ts : List Tok) (c : Nat) : Prop := ∀ (W : World) (x : Bytes) (i d : Nat), PSt XT W P A ts c (i + 2) d 0 → i + 2 < ts.length → d ≤ i → x.length ≤ 64 → (ts.length - (i + 2)) * 10 + 9 ≤ F →
  Calls Tryz.prog 169 #[.pointer (some ⟨P, 0, none⟩), str x] W (PPost XT W P A ts c i d (callP (fun l i d => prs ts F l i d) ts x (i + 2) (d + 1)))
set_option maxRecDepth 100000 in
set_option maxHeartbeats 4000000 in
theorem p_primary (F P : Nat) (A : Option Addr) (ts : List Tok) (c : Nat) (hv : valT ts = true) (hlen : ts.length ≤ 1000000) (hO : LvC 29 F 0 P A ts c) (hCl : CallC F P A ts c) : LvC 153 (F + 1) 8 P A ts c := by
  intro W i d hS hi hd h8 hF
  have hbeg := h8 rfl
  have hi1 := tk_next hv hi (beg_kind hbeg)
  have hnm := fun k2 k3 k4 k5 => beg_name hbeg k2 k3 k4 k5
  have hsh := tk_short hv hi
  clear h8 hbeg
  rw [prs_8]
  have hP := hS.lt
  obtain ⟨c0, c1, c2, c3⟩ := hS.cells
  have hfr := hS.free
  obtain ⟨g, off, rfl, hgP, t0, t1, t2, t3⟩ := hS.tok.at_ hi
  have hg : g < W.heap.size := Nat.lt_trans hgP hP
  have HS := hide hS
  have HO := hide hO
  have HCl := hide hCl
  clear hS hO hCl
  generalize tk ts i = t at *
  obtain ⟨tk0, tk1, tk2, tk3⟩ := t
  simp only at t0 t1 t2 t3 hnm hsh ⊢
  by_cases k2 : tk0 = 2
  · rw [if_pos k2]
    subst k2
    clear hnm
    go_enter Tryz.func153, Tryz.ntmps153
    go_wp2
    go_region
    go_wp2_with fail
    refine (p_constant ⟨2, tk2, []⟩ _).mono ?_
    rintro e3 w3 ⟨⟨B, n, rfl, ho⟩, hb3⟩
    have HS3 := hide (((HS.out.setAt (i + 1)).below (by (repeat (first | exact Below.refl _ _ | assumption | refine Below.drew ?_ | refine below_drewN ?_ _ | refine Below.alloc ?_ (by first | omega | simp <;> omega) _ | refine Below.setCell ?_ (by first | omega | simp <;> omega) _)))).below hb3)
    have HG3 := hide (gr_bel (gr_bel (gr_set (World.grownBy.refl W (some P)) 1 (.int .i64 ((i + 1 : Nat) : Int))) (by (repeat (first | exact Below.refl _ _ | assumption | refine Below.drew ?_ | refine below_drewN ?_ _ | refine Below.alloc ?_ (by first | omega | simp <;> omega) _ | refine Below.setCell ?_ (by first | omega | simp <;> omega) _)))) hb3)
    have HO3 := hide (own_low ho (b2 := W.heap.size) (by simp))
    clear ho c0 c1 c2 c3 t0 t1 t2 t3
    go_wp2
    go_ret
    exact ⟨HG3.out, ⟨B, n, rfl, HO3.out⟩, HS3.out⟩
  rw [if_neg k2]
  have b2 : (tk0 == 2) = false := beq_eq_false_iff_ne.2 k2
  by_cases k3 : tk0 = 3
  · rw [if_pos k3]
    subst k3
    clear hnm k2 b2
    go_enter Tryz.func153, Tryz.ntmps153
    go_wp2
    go_region
    go_wp2_with fail
    refine (p_constant ⟨3, 0, tk1⟩ _).mono ?_
    rintro e3 w3 ⟨⟨B, n, rfl, ho⟩, hb3⟩
    have HS3 := hide (((HS.out.setAt (i + 1)).below (by (repeat (first | exact Below.refl _ _ | assumption | refine Below.drew ?_ | refine below_drewN ?_ _ | refine Below.alloc ?_ (by first | omega | simp <;> omega) _ | refine Below.setCell ?_ (by first | omega | simp <;> omega) _)))).below hb3)
    have HG3 := hide (gr_bel (gr_bel (gr_set (World.grownBy.refl W (some P)) 1 (.int .i64 ((i + 1 : Nat) : Int))) (by (repeat (first | exact Below.refl _ _ | assumption | refine Below.drew ?_ | refine below_drewN ?_ _ | refine Below.alloc ?_ (by first | omega | simp <;> omega) _ | refine Below.setCell ?_ (by first | omega | simp <;> omega) _)))) hb3)
    have HO3 := hide (own_low ho (b2 := W.heap.size) (by simp))
    clear ho c0 c1 c2 c3 t0 t1 t2 t3
    go_wp2
    go_ret
    exact ⟨HG3.out, ⟨B, n, rfl, HO3.out⟩, HS3.out⟩
  rw [if_neg k3]
  have b3 : (tk0 == 3) = false := beq_eq_false_iff_ne.2 k3
  by_cases k4 : tk0 = 4
  · rw [if_pos k4]
    subst k4
    clear hnm k2 b2 k3 b3
    go_enter Tryz.func153, Tryz.ntmps153
    go_wp2
    go_region
    go_wp2_with fail
    refine (p_constant ⟨4, tk2, []⟩ _).mono ?_
    rintro e3 w3 ⟨⟨B, n, rfl, ho⟩, hb3⟩
    have HS3 := hide (((HS.out.setAt (i + 1)).below (by (repeat (first | exact Below.refl _ _ | assumption | refine Below.drew ?_ | refine below_drewN ?_ _ | refine Below.alloc ?_ (by first | omega | simp <;> omega) _ | refine Below.setCell ?_ (by first | omega | simp <;> omega) _)))).below hb3)
    have HG3 := hide (gr_bel (gr_bel (gr_set (World.grownBy.refl W (some P)) 1 (.int .i64 ((i + 1 : Nat) : Int))) (by (repeat (first | exact Below.refl _ _ | assumption | refine Below.drew ?_ | refine below_drewN ?_ _ | refine Below.alloc ?_ (by first | omega | simp <;> omega) _ | refine Below.setCell ?_ (by first | omega | simp <;> omega) _)))) hb3)
    have HO3 := hide (own_low ho (b2 := W.heap.size) (by simp))
    clear ho c0 c1 c2 c3 t0 t1 t2 t3
    go_wp2
    go_ret
    exact ⟨HG3.out, ⟨B, n, rfl, HO3.out⟩, HS3.out⟩
  rw [if_neg k4]
  have b4 : (tk0 == 4) = false := beq_eq_false_iff_ne.2 k4
  by_cases k5 : tk0 = 5
  · rw [if_pos k5]
    subst k5
    clear hnm k2 b2 k3 b3 k4 b4
    have hff := prs_fact hv F 0 (i + 1) (d + 1) hi1 (fun e => absurd e (by omega))
    have HCal := hide (show ∀ X : World, Below ((W.setCell ⟨P, 1, none⟩ (.int .i64 ((i + 1 : Nat) : Int))).setCell ⟨P, 2, none⟩ (.int .i64 ((d + 1 : Nat) : Int))).heap.size ((W.setCell ⟨P, 1, none⟩ (.int .i64 ((i + 1 : Nat) : Int))).setCell ⟨P, 2, none⟩ (.int .i64 ((d + 1 : Nat) : Int))) X → Calls Tryz.prog 29 _ X (fun e2 w2 => ∃ (B2 : Option Addr) (n2 : Nat) (fs : List Nd) (k d3 : Nat) (x2 : Int), e2 = .returned (.slice B2 fs.length n2) ∧ w2.ownsRow W.heap.size 53 6 (.slice B2 fs.length n2) fs.length (ndCells fs) ∧ PSt XT w2 P (some ⟨g, off, none⟩) ts c k (d3 + 1) x2 ∧ W.grownBy w2 (some P) ∧ i + 1 ≤ k ∧ k < ts.length ∧ fs.length ≤ k - (i + 1) ∧
        ((x2 = 0 ∧ d3 = d ∧ i + 1 < k ∧ prs ts F 0 (i + 1) (d + 1) = .ok fs k) ∨ (x2 ≠ 0 ∧ prs ts F 0 (i + 1) (d + 1) = .err x2 k ∧ d ≤ d3 ∧ d3 ≤ k))) from fun X hb =>
      (HO.out X (i + 1) (d + 1) (((HS.out.setAt (i + 1)).setDepth (d + 1)).below hb) hi1 (by omega) (fun e => absurd e (by omega)) (by omega)).mono fun e2 w2 h => by
        obtain ⟨B2, n2, fs, k, d2, x2, h1, h2, h3, h4, h5, h6, h7, h8⟩ := ppost_open hff h
        have hgg := gr_bel (gr_set (gr_set (World.grownBy.refl W (some P)) 1 (.int .i64 ((i + 1 : Nat) : Int))) 2 (.int .i64 ((d + 1 : Nat) : Int))) hb
        obtain ⟨d3, rfl⟩ : ∃ d3, d2 = d3 + 1 := ⟨d2 - 1, by rcases h8 with h8 | h8 <;> omega⟩
        exact ⟨B2, n2, fs, k, d3, x2, h1, own_low h2 hgg.size, h3, hgg.trans h4, h5, h6, h7, by rcases h8 with ⟨q1, q2, q3, q4⟩ | ⟨q1, q2, q3⟩; exact .inl ⟨q1, by omega, q3, q4⟩; exact .inr ⟨q1, q2, by omega, by omega⟩⟩)
    clear hff
    generalize prs ts F 0 (i + 1) (d + 1) = r at *
    go_enter Tryz.func153, Tryz.ntmps153
    go_wp2
    go_region
    go_wp2_with fail
    refine (HCal.out _ (by (repeat (first | exact Below.refl _ _ | assumption | refine Below.drew ?_ | refine below_drewN ?_ _ | refine Below.alloc ?_ (by first | omega | simp <;> omega) _ | refine Below.setCell ?_ (by first | omega | simp <;> omega) _)))).mono ?_
    rintro e2 w3 ⟨B2, n2, fs, k, d3, x2, rfl, ho2, hS3, hg3, hjk, hkl, hfl, hD2⟩
    have hd3 : d3 ≤ 1000000 := by rcases hD2 with ⟨_, q2, _⟩ | ⟨_, _, _, q2⟩ <;> omega
    clear c0 c1 c2 c3 hfr HCal t0 t1 t2 t3
    obtain ⟨c0, c1, c2, c3⟩ := hS3.cells
    have hP3 := hS3.lt
    have hfr := hS3.free
    have HS4 := hide (hS3.setDepth d3)
    have HG4 := hide (gr_set hg3 2 (.int .i64 (d3 : Int)))
    have HO4 := hide (own_fr ho2 (gr_set (World.grownBy.refl w3 (some P)) 2 (.int .i64 (d3 : Int))) hP)
    have hDD := hide hD2
    clear hS3 hg3 ho2 hD2
    generalize hX4 : w3.setCell ⟨P, 2, none⟩ (.int .i64 (d3 : Int)) = X4 at *
    have HX4 := hide hX4
    clear hX4
    by_cases hx : x2 = 0
    · rcases hDD.out with ⟨_, hdd, hik, hr⟩ | ⟨h, _⟩
      rotate_left
      · exact absurd hx h
      subst hx hdd
      by_cases hs : isSym (tk ts k) [41] = true
      · have hE : (r.bind fun es j => if isSym (tk ts j) [41] = true then PR.ok es (j + 1) else PR.err 3 j) = .ok fs (k + 1) := by rw [hr]; simp only [PR.bind]; rw [if_pos hs]
        have HE := hide hE
        have HSk := hide (p_skip_yes X4 P (some ⟨g, off, none⟩) ts c k d3 HS4.out hkl hlen 5 [41] hs)
        clear hE hr hs hDD
        go_wp2_with fail
        rw [HX4.out]
        refine HSk.out.mono ?_
        rintro e5 w5 ⟨rfl, hS5, hg5⟩
        have HS5 := hide hS5
        have HG5 := hide (HG4.out.trans hg5)
        have HO5 := hide (own_fr HO4.out hg5 hP)
        clear hS5 hg5
        go_wp2
        go_ret
        rw [HE.out]
        exact ⟨HG5.out, ⟨B2, n2, rfl, HO5.out⟩, HS5.out⟩
      · have hE : (r.bind fun es j => if isSym (tk ts j) [41] = true then PR.ok es (j + 1) else PR.err 3 j) = .err 3 k := by rw [hr]; simp only [PR.bind]; rw [if_neg hs]
        have HE := hide hE
        have hsb : ((0 : Int) == 0 && ((tk ts k).kind == 5 && (tk ts k).text == [41])) = false := by
          have : isSym (tk ts k) [41] = false := by simpa using hs
          exact this
        have HSk := hide (p_skip_no X4 P (some ⟨g, off, none⟩) ts c k d3 0 HS4.out hkl hlen 5 [41] hsb)
        have HFl := hide (fun W' (hb : Below X4.heap.size X4 W') => p_fail W' P (some ⟨g, off, none⟩) ts c k d3 (HS4.out.below hb) 3)
        clear hE hr hs hsb hDD
        go_wp2_with fail
        rw [HX4.out]
        refine HSk.out.mono ?_
        rintro e5 w5 ⟨rfl, hb5⟩
        go_wp2_with fail
        refine (HFl.out w5 hb5).mono ?_
        rintro e6 w6 ⟨rfl, hS6, hg6⟩
        have HS6 := hide hS6
        have HG6 := hide ((gr_bel HG4.out hb5).trans hg6)
        clear hS6 hg6
        go_wp2
        go_ret
        rw [HE.out]
        exact ⟨HG6.out, [], d3, ⟨none, 0, rfl, own_nil _ _ _ _⟩, by omega, by simp, ⟨Nat.le_refl _, by omega⟩, HS6.out⟩
    · rcases hDD.out with ⟨h, _⟩ | ⟨_, hr, hd4, hd5⟩
      · exact absurd h hx
      have hE : (r.bind fun es j => if isSym (tk ts j) [41] = true then PR.ok es (j + 1) else PR.err 3 j) = .err x2 k := by rw [hr]; rfl
      have HE := hide hE
      have hsb : (x2 == 0 && ((tk ts k).kind == 5 && (tk ts k).text == [41])) = false := by rw [beq_eq_false_iff_ne.2 hx]; rfl
      have HSk := hide (p_skip_no X4 P (some ⟨g, off, none⟩) ts c k d3 x2 HS4.out hkl hlen 5 [41] hsb)
      have HFl := hide (fun W' (hb : Below X4.heap.size X4 W') => p_fail_no W' P (some ⟨g, off, none⟩) ts c k d3 x2 (HS4.out.below hb) hx 3)
      clear hE hr hsb hDD
      go_wp2_with fail
      rw [HX4.out]
      refine HSk.out.mono ?_
      rintro e5 w5 ⟨rfl, hb5⟩
      go_wp2_with fail
      refine (HFl.out w5 hb5).mono ?_
      rintro e6 w6 ⟨rfl, hb6⟩
      have HS6 := hide ((HS4.out.below hb5).below hb6)
      have HG6 := hide (gr_bel (gr_bel HG4.out hb5) hb6)
      go_wp2
      go_ret
      rw [HE.out]
      exact ⟨HG6.out, [], d3, ⟨none, 0, rfl, own_nil _ _ _ _⟩, by omega, by simp, ⟨hd4, hd5⟩, HS6.out⟩
  rw [if_neg k5]
  have b5 : (tk0 == 5) = false := beq_eq_false_iff_ne.2 k5
  have hk1 := hnm k2 k3 k4 k5
  subst hk1
  clear hnm k2 b2 k3 b3 k4 b4 k5 b5
  by_cases qNull : tk1 = wNull
  · rw [if_pos qNull]
    subst qNull
    unfold wNull at *
    go_enter Tryz.func153, Tryz.ntmps153
    go_wp2
    go_region
    go_wp2_with fail
    refine (p_constant ⟨0, 0, []⟩ _).mono ?_
    rintro e3 w3 ⟨⟨B, n, rfl, ho⟩, hb3⟩
    have HS3 := hide (((HS.out.setAt (i + 1)).below (by (repeat (first | exact Below.refl _ _ | assumption | refine Below.drew ?_ | refine below_drewN ?_ _ | refine Below.alloc ?_ (by first | omega | simp <;> omega) _ | refine Below.setCell ?_ (by first | omega | simp <;> omega) _)))).below hb3)
    have HG3 := hide (gr_bel (gr_bel (gr_set (World.grownBy.refl W (some P)) 1 (.int .i64 ((i + 1 : Nat) : Int))) (by (repeat (first | exact Below.refl _ _ | assumption | refine Below.drew ?_ | refine below_drewN ?_ _ | refine Below.alloc ?_ (by first | omega | simp <;> omega) _ | refine Below.setCell ?_ (by first | omega | simp <;> omega) _)))) hb3)
    have HO3 := hide (own_low ho (b2 := W.heap.size) (by simp))
    clear ho c0 c1 c2 c3 t0 t1 t2 t3
    go_wp2
    go_ret
    exact ⟨HG3.out, ⟨B, n, rfl, HO3.out⟩, HS3.out⟩
  rw [if_neg qNull]
  have rNull : (tk1 == wNull) = false := beq_eq_false_iff_ne.2 qNull
  unfold wNull at rNull
  clear qNull
  by_cases qTrue : tk1 = wTrue
  · rw [if_pos qTrue]
    subst qTrue
    unfold wTrue at *
    go_enter Tryz.func153, Tryz.ntmps153
    go_wp2
    go_region
    go_wp2_with fail
    refine (p_constant ⟨1, 1, []⟩ _).mono ?_
    rintro e3 w3 ⟨⟨B, n, rfl, ho⟩, hb3⟩
    have HS3 := hide (((HS.out.setAt (i + 1)).below (by (repeat (first | exact Below.refl _ _ | assumption | refine Below.drew ?_ | refine below_drewN ?_ _ | refine Below.alloc ?_ (by first | omega | simp <;> omega) _ | refine Below.setCell ?_ (by first | omega | simp <;> omega) _)))).below hb3)
    have HG3 := hide (gr_bel (gr_bel (gr_set (World.grownBy.refl W (some P)) 1 (.int .i64 ((i + 1 : Nat) : Int))) (by (repeat (first | exact Below.refl _ _ | assumption | refine Below.drew ?_ | refine below_drewN ?_ _ | refine Below.alloc ?_ (by first | omega | simp <;> omega) _ | refine Below.setCell ?_ (by first | omega | simp <;> omega) _)))) hb3)
    have HO3 := hide (own_low ho (b2 := W.heap.size) (by simp))
    clear ho c0 c1 c2 c3 t0 t1 t2 t3
    go_wp2
    go_ret
    exact ⟨HG3.out, ⟨B, n, rfl, HO3.out⟩, HS3.out⟩
  rw [if_neg qTrue]
  have rTrue : (tk1 == wTrue) = false := beq_eq_false_iff_ne.2 qTrue
  unfold wTrue at rTrue
  clear qTrue
  by_cases qFalse : tk1 = wFalse
  · rw [if_pos qFalse]
    subst qFalse
    unfold wFalse at *
    go_enter Tryz.func153, Tryz.ntmps153
    go_wp2
    go_region
    go_wp2_with fail
    refine (p_constant ⟨1, 0, []⟩ _).mono ?_
    rintro e3 w3 ⟨⟨B, n, rfl, ho⟩, hb3⟩
    have HS3 := hide (((HS.out.setAt (i + 1)).below (by (repeat (first | exact Below.refl _ _ | assumption | refine Below.drew ?_ | refine below_drewN ?_ _ | refine Below.alloc ?_ (by first | omega | simp <;> omega) _ | refine Below.setCell ?_ (by first | omega | simp <;> omega) _)))).below hb3)
    have HG3 := hide (gr_bel (gr_bel (gr_set (World.grownBy.refl W (some P)) 1 (.int .i64 ((i + 1 : Nat) : Int))) (by (repeat (first | exact Below.refl _ _ | assumption | refine Below.drew ?_ | refine below_drewN ?_ _ | refine Below.alloc ?_ (by first | omega | simp <;> omega) _ | refine Below.setCell ?_ (by first | omega | simp <;> omega) _)))) hb3)
    have HO3 := hide (own_low ho (b2 := W.heap.size) (by simp))
    clear ho c0 c1 c2 c3 t0 t1 t2 t3
    go_wp2
    go_ret
    exact ⟨HG3.out, ⟨B, n, rfl, HO3.out⟩, HS3.out⟩
  rw [if_neg qFalse]
  have rFalse : (tk1 == wFalse) = false := beq_eq_false_iff_ne.2 qFalse
  unfold wFalse at rFalse
  clear qFalse
  by_cases hp : isSym (tk ts (i + 1)) [40] = true
  · rw [if_pos hp]
    have hi2 := sym_next hv hi1 hp
    have HSk := hide (fun (X : World) (hb : Below (W.setCell ⟨P, 1, none⟩ (.int .i64 ((i + 1 : Nat) : Int))).heap.size (W.setCell ⟨P, 1, none⟩ (.int .i64 ((i + 1 : Nat) : Int))) X) => p_skip_yes X P (some ⟨g, off, none⟩) ts c (i + 1) d ((HS.out.setAt (i + 1)).below hb) hi1 hlen 5 [40] hp)
    have HGX := hide (fun (X : World) (hb : Below (W.setCell ⟨P, 1, none⟩ (.int .i64 ((i + 1 : Nat) : Int))).heap.size (W.setCell ⟨P, 1, none⟩ (.int .i64 ((i + 1 : Nat) : Int))) X) => gr_bel (gr_set (World.grownBy.refl W (some P)) 1 (.int .i64 ((i + 1 : Nat) : Int))) hb)
    clear hp
    go_enter Tryz.func153, Tryz.ntmps153
    go_wp2
    go_region
    go_wp2_with fail
    refine (HSk.out _ (by (repeat (first | exact Below.refl _ _ | assumption | refine Below.drew ?_ | refine below_drewN ?_ _ | refine Below.alloc ?_ (by first | omega | simp <;> omega) _ | refine Below.setCell ?_ (by first | omega | simp <;> omega) _)))).mono ?_
    rintro e5 w5 ⟨rfl, hS5, hg5⟩
    have hc5 : w5.cell? ⟨W.heap.size, 1, none⟩ = some (str tk1) := hg5.cell (by go_simp) (by intro e; injection e with e; simp at e; omega)
    have HS5 := hide hS5
    have HG5 := hide ((HGX.out _ (by (repeat (first | exact Below.refl _ _ | assumption | refine Below.drew ?_ | refine below_drewN ?_ _ | refine Below.alloc ?_ (by first | omega | simp <;> omega) _ | refine Below.setCell ?_ (by first | omega | simp <;> omega) _)))).trans hg5)
    have hz5 := hg5.size
    clear hS5 hg5 c0 c1 c2 c3 hfr t0 t1 t2 t3 HSk HGX
    go_wp2_with fail
    refine (HCl.out w5 tk1 i d HS5.out hi2 hd hsh (by omega)).mono ?_
    intro e6 w6 h6
    obtain ⟨v, rfl⟩ := h6.ret
    have HR := hide (h6.up HG5.out)
    clear h6
    go_wp2
    go_ret
    exact HR.out
  · rw [if_neg hp]
    have hpb : ((0 : Int) == 0 && ((tk ts (i + 1)).kind == 5 && (tk ts (i + 1)).text == [40])) = false := by
      have : isSym (tk ts (i + 1)) [40] = false := by simpa using hp
      exact this
    have HSk := hide (fun (X : World) (hb : Below (W.setCell ⟨P, 1, none⟩ (.int .i64 ((i + 1 : Nat) : Int))).heap.size (W.setCell ⟨P, 1, none⟩ (.int .i64 ((i + 1 : Nat) : Int))) X) => p_skip_no X P (some ⟨g, off, none⟩) ts c (i + 1) d 0 ((HS.out.setAt (i + 1)).below hb) hi1 hlen 5 [40] hpb)
    have HGX := hide (fun (X : World) (hb : Below (W.setCell ⟨P, 1, none⟩ (.int .i64 ((i + 1 : Nat) : Int))).heap.size (W.setCell ⟨P, 1, none⟩ (.int .i64 ((i + 1 : Nat) : Int))) X) => And.intro (gr_bel (gr_set (World.grownBy.refl W (some P)) 1 (.int .i64 ((i + 1 : Nat) : Int))) hb) ((HS.out.setAt (i + 1)).below hb))
    clear hp hpb
    go_enter Tryz.func153, Tryz.ntmps153
    go_wp2
    go_region
    go_wp2_with fail
    refine (HSk.out _ (by (repeat (first | exact Below.refl _ _ | assumption | refine Below.drew ?_ | refine below_drewN ?_ _ | refine Below.alloc ?_ (by first | omega | simp <;> omega) _ | refine Below.setCell ?_ (by first | omega | simp <;> omega) _)))).mono ?_
    rintro e5 w5 ⟨rfl, hb5⟩
    have hc5 : w5.cell? ⟨W.heap.size, 1, none⟩ = some (str tk1) := (hb5.cell (p := ⟨W.heap.size, 1, none⟩) (by simp)).trans (by go_simp)

    have HS5 := hide (PSt.below (HGX.out _ (by (repeat (first | exact Below.refl _ _ | assumption | refine Below.drew ?_ | refine below_drewN ?_ _ | refine Below.alloc ?_ (by first | omega | simp <;> omega) _ | refine Below.setCell ?_ (by first | omega | simp <;> omega) _)))).2 hb5)
    have HG5 := hide (gr_bel (HGX.out _ (by (repeat (first | exact Below.refl _ _ | assumption | refine Below.drew ?_ | refine below_drewN ?_ _ | refine Below.alloc ?_ (by first | omega | simp <;> omega) _ | refine Below.setCell ?_ (by first | omega | simp <;> omega) _)))).1 hb5)
    have hz5 := hb5.size
    simp at hz5
    have HO5 := hide (own_fresh w5 (base := W.heap.size) (e := 53) (size := 6) (n := 1) (cur := #[.int .i64 1, .int .i64 0, .int .i64 0, str [], str tk1, .int .i64 0]) (by omega) (by simp) (by decide))
    clear hb5 c0 c1 c2 c3 hfr t0 t1 t2 t3 HSk HGX
    go_wp2
    go_ret
    exact ⟨gr_bel HG5.out (by (repeat (first | exact Below.refl _ _ | assumption | refine Below.drew ?_ | refine below_drewN ?_ _ | refine Below.alloc ?_ (by first | omega | simp <;> omega) _ | refine Below.setCell ?_ (by first | omega | simp <;> omega) _))), ⟨_, 1, by first | rfl | (simp; done), HO5.out⟩, HS5.out.below (by (repeat (first | exact Below.refl _ _ | assumption | refine Below.drew ?_ | refine below_drewN ?_ _ | refine Below.alloc ?_ (by first | omega | simp <;> omega) _ | refine Below.setCell ?_ (by first | omega | simp <;> omega) _)))⟩
end Go.Proofs.YtlfedcbihbigoaaGreatDoor

namespace Go.Proofs.YtlfedcbihbigoaaGreatDoor
open Go.RowKit Go.WideMaps Go.Maps
def biOp (x : Bytes) : Int := if x = wDay then 20 else match builtS x with
  | some (o, _) => o
  | none => 0
theorem bi_op (x : Bytes) : biD.atKey (.string x) (.lit (.int .i64 0)) = .lit (.int .i64 (biOp x)) := by
  rw [biD_is]
  by_cases h1 : x = wDay
  · subst h1; rfl
  by_cases h2 : x = [105, 102]
  · subst h2; rfl
  by_cases h3 : x = [99, 111, 97, 108, 101, 115, 99, 101]
  · subst h3; rfl
  by_cases h4 : x = [105, 115, 110, 117, 108, 108]
  · subst h4; rfl
  by_cases h5 : x = [108, 101, 110, 103, 116, 104]
  · subst h5; rfl
  have e1 : (([100, 97, 121] : Bytes) == x) = false := beq_eq_false_iff_ne.2 (fun e => h1 e.symm)
  have e2 : (([105, 102] : Bytes) == x) = false := beq_eq_false_iff_ne.2 (fun e => h2 e.symm)
  have e3 : (([99, 111, 97, 108, 101, 115, 99, 101] : Bytes) == x) = false := beq_eq_false_iff_ne.2 (fun e => h3 e.symm)
  have e4 : (([105, 115, 110, 117, 108, 108] : Bytes) == x) = false := beq_eq_false_iff_ne.2 (fun e => h4 e.symm)
  have e5 : (([108, 101, 110, 103, 116, 104] : Bytes) == x) = false := beq_eq_false_iff_ne.2 (fun e => h5 e.symm)
  simp [DataW.atKey, same_key, e1, e2, e3, e4, e5, biOp, builtS, h1, h2, h3, h4, h5]
theorem biB_built (x : Bytes) (h : x ≠ wDay) : biB x = (builtS x).isSome := by
  have h1 : (x == wDay) = false := beq_eq_false_iff_ne.2 h
  unfold biB hasB builtinS builtS
  rw [Bool.eq_iff_iff]
  unfold wDay at h
  simp
  grind
set_option maxRecDepth 100000 in
theorem bi_run {w : World} {B : Nat} (h : w.ownsMap Tryz.prog 9 (plainElem Tryz.prog 3) B 5 biD) (x : Bytes) (hs : x.length ≤ maxLen) :
    (Instr.lookup 109 (.map (some B)) (str x) true).run Tryz.prog w = .ok (.tuple #[.int .i64 (biOp x), .bool (biB x)]) w := by
  obtain ⟨c, hrun, hc⟩ := bi_look h ⟨x.toArray⟩ (by show x.toArray.size ≤ _; simpa using hs)
  have e : bs ⟨x.toArray⟩ = x := rfl
  rw [e] at hrun hc
  rw [bi_op] at hc
  have hc3 : biOp x = c := by injection hc with hc; injection hc
  subst hc3
  exact hrun
theorem six_set {w : World} {N : Nat} {a0 a1 a2 a3 a4 a5 : Value} {T : TypeId} (h : w.heap[N]? = some (.cells #[a0, a1, a2, a3, a4, a5] T (0, 0))) (b0 b1 b2 b3 b4 b5 : Value) :
    ((((((w.setCell ⟨N, 0, none⟩ b0).setCell ⟨N, 1, none⟩ b1).setCell ⟨N, 2, none⟩ b2).setCell ⟨N, 3, none⟩ b3).setCell ⟨N, 4, none⟩ b4).setCell ⟨N, 5, none⟩ b5).heap[N]? = some (.cells #[b0, b1, b2, b3, b4, b5] T (0, 0)) := by
  have h0 := heap_setCell_same w N 0 _ _ b0 h
  have h1 := heap_setCell_same _ N 1 _ _ b1 h0
  have h2 := heap_setCell_same _ N 2 _ _ b2 h1
  have h3 := heap_setCell_same _ N 3 _ _ b3 h2
  have h4 := heap_setCell_same _ N 4 _ _ b4 h3
  have h5 := heap_setCell_same _ N 5 _ _ b5 h4
  simpa using h5
theorem hn_at {W : World} {o : Obj} {B : Nat} (h : W.heap.size = B) : (W.alloc o).heap[B]? = some o := by subst h; exact heap_alloc_new W o
theorem six_grown (w : World) (N : Nat) (b0 b1 b2 b3 b4 b5 : Value) :
    w.grownBy ((((((w.setCell ⟨N, 0, none⟩ b0).setCell ⟨N, 1, none⟩ b1).setCell ⟨N, 2, none⟩ b2).setCell ⟨N, 3, none⟩ b3).setCell ⟨N, 4, none⟩ b4).setCell ⟨N, 5, none⟩ b5) (some N) :=
  gr_set (gr_set (gr_set (gr_set (gr_set (gr_set (World.grownBy.refl w (some N)) 0 b0) 1 b1) 2 b2) 3 b3) 4 b4) 5 b5
theorem cells6 {W : World} {B : Nat} {a b c d e f : Value} {t : TypeId} (h : W.heap[B]? = some (.cells #[a, b, c, d, e, f] t (0, 0))) :
    W.cell? ⟨B, 0, none⟩ = some a ∧ W.cell? ⟨B, 1, none⟩ = some b ∧ W.cell? ⟨B, 2, none⟩ = some c ∧ W.cell? ⟨B, 3, none⟩ = some d ∧ W.cell? ⟨B, 4, none⟩ = some e ∧ W.cell? ⟨B, 5, none⟩ = some f := by
  simp [World.cell?, h]
theorem free6 {W : World} {B : Nat} {cs : Array Value} {t : TypeId} (h : W.heap[B]? = some (.cells cs t (0, 0))) (o : Nat) : W.frozen? ⟨B, o, none⟩ = false := by
  simp [World.frozen?, h]
def atOf (P : Nat) (w : World) : Nat := match w.cell? ⟨P, 1, none⟩ with
  | some (.int _ a) => a.toNat
  | _ => 0
theorem atOf_eq {T : TypeId} {w : World} {P : Nat} {A : Option Addr} {ts : List Tok} {c i d : Nat} {e : Int} (h : PSt T w P A ts c i d e) : atOf P w = i := by
  obtain ⟨c0, c1, c2, c3⟩ := h.cells
  unfold atOf
  rw [c1]
  simp
def moreN (v : Value) : Nat := match v with
  | .bool true => 1
  | _ => 0
set_option maxRecDepth 100000 in
set_option maxHeartbeats 4000000 in
theorem p_call_b (F P : Nat) (A : Option Addr) (ts : List Tok) (c : Nat) (hv : valT ts = true) (hlen : ts.length ≤ 1000000) (hO : LvC 29 F 0 P A ts c) (W : World) (x : Bytes) (o : Int) (a : Nat) (hbs : builtS x = some (o, a)) (i d : Nat) (hS : PSt XT W P A ts c (i + 2) d 0) (hi : i + 2 < ts.length) (hd : d ≤ i) (hx : x.length ≤ 64) (hF : (ts.length - (i + 2)) * 10 + 9 ≤ F) (hday : x ≠ wDay) :
    Calls Tryz.prog 169 #[.pointer (some ⟨P, 0, none⟩), str x] W (PPost XT W P A ts c i d (callP (fun l i d => prs ts F l i d) ts x (i + 2) (d + 1))) := by
  have hP := hS.lt
  have hR : callP (fun l i d => prs ts F l i d) ts x (i + 2) (d + 1) = (if isSym (tk ts (i + 2)) [41] = true then endS x [] 0 (i + 2) else argsG (fun j => prs ts F 0 j (d + 1)) x ts ts.length [] 0 (i + 2)) := by unfold callP; rw [if_neg hday]
  rw [hR]
  clear hR
  have hBi : biB x = true := by rw [biB_built x hday, hbs]; rfl
  have hOp : biOp x = o := by unfold biOp; rw [if_neg hday, hbs]
  have ho : (o == 20) = false ∧ 0 ≤ o ∧ arityN o 0 = (a : Int) ∧ a ≤ 3 := by
    unfold builtS at hbs
    split at hbs
    · injection hbs with hbs; injection hbs with h1 h2; subst h1 h2; exact ⟨by decide, by decide, by decide, by decide⟩
    split at hbs
    · injection hbs with hbs; injection hbs with h1 h2; subst h1 h2; exact ⟨by decide, by decide, by decide, by decide⟩
    split at hbs
    · injection hbs with hbs; injection hbs with h1 h2; subst h1 h2; exact ⟨by decide, by decide, by decide, by decide⟩
    split at hbs
    · injection hbs with hbs; injection hbs with h1 h2; subst h1 h2; exact ⟨by decide, by decide, by decide, by decide⟩
    · cases hbs
  obtain ⟨ho20, _, har, ha3⟩ := ho
  have HAr := hide har
  clear har
  have hfact := fun j (hj : j < ts.length) => prs_fact hv F 0 j (d + 1) hj (fun e => absurd e (by omega))
  have HFa := hide hfact
  have hne : (if isSym (tk ts (i + 2)) [41] = true then endS x [] 0 (i + 2) else argsG (fun j => prs ts F 0 j (d + 1)) x ts ts.length [] 0 (i + 2)) ≠ .out := by
    split
    · exact endS_ne
    · exact argsG_ne hv hfact _ _ _ _ hi (by omega) (fun j hj hjl => prs_ne hv F 0 j (d + 1) hjl (by omega) (fun e => absurd e (by omega)) (by omega))
  have HS := hide hS
  have HO := hide hO
  have HBs := hide hbs
  clear hS hO hfact hbs
  have HOr := hide (show ∀ (X : World) (j : Nat), PSt XT X P A ts c j (d + 1) 0 → j < ts.length → i + 2 ≤ j → Calls Tryz.prog 29 #[.pointer (some ⟨P, 0, none⟩)] X (fun e2 w2 => ∃ (B2 : Option Addr) (n2 : Nat) (fs : List Nd) (k d2 : Nat) (x2 : Int), e2 = .returned (.slice B2 fs.length n2) ∧ w2.ownsRow X.heap.size 53 6 (.slice B2 fs.length n2) fs.length (ndCells fs) ∧ PSt XT w2 P A ts c k d2 x2 ∧ X.grownBy w2 (some P) ∧ j ≤ k ∧ k < ts.length ∧ fs.length ≤ k - j ∧
      ((x2 = 0 ∧ d2 = d + 1 ∧ j < k ∧ prs ts F 0 j (d + 1) = .ok fs k) ∨ (x2 ≠ 0 ∧ prs ts F 0 j (d + 1) = .err x2 k ∧ d + 1 ≤ d2 ∧ d2 ≤ k))) from fun X j hx hj hij =>
    (HO.out X j (d + 1) hx hj (by omega) (fun e => absurd e (by omega)) (by omega)).mono fun e2 w2 h => ppost_open (HFa.out j hj) h)
  generalize hq : (fun j => prs ts F 0 j (d + 1)) = q at *
  have HQ := hide (fun j => congrFun hq j)
  clear hq HO
  generalize hRR : (if isSym (tk ts (i + 2)) [41] = true then endS x [] 0 (i + 2) else argsG q x ts ts.length [] 0 (i + 2)) = R at *
  have HR := hide hRR
  clear hRR
  have HYB := hide (show ∀ w1 : World, Below (W.alloc (.cells #[.int .i64 21, .int .i64 0, .int .i64 0, str [], str x, .int .i64 0] 53)).heap.size (W.alloc (.cells #[.int .i64 21, .int .i64 0, .int .i64 0, str [], str x, .int .i64 0] 53)) w1 → w1.heap[W.heap.size]? = some (.cells #[.int .i64 21, .int .i64 0, .int .i64 0, str [], str x, .int .i64 0] 53 (0, 0)) from fun w1 hb => (hb.block W.heap.size (by simp)).trans (heap_alloc_new _ _))
  have HPY := hide (show ∀ w1 : World, Below (W.alloc (.cells #[.int .i64 21, .int .i64 0, .int .i64 0, str [], str x, .int .i64 0] 53)).heap.size (W.alloc (.cells #[.int .i64 21, .int .i64 0, .int .i64 0, str [], str x, .int .i64 0] 53)) w1 →
      PSt XT (((((((w1.setCell ⟨W.heap.size, 0, none⟩ (.int .i64 o)).setCell ⟨W.heap.size, 1, none⟩ (.int .i64 0)).setCell ⟨W.heap.size, 2, none⟩ (.int .i64 0)).setCell ⟨W.heap.size, 3, none⟩ (str [])).setCell ⟨W.heap.size, 4, none⟩ (str [])).setCell ⟨W.heap.size, 5, none⟩ (.int .i64 0)).setCell ⟨P, 2, none⟩ (.int .i64 ((d + 1 : Nat) : Int))) P A ts c (i + 2) (d + 1) 0 ∧ W.grownBy (((((((w1.setCell ⟨W.heap.size, 0, none⟩ (.int .i64 o)).setCell ⟨W.heap.size, 1, none⟩ (.int .i64 0)).setCell ⟨W.heap.size, 2, none⟩ (.int .i64 0)).setCell ⟨W.heap.size, 3, none⟩ (str [])).setCell ⟨W.heap.size, 4, none⟩ (str [])).setCell ⟨W.heap.size, 5, none⟩ (.int .i64 0)).setCell ⟨P, 2, none⟩ (.int .i64 ((d + 1 : Nat) : Int))) (some P) ∧ (((((((w1.setCell ⟨W.heap.size, 0, none⟩ (.int .i64 o)).setCell ⟨W.heap.size, 1, none⟩ (.int .i64 0)).setCell ⟨W.heap.size, 2, none⟩ (.int .i64 0)).setCell ⟨W.heap.size, 3, none⟩ (str [])).setCell ⟨W.heap.size, 4, none⟩ (str [])).setCell ⟨W.heap.size, 5, none⟩ (.int .i64 0)).setCell ⟨P, 2, none⟩ (.int .i64 ((d + 1 : Nat) : Int))).heap[W.heap.size]? = some (.cells (opNd o).cells.toArray 53 (0, 0)) from fun w1 hb => by
    have h1 := (HS.out.below (Below.alloc (Below.refl _ W) (Nat.le_refl _) _)).below hb
    have h2 := gr_bel (gr_bel (World.grownBy.refl W (some P)) (Below.alloc (Below.refl _ W) (Nat.le_refl _) _)) hb
    have h3 := HYB.out w1 hb
    have h4 := six_grown w1 W.heap.size (.int .i64 o) (.int .i64 0) (.int .i64 0) (str []) (str []) (.int .i64 0)
    refine ⟨(h1.gr h4 (fun j hj => by injection hj with hj; omega)).setDepth (d + 1), gr_set (h2.andThen h4 (fun j hj => .inl (by injection hj with hj; omega))) 2 _, ?_⟩
    rw [Below.heap_setCell _ _ _ _ (by simp; omega)]
    exact six_set h3 _ _ _ _ _ _)
  obtain ⟨i0, hi0, hz0, hz1, hz2⟩ := info_parts Tryz.info_nd
  go_enter Tryz.func169, Tryz.ntmps169
  go_wp2_with (go_at_call 68; refine (builtin_any _).mono ?_; rintro e w1 ⟨⟨B, rfl, hown, hB1, hB2⟩, hb1⟩; have hrun := bi_run hown x (by unfold maxLen; omega); obtain ⟨n0, n1, n2, n3, n4, n5⟩ := cells6 (HYB.out w1 hb1); have hfn := free6 (HYB.out w1 hb1); have hs1 := (HS.out.below (Below.alloc (Below.refl _ W) (Nat.le_refl _) _)).below hb1; obtain ⟨c0, c1, c2, c3⟩ := hs1.cells; have hfp := hs1.free; have hPW := HPY.out w1 hb1; have HPW := hide hPW; clear hPW hs1 hown)
  refine (p_is _ P A ts c (i + 2) (d + 1) 0 HPW.out.1 hi hlen 5 [41]).mono ?_
  obtain ⟨b0, hb0, HD0⟩ : ∃ b0 : Bool, ((0 : Int) == 0 && ((tk ts (i + 2)).kind == 5 && (tk ts (i + 2)).text == [41])) = b0 ∧ Hid ((b0 = false ∧ ∃ G, argsG q x ts G [] 0 (i + 2) = R) ∨ (b0 = true ∧ R = (if isSym (tk ts (i + 2)) [41] = true then endS x [] 0 (i + 2) else .err 3 (i + 2)))) := by
    have hr := HR.out
    by_cases hs : isSym (tk ts (i + 2)) [41] = true
    · rw [if_pos hs] at hr
      exact ⟨true, hs, hide (.inr ⟨rfl, by rw [if_pos hs]; exact hr.symm⟩)⟩
    · rw [if_neg hs] at hr
      have hs2 : isSym (tk ts (i + 2)) [41] = false := by simpa using hs
      exact ⟨false, hs2, hide (.inl ⟨rfl, _, hr⟩)⟩
  rw [hb0]
  clear hb0 HR
  rintro e w2 ⟨rfl, hb2⟩
  have HS2 := hide (HPW.out.1.below hb2)
  have HG2 := hide (gr_bel HPW.out.2.1 hb2)
  have hn2 := (hb2.block W.heap.size (Array.getElem?_eq_some_iff.1 HPW.out.2.2).1).trans HPW.out.2.2
  have hz2' : W.heap.size + 1 ≤ w2.heap.size := (Array.getElem?_eq_some_iff.1 hn2).1
  have HN2 := hide hn2
  clear hn2 hb2 HPW c0 c1 c2 c3 hfp n0 n1 n2 n3 n4 n5 hfn hrun hb1 hB1 hB2 HPY HYB
  go_wp2
  go_loopw [8, 9, 10] (fun s n m wr => ∃ (B : Option Addr) (nn : Nat) (es : List Nd) (k j d' : Nat) (e : Int) (b : Bool), s = .slice B es.length nn ∧ n = .int .i64 (k : Int) ∧ m = .bool b ∧ Hid (wr.ownsRow (W.heap.size + 1) 53 6 (.slice B es.length nn) es.length (ndCells es)) ∧ Hid (PSt XT wr P A ts c j d' e) ∧ Hid (W.grownBy wr (some P)) ∧ Hid (wr.heap[W.heap.size]? = some (.cells (opNd o).cells.toArray 53 (0, 0))) ∧ W.heap.size + 1 ≤ wr.heap.size ∧ i + 2 ≤ j ∧ j < ts.length ∧ es.length ≤ j - i ∧ k ≤ j + 1 ∧ Hid ((b = true ∧ e = 0 ∧ d' = d + 1 ∧ k ≤ j ∧ ∃ G, argsG q x ts G es k j = R) ∨ (b = false ∧ e = 0 ∧ d' = d + 1 ∧ R = (if isSym (tk ts j) [41] = true then endS x es k j else .err 3 j)) ∨ (b = false ∧ e ≠ 0 ∧ R = .err e j ∧ d + 1 ≤ d' ∧ d' ≤ j))) (fun _ _ m wr => 2 * (ts.length - atOf P wr) + moreN m)
  case atStart =>
    refine ⟨none, 0, [], 0, i + 2, d + 1, 0, !b0, rfl, rfl, rfl, hide (own_nil _ _ _ _), HS2, HG2, HN2, hz2', Nat.le_refl _, hi, by simp, by omega, hide ?_⟩
    rcases HD0.out with ⟨rfl, h⟩ | ⟨rfl, h⟩
    · exact .inl ⟨rfl, rfl, rfl, by omega, h⟩
    · exact .inr (.inl ⟨rfl, rfl, rfl, h⟩)
  case round =>
    clear HS2 HG2 HN2 hz2' HD0
    obtain ⟨B, nn, es, k, j, d', e, b, rfl, rfl, rfl, HOw, HSr, HGr, HNr, hzr, hij, hjl, hel, hkj, HD⟩ := hrel
    obtain ⟨c0, c1, c2, c3⟩ := HSr.out.cells
    have hPr := HSr.out.lt
    have hfr := HSr.out.free
    have hatr := atOf_eq HSr.out
    cases b with
    | true =>
      rcases HD.out with ⟨_, rfl, rfl, hkj2, G, hG⟩ | ⟨h, _⟩ | ⟨h, _⟩
      rotate_left
      · cases h
      · cases h
      have hG2 : (q j).bind (fun fs k2 => if isSym (tk ts k2) [44] = true then argsG q x ts (G - 1) (es ++ fs) (k + 1) (k2 + 1) else if isSym (tk ts k2) [41] = true then endS x (es ++ fs) (k + 1) k2 else .err 3 k2) = R := by
        cases G with
        | zero => exact absurd hG.symm hne
        | succ G => exact hG
      clear hG HD
      go_wp2_with fail
      refine (HOr.out wr j HSr.out hjl hij).mono ?_
      rw [HQ.out j]
      rintro e2 w2 ⟨B2, n2, fs, k2, d2, x2, rfl, ho2, hS2, hg2, hjk, hkl, hfl, hD2⟩
      have hoe := own_fr HOw.out hg2 (show P < W.heap.size + 1 by omega)
      have HN2 := hide ((hg2.block W.heap.size (by omega) (by intro e; injection e with e; omega)).trans HNr.out)
      have HS2 := hide hS2
      have HG2 := hide (HGr.out.trans hg2)
      have HD2 := hide hD2
      have hgw := hg2.size
      clear hS2 hg2 hD2 c0 c1 c2 c3 hfr hPr
      rcases own_addr ho2 with ⟨rfl, hf0, rfl⟩ | ⟨g2, rfl⟩
      · obtain rfl : fs = [] := List.eq_nil_of_length_eq_zero hf0
        clear ho2 hf0
        simp only [List.length_nil] at *
        go_wp2_with (at_builtin; refine wpList_append_own_none rfl _ _ _ rfl _ 53 i0 6 Tryz.underlying30 hi0 _ _ _ rfl hoe rfl ?_)
        obtain ⟨B3, hB3⟩ : ∃ B3, B3 = B := ⟨B, rfl⟩
        obtain ⟨n3, hn3⟩ : ∃ n3, n3 = nn := ⟨nn, rfl⟩
        obtain ⟨w3, hw3⟩ : ∃ w3, w3 = w2 := ⟨w2, rfl⟩
        rw [← hB3, ← hn3] at hoe
        rw [← hw3] at hoe HS2 HG2 HN2 hgw
        rw [← hB3, ← hn3, ← hw3]
        clear hB3 hn3 hw3
        have HO3 := hide (show w3.ownsRow (W.heap.size + 1) 53 6 (.slice B3 (es ++ []).length n3) (es ++ []).length (ndCells (es ++ [])) from by rw [List.append_nil]; exact hoe)
        have HS3 := HS2
        have HG3 := HG2
        have HN3 := HN2
        clear hoe HS2 HG2 HN2
        have hk3 : (es ++ []).length ≤ k2 - i := by simp only [List.length_append, List.length_nil]; omega
        by_cases hx2 : x2 = 0
        · rcases HD2.out with ⟨_, hdd, hjk2, hr⟩ | ⟨h, _⟩
          rotate_left
          · exact absurd hx2 h
          subst hx2 hdd
          rw [hr] at hG2
          simp only [PR.bind] at hG2
          by_cases hs4 : isSym (tk ts k2) [44] = true
          · rw [if_pos hs4] at hG2
            have hk1 := sym_next hv hkl hs4
            have HE := hide hG2
            clear hG2
            refine (p_skip_yes w3 P A ts c k2 (d + 1) HS3.out hkl hlen 5 [44] hs4).mono ?_
            rintro e5 w5 ⟨rfl, hS5, hg5⟩
            have HO5 := hide (own_fr HO3.out hg5 (by omega))
            have HN5 := hide ((hg5.block W.heap.size (Array.getElem?_eq_some_iff.1 HN3.out).1 (by intro e; injection e with e; omega)).trans HN3.out)
            have HS5 := hide hS5
            have HG5 := hide (HG3.out.trans hg5)
            have hz5 := hg5.size
            clear hS5 hg5 hs4
            go_wp2
            have hat := atOf_eq HS5.out
            refine ⟨⟨B3, n3, es ++ [], k + 1, k2 + 1, d + 1, 0, true, by first | rfl | (simp; done), by go_num, rfl, HO5, HS5, HG5, HN5, by omega, by omega, hk1, by omega, by omega, hide (.inl ⟨rfl, rfl, rfl, by omega, _, HE.out⟩)⟩, ?_⟩
            rw [hat, hatr]
            simp only [moreN]
            omega
          · rw [if_neg hs4] at hG2
            have HE := hide hG2
            have hsb : ((0 : Int) == 0 && ((tk ts k2).kind == 5 && (tk ts k2).text == [44])) = false := by
              have : isSym (tk ts k2) [44] = false := by simpa using hs4
              exact this
            clear hG2 hs4
            refine (p_skip_no w3 P A ts c k2 (d + 1) 0 HS3.out hkl hlen 5 [44] hsb).mono ?_
            rintro e5 w5 ⟨rfl, hb5⟩
            have HO5 := hide (own_below HO3.out hb5)
            have HN5 := hide ((hb5.block W.heap.size (Array.getElem?_eq_some_iff.1 HN3.out).1).trans HN3.out)
            have HS5 := hide (HS3.out.below hb5)
            have HG5 := hide (gr_bel HG3.out hb5)
            have hz5 := hb5.size
            clear hsb
            go_wp2
            have hat := atOf_eq HS5.out
            refine ⟨⟨B3, n3, es ++ [], k + 1, k2, d + 1, 0, false, by first | rfl | (simp; done), by go_num, rfl, HO5, HS5, HG5, HN5, by omega, by omega, hkl, hk3, by omega, hide (.inr (.inl ⟨rfl, rfl, rfl, HE.out.symm⟩))⟩, ?_⟩
            rw [hat, hatr]
            simp only [moreN]
            omega
        · rcases HD2.out with ⟨h, _⟩ | ⟨_, hr, hd4, hd5⟩
          · exact absurd h hx2
          rw [hr] at hG2
          simp only [PR.bind] at hG2
          have HE := hide hG2
          have hsb : (x2 == 0 && ((tk ts k2).kind == 5 && (tk ts k2).text == [44])) = false := by rw [beq_eq_false_iff_ne.2 hx2]; rfl
          clear hG2
          refine (p_skip_no w3 P A ts c k2 d2 x2 HS3.out hkl hlen 5 [44] hsb).mono ?_
          rintro e5 w5 ⟨rfl, hb5⟩
          have HO5 := hide (own_below HO3.out hb5)
          have HN5 := hide ((hb5.block W.heap.size (Array.getElem?_eq_some_iff.1 HN3.out).1).trans HN3.out)
          have HS5 := hide (HS3.out.below hb5)
          have HG5 := hide (gr_bel HG3.out hb5)
          have hz5 := hb5.size
          clear hsb
          go_wp2
          have hat := atOf_eq HS5.out
          refine ⟨⟨B3, n3, es ++ [], k + 1, k2, d2, x2, false, by first | rfl | (simp; done), by go_num, rfl, HO5, HS5, HG5, HN5, by omega, by omega, hkl, hk3, by omega, hide (.inr (.inr ⟨rfl, hx2, HE.out.symm, hd4, hd5⟩))⟩, ?_⟩
          rw [hat, hatr]
          simp only [moreN]
          omega
      · have hcf := (orow_cells ho2).2.2
        clear ho2
        go_wp2_with (at_builtin; refine wpList_append_own _ rfl _ _ 30 rfl (W.heap.size + 1) 53 i0 _ 6 64 Tryz.underlying30 hi0 hz0 hz1 hz2 rfl (by decide) _ _ _ rfl hoe ⟨g2, 0, none⟩ fs.length n2 (ndCells fs) rfl (ndCells_len _) hcf (nd_one _) (by unfold maxLen; omega) (by omega) (by omega) ?_; intro v3 w3 o3 g3 _; obtain ⟨B3, n3, rfl⟩ := own_form o3; have HS3 := hide (HS2.out.gr g3 (fun j hj => by have := (hoe.lt j hj).1; omega)); have HG3 := hide (HG2.out.andThen g3 (fun j hj => .inl (by have := (hoe.lt j hj).1; omega))); have HN3 := hide ((g3.block W.heap.size (Array.getElem?_eq_some_iff.1 HN2.out).1 (by intro e; have := (hoe.lt W.heap.size e.symm).1; omega)).trans HN2.out); have hz3 := g3.size; have HO3 := hide (show w3.ownsRow (W.heap.size + 1) 53 6 (.slice B3 (es ++ fs).length n3) (es ++ fs).length (ndCells (es ++ fs)) from by rw [ndCells_append, List.length_append]; exact o3); clear hcf g3 o3 hoe HS2 HG2 HN2)
        have hk3 : (es ++ fs).length ≤ k2 - i := by simp only [List.length_append, List.length_nil]; omega
        by_cases hx2 : x2 = 0
        · rcases HD2.out with ⟨_, hdd, hjk2, hr⟩ | ⟨h, _⟩
          rotate_left
          · exact absurd hx2 h
          subst hx2 hdd
          rw [hr] at hG2
          simp only [PR.bind] at hG2
          by_cases hs4 : isSym (tk ts k2) [44] = true
          · rw [if_pos hs4] at hG2
            have hk1 := sym_next hv hkl hs4
            have HE := hide hG2
            clear hG2
            refine (p_skip_yes w3 P A ts c k2 (d + 1) HS3.out hkl hlen 5 [44] hs4).mono ?_
            rintro e5 w5 ⟨rfl, hS5, hg5⟩
            have HO5 := hide (own_fr HO3.out hg5 (by omega))
            have HN5 := hide ((hg5.block W.heap.size (Array.getElem?_eq_some_iff.1 HN3.out).1 (by intro e; injection e with e; omega)).trans HN3.out)
            have HS5 := hide hS5
            have HG5 := hide (HG3.out.trans hg5)
            have hz5 := hg5.size
            clear hS5 hg5 hs4
            go_wp2
            have hat := atOf_eq HS5.out
            refine ⟨⟨B3, n3, es ++ fs, k + 1, k2 + 1, d + 1, 0, true, by first | rfl | (simp; done), by go_num, rfl, HO5, HS5, HG5, HN5, by omega, by omega, hk1, by omega, by omega, hide (.inl ⟨rfl, rfl, rfl, by omega, _, HE.out⟩)⟩, ?_⟩
            rw [hat, hatr]
            simp only [moreN]
            omega
          · rw [if_neg hs4] at hG2
            have HE := hide hG2
            have hsb : ((0 : Int) == 0 && ((tk ts k2).kind == 5 && (tk ts k2).text == [44])) = false := by
              have : isSym (tk ts k2) [44] = false := by simpa using hs4
              exact this
            clear hG2 hs4
            refine (p_skip_no w3 P A ts c k2 (d + 1) 0 HS3.out hkl hlen 5 [44] hsb).mono ?_
            rintro e5 w5 ⟨rfl, hb5⟩
            have HO5 := hide (own_below HO3.out hb5)
            have HN5 := hide ((hb5.block W.heap.size (Array.getElem?_eq_some_iff.1 HN3.out).1).trans HN3.out)
            have HS5 := hide (HS3.out.below hb5)
            have HG5 := hide (gr_bel HG3.out hb5)
            have hz5 := hb5.size
            clear hsb
            go_wp2
            have hat := atOf_eq HS5.out
            refine ⟨⟨B3, n3, es ++ fs, k + 1, k2, d + 1, 0, false, by first | rfl | (simp; done), by go_num, rfl, HO5, HS5, HG5, HN5, by omega, by omega, hkl, hk3, by omega, hide (.inr (.inl ⟨rfl, rfl, rfl, HE.out.symm⟩))⟩, ?_⟩
            rw [hat, hatr]
            simp only [moreN]
            omega
        · rcases HD2.out with ⟨h, _⟩ | ⟨_, hr, hd4, hd5⟩
          · exact absurd h hx2
          rw [hr] at hG2
          simp only [PR.bind] at hG2
          have HE := hide hG2
          have hsb : (x2 == 0 && ((tk ts k2).kind == 5 && (tk ts k2).text == [44])) = false := by rw [beq_eq_false_iff_ne.2 hx2]; rfl
          clear hG2
          refine (p_skip_no w3 P A ts c k2 d2 x2 HS3.out hkl hlen 5 [44] hsb).mono ?_
          rintro e5 w5 ⟨rfl, hb5⟩
          have HO5 := hide (own_below HO3.out hb5)
          have HN5 := hide ((hb5.block W.heap.size (Array.getElem?_eq_some_iff.1 HN3.out).1).trans HN3.out)
          have HS5 := hide (HS3.out.below hb5)
          have HG5 := hide (gr_bel HG3.out hb5)
          have hz5 := hb5.size
          clear hsb
          go_wp2
          have hat := atOf_eq HS5.out
          refine ⟨⟨B3, n3, es ++ fs, k + 1, k2, d2, x2, false, by first | rfl | (simp; done), by go_num, rfl, HO5, HS5, HG5, HN5, by omega, by omega, hkl, hk3, by omega, hide (.inr (.inr ⟨rfl, hx2, HE.out.symm, hd4, hd5⟩))⟩, ?_⟩
          rw [hat, hatr]
          simp only [moreN]
          omega
    | false =>
      obtain ⟨d3, rfl⟩ : ∃ d3, d' = d3 + 1 := ⟨d' - 1, by
        rcases HD.out with ⟨h, _⟩ | ⟨_, _, h, _⟩ | ⟨_, _, _, h, _⟩
        · cases h
        · omega
        · omega⟩
      have hdd4 : d ≤ d3 ∧ d3 ≤ j := by
        rcases HD.out with ⟨h, _⟩ | ⟨_, _, h, _⟩ | ⟨_, _, _, h1, h2⟩
        · cases h
        · omega
        · omega
      have hd3 : d3 ≤ 1000000 := by omega
      have HS4 := hide (HSr.out.setDepth d3)
      have HG4 := hide (gr_set HGr.out 2 (.int .i64 (d3 : Int)))
      have HO4 := hide (own_fr HOw.out (gr_set (World.grownBy.refl wr (some P)) 2 (.int .i64 (d3 : Int))) (by omega))
      have HN4 := hide (show (wr.setCell ⟨P, 2, none⟩ (.int .i64 (d3 : Int))).heap[W.heap.size]? = some (.cells (opNd o).cells.toArray 53 (0, 0)) from (Below.heap_setCell _ _ _ _ (by simp; omega)).trans HNr.out)
      have hX4 : ∃ X, X = wr.setCell ⟨P, 2, none⟩ (.int .i64 (d3 : Int)) := ⟨_, rfl⟩
      obtain ⟨X4, hX4⟩ := hX4
      rw [← hX4] at HS4 HG4 HO4 HN4
      have HX4 := hide hX4.symm
      clear hX4
      have hz4 : W.heap.size < X4.heap.size := (Array.getElem?_eq_some_iff.1 HN4.out).1
      by_cases he : e = 0
      rotate_left
      · rcases HD.out with ⟨h, _⟩ | ⟨_, h, _⟩ | ⟨_, _, hE, _⟩
        · cases h
        · exact absurd h he
        have HE := hide hE
        have hsb : (e == 0 && ((tk ts j).kind == 5 && (tk ts j).text == [41])) = false := by rw [beq_eq_false_iff_ne.2 he]; rfl
        clear hE
        go_wp2_with fail
        rw [HX4.out]
        refine (p_is X4 P A ts c j d3 e HS4.out hjl hlen 5 [41]).mono ?_
        rw [hsb]
        rintro e5 w5 ⟨rfl, hb5⟩
        have HS5 := hide (HS4.out.below hb5)
        have HG5 := hide (gr_bel HG4.out hb5)
        clear hsb c0 c1 c2 c3 hfr
        go_wp2_with fail
        refine (p_fail_no w5 P A ts c j d3 e HS5.out he 3).mono ?_
        rintro e6 w6 ⟨rfl, hb6⟩
        have HS6 := hide (HS5.out.below hb6)
        have HG6 := hide (gr_bel HG5.out hb6)
        go_wp2
        go_ret
        rw [HE.out]
        exact ⟨HG6.out, [], d3, ⟨none, 0, rfl, own_nil _ _ _ _⟩, by omega, by simp, hdd4, HS6.out⟩
      subst he
      have hRR : R = (if isSym (tk ts j) [41] = true then endS x es k j else .err 3 j) := by
        rcases HD.out with ⟨h, _⟩ | ⟨_, _, _, h⟩ | ⟨_, h, _⟩
        · cases h
        · exact h
        · exact absurd rfl h
      have hd33 : d3 = d := by
        rcases HD.out with ⟨h, _⟩ | ⟨_, _, h, _⟩ | ⟨_, h, _⟩
        · cases h
        · omega
        · exact absurd rfl h
      have HD33 := hide hd33
      clear hd33
      by_cases hs : isSym (tk ts j) [41] = true
      rotate_left
      · rw [if_neg hs] at hRR
        have HE := hide hRR
        have hsb : ((0 : Int) == 0 && ((tk ts j).kind == 5 && (tk ts j).text == [41])) = false := by
          have : isSym (tk ts j) [41] = false := by simpa using hs
          exact this
        clear hRR hs
        go_wp2_with fail
        rw [HX4.out]
        refine (p_is X4 P A ts c j d3 0 HS4.out hjl hlen 5 [41]).mono ?_
        rw [hsb]
        rintro e5 w5 ⟨rfl, hb5⟩
        have HS5 := hide (HS4.out.below hb5)
        have HG5 := hide (gr_bel HG4.out hb5)
        clear hsb c0 c1 c2 c3 hfr
        go_wp2_with fail
        refine (p_fail w5 P A ts c j d3 HS5.out 3).mono ?_
        rintro e8 w8 ⟨rfl, hS8, hg8⟩
        have HS8 := hide hS8
        have HG8 := hide ((HG5.out).trans hg8)
        clear hS8 hg8
        go_wp2
        go_ret
        rw [HE.out]
        exact ⟨HG8.out, [], d3, ⟨none, 0, rfl, own_nil _ _ _ _⟩, by omega, by simp, hdd4, HS8.out⟩
      rw [if_pos hs] at hRR
      have hj1 := sym_next hv hjl hs
      have hst : ((0 : Int) == 0 && ((tk ts j).kind == 5 && (tk ts j).text == [41])) = true := hs
      have HRR := hide hRR
      clear hs HD hRR
      go_wp2_with fail
      rw [HX4.out]
      refine (p_is X4 P A ts c j d3 0 HS4.out hjl hlen 5 [41]).mono ?_
      rw [hst]
      rintro e5 w5 ⟨rfl, hb5⟩
      have HS5 := hide (HS4.out.below hb5)
      have HG5 := hide (gr_bel HG4.out hb5)
      have HO5 := hide (own_below HO4.out hb5)
      have hn5 := (hb5.block W.heap.size hz4).trans HN4.out
      have HN5 := hide hn5
      have hz5 := hb5.size
      clear hst c0 c1 c2 c3 hfr hn5 HX4 HS4 HG4 HO4 HN4 HSr HGr HOw HNr hatr
      have hRR := HRR.out
      clear HRR
      unfold endS callS at hRR
      rw [HBs.out] at hRR
      simp only at hRR
      by_cases hka : k = a
      rotate_left
      · rw [if_neg hka] at hRR
        have HE := hide hRR
        clear hRR
        obtain ⟨n0, n1, n2, n3, n4, n5⟩ := cells6 HN5.out
        have hkb : ((k : Int) != (a : Int)) = true := by simp; omega
        go_wp2_with (go_at_call 35; refine (expr_Arity_any o 0 0 0 ⟨#[]⟩ ⟨#[]⟩ _).mono ?_; rw [HAr.out]; rintro e6 w6 ⟨rfl, hb6⟩)
        clear n0 n1 n2 n3 n4 n5 hkb
        refine (p_fail w6 P A ts c j d3 (HS5.out.below hb6) 3).mono ?_
        rintro e8 w8 ⟨rfl, hS8, hg8⟩
        have HS8 := hide hS8
        have HG8 := hide ((gr_bel HG5.out hb6).trans hg8)
        clear hS8 hg8
        go_wp2
        go_ret
        rw [HE.out]
        exact ⟨HG8.out, [], d3, ⟨none, 0, rfl, own_nil _ _ _ _⟩, by omega, by simp, hdd4, HS8.out⟩
      rw [if_pos hka] at hRR
      subst hka
      have HE := hide hRR
      clear hRR
      obtain ⟨n0, n1, n2, n3, n4, n5⟩ := cells6 HN5.out
      go_wp2_with (first
        | (go_at_call 35; refine (expr_Arity_any o 0 0 0 ⟨#[]⟩ ⟨#[]⟩ _).mono ?_; rw [HAr.out]; rintro e6 w6 ⟨rfl, hb6⟩; obtain ⟨n0, n1, n2, n3, n4, n5⟩ := cells6 ((hb6.block W.heap.size (by omega)).trans HN5.out); have hS6 := HS5.out.below hb6; obtain ⟨c0, c1, c2, c3⟩ := hS6.cells; have hfr := hS6.free; have hP6 := hS6.lt; have HS6 := hide (hS6.setAt (j + 1)); have HG6 := hide (gr_set (gr_bel HG5.out hb6) 1 (.int .i64 ((j + 1 : Nat) : Int))); have HO6 := hide (own_fr (own_below HO5.out hb6) (gr_set (World.grownBy.refl w6 (some P)) 1 (.int .i64 ((j + 1 : Nat) : Int))) (by omega)); have hz6 := hb6.size; clear hS6)
        | (at_builtin; refine wpList_append_own _ rfl _ _ 30 rfl (W.heap.size + 1) 53 i0 _ 6 64 Tryz.underlying30 hi0 hz0 hz1 hz2 rfl (by decide) _ _ _ rfl (HO6.out.alloc _) ⟨w6.heap.size, 0, none⟩ 1 1 [.int .i64 o, .int .i64 0, .int .i64 0, str [], str [], .int .i64 0] rfl rfl (by exact cells_6 (hn_at (by simp))) (by simp [Value.oneCell']) (by unfold maxLen; omega) (by omega) (by simp; omega) ?_; intro v7 w7 o7 g7 _; obtain ⟨B7, n7, rfl⟩ := own_form o7; have HS7 := hide ((HS6.out.below (Below.alloc (Below.refl _ _) (Nat.le_refl _) _)).gr g7 (fun j hj => by have := (HO6.out.lt j hj).1; omega)); have HG7 := hide ((gr_bel HG6.out (Below.alloc (Below.refl _ _) (Nat.le_refl _) _)).andThen g7 (fun j hj => .inl (by have := (HO6.out.lt j hj).1; omega))); have HO7 := hide (own_nd1 (nd := (opNd o)) o7); clear o7 g7))
      go_ret
      rw [HE.out]
      have hd33 := HD33.out
      subst hd33
      exact ⟨HG7.out, ⟨B7, n7, by first | rfl | (simp; done), own_low HO7.out (by omega)⟩, HS7.out⟩
set_option maxRecDepth 100000 in
set_option maxHeartbeats 4000000 in
theorem p_call_n (F P : Nat) (A : Option Addr) (ts : List Tok) (c : Nat) (hv : valT ts = true) (hlen : ts.length ≤ 1000000) (hO : LvC 29 F 0 P A ts c) (W : World) (x : Bytes) (hbs : builtS x = none) (i d : Nat) (hS : PSt XT W P A ts c (i + 2) d 0) (hi : i + 2 < ts.length) (hd : d ≤ i) (hx : x.length ≤ 64) (hF : (ts.length - (i + 2)) * 10 + 9 ≤ F) (hday : x ≠ wDay) :
    Calls Tryz.prog 169 #[.pointer (some ⟨P, 0, none⟩), str x] W (PPost XT W P A ts c i d (callP (fun l i d => prs ts F l i d) ts x (i + 2) (d + 1))) := by
  have hP := hS.lt
  have hR : callP (fun l i d => prs ts F l i d) ts x (i + 2) (d + 1) = (if isSym (tk ts (i + 2)) [41] = true then endS x [] 0 (i + 2) else argsG (fun j => prs ts F 0 j (d + 1)) x ts ts.length [] 0 (i + 2)) := by unfold callP; rw [if_neg hday]
  rw [hR]
  clear hR
  have hBi : biB x = false := by rw [biB_built x hday, hbs]; rfl
  have hOp : biOp x = 0 := by unfold biOp; rw [if_neg hday, hbs]
  have hfact := fun j (hj : j < ts.length) => prs_fact hv F 0 j (d + 1) hj (fun e => absurd e (by omega))
  have HFa := hide hfact
  have hne : (if isSym (tk ts (i + 2)) [41] = true then endS x [] 0 (i + 2) else argsG (fun j => prs ts F 0 j (d + 1)) x ts ts.length [] 0 (i + 2)) ≠ .out := by
    split
    · exact endS_ne
    · exact argsG_ne hv hfact _ _ _ _ hi (by omega) (fun j hj hjl => prs_ne hv F 0 j (d + 1) hjl (by omega) (fun e => absurd e (by omega)) (by omega))
  have HS := hide hS
  have HO := hide hO
  have HBs := hide hbs
  clear hS hO hfact hbs
  have HOr := hide (show ∀ (X : World) (j : Nat), PSt XT X P A ts c j (d + 1) 0 → j < ts.length → i + 2 ≤ j → Calls Tryz.prog 29 #[.pointer (some ⟨P, 0, none⟩)] X (fun e2 w2 => ∃ (B2 : Option Addr) (n2 : Nat) (fs : List Nd) (k d2 : Nat) (x2 : Int), e2 = .returned (.slice B2 fs.length n2) ∧ w2.ownsRow X.heap.size 53 6 (.slice B2 fs.length n2) fs.length (ndCells fs) ∧ PSt XT w2 P A ts c k d2 x2 ∧ X.grownBy w2 (some P) ∧ j ≤ k ∧ k < ts.length ∧ fs.length ≤ k - j ∧
      ((x2 = 0 ∧ d2 = d + 1 ∧ j < k ∧ prs ts F 0 j (d + 1) = .ok fs k) ∨ (x2 ≠ 0 ∧ prs ts F 0 j (d + 1) = .err x2 k ∧ d + 1 ≤ d2 ∧ d2 ≤ k))) from fun X j hx hj hij =>
    (HO.out X j (d + 1) hx hj (by omega) (fun e => absurd e (by omega)) (by omega)).mono fun e2 w2 h => ppost_open (HFa.out j hj) h)
  generalize hq : (fun j => prs ts F 0 j (d + 1)) = q at *
  have HQ := hide (fun j => congrFun hq j)
  clear hq HO
  generalize hRR : (if isSym (tk ts (i + 2)) [41] = true then endS x [] 0 (i + 2) else argsG q x ts ts.length [] 0 (i + 2)) = R at *
  have HR := hide hRR
  clear hRR
  have HYB := hide (show ∀ w1 : World, Below (W.alloc (.cells #[.int .i64 21, .int .i64 0, .int .i64 0, str [], str x, .int .i64 0] 53)).heap.size (W.alloc (.cells #[.int .i64 21, .int .i64 0, .int .i64 0, str [], str x, .int .i64 0] 53)) w1 → w1.heap[W.heap.size]? = some (.cells #[.int .i64 21, .int .i64 0, .int .i64 0, str [], str x, .int .i64 0] 53 (0, 0)) from fun w1 hb => (hb.block W.heap.size (by simp)).trans (heap_alloc_new _ _))
  have HPY := hide (show ∀ w1 : World, Below (W.alloc (.cells #[.int .i64 21, .int .i64 0, .int .i64 0, str [], str x, .int .i64 0] 53)).heap.size (W.alloc (.cells #[.int .i64 21, .int .i64 0, .int .i64 0, str [], str x, .int .i64 0] 53)) w1 →
      PSt XT (w1.setCell ⟨P, 2, none⟩ (.int .i64 ((d + 1 : Nat) : Int))) P A ts c (i + 2) (d + 1) 0 ∧ W.grownBy (w1.setCell ⟨P, 2, none⟩ (.int .i64 ((d + 1 : Nat) : Int))) (some P) ∧ (w1.setCell ⟨P, 2, none⟩ (.int .i64 ((d + 1 : Nat) : Int))).heap[W.heap.size]? = some (.cells (⟨21, vl0, x, 0⟩ : Nd).cells.toArray 53 (0, 0)) from fun w1 hb => by
    have h1 := (HS.out.below (Below.alloc (Below.refl _ W) (Nat.le_refl _) _)).below hb
    have h2 := gr_bel (gr_bel (World.grownBy.refl W (some P)) (Below.alloc (Below.refl _ W) (Nat.le_refl _) _)) hb
    have h3 := HYB.out w1 hb
    refine ⟨h1.setDepth (d + 1), gr_set h2 2 _, ?_⟩
    rw [Below.heap_setCell _ _ _ _ (by simp; omega)]
    exact h3)
  obtain ⟨i0, hi0, hz0, hz1, hz2⟩ := info_parts Tryz.info_nd
  go_enter Tryz.func169, Tryz.ntmps169
  go_wp2_with (go_at_call 68; refine (builtin_any _).mono ?_; rintro e w1 ⟨⟨B, rfl, hown, hB1, hB2⟩, hb1⟩; have hrun := bi_run hown x (by unfold maxLen; omega); obtain ⟨n0, n1, n2, n3, n4, n5⟩ := cells6 (HYB.out w1 hb1); have hfn := free6 (HYB.out w1 hb1); have hs1 := (HS.out.below (Below.alloc (Below.refl _ W) (Nat.le_refl _) _)).below hb1; obtain ⟨c0, c1, c2, c3⟩ := hs1.cells; have hfp := hs1.free; have hPW := HPY.out w1 hb1; have HPW := hide hPW; clear hPW hs1 hown)
  refine (p_is _ P A ts c (i + 2) (d + 1) 0 HPW.out.1 hi hlen 5 [41]).mono ?_
  obtain ⟨b0, hb0, HD0⟩ : ∃ b0 : Bool, ((0 : Int) == 0 && ((tk ts (i + 2)).kind == 5 && (tk ts (i + 2)).text == [41])) = b0 ∧ Hid ((b0 = false ∧ ∃ G, argsG q x ts G [] 0 (i + 2) = R) ∨ (b0 = true ∧ R = (if isSym (tk ts (i + 2)) [41] = true then endS x [] 0 (i + 2) else .err 3 (i + 2)))) := by
    have hr := HR.out
    by_cases hs : isSym (tk ts (i + 2)) [41] = true
    · rw [if_pos hs] at hr
      exact ⟨true, hs, hide (.inr ⟨rfl, by rw [if_pos hs]; exact hr.symm⟩)⟩
    · rw [if_neg hs] at hr
      have hs2 : isSym (tk ts (i + 2)) [41] = false := by simpa using hs
      exact ⟨false, hs2, hide (.inl ⟨rfl, _, hr⟩)⟩
  rw [hb0]
  clear hb0 HR
  rintro e w2 ⟨rfl, hb2⟩
  have HS2 := hide (HPW.out.1.below hb2)
  have HG2 := hide (gr_bel HPW.out.2.1 hb2)
  have hn2 := (hb2.block W.heap.size (Array.getElem?_eq_some_iff.1 HPW.out.2.2).1).trans HPW.out.2.2
  have hz2' : W.heap.size + 1 ≤ w2.heap.size := (Array.getElem?_eq_some_iff.1 hn2).1
  have HN2 := hide hn2
  clear hn2 hb2 HPW c0 c1 c2 c3 hfp n0 n1 n2 n3 n4 n5 hfn hrun hb1 hB1 hB2 HPY HYB
  go_wp2
  go_loopw [8, 9, 10] (fun s n m wr => ∃ (B : Option Addr) (nn : Nat) (es : List Nd) (k j d' : Nat) (e : Int) (b : Bool), s = .slice B es.length nn ∧ n = .int .i64 (k : Int) ∧ m = .bool b ∧ Hid (wr.ownsRow (W.heap.size + 1) 53 6 (.slice B es.length nn) es.length (ndCells es)) ∧ Hid (PSt XT wr P A ts c j d' e) ∧ Hid (W.grownBy wr (some P)) ∧ Hid (wr.heap[W.heap.size]? = some (.cells (⟨21, vl0, x, 0⟩ : Nd).cells.toArray 53 (0, 0))) ∧ W.heap.size + 1 ≤ wr.heap.size ∧ i + 2 ≤ j ∧ j < ts.length ∧ es.length ≤ j - i ∧ k ≤ j + 1 ∧ Hid ((b = true ∧ e = 0 ∧ d' = d + 1 ∧ k ≤ j ∧ ∃ G, argsG q x ts G es k j = R) ∨ (b = false ∧ e = 0 ∧ d' = d + 1 ∧ R = (if isSym (tk ts j) [41] = true then endS x es k j else .err 3 j)) ∨ (b = false ∧ e ≠ 0 ∧ R = .err e j ∧ d + 1 ≤ d' ∧ d' ≤ j))) (fun _ _ m wr => 2 * (ts.length - atOf P wr) + moreN m)
  case atStart =>
    refine ⟨none, 0, [], 0, i + 2, d + 1, 0, !b0, rfl, rfl, rfl, hide (own_nil _ _ _ _), HS2, HG2, HN2, hz2', Nat.le_refl _, hi, by simp, by omega, hide ?_⟩
    rcases HD0.out with ⟨rfl, h⟩ | ⟨rfl, h⟩
    · exact .inl ⟨rfl, rfl, rfl, by omega, h⟩
    · exact .inr (.inl ⟨rfl, rfl, rfl, h⟩)
  case round =>
    clear HS2 HG2 HN2 hz2' HD0
    obtain ⟨B, nn, es, k, j, d', e, b, rfl, rfl, rfl, HOw, HSr, HGr, HNr, hzr, hij, hjl, hel, hkj, HD⟩ := hrel
    obtain ⟨c0, c1, c2, c3⟩ := HSr.out.cells
    have hPr := HSr.out.lt
    have hfr := HSr.out.free
    have hatr := atOf_eq HSr.out
    cases b with
    | true =>
      rcases HD.out with ⟨_, rfl, rfl, hkj2, G, hG⟩ | ⟨h, _⟩ | ⟨h, _⟩
      rotate_left
      · cases h
      · cases h
      have hG2 : (q j).bind (fun fs k2 => if isSym (tk ts k2) [44] = true then argsG q x ts (G - 1) (es ++ fs) (k + 1) (k2 + 1) else if isSym (tk ts k2) [41] = true then endS x (es ++ fs) (k + 1) k2 else .err 3 k2) = R := by
        cases G with
        | zero => exact absurd hG.symm hne
        | succ G => exact hG
      clear hG HD
      go_wp2_with fail
      refine (HOr.out wr j HSr.out hjl hij).mono ?_
      rw [HQ.out j]
      rintro e2 w2 ⟨B2, n2, fs, k2, d2, x2, rfl, ho2, hS2, hg2, hjk, hkl, hfl, hD2⟩
      have hoe := own_fr HOw.out hg2 (show P < W.heap.size + 1 by omega)
      have HN2 := hide ((hg2.block W.heap.size (by omega) (by intro e; injection e with e; omega)).trans HNr.out)
      have HS2 := hide hS2
      have HG2 := hide (HGr.out.trans hg2)
      have HD2 := hide hD2
      have hgw := hg2.size
      clear hS2 hg2 hD2 c0 c1 c2 c3 hfr hPr
      rcases own_addr ho2 with ⟨rfl, hf0, rfl⟩ | ⟨g2, rfl⟩
      · obtain rfl : fs = [] := List.eq_nil_of_length_eq_zero hf0
        clear ho2 hf0
        simp only [List.length_nil] at *
        go_wp2_with (at_builtin; refine wpList_append_own_none rfl _ _ _ rfl _ 53 i0 6 Tryz.underlying30 hi0 _ _ _ rfl hoe rfl ?_)
        obtain ⟨B3, hB3⟩ : ∃ B3, B3 = B := ⟨B, rfl⟩
        obtain ⟨n3, hn3⟩ : ∃ n3, n3 = nn := ⟨nn, rfl⟩
        obtain ⟨w3, hw3⟩ : ∃ w3, w3 = w2 := ⟨w2, rfl⟩
        rw [← hB3, ← hn3] at hoe
        rw [← hw3] at hoe HS2 HG2 HN2 hgw
        rw [← hB3, ← hn3, ← hw3]
        clear hB3 hn3 hw3
        have HO3 := hide (show w3.ownsRow (W.heap.size + 1) 53 6 (.slice B3 (es ++ []).length n3) (es ++ []).length (ndCells (es ++ [])) from by rw [List.append_nil]; exact hoe)
        have HS3 := HS2
        have HG3 := HG2
        have HN3 := HN2
        clear hoe HS2 HG2 HN2
        have hk3 : (es ++ []).length ≤ k2 - i := by simp only [List.length_append, List.length_nil]; omega
        by_cases hx2 : x2 = 0
        · rcases HD2.out with ⟨_, hdd, hjk2, hr⟩ | ⟨h, _⟩
          rotate_left
          · exact absurd hx2 h
          subst hx2 hdd
          rw [hr] at hG2
          simp only [PR.bind] at hG2
          by_cases hs4 : isSym (tk ts k2) [44] = true
          · rw [if_pos hs4] at hG2
            have hk1 := sym_next hv hkl hs4
            have HE := hide hG2
            clear hG2
            refine (p_skip_yes w3 P A ts c k2 (d + 1) HS3.out hkl hlen 5 [44] hs4).mono ?_
            rintro e5 w5 ⟨rfl, hS5, hg5⟩
            have HO5 := hide (own_fr HO3.out hg5 (by omega))
            have HN5 := hide ((hg5.block W.heap.size (Array.getElem?_eq_some_iff.1 HN3.out).1 (by intro e; injection e with e; omega)).trans HN3.out)
            have HS5 := hide hS5
            have HG5 := hide (HG3.out.trans hg5)
            have hz5 := hg5.size
            clear hS5 hg5 hs4
            go_wp2
            have hat := atOf_eq HS5.out
            refine ⟨⟨B3, n3, es ++ [], k + 1, k2 + 1, d + 1, 0, true, by first | rfl | (simp; done), by go_num, rfl, HO5, HS5, HG5, HN5, by omega, by omega, hk1, by omega, by omega, hide (.inl ⟨rfl, rfl, rfl, by omega, _, HE.out⟩)⟩, ?_⟩
            rw [hat, hatr]
            simp only [moreN]
            omega
          · rw [if_neg hs4] at hG2
            have HE := hide hG2
            have hsb : ((0 : Int) == 0 && ((tk ts k2).kind == 5 && (tk ts k2).text == [44])) = false := by
              have : isSym (tk ts k2) [44] = false := by simpa using hs4
              exact this
            clear hG2 hs4
            refine (p_skip_no w3 P A ts c k2 (d + 1) 0 HS3.out hkl hlen 5 [44] hsb).mono ?_
            rintro e5 w5 ⟨rfl, hb5⟩
            have HO5 := hide (own_below HO3.out hb5)
            have HN5 := hide ((hb5.block W.heap.size (Array.getElem?_eq_some_iff.1 HN3.out).1).trans HN3.out)
            have HS5 := hide (HS3.out.below hb5)
            have HG5 := hide (gr_bel HG3.out hb5)
            have hz5 := hb5.size
            clear hsb
            go_wp2
            have hat := atOf_eq HS5.out
            refine ⟨⟨B3, n3, es ++ [], k + 1, k2, d + 1, 0, false, by first | rfl | (simp; done), by go_num, rfl, HO5, HS5, HG5, HN5, by omega, by omega, hkl, hk3, by omega, hide (.inr (.inl ⟨rfl, rfl, rfl, HE.out.symm⟩))⟩, ?_⟩
            rw [hat, hatr]
            simp only [moreN]
            omega
        · rcases HD2.out with ⟨h, _⟩ | ⟨_, hr, hd4, hd5⟩
          · exact absurd h hx2
          rw [hr] at hG2
          simp only [PR.bind] at hG2
          have HE := hide hG2
          have hsb : (x2 == 0 && ((tk ts k2).kind == 5 && (tk ts k2).text == [44])) = false := by rw [beq_eq_false_iff_ne.2 hx2]; rfl
          clear hG2
          refine (p_skip_no w3 P A ts c k2 d2 x2 HS3.out hkl hlen 5 [44] hsb).mono ?_
          rintro e5 w5 ⟨rfl, hb5⟩
          have HO5 := hide (own_below HO3.out hb5)
          have HN5 := hide ((hb5.block W.heap.size (Array.getElem?_eq_some_iff.1 HN3.out).1).trans HN3.out)
          have HS5 := hide (HS3.out.below hb5)
          have HG5 := hide (gr_bel HG3.out hb5)
          have hz5 := hb5.size
          clear hsb
          go_wp2
          have hat := atOf_eq HS5.out
          refine ⟨⟨B3, n3, es ++ [], k + 1, k2, d2, x2, false, by first | rfl | (simp; done), by go_num, rfl, HO5, HS5, HG5, HN5, by omega, by omega, hkl, hk3, by omega, hide (.inr (.inr ⟨rfl, hx2, HE.out.symm, hd4, hd5⟩))⟩, ?_⟩
          rw [hat, hatr]
          simp only [moreN]
          omega
      · have hcf := (orow_cells ho2).2.2
        clear ho2
        go_wp2_with (at_builtin; refine wpList_append_own _ rfl _ _ 30 rfl (W.heap.size + 1) 53 i0 _ 6 64 Tryz.underlying30 hi0 hz0 hz1 hz2 rfl (by decide) _ _ _ rfl hoe ⟨g2, 0, none⟩ fs.length n2 (ndCells fs) rfl (ndCells_len _) hcf (nd_one _) (by unfold maxLen; omega) (by omega) (by omega) ?_; intro v3 w3 o3 g3 _; obtain ⟨B3, n3, rfl⟩ := own_form o3; have HS3 := hide (HS2.out.gr g3 (fun j hj => by have := (hoe.lt j hj).1; omega)); have HG3 := hide (HG2.out.andThen g3 (fun j hj => .inl (by have := (hoe.lt j hj).1; omega))); have HN3 := hide ((g3.block W.heap.size (Array.getElem?_eq_some_iff.1 HN2.out).1 (by intro e; have := (hoe.lt W.heap.size e.symm).1; omega)).trans HN2.out); have hz3 := g3.size; have HO3 := hide (show w3.ownsRow (W.heap.size + 1) 53 6 (.slice B3 (es ++ fs).length n3) (es ++ fs).length (ndCells (es ++ fs)) from by rw [ndCells_append, List.length_append]; exact o3); clear hcf g3 o3 hoe HS2 HG2 HN2)
        have hk3 : (es ++ fs).length ≤ k2 - i := by simp only [List.length_append, List.length_nil]; omega
        by_cases hx2 : x2 = 0
        · rcases HD2.out with ⟨_, hdd, hjk2, hr⟩ | ⟨h, _⟩
          rotate_left
          · exact absurd hx2 h
          subst hx2 hdd
          rw [hr] at hG2
          simp only [PR.bind] at hG2
          by_cases hs4 : isSym (tk ts k2) [44] = true
          · rw [if_pos hs4] at hG2
            have hk1 := sym_next hv hkl hs4
            have HE := hide hG2
            clear hG2
            refine (p_skip_yes w3 P A ts c k2 (d + 1) HS3.out hkl hlen 5 [44] hs4).mono ?_
            rintro e5 w5 ⟨rfl, hS5, hg5⟩
            have HO5 := hide (own_fr HO3.out hg5 (by omega))
            have HN5 := hide ((hg5.block W.heap.size (Array.getElem?_eq_some_iff.1 HN3.out).1 (by intro e; injection e with e; omega)).trans HN3.out)
            have HS5 := hide hS5
            have HG5 := hide (HG3.out.trans hg5)
            have hz5 := hg5.size
            clear hS5 hg5 hs4
            go_wp2
            have hat := atOf_eq HS5.out
            refine ⟨⟨B3, n3, es ++ fs, k + 1, k2 + 1, d + 1, 0, true, by first | rfl | (simp; done), by go_num, rfl, HO5, HS5, HG5, HN5, by omega, by omega, hk1, by omega, by omega, hide (.inl ⟨rfl, rfl, rfl, by omega, _, HE.out⟩)⟩, ?_⟩
            rw [hat, hatr]
            simp only [moreN]
            omega
          · rw [if_neg hs4] at hG2
            have HE := hide hG2
            have hsb : ((0 : Int) == 0 && ((tk ts k2).kind == 5 && (tk ts k2).text == [44])) = false := by
              have : isSym (tk ts k2) [44] = false := by simpa using hs4
              exact this
            clear hG2 hs4
            refine (p_skip_no w3 P A ts c k2 (d + 1) 0 HS3.out hkl hlen 5 [44] hsb).mono ?_
            rintro e5 w5 ⟨rfl, hb5⟩
            have HO5 := hide (own_below HO3.out hb5)
            have HN5 := hide ((hb5.block W.heap.size (Array.getElem?_eq_some_iff.1 HN3.out).1).trans HN3.out)
            have HS5 := hide (HS3.out.below hb5)
            have HG5 := hide (gr_bel HG3.out hb5)
            have hz5 := hb5.size
            clear hsb
            go_wp2
            have hat := atOf_eq HS5.out
            refine ⟨⟨B3, n3, es ++ fs, k + 1, k2, d + 1, 0, false, by first | rfl | (simp; done), by go_num, rfl, HO5, HS5, HG5, HN5, by omega, by omega, hkl, hk3, by omega, hide (.inr (.inl ⟨rfl, rfl, rfl, HE.out.symm⟩))⟩, ?_⟩
            rw [hat, hatr]
            simp only [moreN]
            omega
        · rcases HD2.out with ⟨h, _⟩ | ⟨_, hr, hd4, hd5⟩
          · exact absurd h hx2
          rw [hr] at hG2
          simp only [PR.bind] at hG2
          have HE := hide hG2
          have hsb : (x2 == 0 && ((tk ts k2).kind == 5 && (tk ts k2).text == [44])) = false := by rw [beq_eq_false_iff_ne.2 hx2]; rfl
          clear hG2
          refine (p_skip_no w3 P A ts c k2 d2 x2 HS3.out hkl hlen 5 [44] hsb).mono ?_
          rintro e5 w5 ⟨rfl, hb5⟩
          have HO5 := hide (own_below HO3.out hb5)
          have HN5 := hide ((hb5.block W.heap.size (Array.getElem?_eq_some_iff.1 HN3.out).1).trans HN3.out)
          have HS5 := hide (HS3.out.below hb5)
          have HG5 := hide (gr_bel HG3.out hb5)
          have hz5 := hb5.size
          clear hsb
          go_wp2
          have hat := atOf_eq HS5.out
          refine ⟨⟨B3, n3, es ++ fs, k + 1, k2, d2, x2, false, by first | rfl | (simp; done), by go_num, rfl, HO5, HS5, HG5, HN5, by omega, by omega, hkl, hk3, by omega, hide (.inr (.inr ⟨rfl, hx2, HE.out.symm, hd4, hd5⟩))⟩, ?_⟩
          rw [hat, hatr]
          simp only [moreN]
          omega
    | false =>
      obtain ⟨d3, rfl⟩ : ∃ d3, d' = d3 + 1 := ⟨d' - 1, by
        rcases HD.out with ⟨h, _⟩ | ⟨_, _, h, _⟩ | ⟨_, _, _, h, _⟩
        · cases h
        · omega
        · omega⟩
      have hdd4 : d ≤ d3 ∧ d3 ≤ j := by
        rcases HD.out with ⟨h, _⟩ | ⟨_, _, h, _⟩ | ⟨_, _, _, h1, h2⟩
        · cases h
        · omega
        · omega
      have hd3 : d3 ≤ 1000000 := by omega
      have HS4 := hide (HSr.out.setDepth d3)
      have HG4 := hide (gr_set HGr.out 2 (.int .i64 (d3 : Int)))
      have HO4 := hide (own_fr HOw.out (gr_set (World.grownBy.refl wr (some P)) 2 (.int .i64 (d3 : Int))) (by omega))
      have HN4 := hide (show (wr.setCell ⟨P, 2, none⟩ (.int .i64 (d3 : Int))).heap[W.heap.size]? = some (.cells (⟨21, vl0, x, 0⟩ : Nd).cells.toArray 53 (0, 0)) from (Below.heap_setCell _ _ _ _ (by simp; omega)).trans HNr.out)
      have hX4 : ∃ X, X = wr.setCell ⟨P, 2, none⟩ (.int .i64 (d3 : Int)) := ⟨_, rfl⟩
      obtain ⟨X4, hX4⟩ := hX4
      rw [← hX4] at HS4 HG4 HO4 HN4
      have HX4 := hide hX4.symm
      clear hX4
      have hz4 : W.heap.size < X4.heap.size := (Array.getElem?_eq_some_iff.1 HN4.out).1
      by_cases he : e = 0
      rotate_left
      · rcases HD.out with ⟨h, _⟩ | ⟨_, h, _⟩ | ⟨_, _, hE, _⟩
        · cases h
        · exact absurd h he
        have HE := hide hE
        have hsb : (e == 0 && ((tk ts j).kind == 5 && (tk ts j).text == [41])) = false := by rw [beq_eq_false_iff_ne.2 he]; rfl
        clear hE
        go_wp2_with fail
        rw [HX4.out]
        refine (p_is X4 P A ts c j d3 e HS4.out hjl hlen 5 [41]).mono ?_
        rw [hsb]
        rintro e5 w5 ⟨rfl, hb5⟩
        have HS5 := hide (HS4.out.below hb5)
        have HG5 := hide (gr_bel HG4.out hb5)
        clear hsb c0 c1 c2 c3 hfr
        go_wp2_with fail
        refine (p_fail_no w5 P A ts c j d3 e HS5.out he 3).mono ?_
        rintro e6 w6 ⟨rfl, hb6⟩
        have HS6 := hide (HS5.out.below hb6)
        have HG6 := hide (gr_bel HG5.out hb6)
        go_wp2
        go_ret
        rw [HE.out]
        exact ⟨HG6.out, [], d3, ⟨none, 0, rfl, own_nil _ _ _ _⟩, by omega, by simp, hdd4, HS6.out⟩
      subst he
      have hRR : R = (if isSym (tk ts j) [41] = true then endS x es k j else .err 3 j) := by
        rcases HD.out with ⟨h, _⟩ | ⟨_, _, _, h⟩ | ⟨_, h, _⟩
        · cases h
        · exact h
        · exact absurd rfl h
      have hd33 : d3 = d := by
        rcases HD.out with ⟨h, _⟩ | ⟨_, _, h, _⟩ | ⟨_, h, _⟩
        · cases h
        · omega
        · exact absurd rfl h
      have HD33 := hide hd33
      clear hd33
      by_cases hs : isSym (tk ts j) [41] = true
      rotate_left
      · rw [if_neg hs] at hRR
        have HE := hide hRR
        have hsb : ((0 : Int) == 0 && ((tk ts j).kind == 5 && (tk ts j).text == [41])) = false := by
          have : isSym (tk ts j) [41] = false := by simpa using hs
          exact this
        clear hRR hs
        go_wp2_with fail
        rw [HX4.out]
        refine (p_is X4 P A ts c j d3 0 HS4.out hjl hlen 5 [41]).mono ?_
        rw [hsb]
        rintro e5 w5 ⟨rfl, hb5⟩
        have HS5 := hide (HS4.out.below hb5)
        have HG5 := hide (gr_bel HG4.out hb5)
        clear hsb c0 c1 c2 c3 hfr
        go_wp2_with fail
        refine (p_fail w5 P A ts c j d3 HS5.out 3).mono ?_
        rintro e8 w8 ⟨rfl, hS8, hg8⟩
        have HS8 := hide hS8
        have HG8 := hide ((HG5.out).trans hg8)
        clear hS8 hg8
        go_wp2
        go_ret
        rw [HE.out]
        exact ⟨HG8.out, [], d3, ⟨none, 0, rfl, own_nil _ _ _ _⟩, by omega, by simp, hdd4, HS8.out⟩
      rw [if_pos hs] at hRR
      have hj1 := sym_next hv hjl hs
      have hst : ((0 : Int) == 0 && ((tk ts j).kind == 5 && (tk ts j).text == [41])) = true := hs
      have HRR := hide hRR
      clear hs HD hRR
      go_wp2_with fail
      rw [HX4.out]
      refine (p_is X4 P A ts c j d3 0 HS4.out hjl hlen 5 [41]).mono ?_
      rw [hst]
      rintro e5 w5 ⟨rfl, hb5⟩
      have HS5 := hide (HS4.out.below hb5)
      have HG5 := hide (gr_bel HG4.out hb5)
      have HO5 := hide (own_below HO4.out hb5)
      have hn5 := (hb5.block W.heap.size hz4).trans HN4.out
      have HN5 := hide hn5
      have hz5 := hb5.size
      clear hst c0 c1 c2 c3 hfr hn5 HX4 HS4 HG4 HO4 HN4 HSr HGr HOw HNr hatr
      have hRR := HRR.out
      clear HRR
      unfold endS callS at hRR
      rw [HBs.out] at hRR
      simp only at hRR
      have hkk : ((k : Nat) : Int) = (k : Int) := rfl
      by_cases hka : k ≤ 8
      rotate_left
      · rw [if_neg hka] at hRR
        have HE := hide hRR
        clear hRR hkk
        go_wp2_with fail
        refine (p_fail w5 P A ts c j d3 HS5.out 3).mono ?_
        rintro e8 w8 ⟨rfl, hS8, hg8⟩
        have HS8 := hide hS8
        have HG8 := hide ((HG5.out).trans hg8)
        clear hS8 hg8
        go_wp2
        go_ret
        rw [HE.out]
        exact ⟨HG8.out, [], d3, ⟨none, 0, rfl, own_nil _ _ _ _⟩, by omega, by simp, hdd4, HS8.out⟩
      rw [if_pos hka] at hRR
      have HE := hide hRR
      clear hRR hkk
      obtain ⟨n0, n1, n2, n3, n4, n5⟩ := cells6 HN5.out
      have hfn := free6 HN5.out
      obtain ⟨c0, c1, c2, c3⟩ := HS5.out.cells
      have hfr := HS5.out.free
      have hP5 := HS5.out.lt
      have hgN := gr_set (World.grownBy.refl (w5.setCell ⟨P, 1, none⟩ (.int .i64 ((j + 1 : Nat) : Int))) (some W.heap.size)) 5 (.int .i64 (k : Int))
      have HS6 := hide ((HS5.out.setAt (j + 1)).gr hgN (fun j hj => by injection hj with hj; omega))
      have HG6 := hide ((gr_set HG5.out 1 (.int .i64 ((j + 1 : Nat) : Int))).andThen hgN (fun j hj => .inl (by injection hj with hj; omega)))
      have HO6 := hide (own_fr (own_fr HO5.out (gr_set (World.grownBy.refl w5 (some P)) 1 (.int .i64 ((j + 1 : Nat) : Int))) (by omega)) hgN (by omega))
      clear hgN
      go_wp2_with (at_builtin; refine wpList_append_own _ rfl _ _ 30 rfl (W.heap.size + 1) 53 i0 _ 6 64 Tryz.underlying30 hi0 hz0 hz1 hz2 rfl (by decide) _ _ _ rfl (HO6.out.alloc _) ⟨w5.heap.size, 0, none⟩ 1 1 [.int .i64 21, .int .i64 0, .int .i64 0, str [], str x, .int .i64 (k : Int)] rfl rfl (by exact cells_6 (hn_at (by simp))) (by simp [Value.oneCell']) (by unfold maxLen; omega) (by omega) (by simp; omega) ?_; intro v7 w7 o7 g7 _; obtain ⟨B7, n7, rfl⟩ := own_form o7; have HS7 := hide ((HS6.out.below (Below.alloc (Below.refl _ _) (Nat.le_refl _) _)).gr g7 (fun j hj => by have := (HO6.out.lt j hj).1; omega)); have HG7 := hide ((gr_bel HG6.out (Below.alloc (Below.refl _ _) (Nat.le_refl _) _)).andThen g7 (fun j hj => .inl (by have := (HO6.out.lt j hj).1; omega))); have HO7 := hide (own_nd1 (nd := (⟨21, vl0, x, (k : Int)⟩ : Nd)) o7); clear o7 g7)
      go_ret
      rw [HE.out]
      have hd33 := HD33.out
      subst hd33
      exact ⟨HG7.out, ⟨B7, n7, by first | rfl | (simp; done), own_low HO7.out (by omega)⟩, HS7.out⟩
end Go.Proofs.YtlfedcbihbigoaaGreatDoor
