/- Parts of the proof. -/
import Derived.Test.YtmbeeefkpgfgmaaGreatDoorPp16
set_option linter.unusedVariables false
set_option linter.unusedSimpArgs false
set_option maxHeartbeats 4000000
namespace Go.Proofs.YtmbeeefkpgfgmaaGreatDoor
open Go.Proofs.Tryz
section
open Go.RowKit
def s_B (F P : Nat) (A : Option Addr) (ts : List Tok) (c : Nat) : Prop := ∀ (W : World) (x : a_3) (i d : Nat), PSt XT W P A ts c (i + 2) d 0 → i + 2 < ts.length → d ≤ i → x.length ≤ 64 → (ts.length - (i + 2)) * 10 + 9 ≤ F →
 Calls prog 338 #[.pointer (some ⟨P, 0, none⟩), str x] W (d_e XT W P A ts c i d (e_G (fun l i d => prs ts F l i d) ts x (i + 2) (d + 1)))
set_option maxRecDepth 100000
theorem o_p (F P : Nat) (A : Option Addr) (ts : List Tok) (c : Nat) (hv : a_O ts = true) (hlen : ts.length ≤ 1000000) (hO : LvC 267 F 0 P A ts c) (hCl : s_B F P A ts c) : LvC 332 (F + 1) 8 P A ts c := by
 intro W i d hS hi hd h8 hF
 have hbeg := h8 rfl
 have hi1 := b_0 hv hi (d_j hbeg)
 have hnm := fun k2 k3 k4 k5 => j_f hbeg k2 k3 k4 k5
 have hsh := d_d hv hi
 clear h8 hbeg
 rw [v_f]
 have hP := hS.lt
 obtain ⟨c0, c1, c2, c3⟩ := hS.cells
 have hfr := hS.free
 obtain ⟨g, off, rfl, hgP, t0, t1, t2, t3⟩ := hS.tok.at_ hi
 refine p_Z ?_; intro hg
 have HS := a_0 hS
 have HO := a_0 hO
 have HCl := a_0 hCl
 clear hS hO hCl
 generalize tk ts i = t at *
 obtain ⟨tk0, tk1, tk2, tk3⟩ := t
 simp only at t0 t1 t2 t3 hnm hsh ⊢
 by_cases k2 : tk0 = 2
 ·rw [if_pos k2]
  subst k2
  clear hnm
  go_enter func332, ntmps332
  go_wp2
  go_region
  go_wp2_with fail
  refine (c_N ⟨2, tk2, []⟩ _).mono ?_
  rintro e3 w3 ⟨⟨B, n, rfl, ho⟩, hb3⟩
  refine q_5 ?_; intro HS3 HG3 HO3
  clear ho c0 c1 c2 c3 t0 t1 t2 t3
  go_wp2
  exact m_U
 rw [if_neg k2]
 have b2 : (tk0 == 2) = false := beq_eq_false_iff_ne.2 k2
 by_cases k3 : tk0 = 3
 ·rw [if_pos k3]
  subst k3
  clear hnm k2 b2
  go_enter func332, ntmps332
  go_wp2
  go_region
  go_wp2_with fail
  refine (c_N ⟨3, 0, tk1⟩ _).mono ?_
  rintro e3 w3 ⟨⟨B, n, rfl, ho⟩, hb3⟩
  refine q_5 ?_; intro HS3 HG3 HO3
  clear ho c0 c1 c2 c3 t0 t1 t2 t3
  go_wp2
  exact m_U
 rw [if_neg k3]
 have b3 : (tk0 == 3) = false := beq_eq_false_iff_ne.2 k3
 by_cases k4 : tk0 = 4
 ·rw [if_pos k4]
  subst k4
  clear hnm k2 b2 k3 b3
  go_enter func332, ntmps332
  go_wp2
  go_region
  go_wp2_with fail
  refine (c_N ⟨4, tk2, []⟩ _).mono ?_
  rintro e3 w3 ⟨⟨B, n, rfl, ho⟩, hb3⟩
  refine q_5 ?_; intro HS3 HG3 HO3
  clear ho c0 c1 c2 c3 t0 t1 t2 t3
  go_wp2
  exact m_U
 rw [if_neg k4]
 have b4 : (tk0 == 4) = false := beq_eq_false_iff_ne.2 k4
 by_cases k5 : tk0 = 5
 ·rw [if_pos k5]
  subst k5
  clear hnm k2 b2 k3 b3 k4 b4
  have hff := b_6 hv F 0 (i + 1) (d + 1) hi1 (fun e => absurd e o_)
  have HCal := a_0 (show ∀ X : World, Below ((W.setCell ⟨P, 1, none⟩ (.int .i64 ((i + 1 : Nat) : Int))).setCell ⟨P, 2, none⟩ (.int .i64 ((d + 1 : Nat) : Int))).heap.size ((W.setCell ⟨P, 1, none⟩ (.int .i64 ((i + 1 : Nat) : Int))).setCell ⟨P, 2, none⟩ (.int .i64 ((d + 1 : Nat) : Int))) X → Calls prog 267 _ X (fun e2 w2 => ∃ (B2 : Option Addr) (n2 : Nat) (fs : List Nd) (k d3 : Nat) (x2 : Int), e2 = .returned (.slice B2 fs.length n2) ∧ w2.ownsRow W.heap.size 116 6 (.slice B2 fs.length n2) fs.length (a_a fs) ∧ PSt XT w2 P (some ⟨g, off, none⟩) ts c k (d3 + 1) x2 ∧ W.grownBy w2 (some P) ∧ i + 1 ≤ k ∧ k < ts.length ∧ fs.length ≤ k - (i + 1) ∧
    ((x2 = 0 ∧ d3 = d ∧ i + 1 < k ∧ prs ts F 0 (i + 1) (d + 1) = .ok fs k) ∨ (x2 ≠ 0 ∧ prs ts F 0 (i + 1) (d + 1) = .err x2 k ∧ d ≤ d3 ∧ d3 ≤ k))) from fun X hb =>
   (HO.out X (i + 1) (d + 1) (((HS.out.setAt (i + 1)).setDepth (d + 1)).below hb) hi1 o_ (fun e => absurd e o_) o_).mono fun e2 w2 h => by
    obtain ⟨B2, n2, fs, k, d2, x2, h1, h2, h3, h4, h5, h6, h7, h8⟩ := a_C hff h; have hgg := a_h (a_d (a_d (g_ W (some P)) 1 (.int .i64 ((i + 1 : Nat) : Int))) 2 (.int .i64 ((d + 1 : Nat) : Int))) hb; obtain ⟨d3, rfl⟩ : ∃ d3, d2 = d3 + 1 := ⟨d2 - 1, by rcases h8 with h8 | h8 <;> omega⟩
    exact ⟨B2, n2, fs, k, d3, x2, h1, a_Z h2 hgg.size, h3, hgg.trans h4, h5, h6, h7, by rcases h8 with ⟨q1, q2, q3, q4⟩ | ⟨q1, q2, q3⟩; exact .inl ⟨q1, o_, q3, q4⟩; exact .inr ⟨q1, q2, o_, o_⟩⟩)
  clear hff
  generalize prs ts F 0 (i + 1) (d + 1) = r at *
  go_enter func332, ntmps332
  go_wp2
  go_region
  go_wp2_with fail
  refine (HCal.out _ zX).mono ?_
  rintro e2 w3 ⟨B2, n2, fs, k, d3, x2, rfl, ho2, hS3, hg3, hjk, hkl, hfl, hD2⟩
  refine r_T ?_; intro hd3
  clear c0 c1 c2 c3 hfr HCal t0 t1 t2 t3
  refine t_C ?_; intro c0 c1 c2 c3 hP3 hfr HS4 HG4 HO4
  have hDD := a_0 hD2
  clear hS3 hg3 ho2 hD2
  generalize hX4 : w3.setCell ⟨P, 2, none⟩ (.int .i64 (d3 : Int)) = X4 at *
  have HX4 := a_0 hX4
  clear hX4
  by_cases hx : x2 = 0
  ·rcases hDD.out with ⟨_, hdd, hik, hr⟩ | ⟨h, _⟩
   rotate_left
   ·exact absurd hx h
   subst hx hdd
   by_cases hs : a_9 (tk ts k) [41] = true
   ·have hE : (r.bind fun es j => if a_9 (tk ts j) [41] = true then PR.ok es (j + 1) else PR.err 3 j) = .ok fs (k + 1) := by rw [hr]; simp only [PR.bind]; rw [if_pos hs]
    have HE := a_0 hE; have HSk := a_0 (c_7 X4 P (some ⟨g, off, none⟩) ts c k d3 HS4.out hkl hlen 5 [41] hs); clear hE hr hs hDD
    go_wp2_with fail
    rw [HX4.out]; refine HSk.out.mono ?_; rintro e5 w5 ⟨rfl, hS5, hg5⟩; refine u_N ?_; intro HS5 HG5 HO5; clear hS5 hg5
    go_wp2
    go_ret
    rw [HE.out]; exact ⟨HG5.out, ⟨B2, n2, rfl, HO5.out⟩, HS5.out⟩
   ·have hE : (r.bind fun es j => if a_9 (tk ts j) [41] = true then PR.ok es (j + 1) else PR.err 3 j) = .err 3 k := by rw [hr]; simp only [PR.bind]; rw [if_neg hs]
    have HE := a_0 hE
    have hsb : ((0 : Int) == 0 && ((tk ts k).kind == 5 && (tk ts k).text == [41])) = false := by
     have : a_9 (tk ts k) [41] = false := by simpa using hs
     exact this
    have HSk := a_0 (b_c X4 P (some ⟨g, off, none⟩) ts c k d3 0 HS4.out hkl hlen 5 [41] hsb); have HFl := a_0 (fun W' (hb : Below X4.heap.size X4 W') => d_T W' P (some ⟨g, off, none⟩) ts c k d3 (HS4.out.below hb) 3); clear hE hr hs hsb hDD
    go_wp2_with fail
    rw [HX4.out]; refine HSk.out.mono ?_; rintro e5 w5 ⟨rfl, hb5⟩
    go_wp2_with fail
    refine (HFl.out w5 hb5).mono ?_; rintro e6 w6 ⟨rfl, hS6, hg6⟩; have HS6 := a_0 hS6; have HG6 := a_0 ((a_h HG4.out hb5).trans hg6); clear hS6 hg6
    go_wp2
    go_ret
    rw [HE.out]; exact ⟨HG6.out, [], d3, ⟨none, 0, rfl, a_o _ _ _ _⟩, o_, s_, ⟨l_ _, o_⟩, HS6.out⟩
  ·rcases hDD.out with ⟨h, _⟩ | ⟨_, hr, hd4, hd5⟩
   ·exact absurd h hx
   refine _am ?_; intro hE HE; have hsb : (x2 == 0 && ((tk ts k).kind == 5 && (tk ts k).text == [41])) = false := by rw [beq_eq_false_iff_ne.2 hx]; rfl
   have HSk := a_0 (b_c X4 P (some ⟨g, off, none⟩) ts c k d3 x2 HS4.out hkl hlen 5 [41] hsb); have HFl := a_0 (fun W' (hb : Below X4.heap.size X4 W') => f_F W' P (some ⟨g, off, none⟩) ts c k d3 x2 (HS4.out.below hb) hx 3); clear hE hr hsb hDD
   go_wp2_with fail
   rw [HX4.out]; refine HSk.out.mono ?_; rintro e5 w5 ⟨rfl, hb5⟩
   go_wp2_with fail
   refine (HFl.out w5 hb5).mono ?_; rintro e6 w6 ⟨rfl, hb6⟩; have HS6 := a_0 ((HS4.out.below hb5).below hb6); have HG6 := a_0 (a_h (a_h HG4.out hb5) hb6)
   go_wp2
   go_ret
   rw [HE.out]; exact ⟨HG6.out, [], d3, ⟨none, 0, rfl, a_o _ _ _ _⟩, o_, s_, ⟨hd4, hd5⟩, HS6.out⟩
 rw [if_neg k5]
 have b5 : (tk0 == 5) = false := beq_eq_false_iff_ne.2 k5
 have hk1 := hnm k2 k3 k4 k5
 subst hk1
 clear hnm k2 b2 k3 b3 k4 b4 k5 b5
 by_cases qNull : tk1 = d_K
 ·rw [if_pos qNull]
  subst qNull
  unfold d_K at *
  go_enter func332, ntmps332
  go_wp2
  go_region
  go_wp2_with fail
  refine (c_N ⟨0, 0, []⟩ _).mono ?_
  rintro e3 w3 ⟨⟨B, n, rfl, ho⟩, hb3⟩
  refine q_5 ?_; intro HS3 HG3 HO3
  clear ho c0 c1 c2 c3 t0 t1 t2 t3
  go_wp2
  exact m_U
 rw [if_neg qNull]
 have rNull : (tk1 == d_K) = false := beq_eq_false_iff_ne.2 qNull
 unfold d_K at rNull
 clear qNull
 by_cases qTrue : tk1 = d_I
 ·rw [if_pos qTrue]
  subst qTrue
  unfold d_I at *
  go_enter func332, ntmps332
  go_wp2
  go_region
  go_wp2_with fail
  refine (c_N ⟨1, 1, []⟩ _).mono ?_
  rintro e3 w3 ⟨⟨B, n, rfl, ho⟩, hb3⟩
  refine q_5 ?_; intro HS3 HG3 HO3
  clear ho c0 c1 c2 c3 t0 t1 t2 t3
  go_wp2
  exact m_U
 rw [if_neg qTrue]
 have rTrue : (tk1 == d_I) = false := beq_eq_false_iff_ne.2 qTrue
 unfold d_I at rTrue
 clear qTrue
 by_cases qFalse : tk1 = c_o
 ·rw [if_pos qFalse]
  subst qFalse
  unfold c_o at *
  go_enter func332, ntmps332
  go_wp2
  go_region
  go_wp2_with fail
  refine (c_N ⟨1, 0, []⟩ _).mono ?_
  rintro e3 w3 ⟨⟨B, n, rfl, ho⟩, hb3⟩
  refine q_5 ?_; intro HS3 HG3 HO3
  clear ho c0 c1 c2 c3 t0 t1 t2 t3
  go_wp2
  exact m_U
 rw [if_neg qFalse]
 have rFalse : (tk1 == c_o) = false := beq_eq_false_iff_ne.2 qFalse
 unfold c_o at rFalse
 clear qFalse
 by_cases hp : a_9 (tk ts (i + 1)) [40] = true
 ·rw [if_pos hp]
  have hi2 := a_T hv hi1 hp
  have HSk := a_0 (fun (X : World) (hb : Below (W.setCell ⟨P, 1, none⟩ (.int .i64 ((i + 1 : Nat) : Int))).heap.size (W.setCell ⟨P, 1, none⟩ (.int .i64 ((i + 1 : Nat) : Int))) X) => c_7 X P (some ⟨g, off, none⟩) ts c (i + 1) d ((HS.out.setAt (i + 1)).below hb) hi1 hlen 5 [40] hp)
  have HGX := a_0 (fun (X : World) (hb : Below (W.setCell ⟨P, 1, none⟩ (.int .i64 ((i + 1 : Nat) : Int))).heap.size (W.setCell ⟨P, 1, none⟩ (.int .i64 ((i + 1 : Nat) : Int))) X) => a_h (a_d (g_ W (some P)) 1 (.int .i64 ((i + 1 : Nat) : Int))) hb)
  clear hp
  go_enter func332, ntmps332
  go_wp2
  go_region
  go_wp2_with fail
  refine (HSk.out _ zX).mono ?_
  rintro e5 w5 ⟨rfl, hS5, hg5⟩
  have hc5 : w5.cell? ⟨W.heap.size, 1, none⟩ = some (str tk1) := hg5.cell (by go_simp) (by intro e; injection e with e; simp at e; omega)
  have HS5 := a_0 hS5
  have HG5 := a_0 ((HGX.out _ zX).trans hg5)
  have hz5 := hg5.size
  clear hS5 hg5 c0 c1 c2 c3 hfr t0 t1 t2 t3 HSk HGX
  go_wp2_with fail
  refine (HCl.out w5 tk1 i d HS5.out hi2 hd hsh o_).mono ?_
  intro e6 w6 h6
  obtain ⟨v, rfl⟩ := h6.ret
  have HR := a_0 (h6.up HG5.out)
  clear h6
  go_wp2
  exact p_f
 ·rw [if_neg hp]
  have hpb : ((0 : Int) == 0 && ((tk ts (i + 1)).kind == 5 && (tk ts (i + 1)).text == [40])) = false := by
   have : a_9 (tk ts (i + 1)) [40] = false := by simpa using hp
   exact this
  have HSk := a_0 (fun (X : World) (hb : Below (W.setCell ⟨P, 1, none⟩ (.int .i64 ((i + 1 : Nat) : Int))).heap.size (W.setCell ⟨P, 1, none⟩ (.int .i64 ((i + 1 : Nat) : Int))) X) => b_c X P (some ⟨g, off, none⟩) ts c (i + 1) d 0 ((HS.out.setAt (i + 1)).below hb) hi1 hlen 5 [40] hpb)
  have HGX := a_0 (fun (X : World) (hb : Below (W.setCell ⟨P, 1, none⟩ (.int .i64 ((i + 1 : Nat) : Int))).heap.size (W.setCell ⟨P, 1, none⟩ (.int .i64 ((i + 1 : Nat) : Int))) X) => And.intro (a_h (a_d (g_ W (some P)) 1 (.int .i64 ((i + 1 : Nat) : Int))) hb) ((HS.out.setAt (i + 1)).below hb))
  clear hp hpb
  go_enter func332, ntmps332
  go_wp2
  go_region
  go_wp2_with fail
  refine (HSk.out _ zX).mono ?_
  rintro e5 w5 ⟨rfl, hb5⟩
  have hc5 : w5.cell? ⟨W.heap.size, 1, none⟩ = some (str tk1) := (hb5.cell (p := ⟨W.heap.size, 1, none⟩) s_).trans (by go_simp)
  have HS5 := a_0 (PSt.below (HGX.out _ zX).2 hb5)
  have HG5 := a_0 (a_h (HGX.out _ zX).1 hb5)
  have hz5 := hb5.size
  simp at hz5
  have HO5 := a_0 (d_o w5 (base := W.heap.size) (e := 116) (size := 6) (n := 1) (cur := #[.int .i64 1, .int .i64 0, .int .i64 0, str [], str tk1, .int .i64 0]) o_ s_ d_)
  clear hb5 c0 c1 c2 c3 hfr t0 t1 t2 t3 HSk HGX
  go_wp2
  go_ret
  exact ⟨a_h HG5.out zX, ⟨_, 1, v_, HO5.out⟩, HS5.out.below zX⟩
end
section
open Go.RowKit Go.WideMaps Go.Maps
def q_s (x : a_3) : Int := if x = m_0 then 20 else match f_c x with
 | some (o, _) => o
 | none => 0
theorem u_x (x : a_3) : biD.atKey (.string x) (.lit (.int .i64 0)) = .lit (.int .i64 (q_s x)) := by
 rw [q_t]
 by_cases h1 : x = m_0
 ·subst h1; rfl
 by_cases h2 : x = [105, 102]
 ·subst h2; rfl
 by_cases h3 : x = [99, 111, 97, 108, 101, 115, 99, 101]
 ·subst h3; rfl
 by_cases h4 : x = [105, 115, 110, 117, 108, 108]
 ·subst h4; rfl
 by_cases h5 : x = [108, 101, 110, 103, 116, 104]
 ·subst h5; rfl
 have e1 : (([100, 97, 121] : a_3) == x) = false := beq_eq_false_iff_ne.2 (fun e => h1 e.symm)
 have e2 : (([105, 102] : a_3) == x) = false := beq_eq_false_iff_ne.2 (fun e => h2 e.symm)
 have e3 : (([99, 111, 97, 108, 101, 115, 99, 101] : a_3) == x) = false := beq_eq_false_iff_ne.2 (fun e => h3 e.symm)
 have e4 : (([105, 115, 110, 117, 108, 108] : a_3) == x) = false := beq_eq_false_iff_ne.2 (fun e => h4 e.symm)
 have e5 : (([108, 101, 110, 103, 116, 104] : a_3) == x) = false := beq_eq_false_iff_ne.2 (fun e => h5 e.symm)
 simp [DataW.atKey, d_A, e1, e2, e3, e4, e5, q_s, f_c, h1, h2, h3, h4, h5]
theorem k_t (x : a_3) (h : x ≠ m_0) : biB x = (f_c x).isSome := by
 have h1 : (x == m_0) = false := beq_eq_false_iff_ne.2 h
 unfold biB k_N g_a f_c
 rw [Bool.eq_iff_iff]
 unfold m_0 at h
 simp
 grind
set_option maxRecDepth 100000
theorem n_n {w : World} {B : Nat} (h : w.ownsMap prog 9 (plainElem prog 3) B 5 biD) (x : a_3) (hs : x.length ≤ maxLen) :
  (Instr.lookup 152 (.map (some B)) (str x) true).run prog w = .ok (.tuple #[.int .i64 (q_s x), .bool (biB x)]) w := by
 obtain ⟨c, hrun, hc⟩ := n_X h ⟨x.toArray⟩ (by show x.toArray.size ≤ _; simpa using hs)
 have e : bs ⟨x.toArray⟩ = x := rfl
 rw [e] at hrun hc
 rw [u_x] at hc
 have hc3 : q_s x = c := by injection hc with hc; injection hc
 subst hc3
 exact hrun
set_option maxRecDepth 512
theorem l_1 {w : World} {N : Nat} {a0 a1 a2 a3 a4 a5 : Value} {T : TypeId} (h : w.heap[N]? = some (.cells #[a0, a1, a2, a3, a4, a5] T (0, 0))) (b0 b1 b2 b3 b4 b5 : Value) :
  ((((((w.setCell ⟨N, 0, none⟩ b0).setCell ⟨N, 1, none⟩ b1).setCell ⟨N, 2, none⟩ b2).setCell ⟨N, 3, none⟩ b3).setCell ⟨N, 4, none⟩ b4).setCell ⟨N, 5, none⟩ b5).heap[N]? = some (.cells #[b0, b1, b2, b3, b4, b5] T (0, 0)) := by
 have h0 := heap_setCell_same w N 0 _ _ b0 h
 have h1 := heap_setCell_same _ N 1 _ _ b1 h0
 have h2 := heap_setCell_same _ N 2 _ _ b2 h1
 have h3 := heap_setCell_same _ N 3 _ _ b3 h2
 have h4 := heap_setCell_same _ N 4 _ _ b4 h3
 have h5 := heap_setCell_same _ N 5 _ _ b5 h4
 simpa using h5
theorem p_S {W : World} {o : Obj} {B : Nat} (h : W.heap.size = B) : (W.alloc o).heap[B]? = some o := by subst h; exact heap_alloc_new W o
theorem k_7 (w : World) (N : Nat) (b0 b1 b2 b3 b4 b5 : Value) :
  w.grownBy ((((((w.setCell ⟨N, 0, none⟩ b0).setCell ⟨N, 1, none⟩ b1).setCell ⟨N, 2, none⟩ b2).setCell ⟨N, 3, none⟩ b3).setCell ⟨N, 4, none⟩ b4).setCell ⟨N, 5, none⟩ b5) (some N) :=
 a_d (a_d (a_d (a_d (a_d (a_d (g_ w (some N)) 0 b0) 1 b1) 2 b2) 3 b3) 4 b4) 5 b5
theorem d_t {W : World} {B : Nat} {a b c d e f : Value} {t : TypeId} (h : W.heap[B]? = some (.cells #[a, b, c, d, e, f] t (0, 0))) :
  W.cell? ⟨B, 0, none⟩ = some a ∧ W.cell? ⟨B, 1, none⟩ = some b ∧ W.cell? ⟨B, 2, none⟩ = some c ∧ W.cell? ⟨B, 3, none⟩ = some d ∧ W.cell? ⟨B, 4, none⟩ = some e ∧ W.cell? ⟨B, 5, none⟩ = some f := by
 simp [World.cell?, h]
theorem m_d {W : World} {B : Nat} {cs : Array Value} {t : TypeId} (h : W.heap[B]? = some (.cells cs t (0, 0))) (o : Nat) : W.frozen? ⟨B, o, none⟩ = false := by
 simp [World.frozen?, h]
def s_Z (P : Nat) (w : World) : Nat := match w.cell? ⟨P, 1, none⟩ with
 | some (.int _ a) => a.toNat
 | _ => 0
theorem j_A {T : TypeId} {w : World} {P : Nat} {A : Option Addr} {ts : List Tok} {c i d : Nat} {e : Int} (h : PSt T w P A ts c i d e) : s_Z P w = i := by
 obtain ⟨c0, c1, c2, c3⟩ := h.cells
 unfold s_Z
 rw [c1]
 simp
def d_J (v : Value) : Nat := match v with
 | .bool true => 1
 | _ => 0
set_option maxRecDepth 100000
theorem p_w (F P : Nat) (A : Option Addr) (ts : List Tok) (c : Nat) (hv : a_O ts = true) (hlen : ts.length ≤ 1000000) (hO : LvC 267 F 0 P A ts c) (W : World) (x : a_3) (o : Int) (a : Nat) (hbs : f_c x = some (o, a)) (i d : Nat) (hS : PSt XT W P A ts c (i + 2) d 0) (hi : i + 2 < ts.length) (hd : d ≤ i) (hx : x.length ≤ 64) (hF : (ts.length - (i + 2)) * 10 + 9 ≤ F) (hday : x ≠ m_0) :
  Calls prog 338 #[.pointer (some ⟨P, 0, none⟩), str x] W (d_e XT W P A ts c i d (e_G (fun l i d => prs ts F l i d) ts x (i + 2) (d + 1))) := by
 refine v_1 ?_; intro hP hR
 rw [hR]
 clear hR
 have hBi : biB x = true := by rw [k_t x hday, hbs]; rfl
 have hOp : q_s x = o := by unfold q_s; rw [if_neg hday, hbs]
 have ho : (o == 20) = false ∧ 0 ≤ o ∧ c_B o 0 = (a : Int) ∧ a ≤ 3 := by
  unfold f_c at hbs
  split at hbs
  ·injection hbs with hbs; injection hbs with h1 h2; subst h1 h2; exact ⟨d_, d_, d_, d_⟩
  split at hbs
  ·injection hbs with hbs; injection hbs with h1 h2; subst h1 h2; exact ⟨d_, d_, d_, d_⟩
  split at hbs
  ·injection hbs with hbs; injection hbs with h1 h2; subst h1 h2; exact ⟨d_, d_, d_, d_⟩
  split at hbs
  ·injection hbs with hbs; injection hbs with h1 h2; subst h1 h2; exact ⟨d_, d_, d_, d_⟩
  ·cases hbs
 obtain ⟨ho20, _, har, ha3⟩ := ho
 have HAr := a_0 har
 clear har
 refine v_0 ?_; intro hfact HFa
 have hne : (if a_9 (tk ts (i + 2)) [41] = true then g_g x [] 0 (i + 2) else d_f (fun j => prs ts F 0 j (d + 1)) x ts ts.length [] 0 (i + 2)) ≠ .out := by
  split
  ·exact i_3
  ·exact f_v hv hfact _ _ _ _ hi o_ (fun j hj hjl => e_n hv F 0 j (d + 1) hjl o_ (fun e => absurd e o_) o_)
 have HS := a_0 hS
 have HO := a_0 hO
 have HBs := a_0 hbs
 clear hS hO hfact hbs
 have HOr := a_0 (show ∀ (X : World) (j : Nat), PSt XT X P A ts c j (d + 1) 0 → j < ts.length → i + 2 ≤ j → Calls prog 267 #[.pointer (some ⟨P, 0, none⟩)] X (fun e2 w2 => ∃ (B2 : Option Addr) (n2 : Nat) (fs : List Nd) (k d2 : Nat) (x2 : Int), e2 = .returned (.slice B2 fs.length n2) ∧ w2.ownsRow X.heap.size 116 6 (.slice B2 fs.length n2) fs.length (a_a fs) ∧ PSt XT w2 P A ts c k d2 x2 ∧ X.grownBy w2 (some P) ∧ j ≤ k ∧ k < ts.length ∧ fs.length ≤ k - j ∧
   ((x2 = 0 ∧ d2 = d + 1 ∧ j < k ∧ prs ts F 0 j (d + 1) = .ok fs k) ∨ (x2 ≠ 0 ∧ prs ts F 0 j (d + 1) = .err x2 k ∧ d + 1 ≤ d2 ∧ d2 ≤ k))) from fun X j hx hj hij =>
  (HO.out X j (d + 1) hx hj o_ (fun e => absurd e o_) o_).mono fun e2 w2 h => a_C (HFa.out j hj) h)
 generalize hq : (fun j => prs ts F 0 j (d + 1)) = q at *
 refine q_F ?_; intro HQ
 clear hq HO
 generalize hRR : (if a_9 (tk ts (i + 2)) [41] = true then g_g x [] 0 (i + 2) else d_f q x ts ts.length [] 0 (i + 2)) = R at *
 have HR := a_0 hRR
 clear hRR
 refine u_b ?_; intro HYB
 have HPY := a_0 (show ∀ w1 : World, Below (W.alloc (.cells #[.int .i64 21, .int .i64 0, .int .i64 0, str [], str x, .int .i64 0] 116)).heap.size (W.alloc (.cells #[.int .i64 21, .int .i64 0, .int .i64 0, str [], str x, .int .i64 0] 116)) w1 →
   PSt XT (((((((w1.setCell ⟨W.heap.size, 0, none⟩ (.int .i64 o)).setCell ⟨W.heap.size, 1, none⟩ (.int .i64 0)).setCell ⟨W.heap.size, 2, none⟩ (.int .i64 0)).setCell ⟨W.heap.size, 3, none⟩ (str [])).setCell ⟨W.heap.size, 4, none⟩ (str [])).setCell ⟨W.heap.size, 5, none⟩ (.int .i64 0)).setCell ⟨P, 2, none⟩ (.int .i64 ((d + 1 : Nat) : Int))) P A ts c (i + 2) (d + 1) 0 ∧ W.grownBy (((((((w1.setCell ⟨W.heap.size, 0, none⟩ (.int .i64 o)).setCell ⟨W.heap.size, 1, none⟩ (.int .i64 0)).setCell ⟨W.heap.size, 2, none⟩ (.int .i64 0)).setCell ⟨W.heap.size, 3, none⟩ (str [])).setCell ⟨W.heap.size, 4, none⟩ (str [])).setCell ⟨W.heap.size, 5, none⟩ (.int .i64 0)).setCell ⟨P, 2, none⟩ (.int .i64 ((d + 1 : Nat) : Int))) (some P) ∧ (((((((w1.setCell ⟨W.heap.size, 0, none⟩ (.int .i64 o)).setCell ⟨W.heap.size, 1, none⟩ (.int .i64 0)).setCell ⟨W.heap.size, 2, none⟩ (.int .i64 0)).setCell ⟨W.heap.size, 3, none⟩ (str [])).setCell ⟨W.heap.size, 4, none⟩ (str [])).setCell ⟨W.heap.size, 5, none⟩ (.int .i64 0)).setCell ⟨P, 2, none⟩ (.int .i64 ((d + 1 : Nat) : Int))).heap[W.heap.size]? = some (.cells (c_3 o).cells.toArray 116 (0, 0)) from fun w1 hb => by
  refine v_8 ?_; intro h1 h2 h3
  have h4 := k_7 w1 W.heap.size (.int .i64 o) (.int .i64 0) (.int .i64 0) (str []) (str []) (.int .i64 0)
  refine ⟨(h1.gr h4 (fun j hj => by injection hj with hj; omega)).setDepth (d + 1), a_d (h2.andThen h4 (fun j hj => .inl (by injection hj with hj; omega))) 2 _, ?_⟩
  rw [Below.heap_setCell _ _ _ _ m_]
  exact l_1 h3 _ _ _ _ _ _)
 refine _ag ?_; intro i0 hi0 hz0 hz1 hz2
 go_enter func338, ntmps338
 go_wp2_with (go_at_call 160; refine (e_a _).mono ?_; rintro e w1 ⟨⟨B, rfl, hown, hB1, hB2⟩, hb1⟩; have hrun := n_n hown x x_; obtain ⟨n0, n1, n2, n3, n4, n5⟩ := d_t (HYB.out w1 hb1); have hfn := m_d (HYB.out w1 hb1); have hs1 := (HS.out.below (Below.alloc (b_ _ W) (l_ _) _)).below hb1; obtain ⟨c0, c1, c2, c3⟩ := hs1.cells; have hfp := hs1.free; have hPW := HPY.out w1 hb1; have HPW := a_0 hPW; clear hPW hs1 hown)
 refine (k_w _ P A ts c (i + 2) (d + 1) 0 HPW.out.1 hi hlen 5 [41]).mono ?_
 obtain ⟨b0, hb0, HD0⟩ : ∃ b0 : Bool, ((0 : Int) == 0 && ((tk ts (i + 2)).kind == 5 && (tk ts (i + 2)).text == [41])) = b0 ∧ Hid ((b0 = false ∧ ∃ G, d_f q x ts G [] 0 (i + 2) = R) ∨ (b0 = true ∧ R = (if a_9 (tk ts (i + 2)) [41] = true then g_g x [] 0 (i + 2) else .err 3 (i + 2)))) := by
  have hr := HR.out
  by_cases hs : a_9 (tk ts (i + 2)) [41] = true
  ·rw [if_pos hs] at hr
   exact ⟨true, hs, a_0 (.inr ⟨rfl, by rw [if_pos hs]; exact hr.symm⟩)⟩
  ·rw [if_neg hs] at hr
   exact v_i
 rw [hb0]
 clear hb0 HR
 rintro e w2 ⟨rfl, hb2⟩
 refine u_r ?_; intro HS2 HG2 hn2 hz2' HN2
 clear hn2 hb2 HPW c0 c1 c2 c3 hfp n0 n1 n2 n3 n4 n5 hfn hrun hb1 hB1 hB2 HPY HYB
 go_wp2
 go_loopw [8, 9, 10] (fun s n m wr => ∃ (B : Option Addr) (nn : Nat) (es : List Nd) (k j d' : Nat) (e : Int) (b : Bool), s = .slice B es.length nn ∧ n = .int .i64 (k : Int) ∧ m = .bool b ∧ Hid (wr.ownsRow (W.heap.size + 1) 116 6 (.slice B es.length nn) es.length (a_a es)) ∧ Hid (PSt XT wr P A ts c j d' e) ∧ Hid (W.grownBy wr (some P)) ∧ Hid (wr.heap[W.heap.size]? = some (.cells (c_3 o).cells.toArray 116 (0, 0))) ∧ W.heap.size + 1 ≤ wr.heap.size ∧ i + 2 ≤ j ∧ j < ts.length ∧ es.length ≤ j - i ∧ k ≤ j + 1 ∧ Hid ((b = true ∧ e = 0 ∧ d' = d + 1 ∧ k ≤ j ∧ ∃ G, d_f q x ts G es k j = R) ∨ (b = false ∧ e = 0 ∧ d' = d + 1 ∧ R = (if a_9 (tk ts j) [41] = true then g_g x es k j else .err 3 j)) ∨ (b = false ∧ e ≠ 0 ∧ R = .err e j ∧ d + 1 ≤ d' ∧ d' ≤ j))) (fun _ _ m wr => 2 * (ts.length - s_Z P wr) + d_J m)
 case atStart =>
  refine ⟨none, 0, [], 0, i + 2, d + 1, 0, !b0, rfl, rfl, rfl, a_0 (a_o _ _ _ _), HS2, HG2, HN2, hz2', l_ _, hi, s_, o_, a_0 ?_⟩
  rcases HD0.out with ⟨rfl, h⟩ | ⟨rfl, h⟩
  ·exact .inl ⟨rfl, rfl, rfl, o_, h⟩
  ·exact .inr (.inl ⟨rfl, rfl, rfl, h⟩)
 case round =>
  clear HS2 HG2 HN2 hz2' HD0
  obtain ⟨B, nn, es, k, j, d', e, b, rfl, rfl, rfl, HOw, HSr, HGr, HNr, hzr, hij, hjl, hel, hkj, HD⟩ := hrel
  refine t_M ?_; intro c0 c1 c2 c3 hPr hfr
  have hatr := j_A HSr.out
  cases b with
  | true =>
   rcases HD.out with ⟨_, rfl, rfl, hkj2, G, hG⟩ | ⟨h, _⟩ | ⟨h, _⟩
   rotate_left
   ·cases h
   ·cases h
   have hG2 : (q j).bind (fun fs k2 => if a_9 (tk ts k2) [44] = true then d_f q x ts (G - 1) (es ++ fs) (k + 1) (k2 + 1) else if a_9 (tk ts k2) [41] = true then g_g x (es ++ fs) (k + 1) k2 else .err 3 k2) = R := by
    cases G with
    | zero => exact absurd hG.symm hne
    | succ G => exact hG
   clear hG HD
   go_wp2_with fail
   refine (HOr.out wr j HSr.out hjl hij).mono ?_; rw [HQ.out j]; rintro e2 w2 ⟨B2, n2, fs, k2, d2, x2, rfl, ho2, hS2, hg2, hjk, hkl, hfl, hD2⟩; refine u_O ?_; intro hoe HN2 HS2 HG2 HD2 hgw; clear hS2 hg2 hD2 c0 c1 c2 c3 hfr hPr
   rcases d_h ho2 with ⟨rfl, hf0, rfl⟩ | ⟨g2, rfl⟩
   ·obtain rfl : fs = [] := List.eq_nil_of_length_eq_zero hf0
    clear ho2 hf0; simp only [List.length_nil] at *
    go_wp2_with (at_builtin; refine wpList_append_own_none rfl _ _ _ rfl _ 116 i0 6 underlying25 hi0 _ _ _ rfl hoe rfl ?_)
    obtain ⟨B3, hB3⟩ : ∃ B3, B3 = B := ⟨B, rfl⟩; obtain ⟨n3, hn3⟩ : ∃ n3, n3 = nn := ⟨nn, rfl⟩; obtain ⟨w3, hw3⟩ : ∃ w3, w3 = w2 := ⟨w2, rfl⟩; rw [← hB3, ← hn3] at hoe; rw [← hw3] at hoe HS2 HG2 HN2 hgw; rw [← hB3, ← hn3, ← hw3]; clear hB3 hn3 hw3; refine v_Y ?_; intro HO3 HS3 HG3 HN3; clear hoe HS2 HG2 HN2; have hk3 : (es ++ []).length ≤ k2 - i := by simp only [List.length_append, List.length_nil]; omega
    by_cases hx2 : x2 = 0
    ·rcases HD2.out with ⟨_, hdd, hjk2, hr⟩ | ⟨h, _⟩
     rotate_left
     ·exact absurd hx2 h
     subst hx2 hdd; rw [hr] at hG2; simp only [PR.bind] at hG2
     by_cases hs4 : a_9 (tk ts k2) [44] = true
     ·rw [if_pos hs4] at hG2
      refine r_Z ?_; intro hk1 HE; clear hG2; refine (c_7 w3 P A ts c k2 (d + 1) HS3.out hkl hlen 5 [44] hs4).mono ?_; rintro e5 w5 ⟨rfl, hS5, hg5⟩; refine _ab ?_; intro HO5 HN5 HS5 HG5 hz5; clear hS5 hg5 hs4
      go_wp2
      refine _an ?_; intro hat; refine ⟨⟨B3, n3, es ++ [], k + 1, k2 + 1, d + 1, 0, true, v_, t_, rfl, HO5, HS5, HG5, HN5, o_, o_, hk1, o_, o_, a_0 (.inl ⟨rfl, rfl, rfl, o_, _, HE.out⟩)⟩, ?_⟩; rw [hat, hatr]; simp only [d_J]
      omega
     ·rw [if_neg hs4] at hG2
      have HE := a_0 hG2
      have hsb : ((0 : Int) == 0 && ((tk ts k2).kind == 5 && (tk ts k2).text == [44])) = false := by
       exact s_6
      clear hG2 hs4; refine (b_c w3 P A ts c k2 (d + 1) 0 HS3.out hkl hlen 5 [44] hsb).mono ?_; rintro e5 w5 ⟨rfl, hb5⟩; refine n_1 ?_; intro HO5 HN5 HS5 HG5 hz5; clear hsb
      go_wp2
      refine _an ?_; intro hat; refine ⟨⟨B3, n3, es ++ [], k + 1, k2, d + 1, 0, false, v_, t_, rfl, HO5, HS5, HG5, HN5, o_, o_, hkl, hk3, o_, a_0 (.inr (.inl ⟨rfl, rfl, rfl, HE.out.symm⟩))⟩, ?_⟩; rw [hat, hatr]; simp only [d_J]
      omega
    ·rcases HD2.out with ⟨h, _⟩ | ⟨_, hr, hd4, hd5⟩
     ·exact absurd h hx2
     rw [hr] at hG2; simp only [PR.bind] at hG2; refine r_X ?_; intro HE hsb; clear hG2; refine (b_c w3 P A ts c k2 d2 x2 HS3.out hkl hlen 5 [44] hsb).mono ?_; rintro e5 w5 ⟨rfl, hb5⟩; refine n_1 ?_; intro HO5 HN5 HS5 HG5 hz5; clear hsb
     go_wp2
     refine _an ?_; intro hat; refine ⟨⟨B3, n3, es ++ [], k + 1, k2, d2, x2, false, v_, t_, rfl, HO5, HS5, HG5, HN5, o_, o_, hkl, hk3, o_, a_0 (.inr (.inr ⟨rfl, hx2, HE.out.symm, hd4, hd5⟩))⟩, ?_⟩; rw [hat, hatr]; simp only [d_J]
     omega
   ·have hcf := (b_q ho2).2.2
    clear ho2
    go_wp2_with (at_builtin; refine wpList_append_own _ rfl _ _ 25 rfl (W.heap.size + 1) 116 i0 _ 6 64 underlying25 hi0 hz0 hz1 hz2 rfl d_ _ _ _ rfl hoe ⟨g2, 0, none⟩ fs.length n2 (a_a fs) rfl (b_4 _) hcf (e_d _) x_ o_ o_ ?_; intro v3 w3 o3 g3 _; obtain ⟨B3, n3, rfl⟩ := a_i o3; have HS3 := a_0 (HS2.out.gr g3 (fun j hj => by have := (hoe.lt j hj).1; omega)); have HG3 := a_0 (HG2.out.andThen g3 (fun j hj => .inl (by have := (hoe.lt j hj).1; omega))); have HN3 := a_0 ((g3.block W.heap.size (Array.getElem?_eq_some_iff.1 HN2.out).1 (by intro e; have := (hoe.lt W.heap.size e.symm).1; omega)).trans HN2.out); have hz3 := g3.size; have HO3 := a_0 (show w3.ownsRow (W.heap.size + 1) 116 6 (.slice B3 (es ++ fs).length n3) (es ++ fs).length (a_a (es ++ fs)) from by rw [b_v, List.length_append]; exact o3); clear hcf g3 o3 hoe HS2 HG2 HN2)
    have hk3 : (es ++ fs).length ≤ k2 - i := by simp only [List.length_append, List.length_nil]; omega
    by_cases hx2 : x2 = 0
    ·rcases HD2.out with ⟨_, hdd, hjk2, hr⟩ | ⟨h, _⟩
     rotate_left
     ·exact absurd hx2 h
     subst hx2 hdd; rw [hr] at hG2; simp only [PR.bind] at hG2
     by_cases hs4 : a_9 (tk ts k2) [44] = true
     ·rw [if_pos hs4] at hG2
      refine r_Z ?_; intro hk1 HE; clear hG2; refine (c_7 w3 P A ts c k2 (d + 1) HS3.out hkl hlen 5 [44] hs4).mono ?_; rintro e5 w5 ⟨rfl, hS5, hg5⟩; refine _ab ?_; intro HO5 HN5 HS5 HG5 hz5; clear hS5 hg5 hs4
      go_wp2
      refine _an ?_; intro hat; refine ⟨⟨B3, n3, es ++ fs, k + 1, k2 + 1, d + 1, 0, true, v_, t_, rfl, HO5, HS5, HG5, HN5, o_, o_, hk1, o_, o_, a_0 (.inl ⟨rfl, rfl, rfl, o_, _, HE.out⟩)⟩, ?_⟩; rw [hat, hatr]; simp only [d_J]
      omega
     ·rw [if_neg hs4] at hG2
      have HE := a_0 hG2
      have hsb : ((0 : Int) == 0 && ((tk ts k2).kind == 5 && (tk ts k2).text == [44])) = false := by
       exact s_6
      clear hG2 hs4; refine (b_c w3 P A ts c k2 (d + 1) 0 HS3.out hkl hlen 5 [44] hsb).mono ?_; rintro e5 w5 ⟨rfl, hb5⟩; refine n_1 ?_; intro HO5 HN5 HS5 HG5 hz5; clear hsb
      go_wp2
      refine _an ?_; intro hat; refine ⟨⟨B3, n3, es ++ fs, k + 1, k2, d + 1, 0, false, v_, t_, rfl, HO5, HS5, HG5, HN5, o_, o_, hkl, hk3, o_, a_0 (.inr (.inl ⟨rfl, rfl, rfl, HE.out.symm⟩))⟩, ?_⟩; rw [hat, hatr]; simp only [d_J]
      omega
    ·rcases HD2.out with ⟨h, _⟩ | ⟨_, hr, hd4, hd5⟩
     ·exact absurd h hx2
     rw [hr] at hG2; simp only [PR.bind] at hG2; refine r_X ?_; intro HE hsb; clear hG2; refine (b_c w3 P A ts c k2 d2 x2 HS3.out hkl hlen 5 [44] hsb).mono ?_; rintro e5 w5 ⟨rfl, hb5⟩; refine n_1 ?_; intro HO5 HN5 HS5 HG5 hz5; clear hsb
     go_wp2
     refine _an ?_; intro hat; refine ⟨⟨B3, n3, es ++ fs, k + 1, k2, d2, x2, false, v_, t_, rfl, HO5, HS5, HG5, HN5, o_, o_, hkl, hk3, o_, a_0 (.inr (.inr ⟨rfl, hx2, HE.out.symm, hd4, hd5⟩))⟩, ?_⟩; rw [hat, hatr]; simp only [d_J]
     omega
  | false =>
   obtain ⟨d3, rfl⟩ : ∃ d3, d' = d3 + 1 := ⟨d' - 1, by
    rcases HD.out with ⟨h, _⟩ | ⟨_, _, h, _⟩ | ⟨_, _, _, h, _⟩
    ·cases h
    ·omega
    ·omega⟩
   have hdd4 : d ≤ d3 ∧ d3 ≤ j := by
    rcases HD.out with ⟨h, _⟩ | ⟨_, _, h, _⟩ | ⟨_, _, _, h1, h2⟩
    ·cases h
    ·omega
    ·omega
   refine u_M ?_; intro hd3 HS4 HG4; have HO4 := a_0 (a_v HOw.out (a_d (g_ wr (some P)) 2 (.int .i64 (d3 : Int))) o_); have HN4 := a_0 (show (wr.setCell ⟨P, 2, none⟩ (.int .i64 (d3 : Int))).heap[W.heap.size]? = some (.cells (c_3 o).cells.toArray 116 (0, 0)) from (Below.heap_setCell _ _ _ _ m_).trans HNr.out); refine u_B ?_; intro hX4; obtain ⟨X4, hX4⟩ := hX4; rw [← hX4] at HS4 HG4 HO4 HN4; have HX4 := a_0 hX4.symm; clear hX4; refine u_3 ?_; intro hz4
   by_cases he : e = 0
   rotate_left
   ·rcases HD.out with ⟨h, _⟩ | ⟨_, h, _⟩ | ⟨_, _, hE, _⟩
    ·cases h
    ·exact absurd h he
    refine t_y ?_; intro HE hsb; clear hE
    go_wp2_with fail
    rw [HX4.out]; refine (k_w X4 P A ts c j d3 e HS4.out hjl hlen 5 [41]).mono ?_; rw [hsb]; rintro e5 w5 ⟨rfl, hb5⟩; refine p_6 ?_; intro HS5 HG5; clear hsb c0 c1 c2 c3 hfr
    go_wp2_with fail
    refine (f_F w5 P A ts c j d3 e HS5.out he 3).mono ?_; rintro e6 w6 ⟨rfl, hb6⟩; have HS6 := a_0 (HS5.out.below hb6); have HG6 := a_0 (a_h HG5.out hb6)
    go_wp2
    exact v_c
   subst he
   have hRR : R = (if a_9 (tk ts j) [41] = true then g_g x es k j else .err 3 j) := by
    rcases HD.out with ⟨h, _⟩ | ⟨_, _, _, h⟩ | ⟨_, h, _⟩
    ·cases h
    ·exact h
    ·exact absurd rfl h
   have hd33 : d3 = d := by
    rcases HD.out with ⟨h, _⟩ | ⟨_, _, h, _⟩ | ⟨_, h, _⟩
    ·cases h
    ·omega
    ·exact absurd rfl h
   have HD33 := a_0 hd33; clear hd33
   by_cases hs : a_9 (tk ts j) [41] = true
   rotate_left
   ·rw [if_neg hs] at hRR
    have HE := a_0 hRR
    have hsb : ((0 : Int) == 0 && ((tk ts j).kind == 5 && (tk ts j).text == [41])) = false := by
     exact u_W
    clear hRR hs
    go_wp2_with fail
    rw [HX4.out]; refine (k_w X4 P A ts c j d3 0 HS4.out hjl hlen 5 [41]).mono ?_; rw [hsb]; rintro e5 w5 ⟨rfl, hb5⟩; refine p_6 ?_; intro HS5 HG5; clear hsb c0 c1 c2 c3 hfr
    go_wp2_with fail
    refine (d_T w5 P A ts c j d3 HS5.out 3).mono ?_; rintro e8 w8 ⟨rfl, hS8, hg8⟩; have HS8 := a_0 hS8; have HG8 := a_0 ((HG5.out).trans hg8); clear hS8 hg8
    go_wp2
    exact s_b
   rw [if_pos hs] at hRR; have hj1 := a_T hv hjl hs; refine u_K ?_; intro hst; have HRR := a_0 hRR; clear hs HD hRR
   go_wp2_with fail
   rw [HX4.out]; refine (k_w X4 P A ts c j d3 0 HS4.out hjl hlen 5 [41]).mono ?_; rw [hst]; rintro e5 w5 ⟨rfl, hb5⟩; refine p_6 ?_; intro HS5 HG5; have HO5 := a_0 (a_8 HO4.out hb5); refine u_p ?_; intro hn5 HN5 hz5; clear hst c0 c1 c2 c3 hfr hn5 HX4 HS4 HG4 HO4 HN4 HSr HGr HOw HNr hatr; have hRR := HRR.out; clear HRR; unfold g_g h_3 at hRR; rw [HBs.out] at hRR; simp only at hRR
   by_cases hka : k = a
   rotate_left
   ·rw [if_neg hka] at hRR
    have HE := a_0 hRR; clear hRR; obtain ⟨n0, n1, n2, n3, n4, n5⟩ := d_t HN5.out; have hkb : ((k : Int) != (a : Int)) = true := by simp; omega
    go_wp2_with (go_at_call 92; refine (b_N o 0 0 0 ⟨#[]⟩ ⟨#[]⟩ _).mono ?_; rw [HAr.out]; rintro e6 w6 ⟨rfl, hb6⟩)
    clear n0 n1 n2 n3 n4 n5 hkb; refine (d_T w6 P A ts c j d3 (HS5.out.below hb6) 3).mono ?_; rintro e8 w8 ⟨rfl, hS8, hg8⟩; have HS8 := a_0 hS8; have HG8 := a_0 ((a_h HG5.out hb6).trans hg8); clear hS8 hg8
    go_wp2
    exact s_b
   rw [if_pos hka] at hRR; subst hka; have HE := a_0 hRR; clear hRR; obtain ⟨n0, n1, n2, n3, n4, n5⟩ := d_t HN5.out
   go_wp2_with (first
    | (go_at_call 92; refine (b_N o 0 0 0 ⟨#[]⟩ ⟨#[]⟩ _).mono ?_; rw [HAr.out]; rintro e6 w6 ⟨rfl, hb6⟩; obtain ⟨n0, n1, n2, n3, n4, n5⟩ := d_t ((hb6.block W.heap.size o_).trans HN5.out); have hS6 := HS5.out.below hb6; obtain ⟨c0, c1, c2, c3⟩ := hS6.cells; have hfr := hS6.free; have hP6 := hS6.lt; have HS6 := a_0 (hS6.setAt (j + 1)); have HG6 := a_0 (a_d (a_h HG5.out hb6) 1 (.int .i64 ((j + 1 : Nat) : Int))); have HO6 := a_0 (a_v (a_8 HO5.out hb6) (a_d (g_ w6 (some P)) 1 (.int .i64 ((j + 1 : Nat) : Int))) o_); have hz6 := hb6.size; clear hS6)
    | (at_builtin; refine wpList_append_own _ rfl _ _ 25 rfl (W.heap.size + 1) 116 i0 _ 6 64 underlying25 hi0 hz0 hz1 hz2 rfl d_ _ _ _ rfl (HO6.out.alloc _) ⟨w6.heap.size, 0, none⟩ 1 1 [.int .i64 o, .int .i64 0, .int .i64 0, str [], str [], .int .i64 0] rfl rfl (by exact b_h (p_S s_)) c_ x_ o_ m_ ?_; intro v7 w7 o7 g7 _; obtain ⟨B7, n7, rfl⟩ := a_i o7; have HS7 := a_0 ((HS6.out.below (Below.alloc (b_ _ _) (l_ _) _)).gr g7 (fun j hj => by have := (HO6.out.lt j hj).1; omega)); have HG7 := a_0 ((a_h HG6.out (Below.alloc (b_ _ _) (l_ _) _)).andThen g7 (fun j hj => .inl (by have := (HO6.out.lt j hj).1; omega))); have HO7 := a_0 (d_5 (nd := (c_3 o)) o7); clear o7 g7))
   exact v_V
theorem q_g (F P : Nat) (A : Option Addr) (ts : List Tok) (c : Nat) (hv : a_O ts = true) (hlen : ts.length ≤ 1000000) (hO : LvC 267 F 0 P A ts c) (W : World) (x : a_3) (hbs : f_c x = none) (i d : Nat) (hS : PSt XT W P A ts c (i + 2) d 0) (hi : i + 2 < ts.length) (hd : d ≤ i) (hx : x.length ≤ 64) (hF : (ts.length - (i + 2)) * 10 + 9 ≤ F) (hday : x ≠ m_0) :
  Calls prog 338 #[.pointer (some ⟨P, 0, none⟩), str x] W (d_e XT W P A ts c i d (e_G (fun l i d => prs ts F l i d) ts x (i + 2) (d + 1))) := by
 refine v_1 ?_; intro hP hR
 rw [hR]
 clear hR
 have hBi : biB x = false := by rw [k_t x hday, hbs]; rfl
 have hOp : q_s x = 0 := by unfold q_s; rw [if_neg hday, hbs]
 refine v_0 ?_; intro hfact HFa
 have hne : (if a_9 (tk ts (i + 2)) [41] = true then g_g x [] 0 (i + 2) else d_f (fun j => prs ts F 0 j (d + 1)) x ts ts.length [] 0 (i + 2)) ≠ .out := by
  split
  ·exact i_3
  ·exact f_v hv hfact _ _ _ _ hi o_ (fun j hj hjl => e_n hv F 0 j (d + 1) hjl o_ (fun e => absurd e o_) o_)
 have HS := a_0 hS
 have HO := a_0 hO
 have HBs := a_0 hbs
 clear hS hO hfact hbs
 have HOr := a_0 (show ∀ (X : World) (j : Nat), PSt XT X P A ts c j (d + 1) 0 → j < ts.length → i + 2 ≤ j → Calls prog 267 #[.pointer (some ⟨P, 0, none⟩)] X (fun e2 w2 => ∃ (B2 : Option Addr) (n2 : Nat) (fs : List Nd) (k d2 : Nat) (x2 : Int), e2 = .returned (.slice B2 fs.length n2) ∧ w2.ownsRow X.heap.size 116 6 (.slice B2 fs.length n2) fs.length (a_a fs) ∧ PSt XT w2 P A ts c k d2 x2 ∧ X.grownBy w2 (some P) ∧ j ≤ k ∧ k < ts.length ∧ fs.length ≤ k - j ∧
   ((x2 = 0 ∧ d2 = d + 1 ∧ j < k ∧ prs ts F 0 j (d + 1) = .ok fs k) ∨ (x2 ≠ 0 ∧ prs ts F 0 j (d + 1) = .err x2 k ∧ d + 1 ≤ d2 ∧ d2 ≤ k))) from fun X j hx hj hij =>
  (HO.out X j (d + 1) hx hj o_ (fun e => absurd e o_) o_).mono fun e2 w2 h => a_C (HFa.out j hj) h)
 generalize hq : (fun j => prs ts F 0 j (d + 1)) = q at *
 refine q_F ?_; intro HQ
 clear hq HO
 generalize hRR : (if a_9 (tk ts (i + 2)) [41] = true then g_g x [] 0 (i + 2) else d_f q x ts ts.length [] 0 (i + 2)) = R at *
 have HR := a_0 hRR
 clear hRR
 refine u_b ?_; intro HYB
 have HPY := a_0 (show ∀ w1 : World, Below (W.alloc (.cells #[.int .i64 21, .int .i64 0, .int .i64 0, str [], str x, .int .i64 0] 116)).heap.size (W.alloc (.cells #[.int .i64 21, .int .i64 0, .int .i64 0, str [], str x, .int .i64 0] 116)) w1 →
   PSt XT (w1.setCell ⟨P, 2, none⟩ (.int .i64 ((d + 1 : Nat) : Int))) P A ts c (i + 2) (d + 1) 0 ∧ W.grownBy (w1.setCell ⟨P, 2, none⟩ (.int .i64 ((d + 1 : Nat) : Int))) (some P) ∧ (w1.setCell ⟨P, 2, none⟩ (.int .i64 ((d + 1 : Nat) : Int))).heap[W.heap.size]? = some (.cells (⟨21, vl0, x, 0⟩ : Nd).cells.toArray 116 (0, 0)) from fun w1 hb => by
  refine v_8 ?_; intro h1 h2 h3
  refine ⟨h1.setDepth (d + 1), a_d h2 2 _, ?_⟩
  rw [Below.heap_setCell _ _ _ _ m_]
  exact h3)
 refine _ag ?_; intro i0 hi0 hz0 hz1 hz2
 go_enter func338, ntmps338
 go_wp2_with (go_at_call 160; refine (e_a _).mono ?_; rintro e w1 ⟨⟨B, rfl, hown, hB1, hB2⟩, hb1⟩; have hrun := n_n hown x x_; obtain ⟨n0, n1, n2, n3, n4, n5⟩ := d_t (HYB.out w1 hb1); have hfn := m_d (HYB.out w1 hb1); have hs1 := (HS.out.below (Below.alloc (b_ _ W) (l_ _) _)).below hb1; obtain ⟨c0, c1, c2, c3⟩ := hs1.cells; have hfp := hs1.free; have hPW := HPY.out w1 hb1; have HPW := a_0 hPW; clear hPW hs1 hown)
 refine (k_w _ P A ts c (i + 2) (d + 1) 0 HPW.out.1 hi hlen 5 [41]).mono ?_
 obtain ⟨b0, hb0, HD0⟩ : ∃ b0 : Bool, ((0 : Int) == 0 && ((tk ts (i + 2)).kind == 5 && (tk ts (i + 2)).text == [41])) = b0 ∧ Hid ((b0 = false ∧ ∃ G, d_f q x ts G [] 0 (i + 2) = R) ∨ (b0 = true ∧ R = (if a_9 (tk ts (i + 2)) [41] = true then g_g x [] 0 (i + 2) else .err 3 (i + 2)))) := by
  have hr := HR.out
  by_cases hs : a_9 (tk ts (i + 2)) [41] = true
  ·rw [if_pos hs] at hr
   exact ⟨true, hs, a_0 (.inr ⟨rfl, by rw [if_pos hs]; exact hr.symm⟩)⟩
  ·rw [if_neg hs] at hr
   exact v_i
 rw [hb0]
 clear hb0 HR
 rintro e w2 ⟨rfl, hb2⟩
 refine u_r ?_; intro HS2 HG2 hn2 hz2' HN2
 clear hn2 hb2 HPW c0 c1 c2 c3 hfp n0 n1 n2 n3 n4 n5 hfn hrun hb1 hB1 hB2 HPY HYB
 go_wp2
 go_loopw [8, 9, 10] (fun s n m wr => ∃ (B : Option Addr) (nn : Nat) (es : List Nd) (k j d' : Nat) (e : Int) (b : Bool), s = .slice B es.length nn ∧ n = .int .i64 (k : Int) ∧ m = .bool b ∧ Hid (wr.ownsRow (W.heap.size + 1) 116 6 (.slice B es.length nn) es.length (a_a es)) ∧ Hid (PSt XT wr P A ts c j d' e) ∧ Hid (W.grownBy wr (some P)) ∧ Hid (wr.heap[W.heap.size]? = some (.cells (⟨21, vl0, x, 0⟩ : Nd).cells.toArray 116 (0, 0))) ∧ W.heap.size + 1 ≤ wr.heap.size ∧ i + 2 ≤ j ∧ j < ts.length ∧ es.length ≤ j - i ∧ k ≤ j + 1 ∧ Hid ((b = true ∧ e = 0 ∧ d' = d + 1 ∧ k ≤ j ∧ ∃ G, d_f q x ts G es k j = R) ∨ (b = false ∧ e = 0 ∧ d' = d + 1 ∧ R = (if a_9 (tk ts j) [41] = true then g_g x es k j else .err 3 j)) ∨ (b = false ∧ e ≠ 0 ∧ R = .err e j ∧ d + 1 ≤ d' ∧ d' ≤ j))) (fun _ _ m wr => 2 * (ts.length - s_Z P wr) + d_J m)
 case atStart =>
  refine ⟨none, 0, [], 0, i + 2, d + 1, 0, !b0, rfl, rfl, rfl, a_0 (a_o _ _ _ _), HS2, HG2, HN2, hz2', l_ _, hi, s_, o_, a_0 ?_⟩
  rcases HD0.out with ⟨rfl, h⟩ | ⟨rfl, h⟩
  ·exact .inl ⟨rfl, rfl, rfl, o_, h⟩
  ·exact .inr (.inl ⟨rfl, rfl, rfl, h⟩)
 case round =>
  clear HS2 HG2 HN2 hz2' HD0
  obtain ⟨B, nn, es, k, j, d', e, b, rfl, rfl, rfl, HOw, HSr, HGr, HNr, hzr, hij, hjl, hel, hkj, HD⟩ := hrel
  refine t_M ?_; intro c0 c1 c2 c3 hPr hfr
  have hatr := j_A HSr.out
  cases b with
  | true =>
   rcases HD.out with ⟨_, rfl, rfl, hkj2, G, hG⟩ | ⟨h, _⟩ | ⟨h, _⟩
   rotate_left
   ·cases h
   ·cases h
   have hG2 : (q j).bind (fun fs k2 => if a_9 (tk ts k2) [44] = true then d_f q x ts (G - 1) (es ++ fs) (k + 1) (k2 + 1) else if a_9 (tk ts k2) [41] = true then g_g x (es ++ fs) (k + 1) k2 else .err 3 k2) = R := by
    cases G with
    | zero => exact absurd hG.symm hne
    | succ G => exact hG
   clear hG HD
   go_wp2_with fail
   refine (HOr.out wr j HSr.out hjl hij).mono ?_; rw [HQ.out j]; rintro e2 w2 ⟨B2, n2, fs, k2, d2, x2, rfl, ho2, hS2, hg2, hjk, hkl, hfl, hD2⟩; refine u_O ?_; intro hoe HN2 HS2 HG2 HD2 hgw; clear hS2 hg2 hD2 c0 c1 c2 c3 hfr hPr
   rcases d_h ho2 with ⟨rfl, hf0, rfl⟩ | ⟨g2, rfl⟩
   ·obtain rfl : fs = [] := List.eq_nil_of_length_eq_zero hf0
    clear ho2 hf0; simp only [List.length_nil] at *
    go_wp2_with (at_builtin; refine wpList_append_own_none rfl _ _ _ rfl _ 116 i0 6 underlying25 hi0 _ _ _ rfl hoe rfl ?_)
    obtain ⟨B3, hB3⟩ : ∃ B3, B3 = B := ⟨B, rfl⟩; obtain ⟨n3, hn3⟩ : ∃ n3, n3 = nn := ⟨nn, rfl⟩; obtain ⟨w3, hw3⟩ : ∃ w3, w3 = w2 := ⟨w2, rfl⟩; rw [← hB3, ← hn3] at hoe; rw [← hw3] at hoe HS2 HG2 HN2 hgw; rw [← hB3, ← hn3, ← hw3]; clear hB3 hn3 hw3; refine v_Y ?_; intro HO3 HS3 HG3 HN3; clear hoe HS2 HG2 HN2; have hk3 : (es ++ []).length ≤ k2 - i := by simp only [List.length_append, List.length_nil]; omega
    by_cases hx2 : x2 = 0
    ·rcases HD2.out with ⟨_, hdd, hjk2, hr⟩ | ⟨h, _⟩
     rotate_left
     ·exact absurd hx2 h
     subst hx2 hdd; rw [hr] at hG2; simp only [PR.bind] at hG2
     by_cases hs4 : a_9 (tk ts k2) [44] = true
     ·rw [if_pos hs4] at hG2
      refine r_Z ?_; intro hk1 HE; clear hG2; refine (c_7 w3 P A ts c k2 (d + 1) HS3.out hkl hlen 5 [44] hs4).mono ?_; rintro e5 w5 ⟨rfl, hS5, hg5⟩; refine _ab ?_; intro HO5 HN5 HS5 HG5 hz5; clear hS5 hg5 hs4
      go_wp2
      refine _an ?_; intro hat; refine ⟨⟨B3, n3, es ++ [], k + 1, k2 + 1, d + 1, 0, true, v_, t_, rfl, HO5, HS5, HG5, HN5, o_, o_, hk1, o_, o_, a_0 (.inl ⟨rfl, rfl, rfl, o_, _, HE.out⟩)⟩, ?_⟩; rw [hat, hatr]; simp only [d_J]
      omega
     ·rw [if_neg hs4] at hG2
      have HE := a_0 hG2
      have hsb : ((0 : Int) == 0 && ((tk ts k2).kind == 5 && (tk ts k2).text == [44])) = false := by
       exact s_6
      clear hG2 hs4; refine (b_c w3 P A ts c k2 (d + 1) 0 HS3.out hkl hlen 5 [44] hsb).mono ?_; rintro e5 w5 ⟨rfl, hb5⟩; refine n_1 ?_; intro HO5 HN5 HS5 HG5 hz5; clear hsb
      go_wp2
      refine _an ?_; intro hat; refine ⟨⟨B3, n3, es ++ [], k + 1, k2, d + 1, 0, false, v_, t_, rfl, HO5, HS5, HG5, HN5, o_, o_, hkl, hk3, o_, a_0 (.inr (.inl ⟨rfl, rfl, rfl, HE.out.symm⟩))⟩, ?_⟩; rw [hat, hatr]; simp only [d_J]
      omega
    ·rcases HD2.out with ⟨h, _⟩ | ⟨_, hr, hd4, hd5⟩
     ·exact absurd h hx2
     rw [hr] at hG2; simp only [PR.bind] at hG2; refine r_X ?_; intro HE hsb; clear hG2; refine (b_c w3 P A ts c k2 d2 x2 HS3.out hkl hlen 5 [44] hsb).mono ?_; rintro e5 w5 ⟨rfl, hb5⟩; refine n_1 ?_; intro HO5 HN5 HS5 HG5 hz5; clear hsb
     go_wp2
     refine _an ?_; intro hat; refine ⟨⟨B3, n3, es ++ [], k + 1, k2, d2, x2, false, v_, t_, rfl, HO5, HS5, HG5, HN5, o_, o_, hkl, hk3, o_, a_0 (.inr (.inr ⟨rfl, hx2, HE.out.symm, hd4, hd5⟩))⟩, ?_⟩; rw [hat, hatr]; simp only [d_J]
     omega
   ·have hcf := (b_q ho2).2.2
    clear ho2
    go_wp2_with (at_builtin; refine wpList_append_own _ rfl _ _ 25 rfl (W.heap.size + 1) 116 i0 _ 6 64 underlying25 hi0 hz0 hz1 hz2 rfl d_ _ _ _ rfl hoe ⟨g2, 0, none⟩ fs.length n2 (a_a fs) rfl (b_4 _) hcf (e_d _) x_ o_ o_ ?_; intro v3 w3 o3 g3 _; obtain ⟨B3, n3, rfl⟩ := a_i o3; have HS3 := a_0 (HS2.out.gr g3 (fun j hj => by have := (hoe.lt j hj).1; omega)); have HG3 := a_0 (HG2.out.andThen g3 (fun j hj => .inl (by have := (hoe.lt j hj).1; omega))); have HN3 := a_0 ((g3.block W.heap.size (Array.getElem?_eq_some_iff.1 HN2.out).1 (by intro e; have := (hoe.lt W.heap.size e.symm).1; omega)).trans HN2.out); have hz3 := g3.size; have HO3 := a_0 (show w3.ownsRow (W.heap.size + 1) 116 6 (.slice B3 (es ++ fs).length n3) (es ++ fs).length (a_a (es ++ fs)) from by rw [b_v, List.length_append]; exact o3); clear hcf g3 o3 hoe HS2 HG2 HN2)
    have hk3 : (es ++ fs).length ≤ k2 - i := by simp only [List.length_append, List.length_nil]; omega
    by_cases hx2 : x2 = 0
    ·rcases HD2.out with ⟨_, hdd, hjk2, hr⟩ | ⟨h, _⟩
     rotate_left
     ·exact absurd hx2 h
     subst hx2 hdd; rw [hr] at hG2; simp only [PR.bind] at hG2
     by_cases hs4 : a_9 (tk ts k2) [44] = true
     ·rw [if_pos hs4] at hG2
      refine r_Z ?_; intro hk1 HE; clear hG2; refine (c_7 w3 P A ts c k2 (d + 1) HS3.out hkl hlen 5 [44] hs4).mono ?_; rintro e5 w5 ⟨rfl, hS5, hg5⟩; refine _ab ?_; intro HO5 HN5 HS5 HG5 hz5; clear hS5 hg5 hs4
      go_wp2
      refine _an ?_; intro hat; refine ⟨⟨B3, n3, es ++ fs, k + 1, k2 + 1, d + 1, 0, true, v_, t_, rfl, HO5, HS5, HG5, HN5, o_, o_, hk1, o_, o_, a_0 (.inl ⟨rfl, rfl, rfl, o_, _, HE.out⟩)⟩, ?_⟩; rw [hat, hatr]; simp only [d_J]
      omega
     ·rw [if_neg hs4] at hG2
      have HE := a_0 hG2
      have hsb : ((0 : Int) == 0 && ((tk ts k2).kind == 5 && (tk ts k2).text == [44])) = false := by
       exact s_6
      clear hG2 hs4; refine (b_c w3 P A ts c k2 (d + 1) 0 HS3.out hkl hlen 5 [44] hsb).mono ?_; rintro e5 w5 ⟨rfl, hb5⟩; refine n_1 ?_; intro HO5 HN5 HS5 HG5 hz5; clear hsb
      go_wp2
      refine _an ?_; intro hat; refine ⟨⟨B3, n3, es ++ fs, k + 1, k2, d + 1, 0, false, v_, t_, rfl, HO5, HS5, HG5, HN5, o_, o_, hkl, hk3, o_, a_0 (.inr (.inl ⟨rfl, rfl, rfl, HE.out.symm⟩))⟩, ?_⟩; rw [hat, hatr]; simp only [d_J]
      omega
    ·rcases HD2.out with ⟨h, _⟩ | ⟨_, hr, hd4, hd5⟩
     ·exact absurd h hx2
     rw [hr] at hG2; simp only [PR.bind] at hG2; refine r_X ?_; intro HE hsb; clear hG2; refine (b_c w3 P A ts c k2 d2 x2 HS3.out hkl hlen 5 [44] hsb).mono ?_; rintro e5 w5 ⟨rfl, hb5⟩; refine n_1 ?_; intro HO5 HN5 HS5 HG5 hz5; clear hsb
     go_wp2
     refine _an ?_; intro hat; refine ⟨⟨B3, n3, es ++ fs, k + 1, k2, d2, x2, false, v_, t_, rfl, HO5, HS5, HG5, HN5, o_, o_, hkl, hk3, o_, a_0 (.inr (.inr ⟨rfl, hx2, HE.out.symm, hd4, hd5⟩))⟩, ?_⟩; rw [hat, hatr]; simp only [d_J]
     omega
  | false =>
   obtain ⟨d3, rfl⟩ : ∃ d3, d' = d3 + 1 := ⟨d' - 1, by
    rcases HD.out with ⟨h, _⟩ | ⟨_, _, h, _⟩ | ⟨_, _, _, h, _⟩
    ·cases h
    ·omega
    ·omega⟩
   have hdd4 : d ≤ d3 ∧ d3 ≤ j := by
    rcases HD.out with ⟨h, _⟩ | ⟨_, _, h, _⟩ | ⟨_, _, _, h1, h2⟩
    ·cases h
    ·omega
    ·omega
   refine u_M ?_; intro hd3 HS4 HG4; have HO4 := a_0 (a_v HOw.out (a_d (g_ wr (some P)) 2 (.int .i64 (d3 : Int))) o_); have HN4 := a_0 (show (wr.setCell ⟨P, 2, none⟩ (.int .i64 (d3 : Int))).heap[W.heap.size]? = some (.cells (⟨21, vl0, x, 0⟩ : Nd).cells.toArray 116 (0, 0)) from (Below.heap_setCell _ _ _ _ m_).trans HNr.out); refine u_B ?_; intro hX4; obtain ⟨X4, hX4⟩ := hX4; rw [← hX4] at HS4 HG4 HO4 HN4; have HX4 := a_0 hX4.symm; clear hX4; refine u_3 ?_; intro hz4
   by_cases he : e = 0
   rotate_left
   ·rcases HD.out with ⟨h, _⟩ | ⟨_, h, _⟩ | ⟨_, _, hE, _⟩
    ·cases h
    ·exact absurd h he
    refine t_y ?_; intro HE hsb; clear hE
    go_wp2_with fail
    rw [HX4.out]; refine (k_w X4 P A ts c j d3 e HS4.out hjl hlen 5 [41]).mono ?_; rw [hsb]; rintro e5 w5 ⟨rfl, hb5⟩; refine p_6 ?_; intro HS5 HG5; clear hsb c0 c1 c2 c3 hfr
    go_wp2_with fail
    refine (f_F w5 P A ts c j d3 e HS5.out he 3).mono ?_; rintro e6 w6 ⟨rfl, hb6⟩; have HS6 := a_0 (HS5.out.below hb6); have HG6 := a_0 (a_h HG5.out hb6)
    go_wp2
    exact v_c
   subst he
   have hRR : R = (if a_9 (tk ts j) [41] = true then g_g x es k j else .err 3 j) := by
    rcases HD.out with ⟨h, _⟩ | ⟨_, _, _, h⟩ | ⟨_, h, _⟩
    ·cases h
    ·exact h
    ·exact absurd rfl h
   have hd33 : d3 = d := by
    rcases HD.out with ⟨h, _⟩ | ⟨_, _, h, _⟩ | ⟨_, h, _⟩
    ·cases h
    ·omega
    ·exact absurd rfl h
   have HD33 := a_0 hd33; clear hd33
   by_cases hs : a_9 (tk ts j) [41] = true
   rotate_left
   ·rw [if_neg hs] at hRR
    have HE := a_0 hRR
    have hsb : ((0 : Int) == 0 && ((tk ts j).kind == 5 && (tk ts j).text == [41])) = false := by
     exact u_W
    clear hRR hs
    go_wp2_with fail
    rw [HX4.out]; refine (k_w X4 P A ts c j d3 0 HS4.out hjl hlen 5 [41]).mono ?_; rw [hsb]; rintro e5 w5 ⟨rfl, hb5⟩; refine p_6 ?_; intro HS5 HG5; clear hsb c0 c1 c2 c3 hfr
    go_wp2_with fail
    refine (d_T w5 P A ts c j d3 HS5.out 3).mono ?_; rintro e8 w8 ⟨rfl, hS8, hg8⟩; have HS8 := a_0 hS8; have HG8 := a_0 ((HG5.out).trans hg8); clear hS8 hg8
    go_wp2
    exact s_b
   rw [if_pos hs] at hRR; have hj1 := a_T hv hjl hs; refine u_K ?_; intro hst; have HRR := a_0 hRR; clear hs HD hRR
   go_wp2_with fail
   rw [HX4.out]; refine (k_w X4 P A ts c j d3 0 HS4.out hjl hlen 5 [41]).mono ?_; rw [hst]; rintro e5 w5 ⟨rfl, hb5⟩; refine p_6 ?_; intro HS5 HG5; have HO5 := a_0 (a_8 HO4.out hb5); refine u_p ?_; intro hn5 HN5 hz5; clear hst c0 c1 c2 c3 hfr hn5 HX4 HS4 HG4 HO4 HN4 HSr HGr HOw HNr hatr; have hRR := HRR.out; clear HRR; unfold g_g h_3 at hRR; rw [HBs.out] at hRR; simp only at hRR; have hkk : ((k : Nat) : Int) = (k : Int) := rfl
   by_cases hka : k ≤ 8
   rotate_left
   ·rw [if_neg hka] at hRR
    have HE := a_0 hRR; clear hRR hkk
    go_wp2_with fail
    refine (d_T w5 P A ts c j d3 HS5.out 3).mono ?_; rintro e8 w8 ⟨rfl, hS8, hg8⟩; have HS8 := a_0 hS8; have HG8 := a_0 ((HG5.out).trans hg8); clear hS8 hg8
    go_wp2
    exact s_b
   rw [if_pos hka] at hRR; have HE := a_0 hRR; clear hRR hkk; obtain ⟨n0, n1, n2, n3, n4, n5⟩ := d_t HN5.out; have hfn := m_d HN5.out; obtain ⟨c0, c1, c2, c3⟩ := HS5.out.cells; have hfr := HS5.out.free; have hP5 := HS5.out.lt; have hgN := a_d (g_ (w5.setCell ⟨P, 1, none⟩ (.int .i64 ((j + 1 : Nat) : Int))) (some W.heap.size)) 5 (.int .i64 (k : Int)); have HS6 := a_0 ((HS5.out.setAt (j + 1)).gr hgN (fun j hj => by injection hj with hj; omega)); have HG6 := a_0 ((a_d HG5.out 1 (.int .i64 ((j + 1 : Nat) : Int))).andThen hgN (fun j hj => .inl (by injection hj with hj; omega))); have HO6 := a_0 (a_v (a_v HO5.out (a_d (g_ w5 (some P)) 1 (.int .i64 ((j + 1 : Nat) : Int))) o_) hgN o_); clear hgN
   go_wp2_with (at_builtin; refine wpList_append_own _ rfl _ _ 25 rfl (W.heap.size + 1) 116 i0 _ 6 64 underlying25 hi0 hz0 hz1 hz2 rfl d_ _ _ _ rfl (HO6.out.alloc _) ⟨w5.heap.size, 0, none⟩ 1 1 [.int .i64 21, .int .i64 0, .int .i64 0, str [], str x, .int .i64 (k : Int)] rfl rfl (by exact b_h (p_S s_)) c_ x_ o_ m_ ?_; intro v7 w7 o7 g7 _; obtain ⟨B7, n7, rfl⟩ := a_i o7; have HS7 := a_0 ((HS6.out.below (Below.alloc (b_ _ _) (l_ _) _)).gr g7 (fun j hj => by have := (HO6.out.lt j hj).1; omega)); have HG7 := a_0 ((a_h HG6.out (Below.alloc (b_ _ _) (l_ _) _)).andThen g7 (fun j hj => .inl (by have := (HO6.out.lt j hj).1; omega))); have HO7 := a_0 (d_5 (nd := (⟨21, vl0, x, (k : Int)⟩ : Nd)) o7); clear o7 g7)
   exact v_V
end
end Go.Proofs.YtmbeeefkpgfgmaaGreatDoor
