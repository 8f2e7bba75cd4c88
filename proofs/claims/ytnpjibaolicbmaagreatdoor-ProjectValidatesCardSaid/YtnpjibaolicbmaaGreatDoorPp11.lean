/- Parts of the proof. -/
import Derived.Test.YtnpjibaolicbmaaGreatDoorPp09
set_option linter.unusedVariables false
set_option linter.unusedSimpArgs false
set_option maxHeartbeats 4000000
namespace Go.Proofs.YtnpjibaolicbmaaGreatDoor
open Go.Proofs.Tryz
open Go.RowKit
theorem e_y {w w1 : World} {a b c d e : Value} {t : TypeId} (h : Below (w.heap.size + 1) (w.alloc (.cells #[a, b, c, d, e] t)) w1) :
  w1.cell? ⟨w.heap.size, 0, none⟩ = some a ∧ w1.cell? ⟨w.heap.size, 1, none⟩ = some b ∧ w1.cell? ⟨w.heap.size, 2, none⟩ = some c ∧ w1.cell? ⟨w.heap.size, 3, none⟩ = some d ∧ w1.cell? ⟨w.heap.size, 4, none⟩ = some e ∧ w.heap.size < w1.heap.size := by
 refine _ai ?_; intro hheap
 exact ⟨a_0 hheap 0, a_0 hheap 1, a_0 hheap 2, a_0 hheap 3, a_0 hheap 4, a_6 hheap⟩
def d_Q (x : It) (fB cB nB eB : Bool) : Bool := (!fB && x.fn != 0) || (!cB && x.col != []) || (!nB && x.num != 0) || (!eB && x.expr.length != 0)
theorem j_v {its : List It} {i : Nat} (h : i < its.length) (fB cB nB eB : Bool) :
  d_r its i fB cB nB eB = if d_Q its[i] fB cB nB eB = true then 8 else if nmB its[i].name = false then 4 else if its[i].name ∈ (its.take i).map It.name then 6 else 0 := by
 unfold d_r
 have e : its.getD i it0 = its[i] := by rw [List.getD_eq_getElem?_getD, List.getElem?_eq_getElem h]; rfl
 simp only [e]
 have hs : (d_Q its[i] fB cB nB eB = true) ↔ (fB = false ∧ its[i].fn ≠ 0) ∨ (cB = false ∧ its[i].col ≠ []) ∨ (nB = false ∧ its[i].num ≠ 0) ∨ (eB = false ∧ its[i].expr ≠ []) := by
  unfold d_Q
  simp [or_assoc]
 by_cases hb : d_Q its[i] fB cB nB eB = true
 ·rw [if_pos hb, if_pos (hs.1 hb)]
 ·rw [if_neg hb, if_neg (fun h => hb (hs.2 h))]
def i_q (fB cB nB eB : Bool) : Prop := (fB = false ∧ cB = true ∧ nB = false ∧ eB = false) ∨ (fB = false ∧ cB = false ∧ nB = false ∧ eB = true) ∨ (fB = true ∧ cB = true ∧ nB = false ∧ eB = false) ∨ (fB = true ∧ cB = true ∧ nB = true ∧ eB = false)
set_option maxRecDepth 100000
theorem c_f (A : Option Addr) (its : List It) (c i : Nat) (fB cB nB eB : Bool) (w : World) (h : h_1 w A its) (hi : i < its.length) (hl : its.length ≤ 8796093022208) (hk : i_q fB cB nB eB) :
  Calls prog 266 #[.slice A its.length c, .int .i64 i, .bool fB, .bool cB, .bool nB, .bool eB] w fun e w' => e = .returned (.int .i64 (d_r its i fB cB nB eB)) ∧ Below w.heap.size w w' := by
 rcases h with e | ⟨g, off, rfl, hg, hc⟩
 ·exact absurd hi e_
 obtain ⟨c0, c1, c2, c3, E, ec, c4, hE⟩ := hc i hi
 clear hE
 have HI := a_2 (fun k (hk : k < i) W (hb : Below w.heap.size w W) => (hb.cell (p := ⟨g, off + k * 5, none⟩) hg).trans (hc k o_).1)
 have HX := a_2 (j_v hi fB cB nB eB)
 have HM := a_2 (fun k (hk : k < i) (e : (its[k]'o_).name = its[i].name) => show its[i].name ∈ (its.take i).map It.name from by
  rw [← e]
  refine List.mem_map.2 ⟨its[k]'o_, ?_, rfl⟩
  rw [List.mem_iff_getElem]
  exact ⟨k, by rw [List.length_take]; omega, List.getElem_take⟩)
 have HO := a_2 (fun (hn : ∀ k (hk : k < i), (its[k]'o_).name ≠ its[i].name) (hm : its[i].name ∈ (its.take i).map It.name) => by
  obtain ⟨y, hy, e⟩ := List.mem_map.1 hm
  obtain ⟨k, hk, rfl⟩ := List.mem_iff_getElem.1 hy
  rw [List.length_take] at hk
  rw [List.getElem_take] at e
  exact hn k o_ e)
 have HC := a_2 (fun W => d_7 its[i].name W)
 generalize d_r its i fB cB nB eB = r at *
 obtain ⟨x, hx⟩ : ∃ x, x = its[i] := ⟨_, rfl⟩
 rw [← hx] at c0 c1 c2 c3 c4 HX HM HO HC
 clear hx hc
 obtain ⟨xn, xf, xc, xm, xe⟩ := x
 simp only [d_Q] at *
 generalize xe.length = le at *
 by_cases hsh : ((!fB && xf != 0) || (!cB && xc != []) || (!nB && xm != 0) || (!eB && le != 0)) = true
 ·have HR := a_2 (show r = 8 from by have := HX.out; rw [if_pos hsh] at this; exact this)
  clear HX HM HO HC HI
  rcases hk with ⟨rfl, rfl, rfl, rfl⟩ | ⟨rfl, rfl, rfl, rfl⟩ | ⟨rfl, rfl, rfl, rfl⟩ | ⟨rfl, rfl, rfl, rfl⟩
  all_goals
   go_enter func266, ntmps266
   go_wp2_with (exfalso; simp_all; done)
   all_goals first | (go_ret; exact ⟨a_d HR.out.symm, zX⟩) | (exfalso; simp_all; done)
 have HX2 := a_2 (show r = if nmB xn = false then 4 else if xn ∈ (its.take i).map It.name then 6 else 0 from by have := HX.out; rw [if_neg hsh] at this; exact this)
 clear HX
 have hshf : ((!fB && xf != 0) || (!cB && xc != []) || (!nB && xm != 0) || (!eB && le != 0)) = false := by simpa using hsh
 simp only [Bool.or_eq_false_iff] at hshf
 obtain ⟨⟨⟨p1, p2⟩, p3⟩, p4⟩ := hshf
 clear hsh
 have hgo : Calls prog 266 #[.slice (some ⟨g, off, none⟩) its.length c, .int .i64 i, .bool fB, .bool cB, .bool nB, .bool eB] w fun e w' => e = .returned (.int .i64 r) ∧ Below w.heap.size w w' := by
  cases hx : nmB xn
  ·rw [hx] at HC HX2
   have HR := a_2 (HX2.out.trans (if_pos rfl)); clear HX2 HM HO HI hx
   rcases hk with ⟨rfl, rfl, rfl, rfl⟩ | ⟨rfl, rfl, rfl, rfl⟩ | ⟨rfl, rfl, rfl, rfl⟩ | ⟨rfl, rfl, rfl, rfl⟩
   all_goals
    simp only [Bool.not_true, Bool.not_false, Bool.true_and, Bool.false_and] at p1 p2 p3 p4
    go_enter func266, ntmps266
    go_wp2_with (go_at_call 32; refine (HC.out _).mono ?_; rintro e w1 ⟨rfl, hb1⟩)
    all_goals first | (exfalso; simp_all; done) | skip
    go_ret
    exact ⟨a_d HR.out.symm, a_5 (a_1 (b_ (w.heap.size + 1) (w.alloc (.cells #[str xn, .int .i64 xf, str xc, .int .i64 xm, .slice E le ec] 135))) s_ hb1)⟩
  ·rw [hx] at HC HX2
   have HX3 := a_2 (HX2.out.trans (if_neg d_)); clear HX2 hx
   rcases hk with ⟨rfl, rfl, rfl, rfl⟩ | ⟨rfl, rfl, rfl, rfl⟩ | ⟨rfl, rfl, rfl, rfl⟩ | ⟨rfl, rfl, rfl, rfl⟩
   all_goals
    simp only [Bool.not_true, Bool.not_false, Bool.true_and, Bool.false_and] at p1 p2 p3 p4
    go_enter func266, ntmps266
    go_wp2_with (go_at_call 32; refine (HC.out _).mono ?_; rintro e w1 ⟨rfl, hb1⟩)
    all_goals first | (exfalso; simp_all; done) | skip
    have hbx := a_1 (b_ (w.heap.size + 1) (w.alloc (.cells #[str xn, .int .i64 xf, str xc, .int .i64 xm, .slice E le ec] 135))) s_ hb1
    go_loopw [14] (fun z wr => ∃ k : Nat, k ≤ i ∧ z = .int .i64 k ∧ Hid (∀ j (hj : j < k) (hi' : j < i), (its[j]'o_).name ≠ xn) ∧ Below (w.heap.size + 1) (w.alloc (.cells #[str xn, .int .i64 xf, str xc, .int .i64 xm, .slice E le ec] 135)) wr) (fun z _ => i - (intOf z).toNat)
    case atStart => exact ⟨0, o_, rfl, fun j hj => absurd hj (Nat.not_lt_zero _), hbx⟩
    case round =>
     obtain ⟨k, hk, rfl, HZ, hbel⟩ := hrel; have hbw := a_5 hbel; obtain ⟨m0, m1, m2, m3, m4, hlw⟩ := e_y hbel; have hgw : g < wr.heap.size := Nat.lt_of_lt_of_le hg hbw.size
     by_cases hlt : k < i
     ·have d0 := HI.out k hlt wr hbw
      have HMk := a_2 (HM.out k hlt)
      have HZk := a_2 (fun (hne : (its[k]'o_).name ≠ xn) => show ∀ j (hj : j < k + 1) (hi' : j < i), (its[j]'o_).name ≠ xn from fun j hj hi' => by
       by_cases e : j = k
       ·subst e; exact hne
       ·exact HZ.out j o_ hi')
      generalize (its[k]'o_).name = y at *
      by_cases hy : y = xn
      ·subst hy
       have HR := a_2 (HX3.out.trans (if_pos (HMk.out rfl))); clear HX3 HM HO HZ HI HMk HZk
       go_wp2
       try go_region
       all_goals (try go_wp2)
       all_goals (go_ret; exact ⟨a_d HR.out.symm, by first | exact hbw | exact a_4 hbw 1 | exact zX⟩)
      ·have hyb : (y == xn) = false := beq_eq_false_iff_ne.2 hy
       have HR := a_2 (HZk.out hy); clear HX3 HM HO HZ HI HMk HZk
       go_wp2
       try go_region
       all_goals (try go_wp2)
       all_goals exact ⟨⟨k + 1, o_, t_, HR, by first | exact hbel | exact a_4 hbel 1 | exact zX⟩, w_⟩
     ·obtain rfl : k = i := by omega
      have HR := a_2 (HX3.out.trans (if_neg (HO.out fun j hj => HZ.out j hj hj)))
      go_wp2
      exact o_P
 exact hgo
set_option maxRecDepth 512
def e_9 (its : List It) (fB cB nB eB : Bool) (own : It → Int) (i : Nat) : Int := if d_r its i fB cB nB eB = 0 then own (its.getD i it0) else d_r its i fB cB nB eB
theorem g_9 {its : List It} {i : Nat} (h : i < its.length) (fB cB nB eB : Bool) (own : It → Int) : e_9 its fB cB nB eB own i = if d_r its i fB cB nB eB = 0 then own its[i] else d_r its i fB cB nB eB := by
 unfold e_9; rw [List.getD_eq_getElem?_getD, List.getElem?_eq_getElem h]; rfl
theorem e_Z {its : List It} {m : Nat} {fB cB nB eB : Bool} {own : It → Int} (h : ¬ (its.length < m ∨ 12 < its.length)) : a_N its m fB cB nB eB own = a_o (e_9 its fB cB nB eB own) its.length := by
 unfold a_N; rw [if_neg h]; rfl
set_option maxRecDepth 100000
theorem f_W (s : Stp) (a : Adr) (w : World) (hA : s.At w a) (ho : s.ok) :
  Calls prog 236 #[s.agg a] w fun e w' => e = .returned (.int .i64 (a_N s.items 1 false false false true (fun x => a_u x.expr))) ∧ Below w.heap.size w w' := by
 have HI := a_2 hA.items
 have HO := a_2 ho.item
 have hli := ho.items
 clear hA ho
 obtain ⟨op, src, names, others, its, cond⟩ := s
 obtain ⟨nA, nC, oA, oC, iA, iC, cA, cC⟩ := a
 simp only at HI HO hli ⊢
 show Calls prog 236 #[.agg #[.int .i64 op, str src, .slice nA names.length nC, .slice oA others.length oC, .slice iA its.length iC, .slice cA cond.length cC]] w _
 generalize names.length = ln
 generalize others.length = lo
 generalize cond.length = lc
 by_cases h1 : its.length < 1
 ·have HE := a_2 (show a_N its 1 false false false true (fun x => a_u x.expr) = 2 from by unfold a_N; rw [if_pos (.inl h1)])
  go_enter func236, ntmps236
  go_wp2
  all_goals first | (exfalso; omega) | skip
  exact n_j
 by_cases h2 : 12 < its.length
 ·have HE := a_2 (show a_N its 1 false false false true (fun x => a_u x.expr) = 2 from by unfold a_N; rw [if_pos (.inr h2)])
  go_enter func236, ntmps236
  go_wp2
  all_goals first | (exfalso; omega) | skip
  exact n_j
 have HE := a_2 (e_Z (fB := false) (cB := false) (nB := false) (eB := true) (own := fun x => a_u x.expr) (its := its) (m := 1) o_)
 generalize a_N its 1 false false false true (fun x => a_u x.expr) = r at *
 have hbox : Below w.heap.size w (w.alloc (.cells #[.int .i64 op, str src, .slice nA ln nC, .slice oA lo oC, .slice iA its.length iC, .slice cA lc cC] 129)) := zX
 have HB := a_2 hbox
 clear hbox
 go_enter func236, ntmps236
 go_wp2
 all_goals first | (exfalso; omega) | skip
 go_loopw [3] (fun i wr => ∃ k : Nat, k ≤ its.length ∧ i = .int .i64 k ∧ Hid (∀ j, j < k → e_9 its false false false true (fun x => a_u x.expr) j = 0) ∧ Below (w.heap.size + 1) (w.alloc (.cells #[.int .i64 op, str src, .slice nA ln nC, .slice oA lo oC, .slice iA its.length iC, .slice cA lc cC] 129)) wr) (fun i _ => its.length - (intOf i).toNat)
 case atStart => exact ⟨0, o_, rfl, fun j hj => absurd hj (Nat.not_lt_zero _), b_ _ _⟩
 case round =>
  obtain ⟨k, hk, rfl, HZ, hbel⟩ := hrel
  have hbw := a_5 hbel
  obtain ⟨m0, m1, m2, m3, m4, m5, hlw⟩ := a_R hbel
  by_cases hlt : k < its.length
  ·rcases HI.out.below hbw with e | ⟨g, off, rfl, hg, hc⟩
   ·exact absurd hlt e_
   obtain ⟨c0, c1, c2, c3, E, ec, c4, hE⟩ := hc k hlt; have HIt := a_2 (c_f (some ⟨g, off, none⟩) its iC k false false false true wr (.inr ⟨g, off, rfl, hg, hc⟩) hlt hli (by simp [i_q])); have hok := HO.out _ (List.getElem_mem hlt); have HV := a_2 (fun W (hb : Below wr.heap.size wr W) => b_l E its[k].expr ec W (hE.below hb) hok.2 hok.1); have HT := a_2 (g_9 hlt false false false true (fun x => a_u x.expr)); have HF := a_2 (fun x (e : e_9 its false false false true (fun x => a_u x.expr) k = x) (hx : x ≠ 0) => (HE.out.trans (a_q HZ.out (by rw [e]; exact hx) hlt)).trans e); have HN := a_2 (fun (e : e_9 its false false false true (fun x => a_u x.expr) k = 0) => a_T HZ.out e); have HC4 := a_2 (fun W (hb : Below wr.heap.size wr W) => (hb.cell (p := ⟨g, off + k * 5 + 4, none⟩) hg).trans c4); clear hc hE hok; generalize its[k].expr.length = le at *; generalize a_u its[k].expr = v at *; generalize d_r its k false false false true = u at *; generalize its[k] = x at *
   by_cases hu : u = 0
   rotate_left
   ·have hub : (u != 0) = true := by simpa using hu
    refine p_I ?_; intro HR; clear HT HF HN hu
    go_wp2_with (go_at_call 266; refine (HIt.out).mono ?_; rintro e w1 ⟨rfl, hb1⟩)
    go_ret
    exact ⟨a_d HR.out.symm, a_9 hb1 hbw⟩
   subst hu; refine o_p ?_; intro HT2
   by_cases hv : v = 0
   ·subst hv
    have HR := a_2 (HN.out HT2.out); clear HT HF HN HT2
    go_wp2_with (first
     | (go_at_call 266; refine (HIt.out).mono ?_; rintro e w1 ⟨rfl, hb1⟩; have hcur := a_1 hbel s_ hb1; obtain ⟨n0, n1, n2, n3, n4, n5, hlw1⟩ := a_R hcur; have d4 := HC4.out _ hb1)
     | (go_at_call 182; refine (HV.out _ hb1).mono ?_; rintro e w2 ⟨rfl, hb2⟩))
    exact ⟨⟨k + 1, o_, t_, HR, a_1 hcur s_ hb2⟩, w_⟩
   ·have hvb : (v != 0) = true := by simpa using hv
    have HR := a_2 (HF.out v HT2.out hv); clear HT HF HN HT2 hv
    go_wp2_with (first
     | (go_at_call 266; refine (HIt.out).mono ?_; rintro e w1 ⟨rfl, hb1⟩; have hcur := a_1 hbel s_ hb1; obtain ⟨n0, n1, n2, n3, n4, n5, hlw1⟩ := a_R hcur; have d4 := HC4.out _ hb1)
     | (go_at_call 182; refine (HV.out _ hb1).mono ?_; rintro e w2 ⟨rfl, hb2⟩))
    go_ret
    exact ⟨a_d HR.out.symm, a_9 hb2 (a_9 hb1 hbw)⟩
  ·obtain rfl : k = its.length := by omega
   refine i_2 ?_; intro HR
   go_wp2
   exact o_P
end Go.Proofs.YtnpjibaolicbmaaGreatDoor
