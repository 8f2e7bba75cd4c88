/- Parts of the proof. -/
import Derived.Test.YtnpjibaolicbmaaGreatDoorPp30
import Derived.Test.YtnpjibaolicbmaaGreatDoorPp34
set_option linter.unusedVariables false
set_option linter.unusedSimpArgs false
set_option maxHeartbeats 16000000
namespace Go.Proofs.YtnpjibaolicbmaaGreatDoor
open Go.Proofs.Tryz
section
open Go.RowKit
theorem i_P {cs : List Col} (h : e_K cs = 0) : 1 ≤ cs.length ∧ cs.length ≤ 12 := by
 have h1 := (b_g h).1
 unfold c_t at h1
 split at h1
 ·cases h1
 ·omega
theorem e_Y {cs : List Col} {n : Nat} (h : n < cs.length) : f_s cs (n : Int) = cs[n] := by
 unfold f_s
 rw [if_pos o_, List.getD_eq_getElem?_getD, Int.toNat_natCast, List.getElem?_eq_getElem h]
 rfl
theorem i_V (b : Nat) (s : Srx) (p q : Pl) (x : Int) (w : World) (hB : w.heap[b]? = some (.cells #[str s.name, slV p s.cols.length, slV q s.key.length, str s.tm, str s.zone, .int .i64 s.late, .int .i64 s.reop] 57))
  (hC : b_1 w p.1 s.cols) (h0 : 0 ≤ x) (h1 : x < s.cols.length) : Calls prog 96 #[.int .i64 x, a_f b] w fun e w' => e = .returned (.bool (f_s s.cols x).null) ∧ Below w.heap.size w w' := by
 have c1 : w.cell? ⟨b, 1, none⟩ = some (slV p s.cols.length) := a_0 hB 1
 obtain ⟨n, rfl⟩ : ∃ n : Nat, x = n := ⟨x.toNat, o_⟩
 have hn : n < s.cols.length := by omega
 rcases hC with e | ⟨g, off, hA, hg, hc⟩
 ·rw [e] at hn; exact absurd hn s_
 obtain ⟨d0, d1, d2⟩ := hc n hn
 rw [e_Y hn]
 obtain ⟨pA, pC⟩ := p
 simp only at hA c1
 subst hA
 change w.cell? ⟨b, 1, none⟩ = some (.slice (some ⟨g, off, none⟩) s.cols.length pC) at c1
 generalize (s.cols[n]).null = z at *
 clear hc hB d0 d1 hn
 generalize s.cols.length = l at *
 go_enter func96, ntmps96
 go_wp2
 go_ret
 exact ⟨rfl, b_ _ _⟩
def g_S (cs : List Col) (key : List a_3) (i : Nat) : Bool := match (e_E cs key)[i]? with
 | some x => (f_s cs x).null
 | none => false
theorem g_f (cs : List Col) (key : List a_3) : f_8 (g_S cs key) (e_E cs key).length = h_c cs key := by
 rw [Bool.eq_iff_iff]
 unfold f_8 h_c
 rw [List.any_eq_true, List.any_eq_true]
 constructor
 ·rintro ⟨i, hi, h⟩
  have hi' := List.mem_range.1 hi
  unfold g_S at h
  rw [List.getElem?_eq_getElem hi'] at h
  exact ⟨_, List.getElem_mem hi', h⟩
 ·rintro ⟨y, hy, h⟩
  obtain ⟨i, hi, rfl⟩ := List.mem_iff_getElem.1 hy
  exact ⟨i, List.mem_range.2 hi, by unfold g_S; rw [List.getElem?_eq_getElem hi]; exact h⟩
theorem n_0 {cs : List Col} {key : List a_3} (h : j_q cs key = 0) : ∀ x ∈ e_E cs key, 0 ≤ x ∧ x < cs.length := by
 intro x hx
 unfold e_E at hx
 rw [if_pos h] at hx
 obtain ⟨s, hs, rfl⟩ := List.mem_map.1 hx
 obtain ⟨i, hi, rfl⟩ := List.mem_iff_getElem.1 hs
 have h1 := f_m h i hi
 rw [k_K hi] at h1
 refine ⟨?_, (f_2 _ _).2⟩
 by_cases hn : c_k cs key[i] < 0
 ·rw [if_pos hn] at h1; cases h1
 ·omega
def q_4 (l : List Int) (i : Nat) : Value := match l[i]? with
 | some x => .int .i64 x
 | none => undef
theorem j_a {l : List Int} {i : Nat} (h : i < l.length) : q_4 l i = .int .i64 l[i] := by
 unfold q_4; rw [List.getElem?_eq_getElem h]
theorem l_z {w : World} {A : Option Addr} {l : List Int} (h : b_R w A l) : n_U w A l.length (q_4 l) := by
 rcases h with h | ⟨a, hA, hg, hl, hc⟩
 ·exact .inl (by rw [h]; rfl)
 ·by_cases h0 : l.length = 0
  ·exact .inl h0
  obtain ⟨g, off, spot⟩ := a
  have hspot : spot = none := by simpa [Addr.add] using World.cell?_spot (hc 0 o_)
  subst hspot
  refine .inr ⟨g, off, hA, fun i hi => ⟨_, j_a hi, ?_⟩⟩
  have h1 := hc i hi
  rw [show (⟨g, off, none⟩ : Addr).add i = ⟨g, off + i, none⟩ from by unfold Addr.add; split <;> simp_all, List.getD_eq_getElem?_getD, List.getElem?_eq_getElem hi] at h1
  exact h1
set_option maxRecDepth 100000
theorem e_S (s : Srx) (p q : Pl) (w : World) (hW : a_v w 1 a_w) (hC : b_1 w p.1 s.cols) (hK : b_9 w q s.key) (ho : s.ok) :
  Calls prog 44 #[.agg #[str s.name, slV p s.cols.length, slV q s.key.length, str s.tm, str s.zone, .int .i64 s.late, .int .i64 s.reop]] w fun e w' => e = .returned (.int .i64 (c_U s)) ∧ Below w.heap.size w w' := by
 have HE := a_2 (show c_U s = a_c (e_K s.cols) (a_c (a_b (s.key.length < 1 ∨ 12 < s.key.length) 2) (a_c (j_q s.cols s.key) (a_c (a_b (h_c s.cols s.key = true) 7)
  (a_c (a_b (c_k s.cols s.tm < 0) 5) (a_c (a_b ((f_s s.cols (c_k s.cols s.tm)).kind ≠ 4 ∨ (f_s s.cols (c_k s.cols s.tm)).null = true) 7)
   (a_c (a_L s.zone) (a_b (s.late < 0 ∨ 575999999 < s.late ∨ s.reop < 0 ∨ 575999999 < s.reop) 1))))))) from rfl)
 have H1 := a_2 (fun W (hb : Below w.heap.size w W) => c_Q p.1 s.cols p.2 W (hW.below hb) (hC.below hb) ho.cols)
 refine s_o ?_; intro hbox HB0
 have HW := a_2 hW
 have HC := a_2 hC
 have HK := a_2 hK
 have HO := a_2 ho
 clear hW hC hK ho
 by_cases e1 : e_K s.cols = 0
 rotate_left
 ·have HR := a_2 (HE.out.trans (a_h e1))
  generalize e_K s.cols = v at *
  generalize c_U s = r at *
  have hvb : (v != 0) = true := by simpa using e1
  clear HE e1
  go_enter func44, ntmps44
  go_wp2_with (go_at_call 93; refine (H1.out _ HB0.out).mono ?_; rintro e w1 ⟨rfl, hb1⟩; have hx1 := a_1 hbox s_ hb1; have hr1 := a_9 hb1 HB0.out; obtain ⟨c0, c1, c2, c3, c4, c5, c6, hlw⟩ := bx7 hx1)
  exact d_e
 rw [e1, a_m] at HE
 rw [e1] at H1
 have hcl := i_P e1
 by_cases e2 : s.key.length < 1 ∨ 12 < s.key.length
 ·have HR := a_2 (show c_U s = 2 from HE.out.trans (by rw [a_k e2]; exact a_h d_))
  generalize c_U s = r at *
  clear HE e1
  rcases e2 with e2 | e2
  all_goals
   go_enter func44, ntmps44
   go_wp2_with (go_at_call 93; refine (H1.out _ HB0.out).mono ?_; rintro e w1 ⟨rfl, hb1⟩; have hx1 := a_1 hbox s_ hb1; have hr1 := a_9 hb1 HB0.out; obtain ⟨c0, c1, c2, c3, c4, c5, c6, hlw⟩ := bx7 hx1)
   all_goals first | (exfalso; omega) | skip
   exact d_e
 rw [a_G e2, a_m] at HE
 have hk1 : ¬ s.key.length < 1 := by omega
 have hk2 : ¬ 12 < s.key.length := by omega
 have H2 := a_2 (fun W (hb : Below w.heap.size w W) => g_0 p.1 s.cols p.2 q.1 s.key q.2 W (HC.out.below hb) o_ (HK.out.1.below hb) o_ HK.out.2)
 by_cases e3 : j_q s.cols s.key = 0
 rotate_left
 ·have HR := a_2 (HE.out.trans (a_h e3))
  have hvb : (j_q s.cols s.key != 0) = true := by simpa using e3
  unfold k_Y at H2
  generalize j_q s.cols s.key = v at *
  generalize e_E s.cols s.key = il at *
  generalize c_U s = r at *
  clear HE e1 e3
  go_enter func44, ntmps44
  go_wp2_with (first | (go_at_call 93; refine (H1.out _ HB0.out).mono ?_; rintro e w1 ⟨rfl, hb1⟩; have hx1 := a_1 hbox s_ hb1; have hr1 := a_9 hb1 HB0.out; obtain ⟨c0, c1, c2, c3, c4, c5, c6, hlw⟩ := bx7 hx1) | (go_at_call 94; refine (H2.out _ hr1).mono ?_; rintro e w2 ⟨⟨IA, ic, rfl, hint⟩, hb2⟩; have HI2 := a_2 hint; clear hint; have hx2 := a_1 hx1 s_ hb2; have hr2 := a_9 hb2 hr1; clear c0 c1 c2 c3 c4 c5 c6; obtain ⟨c0, c1, c2, c3, c4, c5, c6, hlw⟩ := bx7 hx2))
  all_goals first | (exfalso; omega) | skip
  exact n_p
 rw [e3, a_m] at HE
 have hin := n_0 e3
 have H3 := a_2 (fun (IA : Option Addr) (ic : Nat) (W : World) (hx : Below (w.heap.size + 1) (w.alloc (.cells #[str s.name, slV p s.cols.length, slV q s.key.length, str s.tm, str s.zone, .int .i64 s.late, .int .i64 s.reop] 57)) W) (hi : b_R W IA (e_E s.cols s.key)) =>
  show Calls prog 95 #[.slice IA (e_E s.cols s.key).length ic, .func (.func 96) #[] #[a_f w.heap.size]] W (fun e w' => e = .returned (.bool (h_c s.cols s.key)) ∧ Below W.heap.size W w') from by
  have hh := a_y hx (Nat.lt_succ_self _)
  have hll : (e_E s.cols s.key).length ≤ 8796093022208 := by
   rw [e_E, if_pos e3, List.length_map]; omega
  have h := i_Z IA ic (e_E s.cols s.key).length 96 #[a_f w.heap.size] (q_4 (e_E s.cols s.key)) (g_S s.cols s.key) W hll (fun V hV => l_z (hi.below hV)) (fun args V => by kernel_rfl) (fun i hi V hV => by
   rw [j_a hi, show g_S s.cols s.key i = (f_s s.cols (e_E s.cols s.key)[i]).null from by unfold g_S; rw [List.getElem?_eq_getElem hi]]; have hm := hin _ (List.getElem_mem hi)
   exact i_V w.heap.size s p q _ V ((hV.block _ (a_6 hh)).trans hh) (HC.out.below (a_9 hV (a_5 hx))) hm.1 hm.2)
  rw [g_f] at h
  exact h)
 unfold k_Y at H2
 rw [e3] at H2
 by_cases e4 : h_c s.cols s.key = true
 ·have HR := a_2 (show c_U s = 7 from HE.out.trans (by rw [a_k e4]; exact a_h d_))
  rw [e4] at H3
  generalize e_E s.cols s.key = il at *
  generalize c_U s = r at *
  clear HE e1 e3 e4
  go_enter func44, ntmps44
  go_wp2_with (first | (go_at_call 93; refine (H1.out _ HB0.out).mono ?_; rintro e w1 ⟨rfl, hb1⟩; have hx1 := a_1 hbox s_ hb1; have hr1 := a_9 hb1 HB0.out; obtain ⟨c0, c1, c2, c3, c4, c5, c6, hlw⟩ := bx7 hx1) | (go_at_call 94; refine (H2.out _ hr1).mono ?_; rintro e w2 ⟨⟨IA, ic, rfl, hint⟩, hb2⟩; have HI2 := a_2 hint; clear hint; have hx2 := a_1 hx1 s_ hb2; have hr2 := a_9 hb2 hr1; clear c0 c1 c2 c3 c4 c5 c6; obtain ⟨c0, c1, c2, c3, c4, c5, c6, hlw⟩ := bx7 hx2) | (go_at_call 95; refine (H3.out _ _ _ hx2 HI2.out).mono ?_; rintro e w3 ⟨rfl, hb3⟩; have hx3 := a_1 hx2 s_ hb3; have hr3 := a_9 hb3 hr2; clear c0 c1 c2 c3 c4 c5 c6; obtain ⟨c0, c1, c2, c3, c4, c5, c6, hlw⟩ := bx7 hx3))
  all_goals first | (exfalso; omega) | skip
  exact l_Q
 rw [a_G e4, a_m] at HE
 have e4f : h_c s.cols s.key = false := by simpa using e4
 rw [e4f] at H3
 have H4 := a_2 (fun W (hb : Below w.heap.size w W) => c_v p.1 s.cols p.2 s.tm W (HC.out.below hb) HO.out.cols)
 by_cases e5 : c_k s.cols s.tm < 0
 ·have HR := a_2 (show c_U s = 5 from HE.out.trans (by rw [a_k e5]; exact a_h d_))
  have HD := a_2 (fun W (hb : Below w.heap.size w W) => show True ∧ True from ⟨trivial, trivial⟩)
  generalize c_k s.cols s.tm = ix at *
  generalize e_E s.cols s.key = il at *
  generalize c_U s = r at *
  clear HE e1 e3 e4 e4f
  go_enter func44, ntmps44
  go_wp2_with (first | (go_at_call 93; refine (H1.out _ HB0.out).mono ?_; rintro e w1 ⟨rfl, hb1⟩; have hx1 := a_1 hbox s_ hb1; have hr1 := a_9 hb1 HB0.out; obtain ⟨c0, c1, c2, c3, c4, c5, c6, hlw⟩ := bx7 hx1) | (go_at_call 94; refine (H2.out _ hr1).mono ?_; rintro e w2 ⟨⟨IA, ic, rfl, hint⟩, hb2⟩; have HI2 := a_2 hint; clear hint; have hx2 := a_1 hx1 s_ hb2; have hr2 := a_9 hb2 hr1; clear c0 c1 c2 c3 c4 c5 c6; obtain ⟨c0, c1, c2, c3, c4, c5, c6, hlw⟩ := bx7 hx2) | (go_at_call 95; refine (H3.out _ _ _ hx2 HI2.out).mono ?_; rintro e w3 ⟨rfl, hb3⟩; have hx3 := a_1 hx2 s_ hb3; have hr3 := a_9 hb3 hr2; clear c0 c1 c2 c3 c4 c5 c6; obtain ⟨c0, c1, c2, c3, c4, c5, c6, hlw⟩ := bx7 hx3) | (go_at_call 97; refine (H4.out _ hr3).mono ?_; rintro e w4 ⟨rfl, hb4⟩; have hx4 := a_1 hx3 s_ hb4; have hr4 := a_9 hb4 hr3; clear c0 c1 c2 c3 c4 c5 c6; obtain ⟨c0, c1, c2, c3, c4, c5, c6, hlw⟩ := bx7 hx4; have hd := HD.out _ hr4; obtain ⟨d1, d2⟩ := hd))
  all_goals first | (exfalso; omega) | skip
  go_ret
  exact ⟨a_d HR.out.symm, hr4⟩
 rw [a_G e5, a_m] at HE
 obtain ⟨n, hn⟩ : ∃ n : Nat, c_k s.cols s.tm = n := ⟨(c_k s.cols s.tm).toNat, o_⟩
 have hnl : n < s.cols.length := by have := (f_2 (i_G s.cols s.tm) s.cols.length).2; unfold c_k at hn; omega
 rw [hn] at HE H4
 rw [e_Y hnl] at HE
 obtain ⟨g, off, hpA, HD⟩ : ∃ g off, p.1 = some ⟨g, off, none⟩ ∧ Hid (∀ W, Below w.heap.size w W → W.cell? ⟨g, off + n * 3 + 1, none⟩ = some (.int .i64 (s.cols[n]).kind) ∧ W.cell? ⟨g, off + n * 3 + 2, none⟩ = some (.bool (s.cols[n]).null)) := by
  rcases HC.out with e | ⟨g, off, hA, hg, hc⟩
  ·rw [e] at hnl; exact absurd hnl s_
  ·exact ⟨g, off, hA, fun W hb => ⟨(hb.cell (p := ⟨g, _, none⟩) hg).trans (hc n hnl).2.1, (hb.cell (p := ⟨g, _, none⟩) hg).trans (hc n hnl).2.2⟩⟩
 obtain ⟨pA, pC⟩ := p
 simp only at hpA
 subst hpA
 dsimp only [slV] at *
 have H5 := a_2 (fun W (hb : Below w.heap.size w W) => a_O s.zone W (HW.out.below hb) HO.out.zone)
 have hkk : s.key.length = s.key.length := rfl
 clear HC HK HO HW e1 e2 e3 e4 e4f e5 hin hkk
 generalize (s.cols[n]).kind = yk at *
 generalize (s.cols[n]).null = yl at *
 generalize e_E s.cols s.key = il at *
 generalize c_U s = r at *
 refine r_q ?_; intro hnl2 hn0
 clear hn
 by_cases e6 : yk = 4
 rotate_left
 ·have HR := a_2 (show r = 7 from HE.out.trans (by rw [a_k (.inl e6)]; exact a_h d_))
  have e6b : (yk != 4) = true := by simpa using e6
  clear HE e6
  go_enter func44, ntmps44
  go_wp2_with (first | (go_at_call 93; refine (H1.out _ HB0.out).mono ?_; rintro e w1 ⟨rfl, hb1⟩; have hx1 := a_1 hbox s_ hb1; have hr1 := a_9 hb1 HB0.out; obtain ⟨c0, c1, c2, c3, c4, c5, c6, hlw⟩ := bx7 hx1) | (go_at_call 94; refine (H2.out _ hr1).mono ?_; rintro e w2 ⟨⟨IA, ic, rfl, hint⟩, hb2⟩; have HI2 := a_2 hint; clear hint; have hx2 := a_1 hx1 s_ hb2; have hr2 := a_9 hb2 hr1; clear c0 c1 c2 c3 c4 c5 c6; obtain ⟨c0, c1, c2, c3, c4, c5, c6, hlw⟩ := bx7 hx2) | (go_at_call 95; refine (H3.out _ _ _ hx2 HI2.out).mono ?_; rintro e w3 ⟨rfl, hb3⟩; have hx3 := a_1 hx2 s_ hb3; have hr3 := a_9 hb3 hr2; clear c0 c1 c2 c3 c4 c5 c6; obtain ⟨c0, c1, c2, c3, c4, c5, c6, hlw⟩ := bx7 hx3) | (go_at_call 97; refine (H4.out _ hr3).mono ?_; rintro e w4 ⟨rfl, hb4⟩; have hx4 := a_1 hx3 s_ hb4; have hr4 := a_9 hb4 hr3; clear c0 c1 c2 c3 c4 c5 c6; obtain ⟨c0, c1, c2, c3, c4, c5, c6, hlw⟩ := bx7 hx4; have hd := HD.out _ hr4; obtain ⟨d1, d2⟩ := hd))
  all_goals first | (exfalso; omega) | skip
  go_ret
  exact ⟨a_d HR.out.symm, hr4⟩
 subst e6
 cases yl
 rotate_left
 ·have HR := a_2 (show r = 7 from HE.out.trans (by rw [a_k (.inr rfl)]; exact a_h d_))
  clear HE
  go_enter func44, ntmps44
  go_wp2_with (first | (go_at_call 93; refine (H1.out _ HB0.out).mono ?_; rintro e w1 ⟨rfl, hb1⟩; have hx1 := a_1 hbox s_ hb1; have hr1 := a_9 hb1 HB0.out; obtain ⟨c0, c1, c2, c3, c4, c5, c6, hlw⟩ := bx7 hx1) | (go_at_call 94; refine (H2.out _ hr1).mono ?_; rintro e w2 ⟨⟨IA, ic, rfl, hint⟩, hb2⟩; have HI2 := a_2 hint; clear hint; have hx2 := a_1 hx1 s_ hb2; have hr2 := a_9 hb2 hr1; clear c0 c1 c2 c3 c4 c5 c6; obtain ⟨c0, c1, c2, c3, c4, c5, c6, hlw⟩ := bx7 hx2) | (go_at_call 95; refine (H3.out _ _ _ hx2 HI2.out).mono ?_; rintro e w3 ⟨rfl, hb3⟩; have hx3 := a_1 hx2 s_ hb3; have hr3 := a_9 hb3 hr2; clear c0 c1 c2 c3 c4 c5 c6; obtain ⟨c0, c1, c2, c3, c4, c5, c6, hlw⟩ := bx7 hx3) | (go_at_call 97; refine (H4.out _ hr3).mono ?_; rintro e w4 ⟨rfl, hb4⟩; have hx4 := a_1 hx3 s_ hb4; have hr4 := a_9 hb4 hr3; clear c0 c1 c2 c3 c4 c5 c6; obtain ⟨c0, c1, c2, c3, c4, c5, c6, hlw⟩ := bx7 hx4; have hd := HD.out _ hr4; obtain ⟨d1, d2⟩ := hd))
  all_goals first | (exfalso; omega) | skip
  go_ret
  exact ⟨a_d HR.out.symm, hr4⟩
 rw [a_G s_, a_m] at HE
 unfold a_L at HE H5
 cases hz : qlB s.zone
 ·rw [hz] at HE H5
  have HR := a_2 (show r = 4 from HE.out.trans (by exact a_h d_))
  clear HE hz
  go_enter func44, ntmps44
  go_wp2_with (first | (go_at_call 93; refine (H1.out _ HB0.out).mono ?_; rintro e w1 ⟨rfl, hb1⟩; have hx1 := a_1 hbox s_ hb1; have hr1 := a_9 hb1 HB0.out; obtain ⟨c0, c1, c2, c3, c4, c5, c6, hlw⟩ := bx7 hx1) | (go_at_call 94; refine (H2.out _ hr1).mono ?_; rintro e w2 ⟨⟨IA, ic, rfl, hint⟩, hb2⟩; have HI2 := a_2 hint; clear hint; have hx2 := a_1 hx1 s_ hb2; have hr2 := a_9 hb2 hr1; clear c0 c1 c2 c3 c4 c5 c6; obtain ⟨c0, c1, c2, c3, c4, c5, c6, hlw⟩ := bx7 hx2) | (go_at_call 95; refine (H3.out _ _ _ hx2 HI2.out).mono ?_; rintro e w3 ⟨rfl, hb3⟩; have hx3 := a_1 hx2 s_ hb3; have hr3 := a_9 hb3 hr2; clear c0 c1 c2 c3 c4 c5 c6; obtain ⟨c0, c1, c2, c3, c4, c5, c6, hlw⟩ := bx7 hx3) | (go_at_call 97; refine (H4.out _ hr3).mono ?_; rintro e w4 ⟨rfl, hb4⟩; have hx4 := a_1 hx3 s_ hb4; have hr4 := a_9 hb4 hr3; clear c0 c1 c2 c3 c4 c5 c6; obtain ⟨c0, c1, c2, c3, c4, c5, c6, hlw⟩ := bx7 hx4; have hd := HD.out _ hr4; obtain ⟨d1, d2⟩ := hd) | (go_at_call 59; refine (H5.out _ hr4).mono ?_; rintro e w5 ⟨rfl, hb5⟩; have hx5 := a_1 hx4 s_ hb5; have hr5 := a_9 hb5 hr4; clear c0 c1 c2 c3 c4 c5 c6; obtain ⟨c0, c1, c2, c3, c4, c5, c6, hlw⟩ := bx7 hx5))
  all_goals first | (exfalso; omega) | skip
  exact n_1
 rw [hz, if_pos rfl] at HE H5
 rw [a_m] at HE
 clear hz
 by_cases f : s.late < 0 ∨ 575999999 < s.late ∨ s.reop < 0 ∨ 575999999 < s.reop
 ·have HR := a_2 (show r = 1 from HE.out.trans (a_k f))
  clear HE
  by_cases f1 : s.late < 0
  ·clear f
   go_enter func44, ntmps44
   go_wp2_with (first | (go_at_call 93; refine (H1.out _ HB0.out).mono ?_; rintro e w1 ⟨rfl, hb1⟩; have hx1 := a_1 hbox s_ hb1; have hr1 := a_9 hb1 HB0.out; obtain ⟨c0, c1, c2, c3, c4, c5, c6, hlw⟩ := bx7 hx1) | (go_at_call 94; refine (H2.out _ hr1).mono ?_; rintro e w2 ⟨⟨IA, ic, rfl, hint⟩, hb2⟩; have HI2 := a_2 hint; clear hint; have hx2 := a_1 hx1 s_ hb2; have hr2 := a_9 hb2 hr1; clear c0 c1 c2 c3 c4 c5 c6; obtain ⟨c0, c1, c2, c3, c4, c5, c6, hlw⟩ := bx7 hx2) | (go_at_call 95; refine (H3.out _ _ _ hx2 HI2.out).mono ?_; rintro e w3 ⟨rfl, hb3⟩; have hx3 := a_1 hx2 s_ hb3; have hr3 := a_9 hb3 hr2; clear c0 c1 c2 c3 c4 c5 c6; obtain ⟨c0, c1, c2, c3, c4, c5, c6, hlw⟩ := bx7 hx3) | (go_at_call 97; refine (H4.out _ hr3).mono ?_; rintro e w4 ⟨rfl, hb4⟩; have hx4 := a_1 hx3 s_ hb4; have hr4 := a_9 hb4 hr3; clear c0 c1 c2 c3 c4 c5 c6; obtain ⟨c0, c1, c2, c3, c4, c5, c6, hlw⟩ := bx7 hx4; have hd := HD.out _ hr4; obtain ⟨d1, d2⟩ := hd) | (go_at_call 59; refine (H5.out _ hr4).mono ?_; rintro e w5 ⟨rfl, hb5⟩; have hx5 := a_1 hx4 s_ hb5; have hr5 := a_9 hb5 hr4; clear c0 c1 c2 c3 c4 c5 c6; obtain ⟨c0, c1, c2, c3, c4, c5, c6, hlw⟩ := bx7 hx5) | (go_at_call 24; refine (a_8 _ _ _).mono ?_; rintro e w' ⟨rfl, rfl⟩))
   all_goals first | (exfalso; omega) | skip
   exact n_1
  by_cases f2 : 575999999 < s.late
  ·clear f
   go_enter func44, ntmps44
   go_wp2_with (first | (go_at_call 93; refine (H1.out _ HB0.out).mono ?_; rintro e w1 ⟨rfl, hb1⟩; have hx1 := a_1 hbox s_ hb1; have hr1 := a_9 hb1 HB0.out; obtain ⟨c0, c1, c2, c3, c4, c5, c6, hlw⟩ := bx7 hx1) | (go_at_call 94; refine (H2.out _ hr1).mono ?_; rintro e w2 ⟨⟨IA, ic, rfl, hint⟩, hb2⟩; have HI2 := a_2 hint; clear hint; have hx2 := a_1 hx1 s_ hb2; have hr2 := a_9 hb2 hr1; clear c0 c1 c2 c3 c4 c5 c6; obtain ⟨c0, c1, c2, c3, c4, c5, c6, hlw⟩ := bx7 hx2) | (go_at_call 95; refine (H3.out _ _ _ hx2 HI2.out).mono ?_; rintro e w3 ⟨rfl, hb3⟩; have hx3 := a_1 hx2 s_ hb3; have hr3 := a_9 hb3 hr2; clear c0 c1 c2 c3 c4 c5 c6; obtain ⟨c0, c1, c2, c3, c4, c5, c6, hlw⟩ := bx7 hx3) | (go_at_call 97; refine (H4.out _ hr3).mono ?_; rintro e w4 ⟨rfl, hb4⟩; have hx4 := a_1 hx3 s_ hb4; have hr4 := a_9 hb4 hr3; clear c0 c1 c2 c3 c4 c5 c6; obtain ⟨c0, c1, c2, c3, c4, c5, c6, hlw⟩ := bx7 hx4; have hd := HD.out _ hr4; obtain ⟨d1, d2⟩ := hd) | (go_at_call 59; refine (H5.out _ hr4).mono ?_; rintro e w5 ⟨rfl, hb5⟩; have hx5 := a_1 hx4 s_ hb5; have hr5 := a_9 hb5 hr4; clear c0 c1 c2 c3 c4 c5 c6; obtain ⟨c0, c1, c2, c3, c4, c5, c6, hlw⟩ := bx7 hx5) | (go_at_call 24; refine (a_8 _ _ _).mono ?_; rintro e w' ⟨rfl, rfl⟩))
   all_goals first | (exfalso; omega) | skip
   exact n_1
  by_cases f3 : s.reop < 0
  ·clear f
   go_enter func44, ntmps44
   go_wp2_with (first | (go_at_call 93; refine (H1.out _ HB0.out).mono ?_; rintro e w1 ⟨rfl, hb1⟩; have hx1 := a_1 hbox s_ hb1; have hr1 := a_9 hb1 HB0.out; obtain ⟨c0, c1, c2, c3, c4, c5, c6, hlw⟩ := bx7 hx1) | (go_at_call 94; refine (H2.out _ hr1).mono ?_; rintro e w2 ⟨⟨IA, ic, rfl, hint⟩, hb2⟩; have HI2 := a_2 hint; clear hint; have hx2 := a_1 hx1 s_ hb2; have hr2 := a_9 hb2 hr1; clear c0 c1 c2 c3 c4 c5 c6; obtain ⟨c0, c1, c2, c3, c4, c5, c6, hlw⟩ := bx7 hx2) | (go_at_call 95; refine (H3.out _ _ _ hx2 HI2.out).mono ?_; rintro e w3 ⟨rfl, hb3⟩; have hx3 := a_1 hx2 s_ hb3; have hr3 := a_9 hb3 hr2; clear c0 c1 c2 c3 c4 c5 c6; obtain ⟨c0, c1, c2, c3, c4, c5, c6, hlw⟩ := bx7 hx3) | (go_at_call 97; refine (H4.out _ hr3).mono ?_; rintro e w4 ⟨rfl, hb4⟩; have hx4 := a_1 hx3 s_ hb4; have hr4 := a_9 hb4 hr3; clear c0 c1 c2 c3 c4 c5 c6; obtain ⟨c0, c1, c2, c3, c4, c5, c6, hlw⟩ := bx7 hx4; have hd := HD.out _ hr4; obtain ⟨d1, d2⟩ := hd) | (go_at_call 59; refine (H5.out _ hr4).mono ?_; rintro e w5 ⟨rfl, hb5⟩; have hx5 := a_1 hx4 s_ hb5; have hr5 := a_9 hb5 hr4; clear c0 c1 c2 c3 c4 c5 c6; obtain ⟨c0, c1, c2, c3, c4, c5, c6, hlw⟩ := bx7 hx5) | (go_at_call 24; refine (a_8 _ _ _).mono ?_; rintro e w' ⟨rfl, rfl⟩))
   all_goals first | (exfalso; omega) | skip
   exact n_1
  have f4 : 575999999 < s.reop := by omega
  clear f
  go_enter func44, ntmps44
  go_wp2_with (first | (go_at_call 93; refine (H1.out _ HB0.out).mono ?_; rintro e w1 ⟨rfl, hb1⟩; have hx1 := a_1 hbox s_ hb1; have hr1 := a_9 hb1 HB0.out; obtain ⟨c0, c1, c2, c3, c4, c5, c6, hlw⟩ := bx7 hx1) | (go_at_call 94; refine (H2.out _ hr1).mono ?_; rintro e w2 ⟨⟨IA, ic, rfl, hint⟩, hb2⟩; have HI2 := a_2 hint; clear hint; have hx2 := a_1 hx1 s_ hb2; have hr2 := a_9 hb2 hr1; clear c0 c1 c2 c3 c4 c5 c6; obtain ⟨c0, c1, c2, c3, c4, c5, c6, hlw⟩ := bx7 hx2) | (go_at_call 95; refine (H3.out _ _ _ hx2 HI2.out).mono ?_; rintro e w3 ⟨rfl, hb3⟩; have hx3 := a_1 hx2 s_ hb3; have hr3 := a_9 hb3 hr2; clear c0 c1 c2 c3 c4 c5 c6; obtain ⟨c0, c1, c2, c3, c4, c5, c6, hlw⟩ := bx7 hx3) | (go_at_call 97; refine (H4.out _ hr3).mono ?_; rintro e w4 ⟨rfl, hb4⟩; have hx4 := a_1 hx3 s_ hb4; have hr4 := a_9 hb4 hr3; clear c0 c1 c2 c3 c4 c5 c6; obtain ⟨c0, c1, c2, c3, c4, c5, c6, hlw⟩ := bx7 hx4; have hd := HD.out _ hr4; obtain ⟨d1, d2⟩ := hd) | (go_at_call 59; refine (H5.out _ hr4).mono ?_; rintro e w5 ⟨rfl, hb5⟩; have hx5 := a_1 hx4 s_ hb5; have hr5 := a_9 hb5 hr4; clear c0 c1 c2 c3 c4 c5 c6; obtain ⟨c0, c1, c2, c3, c4, c5, c6, hlw⟩ := bx7 hx5) | (go_at_call 24; refine (a_8 _ _ _).mono ?_; rintro e w' ⟨rfl, rfl⟩))
  all_goals first | (exfalso; omega) | skip
  exact n_1
 ·have HR := a_2 (show r = 0 from HE.out.trans (a_G f))
  have f1 : ¬ s.late < 0 := by omega
  have f2 : ¬ 575999999 < s.late := by omega
  have f3 : ¬ s.reop < 0 := by omega
  have f4 : ¬ 575999999 < s.reop := by omega
  clear HE f
  go_enter func44, ntmps44
  go_wp2_with (first | (go_at_call 93; refine (H1.out _ HB0.out).mono ?_; rintro e w1 ⟨rfl, hb1⟩; have hx1 := a_1 hbox s_ hb1; have hr1 := a_9 hb1 HB0.out; obtain ⟨c0, c1, c2, c3, c4, c5, c6, hlw⟩ := bx7 hx1) | (go_at_call 94; refine (H2.out _ hr1).mono ?_; rintro e w2 ⟨⟨IA, ic, rfl, hint⟩, hb2⟩; have HI2 := a_2 hint; clear hint; have hx2 := a_1 hx1 s_ hb2; have hr2 := a_9 hb2 hr1; clear c0 c1 c2 c3 c4 c5 c6; obtain ⟨c0, c1, c2, c3, c4, c5, c6, hlw⟩ := bx7 hx2) | (go_at_call 95; refine (H3.out _ _ _ hx2 HI2.out).mono ?_; rintro e w3 ⟨rfl, hb3⟩; have hx3 := a_1 hx2 s_ hb3; have hr3 := a_9 hb3 hr2; clear c0 c1 c2 c3 c4 c5 c6; obtain ⟨c0, c1, c2, c3, c4, c5, c6, hlw⟩ := bx7 hx3) | (go_at_call 97; refine (H4.out _ hr3).mono ?_; rintro e w4 ⟨rfl, hb4⟩; have hx4 := a_1 hx3 s_ hb4; have hr4 := a_9 hb4 hr3; clear c0 c1 c2 c3 c4 c5 c6; obtain ⟨c0, c1, c2, c3, c4, c5, c6, hlw⟩ := bx7 hx4; have hd := HD.out _ hr4; obtain ⟨d1, d2⟩ := hd) | (go_at_call 59; refine (H5.out _ hr4).mono ?_; rintro e w5 ⟨rfl, hb5⟩; have hx5 := a_1 hx4 s_ hb5; have hr5 := a_9 hb5 hr4; clear c0 c1 c2 c3 c4 c5 c6; obtain ⟨c0, c1, c2, c3, c4, c5, c6, hlw⟩ := bx7 hx5) | (go_at_call 24; refine (a_8 _ _ _).mono ?_; rintro e w' ⟨rfl, rfl⟩))
  all_goals first | (exfalso; omega) | skip
  exact n_1
set_option maxRecDepth 512
theorem k_7 {cs : List Col} {key : List a_3} (h : ∀ j, j < (e_E cs key).length → g_S cs key j = false) : h_c cs key = false := by
 rw [← g_f]
 exact l_M h
theorem l_d {cs : List Col} {key : List a_3} {k : Nat} (hk : k < (e_E cs key).length) (h : g_S cs key k = true) : h_c cs key = true := by
 rw [← g_f]
 exact m_R h hk
theorem l_6 {w : World} {A : Option Addr} {l : List Int} (h : b_R w A l) : l = [] ∨ ∃ g off, A = some ⟨g, off, none⟩ ∧ ∀ i (hi : i < l.length), w.cell? ⟨g, off + i, none⟩ = some (.int .i64 l[i]) := by
 rcases l_z h with h | ⟨g, off, hA, hc⟩
 ·exact .inl (List.eq_nil_of_length_eq_zero h)
 ·refine .inr ⟨g, off, hA, fun i hi => ?_⟩
  obtain ⟨v0, e, h1⟩ := hc i hi
  rw [j_a hi] at e
  rw [h1, ← e]
set_option maxRecDepth 100000
theorem f_K (s : Srx) (p q : Pl) (w : World) (hC : b_1 w p.1 s.cols) (hK : b_9 w q s.key) (ho : s.ok) :
  Calls prog 122 #[.agg #[str s.name, slV p s.cols.length, slV q s.key.length, str s.tm, str s.zone, .int .i64 s.late, .int .i64 s.reop]] w fun e w' => e = .returned (.int .i64 (c_U s)) ∧ Below w.heap.size w w' := by
 have HE := a_2 (show c_U s = a_c (a_c (c_t s.cols) (a_b (i_O s.cols = true) 4)) (a_c (a_b (s.key.length < 1 ∨ 12 < s.key.length) 2) (a_c (j_q s.cols s.key) (a_c (a_b (h_c s.cols s.key = true) 7)
  (a_c (a_b (c_k s.cols s.tm < 0) 5) (a_c (a_b ((f_s s.cols (c_k s.cols s.tm)).kind ≠ 4 ∨ (f_s s.cols (c_k s.cols s.tm)).null = true) 7)
   (a_c (a_L s.zone) (a_b (s.late < 0 ∨ 575999999 < s.late ∨ s.reop < 0 ∨ 575999999 < s.reop) 1))))))) from rfl)
 have H1 := a_2 (fun W (hb : Below w.heap.size w W) => d_P p.1 s.cols p.2 W (hC.below hb) ho.cols)
 have H2 := a_2 (fun W (hb : Below w.heap.size w W) => e_1 p.1 s.cols p.2 W (hC.below hb) ho.cols)
 refine s_o ?_; intro hbox HB0
 have HC := a_2 hC
 have HK := a_2 hK
 have HO := a_2 ho
 clear hC hK ho
 by_cases e1 : c_t s.cols = 0
 rotate_left
 ·have e9 : a_c (c_t s.cols) (a_b (i_O s.cols = true) 4) = c_t s.cols := a_h e1
  rw [e9] at HE
  have HR := a_2 (HE.out.trans (a_h e1))
  have hvb : (c_t s.cols != 0) = true := by simpa using e1
  generalize c_t s.cols = v at *
  generalize c_U s = r at *
  clear HE e1 e9
  go_enter func122, ntmps122
  go_wp2_with (go_at_call 125; refine (H1.out _ HB0.out).mono ?_; rintro e w' ⟨rfl, rfl⟩)
  exact k_4
 rw [e1, a_m] at HE
 have hcl : 1 ≤ s.cols.length ∧ s.cols.length ≤ 12 := by
  unfold c_t at e1
  split at e1
  ·cases e1
  ·omega
 rw [e1] at H1
 cases hz : i_O s.cols
 rotate_left
 ·have HR := a_2 (show c_U s = 4 from HE.out.trans (by rw [hz, a_k rfl]; exact a_h d_))
  rw [hz] at H2
  generalize c_U s = r at *
  clear HE e1 hz
  go_enter func122, ntmps122
  go_wp2_with (first | (go_at_call 125; refine (H1.out _ HB0.out).mono ?_; rintro e w' ⟨rfl, rfl⟩) | (go_at_call 126; refine (H2.out _ HB0.out).mono ?_; rintro e w2 ⟨rfl, hb2⟩; have hx2 := a_1 hbox s_ hb2; have hr2 := a_9 hb2 HB0.out; obtain ⟨c0, c1, c2, c3, c4, c5, c6, hlw⟩ := bx7 hx2))
  exact n_p
 rw [hz, a_G s_, a_m] at HE
 rw [hz] at H2
 clear hz
 by_cases e2 : s.key.length < 1 ∨ 12 < s.key.length
 ·have HR := a_2 (show c_U s = 2 from HE.out.trans (by rw [a_k e2]; exact a_h d_))
  generalize c_U s = r at *
  clear HE e1
  rcases e2 with e2 | e2
  all_goals
   go_enter func122, ntmps122
   go_wp2_with (first | (go_at_call 125; refine (H1.out _ HB0.out).mono ?_; rintro e w' ⟨rfl, rfl⟩) | (go_at_call 126; refine (H2.out _ HB0.out).mono ?_; rintro e w2 ⟨rfl, hb2⟩; have hx2 := a_1 hbox s_ hb2; have hr2 := a_9 hb2 HB0.out; obtain ⟨c0, c1, c2, c3, c4, c5, c6, hlw⟩ := bx7 hx2))
   all_goals first | (exfalso; omega) | skip
   exact n_p
 rw [a_G e2, a_m] at HE
 have hk1 : ¬ s.key.length < 1 := by omega
 have hk2 : ¬ 12 < s.key.length := by omega
 have H3 := a_2 (fun W (hb : Below w.heap.size w W) => h_0 p.1 s.cols p.2 q.1 s.key q.2 W (HC.out.below hb) o_ (HK.out.1.below hb) o_ HK.out.2)
 unfold k_Y at H3
 by_cases e3 : j_q s.cols s.key = 0
 rotate_left
 ·have HR := a_2 (HE.out.trans (a_h e3))
  have hvb : (j_q s.cols s.key != 0) = true := by simpa using e3
  generalize j_q s.cols s.key = v at *
  generalize e_E s.cols s.key = il at *
  generalize c_U s = r at *
  clear HE e1 e3
  go_enter func122, ntmps122
  go_wp2_with (first | (go_at_call 125; refine (H1.out _ HB0.out).mono ?_; rintro e w' ⟨rfl, rfl⟩) | (go_at_call 126; refine (H2.out _ HB0.out).mono ?_; rintro e w2 ⟨rfl, hb2⟩; have hx2 := a_1 hbox s_ hb2; have hr2 := a_9 hb2 HB0.out; obtain ⟨c0, c1, c2, c3, c4, c5, c6, hlw⟩ := bx7 hx2) | (go_at_call 178; refine (H3.out _ hr2).mono ?_; rintro e w3 ⟨⟨IA, ic, rfl, hint⟩, hb3⟩; have HI3 := a_2 hint; clear hint; have hx3 := a_1 hx2 s_ hb3; have hr3 := a_9 hb3 hr2; clear c0 c1 c2 c3 c4 c5 c6; obtain ⟨c0, c1, c2, c3, c4, c5, c6, hlw⟩ := bx7 hx3))
  all_goals first | (exfalso; omega) | skip
  exact l_Q
 rw [e3, a_m] at HE
 rw [e3] at H3
 have hin := n_0 e3
 have hlen : (e_E s.cols s.key).length ≤ 12 := by rw [e_E, if_pos e3, List.length_map]; omega
 have H4 := a_2 (fun W (hb : Below w.heap.size w W) => show Calls prog 179 #[.slice p.1 s.cols.length p.2, str s.tm] W (fun e w' => e = .returned (.int .i64 (c_k s.cols s.tm)) ∧ W = w') from d_W p.1 s.cols p.2 ⟨s.tm.toArray⟩ W (HC.out.below hb) HO.out.cols)
 have H5 := a_2 (fun W => d_D s.zone W HO.out.zone)
 have H6 := a_2 (fun W => d_p s.late W)
 have H7 := a_2 (fun W => d_p s.reop W)
 have hNo := a_2 (k_7 (cs := s.cols) (key := s.key))
 have hHit := a_2 (fun (k : Nat) hk h => l_d (cs := s.cols) (key := s.key) (k := k) hk h)
 have HPat := a_2 (fun (k : Nat) (hk : k < (e_E s.cols s.key).length) => show g_S s.cols s.key k = (f_s s.cols (e_E s.cols s.key)[k]).null from by unfold g_S; rw [List.getElem?_eq_getElem hk])
 obtain ⟨g, off, hpA, HD⟩ : ∃ g off, p.1 = some ⟨g, off, none⟩ ∧ Hid (∀ n (h : n < s.cols.length) W, Below w.heap.size w W → W.cell? ⟨g, off + n * 3 + 1, none⟩ = some (.int .i64 (s.cols[n]).kind) ∧ W.cell? ⟨g, off + n * 3 + 2, none⟩ = some (.bool (s.cols[n]).null)) := by
  rcases HC.out with e | ⟨g, off, hA, hg, hc⟩
  ·rw [e] at hcl; exact absurd hcl.1 s_
  ·exact ⟨g, off, hA, fun n hn W hb => ⟨(hb.cell (p := ⟨g, _, none⟩) hg).trans (hc n hn).2.1, (hb.cell (p := ⟨g, _, none⟩) hg).trans (hc n hn).2.2⟩⟩
 obtain ⟨pA, pC⟩ := p
 simp only at hpA
 subst hpA
 dsimp only [slV] at *
 clear HC HK HO e1 e2 e3
 generalize c_U s = r at *
 generalize g_S s.cols s.key = P at *
 generalize e_E s.cols s.key = il at *
 go_enter func122, ntmps122
 go_wp2_with (first | (go_at_call 125; refine (H1.out _ HB0.out).mono ?_; rintro e w' ⟨rfl, rfl⟩) | (go_at_call 126; refine (H2.out _ HB0.out).mono ?_; rintro e w2 ⟨rfl, hb2⟩; have hx2 := a_1 hbox s_ hb2; have hr2 := a_9 hb2 HB0.out; obtain ⟨c0, c1, c2, c3, c4, c5, c6, hlw⟩ := bx7 hx2) | (go_at_call 178; refine (H3.out _ hr2).mono ?_; rintro e w3 ⟨⟨IA, ic, rfl, hint⟩, hb3⟩; have HI3 := a_2 hint; clear hint; have hx3 := a_1 hx2 s_ hb3; have hr3 := a_9 hb3 hr2; clear c0 c1 c2 c3 c4 c5 c6; obtain ⟨c0, c1, c2, c3, c4, c5, c6, hlw⟩ := bx7 hx3))
 all_goals first | (exfalso; omega) | skip
 go_loopw [6] (fun i wr => ∃ k : Nat, k ≤ il.length ∧ i = .int .i64 k ∧ Hid (∀ j, j < k → P j = false) ∧ Below w3.heap.size w3 wr) (fun i _ => il.length - (intOf i).toNat)
 case atStart => exact ⟨0, o_, rfl, a_2 (fun j hj => absurd hj (Nat.not_lt_zero _)), b_ _ _⟩
 case round =>
  obtain ⟨k, hk, rfl, HZ, hb4⟩ := hrel
  have hbr := a_1 hx3 s_ hb4
  have hrr := a_9 hb4 hr3
  clear c0 c1 c2 c3 c4 c5 c6
  obtain ⟨c0, c1, c2, c3, c4, c5, c6, hlw⟩ := bx7 hbr
  by_cases hlt : k < il.length
  ·rcases l_6 (HI3.out.below hb4) with e | ⟨gi, oi, hIA, hci⟩
   ·rw [e] at hlt; exact absurd hlt s_
   subst hIA; have hc0 := hci k hlt; obtain ⟨n, hn⟩ : ∃ n : Nat, il[k] = n := ⟨(il[k]).toNat, by have := (hin _ (List.getElem_mem hlt)).1; omega⟩; have hnl : n < s.cols.length := by have := (hin _ (List.getElem_mem hlt)).2; omega
   have HPk := HPat.out k hlt; rw [hn, e_Y hnl] at HPk; rw [hn] at hc0; obtain ⟨d1, d2⟩ := HD.out n hnl wr hrr; refine r_q ?_; intro hnl2 hn0; have HHk := a_2 (hHit.out k hlt); clear hci hn d1; generalize (s.cols[n]).null = z at *
   cases z
   ·have HR := a_2 (a_T HZ.out HPk)
    go_wp2
    go_big_quiet (fail)
    go_wp2
    exact ⟨⟨k + 1, o_, t_, HR, zX⟩, w_⟩
   ·have HR := a_2 (show r = 7 from HE.out.trans (by rw [a_k (HHk.out HPk)]; exact a_h d_))
    go_wp2
    go_big_quiet (fail)
    go_wp2
    exact k_4
  ·obtain rfl : k = il.length := by omega
   have e4f := hNo.out HZ.out; rw [e4f, a_G s_, a_m] at HE; clear hNo hHit HPat e4f
   by_cases e5 : c_k s.cols s.tm < 0
   ·have HR := a_2 (show r = 5 from HE.out.trans (by rw [a_k e5]; exact a_h d_))
    generalize c_k s.cols s.tm = ix at *; clear HE
    go_wp2_with (go_at_call 179; refine (H4.out _ hrr).mono ?_; rintro e w' ⟨rfl, rfl⟩)
    all_goals first | (exfalso; omega) | skip
    go_ret
    exact ⟨a_d HR.out.symm, hrr⟩
   rw [a_G e5, a_m] at HE; obtain ⟨n, hn⟩ : ∃ n : Nat, c_k s.cols s.tm = n := ⟨(c_k s.cols s.tm).toNat, o_⟩; have hnl : n < s.cols.length := by have := (f_2 (i_G s.cols s.tm) s.cols.length).2; unfold c_k at hn; omega
   rw [hn] at HE H4; rw [e_Y hnl] at HE; obtain ⟨d1, d2⟩ := HD.out n hnl wr hrr; generalize (s.cols[n]).kind = yk at *; generalize (s.cols[n]).null = yl at *; refine r_q ?_; intro hnl2 hn0; clear hn e5 HD
   by_cases e6 : yk = 4
   rotate_left
   ·have HR := a_2 (show r = 7 from HE.out.trans (by rw [a_k (.inl e6)]; exact a_h d_))
    have e6b : (yk != 4) = true := by simpa using e6
    clear HE e6
    go_wp2_with (go_at_call 179; refine (H4.out _ hrr).mono ?_; rintro e w' ⟨rfl, rfl⟩)
    all_goals first | (exfalso; omega) | skip
    go_ret
    exact ⟨a_d HR.out.symm, hrr⟩
   subst e6
   cases yl
   rotate_left
   ·have HR := a_2 (show r = 7 from HE.out.trans (by rw [a_k (.inr rfl)]; exact a_h d_))
    clear HE
    go_wp2_with (go_at_call 179; refine (H4.out _ hrr).mono ?_; rintro e w' ⟨rfl, rfl⟩)
    all_goals first | (exfalso; omega) | skip
    go_ret
    exact ⟨a_d HR.out.symm, hrr⟩
   rw [a_G s_, a_m] at HE; unfold a_L at HE; generalize qlB s.zone = z at *
   cases z
   ·have HR := a_2 (show r = 4 from HE.out.trans (by exact a_h d_))
    clear HE
    go_wp2_with (first | (go_at_call 179; refine (H4.out _ hrr).mono ?_; rintro e w' ⟨rfl, rfl⟩) | (go_at_call 67; refine (H5.out _).mono ?_; rintro e w5 ⟨rfl, hb5⟩; have hx5 := a_1 hbr s_ hb5; have hr5 := a_9 hb5 hrr; clear c0 c1 c2 c3 c4 c5 c6; obtain ⟨c0, c1, c2, c3, c4, c5, c6, hlw⟩ := bx7 hx5))
    all_goals first | (exfalso; omega) | skip
    exact n_1
   rw [if_pos rfl, a_m] at HE
   have HM := a_2 (show r = if (n_V s.late && n_V s.reop) = true then 0 else 1 from HE.out.trans (by
    unfold a_b n_V
    by_cases f1 : 0 ≤ s.late <;> by_cases f2 : s.late ≤ 575999999 <;> by_cases f3 : 0 ≤ s.reop <;> by_cases f4 : s.reop ≤ 575999999 <;> simp [f1, f2, f3, f4] <;> omega))
   clear HE; generalize n_V s.late = m1 at *; generalize n_V s.reop = m2 at *
   cases m1 <;> cases m2
   all_goals
    have HR := a_2 HM.out
    go_wp2_with (first | (go_at_call 179; refine (H4.out _ hrr).mono ?_; rintro e w' ⟨rfl, rfl⟩) | (go_at_call 67; refine (H5.out _).mono ?_; rintro e w5 ⟨rfl, hb5⟩; have hx5 := a_1 hbr s_ hb5; have hr5 := a_9 hb5 hrr; clear c0 c1 c2 c3 c4 c5 c6; obtain ⟨c0, c1, c2, c3, c4, c5, c6, hlw⟩ := bx7 hx5) | (go_at_call 180; refine (H6.out _).mono ?_; rintro e w' ⟨rfl, rfl⟩; clear H6) | (go_at_call 180; refine (H7.out _).mono ?_; rintro e w' ⟨rfl, rfl⟩))
    all_goals first | (exfalso; omega) | skip
    exact n_1
end
section
open Go.ChangeShapes Go.WideShapes Go.ChangeAt Go.RowKit
abbrev b_2 {H : Type} (t : TypeId) (d : DataW H) : Prop := (d.weights prog t).all (· ≤ reachBytes) = true
theorem i_l {H : Type} {e : TypeId} : ∀ {l : List (DataW H)}, (DataW.weightsAll prog e l).all (· ≤ reachBytes) = true → ∀ d ∈ l, b_2 e d
 | x :: r, h, d, hd => by
  unfold DataW.weightsAll at h
  rw [List.all_append, Bool.and_eq_true] at h
  rcases List.mem_cons.1 hd with rfl | hd
  ·exact h.1
  ·exact i_l h.2 d hd
 | [], _, d, hd => (List.not_mem_nil hd).elim
theorem j_R {H : Type} {ts : List TypeId} {ds : List (DataW H)} (h : (DataW.weightsEach prog ts ds).all (· ≤ reachBytes) = true) {j : Nat} {t : TypeId} {d : DataW H} (ht : ts[j]? = some t) (hd : ds[j]? = some d) : b_2 t d :=
 List.all_eq_true.2 fun n hn => List.all_eq_true.1 h n (DataW.weights_mem_each ht hd n hn)
theorem a_r {H : Type} {t : TypeId} {fs : Array Field} {parts : List (DataW H)} (hu : prog.underlying t = some (.struct fs)) (h : b_2 t (.agg parts)) {j : Nat} {e : TypeId} {d : DataW H} (ht : (fs.toList.map (·.type))[j]? = some e) (hd : parts[j]? = some d) : b_2 e d := by
 unfold b_2 DataW.weights at h
 rw [hu] at h
 exact j_R h ht hd
set_option maxRecDepth 100000
theorem Step.rows_of {α H : Type} {enc : TypeId × Value → H} {W : World} {held : Bool} (C : Cel α) (G : α → Prop) (k : Nat) (hk0 : 0 < k) {s e : TypeId} (hs : prog.underlying s = some (.slice e)) (hk : prog.cellsOf e = k) (z : α)
  (elem : ∀ (fuel : Nat) (cs : List Value) (x : DataW H × List MemPlace), cs.length = k → DataW.trod enc prog W 0 (fun _ => true) held fuel e cs = some x → b_2 e x.1 → ∃ y : α, G y ∧ C W y cs)
  {fuel : Nat} {c0 : Value} {x : DataW H × List MemPlace} (h : DataW.trod enc prog W 0 (fun _ => true) held fuel s [c0] = some x) (hw : b_2 s x.1) :
  ∃ (A : Option Addr) (c : Nat) (l : List α), c0 = .slice A l.length c ∧ a_l k C W A l ∧ l.length ≤ c ∧ (∀ y ∈ l, G y) ∧ l.length * prog.bytesOf e ≤ reachBytes := by
 rcases Go.Deep.open_slice hs h with ⟨hcs, _⟩ | ⟨a, len, cap, m, n, D, Pl, hcs, _, hl, hcm, hm, hx, hel⟩
 ·simp at hcs
  exact ⟨none, 0, [], hcs, .inl rfl, Nat.zero_le _, fun y h => (List.not_mem_nil h).elim, s_⟩
 ·simp at hcs
  rw [hk] at hel
  have hm' : m = cap := by simpa using hm
  subst hm'
  rw [hx] at hw
  unfold b_2 DataW.weights at hw
  rw [hs] at hw
  simp only [List.all_cons, List.all_append, Bool.and_eq_true, decide_eq_true_eq, List.length_map, List.length_range] at hw
  obtain ⟨hw1, hw2, hw3⟩ := hw
  have hwl : len * prog.bytesOf e ≤ reachBytes := Nat.le_trans (Nat.mul_le_mul_right _ o_) hw1
  have one : ∀ i, i < len → ∃ y : α, (∃ cs : List Value, cs.length = k ∧ C W y cs ∧ ∀ j, j < k → W.cell? ((a.add (i * k)).add j) = cs[j]?) ∧ G y := by
   intro i hi; obtain ⟨cs, hc, ht⟩ := hel i o_; obtain ⟨_, hcl, hat⟩ := World.cells?_some hc; obtain ⟨y, hg, hy⟩ := elem n cs _ hcl ht (i_l hw2 _ (List.mem_map.2 ⟨i, List.mem_range.2 hi, rfl⟩)); exact ⟨y, ⟨cs, hcl, hy, fun j hj => hat j hj⟩, hg⟩
  by_cases h0 : len = 0
  ·subst h0
   exact ⟨some a, m, [], hcs, .inl rfl, Nat.zero_le _, fun y h => (List.not_mem_nil h).elim, s_⟩
  ·obtain ⟨f, hf⟩ := m_D z one
   obtain ⟨⟨cs0, hl0, _, h00⟩, _⟩ := hf 0 o_; have h01 := h00 0 hk0; rw [List.getElem?_eq_getElem o_] at h01; obtain ⟨g, off, rfl, hg⟩ := k_x (a := a) (by simpa [Addr.add] using h01); refine ⟨some ⟨g, off, none⟩, m, (List.range len).map f, by simpa using hcs, .inr ⟨g, off, rfl, hg, fun i hi => ?_⟩, by simpa using hl, fun y hy => ?_, by simpa using hwl⟩
   ·have hi' : i < len := by simpa using hi
    obtain ⟨⟨cs, hcl, hc, hn⟩, _⟩ := hf i o_; refine ⟨cs, by simpa using hc, fun j hj => ?_⟩; have k0 := hn j o_; rw [g_w, g_w] at k0; rw [k0, List.getElem?_eq_getElem hj]
   ·simp only [List.mem_map, List.mem_range] at hy
    obtain ⟨i, hi, rfl⟩ := hy; exact (hf i o_).2
set_option maxRecDepth 512
theorem b_K {n b : Nat} (hb : 16 ≤ b) (h : n * b ≤ reachBytes) : n ≤ 8796093022208 := by
 have h1 : n * 16 ≤ n * b := Nat.mul_le_mul_left _ hb
 unfold reachBytes at h
 omega
set_option maxRecDepth 100000
theorem Step.strs_sl {H : Type} {enc : TypeId × Value → H} {W : World} {held : Bool} {fuel : Nat} {c0 : Value} {x : DataW H × List MemPlace} (h : DataW.trod enc prog W 0 (fun _ => true) held fuel 26 [c0] = some x) (hw : b_2 26 x.1) :
  ∃ (A : Option Addr) (c : Nat) (l : List a_3), c0 = .slice A l.length c ∧ b_b W A l ∧ l.length ≤ c ∧ (∀ y ∈ l, (fun _ => True) y) ∧ l.length ≤ 8796093022208 := by
 obtain ⟨A, c, l, e, h1, h2, h3, h4⟩ := Step.rows_of (H := H) (enc := enc) (W := W) (held := held) n_R (fun _ => True) 1 d_ underlying26 (show prog.cellsOf 9 = 1 by kernel_rfl) [] (fun fuel cs x hcl ht hw => by
   match cs, hcl with
   | [v], _ =>
    obtain ⟨s, e, _⟩ := DataW.trod_string underlying9 ht
    simp at e
    subst e
    exact ⟨bs s, trivial, by show [Value.string s] = [Value.string ⟨(bs s).toArray⟩]; rw [c_y]⟩) h hw
 exact ⟨A, c, l, e, i_E h1, h2, h3, b_K (show 16 ≤ prog.bytesOf 9 by rw [show prog.bytesOf 9 = 16 by kernel_rfl]; decide) h4⟩
theorem Step.shs_cells {H : Type} {enc : TypeId × Value → H} {W : World} {held : Bool} {fuel : Nat} {cs : List Value} {x : DataW H × List MemPlace} (hl : cs.length = 2)
  (h : DataW.trod enc prog W 0 (fun _ => true) held fuel 131 cs = some x) (hw : b_2 131 x.1) : ∃ y : (Int × Int), (fun _ => True) y ∧ ShC W y cs := by
 obtain ⟨ys, k, _, hy, _, hyl, hg⟩ := DataW.trod_struct underlying131 h
 match cs, hl with
 | [c0, c1], _ =>
  match ys, hyl with
  | [y0, y1], _ =>
   rw [hy] at hw; have g0 : DataW.trod enc prog W 0 (fun _ => true) held k 3 [c0] = some y0 := by have h9 : DataW.trod enc prog W 0 (fun _ => true) held k 3 (([c0, c1].drop 0).take (prog.cellsOf 3)) = some y0 := hg 0 _ rfl; rw [show prog.cellsOf 3 = 1 by kernel_rfl] at h9; exact h9
   have g1 : DataW.trod enc prog W 0 (fun _ => true) held k 3 [c1] = some y1 := by have h9 : DataW.trod enc prog W 0 (fun _ => true) held k 3 (([c0, c1].drop 1).take (prog.cellsOf 3)) = some y1 := hg 1 _ rfl; rw [show prog.cellsOf 3 = 1 by kernel_rfl] at h9; exact h9
   obtain ⟨v0, e0, _, b0⟩ := DataW.trod_int underlying3 g0
   simp at e0
   subst e0; obtain ⟨v1, e1, _, b1⟩ := DataW.trod_int underlying3 g1
   simp at e1
   subst e1; exact ⟨(v0, v1), trivial, rfl⟩
theorem Step.shs_sl {H : Type} {enc : TypeId × Value → H} {W : World} {held : Bool} {fuel : Nat} {c0 : Value} {x : DataW H × List MemPlace} (h : DataW.trod enc prog W 0 (fun _ => true) held fuel 45 [c0] = some x) (hw : b_2 45 x.1) :
  ∃ (A : Option Addr) (c : Nat) (l : List (Int × Int)), c0 = .slice A l.length c ∧ h_B W A l ∧ l.length ≤ c ∧ (∀ y ∈ l, (fun _ => True) y) ∧ l.length ≤ 8796093022208 := by
 obtain ⟨A, c, l, e, h1, h2, h3, h4⟩ := Step.rows_of (H := H) (enc := enc) (W := W) (held := held) ShC (fun _ => True) 2 d_ underlying45 (show prog.cellsOf 131 = 2 by kernel_rfl) (0, 0) (fun fuel cs x hcl ht hw => Step.shs_cells hcl ht hw) h hw
 exact ⟨A, c, l, e, j_m h1, h2, h3, b_K (show 16 ≤ prog.bytesOf 131 by rw [show prog.bytesOf 131 = 16 by kernel_rfl]; decide) h4⟩
theorem Step.cols_cells {H : Type} {enc : TypeId × Value → H} {W : World} {held : Bool} {fuel : Nat} {cs : List Value} {x : DataW H × List MemPlace} (hl : cs.length = 3)
  (h : DataW.trod enc prog W 0 (fun _ => true) held fuel 126 cs = some x) (hw : b_2 126 x.1) : ∃ y : Col, (fun _ => True) y ∧ o_Q W y cs := by
 obtain ⟨ys, k, _, hy, _, hyl, hg⟩ := DataW.trod_struct underlying126 h
 match cs, hl with
 | [c0, c1, c2], _ =>
  match ys, hyl with
  | [y0, y1, y2], _ =>
   rw [hy] at hw; refine s_7 ?_; intro g0 g1; have g2 : DataW.trod enc prog W 0 (fun _ => true) held k 4 [c2] = some y2 := by have h9 : DataW.trod enc prog W 0 (fun _ => true) held k 4 (([c0, c1, c2].drop 2).take (prog.cellsOf 4)) = some y2 := hg 2 _ rfl; rw [show prog.cellsOf 4 = 1 by kernel_rfl] at h9; exact h9
   obtain ⟨v0, e0, _, b0⟩ := DataW.trod_string underlying9 g0
   simp at e0
   subst e0; obtain ⟨v1, e1, _, b1⟩ := DataW.trod_int underlying3 g1
   simp at e1
   subst e1; obtain ⟨v2, e2, _⟩ := DataW.trod_bool underlying4 g2
   simp at e2
   subst e2; exact ⟨⟨bs v0, v1, v2⟩, trivial, by show _ = [Value.string ⟨(bs v0).toArray⟩, _, _]; rw [c_y]⟩
theorem Step.cols_sl {H : Type} {enc : TypeId × Value → H} {W : World} {held : Bool} {fuel : Nat} {c0 : Value} {x : DataW H × List MemPlace} (h : DataW.trod enc prog W 0 (fun _ => true) held fuel 55 [c0] = some x) (hw : b_2 55 x.1) :
  ∃ (A : Option Addr) (c : Nat) (l : List Col), c0 = .slice A l.length c ∧ b_1 W A l ∧ l.length ≤ c ∧ (∀ y ∈ l, (fun _ => True) y) ∧ l.length ≤ 8796093022208 := by
 obtain ⟨A, c, l, e, h1, h2, h3, h4⟩ := Step.rows_of (H := H) (enc := enc) (W := W) (held := held) o_Q (fun _ => True) 3 d_ underlying55 (show prog.cellsOf 126 = 3 by kernel_rfl) ⟨[], 0, false⟩ (fun fuel cs x hcl ht hw => Step.cols_cells hcl ht hw) h hw
 exact ⟨A, c, l, e, g_N h1, h2, h3, b_K (show 16 ≤ prog.bytesOf 126 by rw [show prog.bytesOf 126 = 32 by kernel_rfl]; decide) h4⟩
theorem Step.nds_sl {H : Type} {enc : TypeId × Value → H} {W : World} {held : Bool} {fuel : Nat} {c0 : Value} {x : DataW H × List MemPlace} (h : DataW.trod enc prog W 0 (fun _ => true) held fuel 63 [c0] = some x) (hw : b_2 63 x.1) :
  ∃ (A : Option Addr) (c : Nat) (l : List Nd), c0 = .slice A l.length c ∧ b_q W A l ∧ l.length ≤ c ∧ (∀ y ∈ l, (fun n => n.name.length ≤ maxLen) y) ∧ l.length ≤ 8796093022208 := by
 obtain ⟨A, c, l, e, h1, h2, h3, h4⟩ := Step.rows_of (H := H) (enc := enc) (W := W) (held := held) NdC (fun n => n.name.length ≤ maxLen) 6 d_ underlying63 (show prog.cellsOf 72 = 6 by kernel_rfl) ⟨0, vl0, [], 0⟩ (fun fuel cs x hcl ht hw => by
   obtain ⟨n, hn, h1, _⟩ := Step.nd_of_cells hcl ht
   exact ⟨n, h1, hn⟩) h hw
 exact ⟨A, c, l, e, m_O h1, h2, h3, b_K (show 16 ≤ prog.bytesOf 72 by rw [show prog.bytesOf 72 = 64 by kernel_rfl]; decide) h4⟩
theorem Step.its_cells {H : Type} {enc : TypeId × Value → H} {W : World} {held : Bool} {fuel : Nat} {cs : List Value} {x : DataW H × List MemPlace} (hl : cs.length = 5)
  (h : DataW.trod enc prog W 0 (fun _ => true) held fuel 135 cs = some x) (hw : b_2 135 x.1) : ∃ y : It, (It.ok) y ∧ ItC W y cs := by
 obtain ⟨ys, k, _, hy, _, hyl, hg⟩ := DataW.trod_struct underlying135 h
 match cs, hl with
 | [c0, c1, c2, c3, c4], _ =>
  match ys, hyl with
  | [y0, y1, y2, y3, y4], _ =>
   rw [hy] at hw; have g0 : DataW.trod enc prog W 0 (fun _ => true) held k 9 [c0] = some y0 := by have h9 : DataW.trod enc prog W 0 (fun _ => true) held k 9 (([c0, c1, c2, c3, c4].drop 0).take (prog.cellsOf 9)) = some y0 := hg 0 _ rfl; rw [show prog.cellsOf 9 = 1 by kernel_rfl] at h9; exact h9
   have g1 : DataW.trod enc prog W 0 (fun _ => true) held k 3 [c1] = some y1 := by have h9 : DataW.trod enc prog W 0 (fun _ => true) held k 3 (([c0, c1, c2, c3, c4].drop 1).take (prog.cellsOf 3)) = some y1 := hg 1 _ rfl; rw [show prog.cellsOf 3 = 1 by kernel_rfl] at h9; exact h9
   have g2 : DataW.trod enc prog W 0 (fun _ => true) held k 9 [c2] = some y2 := by have h9 : DataW.trod enc prog W 0 (fun _ => true) held k 9 (([c0, c1, c2, c3, c4].drop 2).take (prog.cellsOf 9)) = some y2 := hg 2 _ rfl; rw [show prog.cellsOf 9 = 1 by kernel_rfl] at h9; exact h9
   have g3 : DataW.trod enc prog W 0 (fun _ => true) held k 3 [c3] = some y3 := by have h9 : DataW.trod enc prog W 0 (fun _ => true) held k 3 (([c0, c1, c2, c3, c4].drop 3).take (prog.cellsOf 3)) = some y3 := hg 3 _ rfl; rw [show prog.cellsOf 3 = 1 by kernel_rfl] at h9; exact h9
   have g4 : DataW.trod enc prog W 0 (fun _ => true) held k 63 [c4] = some y4 := by have h9 : DataW.trod enc prog W 0 (fun _ => true) held k 63 (([c0, c1, c2, c3, c4].drop 4).take (prog.cellsOf 63)) = some y4 := hg 4 _ rfl; rw [show prog.cellsOf 63 = 1 by kernel_rfl] at h9; exact h9
   obtain ⟨v0, e0, _, b0⟩ := DataW.trod_string underlying9 g0
   simp at e0
   subst e0; obtain ⟨v1, e1, _, b1⟩ := DataW.trod_int underlying3 g1
   simp at e1
   subst e1; obtain ⟨v2, e2, _, b2⟩ := DataW.trod_string underlying9 g2
   simp at e2
   subst e2; obtain ⟨v3, e3, _, b3⟩ := DataW.trod_int underlying3 g3
   simp at e3
   subst e3; have s4 : b_2 63 y4.1 := a_r underlying135 hw (j := 4) rfl rfl; obtain ⟨A4, n4, l4, rfl, h4, k4, m4, b4⟩ := Step.nds_sl (c0 := c4) g4 s4; exact ⟨⟨bs v0, v1, bs v2, v3, l4⟩, ⟨m4, b4⟩, (A4, n4), h4, by show _ = [Value.string ⟨(bs v0).toArray⟩, _, Value.string ⟨(bs v2).toArray⟩, _, _]; rw [c_y, c_y]⟩
theorem Step.its_sl {H : Type} {enc : TypeId × Value → H} {W : World} {held : Bool} {fuel : Nat} {c0 : Value} {x : DataW H × List MemPlace} (h : DataW.trod enc prog W 0 (fun _ => true) held fuel 127 [c0] = some x) (hw : b_2 127 x.1) :
  ∃ (A : Option Addr) (c : Nat) (l : List It), c0 = .slice A l.length c ∧ h_1 W A l ∧ l.length ≤ c ∧ (∀ y ∈ l, (It.ok) y) ∧ l.length ≤ 8796093022208 := by
 obtain ⟨A, c, l, e, h1, h2, h3, h4⟩ := Step.rows_of (H := H) (enc := enc) (W := W) (held := held) ItC (It.ok) 5 d_ underlying127 (show prog.cellsOf 135 = 5 by kernel_rfl) ⟨[], 0, [], 0, []⟩ (fun fuel cs x hcl ht hw => Step.its_cells hcl ht hw) h hw
 exact ⟨A, c, l, e, j_z h1, h2, h3, b_K (show 16 ≤ prog.bytesOf 135 by rw [show prog.bytesOf 135 = 72 by kernel_rfl]; decide) h4⟩
theorem Step.stps_cells {H : Type} {enc : TypeId × Value → H} {W : World} {held : Bool} {fuel : Nat} {cs : List Value} {x : DataW H × List MemPlace} (hl : cs.length = 6)
  (h : DataW.trod enc prog W 0 (fun _ => true) held fuel 129 cs = some x) (hw : b_2 129 x.1) : ∃ y : Stp, (Stp.ok) y ∧ l_H W y cs := by
 obtain ⟨ys, k, _, hy, _, hyl, hg⟩ := DataW.trod_struct underlying129 h
 match cs, hl with
 | [c0, c1, c2, c3, c4, c5], _ =>
  match ys, hyl with
  | [y0, y1, y2, y3, y4, y5], _ =>
   rw [hy] at hw; have g0 : DataW.trod enc prog W 0 (fun _ => true) held k 3 [c0] = some y0 := by have h9 : DataW.trod enc prog W 0 (fun _ => true) held k 3 (([c0, c1, c2, c3, c4, c5].drop 0).take (prog.cellsOf 3)) = some y0 := hg 0 _ rfl; rw [show prog.cellsOf 3 = 1 by kernel_rfl] at h9; exact h9
   have g1 : DataW.trod enc prog W 0 (fun _ => true) held k 9 [c1] = some y1 := by have h9 : DataW.trod enc prog W 0 (fun _ => true) held k 9 (([c0, c1, c2, c3, c4, c5].drop 1).take (prog.cellsOf 9)) = some y1 := hg 1 _ rfl; rw [show prog.cellsOf 9 = 1 by kernel_rfl] at h9; exact h9
   have g2 : DataW.trod enc prog W 0 (fun _ => true) held k 26 [c2] = some y2 := by have h9 : DataW.trod enc prog W 0 (fun _ => true) held k 26 (([c0, c1, c2, c3, c4, c5].drop 2).take (prog.cellsOf 26)) = some y2 := hg 2 _ rfl; rw [show prog.cellsOf 26 = 1 by kernel_rfl] at h9; exact h9
   have g3 : DataW.trod enc prog W 0 (fun _ => true) held k 26 [c3] = some y3 := by have h9 : DataW.trod enc prog W 0 (fun _ => true) held k 26 (([c0, c1, c2, c3, c4, c5].drop 3).take (prog.cellsOf 26)) = some y3 := hg 3 _ rfl; rw [show prog.cellsOf 26 = 1 by kernel_rfl] at h9; exact h9
   have g4 : DataW.trod enc prog W 0 (fun _ => true) held k 127 [c4] = some y4 := by have h9 : DataW.trod enc prog W 0 (fun _ => true) held k 127 (([c0, c1, c2, c3, c4, c5].drop 4).take (prog.cellsOf 127)) = some y4 := hg 4 _ rfl; rw [show prog.cellsOf 127 = 1 by kernel_rfl] at h9; exact h9
   have g5 : DataW.trod enc prog W 0 (fun _ => true) held k 63 [c5] = some y5 := by have h9 : DataW.trod enc prog W 0 (fun _ => true) held k 63 (([c0, c1, c2, c3, c4, c5].drop 5).take (prog.cellsOf 63)) = some y5 := hg 5 _ rfl; rw [show prog.cellsOf 63 = 1 by kernel_rfl] at h9; exact h9
   obtain ⟨v0, e0, _, b0⟩ := DataW.trod_int underlying3 g0
   simp at e0
   subst e0; obtain ⟨v1, e1, _, b1⟩ := DataW.trod_string underlying9 g1
   simp at e1
   subst e1; have s2 : b_2 26 y2.1 := a_r underlying129 hw (j := 2) rfl rfl; obtain ⟨A2, n2, l2, rfl, h2, k2, m2, b2⟩ := Step.strs_sl (c0 := c2) g2 s2; have s3 : b_2 26 y3.1 := a_r underlying129 hw (j := 3) rfl rfl; obtain ⟨A3, n3, l3, rfl, h3, k3, m3, b3⟩ := Step.strs_sl (c0 := c3) g3 s3; have s4 : b_2 127 y4.1 := a_r underlying129 hw (j := 4) rfl rfl; obtain ⟨A4, n4, l4, rfl, h4, k4, m4, b4⟩ := Step.its_sl (c0 := c4) g4 s4; have s5 : b_2 63 y5.1 := a_r underlying129 hw (j := 5) rfl rfl; obtain ⟨A5, n5, l5, rfl, h5, k5, m5, b5⟩ := Step.nds_sl (c0 := c5) g5 s5; exact ⟨⟨v0, bs v1, l2, l3, l4, l5⟩, ⟨b1, b2, b3, b4, m4, b5, m5⟩, ⟨A2, n2, A3, n3, A4, n4, A5, n5⟩, ⟨h2, h3, h4, h5, k2, k3, k4⟩, by show _ = [_, Value.string ⟨(bs v1).toArray⟩, _, _, _, _]; rw [c_y]⟩
theorem Step.stps_sl {H : Type} {enc : TypeId × Value → H} {W : World} {held : Bool} {fuel : Nat} {c0 : Value} {x : DataW H × List MemPlace} (h : DataW.trod enc prog W 0 (fun _ => true) held fuel 60 [c0] = some x) (hw : b_2 60 x.1) :
  ∃ (A : Option Addr) (c : Nat) (l : List Stp), c0 = .slice A l.length c ∧ b_L W A l ∧ l.length ≤ c ∧ (∀ y ∈ l, (Stp.ok) y) ∧ l.length ≤ 8796093022208 := by
 obtain ⟨A, c, l, e, h1, h2, h3, h4⟩ := Step.rows_of (H := H) (enc := enc) (W := W) (held := held) l_H (Stp.ok) 6 d_ underlying60 (show prog.cellsOf 129 = 6 by kernel_rfl) ⟨0, [], [], [], [], []⟩ (fun fuel cs x hcl ht hw => Step.stps_cells hcl ht hw) h hw
 exact ⟨A, c, l, e, f_7 h1, h2, h3, b_K (show 16 ≤ prog.bytesOf 129 by rw [show prog.bytesOf 129 = 120 by kernel_rfl]; decide) h4⟩
theorem Step.zns_cells {H : Type} {enc : TypeId × Value → H} {W : World} {held : Bool} {fuel : Nat} {cs : List Value} {x : DataW H × List MemPlace} (hl : cs.length = 3)
  (h : DataW.trod enc prog W 0 (fun _ => true) held fuel 47 cs = some x) (hw : b_2 47 x.1) : ∃ y : Zon, (fun z => z.name.length ≤ maxLen ∧ z.sh.length ≤ 8796093022208) y ∧ g_a W y cs := by
 obtain ⟨ys, k, _, hy, _, hyl, hg⟩ := DataW.trod_struct underlying47 h
 match cs, hl with
 | [c0, c1, c2], _ =>
  match ys, hyl with
  | [y0, y1, y2], _ =>
   rw [hy] at hw; refine s_7 ?_; intro g0 g1; have g2 : DataW.trod enc prog W 0 (fun _ => true) held k 45 [c2] = some y2 := by have h9 : DataW.trod enc prog W 0 (fun _ => true) held k 45 (([c0, c1, c2].drop 2).take (prog.cellsOf 45)) = some y2 := hg 2 _ rfl; rw [show prog.cellsOf 45 = 1 by kernel_rfl] at h9; exact h9
   obtain ⟨v0, e0, _, b0⟩ := DataW.trod_string underlying9 g0
   simp at e0
   subst e0; obtain ⟨v1, e1, _, b1⟩ := DataW.trod_int underlying3 g1
   simp at e1
   subst e1; have s2 : b_2 45 y2.1 := a_r underlying47 hw (j := 2) rfl rfl; obtain ⟨A2, n2, l2, rfl, h2, k2, m2, b2⟩ := Step.shs_sl (c0 := c2) g2 s2; exact ⟨⟨bs v0, v1, l2⟩, ⟨b0, b2⟩, (A2, n2), h2, by show _ = [Value.string ⟨(bs v0).toArray⟩, _, _]; rw [c_y]⟩
theorem Step.zns_sl {H : Type} {enc : TypeId × Value → H} {W : World} {held : Bool} {fuel : Nat} {c0 : Value} {x : DataW H × List MemPlace} (h : DataW.trod enc prog W 0 (fun _ => true) held fuel 27 [c0] = some x) (hw : b_2 27 x.1) :
  ∃ (A : Option Addr) (c : Nat) (l : List Zon), c0 = .slice A l.length c ∧ a_l 3 g_a W A l ∧ l.length ≤ c ∧ (∀ y ∈ l, (fun z => z.name.length ≤ maxLen ∧ z.sh.length ≤ 8796093022208) y) ∧ l.length ≤ 8796093022208 := by
 obtain ⟨A, c, l, e, h1, h2, h3, h4⟩ := Step.rows_of (H := H) (enc := enc) (W := W) (held := held) g_a (fun z => z.name.length ≤ maxLen ∧ z.sh.length ≤ 8796093022208) 3 d_ underlying27 (show prog.cellsOf 47 = 3 by kernel_rfl) ⟨[], 0, []⟩ (fun fuel cs x hcl ht hw => Step.zns_cells hcl ht hw) h hw
 exact ⟨A, c, l, e, h1, h2, h3, b_K (show 16 ≤ prog.bytesOf 47 by rw [show prog.bytesOf 47 = 48 by kernel_rfl]; decide) h4⟩
theorem Step.srcs_cells {H : Type} {enc : TypeId × Value → H} {W : World} {held : Bool} {fuel : Nat} {cs : List Value} {x : DataW H × List MemPlace} (hl : cs.length = 7)
  (h : DataW.trod enc prog W 0 (fun _ => true) held fuel 57 cs = some x) (hw : b_2 57 x.1) : ∃ y : Srx, (Srx.ok) y ∧ h_f W y cs := by
 obtain ⟨ys, k, _, hy, _, hyl, hg⟩ := DataW.trod_struct underlying57 h
 match cs, hl with
 | [c0, c1, c2, c3, c4, c5, c6], _ =>
  match ys, hyl with
  | [y0, y1, y2, y3, y4, y5, y6], _ =>
   rw [hy] at hw; have g0 : DataW.trod enc prog W 0 (fun _ => true) held k 9 [c0] = some y0 := by have h9 : DataW.trod enc prog W 0 (fun _ => true) held k 9 (([c0, c1, c2, c3, c4, c5, c6].drop 0).take (prog.cellsOf 9)) = some y0 := hg 0 _ rfl; rw [show prog.cellsOf 9 = 1 by kernel_rfl] at h9; exact h9
   have g1 : DataW.trod enc prog W 0 (fun _ => true) held k 55 [c1] = some y1 := by have h9 : DataW.trod enc prog W 0 (fun _ => true) held k 55 (([c0, c1, c2, c3, c4, c5, c6].drop 1).take (prog.cellsOf 55)) = some y1 := hg 1 _ rfl; rw [show prog.cellsOf 55 = 1 by kernel_rfl] at h9; exact h9
   have g2 : DataW.trod enc prog W 0 (fun _ => true) held k 26 [c2] = some y2 := by have h9 : DataW.trod enc prog W 0 (fun _ => true) held k 26 (([c0, c1, c2, c3, c4, c5, c6].drop 2).take (prog.cellsOf 26)) = some y2 := hg 2 _ rfl; rw [show prog.cellsOf 26 = 1 by kernel_rfl] at h9; exact h9
   have g3 : DataW.trod enc prog W 0 (fun _ => true) held k 9 [c3] = some y3 := by have h9 : DataW.trod enc prog W 0 (fun _ => true) held k 9 (([c0, c1, c2, c3, c4, c5, c6].drop 3).take (prog.cellsOf 9)) = some y3 := hg 3 _ rfl; rw [show prog.cellsOf 9 = 1 by kernel_rfl] at h9; exact h9
   have g4 : DataW.trod enc prog W 0 (fun _ => true) held k 9 [c4] = some y4 := by have h9 : DataW.trod enc prog W 0 (fun _ => true) held k 9 (([c0, c1, c2, c3, c4, c5, c6].drop 4).take (prog.cellsOf 9)) = some y4 := hg 4 _ rfl; rw [show prog.cellsOf 9 = 1 by kernel_rfl] at h9; exact h9
   have g5 : DataW.trod enc prog W 0 (fun _ => true) held k 3 [c5] = some y5 := by have h9 : DataW.trod enc prog W 0 (fun _ => true) held k 3 (([c0, c1, c2, c3, c4, c5, c6].drop 5).take (prog.cellsOf 3)) = some y5 := hg 5 _ rfl; rw [show prog.cellsOf 3 = 1 by kernel_rfl] at h9; exact h9
   have g6 : DataW.trod enc prog W 0 (fun _ => true) held k 3 [c6] = some y6 := by have h9 : DataW.trod enc prog W 0 (fun _ => true) held k 3 (([c0, c1, c2, c3, c4, c5, c6].drop 6).take (prog.cellsOf 3)) = some y6 := hg 6 _ rfl; rw [show prog.cellsOf 3 = 1 by kernel_rfl] at h9; exact h9
   obtain ⟨v0, e0, _, b0⟩ := DataW.trod_string underlying9 g0
   simp at e0
   subst e0; have s1 : b_2 55 y1.1 := a_r underlying57 hw (j := 1) rfl rfl; obtain ⟨A1, n1, l1, rfl, h1, k1, m1, b1⟩ := Step.cols_sl (c0 := c1) g1 s1; have s2 : b_2 26 y2.1 := a_r underlying57 hw (j := 2) rfl rfl; obtain ⟨A2, n2, l2, rfl, h2, k2, m2, b2⟩ := Step.strs_sl (c0 := c2) g2 s2; obtain ⟨v3, e3, _, b3⟩ := DataW.trod_string underlying9 g3
   simp at e3
   subst e3; obtain ⟨v4, e4, _, b4⟩ := DataW.trod_string underlying9 g4
   simp at e4
   subst e4; obtain ⟨v5, e5, _, b5⟩ := DataW.trod_int underlying3 g5
   simp at e5
   subst e5; obtain ⟨v6, e6, _, b6⟩ := DataW.trod_int underlying3 g6
   simp at e6
   subst e6; exact ⟨⟨bs v0, l1, l2, bs v3, bs v4, v5, v6⟩, ⟨b0, b4, b1, b2⟩, (A1, n1), (A2, n2), h1, ⟨h2, k2⟩, by show _ = [Value.string ⟨(bs v0).toArray⟩, _, _, Value.string ⟨(bs v3).toArray⟩, Value.string ⟨(bs v4).toArray⟩, _, _]; rw [c_y, c_y, c_y]⟩
theorem Step.srcs_sl {H : Type} {enc : TypeId × Value → H} {W : World} {held : Bool} {fuel : Nat} {c0 : Value} {x : DataW H × List MemPlace} (h : DataW.trod enc prog W 0 (fun _ => true) held fuel 28 [c0] = some x) (hw : b_2 28 x.1) :
  ∃ (A : Option Addr) (c : Nat) (l : List Srx), c0 = .slice A l.length c ∧ a_l 7 h_f W A l ∧ l.length ≤ c ∧ (∀ y ∈ l, (Srx.ok) y) ∧ l.length ≤ 8796093022208 := by
 obtain ⟨A, c, l, e, h1, h2, h3, h4⟩ := Step.rows_of (H := H) (enc := enc) (W := W) (held := held) h_f (Srx.ok) 7 d_ underlying28 (show prog.cellsOf 57 = 7 by kernel_rfl) ⟨[], [], [], [], [], 0, 0⟩ (fun fuel cs x hcl ht hw => Step.srcs_cells hcl ht hw) h hw
 exact ⟨A, c, l, e, h1, h2, h3, b_K (show 16 ≤ prog.bytesOf 57 by rw [show prog.bytesOf 57 = 112 by kernel_rfl]; decide) h4⟩
theorem Step.macs_cells {H : Type} {enc : TypeId × Value → H} {W : World} {held : Bool} {fuel : Nat} {cs : List Value} {x : DataW H × List MemPlace} (hl : cs.length = 3)
  (h : DataW.trod enc prog W 0 (fun _ => true) held fuel 74 cs = some x) (hw : b_2 74 x.1) : ∃ y : Mac, (Mac.ok) y ∧ f_J W y cs := by
 obtain ⟨ys, k, _, hy, _, hyl, hg⟩ := DataW.trod_struct underlying74 h
 match cs, hl with
 | [c0, c1, c2], _ =>
  match ys, hyl with
  | [y0, y1, y2], _ =>
   rw [hy] at hw; have g0 : DataW.trod enc prog W 0 (fun _ => true) held k 9 [c0] = some y0 := by have h9 : DataW.trod enc prog W 0 (fun _ => true) held k 9 (([c0, c1, c2].drop 0).take (prog.cellsOf 9)) = some y0 := hg 0 _ rfl; rw [show prog.cellsOf 9 = 1 by kernel_rfl] at h9; exact h9
   have g1 : DataW.trod enc prog W 0 (fun _ => true) held k 26 [c1] = some y1 := by have h9 : DataW.trod enc prog W 0 (fun _ => true) held k 26 (([c0, c1, c2].drop 1).take (prog.cellsOf 26)) = some y1 := hg 1 _ rfl; rw [show prog.cellsOf 26 = 1 by kernel_rfl] at h9; exact h9
   have g2 : DataW.trod enc prog W 0 (fun _ => true) held k 63 [c2] = some y2 := by have h9 : DataW.trod enc prog W 0 (fun _ => true) held k 63 (([c0, c1, c2].drop 2).take (prog.cellsOf 63)) = some y2 := hg 2 _ rfl; rw [show prog.cellsOf 63 = 1 by kernel_rfl] at h9; exact h9
   obtain ⟨v0, e0, _, b0⟩ := DataW.trod_string underlying9 g0
   simp at e0
   subst e0; have s1 : b_2 26 y1.1 := a_r underlying74 hw (j := 1) rfl rfl; obtain ⟨A1, n1, l1, rfl, h1, k1, m1, b1⟩ := Step.strs_sl (c0 := c1) g1 s1; have s2 : b_2 63 y2.1 := a_r underlying74 hw (j := 2) rfl rfl; obtain ⟨A2, n2, l2, rfl, h2, k2, m2, b2⟩ := Step.nds_sl (c0 := c2) g2 s2; exact ⟨⟨bs v0, l1, l2⟩, ⟨b0, b1, b2, m2⟩, (A1, n1), (A2, n2), ⟨h1, k1⟩, h2, by show _ = [Value.string ⟨(bs v0).toArray⟩, _, _]; rw [c_y]⟩
theorem Step.macs_sl {H : Type} {enc : TypeId × Value → H} {W : World} {held : Bool} {fuel : Nat} {c0 : Value} {x : DataW H × List MemPlace} (h : DataW.trod enc prog W 0 (fun _ => true) held fuel 29 [c0] = some x) (hw : b_2 29 x.1) :
  ∃ (A : Option Addr) (c : Nat) (l : List Mac), c0 = .slice A l.length c ∧ a_l 3 f_J W A l ∧ l.length ≤ c ∧ (∀ y ∈ l, (Mac.ok) y) ∧ l.length ≤ 8796093022208 := by
 obtain ⟨A, c, l, e, h1, h2, h3, h4⟩ := Step.rows_of (H := H) (enc := enc) (W := W) (held := held) f_J (Mac.ok) 3 d_ underlying29 (show prog.cellsOf 74 = 3 by kernel_rfl) ⟨[], [], []⟩ (fun fuel cs x hcl ht hw => Step.macs_cells hcl ht hw) h hw
 exact ⟨A, c, l, e, h1, h2, h3, b_K (show 16 ≤ prog.bytesOf 74 by rw [show prog.bytesOf 74 = 64 by kernel_rfl]; decide) h4⟩
theorem Step.mdls_cells {H : Type} {enc : TypeId × Value → H} {W : World} {held : Bool} {fuel : Nat} {cs : List Value} {x : DataW H × List MemPlace} (hl : cs.length = 8)
  (h : DataW.trod enc prog W 0 (fun _ => true) held fuel 62 cs = some x) (hw : b_2 62 x.1) : ∃ y : Mdl, (Mdl.ok) y ∧ f_I W y cs := by
 obtain ⟨ys, k, _, hy, _, hyl, hg⟩ := DataW.trod_struct underlying62 h
 match cs, hl with
 | [c0, c1, c2, c3, c4, c5, c6, c7], _ =>
  match ys, hyl with
  | [y0, y1, y2, y3, y4, y5, y6, y7], _ =>
   rw [hy] at hw; refine r_G ?_; intro g0; have g1 : DataW.trod enc prog W 0 (fun _ => true) held k 55 [c1] = some y1 := by have h9 : DataW.trod enc prog W 0 (fun _ => true) held k 55 (([c0, c1, c2, c3, c4, c5, c6, c7].drop 1).take (prog.cellsOf 55)) = some y1 := hg 1 _ rfl; rw [show prog.cellsOf 55 = 1 by kernel_rfl] at h9; exact h9
   have g2 : DataW.trod enc prog W 0 (fun _ => true) held k 60 [c2] = some y2 := by have h9 : DataW.trod enc prog W 0 (fun _ => true) held k 60 (([c0, c1, c2, c3, c4, c5, c6, c7].drop 2).take (prog.cellsOf 60)) = some y2 := hg 2 _ rfl; rw [show prog.cellsOf 60 = 1 by kernel_rfl] at h9; exact h9
   have g3 : DataW.trod enc prog W 0 (fun _ => true) held k 9 [c3] = some y3 := by have h9 : DataW.trod enc prog W 0 (fun _ => true) held k 9 (([c0, c1, c2, c3, c4, c5, c6, c7].drop 3).take (prog.cellsOf 9)) = some y3 := hg 3 _ rfl; rw [show prog.cellsOf 9 = 1 by kernel_rfl] at h9; exact h9
   have g4 : DataW.trod enc prog W 0 (fun _ => true) held k 9 [c4] = some y4 := by have h9 : DataW.trod enc prog W 0 (fun _ => true) held k 9 (([c0, c1, c2, c3, c4, c5, c6, c7].drop 4).take (prog.cellsOf 9)) = some y4 := hg 4 _ rfl; rw [show prog.cellsOf 9 = 1 by kernel_rfl] at h9; exact h9
   have g5 : DataW.trod enc prog W 0 (fun _ => true) held k 3 [c5] = some y5 := by have h9 : DataW.trod enc prog W 0 (fun _ => true) held k 3 (([c0, c1, c2, c3, c4, c5, c6, c7].drop 5).take (prog.cellsOf 3)) = some y5 := hg 5 _ rfl; rw [show prog.cellsOf 3 = 1 by kernel_rfl] at h9; exact h9
   have g6 : DataW.trod enc prog W 0 (fun _ => true) held k 9 [c6] = some y6 := by have h9 : DataW.trod enc prog W 0 (fun _ => true) held k 9 (([c0, c1, c2, c3, c4, c5, c6, c7].drop 6).take (prog.cellsOf 9)) = some y6 := hg 6 _ rfl; rw [show prog.cellsOf 9 = 1 by kernel_rfl] at h9; exact h9
   have g7 : DataW.trod enc prog W 0 (fun _ => true) held k 3 [c7] = some y7 := by have h9 : DataW.trod enc prog W 0 (fun _ => true) held k 3 (([c0, c1, c2, c3, c4, c5, c6, c7].drop 7).take (prog.cellsOf 3)) = some y7 := hg 7 _ rfl; rw [show prog.cellsOf 3 = 1 by kernel_rfl] at h9; exact h9
   obtain ⟨v0, e0, _, b0⟩ := DataW.trod_string underlying9 g0
   simp at e0
   subst e0; have s1 : b_2 55 y1.1 := a_r underlying62 hw (j := 1) rfl rfl; obtain ⟨A1, n1, l1, rfl, h1, k1, m1, b1⟩ := Step.cols_sl (c0 := c1) g1 s1; have s2 : b_2 60 y2.1 := a_r underlying62 hw (j := 2) rfl rfl; obtain ⟨A2, n2, l2, rfl, h2, k2, m2, b2⟩ := Step.stps_sl (c0 := c2) g2 s2; obtain ⟨v3, e3, _, b3⟩ := DataW.trod_string underlying9 g3
   simp at e3
   subst e3; obtain ⟨v4, e4, _, b4⟩ := DataW.trod_string underlying9 g4
   simp at e4
   subst e4; obtain ⟨v5, e5, _, b5⟩ := DataW.trod_int underlying3 g5
   simp at e5
   subst e5; obtain ⟨v6, e6, _, b6⟩ := DataW.trod_string underlying9 g6
   simp at e6
   subst e6; obtain ⟨v7, e7, _, b7⟩ := DataW.trod_int underlying3 g7
   simp at e7
   subst e7; exact ⟨⟨bs v0, l1, l2, bs v3, bs v4, v5, bs v6, v7⟩, ⟨b0, b4, b1, b2, m2⟩, (A1, n1), (A2, n2), h1, h2, by show _ = [Value.string ⟨(bs v0).toArray⟩, _, _, Value.string ⟨(bs v3).toArray⟩, Value.string ⟨(bs v4).toArray⟩, _, Value.string ⟨(bs v6).toArray⟩, _]; rw [c_y, c_y, c_y, c_y]⟩
theorem Step.mdls_sl {H : Type} {enc : TypeId × Value → H} {W : World} {held : Bool} {fuel : Nat} {c0 : Value} {x : DataW H × List MemPlace} (h : DataW.trod enc prog W 0 (fun _ => true) held fuel 30 [c0] = some x) (hw : b_2 30 x.1) :
  ∃ (A : Option Addr) (c : Nat) (l : List Mdl), c0 = .slice A l.length c ∧ a_l 8 f_I W A l ∧ l.length ≤ c ∧ (∀ y ∈ l, (Mdl.ok) y) ∧ l.length ≤ 8796093022208 := by
 obtain ⟨A, c, l, e, h1, h2, h3, h4⟩ := Step.rows_of (H := H) (enc := enc) (W := W) (held := held) f_I (Mdl.ok) 8 d_ underlying30 (show prog.cellsOf 62 = 8 by kernel_rfl) ⟨[], [], [], [], [], 0, [], 0⟩ (fun fuel cs x hcl ht hw => Step.mdls_cells hcl ht hw) h hw
 exact ⟨A, c, l, e, h1, h2, h3, b_K (show 16 ≤ prog.bytesOf 62 by rw [show prog.bytesOf 62 = 128 by kernel_rfl]; decide) h4⟩
theorem Step.snps_cells {H : Type} {enc : TypeId × Value → H} {W : World} {held : Bool} {fuel : Nat} {cs : List Value} {x : DataW H × List MemPlace} (hl : cs.length = 2)
  (h : DataW.trod enc prog W 0 (fun _ => true) held fuel 52 cs = some x) (hw : b_2 52 x.1) : ∃ y : Snp, (Snp.ok) y ∧ i_i W y cs := by
 obtain ⟨ys, k, _, hy, _, hyl, hg⟩ := DataW.trod_struct underlying52 h
 match cs, hl with
 | [c0, c1], _ =>
  match ys, hyl with
  | [y0, y1], _ =>
   rw [hy] at hw; have g0 : DataW.trod enc prog W 0 (fun _ => true) held k 9 [c0] = some y0 := by have h9 : DataW.trod enc prog W 0 (fun _ => true) held k 9 (([c0, c1].drop 0).take (prog.cellsOf 9)) = some y0 := hg 0 _ rfl; rw [show prog.cellsOf 9 = 1 by kernel_rfl] at h9; exact h9
   have g1 : DataW.trod enc prog W 0 (fun _ => true) held k 9 [c1] = some y1 := by have h9 : DataW.trod enc prog W 0 (fun _ => true) held k 9 (([c0, c1].drop 1).take (prog.cellsOf 9)) = some y1 := hg 1 _ rfl; rw [show prog.cellsOf 9 = 1 by kernel_rfl] at h9; exact h9
   obtain ⟨v0, e0, _, b0⟩ := DataW.trod_string underlying9 g0
   simp at e0
   subst e0; obtain ⟨v1, e1, _, b1⟩ := DataW.trod_string underlying9 g1
   simp at e1
   subst e1; exact ⟨⟨bs v0, bs v1⟩, ⟨b0, b1⟩, by show _ = [Value.string ⟨(bs v0).toArray⟩, Value.string ⟨(bs v1).toArray⟩]; rw [c_y, c_y]⟩
theorem Step.snps_sl {H : Type} {enc : TypeId × Value → H} {W : World} {held : Bool} {fuel : Nat} {c0 : Value} {x : DataW H × List MemPlace} (h : DataW.trod enc prog W 0 (fun _ => true) held fuel 31 [c0] = some x) (hw : b_2 31 x.1) :
  ∃ (A : Option Addr) (c : Nat) (l : List Snp), c0 = .slice A l.length c ∧ a_l 2 i_i W A l ∧ l.length ≤ c ∧ (∀ y ∈ l, (Snp.ok) y) ∧ l.length ≤ 8796093022208 := by
 obtain ⟨A, c, l, e, h1, h2, h3, h4⟩ := Step.rows_of (H := H) (enc := enc) (W := W) (held := held) i_i (Snp.ok) 2 d_ underlying31 (show prog.cellsOf 52 = 2 by kernel_rfl) ⟨[], []⟩ (fun fuel cs x hcl ht hw => Step.snps_cells hcl ht hw) h hw
 exact ⟨A, c, l, e, h1, h2, h3, b_K (show 16 ≤ prog.bytesOf 52 by rw [show prog.bytesOf 52 = 32 by kernel_rfl]; decide) h4⟩
set_option maxRecDepth 512
theorem Step.ratio_cells {H : Type} {enc : TypeId × Value → H} {W : World} {held : Bool} {fuel : Nat} {c0 c1 : Value} {x : DataW H × List MemPlace}
  (h : DataW.trod enc prog W 0 (fun _ => true) held fuel 65 [c0, c1] = some x) : ∃ p q : Int, [c0, c1] = [.int .i64 p, .int .i64 q] := by
 obtain ⟨ys, k, _, hy, _, hyl, hg⟩ := DataW.trod_struct underlying65 h
 match ys, hyl with
 | [y0, y1], _ =>
  have g0 : DataW.trod enc prog W 0 (fun _ => true) held k 3 (([c0, c1].drop 0).take (prog.cellsOf 3)) = some y0 := hg 0 _ rfl
  have g1 : DataW.trod enc prog W 0 (fun _ => true) held k 3 (([c0, c1].drop 1).take (prog.cellsOf 3)) = some y1 := hg 1 _ rfl
  rw [Step.cInt] at g0 g1
  obtain ⟨v0, e0, _⟩ := DataW.trod_int underlying3 g0
  obtain ⟨v1, e1, _⟩ := DataW.trod_int underlying3 g1
  simp at e0 e1
  subst e0 e1
  exact ⟨v0, v1, rfl⟩
set_option maxRecDepth 100000
theorem Step.chks_cells {H : Type} {enc : TypeId × Value → H} {W : World} {held : Bool} {fuel : Nat} {cs : List Value} {x : DataW H × List MemPlace} (hl : cs.length = 14)
  (h : DataW.trod enc prog W 0 (fun _ => true) held fuel 67 cs = some x) (hw : b_2 67 x.1) : ∃ y : Chk, (Chk.ok) y ∧ f_h W y cs := by
 obtain ⟨ys, k, _, hy, _, hyl, hg⟩ := DataW.trod_struct underlying67 h
 match cs, hl with
 | [c0, c1, c2, c3, c4, c5, c6, c7, c8, c9, c10, c11, c12, c13], _ =>
  match ys, hyl with
  | [y0, y1, y2, y3, y4, y5, y6, y7, y8, y9, y10, y11], _ =>
   rw [hy] at hw; have g0 : DataW.trod enc prog W 0 (fun _ => true) held k 9 [c0] = some y0 := by have h9 : DataW.trod enc prog W 0 (fun _ => true) held k 9 (([c0, c1, c2, c3, c4, c5, c6, c7, c8, c9, c10, c11, c12, c13].drop 0).take (prog.cellsOf 9)) = some y0 := hg 0 _ rfl; rw [show prog.cellsOf 9 = 1 by kernel_rfl] at h9; exact h9
   have g1 : DataW.trod enc prog W 0 (fun _ => true) held k 9 [c1] = some y1 := by have h9 : DataW.trod enc prog W 0 (fun _ => true) held k 9 (([c0, c1, c2, c3, c4, c5, c6, c7, c8, c9, c10, c11, c12, c13].drop 1).take (prog.cellsOf 9)) = some y1 := hg 1 _ rfl; rw [show prog.cellsOf 9 = 1 by kernel_rfl] at h9; exact h9
   have g2 : DataW.trod enc prog W 0 (fun _ => true) held k 3 [c2] = some y2 := by have h9 : DataW.trod enc prog W 0 (fun _ => true) held k 3 (([c0, c1, c2, c3, c4, c5, c6, c7, c8, c9, c10, c11, c12, c13].drop 2).take (prog.cellsOf 3)) = some y2 := hg 2 _ rfl; rw [show prog.cellsOf 3 = 1 by kernel_rfl] at h9; exact h9
   have g3 : DataW.trod enc prog W 0 (fun _ => true) held k 26 [c3] = some y3 := by have h9 : DataW.trod enc prog W 0 (fun _ => true) held k 26 (([c0, c1, c2, c3, c4, c5, c6, c7, c8, c9, c10, c11, c12, c13].drop 3).take (prog.cellsOf 26)) = some y3 := hg 3 _ rfl; rw [show prog.cellsOf 26 = 1 by kernel_rfl] at h9; exact h9
   have g4 : DataW.trod enc prog W 0 (fun _ => true) held k 9 [c4] = some y4 := by have h9 : DataW.trod enc prog W 0 (fun _ => true) held k 9 (([c0, c1, c2, c3, c4, c5, c6, c7, c8, c9, c10, c11, c12, c13].drop 4).take (prog.cellsOf 9)) = some y4 := hg 4 _ rfl; rw [show prog.cellsOf 9 = 1 by kernel_rfl] at h9; exact h9
   have g5 : DataW.trod enc prog W 0 (fun _ => true) held k 26 [c5] = some y5 := by have h9 : DataW.trod enc prog W 0 (fun _ => true) held k 26 (([c0, c1, c2, c3, c4, c5, c6, c7, c8, c9, c10, c11, c12, c13].drop 5).take (prog.cellsOf 26)) = some y5 := hg 5 _ rfl; rw [show prog.cellsOf 26 = 1 by kernel_rfl] at h9; exact h9
   have g6 : DataW.trod enc prog W 0 (fun _ => true) held k 3 [c6] = some y6 := by have h9 : DataW.trod enc prog W 0 (fun _ => true) held k 3 (([c0, c1, c2, c3, c4, c5, c6, c7, c8, c9, c10, c11, c12, c13].drop 6).take (prog.cellsOf 3)) = some y6 := hg 6 _ rfl; rw [show prog.cellsOf 3 = 1 by kernel_rfl] at h9; exact h9
   have g7 : DataW.trod enc prog W 0 (fun _ => true) held k 3 [c7] = some y7 := by have h9 : DataW.trod enc prog W 0 (fun _ => true) held k 3 (([c0, c1, c2, c3, c4, c5, c6, c7, c8, c9, c10, c11, c12, c13].drop 7).take (prog.cellsOf 3)) = some y7 := hg 7 _ rfl; rw [show prog.cellsOf 3 = 1 by kernel_rfl] at h9; exact h9
   have g8 : DataW.trod enc prog W 0 (fun _ => true) held k 63 [c8] = some y8 := by have h9 : DataW.trod enc prog W 0 (fun _ => true) held k 63 (([c0, c1, c2, c3, c4, c5, c6, c7, c8, c9, c10, c11, c12, c13].drop 8).take (prog.cellsOf 63)) = some y8 := hg 8 _ rfl; rw [show prog.cellsOf 63 = 1 by kernel_rfl] at h9; exact h9
   have g9 : DataW.trod enc prog W 0 (fun _ => true) held k 65 [c9, c10] = some y9 := by have h9 : DataW.trod enc prog W 0 (fun _ => true) held k 65 (([c0, c1, c2, c3, c4, c5, c6, c7, c8, c9, c10, c11, c12, c13].drop 9).take (prog.cellsOf 65)) = some y9 := hg 9 _ rfl; rw [show prog.cellsOf 65 = 2 by kernel_rfl] at h9; exact h9
   have g10 : DataW.trod enc prog W 0 (fun _ => true) held k 65 [c11, c12] = some y10 := by have h9 : DataW.trod enc prog W 0 (fun _ => true) held k 65 (([c0, c1, c2, c3, c4, c5, c6, c7, c8, c9, c10, c11, c12, c13].drop 11).take (prog.cellsOf 65)) = some y10 := hg 10 _ rfl; rw [show prog.cellsOf 65 = 2 by kernel_rfl] at h9; exact h9
   have g11 : DataW.trod enc prog W 0 (fun _ => true) held k 3 [c13] = some y11 := by have h9 : DataW.trod enc prog W 0 (fun _ => true) held k 3 (([c0, c1, c2, c3, c4, c5, c6, c7, c8, c9, c10, c11, c12, c13].drop 13).take (prog.cellsOf 3)) = some y11 := hg 11 _ rfl; rw [show prog.cellsOf 3 = 1 by kernel_rfl] at h9; exact h9
   obtain ⟨v0, e0, _, b0⟩ := DataW.trod_string underlying9 g0
   simp at e0
   subst e0; obtain ⟨v1, e1, _, b1⟩ := DataW.trod_string underlying9 g1
   simp at e1
   subst e1; obtain ⟨v2, e2, _, b2⟩ := DataW.trod_int underlying3 g2
   simp at e2
   subst e2; have s3 : b_2 26 y3.1 := a_r underlying67 hw (j := 3) rfl rfl; obtain ⟨A3, n3, l3, rfl, h3, k3, m3, b3⟩ := Step.strs_sl (c0 := c3) g3 s3; obtain ⟨v4, e4, _, b4⟩ := DataW.trod_string underlying9 g4
   simp at e4
   subst e4; have s5 : b_2 26 y5.1 := a_r underlying67 hw (j := 5) rfl rfl; obtain ⟨A5, n5, l5, rfl, h5, k5, m5, b5⟩ := Step.strs_sl (c0 := c5) g5 s5; obtain ⟨v6, e6, _, b6⟩ := DataW.trod_int underlying3 g6
   simp at e6
   subst e6; obtain ⟨v7, e7, _, b7⟩ := DataW.trod_int underlying3 g7
   simp at e7
   subst e7; have s8 : b_2 63 y8.1 := a_r underlying67 hw (j := 8) rfl rfl; obtain ⟨A8, n8, l8, rfl, h8, k8, m8, b8⟩ := Step.nds_sl (c0 := c8) g8 s8; obtain ⟨p9, q9, e9⟩ := Step.ratio_cells g9
   simp at e9
   obtain ⟨rfl, rfl⟩ := e9; obtain ⟨p10, q10, e10⟩ := Step.ratio_cells g10
   simp at e10
   obtain ⟨rfl, rfl⟩ := e10; obtain ⟨v11, e11, _, b11⟩ := DataW.trod_int underlying3 g11
   simp at e11
   subst e11; exact ⟨⟨bs v0, bs v1, v2, l3, bs v4, l5, v6, v7, l8, p9, q9, p10, q10, v11⟩, ⟨b0, b1, b4, b3, b5, b8, m8⟩, (A3, n3), (A5, n5), (A8, n8), ⟨h3, k3⟩, ⟨h5, k5⟩, h8, by show _ = [Value.string ⟨(bs v0).toArray⟩, Value.string ⟨(bs v1).toArray⟩, _, _, Value.string ⟨(bs v4).toArray⟩, _, _, _, _, _, _, _, _, _]; rw [c_y, c_y, c_y]⟩
theorem Step.chks_sl {H : Type} {enc : TypeId × Value → H} {W : World} {held : Bool} {fuel : Nat} {c0 : Value} {x : DataW H × List MemPlace} (h : DataW.trod enc prog W 0 (fun _ => true) held fuel 32 [c0] = some x) (hw : b_2 32 x.1) :
  ∃ (A : Option Addr) (c : Nat) (l : List Chk), c0 = .slice A l.length c ∧ a_l 14 f_h W A l ∧ l.length ≤ c ∧ (∀ y ∈ l, (Chk.ok) y) ∧ l.length ≤ 8796093022208 := by
 obtain ⟨A, c, l, e, h1, h2, h3, h4⟩ := Step.rows_of (H := H) (enc := enc) (W := W) (held := held) f_h (Chk.ok) 14 d_ underlying32 (show prog.cellsOf 67 = 14 by kernel_rfl) ⟨[], [], 0, [], [], [], 0, 0, [], 0, 0, 0, 0, 0⟩ (fun fuel cs x hcl ht hw => Step.chks_cells hcl ht hw) h hw
 exact ⟨A, c, l, e, h1, h2, h3, b_K (show 16 ≤ prog.bytesOf 67 by rw [show prog.bytesOf 67 = 184 by kernel_rfl]; decide) h4⟩
theorem Step.dfs_cells {H : Type} {enc : TypeId × Value → H} {W : World} {held : Bool} {fuel : Nat} {cs : List Value} {x : DataW H × List MemPlace} (hl : cs.length = 6)
  (h : DataW.trod enc prog W 0 (fun _ => true) held fuel 34 cs = some x) (hw : b_2 34 x.1) : ∃ (d : Dfs) (a : DAdr), d.ok ∧ d.Sl W a ∧ cs = d.cells a := by
 obtain ⟨ys, k, _, hy, _, hyl, hg⟩ := DataW.trod_struct underlying34 h
 match cs, hl with
 | [c0, c1, c2, c3, c4, c5], _ =>
  match ys, hyl with
  | [y0, y1, y2, y3, y4, y5], _ =>
   rw [hy] at hw; have g0 : DataW.trod enc prog W 0 (fun _ => true) held k 27 (([c0, c1, c2, c3, c4, c5].drop 0).take (prog.cellsOf 27)) = some y0 := hg 0 _ rfl; rw [show prog.cellsOf 27 = 1 by kernel_rfl] at g0; have g1 : DataW.trod enc prog W 0 (fun _ => true) held k 28 (([c0, c1, c2, c3, c4, c5].drop 1).take (prog.cellsOf 28)) = some y1 := hg 1 _ rfl; rw [show prog.cellsOf 28 = 1 by kernel_rfl] at g1; have g2 : DataW.trod enc prog W 0 (fun _ => true) held k 29 (([c0, c1, c2, c3, c4, c5].drop 2).take (prog.cellsOf 29)) = some y2 := hg 2 _ rfl; rw [show prog.cellsOf 29 = 1 by kernel_rfl] at g2; have g3 : DataW.trod enc prog W 0 (fun _ => true) held k 30 (([c0, c1, c2, c3, c4, c5].drop 3).take (prog.cellsOf 30)) = some y3 := hg 3 _ rfl; rw [show prog.cellsOf 30 = 1 by kernel_rfl] at g3; have g4 : DataW.trod enc prog W 0 (fun _ => true) held k 31 (([c0, c1, c2, c3, c4, c5].drop 4).take (prog.cellsOf 31)) = some y4 := hg 4 _ rfl; rw [show prog.cellsOf 31 = 1 by kernel_rfl] at g4; have g5 : DataW.trod enc prog W 0 (fun _ => true) held k 32 (([c0, c1, c2, c3, c4, c5].drop 5).take (prog.cellsOf 32)) = some y5 := hg 5 _ rfl; rw [show prog.cellsOf 32 = 1 by kernel_rfl] at g5; have s0 : b_2 27 y0.1 := a_r underlying34 hw (j := 0) rfl rfl; obtain ⟨A0, n0, l0, rfl, h0, k0, m0, b0⟩ := Step.zns_sl (c0 := c0) g0 s0; have s1 : b_2 28 y1.1 := a_r underlying34 hw (j := 1) rfl rfl; obtain ⟨A1, n1, l1, rfl, h1, k1, m1, b1⟩ := Step.srcs_sl (c0 := c1) g1 s1; have s2 : b_2 29 y2.1 := a_r underlying34 hw (j := 2) rfl rfl; obtain ⟨A2, n2, l2, rfl, h2, k2, m2, b2⟩ := Step.macs_sl (c0 := c2) g2 s2; have s3 : b_2 30 y3.1 := a_r underlying34 hw (j := 3) rfl rfl; obtain ⟨A3, n3, l3, rfl, h3, k3, m3, b3⟩ := Step.mdls_sl (c0 := c3) g3 s3; have s4 : b_2 31 y4.1 := a_r underlying34 hw (j := 4) rfl rfl; obtain ⟨A4, n4, l4, rfl, h4, k4, m4, b4⟩ := Step.snps_sl (c0 := c4) g4 s4; have s5 : b_2 32 y5.1 := a_r underlying34 hw (j := 5) rfl rfl; obtain ⟨A5, n5, l5, rfl, h5, k5, m5, b5⟩ := Step.chks_sl (c0 := c5) g5 s5; exact ⟨⟨l0, l1, l2, l3, l4, l5⟩, ⟨(A0, n0), (A1, n1), (A2, n2), (A3, n3), (A4, n4), (A5, n5)⟩, ⟨m0, m1, m2, m3, m4, m5, b0, b1, b2, b3, b4, b5⟩, ⟨h0, h1, h2, h3, h4, h5⟩, rfl⟩
theorem Step.mdus_cells {H : Type} {enc : TypeId × Value → H} {W : World} {held : Bool} {fuel : Nat} {cs : List Value} {x : DataW H × List MemPlace} (hl : cs.length = 8)
  (h : DataW.trod enc prog W 0 (fun _ => true) held fuel 36 cs = some x) (hw : b_2 36 x.1) : ∃ y : Mdu, (Mdu.ok) y ∧ f_g W y cs := by
 obtain ⟨ys, k, _, hy, _, hyl, hg⟩ := DataW.trod_struct underlying36 h
 match cs, hl with
 | [c0, c1, c2, c3, c4, c5, c6, c7], _ =>
  match ys, hyl with
  | [y0, y1, y2], _ =>
   rw [hy] at hw; refine r_G ?_; intro g0; have g1 : DataW.trod enc prog W 0 (fun _ => true) held k 26 [c1] = some y1 := by have h9 : DataW.trod enc prog W 0 (fun _ => true) held k 26 (([c0, c1, c2, c3, c4, c5, c6, c7].drop 1).take (prog.cellsOf 26)) = some y1 := hg 1 _ rfl; rw [show prog.cellsOf 26 = 1 by kernel_rfl] at h9; exact h9
   have g2 : DataW.trod enc prog W 0 (fun _ => true) held k 34 [c2, c3, c4, c5, c6, c7] = some y2 := by have h9 : DataW.trod enc prog W 0 (fun _ => true) held k 34 (([c0, c1, c2, c3, c4, c5, c6, c7].drop 2).take (prog.cellsOf 34)) = some y2 := hg 2 _ rfl; rw [show prog.cellsOf 34 = 6 by kernel_rfl] at h9; exact h9
   obtain ⟨v0, e0, _, b0⟩ := DataW.trod_string underlying9 g0
   simp at e0
   subst e0; have s1 : b_2 26 y1.1 := a_r underlying36 hw (j := 1) rfl rfl; obtain ⟨A1, n1, l1, rfl, h1, k1, m1, b1⟩ := Step.strs_sl (c0 := c1) g1 s1; have s2 : b_2 34 y2.1 := a_r underlying36 hw (j := 2) rfl rfl; obtain ⟨d2, a2, ok2, hS2, e2⟩ := Step.dfs_cells s_ g2 s2
   simp [Dfs.cells] at e2
   obtain ⟨rfl, rfl, rfl, rfl, rfl, rfl⟩ := e2; exact ⟨⟨bs v0, l1, d2⟩, ⟨b1, ok2⟩, (A1, n1), a2, ⟨h1, k1⟩, hS2, by show _ = [Value.string ⟨(bs v0).toArray⟩, _, _, _, _, _, _, _]; rw [c_y]⟩
theorem Step.mdus_sl {H : Type} {enc : TypeId × Value → H} {W : World} {held : Bool} {fuel : Nat} {c0 : Value} {x : DataW H × List MemPlace} (h : DataW.trod enc prog W 0 (fun _ => true) held fuel 22 [c0] = some x) (hw : b_2 22 x.1) :
  ∃ (A : Option Addr) (c : Nat) (l : List Mdu), c0 = .slice A l.length c ∧ a_l 8 f_g W A l ∧ l.length ≤ c ∧ (∀ y ∈ l, (Mdu.ok) y) ∧ l.length ≤ 8796093022208 := by
 obtain ⟨A, c, l, e, h1, h2, h3, h4⟩ := Step.rows_of (H := H) (enc := enc) (W := W) (held := held) f_g (Mdu.ok) 8 d_ underlying22 (show prog.cellsOf 36 = 8 by kernel_rfl) ⟨[], [], ⟨[], [], [], [], [], []⟩⟩ (fun fuel cs x hcl ht hw => Step.mdus_cells hcl ht hw) h hw
 exact ⟨A, c, l, e, h1, h2, h3, b_K (show 16 ≤ prog.bytesOf 36 by rw [show prog.bytesOf 36 = 184 by kernel_rfl]; decide) h4⟩
end
end Go.Proofs.YtnpjibaolicbmaaGreatDoor
