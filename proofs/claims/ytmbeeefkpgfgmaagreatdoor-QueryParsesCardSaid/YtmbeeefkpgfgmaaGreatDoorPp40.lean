/- Parts of the proof. -/
import Derived.Test.YtmbeeefkpgfgmaaGreatDoorPp39
import Derived.Test.YtmbeeefkpgfgmaaGreatDoorPp36
set_option linter.unusedVariables false
set_option linter.unusedSimpArgs false
set_option maxHeartbeats 4000000
namespace Go.Proofs.YtmbeeefkpgfgmaaGreatDoor
open Go.Proofs.Tryz
open Go.RowKit
def k_p (w' : World) (r : List Stp × Int × Int) (e : Ending) : Prop := ∃ (B : Option Addr) (n : Nat), e = .returned (.tuple #[.slice B r.1.length n, .int .i64 r.2.1, .int .i64 r.2.2]) ∧ d_l w' B r.1
set_option maxRecDepth 100000
theorem g_t (A : Option Addr) (ts : List Tok) (c : Nat) (a : Int) (w : World) (hG : Glob w) (hU : b_R w) (hA : d_a w A ts) (hl2 : ts.length + 2 ≤ 1000000) (hx : ∀ j (h : j < ts.length), ts[j].text.length ≤ maxLen) :
  Calls prog 27 #[.slice A ts.length c, .int .i64 a] w fun e w' => k_p w' (qaS ts a) e ∧ Below w.heap.size w w' := by
 have hl : ts.length ≤ 1000000 := by omega
 have HV := a_0 (d_z A ts c w hG hA hl hx)
 have HG := a_0 hG
 have HA := a_0 hA
 have HU := a_0 hU
 clear hG hA hx hU
 by_cases hv : a_O ts = false
 ·have hE : h_N ts = 8 := by unfold h_N; rw [hv]; rfl
  have HP := a_0 (show qaS ts a = ([], 0, 8) from by unfold qaS; rw [if_pos hv])
  rw [hE] at HV
  clear hv hE
  go_enter func27, ntmps27
  go_wp2_with fail
  refine HV.out.mono ?_
  rintro e w1 ⟨rfl, hb1⟩
  go_wp2
  exact s_2
 refine t_Q ?_; intro hvt hE
 rw [hE] at HV
 clear hE
 by_cases hr : a < 0 ∨ (ts.length : Int) ≤ a
 ·have HP := a_0 (show qaS ts a = ([], 0, 1) from by unfold qaS; rw [if_neg hv, if_pos hr])
  clear hv hvt
  rcases hr with h | h
  all_goals
   go_enter func27, ntmps27
   go_wp2_with fail
   refine HV.out.mono ?_; rintro e w1 ⟨rfl, hb1⟩
   go_wp2
   all_goals exact s_2
 obtain ⟨i, rfl⟩ : ∃ i : Nat, a = (i : Int) := ⟨a.toNat, o_⟩
 have hi : i < ts.length := by omega
 obtain ⟨hok, hln, hju⟩ := h_6 hvt o_ false ⟨i, 0⟩ hi
 have HP := a_0 (show qaS ts (i : Int) = (if (if (a_w false ts ⟨i, 0⟩).2.e = 0 then a_E (a_w false ts ⟨i, 0⟩).1 else (a_w false ts ⟨i, 0⟩).2.e) ≠ 0 then ([], ((a_w false ts ⟨i, 0⟩).2.i : Int), (if (a_w false ts ⟨i, 0⟩).2.e = 0 then a_E (a_w false ts ⟨i, 0⟩).1 else (a_w false ts ⟨i, 0⟩).2.e)) else ((a_w false ts ⟨i, 0⟩).1, ((a_w false ts ⟨i, 0⟩).2.i : Int), 0)) from by unfold qaS; rw [if_neg hv, if_neg hr]; rfl)
 have HQu := a_0 (fun (W : World) (P : Nat) (h : QPt QT W P A ts c ⟨i, 0⟩) => r_I W P A ts c ⟨i, 0⟩ hvt h hi o_)
 have HSt := a_0 (show ∀ w1 : World, Below w.heap.size w w1 → QPt QT (w1.alloc (.cells #[.slice A ts.length c, .int .i64 i, .int .i64 0] QT)) w1.heap.size A ts c ⟨i, 0⟩ from fun w1 hb =>
  ⟨heap_alloc_new w1 _, (j_B (HA.out.below hb) o_).bl (Below.alloc (b_ _ w1) (l_ _) _), (k_s.of (HG.out.below hb)).fr (Below.alloc (b_ _ w1) (l_ _) _)⟩)
 clear hvt hv hr HG HA
 generalize a_w false ts ⟨i, 0⟩ = r at *
 obtain ⟨ss, j, x⟩ := r
 simp only at hok hln hju HP HQu
 go_enter func27, ntmps27
 go_wp2_with fail
 refine HV.out.mono ?_
 rintro e w1 ⟨rfl, hb1⟩
 go_wp2_with fail
 refine (HQu.out _ w1.heap.size (HSt.out w1 hb1)).mono ?_
 rintro e w2 ⟨⟨B, n, az, rfl, hR2⟩, hq2⟩
 refine v_u ?_; intro hbw HS2 HR2 HRw
 clear hR2 hq2 HQu HSt HV
 obtain ⟨c0, c1, c2⟩ := HS2.out.cells
 have hP2 := HS2.out.lt
 have hfr := HS2.out.free
 simp only at c1 c2
 by_cases hx : x = 0
 ·subst hx
  have hz2 := hbw.size
  have HVe := a_0 (d_B B ss n w2 ((HS2.out.glb _ (b_ _ _)).words) (HU.out.below hbw) HR2.out o_ hok)
  have HPv := a_0 (show qaS ts (i : Int) = (if a_E ss = 0 then (ss, (j : Int), 0) else ([], (j : Int), a_E ss)) from by rw [HP.out]; by_cases h : a_E ss = 0 <;> simp [h])
  clear hok HU
  go_wp2_with fail
  refine HVe.out.mono ?_
  rintro e3 w3 ⟨rfl, hb3⟩
  have HS3 := HS2.out.below hb3
  clear c0 c1 c2 hfr
  obtain ⟨c0, c1, c2⟩ := HS3.cells
  simp only at c1 c2
  have hP3 := HS3.lt
  have hfr := HS3.free
  have hz1 := hb1.size
  have hbw3 : Below w.heap.size w w3 := hbw.trans (hb3.mono hz2)
  have HR3 := a_0 (((HRw.out.below hb3).step HS3 (a_d (g_ w3 (some w1.heap.size)) 2 (.int .i64 (a_E ss))) s_).at_)
  clear HS3 HRw HR2 HP
  by_cases hve : a_E ss = 0
  ·have HPx := a_0 (show qaS ts (i : Int) = (ss, (j : Int), 0) from by rw [HPv.out, if_pos hve])
   rw [hve] at HR3 ⊢; clear hve HVe HPv
   go_wp2
   go_big_quiet (fail)
   go_wp2
   go_ret3
   rw [HPx.out]; exact ⟨⟨B, n, rfl, HR3.out.below (a_f (b_ _ _) _)⟩, zX⟩
  ·have HPx := a_0 (show qaS ts (i : Int) = ([], (j : Int), a_E ss) from by rw [HPv.out, if_neg hve])
   have hvb : (a_E ss == 0) = false := beq_eq_false_iff_ne.2 hve; have hvn : (a_E ss != 0) = true := by simpa using hve
   clear HVe HPv HR3 hve; generalize a_E ss = v at *
   go_wp2
   go_big_quiet (fail)
   go_wp2
   exact u_d
 ·have HPx := a_0 (show qaS ts (i : Int) = ([], (j : Int), x) from by rw [HP.out]; simp [hx])
  refine s_g ?_; intro hxb hxn
  clear hx HP
  go_wp2
  go_big_quiet (fail)
  go_wp2
  exact u_d
set_option maxRecDepth 100000
theorem n_Q (A : Option Addr) (ts : List Tok) (c : Nat) (a : Int) (w : World)
  (hqu : ∀ (i : Nat) (W : World) (P : Nat), a_O ts = true → i < ts.length → QPt QR W P A ts c ⟨i, 0⟩ → Calls prog 75 #[a_G P] W fun e w' => (∃ B n az, e = .returned (.slice B (a_w true ts ⟨i, 0⟩).1.length n) ∧ SRw W.heap.size w' (a_w true ts ⟨i, 0⟩).1 B n az) ∧ QPost QR W P A ts c ⟨(a_w true ts ⟨i, 0⟩).2.i, if (a_w true ts ⟨i, 0⟩).2.e = 0 then a_E (a_w true ts ⟨i, 0⟩).1 else (a_w true ts ⟨i, 0⟩).2.e⟩ w')
  (hG : Glob w) (hA : d_a w A ts) (hl2 : ts.length + 2 ≤ 1000000) (hx : ∀ j (h : j < ts.length), ts[j].text.length ≤ maxLen) :
  Calls prog 28 #[.slice A ts.length c, .int .i64 a] w fun e w' => k_p w' (qaS ts a) e ∧ Below w.heap.size w w' := by
 have hl : ts.length ≤ 1000000 := by omega
 have HV := a_0 (d_O A ts c w hA hl hx)
 have HG := a_0 hG
 have HA := a_0 hA
 clear hG hA hx
 by_cases hv : a_O ts = false
 ·have hE : h_N ts = 8 := by unfold h_N; rw [hv]; rfl
  have HP := a_0 (show qaS ts a = ([], 0, 8) from by unfold qaS; rw [if_pos hv])
  rw [hE] at HV
  clear hv hE
  go_enter func28, ntmps28
  go_wp2_with fail
  refine HV.out.mono ?_
  rintro e w1 ⟨rfl, hb1⟩
  go_wp2
  exact s_2
 refine t_Q ?_; intro hvt hE
 rw [hE] at HV
 clear hE
 by_cases hr : a < 0 ∨ (ts.length : Int) ≤ a
 ·have HP := a_0 (show qaS ts a = ([], 0, 1) from by unfold qaS; rw [if_neg hv, if_pos hr])
  clear hv hvt
  rcases hr with h | h
  all_goals
   go_enter func28, ntmps28
   go_wp2_with fail
   refine HV.out.mono ?_; rintro e w1 ⟨rfl, hb1⟩
   go_wp2
   all_goals exact s_2
 obtain ⟨i, rfl⟩ : ∃ i : Nat, a = (i : Int) := ⟨a.toNat, o_⟩
 have hi : i < ts.length := by omega
 have hx0 : ∃ (ss : List Stp) (j : Nat) (x : Int), (ss, j, x) = ((a_w true ts ⟨i, 0⟩).1, (a_w true ts ⟨i, 0⟩).2.i, if (a_w true ts ⟨i, 0⟩).2.e = 0 then a_E (a_w true ts ⟨i, 0⟩).1 else (a_w true ts ⟨i, 0⟩).2.e) := ⟨_, _, _, rfl⟩
 obtain ⟨ss, j, x, hx⟩ := hx0
 injection hx with hx1 hx2
 injection hx2 with hx2 hx3
 have HP := a_0 (show qaS ts (i : Int) = (if x = 0 then (ss, (j : Int), 0) else ([], (j : Int), x)) from by
  rw [r_h ts i hvt hi, hx1, hx2, hx3]
  by_cases he : (a_w true ts ⟨i, 0⟩).2.e = 0
  ·rw [if_pos he, if_pos he]
  ·rw [if_neg he, if_neg he, if_neg he])
 have HQu := a_0 (fun (W : World) (P : Nat) (h : QPt QR W P A ts c ⟨i, 0⟩) => hqu i W P hvt hi h)
 rw [← hx1, ← hx2] at HQu
 rw [hx1, ← hx3, ← hx1] at HQu
 have HSt := a_0 (show ∀ w1 : World, Below w.heap.size w w1 → QPt QR (w1.alloc (.cells #[.slice A ts.length c, .int .i64 i, .int .i64 0] QR)) w1.heap.size A ts c ⟨i, 0⟩ from fun w1 hb =>
  ⟨heap_alloc_new w1 _, (j_B (HA.out.below hb) o_).bl (Below.alloc (b_ _ w1) (l_ _) _), (k_s.of (HG.out.below hb)).fr (Below.alloc (b_ _ w1) (l_ _) _)⟩)
 clear hvt hv hr HG HA hqu hx1 hx2 hx3
 go_enter func28, ntmps28
 go_wp2_with fail
 refine HV.out.mono ?_
 rintro e w1 ⟨rfl, hb1⟩
 go_wp2_with fail
 refine (HQu.out _ w1.heap.size (HSt.out w1 hb1)).mono ?_
 rintro e w2 ⟨⟨B, n, az, rfl, hR2⟩, hq2⟩
 refine v_u ?_; intro hbw HS2 HR2 HRw
 clear hR2 hq2 HQu HSt HV
 obtain ⟨c0, c1, c2⟩ := HS2.out.cells
 have hP2 := HS2.out.lt
 have hfr := HS2.out.free
 simp only at c1 c2
 have HRz := a_0 HRw.out.at_
 clear HR2 HRw
 by_cases hx : x = 0
 ·subst hx
  have HPx := a_0 (show qaS ts (i : Int) = (ss, (j : Int), 0) from by rw [HP.out]; simp)
  clear HP
  go_wp2
  go_big_quiet (fail)
  go_wp2
  go_ret3
  rw [HPx.out]
  exact ⟨⟨B, n, rfl, HRz.out.below (a_f (b_ _ _) _)⟩, zX⟩
 ·have HPx := a_0 (show qaS ts (i : Int) = ([], (j : Int), x) from by rw [HP.out]; simp [hx])
  refine s_g ?_; intro hxb hxn
  clear hx HP
  go_wp2
  go_big_quiet (fail)
  go_wp2
  exact u_d
set_option maxRecDepth 512
theorem q_C {ts : List Tok} (hv : a_O ts = true) (h0 : 0 < ts.length) (hl : ts.length + 1 ≤ 1000000) : ∃ j : Nat, (qaS ts 0).2.1 = (j : Int) ∧ j < ts.length := by
 have h := (h_6 hv hl false ⟨0, 0⟩ h0).2.2
 unfold qaS
 rw [if_neg (by rw [hv]; decide), if_neg o_]
 simp only [Int.toNat_zero]
 repeat' split
 all_goals exact ⟨_, rfl, h⟩
set_option maxRecDepth 100000
theorem d_u (s : ByteArray) (w : World) (hG : Glob w) (hU : b_R w) (hs : s.size ≤ maxLen) :
  Calls prog 32 #[.string s] w fun e w' => k_p w' (qpS (bs s)) e ∧ Below w.heap.size w w' := by
 have HSp := a_0 (h_n s w hG hs)
 have HG := a_0 hG
 have HU := a_0 hU
 clear hG hs hU
 cases hsp : b_z (bs s) with
 | error x =>
  refine w_8 ?_; intro HP hne
  rw [hsp] at HSp
  clear hsp
  obtain ⟨x1, x2⟩ := x
  go_enter func32, ntmps32
  go_wp2_with fail
  refine HSp.out.mono ?_
  rintro e w1 ⟨h, hb1⟩
  obtain rfl : e = .returned (.tuple #[.slice none 0 0, .int .i64 (x1 : Nat), .int .i64 x2]) := h
  go_wp2
  exact s_2
 | ok ts =>
  have hv := i_0 hsp
  have hn := e_A hsp
  have h0 : 0 < ts.length := ((c_q ts).1 hv).1
  obtain ⟨j, hj, hjl⟩ := q_C hv h0 o_
  have hsh : ∀ j (h : j < ts.length), ts[j].text.length ≤ maxLen := fun j h => by
   have := j_K (((c_q ts).1 hv).2 j h).1; unfold maxLen; omega
  have HSh := a_0 hsh
  have HP := a_0 (show qpS (bs s) = (if (qaS ts 0).2.2 = 0 then (if (tk ts j).kind = 0 then ((qaS ts 0).1, 0, 0) else ([], (tk ts j).off, 3)) else ([], (tk ts j).off, (qaS ts 0).2.2)) from by
   unfold qpS; rw [hsp]; simp only; rw [hj]; rfl)
  rw [hsp] at HSp
  clear hsp hsh
  have HPa := a_0 (fun (W : World) (A : Option Addr) (c : Nat) (hb : Below w.heap.size w W) (ht : d_a W A ts) => g_t A ts c 0 W (HG.out.below hb) (HU.out.below hb) ht o_ HSh.out)
  clear hv
  generalize hr : qaS ts 0 = r at *
  obtain ⟨es, a, x⟩ := r
  simp only at hj HP
  subst hj
  clear hr
  go_enter func32, ntmps32
  go_wp2_with fail
  refine HSp.out.mono ?_
  rintro e w1 ⟨⟨A, c, rfl, ho⟩, hb1⟩
  have hta := g_2 ho
  have HTa := a_0 hta
  clear ho HSp
  go_wp2_with fail
  refine (HPa.out w1 A c hb1 hta).mono ?_
  rintro e w2 ⟨⟨B, n, rfl, ho2⟩, hb2⟩
  have hb3 := a_n hb2 hb1
  have HO2 := a_0 ho2
  simp only at HO2
  clear hta ho2 HPa
  rcases HTa.out.below hb2 with hnil | ⟨g, off, rfl, hg, hc⟩
  ·exact absurd h0 (by rw [hnil]; simp)
  obtain ⟨t0, t1, t2, t3⟩ := hc j hjl
  rw [← l_n hjl] at t0 t1 t2 t3
  clear hc
  generalize tk ts j = t at *
  obtain ⟨tk0, tk1, tk2, tk3⟩ := t
  simp only at t0 t1 t2 t3 HP
  have HB3 := a_0 hb3
  by_cases hx : x = 0
  ·subst hx
   by_cases hk : tk0 = 0
   ·subst hk
    have HE := a_0 (show qpS (bs s) = (es, 0, 0) from HP.out); clear HP
    go_wp2
    go_ret3
    rw [HE.out]; exact ⟨⟨B, n, rfl, HO2.out⟩, HB3.out⟩
   ·have HE := a_0 (show qpS (bs s) = ([], tk3, 3) from by rw [HP.out, if_pos rfl, if_neg hk])
    have hkn : (tk0 != 0) = true := by simpa using hk
    clear HP hk
    go_wp2
    go_big_quiet (fail)
    go_wp2
    exact _aq
  ·have HE := a_0 (show qpS (bs s) = ([], tk3, x) from by rw [HP.out, if_neg hx])
   refine s_g ?_; intro hxb hxn; clear HP hx
   go_wp2
   go_big_quiet (fail)
   go_wp2
   exact _aq
set_option maxRecDepth 100000
theorem r_x (s : ByteArray) (w : World)
  (hpa : ∀ (ts : List Tok) (W : World) (A : Option Addr) (c : Nat), a_O ts = true → ts.length + 2 ≤ 1000000 → (∀ j (h : j < ts.length), ts[j].text.length ≤ maxLen) → Below w.heap.size w W → d_a W A ts → Calls prog 28 #[.slice A ts.length c, .int .i64 0] W fun e w' => k_p w' (qaS ts 0) e ∧ Below W.heap.size W w')
  (hs : s.size ≤ maxLen) :
  Calls prog 69 #[.string s] w fun e w' => k_p w' (qpS (bs s)) e ∧ Below w.heap.size w w' := by
 have HSp := a_0 (i_z s w hs)
 have HPA := a_0 hpa
 clear hpa hs
 cases hsp : b_z (bs s) with
 | error x =>
  refine w_8 ?_; intro HP hne
  rw [hsp] at HSp
  clear hsp
  obtain ⟨x1, x2⟩ := x
  go_enter func69, ntmps69
  go_wp2_with fail
  refine HSp.out.mono ?_
  rintro e w1 ⟨h, hb1⟩
  obtain rfl : e = .returned (.tuple #[.slice none 0 0, .int .i64 (x1 : Nat), .int .i64 x2]) := h
  go_wp2
  exact s_2
 | ok ts =>
  have hv := i_0 hsp
  have hn := e_A hsp
  have h0 : 0 < ts.length := ((c_q ts).1 hv).1
  obtain ⟨j, hj, hjl⟩ := q_C hv h0 o_
  have hsh : ∀ j (h : j < ts.length), ts[j].text.length ≤ maxLen := fun j h => by
   have := j_K (((c_q ts).1 hv).2 j h).1; unfold maxLen; omega
  have HSh := a_0 hsh
  have HP := a_0 (show qpS (bs s) = (if (qaS ts 0).2.2 = 0 then (if (tk ts j).kind = 0 then ((qaS ts 0).1, 0, 0) else ([], (tk ts j).off, 3)) else ([], (tk ts j).off, (qaS ts 0).2.2)) from by
   unfold qpS; rw [hsp]; simp only; rw [hj]; rfl)
  rw [hsp] at HSp
  clear hsp hsh
  have HPa := a_0 (fun (W : World) (A : Option Addr) (c : Nat) (hb : Below w.heap.size w W) (ht : d_a W A ts) => HPA.out ts W A c hv o_ HSh.out hb ht)
  clear hv
  generalize hr : qaS ts 0 = r at *
  obtain ⟨es, a, x⟩ := r
  simp only at hj HP
  subst hj
  clear hr
  go_enter func69, ntmps69
  go_wp2_with fail
  refine HSp.out.mono ?_
  rintro e w1 ⟨⟨A, c, rfl, ho⟩, hb1⟩
  have hta := g_2 ho
  have HTa := a_0 hta
  clear ho HSp
  go_wp2_with fail
  refine (HPa.out w1 A c hb1 hta).mono ?_
  rintro e w2 ⟨⟨B, n, rfl, ho2⟩, hb2⟩
  have hb3 := a_n hb2 hb1
  have HO2 := a_0 ho2
  simp only at HO2
  clear hta ho2 HPa
  rcases HTa.out.below hb2 with hnil | ⟨g, off, rfl, hg, hc⟩
  ·exact absurd h0 (by rw [hnil]; simp)
  obtain ⟨t0, t1, t2, t3⟩ := hc j hjl
  rw [← l_n hjl] at t0 t1 t2 t3
  clear hc
  generalize tk ts j = t at *
  obtain ⟨tk0, tk1, tk2, tk3⟩ := t
  simp only at t0 t1 t2 t3 HP
  have HB3 := a_0 hb3
  by_cases hx : x = 0
  ·subst hx
   by_cases hk : tk0 = 0
   ·subst hk
    have HE := a_0 (show qpS (bs s) = (es, 0, 0) from HP.out); clear HP
    go_wp2
    go_ret3
    rw [HE.out]; exact ⟨⟨B, n, rfl, HO2.out⟩, HB3.out⟩
   ·have HE := a_0 (show qpS (bs s) = ([], tk3, 3) from by rw [HP.out, if_pos rfl, if_neg hk])
    have hkn : (tk0 != 0) = true := by simpa using hk
    clear HP hk
    go_wp2
    go_big_quiet (fail)
    go_wp2
    exact _aq
  ·have HE := a_0 (show qpS (bs s) = ([], tk3, x) from by rw [HP.out, if_neg hx])
   refine s_g ?_; intro hxb hxn; clear HP hx
   go_wp2
   go_big_quiet (fail)
   go_wp2
   exact _aq
set_option maxRecDepth 100000
theorem k_l (s : ByteArray) (w : World) (hG : Glob w) (hU : b_R w) (hs : s.size ≤ maxLen)
  (hr : ∀ W, Below w.heap.size w W → Calls prog 69 #[.string s] W fun e w' => k_p w' (qpS (bs s)) e ∧ Below W.heap.size W w')
  (hsame : ∀ W A B c d, Below w.heap.size w W → d_l W A (qpS (bs s)).1 → d_l W B (qpS (bs s)).1 → Calls prog 29 #[.slice A (qpS (bs s)).1.length c, .slice B (qpS (bs s)).1.length d] W fun e w' => e = .returned (.bool true) ∧ Below W.heap.size W w') :
  Calls prog 24 #[.string s] w fun e w' => e = .returned (.bool true) ∧ Below w.heap.size w w' := by
 have HQ := a_0 (d_u s w hG hU hs)
 have HR := a_0 hr
 have HS := a_0 hsame
 clear hG hU hs hr hsame
 generalize qpS (bs s) = r at *
 obtain ⟨l, i, x⟩ := r
 simp only at HS
 go_enter func24, ntmps24
 go_wp2_with fail
 refine HQ.out.mono ?_
 rintro e w1 ⟨⟨A, c, rfl, hA⟩, hb1⟩
 have HA := a_0 hA
 simp only at HA
 clear hA HQ
 go_wp2_with fail
 refine (HR.out w1 hb1).mono ?_
 rintro e w2 ⟨⟨B, d, rfl, hB⟩, hb2⟩
 have HB := a_0 hB
 simp only at HB
 have HA2 := a_0 (HA.out.below hb2)
 have hb12 := a_n hb2 hb1
 clear hB HR HA hb1 hb2
 go_wp2_with fail
 refine (HS.out w2 A B c d hb12 HA2.out HB.out).mono ?_
 rintro e w3 ⟨rfl, hb3⟩
 have hbb := a_0 (a_n hb3 hb12)
 clear HS HA2 HB hb12 hb3
 go_wp2
 go_ret
 exact ⟨rfl, hbb.out⟩
set_option maxRecDepth 512
theorem t_3 (W : World) (P : Nat) (A : Option Addr) (ts : List Tok) (cc : Nat) (s : QSt) (hv : a_O ts = true) (hS : QPt QR W P A ts cc s) (hi : s.i < ts.length) (hl : ts.length + 1 ≤ 1000000) :
  Calls prog 120 #[.pointer (some ⟨P, 0, none⟩)] W fun e w' => k_P w' (h_U ts s).1 e ∧ QPost QR W P A ts cc (h_U ts s).2 w' :=
 m_G d_Z b_f d_ o_y d_ (fun W => r_w W) (fun x h => q_p x h) W P A ts cc s hv hS hi hl
theorem l_q (W : World) (P : Nat) (A : Option Addr) (ts : List Tok) (cc : Nat) (s : QSt) (hv : a_O ts = true) (hS : QPt QR W P A ts cc s) (hi : s.i < ts.length) (hl : ts.length + 2 ≤ 1000000) :
  Calls prog 75 #[a_G P] W fun e w' => (∃ B c az, e = .returned (.slice B (a_w true ts s).1.length c) ∧ SRw W.heap.size w' (a_w true ts s).1 B c az) ∧ QPost QR W P A ts cc ⟨(a_w true ts s).2.i, if (a_w true ts s).2.e = 0 then a_E (a_w true ts s).1 else (a_w true ts s).2.e⟩ w' :=
 r_n W P A ts cc s hv (fun W' t h ht => t_3 W' P A ts cc t hv h ht o_) (fun t ht => p_i hv o_ t ht) hS hi hl
theorem j_F (A : Option Addr) (ts : List Tok) (c : Nat) (a : Int) (w : World) (hG : Glob w) (hA : d_a w A ts) (hl : ts.length + 2 ≤ 1000000) (hx : ∀ j (h : j < ts.length), ts[j].text.length ≤ maxLen) :
  Calls prog 28 #[.slice A ts.length c, .int .i64 a] w fun e w' => k_p w' (qaS ts a) e ∧ Below w.heap.size w w' :=
 n_Q A ts c a w (fun i W P hv hi h => l_q W P A ts c ⟨i, 0⟩ hv h hi hl) hG hA hl hx
theorem k_W (s : ByteArray) (w : World) (hG : Glob w) (hs : s.size ≤ maxLen) :
  Calls prog 69 #[.string s] w fun e w' => k_p w' (qpS (bs s)) e ∧ Below w.heap.size w w' :=
 r_x s w (fun ts W A c hv hl hx hb hA => j_F A ts c 0 W (hG.below hb) hA hl hx) hs
theorem k_u {ts : List Tok} (hl : ts.length + 2 ≤ 1000000) (a : Int) : (∀ x ∈ (qaS ts a).1, Stp.ok x) ∧ (qaS ts a).1.length ≤ 1000000 := by
 have h0 : (∀ x ∈ ([] : List Stp), Stp.ok x) ∧ ([] : List Stp).length ≤ 1000000 := ⟨fun _ h => absurd h s_, s_⟩
 unfold qaS
 split
 ·exact h0
 rename_i hv
 split
 ·exact h0
 rename_i ha
 simp only
 generalize (if (a_w false ts ⟨a.toNat, 0⟩).2.e = 0 then a_E (a_w false ts ⟨a.toNat, 0⟩).1 else (a_w false ts ⟨a.toNat, 0⟩).2.e) = x
 by_cases hx : x ≠ 0
 ·rw [if_pos hx]
  exact h0
 ·rw [if_neg hx]
  have h := h_6 (ts := ts) (by simpa using hv) o_ false ⟨a.toNat, 0⟩ z_
  exact ⟨h.1, by have := h.2.1; simp only; omega⟩
theorem k_y (l : a_3) : (∀ x ∈ (qpS l).1, Stp.ok x) ∧ (qpS l).1.length ≤ 1000000 := by
 have h0 : (∀ x ∈ ([] : List Stp), Stp.ok x) ∧ ([] : List Stp).length ≤ 1000000 := ⟨fun _ h => absurd h s_, s_⟩
 unfold qpS
 cases hs : b_z l with
 | error x => exact h0
 | ok ts =>
  have hn := e_A hs
  simp only
  split
  ·split
   ·exact k_u o_ 0
   ·exact h0
  ·exact h0
theorem e_c (s : ByteArray) (w : World) (hG : Glob w) (hU : b_R w) (hs : s.size ≤ maxLen) :
  Calls prog 24 #[.string s] w fun e w' => e = .returned (.bool true) ∧ Below w.heap.size w w' :=
 k_l s w hG hU hs (fun W hb => k_W s W (hG.below hb) hs) (fun W A B c d hb hA hB => s_s A B _ c d W hA hB (k_y (bs s)).2 (k_y (bs s)).1)
def knA : Stp := ⟨0, [97], [], [], [], []⟩
def knB : Stp := ⟨12, [], [ [99] ], [ [97, 116] ], [⟨[114], 9, [], 0, []⟩, ⟨[112], 10, [120], 1, []⟩], []⟩
def knT : a_3 := [102, 114, 111, 109, 32, 97, 32, 124, 32, 119, 105, 110, 100, 111, 119, 32, 99, 32, 98, 121, 32, 97, 116, 58, 32, 114, 32, 61, 32, 114, 97, 110, 107, 40, 41, 44, 32, 112, 32, 61, 32, 108, 97, 103, 40, 120, 44, 32, 49, 41]
def knU : a_3 := [102, 114, 111, 109, 32, 97, 32, 124, 32, 107, 101, 101, 112, 32, 120]
set_option maxRecDepth 100000
theorem n_S : b_z knT = .ok [⟨1, [102, 114, 111, 109], 0, 0⟩, ⟨1, [97], 0, 5⟩, ⟨5, [124], 0, 7⟩, ⟨1, [119, 105, 110, 100, 111, 119], 0, 9⟩, ⟨1, [99], 0, 16⟩, ⟨1, [98, 121], 0, 18⟩, ⟨1, [97, 116], 0, 21⟩, ⟨5, [58], 0, 23⟩, ⟨1, [114], 0, 25⟩, ⟨5, [61], 0, 27⟩, ⟨1, [114, 97, 110, 107], 0, 29⟩, ⟨5, [40], 0, 33⟩, ⟨5, [41], 0, 34⟩, ⟨5, [44], 0, 35⟩, ⟨1, [112], 0, 37⟩, ⟨5, [61], 0, 39⟩, ⟨1, [108, 97, 103], 0, 41⟩, ⟨5, [40], 0, 44⟩, ⟨1, [120], 0, 45⟩, ⟨5, [44], 0, 46⟩, ⟨2, [], 1, 48⟩, ⟨5, [41], 0, 49⟩, ⟨0, [], 0, 50⟩] := by kernel_rfl
theorem q_I : qaS [⟨1, [102, 114, 111, 109], 0, 0⟩, ⟨1, [97], 0, 5⟩, ⟨5, [124], 0, 7⟩, ⟨1, [119, 105, 110, 100, 111, 119], 0, 9⟩, ⟨1, [99], 0, 16⟩, ⟨1, [98, 121], 0, 18⟩, ⟨1, [97, 116], 0, 21⟩, ⟨5, [58], 0, 23⟩, ⟨1, [114], 0, 25⟩, ⟨5, [61], 0, 27⟩, ⟨1, [114, 97, 110, 107], 0, 29⟩, ⟨5, [40], 0, 33⟩, ⟨5, [41], 0, 34⟩, ⟨5, [44], 0, 35⟩, ⟨1, [112], 0, 37⟩, ⟨5, [61], 0, 39⟩, ⟨1, [108, 97, 103], 0, 41⟩, ⟨5, [40], 0, 44⟩, ⟨1, [120], 0, 45⟩, ⟨5, [44], 0, 46⟩, ⟨2, [], 1, 48⟩, ⟨5, [41], 0, 49⟩, ⟨0, [], 0, 50⟩] 0 = ([knA, knB], 22, 0) := by kernel_rfl
theorem r_k : qpS knT = ([knA, knB], 0, 0) := by
 unfold qpS
 rw [n_S]
 simp only
 rw [q_I]
 rfl
theorem m_h : b_z knU = .ok [⟨1, [102, 114, 111, 109], 0, 0⟩, ⟨1, [97], 0, 5⟩, ⟨5, [124], 0, 7⟩, ⟨1, [107, 101, 101, 112], 0, 9⟩, ⟨1, [120], 0, 14⟩, ⟨0, [], 0, 15⟩] := by kernel_rfl
theorem r_D : qaS [⟨1, [102, 114, 111, 109], 0, 0⟩, ⟨1, [97], 0, 5⟩, ⟨5, [124], 0, 7⟩, ⟨1, [107, 101, 101, 112], 0, 9⟩, ⟨1, [120], 0, 14⟩, ⟨0, [], 0, 15⟩] 0 = ([], 3, 3) := by kernel_rfl
theorem p_U : qpS knU = ([], 9, 3) := by
 unfold qpS
 rw [m_h]
 simp only
 rw [r_D]
 rfl
theorem r_f : r_b 1 = [44, 32, 49] := by
 unfold r_b
 rw [if_neg d_, show Lib.decDigits (1 : Int).toNat = [49] from Lib.decDigits_one d_]
 rfl
theorem q_d : f_g 12 ⟨[112], 10, [120], 1, []⟩ = [108, 97, 103, 40, 120, 44, 32, 49, 41] := by
 unfold f_g
 simp only
 rw [r_f]
 rfl
theorem m_A (op : Int) (h : op = 11 ∨ op = 12) (l : List It) : i_C op l = g_f (l.map fun x => x.name ++ wAs ++ f_g op x) := by
 unfold i_C s_T q_z
 congr 1
 apply List.map_congr_left
 intro x _
 rw [if_neg o_, if_neg o_]
theorem n_z : g_f ([⟨[114], 9, [], 0, []⟩, (⟨[112], 10, [120], 1, []⟩ : It)].map fun x => x.name ++ wAs ++ f_g 12 x) = [114, 32, 61, 32, 114, 97, 110, 107, 40, 41, 44, 32, 112, 32, 61, 32, 108, 97, 103, 40, 120, 44, 32, 49, 41] := by
 show g_f [ [114] ++ wAs ++ f_g 12 ⟨[114], 9, [], 0, []⟩, [112] ++ wAs ++ f_g 12 ⟨[112], 10, [120], 1, []⟩] = _
 rw [q_d]
 rfl
theorem q_x : d_x knB = i_g (i_g (i_g (d_Z.getD 12 []) (g_f [ [99] ]) ++ [32, 98, 121]) (g_f [ [97, 116] ]) ++ [58]) (g_f (knB.items.map fun x => x.name ++ wAs ++ f_g 12 x)) := by
 rw [← m_A 12 o_]
 rfl
theorem l_U : k_z [knA, knB] = knT := by
 show List.intercalate [32, 124, 32] [d_x knA, d_x knB] = _
 rw [q_x, show knB.items = [⟨[114], 9, [], 0, []⟩, ⟨[112], 10, [120], 1, []⟩] from rfl, n_z]
 rfl
theorem q_U : a_E [knA, knB] = 0 := by kernel_rfl
theorem r_a : q_K [knA, knB] = (knT, 0) := by
 unfold q_K
 rw [if_neg (by rw [q_U]; simp), l_U, if_neg d_]
theorem s_M : ∀ x ∈ [knA, knB], x.ok := fun x hx => by
 have h := (k_u (ts := [⟨1, [102, 114, 111, 109], 0, 0⟩, ⟨1, [97], 0, 5⟩, ⟨5, [124], 0, 7⟩, ⟨1, [119, 105, 110, 100, 111, 119], 0, 9⟩, ⟨1, [99], 0, 16⟩, ⟨1, [98, 121], 0, 18⟩, ⟨1, [97, 116], 0, 21⟩, ⟨5, [58], 0, 23⟩, ⟨1, [114], 0, 25⟩, ⟨5, [61], 0, 27⟩, ⟨1, [114, 97, 110, 107], 0, 29⟩, ⟨5, [40], 0, 33⟩, ⟨5, [41], 0, 34⟩, ⟨5, [44], 0, 35⟩, ⟨1, [112], 0, 37⟩, ⟨5, [61], 0, 39⟩, ⟨1, [108, 97, 103], 0, 41⟩, ⟨5, [40], 0, 44⟩, ⟨1, [120], 0, 45⟩, ⟨5, [44], 0, 46⟩, ⟨2, [], 1, 48⟩, ⟨5, [41], 0, 49⟩, ⟨0, [], 0, 50⟩]) d_ 0).1
 rw [q_I] at h
 exact h x hx
theorem o_0 (W : World) (x : Stp) (a : Adr) (hx : x ∈ [knA, knB]) (hG : GlobJ W) (hV : d_r W) (hA : x.At W a) : Calls prog 80 #[x.agg a] W fun e w' => e = .returned (str (d_x x)) ∧ Below W.heap.size W w' := by
 simp only [List.mem_cons, List.not_mem_nil, or_false] at hx
 rcases hx with rfl | rfl
 ·exact l_c 0 o_ [97] [] [] [] [] a W hV d_
 ·rw [q_x]
  have hs : StQ knB := q_l k_
  exact i_q knB.names knB.others knB.items [] [] a W hG hV hA.names hA.cn hA.others hA.co hA.items hs.nl hs.names hs.ol hs.others hs.il hs.items
theorem m_j (A : Option Addr) (c : Nat) (w : World) (hG : GlobJ w) (hU : b_R w) (hV : d_r w) (hS : d_l w A [knA, knB]) :
  Calls prog 31 #[.slice A 2 c] w fun e w' => e = .returned (.tuple #[str knT, .int .i64 0]) ∧ Below w.heap.size w w' := by
 have h := q_7 A [knA, knB] c w hS (d_B A [knA, knB] c w hG.glob.words hU hS d_ s_M) (fun _ W x a hx hb hA => o_0 W x a hx (hG.below hb) (hV.below hb) hA) (fun _ => ⟨d_, by rw [l_U]; decide⟩)
 rw [r_a] at h
 exact h
theorem m_v (w : World) (hG : Glob w) (hU : b_R w) : Calls prog 32 #[str knT] w fun e w' => (∃ (B : Option Addr) (n : Nat), e = .returned (.tuple #[.slice B 2 n, .int .i64 0, .int .i64 0]) ∧ d_l w' B [knA, knB]) ∧ Below w.heap.size w w' :=
 (d_u ⟨knT.toArray⟩ w hG hU d_).mono fun e w' ⟨⟨B, n, he, ho⟩, hb⟩ => by
  rw [show qpS (bs ⟨knT.toArray⟩) = ([knA, knB], 0, 0) from r_k] at he ho
  exact ⟨⟨B, n, he, ho⟩, hb⟩
theorem m_y (w : World) (hG : Glob w) (hU : b_R w) : Calls prog 32 #[str knU] w fun e w' => (∃ (B : Option Addr) (n : Nat), e = .returned (.tuple #[.slice B 0 n, .int .i64 9, .int .i64 3])) ∧ Below w.heap.size w w' :=
 (d_u ⟨knU.toArray⟩ w hG hU d_).mono fun e w' ⟨⟨B, n, he, ho⟩, hb⟩ => by
  rw [show qpS (bs ⟨knU.toArray⟩) = ([], 9, 3) from p_U] at he
  exact ⟨⟨B, n, he⟩, hb⟩
theorem e_o (w : World) (hG : GlobJ w) (hU : b_R w) (hV : d_r w) : Calls prog 23 #[] w fun e w' => e = .returned (.bool true) ∧ Below w.heap.size w w' := by
 have HG := a_0 hG
 have HU := a_0 hU
 have HV := a_0 hV
 clear hG hU hV
 go_enter func23, ntmps23
 go_wp2_with fail
 refine (m_v w HG.out.glob HU.out).mono ?_
 rintro e w1 ⟨⟨B, n, rfl, hS⟩, hb1⟩
 have HS := a_0 hS
 clear hS
 go_wp2_with fail
 refine (m_j B n w1 (HG.out.below hb1) (HU.out.below hb1) (HV.out.below hb1) HS.out).mono ?_
 rintro e w2 ⟨rfl, hb2⟩
 have hb3 := a_n hb2 hb1
 have HS2 := a_0 (HS.out.below hb2)
 go_wp2_with fail
 refine (m_y w2 (HG.out.below hb3).glob (HU.out.below hb3)).mono ?_
 rintro e w4 ⟨⟨B2, n2, rfl⟩, hb4⟩
 have hb5 := a_0 (a_n hb4 hb3)
 rcases HS2.out.below hb4 with h0 | ⟨g, off, rfl, hg, hc⟩
 ·exact absurd h0 s_
 obtain ⟨⟨nA, nC, oA, oC, iA, iC, cA, cC⟩, hA, a0, a1, a2, a3, a4, a5⟩ := hc 1 d_
 rcases hA.items with h0 | ⟨g2, off2, h2, hg2, hc2⟩
 ·exact absurd h0 (by simp [knB])
 obtain ⟨b0, b1, b2, b3, _⟩ := hc2 1 d_
 simp only at h2
 subst h2
 simp [knB] at a0 a4 b3
 clear hc hc2 hA a1 a2 a3 a5 b0 b1 b2 HG HU HV HS HS2 hb1 hb2 hb3 hb4
 go_wp2
 go_ret
 exact ⟨rfl, hb5.out⟩
set_option maxRecDepth 100000
theorem e_F (s : ByteArray) (L : Option Addr) (l : List Int) (lc : Nat) (n : Int) (w : World) (hG : GlobJ w) (hU : b_R w) (hV : d_r w) (hI : g_0 w L l) (hs : s.size ≤ maxLen) :
  Calls prog 5 #[.string s, .slice L l.length lc, .int .i64 n] w fun e w' => e = .returned (.bool true) ∧ Below w.heap.size w w' := by
 have HG := a_0 hG
 have HU := a_0 hU
 have HV := a_0 hV
 have HI := a_0 hI
 have hm := r_Q
 obtain ⟨m, hmm⟩ : ∃ m : Nat, n % 32 = (m : Int) := ⟨(n % 32).toNat, o_⟩
 have hm32 : m < 32 := by omega
 have hs' : s.size ≤ 9223372036854775807 := by unfold maxLen at hs; omega
 have HS := a_0 hs
 clear hG hU hV hI hs
 by_cases h5 : 500 < s.size
 ·go_enter func5, ntmps5
  go_wp2_with fail
  refine (e_o _ HG.out HU.out HV.out).mono ?_
  rintro e w1 ⟨rfl, hb1⟩
  go_wp2
  exact m_6
 ·go_enter func5, ntmps5
  go_wp2_with fail
  refine (e_c _ _ HG.out.glob HU.out HS.out).mono ?_
  rintro e w1 ⟨rfl, hb1⟩
  go_wp2_with fail
  refine (j_4 L l m w1 lc (HI.out.below hb1) hm32).mono ?_
  rintro e w2 ⟨⟨x, rfl, hx⟩, hb2⟩
  have hb3 := a_n hb2 hb1
  go_wp2_with fail
  refine (e_c _ _ (HG.out.below hb3).glob (HU.out.below hb3) (by unfold maxLen; rw [ByteArray.size_append]; have : (⟨#[102, 114, 111, 109, 32]⟩ : ByteArray).size = 5 := rfl; omega)).mono ?_
  rintro e w4 ⟨rfl, hb4⟩
  have hb5 := a_n hb4 hb3
  go_wp2_with fail
  refine (e_o _ (HG.out.below hb5) (HU.out.below hb5) (HV.out.below hb5)).mono ?_
  rintro e w6 ⟨rfl, hb6⟩
  go_wp2
  go_ret
  exact ⟨rfl, a_n hb6 hb5⟩
end Go.Proofs.YtmbeeefkpgfgmaaGreatDoor
