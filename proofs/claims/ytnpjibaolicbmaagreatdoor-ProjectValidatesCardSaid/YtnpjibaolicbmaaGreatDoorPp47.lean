/- Parts of the proof. -/
import Derived.Test.YtnpjibaolicbmaaGreatDoorPp39
import Derived.Test.YtnpjibaolicbmaaGreatDoorPp46
import Derived.Test.YtnpjibaolicbmaaGreatDoorPp38
set_option linter.unusedVariables false
set_option linter.unusedSimpArgs false
set_option maxHeartbeats 16000000
namespace Go.Proofs.YtnpjibaolicbmaaGreatDoor
open Go.Proofs.Tryz
open Go.RowKit
set_option maxRecDepth 100000
theorem e_I (A : Option Addr) (ms : List Mdu) (c : Nat) (w : World) (hM : c_b w A ms) (hc : ms.length ≤ c) (hk : g_O ms) :
  Calls prog 10 #[.slice A ms.length c] w fun e w' => e = .returned (.int .i64 (e_A ms)) ∧ Below w.heap.size w w' := by
 by_cases h16 : 16 < ms.length
 ·have HE := a_2 (show e_A ms = 2 from by unfold e_A; rw [if_pos h16])
  go_enter func10, ntmps10
  go_wp2
  all_goals first | (exfalso; omega) | skip
  exact n_j
 have HE := a_2 (show e_A ms = a_o (k_P ms) ms.length from by unfold e_A; rw [if_neg h16]; rfl)
 have HM := a_2 hM
 have HK := a_2 hk
 generalize e_A ms = r at *
 clear hM hk
 go_enter func10, ntmps10
 go_wp2_with fail
 all_goals first | (exfalso; omega) | skip
 go_loopw [3] (fun i wr => ∃ k : Nat, k ≤ ms.length ∧ i = .int .i64 k ∧ Hid (∀ j, j < k → k_P ms j = 0) ∧ Below w.heap.size w wr) (fun i _ => ms.length - (intOf i).toNat)
 case atStart => exact ⟨0, o_, rfl, a_2 fun j hj => absurd hj (Nat.not_lt_zero _), b_ _ _⟩
 case round =>
  obtain ⟨k, hk, rfl, HZ, hbel⟩ := hrel
  by_cases hlt : k < ms.length
  ·rcases HM.out with e | ⟨g, off, hA, hg, hc9⟩
   ·exact absurd hlt e_
   obtain ⟨vs, hC, hcs⟩ := hc9 k hlt; obtain ⟨u, a, hu, hd, rfl⟩ := hC; have hcw := hcs.below hg hbel; have hk2 : k < (c_9 ms).length := by unfold c_9; simpa using hlt
   have hnm : (c_9 ms)[k] = ms[k].name := by simp [c_9]
   have HT0 := l_C hlt; unfold n_b a_F at HT0; rw [show a_b (ms[k].name ∈ (c_9 ms).take k) 6 = if decide (ms[k].name ∈ (c_9 ms).take k) = true then 6 else 0 from by unfold a_b; simp only [decide_eq_true_eq]] at HT0; rw [show a_b (ms[k].defs.names.any b_e = true) 4 = if ms[k].defs.names.any b_e = true then 4 else 0 from rfl] at HT0; have HT := a_2 HT0; clear HT0; have HF := a_2 (fun x (e : k_P ms k = x) (hx : x ≠ 0) => show r = x from (HE.out.trans (a_q HZ.out (by rw [e]; exact hx) hlt)).trans e); have HN := a_2 (fun (e : k_P ms k = 0) => a_T HZ.out e); refine r_I ?_; intro hok e0 e1 e2 e3 e4 e5 e6 e7; have H1 := a_2 (fun W => d_7 ms[k].name W); have H2 := a_2 (fun (x : a_3) W (hb : Below w.heap.size w W) => g_Y A ms c x W (a_l.below f_g.kept HM.out hb) o_); have H4 := a_2 (fun W (hb : Below w.heap.size w W) => c_m ms[k].defs a W (hd.below hb) hok.defs)
   have H50 := a_2 (fun (h : f_q ms[k].defs = 0) W (hb : Below w.heap.size w W) => show Calls prog 35 #[.agg #[slV a.z ms[k].defs.zones.length, slV a.s ms[k].defs.srcs.length, slV a.m ms[k].defs.macs.length, slV a.d ms[k].defs.mdls.length, slV a.n ms[k].defs.snps.length, slV a.c ms[k].defs.chks.length]] W (fun e w' => e = .returned (.bool (ms[k].defs.names.any b_e)) ∧ Below W.heap.size W w') from by
    obtain ⟨k1, k2, k3, k4, k5, k6⟩ := i_b h; rw [l_L (fun s hs => l_c h s hs)]
    exact f_N ms[k].defs a W (hd.below hb) ⟨k1, k2, k3, k4, k5, k6⟩)
   have HFn := a_2 (fun (v : Int) (h : f_F (c_9 ms) ms[k].name v) => show (v != (k : Int)) = decide (ms[k].name ∈ (c_9 ms).take k) from by
    have h9 := n_Z (v := v) hk2 (by rw [hnm]; exact h); rw [hnm] at h9
    exact h9)
   have HUs := a_2 (show e_B (c_9 ms) ms[k] = if 16 < ms[k].uses.length then 2 else a_o (l_K (c_9 ms) ms[k].name ms[k].uses) ms[k].uses.length from rfl); have HSu := a_2 hu; have hul := hok.uses; subst hA; clear hc9 hcs hcw hu hd hok hnm HK; obtain ⟨uA, uC⟩ := u; obtain ⟨⟨zA, zC⟩, ⟨sA, sC⟩, ⟨mA, mC⟩, ⟨dA, dC⟩, ⟨nA, nC⟩, ⟨cA, cC⟩⟩ := a
   dsimp only [slV] at *
   generalize e_B (c_9 ms) ms[k] = uv at *; generalize f_q ms[k].defs = dv at *; generalize ms[k].defs.names.any b_e = q5 at *; generalize ms[k].name = NM at *; generalize nmB NM = q1 at *; generalize decide (NM ∈ (c_9 ms).take k) = q2 at *; generalize ms[k].uses = us at *; generalize ms[k].defs.zones.length = z0 at *; generalize ms[k].defs.srcs.length = s0 at *; generalize ms[k].defs.macs.length = m0 at *; generalize ms[k].defs.mdls.length = d0 at *; generalize ms[k].defs.snps.length = n0 at *; generalize ms[k].defs.chks.length = c0 at *; have hy : Below (wr.heap.size + 1) (wr.alloc (.cells #[str NM, .slice uA us.length uC, .slice zA z0 zC, .slice sA s0 sC, .slice mA m0 mC, .slice dA d0 dC, .slice nA n0 nC, .slice cA c0 cC] 36)) (wr.alloc (.cells #[str NM, .slice uA us.length uC, .slice zA z0 zC, .slice sA s0 sC, .slice mA m0 mC, .slice dA d0 dC, .slice nA n0 nC, .slice cA c0 cC] 36)) := b_ _ _; have hr : Below w.heap.size w (wr.alloc (.cells #[str NM, .slice uA us.length uC, .slice zA z0 zC, .slice sA s0 sC, .slice mA m0 mC, .slice dA d0 dC, .slice nA n0 nC, .slice cA c0 cC] 36)) := a_9 (show Below wr.heap.size wr _ from zX) hbel; obtain ⟨f0, f1, f2, f3, f4, f5, f6, f7, hlw⟩ := bx8 hy; have hkl : k ≤ 16 := by omega
   cases q1
   ·have HR := a_2 (HF.out 4 (by rw [HT.out]; simp [a_c]) d_)
    clear HT HF HN H2 H4 H50 HFn HUs HSu
    go_wp2_with (go_at_call 32; refine (H1.out _).mono ?_; rintro e w1 ⟨rfl, hb1⟩; replace hy := a_1 hy s_ hb1; clear f0 f1 f2 f3 f4 f5 f6 f7; obtain ⟨f0, f1, f2, f3, f4, f5, f6, f7, hlw1⟩ := bx8 hy; replace hr := a_9 hb1 hr)
    exact p_v
   go_upto_region 9 with (go_at_call 32; refine (H1.out _).mono ?_; rintro e w1 ⟨rfl, hb1⟩; replace hy := a_1 hy s_ hb1; clear f0 f1 f2 f3 f4 f5 f6 f7; obtain ⟨f0, f1, f2, f3, f4, f5, f6, f7, hlw1⟩ := bx8 hy; replace hr := a_9 hb1 hr)
   clear e0 e1 e2 e3 e4 e5 e6 e7
   cases q2
   rotate_left
   ·have HR := a_2 (HF.out 6 (by rw [HT.out]; simp [a_c]) d_)
    clear HT HF HN H1 H4 H50 HUs HSu
    go_wp2_with (go_at_call 33; refine (H2.out NM _ hr).mono ?_; rintro e w2 ⟨⟨v2, rfl, hv2, hv3, hv4⟩, hb2⟩; have hvk := HFn.out v2 hv2; replace hy := a_1 hy s_ hb2; clear f0 f1 f2 f3 f4 f5 f6 f7; obtain ⟨f0, f1, f2, f3, f4, f5, f6, f7, hlw2⟩ := bx8 hy; replace hr := a_9 hb2 hr)
    exact p_v
   go_upto_region 11 with (go_at_call 33; refine (H2.out NM _ hr).mono ?_; rintro e w2 ⟨⟨v2, rfl, hv2, hv3, hv4⟩, hb2⟩; have hvk := HFn.out v2 hv2; replace hy := a_1 hy s_ hb2; clear f0 f1 f2 f3 f4 f5 f6 f7; obtain ⟨f0, f1, f2, f3, f4, f5, f6, f7, hlw2⟩ := bx8 hy; replace hr := a_9 hb2 hr)
   clear H1 HFn
   by_cases hu16 : 16 < us.length
   ·have HR := a_2 (HF.out 2 (by rw [HT.out, HUs.out, if_pos hu16]; simp [a_c]) d_)
    clear HT HF HN H4 H50 HUs HSu H2
    go_wp2_with fail
    all_goals first | (exfalso; omega) | skip
    exact p_v
   have HU := a_2 (HUs.out.trans (if_neg hu16)); have HT1 := a_2 (show k_P ms k = a_c uv (a_c dv (if q5 = true then 4 else 0)) from by rw [HT.out]; simp [a_c]); clear HUs HT; have hyr : Below w.heap.size w wr := hbel
   go_wp2_with fail
   all_goals first | (exfalso; omega) | skip
   obtain ⟨WR, hWR⟩ : ∃ V, V = wr := ⟨_, rfl⟩; subst hWR
   go_loopw [5] (fun i wr => ∃ j : Nat, j ≤ us.length ∧ i = .int .i64 j ∧ Hid (∀ q, q < j → l_K (c_9 ms) NM us q = 0) ∧ Below w2.heap.size w2 wr) (fun i _ => us.length - (intOf i).toNat)
   case atStart => exact ⟨0, o_, rfl, a_2 fun q hq => absurd hq (Nat.not_lt_zero _), b_ _ _⟩
   case round =>
    obtain ⟨j, hj, rfl, HZ2, hb3⟩ := hrel; replace hy := a_1 hy s_ hb3; clear f0 f1 f2 f3 f4 f5 f6 f7; obtain ⟨f0, f1, f2, f3, f4, f5, f6, f7, hlw3⟩ := bx8 hy; replace hr := a_9 hb3 hr
    by_cases hjl : j < us.length
    ·rcases HSu.out.1.below hr with e | ⟨g2, off2, hA2, hg2, hc2⟩
     ·exact absurd hjl e_
     obtain rfl : uA = some ⟨g2, off2, none⟩ := hA2; have huc : us.length ≤ uC := HSu.out.2; have dd := hc2 j hjl; have HUq := a_2 (l_D (all := c_9 ms) (nm := NM) hjl); have HF2 := a_2 (fun x (e : l_K (c_9 ms) NM us j = x) (hx : x ≠ 0) => show r = x from HF.out x (by rw [HT1.out, HU.out, a_q HZ2.out (by rw [e]; exact hx) hjl, e]; exact a_h hx) hx); have HN2 := a_2 (fun (e : l_K (c_9 ms) NM us j = 0) => a_T HZ2.out e)
     have HD := a_2 (fun W (hb : Below wr.heap.size wr W) => by
      have := d_a (some ⟨g2, off2, none⟩) (us.take j) uC us[j] W ((b_F hg2 hc2 j).below hb) (by rw [List.length_take]; omega); rw [List.length_take, Nat.min_eq_left (Nat.le_of_lt hjl)] at this
      exact this)
     have HDc := a_2 (fun W (hb : Below wr.heap.size wr W) => (hb.cell (p := ⟨g2, off2 + j, none⟩) hg2).trans dd); have H3 := a_2 (fun W (hb : Below wr.heap.size wr W) => H2.out us[j] W (a_9 hb hr)); have hjc : j ≤ uC := by omega
     clear hc2 HT1 HU HF HN H4 H50 H2 HZ2 HSu HM; generalize us[j] = x at *
     by_cases hin : x ∈ c_9 ms
     rotate_left
     ·rw [if_neg hin] at HUq
      have HR := a_2 (HF2.out 5 HUq.out d_)
      have HL := a_2 (fun (v : Int) (h : f_F (c_9 ms) x v) => show v < 0 from by
       have h9 := l_s h; rw [show decide (x ∉ c_9 ms) = true from by simpa using hin] at h9
       simpa using h9)
      clear hin HUq HF2 HN2 HD
      go_wp2_with (go_at_call 33; refine (H3.out _ (by first | exact b_ _ _ | exact zX)).mono ?_; rintro e w4 ⟨⟨v4, rfl, hv2, hv3, hv4⟩, hb4⟩; have hvl := HL.out v4 hv2)
      all_goals first | (exfalso; omega) | skip
      go_ret
      exact ⟨a_d HR.out.symm, a_9 hb4 hr⟩
     rw [if_pos hin] at HUq
     have HL := a_2 (fun (v : Int) (h : f_F (c_9 ms) x v) => show 0 ≤ v from by
      have h9 := l_s h; rw [show decide (x ∉ c_9 ms) = false from by simpa using hin] at h9
      simpa using h9)
     clear hin
     by_cases hx : x = NM
     ·subst hx
      have HR := a_2 (HF2.out 6 (by rw [HUq.out]; exact a_k (.inl rfl)) d_); clear HUq HF2 HN2 HD
      go_wp2_with (go_at_call 33; refine (H3.out _ (by first | exact b_ _ _ | exact zX)).mono ?_; rintro e w4 ⟨⟨v4, rfl, hv2, hv3, hv4⟩, hb4⟩; have hvl := HL.out v4 hv2; have dd4 := HDc.out _ hb4; replace hy := a_1 hy s_ hb4; clear f0 f1 f2 f3 f4 f5 f6 f7; obtain ⟨f0, f1, f2, f3, f4, f5, f6, f7, hlw4⟩ := bx8 hy; replace hr := a_9 hb4 hr)
      all_goals first | (exfalso; omega) | skip
      go_big_quiet (fail)
      go_wp2_with fail
      all_goals
       exact s_c
     have hxb : (x == NM) = false := beq_eq_false_iff_ne.2 hx
     by_cases hdu : x ∈ us.take j
     ·have HR := a_2 (HF2.out 6 (by rw [HUq.out]; exact a_k (.inr hdu)) d_)
      have hdb : decide (x ∈ us.take j) = true := by simpa using hdu
      rw [hdb] at HD; clear HUq HF2 HN2 hdu hdb hx
      go_wp2_with (go_at_call 33; refine (H3.out _ (by first | exact b_ _ _ | exact zX)).mono ?_; rintro e w4 ⟨⟨v4, rfl, hv2, hv3, hv4⟩, hb4⟩; have hvl := HL.out v4 hv2; have dd4 := HDc.out _ hb4; replace hy := a_1 hy s_ hb4; clear f0 f1 f2 f3 f4 f5 f6 f7; obtain ⟨f0, f1, f2, f3, f4, f5, f6, f7, hlw4⟩ := bx8 hy; replace hr := a_9 hb4 hr)
      all_goals first | (exfalso; omega) | skip
      go_big_quiet ((go_at_call 34; exact h_x (HD.out _ (a_4 hb4 _))))
      go_wp2_with fail
      all_goals
       exact s_c
     ·have HR := a_2 (HN2.out (by rw [HUq.out]; exact a_G (by rintro (h | h) <;> contradiction)))
      have hdb : decide (x ∈ us.take j) = false := by simpa using hdu
      rw [hdb] at HD; clear HUq HF2 HN2 hdu hdb hx
      go_wp2_with (go_at_call 33; refine (H3.out _ (by first | exact b_ _ _ | exact zX)).mono ?_; rintro e w4 ⟨⟨v4, rfl, hv2, hv3, hv4⟩, hb4⟩; have hvl := HL.out v4 hv2; have dd4 := HDc.out _ hb4; replace hy := a_1 hy s_ hb4; clear f0 f1 f2 f3 f4 f5 f6 f7; obtain ⟨f0, f1, f2, f3, f4, f5, f6, f7, hlw4⟩ := bx8 hy; replace hr := a_9 hb4 hr; have hb5 := a_9 hb4 hb3)
      all_goals first | (exfalso; omega) | skip
      go_big_quiet ((go_at_call 34; exact h_x (HD.out _ (a_4 hb4 _))))
      go_wp2_with fail
      all_goals exact ⟨⟨j + 1, o_, t_, HR, by first | exact hb5 | exact a_4 hb5 _ | exact zX⟩, w_⟩
    obtain rfl : j = us.length := by omega
    have HU0 := a_2 (HU.out.trans (a_Y HZ2.out)); clear HU HZ2 H2 HSu HM
    by_cases hdv : dv = 0
    rotate_left
    ·have hvb : (dv != 0) = true := by simpa using hdv
     have HR := a_2 (HF.out dv (by rw [HT1.out, HU0.out, a_m]; exact a_h hdv) hdv); clear HF HN HT1 HU0 hdv H50
     go_wp2_with (go_at_call 12; refine (H4.out _ hr).mono ?_; rintro e w4 ⟨rfl, hb4⟩; replace hy := a_1 hy s_ hb4; clear f0 f1 f2 f3 f4 f5 f6 f7; obtain ⟨f0, f1, f2, f3, f4, f5, f6, f7, hlw4⟩ := bx8 hy; replace hr := a_9 hb4 hr)
     exact p_v
    subst hdv; have H5 := a_2 (H50.out rfl); clear H50
    cases q5
    rotate_left
    ·have HR := a_2 (HF.out 4 (by rw [HT1.out, HU0.out, a_m, a_m, if_pos rfl]) d_)
     clear HF HN HT1 HU0
     go_wp2_with (first | (go_at_call 12; refine (H4.out _ hr).mono ?_; rintro e w4 ⟨rfl, hb4⟩; replace hy := a_1 hy s_ hb4; clear f0 f1 f2 f3 f4 f5 f6 f7; obtain ⟨f0, f1, f2, f3, f4, f5, f6, f7, hlw4⟩ := bx8 hy; replace hr := a_9 hb4 hr) | (go_at_call 35; refine (H5.out _ hr).mono ?_; rintro e w5 ⟨rfl, hb5⟩; replace hy := a_1 hy s_ hb5; clear f0 f1 f2 f3 f4 f5 f6 f7; obtain ⟨f0, f1, f2, f3, f4, f5, f6, f7, hlw5⟩ := bx8 hy; replace hr := a_9 hb5 hr))
     exact p_v
    ·have HR := a_2 (HN.out (by rw [HT1.out, HU0.out, a_m, a_m, if_neg d_]))
     clear HF HN HT1 HU0
     go_wp2_with (first | (go_at_call 12; refine (H4.out _ hr).mono ?_; rintro e w4 ⟨rfl, hb4⟩; replace hy := a_1 hy s_ hb4; clear f0 f1 f2 f3 f4 f5 f6 f7; obtain ⟨f0, f1, f2, f3, f4, f5, f6, f7, hlw4⟩ := bx8 hy; replace hr := a_9 hb4 hr) | (go_at_call 35; refine (H5.out _ hr).mono ?_; rintro e w5 ⟨rfl, hb5⟩; replace hy := a_1 hy s_ hb5; clear f0 f1 f2 f3 f4 f5 f6 f7; obtain ⟨f0, f1, f2, f3, f4, f5, f6, f7, hlw5⟩ := bx8 hy; replace hr := a_9 hb5 hr))
     exact ⟨⟨k + 1, o_, t_, HR, hr⟩, w_⟩
  ·obtain rfl : k = ms.length := by omega
   refine i_2 ?_; intro HR
   go_wp2
   exact i_N
end Go.Proofs.YtnpjibaolicbmaaGreatDoor
