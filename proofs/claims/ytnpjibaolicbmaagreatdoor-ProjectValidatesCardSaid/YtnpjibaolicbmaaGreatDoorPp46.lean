/- Parts of the proof. -/
import Derived.Test.YtnpjibaolicbmaaGreatDoorPp41
import Derived.Test.YtnpjibaolicbmaaGreatDoorPp45
set_option linter.unusedVariables false
set_option linter.unusedSimpArgs false
set_option maxHeartbeats 8000000
namespace Go.Proofs.YtnpjibaolicbmaaGreatDoor
open Go.Proofs.Tryz
open Go.RowKit
theorem g_U (a b c : Int) : a_c (a_c a b) c = a_c a (a_c b c) := by
 unfold a_c
 by_cases h : a = 0
 ·simp [h]
 ·simp [h]
theorem l_B {a b : Int} (h : a_c a b = 0) : a = 0 ∧ b = 0 := by
 unfold a_c at h
 split at h
 ·exact ⟨by assumption, h⟩
 ·exact absurd h (by assumption)
theorem n_K {d : Dfs} (h : e_V d = 0) : d.srcs.length ≤ 64 := by
 have h1 := (l_B (l_B h).2).1
 apply Decidable.byContradiction
 intro h2
 unfold a_A at h1
 rw [if_pos (by unfold Dfs.srcN; rw [List.length_map]; omega)] at h1
 cases h1
theorem l_v (d : Dfs) : f_q d = a_c (e_V d) (a_c (a_A d.srcN d.mdlN a_n (a_X d.mdls e_m)) (a_c (a_A (d.srcN ++ d.mdlN) d.snpN a_n (a_X d.snps f_B)) (a_c (a_A [] (d.chks.map Chk.name) a_n (a_X d.chks e_x)) 0))) := by
 rw [← i_F]
 unfold f_q e_V
 rw [g_U, g_U]
set_option maxRecDepth 100000
theorem c_m (d : Dfs) (a : DAdr) (w : World) (hS : d.Sl w a) (ho : d.ok) :
  Calls prog 12 #[.agg #[slV a.z d.zones.length, slV a.s d.srcs.length, slV a.m d.macs.length, slV a.d d.mdls.length, slV a.n d.snps.length, slV a.c d.chks.length]] w fun e w' => e = .returned (.int .i64 (f_q d)) ∧ Below w.heap.size w w' := by
 have HE0 := a_2 (l_v d)
 have H1 := a_2 (fun W (hb : Below w.heap.size w W) => g_r d a W (hS.below hb) ho)
 unfold i_S at H1
 have hs64 := n_K (d := d)
 refine l_R ?_; intro i0 hi hz0 hz1 hz2
 refine o_K ?_; intro Hz Hs Hm Hd Hn Hc
 have HKz := a_2 ho.zone
 have HKs := a_2 ho.src
 have HKm := a_2 ho.mac
 have HKd := a_2 ho.mdl
 have HKn := a_2 ho.snp
 have HKc := a_2 ho.chk
 generalize f_q d = r at *
 generalize e_V d = f at *
 obtain ⟨zs, ss, ms, ds, ns, cs⟩ := d
 obtain ⟨⟨zsA, zsC⟩, ⟨ssA, ssC⟩, ⟨msA, msC⟩, ⟨dsA, dsC⟩, ⟨nsA, nsC⟩, ⟨csA, csC⟩⟩ := a
 simp only [Dfs.srcN, Dfs.mdlN, Dfs.snpN] at *
 clear hS ho
 refine n_k ?_; intro hx0
 have hr0 := a_5 hx0
 by_cases hf : f = 0
 rotate_left
 ·have HR := a_2 (HE0.out.trans (a_h hf))
  have hvb : (f != 0) = true := by simpa using hf
  have H2 := a_2 (fun W (hb : Below w.heap.size w W) => (H1.out W hb).mono (R' := fun e w' => e = .returned (.tuple #[.slice none 0 0, .int .i64 f]) ∧ Below W.heap.size W w') (by
   rintro e w' ⟨h | h, h2⟩
   ·exact ⟨h.2, h2⟩
   ·exact absurd h.1 hf))
  clear HE0 H1
  go_enter func12, ntmps12
  go_wp2_with (go_at_call 64; refine (H2.out _ hr0).mono ?_; rintro e w1 ⟨rfl, hb1⟩)
  go_ret
  exact ⟨a_d HR.out.symm, a_9 hb1 hr0⟩
 subst hf
 have HE := a_2 (HE0.out.trans a_m)
 have hs64 := hs64 rfl
 have H2 := a_2 (fun W (hb : Below w.heap.size w W) => (H1.out W hb).mono (R' := fun e w' => (∃ (B : Option Addr) (c : Nat), e = .returned (.tuple #[.slice B ss.length c, .int .i64 0]) ∧ w'.ownsRow W.heap.size 9 1 (.slice B ss.length c) ss.length ((ss.map Srx.name).map str)) ∧ Below W.heap.size W w') (by
  rintro e w' ⟨h | ⟨_, B, c, h, h3⟩, h2⟩
  ·exact absurd rfl h.1
  ·rw [List.length_map] at h h3
   exact ⟨⟨B, c, h, h3⟩, h2⟩))
 clear HE0 H1
 go_enter func12, ntmps12
 go_upto_region 4 with (go_at_call 64; refine (H2.out _ hr0).mono ?_; rintro e w1 ⟨⟨B0, c0, rfl, hown⟩, hb1⟩; replace hx0 := a_1 hx0 s_ hb1; replace hr0 := a_5 hx0; obtain ⟨b0, b1, b2, b3, b4, b5, hlw⟩ := a_R hx0; have HOs := a_2 (own_low hown s_ : w1.ownsRow (w.heap.size + 1) 9 1 (.slice B0 ss.length c0) ss.length ((ss.map Srx.name).map str)); clear hown H2)
 by_cases h64 : 64 < ds.length
 ·have HR := a_2 (show r = 2 from HE.out.trans (d_f h64))
  clear HE
  go_wp2_with fail
  all_goals first | (exfalso; omega) | skip
  go_ret
  exact ⟨a_d HR.out.symm, (a_5 hx0)⟩
 replace HE := a_2 (HE.out.trans (by rw [e_5 h64]))
 go_wp2_with fail
 all_goals first | (exfalso; omega) | skip
 go_loopw [3, 5] (fun acc i wr => ∃ (k : Nat) (B : Option Addr) (d : Nat), acc = .slice B ((ss.map Srx.name) ++ (ds.map Mdl.name).take k).length d ∧ i = .int .i64 k ∧ k ≤ ds.length ∧ Hid (∀ j, j < k → c_S (ss.map Srx.name) (ds.map Mdl.name) a_n (a_X ds e_m) j = 0) ∧
   Hid (wr.ownsRow (w.heap.size + 1) 9 1 (.slice B ((ss.map Srx.name) ++ (ds.map Mdl.name).take k).length d) ((ss.map Srx.name) ++ (ds.map Mdl.name).take k).length (((ss.map Srx.name) ++ (ds.map Mdl.name).take k).map str)) ∧ Below (w.heap.size + 1) (w.alloc (.cells #[.slice zsA zs.length zsC, .slice ssA ss.length ssC, .slice msA ms.length msC, .slice dsA ds.length dsC, .slice nsA ns.length nsC, .slice csA cs.length csC] 34)) wr) (fun acc i _ => ds.length - (intOf i).toNat)
 case atStart => exact ⟨0, B0, c0, s_, rfl, o_, a_2 fun j hj => absurd hj (Nat.not_lt_zero _), a_2 (by simpa using HOs.out), hx0⟩
 case round =>
  clear b0 b1 b2 b3 b4 b5 hlw hr0 hx0
  obtain ⟨k, B, d, rfl, rfl, hk, HZ, HO, hx⟩ := hrel
  skip
  refine k_h ?_; intro b0 b1 b2 b3 b4 b5 hlw hr
  have hlk : ((ss.map Srx.name) ++ (ds.map Mdl.name).take k).length ≤ 300 := by simp only [List.length_append, List.length_take, List.length_map]; omega
  by_cases hlt : k < ds.length
  ·rcases Hd.out.below f_I.kept hr with e | ⟨g, off, rfl, hg, hc⟩
   ·exact absurd hlt e_
   obtain ⟨vs, hC, hcs⟩ := hc k hlt; have hk2 : k < (ds.map Mdl.name).length := by simpa using hlt
   have HT := a_2 (c_q (before := (ss.map Srx.name)) (names := (ds.map Mdl.name)) (good := a_n) (own := (a_X ds e_m)) hk2 (by rw [List.getElem_map])); rw [c_n hlt] at HT; have hok1 := HKd.out _ (List.getElem_mem hlt); have HTk := a_2 (show (ss.map Srx.name) ++ (ds.map Mdl.name).take (k + 1) = ((ss.map Srx.name) ++ (ds.map Mdl.name).take k) ++ [(ds[k]).name] from by rw [List.take_succ_eq_append_getElem hk2, List.getElem_map]; simp only [List.append_assoc]); have HF := a_2 (fun x (e : c_S (ss.map Srx.name) (ds.map Mdl.name) a_n (a_X ds e_m) k = x) (hx : x ≠ 0) => show r = x from HE.out.trans (by rw [a_q HZ.out (by rw [e]; exact hx) hlt, e]; exact a_h hx)); have HN := a_2 (fun (e : c_S (ss.map Srx.name) (ds.map Mdl.name) a_n (a_X ds e_m) k = 0) => a_T HZ.out e)
   have HOx := a_2 (fun (x : Mdl) (hx : ds[k] = x) (W : World) (hb : Below wr.heap.size wr W) => show f_I wr x vs → (x.ok) → Calls prog 66 #[.agg vs.toArray] W (fun e w' => e = .returned (.int .i64 (e_m x)) ∧ Below W.heap.size W w') from fun hC hk => by
    obtain ⟨a, b, h1, h2, rfl⟩ := hC
    exact g_y x a b W (h1.below hb) (h2.below hb) hk)
   refine p_2 ?_; intro HOy; clear HOx
   have hvs : ∃ (A1 : Option Addr) (m1 : Nat) (d1 : Nat) (A2 : Option Addr) (m2 : Nat) (d2 : Nat) (t3 : a_3) (t4 : a_3) (i5 : Int) (t6 : a_3) (i7 : Int), vs = [str (ds[k]).name, .slice A1 m1 d1, .slice A2 m2 d2, str t3, str t4, .int .i64 i5, str t6, .int .i64 i7] := by
    obtain ⟨a, b, h1, h2, rfl⟩ := hC; exact ⟨_, _, _, _, _, _, _, _, _, _, _, rfl⟩
   obtain ⟨A1, m1, d1, A2, m2, d2, t3, t4, i5, t6, i7, rfl⟩ := hvs; have hsl : (ds[k]).name.length ≤ maxLen := hok1.name; have e0 : wr.cell? ⟨g, off + k * 8, none⟩ = some (str (ds[k]).name) := by simpa using hcs 0 s_
   have e1 : wr.cell? ⟨g, off + k * 8 + 1, none⟩ = some (.slice A1 m1 d1) := by simpa using hcs 1 s_
   have e2 : wr.cell? ⟨g, off + k * 8 + 2, none⟩ = some (.slice A2 m2 d2) := by simpa using hcs 2 s_
   have e3 : wr.cell? ⟨g, off + k * 8 + 3, none⟩ = some (str t3) := by simpa using hcs 3 s_
   have e4 : wr.cell? ⟨g, off + k * 8 + 4, none⟩ = some (str t4) := by simpa using hcs 4 s_
   have e5 : wr.cell? ⟨g, off + k * 8 + 5, none⟩ = some (.int .i64 i5) := by simpa using hcs 5 s_
   have e6 : wr.cell? ⟨g, off + k * 8 + 6, none⟩ = some (str t6) := by simpa using hcs 6 s_
   have e7 : wr.cell? ⟨g, off + k * 8 + 7, none⟩ = some (.int .i64 i7) := by simpa using hcs 7 s_
   clear hC hc hcs hok1; generalize (ds[k]).name = S at *; generalize e_m ds[k] = v at *; have HOw := a_2 (show ∀ W, Below wr.heap.size wr W → Calls prog 66 #[.agg #[str S, .slice A1 m1 d1, .slice A2 m2 d2, str t3, str t4, .int .i64 i5, str t6, .int .i64 i7]] W (fun e w' => e = .returned (.int .i64 v) ∧ Below W.heap.size W w') from HOy.out); clear HOy; rw [show a_n S = true from rfl, Bool.and_true] at HT; have HG := a_2 (fun W (hb : Below wr.heap.size wr W) => b_D S B ((ss.map Srx.name) ++ (ds.map Mdl.name).take k) d W hsl ((a_W HO.out).below hb) o_); have HFr := a_2 (show d_j S ((ss.map Srx.name) ++ (ds.map Mdl.name).take k) = if qlB S = true then (if decide (S ∈ (ss.map Srx.name) ++ (ds.map Mdl.name).take k) = true then 6 else 0) else 4 from by unfold d_j; simp only [decide_eq_true_eq]); rw [HFr.out] at HG; clear HFr; generalize hP : (ss.map Srx.name) ++ (ds.map Mdl.name).take k = P at *; clear hP; generalize qlB S = q at *; generalize decide (S ∈ P) = dd at *; have HE0 := a_2 (fun W (hb : Below wr.heap.size wr W) => (hb.cell (p := ⟨g, off + k * 8, none⟩) hg).trans e0); have HE1 := a_2 (fun W (hb : Below wr.heap.size wr W) => (hb.cell (p := ⟨g, off + k * 8 + 1, none⟩) hg).trans e1); have HE2 := a_2 (fun W (hb : Below wr.heap.size wr W) => (hb.cell (p := ⟨g, off + k * 8 + 2, none⟩) hg).trans e2); have HE3 := a_2 (fun W (hb : Below wr.heap.size wr W) => (hb.cell (p := ⟨g, off + k * 8 + 3, none⟩) hg).trans e3); have HE4 := a_2 (fun W (hb : Below wr.heap.size wr W) => (hb.cell (p := ⟨g, off + k * 8 + 4, none⟩) hg).trans e4); have HE5 := a_2 (fun W (hb : Below wr.heap.size wr W) => (hb.cell (p := ⟨g, off + k * 8 + 5, none⟩) hg).trans e5); have HE6 := a_2 (fun W (hb : Below wr.heap.size wr W) => (hb.cell (p := ⟨g, off + k * 8 + 6, none⟩) hg).trans e6); have HE7 := a_2 (fun W (hb : Below wr.heap.size wr W) => (hb.cell (p := ⟨g, off + k * 8 + 7, none⟩) hg).trans e7); have hw0 : Below wr.heap.size wr wr := b_ _ _
   cases q
   ·have HR := a_2 (HF.out 4 (by rw [HT.out]; simp [a_c]) d_)
    clear HT HF HN HTk; rw [show (if false = true then (if dd = true then (6 : Int) else 0) else 4) = 4 from rfl] at HG
    go_wp2_with (first
    | (go_at_call 65; refine (HG.out _ hw0).mono ?_; rintro e w1 ⟨rfl, hb1⟩; have hx1 := a_1 hx s_ hb1; have hw1 := a_9 hb1 hw0; clear b0 b1 b2 b3 b4 b5 e0 e1 e2 e3 e4 e5 e6 e7; obtain ⟨b0, b1, b2, b3, b4, b5, hlw1⟩ := a_R hx1; have e0 := HE0.out _ hw1; have e1 := HE1.out _ hw1; have e2 := HE2.out _ hw1; have e3 := HE3.out _ hw1; have e4 := HE4.out _ hw1; have e5 := HE5.out _ hw1; have e6 := HE6.out _ hw1; have e7 := HE7.out _ hw1))
    exact o_F
   cases dd
   rotate_left
   ·have HR := a_2 (HF.out 6 (by rw [HT.out]; simp [a_c]) d_)
    clear HT HF HN HTk; rw [show (if true = true then (if true = true then (6 : Int) else 0) else 4) = 6 from rfl] at HG
    go_wp2_with (first
    | (go_at_call 65; refine (HG.out _ hw0).mono ?_; rintro e w1 ⟨rfl, hb1⟩; have hx1 := a_1 hx s_ hb1; have hw1 := a_9 hb1 hw0; clear b0 b1 b2 b3 b4 b5 e0 e1 e2 e3 e4 e5 e6 e7; obtain ⟨b0, b1, b2, b3, b4, b5, hlw1⟩ := a_R hx1; have e0 := HE0.out _ hw1; have e1 := HE1.out _ hw1; have e2 := HE2.out _ hw1; have e3 := HE3.out _ hw1; have e4 := HE4.out _ hw1; have e5 := HE5.out _ hw1; have e6 := HE6.out _ hw1; have e7 := HE7.out _ hw1))
    exact o_F
   rw [show (if true = true then (if false = true then (6 : Int) else 0) else 4) = 0 from rfl] at HG
   by_cases hv : v = 0
   rotate_left
   ·have HR := a_2 (HF.out v (by rw [HT.out]; simp [a_c]) hv)
    have hvb : (v != 0) = true := by simpa using hv
    clear HT HF HN HTk
    go_wp2_with (first
    | (go_at_call 65; refine (HG.out _ hw0).mono ?_; rintro e w1 ⟨rfl, hb1⟩; have hx1 := a_1 hx s_ hb1; have hw1 := a_9 hb1 hw0; clear b0 b1 b2 b3 b4 b5 e0 e1 e2 e3 e4 e5 e6 e7; obtain ⟨b0, b1, b2, b3, b4, b5, hlw1⟩ := a_R hx1; have e0 := HE0.out _ hw1; have e1 := HE1.out _ hw1; have e2 := HE2.out _ hw1; have e3 := HE3.out _ hw1; have e4 := HE4.out _ hw1; have e5 := HE5.out _ hw1; have e6 := HE6.out _ hw1; have e7 := HE7.out _ hw1)
    | (go_at_call 66; refine (HOw.out _ hw1).mono ?_; rintro e w2 ⟨rfl, hb2⟩; have hx2 := a_1 hx1 s_ hb2; have hw2 := a_9 hb2 hw1; clear b0 b1 b2 b3 b4 b5 e0 e1 e2 e3 e4 e5 e6 e7; obtain ⟨b0, b1, b2, b3, b4, b5, hlw2⟩ := a_R hx2; have e0 := HE0.out _ hw2; have e1 := HE1.out _ hw2; have e2 := HE2.out _ hw2; have e3 := HE3.out _ hw2; have e4 := HE4.out _ hw2; have e5 := HE5.out _ hw2; have e6 := HE6.out _ hw2; have e7 := HE7.out _ hw2))
    exact r_7
   subst hv; refine k_m ?_; intro HR; clear HT HF HN
   go_wp2_with (first
    | (go_at_call 65; refine (HG.out _ hw0).mono ?_; rintro e w1 ⟨rfl, hb1⟩; have hx1 := a_1 hx s_ hb1; have hw1 := a_9 hb1 hw0; clear b0 b1 b2 b3 b4 b5 e0 e1 e2 e3 e4 e5 e6 e7; obtain ⟨b0, b1, b2, b3, b4, b5, hlw1⟩ := a_R hx1; have e0 := HE0.out _ hw1; have e1 := HE1.out _ hw1; have e2 := HE2.out _ hw1; have e3 := HE3.out _ hw1; have e4 := HE4.out _ hw1; have e5 := HE5.out _ hw1; have e6 := HE6.out _ hw1; have e7 := HE7.out _ hw1)
    | (go_at_call 66; refine (HOw.out _ hw1).mono ?_; rintro e w2 ⟨rfl, hb2⟩; have hx2 := a_1 hx1 s_ hb2; have hw2 := a_9 hb2 hw1; clear b0 b1 b2 b3 b4 b5 e0 e1 e2 e3 e4 e5 e6 e7; obtain ⟨b0, b1, b2, b3, b4, b5, hlw2⟩ := a_R hx2; have e0 := HE0.out _ hw2; have e1 := HE1.out _ hw2; have e2 := HE2.out _ hw2; have e3 := HE3.out _ hw2; have e4 := HE4.out _ hw2; have e5 := HE5.out _ hw2; have e6 := HE6.out _ hw2; have e7 := HE7.out _ hw2)
    | (at_builtin; refine wpList_append_own _ rfl _ _ 26 rfl (w.heap.size + 1) 9 i0 _ 1 16 underlying26 hi hz0 hz1 hz2 rfl d_ _ _ _ rfl (a_g HO.out (hw2.alloc hw2.size _)) ⟨w2.heap.size, 0, none⟩ 1 1 [str S] rfl rfl (by exact b_3 (by have := heap_alloc_new w2 (.cells #[str S] 9); simpa using this)) c_ x_ o_ m_ ?_; intro v' w3 hown3 hgrow _))
   all_goals
    obtain ⟨B3, d3, rfl⟩ := a_j hown3; refine p_7 ?_; intro hx3; refine l_b ?_; intro e1 e2 HFin; clear hown3 hgrow e1
    go_wp2
    exact o_z
  obtain rfl : k = ds.length := by omega
  refine o_r ?_; intro HX HO9
  rw [List.take_of_length_le (show (ds.map Mdl.name).length ≤ ds.length by simp)] at HO9 hlk ⊢
  replace HO := a_2 HO9
  clear HE HZ HO9 h64 hk hlt
  have HE := HX
  clear HX
  clear hlk
  have hd64 : ds.length ≤ 64 := by omega
  by_cases h64 : 64 < ns.length
  ·have HR := a_2 (show r = 2 from HE.out.trans (d_f h64))
   clear HE
   go_wp2_with fail
   all_goals first | (exfalso; omega) | skip
   go_ret
   exact ⟨a_d HR.out.symm, (a_5 hx)⟩
  replace HE := a_2 (HE.out.trans (by rw [e_5 h64]))
  go_wp2_with fail
  all_goals first | (exfalso; omega) | skip
  go_loopw [3, 8] (fun acc i wr => ∃ (k : Nat) (B : Option Addr) (d : Nat), acc = .slice B ((ss.map Srx.name ++ ds.map Mdl.name) ++ (ns.map Snp.name).take k).length d ∧ i = .int .i64 k ∧ k ≤ ns.length ∧ Hid (∀ j, j < k → c_S (ss.map Srx.name ++ ds.map Mdl.name) (ns.map Snp.name) a_n (a_X ns f_B) j = 0) ∧
    Hid (wr.ownsRow (w.heap.size + 1) 9 1 (.slice B ((ss.map Srx.name ++ ds.map Mdl.name) ++ (ns.map Snp.name).take k).length d) ((ss.map Srx.name ++ ds.map Mdl.name) ++ (ns.map Snp.name).take k).length (((ss.map Srx.name ++ ds.map Mdl.name) ++ (ns.map Snp.name).take k).map str)) ∧ Below (w.heap.size + 1) (w.alloc (.cells #[.slice zsA zs.length zsC, .slice ssA ss.length ssC, .slice msA ms.length msC, .slice dsA ds.length dsC, .slice nsA ns.length nsC, .slice csA cs.length csC] 34)) wr) (fun acc i _ => ns.length - (intOf i).toNat)
  case atStart => exact ⟨0, B, d, s_, rfl, o_, a_2 fun j hj => absurd hj (Nat.not_lt_zero _), a_2 (by simpa using HO.out), hx⟩
  case round =>
   clear b0 b1 b2 b3 b4 b5 hlw hr hx; obtain ⟨k, B, d, rfl, rfl, hk, HZ, HO, hx⟩ := hrel
   skip
   refine k_h ?_; intro b0 b1 b2 b3 b4 b5 hlw hr; have hlk : ((ss.map Srx.name ++ ds.map Mdl.name) ++ (ns.map Snp.name).take k).length ≤ 300 := by simp only [List.length_append, List.length_take, List.length_map]; omega
   by_cases hlt : k < ns.length
   ·rcases Hn.out.below i_i.kept hr with e | ⟨g, off, rfl, hg, hc⟩
    ·exact absurd hlt e_
    obtain ⟨vs, hC, hcs⟩ := hc k hlt; have hk2 : k < (ns.map Snp.name).length := by simpa using hlt
    have HT := a_2 (c_q (before := (ss.map Srx.name ++ ds.map Mdl.name)) (names := (ns.map Snp.name)) (good := a_n) (own := (a_X ns f_B)) hk2 (by rw [List.getElem_map])); rw [c_n hlt] at HT; have hok1 := HKn.out _ (List.getElem_mem hlt); have HTk := a_2 (show (ss.map Srx.name ++ ds.map Mdl.name) ++ (ns.map Snp.name).take (k + 1) = ((ss.map Srx.name ++ ds.map Mdl.name) ++ (ns.map Snp.name).take k) ++ [(ns[k]).name] from by rw [List.take_succ_eq_append_getElem hk2, List.getElem_map]; simp only [List.append_assoc]); have HF := a_2 (fun x (e : c_S (ss.map Srx.name ++ ds.map Mdl.name) (ns.map Snp.name) a_n (a_X ns f_B) k = x) (hx : x ≠ 0) => show r = x from HE.out.trans (by rw [a_q HZ.out (by rw [e]; exact hx) hlt, e]; exact a_h hx)); have HN := a_2 (fun (e : c_S (ss.map Srx.name ++ ds.map Mdl.name) (ns.map Snp.name) a_n (a_X ns f_B) k = 0) => a_T HZ.out e); have hvs : vs = [str (ns[k]).name, str (ns[k]).src] := hC; obtain rfl := hvs; have hsl : (ns[k]).name.length ≤ maxLen := hok1.name; have hsl2 : (ns[k]).src.length ≤ maxLen := hok1.src; rw [show f_B ns[k] = if qlB (ns[k]).src = true then 0 else 4 from rfl] at HT; generalize (ns[k]).src = t1 at *; have e0 : wr.cell? ⟨g, off + k * 2, none⟩ = some (str (ns[k]).name) := by simpa using hcs 0 s_
    have e1 : wr.cell? ⟨g, off + k * 2 + 1, none⟩ = some (str t1) := by simpa using hcs 1 s_
    clear hC hc hcs hok1; generalize (ns[k]).name = S at *; have HOw := a_2 (fun W => d_D t1 W hsl2); generalize qlB t1 = q1 at *; rw [show a_n S = true from rfl, Bool.and_true] at HT; have HG := a_2 (fun W (hb : Below wr.heap.size wr W) => b_D S B ((ss.map Srx.name ++ ds.map Mdl.name) ++ (ns.map Snp.name).take k) d W hsl ((a_W HO.out).below hb) o_); have HFr := a_2 (show d_j S ((ss.map Srx.name ++ ds.map Mdl.name) ++ (ns.map Snp.name).take k) = if qlB S = true then (if decide (S ∈ (ss.map Srx.name ++ ds.map Mdl.name) ++ (ns.map Snp.name).take k) = true then 6 else 0) else 4 from by unfold d_j; simp only [decide_eq_true_eq]); rw [HFr.out] at HG; clear HFr; generalize hP : (ss.map Srx.name ++ ds.map Mdl.name) ++ (ns.map Snp.name).take k = P at *; clear hP; generalize qlB S = q at *; generalize decide (S ∈ P) = dd at *; have HE0 := a_2 (fun W (hb : Below wr.heap.size wr W) => (hb.cell (p := ⟨g, off + k * 2, none⟩) hg).trans e0); have HE1 := a_2 (fun W (hb : Below wr.heap.size wr W) => (hb.cell (p := ⟨g, off + k * 2 + 1, none⟩) hg).trans e1); have hw0 : Below wr.heap.size wr wr := b_ _ _
    cases q
    ·have HR := a_2 (HF.out 4 (by rw [HT.out]; simp [a_c]) d_)
     clear HT HF HN HTk; rw [show (if false = true then (if dd = true then (6 : Int) else 0) else 4) = 4 from rfl] at HG
     go_wp2_with (first
     | (go_at_call 65; refine (HG.out _ hw0).mono ?_; rintro e w1 ⟨rfl, hb1⟩; have hx1 := a_1 hx s_ hb1; have hw1 := a_9 hb1 hw0; clear b0 b1 b2 b3 b4 b5 e0 e1; obtain ⟨b0, b1, b2, b3, b4, b5, hlw1⟩ := a_R hx1; have e0 := HE0.out _ hw1; have e1 := HE1.out _ hw1))
     exact o_F
    cases dd
    rotate_left
    ·have HR := a_2 (HF.out 6 (by rw [HT.out]; simp [a_c]) d_)
     clear HT HF HN HTk; rw [show (if true = true then (if true = true then (6 : Int) else 0) else 4) = 6 from rfl] at HG
     go_wp2_with (first
     | (go_at_call 65; refine (HG.out _ hw0).mono ?_; rintro e w1 ⟨rfl, hb1⟩; have hx1 := a_1 hx s_ hb1; have hw1 := a_9 hb1 hw0; clear b0 b1 b2 b3 b4 b5 e0 e1; obtain ⟨b0, b1, b2, b3, b4, b5, hlw1⟩ := a_R hx1; have e0 := HE0.out _ hw1; have e1 := HE1.out _ hw1))
     exact o_F
    rw [show (if true = true then (if false = true then (6 : Int) else 0) else 4) = 0 from rfl] at HG
    cases q1
    ·have HR := a_2 (HF.out 4 (by rw [HT.out]; simp [a_c]) d_)
     clear HT HF HN HTk
     go_wp2_with (first
     | (go_at_call 65; refine (HG.out _ hw0).mono ?_; rintro e w1 ⟨rfl, hb1⟩; have hx1 := a_1 hx s_ hb1; have hw1 := a_9 hb1 hw0; clear b0 b1 b2 b3 b4 b5 e0 e1; obtain ⟨b0, b1, b2, b3, b4, b5, hlw1⟩ := a_R hx1; have e0 := HE0.out _ hw1; have e1 := HE1.out _ hw1)
     | (go_at_call 67; refine (HOw.out _).mono ?_; rintro e w2 ⟨rfl, hb2⟩; have hx2 := a_1 hx1 s_ hb2; have hw2 := a_9 hb2 hw1; clear b0 b1 b2 b3 b4 b5 e0 e1; obtain ⟨b0, b1, b2, b3, b4, b5, hlw2⟩ := a_R hx2; have e0 := HE0.out _ hw2; have e1 := HE1.out _ hw2))
     exact r_7
    refine k_m ?_; intro HR; clear HT HF HN
    go_wp2_with (first
     | (go_at_call 65; refine (HG.out _ hw0).mono ?_; rintro e w1 ⟨rfl, hb1⟩; have hx1 := a_1 hx s_ hb1; have hw1 := a_9 hb1 hw0; clear b0 b1 b2 b3 b4 b5 e0 e1; obtain ⟨b0, b1, b2, b3, b4, b5, hlw1⟩ := a_R hx1; have e0 := HE0.out _ hw1; have e1 := HE1.out _ hw1)
     | (go_at_call 67; refine (HOw.out _).mono ?_; rintro e w2 ⟨rfl, hb2⟩; have hx2 := a_1 hx1 s_ hb2; have hw2 := a_9 hb2 hw1; clear b0 b1 b2 b3 b4 b5 e0 e1; obtain ⟨b0, b1, b2, b3, b4, b5, hlw2⟩ := a_R hx2; have e0 := HE0.out _ hw2; have e1 := HE1.out _ hw2)
     | (at_builtin; refine wpList_append_own _ rfl _ _ 26 rfl (w.heap.size + 1) 9 i0 _ 1 16 underlying26 hi hz0 hz1 hz2 rfl d_ _ _ _ rfl (a_g HO.out (hw2.alloc hw2.size _)) ⟨w2.heap.size, 0, none⟩ 1 1 [str S] rfl rfl (by exact b_3 (by have := heap_alloc_new w2 (.cells #[str S] 9); simpa using this)) c_ x_ o_ m_ ?_; intro v' w3 hown3 hgrow _))
    all_goals
     obtain ⟨B3, d3, rfl⟩ := a_j hown3; refine p_7 ?_; intro hx3; refine l_b ?_; intro e1 e2 HFin; clear hown3 hgrow e1
     go_wp2
     exact o_z
   obtain rfl : k = ns.length := by omega
   refine o_r ?_; intro HX HO9; rw [List.take_of_length_le (show (ns.map Snp.name).length ≤ ns.length by simp)] at HO9 hlk ⊢; replace HO := a_2 HO9; clear HE HZ HO9 h64 hk hlt; have HE := HX; clear HX; clear HO hlk; generalize Value.slice B ((ss.map Srx.name ++ ds.map Mdl.name) ++ (ns.map Snp.name)).length d = v3 at *
   by_cases h64 : 64 < cs.length
   ·have HR := a_2 (show r = 2 from HE.out.trans (d_f h64))
    clear HE
    go_wp2_with fail
    all_goals first | (exfalso; omega) | skip
    go_ret
    exact ⟨a_d HR.out.symm, (a_5 hx)⟩
   replace HE := a_2 (HE.out.trans (by rw [e_5 h64]))
   go_wp2_with fail
   all_goals first | (exfalso; omega) | skip
   go_loopw [10, 11] (fun acc i wr => ∃ (k : Nat) (B : Option Addr) (d : Nat), acc = .slice B (([] : List a_3) ++ (cs.map Chk.name).take k).length d ∧ i = .int .i64 k ∧ k ≤ cs.length ∧ Hid (∀ j, j < k → c_S ([] : List a_3) (cs.map Chk.name) a_n (a_X cs e_x) j = 0) ∧
     Hid (wr.ownsRow (w.heap.size + 1) 9 1 (.slice B (([] : List a_3) ++ (cs.map Chk.name).take k).length d) (([] : List a_3) ++ (cs.map Chk.name).take k).length ((([] : List a_3) ++ (cs.map Chk.name).take k).map str)) ∧ Below (w.heap.size + 1) (w.alloc (.cells #[.slice zsA zs.length zsC, .slice ssA ss.length ssC, .slice msA ms.length msC, .slice dsA ds.length dsC, .slice nsA ns.length nsC, .slice csA cs.length csC] 34)) wr) (fun acc i _ => cs.length - (intOf i).toNat)
   case atStart => exact ⟨0, none, 0, rfl, rfl, o_, a_2 fun j hj => absurd hj (Nat.not_lt_zero _), a_2 (b_f _ _ _ _), hx⟩
   case round =>
    clear b0 b1 b2 b3 b4 b5 hlw hr hx; obtain ⟨k, B, d, rfl, rfl, hk, HZ, HO, hx⟩ := hrel
    skip
    refine k_h ?_; intro b0 b1 b2 b3 b4 b5 hlw hr; have hlk : (([] : List a_3) ++ (cs.map Chk.name).take k).length ≤ 300 := by simp only [List.nil_append, List.length_take, List.length_map]; omega
    by_cases hlt : k < cs.length
    ·rcases Hc.out.below f_h.kept hr with e | ⟨g, off, rfl, hg, hc⟩
     ·exact absurd hlt e_
     obtain ⟨vs, hC, hcs⟩ := hc k hlt; have hk2 : k < (cs.map Chk.name).length := by simpa using hlt
     have HT := a_2 (c_q (before := ([] : List a_3)) (names := (cs.map Chk.name)) (good := a_n) (own := (a_X cs e_x)) hk2 (by rw [List.getElem_map])); rw [c_n hlt] at HT; have hok1 := HKc.out _ (List.getElem_mem hlt); refine r_X ?_; intro HTk; have HF := a_2 (fun x (e : c_S ([] : List a_3) (cs.map Chk.name) a_n (a_X cs e_x) k = x) (hx : x ≠ 0) => show r = x from HE.out.trans (by rw [a_q HZ.out (by rw [e]; exact hx) hlt, e]; exact a_h hx)); have HN := a_2 (fun (e : c_S ([] : List a_3) (cs.map Chk.name) a_n (a_X cs e_x) k = 0) => a_T HZ.out e)
     have HOx := a_2 (fun (x : Chk) (hx : cs[k] = x) (W : World) (hb : Below wr.heap.size wr W) => show f_h wr x vs → (x.ok) → Calls prog 68 #[.agg vs.toArray] W (fun e w' => e = .returned (.int .i64 (e_x x)) ∧ Below W.heap.size W w') from fun hC hk => by
      obtain ⟨a, b, c, h1, h2, h3, rfl⟩ := hC
      exact g_e x a b c W (h1.below hb) (h2.below hb) (h3.below hb) hk)
     refine p_2 ?_; intro HOy; clear HOx
     have hvs : ∃ (t1 : a_3) (i2 : Int) (A3 : Option Addr) (m3 : Nat) (d3 : Nat) (t4 : a_3) (A5 : Option Addr) (m5 : Nat) (d5 : Nat) (i6 : Int) (i7 : Int) (A8 : Option Addr) (m8 : Nat) (d8 : Nat) (i9 : Int) (i10 : Int) (i11 : Int) (i12 : Int) (i13 : Int), vs = [str (cs[k]).name, str t1, .int .i64 i2, .slice A3 m3 d3, str t4, .slice A5 m5 d5, .int .i64 i6, .int .i64 i7, .slice A8 m8 d8, .int .i64 i9, .int .i64 i10, .int .i64 i11, .int .i64 i12, .int .i64 i13] := by
      obtain ⟨a, b, c, h1, h2, h3, rfl⟩ := hC; exact q_Q
     obtain ⟨t1, i2, A3, m3, d3, t4, A5, m5, d5, i6, i7, A8, m8, d8, i9, i10, i11, i12, i13, rfl⟩ := hvs; have hsl : (cs[k]).name.length ≤ maxLen := hok1.name; have e0 : wr.cell? ⟨g, off + k * 14, none⟩ = some (str (cs[k]).name) := by simpa using hcs 0 s_
     have e1 : wr.cell? ⟨g, off + k * 14 + 1, none⟩ = some (str t1) := by simpa using hcs 1 s_
     have e2 : wr.cell? ⟨g, off + k * 14 + 2, none⟩ = some (.int .i64 i2) := by simpa using hcs 2 s_
     have e3 : wr.cell? ⟨g, off + k * 14 + 3, none⟩ = some (.slice A3 m3 d3) := by simpa using hcs 3 s_
     have e4 : wr.cell? ⟨g, off + k * 14 + 4, none⟩ = some (str t4) := by simpa using hcs 4 s_
     have e5 : wr.cell? ⟨g, off + k * 14 + 5, none⟩ = some (.slice A5 m5 d5) := by simpa using hcs 5 s_
     have e6 : wr.cell? ⟨g, off + k * 14 + 6, none⟩ = some (.int .i64 i6) := by simpa using hcs 6 s_
     have e7 : wr.cell? ⟨g, off + k * 14 + 7, none⟩ = some (.int .i64 i7) := by simpa using hcs 7 s_
     have e8 : wr.cell? ⟨g, off + k * 14 + 8, none⟩ = some (.slice A8 m8 d8) := by simpa using hcs 8 s_
     have e9 : wr.cell? ⟨g, off + k * 14 + 9, none⟩ = some (.int .i64 i9) := by simpa using hcs 9 s_
     have e10 : wr.cell? ⟨g, off + k * 14 + 10, none⟩ = some (.int .i64 i10) := by simpa using hcs 10 s_
     have e11 : wr.cell? ⟨g, off + k * 14 + 11, none⟩ = some (.int .i64 i11) := by simpa using hcs 11 s_
     have e12 : wr.cell? ⟨g, off + k * 14 + 12, none⟩ = some (.int .i64 i12) := by simpa using hcs 12 s_
     have e13 : wr.cell? ⟨g, off + k * 14 + 13, none⟩ = some (.int .i64 i13) := by simpa using hcs 13 s_
     clear hC hc hcs hok1; generalize (cs[k]).name = S at *; generalize e_x cs[k] = v at *; have HOw := a_2 (show ∀ W, Below wr.heap.size wr W → Calls prog 68 #[.agg #[str S, str t1, .int .i64 i2, .slice A3 m3 d3, str t4, .slice A5 m5 d5, .int .i64 i6, .int .i64 i7, .slice A8 m8 d8, .int .i64 i9, .int .i64 i10, .int .i64 i11, .int .i64 i12, .int .i64 i13]] W (fun e w' => e = .returned (.int .i64 v) ∧ Below W.heap.size W w') from HOy.out); clear HOy; rw [show a_n S = true from rfl, Bool.and_true] at HT; have HG := a_2 (fun W (hb : Below wr.heap.size wr W) => b_D S B (([] : List a_3) ++ (cs.map Chk.name).take k) d W hsl ((a_W HO.out).below hb) o_); have HFr := a_2 (show d_j S (([] : List a_3) ++ (cs.map Chk.name).take k) = if qlB S = true then (if decide (S ∈ ([] : List a_3) ++ (cs.map Chk.name).take k) = true then 6 else 0) else 4 from by unfold d_j; simp only [decide_eq_true_eq]); rw [HFr.out] at HG; clear HFr; generalize hP : ([] : List a_3) ++ (cs.map Chk.name).take k = P at *; clear hP; generalize qlB S = q at *; generalize decide (S ∈ P) = dd at *; have HE0 := a_2 (fun W (hb : Below wr.heap.size wr W) => (hb.cell (p := ⟨g, off + k * 14, none⟩) hg).trans e0); have HE1 := a_2 (fun W (hb : Below wr.heap.size wr W) => (hb.cell (p := ⟨g, off + k * 14 + 1, none⟩) hg).trans e1); have HE2 := a_2 (fun W (hb : Below wr.heap.size wr W) => (hb.cell (p := ⟨g, off + k * 14 + 2, none⟩) hg).trans e2); have HE3 := a_2 (fun W (hb : Below wr.heap.size wr W) => (hb.cell (p := ⟨g, off + k * 14 + 3, none⟩) hg).trans e3); have HE4 := a_2 (fun W (hb : Below wr.heap.size wr W) => (hb.cell (p := ⟨g, off + k * 14 + 4, none⟩) hg).trans e4); have HE5 := a_2 (fun W (hb : Below wr.heap.size wr W) => (hb.cell (p := ⟨g, off + k * 14 + 5, none⟩) hg).trans e5); have HE6 := a_2 (fun W (hb : Below wr.heap.size wr W) => (hb.cell (p := ⟨g, off + k * 14 + 6, none⟩) hg).trans e6); have HE7 := a_2 (fun W (hb : Below wr.heap.size wr W) => (hb.cell (p := ⟨g, off + k * 14 + 7, none⟩) hg).trans e7); have HE8 := a_2 (fun W (hb : Below wr.heap.size wr W) => (hb.cell (p := ⟨g, off + k * 14 + 8, none⟩) hg).trans e8); have HE9 := a_2 (fun W (hb : Below wr.heap.size wr W) => (hb.cell (p := ⟨g, off + k * 14 + 9, none⟩) hg).trans e9); have HE10 := a_2 (fun W (hb : Below wr.heap.size wr W) => (hb.cell (p := ⟨g, off + k * 14 + 10, none⟩) hg).trans e10); have HE11 := a_2 (fun W (hb : Below wr.heap.size wr W) => (hb.cell (p := ⟨g, off + k * 14 + 11, none⟩) hg).trans e11); have HE12 := a_2 (fun W (hb : Below wr.heap.size wr W) => (hb.cell (p := ⟨g, off + k * 14 + 12, none⟩) hg).trans e12); have HE13 := a_2 (fun W (hb : Below wr.heap.size wr W) => (hb.cell (p := ⟨g, off + k * 14 + 13, none⟩) hg).trans e13); have hw0 : Below wr.heap.size wr wr := b_ _ _
     cases q
     ·have HR := a_2 (HF.out 4 (by rw [HT.out]; simp [a_c]) d_)
      clear HT HF HN HTk; rw [show (if false = true then (if dd = true then (6 : Int) else 0) else 4) = 4 from rfl] at HG
      go_wp2_with (first
      | (go_at_call 65; refine (HG.out _ hw0).mono ?_; rintro e w1 ⟨rfl, hb1⟩; have hx1 := a_1 hx s_ hb1; have hw1 := a_9 hb1 hw0; clear b0 b1 b2 b3 b4 b5 e0 e1 e2 e3 e4 e5 e6 e7 e8 e9 e10 e11 e12 e13; obtain ⟨b0, b1, b2, b3, b4, b5, hlw1⟩ := a_R hx1; have e0 := HE0.out _ hw1; have e1 := HE1.out _ hw1; have e2 := HE2.out _ hw1; have e3 := HE3.out _ hw1; have e4 := HE4.out _ hw1; have e5 := HE5.out _ hw1; have e6 := HE6.out _ hw1; have e7 := HE7.out _ hw1; have e8 := HE8.out _ hw1; have e9 := HE9.out _ hw1; have e10 := HE10.out _ hw1; have e11 := HE11.out _ hw1; have e12 := HE12.out _ hw1; have e13 := HE13.out _ hw1))
      exact o_F
     cases dd
     rotate_left
     ·have HR := a_2 (HF.out 6 (by rw [HT.out]; simp [a_c]) d_)
      clear HT HF HN HTk; rw [show (if true = true then (if true = true then (6 : Int) else 0) else 4) = 6 from rfl] at HG
      go_wp2_with (first
      | (go_at_call 65; refine (HG.out _ hw0).mono ?_; rintro e w1 ⟨rfl, hb1⟩; have hx1 := a_1 hx s_ hb1; have hw1 := a_9 hb1 hw0; clear b0 b1 b2 b3 b4 b5 e0 e1 e2 e3 e4 e5 e6 e7 e8 e9 e10 e11 e12 e13; obtain ⟨b0, b1, b2, b3, b4, b5, hlw1⟩ := a_R hx1; have e0 := HE0.out _ hw1; have e1 := HE1.out _ hw1; have e2 := HE2.out _ hw1; have e3 := HE3.out _ hw1; have e4 := HE4.out _ hw1; have e5 := HE5.out _ hw1; have e6 := HE6.out _ hw1; have e7 := HE7.out _ hw1; have e8 := HE8.out _ hw1; have e9 := HE9.out _ hw1; have e10 := HE10.out _ hw1; have e11 := HE11.out _ hw1; have e12 := HE12.out _ hw1; have e13 := HE13.out _ hw1))
      exact o_F
     rw [show (if true = true then (if false = true then (6 : Int) else 0) else 4) = 0 from rfl] at HG
     by_cases hv : v = 0
     rotate_left
     ·have HR := a_2 (HF.out v (by rw [HT.out]; simp [a_c]) hv)
      have hvb : (v != 0) = true := by simpa using hv
      clear HT HF HN HTk
      go_wp2_with (first
      | (go_at_call 65; refine (HG.out _ hw0).mono ?_; rintro e w1 ⟨rfl, hb1⟩; have hx1 := a_1 hx s_ hb1; have hw1 := a_9 hb1 hw0; clear b0 b1 b2 b3 b4 b5 e0 e1 e2 e3 e4 e5 e6 e7 e8 e9 e10 e11 e12 e13; obtain ⟨b0, b1, b2, b3, b4, b5, hlw1⟩ := a_R hx1; have e0 := HE0.out _ hw1; have e1 := HE1.out _ hw1; have e2 := HE2.out _ hw1; have e3 := HE3.out _ hw1; have e4 := HE4.out _ hw1; have e5 := HE5.out _ hw1; have e6 := HE6.out _ hw1; have e7 := HE7.out _ hw1; have e8 := HE8.out _ hw1; have e9 := HE9.out _ hw1; have e10 := HE10.out _ hw1; have e11 := HE11.out _ hw1; have e12 := HE12.out _ hw1; have e13 := HE13.out _ hw1)
      | (go_at_call 68; refine (HOw.out _ hw1).mono ?_; rintro e w2 ⟨rfl, hb2⟩; have hx2 := a_1 hx1 s_ hb2; have hw2 := a_9 hb2 hw1; clear b0 b1 b2 b3 b4 b5 e0 e1 e2 e3 e4 e5 e6 e7 e8 e9 e10 e11 e12 e13; obtain ⟨b0, b1, b2, b3, b4, b5, hlw2⟩ := a_R hx2; have e0 := HE0.out _ hw2; have e1 := HE1.out _ hw2; have e2 := HE2.out _ hw2; have e3 := HE3.out _ hw2; have e4 := HE4.out _ hw2; have e5 := HE5.out _ hw2; have e6 := HE6.out _ hw2; have e7 := HE7.out _ hw2; have e8 := HE8.out _ hw2; have e9 := HE9.out _ hw2; have e10 := HE10.out _ hw2; have e11 := HE11.out _ hw2; have e12 := HE12.out _ hw2; have e13 := HE13.out _ hw2))
      exact r_7
     subst hv; refine k_m ?_; intro HR; clear HT HF HN
     go_wp2_with (first
      | (go_at_call 65; refine (HG.out _ hw0).mono ?_; rintro e w1 ⟨rfl, hb1⟩; have hx1 := a_1 hx s_ hb1; have hw1 := a_9 hb1 hw0; clear b0 b1 b2 b3 b4 b5 e0 e1 e2 e3 e4 e5 e6 e7 e8 e9 e10 e11 e12 e13; obtain ⟨b0, b1, b2, b3, b4, b5, hlw1⟩ := a_R hx1; have e0 := HE0.out _ hw1; have e1 := HE1.out _ hw1; have e2 := HE2.out _ hw1; have e3 := HE3.out _ hw1; have e4 := HE4.out _ hw1; have e5 := HE5.out _ hw1; have e6 := HE6.out _ hw1; have e7 := HE7.out _ hw1; have e8 := HE8.out _ hw1; have e9 := HE9.out _ hw1; have e10 := HE10.out _ hw1; have e11 := HE11.out _ hw1; have e12 := HE12.out _ hw1; have e13 := HE13.out _ hw1)
      | (go_at_call 68; refine (HOw.out _ hw1).mono ?_; rintro e w2 ⟨rfl, hb2⟩; have hx2 := a_1 hx1 s_ hb2; have hw2 := a_9 hb2 hw1; clear b0 b1 b2 b3 b4 b5 e0 e1 e2 e3 e4 e5 e6 e7 e8 e9 e10 e11 e12 e13; obtain ⟨b0, b1, b2, b3, b4, b5, hlw2⟩ := a_R hx2; have e0 := HE0.out _ hw2; have e1 := HE1.out _ hw2; have e2 := HE2.out _ hw2; have e3 := HE3.out _ hw2; have e4 := HE4.out _ hw2; have e5 := HE5.out _ hw2; have e6 := HE6.out _ hw2; have e7 := HE7.out _ hw2; have e8 := HE8.out _ hw2; have e9 := HE9.out _ hw2; have e10 := HE10.out _ hw2; have e11 := HE11.out _ hw2; have e12 := HE12.out _ hw2; have e13 := HE13.out _ hw2)
      | (at_builtin; refine wpList_append_own _ rfl _ _ 26 rfl (w.heap.size + 1) 9 i0 _ 1 16 underlying26 hi hz0 hz1 hz2 rfl d_ _ _ _ rfl (a_g HO.out (hw2.alloc hw2.size _)) ⟨w2.heap.size, 0, none⟩ 1 1 [str S] rfl rfl (by exact b_3 (by have := heap_alloc_new w2 (.cells #[str S] 9); simpa using this)) c_ x_ o_ m_ ?_; intro v' w3 hown3 hgrow _))
     all_goals
      obtain ⟨B3, d3, rfl⟩ := a_j hown3; refine p_7 ?_; intro hx3; refine l_b ?_; intro e1 e2 HFin; clear hown3 hgrow e1
      go_wp2
      exact o_z
    obtain rfl : k = cs.length := by omega
    refine o_r ?_; intro HX HO9; rw [List.take_of_length_le (show (cs.map Chk.name).length ≤ cs.length by simp)] at HO9 hlk ⊢; replace HO := a_2 HO9; clear HE HZ HO9 h64 hk hlt; have HE := HX; clear HX; have HR := a_2 HE.out
    go_wp2_with fail
    go_ret
    exact ⟨a_d HR.out.symm, a_5 hx⟩
end Go.Proofs.YtnpjibaolicbmaaGreatDoor
