/- Parts of the proof. -/
import Derived.Test.YtnpjibaolicbmaaGreatDoorPp44
import Derived.Test.YtnpjibaolicbmaaGreatDoorPp48
set_option linter.unusedVariables false
set_option linter.unusedSimpArgs false
set_option maxHeartbeats 16000000
namespace Go.Proofs.YtnpjibaolicbmaaGreatDoor
open Go.Proofs.Tryz
open Go.RowKit
set_option maxRecDepth 100000
theorem g_M (d : Dfs) (a : DAdr) (w : World) : Calls prog 6 #[.agg #[slV a.z d.zones.length, slV a.s d.srcs.length, slV a.m d.macs.length, slV a.d d.mdls.length, slV a.n d.snps.length, slV a.c d.chks.length]] w fun e w' => h_A e ∧ Below w.heap.size w w' := by
 go_enter func6, ntmps6
 go_wp2_with fail
 all_goals
  go_ret
  exact ⟨⟨_, rfl⟩, zX⟩
def zz2 : Dfs := ⟨[⟨[122], 0, []⟩, ⟨[122], 0, []⟩], [], [], [], [], []⟩
def zz1 : Dfs := ⟨[⟨[122], 0, []⟩], [], [], [], [], []⟩
set_option maxRecDepth 512
theorem q_P : f_q zz2 = 6 := by decide
theorem r_2 : f_q zz1 = 0 := by decide
theorem s_H : e_A [⟨[109], [], zz2⟩] = 6 := by decide
theorem t_h : e_A [⟨[98, 121], [], ⟨[], [], [], [], [], []⟩⟩] = 4 := by decide
def s_e (G : World → Prop) : Prop := ∀ (A : Option Addr) (ms : List Mdu) (c : Nat) (w : World), G w → c_b w A ms → ms.length ≤ c → ms.length ≤ 1000 → g_O ms → Calls prog 9 #[.slice A ms.length c] w fun e w' => e = .returned (.int .i64 (e_A ms)) ∧ Below w.heap.size w w'
def r_W (G : World → Prop) : Prop := ∀ (d : Dfs) (a : DAdr) (w : World), G w → d.Sl w a → d.ok → Calls prog 11 #[.agg #[slV a.z d.zones.length, slV a.s d.srcs.length, slV a.m d.macs.length, slV a.d d.mdls.length, slV a.n d.snps.length, slV a.c d.chks.length]] w fun e w' => e = .returned (.int .i64 (f_q d)) ∧ Below w.heap.size w w'
def s_X : Prop := ∀ (A : Option Addr) (ms : List Mdu) (c : Nat) (w : World), c_b w A ms → ms.length ≤ c → g_O ms → Calls prog 10 #[.slice A ms.length c] w fun e w' => e = .returned (.int .i64 (e_A ms)) ∧ Below w.heap.size w w'
theorem o_d {W : World} {g : Nat} {t : TypeId} (h : W.heap[g]? = some (.cells #[str [122], .int .i64 0, .slice none 0 0, str [122], .int .i64 0, .slice none 0 0] t)) : a_l 3 g_a W (some ⟨g, 0, none⟩) zz2.zones :=
 c_O (vss := [[str [122], .int .i64 0, .slice none 0 0], [str [122], .int .i64 0, .slice none 0 0]]) ⟨rfl, fun v hv => by simp at hv; subst hv; rfl, fun i hi hi' => by
  match i, hi with
  | 0, _ => exact ⟨(none, 0), .inl rfl, rfl⟩
  | 1, _ => exact ⟨(none, 0), .inl rfl, rfl⟩⟩ h
theorem n_G {W : World} {g : Nat} (h : a_l 3 g_a W (some ⟨g, 0, none⟩) zz2.zones) : a_l 3 g_a W (some ⟨g, 0, none⟩) zz1.zones := by
 rcases h with h | ⟨g', off, h1, h2, h3⟩
 ·cases h
 ·refine .inr ⟨g', off, h1, h2, fun i hi => ?_⟩
  obtain rfl : i = 0 := by have : i < 1 := hi; omega
  exact h3 0 d_
theorem n_o : zz2.ok ∧ zz1.ok := ⟨by constructor <;> simp [zz2, maxLen], by constructor <;> simp [zz1, maxLen]⟩
set_option maxRecDepth 100000
theorem f_o (G : World → Prop) (hG : ∀ w w', G w → Below w.heap.size w w' → G w') (hP : s_e G) (hD : r_W G) (w : World) (hw : G w) : Calls prog 5 #[] w fun e w' => e = .returned (.bool true) ∧ Below w.heap.size w w' := by
 go_enter func5, ntmps5
 go_upto_region 2 with fail
 have hz := o_d (a_K (o := .cells #[.slice (some ⟨w.heap.size, 0, none⟩) 2 2, .slice none 0 0, .slice none 0 0, .slice none 0 0, .slice none 0 0, .slice none 0 0] 34) (a_M w (.cells #[str [122], .int .i64 0, .slice none 0 0, str [122], .int .i64 0, .slice none 0 0] 47) _ rfl))
 have hbx := a_M (w.alloc (.cells #[str [122], .int .i64 0, .slice none 0 0, str [122], .int .i64 0, .slice none 0 0] 47)) (.cells #[.slice (some ⟨w.heap.size, 0, none⟩) 2 2, .slice none 0 0, .slice none 0 0, .slice none 0 0, .slice none 0 0, .slice none 0 0] 34) (w.heap.size + 1) s_
 have hb : Below w.heap.size w ((w.alloc (.cells #[str [122], .int .i64 0, .slice none 0 0, str [122], .int .i64 0, .slice none 0 0] 47)).alloc (.cells #[.slice (some ⟨w.heap.size, 0, none⟩) 2 2, .slice none 0 0, .slice none 0 0, .slice none 0 0, .slice none 0 0, .slice none 0 0] 34)) := ((b_ _ _).alloc (l_ _) _).alloc s_ _
 generalize (w.alloc (.cells #[str [122], .int .i64 0, .slice none 0 0, str [122], .int .i64 0, .slice none 0 0] 47)).alloc (.cells #[.slice (some ⟨w.heap.size, 0, none⟩) 2 2, .slice none 0 0, .slice none 0 0, .slice none 0 0, .slice none 0 0, .slice none 0 0] 34) = W1 at *
 generalize w.heap.size + 1 = bx at *
 generalize hgz : w.heap.size = gz at *
 rw [← hgz] at hb
 clear hgz
 have hsl : ∀ V, a_l 3 g_a V (some ⟨gz, 0, none⟩) zz2.zones → zz2.Sl V ⟨(some ⟨gz, 0, none⟩, 2), (none, 0), (none, 0), (none, 0), (none, 0), (none, 0)⟩ := fun V h => ⟨h, .inl rfl, .inl rfl, .inl rfl, .inl rfl, .inl rfl⟩
 have hz0 := a_0 hbx
 have c0 := hz0 0; have c1 := hz0 1; have c2 := hz0 2; have c3 := hz0 3; have c4 := hz0 4; have c5 := hz0 5
 simp at c0 c1 c2 c3 c4 c5
 go_wp2_with fail
 refine (hD zz2 ⟨(some ⟨gz, 0, none⟩, 2), (none, 0), (none, 0), (none, 0), (none, 0), (none, 0)⟩ W1 (hG _ _ hw hb) (hsl _ hz) n_o.1).mono ?_
 rintro e w2 ⟨rfl, hb2⟩
 rw [q_P]
 have hbx2 := (hb2.block _ (a_6 hbx)).trans hbx
 have hz2 := a_l.below g_a.kept hz hb2
 replace hb := a_9 hb2 hb
 clear c0 c1 c2 c3 c4 c5 hz0 hbx hz hb2 W1
 have hz0 := a_0 hbx2
 have c0 := hz0 0; have c1 := hz0 1; have c2 := hz0 2; have c3 := hz0 3; have c4 := hz0 4; have c5 := hz0 5
 simp at c0 c1 c2 c3 c4 c5
 go_wp2_with fail
 have hm1 : c_b (w2.alloc (.cells #[str [109], .slice none 0 0, .slice (some ⟨gz, 0, none⟩) 2 2, .slice none 0 0, .slice none 0 0, .slice none 0 0, .slice none 0 0, .slice none 0 0] 36)) (some ⟨w2.heap.size, 0, none⟩) [⟨[109], [], zz2⟩] := c_O (vss := [ [str [109], .slice none 0 0, .slice (some ⟨gz, 0, none⟩) 2 2, .slice none 0 0, .slice none 0 0, .slice none 0 0, .slice none 0 0, .slice none 0 0] ]) ⟨rfl, fun v hv => by rw [List.mem_singleton.1 hv]; rfl, fun i hi hi' => by
  obtain rfl : i = 0 := by have : i < 1 := hi; omega
  exact ⟨(none, 0), ⟨(some ⟨gz, 0, none⟩, 2), (none, 0), (none, 0), (none, 0), (none, 0), (none, 0)⟩, ⟨.inl rfl, l_ _⟩, hsl _ (a_l.below g_a.kept hz2 ((b_ _ _).alloc (l_ _) _)), rfl⟩⟩ (heap_alloc_new w2 (.cells #[str [109], .slice none 0 0, .slice (some ⟨gz, 0, none⟩) 2 2, .slice none 0 0, .slice none 0 0, .slice none 0 0, .slice none 0 0, .slice none 0 0] 36))
 have hb3 : Below w2.heap.size w2 (w2.alloc (.cells #[str [109], .slice none 0 0, .slice (some ⟨gz, 0, none⟩) 2 2, .slice none 0 0, .slice none 0 0, .slice none 0 0, .slice none 0 0, .slice none 0 0] 36)) := (b_ _ _).alloc (l_ _) _
 refine (hP _ [⟨[109], [], zz2⟩] 1 _ (hG _ _ hw (a_9 hb3 hb)) hm1 (l_ _) d_ (by intro m hm; rw [List.mem_singleton.1 hm]; exact ⟨s_, n_o.1⟩)).mono ?_
 rintro e w3 ⟨rfl, hb4⟩
 rw [s_H]
 replace hb3 := a_9 hb4 hb3
 clear hm1 hb4
 go_wp2_with fail
 have hm2 : c_b (w3.alloc (.cells #[str [98, 121], .slice none 0 0, .slice none 0 0, .slice none 0 0, .slice none 0 0, .slice none 0 0, .slice none 0 0, .slice none 0 0] 36)) (some ⟨w3.heap.size, 0, none⟩) [⟨[98, 121], [], ⟨[], [], [], [], [], []⟩⟩] := c_O (vss := [ [str [98, 121], .slice none 0 0, .slice none 0 0, .slice none 0 0, .slice none 0 0, .slice none 0 0, .slice none 0 0, .slice none 0 0] ]) ⟨rfl, fun v hv => by rw [List.mem_singleton.1 hv]; rfl, fun i hi hi' => by
  obtain rfl : i = 0 := by have : i < 1 := hi; omega
  exact ⟨(none, 0), ⟨(none, 0), (none, 0), (none, 0), (none, 0), (none, 0), (none, 0)⟩, ⟨.inl rfl, l_ _⟩, ⟨.inl rfl, .inl rfl, .inl rfl, .inl rfl, .inl rfl, .inl rfl⟩, rfl⟩⟩ (heap_alloc_new w3 (.cells #[str [98, 121], .slice none 0 0, .slice none 0 0, .slice none 0 0, .slice none 0 0, .slice none 0 0, .slice none 0 0, .slice none 0 0] 36))
 have hb5 : Below w3.heap.size w3 (w3.alloc (.cells #[str [98, 121], .slice none 0 0, .slice none 0 0, .slice none 0 0, .slice none 0 0, .slice none 0 0, .slice none 0 0, .slice none 0 0] 36)) := (b_ _ _).alloc (l_ _) _
 refine (hP _ [⟨[98, 121], [], ⟨[], [], [], [], [], []⟩⟩] 1 _ (hG _ _ hw (a_9 hb5 (a_9 hb3 hb))) hm2 (l_ _) d_ (by intro m hm; rw [List.mem_singleton.1 hm]; exact ⟨s_, by constructor <;> simp⟩)).mono ?_
 rintro e w4 ⟨rfl, hb6⟩
 rw [t_h]
 have hb7 := a_9 hb6 (a_9 hb5 hb3)
 have hbx4 := (hb7.block _ (a_6 hbx2)).trans hbx2
 have hz4 := a_l.below g_a.kept hz2 hb7
 replace hb := a_9 hb7 hb
 clear hm2 hb3 hb5 hb6 hb7 hz2 hbx2 c0 c1 c2 c3 c4 c5 hz0
 have c0 := a_0 hbx4 0
 simp at c0
 go_wp2_with fail
 refine (hD zz1 ⟨(some ⟨gz, 0, none⟩, 2), (none, 0), (none, 0), (none, 0), (none, 0), (none, 0)⟩ w4 (hG _ _ hw hb) ⟨n_G hz4, .inl rfl, .inl rfl, .inl rfl, .inl rfl, .inl rfl⟩ n_o.2).mono ?_
 rintro e w5 ⟨rfl, hb8⟩
 rw [r_2]
 go_wp2_with fail
 go_ret
 exact ⟨rfl, a_9 hb8 hb⟩
set_option maxRecDepth 512
theorem p_k {ms : List Mdu} {b : Nat} (h : ∀ m ∈ ms, m.ok ∧ m.sm b) : g_O ms := fun m hm => (h m hm).1
set_option maxRecDepth 100000
theorem e_C (hNode : d_B) (G : World → Prop) (hG : ∀ w w', G w → Below w.heap.size w w' → G w') (hP : s_e G) (hD : r_W G) (hR : s_X) (A : Option Addr) (c : Nat) (rs : List Mdu) (L : Option Addr) (lc : Nat) (l : List Int) (n m : Int) (w : World)
  (hw : G w) (hM : c_b w A rs) (hc : rs.length ≤ c) (hk : g_O rs) (hl : i_I w (L, lc) l) :
  Calls prog 3 #[.slice A rs.length c, .slice L l.length lc, .int .i64 n, .int .i64 m] w fun e w' => e = .returned (.bool true) ∧ Below w.heap.size w w' := by
 have HC := a_2 (fun W (hb : Below w.heap.size w W) => f_o G hG hP hD W (hG _ _ hw hb))
 have HP := a_2 (fun W (hb : Below w.heap.size w W) (h40 : rs.length ≤ 40) => hP A rs c W (hG _ _ hw hb) (a_l.below f_g.kept hM hb) hc o_ hk)
 have HR := a_2 (fun W (hb : Below w.heap.size w W) => hR A rs c W (a_l.below f_g.kept hM hb) hc hk)
 have HMo := a_2 (fun W (hb : Below w.heap.size w W) => f_L hNode L lc l W (hl.below hb))
 have HM := a_2 hM
 have HPx := a_2 (fun (B : Option Addr) (ms : List Mdu) (d : Nat) W (hb : Below w.heap.size w W) h1 h2 h3 h4 => hP B ms d W (hG _ _ hw hb) h1 h2 h3 h4)
 have HRx := a_2 (fun (B : Option Addr) (ms : List Mdu) (d : Nat) W h1 h2 h3 => hR B ms d W h1 h2 h3)
 clear hw hM hk hl hP hD hR hG hNode
 go_enter func3, ntmps3
 by_cases h40 : rs.length > 40
 ·have h41 : (rs.length : Int) > 40 := by omega
  go_wp2_with fail
  refine (HC.out _ (b_ _ _)).mono ?_
  rintro e w1 ⟨rfl, hb1⟩
  go_wp2_with fail
  exact d_s
 have h41 : ¬ ((rs.length : Int) > 40) := by omega
 go_wp2_with fail
 go_loopw [9] (fun i wr => ∃ k : Nat, k ≤ rs.length ∧ i = .int .i64 (k : Int) ∧ Below w.heap.size w wr) (fun i _ => rs.length - (intOf i).toNat)
 case atStart => exact ⟨0, o_, rfl, b_ _ _⟩
 case round =>
  obtain ⟨k, hk, rfl, hr⟩ := hrel
  by_cases hlt : k < rs.length
  ·have hlt2 : (k : Int) < (rs.length : Int) := by omega
   rcases a_l.below f_g.kept HM.out hr with e | ⟨g, off, rfl, hg, hcs⟩
   ·exact absurd hlt e_
   obtain ⟨vs, ⟨u, a, hu, hd, rfl⟩, hcs⟩ := hcs k hlt; generalize rs[k] = x at *; have c1 : wr.cell? ⟨g, off + k * 8 + 1, none⟩ = some (slV u x.uses.length) := hcs 1 s_; have c2 : wr.cell? ⟨g, off + k * 8 + 2, none⟩ = some (slV a.z x.defs.zones.length) := hcs 2 s_; have c3 : wr.cell? ⟨g, off + k * 8 + 3, none⟩ = some (slV a.s x.defs.srcs.length) := hcs 3 s_; have c4 : wr.cell? ⟨g, off + k * 8 + 4, none⟩ = some (slV a.m x.defs.macs.length) := hcs 4 s_; have c5 : wr.cell? ⟨g, off + k * 8 + 5, none⟩ = some (slV a.d x.defs.mdls.length) := hcs 5 s_; have c6 : wr.cell? ⟨g, off + k * 8 + 6, none⟩ = some (slV a.n x.defs.snps.length) := hcs 6 s_; have c7 : wr.cell? ⟨g, off + k * 8 + 7, none⟩ = some (slV a.c x.defs.chks.length) := hcs 7 s_; clear hcs hd hu; have hwk := IntWalk.i64_in ((k : Int) + 1) o_
   go_wp2_with fail
   refine (g_M x.defs a wr).mono ?_; rintro e w1 ⟨⟨b, rfl⟩, hb1⟩; have hr1 := a_9 hb1 hr; have d1 := (hb1.cell (p := ⟨g, off + k * 8 + 1, none⟩) hg).trans c1; clear c1 c2 c3 c4 c5 c6 c7
   cases b
   ·go_wp2_with fail
    refine (HC.out _ hr1).mono ?_; rintro e w2 ⟨rfl, hb2⟩
    go_wp2_with fail
    go_ret
    exact ⟨rfl, a_9 hb2 hr1⟩
   by_cases hu40 : x.uses.length > 40
   ·have hu41 : (x.uses.length : Int) > 40 := by omega
    go_wp2_with fail
    refine (HC.out _ hr1).mono ?_; rintro e w2 ⟨rfl, hb2⟩
    go_wp2_with fail
    go_ret
    exact ⟨rfl, a_9 hb2 hr1⟩
   ·have hu41 : ¬ ((x.uses.length : Int) > 40) := by omega
    go_wp2_with fail
    exact ⟨⟨k + 1, o_, s_, hr1⟩, w_⟩
  ·obtain rfl : k = rs.length := by omega
   go_wp2_with fail
   refine (HMo.out _ hr).mono ?_; rintro e w1 ⟨⟨B, d, ms, rfl, hd1, hms, hmk, hml⟩, hb1⟩; have hr1 := a_9 hb1 hr
   go_wp2_with fail
   refine (d_I B d ms 64 n w1 hms hmk d_ o_).mono ?_; rintro e w2 ⟨⟨B2, d2, ms2, rfl, hd2, hms2, hmk2, hml2⟩, hb2⟩; have hr2 := a_9 hb2 hr1
   go_wp2_with fail
   refine (d_I B2 d2 ms2 65 m w2 hms2 hmk2 d_ o_).mono ?_; rintro e w3 ⟨⟨B3, d3, ms3, rfl, hd3, hms3, hmk3, hml3⟩, hb3⟩; have hr3 := a_9 hb3 hr2
   go_wp2_with fail
   refine (HP.out _ hr3 o_).mono ?_; rintro e w4 ⟨rfl, hb4⟩; have hr4 := a_9 hb4 hr3
   go_wp2_with fail
   refine (HR.out _ hr4).mono ?_; rintro e w5 ⟨rfl, hb5⟩; have hr5 := a_9 hb5 hr4; have hb35 := a_9 hb5 hb4
   go_wp2_with fail
   refine (HPx.out B3 ms3 d3 _ hr5 (a_l.below f_g.kept hms3 hb35) hd3 o_ (p_k hmk3)).mono ?_; rintro e w6 ⟨rfl, hb6⟩; have hr6 := a_9 hb6 hr5
   go_wp2_with fail
   refine (HRx.out B3 ms3 d3 _ (a_l.below f_g.kept hms3 (a_9 hb6 hb35)) hd3 (p_k hmk3)).mono ?_; rintro e w7 ⟨rfl, hb7⟩; have hr7 := a_9 hb7 hr6
   go_wp2_with fail
   refine (HC.out _ hr7).mono ?_; rintro e w8 ⟨rfl, hb8⟩
   go_wp2_with fail
   go_ret
   exact ⟨rfl, a_9 hb8 hr7⟩
set_option maxRecDepth 512
theorem b_Q.push {es : List Nd} {n : Nd} (h : b_Q es) (hn : n.name.length ≤ 9) : b_Q (es ++ [n]) := fun m hm => by
 rcases List.mem_append.1 hm with hm | hm
 ·exact h m hm
 ·simp only [List.mem_cons, List.not_mem_nil, or_false] at hm
  subst hm; unfold maxLen; omega
theorem m_5 : d_B := by
 intro op k m a x nm X C Z cs n xc cc zm zc w ha hX hC hl hZ hz
 by_cases h17 : op = 17
 ·subst h17
  have hn : n = 3 := by
   have : b_N 17 a = 3 := rfl
   omega
  subst hn
  rcases hX with e | ⟨g, off, rfl, hg, hc⟩
  ·cases e
  obtain ⟨k0, b0, c0, c1⟩ := hc 0 o_
  simp only [Nat.zero_mul, Nat.add_zero] at c0 c1
  obtain ⟨k1, b1, c2, c3⟩ := hc 1 o_
  simp only [Nat.one_mul] at c2 c3
  obtain ⟨k2, b2, c4, c5⟩ := hc 2 o_
  simp only [show 2 * 2 = 4 from rfl] at c4 c5
  cases hcm : cmB k1 k2 <;> cases b1
  ·exact r_u k m a x nm g off C Z xc cs.length cc zm zc w k0 k1 k2 b0 b2 hg hcm c0 c1 c2 c3 c4 c5
  ·exact q_B k m a x nm g off C Z xc cs.length cc zm zc w k0 k1 k2 b0 b2 hg hcm c0 c1 c2 c3 c4 c5
  ·exact q_O k m a x nm g off C Z xc cs.length cc zm zc w k0 k1 k2 b0 b2 hg hcm c0 c1 c2 c3 c4 c5
  ·exact q_x k m a x nm g off C Z xc cs.length cc zm zc w k0 k1 k2 b0 b2 hg hcm c0 c1 c2 c3 c4 c5
 ·exact m_7 op k m a x nm X C Z cs n xc cc zm zc w ha h17 hX hC hl hZ hz
end Go.Proofs.YtnpjibaolicbmaaGreatDoor
