/- Parts of the proof. -/
import Derived.Test.YtnpjibaolicbmaaGreatDoorPp42
import Derived.Test.YtnpjibaolicbmaaGreatDoorPp43
set_option linter.unusedVariables false
set_option linter.unusedSimpArgs false
set_option maxHeartbeats 40000000
namespace Go.Proofs.YtnpjibaolicbmaaGreatDoor
open Go.Proofs.Tryz
open Go.RowKit
theorem Tryz.info_srx : (prog.info? 57).map (fun i => (i.zero, i.size, i.bytes)) = some (some (.agg #[.string ⟨#[]⟩, .slice none 0 0, .slice none 0 0, .string ⟨#[]⟩, .string ⟨#[]⟩, .int .i64 0, .int .i64 0]), 7, 112) := by kernel_rfl
theorem Tryz.info_mdl : (prog.info? 62).map (fun i => (i.zero, i.size, i.bytes)) = some (some (.agg #[.string ⟨#[]⟩, .slice none 0 0, .slice none 0 0, .string ⟨#[]⟩, .string ⟨#[]⟩, .int .i64 0, .string ⟨#[]⟩, .int .i64 0]), 8, 128) := by kernel_rfl
theorem Tryz.info_chk : (prog.info? 67).map (fun i => (i.zero, i.size, i.bytes)) = some (some (.agg #[.string ⟨#[]⟩, .string ⟨#[]⟩, .int .i64 0, .slice none 0 0, .string ⟨#[]⟩, .slice none 0 0, .int .i64 0, .int .i64 0, .slice none 0 0, .int .i64 0, .int .i64 0, .int .i64 0, .int .i64 0, .int .i64 0]), 14, 184) := by kernel_rfl
theorem Tryz.info_zon : (prog.info? 47).map (fun i => (i.zero, i.size, i.bytes)) = some (some (.agg #[.string ⟨#[]⟩, .int .i64 0, .slice none 0 0]), 3, 48) := by kernel_rfl
theorem Tryz.info_snp : (prog.info? 52).map (fun i => (i.zero, i.size, i.bytes)) = some (some (.agg #[.string ⟨#[]⟩, .string ⟨#[]⟩]), 2, 32) := by kernel_rfl
theorem Tryz.info_st9 : (prog.info? 9).map (fun i => (i.zero, i.size, i.bytes)) = some (some (.string ⟨#[]⟩), 1, 16) := by kernel_rfl
theorem d_2 {w : World} {B e size n c : Nat} {A : Option Addr} {xs : List Value} (h : w.ownsRow B e size (.slice A n c) n xs) (hn : 0 < n) : ∃ g, A = some ⟨g, 0, none⟩ := by
 rcases h.2 with ⟨_, hz⟩ | ⟨g, cap, cur, hA, _⟩
 ·omega
 ·injection hA with h1 _ _; exact ⟨g, h1⟩
theorem j_c {W V : World} {B k d : Nat} {A : Option Addr} {xs : List Value} (ho : W.ownsRow B 67 14 (.slice A k d) k xs) (hg : W.grownBy V (Value.slice A k d).ownBlock) : KeepX XC W V := by
 refine ⟨hg.size, fun b o hb hx => ?_⟩
 rw [hg.block b (a_6 hb)]
 ·exact hb
 ·intro e
  rcases ho.2 with ⟨hn, hz⟩ | ⟨g, cap, cur, hA, _, hh, _⟩
  ·rw [hn] at e; cases e
  ·rw [hA] at e
   exact s_z
theorem k_O {W : World} {B n d g j : Nat} {v : Value} {xs : List Value} (ho : W.ownsRow B 36 8 (.slice (some ⟨g, 0, none⟩) n d) n xs) : KeepX XC W (W.setCell ⟨g, j, none⟩ v) := KeepX.set fun o h => by
 rcases ho.2 with ⟨hn, _⟩ | ⟨g', cap, cur, hA, _, hh, _⟩
 ·cases hn
 ·injection hA with h1 _ _
  obtain rfl : g = g' := by injection h1 with h1; injection h1
  rw [hh] at h
  exact .inr ⟨_, _, .inr (Option.some.inj h).symm⟩
def XU (T : TypeId) (k : Nat) (o : Obj) : Prop := XT T k o ∨ XB k o
theorem nXU {T : TypeId} {k : Nat} {cs : Array Value} {t : TypeId} {r : Nat × Nat} (h1 : t ≠ T) (h2 : t ≠ 34) (h3 : t ≠ 36) : ¬ XU T k (.cells cs t r) := fun h => h.elim (nXT h1) (nXB h2 h3)
theorem m_S {T : TypeId} {W V : World} (h : KeepX XB W V) : KeepX (XU T) W V := h.grow fun _ _ _ h => .inr h
theorem j_8 {T : TypeId} {W V : World} {B k n d : Nat} {A : Option Addr} {xs : List Value} (ho : W.ownsRow B T k (.slice A n d) n xs) (hg : W.grownBy V (Value.slice A n d).ownBlock) : KeepX (XU T) W V := by
 refine ⟨hg.size, fun b o hb hx => ?_⟩
 rw [hg.block b (a_6 hb)]
 ·exact hb
 ·intro e
  rcases ho.2 with ⟨hn, hz⟩ | ⟨g, cap, cur, hA, _, hh, _⟩
  ·rw [hn] at e; cases e
  ·rw [hA] at e
   exact s_z
theorem m_6 {T : TypeId} {g m : Nat} {W : World} (hg : W.heap[g]? = some (.cells #[str [120], str [121], str [120]] 9)) (hm : m ≤ 3) (hT : 9 ≠ T := by decide) : ∃ ls : List a_3, m = ls.length ∧ ls.length ≤ 3 ∧ a_B (XU T) (fun V => b_9 V (some ⟨g, 0, none⟩, 3) ls) W := ⟨[ [120], [121], [120]].take m, m_, m_, a_B.blk hg (nXU hT d_ d_) fun V hv => ⟨b_F (a_6 hv) (l := [ [120], [121], [120]]) (fun j hj => by
  rw [Nat.zero_add, a_0 hv]
  match j, hj with
  | 0, _ => rfl
  | 1, _ => rfl
  | 2, _ => rfl) m, m_⟩⟩
def o_W (w0 : World) (b n : Nat) (e : Ending) (w' : World) : Prop := (∃ (B : Option Addr) (d : Nat) (ms : List Mdu), e = .returned (.slice B ms.length d) ∧ ms.length ≤ d ∧ c_b w' B ms ∧ (∀ m ∈ ms, m.ok ∧ m.sm (b + 1)) ∧ ms.length ≤ n + 1) ∧ Below w0.heap.size w0 w'
theorem a_J {w0 W : World} {b n g c : Nat} (h : c_P w0 b n g c W) : o_W w0 b n (.returned (.slice (some ⟨g, 0, none⟩) n c)) W := by
 obtain ⟨ms, vss, h1, h2, h3, h4, h5⟩ := h
 subst h1
 exact ⟨⟨_, c, ms, rfl, (c_L h2).1, a_x h3 h2, h4, Nat.le_succ _⟩, h5⟩
set_option maxRecDepth 100000
theorem d_I (A : Option Addr) (c : Nat) (ms : List Mdu) (b : Nat) (n : Int) (w0 : World) (hM : c_b w0 A ms) (hk : ∀ m ∈ ms, m.ok ∧ m.sm b) (hbb : b ≤ 200) (hl : ms.length ≤ 100) :
    Calls prog 7 #[.slice A ms.length c, .int .i64 n] w0 fun e w' => o_W w0 b ms.length e w' := by
  obtain ⟨im, hi, hz0, hz1, hz2⟩ := info_parts Tryz.info_mdu
  obtain ⟨vss, hin, hrd, hln, hone⟩ := b_j p_i hM
  have hC : Came w0 b ms vss := ⟨hin, hk⟩
  have hm3 := i_8; have hm15 := l_J; have hm31 := k_u
  clear hM hk hin
  go_enter func7, ntmps7
  by_cases hl0 : ms.length = 0
  · obtain rfl := List.eq_nil_of_length_eq_zero hl0
    simp only [List.length_nil] at *
    go_wp2_with (at_builtin; refine b_y _ rfl _ 22 rfl 36 im _ 8 184 underlying22 hi hz0 hz1 hz2 rfl d_ A 0 c vss.flatten rfl hrd hln hone d_ d_ ?_; intro A1 c1 w1 o1 hb1)
    go_ret
    exact ⟨⟨A1, c1, [], rfl, Nat.zero_le _, .inl rfl, fun m h => (List.not_mem_nil h).elim, Nat.zero_le _⟩, hb1⟩
  obtain ⟨i, hi1, hi2, hi3⟩ : ∃ i : Nat, n % 4 % (ms.length : Int) = (i : Int) ∧ i < ms.length ∧ (i : Int) < (ms.length : Int) := by
    have h1 := Int.emod_nonneg (n % 4) (show (ms.length : Int) ≠ 0 by omega); have h2 := Int.emod_lt_of_pos (n % 4) (show (0 : Int) < (ms.length : Int) by omega); exact ⟨(n % 4 % (ms.length : Int)).toNat, o_, o_, o_⟩
  have hl1 : ((ms.length : Int) == 0) = false := beq_eq_false_iff_ne.2 o_
  have hl2 : (0 : Int) < (ms.length : Int) := by omega
  have hn4 : 0 ≤ n % 4 := by omega
  go_upto_region 4 with (at_builtin; refine b_y _ rfl _ 22 rfl 36 im _ 8 184 underlying22 hi hz0 hz1 hz2 rfl d_ A ms.length c vss.flatten rfl hrd hln hone x_ o_ ?_; intro A1 c1 w1 o1 hb1)
  obtain ⟨g, rfl⟩ := d_2 o1 o_
  have hS : Stage w0 ms vss g c1 w1 := ⟨o1, hb1⟩
  clear o1 hb1 hrd hln hone
  have hv : i < vss.length := by rw [hC.rows.len]; exact hi2
  obtain ⟨u, ad, hu, hsl, hv2⟩ := hC.rows.tell i hi2 hv
  have hR : Row1 w0 b vss i ms[i] u ad := ⟨by rw [List.getElem?_eq_getElem hv, hv2], hu, hsl, hC.ok _ (List.getElem_mem hi2)⟩
  clear hu hsl hv2 hv
  generalize ms[i] = m at *
  have hce := fun f hf => hS.cell hC hi2 hR.at_ f hf
  have y0 : w1.cell? ⟨g, i * 8, none⟩ = some (str m.name) := (hce 0 d_).1
  have f0 : w1.frozen? ⟨g, i * 8, none⟩ = false := (hce 0 d_).2
  have y1 : w1.cell? ⟨g, i * 8 + 1, none⟩ = some (slV u m.uses.length) := (hce 1 d_).1
  have f1 : w1.frozen? ⟨g, i * 8 + 1, none⟩ = false := (hce 1 d_).2
  have y2 : w1.cell? ⟨g, i * 8 + 2, none⟩ = some (slV ad.z m.defs.zones.length) := (hce 2 d_).1
  have f2 : w1.frozen? ⟨g, i * 8 + 2, none⟩ = false := (hce 2 d_).2
  have y3 : w1.cell? ⟨g, i * 8 + 3, none⟩ = some (slV ad.s m.defs.srcs.length) := (hce 3 d_).1
  have f3 : w1.frozen? ⟨g, i * 8 + 3, none⟩ = false := (hce 3 d_).2
  have y4 : w1.cell? ⟨g, i * 8 + 4, none⟩ = some (slV ad.m m.defs.macs.length) := (hce 4 d_).1
  have f4 : w1.frozen? ⟨g, i * 8 + 4, none⟩ = false := (hce 4 d_).2
  have y5 : w1.cell? ⟨g, i * 8 + 5, none⟩ = some (slV ad.d m.defs.mdls.length) := (hce 5 d_).1
  have f5 : w1.frozen? ⟨g, i * 8 + 5, none⟩ = false := (hce 5 d_).2
  have y6 : w1.cell? ⟨g, i * 8 + 6, none⟩ = some (slV ad.n m.defs.snps.length) := (hce 6 d_).1
  have f6 : w1.frozen? ⟨g, i * 8 + 6, none⟩ = false := (hce 6 d_).2
  have y7 : w1.cell? ⟨g, i * 8 + 7, none⟩ = some (slV ad.c m.defs.chks.length) := (hce 7 d_).1
  have f7 : w1.frozen? ⟨g, i * 8 + 7, none⟩ = false := (hce 7 d_).2
  have l0 := hS.gat.2
  obtain ⟨l1, l2, l3⟩ := e_g l0
  clear hce
  have hk0 : 0 ≤ n / 256 % 16 := by omega
  have hk1 : n / 256 % 16 ≤ 15 := by omega
  have hq0 : 0 ≤ n / 4 % 32 := by omega
  have hq1 : n / 4 % 32 ≤ 31 := by omega
  go_upto_region 8 with fail
  generalize hkk : n / 256 % 16 = k at *
  generalize hqq : n / 4 % 32 = q at *
  by_cases e0 : q = 0
  · subst e0
    have hm := l_P hk0
    rcases hm with hm | hm | hm | hm
    all_goals
      go_wp2_with fail
      go_ret
      exact a_J (n_q hS hC hi2 hR _ _)
  have e0' : (q == 0) = false := beq_eq_false_iff_ne.2 e0
  by_cases e1 : q = 1
  · subst e1
    obtain ⟨vs2, hin2, hrd2, hln2, hone2⟩ := b_j p_A (l_j hR.use.1); obtain ⟨i2, hi', hz0', hz1', hz2'⟩ := info_parts Tryz.info_st9; have hsb := hR.ok.2.u; have CC := a_2 (j_w (g := g) (c := c1) hC (z := 16) (s := 19))
    go_upto_region 11 with fail
    refine c_8 (H := fun _ => KeepX XB) (C := CS w0 b ms vss g c1 16 19) (R := fun i9 => match i9 with
      | 0 => vC (.pointer (some ⟨g, i * 8, none⟩))
      | 1 => vC (.pointer (some ⟨g, i * 8, none⟩))
      | 2 => vC (.pointer (some ⟨g, i * 8, none⟩))
      | 3 => vC (.pointer (some ⟨g, i * 8 + 1, none⟩))
      | 4 => vC (slV u m.uses.length)
      | 5 => vO 9 1 m.uses.length (g + 1) vs2.flatten
      | 6 => vC (.pointer (some ⟨g, i * 8, none⟩))
      | 7 => vC (.pointer (some ⟨g, i * 8, none⟩))
      | 8 => vC (.pointer (some ⟨g, i * 8, none⟩))
      | 9 => vC (str m.name)
      | 10 => vS [ [99, 111, 114, 101], [110, 111, 110, 101], m.name]
      | 11 => vC (.int .i64 k)
      | 12 => vI 0 2
      | 13 => vP [ [99, 111, 114, 101], [110, 111, 110, 101], m.name]
      | 14 => vT [ [99, 111, 114, 101], [110, 111, 110, 101], m.name]
      | 15 => (fun W v => ∃ (g2 : Nat) (s : a_3), v = .slice (some ⟨g2, 0, none⟩) 1 1 ∧ W.heap[g2]? = some (.cells [str s].toArray 9))
      | 16 => (fun W v => ∃ (A : Option Addr) (c : Nat) (x : a_3), v = .slice A (m.uses.length + 1) c ∧ True ∧ ∀ V, Below w0.heap.size w0 V → KeepX XB W V → b_9 V (A, c) (m.uses ++ [x]))
      | 17 => vC (.pointer (some ⟨g, i * 8, none⟩))
      | 18 => vC (.pointer (some ⟨g, i * 8 + 1, none⟩))
      | _ => fun _ _ => True) 16 [15, 14, 13, 10, 12, 9, 8, 7, 6, 11, 5, 4, 3, 2, 1] [5, 10, 13, 15] (fun _ _ _ _ _ h k => h.trans k) (fun _ w => KeepX.refl _ w) (fun j hz hd W W' v h => by
        match j, hz, hd, h with
        | 0, _, _, h => exact h
        | 1, _, _, h => exact h
        | 2, _, _, h => exact h
        | 3, _, _, h => exact h
        | 4, _, _, h => exact h
        | 5, _, hd, _ => exact absurd hd d_
        | 6, _, _, h => exact h
        | 7, _, _, h => exact h
        | 8, _, _, h => exact h
        | 9, _, _, h => exact h
        | 10, _, hd, _ => exact absurd hd d_
        | 11, _, _, h => exact h
        | 12, _, _, h => exact h
        | 13, _, hd, _ => exact absurd hd d_
        | 14, _, _, h => exact h
        | 15, _, hd, _ => exact absurd hd d_
        | 16, hz, _, _ => exact absurd rfl hz
        | 17, _, _, h => exact h
        | 18, _, _, h => exact h
        | 19, _, _, h => exact h
        | _ + 20, _, _, h => exact h) d_ k_ rfl k_ ?duhc0 (c_a.all ?duhop) ?duhend
    case' duhop => refine ⟨?duo0, ?duo1, ?duo2, ?duo3, ?duo4, ?duo5, ?duo6, ?duo7, ?duo8, ?duo9, ?duo10, ?duo11, ?duo12, ?duo13, ?duo14, ?duo15, ?duo16, ?duo17, ?duo18, ?duo19, trivial⟩
    case duo0 =>
      exact _ar
    case duo1 =>
      exact _ar
    case duo2 =>
      refine a_Q k_ ?_; refine a_s CC.out fun L a W hf hc hL hn ht => ?_; have e1 : a.tmps.getD 47 undef = (.pointer (some ⟨g, i * 8, none⟩)) := ht 1 k_ 47 rfl W (CC.out.refl L _); refine a_e.veil fun K hK => ?_; unfold a_e
      go_simp
      exact d_d
    case duo3 =>
      refine a_Q k_ ?_; refine a_s CC.out fun L a W hf hc hL hn ht => ?_; have e1 : a.tmps.getD 48 undef = (.pointer (some ⟨g, i * 8, none⟩)) := ht 2 k_ 48 rfl W (CC.out.refl L _); refine a_e.veil fun K hK => ?_; unfold a_e
      go_simp
      exact d_d
    case duo4 =>
      refine d_E CC.out d_ fun L a W hf hc hL ht => ?_; have e1 : a.tmps.getD 49 undef = (.pointer (some ⟨g, i * 8 + 1, none⟩)) := ht 3 k_ 49 rfl W (CC.out.refl L _); have y := ((hc.1 hL).cell hC hi2 hR.at_ 1 d_).1; have y2 : W.cell? ⟨g, i * 8 + 1, none⟩ = some (slV u m.uses.length) := y; clear y; refine a_e.veil fun K hK => ?_; unfold a_e
      go_simp
      exact d_d
    case duo5 =>
      refine d_E CC.out d_ fun L a W hf hc hL ht => ?_; have e1 : a.tmps.getD 50 undef = (slV u m.uses.length) := ht 4 k_ 50 rfl W (CC.out.refl L _); refine e_4 _ 26 rfl 9 i2 _ 1 16 underlying26 hi' hz0' hz1' hz2' rfl d_ u.1 m.uses.length u.2 vs2.flatten e1 (hrd2.below (hc.1 hL).bel) hln2 hone2 x_ o_ ?_; intro A' c' w' ho hb; exact q_c
    case duo6 =>
      exact _ar
    case duo7 =>
      refine a_Q k_ ?_; refine a_s CC.out fun L a W hf hc hL hn ht => ?_; have e1 : a.tmps.getD 52 undef = (.pointer (some ⟨g, i * 8, none⟩)) := ht 6 k_ 52 rfl W (CC.out.refl L _); refine a_e.veil fun K hK => ?_; unfold a_e
      go_simp
      exact d_d
    case duo8 =>
      refine a_Q k_ ?_; refine a_s CC.out fun L a W hf hc hL hn ht => ?_; have e1 : a.tmps.getD 53 undef = (.pointer (some ⟨g, i * 8, none⟩)) := ht 7 k_ 53 rfl W (CC.out.refl L _); refine a_e.veil fun K hK => ?_; unfold a_e
      go_simp
      exact d_d
    case duo9 =>
      refine d_E CC.out d_ fun L a W hf hc hL ht => ?_; have e1 : a.tmps.getD 54 undef = (.pointer (some ⟨g, i * 8, none⟩)) := ht 8 k_ 54 rfl W (CC.out.refl L _); have y : W.cell? ⟨g, i * 8, none⟩ = some (str m.name) := ((hc.1 hL).cell hC hi2 hR.at_ 0 d_).1; refine a_e.veil fun K hK => ?_; unfold a_e
      go_simp
      exact d_d
    case duo10 =>
      refine a_Q k_ ?_; refine a_s CC.out fun L a W hf hc hL hn ht => ?_; have e1 : a.tmps.getD 55 undef = (str m.name) := ht 9 k_ 55 rfl W (CC.out.refl L _); have e1q := e1; simp only [Array.getD_eq_getD_getElem?] at e1q; refine a_e.veil fun K hK => ?_; unfold a_e
      go_simp
      exact q_j
    case duo11 =>
      exact o_b
    case duo12 =>
      refine a_Q k_ ?_; exact d_5 CC.out (lo := 0) (hi := 15) (fun n => n.tmod 3) 11 57 (fun a w n e n0 n1 => by go_simp) (fun n n0 n1 => ⟨by rw [Int.tmod_eq_emod_of_nonneg n0]; omega, by rw [Int.tmod_eq_emod_of_nonneg n0]; omega⟩) k_ rfl (fun _ _ h => e_n ⟨hk0, hk1⟩ _ _ h) rfl
    case duo13 =>
      refine a_Q k_ ?_; exact b_V CC.out (⟨d_, d_⟩) _ 10 56 12 58 rfl k_ k_ rfl rfl rfl (fun _ _ h => h) rfl
    case duo14 =>
      refine a_Q k_ ?_; exact c_u CC.out _ 13 59 rfl k_ rfl rfl rfl
    case duo15 =>
      refine a_Q k_ ?_; refine a_s CC.out fun L a W hf hc hL hn ht => ?_; obtain ⟨s, hs, e1⟩ := ht 14 k_ 60 rfl W (CC.out.refl L _); have e1q := e1; simp only [Array.getD_eq_getD_getElem?] at e1q; refine a_e.veil fun K hK => ?_; unfold a_e
      go_simp
      exact hK _ _ ⟨(b_ _ _).alloc (l_ _) _, fun V hV => ⟨_, s, rfl, CC.out.keep L _ _ _ _ _ ⟨d_, d_⟩ hV (heap_alloc_new _ _)⟩⟩
    case duo16 =>
      intro L a W hf hc hL hp hn ht; have hSW := hc.1 hL; have hzz : ∀ j, L 16 = true → [5, 10, 13, 15].contains j = false := fun _ h => by rw [hL] at h; cases h
      obtain ⟨A', c', e1, ho⟩ := (ht 5 k_).2 (hzz _) 51 rfl W (CC.out.refl L _); obtain ⟨g2, s, e2, hg2⟩ := (ht 15 k_).2 (hzz _) 61 rfl W (CC.out.refl L _); refine f_4 _ _ 26 rfl 9 i2 _ 1 16 underlying26 hi' hz0' hz1' hz2' rfl d_ (g + 1) _ _ _ e1 ho g2 [str s] e2 rfl hg2 c_ x_ o_ (by have := hSW.gat.2; omega) ?_; intro v' w' ho' hgr; obtain ⟨A3, c3, rfl⟩ := a_j ho'; refine q_5 ?_; intro hS'; refine ⟨⟨fun h => by simp [e_b] at h, fun _ => hS', fun _ => f_i hS' hC⟩, .inl rfl, fun _ V hV => ⟨A3, c3, s, rfl, trivial, fun U hU hX => ?_⟩⟩; have ho'' := a_B.own ho' (fun _ _ _ _ => nXB d_ d_) (fun _ h => h) U (hV.trans hX); have h1 := i_E (a_x (xs := m.uses ++ [s]) ((hin2.below n_R.kept hU).push (x := s) (v := [str s]) rfl (rfl)) (by simpa using ho'')); exact ⟨h1, by simp; exact (c_L ho'').1⟩
    case duo17 =>
      refine d_1 CC.out fun L a W hf hc ht => ?_; have e1 : a.tmps.getD 46 undef = (.pointer (some ⟨g, i * 8, none⟩)) := ht 0 k_ d_ 46 rfl W (CC.out.refl L _); refine a_e.veil fun K hK => ?_; unfold a_e
      go_simp
      exact d_d
    case duo18 =>
      refine d_1 CC.out fun L a W hf hc ht => ?_; have e1 : a.tmps.getD 63 undef = (.pointer (some ⟨g, i * 8, none⟩)) := ht 17 k_ d_ 63 rfl W (CC.out.refl L _); refine a_e.veil fun K hK => ?_; unfold a_e
      go_simp
      exact d_d
    case duo19 =>
      intro L a W hf hc hL hp hn ht; have hSW := hc.2.1 hL; obtain ⟨A3, c3, x, e1, hxk, hxr⟩ := (ht 16 k_).2 (fun _ => by decide) 62 rfl W (CC.out.refl L _); have hLz := (ht 16 k_).1; have e2 : a.tmps.getD 64 undef = .pointer (some ⟨g, i * 8 + 1, none⟩) := (ht 18 k_).2 (fun _ => by decide) 64 rfl W (CC.out.refl L _); have y : W.cell? ⟨g, i * 8 + 1, none⟩ = some (slV u m.uses.length) := (hSW.cell hC hi2 hR.at_ 1 d_).1; have y2 := (hSW.cell hC hi2 hR.at_ 1 d_).2; refine a_e.veil fun K hK => ?_; unfold a_e
      go_simp
      have hX' := hSW.keep (i * 8 + 1) (.slice A3 (m.uses.length + 1) c3); have hB' := hSW.bel.setCell (p := ⟨g, i * 8 + 1, none⟩) hSW.gat.1 (.slice A3 (m.uses.length + 1) c3); have hl9 : m.uses.length + 1 = (m.uses ++ [x]).length := by simp
      rw [hl9] at hX' hB' ⊢; have hfin := n_M hSW hC hi2 hR hbb (xs := m.uses ++ [x]) (hxr _ hB' hX') m_; exact p_Q
    case duhc0 => exact ⟨fun _ => hS.go (Below.drew (b_ _ _)), fun _ => hS.go (Below.drew (b_ _ _)), fun h => by cases h⟩
    case duhend =>
      intro V W1 L hcs hall; simp only [c_V, List.setIfInBounds_toArray, List.set_cons_zero, List.set_cons_succ]
      go_wp2_with fail
      go_ret
      exact a_J (hcs.2.2 (hall 19 d_))
  have e1' : (q == 1) = false := beq_eq_false_iff_ne.2 e1
  by_cases e2 : q = 2
  · subst e2
    obtain ⟨vs2, hin2, hrd2, hln2, hone2⟩ := b_j p_C hR.sl.hz; obtain ⟨i2, hi', hz0', hz1', hz2'⟩ := info_parts Tryz.info_zon; have hsb := hR.ok.2.d.z; have CC := a_2 (j_w (g := g) (c := c1) hC (z := 15) (s := 18))
    go_upto_region 13 with fail
    refine c_8 (H := fun _ => KeepX XB) (C := CS w0 b ms vss g c1 15 18) (R := fun i9 => match i9 with
      | 0 => vC (.pointer (some ⟨g, i * 8 + 2, none⟩))
      | 1 => vC (.pointer (some ⟨g, i * 8 + 2, none⟩))
      | 2 => vC (.pointer (some ⟨g, i * 8 + 2, none⟩))
      | 3 => vC (.pointer (some ⟨g, i * 8 + 2, none⟩))
      | 4 => vC (slV ad.z m.defs.zones.length)
      | 5 => vO 47 3 m.defs.zones.length (g + 1) vs2.flatten
      | 6 => vS [ [122, 48], [115, 101, 108, 102], [122, 122]]
      | 7 => vC (.int .i64 k)
      | 8 => vI 0 2
      | 9 => vP [ [122, 48], [115, 101, 108, 102], [122, 122]]
      | 10 => vT [ [122, 48], [115, 101, 108, 102], [122, 122]]
      | 11 => vC (.int .i64 k)
      | 12 => vI 0 1500
      | 13 => (fun _ v => ∃ s ∈ [ [122, 48], [115, 101, 108, 102], [122, 122]], ∃ q : Int, v = .agg #[str s, .int .i64 q, .slice none 0 0])
      | 14 => (fun W v => ∃ (g2 : Nat) (s : a_3) (q : Int), s ∈ [ [122, 48], [115, 101, 108, 102], [122, 122]] ∧ v = .slice (some ⟨g2, 0, none⟩) 1 1 ∧ W.heap[g2]? = some (.cells [str s, .int .i64 q, .slice none 0 0].toArray 47))
      | 15 => (fun W v => ∃ (A : Option Addr) (c : Nat) (x : Zon), v = .slice A (m.defs.zones.length + 1) c ∧ (x.name.length ≤ maxLen ∧ x.sh.length ≤ 8796093022208) ∧ ∀ V, Below w0.heap.size w0 V → KeepX XB W V → a_l 3 g_a V A (m.defs.zones ++ [x]))
      | 16 => vC (.pointer (some ⟨g, i * 8 + 2, none⟩))
      | 17 => vC (.pointer (some ⟨g, i * 8 + 2, none⟩))
      | _ => fun _ _ => True) 15 [14, 13, 10, 12, 9, 6, 8, 7, 11, 5, 4, 3, 2, 1] [5, 6, 9, 14] (fun _ _ _ _ _ h k => h.trans k) (fun _ w => KeepX.refl _ w) (fun j hz hd W W' v h => by
        match j, hz, hd, h with
        | 0, _, _, h => exact h
        | 1, _, _, h => exact h
        | 2, _, _, h => exact h
        | 3, _, _, h => exact h
        | 4, _, _, h => exact h
        | 5, _, hd, _ => exact absurd hd d_
        | 6, _, hd, _ => exact absurd hd d_
        | 7, _, _, h => exact h
        | 8, _, _, h => exact h
        | 9, _, hd, _ => exact absurd hd d_
        | 10, _, _, h => exact h
        | 11, _, _, h => exact h
        | 12, _, _, h => exact h
        | 13, _, _, h => exact h
        | 14, _, hd, _ => exact absurd hd d_
        | 15, hz, _, _ => exact absurd rfl hz
        | 16, _, _, h => exact h
        | 17, _, _, h => exact h
        | 18, _, _, h => exact h
        | _ + 19, _, _, h => exact h) d_ k_ rfl k_ ?dzhc0 (c_a.all ?dzhop) ?dzhend
    case' dzhop => refine ⟨?dzo0, ?dzo1, ?dzo2, ?dzo3, ?dzo4, ?dzo5, ?dzo6, ?dzo7, ?dzo8, ?dzo9, ?dzo10, ?dzo11, ?dzo12, ?dzo13, ?dzo14, ?dzo15, ?dzo16, ?dzo17, ?dzo18, trivial⟩
    case dzo0 =>
      exact o_I
    case dzo1 =>
      exact o_I
    case dzo2 =>
      refine a_Q k_ ?_; refine a_s CC.out fun L a W hf hc hL hn ht => ?_; have e1 : a.tmps.getD 68 undef = (.pointer (some ⟨g, i * 8 + 2, none⟩)) := ht 1 k_ 68 rfl W (CC.out.refl L _); refine a_e.veil fun K hK => ?_; unfold a_e
      go_simp
      exact d_d
    case dzo3 =>
      refine a_Q k_ ?_; refine a_s CC.out fun L a W hf hc hL hn ht => ?_; have e1 : a.tmps.getD 69 undef = (.pointer (some ⟨g, i * 8 + 2, none⟩)) := ht 2 k_ 69 rfl W (CC.out.refl L _); refine a_e.veil fun K hK => ?_; unfold a_e
      go_simp
      exact d_d
    case dzo4 =>
      refine d_E CC.out d_ fun L a W hf hc hL ht => ?_; have e1 : a.tmps.getD 70 undef = (.pointer (some ⟨g, i * 8 + 2, none⟩)) := ht 3 k_ 70 rfl W (CC.out.refl L _); have y := ((hc.1 hL).cell hC hi2 hR.at_ 2 d_).1; have y2 : W.cell? ⟨g, i * 8 + 2, none⟩ = some (slV ad.z m.defs.zones.length) := y; clear y; refine a_e.veil fun K hK => ?_; unfold a_e
      go_simp
      exact d_d
    case dzo5 =>
      refine d_E CC.out d_ fun L a W hf hc hL ht => ?_; have e1 : a.tmps.getD 71 undef = (slV ad.z m.defs.zones.length) := ht 4 k_ 71 rfl W (CC.out.refl L _); refine e_4 _ 27 rfl 47 i2 _ 3 48 underlying27 hi' hz0' hz1' hz2' rfl d_ ad.z.1 m.defs.zones.length ad.z.2 vs2.flatten e1 (hrd2.below (hc.1 hL).bel) hln2 hone2 x_ o_ ?_; intro A' c' w' ho hb; exact q_c
    case dzo6 =>
      refine a_Q k_ ?_; exact _am
    case dzo7 =>
      exact o_b
    case dzo8 =>
      refine a_Q k_ ?_; exact d_5 CC.out (lo := 0) (hi := 15) (fun n => n.tmod 3) 7 74 (fun a w n e n0 n1 => by go_simp) (fun n n0 n1 => ⟨by rw [Int.tmod_eq_emod_of_nonneg n0]; omega, by rw [Int.tmod_eq_emod_of_nonneg n0]; omega⟩) k_ rfl (fun _ _ h => e_n ⟨hk0, hk1⟩ _ _ h) rfl
    case dzo9 =>
      refine a_Q k_ ?_; exact b_V CC.out (⟨d_, d_⟩) _ 6 73 8 75 rfl k_ k_ rfl rfl rfl (fun _ _ h => h) rfl
    case dzo10 =>
      refine a_Q k_ ?_; exact c_u CC.out _ 9 76 rfl k_ rfl rfl rfl
    case dzo11 =>
      exact o_b
    case dzo12 =>
      refine a_Q k_ ?_; exact d_5 CC.out (lo := 0) (hi := 15) (fun n => n * 100) 11 78 (fun a w n e n0 n1 => by have hw := IntWalk.i64_in (n * 100) o_; go_simp) (fun n n0 n1 => ⟨o_, o_⟩) k_ rfl (fun _ _ h => e_n ⟨hk0, hk1⟩ _ _ h) rfl
    case dzo13 =>
      refine a_Q k_ ?_; refine a_s CC.out fun L a W hf hc hL hn ht => ?_; obtain ⟨s, hs, e1⟩ := ht 10 k_ 77 rfl W (CC.out.refl L _); obtain ⟨q, e2, q0, q1⟩ := ht 12 k_ 79 rfl W (CC.out.refl L _); have e1q := e1; have e2q := e2; simp only [Array.getD_eq_getD_getElem?] at e1q e2q; refine a_e.veil fun K hK => ?_; unfold a_e
      go_simp
      exact hK _ _ ⟨b_ _ _, fun V hV => ⟨s, hs, q, rfl⟩⟩
    case dzo14 =>
      refine a_Q k_ ?_; refine a_s CC.out fun L a W hf hc hL hn ht => ?_; obtain ⟨s, hs, q, e1⟩ := ht 13 k_ 80 rfl W (CC.out.refl L _); have e1q := e1; simp only [Array.getD_eq_getD_getElem?] at e1q; refine a_e.veil fun K hK => ?_; unfold a_e
      go_simp
      exact hK _ _ ⟨(b_ _ _).alloc (l_ _) _, fun V hV => ⟨_, s, q, hs, rfl, CC.out.keep L _ _ _ _ _ ⟨d_, d_⟩ hV (heap_alloc_new _ _)⟩⟩
    case dzo15 =>
      intro L a W hf hc hL hp hn ht; have hSW := hc.1 hL; have hzz : ∀ j, L 15 = true → [5, 6, 9, 14].contains j = false := fun _ h => by rw [hL] at h; cases h
      obtain ⟨A', c', e1, ho⟩ := (ht 5 k_).2 (hzz _) 72 rfl W (CC.out.refl L _); obtain ⟨g2, s, q, hs, e2, hg2⟩ := (ht 14 k_).2 (hzz _) 81 rfl W (CC.out.refl L _); refine f_4 _ _ 27 rfl 47 i2 _ 3 48 underlying27 hi' hz0' hz1' hz2' rfl d_ (g + 1) _ _ _ e1 ho g2 [str s, .int .i64 q, .slice none 0 0] e2 rfl hg2 c_ x_ o_ (by have := hSW.gat.2; omega) ?_; intro v' w' ho' hgr; obtain ⟨A3, c3, rfl⟩ := a_j ho'; refine q_5 ?_; intro hS'; refine ⟨⟨fun h => by simp [e_b] at h, fun _ => hS', fun _ => f_i hS' hC⟩, .inl rfl, fun _ V hV => ⟨A3, c3, ⟨s, q, []⟩, rfl, ⟨d_g hs (by simp [maxLen]), s_⟩, fun U hU hX => ?_⟩⟩; exact a_x (xs := m.defs.zones ++ [⟨s, q, []⟩]) ((hin2.below g_a.kept hU).push (x := ⟨s, q, []⟩) (v := [str s, .int .i64 q, .slice none 0 0]) rfl (⟨(none, 0), .inl rfl, rfl⟩)) (by simpa using (a_B.own ho' (fun _ _ _ _ => nXB d_ d_) (fun _ h => h) U (hV.trans hX)))
    case dzo16 =>
      refine d_1 CC.out fun L a W hf hc ht => ?_; have e1 : a.tmps.getD 67 undef = (.pointer (some ⟨g, i * 8 + 2, none⟩)) := ht 0 k_ d_ 67 rfl W (CC.out.refl L _); refine a_e.veil fun K hK => ?_; unfold a_e
      go_simp
      exact d_d
    case dzo17 =>
      refine d_1 CC.out fun L a W hf hc ht => ?_; have e1 : a.tmps.getD 83 undef = (.pointer (some ⟨g, i * 8 + 2, none⟩)) := ht 16 k_ d_ 83 rfl W (CC.out.refl L _); refine a_e.veil fun K hK => ?_; unfold a_e
      go_simp
      exact d_d
    case dzo18 =>
      intro L a W hf hc hL hp hn ht; have hSW := hc.2.1 hL; obtain ⟨A3, c3, x, e1, hxk, hxr⟩ := (ht 15 k_).2 (fun _ => by decide) 82 rfl W (CC.out.refl L _); have hLz := (ht 15 k_).1; have e2 : a.tmps.getD 84 undef = .pointer (some ⟨g, i * 8 + 2, none⟩) := (ht 17 k_).2 (fun _ => by decide) 84 rfl W (CC.out.refl L _); have y : W.cell? ⟨g, i * 8 + 2, none⟩ = some (slV ad.z m.defs.zones.length) := (hSW.cell hC hi2 hR.at_ 2 d_).1; have y2 := (hSW.cell hC hi2 hR.at_ 2 d_).2; refine a_e.veil fun K hK => ?_; unfold a_e
      go_simp
      have hX' := hSW.keep (i * 8 + 2) (.slice A3 (m.defs.zones.length + 1) c3); have hB' := hSW.bel.setCell (p := ⟨g, i * 8 + 2, none⟩) hSW.gat.1 (.slice A3 (m.defs.zones.length + 1) c3); have hl9 : m.defs.zones.length + 1 = (m.defs.zones ++ [x]).length := by simp
      rw [hl9] at hX' hB' ⊢; have hfin := s_Y hSW hC hi2 hR hbb (xs := m.defs.zones ++ [x]) (hxr _ hB' hX') (fun t ht => by rcases List.mem_append.1 ht with ht | ht; exact hR.ok.1.defs.zone t ht; rw [List.mem_singleton.1 ht]; exact hxk) m_; exact p_Q
    case dzhc0 => exact ⟨fun _ => hS.go (Below.drew (b_ _ _)), fun _ => hS.go (Below.drew (b_ _ _)), fun h => by cases h⟩
    case dzhend =>
      intro V W1 L hcs hall; simp only [c_V, List.setIfInBounds_toArray, List.set_cons_zero, List.set_cons_succ]
      go_wp2_with fail
      go_ret
      exact a_J (hcs.2.2 (hall 18 d_))
  have e2' : (q == 2) = false := beq_eq_false_iff_ne.2 e2
  by_cases e3 : q = 3
  · subst e3
    obtain ⟨vs2, hin2, hrd2, hln2, hone2⟩ := b_j p_a hR.sl.hn; obtain ⟨i2, hi', hz0', hz1', hz2'⟩ := info_parts Tryz.info_snp; have hsb := hR.ok.2.d.n; have CC := a_2 (j_w (g := g) (c := c1) hC (z := 18) (s := 21))
    go_upto_region 15 with fail
    refine c_8 (H := fun _ => KeepX XB) (C := CS w0 b ms vss g c1 18 21) (R := fun i9 => match i9 with
      | 0 => vC (.pointer (some ⟨g, i * 8 + 2, none⟩))
      | 1 => vC (.pointer (some ⟨g, i * 8 + 2, none⟩))
      | 2 => vC (.pointer (some ⟨g, i * 8 + 2, none⟩))
      | 3 => vC (.pointer (some ⟨g, i * 8 + 6, none⟩))
      | 4 => vC (slV ad.n m.defs.snps.length)
      | 5 => vO 52 2 m.defs.snps.length (g + 1) vs2.flatten
      | 6 => vS [ [111, 114, 100, 101, 114, 115], [109, 97], [115, 46, 116], [108, 97, 115, 116]]
      | 7 => vC (.int .i64 k)
      | 8 => vI 0 3
      | 9 => vP [ [111, 114, 100, 101, 114, 115], [109, 97], [115, 46, 116], [108, 97, 115, 116]]
      | 10 => vT [ [111, 114, 100, 101, 114, 115], [109, 97], [115, 46, 116], [108, 97, 115, 116]]
      | 11 => vS [ [111, 114, 100, 101, 114, 115], [98, 121], []]
      | 12 => vC (.int .i64 k)
      | 13 => vI 0 2
      | 14 => vP [ [111, 114, 100, 101, 114, 115], [98, 121], []]
      | 15 => vT [ [111, 114, 100, 101, 114, 115], [98, 121], []]
      | 16 => (fun _ v => ∃ s1 ∈ [ [111, 114, 100, 101, 114, 115], [109, 97], [115, 46, 116], [108, 97, 115, 116]], ∃ s2 ∈ [ [111, 114, 100, 101, 114, 115], [98, 121], []], v = .agg #[str s1, str s2])
      | 17 => (fun W v => ∃ (g2 : Nat) (s1 s2 : a_3), s1 ∈ [ [111, 114, 100, 101, 114, 115], [109, 97], [115, 46, 116], [108, 97, 115, 116]] ∧ s2 ∈ [ [111, 114, 100, 101, 114, 115], [98, 121], []] ∧ v = .slice (some ⟨g2, 0, none⟩) 1 1 ∧ W.heap[g2]? = some (.cells [str s1, str s2].toArray 52))
      | 18 => (fun W v => ∃ (A : Option Addr) (c : Nat) (x : Snp), v = .slice A (m.defs.snps.length + 1) c ∧ x.ok ∧ ∀ V, Below w0.heap.size w0 V → KeepX XB W V → a_l 2 i_i V A (m.defs.snps ++ [x]))
      | 19 => vC (.pointer (some ⟨g, i * 8 + 2, none⟩))
      | 20 => vC (.pointer (some ⟨g, i * 8 + 6, none⟩))
      | _ => fun _ _ => True) 18 [17, 16, 10, 15, 9, 14, 6, 8, 11, 13, 7, 12, 5, 4, 3, 2, 1] [5, 6, 9, 11, 14, 17] (fun _ _ _ _ _ h k => h.trans k) (fun _ w => KeepX.refl _ w) (fun j hz hd W W' v h => by
        match j, hz, hd, h with
        | 0, _, _, h => exact h
        | 1, _, _, h => exact h
        | 2, _, _, h => exact h
        | 3, _, _, h => exact h
        | 4, _, _, h => exact h
        | 5, _, hd, _ => exact absurd hd d_
        | 6, _, hd, _ => exact absurd hd d_
        | 7, _, _, h => exact h
        | 8, _, _, h => exact h
        | 9, _, hd, _ => exact absurd hd d_
        | 10, _, _, h => exact h
        | 11, _, hd, _ => exact absurd hd d_
        | 12, _, _, h => exact h
        | 13, _, _, h => exact h
        | 14, _, hd, _ => exact absurd hd d_
        | 15, _, _, h => exact h
        | 16, _, _, h => exact h
        | 17, _, hd, _ => exact absurd hd d_
        | 18, hz, _, _ => exact absurd rfl hz
        | 19, _, _, h => exact h
        | 20, _, _, h => exact h
        | 21, _, _, h => exact h
        | _ + 22, _, _, h => exact h) d_ k_ rfl k_ ?dnhc0 (c_a.all ?dnhop) ?dnhend
    case' dnhop => refine ⟨?dno0, ?dno1, ?dno2, ?dno3, ?dno4, ?dno5, ?dno6, ?dno7, ?dno8, ?dno9, ?dno10, ?dno11, ?dno12, ?dno13, ?dno14, ?dno15, ?dno16, ?dno17, ?dno18, ?dno19, ?dno20, ?dno21, trivial⟩
    case dno0 =>
      exact o_I
    case dno1 =>
      exact o_I
    case dno2 =>
      refine a_Q k_ ?_; refine a_s CC.out fun L a W hf hc hL hn ht => ?_; have e1 : a.tmps.getD 88 undef = (.pointer (some ⟨g, i * 8 + 2, none⟩)) := ht 1 k_ 88 rfl W (CC.out.refl L _); refine a_e.veil fun K hK => ?_; unfold a_e
      go_simp
      exact d_d
    case dno3 =>
      refine a_Q k_ ?_; refine a_s CC.out fun L a W hf hc hL hn ht => ?_; have e1 : a.tmps.getD 89 undef = (.pointer (some ⟨g, i * 8 + 2, none⟩)) := ht 2 k_ 89 rfl W (CC.out.refl L _); refine a_e.veil fun K hK => ?_; unfold a_e
      go_simp
      exact d_d
    case dno4 =>
      refine d_E CC.out d_ fun L a W hf hc hL ht => ?_; have e1 : a.tmps.getD 90 undef = (.pointer (some ⟨g, i * 8 + 6, none⟩)) := ht 3 k_ 90 rfl W (CC.out.refl L _); have y := ((hc.1 hL).cell hC hi2 hR.at_ 6 d_).1; have y2 : W.cell? ⟨g, i * 8 + 6, none⟩ = some (slV ad.n m.defs.snps.length) := y; clear y; refine a_e.veil fun K hK => ?_; unfold a_e
      go_simp
      exact d_d
    case dno5 =>
      refine d_E CC.out d_ fun L a W hf hc hL ht => ?_; have e1 : a.tmps.getD 91 undef = (slV ad.n m.defs.snps.length) := ht 4 k_ 91 rfl W (CC.out.refl L _); refine e_4 _ 31 rfl 52 i2 _ 2 32 underlying31 hi' hz0' hz1' hz2' rfl d_ ad.n.1 m.defs.snps.length ad.n.2 vs2.flatten e1 (hrd2.below (hc.1 hL).bel) hln2 hone2 x_ o_ ?_; intro A' c' w' ho hb; exact q_c
    case dno6 =>
      refine a_Q k_ ?_; exact _am
    case dno7 =>
      exact o_b
    case dno8 =>
      refine a_Q k_ ?_; refine a_s CC.out fun L a W hf hc hL hn ht => ?_; have e1 : a.tmps.getD 94 undef = (.int .i64 k) := ht 7 k_ 94 rfl W (CC.out.refl L _); refine p_G ?_; intro hm hm2; refine a_e.veil fun K hK => ?_; unfold a_e
      go_simp
      exact p_M
    case dno9 =>
      refine a_Q k_ ?_; exact b_V CC.out (⟨d_, d_⟩) _ 6 93 8 95 rfl k_ k_ rfl rfl rfl (fun _ _ h => h) rfl
    case dno10 =>
      refine a_Q k_ ?_; exact c_u CC.out _ 9 96 rfl k_ rfl rfl rfl
    case dno11 =>
      refine a_Q k_ ?_; exact _am
    case dno12 =>
      exact o_b
    case dno13 =>
      refine a_Q k_ ?_; exact d_5 CC.out (lo := 0) (hi := 15) (fun n => n.tmod 3) 12 99 (fun a w n e n0 n1 => by go_simp) (fun n n0 n1 => ⟨by rw [Int.tmod_eq_emod_of_nonneg n0]; omega, by rw [Int.tmod_eq_emod_of_nonneg n0]; omega⟩) k_ rfl (fun _ _ h => e_n ⟨hk0, hk1⟩ _ _ h) rfl
    case dno14 =>
      refine a_Q k_ ?_; exact b_V CC.out (⟨d_, d_⟩) _ 11 98 13 100 rfl k_ k_ rfl rfl rfl (fun _ _ h => h) rfl
    case dno15 =>
      refine a_Q k_ ?_; exact c_u CC.out _ 14 101 rfl k_ rfl rfl rfl
    case dno16 =>
      refine a_Q k_ ?_; refine a_s CC.out fun L a W hf hc hL hn ht => ?_; obtain ⟨s1, h1, e1⟩ := ht 10 k_ 97 rfl W (CC.out.refl L _); obtain ⟨s2, h2, e2⟩ := ht 15 k_ 102 rfl W (CC.out.refl L _); have e1q := e1; have e2q := e2; simp only [Array.getD_eq_getD_getElem?] at e1q e2q; refine a_e.veil fun K hK => ?_; unfold a_e
      go_simp
      exact hK _ _ ⟨b_ _ _, fun V hV => ⟨s1, h1, s2, h2, rfl⟩⟩
    case dno17 =>
      refine a_Q k_ ?_; refine a_s CC.out fun L a W hf hc hL hn ht => ?_; obtain ⟨s1, h1, s2, h2, e1⟩ := ht 16 k_ 103 rfl W (CC.out.refl L _); have e1q := e1; simp only [Array.getD_eq_getD_getElem?] at e1q; refine a_e.veil fun K hK => ?_; unfold a_e
      go_simp
      exact hK _ _ ⟨(b_ _ _).alloc (l_ _) _, fun V hV => ⟨_, s1, s2, h1, h2, rfl, CC.out.keep L _ _ _ _ _ ⟨d_, d_⟩ hV (heap_alloc_new _ _)⟩⟩
    case dno18 =>
      intro L a W hf hc hL hp hn ht; have hSW := hc.1 hL; have hzz : ∀ j, L 18 = true → [5, 6, 9, 11, 14, 17].contains j = false := fun _ h => by rw [hL] at h; cases h
      obtain ⟨A', c', e1, ho⟩ := (ht 5 k_).2 (hzz _) 92 rfl W (CC.out.refl L _); obtain ⟨g2, s1, s2, h1, h2, e2, hg2⟩ := (ht 17 k_).2 (hzz _) 104 rfl W (CC.out.refl L _); refine f_4 _ _ 31 rfl 52 i2 _ 2 32 underlying31 hi' hz0' hz1' hz2' rfl d_ (g + 1) _ _ _ e1 ho g2 [str s1, str s2] e2 rfl hg2 c_ x_ o_ (by have := hSW.gat.2; omega) ?_; intro v' w' ho' hgr; obtain ⟨A3, c3, rfl⟩ := a_j ho'; refine q_5 ?_; intro hS'; refine ⟨⟨fun h => by simp [e_b] at h, fun _ => hS', fun _ => f_i hS' hC⟩, .inl rfl, fun _ V hV => ⟨A3, c3, (⟨s1, s2⟩ : Snp), rfl, ⟨d_g h1 (by simp [maxLen]), d_g h2 (by simp [maxLen])⟩, fun U hU hX => ?_⟩⟩; exact a_x (xs := m.defs.snps ++ [(⟨s1, s2⟩ : Snp)]) ((hin2.below i_i.kept hU).push (x := (⟨s1, s2⟩ : Snp)) (v := [str s1, str s2]) rfl (show i_i U ⟨s1, s2⟩ [str s1, str s2] from rfl)) (by simpa using (a_B.own ho' (fun _ _ _ _ => nXB d_ d_) (fun _ h => h) U (hV.trans hX)))
    case dno19 =>
      refine d_1 CC.out fun L a W hf hc ht => ?_; have e1 : a.tmps.getD 87 undef = (.pointer (some ⟨g, i * 8 + 2, none⟩)) := ht 0 k_ d_ 87 rfl W (CC.out.refl L _); refine a_e.veil fun K hK => ?_; unfold a_e
      go_simp
      exact d_d
    case dno20 =>
      refine d_1 CC.out fun L a W hf hc ht => ?_; have e1 : a.tmps.getD 106 undef = (.pointer (some ⟨g, i * 8 + 2, none⟩)) := ht 19 k_ d_ 106 rfl W (CC.out.refl L _); refine a_e.veil fun K hK => ?_; unfold a_e
      go_simp
      exact d_d
    case dno21 =>
      intro L a W hf hc hL hp hn ht; have hSW := hc.2.1 hL; obtain ⟨A3, c3, x, e1, hxk, hxr⟩ := (ht 18 k_).2 (fun _ => by decide) 105 rfl W (CC.out.refl L _); have hLz := (ht 18 k_).1; have e2 : a.tmps.getD 107 undef = .pointer (some ⟨g, i * 8 + 6, none⟩) := (ht 20 k_).2 (fun _ => by decide) 107 rfl W (CC.out.refl L _); have y : W.cell? ⟨g, i * 8 + 6, none⟩ = some (slV ad.n m.defs.snps.length) := (hSW.cell hC hi2 hR.at_ 6 d_).1; have y2 := (hSW.cell hC hi2 hR.at_ 6 d_).2; refine a_e.veil fun K hK => ?_; unfold a_e
      go_simp
      have hX' := hSW.keep (i * 8 + 6) (.slice A3 (m.defs.snps.length + 1) c3); have hB' := hSW.bel.setCell (p := ⟨g, i * 8 + 6, none⟩) hSW.gat.1 (.slice A3 (m.defs.snps.length + 1) c3); have hl9 : m.defs.snps.length + 1 = (m.defs.snps ++ [x]).length := by simp
      rw [hl9] at hX' hB' ⊢; have hfin := s_S hSW hC hi2 hR hbb (xs := m.defs.snps ++ [x]) (hxr _ hB' hX') (fun t ht => by rcases List.mem_append.1 ht with ht | ht; exact hR.ok.1.defs.snp t ht; rw [List.mem_singleton.1 ht]; exact hxk) m_; exact p_Q
    case dnhc0 => exact ⟨fun _ => hS.go (Below.drew (b_ _ _)), fun _ => hS.go (Below.drew (b_ _ _)), fun h => by cases h⟩
    case dnhend =>
      intro V W1 L hcs hall; simp only [c_V, List.setIfInBounds_toArray, List.set_cons_zero, List.set_cons_succ]
      go_wp2_with fail
      go_ret
      exact a_J (hcs.2.2 (hall 21 d_))
  have e3' : (q == 3) = false := beq_eq_false_iff_ne.2 e3
  by_cases e4 : q = 4
  · subst e4
    by_cases hz : m.defs.srcs.length = 0
    · rw [hz] at y3
      go_wp2_with fail
      exact _ap
    obtain ⟨x, r, hxr⟩ : ∃ x r, m.defs.srcs = x :: r := by
      cases h : m.defs.srcs with
      | nil => rw [h] at hz; exact absurd rfl hz
      | cons x r => exact ⟨x, r, rfl⟩
    obtain ⟨vs2, hin2, hrd2, hln2, hone2⟩ := b_j l_G hR.sl.hs
    obtain ⟨v, vr, rfl⟩ : ∃ v vr, vs2 = v :: vr := by
      cases vs2 with
      | nil => have := hin2.len; rw [hxr] at this; cases this
      | cons v vr => exact ⟨v, vr, rfl⟩
    refine r_l ?_; intro hv0; obtain ⟨p, pq, hp, hpq, rfl⟩ := hv0; refine q_L ?_; intro hxk i2 hi' hz0' hz1' hz2' hsb HR2 HX HX1; clear hxr; have hpos : (0 : Int) < (m.defs.srcs.length : Int) := by omega
    have hq9 := IntWalk.i64_in ((4 : Int) - 4) o_
    go_wp2_with (at_builtin; refine b_y _ rfl _ 28 rfl 57 i2 _ 7 112 underlying28 hi' hz0' hz1' hz2' rfl d_ ad.s.1 m.defs.srcs.length ad.s.2 _ rfl HR2.out hln2 hone2 x_ o_ ?_; intro A2 c2 w2 o2 hb2; obtain ⟨g2, rfl⟩ := d_2 o2 o_)
    refine n_g ?_; intro hg2 hB2; obtain ⟨sp, hh, _, hjoin⟩ := c_F (v := x.cells p pq) (r := vr.flatten) (by simpa using o2); refine (c_l w0.heap.size w0 w2 g2 x p pq (vr.flatten ++ sp) _ k hk0 hk1 hB2 (Nat.le_trans hS.bel.size hg2) hh (fun V hb => ⟨hp.below hb, hpq.below hb⟩) hxk).mono ?_; rintro e w3 ⟨rfl, x', vs', hw3, hl3, hx3, hf3, hbut, hB3⟩; refine q_F ?_; intro hS3 z3 d3 m0
    go_wp2_with fail
    go_ret
    refine r_9 ?_; intro hxr hl4
    have hk4 : KeepX XB w3 (w3.setCell ⟨g, i * 8 + 3, none⟩ (.slice (some ⟨g2, 0, none⟩) (x' :: r).length c2)) := KeepX.set fun o ho => by
      obtain ⟨_, h2⟩ := hS3.own
      rcases h2 with ⟨hn, _⟩ | ⟨g', cap, cur, hA, _, hh', _⟩
      · cases hn
      · injection hA with h1 _ _
        exact n_z
    refine q_W ?_; intro hB4 ho4; rw [hl4] at ho4 ⊢
    exact a_J (r_B hS3 hC hi2 hR hbb (xs := x' :: r) (a_x (vss := vs' :: vr) ⟨by have := hin2.len; rw [hxr] at this; simpa using this, fun t ht => by
        rcases List.mem_cons.1 ht with rfl | ht
        · exact hl3
        · exact hin2.row t (List.mem_cons_of_mem _ ht), fun j h h' => by
        match j with
        | 0 => exact hf3 _ hB4 hk4
        | j + 1 =>
          refine n_I ?_; intro h9; simp only [hxr, List.getElem_cons_succ] at h9 ⊢
          exact h_f.kept _ _ _ _ h9 hB4⟩ (by simpa using ho4)) (fun t ht => by
        rcases List.mem_cons.1 ht with rfl | ht
        · exact hx3
        · exact hR.ok.1.defs.src t (by rw [hxr]; exact List.mem_cons_of_mem _ ht)) (by rw [← hl4]; omega))
  have e4' : (q == 4) = false := beq_eq_false_iff_ne.2 e4
  by_cases e5 : q = 5
  · subst e5
    by_cases hz : m.defs.srcs.length = 0
    · rw [hz] at y3
      go_wp2_with fail
      exact _ap
    obtain ⟨x, r, hxr⟩ : ∃ x r, m.defs.srcs = x :: r := by
      cases h : m.defs.srcs with
      | nil => rw [h] at hz; exact absurd rfl hz
      | cons x r => exact ⟨x, r, rfl⟩
    obtain ⟨vs2, hin2, hrd2, hln2, hone2⟩ := b_j l_G hR.sl.hs
    obtain ⟨v, vr, rfl⟩ : ∃ v vr, vs2 = v :: vr := by
      cases vs2 with
      | nil => have := hin2.len; rw [hxr] at this; cases this
      | cons v vr => exact ⟨v, vr, rfl⟩
    refine r_l ?_; intro hv0; obtain ⟨p, pq, hp, hpq, rfl⟩ := hv0; refine q_L ?_; intro hxk i2 hi' hz0' hz1' hz2' hsb HR2 HX HX1; clear hxr; have hpos : (0 : Int) < (m.defs.srcs.length : Int) := by omega
    have hq9 := IntWalk.i64_in ((5 : Int) - 4) o_
    go_wp2_with (at_builtin; refine b_y _ rfl _ 28 rfl 57 i2 _ 7 112 underlying28 hi' hz0' hz1' hz2' rfl d_ ad.s.1 m.defs.srcs.length ad.s.2 _ rfl HR2.out hln2 hone2 x_ o_ ?_; intro A2 c2 w2 o2 hb2; obtain ⟨g2, rfl⟩ := d_2 o2 o_)
    refine n_g ?_; intro hg2 hB2; obtain ⟨sp, hh, _, hjoin⟩ := c_F (v := x.cells p pq) (r := vr.flatten) (by simpa using o2); refine (c_l w0.heap.size w0 w2 g2 x p pq (vr.flatten ++ sp) _ k hk0 hk1 hB2 (Nat.le_trans hS.bel.size hg2) hh (fun V hb => ⟨hp.below hb, hpq.below hb⟩) hxk).mono ?_; rintro e w3 ⟨rfl, x', vs', hw3, hl3, hx3, hf3, hbut, hB3⟩; refine q_F ?_; intro hS3 z3 d3 m0
    go_wp2_with fail
    go_ret
    refine r_9 ?_; intro hxr hl4
    have hk4 : KeepX XB w3 (w3.setCell ⟨g, i * 8 + 3, none⟩ (.slice (some ⟨g2, 0, none⟩) (x' :: r).length c2)) := KeepX.set fun o ho => by
      obtain ⟨_, h2⟩ := hS3.own
      rcases h2 with ⟨hn, _⟩ | ⟨g', cap, cur, hA, _, hh', _⟩
      · cases hn
      · injection hA with h1 _ _
        exact n_z
    refine q_W ?_; intro hB4 ho4; rw [hl4] at ho4 ⊢
    exact a_J (r_B hS3 hC hi2 hR hbb (xs := x' :: r) (a_x (vss := vs' :: vr) ⟨by have := hin2.len; rw [hxr] at this; simpa using this, fun t ht => by
        rcases List.mem_cons.1 ht with rfl | ht
        · exact hl3
        · exact hin2.row t (List.mem_cons_of_mem _ ht), fun j h h' => by
        match j with
        | 0 => exact hf3 _ hB4 hk4
        | j + 1 =>
          refine n_I ?_; intro h9; simp only [hxr, List.getElem_cons_succ] at h9 ⊢
          exact h_f.kept _ _ _ _ h9 hB4⟩ (by simpa using ho4)) (fun t ht => by
        rcases List.mem_cons.1 ht with rfl | ht
        · exact hx3
        · exact hR.ok.1.defs.src t (by rw [hxr]; exact List.mem_cons_of_mem _ ht)) (by rw [← hl4]; omega))
  have e5' : (q == 5) = false := beq_eq_false_iff_ne.2 e5
  by_cases e6 : q = 6
  · subst e6
    by_cases hz : m.defs.srcs.length = 0
    · rw [hz] at y3
      go_wp2_with fail
      exact _ap
    obtain ⟨x, r, hxr⟩ : ∃ x r, m.defs.srcs = x :: r := by
      cases h : m.defs.srcs with
      | nil => rw [h] at hz; exact absurd rfl hz
      | cons x r => exact ⟨x, r, rfl⟩
    obtain ⟨vs2, hin2, hrd2, hln2, hone2⟩ := b_j l_G hR.sl.hs
    obtain ⟨v, vr, rfl⟩ : ∃ v vr, vs2 = v :: vr := by
      cases vs2 with
      | nil => have := hin2.len; rw [hxr] at this; cases this
      | cons v vr => exact ⟨v, vr, rfl⟩
    refine r_l ?_; intro hv0; obtain ⟨p, pq, hp, hpq, rfl⟩ := hv0; refine q_L ?_; intro hxk i2 hi' hz0' hz1' hz2' hsb HR2 HX HX1; clear hxr; have hpos : (0 : Int) < (m.defs.srcs.length : Int) := by omega
    have hq9 := IntWalk.i64_in ((6 : Int) - 4) o_
    go_wp2_with (at_builtin; refine b_y _ rfl _ 28 rfl 57 i2 _ 7 112 underlying28 hi' hz0' hz1' hz2' rfl d_ ad.s.1 m.defs.srcs.length ad.s.2 _ rfl HR2.out hln2 hone2 x_ o_ ?_; intro A2 c2 w2 o2 hb2; obtain ⟨g2, rfl⟩ := d_2 o2 o_)
    refine n_g ?_; intro hg2 hB2; obtain ⟨sp, hh, _, hjoin⟩ := c_F (v := x.cells p pq) (r := vr.flatten) (by simpa using o2); refine (c_l w0.heap.size w0 w2 g2 x p pq (vr.flatten ++ sp) _ k hk0 hk1 hB2 (Nat.le_trans hS.bel.size hg2) hh (fun V hb => ⟨hp.below hb, hpq.below hb⟩) hxk).mono ?_; rintro e w3 ⟨rfl, x', vs', hw3, hl3, hx3, hf3, hbut, hB3⟩; refine q_F ?_; intro hS3 z3 d3 m0
    go_wp2_with fail
    go_ret
    refine r_9 ?_; intro hxr hl4
    have hk4 : KeepX XB w3 (w3.setCell ⟨g, i * 8 + 3, none⟩ (.slice (some ⟨g2, 0, none⟩) (x' :: r).length c2)) := KeepX.set fun o ho => by
      obtain ⟨_, h2⟩ := hS3.own
      rcases h2 with ⟨hn, _⟩ | ⟨g', cap, cur, hA, _, hh', _⟩
      · cases hn
      · injection hA with h1 _ _
        exact n_z
    refine q_W ?_; intro hB4 ho4; rw [hl4] at ho4 ⊢
    exact a_J (r_B hS3 hC hi2 hR hbb (xs := x' :: r) (a_x (vss := vs' :: vr) ⟨by have := hin2.len; rw [hxr] at this; simpa using this, fun t ht => by
        rcases List.mem_cons.1 ht with rfl | ht
        · exact hl3
        · exact hin2.row t (List.mem_cons_of_mem _ ht), fun j h h' => by
        match j with
        | 0 => exact hf3 _ hB4 hk4
        | j + 1 =>
          refine n_I ?_; intro h9; simp only [hxr, List.getElem_cons_succ] at h9 ⊢
          exact h_f.kept _ _ _ _ h9 hB4⟩ (by simpa using ho4)) (fun t ht => by
        rcases List.mem_cons.1 ht with rfl | ht
        · exact hx3
        · exact hR.ok.1.defs.src t (by rw [hxr]; exact List.mem_cons_of_mem _ ht)) (by rw [← hl4]; omega))
  have e6' : (q == 6) = false := beq_eq_false_iff_ne.2 e6
  by_cases e7 : q = 7
  · subst e7
    by_cases hz : m.defs.mdls.length = 0
    · rw [hz] at y5
      go_wp2_with fail
      exact _ap
    obtain ⟨x, r, hxr⟩ : ∃ x r, m.defs.mdls = x :: r := by
      cases h : m.defs.mdls with
      | nil => rw [h] at hz; exact absurd rfl hz
      | cons x r => exact ⟨x, r, rfl⟩
    obtain ⟨vs2, hin2, hrd2, hln2, hone2⟩ := b_j j_D hR.sl.hd
    obtain ⟨v, vr, rfl⟩ : ∃ v vr, vs2 = v :: vr := by
      cases vs2 with
      | nil => have := hin2.len; rw [hxr] at this; cases this
      | cons v vr => exact ⟨v, vr, rfl⟩
    refine q_l ?_; intro hv0; obtain ⟨p, pq, hp, hpq, rfl⟩ := hv0; refine p_V ?_; intro hxk i2 hi' hz0' hz1' hz2' hsb hxq HR2 HX HX1; clear hxr; refine q_i ?_; intro hpos; have hq9 := IntWalk.i64_in ((7 : Int) - 7) o_
    go_wp2_with (at_builtin; refine b_y _ rfl _ 30 rfl 62 i2 _ 8 128 underlying30 hi' hz0' hz1' hz2' rfl d_ ad.d.1 m.defs.mdls.length ad.d.2 _ rfl HR2.out hln2 hone2 x_ o_ ?_; intro A2 c2 w2 o2 hb2; obtain ⟨g2, rfl⟩ := d_2 o2 o_)
    refine n_g ?_; intro hg2 hB2; obtain ⟨sp, hh, _, hjoin⟩ := c_F (v := x.cells p pq) (r := vr.flatten) (by simpa using o2); refine (c_5 w0 w2 g2 x p pq (vr.flatten ++ sp) _ k hk0 hk1 hB2 (Nat.le_trans hS.bel.size hg2) hh ⟨hp, hpq⟩ hxk o_).mono ?_; rintro e w3 ⟨rfl, x', vs', hw3, hl3, hx3, hf3, hbut, hB3⟩; refine p_Y ?_; intro hS3 z5 d5 m0
    go_wp2_with fail
    go_ret
    refine p_X ?_; intro hxr hl4
    have hk4 : KeepX XB w3 (w3.setCell ⟨g, i * 8 + 5, none⟩ (.slice (some ⟨g2, 0, none⟩) (x' :: r).length c2)) := KeepX.set fun o ho => by
      obtain ⟨_, h2⟩ := hS3.own
      rcases h2 with ⟨hn, _⟩ | ⟨g', cap, cur, hA, _, hh', _⟩
      · cases hn
      · injection hA with h1 _ _
        exact n_z
    refine p_L ?_; intro hB4 ho4; rw [hl4] at ho4 ⊢
    exact a_J (q_f hS3 hC hi2 hR hbb (xs := x' :: r) (a_x (vss := vs' :: vr) ⟨by have := hin2.len; rw [hxr] at this; simpa using this, fun t ht => by
        rcases List.mem_cons.1 ht with rfl | ht
        · exact hl3
        · exact hin2.row t (List.mem_cons_of_mem _ ht), fun j h h' => by
        match j with
        | 0 => exact hf3 _ hB4 hk4
        | j + 1 =>
          refine n_I ?_; intro h9; simp only [hxr, List.getElem_cons_succ] at h9 ⊢
          exact f_I.kept _ _ _ _ h9 hB4⟩ (by simpa using ho4)) (fun t ht => by
        rcases List.mem_cons.1 ht with rfl | ht
        · exact hx3.1
        · exact hR.ok.1.defs.mdl t (by rw [hxr]; exact List.mem_cons_of_mem _ ht)) (by rw [← hl4]; omega) (fun t ht => by
        rcases List.mem_cons.1 ht with rfl | ht
        · have := hx3.2; omega
        · have := hR.ok.2.d.q t (by rw [hxr]; exact List.mem_cons_of_mem _ ht); omega))
  have e7' : (q == 7) = false := beq_eq_false_iff_ne.2 e7
  by_cases e8 : q = 8
  · subst e8
    by_cases hz : m.defs.mdls.length = 0
    · rw [hz] at y5
      go_wp2_with fail
      exact _ap
    obtain ⟨x, r, hxr⟩ : ∃ x r, m.defs.mdls = x :: r := by
      cases h : m.defs.mdls with
      | nil => rw [h] at hz; exact absurd rfl hz
      | cons x r => exact ⟨x, r, rfl⟩
    obtain ⟨vs2, hin2, hrd2, hln2, hone2⟩ := b_j j_D hR.sl.hd
    obtain ⟨v, vr, rfl⟩ : ∃ v vr, vs2 = v :: vr := by
      cases vs2 with
      | nil => have := hin2.len; rw [hxr] at this; cases this
      | cons v vr => exact ⟨v, vr, rfl⟩
    refine q_l ?_; intro hv0; obtain ⟨p, pq, hp, hpq, rfl⟩ := hv0; refine p_V ?_; intro hxk i2 hi' hz0' hz1' hz2' hsb hxq HR2 HX HX1; clear hxr; refine q_i ?_; intro hpos; have hq9 := IntWalk.i64_in ((8 : Int) - 7) o_
    go_wp2_with (at_builtin; refine b_y _ rfl _ 30 rfl 62 i2 _ 8 128 underlying30 hi' hz0' hz1' hz2' rfl d_ ad.d.1 m.defs.mdls.length ad.d.2 _ rfl HR2.out hln2 hone2 x_ o_ ?_; intro A2 c2 w2 o2 hb2; obtain ⟨g2, rfl⟩ := d_2 o2 o_)
    refine n_g ?_; intro hg2 hB2; obtain ⟨sp, hh, _, hjoin⟩ := c_F (v := x.cells p pq) (r := vr.flatten) (by simpa using o2); refine (c_5 w0 w2 g2 x p pq (vr.flatten ++ sp) _ k hk0 hk1 hB2 (Nat.le_trans hS.bel.size hg2) hh ⟨hp, hpq⟩ hxk o_).mono ?_; rintro e w3 ⟨rfl, x', vs', hw3, hl3, hx3, hf3, hbut, hB3⟩; refine p_Y ?_; intro hS3 z5 d5 m0
    go_wp2_with fail
    go_ret
    refine p_X ?_; intro hxr hl4
    have hk4 : KeepX XB w3 (w3.setCell ⟨g, i * 8 + 5, none⟩ (.slice (some ⟨g2, 0, none⟩) (x' :: r).length c2)) := KeepX.set fun o ho => by
      obtain ⟨_, h2⟩ := hS3.own
      rcases h2 with ⟨hn, _⟩ | ⟨g', cap, cur, hA, _, hh', _⟩
      · cases hn
      · injection hA with h1 _ _
        exact n_z
    refine p_L ?_; intro hB4 ho4; rw [hl4] at ho4 ⊢
    exact a_J (q_f hS3 hC hi2 hR hbb (xs := x' :: r) (a_x (vss := vs' :: vr) ⟨by have := hin2.len; rw [hxr] at this; simpa using this, fun t ht => by
        rcases List.mem_cons.1 ht with rfl | ht
        · exact hl3
        · exact hin2.row t (List.mem_cons_of_mem _ ht), fun j h h' => by
        match j with
        | 0 => exact hf3 _ hB4 hk4
        | j + 1 =>
          refine n_I ?_; intro h9; simp only [hxr, List.getElem_cons_succ] at h9 ⊢
          exact f_I.kept _ _ _ _ h9 hB4⟩ (by simpa using ho4)) (fun t ht => by
        rcases List.mem_cons.1 ht with rfl | ht
        · exact hx3.1
        · exact hR.ok.1.defs.mdl t (by rw [hxr]; exact List.mem_cons_of_mem _ ht)) (by rw [← hl4]; omega) (fun t ht => by
        rcases List.mem_cons.1 ht with rfl | ht
        · have := hx3.2; omega
        · have := hR.ok.2.d.q t (by rw [hxr]; exact List.mem_cons_of_mem _ ht); omega))
  have e8' : (q == 8) = false := beq_eq_false_iff_ne.2 e8
  by_cases e9 : q = 9
  · subst e9
    by_cases hz : m.defs.mdls.length = 0
    · rw [hz] at y5
      go_wp2_with fail
      exact _ap
    obtain ⟨x, r, hxr⟩ : ∃ x r, m.defs.mdls = x :: r := by
      cases h : m.defs.mdls with
      | nil => rw [h] at hz; exact absurd rfl hz
      | cons x r => exact ⟨x, r, rfl⟩
    obtain ⟨vs2, hin2, hrd2, hln2, hone2⟩ := b_j j_D hR.sl.hd
    obtain ⟨v, vr, rfl⟩ : ∃ v vr, vs2 = v :: vr := by
      cases vs2 with
      | nil => have := hin2.len; rw [hxr] at this; cases this
      | cons v vr => exact ⟨v, vr, rfl⟩
    refine q_l ?_; intro hv0; obtain ⟨p, pq, hp, hpq, rfl⟩ := hv0; refine p_V ?_; intro hxk i2 hi' hz0' hz1' hz2' hsb hxq HR2 HX HX1; clear hxr; refine q_i ?_; intro hpos; have hq9 := IntWalk.i64_in ((9 : Int) - 7) o_
    go_wp2_with (at_builtin; refine b_y _ rfl _ 30 rfl 62 i2 _ 8 128 underlying30 hi' hz0' hz1' hz2' rfl d_ ad.d.1 m.defs.mdls.length ad.d.2 _ rfl HR2.out hln2 hone2 x_ o_ ?_; intro A2 c2 w2 o2 hb2; obtain ⟨g2, rfl⟩ := d_2 o2 o_)
    refine n_g ?_; intro hg2 hB2; obtain ⟨sp, hh, _, hjoin⟩ := c_F (v := x.cells p pq) (r := vr.flatten) (by simpa using o2); refine (c_5 w0 w2 g2 x p pq (vr.flatten ++ sp) _ k hk0 hk1 hB2 (Nat.le_trans hS.bel.size hg2) hh ⟨hp, hpq⟩ hxk o_).mono ?_; rintro e w3 ⟨rfl, x', vs', hw3, hl3, hx3, hf3, hbut, hB3⟩; refine p_Y ?_; intro hS3 z5 d5 m0
    go_wp2_with fail
    go_ret
    refine p_X ?_; intro hxr hl4
    have hk4 : KeepX XB w3 (w3.setCell ⟨g, i * 8 + 5, none⟩ (.slice (some ⟨g2, 0, none⟩) (x' :: r).length c2)) := KeepX.set fun o ho => by
      obtain ⟨_, h2⟩ := hS3.own
      rcases h2 with ⟨hn, _⟩ | ⟨g', cap, cur, hA, _, hh', _⟩
      · cases hn
      · injection hA with h1 _ _
        exact n_z
    refine p_L ?_; intro hB4 ho4; rw [hl4] at ho4 ⊢
    exact a_J (q_f hS3 hC hi2 hR hbb (xs := x' :: r) (a_x (vss := vs' :: vr) ⟨by have := hin2.len; rw [hxr] at this; simpa using this, fun t ht => by
        rcases List.mem_cons.1 ht with rfl | ht
        · exact hl3
        · exact hin2.row t (List.mem_cons_of_mem _ ht), fun j h h' => by
        match j with
        | 0 => exact hf3 _ hB4 hk4
        | j + 1 =>
          refine n_I ?_; intro h9; simp only [hxr, List.getElem_cons_succ] at h9 ⊢
          exact f_I.kept _ _ _ _ h9 hB4⟩ (by simpa using ho4)) (fun t ht => by
        rcases List.mem_cons.1 ht with rfl | ht
        · exact hx3.1
        · exact hR.ok.1.defs.mdl t (by rw [hxr]; exact List.mem_cons_of_mem _ ht)) (by rw [← hl4]; omega) (fun t ht => by
        rcases List.mem_cons.1 ht with rfl | ht
        · have := hx3.2; omega
        · have := hR.ok.2.d.q t (by rw [hxr]; exact List.mem_cons_of_mem _ ht); omega))
  have e9' : (q == 9) = false := beq_eq_false_iff_ne.2 e9
  by_cases e10 : q = 10
  · subst e10
    by_cases hz : m.defs.mdls.length = 0
    · rw [hz] at y5
      go_wp2_with fail
      exact _ap
    obtain ⟨x, r, hxr⟩ : ∃ x r, m.defs.mdls = x :: r := by
      cases h : m.defs.mdls with
      | nil => rw [h] at hz; exact absurd rfl hz
      | cons x r => exact ⟨x, r, rfl⟩
    obtain ⟨vs2, hin2, hrd2, hln2, hone2⟩ := b_j j_D hR.sl.hd
    obtain ⟨v, vr, rfl⟩ : ∃ v vr, vs2 = v :: vr := by
      cases vs2 with
      | nil => have := hin2.len; rw [hxr] at this; cases this
      | cons v vr => exact ⟨v, vr, rfl⟩
    refine q_l ?_; intro hv0; obtain ⟨p, pq, hp, hpq, rfl⟩ := hv0; refine p_V ?_; intro hxk i2 hi' hz0' hz1' hz2' hsb hxq HR2 HX HX1; clear hxr; refine q_i ?_; intro hpos; have hq9 := IntWalk.i64_in ((10 : Int) - 7) o_
    go_wp2_with (at_builtin; refine b_y _ rfl _ 30 rfl 62 i2 _ 8 128 underlying30 hi' hz0' hz1' hz2' rfl d_ ad.d.1 m.defs.mdls.length ad.d.2 _ rfl HR2.out hln2 hone2 x_ o_ ?_; intro A2 c2 w2 o2 hb2; obtain ⟨g2, rfl⟩ := d_2 o2 o_)
    refine n_g ?_; intro hg2 hB2; obtain ⟨sp, hh, _, hjoin⟩ := c_F (v := x.cells p pq) (r := vr.flatten) (by simpa using o2); refine (c_5 w0 w2 g2 x p pq (vr.flatten ++ sp) _ k hk0 hk1 hB2 (Nat.le_trans hS.bel.size hg2) hh ⟨hp, hpq⟩ hxk o_).mono ?_; rintro e w3 ⟨rfl, x', vs', hw3, hl3, hx3, hf3, hbut, hB3⟩; refine p_Y ?_; intro hS3 z5 d5 m0
    go_wp2_with fail
    go_ret
    refine p_X ?_; intro hxr hl4
    have hk4 : KeepX XB w3 (w3.setCell ⟨g, i * 8 + 5, none⟩ (.slice (some ⟨g2, 0, none⟩) (x' :: r).length c2)) := KeepX.set fun o ho => by
      obtain ⟨_, h2⟩ := hS3.own
      rcases h2 with ⟨hn, _⟩ | ⟨g', cap, cur, hA, _, hh', _⟩
      · cases hn
      · injection hA with h1 _ _
        exact n_z
    refine p_L ?_; intro hB4 ho4; rw [hl4] at ho4 ⊢
    exact a_J (q_f hS3 hC hi2 hR hbb (xs := x' :: r) (a_x (vss := vs' :: vr) ⟨by have := hin2.len; rw [hxr] at this; simpa using this, fun t ht => by
        rcases List.mem_cons.1 ht with rfl | ht
        · exact hl3
        · exact hin2.row t (List.mem_cons_of_mem _ ht), fun j h h' => by
        match j with
        | 0 => exact hf3 _ hB4 hk4
        | j + 1 =>
          refine n_I ?_; intro h9; simp only [hxr, List.getElem_cons_succ] at h9 ⊢
          exact f_I.kept _ _ _ _ h9 hB4⟩ (by simpa using ho4)) (fun t ht => by
        rcases List.mem_cons.1 ht with rfl | ht
        · exact hx3.1
        · exact hR.ok.1.defs.mdl t (by rw [hxr]; exact List.mem_cons_of_mem _ ht)) (by rw [← hl4]; omega) (fun t ht => by
        rcases List.mem_cons.1 ht with rfl | ht
        · have := hx3.2; omega
        · have := hR.ok.2.d.q t (by rw [hxr]; exact List.mem_cons_of_mem _ ht); omega))
  have e10' : (q == 10) = false := beq_eq_false_iff_ne.2 e10
  by_cases e11 : q = 11
  · subst e11
    refine n_9 ?_; intro vs2 hin2 hrd2 hln2 hone2 i2 hi' hz0' hz1' hz2' hsb HR2; have hq9 := IntWalk.i64_in ((11 : Int) - 11) o_
    go_wp2_with (at_builtin; refine b_y _ rfl _ 32 rfl 67 i2 _ 14 184 underlying32 hi' hz0' hz1' hz2' rfl d_ ad.c.1 m.defs.chks.length ad.c.2 _ rfl HR2.out hln2 hone2 x_ o_ ?_; intro A2 c2 w2 o2 hb2)
    refine (b_6 _ k hk0 hk1 w2).mono ?_; rintro e w3 ⟨⟨x, p, q', r, rfl, hxk, hxl⟩, hb3⟩; refine n_4 ?_; intro hs2 hs3
    go_wp2_with (at_builtin; refine wpList_append_own _ rfl _ _ 32 rfl w1.heap.size 67 i2 _ 14 184 underlying32 hi' hz0' hz1' hz2' rfl d_ _ _ _ rfl ((a_g o2 hb3).alloc _) ⟨w3.heap.size, 0, none⟩ 1 1 (x.cells p q' r) rfl rfl (by exact b_E (heap_alloc_new _ _)) (by simp [Chk.cells, Value.oneCell']) x_ o_ m_ ?_
                 intro v4 w4 o4 g4 _; obtain ⟨A4, c4, rfl⟩ := a_j o4; refine n_7 ?_; intro hb4 hS4 z7 d7
                 have m0 := hS4.gat.2)
    go_ret
    refine n_8 ?_; intro hl4 hk4 hB4 ho4; rw [hl4] at hk4 hB4 ho4 ⊢
    exact a_J (n_a hS4 hC hi2 hR hbb (xs := m.defs.chks ++ [x]) (a_x ((hin2.below f_h.kept hB4).push (v := x.cells p q' r) rfl (hxl _ hk4)) (by simpa using ho4)) (fun t ht => by
        rcases List.mem_append.1 ht with ht | ht
        · exact hR.ok.1.defs.chk t ht
        · rw [List.mem_singleton.1 ht]; exact hxk) (by rw [← hl4]; omega))
  have e11' : (q == 11) = false := beq_eq_false_iff_ne.2 e11
  by_cases e12 : q = 12
  · subst e12
    refine n_9 ?_; intro vs2 hin2 hrd2 hln2 hone2 i2 hi' hz0' hz1' hz2' hsb HR2; have hq9 := IntWalk.i64_in ((12 : Int) - 11) o_
    go_wp2_with (at_builtin; refine b_y _ rfl _ 32 rfl 67 i2 _ 14 184 underlying32 hi' hz0' hz1' hz2' rfl d_ ad.c.1 m.defs.chks.length ad.c.2 _ rfl HR2.out hln2 hone2 x_ o_ ?_; intro A2 c2 w2 o2 hb2)
    refine (b_6 _ k hk0 hk1 w2).mono ?_; rintro e w3 ⟨⟨x, p, q', r, rfl, hxk, hxl⟩, hb3⟩; refine n_4 ?_; intro hs2 hs3
    go_wp2_with (at_builtin; refine wpList_append_own _ rfl _ _ 32 rfl w1.heap.size 67 i2 _ 14 184 underlying32 hi' hz0' hz1' hz2' rfl d_ _ _ _ rfl ((a_g o2 hb3).alloc _) ⟨w3.heap.size, 0, none⟩ 1 1 (x.cells p q' r) rfl rfl (by exact b_E (heap_alloc_new _ _)) (by simp [Chk.cells, Value.oneCell']) x_ o_ m_ ?_
                 intro v4 w4 o4 g4 _; obtain ⟨A4, c4, rfl⟩ := a_j o4; refine n_7 ?_; intro hb4 hS4 z7 d7
                 have m0 := hS4.gat.2)
    go_ret
    refine n_8 ?_; intro hl4 hk4 hB4 ho4; rw [hl4] at hk4 hB4 ho4 ⊢
    exact a_J (n_a hS4 hC hi2 hR hbb (xs := m.defs.chks ++ [x]) (a_x ((hin2.below f_h.kept hB4).push (v := x.cells p q' r) rfl (hxl _ hk4)) (by simpa using ho4)) (fun t ht => by
        rcases List.mem_append.1 ht with ht | ht
        · exact hR.ok.1.defs.chk t ht
        · rw [List.mem_singleton.1 ht]; exact hxk) (by rw [← hl4]; omega))
  have e12' : (q == 12) = false := beq_eq_false_iff_ne.2 e12
  by_cases e13 : q = 13
  · subst e13
    refine n_9 ?_; intro vs2 hin2 hrd2 hln2 hone2 i2 hi' hz0' hz1' hz2' hsb HR2; have hq9 := IntWalk.i64_in ((13 : Int) - 11) o_
    go_wp2_with (at_builtin; refine b_y _ rfl _ 32 rfl 67 i2 _ 14 184 underlying32 hi' hz0' hz1' hz2' rfl d_ ad.c.1 m.defs.chks.length ad.c.2 _ rfl HR2.out hln2 hone2 x_ o_ ?_; intro A2 c2 w2 o2 hb2)
    refine (b_6 _ k hk0 hk1 w2).mono ?_; rintro e w3 ⟨⟨x, p, q', r, rfl, hxk, hxl⟩, hb3⟩; refine n_4 ?_; intro hs2 hs3
    go_wp2_with (at_builtin; refine wpList_append_own _ rfl _ _ 32 rfl w1.heap.size 67 i2 _ 14 184 underlying32 hi' hz0' hz1' hz2' rfl d_ _ _ _ rfl ((a_g o2 hb3).alloc _) ⟨w3.heap.size, 0, none⟩ 1 1 (x.cells p q' r) rfl rfl (by exact b_E (heap_alloc_new _ _)) (by simp [Chk.cells, Value.oneCell']) x_ o_ m_ ?_
                 intro v4 w4 o4 g4 _; obtain ⟨A4, c4, rfl⟩ := a_j o4; refine n_7 ?_; intro hb4 hS4 z7 d7
                 have m0 := hS4.gat.2)
    go_ret
    refine n_8 ?_; intro hl4 hk4 hB4 ho4; rw [hl4] at hk4 hB4 ho4 ⊢
    exact a_J (n_a hS4 hC hi2 hR hbb (xs := m.defs.chks ++ [x]) (a_x ((hin2.below f_h.kept hB4).push (v := x.cells p q' r) rfl (hxl _ hk4)) (by simpa using ho4)) (fun t ht => by
        rcases List.mem_append.1 ht with ht | ht
        · exact hR.ok.1.defs.chk t ht
        · rw [List.mem_singleton.1 ht]; exact hxk) (by rw [← hl4]; omega))
  have e13' : (q == 13) = false := beq_eq_false_iff_ne.2 e13
  by_cases e14 : q = 14
  · subst e14
    refine n_9 ?_; intro vs2 hin2 hrd2 hln2 hone2 i2 hi' hz0' hz1' hz2' hsb HR2; have hq9 := IntWalk.i64_in ((14 : Int) - 11) o_
    go_wp2_with (at_builtin; refine b_y _ rfl _ 32 rfl 67 i2 _ 14 184 underlying32 hi' hz0' hz1' hz2' rfl d_ ad.c.1 m.defs.chks.length ad.c.2 _ rfl HR2.out hln2 hone2 x_ o_ ?_; intro A2 c2 w2 o2 hb2)
    refine (b_6 _ k hk0 hk1 w2).mono ?_; rintro e w3 ⟨⟨x, p, q', r, rfl, hxk, hxl⟩, hb3⟩; refine n_4 ?_; intro hs2 hs3
    go_wp2_with (at_builtin; refine wpList_append_own _ rfl _ _ 32 rfl w1.heap.size 67 i2 _ 14 184 underlying32 hi' hz0' hz1' hz2' rfl d_ _ _ _ rfl ((a_g o2 hb3).alloc _) ⟨w3.heap.size, 0, none⟩ 1 1 (x.cells p q' r) rfl rfl (by exact b_E (heap_alloc_new _ _)) (by simp [Chk.cells, Value.oneCell']) x_ o_ m_ ?_
                 intro v4 w4 o4 g4 _; obtain ⟨A4, c4, rfl⟩ := a_j o4; refine n_7 ?_; intro hb4 hS4 z7 d7
                 have m0 := hS4.gat.2)
    go_ret
    refine n_8 ?_; intro hl4 hk4 hB4 ho4; rw [hl4] at hk4 hB4 ho4 ⊢
    exact a_J (n_a hS4 hC hi2 hR hbb (xs := m.defs.chks ++ [x]) (a_x ((hin2.below f_h.kept hB4).push (v := x.cells p q' r) rfl (hxl _ hk4)) (by simpa using ho4)) (fun t ht => by
        rcases List.mem_append.1 ht with ht | ht
        · exact hR.ok.1.defs.chk t ht
        · rw [List.mem_singleton.1 ht]; exact hxk) (by rw [← hl4]; omega))
  have e14' : (q == 14) = false := beq_eq_false_iff_ne.2 e14
  by_cases e15 : q = 15
  · subst e15
    refine n_9 ?_; intro vs2 hin2 hrd2 hln2 hone2 i2 hi' hz0' hz1' hz2' hsb HR2; have hq9 := IntWalk.i64_in ((15 : Int) - 11) o_
    go_wp2_with (at_builtin; refine b_y _ rfl _ 32 rfl 67 i2 _ 14 184 underlying32 hi' hz0' hz1' hz2' rfl d_ ad.c.1 m.defs.chks.length ad.c.2 _ rfl HR2.out hln2 hone2 x_ o_ ?_; intro A2 c2 w2 o2 hb2)
    refine (b_6 _ k hk0 hk1 w2).mono ?_; rintro e w3 ⟨⟨x, p, q', r, rfl, hxk, hxl⟩, hb3⟩; refine n_4 ?_; intro hs2 hs3
    go_wp2_with (at_builtin; refine wpList_append_own _ rfl _ _ 32 rfl w1.heap.size 67 i2 _ 14 184 underlying32 hi' hz0' hz1' hz2' rfl d_ _ _ _ rfl ((a_g o2 hb3).alloc _) ⟨w3.heap.size, 0, none⟩ 1 1 (x.cells p q' r) rfl rfl (by exact b_E (heap_alloc_new _ _)) (by simp [Chk.cells, Value.oneCell']) x_ o_ m_ ?_
                 intro v4 w4 o4 g4 _; obtain ⟨A4, c4, rfl⟩ := a_j o4; refine n_7 ?_; intro hb4 hS4 z7 d7
                 have m0 := hS4.gat.2)
    go_ret
    refine n_8 ?_; intro hl4 hk4 hB4 ho4; rw [hl4] at hk4 hB4 ho4 ⊢
    exact a_J (n_a hS4 hC hi2 hR hbb (xs := m.defs.chks ++ [x]) (a_x ((hin2.below f_h.kept hB4).push (v := x.cells p q' r) rfl (hxl _ hk4)) (by simpa using ho4)) (fun t ht => by
        rcases List.mem_append.1 ht with ht | ht
        · exact hR.ok.1.defs.chk t ht
        · rw [List.mem_singleton.1 ht]; exact hxk) (by rw [← hl4]; omega))
  have e15' : (q == 15) = false := beq_eq_false_iff_ne.2 e15
  by_cases e16 : q = 16
  · subst e16
    refine n_9 ?_; intro vs2 hin2 hrd2 hln2 hone2 i2 hi' hz0' hz1' hz2' hsb HR2; have hq9 := IntWalk.i64_in ((16 : Int) - 11) o_
    go_wp2_with (at_builtin; refine b_y _ rfl _ 32 rfl 67 i2 _ 14 184 underlying32 hi' hz0' hz1' hz2' rfl d_ ad.c.1 m.defs.chks.length ad.c.2 _ rfl HR2.out hln2 hone2 x_ o_ ?_; intro A2 c2 w2 o2 hb2)
    refine (b_6 _ k hk0 hk1 w2).mono ?_; rintro e w3 ⟨⟨x, p, q', r, rfl, hxk, hxl⟩, hb3⟩; refine n_4 ?_; intro hs2 hs3
    go_wp2_with (at_builtin; refine wpList_append_own _ rfl _ _ 32 rfl w1.heap.size 67 i2 _ 14 184 underlying32 hi' hz0' hz1' hz2' rfl d_ _ _ _ rfl ((a_g o2 hb3).alloc _) ⟨w3.heap.size, 0, none⟩ 1 1 (x.cells p q' r) rfl rfl (by exact b_E (heap_alloc_new _ _)) (by simp [Chk.cells, Value.oneCell']) x_ o_ m_ ?_
                 intro v4 w4 o4 g4 _; obtain ⟨A4, c4, rfl⟩ := a_j o4; refine n_7 ?_; intro hb4 hS4 z7 d7
                 have m0 := hS4.gat.2)
    go_ret
    refine n_8 ?_; intro hl4 hk4 hB4 ho4; rw [hl4] at hk4 hB4 ho4 ⊢
    exact a_J (n_a hS4 hC hi2 hR hbb (xs := m.defs.chks ++ [x]) (a_x ((hin2.below f_h.kept hB4).push (v := x.cells p q' r) rfl (hxl _ hk4)) (by simpa using ho4)) (fun t ht => by
        rcases List.mem_append.1 ht with ht | ht
        · exact hR.ok.1.defs.chk t ht
        · rw [List.mem_singleton.1 ht]; exact hxk) (by rw [← hl4]; omega))
  have e16' : (q == 16) = false := beq_eq_false_iff_ne.2 e16
  by_cases e17 : q = 17
  · subst e17
    refine n_9 ?_; intro vs2 hin2 hrd2 hln2 hone2 i2 hi' hz0' hz1' hz2' hsb HR2; have hq9 := IntWalk.i64_in ((17 : Int) - 11) o_
    go_wp2_with (at_builtin; refine b_y _ rfl _ 32 rfl 67 i2 _ 14 184 underlying32 hi' hz0' hz1' hz2' rfl d_ ad.c.1 m.defs.chks.length ad.c.2 _ rfl HR2.out hln2 hone2 x_ o_ ?_; intro A2 c2 w2 o2 hb2)
    refine (b_6 _ k hk0 hk1 w2).mono ?_; rintro e w3 ⟨⟨x, p, q', r, rfl, hxk, hxl⟩, hb3⟩; refine n_4 ?_; intro hs2 hs3
    go_wp2_with (at_builtin; refine wpList_append_own _ rfl _ _ 32 rfl w1.heap.size 67 i2 _ 14 184 underlying32 hi' hz0' hz1' hz2' rfl d_ _ _ _ rfl ((a_g o2 hb3).alloc _) ⟨w3.heap.size, 0, none⟩ 1 1 (x.cells p q' r) rfl rfl (by exact b_E (heap_alloc_new _ _)) (by simp [Chk.cells, Value.oneCell']) x_ o_ m_ ?_
                 intro v4 w4 o4 g4 _; obtain ⟨A4, c4, rfl⟩ := a_j o4; refine n_7 ?_; intro hb4 hS4 z7 d7
                 have m0 := hS4.gat.2)
    go_ret
    refine n_8 ?_; intro hl4 hk4 hB4 ho4; rw [hl4] at hk4 hB4 ho4 ⊢
    exact a_J (n_a hS4 hC hi2 hR hbb (xs := m.defs.chks ++ [x]) (a_x ((hin2.below f_h.kept hB4).push (v := x.cells p q' r) rfl (hxl _ hk4)) (by simpa using ho4)) (fun t ht => by
        rcases List.mem_append.1 ht with ht | ht
        · exact hR.ok.1.defs.chk t ht
        · rw [List.mem_singleton.1 ht]; exact hxk) (by rw [← hl4]; omega))
  have e17' : (q == 17) = false := beq_eq_false_iff_ne.2 e17
  by_cases e18 : q = 18
  · subst e18
    refine n_9 ?_; intro vs2 hin2 hrd2 hln2 hone2 i2 hi' hz0' hz1' hz2' hsb HR2; have hq9 := IntWalk.i64_in ((18 : Int) - 11) o_
    go_wp2_with (at_builtin; refine b_y _ rfl _ 32 rfl 67 i2 _ 14 184 underlying32 hi' hz0' hz1' hz2' rfl d_ ad.c.1 m.defs.chks.length ad.c.2 _ rfl HR2.out hln2 hone2 x_ o_ ?_; intro A2 c2 w2 o2 hb2)
    refine (b_6 _ k hk0 hk1 w2).mono ?_; rintro e w3 ⟨⟨x, p, q', r, rfl, hxk, hxl⟩, hb3⟩; refine n_4 ?_; intro hs2 hs3
    go_wp2_with (at_builtin; refine wpList_append_own _ rfl _ _ 32 rfl w1.heap.size 67 i2 _ 14 184 underlying32 hi' hz0' hz1' hz2' rfl d_ _ _ _ rfl ((a_g o2 hb3).alloc _) ⟨w3.heap.size, 0, none⟩ 1 1 (x.cells p q' r) rfl rfl (by exact b_E (heap_alloc_new _ _)) (by simp [Chk.cells, Value.oneCell']) x_ o_ m_ ?_
                 intro v4 w4 o4 g4 _; obtain ⟨A4, c4, rfl⟩ := a_j o4; refine n_7 ?_; intro hb4 hS4 z7 d7
                 have m0 := hS4.gat.2)
    go_ret
    refine n_8 ?_; intro hl4 hk4 hB4 ho4; rw [hl4] at hk4 hB4 ho4 ⊢
    exact a_J (n_a hS4 hC hi2 hR hbb (xs := m.defs.chks ++ [x]) (a_x ((hin2.below f_h.kept hB4).push (v := x.cells p q' r) rfl (hxl _ hk4)) (by simpa using ho4)) (fun t ht => by
        rcases List.mem_append.1 ht with ht | ht
        · exact hR.ok.1.defs.chk t ht
        · rw [List.mem_singleton.1 ht]; exact hxk) (by rw [← hl4]; omega))
  have e18' : (q == 18) = false := beq_eq_false_iff_ne.2 e18
  by_cases e19 : q = 19
  · subst e19
    obtain ⟨vs2, hin2, hrd2, hln2, hone2⟩ := b_j p_w hR.sl.hm; obtain ⟨i2, hi', hz0', hz1', hz2'⟩ := info_parts Tryz.info_mac; have hsb := hR.ok.2.d.m; have CC := a_2 (j_w (g := g) (c := c1) hC (z := 19) (s := 22))
    go_upto_region 42 with fail
    refine c_8 (H := fun _ => KeepX XB) (C := CS w0 b ms vss g c1 19 22) (R := fun i9 => match i9 with
      | 0 => vC (.pointer (some ⟨g, i * 8 + 2, none⟩))
      | 1 => vC (.pointer (some ⟨g, i * 8 + 2, none⟩))
      | 2 => vC (.pointer (some ⟨g, i * 8 + 2, none⟩))
      | 3 => vC (.pointer (some ⟨g, i * 8 + 4, none⟩))
      | 4 => vC (slV ad.m m.defs.macs.length)
      | 5 => vO 74 3 m.defs.macs.length (g + 1) vs2.flatten
      | 6 => vS [ [102], [105, 102], [104]]
      | 7 => vC (.int .i64 k)
      | 8 => vI 0 2
      | 9 => vP [ [102], [105, 102], [104]]
      | 10 => vT [ [102], [105, 102], [104]]
      | 11 => vS [ [120], [121], [120]]
      | 12 => vC (.int .i64 k)
      | 13 => vI 0 3
      | 14 => (fun W v => ∃ (g3 m9 : Nat), v = .slice (some ⟨g3, 0, none⟩) m9 3 ∧ m9 ≤ 3 ∧ W.heap[g3]? = some (.cells #[str [120], str [121], str [120]] 9))
      | 15 => vC (.agg #[.int .i64 1, .int .i64 0, .int .i64 0, str [], str [121], .int .i64 0])
      | 16 => vB 72 (a_D [⟨1, vl0, [121], 0⟩])
      | 17 => (fun W v => ∃ (x : Mac) (vs : List Value), v = .agg vs.toArray ∧ x.ok ∧ a_B (XU 74) (fun V => f_J V x vs) W)
      | 18 => (fun W v => ∃ (g2 : Nat) (x : Mac) (us : List Value), v = .slice (some ⟨g2, 0, none⟩) 1 1 ∧ W.heap[g2]? = some (.cells us.toArray 74) ∧ us.length = 1 * 3 ∧ (∀ y ∈ us, y.oneCell' = true) ∧ x.ok ∧ a_B (XU 74) (fun V => f_J V x us) W)
      | 19 => (fun W v => ∃ (A : Option Addr) (c : Nat) (x : Mac), v = .slice A (m.defs.macs.length + 1) c ∧ x.ok ∧ ∀ V, Below w0.heap.size w0 V → KeepX XB W V → a_l 3 f_J V A (m.defs.macs ++ [x]))
      | 20 => vC (.pointer (some ⟨g, i * 8 + 2, none⟩))
      | 21 => vC (.pointer (some ⟨g, i * 8 + 4, none⟩))
      | _ => fun _ _ => True) 19 [18, 17, 10, 14, 16, 9, 11, 13, 15, 6, 8, 12, 7, 5, 4, 3, 2, 1] [5, 6, 9, 11, 14, 16, 17, 18] (fun _ _ _ _ _ h k => h.trans k) (fun _ w => KeepX.refl _ w) (fun j hz hd W W' v h => by
        match j, hz, hd, h with
        | 0, _, _, h => exact h
        | 1, _, _, h => exact h
        | 2, _, _, h => exact h
        | 3, _, _, h => exact h
        | 4, _, _, h => exact h
        | 5, _, hd, _ => exact absurd hd d_
        | 6, _, hd, _ => exact absurd hd d_
        | 7, _, _, h => exact h
        | 8, _, _, h => exact h
        | 9, _, hd, _ => exact absurd hd d_
        | 10, _, _, h => exact h
        | 11, _, hd, _ => exact absurd hd d_
        | 12, _, _, h => exact h
        | 13, _, _, h => exact h
        | 14, _, hd, _ => exact absurd hd d_
        | 15, _, _, h => exact h
        | 16, _, hd, _ => exact absurd hd d_
        | 17, _, hd, _ => exact absurd hd d_
        | 18, _, hd, _ => exact absurd hd d_
        | 19, hz, _, _ => exact absurd rfl hz
        | 20, _, _, h => exact h
        | 21, _, _, h => exact h
        | 22, _, _, h => exact h
        | _ + 23, _, _, h => exact h) d_ k_ rfl k_ ?dmhc0 (c_a.all ?dmhop) ?dmhend
    case' dmhop => refine ⟨?dmo0, ?dmo1, ?dmo2, ?dmo3, ?dmo4, ?dmo5, ?dmo6, ?dmo7, ?dmo8, ?dmo9, ?dmo10, ?dmo11, ?dmo12, ?dmo13, ?dmo14, ?dmo15, ?dmo16, ?dmo17, ?dmo18, ?dmo19, ?dmo20, ?dmo21, ?dmo22, trivial⟩
    case dmo0 =>
      exact o_I
    case dmo1 =>
      exact o_I
    case dmo2 =>
      refine a_Q k_ ?_; refine a_s CC.out fun L a W hf hc hL hn ht => ?_; have e1 : a.tmps.getD 192 undef = (.pointer (some ⟨g, i * 8 + 2, none⟩)) := ht 1 k_ 192 rfl W (CC.out.refl L _); refine a_e.veil fun K hK => ?_; unfold a_e
      go_simp
      exact d_d
    case dmo3 =>
      refine a_Q k_ ?_; refine a_s CC.out fun L a W hf hc hL hn ht => ?_; have e1 : a.tmps.getD 193 undef = (.pointer (some ⟨g, i * 8 + 2, none⟩)) := ht 2 k_ 193 rfl W (CC.out.refl L _); refine a_e.veil fun K hK => ?_; unfold a_e
      go_simp
      exact d_d
    case dmo4 =>
      refine d_E CC.out d_ fun L a W hf hc hL ht => ?_; have e1 : a.tmps.getD 194 undef = (.pointer (some ⟨g, i * 8 + 4, none⟩)) := ht 3 k_ 194 rfl W (CC.out.refl L _); have y := ((hc.1 hL).cell hC hi2 hR.at_ 4 d_).1; have y2 : W.cell? ⟨g, i * 8 + 4, none⟩ = some (slV ad.m m.defs.macs.length) := y; clear y; refine a_e.veil fun K hK => ?_; unfold a_e
      go_simp
      exact d_d
    case dmo5 =>
      refine d_E CC.out d_ fun L a W hf hc hL ht => ?_; have e1 : a.tmps.getD 195 undef = (slV ad.m m.defs.macs.length) := ht 4 k_ 195 rfl W (CC.out.refl L _); refine e_4 _ 29 rfl 74 i2 _ 3 64 underlying29 hi' hz0' hz1' hz2' rfl d_ ad.m.1 m.defs.macs.length ad.m.2 vs2.flatten e1 (hrd2.below (hc.1 hL).bel) hln2 hone2 x_ o_ ?_; intro A' c' w' ho hb; exact q_c
    case dmo6 =>
      refine a_Q k_ ?_; exact _am
    case dmo7 =>
      exact o_b
    case dmo8 =>
      refine a_Q k_ ?_; exact d_5 CC.out (lo := 0) (hi := 15) (fun n => n.tmod 3) 7 198 (fun a w n e n0 n1 => by go_simp) (fun n n0 n1 => ⟨by rw [Int.tmod_eq_emod_of_nonneg n0]; omega, by rw [Int.tmod_eq_emod_of_nonneg n0]; omega⟩) k_ rfl (fun _ _ h => e_n ⟨hk0, hk1⟩ _ _ h) rfl
    case dmo9 =>
      refine a_Q k_ ?_; exact b_V CC.out (⟨d_, d_⟩) _ 6 197 8 199 rfl k_ k_ rfl rfl rfl (fun _ _ h => h) rfl
    case dmo10 =>
      refine a_Q k_ ?_; exact c_u CC.out _ 9 200 rfl k_ rfl rfl rfl
    case dmo11 =>
      refine a_Q k_ ?_; exact _am
    case dmo12 =>
      exact o_b
    case dmo13 =>
      refine a_Q k_ ?_; refine a_s CC.out fun L a W hf hc hL hn ht => ?_; have e1 : a.tmps.getD 203 undef = (.int .i64 k) := ht 12 k_ 203 rfl W (CC.out.refl L _); refine p_G ?_; intro hm hm2; refine a_e.veil fun K hK => ?_; unfold a_e
      go_simp
      exact p_M
    case dmo14 =>
      refine a_Q k_ ?_; refine a_s CC.out fun L a W hf hc hL hn ht => ?_; obtain ⟨g3, e1, hg3⟩ := ht 11 k_ 202 rfl W (CC.out.refl L _); obtain ⟨n9, e2, n0, n1⟩ := ht 13 k_ 204 rfl W (CC.out.refl L _); obtain ⟨m9, rfl⟩ := Int.eq_ofNat_of_zero_le n0; have e1 : a.tmps.getD 202 undef = .slice (some ⟨g3, 0, none⟩) 3 3 := e1; refine a_e.veil fun K hK => ?_; unfold a_e
      go_simp
      exact hK _ _ ⟨b_ _ _, fun V hV => ⟨g3, m9, rfl, o_, CC.out.keep L _ _ _ _ _ ⟨d_, d_⟩ hV hg3⟩⟩
    case dmo15 =>
      refine a_Q k_ ?_; refine a_s CC.out fun L a W hf hc hL hn ht => ?_; refine a_e.veil fun K hK => ?_; unfold a_e
      go_simp
      exact d_d
    case dmo16 =>
      refine a_Q k_ ?_; refine a_s CC.out fun L a W hf hc hL hn ht => ?_; have e1 : a.tmps.getD 206 undef = (.agg #[.int .i64 1, .int .i64 0, .int .i64 0, str [], str [121], .int .i64 0]) := ht 15 k_ 206 rfl W (CC.out.refl L _); have e1q := e1; simp only [Array.getD_eq_getD_getElem?] at e1q; refine a_e.veil fun K hK => ?_; unfold a_e
      go_simp
      exact q_j
    case dmo17 =>
      refine a_Q k_ ?_; refine a_s CC.out fun L a W hf hc hL hn ht => ?_; obtain ⟨s, hs, e1⟩ := ht 10 k_ 201 rfl W (CC.out.refl L _); obtain ⟨g3, m9, e2, hm9, hg3⟩ := ht 14 k_ 205 rfl W (CC.out.refl L _); obtain ⟨g4, e3, hg4⟩ := ht 16 k_ 207 rfl W (CC.out.refl L _); have e1q := e1; have e2q := e2; have e3q := e3; simp only [Array.getD_eq_getD_getElem?] at e1q e2q e3q; obtain ⟨ls, rfl, hls, hN⟩ := m_6 (T := 74) hg3 hm9; have hs2 := d_g hs (by simp [maxLen]); refine a_e.veil fun K hK => ?_; unfold a_e
      go_simp
      exact hK _ _ ⟨b_ _ _, fun V hV => ⟨⟨s, ls, [⟨1, vl0, [121], 0⟩]⟩, _, rfl, ⟨hs2, by show ls.length ≤ _; omega, s_, by intro n hn; rw [List.mem_singleton.1 hn]; simp [maxLen]⟩, ((hN.and (h_C (X := XU 74) (es := [⟨1, vl0, [121], 0⟩]) hg4 (nXU d_ d_ d_))).go (m_S hV)).mono fun U h => ⟨(some ⟨g3, 0, none⟩, 3), (some ⟨g4, 0, none⟩, 1), h.1, h.2, rfl⟩⟩⟩
    case dmo18 =>
      refine a_Q k_ ?_; refine a_s CC.out fun L a W hf hc hL hn ht => ?_; obtain ⟨x, vs, e1, x1, x2⟩ := ht 17 k_ 208 rfl W (CC.out.refl L _); obtain ⟨p1, p2, _, _, hv9⟩ := x2.now; have x3 := x2; rw [hv9] at e1 x3; clear x2; have e1q := e1; simp only [Array.getD_eq_getD_getElem?] at e1q; refine a_e.veil fun K hK => ?_; unfold a_e
      go_simp
      exact hK _ _ ⟨(b_ _ _).alloc (l_ _) _, fun V hV => ⟨_, x, x.cells p1 p2, rfl, CC.out.keep L _ _ _ _ _ ⟨d_, d_⟩ hV (heap_alloc_new _ _), rfl, by simp [Mac.cells, Value.oneCell'], x1, x3.go ((KeepX.of ((b_ _ _).alloc (l_ _) _)).trans (m_S hV))⟩⟩
    case dmo19 =>
      intro L a W hf hc hL hp hn ht; have hSW := hc.1 hL; have hzz : ∀ j, L 19 = true → [5, 6, 9, 11, 14, 16, 17, 18].contains j = false := fun _ h => by rw [hL] at h; cases h
      obtain ⟨A', c', e1, ho⟩ := (ht 5 k_).2 (hzz _) 196 rfl W (CC.out.refl L _); obtain ⟨g2, x, us, e2, hg2, hul, ho9, hxk9, hxl9⟩ := (ht 18 k_).2 (hzz _) 209 rfl W (CC.out.refl L _); refine f_4 _ _ 29 rfl 74 i2 _ 3 64 underlying29 hi' hz0' hz1' hz2' rfl d_ (g + 1) _ _ _ e1 ho g2 us e2 hul hg2 ho9 x_ o_ (by have := hSW.gat.2; omega) ?_; intro v' w' ho' hgr; obtain ⟨A3, c3, rfl⟩ := a_j ho'; refine q_5 ?_; intro hS'; refine ⟨⟨fun h => by simp [e_b] at h, fun _ => hS', fun _ => f_i hS' hC⟩, .inl rfl, fun _ V hV => ⟨A3, c3, x, rfl, hxk9, fun U hU hX => ?_⟩⟩; exact a_x (xs := m.defs.macs ++ [x]) ((hin2.below f_J.kept hU).push (x := x) (v := us) hul (hxl9 _ ((j_8 ho hgr).trans ((m_S hV).trans (m_S hX))))) (by simpa using (a_B.own ho' (fun _ _ _ _ => nXB d_ d_) (fun _ h => h) U (hV.trans hX)))
    case dmo20 =>
      refine d_1 CC.out fun L a W hf hc ht => ?_; have e1 : a.tmps.getD 191 undef = (.pointer (some ⟨g, i * 8 + 2, none⟩)) := ht 0 k_ d_ 191 rfl W (CC.out.refl L _); refine a_e.veil fun K hK => ?_; unfold a_e
      go_simp
      exact d_d
    case dmo21 =>
      refine d_1 CC.out fun L a W hf hc ht => ?_; have e1 : a.tmps.getD 211 undef = (.pointer (some ⟨g, i * 8 + 2, none⟩)) := ht 20 k_ d_ 211 rfl W (CC.out.refl L _); refine a_e.veil fun K hK => ?_; unfold a_e
      go_simp
      exact d_d
    case dmo22 =>
      intro L a W hf hc hL hp hn ht; have hSW := hc.2.1 hL; obtain ⟨A3, c3, x, e1, hxk, hxr⟩ := (ht 19 k_).2 (fun _ => by decide) 210 rfl W (CC.out.refl L _); have hLz := (ht 19 k_).1; have e2 : a.tmps.getD 212 undef = .pointer (some ⟨g, i * 8 + 4, none⟩) := (ht 21 k_).2 (fun _ => by decide) 212 rfl W (CC.out.refl L _); have y : W.cell? ⟨g, i * 8 + 4, none⟩ = some (slV ad.m m.defs.macs.length) := (hSW.cell hC hi2 hR.at_ 4 d_).1; have y2 := (hSW.cell hC hi2 hR.at_ 4 d_).2; refine a_e.veil fun K hK => ?_; unfold a_e
      go_simp
      have hX' := hSW.keep (i * 8 + 4) (.slice A3 (m.defs.macs.length + 1) c3); have hB' := hSW.bel.setCell (p := ⟨g, i * 8 + 4, none⟩) hSW.gat.1 (.slice A3 (m.defs.macs.length + 1) c3); have hl9 : m.defs.macs.length + 1 = (m.defs.macs ++ [x]).length := by simp
      rw [hl9] at hX' hB' ⊢; have hfin := t_g hSW hC hi2 hR hbb (xs := m.defs.macs ++ [x]) (hxr _ hB' hX') (fun t ht => by rcases List.mem_append.1 ht with ht | ht; exact hR.ok.1.defs.mac t ht; rw [List.mem_singleton.1 ht]; exact hxk) m_; exact p_Q
    case dmhc0 => exact ⟨fun _ => hS.go (Below.drew (b_ _ _)), fun _ => hS.go (Below.drew (b_ _ _)), fun h => by cases h⟩
    case dmhend =>
      intro V W1 L hcs hall; simp only [c_V, List.setIfInBounds_toArray, List.set_cons_zero, List.set_cons_succ]
      go_wp2_with fail
      go_ret
      exact a_J (hcs.2.2 (hall 22 d_))
  have e19' : (q == 19) = false := beq_eq_false_iff_ne.2 e19
  by_cases e20 : q = 20
  · subst e20
    have hv : 0 < vss.length := by rw [hC.rows.len]; omega
    have h0l : 0 < ms.length := by omega
    obtain ⟨u', a', hu', hs', hv2⟩ := hC.rows.tell 0 h0l hv; have hat0 : vss[0]? = some ((ms[0]'h0l).cells u' a') := by rw [List.getElem?_eq_getElem hv, hv2]
    have hk' := hC.ok (ms[0]'h0l) (List.getElem_mem h0l); generalize ms[0]'h0l = m2 at *; have hc0 := fun f hf => hS.cell hC (i := 0) h0l hat0 f hf; have t0 : w1.cell? ⟨g, 0, none⟩ = some (str m2.name) := by simpa using (hc0 0 d_).1
    have t1 : w1.cell? ⟨g, 1, none⟩ = some (slV u' m2.uses.length) := by simpa using (hc0 1 d_).1
    have t2 : w1.cell? ⟨g, 2, none⟩ = some (slV a'.z m2.defs.zones.length) := by simpa using (hc0 2 d_).1
    have t3 : w1.cell? ⟨g, 3, none⟩ = some (slV a'.s m2.defs.srcs.length) := by simpa using (hc0 3 d_).1
    have t4 : w1.cell? ⟨g, 4, none⟩ = some (slV a'.m m2.defs.macs.length) := by simpa using (hc0 4 d_).1
    have t5 : w1.cell? ⟨g, 5, none⟩ = some (slV a'.d m2.defs.mdls.length) := by simpa using (hc0 5 d_).1
    have t6 : w1.cell? ⟨g, 6, none⟩ = some (slV a'.n m2.defs.snps.length) := by simpa using (hc0 6 d_).1
    have t7 : w1.cell? ⟨g, 7, none⟩ = some (slV a'.c m2.defs.chks.length) := by simpa using (hc0 7 d_).1
    clear hc0 hv2 hv
    go_wp2_with (at_builtin; refine wpList_append_own _ rfl _ _ 22 rfl w0.heap.size 36 im _ 8 184 underlying22 hi hz0 hz1 hz2 rfl d_ _ _ _ rfl (hS.own.alloc _) ⟨w1.heap.size, 0, none⟩ 1 1 (m2.cells u' a') rfl rfl (by exact b_E (heap_alloc_new _ _)) (by simp [Mdu.cells, Dfs.cells, Value.oneCell']) x_ o_ (by have := hS.bel.size; simp; omega) ?_; intro v2 w2 o2 g2 _; obtain ⟨A2, c2, rfl⟩ := a_j o2)
    go_ret
    have hsz := hS.bel.size; have hb2 : Below w0.heap.size w0 w2 := (hS.bel.alloc hsz _).grown g2 m_ (fun t ht => (hS.own.lt t ht).1)
    exact ⟨⟨A2, c2, ms ++ [m2], s_, by simp; exact (c_L o2).1, a_x ((hC.rows.below f_g.kept hb2).push (v := m2.cells u' a') rfl ⟨u', a', hu'.below hb2, hs'.below hb2, rfl⟩) (by simpa using o2), fun t ht => by
        rcases List.mem_append.1 ht with ht | ht
        · exact ⟨(hC.ok t ht).1, d_t (hC.ok t ht).2⟩
        · rw [List.mem_singleton.1 ht]; exact ⟨hk'.1, d_t hk'.2⟩, s_⟩, hb2⟩
  have e20' : (q == 20) = false := beq_eq_false_iff_ne.2 e20
  go_wp2_with fail
  exact _ap
end Go.Proofs.YtnpjibaolicbmaaGreatDoor
