/- Parts of the proof. -/
import Derived.Test.YtnpjibaolicbmaaGreatDoorPp41
set_option linter.unusedVariables false
set_option linter.unusedSimpArgs false
set_option maxHeartbeats 16000000
namespace Go.Proofs.YtnpjibaolicbmaaGreatDoor
open Go.Proofs.Tryz
open Go.RowKit
theorem Tryz.info_stp8 : (prog.info? 129).map (fun i => (i.zero, i.size, i.bytes)) = some (some (.agg #[.int .i64 0, .string ⟨#[]⟩, .slice none 0 0, .slice none 0 0, .slice none 0 0, .slice none 0 0]), 6, 120) := by kernel_rfl
theorem m_n {k : Int} (h : 0 ≤ k) : k % 3 = 0 ∨ k % 3 = 1 ∨ k % 3 = 2 := by omega
theorem l_P {k : Int} (h : 0 ≤ k) : k % 4 = 0 ∨ k % 4 = 1 ∨ k % 4 = 2 ∨ k % 4 = 3 := by omega
theorem m_y {w0 w : World} {g : Nat} {x : Mdl} {p q : Pl} {rest : List Value} (hb : Below w0.heap.size w0 w) (hg : w0.heap.size ≤ g) (h : w.heap[g]? = some (.cells (x.cells p q ++ rest).toArray 62)) (hx : b_1 w0 p.1 x.self ∧ b_L w0 q.1 x.query) (hk : x.ok) (nm : a_3) (kd : Int) (o : Obj) :
  h_R 8 62 f_I (fun y => y.ok ∧ y.query.length ≤ x.query.length + 1) w0.heap.size w0 g rest w (((w.setCell ⟨g, 1, none⟩ (.slice (some ⟨w.heap.size + 1, 0, none⟩) 1 1)).alloc o).alloc (.cells #[str nm, .int .i64 kd, .bool false] 126)) := by
 have hs := b_C (j := 1) (v := .slice (some ⟨w.heap.size + 1, 0, none⟩) 1 1) h s_
 have hw0 : Below (w.setCell ⟨g, 1, none⟩ (.slice (some ⟨w.heap.size + 1, 0, none⟩) 1 1)).heap.size (w.setCell ⟨g, 1, none⟩ (.slice (some ⟨w.heap.size + 1, 0, none⟩) 1 1)) (((w.setCell ⟨g, 1, none⟩ (.slice (some ⟨w.heap.size + 1, 0, none⟩) 1 1)).alloc o).alloc (.cells #[str nm, .int .i64 kd, .bool false] 126)) := ((b_ _ _).alloc (l_ _) _).alloc s_ _
 have hn := a_M ((w.setCell ⟨g, 1, none⟩ (.slice (some ⟨w.heap.size + 1, 0, none⟩) 1 1)).alloc o) (.cells #[str nm, .int .i64 kd, .bool false] 126) (w.heap.size + 1) (by simp [World.setCell])
 have l0 := a_6 h
 exact ⟨{ x with self := [⟨nm, kd, false⟩] }, _, (hw0.block g (a_6 hs)).trans hs, rfl, ⟨{ hk with self := by simp }, by show x.query.length ≤ _; omega⟩, fun V hb hk => ⟨(some ⟨w.heap.size + 1, 0, none⟩, 1), q, g_N (c_Y (C := o_Q) (vs := [str nm, .int .i64 kd, .bool false]) hn d_ d_ rfl (a_B.pure rfl) V hk), hx.2.below hb, rfl⟩, (But.set g 1 w _).trans (But.of hw0), (hb.setCell hg _).trans (hw0.mono (by simp [World.setCell]; omega))⟩
theorem l_5 {w0 w : World} {g : Nat} {x : Mdl} {p q : Pl} {rest : List Value} (hb : Below w0.heap.size w0 w) (hg : w0.heap.size ≤ g) (h : w.heap[g]? = some (.cells (x.cells p q ++ rest).toArray 62)) (hx : b_1 w0 p.1 x.self ∧ b_L w0 q.1 x.query) (hk : x.ok) (nm : a_3) (kd : Int) (o : Obj) :
  h_R 8 62 f_I (fun y => y.ok ∧ y.query.length ≤ x.query.length + 1) w0.heap.size w0 g rest w (((w.setCell ⟨g, 6, none⟩ (str nm)).setCell ⟨g, 7, none⟩ (.int .i64 kd)).alloc o) := by
 have hs := b_C (j := 7) (v := .int .i64 kd) (b_C (j := 6) (v := str nm) h s_) s_
 have hw0 : Below ((w.setCell ⟨g, 6, none⟩ (str nm)).setCell ⟨g, 7, none⟩ (.int .i64 kd)).heap.size ((w.setCell ⟨g, 6, none⟩ (str nm)).setCell ⟨g, 7, none⟩ (.int .i64 kd)) (((w.setCell ⟨g, 6, none⟩ (str nm)).setCell ⟨g, 7, none⟩ (.int .i64 kd)).alloc o) := (b_ _ _).alloc (l_ _) _
 have l0 := a_6 h
 exact ⟨{ x with owner := nm, cost := kd }, _, (hw0.block g (a_6 hs)).trans hs, rfl, ⟨⟨hk.name, hk.zone, hk.self, hk.query, hk.step⟩, by show x.query.length ≤ _; omega⟩, fun V hb _ => ⟨p, q, hx.1.below hb, hx.2.below hb, rfl⟩, ((But.set g 6 w _).trans (But.set g 7 _ _)).trans (But.of hw0), ((hb.setCell hg _).setCell hg _).trans (hw0.mono (by simp [World.setCell]; omega))⟩
set_option maxRecDepth 100000
theorem c_5 (w0 w : World) (g : Nat) (x : Mdl) (p q : Pl) (rest : List Value) (part k : Int) (h0 : 0 ≤ k) (h1 : k ≤ 15) (hb : Below w0.heap.size w0 w) (hg : w0.heap.size ≤ g) (h : w.heap[g]? = some (.cells (x.cells p q ++ rest).toArray 62)) (hx : b_1 w0 p.1 x.self ∧ b_L w0 q.1 x.query) (hk : x.ok) (hq : x.query.length ≤ 1000) :
    Calls prog 15 #[.pointer (some ⟨g, 0, none⟩), .int .i64 part, .int .i64 k] w fun e w' => e = .returned (.tuple #[]) ∧ h_R 8 62 f_I (fun y => y.ok ∧ y.query.length ≤ x.query.length + 1) w0.heap.size w0 g rest w w' := by
  have hf := c_e h
  obtain ⟨y1, f1⟩ := hf 1 s_
  obtain ⟨y2, f2⟩ := hf 2 s_
  obtain ⟨y3, f3⟩ := hf 3 s_
  obtain ⟨y4, f4⟩ := hf 4 s_
  obtain ⟨y5, f5⟩ := hf 5 s_
  obtain ⟨y6, f6⟩ := hf 6 s_
  obtain ⟨y7, f7⟩ := hf 7 s_
  simp at y1 y2 y3 y4 y5 y6 y7
  have l0 := a_6 h
  obtain ⟨l1, l2, l3⟩ := e_g l0
  have l4 : g < w.heap.size + 1 + 1 + 1 + 1 := by omega
  clear hf
  go_enter func15, ntmps15
  by_cases e0 : part = 0
  · subst e0
    go_upto_region 6 with fail
    have CC := a_2 (n_c (T := 62) (C := fun _ W => ∃ x' : Mdl, W.heap[g]? = some (.cells (x'.cells p q ++ rest).toArray 62) ∧ x'.ok ∧ x'.self = x.self ∧ x'.query = x.query ∧ But g w W ∧ Below w0.heap.size w0 W) (fun i L W W' ⟨x', h1, h2, h3, h4, h5, h6⟩ hb => ⟨x', (hb.block _ (a_6 h1)).trans h1, h2, h3, h4, h5.trans (But.of hb), h6.trans (hb.mono (Nat.le_trans hg (Nat.le_of_lt (a_6 h1))))⟩)); clear y1 y2 y3 y4 y5 y6 y7 f1 f2 f3 f4 f5 f6 f7 l1 l2 l3 l4
    refine b_a (H := fun _ => KeepX (XT 62)) (C := fun _ W => ∃ x' : Mdl, W.heap[g]? = some (.cells (x'.cells p q ++ rest).toArray 62) ∧ x'.ok ∧ x'.self = x.self ∧ x'.query = x.query ∧ But g w W ∧ Below w0.heap.size w0 W) (R := fun i => match i with
      | 0 => vC (.pointer (some ⟨g, 0, none⟩))
      | 1 => vC (.pointer (some ⟨g, 0, none⟩))
      | 2 => vS [ [], [97, 116], [98, 121], [120]]
      | 3 => vC (.int .i64 k)
      | 4 => vI 0 3
      | 5 => vP [ [], [97, 116], [98, 121], [120]]
      | 6 => vT [ [], [97, 116], [98, 121], [120]]
      | 7 => vS [ [], [122, 48], [65], [120, 46, 122]]
      | 8 => vC (.int .i64 k)
      | 9 => vI 0 3
      | 10 => vP [ [], [122, 48], [65], [120, 46, 122]]
      | 11 => vT [ [], [122, 48], [65], [120, 46, 122]]
      | 12 => vC (.pointer (some ⟨g, 0, none⟩))
      | 13 => vC (.pointer (some ⟨g, 3, none⟩))
      | 15 => vC (.pointer (some ⟨g, 0, none⟩))
      | 16 => vC (.pointer (some ⟨g, 4, none⟩))
      | _ => fun _ _ => True) (fun _ _ _ _ _ h k => h.trans k) rfl k_ ?hc0 (c_a.all ?hop) ?hend
    case' hop => refine ⟨?o0, ?o1, ?o2, ?o3, ?o4, ?o5, ?o6, ?o7, ?o8, ?o9, ?o10, ?o11, ?o12, ?o13, ?o14, ?o15, ?o16, ?o17, trivial⟩
    case o0 =>
      exact m_H
    case o1 =>
      exact m_H
    case o2 =>
      exact r_R
    case o3 =>
      exact q_d
    case o4 =>
      refine a_s CC.out fun L a W hf hc hL hn ht => ?_; have e1 : a.tmps.getD 40 undef = (.int .i64 k) := ht 3 k_ 40 rfl W (CC.out.refl L _); refine p_G ?_; intro hm hm2; refine a_e.veil fun K hK => ?_; unfold a_e
      go_simp
      exact p_M
    case o5 =>
      exact b_V CC.out (show 9 ≠ 62 by decide) _ 2 39 4 41 rfl k_ k_ rfl rfl rfl (fun _ _ h => h) rfl
    case o6 =>
      exact c_u CC.out _ 5 42 rfl k_ rfl rfl rfl
    case o7 =>
      exact r_R
    case o8 =>
      exact q_d
    case o9 =>
      exact d_5 CC.out (lo := 0) (hi := 15) (fun n => n / 4) 8 45 (fun a w n e n0 n1 => by go_simp) (fun n n0 n1 => ⟨o_, o_⟩) k_ rfl (fun _ _ h => e_n ⟨h0, h1⟩ _ _ h) rfl
    case o10 =>
      exact b_V CC.out (show 9 ≠ 62 by decide) _ 7 44 9 46 rfl k_ k_ rfl rfl rfl (fun _ _ h => h) rfl
    case o11 =>
      exact c_u CC.out _ 10 47 rfl k_ rfl rfl rfl
    case o12 =>
      refine a_s CC.out fun L a W hf hc hL hn ht => ?_; have e1 : a.tmps.getD 37 undef = (.pointer (some ⟨g, 0, none⟩)) := ht 0 k_ 37 rfl W (CC.out.refl L _); refine a_e.veil fun K hK => ?_; unfold a_e
      go_simp
      exact d_d
    case o13 =>
      refine a_s CC.out fun L a W hf hc hL hn ht => ?_; have e1 : a.tmps.getD 49 undef = (.pointer (some ⟨g, 0, none⟩)) := ht 12 k_ 49 rfl W (CC.out.refl L _); refine a_e.veil fun K hK => ?_; unfold a_e
      go_simp
      exact d_d
    case o14 =>
      intro L a W hf hc hL hn ht; obtain ⟨x', h1', h2', h3', h4', h5', h6'⟩ := hc; obtain ⟨s, hs, e1⟩ := (ht 6 k_).2 43 rfl W (CC.out.refl L _); have e2 : a.tmps.getD 50 undef = .pointer (some ⟨g, 3, none⟩) := (ht 13 k_).2 50 rfl W (CC.out.refl L _); obtain ⟨y1, y2⟩ := c_e h1' 3 s_; have hsl := d_g hs (by simp [maxLen]); refine a_e.veil fun K hK => ?_; unfold a_e
      go_simp
      exact hK _ _ ⟨⟨{ x' with part := s }, b_C (j := 3) h1' s_, ⟨h2'.name, h2'.zone, h2'.self, h2'.query, h2'.step⟩, h3', h4', h5'.trans (But.set g 3 W _), h6'.setCell hg _⟩, (i_w ⟨_, _, h1'⟩).1, fun h => by cases h⟩
    case o15 =>
      refine a_s CC.out fun L a W hf hc hL hn ht => ?_; have e1 : a.tmps.getD 38 undef = (.pointer (some ⟨g, 0, none⟩)) := ht 1 k_ 38 rfl W (CC.out.refl L _); refine a_e.veil fun K hK => ?_; unfold a_e
      go_simp
      exact d_d
    case o16 =>
      refine a_s CC.out fun L a W hf hc hL hn ht => ?_; have e1 : a.tmps.getD 51 undef = (.pointer (some ⟨g, 0, none⟩)) := ht 15 k_ 51 rfl W (CC.out.refl L _); refine a_e.veil fun K hK => ?_; unfold a_e
      go_simp
      exact d_d
    case o17 =>
      intro L a W hf hc hL hn ht; obtain ⟨x', h1', h2', h3', h4', h5', h6'⟩ := hc; obtain ⟨s, hs, e1⟩ := (ht 11 k_).2 48 rfl W (CC.out.refl L _); have e2 : a.tmps.getD 52 undef = .pointer (some ⟨g, 4, none⟩) := (ht 16 k_).2 52 rfl W (CC.out.refl L _); obtain ⟨y1, y2⟩ := c_e h1' 4 s_; have hsl := d_g hs (by simp [maxLen]); refine a_e.veil fun K hK => ?_; unfold a_e
      go_simp
      exact s_u
    case hc0 => exact ⟨x, h, hk, rfl, rfl, But.of (Below.drew (b_ _ _)), hb.trans ((Below.drew (b_ _ _)).mono (Nat.le_trans hg (Nat.le_of_lt l0)))⟩
    case hend =>
      intro V W1 L hg1 _ _; obtain ⟨x', q1, q2, q3, q4, q5, q6⟩ := hg1; simp only [c_V, List.setIfInBounds_toArray, List.set_cons_zero, List.set_cons_succ]
      go_wp2_with fail
      go_end0
      exact ⟨rfl, x', _, q1, rfl, ⟨q2, by rw [q4]; omega⟩, fun V hb _ => ⟨p, q, by rw [q3]; exact hx.1.below hb, by rw [q4]; exact hx.2.below hb, rfl⟩, q5, q6⟩
  have e0' : (part == 0) = false := beq_eq_false_iff_ne.2 e0
  by_cases e1 : part = 1
  · subst e1
    have hw1 := IntWalk.i64_in (1 + k / 4) o_; have hm := m_n h0
    rcases hm with hm | hm | hm
    all_goals
      go_wp2_with fail
      go_end0
      exact ⟨rfl, m_y hb hg h hx hk _ _ _⟩
  have e1' : (part == 1) = false := beq_eq_false_iff_ne.2 e1
  by_cases e2 : part = 2
  · subst e2
    have hmk := i_8 k; have hm := l_P h0
    rcases hm with hm | hm | hm | hm
    all_goals
      go_wp2_with fail
      go_end0
      exact ⟨rfl, l_5 hb hg h hx hk _ _ _⟩
  have e2' : (part == 2) = false := beq_eq_false_iff_ne.2 e2
  have hs5 := b_C (j := 5) (v := .int .i64 (k - 2)) h s_
  by_cases h8 : k > 8
  rotate_left
  · go_wp2_with fail
    go_end0
    exact ⟨rfl, { x with strat := k - 2 }, _, hs5, rfl, ⟨⟨hk.name, hk.zone, hk.self, hk.query, hk.step⟩, by show x.query.length ≤ _; omega⟩, fun V hb _ => ⟨p, q, hx.1.below hb, hx.2.below hb, rfl⟩, But.set g 5 w _, hb.setCell hg _⟩
  obtain ⟨i0, hi, hz0, hz1, hz2⟩ := info_parts Tryz.info_stp8
  obtain ⟨vss, hin, hrd, hln, hone⟩ := b_j o_L (k_R hx.2)
  have hb5 : Below w0.heap.size w0 (w.setCell ⟨g, 5, none⟩ (.int .i64 (k - 2))) := hb.setCell hg _
  have HR := a_2 (hrd.below hb5)
  have hbu : But g w (w.setCell ⟨g, 5, none⟩ (.int .i64 (k - 2))) := But.set g 5 w _
  clear hrd
  go_upto_region 3 with fail
  generalize w.setCell ⟨g, 5, none⟩ (.int .i64 (k - 2)) = W1 at *
  clear y1 y2 y3 y4 y5 y6 y7 f1 f2 f3 f4 f5 f6 f7 l0 l1 l2 l3 l4
  obtain ⟨y2, f2⟩ := c_e hs5 2 s_
  simp at y2
  have l0 := a_6 hs5
  have l1 := Nat.lt_of_lt_of_le (Nat.lt_of_le_of_lt hg l0) (l_ _)
  go_wp2_with (at_builtin; first
    | (refine b_y _ rfl _ 60 rfl 129 i0 _ 6 120 underlying60 hi hz0 hz1 hz2 rfl d_ q.1 x.query.length q.2 vss.flatten rfl HR.out hln hone x_ o_ ?_; intro A1 c1 w1 o1 hb1; clear HR)
    | (refine wpList_append_own _ rfl _ _ 60 rfl W1.heap.size 129 i0 _ 6 120 underlying60 hi hz0 hz1 hz2 rfl d_ _ _ _ rfl (((o1.alloc _).alloc _).alloc _) ⟨w1.heap.size + 1 + 1, 0, none⟩ 1 1 [.int .i64 5, str [115, 101, 108, 102], .slice (some ⟨w1.heap.size, 0, none⟩) 1 1, .slice (some ⟨w1.heap.size + 1, 0, none⟩) 1 1, .slice none 0 0, .slice none 0 0] rfl rfl (by exact g_G (a_M _ _ _ s_)) c_ x_ o_ (by have := hb1.size; simp; omega) ?_
       intro v2 w2 o2 g2 _; obtain ⟨A2, c2, rfl⟩ := a_j o2; have hb2 : Below W1.heap.size W1 w2 := (((hb1.alloc hb1.size _).alloc (by have := hb1.size; simp; omega) _).alloc (by have := hb1.size; simp; omega) _).grown g2 (by have := hb1.size; simp; omega) (fun b hb => (o1.lt b hb).1); have hid := a_K (o := .cells ([.int .i64 5, str [115, 101, 108, 102], .slice (some ⟨w1.heap.size, 0, none⟩) 1 1, .slice (some ⟨w1.heap.size + 1, 0, none⟩) 1 1, .slice none 0 0, .slice none 0 0]).toArray 129) (a_K (o := .cells #[str [100]] 9) (a_M w1 (.cells #[str [105, 100]] 9) _ rfl)); have hdd := a_K (o := .cells ([.int .i64 5, str [115, 101, 108, 102], .slice (some ⟨w1.heap.size, 0, none⟩) 1 1, .slice (some ⟨w1.heap.size + 1, 0, none⟩) 1 1, .slice none 0 0, .slice none 0 0]).toArray 129) (a_M (w1.alloc (.cells #[str [105, 100]] 9)) (.cells #[str [100]] 9) (w1.heap.size + 1) s_); replace hid := (g2.block _ m_ (fun e => absurd (o1.lt _ e.symm).2 o_)).trans hid; replace hdd := (g2.block _ s_ (fun e => absurd (o1.lt _ e.symm).2 o_)).trans hdd; have hg2 := (hb2.block g l0).trans hs5; obtain ⟨z1, d1⟩ := c_e hg2 1 s_; obtain ⟨z2, d2⟩ := c_e hg2 2 s_; obtain ⟨z5, d5⟩ := c_e hg2 5 s_
       simp at z1 z2 z5
       have m0 := a_6 hg2
       obtain ⟨m1, m2, m3⟩ := e_g m0))
  go_end0
  have hlen : (x.query ++ [(⟨5, [115, 101, 108, 102], [ [105, 100]], [ [100]], [], []⟩ : Stp)]).length = x.query.length + 1 := by simp
  have hf := a_K (o := .cells #[str [100], .int .i64 2, .bool false] 126) (b_C (j := 5) (v := .int .i64 0) (b_C (j := 1) (v := .slice (some ⟨w2.heap.size, 0, none⟩) 1 1) (b_C (j := 2) (v := .slice A2 (x.query.length + 1) c2) hg2 s_) s_) s_)
  have hcol := a_M (((w2.setCell ⟨g, 2, none⟩ (.slice A2 (x.query.length + 1) c2)).setCell ⟨g, 1, none⟩ (.slice (some ⟨w2.heap.size, 0, none⟩) 1 1)).setCell ⟨g, 5, none⟩ (.int .i64 0)) (.cells #[str [100], .int .i64 2, .bool false] 126) w2.heap.size (by simp [World.setCell])
  have hbf : But g w2 ((((w2.setCell ⟨g, 2, none⟩ (.slice A2 (x.query.length + 1) c2)).setCell ⟨g, 1, none⟩ (.slice (some ⟨w2.heap.size, 0, none⟩) 1 1)).setCell ⟨g, 5, none⟩ (.int .i64 0)).alloc (.cells #[str [100], .int .i64 2, .bool false] 126)) := ((But.set g 2 w2 _).trans ((But.set g 1 _ _).trans (But.set g 5 _ _))).trans (But.of ((b_ _ _).alloc (l_ _) _))
  have hB : Below w0.heap.size w0 ((((w2.setCell ⟨g, 2, none⟩ (.slice A2 (x.query.length + 1) c2)).setCell ⟨g, 1, none⟩ (.slice (some ⟨w2.heap.size, 0, none⟩) 1 1)).setCell ⟨g, 5, none⟩ (.int .i64 0)).alloc (.cells #[str [100], .int .i64 2, .bool false] 126)) := ((((hb5.trans (hb2.mono hb5.size)).setCell hg _).setCell hg _).setCell hg _).alloc (by have := hb2.size; have := hb5.size; simp [World.setCell]; omega) _
  have hO := e_7.own o2 l0 (fun v hv => hv) _ hbf
  have hgl := hb1.size
  have hi3 := hbf.old hid o_
  have hd3 := hbf.old hdd o_
  exact ⟨rfl, { x with query := x.query ++ [⟨5, [115, 101, 108, 102], [ [105, 100]], [ [100]], [], []⟩], self := [⟨[100], 2, false⟩], strat := 0 }, _, hf, rfl, ⟨⟨hk.name, hk.zone, s_, by show (x.query ++ [_]).length ≤ _; rw [hlen]; omega, fun s hs => by
      rcases List.mem_append.1 hs with hs | hs
      · exact hk.step s hs
      · rw [List.mem_singleton.1 hs]
        exact ⟨by simp [maxLen], s_, s_, s_, s_, s_, fun n h => (List.not_mem_nil h).elim⟩⟩, by show (x.query ++ [_]).length ≤ _; rw [hlen]; omega⟩,
    fun V hV hX => ⟨(some ⟨w2.heap.size, 0, none⟩, 1), (A2, c2), g_N (c_Y (C := o_Q) (x := ⟨[100], 2, false⟩) (vs := [str [100], .int .i64 2, .bool false]) hcol d_ d_ rfl (a_B.pure rfl) V hX),
      f_7 (a_x ((hin.below l_H.kept hV).push (x := ⟨5, [115, 101, 108, 102], [ [105, 100]], [ [100]], [], []⟩) (v := [.int .i64 5, str [115, 101, 108, 102], .slice (some ⟨w1.heap.size, 0, none⟩) 1 1, .slice (some ⟨w1.heap.size + 1, 0, none⟩) 1 1, .slice none 0 0, .slice none 0 0]) rfl ⟨⟨some ⟨w1.heap.size, 0, none⟩, 1, some ⟨w1.heap.size + 1, 0, none⟩, 1, none, 0, none, 0⟩, ⟨(b_t (X := XB) (l := [ [105, 100]]) (c := 1) hi3 (nXB d_ d_) s_ V hX).1, (b_t (X := XB) (l := [ [100]]) (c := 1) hd3 (nXB d_ d_) s_ V hX).1, .inl rfl, .inl rfl, l_ _, l_ _, l_ _⟩, rfl⟩) (by rw [hlen]; simpa using (a_B.own hO (fun _ _ _ _ => nXB d_ d_) (fun _ hv => hv) V hX))),
      by show [str x.name, .slice (some ⟨w2.heap.size, 0, none⟩) 1 1, .slice A2 (x.query.length + 1) c2, str x.part, str x.zone, .int .i64 0, str x.owner, .int .i64 x.cost] = [str x.name, .slice (some ⟨w2.heap.size, 0, none⟩) 1 1, .slice A2 (x.query ++ [_]).length c2, str x.part, str x.zone, .int .i64 0, str x.owner, .int .i64 x.cost]; rw [hlen]⟩, (hbu.trans (But.of hb2)).trans hbf, hB⟩
end Go.Proofs.YtnpjibaolicbmaaGreatDoor
