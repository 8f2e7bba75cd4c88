/- Parts of the proof. -/
import Derived.Test.YtnpjibaolicbmaaGreatDoorPp30
set_option linter.unusedVariables false
set_option linter.unusedSimpArgs false
set_option maxHeartbeats 8000000
namespace Go.Proofs.YtnpjibaolicbmaaGreatDoor
open Go.Proofs.Tryz
open Go.RowKit
theorem j_C (a : Int) : a_c a 0 = a := by unfold a_c; split <;> simp_all
theorem m_3 (b : Nat) (m : Mac) (p q : Pl) (n : Nd) (w : World) (hB : w.heap[b]? = some (.cells #[str m.name, slV p m.params.length, slV q m.body.length] 74)) (hP : b_b w p.1 m.params) (hl : m.params.length ≤ 8796093022208) :
  Calls prog 101 #[.agg #[.int .i64 n.op, .int .i64 n.val.kind, .int .i64 n.val.num, str n.val.text, str n.name, .int .i64 n.arity], a_f b] w fun e w' => e = .returned (.bool (n.op == 1 && !c_N m.params n.name)) ∧ Below w.heap.size w w' := by
 have hne := a_6 hB
 have c1 : (w.alloc (.cells #[.int .i64 n.op, .int .i64 n.val.kind, .int .i64 n.val.num, str n.val.text, str n.name, .int .i64 n.arity] 72)).cell? ⟨b, 1, none⟩ = some (slV p m.params.length) := a_0 (a_K hB) 1
 have HC := a_2 (fun W (hb : Below w.heap.size w W) => b_k p.1 m.params p.2 n.name W (hP.below hb) hl)
 rw [← show c_N m.params n.name = decide (n.name ∈ m.params) from by
  show m.params.contains n.name = _
  cases hc : m.params.contains n.name
  ·symm; rw [decide_eq_false_iff_not]; intro hm; rw [← List.contains_iff_mem, hc] at hm; cases hm
  ·symm; rw [decide_eq_true_eq]; exact List.contains_iff_mem.1 hc] at HC
 clear hB hP
 generalize c_N m.params n.name = z at *
 generalize m.params.length = l at *
 generalize n.op = o at *
 generalize n.val.kind = k at *
 generalize n.val.num = u at *
 generalize n.val.text = t at *
 generalize n.name = x at *
 generalize n.arity = a at *
 by_cases ho : o = 1
 ·subst ho
  cases z
  all_goals
   go_enter func101, ntmps101
   go_wp2_with (go_at_call 85; refine (HC.out _ zX).mono ?_; rintro e w' ⟨rfl, rfl⟩)
   exact k_t
 ·have hob : (o == 1) = false := beq_eq_false_iff_ne.2 ho
  clear ho
  go_enter func101, ntmps101
  go_wp2_with (go_at_call 85; refine (HC.out _ zX).mono ?_; rintro e w' ⟨rfl, rfl⟩)
  go_ret
  exact ⟨a_a (by simp [hob]), zX⟩
def q_g (es : List Nd) (i : Nat) : Value := match es[i]? with
 | some n => .agg #[.int .i64 n.op, .int .i64 n.val.kind, .int .i64 n.val.num, str n.val.text, str n.name, .int .i64 n.arity]
 | none => undef
theorem k_E {es : List Nd} {i : Nat} (h : i < es.length) : q_g es i = .agg #[.int .i64 es[i].op, .int .i64 es[i].val.kind, .int .i64 es[i].val.num, str es[i].val.text, str es[i].name, .int .i64 es[i].arity] := by
 unfold q_g; rw [List.getElem?_eq_getElem h]
theorem p_l {w : World} {A : Option Addr} {es : List Nd} (h : b_q w A es) : r_y w A es.length (q_g es) := by
 rcases h with h | ⟨g, off, hA, hg, hc⟩
 ·exact .inl (by rw [h]; rfl)
 ·refine .inr ⟨g, off, hA, fun i hi => ?_⟩
  obtain ⟨h0, h1, h2, h3, h4, h5⟩ := nd_of_cells hc i hi
  exact ⟨_, _, _, _, _, _, k_E hi, h0, h1, h2, h3, h4, h5⟩
def q_9 (ps : List a_3) (es : List Nd) (i : Nat) : Bool := match es[i]? with
 | some n => n.op == 1 && !c_N ps n.name
 | none => false
theorem i_Y {ps : List a_3} {es : List Nd} {i : Nat} (h : i < es.length) : q_9 ps es i = (es[i].op == 1 && !c_N ps es[i].name) := by
 unfold q_9; rw [List.getElem?_eq_getElem h]
theorem m_J (ps : List a_3) (es : List Nd) : f_8 (q_9 ps es) es.length = d_0 ps es := by
 rw [Bool.eq_iff_iff]
 unfold f_8 d_0
 rw [List.any_eq_true, List.any_eq_true]
 constructor
 ·rintro ⟨i, hi, h⟩
  have hi' := List.mem_range.1 hi
  rw [i_Y hi'] at h
  exact ⟨_, List.getElem_mem hi', h⟩
 ·rintro ⟨y, hy, h⟩
  obtain ⟨i, hi, rfl⟩ := List.mem_iff_getElem.1 hy
  exact ⟨i, List.mem_range.2 hi, by rw [i_Y hi]; exact h⟩
set_option maxRecDepth 100000
theorem d_N (m : Mac) (p q : Pl) (w : World) (hW : a_v w 1 a_w) (hP : b_9 w p m.params) (hN : b_q w q.1 m.body) (ho : m.ok) :
  Calls prog 50 #[.agg #[str m.name, slV p m.params.length, slV q m.body.length]] w fun e w' => e = .returned (.int .i64 (e_i m)) ∧ Below w.heap.size w w' := by
 have HE := a_2 (show e_i m = a_c (f_9 m.params 8) (a_c (a_u m.body) (a_b (d_0 m.params m.body = true) 5)) from rfl)
 have H1 := a_2 (fun W (hb : Below w.heap.size w W) => d_i p.1 m.params p.2 8 W (hW.below hb) (hP.1.below hb) ho.params o_ hP.2)
 have H2 := a_2 (fun W (hb : Below w.heap.size w W) => b_m q.1 m.body q.2 W (hW.below hb) (hN.below hb) ho.body ho.bodyN)
 have hbox : Below (w.heap.size + 1) (w.alloc (.cells #[str m.name, slV p m.params.length, slV q m.body.length] 74)) (w.alloc (.cells #[str m.name, slV p m.params.length, slV q m.body.length] 74)) := b_ _ _
 have HB0 := a_2 (show Below w.heap.size w (w.alloc (.cells #[str m.name, slV p m.params.length, slV q m.body.length] 74)) from zX)
 have H3 := a_2 (fun (W : World) (hx : Below (w.heap.size + 1) (w.alloc (.cells #[str m.name, slV p m.params.length, slV q m.body.length] 74)) W) =>
  show Calls prog 100 #[slV q m.body.length, .func (.func 101) #[] #[a_f w.heap.size]] W (fun e w' => e = .returned (.bool (d_0 m.params m.body)) ∧ Below W.heap.size W w') from by
  have hh := a_y hx (Nat.lt_succ_self _)
  have hbw := a_5 hx
  have h := j_T q.1 q.2 m.body.length 101 #[a_f w.heap.size] (q_g m.body) (q_9 m.params m.body) W ho.body (fun V hV => p_l (hN.below (a_9 hV hbw))) (fun args V => by kernel_rfl) (fun i hi V hV => by
   rw [k_E hi, i_Y hi]
   exact m_3 w.heap.size m p q _ V ((hV.block _ (a_6 hh)).trans hh) (hP.1.below (a_9 hV hbw)) ho.params)
  rw [m_J] at h
  exact h)
 clear hW hP hN ho
 generalize e_i m = r at *
 generalize a_u m.body = v2 at *
 generalize f_9 m.params 8 = v1 at *
 generalize d_0 m.params m.body = z at *
 generalize m.params.length = l1 at *
 generalize m.body.length = l2 at *
 by_cases e1 : v1 = 0
 rotate_left
 ·have HR := a_2 (HE.out.trans (a_h e1))
  have hvb : (v1 != 0) = true := by simpa using e1
  clear HE e1
  go_enter func50, ntmps50
  go_wp2_with (go_at_call 98; refine (H1.out _ HB0.out).mono ?_; rintro e w1 ⟨rfl, hb1⟩)
  go_ret
  exact ⟨a_d HR.out.symm, a_9 hb1 HB0.out⟩
 subst e1
 rw [a_m] at HE
 by_cases e2 : v2 = 0
 rotate_left
 ·have HR := a_2 (HE.out.trans (a_h e2))
  have hvb : (v2 != 0) = true := by simpa using e2
  clear HE e2
  go_enter func50, ntmps50
  go_wp2_with (first
   | (go_at_call 98; refine (H1.out _ HB0.out).mono ?_; rintro e w1 ⟨rfl, hb1⟩; have hx1 := a_1 hbox s_ hb1; have hr1 := a_9 hb1 HB0.out; obtain ⟨c0, c1, c2, hlw⟩ := bx3 hx1)
   | (go_at_call 99; refine (H2.out _ hr1).mono ?_; rintro e w2 ⟨rfl, hb2⟩))
  go_ret
  exact ⟨a_d HR.out.symm, a_9 hb2 hr1⟩
 subst e2
 rw [a_m] at HE
 cases z
 all_goals
  go_enter func50, ntmps50
  go_wp2_with (first
   | (go_at_call 98; refine (H1.out _ HB0.out).mono ?_; rintro e w1 ⟨rfl, hb1⟩; have hx1 := a_1 hbox s_ hb1; have hr1 := a_9 hb1 HB0.out; obtain ⟨c0, c1, c2, hlw⟩ := bx3 hx1)
   | (go_at_call 99; refine (H2.out _ hr1).mono ?_; rintro e w2 ⟨rfl, hb2⟩; have hx2 := a_1 hx1 s_ hb2; have hr2 := a_9 hb2 hr1; clear c0 c1 c2; obtain ⟨c0, c1, c2, hlw⟩ := bx3 hx2)
   | (go_at_call 100; refine (H3.out _ hx2).mono ?_; rintro e w3 ⟨rfl, hb3⟩)
   | (go_at_call 24; refine (a_8 _ _ _).mono ?_; rintro e w' ⟨rfl, rfl⟩))
  go_ret
  exact ⟨a_d (by rw [HE.out]; simp [a_b]), a_9 hb3 hr2⟩
theorem l_E (B K : Nat) (m : Mdl) (p q : Pl) (w V : World) (hb : Below w.heap.size w V) (hB : d_F V B m p q) (hS : V.heap[B + 1]? = some (.cells #[.bool (decide (m.self ≠ []))] 4)) (hK : V.heap[K]? = some (.cells #[.func (.func 102) #[] #[a_f B], .func (.func 104) #[] #[a_f (B + 1), a_f B], .func (.func 106) #[] #[a_f B, a_f (B + 1)], .func (.func 107) #[] #[a_f B], .func (.func 109) #[] #[a_f B], .func (.func 110) #[] #[a_f B], .func (.func 111) #[] #[a_f B], .func (.func 112) #[] #[a_f B]] 80))
  (hW : a_v w 1 a_w) (hU : c_7 w) (hQ : b_L w q.1 m.query) (ho : m.ok) :
  Calls prog 20 #[.slice (some ⟨K, 0, none⟩) 8 8] V fun e w' => e = .returned (.int .i64 (d_m [b_o m.query, a_b ((decide (m.self ≠ [])) ≠ c_N (a_I m.query) b_P) 8, a_b (decide (m.part = []) ≠ decide (m.zone = []) ∨ ((decide (m.self ≠ [])) = true ∧ m.part = [])) 8, (if m.part = [] then 0 else a_F m.part), (if m.zone = [] then 0 else a_L m.zone), a_b (m.strat < 0 ∨ 2 < m.strat) 1, a_b (m.owner ≠ [] ∧ (a_i 24 m.owner = false ∨ m.owner = d_M)) 4, a_b (m.cost < 1 ∨ 16 < m.cost) 1])) ∧ Below V.heap.size V w' := by
 have HF := a_U K 8 [⟨102, #[a_f B], b_o m.query⟩, ⟨104, #[a_f (B + 1), a_f B], a_b ((decide (m.self ≠ [])) ≠ c_N (a_I m.query) b_P) 8⟩, ⟨106, #[a_f B, a_f (B + 1)], a_b (decide (m.part = []) ≠ decide (m.zone = []) ∨ ((decide (m.self ≠ [])) = true ∧ m.part = [])) 8⟩, ⟨107, #[a_f B], (if m.part = [] then 0 else a_F m.part)⟩, ⟨109, #[a_f B], (if m.zone = [] then 0 else a_L m.zone)⟩, ⟨110, #[a_f B], a_b (m.strat < 0 ∨ 2 < m.strat) 1⟩, ⟨111, #[a_f B], a_b (m.owner ≠ [] ∧ (a_i 24 m.owner = false ∨ m.owner = d_M)) 4⟩, ⟨112, #[a_f B], a_b (m.cost < 1 ∨ 16 < m.cost) 1⟩] V (a_6 hK) (show (8 : Nat) ≤ 10 from by decide)
  (fun j h => by
   have h9 : j < 8 := h
   match j, h9 with
   | 0, _ => exact a_0 hK 0
   | 1, _ => exact a_0 hK 1
   | 2, _ => exact a_0 hK 2
   | 3, _ => exact a_0 hK 3
   | 4, _ => exact a_0 hK 4
   | 5, _ => exact a_0 hK 5
   | 6, _ => exact a_0 hK 6
   | 7, _ => exact a_0 hK 7)
  (fun j h args W => by
   have h9 : j < 8 := h
   match j, h9 with
   | 0, _ => exact (show (callFunc 102 args).run prog W = .ok (.enter 102 args) W by kernel_rfl)
   | 1, _ => exact (show (callFunc 104 args).run prog W = .ok (.enter 104 args) W by kernel_rfl)
   | 2, _ => exact (show (callFunc 106 args).run prog W = .ok (.enter 106 args) W by kernel_rfl)
   | 3, _ => exact (show (callFunc 107 args).run prog W = .ok (.enter 107 args) W by kernel_rfl)
   | 4, _ => exact (show (callFunc 109 args).run prog W = .ok (.enter 109 args) W by kernel_rfl)
   | 5, _ => exact (show (callFunc 110 args).run prog W = .ok (.enter 110 args) W by kernel_rfl)
   | 6, _ => exact (show (callFunc 111 args).run prog W = .ok (.enter 111 args) W by kernel_rfl)
   | 7, _ => exact (show (callFunc 112 args).run prog W = .ok (.enter 112 args) W by kernel_rfl))
  (fun j h hz => by
   have h9 : j < 8 := h
   match j, h9 with
   | 0, _ => exact t_d B m p q V hB (hW.below hb) (hU.below hb) (hQ.below hb) ho.query ho.step
   | 1, _ => exact s_J B m p q (B + 1) (decide (m.self ≠ [])) V hB (hU.below hb) (hQ.below hb) ho.query hS
   | 2, _ => exact s_R B m p q (B + 1) (decide (m.self ≠ [])) V hB hS
   | 3, _ => exact t_4 B m p q V hB (hW.below hb)
   | 4, _ => exact t_i B m p q V hB (hW.below hb) ho.zone
   | 5, _ => exact s_F B m p q V hB
   | 6, _ => exact t_2 B m p q V hB
   | 7, _ => exact s_G B m p q V hB)
 rw [show a_o (fun j => (([⟨102, #[a_f B], b_o m.query⟩, ⟨104, #[a_f (B + 1), a_f B], a_b ((decide (m.self ≠ [])) ≠ c_N (a_I m.query) b_P) 8⟩, ⟨106, #[a_f B, a_f (B + 1)], a_b (decide (m.part = []) ≠ decide (m.zone = []) ∨ ((decide (m.self ≠ [])) = true ∧ m.part = [])) 8⟩, ⟨107, #[a_f B], (if m.part = [] then 0 else a_F m.part)⟩, ⟨109, #[a_f B], (if m.zone = [] then 0 else a_L m.zone)⟩, ⟨110, #[a_f B], a_b (m.strat < 0 ∨ 2 < m.strat) 1⟩, ⟨111, #[a_f B], a_b (m.owner ≠ [] ∧ (a_i 24 m.owner = false ∨ m.owner = d_M)) 4⟩, ⟨112, #[a_f B], a_b (m.cost < 1 ∨ 16 < m.cost) 1⟩] : List Thk).map Thk.v).getD j 0) ([⟨102, #[a_f B], b_o m.query⟩, ⟨104, #[a_f (B + 1), a_f B], a_b ((decide (m.self ≠ [])) ≠ c_N (a_I m.query) b_P) 8⟩, ⟨106, #[a_f B, a_f (B + 1)], a_b (decide (m.part = []) ≠ decide (m.zone = []) ∨ ((decide (m.self ≠ [])) = true ∧ m.part = [])) 8⟩, ⟨107, #[a_f B], (if m.part = [] then 0 else a_F m.part)⟩, ⟨109, #[a_f B], (if m.zone = [] then 0 else a_L m.zone)⟩, ⟨110, #[a_f B], a_b (m.strat < 0 ∨ 2 < m.strat) 1⟩, ⟨111, #[a_f B], a_b (m.owner ≠ [] ∧ (a_i 24 m.owner = false ∨ m.owner = d_M)) 4⟩, ⟨112, #[a_f B], a_b (m.cost < 1 ∨ 16 < m.cost) 1⟩] : List Thk).length = d_m [b_o m.query, a_b ((decide (m.self ≠ [])) ≠ c_N (a_I m.query) b_P) 8, a_b (decide (m.part = []) ≠ decide (m.zone = []) ∨ ((decide (m.self ≠ [])) = true ∧ m.part = [])) 8, (if m.part = [] then 0 else a_F m.part), (if m.zone = [] then 0 else a_L m.zone), a_b (m.strat < 0 ∨ 2 < m.strat) 1, a_b (m.owner ≠ [] ∧ (a_i 24 m.owner = false ∨ m.owner = d_M)) 4, a_b (m.cost < 1 ∨ 16 < m.cost) 1] from b_s [b_o m.query, a_b ((decide (m.self ≠ [])) ≠ c_N (a_I m.query) b_P) 8, a_b (decide (m.part = []) ≠ decide (m.zone = []) ∨ ((decide (m.self ≠ [])) = true ∧ m.part = [])) 8, (if m.part = [] then 0 else a_F m.part), (if m.zone = [] then 0 else a_L m.zone), a_b (m.strat < 0 ∨ 2 < m.strat) 1, a_b (m.owner ≠ [] ∧ (a_i 24 m.owner = false ∨ m.owner = d_M)) 4, a_b (m.cost < 1 ∨ 16 < m.cost) 1]] at HF
 exact HF
set_option maxRecDepth 512
theorem n_Y (m : Mdl) : e_m m = a_c (if m.self = [] then 0 else e_K m.self) (d_m [b_o m.query, a_b ((decide (m.self ≠ [])) ≠ c_N (a_I m.query) b_P) 8, a_b (decide (m.part = []) ≠ decide (m.zone = []) ∨ ((decide (m.self ≠ [])) = true ∧ m.part = [])) 8, (if m.part = [] then 0 else a_F m.part), (if m.zone = [] then 0 else a_L m.zone), a_b (m.strat < 0 ∨ 2 < m.strat) 1, a_b (m.owner ≠ [] ∧ (a_i 24 m.owner = false ∨ m.owner = d_M)) 4, a_b (m.cost < 1 ∨ 16 < m.cost) 1]) := by
 unfold e_m
 simp only [d_m, j_C]
 congr 3 <;> simp
set_option maxRecDepth 100000
theorem f_u (m : Mdl) (p q : Pl) (w : World) (hW : a_v w 1 a_w) (hU : c_7 w) (hC : b_1 w p.1 m.self) (hQ : b_L w q.1 m.query) (ho : m.ok) :
  Calls prog 54 #[.agg #[str m.name, slV p m.self.length, slV q m.query.length, str m.part, str m.zone, .int .i64 m.strat, str m.owner, .int .i64 m.cost]] w fun e w' => e = .returned (.int .i64 (e_m m)) ∧ Below w.heap.size w w' := by
 obtain ⟨B, hBd⟩ : ∃ B, B = w.heap.size := ⟨_, rfl⟩
 have HE := a_2 (n_Y m)
 have HFr := a_2 (fun (K : Nat) (V : World) (hb : Below w.heap.size w V) (hB : d_F V B m p q) (hS : V.heap[B + 1]? = some (.cells #[.bool (decide (m.self ≠ []))] 4)) (hK : V.heap[K]? = some (.cells #[.func (.func 102) #[] #[a_f B], .func (.func 104) #[] #[a_f (B + 1), a_f B], .func (.func 106) #[] #[a_f B, a_f (B + 1)], .func (.func 107) #[] #[a_f B], .func (.func 109) #[] #[a_f B], .func (.func 110) #[] #[a_f B], .func (.func 111) #[] #[a_f B], .func (.func 112) #[] #[a_f B]] 80)) => l_E B K m p q w V hb hB hS hK hW hU hQ ho)
 have H1 := a_2 (fun W (hb : Below w.heap.size w W) => c_Q p.1 m.self p.2 W (hW.below hb) (hC.below hb) ho.self)
 clear hW hU hC hQ ho
 generalize d_m [b_o m.query, a_b ((decide (m.self ≠ [])) ≠ c_N (a_I m.query) b_P) 8, a_b (decide (m.part = []) ≠ decide (m.zone = []) ∨ ((decide (m.self ≠ [])) = true ∧ m.part = [])) 8, (if m.part = [] then 0 else a_F m.part), (if m.zone = [] then 0 else a_L m.zone), a_b (m.strat < 0 ∨ 2 < m.strat) 1, a_b (m.owner ≠ [] ∧ (a_i 24 m.owner = false ∨ m.owner = d_M)) 4, a_b (m.cost < 1 ∨ 16 < m.cost) 1] = v at *
 generalize e_m m = r at *
 have hself : m.self = [] ∨ (m.self ≠ [] ∧ 0 < m.self.length) := by
  cases h : m.self
  ·exact .inl rfl
  ·exact .inr ⟨s_, s_⟩
 rcases hself with hs | ⟨hs, hl⟩
 ·have HR := a_2 (HE.out.trans (by rw [if_pos hs, a_m]))
  have h0 : m.self.length = 0 := by rw [hs]; rfl
  have hsf : (decide (m.self ≠ [])) = false := by simp [hs]
  rw [hsf] at HFr
  rw [h0]
  have HB9 := a_2 (show ∀ W, W.heap[B]? = some (.cells #[str m.name, slV p 0, slV q m.query.length, str m.part, str m.zone, .int .i64 m.strat, str m.owner, .int .i64 m.cost] 62) → d_F W B m p q from fun W h => by rw [d_F, h0]; exact h)
  clear HE H1 hs h0 hsf
  subst hBd
  go_enter func54, ntmps54
  go_wp2_with (go_at_call 20; refine (HFr.out _ _ zX (HB9.out _ (a_K (a_K (heap_alloc_new _ _)))) (a_K (a_M _ _ _ s_)) (a_M _ _ _ s_)).mono ?_; rintro e w2 ⟨rfl, hb2⟩)
  go_ret
  exact ⟨a_d HR.out.symm, a_9 hb2 zX⟩
 ·have hsf : (decide (m.self ≠ [])) = true := by simp [hs]
  rw [hsf] at HFr
  rw [if_neg hs] at HE
  have hl0 : ((m.self.length : Nat) : Int) > 0 := by omega
  have HB0 := a_2 (show Below w.heap.size w ((w.alloc (.cells #[str m.name, slV p m.self.length, slV q m.query.length, str m.part, str m.zone, .int .i64 m.strat, str m.owner, .int .i64 m.cost] 62)).alloc (.cells #[.bool true] 4)) from zX)
  by_cases hv : e_K m.self = 0
  rotate_left
  ·have HR := a_2 (HE.out.trans (a_h hv))
   have hvb : (e_K m.self != 0) = true := by simpa using hv
   generalize e_K m.self = x at *; clear HE HFr hv hs hsf
   go_enter func54, ntmps54
   go_wp2_with (go_at_call 93; refine (H1.out _ HB0.out).mono ?_; rintro e w1 ⟨rfl, hb1⟩; have hx1 := a_2 hb1)
   all_goals first | (exfalso; omega) | skip
   go_ret
   exact ⟨a_d HR.out.symm, a_9 hb1 HB0.out⟩
  ·have HR := a_2 (HE.out.trans (by rw [hv, a_m]))
   rw [hv] at H1; clear HE hv hs hsf; subst hBd
   go_enter func54, ntmps54
   go_wp2_with (first
    | (go_at_call 93; refine (H1.out _ HB0.out).mono ?_; rintro e w1 ⟨rfl, hb1⟩; have hx1 := a_2 hb1)
    | (go_at_call 20; refine (HFr.out _ _ (a_9 zX (a_9 hb1 HB0.out)) (a_K ((hb1.block _ m_).trans (a_K (heap_alloc_new _ _)))) (a_K ((hb1.block _ s_).trans (a_M _ _ _ s_))) (a_M _ _ _ s_)).mono ?_; rintro e w2 ⟨rfl, hb2⟩))
   all_goals first | (exfalso; omega) | skip
   go_ret
   exact ⟨a_d HR.out.symm, a_9 hb2 (a_9 zX (a_9 hb1 HB0.out))⟩
end Go.Proofs.YtnpjibaolicbmaaGreatDoor
