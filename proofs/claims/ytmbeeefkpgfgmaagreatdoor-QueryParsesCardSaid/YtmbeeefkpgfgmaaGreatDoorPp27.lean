/- Parts of the proof. -/
import Derived.Test.YtmbeeefkpgfgmaaGreatDoorPp26
set_option linter.unusedVariables false
set_option linter.unusedSimpArgs false
set_option maxHeartbeats 4000000
namespace Go.Proofs.YtmbeeefkpgfgmaaGreatDoor
open Go.Proofs.Tryz
open Go.RowKit Go.WideMaps Go.Maps
def i_E (ops : Array Oper) (md : Region.Mode) (i : Nat) (op : Op) (dst : Option Tmp) (deps : List Nat) : Prop :=
 ∃ o, ops[i]? = some o ∧ o.op = op ∧ o.dst = dst ∧ o.guard = none ∧ deps.all (fun d => o.after.any fun e => Region.binds md e && e.on == d) = true
theorem i_E.ready {ops : Array Oper} {md : Region.Mode} {i : Nat} {op : Op} {dst : Option Tmp} {deps : List Nat} (h : i_E ops md i op dst deps) {l : Array Bool} (hr : i ∈ Region.ready md ops l) : l.getD i true = false ∧ ∀ d ∈ deps, l.getD d false = true := by
 obtain ⟨o, h1, _, _, _, h5⟩ := h
 obtain ⟨h0, o', h1', ha⟩ := mem_ready.1 hr
 rw [h1] at h1'
 injection h1' with e
 subst e
 refine ⟨h0, fun d hd => ?_⟩
 have h6 := List.all_eq_true.1 h5 d hd
 obtain ⟨e, he, h7⟩ := Array.any_eq_true'.1 h6
 simp only [Bool.and_eq_true, beq_iff_eq] at h7
 rw [← h7.2]
 exact ha e he h7.1
theorem i_E.ok {P : Program} {ops : Array Oper} {md : Region.Mode} {Q : Exit → Act → World → Prop} {i : Nat} {op : Op} {dst : Option Tmp} {deps : List Nat} (h : i_E ops md i op dst deps) {a : Act} {w w' : World} {K : Act → World → Prop} {v : Value}
  (hr : ∀ o : Oper, o.op = op → (execOp a.eval o).run P w = .ok (.value v) w') (hK : K (a.put dst v) w') : wpOp P ops Q i K a w := by
 obtain ⟨o, h1, h2, h3, h4, _⟩ := h
 unfold wpOp
 rw [h1]
 simp only [Region.wanted, h4, if_true]
 left
 unfold Oper.wp
 rw [hr o h2, Oper.upon_value, h3]
 exact hK
theorem i_E.skip {P : Program} {ops : Array Oper} {md : Region.Mode} {Q : Exit → Act → World → Prop} {i : Nat} {op : Op} {deps : List Nat} (h : i_E ops md i op none deps) {a : Act} {w w' : World} {K : Act → World → Prop}
  (hr : ∀ o : Oper, o.op = op → (execOp a.eval o).run P w = .ok .skip w') (hK : K a w') : wpOp P ops Q i K a w := by
 obtain ⟨o, h1, h2, h3, h4, _⟩ := h
 unfold wpOp
 rw [h1]
 simp only [Region.wanted, h4, if_true]
 left
 unfold Oper.wp
 rw [hr o h2, Oper.upon_skip, h3]
 exact hK
theorem i_E.enter {P : Program} {ops : Array Oper} {md : Region.Mode} {Q : Exit → Act → World → Prop} {i : Nat} {op : Op} {dst : Option Tmp} {deps : List Nat} (h : i_E ops md i op dst deps) {a : Act} {w : World} {K : Act → World → Prop} {f : FuncId} {args : Array Value}
  (hr : ∀ o : Oper, o.op = op → (execOp a.eval o).run P w = .ok (.enter f args) w) (hK : Calls P f args w fun e w'' => ∃ v, e = .returned v ∧ K (a.put dst v) w'') : wpOp P ops Q i K a w := by
 obtain ⟨o, h1, h2, h3, h4, _⟩ := h
 unfold wpOp
 rw [h1]
 simp only [Region.wanted, h4, if_true]
 left
 unfold Oper.wp
 rw [hr o h2, Oper.upon_enter]
 refine Calls.mono hK ?_
 rintro e w'' ⟨v, rfl, h⟩
 show K (a.put o.dst v) w''
 rw [h3]
 exact h
theorem i_G {md : Region.Mode} {ops : Array Oper} {l : Array Bool} (hz : l.size = ops.size) (hd : (List.range ops.size).all (fun i => ((ops[i]?).map fun o => o.after.all fun e => decide (e.on < i)).getD true) = true) (hr : Region.ready md ops l = []) :
  ∀ n i, i < n → i < ops.size → l.getD i false = true
 | 0, i, h, _ => absurd h (Nat.not_lt_zero _)
 | n + 1, i, h, hi => by
  have ih := i_G hz hd hr n
  by_cases hl : l.getD i false = true
  ·exact hl
  ·exfalso
   have hm : i ∈ Region.ready md ops l := by
    refine mem_ready.2 ⟨?_, ops[i], by simp [hi], fun e he _ => ?_⟩
    ·have : i < l.size := by omega
     simp only [Array.getD_eq_getD_getElem?, this, getElem?_pos, Option.getD_some] at hl ⊢
     simpa using hl
    ·have h1 := List.all_eq_true.1 hd i (List.mem_range.2 hi)
     simp only [hi, getElem?_pos, Option.map_some, Option.getD_some] at h1; obtain ⟨k, hk, rfl⟩ := Array.mem_iff_getElem.1 he; have h2 := of_decide_eq_true (Array.all_eq_true.1 h1 k hk); exact ih _ o_ o_
   rw [hr] at hm
   cases hm
def frQ (P Bp : Nat) (v5 v15 v17 v22 v2 : Value) : Act :=
 { tmps := #[a_G P, a_G Bp, v2, .func (.func 171) #[] #[a_G Bp], .func (.func 171) #[] #[a_G Bp], v5, .func (.func 173) #[] #[a_G Bp], a_G P, .func (.func 175) #[a_G P] #[], .func (.func 176) #[] #[a_G Bp], .func (.func 178) #[] #[a_G Bp], .func (.func 180) #[] #[a_G Bp], .func (.func 181) #[] #[a_G Bp], .func (.func 183) #[] #[a_G Bp], .func (.func 171) #[] #[a_G Bp], v15, .func (.func 171) #[] #[a_G Bp], v17, a_G P, .func (.func 185) #[a_G P] #[], a_G P, .func (.func 186) #[a_G P] #[], v22], defers := [] }
set_option maxRecDepth 100000
theorem l_A (op : Int) (W : World) (Bp : Nat) : Calls prog 171 #[.int .i64 op, a_G Bp] W fun e w' => ∃ b, e = .returned (.func (.func 172) #[] #[a_G b, a_G Bp]) ∧ W.heap.size ≤ b ∧ b < w'.heap.size ∧ w'.heap[b]? = some (.cells #[.int .i64 op] 3 (0, 0)) ∧ Below W.heap.size W w' := by
 refine p_0 ?_; intro hmf
 go_enter func171, ntmps171
 go_wp2
 go_ret
 exact ⟨W.heap.size, rfl, l_ _, by simp [go_sem], heap_alloc_new _ _, zX⟩
def q_h (W w : World) (P Bp b8 b9 : Nat) (l : Array Bool) (Bm : Nat) : Prop :=
 W.heap.size < Bm ∧ ∃ n D, n ≤ (List.range 31).countP (fun i => l.getD i false) ∧ w.ownsMap prog 9 rdQ Bm n D ∧ ∀ x, D.atKey (.string x) (.held .nilFunc) = .held (gvQ P Bp b8 b9 l x)
def m_V (W : World) (P Bp : Nat) (l : Array Bool) (a : Act) (w : World) : Prop :=
 l.size = 31 ∧ Below W.heap.size W w ∧ w.heap[Bp]? = some (.cells #[a_G P] 88 (0, 0)) ∧ Bp < w.heap.size ∧ (l.getD 1 false = true ∧ l.getD 3 false = true ∧ l.getD 4 false = true ∧ l.getD 6 false = true ∧ l.getD 8 false = true ∧ l.getD 10 false = true ∧ l.getD 12 false = true ∧ l.getD 14 false = true ∧ l.getD 16 false = true ∧ l.getD 19 false = true ∧ l.getD 23 false = true ∧ l.getD 24 false = true ∧ l.getD 26 false = true ∧ l.getD 27 false = true) ∧ (l.getD 18 false = true → l.getD 17 false = true) ∧ (l.getD 21 false = true → l.getD 20 false = true) ∧ (l.getD 29 false = true → l.getD 0 false = true) ∧ (l.getD 30 false = true → l.getD 29 false = true) ∧ (∀ j, j ∈ [2, 5, 7, 9, 11, 13, 15, 18, 21, 22, 25, 28] → l.getD j false = true → l.getD 0 false = true) ∧
 ∃ Bm b8 b9 v5 v15 v17 v22 v2, a = frQ P Bp v5 v15 v17 v22 v2 ∧ (l.getD 0 false = true → v5 = .map (some Bm) ∧ q_h W w P Bp b8 b9 l Bm) ∧
  (l.getD 17 false = true → v15 = .func (.func 172) #[] #[a_G b8, a_G Bp] ∧ W.heap.size < b8 ∧ b8 < w.heap.size ∧ w.heap[b8]? = some (.cells #[.int .i64 8] 3 (0, 0)) ∧ (l.getD 0 false = true → b8 ≠ Bm)) ∧
  (l.getD 20 false = true → v17 = .func (.func 172) #[] #[a_G b9, a_G Bp] ∧ W.heap.size < b9 ∧ b9 < w.heap.size ∧ w.heap[b9]? = some (.cells #[.int .i64 9] 3 (0, 0)) ∧ (l.getD 0 false = true → b9 ≠ Bm)) ∧
  (l.getD 29 false = true → v22 = .map (some Bm)) ∧ (l.getD 30 false = true → v2 = .map (some Bm))
set_option maxRecDepth 512
theorem i_m {l : Array Bool} {i j : Nat} (hi : i < l.size) : ((l.setIfInBounds i true).getD j false = true) ↔ (j = i ∨ l.getD j false = true) := by
 by_cases h : i = j
 ·subst h
  simp [Array.getD_eq_getD_getElem?, hi]
 ·simp [Array.getD_eq_getD_getElem?, h, Ne.symm h]
theorem b_A {l : Array Bool} {i : Nat} (hi : i < l.size) : l.getD i true = l.getD i false := by
 simp [Array.getD_eq_getD_getElem?, hi]
theorem l_E (x : a_3) : g_1 (b_f x) ∈ [2, 5, 7, 9, 11, 13, 15, 18, 21, 22, 25, 28, 31] := by
 unfold g_1
 split <;> (try split) <;> (try split) <;> (try split) <;> (try split) <;> (try split) <;> (try split) <;> (try split) <;> (try split) <;> (try split) <;> (try split) <;> (try split) <;> simp
theorem p_W {P Bp b8 b9 : Nat} {l : Array Bool} {i : Nat} (hi : i ∉ [2, 5, 7, 9, 11, 13, 15, 18, 21, 22, 25, 28, 31]) (x : a_3) : gvQ P Bp b8 b9 (l.setIfInBounds i true) x = gvQ P Bp b8 b9 l x := by
 have h := l_E x
 have hne : i ≠ g_1 (b_f x) := fun e => hi (e ▸ h)
 unfold gvQ
 simp [Array.getD_eq_getD_getElem?, hne]
theorem t_o {P Bp b8 b8' b9 : Nat} {l : Array Bool} (h : ¬ l.getD 18 false = true) (x : a_3) : gvQ P Bp b8' b9 l x = gvQ P Bp b8 b9 l x := by
 unfold gvQ
 by_cases h8 : b_f x = 8
 ·rw [h8, show g_1 8 = 18 from rfl, if_neg h, if_neg h]
 ·unfold fvQ
  simp only [h8, if_false]
theorem t_1 {P Bp b8 b9 b9' : Nat} {l : Array Bool} (h : ¬ l.getD 21 false = true) (x : a_3) : gvQ P Bp b8 b9' l x = gvQ P Bp b8 b9 l x := by
 unfold gvQ
 by_cases h8 : b_f x = 9
 ·rw [h8, show g_1 9 = 21 from rfl, if_neg h, if_neg h]
 ·unfold fvQ
  simp only [h8, if_false]
theorem q_h.keep {W w w' : World} {P Bp b8 b9 : Nat} {l : Array Bool} {Bm i : Nat} {row : Option Nat} (h : q_h W w P Bp b8 b9 l Bm) (hg : w.grownBy w' row) (hne : some Bm ≠ row) (hl : l.size = 31) (hi : i < 31) (hin : i ∉ [2, 5, 7, 9, 11, 13, 15, 18, 21, 22, 25, 28, 31]) : q_h W w' P Bp b8 b9 (l.setIfInBounds i true) Bm := by
 obtain ⟨h1, n, D, h2, h3, h4⟩ := h
 refine ⟨h1, n, D, Nat.le_trans h2 (List.countP_mono_left fun j _ hj => (i_m o_).2 (.inr hj)), h3.kept hg hne, fun x => ?_⟩
 rw [h4, p_W hin]
theorem q_h.put {W w : World} {P Bp b8 b9 : Nat} {l : Array Bool} {Bm : Nat} {T e : TypeId} (hT : prog.underlying T = some (.map 9 e)) (h : q_h W w P Bp b8 b9 l Bm) {k : a_3} {n : Int} (hk : (k, n) ∈ b_o) (hs : g_1 n < 31) (hl : l.size = 31) (hn : l.getD (g_1 n) false = false) (hkl : k.length ≤ maxLen) :
  ∃ w', (Instr.mapUpdate T (.map (some Bm)) (.string ⟨k.toArray⟩) (fvQ P Bp b8 b9 n)).run prog w = .ok () w' ∧ q_h W w' P Bp b8 b9 (l.setIfInBounds (g_1 n) true) Bm ∧ w.grownBy w' (some Bm) := by
 obtain ⟨h1, m, D, h2, h3, h4⟩ := h
 have hc : (List.range 31).countP (fun i => l.getD i false) ≤ 31 := by
  have := List.countP_le_length (p := fun i => l.getD i false) (l := List.range 31)
  simpa using this
 obtain ⟨w', r1, r2, r3⟩ := h3.update (t := T) (val := fvQ P Bp b8 b9 n) (kl := .string k) a_Q hT (by
   have : 31 < maxLen := by decide
   omega) (keyOf_string_mk (s := ⟨k.toArray⟩) underlying9 (by show k.toArray.size ≤ _; simpa using hkl)) rfl
 refine ⟨w', r1, ⟨h1, m + 1, _, ?_, r2, fun x => ?_⟩, r3⟩
 ·have := f_w (p := fun i => (l.setIfInBounds (g_1 n) true).getD i false) (q := fun i => l.getD i false) (List.range 31) (fun j _ hj => (i_m o_).2 (.inr hj)) (g_1 n) (List.mem_range.2 hs) ((i_m o_).2 (.inl rfl)) hn
  omega
 ·rw [p_E hk o_]
  by_cases hx : x = k
  ·subst hx
   rw [if_pos rfl, atKey_put_same (k := .string x) h3.isMap trivial]
  ·rw [if_neg hx, atKey_put_other (fun e => hx (by injection e)), h4]
def xQ (n : Int) : Operand := if n = 1 then .tmp 6 else if n = 2 then .tmp 8 else if n = 3 then .tmp 9 else if n = 4 then .tmp 10 else if n = 5 then .tmp 11 else if n = 6 then .tmp 12 else if n = 7 then .tmp 13 else if n = 8 then .tmp 15 else if n = 9 then .tmp 17 else if n = 10 then .func 184 else if n = 11 then .tmp 19 else .tmp 21
def t_r (n : Int) : List Nat := if n = 8 then [0, 17] else if n = 9 then [0, 20] else [0]
theorem p_N {k : a_3} {n : Int} (h : (k, n) ∈ b_o) (P Bp b8 b9 : Nat) (v5 v15 v17 v22 v2 : Value) (h8 : n = 8 → v15 = .func (.func 172) #[] #[a_G b8, a_G Bp]) (h9 : n = 9 → v17 = .func (.func 172) #[] #[a_G b9, a_G Bp]) :
  (frQ P Bp v5 v15 v17 v22 v2).eval (xQ n) = fvQ P Bp b8 b9 n := by
 simp only [b_o, List.mem_cons, List.not_mem_nil, or_false, Prod.mk.injEq] at h
 rcases h with ⟨rfl, rfl⟩ | ⟨rfl, rfl⟩ | ⟨rfl, rfl⟩ | ⟨rfl, rfl⟩ | ⟨rfl, rfl⟩ | ⟨rfl, rfl⟩ | ⟨rfl, rfl⟩ | ⟨rfl, rfl⟩ | ⟨rfl, rfl⟩ | ⟨rfl, rfl⟩ | ⟨rfl, rfl⟩ | ⟨rfl, rfl⟩
 all_goals first
  | rfl
  | exact h8 rfl
  | exact h9 rfl
theorem k_1 {k : a_3} {n : Int} (h : (k, n) ∈ b_o) : g_1 n < 31 ∧ g_1 n ∉ [0, 17, 20, 29, 30] ∧ k.length ≤ maxLen ∧ (g_1 n = 18 → n = 8) ∧ (g_1 n = 21 → n = 9) := by
 simp only [b_o, List.mem_cons, List.not_mem_nil, or_false, Prod.mk.injEq] at h
 rcases h with ⟨rfl, rfl⟩ | ⟨rfl, rfl⟩ | ⟨rfl, rfl⟩ | ⟨rfl, rfl⟩ | ⟨rfl, rfl⟩ | ⟨rfl, rfl⟩ | ⟨rfl, rfl⟩ | ⟨rfl, rfl⟩ | ⟨rfl, rfl⟩ | ⟨rfl, rfl⟩ | ⟨rfl, rfl⟩ | ⟨rfl, rfl⟩
 all_goals decide
theorem b_K {W : World} {P Bp : Nat} (hBW : Bp = W.heap.size) {ops : Array Oper} {md : Region.Mode} {Q : Exit → Act → World → Prop} {T e : TypeId} (hT : prog.underlying T = some (.map 9 e)) {k : a_3} {n : Int} (hk : (k, n) ∈ b_o)
  (h : i_E ops md (g_1 n) (.insert T (.tmp 5) (.const (.string ⟨k.toArray⟩)) (xQ n)) none (t_r n)) {l : Array Bool} {a : Act} {w : World} (hI : m_V W P Bp l a w) (hr : g_1 n ∈ Region.ready md ops l) :
  wpOp prog ops Q (g_1 n) (fun a' w' => m_V W P Bp (l.setIfInBounds (g_1 n) true) a' w') a w := by
 obtain ⟨hs, hni, hkl, hn8, hn9⟩ := k_1 hk
 obtain ⟨hl, hb, hc, hcl, ⟨p1, p3, p4, p6, p8, p10, p12, p14, p16, p19, p23, p24, p26, p27⟩, i18, i21, i29, i30, iIns, Bm, b8, b9, v5, v15, v17, v22, v2, rfl, c0, c17, c20, c29, c30⟩ := hI
 obtain ⟨hnl, hd⟩ := h.ready hr
 rw [b_A o_] at hnl
 have d0 : l.getD 0 false = true := hd 0 (by unfold t_r; split <;> (try split) <;> simp)
 have d17 : n = 8 → l.getD 17 false = true := fun e => hd 17 (by rw [e]; simp [t_r])
 have d20 : n = 9 → l.getD 20 false = true := fun e => hd 20 (by rw [e]; simp [t_r])
 obtain ⟨rfl, hM⟩ := c0 d0
 obtain ⟨w', r1, r2, r3⟩ := hM.put hT hk hs hl hnl hkl
 have hx := p_N hk P Bp b8 b9 (.map (some Bm)) v15 v17 v22 v2 (fun e => (c17 (d17 e)).1) (fun e => (c20 (d20 e)).1)
 have hBm : W.heap.size < Bm := hM.1
 have hz := r3.size
 have no : ∀ j, j ∈ [0, 17, 20, 29, 30] → ((l.setIfInBounds (g_1 n) true).getD j false = true → l.getD j false = true) := fun j hj hh => ((i_m o_).1 hh).resolve_left (fun e => hni (e ▸ hj))
 have pe : ∀ {j}, l.getD j false = true → (l.setIfInBounds (g_1 n) true).getD j false = true := fun hh => (i_m o_).2 (.inr hh)
 have hbz := hb.size
 refine h.skip (w' := w') (fun o ho => ?_) ⟨by simpa using hl, hb.grown r3 hbz (by intro k e; injection e with e; omega), ?_, o_, ⟨pe p1, pe p3, pe p4, pe p6, pe p8, pe p10, pe p12, pe p14, pe p16, pe p19, pe p23, pe p24, pe p26, pe p27⟩, fun hh => ?_, fun hh => ?_, fun hh => pe (i29 (no 29 s_ hh)), fun hh => pe (i30 (no 30 s_ hh)), fun j hj hh => pe d0, Bm, b8, b9, .map (some Bm), v15, v17, v22, v2, rfl, fun _ => ⟨rfl, r2⟩, fun hh => ?_, fun hh => ?_, fun hh => c29 (no 29 s_ hh), fun hh => c30 (no 30 s_ hh)⟩
 ·have hr1 : (Instr.mapUpdate T ((frQ P Bp (.map (some Bm)) v15 v17 v22 v2).eval (.tmp 5)) (.string ⟨k.toArray⟩) ((frQ P Bp (.map (some Bm)) v15 v17 v22 v2).eval (xQ n))).run prog w = .ok () w' := by rw [hx]; exact r1
  simp [execOp, ho, Act.eval] at hr1 ⊢
  rw [hr1]
  rfl
 ·exact (r3.block Bp hcl i_).trans hc
 ·rcases (i_m o_).1 hh with e | hh
  ·exact pe (d17 (hn8 e.symm))
  ·exact pe (i18 hh)
 ·rcases (i_m o_).1 hh with e | hh
  ·exact pe (d20 (hn9 e.symm))
  ·exact pe (i21 hh)
 ·obtain ⟨q1, q2, q3, q4, q5⟩ := c17 (no 17 s_ hh)
  exact w_y
 ·obtain ⟨q1, q2, q3, q4, q5⟩ := c20 (no 20 s_ hh)
  exact w_y
theorem q_6 {W : World} {P Bp : Nat} (hBW : Bp = W.heap.size) {ops : Array Oper} {md : Region.Mode} {Q : Exit → Act → World → Prop} {T : TypeId} (h : i_E ops md 0 (.makeMap T none) (some 5) []) {l : Array Bool} {a : Act} {w : World} (hI : m_V W P Bp l a w) (hr : 0 ∈ Region.ready md ops l) :
  wpOp prog ops Q 0 (fun a' w' => m_V W P Bp (l.setIfInBounds 0 true) a' w') a w := by
 obtain ⟨hl, hb, hc, hcl, ⟨p1, p3, p4, p6, p8, p10, p12, p14, p16, p19, p23, p24, p26, p27⟩, i18, i21, i29, i30, iIns, Bm, b8, b9, v5, v15, v17, v22, v2, rfl, c0, c17, c20, c29, c30⟩ := hI
 obtain ⟨hnl, hd⟩ := h.ready hr
 rw [b_A o_] at hnl
 have hz0 := hb.size
 have no : ∀ j, j ≠ 0 → ((l.setIfInBounds 0 true).getD j false = true → l.getD j false = true) := fun j hj hh => ((i_m o_).1 hh).resolve_left hj
 have pe : ∀ {j}, l.getD j false = true → (l.setIfInBounds 0 true).getD j false = true := fun hh => (i_m o_).2 (.inr hh)
 have hins : ∀ j, j ∈ [2, 5, 7, 9, 11, 13, 15, 18, 21, 22, 25, 28] → ¬ l.getD j false = true := fun j hj hh => by
  have := iIns j hj hh
  rw [hnl] at this
  cases this
 have hg := World.grownBy_alloc w (.map #[] 0) none
 refine h.ok (v := .map (some w.heap.size)) (w' := w.alloc (.map #[] 0)) (fun o ho => by simp [execOp, ho, run_makeMap]) ⟨by simpa using hl, hb.alloc o_ _, (hg.block Bp hcl s_).trans hc, m_, ⟨pe p1, pe p3, pe p4, pe p6, pe p8, pe p10, pe p12, pe p14, pe p16, pe p19, pe p23, pe p24, pe p26, pe p27⟩, fun hh => pe (i18 (no 18 d_ hh)), fun hh => pe (i21 (no 21 d_ hh)), fun hh => pe (i29 (no 29 d_ hh)), fun hh => pe (i30 (no 30 d_ hh)), fun j hj hh => (i_m o_).2 (.inl rfl), w.heap.size, b8, b9, .map (some w.heap.size), v15, v17, v22, v2, rfl, fun _ => ⟨rfl, ?_⟩, fun hh => ?_, fun hh => ?_, fun hh => ?_, fun hh => ?_⟩
 ·refine ⟨o_, 0, _, Nat.zero_le _, World.ownsMap_made _ _ _ _, fun x => ?_⟩
  have h1 : gvQ P Bp b8 b9 (l.setIfInBounds 0 true) x = .nilFunc := by
   unfold gvQ; rw [if_neg]; intro hh; have h2 := l_E x
   by_cases h31 : g_1 (b_f x) = 31
   ·rw [h31] at hh
    have h3 := no 31 d_ hh
    simp [Array.getD_eq_getD_getElem?, hl] at h3
   ·have hj : g_1 (b_f x) ∈ [2, 5, 7, 9, 11, 13, 15, 18, 21, 22, 25, 28] := by
     simp only [List.mem_cons, List.not_mem_nil, or_false] at h2 ⊢
     omega
    exact hins _ hj (no _ (by intro e; rw [e] at hj; exact absurd hj d_) hh)
  rw [h1]
  rfl
 ·obtain ⟨q1, q2, q3, q4, q5⟩ := c17 (no 17 d_ hh)
  exact ⟨q1, q2, m_, (hg.block _ q3 s_).trans q4, fun _ => by omega⟩
 ·obtain ⟨q1, q2, q3, q4, q5⟩ := c20 (no 20 d_ hh)
  exact ⟨q1, q2, m_, (hg.block _ q3 s_).trans q4, fun _ => by omega⟩
 ·have := i29 (no 29 d_ hh)
  rw [hnl] at this
  cases this
 ·have := i29 (i30 (no 30 d_ hh))
  rw [hnl] at this
  cases this
theorem o_U {W : World} {P Bp : Nat} (hBW : Bp = W.heap.size) {ops : Array Oper} {md : Region.Mode} {Q : Exit → Act → World → Prop} (h : i_E ops md 29 (.move (.tmp 5)) (some 22) [0]) {l : Array Bool} {a : Act} {w : World} (hI : m_V W P Bp l a w) (hr : 29 ∈ Region.ready md ops l) :
  wpOp prog ops Q 29 (fun a' w' => m_V W P Bp (l.setIfInBounds 29 true) a' w') a w := by
 obtain ⟨hl, hb, hc, hcl, ⟨p1, p3, p4, p6, p8, p10, p12, p14, p16, p19, p23, p24, p26, p27⟩, i18, i21, i29, i30, iIns, Bm, b8, b9, v5, v15, v17, v22, v2, rfl, c0, c17, c20, c29, c30⟩ := hI
 obtain ⟨hnl, hd⟩ := h.ready hr
 rw [b_A o_] at hnl
 have hz0 := hb.size
 have no : ∀ j, j ≠ 29 → ((l.setIfInBounds 29 true).getD j false = true → l.getD j false = true) := fun j hj hh => ((i_m o_).1 hh).resolve_left hj
 have pe : ∀ {j}, l.getD j false = true → (l.setIfInBounds 29 true).getD j false = true := fun hh => (i_m o_).2 (.inr hh)
 obtain ⟨rfl, hM⟩ := c0 (hd 0 s_)
 refine h.ok (v := .map (some Bm)) (w' := w) (fun o ho => by simp [execOp, ho, Act.eval, frQ]) ⟨by simpa using hl, hb, hc, hcl, ⟨pe p1, pe p3, pe p4, pe p6, pe p8, pe p10, pe p12, pe p14, pe p16, pe p19, pe p23, pe p24, pe p26, pe p27⟩, fun hh => pe (i18 (no 18 d_ hh)), fun hh => pe (i21 (no 21 d_ hh)), fun hh => pe (hd 0 s_), fun hh => (i_m o_).2 (.inl rfl), fun j hj hh => pe (hd 0 s_), Bm, b8, b9, .map (some Bm), v15, v17, .map (some Bm), v2, rfl, fun _ => ⟨rfl, hM.keep (g_ w none) s_ hl d_ d_⟩, fun hh => ?_, fun hh => ?_, fun _ => rfl, fun hh => c30 (no 30 d_ hh)⟩
 ·obtain ⟨q1, q2, q3, q4, q5⟩ := c17 (no 17 d_ hh)
  exact t_J
 ·obtain ⟨q1, q2, q3, q4, q5⟩ := c20 (no 20 d_ hh)
  exact t_J
theorem o_c {W : World} {P Bp : Nat} (hBW : Bp = W.heap.size) {ops : Array Oper} {md : Region.Mode} {Q : Exit → Act → World → Prop} (h : i_E ops md 30 (.assign (.tmp 22)) (some 2) [29]) {l : Array Bool} {a : Act} {w : World} (hI : m_V W P Bp l a w) (hr : 30 ∈ Region.ready md ops l) :
  wpOp prog ops Q 30 (fun a' w' => m_V W P Bp (l.setIfInBounds 30 true) a' w') a w := by
 obtain ⟨hl, hb, hc, hcl, ⟨p1, p3, p4, p6, p8, p10, p12, p14, p16, p19, p23, p24, p26, p27⟩, i18, i21, i29, i30, iIns, Bm, b8, b9, v5, v15, v17, v22, v2, rfl, c0, c17, c20, c29, c30⟩ := hI
 obtain ⟨hnl, hd⟩ := h.ready hr
 rw [b_A o_] at hnl
 have hz0 := hb.size
 have no : ∀ j, j ≠ 30 → ((l.setIfInBounds 30 true).getD j false = true → l.getD j false = true) := fun j hj hh => ((i_m o_).1 hh).resolve_left hj
 have pe : ∀ {j}, l.getD j false = true → (l.setIfInBounds 30 true).getD j false = true := fun hh => (i_m o_).2 (.inr hh)
 obtain rfl := c29 (hd 29 s_)
 refine h.ok (v := .map (some Bm)) (w' := w) (fun o ho => by simp [execOp, ho, Act.eval, frQ]) ⟨by simpa using hl, hb, hc, hcl, ⟨pe p1, pe p3, pe p4, pe p6, pe p8, pe p10, pe p12, pe p14, pe p16, pe p19, pe p23, pe p24, pe p26, pe p27⟩, fun hh => pe (i18 (no 18 d_ hh)), fun hh => pe (i21 (no 21 d_ hh)), fun hh => pe (i29 (no 29 d_ hh)), fun hh => pe (hd 29 s_), fun j hj hh => pe (iIns j hj (no j (by intro e; rw [e] at hj; exact absurd hj d_) hh)), Bm, b8, b9, v5, v15, v17, .map (some Bm), .map (some Bm), rfl, fun h0 => ⟨(c0 (no 0 d_ h0)).1, (c0 (no 0 d_ h0)).2.keep (g_ w none) s_ hl d_ d_⟩, fun hh => ?_, fun hh => ?_, fun _ => rfl, fun hh => rfl⟩
 ·obtain ⟨q1, q2, q3, q4, q5⟩ := c17 (no 17 d_ hh)
  exact t_J
 ·obtain ⟨q1, q2, q3, q4, q5⟩ := c20 (no 20 d_ hh)
  exact t_J
theorem n_a {W : World} {P Bp : Nat} (hBW : Bp = W.heap.size) {ops : Array Oper} {md : Region.Mode} {Q : Exit → Act → World → Prop} {c : Call} (h : i_E ops md 17 (.call c) (some 15) []) (hrun : ∀ v5 v15 v17 v22 v2 (w : World) (o : Oper), o.op = .call c → (execOp (frQ P Bp v5 v15 v17 v22 v2).eval o).run prog w = .ok (.enter 171 #[.int .i64 8, a_G Bp]) w) {l : Array Bool} {a : Act} {w : World} (hI : m_V W P Bp l a w) (hr : 17 ∈ Region.ready md ops l) :
  wpOp prog ops Q 17 (fun a' w' => m_V W P Bp (l.setIfInBounds 17 true) a' w') a w := by
 obtain ⟨hl, hb, hc, hcl, ⟨p1, p3, p4, p6, p8, p10, p12, p14, p16, p19, p23, p24, p26, p27⟩, i18, i21, i29, i30, iIns, Bm, b8, b9, v5, v15, v17, v22, v2, rfl, c0, c17, c20, c29, c30⟩ := hI
 obtain ⟨hnl, hd⟩ := h.ready hr
 rw [b_A o_] at hnl
 have hz0 := hb.size
 have no : ∀ j, j ≠ 17 → ((l.setIfInBounds 17 true).getD j false = true → l.getD j false = true) := fun j hj hh => ((i_m o_).1 hh).resolve_left hj
 have pe : ∀ {j}, l.getD j false = true → (l.setIfInBounds 17 true).getD j false = true := fun hh => (i_m o_).2 (.inr hh)
 refine h.enter (fun o ho => hrun _ _ _ _ _ w o ho) ((l_A 8 w Bp).mono ?_)
 rintro e w' ⟨b, rfl, r1, r2, r3, hb'⟩
 have hg := a_1 (r := none) hb'
 have hz := hb'.size
 have hno : ¬ l.getD 18 false = true := fun hh => by have := i18 hh; rw [hnl] at this; cases this
 refine ⟨_, rfl, by simpa using hl, Below.grown hb hg hz0 (by intro k e; cases e), (hg.block Bp hcl s_).trans hc, o_, ⟨pe p1, pe p3, pe p4, pe p6, pe p8, pe p10, pe p12, pe p14, pe p16, pe p19, pe p23, pe p24, pe p26, pe p27⟩, fun hh => (i_m o_).2 (.inl rfl), fun hh => pe (i21 (no 21 d_ hh)), fun hh => pe (i29 (no 29 d_ hh)), fun hh => pe (i30 (no 30 d_ hh)), fun j hj hh => pe (iIns j hj (no j (by intro e; rw [e] at hj; exact absurd hj d_) hh)), Bm, b, b9, v5, .func (.func 172) #[] #[a_G b, a_G Bp], v17, v22, v2, rfl, fun h0 => ⟨(c0 (no 0 d_ h0)).1, ?_⟩, fun hh => ?_, fun hh => ?_, fun hh => c29 (no 29 d_ hh), fun hh => c30 (no 30 d_ hh)⟩
 ·obtain ⟨m1, n, D, m2, m3, m4⟩ := (c0 (no 0 d_ h0)).2
  have hM : q_h W w P Bp b  b9 l Bm := ⟨m1, n, D, m2, m3, fun x => by rw [m4, t_o hno]⟩
  exact hM.keep hg s_ hl d_ d_
 ·exact ⟨rfl, o_, r2, r3, fun h0 => by have := (c0 (no 0 d_ h0)).2; obtain ⟨_, n, D, _, ho, _⟩ := this; have := ho.lt; omega⟩
 ·obtain ⟨q1, q2, q3, q4, q5⟩ := c20 (no 20 d_ hh)
  exact ⟨q1, q2, o_, (hg.block _ q3 s_).trans q4, fun h0 => q5 (no 0 d_ h0)⟩
theorem n_J {W : World} {P Bp : Nat} (hBW : Bp = W.heap.size) {ops : Array Oper} {md : Region.Mode} {Q : Exit → Act → World → Prop} {c : Call} (h : i_E ops md 20 (.call c) (some 17) []) (hrun : ∀ v5 v15 v17 v22 v2 (w : World) (o : Oper), o.op = .call c → (execOp (frQ P Bp v5 v15 v17 v22 v2).eval o).run prog w = .ok (.enter 171 #[.int .i64 9, a_G Bp]) w) {l : Array Bool} {a : Act} {w : World} (hI : m_V W P Bp l a w) (hr : 20 ∈ Region.ready md ops l) :
  wpOp prog ops Q 20 (fun a' w' => m_V W P Bp (l.setIfInBounds 20 true) a' w') a w := by
 obtain ⟨hl, hb, hc, hcl, ⟨p1, p3, p4, p6, p8, p10, p12, p14, p16, p19, p23, p24, p26, p27⟩, i18, i21, i29, i30, iIns, Bm, b8, b9, v5, v15, v17, v22, v2, rfl, c0, c17, c20, c29, c30⟩ := hI
 obtain ⟨hnl, hd⟩ := h.ready hr
 rw [b_A o_] at hnl
 have hz0 := hb.size
 have no : ∀ j, j ≠ 20 → ((l.setIfInBounds 20 true).getD j false = true → l.getD j false = true) := fun j hj hh => ((i_m o_).1 hh).resolve_left hj
 have pe : ∀ {j}, l.getD j false = true → (l.setIfInBounds 20 true).getD j false = true := fun hh => (i_m o_).2 (.inr hh)
 refine h.enter (fun o ho => hrun _ _ _ _ _ w o ho) ((l_A 9 w Bp).mono ?_)
 rintro e w' ⟨b, rfl, r1, r2, r3, hb'⟩
 have hg := a_1 (r := none) hb'
 have hz := hb'.size
 have hno : ¬ l.getD 21 false = true := fun hh => by have := i21 hh; rw [hnl] at this; cases this
 refine ⟨_, rfl, by simpa using hl, Below.grown hb hg hz0 (by intro k e; cases e), (hg.block Bp hcl s_).trans hc, o_, ⟨pe p1, pe p3, pe p4, pe p6, pe p8, pe p10, pe p12, pe p14, pe p16, pe p19, pe p23, pe p24, pe p26, pe p27⟩, fun hh => pe (i18 (no 18 d_ hh)), fun hh => (i_m o_).2 (.inl rfl), fun hh => pe (i29 (no 29 d_ hh)), fun hh => pe (i30 (no 30 d_ hh)), fun j hj hh => pe (iIns j hj (no j (by intro e; rw [e] at hj; exact absurd hj d_) hh)), Bm, b8, b, v5, v15, .func (.func 172) #[] #[a_G b, a_G Bp], v22, v2, rfl, fun h0 => ⟨(c0 (no 0 d_ h0)).1, ?_⟩, fun hh => ?_, fun hh => ?_, fun hh => c29 (no 29 d_ hh), fun hh => c30 (no 30 d_ hh)⟩
 ·obtain ⟨m1, n, D, m2, m3, m4⟩ := (c0 (no 0 d_ h0)).2
  have hM : q_h W w P Bp b8  b l Bm := ⟨m1, n, D, m2, m3, fun x => by rw [m4, t_1 hno]⟩
  exact hM.keep hg s_ hl d_ d_
 ·obtain ⟨q1, q2, q3, q4, q5⟩ := c17 (no 17 d_ hh)
  exact ⟨q1, q2, o_, (hg.block _ q3 s_).trans q4, fun h0 => q5 (no 0 d_ h0)⟩
 ·exact ⟨rfl, o_, r2, r3, fun h0 => by have := (c0 (no 0 d_ h0)).2; obtain ⟨_, n, D, _, ho, _⟩ := this; have := ho.lt; omega⟩
theorem k_C {W : World} {P Bp : Nat} (hBW : Bp = W.heap.size) {ops : Array Oper} {md : Region.Mode} {Q : Exit → Act → World → Prop} {T e : TypeId} (hT : prog.underlying T = some (.map 9 e)) {c8 c9 : Call}
  (hsz : ops.size = 31) (hac : (List.range ops.size).all (fun i => ((ops[i]?).map fun o => o.after.all fun e => decide (e.on < i)).getD true) = true)
  (h0 : i_E ops md 0 (.makeMap T none) (some 5) []) (h17 : i_E ops md 17 (.call c8) (some 15) []) (h20 : i_E ops md 20 (.call c9) (some 17) []) (h29 : i_E ops md 29 (.move (.tmp 5)) (some 22) [0]) (h30 : i_E ops md 30 (.assign (.tmp 22)) (some 2) [29])
  (hins : ∀ p ∈ b_o, i_E ops md (g_1 p.2) (.insert T (.tmp 5) (.const (.string ⟨p.1.toArray⟩)) (xQ p.2)) none (t_r p.2))
  (hr17 : ∀ v5 v15 v17 v22 v2 (w : World) (o : Oper), o.op = .call c8 → (execOp (frQ P Bp v5 v15 v17 v22 v2).eval o).run prog w = .ok (.enter 171 #[.int .i64 8, a_G Bp]) w)
  (hr20 : ∀ v5 v15 v17 v22 v2 (w : World) (o : Oper), o.op = .call c9 → (execOp (frQ P Bp v5 v15 v17 v22 v2).eval o).run prog w = .ok (.enter 171 #[.int .i64 9, a_G Bp]) w)
  {l0 : Array Bool} {a0 : Act} {w0 : World} {fuel : Nat} (hl0 : l0.size = 31) (hl1 : ((List.range 31).all fun j => l0.getD j false == [1, 3, 4, 6, 8, 10, 12, 14, 16, 19, 23, 24, 26, 27].contains j) = true) (hfu : (List.range 31).countP (fun i => !l0.getD i true) ≤ fuel) (hops : ops.size = 31)
  (ha : a0 = frQ P Bp undef undef undef undef (.map none)) (hb : Below W.heap.size W w0) (hc : w0.heap[Bp]? = some (.cells #[a_G P] 88 (0, 0))) (hcl : Bp < w0.heap.size)
  (hQ : ∀ Bm b8 b9 n D w, Below W.heap.size W w → W.heap.size < Bm → W.heap.size < b8 → W.heap.size < b9 → w.heap[Bp]? = some (.cells #[a_G P] 88 (0, 0)) → w.heap[b8]? = some (.cells #[.int .i64 8] 3 (0, 0)) → w.heap[b9]? = some (.cells #[.int .i64 9] 3 (0, 0)) → Bp < w.heap.size → b8 < w.heap.size → b9 < w.heap.size →
   w.ownsMap prog 9 rdQ Bm n D → (∀ x, D.atKey (.string x) (.held .nilFunc) = .held (fvQ P Bp b8 b9 (b_f x))) →
   Q .normal (frQ P Bp (.map (some Bm)) (.func (.func 172) #[] #[a_G b8, a_G Bp]) (.func (.func 172) #[] #[a_G b9, a_G Bp]) (.map (some Bm)) (.map (some Bm))) w) :
  wpAnyH prog md ops Q (fun w' => w'.cell? ⟨Bp, 0, none⟩ = some (a_G P)) fuel l0 a0 w0 := by
 have hget : ∀ j, j < 31 → (l0.getD j false = true ↔ j ∈ [1, 3, 4, 6, 8, 10, 12, 14, 16, 19, 23, 24, 26, 27]) := fun j hj => by
  have h1 := List.all_eq_true.1 hl1 j (List.mem_range.2 hj)
  simp only [beq_iff_eq] at h1
  rw [h1]
  simp
 have hbig : ∀ j, 31 ≤ j → ¬ l0.getD j false = true := fun j hj => by simp [Array.getD_eq_getD_getElem?, hl0, hj]
 have hno : ∀ j, j ∉ [1, 3, 4, 6, 8, 10, 12, 14, 16, 19, 23, 24, 26, 27] → ¬ l0.getD j false = true := fun j hj hh => by
  rcases Nat.lt_or_ge j 31 with h | h
  ·exact hj ((hget j h).1 hh)
  ·exact hbig j h hh
 refine l_D (m_V W P Bp) (fun l a w h => by rw [h.1, hsz]) (fun l a w h => by have := a_2 h.2.2.1 0; simpa using this) (fun l a w i hI hr => ?_) (fun l a w hI hr => ?_) fuel l0 a0 w0 ?_ (by rw [hops]; exact hfu)
 ·have hI' := hI
  obtain ⟨hl, _, _, _, ⟨p1, p3, p4, p6, p8, p10, p12, p14, p16, p19, p23, p24, p26, p27⟩, _⟩ := hI
  have hi : i < ops.size := List.mem_range.1 (List.mem_filter.1 hr).1
  have hi2 : i = 0 ∨ i = 1 ∨ i = 2 ∨ i = 3 ∨ i = 4 ∨ i = 5 ∨ i = 6 ∨ i = 7 ∨ i = 8 ∨ i = 9 ∨ i = 10 ∨ i = 11 ∨ i = 12 ∨ i = 13 ∨ i = 14 ∨ i = 15 ∨ i = 16 ∨ i = 17 ∨ i = 18 ∨ i = 19 ∨ i = 20 ∨ i = 21 ∨ i = 22 ∨ i = 23 ∨ i = 24 ∨ i = 25 ∨ i = 26 ∨ i = 27 ∨ i = 28 ∨ i = 29 ∨ i = 30 := by omega
  rcases hi2 with rfl | rfl | rfl | rfl | rfl | rfl | rfl | rfl | rfl | rfl | rfl | rfl | rfl | rfl | rfl | rfl | rfl | rfl | rfl | rfl | rfl | rfl | rfl | rfl | rfl | rfl | rfl | rfl | rfl | rfl | rfl
  ·exact q_6 hBW h0 hI' hr
  ·exact absurd ((b_A o_).symm.trans (mem_ready.1 hr).1) (by rw [p1]; decide)
  ·exact b_K hBW hT (k := [119, 104, 101, 114, 101]) (n := 1) (by simp [b_o]) (hins ([119, 104, 101, 114, 101], 1) (by simp [b_o])) hI' hr
  ·exact absurd ((b_A o_).symm.trans (mem_ready.1 hr).1) (by rw [p3]; decide)
  ·exact absurd ((b_A o_).symm.trans (mem_ready.1 hr).1) (by rw [p4]; decide)
  ·exact b_K hBW hT (k := [100, 101, 114, 105, 118, 101]) (n := 2) (by simp [b_o]) (hins ([100, 101, 114, 105, 118, 101], 2) (by simp [b_o])) hI' hr
  ·exact absurd ((b_A o_).symm.trans (mem_ready.1 hr).1) (by rw [p6]; decide)
  ·exact b_K hBW hT (k := [115, 101, 108, 101, 99, 116]) (n := 3) (by simp [b_o]) (hins ([115, 101, 108, 101, 99, 116], 3) (by simp [b_o])) hI' hr
  ·exact absurd ((b_A o_).symm.trans (mem_ready.1 hr).1) (by rw [p8]; decide)
  ·exact b_K hBW hT (k := [106, 111, 105, 110]) (n := 4) (by simp [b_o]) (hins ([106, 111, 105, 110], 4) (by simp [b_o])) hI' hr
  ·exact absurd ((b_A o_).symm.trans (mem_ready.1 hr).1) (by rw [p10]; decide)
  ·exact b_K hBW hT (k := [108, 101, 102, 116]) (n := 5) (by simp [b_o]) (hins ([108, 101, 102, 116], 5) (by simp [b_o])) hI' hr
  ·exact absurd ((b_A o_).symm.trans (mem_ready.1 hr).1) (by rw [p12]; decide)
  ·exact b_K hBW hT (k := [115, 101, 109, 105]) (n := 6) (by simp [b_o]) (hins ([115, 101, 109, 105], 6) (by simp [b_o])) hI' hr
  ·exact absurd ((b_A o_).symm.trans (mem_ready.1 hr).1) (by rw [p14]; decide)
  ·exact b_K hBW hT (k := [97, 110, 116, 105]) (n := 7) (by simp [b_o]) (hins ([97, 110, 116, 105], 7) (by simp [b_o])) hI' hr
  ·exact absurd ((b_A o_).symm.trans (mem_ready.1 hr).1) (by rw [p16]; decide)
  ·exact n_a hBW h17 hr17 hI' hr
  ·exact b_K hBW hT (k := [117, 110, 105, 111, 110]) (n := 8) (by simp [b_o]) (hins ([117, 110, 105, 111, 110], 8) (by simp [b_o])) hI' hr
  ·exact absurd ((b_A o_).symm.trans (mem_ready.1 hr).1) (by rw [p19]; decide)
  ·exact n_J hBW h20 hr20 hI' hr
  ·exact b_K hBW hT (k := [101, 120, 99, 101, 112, 116]) (n := 9) (by simp [b_o]) (hins ([101, 120, 99, 101, 112, 116], 9) (by simp [b_o])) hI' hr
  ·exact b_K hBW hT (k := [100, 105, 115, 116, 105, 110, 99, 116]) (n := 10) (by simp [b_o]) (hins ([100, 105, 115, 116, 105, 110, 99, 116], 10) (by simp [b_o])) hI' hr
  ·exact absurd ((b_A o_).symm.trans (mem_ready.1 hr).1) (by rw [p23]; decide)
  ·exact absurd ((b_A o_).symm.trans (mem_ready.1 hr).1) (by rw [p24]; decide)
  ·exact b_K hBW hT (k := [103, 114, 111, 117, 112]) (n := 11) (by simp [b_o]) (hins ([103, 114, 111, 117, 112], 11) (by simp [b_o])) hI' hr
  ·exact absurd ((b_A o_).symm.trans (mem_ready.1 hr).1) (by rw [p26]; decide)
  ·exact absurd ((b_A o_).symm.trans (mem_ready.1 hr).1) (by rw [p27]; decide)
  ·exact b_K hBW hT (k := [119, 105, 110, 100, 111, 119]) (n := 12) (by simp [b_o]) (hins ([119, 105, 110, 100, 111, 119], 12) (by simp [b_o])) hI' hr
  ·exact o_U hBW h29 hI' hr
  ·exact o_c hBW h30 hI' hr
 ·obtain ⟨hl, hb, hc, hcl, _, _, _, _, _, _, Bm, b8, b9, v5, v15, v17, v22, v2, rfl, c0, c17, c20, c29, c30⟩ := hI
  have hall : ∀ j, j < 31 → l.getD j false = true := fun j hj => i_G (by rw [hl, hsz]) hac hr (j + 1) j o_ o_
  obtain ⟨rfl, m1, n, D, _, m3, m4⟩ := c0 (hall 0 d_)
  obtain ⟨rfl, q2, q3, q4, _⟩ := c17 (hall 17 d_)
  obtain ⟨rfl, y2, y3, y4, _⟩ := c20 (hall 20 d_)
  obtain rfl := c29 (hall 29 d_)
  obtain rfl := c30 (hall 30 d_)
  refine hQ Bm b8 b9 n D w hb m1 q2 y2 hc q4 y4 hcl q3 y3 m3 fun x => ?_
  rw [m4]
  unfold gvQ
  rcases e_8 x with h | ⟨k, hk, _⟩
  ·rw [h]
   have : ¬ l.getD (g_1 0) false = true := by
    show ¬ l.getD 31 false = true
    simp [Array.getD_eq_getD_getElem?, hl]
   rw [if_neg this]
   rfl
  ·rw [if_pos (hall _ (k_1 hk).1)]
 ·exact ⟨hl0, hb, hc, hcl, ⟨(hget 1 d_).2 d_, (hget 3 d_).2 d_, (hget 4 d_).2 d_, (hget 6 d_).2 d_, (hget 8 d_).2 d_, (hget 10 d_).2 d_, (hget 12 d_).2 d_, (hget 14 d_).2 d_, (hget 16 d_).2 d_, (hget 19 d_).2 d_, (hget 23 d_).2 d_, (hget 24 d_).2 d_, (hget 26 d_).2 d_, (hget 27 d_).2 d_⟩, fun h => absurd h (hno 18 d_), fun h => absurd h (hno 21 d_), fun h => absurd h (hno 29 d_), fun h => absurd h (hno 30 d_), fun j hj h => absurd h (hno j (by intro e; simp at hj e; omega)), 0, 0, 0, undef, undef, undef, undef, .map none, ha, fun h => absurd h (hno 0 d_), fun h => absurd h (hno 17 d_), fun h => absurd h (hno 20 d_), fun h => absurd h (hno 29 d_), fun h => absurd h (hno 30 d_)⟩
set_option maxRecDepth 100000
theorem r_d (W : World) (P : Nat) (hP : P < W.heap.size) :
  Calls prog 111 #[a_G P] W fun e w' => ∃ Bm b8 b9 n D, e = .returned (.map (some Bm)) ∧ Below W.heap.size W w' ∧ W.heap.size < Bm ∧ W.heap.size < b8 ∧ W.heap.size < b9 ∧ w'.heap[W.heap.size]? = some (.cells #[a_G P] 88 (0, 0)) ∧ w'.heap[b8]? = some (.cells #[.int .i64 8] 3 (0, 0)) ∧ w'.heap[b9]? = some (.cells #[.int .i64 9] 3 (0, 0)) ∧ W.heap.size < w'.heap.size ∧ b8 < w'.heap.size ∧ b9 < w'.heap.size ∧
   w'.ownsMap prog 9 rdQ Bm n D ∧ (∀ x, D.atKey (.string x) (.held .nilFunc) = .held (fvQ P W.heap.size b8 b9 (b_f x))) := by
 refine p_0 ?_; intro hmf
 go_enter func111, ntmps111
 go_upto_region 2 with fail
 refine wp_region_held_drew (S := (fun w' => w'.cell? ⟨W.heap.size, 0, none⟩ = some (a_G P))) k_ (by (try dsimp only); simp [go_sem]) (fun hHeld => ?_)
 refine zT 1 ?_; refine zT 3 ?_; refine zT 4 ?_; refine zT 6 ?_; refine zT 8 ?_; refine zT 10 ?_; refine zT 12 ?_; refine zT 14 ?_; refine zT 16 ?_; refine zT 19 ?_; refine zT 23 ?_; refine zT 24 ?_; refine zT 26 ?_; refine zT 27 ?_
 try simp only [List.getElem_toArray, List.getElem_cons_succ, List.getElem_cons_zero, Act.put, List.setIfInBounds_toArray, List.set_cons_zero, List.set_cons_succ]
 have hb0 : Below W.heap.size W (W.alloc (.cells #[a_G P] 88)).drew := zX
 refine k_C (W := W) (P := P) (Bp := W.heap.size) rfl (e := 135) k_ k_ k_ ⟨_, by exact rfl, by exact rfl, by exact rfl, by exact rfl, k_⟩ ⟨_, by exact rfl, by exact rfl, by exact rfl, by exact rfl, k_⟩ ⟨_, by exact rfl, by exact rfl, by exact rfl, by exact rfl, k_⟩ ⟨_, by exact rfl, by exact rfl, by exact rfl, by exact rfl, k_⟩ ⟨_, by exact rfl, by exact rfl, by exact rfl, by exact rfl, k_⟩ ?_ ?_ ?_ k_ k_ (of_decide_eq_true k_) k_ (by exact rfl) hb0 (by exact heap_alloc_new W _) (by simp [go_sem]) ?_
 ·intro p hp
  simp only [b_o, List.mem_cons, List.not_mem_nil, or_false] at hp
  rcases hp with rfl | rfl | rfl | rfl | rfl | rfl | rfl | rfl | rfl | rfl | rfl | rfl
  all_goals exact ⟨_, by exact rfl, by exact rfl, by exact rfl, by exact rfl, k_⟩
 ·intro v5 v15 v17 v22 v2 w o ho
  simp [go_sem, execOp, ho, Act.eval, frQ, resolve, invoke]
 ·intro v5 v15 v17 v22 v2 w o ho
  simp [go_sem, execOp, ho, Act.eval, frQ, resolve, invoke]
 ·intro Bm b8 b9 n D w hb h1 h2 h3 h4 h5 h6 h7 h8 h9 ho hD
  unfold frQ
  have HX := a_0 (And.intro hb (And.intro h1 (And.intro h2 (And.intro h3 (And.intro h4 (And.intro h5 (And.intro h6 (And.intro h7 (And.intro h8 (And.intro h9 (And.intro ho hD)))))))))))
  clear hb h1 h2 h3 h4 h5 h6 h7 h8 h9 ho hD
  go_wp2
  go_ret
  exact ⟨Bm, b8, b9, n, D, rfl, HX.out⟩
set_option maxRecDepth 512
structure MpC (P Bp b8 b9 Bm n : Nat) (D : DataW Value) (w : World) : Prop where
 lp : P < Bp
 l8 : P < b8
 l9 : P < b9
 lm : P < Bm
 bp : w.heap[Bp]? = some (.cells #[a_G P] 88 (0, 0))
 h8 : w.heap[b8]? = some (.cells #[.int .i64 8] 3 (0, 0))
 h9 : w.heap[b9]? = some (.cells #[.int .i64 9] 3 (0, 0))
 m : w.ownsMap prog 9 rdQ Bm n D
 at_ : ∀ x, D.atKey (.string x) (.held .nilFunc) = .held (fvQ P Bp b8 b9 (b_f x))
section
variable {P Bp b8 b9 Bm n base cc c k : Nat} {D : DataW Value} {W w w' : World} {A B : Option Addr} {ts : List Tok} {s : QSt} {l : List Stp} {az : List Adr}
theorem MpC.keep (h : MpC P Bp b8 b9 Bm n D w) (hg : w.grownBy w' (some P)) : MpC P Bp b8 b9 Bm n D w' := by
 have := h.lp
 have := h.l8
 have := h.l9
 have := h.lm
 exact { h with
  bp := a_r hg h.bp o_
  h8 := a_r hg h.h8 o_
  h9 := a_r hg h.h9 o_
  m := h.m.kept hg i_ }
theorem MpC.row {xs : List Value} {size : Nat} (h : MpC P Bp b8 b9 Bm n D w) (hg : w.grownBy w' (Value.slice B k c).ownBlock) (ho : w.ownsRow base 27 size (.slice B k c) k xs) : MpC P Bp b8 b9 Bm n D w' := by
 have hne : ∀ j, (Value.slice B k c).ownBlock = some j → ∃ cs r, w.heap[j]? = some (.cells cs 27 r) := fun j hj => by
  rcases ho.2 with ⟨hv, _⟩ | ⟨g, cap, cur, hv, hb, hh, _⟩
  ·rw [hv] at hj; cases hj
  ·rw [hv] at hj
   have e : g = j := by simpa [Value.ownBlock] using hj
   subst e; exact ⟨_, _, hh⟩
 have hk : ∀ (j : Nat) (cs : Array Value) (t : TypeId) (r : Nat × Nat), w.heap[j]? = some (Obj.cells cs t r) → t ≠ 27 → w'.heap[j]? = some (Obj.cells cs t r) := fun j cs t r e ht => (hg.block j (a_6 e) (fun e9 => by
  obtain ⟨cs', r', h1⟩ := hne j e9.symm
  rw [e] at h1
  injection h1 with h1
  injection h1 with _ h3 _
  exact ht h3)).trans e
 exact { h with
  bp := hk _ _ _ _ h.bp d_
  h8 := hk _ _ _ _ h.h8 d_
  h9 := hk _ _ _ _ h.h9 d_
  m := h.m.kept hg (fun e => by
   obtain ⟨cs', r', h1⟩ := hne Bm e.symm; obtain ⟨es, clock, hb, _⟩ := h.m; rw [hb] at h1
   cases h1) }
theorem MpC.below (h : MpC P Bp b8 b9 Bm n D w) (hb : Below w.heap.size w w') : MpC P Bp b8 b9 Bm n D w' := h.keep (a_1 hb)
set_option maxRecDepth 100000
theorem MpC.look (h : MpC P Bp b8 b9 Bm n D w) {T e : TypeId} (hT : prog.underlying T = some (.map 9 e)) (hz : (zeroValue e).run prog w = .ok .nilFunc w) {x : a_3} (hx : x.length ≤ maxLen) :
  (Instr.lookup T (.map (some Bm)) (str x) false).run prog w = .ok (fvQ P Bp b8 b9 (b_f x)) w := by
 obtain ⟨v, ps, hrun, hv⟩ := h.m.lookup (kl := .string x) a_Q hT hz (zd := .held .nilFunc) (zp := []) rfl (keyOf_string_mk (s := ⟨x.toArray⟩) underlying9 (by show x.toArray.size ≤ _; simpa using hx))
 rw [h.at_ x] at hv
 injection hv with hv
 injection hv with hv _
 injection hv with hv
 rw [← hv]
 exact hrun
structure SRw (base : Nat) (w : World) (l : List Stp) (A : Option Addr) (c : Nat) (az : List Adr) : Prop where
 own : w.ownsRow base 27 6 (.slice A l.length c) l.length (d_8 l az)
 len : az.length = l.length
 firm : b_b tI (fun v => ∀ i (h : i < l.length) (h' : i < az.length), l[i].At v az[i]) w
set_option maxRecDepth 512
theorem SRw.step (h : SRw base W l B c az) (hS : QPt QT W P A ts cc s) (hg : W.grownBy w' (some P)) (hb : P < base) : SRw base w' l B c az :=
 ⟨a_v h.own hg hb, h.len, h.firm.keep (e_C hS hg d_)⟩
theorem SRw.below (h : SRw base w l B c az) (hb : Below w.heap.size w w') : SRw base w' l B c az := ⟨a_8 h.own hb, h.len, h.firm.keep (a_I.of_below hb)⟩
theorem SRw.push {x : Stp} {a : Adr} {B' : Option Addr} {c' : Nat} (h : SRw base w l B c az) (hx : b_b tI (fun v => x.At v a) w) (hg : w.grownBy w' (Value.slice B l.length c).ownBlock) (ho : w'.ownsRow base 27 6 (.slice B' (l.length + 1) c') (l.length + 1) (d_8 l az ++ x.cells a)) :
  SRw base w' (l ++ [x]) B' c' (az ++ [a]) := by
 have k : a_I tI w w' := a_I.of_own hg h.own d_
 refine ⟨by rw [g_K l az x a h.len]; simpa using ho, by simp [h.len], fun v hv i hi hi' => ?_⟩
 rcases Nat.lt_or_ge i l.length with hlt | hge
 ·have e1 : (l ++ [x])[i] = l[i] := List.getElem_append_left hlt
  have e2 : (az ++ [a])[i] = az[i]'(by rw [h.len]; exact hlt) := List.getElem_append_left (by rw [h.len]; exact hlt)
  rw [e1, e2]
  exact (h.firm.keep k) v hv i hlt (by rw [h.len]; exact hlt)
 ·have e : i = l.length := by simp at hi; omega
  subst e
  have e1 : (l ++ [x])[l.length] = x := by simp
  have e2 : (az ++ [a])[l.length]'hi' = a := by simp [← h.len]
  rw [e1, e2]
  exact (hx.keep k) v hv
theorem SRw.one {x : Stp} {a : Adr} (hb : base ≤ w.heap.size) (hx : b_b tI (fun v => x.At v a) w) : SRw base (w.alloc (.cells (x.cells a).toArray 27)) [x] (some ⟨w.heap.size, 0, none⟩) 1 [a] := by
 refine ⟨?_, rfl, fun v hv i hi hi' => ?_⟩
 ·have := d_o (e := 27) w (base := base) (size := 6) (n := 1) (cur := (x.cells a).toArray) hb (by simp [Stp.cells]) d_
  simpa [d_8] using this
 ·have e : i = 0 := by simp at hi; omega
  subst e
  exact (hx.keep (a_I.of_below (Below.alloc (b_ _ w) (l_ _) _))) v hv
theorem SRw.at_ (h : SRw base w l B c az) : d_l w B l := by
 obtain ⟨ho, hl, hf⟩ := h
 rcases ho.2 with ⟨_, hn⟩ | ⟨g, cap, cur, hv, hg, hh, hnc, hcap, hsz, htk⟩
 ·exact .inl (List.eq_nil_of_length_eq_zero hn)
 ·injection hv with h1 h2 h3
  subst h1
  refine .inr ⟨g, 0, rfl, a_6 hh, fun i hi => ?_⟩
  have hi' : i < az.length := by omega
  have hc : ∀ j, j < 6 → w.cell? ⟨g, 0 + i * 6 + j, none⟩ = (l[i].cells az[i])[j]? := fun j hj => by
   rw [← i_J l az i hi hi' j hj, Nat.zero_add]; exact World.ownsRow.cellAt ho (i * 6 + j) o_
  exact ⟨az[i], hf.now i hi hi', hc 0 o_, hc 1 o_, hc 2 o_, hc 3 o_, hc 4 o_, hc 5 o_⟩
theorem s_x {n : Int} (hn : ∃ x : a_3, (x, n) ∈ b_o) (P Bp b8 b9 : Nat) :
  ∃ K first cap, fvQ P Bp b8 b9 n = .func (.func K) first cap ∧ (first = #[] ∨ cap = #[]) ∧ (∀ args W, (callFunc K args).run prog W = .ok (.enter K args) W) ∧
   ∀ (W : World) (A : Option Addr) (ts : List Tok) (cc : Nat) (s : QSt) (Bm m : Nat) (D : DataW Value), a_O ts = true → ts.length ≤ 1000000 → MpC P Bp b8 b9 Bm m D W → QPt QT W P A ts cc s → s.i < ts.length →
    Calls prog K (first ++ cap) W fun e w' => k_P w' (b_2 false ts n s).1 e ∧ QPost QT W P A ts cc (b_2 false ts n s).2 w' := by
 obtain ⟨x, hx⟩ := hn
 simp only [b_o, List.mem_cons, List.not_mem_nil, or_false, Prod.mk.injEq] at hx
 have cB : ∀ {W : World} {Bm m : Nat} {D : DataW Value}, MpC P Bp b8 b9 Bm m D W → W.cell? ⟨Bp, 0, none⟩ = some (a_G P) ∧ Bp < W.heap.size := fun h => ⟨by have := a_2 h.bp 0; simpa using this, a_6 h.bp⟩
 have c8 : ∀ {W : World} {Bm m : Nat} {D : DataW Value}, MpC P Bp b8 b9 Bm m D W → W.cell? ⟨b8, 0, none⟩ = some (.int .i64 8) ∧ b8 < W.heap.size := fun h => ⟨by have := a_2 h.h8 0; simpa using this, a_6 h.h8⟩
 have c9 : ∀ {W : World} {Bm m : Nat} {D : DataW Value}, MpC P Bp b8 b9 Bm m D W → W.cell? ⟨b9, 0, none⟩ = some (.int .i64 9) ∧ b9 < W.heap.size := fun h => ⟨by have := a_2 h.h9 0; simpa using this, a_6 h.h9⟩
 rcases hx with ⟨rfl, rfl⟩ | ⟨rfl, rfl⟩ | ⟨rfl, rfl⟩ | ⟨rfl, rfl⟩ | ⟨rfl, rfl⟩ | ⟨rfl, rfl⟩ | ⟨rfl, rfl⟩ | ⟨rfl, rfl⟩ | ⟨rfl, rfl⟩ | ⟨rfl, rfl⟩ | ⟨rfl, rfl⟩ | ⟨rfl, rfl⟩
 ·exact ⟨186, #[a_G P], #[], rfl, .inr rfl, fun args W => by kernel_rfl, fun W A ts cc s Bm m D hv hl hM hS hi => p_d W P A ts cc s hv hS hi hl⟩
 ·exact ⟨185, #[a_G P], #[], rfl, .inr rfl, fun args W => by kernel_rfl, fun W A ts cc s Bm m D hv hl hM hS hi => r_N W P A ts cc s hv hS hi hl⟩
 ·exact ⟨184, #[], #[], rfl, .inl rfl, fun args W => by kernel_rfl, fun W A ts cc s Bm m D hv hl hM hS hi => m_s W P A ts cc s hS⟩
 ·exact ⟨172, #[], #[a_G b9, a_G Bp], rfl, .inl rfl, fun args W => by kernel_rfl, fun W A ts cc s Bm m D hv hl hM hS hi => l_G 9 (.inr rfl) W P b9 Bp A ts cc s hv hS hi hl (cB hM).1 (cB hM).2 (c9 hM).1 (c9 hM).2 (by have := hM.l9; omega) (by have := hM.lp; omega)⟩
 ·exact ⟨172, #[], #[a_G b8, a_G Bp], rfl, .inl rfl, fun args W => by kernel_rfl, fun W A ts cc s Bm m D hv hl hM hS hi => l_G 8 (.inl rfl) W P b8 Bp A ts cc s hv hS hi hl (cB hM).1 (cB hM).2 (c8 hM).1 (c8 hM).2 (by have := hM.l8; omega) (by have := hM.lp; omega)⟩
 ·exact ⟨183, #[], #[a_G Bp], rfl, .inl rfl, fun args W => by kernel_rfl, fun W A ts cc s Bm m D hv hl hM hS hi => w_T W P Bp A ts cc s hv hS hi hl (cB hM).1 (cB hM).2⟩
 ·exact ⟨181, #[], #[a_G Bp], rfl, .inl rfl, fun args W => by kernel_rfl, fun W A ts cc s Bm m D hv hl hM hS hi => w_W W P Bp A ts cc s hv hS hi hl (cB hM).1 (cB hM).2⟩
 ·exact ⟨180, #[], #[a_G Bp], rfl, .inl rfl, fun args W => by kernel_rfl, fun W A ts cc s Bm m D hv hl hM hS hi => w_N W P Bp A ts cc s hv hS hi hl (cB hM).1 (cB hM).2⟩
 ·exact ⟨178, #[], #[a_G Bp], rfl, .inl rfl, fun args W => by kernel_rfl, fun W A ts cc s Bm m D hv hl hM hS hi => w_K W P Bp A ts cc s hv hS hi hl (cB hM).1 (cB hM).2⟩
 ·exact ⟨176, #[], #[a_G Bp], rfl, .inl rfl, fun args W => by kernel_rfl, fun W A ts cc s Bm m D hv hl hM hS hi => p_e W P Bp A ts cc s hv hS hi hl (cB hM).1 (cB hM).2⟩
 ·exact ⟨175, #[a_G P], #[], rfl, .inr rfl, fun args W => by kernel_rfl, fun W A ts cc s Bm m D hv hl hM hS hi => p_k W P A ts cc s hv hS hi hl⟩
 ·exact ⟨173, #[], #[a_G Bp], rfl, .inl rfl, fun args W => by kernel_rfl, fun W A ts cc s Bm m D hv hl hM hS hi => r_j W P Bp A ts cc s hv hS hi hl (cB hM).1 (cB hM).2⟩
end
end Go.Proofs.YtmbeeefkpgfgmaaGreatDoor
