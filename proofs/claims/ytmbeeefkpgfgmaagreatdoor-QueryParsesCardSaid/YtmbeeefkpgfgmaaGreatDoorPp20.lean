/- Parts of the proof. -/
import Derived.Test.YtmbeeefkpgfgmaaGreatDoorPp19
import Derived.Maps.Views
import Derived.Deep.CutRange
import Derived.Deep.RegionLaw
set_option linter.unusedVariables false
set_option linter.unusedSimpArgs false
set_option maxHeartbeats 2000000
namespace Go.Proofs.YtmbeeefkpgfgmaaGreatDoor
open Go.Proofs.Tryz
section
open Go.RowKit
def k_s (w : World) (P : Nat) : Prop := ∀ w', Below P w w' → Glob w'
theorem k_s.fr {w w' : World} {P : Nat} (h : k_s w P) (hb : Below P w w') : k_s w' P := fun v hv => h v (hb.trans hv)
theorem k_s.of {w : World} (h : Glob w) : k_s w w.heap.size := fun _ hv => h.below hv
theorem n_m {w w' : World} {P : Nat} {row : Option Nat} (h : w.grownBy w' row) (hP : P ≤ w.heap.size) (hr : ∀ j, row = some j → P ≤ j) : Below P w w' :=
 ⟨h.os, h.tape, h.output, h.size, fun k hk => h.block k o_ (fun e => by have := hr k e.symm; omega)⟩
theorem n_2.bl {w w' : World} {P : Nat} {A : Option Addr} {ts : List Tok} (h : n_2 w P A ts) (hb : Below P w w') : n_2 w' P A ts := by
 obtain ⟨g, off, rfl, hP, hc⟩ := h
 refine ⟨g, off, rfl, hP, fun i hi => ?_⟩
 obtain ⟨h1, h2, h3, h4⟩ := hc i hi
 exact ⟨(hb.cell (p := ⟨g, _, none⟩) hP).trans h1, (hb.cell (p := ⟨g, _, none⟩) hP).trans h2, (hb.cell (p := ⟨g, _, none⟩) hP).trans h3, (hb.cell (p := ⟨g, _, none⟩) hP).trans h4⟩
structure QPt (T : TypeId) (w : World) (P : Nat) (A : Option Addr) (ts : List Tok) (c : Nat) (s : QSt) : Prop where
 blk : w.heap[P]? = some (.cells #[.slice A ts.length c, .int .i64 s.i, .int .i64 s.e] T (0, 0))
 tok : n_2 w P A ts
 glb : k_s w P
section
variable {T : TypeId} {w w' : World} {P : Nat} {A : Option Addr} {ts : List Tok} {c : Nat} {s : QSt}
theorem QPt.lt (h : QPt T w P A ts c s) : P < w.heap.size := (Array.getElem?_eq_some_iff.1 h.blk).1
theorem QPt.cells (h : QPt T w P A ts c s) : w.cell? ⟨P, 0, none⟩ = some (.slice A ts.length c) ∧ w.cell? ⟨P, 1, none⟩ = some (.int .i64 s.i) ∧ w.cell? ⟨P, 2, none⟩ = some (.int .i64 s.e) := by
 have hb := h.blk
 simp [World.cell?, hb]
theorem QPt.free (h : QPt T w P A ts c s) (o : Nat) : w.frozen? ⟨P, o, none⟩ = false := by
 have hb := h.blk
 simp [World.frozen?, hb]
theorem QPt.below (h : QPt T w P A ts c s) (hb : Below w.heap.size w w') : QPt T w' P A ts c s :=
 have hb2 := hb.mono (Nat.le_of_lt h.lt)
 ⟨(hb.block P h.lt).trans h.blk, h.tok.bl hb2, h.glb.fr hb2⟩
theorem QPt.gr {row : Option Nat} (h : QPt T w P A ts c s) (hg : w.grownBy w' row) (hr : ∀ j, row = some j → P < j) : QPt T w' P A ts c s :=
 have hb := n_m hg (Nat.le_of_lt h.lt) (fun j e => Nat.le_of_lt (hr j e))
 ⟨(hg.block P h.lt (fun e => by have := hr P e.symm; omega)).trans h.blk, h.tok.bl hb, h.glb.fr hb⟩
theorem QPt.setAt (h : QPt T w P A ts c s) (j : Nat) : QPt T (w.setCell ⟨P, 1, none⟩ (.int .i64 j)) P A ts c ⟨j, s.e⟩ :=
 have hb := n_m (a_d (g_ w _) 1 (.int .i64 (j : Int))) (Nat.le_of_lt h.lt) (P := P) (fun _ e => by injection e with e; omega)
 ⟨by have := heap_setCell_same w P 1 _ _ (.int .i64 (j : Int)) h.blk; simpa using this, h.tok.bl hb, h.glb.fr hb⟩
theorem QPt.setErr (h : QPt T w P A ts c s) (x : Int) : QPt T (w.setCell ⟨P, 2, none⟩ (.int .i64 x)) P A ts c ⟨s.i, x⟩ :=
 have hb := n_m (a_d (g_ w _) 2 (.int .i64 x)) (Nat.le_of_lt h.lt) (P := P) (fun _ e => by injection e with e; omega)
 ⟨by have := heap_setCell_same w P 2 _ _ (.int .i64 x) h.blk; simpa using this, h.tok.bl hb, h.glb.fr hb⟩
end
structure QPost (T : TypeId) (W : World) (P : Nat) (A : Option Addr) (ts : List Tok) (c : Nat) (s : QSt) (w' : World) : Prop where
 pt : QPt T w' P A ts c s
 gr : W.grownBy w' (some P)
theorem QPost.of_below {T : TypeId} {W w' : World} {P : Nat} {A : Option Addr} {ts : List Tok} {c : Nat} {s : QSt} (h : QPt T W P A ts c s) (hb : Below W.heap.size W w') : QPost T W P A ts c s w' := ⟨h.below hb, a_1 hb⟩
theorem QPost.trans {T : TypeId} {W w1 w2 : World} {P : Nat} {A : Option Addr} {ts : List Tok} {c : Nat} {s t : QSt} (h : QPost T W P A ts c s w1) (g : QPost T w1 P A ts c t w2) : QPost T W P A ts c t w2 := ⟨g.pt, h.gr.trans g.gr⟩
theorem c_J {P : Program} {fn : Func} {R : Ending → World → Prop} {a : Act} {w : World} (hd : a.defers = []) (h : ∃ v, (results fn a.tmps).run P w = .ok v w ∧ R (.returned v) w) : bodyPost P fn R .ret a w :=
 let ⟨_, h1, h2⟩ := h; bodyPost_ret h1 hd h2
theorem l_H (k : Int) (x : a_3) (n o : Int) (w : World) : (Instr.field 99 (.agg #[.int .i64 k, str x, .int .i64 n, .int .i64 o]) 0).run prog w = .ok (.int .i64 k) w := by kernel_rfl
theorem n_s (k : Int) (x : a_3) (n o : Int) (w : World) : (Instr.field 99 (.agg #[.int .i64 k, str x, .int .i64 n, .int .i64 o]) 1).run prog w = .ok (str x) w := by kernel_rfl
abbrev QT : TypeId := 90
set_option maxRecDepth 100000
theorem k_n (W : World) (P : Nat) (A : Option Addr) (ts : List Tok) (c : Nat) (s : QSt) (hS : QPt QT W P A ts c s) (hi : s.i < ts.length) (hl : ts.length ≤ 1000000) :
  Calls prog 113 #[.pointer (some ⟨P, 0, none⟩)] W fun e' w' => e' = .returned (tk ts s.i).agg ∧ Below W.heap.size W w' := by
 obtain ⟨c0, c1, c2⟩ := hS.cells
 obtain ⟨g, off, rfl, hgP, t0, t1, t2, t3⟩ := hS.tok.at_ hi
 have hP := hS.lt
 refine p_Z ?_; intro hg
 clear hS
 generalize tk ts s.i = t at *
 obtain ⟨tk0, tk1, tk2, tk3⟩ := t
 simp only at t0 t1 t2 t3
 go_enter func113, ntmps113
 go_wp2
 go_region
 go_wp2
 refine c_J rfl ?_
 apply Exists.intro
 apply And.intro
 ·simp [results, results113, go_sem]
  rfl
 ·exact ⟨rfl, zX⟩
theorem v_W (W : World) (P : Nat) (A : Option Addr) (ts : List Tok) (c : Nat) (s : QSt) (hS : QPt QT W P A ts c s) (hi : s.i < ts.length) (hl : ts.length ≤ 1000000) (k : Int) (x : a_3) :
  Calls prog 187 #[.pointer (some ⟨P, 0, none⟩), .int .i64 k, str x] W fun e' w' => e' = .returned (.bool (isT ts s k x)) ∧ Below W.heap.size W w' := by
 refine q_M ?_; intro c0 c1 c2 hP
 have HN := a_0 (fun (W' : World) (hb : Below W.heap.size W W') => k_n W' P A ts c s (hS.below hb) hi hl)
 have HX := a_0 (show isT ts s k x = (s.e == 0 && (tk ts s.i).kind == k && (tk ts s.i).text == x) from rfl)
 clear hS hi hl
 generalize isT ts s k x = v at *
 generalize tk ts s.i = t at *
 obtain ⟨tk0, tk1, tk2, tk3⟩ := t
 obtain ⟨si, se⟩ := s
 simp only at c1 c2
 have HN := a_0 (fun (W' : World) (hb : Below W.heap.size W W') => show Calls prog 113 #[.pointer (some ⟨P, 0, none⟩)] W' (fun e' w' => e' = .returned (.agg #[.int .i64 tk0, str tk1, .int .i64 tk2, .int .i64 tk3]) ∧ Below W'.heap.size W' w') from HN.out W' hb)
 have f0 := l_H
 have f1 := n_s
 go_enter func187, ntmps187
 go_wp2_with (first
  | ((with_reducible refine (HN.out _ (b_ _ _)).mono ?_); rintro e w1 ⟨rfl, hb1⟩)
  | ((with_reducible refine (HN.out _ hb1).mono ?_); rintro e w2 ⟨rfl, hb2⟩))
 all_goals
  go_ret
  have hx := HX.out
  exact ⟨by simp_all, by first | exact a_n hb2 hb1 | exact hb1 | exact b_ _ _⟩
set_option maxRecDepth 512
theorem g_C (W : World) (P : Nat) (A : Option Addr) (ts : List Tok) (c : Nat) (s : QSt) (hS : QPt QT W P A ts c s) (x : Int) :
  Calls prog 115 #[.pointer (some ⟨P, 0, none⟩), .int .i64 x] W fun e' w' => e' = .returned (.tuple #[]) ∧ QPost QT W P A ts c (s.fail x) w' := by
 refine q_M ?_; intro c0 c1 c2 hP
 have hf := hS.free
 have HS := a_0 hS
 clear hS
 by_cases he : s.e = 0
 ·have HX := a_0 (show s.fail x = ⟨s.i, x⟩ from if_pos he)
  rw [he] at c2
  go_enter func115, ntmps115
  go_wp2
  go_end0
  rw [HX.out]
  exact ⟨rfl, HS.out.setErr x, a_d (g_ _ _) _ _⟩
 ·have HX := a_0 (show s.fail x = s from if_neg he)
  have hb : (s.e == 0) = false := beq_eq_false_iff_ne.2 he
  go_enter func115, ntmps115
  go_wp2
  go_end0
  rw [HX.out]
  exact ⟨rfl, HS.out, g_ _ _⟩
end
section
open Go.RowKit Go.WideMaps Go.Maps
def f_s {H : Type} (f : Int → DataW H) : List (a_3 × Int) → DataW H
 | [] => .map []
 | (k, n) :: r => (f_s f r).put (.string k) (f n)
theorem l_V {H : Type} (f : Int → DataW H) : ∀ l, IsMap (f_s f l)
 | [] => isMap_empty
 | (k, n) :: r => (l_V f r).put _ _
theorem l_s {H : Type} (f : Int → DataW H) (x : a_3) : ∀ l, (f_s f l).atKey (.string x) (f 0) = f (d_2 l x)
 | [] => rfl
 | (k, n) :: r => by
  unfold f_s d_2
  by_cases h : x = k
  ·subst h
   rw [if_pos rfl, atKey_put_same (k := .string x) (l_V f r) trivial]
  ·rw [if_neg h, atKey_put_other (fun e => h (by injection e)), l_s f x r]
abbrev f_q (n : Int) : DataW Unit := .lit (.int .i64 n)
set_option maxRecDepth 100000
theorem o_H {w : World} {B n : Nat} {l : List (a_3 × Int)} (h : w.ownsMap prog 9 (plainElem prog 3) B n (f_s f_q l)) (x : a_3) (hs : x.length ≤ maxLen) :
  (Instr.lookup 152 (.map (some B)) (str x) false).run prog w = .ok (.int .i64 (d_2 l x)) w := by
 obtain ⟨c, hrun, hat, _⟩ := h.lookup_int a_Q underlying152 underlying3 (r_s w) (keyOf_string_mk (s := ⟨x.toArray⟩) underlying9 (by show x.toArray.size ≤ _; simpa using hs))
 have e : (⟨x.toArray⟩ : ByteArray).data.toList = x := rfl
 rw [e] at hat
 have h2 : (f_s f_q l).atKey (.string x) (.lit (.int .i64 0)) = .lit (.int .i64 (d_2 l x)) := l_s f_q x l
 rw [h2] at hat
 injection hat with hat
 injection hat with _ hat
 rw [← hat] at hrun
 exact hrun
theorem i_v (w : World) : Calls prog 134 #[] w fun e w' => (∃ B n, e = .returned (.map (some B)) ∧ w.heap.size ≤ B ∧ w'.ownsMap prog 9 (plainElem prog 3) B n (f_s f_q d_y)) ∧ Below w.heap.size w w' := by
 refine t_b ?_; intro hmm hm
 refine w_3 ?_; intro w1 r1 o1 g1
 obtain ⟨w2, r2, o2, g2⟩ := o1.update (t := 152) (val := .int .i64 2) a_Q underlying152 d_ (keyOf_string_mk (s := ⟨#[118, 97, 108, 117, 101, 115]⟩) underlying9 d_) (plainElem_int underlying3 d_)
 obtain ⟨w3, r3, o3, g3⟩ := o2.update (t := 152) (val := .int .i64 3) a_Q underlying152 d_ (keyOf_string_mk (s := ⟨#[115, 117, 109]⟩) underlying9 d_) (plainElem_int underlying3 d_)
 obtain ⟨w4, r4, o4, g4⟩ := o3.update (t := 152) (val := .int .i64 4) a_Q underlying152 d_ (keyOf_string_mk (s := ⟨#[109, 105, 110]⟩) underlying9 d_) (plainElem_int underlying3 d_)
 obtain ⟨w5, r5, o5, g5⟩ := o4.update (t := 152) (val := .int .i64 5) a_Q underlying152 d_ (keyOf_string_mk (s := ⟨#[109, 97, 120]⟩) underlying9 d_) (plainElem_int underlying3 d_)
 obtain ⟨w6, r6, o6, g6⟩ := o5.update (t := 152) (val := .int .i64 6) a_Q underlying152 d_ (keyOf_string_mk (s := ⟨#[100, 105, 115, 116, 105, 110, 99, 116]⟩) underlying9 d_) (plainElem_int underlying3 d_)
 obtain ⟨w7, r7, o7, g7⟩ := o6.update (t := 152) (val := .int .i64 7) a_Q underlying152 d_ (keyOf_string_mk (s := ⟨#[109, 101, 97, 110]⟩) underlying9 d_) (plainElem_int underlying3 d_)
 have HO := a_0 (show w7.ownsMap prog 9 (plainElem prog 3) w.heap.size 7 (f_s f_q d_y) from o7)
 have hb : Below w.heap.size w w7 := by
  refine Below.grown (Below.grown (Below.grown (Below.grown (Below.grown (Below.grown (Below.grown (((b_ _ w).alloc (l_ _) _)) g1 ?_ ?_) g2 ?_ ?_) g3 ?_ ?_) g4 ?_ ?_) g5 ?_ ?_) g6 ?_ ?_) g7 ?_ ?_
  all_goals first
   | (intro k hk; injection hk with hk; omega)
   | (have := g1.size; have := g2.size; have := g3.size; have := g4.size; have := g5.size; have := g6.size; simp at *; first | done | omega)
 have HB := a_0 hb
 clear hm o1 o2 o3 o4 o5 o6 o7 g1 g2 g3 g4 g5 g6 g7 hb
 go_enter func134, ntmps134
 go_wp2
 go_ret
 first | exact ⟨⟨w.heap.size, 7, rfl, l_ _, HO.out⟩, HB.out⟩ | exact ⟨⟨w.heap.size, rfl, l_ _, 7, HO.out⟩, HB.out⟩
theorem e_K (w : World) : Calls prog 135 #[] w fun e w' => (∃ B n, e = .returned (.map (some B)) ∧ w.heap.size ≤ B ∧ w'.ownsMap prog 9 (plainElem prog 3) B n (f_s f_q c_g)) ∧ Below w.heap.size w w' := by
 refine t_b ?_; intro hmm hm
 refine w_3 ?_; intro w1 r1 o1 g1
 obtain ⟨w2, r2, o2, g2⟩ := o1.update (t := 152) (val := .int .i64 3) a_Q underlying152 d_ (keyOf_string_mk (s := ⟨#[115, 117, 109]⟩) underlying9 d_) (plainElem_int underlying3 d_)
 obtain ⟨w3, r3, o3, g3⟩ := o2.update (t := 152) (val := .int .i64 8) a_Q underlying152 d_ (keyOf_string_mk (s := ⟨#[110, 117, 109, 98, 101, 114]⟩) underlying9 d_) (plainElem_int underlying3 d_)
 obtain ⟨w4, r4, o4, g4⟩ := o3.update (t := 152) (val := .int .i64 9) a_Q underlying152 d_ (keyOf_string_mk (s := ⟨#[114, 97, 110, 107]⟩) underlying9 d_) (plainElem_int underlying3 d_)
 obtain ⟨w5, r5, o5, g5⟩ := o4.update (t := 152) (val := .int .i64 10) a_Q underlying152 d_ (keyOf_string_mk (s := ⟨#[108, 97, 103]⟩) underlying9 d_) (plainElem_int underlying3 d_)
 obtain ⟨w6, r6, o6, g6⟩ := o5.update (t := 152) (val := .int .i64 11) a_Q underlying152 d_ (keyOf_string_mk (s := ⟨#[108, 101, 97, 100]⟩) underlying9 d_) (plainElem_int underlying3 d_)
 obtain ⟨w7, r7, o7, g7⟩ := o6.update (t := 152) (val := .int .i64 12) a_Q underlying152 d_ (keyOf_string_mk (s := ⟨#[102, 105, 114, 115, 116]⟩) underlying9 d_) (plainElem_int underlying3 d_)
 obtain ⟨w8, r8, o8, g8⟩ := o7.update (t := 152) (val := .int .i64 13) a_Q underlying152 d_ (keyOf_string_mk (s := ⟨#[108, 97, 115, 116]⟩) underlying9 d_) (plainElem_int underlying3 d_)
 have HO := a_0 (show w8.ownsMap prog 9 (plainElem prog 3) w.heap.size 8 (f_s f_q c_g) from o8)
 have hb : Below w.heap.size w w8 := by
  refine Below.grown (Below.grown (Below.grown (Below.grown (Below.grown (Below.grown (Below.grown (Below.grown (((b_ _ w).alloc (l_ _) _)) g1 ?_ ?_) g2 ?_ ?_) g3 ?_ ?_) g4 ?_ ?_) g5 ?_ ?_) g6 ?_ ?_) g7 ?_ ?_) g8 ?_ ?_
  all_goals first
   | (intro k hk; injection hk with hk; omega)
   | (have := g1.size; have := g2.size; have := g3.size; have := g4.size; have := g5.size; have := g6.size; have := g7.size; simp at *; first | done | omega)
 have HB := a_0 hb
 clear hm o1 o2 o3 o4 o5 o6 o7 o8 g1 g2 g3 g4 g5 g6 g7 g8 hb
 go_enter func135, ntmps135
 go_wp2
 go_ret
 first | exact ⟨⟨w.heap.size, 8, rfl, l_ _, HO.out⟩, HB.out⟩ | exact ⟨⟨w.heap.size, rfl, l_ _, 8, HO.out⟩, HB.out⟩
set_option maxRecDepth 512
theorem f_w {α : Type} {p q : α → Bool} : ∀ (l : List α), (∀ x ∈ l, q x = true → p x = true) → ∀ x ∈ l, p x = true → q x = false → l.countP q < l.countP p
 | [], _, x, hx, _, _ => absurd hx s_
 | y :: l, h, x, hx, hp, hq => by
  have hle : l.countP q ≤ l.countP p := List.countP_mono_left fun z hz => h z (List.mem_cons_of_mem _ hz)
  rw [List.countP_cons, List.countP_cons]
  rcases List.mem_cons.1 hx with e | hx
  ·subst e
   simp [hp, hq]
   omega
  ·have := f_w l (fun z hz => h z (List.mem_cons_of_mem _ hz)) x hx hp hq
   by_cases hy : q y = true
   ·simp [hy, h y (List.mem_cons_self) hy]; omega
   ·simp [hy]; omega
theorem r_p {P : Program} {ops : Array Oper} {Q : Exit → Act → World → Prop} {md : Region.Mode} (Inv : Array Bool → Act → World → Prop)
  (hsz : ∀ listed a w, Inv listed a w → listed.size = ops.size)
  (hstep : ∀ listed a w i, Inv listed a w → i ∈ Region.ready md ops listed → wpOp P ops Q i (fun a' w' => Inv (listed.setIfInBounds i true) a' w') a w)
  (hend : ∀ listed a w, Inv listed a w → Region.ready md ops listed = [] → Q .normal a w) :
  ∀ (fuel : Nat) (listed : Array Bool) (a : Act) (w : World), Inv listed a w → (List.range ops.size).countP (fun i => !listed.getD i true) ≤ fuel → wpAny P md ops Q fuel listed a w
 | 0, listed, a, w, hI, hc => by
  have hr : Region.ready md ops listed = [] := by
   apply List.eq_nil_iff_forall_not_mem.2; intro j hj; refine w_g ?_; intro h1 h2 h3
   omega
  exact ⟨hr, hend _ _ _ hI hr⟩
 | n + 1, listed, a, w, hI, hc => ⟨fun hr => hend _ _ _ hI hr, fun i hi => wpOp_mono (fun a' w' h => r_p Inv hsz hstep hend n _ a' w' h (by
   have h1 := (List.mem_filter.1 hi); have h2 : (!listed.getD i true) = true := by have := h1.2; simp at this; simp [this.1]
   have hlt := f_w (p := fun i => !listed.getD i true) (q := fun j => !(listed.setIfInBounds i true).getD j true) (List.range ops.size) (fun j _ hj => by
    by_cases e : i = j
    ·subst e
     rcases Nat.lt_or_ge i listed.size with hs | hs
     ·simp [Array.getD_eq_getD_getElem?, hs] at hj
     ·simp [Array.getD_eq_getD_getElem?, hs] at hj
    ·simpa [Array.getD_eq_getD_getElem?, e] using hj) i h1.1 h2 (by
     have hs : i < listed.size := by rw [hsz _ _ _ hI]; exact List.mem_range.1 h1.1
     simp [Array.getD_eq_getD_getElem?, hs])
   omega)) (hstep _ _ _ i hI hi)⟩
def l_O (x : a_3) : Option (Int × Bool) :=
 if x = [61] then some (10, false) else if x = [33, 61] then some (11, false) else if x = [60] then some (12, false)
 else if x = [60, 61] then some (13, false) else if x = [62] then some (12, true) else if x = [62, 61] then some (13, true) else none
theorem n_o (t : Tok) : i_o t = if t.kind = 5 then l_O t.text else none := by
 unfold i_o l_O a_9
 by_cases hk : t.kind = 5 <;> simp [hk]
def s_9 (v : Value) : Option (DataW Unit × List MemPlace) := match v with
 | .agg ⟨[.int .i64 o, .bool b]⟩ => some (.agg [.lit (.int .i64 o), .lit (.bool b)], [])
 | _ => none
theorem p_V {v : Value} {o : Int} {b : Bool} {ps : List MemPlace} (h : s_9 v = some (.agg [.lit (.int .i64 o), .lit (.bool b)], ps)) : v = .agg #[.int .i64 o, .bool b] := by
 unfold s_9 at h
 split at h
 ·rename_i o' b'
  injection h with h
  injection h with h _
  injection h with h
  injection h with h1 h2
  injection h1 with h1
  injection h1 with _ h1
  injection h2 with h2 _
  injection h2 with h2
  injection h2 with h2
  subst h1 h2
  rfl
 ·cases h
def cv (o : Int) (b : Bool) : DataW Unit := .agg [.lit (.int .i64 o), .lit (.bool b)]
def s_4 : DataW Unit := ((((((DataW.map [] : DataW Unit).put (.string [61]) (cv 10 false)).put (.string [33, 61]) (cv 11 false)).put (.string [60]) (cv 12 false)).put (.string [60, 61]) (cv 13 false)).put (.string [62]) (cv 12 true)).put (.string [62, 61]) (cv 13 true)
theorem r_z : s_4 = .map [(.string [33, 61], cv 11 false), (.string [60], cv 12 false), (.string [60, 61], cv 13 false), (.string [61], cv 10 false), (.string [62], cv 12 true), (.string [62, 61], cv 13 true)] := by rfl
theorem r_l (x : a_3) : Maps.has s_4 (.string x) = (l_O x).isSome ∧ s_4.atKey (.string x) (cv 0 false) = cv ((l_O x).getD (0, false)).1 ((l_O x).getD (0, false)).2 := by
 rw [r_z]
 by_cases h1 : x = [61]
 ·subst h1; exact ⟨rfl, rfl⟩
 by_cases h2 : x = [33, 61]
 ·subst h2; exact ⟨rfl, rfl⟩
 by_cases h3 : x = [60]
 ·subst h3; exact ⟨rfl, rfl⟩
 by_cases h4 : x = [60, 61]
 ·subst h4; exact ⟨rfl, rfl⟩
 by_cases h5 : x = [62]
 ·subst h5; exact ⟨rfl, rfl⟩
 by_cases h6 : x = [62, 61]
 ·subst h6; exact ⟨rfl, rfl⟩
 have e1 : (([61] : a_3) == x) = false := beq_eq_false_iff_ne.2 (fun e => h1 e.symm)
 have e2 : (([33, 61] : a_3) == x) = false := beq_eq_false_iff_ne.2 (fun e => h2 e.symm)
 have e3 : (([60] : a_3) == x) = false := beq_eq_false_iff_ne.2 (fun e => h3 e.symm)
 have e4 : (([60, 61] : a_3) == x) = false := beq_eq_false_iff_ne.2 (fun e => h4 e.symm)
 have e5 : (([62] : a_3) == x) = false := beq_eq_false_iff_ne.2 (fun e => h5 e.symm)
 have e6 : (([62, 61] : a_3) == x) = false := beq_eq_false_iff_ne.2 (fun e => h6 e.symm)
 simp [Maps.has, DataW.atKey, d_A, e1, e2, e3, e4, e5, e6, l_O, h1, h2, h3, h4, h5, h6]
theorem s_r (w : World) : (zeroValue 304).run prog w = .ok (.agg #[.int .i64 0, .bool false]) w := by kernel_rfl
set_option maxRecDepth 100000
theorem p_8 {w : World} {B n : Nat} (h : w.ownsMap prog 9 s_9 B n s_4) (x : a_3) (hs : x.length ≤ maxLen) :
  (Instr.lookup 306 (.map (some B)) (str x) true).run prog w = .ok (.tuple #[.agg #[.int .i64 ((l_O x).getD (0, false)).1, .bool ((l_O x).getD (0, false)).2], .bool (l_O x).isSome]) w := by
 obtain ⟨v, ps, hrun, hv⟩ := h.look_ok a_Q underlying306 (s_r w) (zd := cv 0 false) (zp := []) rfl (keyOf_string_mk (s := ⟨x.toArray⟩) underlying9 (by show x.toArray.size ≤ _; simpa using hs))
 have e : (⟨x.toArray⟩ : ByteArray).data.toList = x := rfl
 rw [e] at hrun hv
 obtain ⟨h1, h2⟩ := r_l x
 rw [h2] at hv
 have hv2 := p_V hv
 subst hv2
 rw [h1] at hrun
 exact hrun
theorem h_C (w : World) : Calls prog 322 #[] w fun e w' => (∃ B n, e = .returned (.map (some B)) ∧ w'.ownsMap prog 9 s_9 B n s_4) ∧ Below w.heap.size w w' := by
 have hmm := @run_makeMap prog
 have hm := World.ownsMap_made (H := Unit) w prog 9 s_9
 obtain ⟨w1, r1, o1, g1⟩ := hm.update (t := 306) (val := .agg #[.int .i64 10, .bool false]) a_Q underlying306 d_ (keyOf_string_mk (s := ⟨#[61]⟩) underlying9 d_) rfl
 obtain ⟨w2, r2, o2, g2⟩ := o1.update (t := 306) (val := .agg #[.int .i64 11, .bool false]) a_Q underlying306 d_ (keyOf_string_mk (s := ⟨#[33, 61]⟩) underlying9 d_) rfl
 obtain ⟨w3, r3, o3, g3⟩ := o2.update (t := 306) (val := .agg #[.int .i64 12, .bool false]) a_Q underlying306 d_ (keyOf_string_mk (s := ⟨#[60]⟩) underlying9 d_) rfl
 obtain ⟨w4, r4, o4, g4⟩ := o3.update (t := 306) (val := .agg #[.int .i64 13, .bool false]) a_Q underlying306 d_ (keyOf_string_mk (s := ⟨#[60, 61]⟩) underlying9 d_) rfl
 obtain ⟨w5, r5, o5, g5⟩ := o4.update (t := 306) (val := .agg #[.int .i64 12, .bool true]) a_Q underlying306 d_ (keyOf_string_mk (s := ⟨#[62]⟩) underlying9 d_) rfl
 obtain ⟨w6, r6, o6, g6⟩ := o5.update (t := 306) (val := .agg #[.int .i64 13, .bool true]) a_Q underlying306 d_ (keyOf_string_mk (s := ⟨#[62, 61]⟩) underlying9 d_) rfl
 have HO := a_0 o6
 have hb : Below w.heap.size w w6 := by
  refine Below.grown (Below.grown (Below.grown (Below.grown (Below.grown (Below.grown ((b_ _ w).alloc (l_ _) _) g1 ?_ ?_) g2 ?_ ?_) g3 ?_ ?_) g4 ?_ ?_) g5 ?_ ?_) g6 ?_ ?_
  all_goals first
   | (intro k hk; injection hk with hk; omega)
   | (have := g1.size; have := g2.size; have := g3.size; have := g4.size; have := g5.size; simp at *; first | done | omega)
 have HB := a_0 hb
 clear hm o1 o2 o3 o4 o5 o6 g1 g2 g3 g4 g5 g6 hb
 go_enter func322, ntmps322
 go_wp2
 go_ret
 first | exact ⟨⟨w.heap.size, 6, rfl, HO.out⟩, HB.out⟩ | exact ⟨⟨w.heap.size, rfl, 6, HO.out⟩, HB.out⟩
set_option maxRecDepth 512
theorem c_C {P : Program} {ops : Array Oper} {o : Oper} {a : Act} {w : World} {K : Act → World → Prop} {Q : Exit → Act → World → Prop} {E : Prop} (hgd : o.guard = none) (s x : Operand) (t : TypeId)
  (ho : o.op = .call { callee := .builtin .append, args := #[s, x], argTypes := #[t, t] })
  (base : Nat) (e : TypeId) (i : TypeInfo) (z : Value) (size bytes : Nat) (ht : P.underlying t = some (.slice e)) (hi : P.info? e = some i) (hz : i.zero = some z)
  (hsize : i.size = size) (hby : i.bytes = bytes) (hzs : z.cells.size = size) (hsz : 0 < size)
  (v : Value) (n : Nat) (xs : List Value) (hs : a.eval s = v) (hown : w.ownsRow base e size v n xs)
  (ad : Addr) (m c : Nat) (news : List Value) (hx : a.eval x = .slice (some ad) m c) (hl : news.length = m * size) (hnews : ∀ j u, news[j]? = some u → w.cell? (ad.add j) = some u) (h1 : ∀ u ∈ news, u.oneCell' = true)
  (h63 : n + m ≤ maxLen) (hbytes : (n + m) * bytes ≤ 140737488355328) (hbase : base ≤ w.heap.size)
  (h : ∀ v' w', w'.ownsRow base e size v' (n + m) (xs ++ news) → w.grownBy w' v.ownBlock → K (a.put o.dst v') w') :
  if Region.wanted o (yielded ops a.tmps) = true then Oper.wp P o a w K Q else E := by
 have hw : Region.wanted o (yielded ops a.tmps) = true := by simp [Region.wanted, hgd]
 rw [if_pos hw]
 exact wp_append_own w s x t ho base e i z size bytes ht hi hz hsize hby hzs hsz v n xs hs hown ad m c news hx hl hnews h1 h63 hbytes hbase fun v' w' h2 h3 _ => h v' w' h2 h3
theorem j_R {P : Program} {ops : Array Oper} {o : Oper} {a : Act} {w : World} {K : Act → World → Prop} {Q : Exit → Act → World → Prop} {E : Prop} (hgd : o.guard = none) (s x : Operand) (t : TypeId)
  (ho : o.op = .call { callee := .builtin .append, args := #[s, x], argTypes := #[t, t] })
  (base : Nat) (e : TypeId) (i : TypeInfo) (size : Nat) (ht : P.underlying t = some (.slice e)) (hi : P.info? e = some i)
  (v : Value) (n : Nat) (xs : List Value) (hs : a.eval s = v) (hown : w.ownsRow base e size v n xs) (hx : a.eval x = .slice none 0 0)
  (h : K (a.put o.dst v) w) :
  if Region.wanted o (yielded ops a.tmps) = true then Oper.wp P o a w K Q else E := by
 have hw : Region.wanted o (yielded ops a.tmps) = true := by simp [Region.wanted, hgd]
 rw [if_pos hw]
 have hrun := run_append_owned_none (P := P) (w := w) base t o.type e i size ht hi v n xs hown
 unfold Oper.wp
 simp [execOp, ho, resolve, invoke, builtin, hs, hx, hrun, Result.andThen]
 exact h
theorem b_d {W : World} {o : Obj} {B : Nat} (h : W.heap.size = B) : (W.alloc o).heap[B]? = some o := by subst h; exact heap_alloc_new W o
def q_u (ts : List Tok) (F d : Nat) (es : List Nd) (j : Nat) : PR := match i_o (tk ts j) with
 | none => .ok es j
 | some (o, b) => (prs ts F 4 (j + 1) d).bind fun fs m => .ok ((if b = true then fs ++ es else es ++ fs) ++ [c_3 o]) m
theorem q_J (ts : List Tok) (F i d : Nat) : prs ts (F + 1) 3 i d = (prs ts F 4 i d).bind (q_u ts F d) := rfl
set_option maxRecDepth 100000
theorem n_I (F P : Nat) (A : Option Addr) (ts : List Tok) (c : Nat) (hv : a_O ts = true) (hlen : ts.length ≤ 1000000) (hCh : ChC 321 F 4 3 P A ts c) : LvC 306 (F + 1) 3 P A ts c := by
 intro W i d hS hi hd _ hF
 rw [q_J]
 have hP := hS.lt
 have HS := a_0 hS
 have HCh := a_0 (show ∀ (X : World) (j : Nat) (Lv : Option Addr), PSt XT X P A ts c j d 0 → W.grownBy X (some P) → j < ts.length → i ≤ j → c_t X P Lv 3 4 → Calls prog 287 #[.pointer (some ⟨P, 0, none⟩), .slice Lv 3 3, .func (.func 321) #[.pointer (some ⟨P, 0, none⟩)] #[]] X (fun e2 w2 => ∃ (B2 : Option Addr) (n2 : Nat) (fs : List Nd) (k d2 : Nat) (x2 : Int), e2 = .returned (.slice B2 fs.length n2) ∧ w2.ownsRow W.heap.size 116 6 (.slice B2 fs.length n2) fs.length (a_a fs) ∧ w2.ownsRow X.heap.size 116 6 (.slice B2 fs.length n2) fs.length (a_a fs) ∧ PSt XT w2 P A ts c k d2 x2 ∧ W.grownBy w2 (some P) ∧ X.grownBy w2 (some P) ∧ j ≤ k ∧ k < ts.length ∧ fs.length ≤ k - j ∧
   ((x2 = 0 ∧ d2 = d ∧ j < k ∧ prs ts F 4 j d = .ok fs k) ∨ (x2 ≠ 0 ∧ prs ts F 4 j d = .err x2 k ∧ d ≤ d2 ∧ d2 ≤ k))) from fun X j Lv hx hg hj hij hl =>
  (hCh X j d Lv hx hj o_ hl o_).mono fun e2 w2 h => by
   obtain ⟨B2, n2, fs, k, d2, x2, h1, h2, h3, h4, h5, h6, h7, h8⟩ := a_C (b_6 hv F 4 j d hj (fun e => absurd e o_)) h
   exact ⟨B2, n2, fs, k, d2, x2, h1, a_Z h2 hg.size, h2, h3, hg.trans h4, h4, h5, h6, h7, h8⟩)
 clear hS hCh
 refine p_0 ?_; intro hmf
 refine _ag ?_; intro i0 hi0 hz0 hz1 hz2
 generalize hr : prs ts F 4 i d = r at *
 have Hr := a_0 hr
 clear hr
 generalize hRR : r.bind (q_u ts F d) = R at *
 have HR := a_0 hRR
 clear hRR
 go_enter func306, ntmps306
 go_wp2_with fail
 refine (j_Q P W hP).mono ?_
 rintro e w1 ⟨⟨Lv, rfl, hL⟩, hb1⟩
 have HL := a_0 hL
 clear hL
 go_wp2_with fail
 refine (HCh.out w1 i Lv (HS.out.below hb1) (a_1 hb1) hi (l_ _) HL.out).mono ?_
 rw [Hr.out]
 rintro e2 w2 ⟨B, n, es, j, d', x, rfl, ho2, _, hS2, hg2, _, hij, hjl, hel, hD2⟩
 have HS2 := a_0 hS2
 have HG2 := a_0 hg2
 have HO2 := a_0 ho2
 have HD2 := a_0 hD2
 obtain ⟨c0, c1, c2, c3⟩ := hS2.cells
 have hP2 := hS2.lt
 have hgs := hg2.size
 clear hS2 hg2 ho2 hD2 HL
 by_cases hx : x = 0
 rotate_left
 ·rcases HD2.out with ⟨h, _⟩ | ⟨_, hr, hd4⟩
  ·exact absurd h hx
  have hxb : (x != 0) = true := by simpa using hx
  have HE := a_0 (show R = .err x j from by rw [← HR.out, hr]; rfl)
  clear hr
  go_wp2
  go_ret
  rw [HE.out]
  exact ⟨HG2.out, [], d', ⟨none, 0, rfl, a_o _ _ _ _⟩, hij, s_, hd4, HS2.out⟩
 rcases HD2.out with ⟨_, hdd, hij2, hr⟩ | ⟨h, _⟩
 rotate_left
 ·exact absurd hx h
 subst hx hdd
 have hG2 : q_u ts F d' es j = R := by rw [← HR.out, hr]; rfl
 clear hr HD2 HR
 unfold q_u at hG2
 rw [n_o] at hG2
 obtain ⟨g, off, rfl, hgP, t0, t1, t2, t3⟩ := HS2.out.tok.at_ hjl
 have hg : g < w2.heap.size := Nat.lt_trans hgP hP2
 have htl := d_d hv hjl
 have hnx := fun (h : (tk ts j).kind ≠ 0) => b_0 hv hjl h
 generalize tk ts j = t at *
 obtain ⟨tk0, tk1, tk2, tk3⟩ := t
 simp only at t0 t1 t2 t3 htl hnx hG2
 have HG := a_0 hG2
 clear hG2
 have HLk0 := fun (X : World) (Bc nc : Nat) (h : X.ownsMap prog 9 s_9 Bc nc s_4) => p_8 h tk1 x_
 obtain ⟨ov, bv, hv2, HOv⟩ : ∃ (ov : Int) (bv hv2 : Bool), Hid (((l_O tk1).getD (0, false)).1 = ov ∧ ((l_O tk1).getD (0, false)).2 = bv ∧ (l_O tk1).isSome = hv2) := ⟨_, _, _, a_0 ⟨rfl, rfl, rfl⟩⟩
 rw [HOv.out.1, HOv.out.2.1, HOv.out.2.2] at HLk0
 have HLk := a_0 HLk0
 clear HLk0
 go_wp2
 go_region
 go_upto_region 5 with fail
 go_cut [5, 6] from 28 to 34 (fun s5 s6 wx => ∃ cB : Nat, s5 = .pointer (some ⟨cB, 0, none⟩) ∧ s6 = .bool hv2 ∧ Hid (Below w2.heap.size w2 wx) ∧ w2.heap.size < cB ∧ cB < wx.heap.size ∧ wx.cell? ⟨cB, 0, none⟩ = some (.int .i64 ov) ∧ wx.cell? ⟨cB, 1, none⟩ = some (.bool bv) ∧ wx.cell? ⟨w2.heap.size, 0, none⟩ = some (.int .i64 tk0))
 case first =>
  first | (go_region_with (go_at_call 322; refine (h_C _).mono ?_; rintro e5 w5 ⟨⟨Bc, nc, rfl, hown⟩, hb5⟩; have hbw5 : Below w2.heap.size w2 w5 := a_n hb5 zX; have hl0 := HLk.out w5 Bc nc hown; have hl2 := fun (o : Obj) => HLk.out (w5.alloc o) Bc nc (hown.alloc o); have m0 : w5.cell? ⟨w2.heap.size, 0, none⟩ = some (.int .i64 tk0) := (hb5.cell (p := ⟨w2.heap.size, 0, none⟩) n_).trans (by go_simp); have m1 : w5.cell? ⟨w2.heap.size, 1, none⟩ = some (str tk1) := (hb5.cell (p := ⟨w2.heap.size, 1, none⟩) n_).trans (by go_simp); have hz5 : w2.heap.size < w5.heap.size := (by have := hb5.size; simp at this; omega); (first | (have k0 : w5.cell? ⟨w2.heap.size + 1, 0, none⟩ = some (.int .i64 0) := (hb5.cell (p := ⟨w2.heap.size + 1, 0, none⟩) n_).trans (by go_simp); have k1 : w5.cell? ⟨w2.heap.size + 1, 1, none⟩ = some (.bool false) := (hb5.cell (p := ⟨w2.heap.size + 1, 1, none⟩) n_).trans (by go_simp); have kf0 : w5.frozen? ⟨w2.heap.size + 1, 0, none⟩ = false := (World.frozen?_of_block (hb5.block (w2.heap.size + 1) n_)).trans (by go_simp); have kf1 : w5.frozen? ⟨w2.heap.size + 1, 1, none⟩ = false := (World.frozen?_of_block (hb5.block (w2.heap.size + 1) n_)).trans (by go_simp); have hz52 : w2.heap.size + 1 < w5.heap.size := (by have := hb5.size; simp at this; omega)) | skip))) | fail
  all_goals
   go_wp2_with fail
   go_meet
   refine ⟨_, rfl, rfl, a_0 zX, ?_, ?_, ?_, ?_, ?_⟩
   all_goals first | (simp; done) | (simp; omega) | go_simp
 case rest =>
  obtain ⟨cB, rfl, rfl, HBc, hcB1, hcB2, q0, q1, m0⟩ := hcut
  have HS5 := a_0 (HS2.out.below HBc.out)
  have HG5 := a_0 (a_h HG2.out HBc.out)
  have HO5 := a_0 (a_8 HO2.out HBc.out)
  have hz5 := HBc.out.size
  clear c0 c1 c2 c3 t0 t1 t2 t3 HLk
  have hG2 := HG.out
  clear HG
  have key : (∃ (h5 : tk0 = 5), hv2 = true ∧ l_O tk1 = some (ov, bv)) ∨ (R = .ok es j ∧ ((tk0 != 5) = true ∨ ((tk0 != 5) = false ∧ hv2 = false))) := by
   obtain ⟨v1, v2, v3⟩ := HOv.out
   by_cases h5 : tk0 = 5
   ·rw [if_pos h5] at hG2
    cases hc : l_O tk1 with
    | none =>
     rw [hc] at v3 hG2; exact .inr ⟨hG2.symm, .inr ⟨by simpa using h5, v3.symm⟩⟩
    | some p =>
     rw [hc] at v1 v2 v3; refine .inl ⟨h5, v3.symm, ?_⟩; rw [← v1, ← v2]; rfl
   ·rw [if_neg h5] at hG2
    exact .inr ⟨hG2.symm, .inl (by simpa using h5)⟩
  rcases key with ⟨h5, hvt, hcm⟩ | ⟨hE, hkk⟩
  rotate_left
  ·have HE := a_0 hE
   clear hE hG2
   rcases hkk with hk | ⟨hk, rfl⟩
   all_goals
    go_wp2
    go_ret
    rw [HE.out]; exact ⟨HG5.out, ⟨B, n, rfl, HO5.out⟩, HS5.out⟩
  subst h5 hvt
  rw [if_pos rfl, hcm] at hG2
  simp only at hG2
  have HE := a_0 hG2
  have hj1 := hnx d_
  clear hG2 hcm HOv hnx
  obtain ⟨c0, c1, c2, c3⟩ := HS5.out.cells
  have hP5 := HS5.out.lt
  have hfr := HS5.out.free
  have HS6 := a_0 (HS5.out.setAt (j + 1))
  have HG6 := a_0 (a_d HG5.out 1 (.int .i64 ((j + 1 : Nat) : Int)))
  have HO6 := a_0 (a_v HO5.out (a_d (g_ wc (some P)) 1 (.int .i64 ((j + 1 : Nat) : Int))) hP)
  have HK6 := a_0 (show wc.grownBy (wc.setCell ⟨P, 1, none⟩ (.int .i64 ((j + 1 : Nat) : Int))) (some P) from a_d (g_ wc (some P)) 1 _)
  go_wp2_with fail
  refine (j_Q P _ m_).mono ?_
  rintro e6 w6 ⟨⟨Lv2, rfl, hL2⟩, hb6⟩
  have HL2 := a_0 hL2
  have HS7 := a_0 (HS6.out.below hb6)
  have HG7 := a_0 (a_h HG6.out hb6)
  have HO7 := a_0 (a_8 HO6.out hb6)
  have HK7 := a_0 (a_h HK6.out hb6)
  clear hL2 hb6 c0 c1 c2 c3 hfr HS6 HG6 HO6 HK6
  go_wp2_with fail
  refine (HCh.out w6 (j + 1) Lv2 HS7.out HG7.out hj1 o_ HL2.out).mono ?_
  rintro e8 w8 ⟨B8, n8, fs, k, d8, x8, rfl, ho8, ho8x, hS8, hg8, hgX, hjk, hkl, hfl, hD8⟩
  have HO9 := a_0 (a_v HO7.out hgX hP)
  have hK8 := HK7.out.trans hgX
  have HS8 := a_0 hS8
  have HG8 := a_0 hg8
  have HO8 := a_0 ho8
  have HO8x := a_0 ho8x
  have hcB6 : cB < w6.heap.size := Nat.lt_of_lt_of_le hcB2 HK7.out.size
  have HD8 := a_0 hD8
  have hq0 : w8.cell? ⟨cB, 0, none⟩ = some (.int .i64 ov) := hK8.cell q0 (by intro e; injection e with e; simp at e; omega)
  have hq1 : w8.cell? ⟨cB, 1, none⟩ = some (.bool bv) := hK8.cell q1 (by intro e; injection e with e; simp at e; omega)
  have hcB3 : cB < w8.heap.size := Nat.lt_of_lt_of_le hcB2 hK8.size
  have hW8 := hg8.size
  clear hK8 ho8 ho8x hS8 hg8 hgX hD8 q0 q1 m0 HL2 HK7
  cases bv with
  | false =>
   go_upto_region 12 with fail
   rcases d_h HO8.out with ⟨hB0, hl0, hn0⟩ | ⟨gf, hB0⟩
   ·subst hB0 hn0
    obtain rfl : fs = [] := List.eq_nil_of_length_eq_zero hl0; clear hl0; simp only [List.length_nil] at *
    first | (go_region_law (first
     | (refine j_R r_ _ _ _ r_ _ 116 i0 6 underlying25 hi0 _ _ _ r_ (a_8 HO9.out zX) r_ ?_)
     | (refine c_C r_ _ _ _ r_ W.heap.size 116 i0 _ 6 64 underlying25 hi0 hz0 hz1 hz2 rfl o_ _ _ _ r_ (a_8 HO9.out zX) ⟨_, 0, none⟩ 1 1 [.int .i64 ov, .int .i64 0, .int .i64 0, str [], str [], .int .i64 0] r_ rfl (by exact b_h (b_d s_)) c_ x_ o_ m_ ?_; intro v4 w4 o4 g4; obtain ⟨B4, n4, rfl⟩ := a_i o4; have HS4 := a_0 (PSt.gr (HS8.out.below zX) g4 (fun j hj => by have := (HO9.out.lt j hj).1; omega)); have HG4 := a_0 (World.grownBy.andThen (a_h HG8.out zX) g4 (fun j hj => .inl (HO9.out.lt j hj).1)); have HO4 := a_0 (d_5 (nd := c_3 ov) o4); clear o4 g4))) | fail
    all_goals
     go_wp2
     refine bodyPost_ret (v := .slice B4 (es.length + 1) n4) (by simp [results, results306, go_sem]) rfl ?_
     rcases HD8.out with ⟨e1, e2, e3, e4⟩ | ⟨e1, e4, e5⟩
     ·have hE := HE.out
      exact _ao
     ·have hE := HE.out
      rw [e4] at hE; simp only [PR.bind, Bool.false_eq_true, ↓reduceIte, List.append_nil, List.nil_append] at hE; rw [← hE]; exact ⟨HG4.out, es ++ [c_3 ov], d8, ⟨B4, n4, by first | rfl | (simp; done) | (simp; omega), HO4.out⟩, o_, by simp only [List.length_append, List.length_singleton, List.length_nil]; omega, e5, HS4.out⟩
   ·subst hB0
    have HCf := a_0 (show ∀ X, Below w8.heap.size w8 X → ∀ j u, (a_a fs)[j]? = some u → X.cell? ((⟨gf, 0, none⟩ : Addr).add j) = some u from fun X hX => (b_q (a_8 HO8.out hX)).2.2)
    first | (go_region_law (first
     | (refine c_C r_ _ _ _ r_ W.heap.size 116 i0 _ 6 64 underlying25 hi0 hz0 hz1 hz2 rfl o_ _ _ _ r_ (a_8 HO9.out zX) ⟨gf, 0, none⟩ fs.length n8 (a_a fs) r_ (b_4 _) (HCf.out _ zX) (e_d _) x_ o_ (by first | omega | (simp; omega)) ?_; intro v3 w3 o3 g3; obtain ⟨B3, n3, rfl⟩ := a_i o3; have HS3 := a_0 (PSt.gr (HS8.out.below zX) g3 (fun j hj => by have := (HO9.out.lt j hj).1; omega)); have HG3 := a_0 (World.grownBy.andThen (a_h HG8.out zX) g3 (fun j hj => .inl (HO9.out.lt j hj).1)); have HO3 := a_0 o3; have hq3 : w3.cell? ⟨cB, 0, none⟩ = some (.int .i64 ov) := g3.cell (by first | exact hq0 | go_simp) (by intro e; have := (HO2.out.lt cB e.symm).2; omega); have hz3 := g3.size; (first | (have hS3 : w3.heap[w8.heap.size]? = some (.cells #[.int .i64 ov, .int .i64 0, .int .i64 0, str [], str [], .int .i64 0] 116) := (g3.block w8.heap.size n_ (by intro e; have := (HO9.out.lt w8.heap.size e.symm).2; omega)).trans (by exact b_d s_); have hz33 : w8.heap.size < w3.heap.size := Nat.lt_of_lt_of_le n_ hz3) | skip); clear o3 g3)
     | (refine c_C r_ _ _ _ r_ W.heap.size 116 i0 _ 6 64 underlying25 hi0 hz0 hz1 hz2 rfl o_ _ _ _ r_ (a_8 HO3.out zX) ⟨_, 0, none⟩ 1 1 [.int .i64 ov, .int .i64 0, .int .i64 0, str [], str [], .int .i64 0] r_ rfl (by first | exact b_h (b_d s_) | exact b_h hS3) c_ x_ o_ (by first | omega | (simp; omega) | (simp at hz3; simp; omega)) ?_; intro v4 w4 o4 g4; obtain ⟨B4, n4, rfl⟩ := a_i o4; have HS4 := a_0 (PSt.gr (HS3.out.below zX) g4 (fun j hj => by have := (HO3.out.lt j hj).1; omega)); have HG4 := a_0 (World.grownBy.andThen (a_h HG3.out zX) g4 (fun j hj => .inl (HO3.out.lt j hj).1)); have HO4 := a_0 (k_F (o := ov) o4); clear o4 g4))) | fail
    all_goals
     go_wp2
     refine bodyPost_ret (v := .slice B4 (es.length + fs.length + 1) n4) (by simp [results, results306, go_sem]) rfl ?_
     rcases HD8.out with ⟨e1, e2, e3, e4⟩ | ⟨e1, e4, e5⟩
     ·have hE := HE.out
      exact _ao
     ·have hE := HE.out
      rw [e4] at hE; simp only [PR.bind, Bool.false_eq_true, ↓reduceIte, List.append_nil, List.nil_append] at hE; rw [← hE]; exact ⟨HG4.out, (es ++ fs) ++ [c_3 ov], d8, ⟨B4, n4, by first | rfl | (simp; done) | (simp; omega), HO4.out⟩, o_, by simp only [List.length_append, List.length_singleton, List.length_nil]; omega, e5, HS4.out⟩
  | true =>
   go_upto_region 12 with fail
   rcases d_h HO9.out with ⟨hB0, hl0, hn0⟩ | ⟨gf, hB0⟩
   ·subst hB0 hn0
    obtain rfl : es = [] := List.eq_nil_of_length_eq_zero hl0; clear hl0; simp only [List.length_nil] at *
    first | (go_region_law (first
     | (refine j_R r_ _ _ _ r_ _ 116 i0 6 underlying25 hi0 _ _ _ r_ (a_8 HO8.out zX) r_ ?_)
     | (refine c_C r_ _ _ _ r_ W.heap.size 116 i0 _ 6 64 underlying25 hi0 hz0 hz1 hz2 rfl o_ _ _ _ r_ (a_8 HO8.out zX) ⟨_, 0, none⟩ 1 1 [.int .i64 ov, .int .i64 0, .int .i64 0, str [], str [], .int .i64 0] r_ rfl (by exact b_h (b_d s_)) c_ x_ o_ m_ ?_; intro v4 w4 o4 g4; obtain ⟨B4, n4, rfl⟩ := a_i o4; have HS4 := a_0 (PSt.gr (HS8.out.below zX) g4 (fun j hj => by have := (HO8.out.lt j hj).1; omega)); have HG4 := a_0 (World.grownBy.andThen (a_h HG8.out zX) g4 (fun j hj => .inl (HO8.out.lt j hj).1)); have HO4 := a_0 (d_5 (nd := c_3 ov) o4); clear o4 g4))) | fail
    all_goals
     go_wp2
     refine bodyPost_ret (v := .slice B4 (fs.length + 1) n4) (by simp [results, results306, go_sem]) rfl ?_
     rcases HD8.out with ⟨e1, e2, e3, e4⟩ | ⟨e1, e4, e5⟩
     ·have hE := HE.out
      exact _ao
     ·have hE := HE.out
      rw [e4] at hE; simp only [PR.bind, Bool.false_eq_true, ↓reduceIte, List.append_nil, List.nil_append] at hE; rw [← hE]; exact ⟨HG4.out, fs ++ [c_3 ov], d8, ⟨B4, n4, by first | rfl | (simp; done) | (simp; omega), HO4.out⟩, o_, by simp only [List.length_append, List.length_singleton, List.length_nil]; omega, e5, HS4.out⟩
   ·subst hB0
    have HCf := a_0 (show ∀ X, Below w8.heap.size w8 X → ∀ j u, (a_a es)[j]? = some u → X.cell? ((⟨gf, 0, none⟩ : Addr).add j) = some u from fun X hX => (b_q (a_8 HO9.out hX)).2.2)
    first | (go_region_law (first
     | (refine c_C r_ _ _ _ r_ W.heap.size 116 i0 _ 6 64 underlying25 hi0 hz0 hz1 hz2 rfl o_ _ _ _ r_ (a_8 HO8.out zX) ⟨gf, 0, none⟩ es.length n (a_a es) r_ (b_4 _) (HCf.out _ zX) (e_d _) x_ o_ (by first | omega | (simp; omega)) ?_; intro v3 w3 o3 g3; obtain ⟨B3, n3, rfl⟩ := a_i o3; have HS3 := a_0 (PSt.gr (HS8.out.below zX) g3 (fun j hj => by have := (HO8.out.lt j hj).1; omega)); have HG3 := a_0 (World.grownBy.andThen (a_h HG8.out zX) g3 (fun j hj => .inl (HO8.out.lt j hj).1)); have HO3 := a_0 o3; have hq3 : w3.cell? ⟨cB, 0, none⟩ = some (.int .i64 ov) := g3.cell (by first | exact hq0 | go_simp) (by intro e; have := (HO8x.out.lt cB e.symm).1; omega); have hz3 := g3.size; (first | (have hS3 : w3.heap[w8.heap.size]? = some (.cells #[.int .i64 ov, .int .i64 0, .int .i64 0, str [], str [], .int .i64 0] 116) := (g3.block w8.heap.size n_ (by intro e; have := (HO8.out.lt w8.heap.size e.symm).2; omega)).trans (by exact b_d s_); have hz33 : w8.heap.size < w3.heap.size := Nat.lt_of_lt_of_le n_ hz3) | skip); clear o3 g3)
     | (refine c_C r_ _ _ _ r_ W.heap.size 116 i0 _ 6 64 underlying25 hi0 hz0 hz1 hz2 rfl o_ _ _ _ r_ (a_8 HO3.out zX) ⟨_, 0, none⟩ 1 1 [.int .i64 ov, .int .i64 0, .int .i64 0, str [], str [], .int .i64 0] r_ rfl (by first | exact b_h (b_d s_) | exact b_h hS3) c_ x_ o_ (by first | omega | (simp; omega) | (simp at hz3; simp; omega)) ?_; intro v4 w4 o4 g4; obtain ⟨B4, n4, rfl⟩ := a_i o4; have HS4 := a_0 (PSt.gr (HS3.out.below zX) g4 (fun j hj => by have := (HO3.out.lt j hj).1; omega)); have HG4 := a_0 (World.grownBy.andThen (a_h HG3.out zX) g4 (fun j hj => .inl (HO3.out.lt j hj).1)); have HO4 := a_0 (k_F (o := ov) o4); clear o4 g4))) | fail
    all_goals
     go_wp2
     refine bodyPost_ret (v := .slice B4 (fs.length + es.length + 1) n4) (by simp [results, results306, go_sem]) rfl ?_
     rcases HD8.out with ⟨e1, e2, e3, e4⟩ | ⟨e1, e4, e5⟩
     ·have hE := HE.out
      exact _ao
     ·have hE := HE.out
      rw [e4] at hE; simp only [PR.bind, Bool.false_eq_true, ↓reduceIte, List.append_nil, List.nil_append] at hE; rw [← hE]; exact ⟨HG4.out, (fs ++ es) ++ [c_3 ov], d8, ⟨B4, n4, by first | rfl | (simp; done) | (simp; omega), HO4.out⟩, o_, by simp only [List.length_append, List.length_singleton, List.length_nil]; omega, e5, HS4.out⟩
end
end Go.Proofs.YtmbeeefkpgfgmaaGreatDoor
