/- Parts of the proof. -/
import Derived.Test.YtmbeeefkpgfgmaaGreatDoorPp20
set_option linter.unusedVariables false
set_option linter.unusedSimpArgs false
set_option maxHeartbeats 2000000
namespace Go.Proofs.YtmbeeefkpgfgmaaGreatDoor
open Go.Proofs.Tryz
open Go.RowKit
abbrev RT : TypeId := 263
theorem l_v {P : Program} {fn : Func} {R : Ending → World → Prop} {a : Act} {w : World} (hd : a.defers = []) (h : ∃ v, (results fn a.tmps).run P w = .ok v w ∧ R (.returned v) w) : bodyPost P fn R .ret a w :=
 let ⟨_, h1, h2⟩ := h; bodyPost_ret h1 hd h2
set_option maxRecDepth 100000
theorem f_7 (W : World) (P : Nat) (A : Option Addr) (ts : List Tok) (c i d : Nat) (e : Int) (hS : PSt RT W P A ts c i d e) (k : Nat) (hi : i + k < ts.length) (hl : ts.length ≤ 1000000) :
  Calls prog 309 #[.pointer (some ⟨P, 0, none⟩), .int .i64 k] W fun e' w' => e' = .returned (tk ts (i + k)).agg ∧ Below W.heap.size W w' := by
 obtain ⟨c0, c1, c2, c3⟩ := hS.cells
 obtain ⟨g, off, rfl, hgP, t0, t1, t2, t3⟩ := hS.tok.at_ hi
 have hP := hS.lt
 refine p_Z ?_; intro hg
 clear hS
 refine w_t ?_; intro hw1 hw2 hmin
 generalize tk ts (i + k) = t at *
 obtain ⟨tk0, tk1, tk2, tk3⟩ := t
 simp only at t0 t1 t2 t3
 go_enter func309, ntmps309
 go_wp2
 go_region
 go_wp2
 refine l_v rfl ?_
 apply Exists.intro
 apply And.intro
 ·simp [results, results309, go_sem]
  rfl
 ·exact ⟨rfl, zX⟩
theorem l_f (W : World) (P : Nat) (A : Option Addr) (ts : List Tok) (c i d : Nat) (e : Int) (hS : PSt RT W P A ts c i d e) (hi : i < ts.length) (hl : ts.length ≤ 1000000) (x : a_3) :
  Calls prog 335 #[.pointer (some ⟨P, 0, none⟩), str x] W fun e' w' => e' = .returned (.bool (e == 0 && ((tk ts i).kind == 5 && (tk ts i).text == x))) ∧ Below W.heap.size W w' := by
 have HPk := a_0 (f_7 W P A ts c i d e hS 0 hi hl)
 have HS := a_0 hS
 clear hS
 rw [Nat.add_zero] at HPk
 generalize tk ts i = t at *
 obtain ⟨tk0, tk1, tk2, tk3⟩ := t
 go_enter func335, ntmps335
 go_wp2_with fail
 refine HPk.out.mono ?_
 rintro e1 w1 ⟨rfl, hb1⟩
 refine s_1 ?_; intro hz1 hS1
 obtain ⟨c0, c1, c2, c3⟩ := hS1.cells
 have hP := hS1.lt
 clear hS1
 by_cases he : e = 0
 ·subst he
  by_cases h1 : tk0 = 5
  ·subst h1
   go_wp2
   go_ret
   exact ⟨a_g s_, zX⟩
  ·have hb : (tk0 == 5) = false := beq_eq_false_iff_ne.2 h1
   go_wp2
   exact s_d
 ·have hb : (e == 0) = false := beq_eq_false_iff_ne.2 he
  go_wp2
  exact s_d
theorem m_7 (W : World) (P : Nat) (A : Option Addr) (ts : List Tok) (c i d : Nat) (e : Int) (hS : PSt RT W P A ts c i d e) (hi : i < ts.length) (hl : ts.length ≤ 1000000) (x : a_3) :
  Calls prog 291 #[.pointer (some ⟨P, 0, none⟩), str x] W fun e' w' => e' = .returned (.bool (e == 0 && ((tk ts i).kind == 1 && (tk ts i).text == x))) ∧ Below W.heap.size W w' := by
 have HPk := a_0 (f_7 W P A ts c i d e hS 0 hi hl)
 have HS := a_0 hS
 clear hS
 rw [Nat.add_zero] at HPk
 generalize tk ts i = t at *
 obtain ⟨tk0, tk1, tk2, tk3⟩ := t
 go_enter func291, ntmps291
 go_wp2_with fail
 refine HPk.out.mono ?_
 rintro e1 w1 ⟨rfl, hb1⟩
 refine s_1 ?_; intro hz1 hS1
 obtain ⟨c0, c1, c2, c3⟩ := hS1.cells
 have hP := hS1.lt
 clear hS1
 by_cases he : e = 0
 ·subst he
  by_cases h1 : tk0 = 1
  ·subst h1
   go_wp2
   go_ret
   exact ⟨a_g s_, zX⟩
  ·have hb : (tk0 == 1) = false := beq_eq_false_iff_ne.2 h1
   go_wp2
   exact s_d
 ·have hb : (e == 0) = false := beq_eq_false_iff_ne.2 he
  go_wp2
  exact s_d
set_option maxRecDepth 512
theorem c_Q (v : Vl) (w : World) : Calls prog 345 #[v.agg] w fun e w' => k_M w w' [⟨0, v, [], 0⟩] e ∧ Below w.heap.size w w' := by
 refine v_s ?_; intro HO
 go_enter func345, ntmps345
 go_wp2
 go_ret
 refine ⟨⟨_, 1, v_, HO.out⟩, zX⟩
theorem f_K (W : World) (P : Nat) (A : Option Addr) (ts : List Tok) (c i d : Nat) (hS : PSt RT W P A ts c i d 0) (x : Int) :
  Calls prog 336 #[.pointer (some ⟨P, 0, none⟩), .int .i64 x] W fun e' w' => e' = .returned (.slice none 0 0) ∧ PSt RT w' P A ts c i d x ∧ W.grownBy w' (some P) := by
 refine q_y ?_; intro c0 c1 c2 c3 hP
 have hf := hS.free
 have HS := a_0 (hS.setErr x)
 clear hS
 go_enter func336, ntmps336
 go_wp2
 go_ret
 exact ⟨rfl, HS.out, a_d (g_ _ _) _ _⟩
theorem h_K (W : World) (P : Nat) (A : Option Addr) (ts : List Tok) (c i d : Nat) (e : Int) (hS : PSt RT W P A ts c i d e) (he : e ≠ 0) (x : Int) :
  Calls prog 336 #[.pointer (some ⟨P, 0, none⟩), .int .i64 x] W fun e' w' => e' = .returned (.slice none 0 0) ∧ Below W.heap.size W w' := by
 refine q_y ?_; intro c0 c1 c2 c3 hP
 have hb : (e == 0) = false := beq_eq_false_iff_ne.2 he
 clear hS
 go_enter func336, ntmps336
 go_wp2
 go_ret
 exact ⟨rfl, zX⟩
theorem e_R (W : World) (P : Nat) (A : Option Addr) (ts : List Tok) (c i d : Nat) (hS : PSt RT W P A ts c i d 0) (hi : i < ts.length) (hl : ts.length ≤ 1000000) (x : a_3) (hb : a_9 (tk ts i) x = true) :
  Calls prog 347 #[.pointer (some ⟨P, 0, none⟩), str x] W fun e' w' => e' = .returned (.tuple #[]) ∧ PSt RT w' P A ts c (i + 1) d 0 ∧ W.grownBy w' (some P) := by
 have HI := a_0 (l_f W P A ts c i d 0 hS hi hl x)
 have hb2 : ((0 : Int) == 0 && ((tk ts i).kind == 5 && (tk ts i).text == x)) = true := hb
 rw [hb2] at HI
 have HS := a_0 hS
 clear hS hb hb2
 go_enter func347, ntmps347
 go_wp2_with fail
 refine HI.out.mono ?_
 rintro e w1 ⟨rfl, hb1⟩
 refine s_1 ?_; intro hz1 hS1
 obtain ⟨c0, c1, c2, c3⟩ := hS1.cells
 have hP := hS1.lt
 have hf := hS1.free
 have HS1 := a_0 (hS1.setAt (i + 1))
 clear hS1
 go_wp2
 go_end0
 exact s_V
theorem h_j (W : World) (P : Nat) (A : Option Addr) (ts : List Tok) (c i d : Nat) (hS : PSt RT W P A ts c i d 0) (hi : i < ts.length) (hl : ts.length ≤ 1000000) (x : a_3) (hb : a_9 (tk ts i) x = false) :
  Calls prog 347 #[.pointer (some ⟨P, 0, none⟩), str x] W fun e' w' => e' = .returned (.tuple #[]) ∧ PSt RT w' P A ts c i d 3 ∧ W.grownBy w' (some P) := by
 have HI := a_0 (l_f W P A ts c i d 0 hS hi hl x)
 have hb2 : ((0 : Int) == 0 && ((tk ts i).kind == 5 && (tk ts i).text == x)) = false := hb
 rw [hb2] at HI
 have HS := a_0 hS
 clear hS hb hb2
 go_enter func347, ntmps347
 go_wp2_with fail
 refine HI.out.mono ?_
 rintro e w1 ⟨rfl, hb1⟩
 go_wp2_with fail
 refine (f_K w1 P A ts c i d (HS.out.below hb1) 3).mono ?_
 rintro e2 w2 ⟨rfl, hS2, hg2⟩
 have HS2 := a_0 hS2
 clear hS2
 go_wp2
 refine l_v rfl ?_
 apply Exists.intro
 apply And.intro
 ·simp [results, results347, go_sem]
  rfl
 ·exact ⟨rfl, HS2.out, (a_1 hb1).trans hg2⟩
theorem i_F (W : World) (P : Nat) (A : Option Addr) (ts : List Tok) (c i d : Nat) (e0 : Int) (hS : PSt RT W P A ts c i d e0) (he : e0 ≠ 0) (hi : i < ts.length) (hl : ts.length ≤ 1000000) (x : a_3) :
  Calls prog 347 #[.pointer (some ⟨P, 0, none⟩), str x] W fun e' w' => e' = .returned (.tuple #[]) ∧ Below W.heap.size W w' := by
 have HI := a_0 (l_f W P A ts c i d e0 hS hi hl x)
 have hb2 : (e0 == 0 && ((tk ts i).kind == 5 && (tk ts i).text == x)) = false := by rw [beq_eq_false_iff_ne.2 he]; rfl
 rw [hb2] at HI
 have HS := a_0 hS
 clear hS hb2
 go_enter func347, ntmps347
 go_wp2_with fail
 refine HI.out.mono ?_
 rintro e w1 ⟨rfl, hb1⟩
 go_wp2_with fail
 refine (h_K w1 P A ts c i d e0 (HS.out.below hb1) he 3).mono ?_
 rintro e2 w2 ⟨rfl, hb2⟩
 go_wp2
 refine l_v rfl ?_
 apply Exists.intro
 apply And.intro
 ·simp [results, results347, go_sem]
  rfl
 ·exact ⟨rfl, a_n hb2 hb1⟩
theorem j_1 (W : World) (P : Nat) (A : Option Addr) (ts : List Tok) (c i d : Nat) (hS : PSt RT W P A ts c i d 0) (hd : 256 < d) :
  Calls prog 324 #[.pointer (some ⟨P, 0, none⟩)] W fun e' w' => e' = .returned (.bool true) ∧ PSt RT w' P A ts c i d 2 ∧ W.grownBy w' (some P) := by
 have HS := a_0 hS
 refine q_y ?_; intro c0 c1 c2 c3 hP
 clear hS
 go_enter func324, ntmps324
 go_wp2_with fail
 refine (f_K W P A ts c i d HS.out 2).mono ?_
 rintro e2 w2 ⟨rfl, hS2, hg2⟩
 clear c0 c1 c2 c3
 obtain ⟨c0, c1, c2, c3⟩ := hS2.cells
 have hP2 := hS2.lt
 have HS2 := a_0 hS2
 clear hS2
 go_wp2
 go_ret
 exact ⟨rfl, HS2.out, hg2⟩
theorem k_J (W : World) (P : Nat) (A : Option Addr) (ts : List Tok) (c i d : Nat) (hS : PSt RT W P A ts c i d 0) (hd : ¬ 256 < d) :
  Calls prog 324 #[.pointer (some ⟨P, 0, none⟩)] W fun e' w' => e' = .returned (.bool false) ∧ Below W.heap.size W w' := by
 refine q_y ?_; intro c0 c1 c2 c3 hP
 clear hS
 go_enter func324, ntmps324
 go_wp2
 go_ret
 exact ⟨rfl, zX⟩
theorem m_b (W : World) (P : Nat) (A : Option Addr) (ts : List Tok) (c i d : Nat) (e : Int) (hS : PSt RT W P A ts c i d e) (he : e ≠ 0) :
  Calls prog 324 #[.pointer (some ⟨P, 0, none⟩)] W fun e' w' => e' = .returned (.bool true) ∧ Below W.heap.size W w' := by
 refine q_y ?_; intro c0 c1 c2 c3 hP
 have hb : (e == 0) = false := beq_eq_false_iff_ne.2 he
 have hn : (e != 0) = true := by simpa using he
 clear hS
 go_enter func324, ntmps324
 go_wp2
 go_ret
 exact ⟨rfl, zX⟩
set_option maxRecDepth 100000
theorem n_x (W : World) (A B : Option Addr) (es fs : List Nd) (ca cb ba bb : Nat) (o : Int) (hA : W.ownsRow ba 116 6 (.slice A es.length ca) es.length (a_a es)) (hB : W.ownsRow bb 116 6 (.slice B fs.length cb) fs.length (a_a fs)) (h1 : es.length ≤ 1000000) (h2 : fs.length ≤ 1000000) :
  Calls prog 292 #[.slice A es.length ca, .slice B fs.length cb, .int .i64 o] W fun e w' => k_M W w' (es ++ fs ++ [c_3 o]) e ∧ Below W.heap.size W w' := by
 refine _ag ?_; intro i0 hi0 hz0 hz1 hz2
 have HA := a_0 hA
 have HB := a_0 hB
 have a1 := d_h hA
 have a2 := d_h hB
 clear hA hB
 rcases a1 with ⟨rfl, l1, rfl⟩ | ⟨ga, rfl⟩ <;> rcases a2 with ⟨rfl, l2, rfl⟩ | ⟨gb, rfl⟩
 ·obtain rfl : es = [] := List.eq_nil_of_length_eq_zero l1
  clear l1
  obtain rfl : fs = [] := List.eq_nil_of_length_eq_zero l2
  clear l2
  try simp only [List.length_nil] at *
  go_enter func292, ntmps292
  go_wp2_with (first
   | (at_builtin; refine wpList_append_own_none rfl _ _ _ rfl _ 116 i0 6 underlying25 hi0 _ _ _ rfl (a_o W W.heap.size 116 6) rfl ?_)
   | (at_builtin; refine wpList_append_own_none rfl _ _ _ rfl _ 116 i0 6 underlying25 hi0 _ _ _ rfl (a_o W W.heap.size 116 6) rfl ?_)
   | (at_builtin; refine wpList_append_own _ rfl _ _ 25 rfl W.heap.size 116 i0 _ 6 64 underlying25 hi0 hz0 hz1 hz2 rfl d_ _ _ _ rfl ((a_o W W.heap.size 116 6).alloc _) ⟨W.heap.size, 0, none⟩ 1 1 [.int .i64 o, .int .i64 0, .int .i64 0, str [], str [], .int .i64 0] rfl rfl (by exact b_h (heap_alloc_new _ _)) c_ x_ o_ n_ ?_; intro v9 w9 o9 g9 _; obtain ⟨B9, n9, rfl⟩ := a_i o9; have hb9 : Below W.heap.size W w9 := (Below.alloc (b_ W.heap.size W) o_ _).grown g9 n_ (fun k hk => ((a_o W W.heap.size 116 6).lt k hk).1)))
  exact t_I
 ·obtain rfl : es = [] := List.eq_nil_of_length_eq_zero l1
  clear l1
  have hcb := (b_q HB.out).2.2
  try simp only [List.length_nil] at *
  go_enter func292, ntmps292
  go_wp2_with (first
   | (at_builtin; refine wpList_append_own_none rfl _ _ _ rfl _ 116 i0 6 underlying25 hi0 _ _ _ rfl (a_o W W.heap.size 116 6) rfl ?_)
   | (at_builtin; refine wpList_append_own _ rfl _ _ 25 rfl W.heap.size 116 i0 _ 6 64 underlying25 hi0 hz0 hz1 hz2 rfl d_ _ _ _ rfl (a_o W W.heap.size 116 6) ⟨gb, 0, none⟩ fs.length cb (a_a fs) rfl (b_4 _) hcb (e_d _) x_ o_ o_ ?_; intro v8 w8 o8 g8 _; obtain ⟨B8, n8, rfl⟩ := a_i o8; rw [Nat.zero_add, List.nil_append] at o8; have hb8 : Below W.heap.size W w8 := (b_ W.heap.size W).grown g8 o_ (fun k hk => by cases hk); have hz8 := hb8.size; clear g8)
   | (at_builtin; refine wpList_append_own _ rfl _ _ 25 rfl W.heap.size 116 i0 _ 6 64 underlying25 hi0 hz0 hz1 hz2 rfl d_ _ _ _ rfl (o8.alloc _) ⟨w8.heap.size, 0, none⟩ 1 1 [.int .i64 o, .int .i64 0, .int .i64 0, str [], str [], .int .i64 0] rfl rfl (by exact b_h (heap_alloc_new _ _)) c_ x_ o_ n_ ?_; intro v9 w9 o9 g9 _; obtain ⟨B9, n9, rfl⟩ := a_i o9; have hb9 : Below W.heap.size W w9 := (Below.alloc hb8 o_ _).grown g9 n_ (fun k hk => (o8.lt k hk).1)))
  exact t_I
 ·have ha := (b_q HA.out).2.2
  obtain rfl : fs = [] := List.eq_nil_of_length_eq_zero l2
  clear l2
  try simp only [List.length_nil] at *
  go_enter func292, ntmps292
  go_wp2_with (first
   | (at_builtin; refine wpList_append_own _ rfl _ _ 25 rfl W.heap.size 116 i0 _ 6 64 underlying25 hi0 hz0 hz1 hz2 rfl d_ _ _ _ rfl (a_o W W.heap.size 116 6) ⟨ga, 0, none⟩ es.length ca (a_a es) rfl (b_4 _) ha (e_d _) x_ o_ o_ ?_; intro v7 w7 o7 g7 _; obtain ⟨B7, n7, rfl⟩ := a_i o7; rw [Nat.zero_add, List.nil_append] at o7; have hb7 : Below W.heap.size W w7 := (b_ _ _).grown g7 (l_ _) (fun k hk => by cases hk); have hz7 := hb7.size; clear g7)
   | (at_builtin; refine wpList_append_own_none rfl _ _ _ rfl _ 116 i0 6 underlying25 hi0 _ _ _ rfl o7 rfl ?_)
   | (at_builtin; refine wpList_append_own _ rfl _ _ 25 rfl W.heap.size 116 i0 _ 6 64 underlying25 hi0 hz0 hz1 hz2 rfl d_ _ _ _ rfl (o7.alloc _) ⟨w7.heap.size, 0, none⟩ 1 1 [.int .i64 o, .int .i64 0, .int .i64 0, str [], str [], .int .i64 0] rfl rfl (by exact b_h (heap_alloc_new _ _)) c_ x_ o_ n_ ?_; intro v9 w9 o9 g9 _; obtain ⟨B9, n9, rfl⟩ := a_i o9; have hb9 : Below W.heap.size W w9 := (Below.alloc hb7 o_ _).grown g9 n_ (fun k hk => (o7.lt k hk).1)))
  exact t_I
 ·have ha := (b_q HA.out).2.2
  have hcb := (b_q HB.out).2.2
  try simp only [List.length_nil] at *
  go_enter func292, ntmps292
  go_wp2_with (first
   | (at_builtin; refine wpList_append_own _ rfl _ _ 25 rfl W.heap.size 116 i0 _ 6 64 underlying25 hi0 hz0 hz1 hz2 rfl d_ _ _ _ rfl (a_o W W.heap.size 116 6) ⟨ga, 0, none⟩ es.length ca (a_a es) rfl (b_4 _) ha (e_d _) x_ o_ o_ ?_; intro v7 w7 o7 g7 _; obtain ⟨B7, n7, rfl⟩ := a_i o7; rw [Nat.zero_add, List.nil_append] at o7; have hb7 : Below W.heap.size W w7 := (b_ _ _).grown g7 (l_ _) (fun k hk => by cases hk); have hz7 := hb7.size; clear g7)
   | (at_builtin; refine wpList_append_own _ rfl _ _ 25 rfl W.heap.size 116 i0 _ 6 64 underlying25 hi0 hz0 hz1 hz2 rfl d_ _ _ _ rfl o7 ⟨gb, 0, none⟩ fs.length cb (a_a fs) rfl (b_4 _) (fun j u hu => (b_q (a_8 HB.out hb7)).2.2 j u hu) (e_d _) x_ o_ o_ ?_; intro v8 w8 o8 g8 _; obtain ⟨B8, n8, rfl⟩ := a_i o8; have hb8 : Below W.heap.size W w8 := hb7.grown g8 o_ (fun k hk => (o7.lt k hk).1); have hz8 := hb8.size; clear g8)
   | (at_builtin; refine wpList_append_own _ rfl _ _ 25 rfl W.heap.size 116 i0 _ 6 64 underlying25 hi0 hz0 hz1 hz2 rfl d_ _ _ _ rfl (o8.alloc _) ⟨w8.heap.size, 0, none⟩ 1 1 [.int .i64 o, .int .i64 0, .int .i64 0, str [], str [], .int .i64 0] rfl rfl (by exact b_h (heap_alloc_new _ _)) c_ x_ o_ n_ ?_; intro v9 w9 o9 g9 _; obtain ⟨B9, n9, rfl⟩ := a_i o9; have hb9 : Below W.heap.size W w9 := (Below.alloc hb8 o_ _).grown g9 n_ (fun k hk => (o8.lt k hk).1)))
  exact t_I
def LvR (K F l P : Nat) (A : Option Addr) (ts : List Tok) (c : Nat) : Prop := ∀ (W : World) (i d : Nat), PSt RT W P A ts c i d 0 → i < ts.length → d ≤ i → (l = 8 → d_4 ts i = true) → (ts.length - i) * 10 + (9 - l) ≤ F →
 Calls prog K #[.pointer (some ⟨P, 0, none⟩)] W (d_e RT W P A ts c i d (prs ts F l i d))
set_option maxRecDepth 100000
theorem w_G (F P : Nat) (A : Option Addr) (ts : List Tok) (c : Nat) (hv : a_O ts = true) (hlen : ts.length ≤ 1000000) (IH : LvR 290 F 1 P A ts c) : LvR 269 (F + 1) 0 P A ts c := by
 intro W i d hS hi hd _ hF
 have hne := e_n hv (F + 1) 0 i d hi o_ (fun e => absurd e o_) hF
 rw [g_x d_] at hne ⊢
 have hP := hS.lt
 have HI := a_0 (show ∀ (X : World) (j : Nat), PSt RT X P A ts c j d 0 → W.grownBy X (some P) → j < ts.length → i ≤ j → Calls prog 290 #[.pointer (some ⟨P, 0, none⟩)] X (fun e2 w2 => ∃ (B2 : Option Addr) (n2 : Nat) (fs : List Nd) (k d2 : Nat) (x2 : Int), e2 = .returned (.slice B2 fs.length n2) ∧ w2.ownsRow W.heap.size 116 6 (.slice B2 fs.length n2) fs.length (a_a fs) ∧ PSt RT w2 P A ts c k d2 x2 ∧ W.grownBy w2 (some P) ∧ X.grownBy w2 (some P) ∧ j ≤ k ∧ k < ts.length ∧ fs.length ≤ k - j ∧
   ((x2 = 0 ∧ d2 = d ∧ j < k ∧ prs ts F 1 j d = .ok fs k) ∨ (x2 ≠ 0 ∧ prs ts F 1 j d = .err x2 k ∧ d ≤ d2 ∧ d2 ≤ k))) from fun X j hx hg hj hij =>
  (IH X j d hx hj o_ (fun e => absurd e o_) o_).mono fun e2 w2 h => by
   obtain ⟨B2, n2, fs, k, d2, x2, h1, h2, h3, h4, h5, h6, h7, h8⟩ := a_C (b_6 hv F 1 j d hj (fun e => absurd e o_)) h
   exact ⟨B2, n2, fs, k, d2, x2, h1, a_Z h2 hg.size, h3, hg.trans h4, h4, h5, h6, h7, h8⟩)
 have HS := a_0 hS
 clear hS IH
 generalize hq : (fun j => prs ts F 1 j d) = q at *
 refine q_F ?_; intro HQ
 have hqi : prs ts F 1 i d = q i := congrFun hq i
 rw [hqi] at hne ⊢
 clear hq hqi
 generalize hRR : (q i).bind (b_j q (c_r 0) ts ts.length) = R at *
 have HR := a_0 hRR
 clear hRR
 go_enter func269, ntmps269
 go_wp2_with fail
 refine (HI.out W i HS.out (g_ _ _) hi (l_ _)).mono ?_
 rw [HQ.out i]
 rintro e2 w1 ⟨B, n, es, j, d', x, rfl, ho, hs, hg, _, hij, hjl, hel, hD⟩
 have HD0 := a_0 (show (x = 0 ∧ d' = d ∧ i < j ∧ ∃ G, b_j q (c_r 0) ts G es j = R) ∨ (x ≠ 0 ∧ R = .err x j ∧ d ≤ d' ∧ d' ≤ j) from by
  have hr := HR.out
  rcases hD with ⟨h1, h2, h3, h4⟩ | ⟨h1, h2, h3⟩
  ·rw [h4] at hr; exact .inl ⟨h1, h2, h3, _, hr⟩
  ·rw [h2] at hr; exact .inr ⟨h1, hr.symm, h3⟩)
 refine s_e ?_; intro HO HSx HG
 clear ho hs hg hD HR HS
 go_wp2
 go_loopw [3] (fun s wr => ∃ (B : Option Addr) (n : Nat) (es : List Nd) (j d' : Nat) (x : Int), s = .slice B es.length n ∧ Hid (wr.ownsRow W.heap.size 116 6 (.slice B es.length n) es.length (a_a es)) ∧ Hid (PSt RT wr P A ts c j d' x) ∧ Hid (W.grownBy wr (some P)) ∧ i ≤ j ∧ j < ts.length ∧ es.length ≤ j - i ∧ Hid ((x = 0 ∧ d' = d ∧ i < j ∧ ∃ G, b_j q (c_r 0) ts G es j = R) ∨ (x ≠ 0 ∧ R = .err x j ∧ d ≤ d' ∧ d' ≤ j))) (fun _ wr => msr P ts wr)
 case atStart => exact ⟨B, n, es, j, d', x, rfl, HO, HSx, HG, hij, hjl, hel, HD0⟩
 case round =>
  clear HO HSx HG hij hjl hel HD0
  obtain ⟨B, n, es, j, d', x, rfl, HO, HSx, HG, hij, hjl, hel, HD⟩ := hrel
  refine t_q ?_; intro hPr hWw hcur
  by_cases hx : x = 0
  rotate_left
  ·rcases HD.out with ⟨h, _⟩ | ⟨_, hE, hdE⟩
   ·exact absurd h hx
   have HE := a_0 hE
   have HF := a_0 (show ∀ (X : World) (y : a_3), Below wr.heap.size wr X → Calls prog 291 #[.pointer (some ⟨P, 0, none⟩), str y] X (fun e' w' => e' = .returned (.bool false) ∧ Below X.heap.size X w') from fun X y hb => by
    have h := m_7 X P A ts c j d' x (HSx.out.below hb) hjl hlen y; rw [beq_eq_false_iff_ne.2 hx] at h
    exact h)
   clear hE
   go_wp2_with (go_at_call 291; refine (HF.out _ _ hcur).mono ?_; rintro e9 w9 ⟨rfl, hb9⟩; have hcur := a_n hb9 hcur)
   exact t_i
  rcases HD.out with ⟨_, hdd, hij2, G, hG⟩ | ⟨h, _⟩
  rotate_left
  ·exact absurd hx h
  subst hx hdd
  have hG2 : (match c_r 0 (tk ts j) with
   | none => PR.ok es j
   | some o => (q (j + 1)).bind fun fs k => b_j q (c_r 0) ts (G - 1) (es ++ fs ++ [c_3 o]) k) = R := by
   cases G with
   | zero => exact absurd hG.symm hne
   | succ G => exact hG
  clear hG HD
  refine v_Z ?_; intro HF
  by_cases t0 : c_k (tk ts j) [111, 114] = true
  ·have hop : c_r 0 (tk ts j) = some 15 := by unfold c_r; simp [t0]
   rw [hop] at hG2; have HE := a_0 hG2; have hj1 := d_Q hv hjl t0; clear hG2 hop; refine _aa ?_; intro HPX
   go_wp2_with (first
     | (go_at_call_of 291 (Value.string { data := #[111, 114] }); refine (HF.out _ [111, 114] hcur).mono ?_; (first | rw [t0] | rw [f0]); rintro e9 w9 ⟨rfl, hb9⟩; have hcur := a_n hb9 hcur; have hS9 := HSx.out.below hcur; obtain ⟨c0, c1, c2, c3⟩ := hS9.cells; have hP9 := hS9.lt; have hfr := hS9.free; clear hS9))
   refine (HI.out _ (j + 1) (HPX.out w9 hcur).1 (HPX.out w9 hcur).2.1 hj1 o_).mono ?_; rw [HQ.out (j + 1)]; rintro e2 w2 ⟨B2, n2, fs, k, d2, x2, rfl, ho2, hs2, hg2, hgx, hjk, hkl, hfl, hD2⟩; refine q_E ?_; intro HO2 HJ HS2 HG2 HD2 hz2; clear ho2 hs2 hg2 hgx hD2 c0 c1 c2 c3 hfr HF HPX HI
   go_wp2_with fail
   refine (HJ.out 15).mono ?_; rintro e3 w3 ⟨⟨B3, n3, rfl, ho3⟩, hb3⟩; refine o_Z ?_; intro HO3 HS3 HG3; clear ho3 HJ
   go_wp2
   refine ⟨⟨B3, n3, es ++ fs ++ [c_3 15], k, d2, x2, v_, HO3, HS3, HG3, o_, hkl, by simp only [List.length_append, List.length_singleton]; omega, a_0 ?_⟩, ?_⟩
   ·rcases HD2.out with ⟨e1, e2, e3, e4⟩ | ⟨e1, e4, e5⟩
    ·refine .inl ⟨e1, e2, o_, G - 1, ?_⟩
     have hE := HE.out
     try simp only at hE
     exact p_2
    ·refine .inr ⟨e1, ?_, e5⟩
     have hE := HE.out
     try simp only at hE
     exact p_4
   ·rw [b_D HS3.out, b_D HSx.out]
    split <;> simp <;> omega
  have f0 : c_k (tk ts j) [111, 114] = false := by simpa using t0
  clear t0
  have hop : c_r 0 (tk ts j) = none := by unfold c_r; simp [f0]
  rw [hop] at hG2
  have HE := a_0 hG2
  clear hG2 hop
  go_wp2_with (first
     | (go_at_call_of 291 (Value.string { data := #[111, 114] }); refine (HF.out _ [111, 114] hcur).mono ?_; (first | rw [t0] | rw [f0]); rintro e9 w9 ⟨rfl, hb9⟩; have hcur := a_n hb9 hcur))
  go_ret
  have hE := HE.out
  try simp only at hE
  exact t_e
theorem t_Z (F P : Nat) (A : Option Addr) (ts : List Tok) (c : Nat) (hv : a_O ts = true) (hlen : ts.length ≤ 1000000) (IH : LvR 308 F 2 P A ts c) : LvR 290 (F + 1) 1 P A ts c := by
 intro W i d hS hi hd _ hF
 have hne := e_n hv (F + 1) 1 i d hi o_ (fun e => absurd e o_) hF
 rw [g_x d_] at hne ⊢
 have hP := hS.lt
 have HI := a_0 (show ∀ (X : World) (j : Nat), PSt RT X P A ts c j d 0 → W.grownBy X (some P) → j < ts.length → i ≤ j → Calls prog 308 #[.pointer (some ⟨P, 0, none⟩)] X (fun e2 w2 => ∃ (B2 : Option Addr) (n2 : Nat) (fs : List Nd) (k d2 : Nat) (x2 : Int), e2 = .returned (.slice B2 fs.length n2) ∧ w2.ownsRow W.heap.size 116 6 (.slice B2 fs.length n2) fs.length (a_a fs) ∧ PSt RT w2 P A ts c k d2 x2 ∧ W.grownBy w2 (some P) ∧ X.grownBy w2 (some P) ∧ j ≤ k ∧ k < ts.length ∧ fs.length ≤ k - j ∧
   ((x2 = 0 ∧ d2 = d ∧ j < k ∧ prs ts F 2 j d = .ok fs k) ∨ (x2 ≠ 0 ∧ prs ts F 2 j d = .err x2 k ∧ d ≤ d2 ∧ d2 ≤ k))) from fun X j hx hg hj hij =>
  (IH X j d hx hj o_ (fun e => absurd e o_) o_).mono fun e2 w2 h => by
   obtain ⟨B2, n2, fs, k, d2, x2, h1, h2, h3, h4, h5, h6, h7, h8⟩ := a_C (b_6 hv F 2 j d hj (fun e => absurd e o_)) h
   exact ⟨B2, n2, fs, k, d2, x2, h1, a_Z h2 hg.size, h3, hg.trans h4, h4, h5, h6, h7, h8⟩)
 have HS := a_0 hS
 clear hS IH
 generalize hq : (fun j => prs ts F 2 j d) = q at *
 refine q_F ?_; intro HQ
 have hqi : prs ts F 2 i d = q i := congrFun hq i
 rw [hqi] at hne ⊢
 clear hq hqi
 generalize hRR : (q i).bind (b_j q (c_r 1) ts ts.length) = R at *
 have HR := a_0 hRR
 clear hRR
 go_enter func290, ntmps290
 go_wp2_with fail
 refine (HI.out W i HS.out (g_ _ _) hi (l_ _)).mono ?_
 rw [HQ.out i]
 rintro e2 w1 ⟨B, n, es, j, d', x, rfl, ho, hs, hg, _, hij, hjl, hel, hD⟩
 have HD0 := a_0 (show (x = 0 ∧ d' = d ∧ i < j ∧ ∃ G, b_j q (c_r 1) ts G es j = R) ∨ (x ≠ 0 ∧ R = .err x j ∧ d ≤ d' ∧ d' ≤ j) from by
  have hr := HR.out
  rcases hD with ⟨h1, h2, h3, h4⟩ | ⟨h1, h2, h3⟩
  ·rw [h4] at hr; exact .inl ⟨h1, h2, h3, _, hr⟩
  ·rw [h2] at hr; exact .inr ⟨h1, hr.symm, h3⟩)
 refine s_e ?_; intro HO HSx HG
 clear ho hs hg hD HR HS
 go_wp2
 go_loopw [3] (fun s wr => ∃ (B : Option Addr) (n : Nat) (es : List Nd) (j d' : Nat) (x : Int), s = .slice B es.length n ∧ Hid (wr.ownsRow W.heap.size 116 6 (.slice B es.length n) es.length (a_a es)) ∧ Hid (PSt RT wr P A ts c j d' x) ∧ Hid (W.grownBy wr (some P)) ∧ i ≤ j ∧ j < ts.length ∧ es.length ≤ j - i ∧ Hid ((x = 0 ∧ d' = d ∧ i < j ∧ ∃ G, b_j q (c_r 1) ts G es j = R) ∨ (x ≠ 0 ∧ R = .err x j ∧ d ≤ d' ∧ d' ≤ j))) (fun _ wr => msr P ts wr)
 case atStart => exact ⟨B, n, es, j, d', x, rfl, HO, HSx, HG, hij, hjl, hel, HD0⟩
 case round =>
  clear HO HSx HG hij hjl hel HD0
  obtain ⟨B, n, es, j, d', x, rfl, HO, HSx, HG, hij, hjl, hel, HD⟩ := hrel
  refine t_q ?_; intro hPr hWw hcur
  by_cases hx : x = 0
  rotate_left
  ·rcases HD.out with ⟨h, _⟩ | ⟨_, hE, hdE⟩
   ·exact absurd h hx
   have HE := a_0 hE
   have HF := a_0 (show ∀ (X : World) (y : a_3), Below wr.heap.size wr X → Calls prog 291 #[.pointer (some ⟨P, 0, none⟩), str y] X (fun e' w' => e' = .returned (.bool false) ∧ Below X.heap.size X w') from fun X y hb => by
    have h := m_7 X P A ts c j d' x (HSx.out.below hb) hjl hlen y; rw [beq_eq_false_iff_ne.2 hx] at h
    exact h)
   clear hE
   go_wp2_with (go_at_call 291; refine (HF.out _ _ hcur).mono ?_; rintro e9 w9 ⟨rfl, hb9⟩; have hcur := a_n hb9 hcur)
   exact t_i
  rcases HD.out with ⟨_, hdd, hij2, G, hG⟩ | ⟨h, _⟩
  rotate_left
  ·exact absurd hx h
  subst hx hdd
  have hG2 : (match c_r 1 (tk ts j) with
   | none => PR.ok es j
   | some o => (q (j + 1)).bind fun fs k => b_j q (c_r 1) ts (G - 1) (es ++ fs ++ [c_3 o]) k) = R := by
   cases G with
   | zero => exact absurd hG.symm hne
   | succ G => exact hG
  clear hG HD
  refine v_Z ?_; intro HF
  by_cases t0 : c_k (tk ts j) [97, 110, 100] = true
  ·have hop : c_r 1 (tk ts j) = some 14 := by unfold c_r; simp [t0]
   rw [hop] at hG2; have HE := a_0 hG2; have hj1 := d_Q hv hjl t0; clear hG2 hop; refine _aa ?_; intro HPX
   go_wp2_with (first
     | (go_at_call_of 291 (Value.string { data := #[97, 110, 100] }); refine (HF.out _ [97, 110, 100] hcur).mono ?_; (first | rw [t0] | rw [f0]); rintro e9 w9 ⟨rfl, hb9⟩; have hcur := a_n hb9 hcur; have hS9 := HSx.out.below hcur; obtain ⟨c0, c1, c2, c3⟩ := hS9.cells; have hP9 := hS9.lt; have hfr := hS9.free; clear hS9))
   refine (HI.out _ (j + 1) (HPX.out w9 hcur).1 (HPX.out w9 hcur).2.1 hj1 o_).mono ?_; rw [HQ.out (j + 1)]; rintro e2 w2 ⟨B2, n2, fs, k, d2, x2, rfl, ho2, hs2, hg2, hgx, hjk, hkl, hfl, hD2⟩; refine q_E ?_; intro HO2 HJ HS2 HG2 HD2 hz2; clear ho2 hs2 hg2 hgx hD2 c0 c1 c2 c3 hfr HF HPX HI
   go_wp2_with fail
   refine (HJ.out 14).mono ?_; rintro e3 w3 ⟨⟨B3, n3, rfl, ho3⟩, hb3⟩; refine o_Z ?_; intro HO3 HS3 HG3; clear ho3 HJ
   go_wp2
   refine ⟨⟨B3, n3, es ++ fs ++ [c_3 14], k, d2, x2, v_, HO3, HS3, HG3, o_, hkl, by simp only [List.length_append, List.length_singleton]; omega, a_0 ?_⟩, ?_⟩
   ·rcases HD2.out with ⟨e1, e2, e3, e4⟩ | ⟨e1, e4, e5⟩
    ·refine .inl ⟨e1, e2, o_, G - 1, ?_⟩
     have hE := HE.out
     try simp only at hE
     exact p_2
    ·refine .inr ⟨e1, ?_, e5⟩
     have hE := HE.out
     try simp only at hE
     exact p_4
   ·rw [b_D HS3.out, b_D HSx.out]
    split <;> simp <;> omega
  have f0 : c_k (tk ts j) [97, 110, 100] = false := by simpa using t0
  clear t0
  have hop : c_r 1 (tk ts j) = none := by unfold c_r; simp [f0]
  rw [hop] at hG2
  have HE := a_0 hG2
  clear hG2 hop
  go_wp2_with (first
     | (go_at_call_of 291 (Value.string { data := #[97, 110, 100] }); refine (HF.out _ [97, 110, 100] hcur).mono ?_; (first | rw [t0] | rw [f0]); rintro e9 w9 ⟨rfl, hb9⟩; have hcur := a_n hb9 hcur))
  go_ret
  have hE := HE.out
  try simp only at hE
  exact t_e
theorem p_q (F P : Nat) (A : Option Addr) (ts : List Tok) (c : Nat) (hv : a_O ts = true) (hlen : ts.length ≤ 1000000) (IH : LvR 339 F 5 P A ts c) : LvR 334 (F + 1) 4 P A ts c := by
 intro W i d hS hi hd _ hF
 have hne := e_n hv (F + 1) 4 i d hi o_ (fun e => absurd e o_) hF
 rw [g_x d_] at hne ⊢
 have hP := hS.lt
 have HI := a_0 (show ∀ (X : World) (j : Nat), PSt RT X P A ts c j d 0 → W.grownBy X (some P) → j < ts.length → i ≤ j → Calls prog 339 #[.pointer (some ⟨P, 0, none⟩)] X (fun e2 w2 => ∃ (B2 : Option Addr) (n2 : Nat) (fs : List Nd) (k d2 : Nat) (x2 : Int), e2 = .returned (.slice B2 fs.length n2) ∧ w2.ownsRow W.heap.size 116 6 (.slice B2 fs.length n2) fs.length (a_a fs) ∧ PSt RT w2 P A ts c k d2 x2 ∧ W.grownBy w2 (some P) ∧ X.grownBy w2 (some P) ∧ j ≤ k ∧ k < ts.length ∧ fs.length ≤ k - j ∧
   ((x2 = 0 ∧ d2 = d ∧ j < k ∧ prs ts F 5 j d = .ok fs k) ∨ (x2 ≠ 0 ∧ prs ts F 5 j d = .err x2 k ∧ d ≤ d2 ∧ d2 ≤ k))) from fun X j hx hg hj hij =>
  (IH X j d hx hj o_ (fun e => absurd e o_) o_).mono fun e2 w2 h => by
   obtain ⟨B2, n2, fs, k, d2, x2, h1, h2, h3, h4, h5, h6, h7, h8⟩ := a_C (b_6 hv F 5 j d hj (fun e => absurd e o_)) h
   exact ⟨B2, n2, fs, k, d2, x2, h1, a_Z h2 hg.size, h3, hg.trans h4, h4, h5, h6, h7, h8⟩)
 have HS := a_0 hS
 clear hS IH
 generalize hq : (fun j => prs ts F 5 j d) = q at *
 refine q_F ?_; intro HQ
 have hqi : prs ts F 5 i d = q i := congrFun hq i
 rw [hqi] at hne ⊢
 clear hq hqi
 generalize hRR : (q i).bind (b_j q (c_r 4) ts ts.length) = R at *
 have HR := a_0 hRR
 clear hRR
 go_enter func334, ntmps334
 go_wp2_with fail
 refine (HI.out W i HS.out (g_ _ _) hi (l_ _)).mono ?_
 rw [HQ.out i]
 rintro e2 w1 ⟨B, n, es, j, d', x, rfl, ho, hs, hg, _, hij, hjl, hel, hD⟩
 have HD0 := a_0 (show (x = 0 ∧ d' = d ∧ i < j ∧ ∃ G, b_j q (c_r 4) ts G es j = R) ∨ (x ≠ 0 ∧ R = .err x j ∧ d ≤ d' ∧ d' ≤ j) from by
  have hr := HR.out
  rcases hD with ⟨h1, h2, h3, h4⟩ | ⟨h1, h2, h3⟩
  ·rw [h4] at hr; exact .inl ⟨h1, h2, h3, _, hr⟩
  ·rw [h2] at hr; exact .inr ⟨h1, hr.symm, h3⟩)
 refine s_e ?_; intro HO HSx HG
 clear ho hs hg hD HR HS
 go_wp2
 go_loopw [3] (fun s wr => ∃ (B : Option Addr) (n : Nat) (es : List Nd) (j d' : Nat) (x : Int), s = .slice B es.length n ∧ Hid (wr.ownsRow W.heap.size 116 6 (.slice B es.length n) es.length (a_a es)) ∧ Hid (PSt RT wr P A ts c j d' x) ∧ Hid (W.grownBy wr (some P)) ∧ i ≤ j ∧ j < ts.length ∧ es.length ≤ j - i ∧ Hid ((x = 0 ∧ d' = d ∧ i < j ∧ ∃ G, b_j q (c_r 4) ts G es j = R) ∨ (x ≠ 0 ∧ R = .err x j ∧ d ≤ d' ∧ d' ≤ j))) (fun _ wr => msr P ts wr)
 case atStart => exact ⟨B, n, es, j, d', x, rfl, HO, HSx, HG, hij, hjl, hel, HD0⟩
 case round =>
  clear HO HSx HG hij hjl hel HD0
  obtain ⟨B, n, es, j, d', x, rfl, HO, HSx, HG, hij, hjl, hel, HD⟩ := hrel
  refine t_q ?_; intro hPr hWw hcur
  by_cases hx : x = 0
  rotate_left
  ·rcases HD.out with ⟨h, _⟩ | ⟨_, hE, hdE⟩
   ·exact absurd h hx
   have HE := a_0 hE
   have HF := a_0 (show ∀ (X : World) (y : a_3), Below wr.heap.size wr X → Calls prog 335 #[.pointer (some ⟨P, 0, none⟩), str y] X (fun e' w' => e' = .returned (.bool false) ∧ Below X.heap.size X w') from fun X y hb => by
    have h := l_f X P A ts c j d' x (HSx.out.below hb) hjl hlen y; rw [beq_eq_false_iff_ne.2 hx] at h
    exact h)
   clear hE
   go_wp2_with (go_at_call 335; refine (HF.out _ _ hcur).mono ?_; rintro e9 w9 ⟨rfl, hb9⟩; have hcur := a_n hb9 hcur)
   exact t_i
  rcases HD.out with ⟨_, hdd, hij2, G, hG⟩ | ⟨h, _⟩
  rotate_left
  ·exact absurd hx h
  subst hx hdd
  have hG2 : (match c_r 4 (tk ts j) with
   | none => PR.ok es j
   | some o => (q (j + 1)).bind fun fs k => b_j q (c_r 4) ts (G - 1) (es ++ fs ++ [c_3 o]) k) = R := by
   cases G with
   | zero => exact absurd hG.symm hne
   | succ G => exact hG
  clear hG HD
  refine _ac ?_; intro HF
  by_cases t0 : a_9 (tk ts j) [43, 43] = true
  ·have hop : c_r 4 (tk ts j) = some 9 := by unfold c_r; simp [t0]
   rw [hop] at hG2; have HE := a_0 hG2; have hj1 := a_T hv hjl t0; clear hG2 hop; refine _aa ?_; intro HPX
   go_wp2_with (first
     | (go_at_call_of 335 (Value.string { data := #[43, 43] }); refine (HF.out _ [43, 43] hcur).mono ?_; (first | rw [t0] | rw [f0]); rintro e9 w9 ⟨rfl, hb9⟩; have hcur := a_n hb9 hcur; have hS9 := HSx.out.below hcur; obtain ⟨c0, c1, c2, c3⟩ := hS9.cells; have hP9 := hS9.lt; have hfr := hS9.free; clear hS9))
   refine (HI.out _ (j + 1) (HPX.out w9 hcur).1 (HPX.out w9 hcur).2.1 hj1 o_).mono ?_; rw [HQ.out (j + 1)]; rintro e2 w2 ⟨B2, n2, fs, k, d2, x2, rfl, ho2, hs2, hg2, hgx, hjk, hkl, hfl, hD2⟩; refine q_E ?_; intro HO2 HJ HS2 HG2 HD2 hz2; clear ho2 hs2 hg2 hgx hD2 c0 c1 c2 c3 hfr HF HPX HI
   go_wp2_with fail
   refine (HJ.out 9).mono ?_; rintro e3 w3 ⟨⟨B3, n3, rfl, ho3⟩, hb3⟩; refine o_Z ?_; intro HO3 HS3 HG3; clear ho3 HJ
   go_wp2
   refine ⟨⟨B3, n3, es ++ fs ++ [c_3 9], k, d2, x2, v_, HO3, HS3, HG3, o_, hkl, by simp only [List.length_append, List.length_singleton]; omega, a_0 ?_⟩, ?_⟩
   ·rcases HD2.out with ⟨e1, e2, e3, e4⟩ | ⟨e1, e4, e5⟩
    ·refine .inl ⟨e1, e2, o_, G - 1, ?_⟩
     have hE := HE.out
     try simp only at hE
     exact p_2
    ·refine .inr ⟨e1, ?_, e5⟩
     have hE := HE.out
     try simp only at hE
     exact p_4
   ·rw [b_D HS3.out, b_D HSx.out]
    split <;> simp <;> omega
  have f0 : a_9 (tk ts j) [43, 43] = false := by simpa using t0
  clear t0
  have hop : c_r 4 (tk ts j) = none := by unfold c_r; simp [f0]
  rw [hop] at hG2
  have HE := a_0 hG2
  clear hG2 hop
  go_wp2_with (first
     | (go_at_call_of 335 (Value.string { data := #[43, 43] }); refine (HF.out _ [43, 43] hcur).mono ?_; (first | rw [t0] | rw [f0]); rintro e9 w9 ⟨rfl, hb9⟩; have hcur := a_n hb9 hcur))
  go_ret
  have hE := HE.out
  try simp only at hE
  exact t_e
theorem u_6 (F P : Nat) (A : Option Addr) (ts : List Tok) (c : Nat) (hv : a_O ts = true) (hlen : ts.length ≤ 1000000) (IH : LvR 341 F 6 P A ts c) : LvR 339 (F + 1) 5 P A ts c := by
 intro W i d hS hi hd _ hF
 have hne := e_n hv (F + 1) 5 i d hi o_ (fun e => absurd e o_) hF
 rw [g_x d_] at hne ⊢
 have hP := hS.lt
 have HI := a_0 (show ∀ (X : World) (j : Nat), PSt RT X P A ts c j d 0 → W.grownBy X (some P) → j < ts.length → i ≤ j → Calls prog 341 #[.pointer (some ⟨P, 0, none⟩)] X (fun e2 w2 => ∃ (B2 : Option Addr) (n2 : Nat) (fs : List Nd) (k d2 : Nat) (x2 : Int), e2 = .returned (.slice B2 fs.length n2) ∧ w2.ownsRow W.heap.size 116 6 (.slice B2 fs.length n2) fs.length (a_a fs) ∧ PSt RT w2 P A ts c k d2 x2 ∧ W.grownBy w2 (some P) ∧ X.grownBy w2 (some P) ∧ j ≤ k ∧ k < ts.length ∧ fs.length ≤ k - j ∧
   ((x2 = 0 ∧ d2 = d ∧ j < k ∧ prs ts F 6 j d = .ok fs k) ∨ (x2 ≠ 0 ∧ prs ts F 6 j d = .err x2 k ∧ d ≤ d2 ∧ d2 ≤ k))) from fun X j hx hg hj hij =>
  (IH X j d hx hj o_ (fun e => absurd e o_) o_).mono fun e2 w2 h => by
   obtain ⟨B2, n2, fs, k, d2, x2, h1, h2, h3, h4, h5, h6, h7, h8⟩ := a_C (b_6 hv F 6 j d hj (fun e => absurd e o_)) h
   exact ⟨B2, n2, fs, k, d2, x2, h1, a_Z h2 hg.size, h3, hg.trans h4, h4, h5, h6, h7, h8⟩)
 have HS := a_0 hS
 clear hS IH
 generalize hq : (fun j => prs ts F 6 j d) = q at *
 refine q_F ?_; intro HQ
 have hqi : prs ts F 6 i d = q i := congrFun hq i
 rw [hqi] at hne ⊢
 clear hq hqi
 generalize hRR : (q i).bind (b_j q (c_r 5) ts ts.length) = R at *
 have HR := a_0 hRR
 clear hRR
 go_enter func339, ntmps339
 go_wp2_with fail
 refine (HI.out W i HS.out (g_ _ _) hi (l_ _)).mono ?_
 rw [HQ.out i]
 rintro e2 w1 ⟨B, n, es, j, d', x, rfl, ho, hs, hg, _, hij, hjl, hel, hD⟩
 have HD0 := a_0 (show (x = 0 ∧ d' = d ∧ i < j ∧ ∃ G, b_j q (c_r 5) ts G es j = R) ∨ (x ≠ 0 ∧ R = .err x j ∧ d ≤ d' ∧ d' ≤ j) from by
  have hr := HR.out
  rcases hD with ⟨h1, h2, h3, h4⟩ | ⟨h1, h2, h3⟩
  ·rw [h4] at hr; exact .inl ⟨h1, h2, h3, _, hr⟩
  ·rw [h2] at hr; exact .inr ⟨h1, hr.symm, h3⟩)
 refine s_e ?_; intro HO HSx HG
 clear ho hs hg hD HR HS
 go_wp2
 go_loopw [3] (fun s wr => ∃ (B : Option Addr) (n : Nat) (es : List Nd) (j d' : Nat) (x : Int), s = .slice B es.length n ∧ Hid (wr.ownsRow W.heap.size 116 6 (.slice B es.length n) es.length (a_a es)) ∧ Hid (PSt RT wr P A ts c j d' x) ∧ Hid (W.grownBy wr (some P)) ∧ i ≤ j ∧ j < ts.length ∧ es.length ≤ j - i ∧ Hid ((x = 0 ∧ d' = d ∧ i < j ∧ ∃ G, b_j q (c_r 5) ts G es j = R) ∨ (x ≠ 0 ∧ R = .err x j ∧ d ≤ d' ∧ d' ≤ j))) (fun _ wr => msr P ts wr)
 case atStart => exact ⟨B, n, es, j, d', x, rfl, HO, HSx, HG, hij, hjl, hel, HD0⟩
 case round =>
  clear HO HSx HG hij hjl hel HD0
  obtain ⟨B, n, es, j, d', x, rfl, HO, HSx, HG, hij, hjl, hel, HD⟩ := hrel
  refine t_q ?_; intro hPr hWw hcur
  by_cases hx : x = 0
  rotate_left
  ·rcases HD.out with ⟨h, _⟩ | ⟨_, hE, hdE⟩
   ·exact absurd h hx
   have HE := a_0 hE
   have HF := a_0 (show ∀ (X : World) (y : a_3), Below wr.heap.size wr X → Calls prog 335 #[.pointer (some ⟨P, 0, none⟩), str y] X (fun e' w' => e' = .returned (.bool false) ∧ Below X.heap.size X w') from fun X y hb => by
    have h := l_f X P A ts c j d' x (HSx.out.below hb) hjl hlen y; rw [beq_eq_false_iff_ne.2 hx] at h
    exact h)
   clear hE
   go_wp2_with (go_at_call 335; refine (HF.out _ _ hcur).mono ?_; rintro e9 w9 ⟨rfl, hb9⟩; have hcur := a_n hb9 hcur)
   exact t_i
  rcases HD.out with ⟨_, hdd, hij2, G, hG⟩ | ⟨h, _⟩
  rotate_left
  ·exact absurd hx h
  subst hx hdd
  have hG2 : (match c_r 5 (tk ts j) with
   | none => PR.ok es j
   | some o => (q (j + 1)).bind fun fs k => b_j q (c_r 5) ts (G - 1) (es ++ fs ++ [c_3 o]) k) = R := by
   cases G with
   | zero => exact absurd hG.symm hne
   | succ G => exact hG
  clear hG HD
  refine _ac ?_; intro HF
  by_cases t0 : a_9 (tk ts j) [43] = true
  ·have hop : c_r 5 (tk ts j) = some 4 := by unfold c_r; simp [t0]
   have f1 : a_9 (tk ts j) [45] = false := by
    have ht := c_y t0; unfold a_9; rw [ht]
    simp
   rw [hop] at hG2; have HE := a_0 hG2; have hj1 := a_T hv hjl t0; clear hG2 hop; refine _aa ?_; intro HPX
   go_wp2_with (first
     | (go_at_call_of 335 (Value.string { data := #[43] }); refine (HF.out _ [43] hcur).mono ?_; (first | rw [t0] | rw [f0]); rintro e9 w9 ⟨rfl, hb9⟩; have hcur := a_n hb9 hcur; have hS9 := HSx.out.below hcur; obtain ⟨c0, c1, c2, c3⟩ := hS9.cells; have hP9 := hS9.lt; have hfr := hS9.free; clear hS9)
     | (go_at_call_of 335 (Value.string { data := #[45] }); refine (HF.out _ [45] hcur).mono ?_; (first | rw [t1] | rw [f1]); rintro e9 w9 ⟨rfl, hb9⟩; have hcur := a_n hb9 hcur; have hS9 := HSx.out.below hcur; obtain ⟨c0, c1, c2, c3⟩ := hS9.cells; have hP9 := hS9.lt; have hfr := hS9.free; clear hS9))
   refine (HI.out _ (j + 1) (HPX.out w9 hcur).1 (HPX.out w9 hcur).2.1 hj1 o_).mono ?_; rw [HQ.out (j + 1)]; rintro e2 w2 ⟨B2, n2, fs, k, d2, x2, rfl, ho2, hs2, hg2, hgx, hjk, hkl, hfl, hD2⟩; refine q_E ?_; intro HO2 HJ HS2 HG2 HD2 hz2; clear ho2 hs2 hg2 hgx hD2 c0 c1 c2 c3 hfr HF HPX HI
   go_wp2_with fail
   refine (HJ.out 4).mono ?_; rintro e3 w3 ⟨⟨B3, n3, rfl, ho3⟩, hb3⟩; refine o_Z ?_; intro HO3 HS3 HG3; clear ho3 HJ
   go_wp2
   refine ⟨⟨B3, n3, es ++ fs ++ [c_3 4], k, d2, x2, v_, HO3, HS3, HG3, o_, hkl, by simp only [List.length_append, List.length_singleton]; omega, a_0 ?_⟩, ?_⟩
   ·rcases HD2.out with ⟨e1, e2, e3, e4⟩ | ⟨e1, e4, e5⟩
    ·refine .inl ⟨e1, e2, o_, G - 1, ?_⟩
     have hE := HE.out
     try simp only at hE
     exact p_2
    ·refine .inr ⟨e1, ?_, e5⟩
     have hE := HE.out
     try simp only at hE
     exact p_4
   ·rw [b_D HS3.out, b_D HSx.out]
    split <;> simp <;> omega
  have f0 : a_9 (tk ts j) [43] = false := by simpa using t0
  clear t0
  by_cases t1 : a_9 (tk ts j) [45] = true
  ·have hop : c_r 5 (tk ts j) = some 5 := by unfold c_r; simp [t1, f0]
   rw [hop] at hG2; have HE := a_0 hG2; have hj1 := a_T hv hjl t1; clear hG2 hop; refine _aa ?_; intro HPX
   go_wp2_with (first
     | (go_at_call_of 335 (Value.string { data := #[43] }); refine (HF.out _ [43] hcur).mono ?_; (first | rw [t0] | rw [f0]); rintro e9 w9 ⟨rfl, hb9⟩; have hcur := a_n hb9 hcur; have hS9 := HSx.out.below hcur; obtain ⟨c0, c1, c2, c3⟩ := hS9.cells; have hP9 := hS9.lt; have hfr := hS9.free; clear hS9)
     | (go_at_call_of 335 (Value.string { data := #[45] }); refine (HF.out _ [45] hcur).mono ?_; (first | rw [t1] | rw [f1]); rintro e9 w9 ⟨rfl, hb9⟩; have hcur := a_n hb9 hcur; have hS9 := HSx.out.below hcur; obtain ⟨c0, c1, c2, c3⟩ := hS9.cells; have hP9 := hS9.lt; have hfr := hS9.free; clear hS9))
   refine (HI.out _ (j + 1) (HPX.out w9 hcur).1 (HPX.out w9 hcur).2.1 hj1 o_).mono ?_; rw [HQ.out (j + 1)]; rintro e2 w2 ⟨B2, n2, fs, k, d2, x2, rfl, ho2, hs2, hg2, hgx, hjk, hkl, hfl, hD2⟩; refine q_E ?_; intro HO2 HJ HS2 HG2 HD2 hz2; clear ho2 hs2 hg2 hgx hD2 c0 c1 c2 c3 hfr HF HPX HI
   go_wp2_with fail
   refine (HJ.out 5).mono ?_; rintro e3 w3 ⟨⟨B3, n3, rfl, ho3⟩, hb3⟩; refine o_Z ?_; intro HO3 HS3 HG3; clear ho3 HJ
   go_wp2
   refine ⟨⟨B3, n3, es ++ fs ++ [c_3 5], k, d2, x2, v_, HO3, HS3, HG3, o_, hkl, by simp only [List.length_append, List.length_singleton]; omega, a_0 ?_⟩, ?_⟩
   ·rcases HD2.out with ⟨e1, e2, e3, e4⟩ | ⟨e1, e4, e5⟩
    ·refine .inl ⟨e1, e2, o_, G - 1, ?_⟩
     have hE := HE.out
     try simp only at hE
     exact p_2
    ·refine .inr ⟨e1, ?_, e5⟩
     have hE := HE.out
     try simp only at hE
     exact p_4
   ·rw [b_D HS3.out, b_D HSx.out]
    split <;> simp <;> omega
  have f1 : a_9 (tk ts j) [45] = false := by simpa using t1
  clear t1
  have hop : c_r 5 (tk ts j) = none := by unfold c_r; simp [f0, f1]
  rw [hop] at hG2
  have HE := a_0 hG2
  clear hG2 hop
  go_wp2_with (first
     | (go_at_call_of 335 (Value.string { data := #[43] }); refine (HF.out _ [43] hcur).mono ?_; (first | rw [t0] | rw [f0]); rintro e9 w9 ⟨rfl, hb9⟩; have hcur := a_n hb9 hcur)
     | (go_at_call_of 335 (Value.string { data := #[45] }); refine (HF.out _ [45] hcur).mono ?_; (first | rw [t1] | rw [f1]); rintro e9 w9 ⟨rfl, hb9⟩; have hcur := a_n hb9 hcur))
  go_ret
  have hE := HE.out
  try simp only at hE
  exact t_e
theorem o_8 (F P : Nat) (A : Option Addr) (ts : List Tok) (c : Nat) (hv : a_O ts = true) (hlen : ts.length ≤ 1000000) (IH : LvR 342 F 7 P A ts c) : LvR 341 (F + 1) 6 P A ts c := by
 intro W i d hS hi hd _ hF
 have hne := e_n hv (F + 1) 6 i d hi o_ (fun e => absurd e o_) hF
 rw [g_x d_] at hne ⊢
 have hP := hS.lt
 have HI := a_0 (show ∀ (X : World) (j : Nat), PSt RT X P A ts c j d 0 → W.grownBy X (some P) → j < ts.length → i ≤ j → Calls prog 342 #[.pointer (some ⟨P, 0, none⟩)] X (fun e2 w2 => ∃ (B2 : Option Addr) (n2 : Nat) (fs : List Nd) (k d2 : Nat) (x2 : Int), e2 = .returned (.slice B2 fs.length n2) ∧ w2.ownsRow W.heap.size 116 6 (.slice B2 fs.length n2) fs.length (a_a fs) ∧ PSt RT w2 P A ts c k d2 x2 ∧ W.grownBy w2 (some P) ∧ X.grownBy w2 (some P) ∧ j ≤ k ∧ k < ts.length ∧ fs.length ≤ k - j ∧
   ((x2 = 0 ∧ d2 = d ∧ j < k ∧ prs ts F 7 j d = .ok fs k) ∨ (x2 ≠ 0 ∧ prs ts F 7 j d = .err x2 k ∧ d ≤ d2 ∧ d2 ≤ k))) from fun X j hx hg hj hij =>
  (IH X j d hx hj o_ (fun e => absurd e o_) o_).mono fun e2 w2 h => by
   obtain ⟨B2, n2, fs, k, d2, x2, h1, h2, h3, h4, h5, h6, h7, h8⟩ := a_C (b_6 hv F 7 j d hj (fun e => absurd e o_)) h
   exact ⟨B2, n2, fs, k, d2, x2, h1, a_Z h2 hg.size, h3, hg.trans h4, h4, h5, h6, h7, h8⟩)
 have HS := a_0 hS
 clear hS IH
 generalize hq : (fun j => prs ts F 7 j d) = q at *
 refine q_F ?_; intro HQ
 have hqi : prs ts F 7 i d = q i := congrFun hq i
 rw [hqi] at hne ⊢
 clear hq hqi
 generalize hRR : (q i).bind (b_j q (c_r 6) ts ts.length) = R at *
 have HR := a_0 hRR
 clear hRR
 go_enter func341, ntmps341
 go_wp2_with fail
 refine (HI.out W i HS.out (g_ _ _) hi (l_ _)).mono ?_
 rw [HQ.out i]
 rintro e2 w1 ⟨B, n, es, j, d', x, rfl, ho, hs, hg, _, hij, hjl, hel, hD⟩
 have HD0 := a_0 (show (x = 0 ∧ d' = d ∧ i < j ∧ ∃ G, b_j q (c_r 6) ts G es j = R) ∨ (x ≠ 0 ∧ R = .err x j ∧ d ≤ d' ∧ d' ≤ j) from by
  have hr := HR.out
  rcases hD with ⟨h1, h2, h3, h4⟩ | ⟨h1, h2, h3⟩
  ·rw [h4] at hr; exact .inl ⟨h1, h2, h3, _, hr⟩
  ·rw [h2] at hr; exact .inr ⟨h1, hr.symm, h3⟩)
 refine s_e ?_; intro HO HSx HG
 clear ho hs hg hD HR HS
 go_wp2
 go_loopw [3] (fun s wr => ∃ (B : Option Addr) (n : Nat) (es : List Nd) (j d' : Nat) (x : Int), s = .slice B es.length n ∧ Hid (wr.ownsRow W.heap.size 116 6 (.slice B es.length n) es.length (a_a es)) ∧ Hid (PSt RT wr P A ts c j d' x) ∧ Hid (W.grownBy wr (some P)) ∧ i ≤ j ∧ j < ts.length ∧ es.length ≤ j - i ∧ Hid ((x = 0 ∧ d' = d ∧ i < j ∧ ∃ G, b_j q (c_r 6) ts G es j = R) ∨ (x ≠ 0 ∧ R = .err x j ∧ d ≤ d' ∧ d' ≤ j))) (fun _ wr => msr P ts wr)
 case atStart => exact ⟨B, n, es, j, d', x, rfl, HO, HSx, HG, hij, hjl, hel, HD0⟩
 case round =>
  clear HO HSx HG hij hjl hel HD0
  obtain ⟨B, n, es, j, d', x, rfl, HO, HSx, HG, hij, hjl, hel, HD⟩ := hrel
  refine t_q ?_; intro hPr hWw hcur
  by_cases hx : x = 0
  rotate_left
  ·rcases HD.out with ⟨h, _⟩ | ⟨_, hE, hdE⟩
   ·exact absurd h hx
   have HE := a_0 hE
   have HF := a_0 (show ∀ (X : World) (y : a_3), Below wr.heap.size wr X → Calls prog 335 #[.pointer (some ⟨P, 0, none⟩), str y] X (fun e' w' => e' = .returned (.bool false) ∧ Below X.heap.size X w') from fun X y hb => by
    have h := l_f X P A ts c j d' x (HSx.out.below hb) hjl hlen y; rw [beq_eq_false_iff_ne.2 hx] at h
    exact h)
   clear hE
   go_wp2_with (go_at_call 335; refine (HF.out _ _ hcur).mono ?_; rintro e9 w9 ⟨rfl, hb9⟩; have hcur := a_n hb9 hcur)
   exact t_i
  rcases HD.out with ⟨_, hdd, hij2, G, hG⟩ | ⟨h, _⟩
  rotate_left
  ·exact absurd hx h
  subst hx hdd
  have hG2 : (match c_r 6 (tk ts j) with
   | none => PR.ok es j
   | some o => (q (j + 1)).bind fun fs k => b_j q (c_r 6) ts (G - 1) (es ++ fs ++ [c_3 o]) k) = R := by
   cases G with
   | zero => exact absurd hG.symm hne
   | succ G => exact hG
  clear hG HD
  refine _ac ?_; intro HF
  by_cases t0 : a_9 (tk ts j) [42] = true
  ·have hop : c_r 6 (tk ts j) = some 6 := by unfold c_r; simp [t0]
   have f1 : a_9 (tk ts j) [47] = false := by
    have ht := c_y t0; unfold a_9; rw [ht]
    simp
   have f2 : a_9 (tk ts j) [37] = false := by
    have ht := c_y t0; unfold a_9; rw [ht]
    simp
   rw [hop] at hG2; have HE := a_0 hG2; have hj1 := a_T hv hjl t0; clear hG2 hop; refine _aa ?_; intro HPX
   go_wp2_with (first
     | (go_at_call_of 335 (Value.string { data := #[42] }); refine (HF.out _ [42] hcur).mono ?_; (first | rw [t0] | rw [f0]); rintro e9 w9 ⟨rfl, hb9⟩; have hcur := a_n hb9 hcur; have hS9 := HSx.out.below hcur; obtain ⟨c0, c1, c2, c3⟩ := hS9.cells; have hP9 := hS9.lt; have hfr := hS9.free; clear hS9)
     | (go_at_call_of 335 (Value.string { data := #[47] }); refine (HF.out _ [47] hcur).mono ?_; (first | rw [t1] | rw [f1]); rintro e9 w9 ⟨rfl, hb9⟩; have hcur := a_n hb9 hcur; have hS9 := HSx.out.below hcur; obtain ⟨c0, c1, c2, c3⟩ := hS9.cells; have hP9 := hS9.lt; have hfr := hS9.free; clear hS9)
     | (go_at_call_of 335 (Value.string { data := #[37] }); refine (HF.out _ [37] hcur).mono ?_; (first | rw [t2] | rw [f2]); rintro e9 w9 ⟨rfl, hb9⟩; have hcur := a_n hb9 hcur; have hS9 := HSx.out.below hcur; obtain ⟨c0, c1, c2, c3⟩ := hS9.cells; have hP9 := hS9.lt; have hfr := hS9.free; clear hS9))
   refine (HI.out _ (j + 1) (HPX.out w9 hcur).1 (HPX.out w9 hcur).2.1 hj1 o_).mono ?_; rw [HQ.out (j + 1)]; rintro e2 w2 ⟨B2, n2, fs, k, d2, x2, rfl, ho2, hs2, hg2, hgx, hjk, hkl, hfl, hD2⟩; refine q_E ?_; intro HO2 HJ HS2 HG2 HD2 hz2; clear ho2 hs2 hg2 hgx hD2 c0 c1 c2 c3 hfr HF HPX HI
   go_wp2_with fail
   refine (HJ.out 6).mono ?_; rintro e3 w3 ⟨⟨B3, n3, rfl, ho3⟩, hb3⟩; refine o_Z ?_; intro HO3 HS3 HG3; clear ho3 HJ
   go_wp2
   refine ⟨⟨B3, n3, es ++ fs ++ [c_3 6], k, d2, x2, v_, HO3, HS3, HG3, o_, hkl, by simp only [List.length_append, List.length_singleton]; omega, a_0 ?_⟩, ?_⟩
   ·rcases HD2.out with ⟨e1, e2, e3, e4⟩ | ⟨e1, e4, e5⟩
    ·refine .inl ⟨e1, e2, o_, G - 1, ?_⟩
     have hE := HE.out
     try simp only at hE
     exact p_2
    ·refine .inr ⟨e1, ?_, e5⟩
     have hE := HE.out
     try simp only at hE
     exact p_4
   ·rw [b_D HS3.out, b_D HSx.out]
    split <;> simp <;> omega
  have f0 : a_9 (tk ts j) [42] = false := by simpa using t0
  clear t0
  by_cases t1 : a_9 (tk ts j) [47] = true
  ·have hop : c_r 6 (tk ts j) = some 7 := by unfold c_r; simp [t1, f0]
   have f2 : a_9 (tk ts j) [37] = false := by
    have ht := c_y t1; unfold a_9; rw [ht]
    simp
   rw [hop] at hG2; have HE := a_0 hG2; have hj1 := a_T hv hjl t1; clear hG2 hop; refine _aa ?_; intro HPX
   go_wp2_with (first
     | (go_at_call_of 335 (Value.string { data := #[42] }); refine (HF.out _ [42] hcur).mono ?_; (first | rw [t0] | rw [f0]); rintro e9 w9 ⟨rfl, hb9⟩; have hcur := a_n hb9 hcur; have hS9 := HSx.out.below hcur; obtain ⟨c0, c1, c2, c3⟩ := hS9.cells; have hP9 := hS9.lt; have hfr := hS9.free; clear hS9)
     | (go_at_call_of 335 (Value.string { data := #[47] }); refine (HF.out _ [47] hcur).mono ?_; (first | rw [t1] | rw [f1]); rintro e9 w9 ⟨rfl, hb9⟩; have hcur := a_n hb9 hcur; have hS9 := HSx.out.below hcur; obtain ⟨c0, c1, c2, c3⟩ := hS9.cells; have hP9 := hS9.lt; have hfr := hS9.free; clear hS9)
     | (go_at_call_of 335 (Value.string { data := #[37] }); refine (HF.out _ [37] hcur).mono ?_; (first | rw [t2] | rw [f2]); rintro e9 w9 ⟨rfl, hb9⟩; have hcur := a_n hb9 hcur; have hS9 := HSx.out.below hcur; obtain ⟨c0, c1, c2, c3⟩ := hS9.cells; have hP9 := hS9.lt; have hfr := hS9.free; clear hS9))
   refine (HI.out _ (j + 1) (HPX.out w9 hcur).1 (HPX.out w9 hcur).2.1 hj1 o_).mono ?_; rw [HQ.out (j + 1)]; rintro e2 w2 ⟨B2, n2, fs, k, d2, x2, rfl, ho2, hs2, hg2, hgx, hjk, hkl, hfl, hD2⟩; refine q_E ?_; intro HO2 HJ HS2 HG2 HD2 hz2; clear ho2 hs2 hg2 hgx hD2 c0 c1 c2 c3 hfr HF HPX HI
   go_wp2_with fail
   refine (HJ.out 7).mono ?_; rintro e3 w3 ⟨⟨B3, n3, rfl, ho3⟩, hb3⟩; refine o_Z ?_; intro HO3 HS3 HG3; clear ho3 HJ
   go_wp2
   refine ⟨⟨B3, n3, es ++ fs ++ [c_3 7], k, d2, x2, v_, HO3, HS3, HG3, o_, hkl, by simp only [List.length_append, List.length_singleton]; omega, a_0 ?_⟩, ?_⟩
   ·rcases HD2.out with ⟨e1, e2, e3, e4⟩ | ⟨e1, e4, e5⟩
    ·refine .inl ⟨e1, e2, o_, G - 1, ?_⟩
     have hE := HE.out
     try simp only at hE
     exact p_2
    ·refine .inr ⟨e1, ?_, e5⟩
     have hE := HE.out
     try simp only at hE
     exact p_4
   ·rw [b_D HS3.out, b_D HSx.out]
    split <;> simp <;> omega
  have f1 : a_9 (tk ts j) [47] = false := by simpa using t1
  clear t1
  by_cases t2 : a_9 (tk ts j) [37] = true
  ·have hop : c_r 6 (tk ts j) = some 8 := by unfold c_r; simp [t2, f0, f1]
   rw [hop] at hG2; have HE := a_0 hG2; have hj1 := a_T hv hjl t2; clear hG2 hop; refine _aa ?_; intro HPX
   go_wp2_with (first
     | (go_at_call_of 335 (Value.string { data := #[42] }); refine (HF.out _ [42] hcur).mono ?_; (first | rw [t0] | rw [f0]); rintro e9 w9 ⟨rfl, hb9⟩; have hcur := a_n hb9 hcur; have hS9 := HSx.out.below hcur; obtain ⟨c0, c1, c2, c3⟩ := hS9.cells; have hP9 := hS9.lt; have hfr := hS9.free; clear hS9)
     | (go_at_call_of 335 (Value.string { data := #[47] }); refine (HF.out _ [47] hcur).mono ?_; (first | rw [t1] | rw [f1]); rintro e9 w9 ⟨rfl, hb9⟩; have hcur := a_n hb9 hcur; have hS9 := HSx.out.below hcur; obtain ⟨c0, c1, c2, c3⟩ := hS9.cells; have hP9 := hS9.lt; have hfr := hS9.free; clear hS9)
     | (go_at_call_of 335 (Value.string { data := #[37] }); refine (HF.out _ [37] hcur).mono ?_; (first | rw [t2] | rw [f2]); rintro e9 w9 ⟨rfl, hb9⟩; have hcur := a_n hb9 hcur; have hS9 := HSx.out.below hcur; obtain ⟨c0, c1, c2, c3⟩ := hS9.cells; have hP9 := hS9.lt; have hfr := hS9.free; clear hS9))
   refine (HI.out _ (j + 1) (HPX.out w9 hcur).1 (HPX.out w9 hcur).2.1 hj1 o_).mono ?_; rw [HQ.out (j + 1)]; rintro e2 w2 ⟨B2, n2, fs, k, d2, x2, rfl, ho2, hs2, hg2, hgx, hjk, hkl, hfl, hD2⟩; refine q_E ?_; intro HO2 HJ HS2 HG2 HD2 hz2; clear ho2 hs2 hg2 hgx hD2 c0 c1 c2 c3 hfr HF HPX HI
   go_wp2_with fail
   refine (HJ.out 8).mono ?_; rintro e3 w3 ⟨⟨B3, n3, rfl, ho3⟩, hb3⟩; refine o_Z ?_; intro HO3 HS3 HG3; clear ho3 HJ
   go_wp2
   refine ⟨⟨B3, n3, es ++ fs ++ [c_3 8], k, d2, x2, v_, HO3, HS3, HG3, o_, hkl, by simp only [List.length_append, List.length_singleton]; omega, a_0 ?_⟩, ?_⟩
   ·rcases HD2.out with ⟨e1, e2, e3, e4⟩ | ⟨e1, e4, e5⟩
    ·refine .inl ⟨e1, e2, o_, G - 1, ?_⟩
     have hE := HE.out
     try simp only at hE
     exact p_2
    ·refine .inr ⟨e1, ?_, e5⟩
     have hE := HE.out
     try simp only at hE
     exact p_4
   ·rw [b_D HS3.out, b_D HSx.out]
    split <;> simp <;> omega
  have f2 : a_9 (tk ts j) [37] = false := by simpa using t2
  clear t2
  have hop : c_r 6 (tk ts j) = none := by unfold c_r; simp [f0, f1, f2]
  rw [hop] at hG2
  have HE := a_0 hG2
  clear hG2 hop
  go_wp2_with (first
     | (go_at_call_of 335 (Value.string { data := #[42] }); refine (HF.out _ [42] hcur).mono ?_; (first | rw [t0] | rw [f0]); rintro e9 w9 ⟨rfl, hb9⟩; have hcur := a_n hb9 hcur)
     | (go_at_call_of 335 (Value.string { data := #[47] }); refine (HF.out _ [47] hcur).mono ?_; (first | rw [t1] | rw [f1]); rintro e9 w9 ⟨rfl, hb9⟩; have hcur := a_n hb9 hcur)
     | (go_at_call_of 335 (Value.string { data := #[37] }); refine (HF.out _ [37] hcur).mono ?_; (first | rw [t2] | rw [f2]); rintro e9 w9 ⟨rfl, hb9⟩; have hcur := a_n hb9 hcur))
  go_ret
  have hE := HE.out
  try simp only at hE
  exact t_e
end Go.Proofs.YtmbeeefkpgfgmaaGreatDoor
