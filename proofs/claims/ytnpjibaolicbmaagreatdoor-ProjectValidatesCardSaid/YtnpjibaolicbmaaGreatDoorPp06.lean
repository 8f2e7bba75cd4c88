/- Parts of the proof. -/
import Derived.Test.YtnpjibaolicbmaaGreatDoorPp04
import Derived.Test.YtnpjibaolicbmaaGreatDoorPp05
import Derived.Deep.Slices
set_option linter.unusedVariables false
set_option linter.unusedSimpArgs false
set_option maxHeartbeats 4000000
namespace Go.Proofs.YtnpjibaolicbmaaGreatDoor
open Go.Proofs.Tryz
open Go.RowKit
theorem a_9 {w a b : World} (h2 : Below a.heap.size a b) (h1 : Below w.heap.size w a) : Below w.heap.size w b := h1.trans (h2.mono h1.size)
theorem i_A (st : List Int) (r j : Nat) (h : r + j < st.length) : ((st.drop r).take (j + 1)).foldl max 0 = max (((st.drop r).take j).foldl max 0) (st.getD (r + j) 0) := by
 have hj : j < (st.drop r).length := by rw [List.length_drop]; omega
 rw [List.take_succ_eq_append_getElem hj, List.foldl_append]
 simp [List.getD_eq_getElem?_getD, List.getElem?_eq_getElem h]
theorem k_q {st : List Int} (hs : i_5 st) (i : Nat) (h : i < st.length) : 1 ≤ st.getD i 0 ∧ st.getD i 0 ≤ 64 := by
 rw [List.getD_eq_getElem?_getD, List.getElem?_eq_getElem h]
 exact hs _ (List.getElem_mem h)
theorem h_T {st : List Int} (hs : i_5 st) (r j : Nat) : 0 ≤ ((st.drop r).take j).foldl max 0 ∧ ((st.drop r).take j).foldl max 0 ≤ 64 :=
 ⟨(e_0 _ 0).1, f_G _ 0 64 o_ (fun x hx => (hs x (List.mem_of_mem_drop (List.mem_of_mem_take hx))).2)⟩
set_option maxRecDepth 100000
theorem h_7 (A : Option Addr) (st : List Int) (c ar : Nat) (w : World) (h : b_R w A st) (har : ar ≤ st.length) (hc : st.length ≤ c) (hn : A = none → c = 0) (hs : i_5 st) (hl : st.length ≤ 8796093022208) (hcm : c ≤ maxLen) :
  Calls prog 233 #[.slice A st.length c, .int .i64 ar] w fun e w' => e = .returned (.tuple #[.int .i64 (g_g st ar), .slice A (st.length - ar : Nat) c]) ∧ ∃ n, w' = w.drewN n := by
 have HI := a_2 h
 have HS := a_2 hs
 unfold maxLen at hcm
 have HT := a_2 (show g_g st ar = ((st.drop (st.length - ar)).take ar).foldl max 0 + 1 by
  unfold g_g; rw [List.take_of_length_le (by rw [List.length_drop]; omega)])
 have hb := h_T hs (st.length - ar) ar
 obtain ⟨r, hr⟩ : ∃ r, r = st.length - ar := ⟨_, rfl⟩
 have hr2 : st.length = r + ar := by omega
 rw [← hr] at HT hb
 rw [show (st.length - ar : Nat) = r from hr.symm]
 clear h hs hr
 have hsub : (st.length : Int) - (ar : Int) = (r : Int) := by omega
 obtain ⟨n, hnn⟩ : ∃ n, n = st.length := ⟨_, rfl⟩
 have HM := a_2 hnn
 rw [← hnn] at har hc hl hr2 hsub ⊢
 clear hnn
 go_enter func233, ntmps233
 go_wp2
 go_loop [6, 8] (fun h i => ∃ j : Nat, j ≤ ar ∧ i = .int .i64 ((r : Int) + (j : Int)) ∧ h = .int .i64 (((st.drop r).take j).foldl max 0)) (fun _ i => n - (intOf i).toNat)
 case atStart => exact ⟨0, o_, s_, s_⟩
 case round =>
  obtain ⟨j, hj, rfl, rfl⟩ := hrel
  by_cases hlt : j < ar
  ·rcases HI.out with e | ⟨a, rfl, _, _, hac⟩
   ·have := HM.out; rw [e] at this; simp at this; omega
   have hcell := hac (r + j) (by rw [← HM.out]; omega); have hx := k_q HS.out (r + j) (by rw [← HM.out]; omega); have HF := a_2 (i_A st r j (by rw [← HM.out]; omega)); have hb2 := h_T HS.out r j; clear hac hb; generalize st.getD (r + j) 0 = x at *; generalize ((st.drop r).take j).foldl max 0 = y at *
   go_wp2
   go_round
   case rel => exact ⟨j + 1, o_, m_, by rw [HF.out]⟩
   case measure => simp [intOf]; omega
  ·obtain rfl : j = ar := by omega
   clear hj hlt; generalize ((st.drop r).take j).foldl max 0 = y at *
   cases A with
   | none =>
    obtain rfl := hn rfl; obtain rfl : n = 0 := by omega
    obtain rfl : r = 0 := by omega
    obtain rfl : j = 0 := by omega
    have hw : IntKind.i64.wrap (y + 1) = y + 1 := IntWalk.i64_in _ o_; clear hsub hr2 hc hl har hb hcm HI hn
    go_wp2
    go_big_quiet (fail)
    go_wp2
    exact s_E
   | some a =>
    have c1 : (r : Int) ≤ (c : Int) := by omega
    have c2 : r ≤ c := by omega
    have hw : IntKind.i64.wrap (y + 1) = y + 1 := IntWalk.i64_in _ o_
    go_wp2
    go_big_quiet (fail)
    go_wp2
    exact s_E
set_option maxRecDepth 512
theorem Tryz.info_int : (prog.info? 3).map (fun i => (i.zero, i.size, i.bytes)) = some (some (.int .i64 0), 1, 8) := by kernel_rfl
theorem b_3 {W : World} {B : Nat} {a : Value} {t : TypeId} (h : W.heap[B]? = some (.cells #[a] t)) : ∀ (j : Nat) (u : Value), [a][j]? = some u → W.cell? ((⟨B, 0, none⟩ : Addr).add j) = some u := by
 intro j u hu
 refine r_p ?_; intro e
 rw [e, a_0 h]
 simpa using hu
abbrev d_T (st : List Int) : List Value := st.map (Value.int .i64)
theorem h_Z {w : World} {base e c : Nat} {A : Option Addr} {st : List Int} (h : w.ownsRow base e 1 (.slice A st.length c) st.length (d_T st)) (hl : st.length ≤ maxLen) : b_R w A st ∧ st.length ≤ c ∧ (A = none → c = 0) ∧ c ≤ maxLen := by
 rcases h.2 with ⟨hv, hn⟩ | ⟨g, cap, cur, hv, hg, hh, hnc, hcap, hsz, htk⟩
 ·injection hv with h1 h2 h3
  subst h1 h3
  exact ⟨.inl (List.eq_nil_of_length_eq_zero hn), o_, fun _ => rfl, Nat.zero_le _⟩
 ·injection hv with h1 h2 h3
  subst h1 h3
  refine ⟨.inr ⟨⟨g, 0, none⟩, rfl, a_6 hh, hl, fun k hk => ?_⟩, hnc, (fun e => by cases e), hcap⟩
  have e : (⟨g, 0, none⟩ : Addr).add k = ⟨g, k, none⟩ := by unfold Addr.add; split <;> simp_all
  rw [e, World.ownsRow.cellAt h k o_]
  simp [List.getD_eq_getElem?_getD, List.getElem?_eq_getElem hk]
theorem h_H {w : World} {base e c n r : Nat} {A : Option Addr} {xs : List Value} (h : w.ownsRow base e 1 (.slice A n c) n xs) (hr : r ≤ n) : w.ownsRow base e 1 (.slice A r c) r (xs.take r) := by
 refine ⟨by rw [List.length_take, h.1]; omega, ?_⟩
 rcases h.2 with ⟨hv, hn⟩ | ⟨g, cap, cur, hv, hg, hh, hnc, hcap, hsz, htk⟩
 ·injection hv with h1 h2 h3
  subst h1 h3
  left
  have : r = 0 := by omega
  subst this
  exact ⟨rfl, rfl⟩
 ·injection hv with h1 h2 h3
  subst h1 h3
  right
  refine ⟨g, c, cur, rfl, hg, hh, o_, hcap, hsz, ?_⟩
  rw [← htk, List.take_take]
  congr 1; omega
def b_Q (es : List Nd) : Prop := ∀ n ∈ es, n.name.length ≤ maxLen
def c_0 (es : List Nd) (k : Nat) (st : List Int) : Prop := e_e (es.take k) [] = .ok st
theorem c_0.facts {es : List Nd} {k : Nat} {st : List Int} (h : c_0 es k st) (hk : k ≤ es.length) : i_5 st ∧ st.length ≤ k := by
 obtain ⟨a, b⟩ := j_t _ _ _ h (fun x hx => by cases hx)
 refine ⟨a, ?_⟩
 rw [List.length_take] at b
 simp at b; omega
theorem i_n {es : List Nd} {st : List Int} (h256 : ¬ 256 < es.length) (h : c_0 es es.length st) : a_u es = if st.length = 1 then 0 else 8 := by
 unfold c_0 at h
 rw [List.take_length] at h
 unfold a_u
 rw [if_neg h256, h]
theorem k_b {es : List Nd} {k : Nat} {st : List Int} {x : Int} (h256 : ¬ 256 < es.length) (h : c_0 es k st) (hk : k < es.length) (hf : d_8 es[k] st = .error x) : a_u es = x := by
 have h2 : e_e es [] = .error x := h_j (k := k + 1) (by rw [g_F h hk]; exact hf)
 unfold a_u
 rw [if_neg h256, h2]
theorem c_0.step {es : List Nd} {k : Nat} {st st' : List Int} (h : c_0 es k st) (hk : k < es.length) (hf : d_8 es[k] st = .ok st') : c_0 es (k + 1) st' := by
 unfold c_0
 rw [g_F h hk]; exact hf
theorem e_3 {n : Nd} {st : List Int} (h : n.ok = false ∨ (st.length : Int) < n.ar) : d_8 n st = .error 8 := by unfold d_8; rw [if_pos h]
theorem i_9 {n : Nd} {st : List Int} (h : n.ok = true) (h2 : ¬ (st.length : Int) < n.ar) (h3 : 64 < g_g st n.ar.toNat) : d_8 n st = .error 2 := by unfold d_8; rw [if_neg (by simp [h]; omega), if_pos h3]
theorem i_c {n : Nd} {st : List Int} (h : n.ok = true) (h2 : ¬ (st.length : Int) < n.ar) (h3 : ¬ 64 < g_g st n.ar.toNat) : d_8 n st = .ok (st.take (st.length - n.ar.toNat) ++ [g_g st n.ar.toNat]) := by unfold d_8; rw [if_neg (by simp [h]; omega), if_neg h3]
set_option maxRecDepth 100000
theorem b_l (A : Option Addr) (es : List Nd) (c : Nat) (w : World) (h : b_q w A es) (hl : es.length ≤ 8796093022208) (hx : b_Q es) :
  Calls prog 182 #[.slice A es.length c] w fun e w' => e = .returned (.int .i64 (a_u es)) ∧ Below w.heap.size w w' := by
 have HA := a_2 h; have HX := a_2 hx
 clear h hx
 by_cases h256 : 256 < es.length
 ·have HE := a_2 (show a_u es = 2 by unfold a_u; rw [if_pos h256])
  go_enter func182, ntmps182
  go_wp2
  go_ret
  exact ⟨by rw [HE.out]; rfl, zX⟩
 have H256 := a_2 h256
 obtain ⟨i0, hi, hz0, hz1, hz2⟩ := info_parts Tryz.info_int
 go_enter func182, ntmps182
 go_wp2
 go_loopw [3, 4] (fun s i wr => ∃ (k : Nat) (st : List Int) (A' : Option Addr) (c' : Nat), s = .slice A' st.length c' ∧ i = .int .i64 k ∧ k ≤ es.length ∧ Hid (c_0 es k st) ∧
   wr.ownsRow w.heap.size 3 1 (.slice A' st.length c') st.length (d_T st) ∧ Below w.heap.size w wr) (fun _ i _ => es.length - (intOf i).toNat)
 case atStart => exact ⟨0, [], none, 0, rfl, rfl, o_, rfl, b_f _ _ _ _, b_ _ _⟩
 case round =>
  obtain ⟨k, st, A', c', rfl, rfl, hk, HR, hown, hbel⟩ := hrel
  obtain ⟨hso, hsl⟩ := HR.out.facts hk
  have HSO := a_2 hso
  clear hso
  have hsz := hbel.size
  by_cases hlt : k < es.length
  ·rcases HA.out.below hbel with e | ⟨g, off, rfl, hg, hc⟩
   ·exact absurd hlt e_
   refine s_t ?_; intro HN; have HF := a_2 (fun W => g_q es[k].op es[k].val.kind es[k].val.num es[k].arity ⟨es[k].val.text.toArray⟩ ⟨es[k].name.toArray⟩ W (by show es[k].name.toArray.size ≤ _; have := HX.out _ (List.getElem_mem hlt); simpa using this)); refine s_j ?_; intro HAr; refine _ak ?_; intro HV HS; clear hc; obtain ⟨n, hn⟩ : ∃ n, n = es[k] := ⟨_, rfl⟩; rw [← hn] at HN HF HAr HV HS; clear hn; obtain ⟨n0, n1, n2, n3, n4, n5⟩ := HN.out wr (b_ _ _); have hok1 : a_H n.op n.val.kind n.val.num (bs ⟨n.val.text.toArray⟩) (bs ⟨n.name.toArray⟩) n.arity = n.ok := rfl
   cases hok : n.ok
   ·have HE := a_2 (HV.out 8 (e_3 (.inl hok)))
    rw [hok] at hok1; have HF1 := a_2 (fun W => by have := HF.out W; rw [hok1] at this; exact this); clear hok hok1
    go_wp2_with (go_at_call 231; refine (HF1.out _).mono ?_; rintro e w1 ⟨rfl, hb1⟩)
    go_ret
    exact ⟨by rw [HE.out]; rfl, a_9 hb1 hbel⟩
   ·rw [hok] at hok1
    have HF1 := a_2 (fun W => by have := HF.out W; rw [hok1] at this; exact this); obtain ⟨ha0, ha8⟩ := g_u hok; obtain ⟨a, ha⟩ : ∃ a : Nat, n.ar = a := ⟨n.ar.toNat, o_⟩; have ha1 : b_N n.op n.arity = (a : Int) := ha; refine q_V ?_; intro HA1
    by_cases hlt2 : st.length < a
    ·have HE := a_2 (HV.out 8 (e_3 (.inr (by rw [ha]; omega))))
     clear hok hok1 ha ha0 ha8 ha1
     go_wp2_with (first
      | (go_at_call 231; refine (HF1.out _).mono ?_; rintro e w1 ⟨rfl, hb1⟩; obtain ⟨m0, m1, m2, m3, m4, m5⟩ := HN.out _ hb1)
      | (go_at_call 232; refine (HA1.out _).mono ?_; rintro e w2 ⟨rfl, hb2⟩))
     go_ret
     exact ⟨by rw [HE.out]; rfl, a_9 hb2 (a_9 hb1 hbel)⟩
    ·obtain ⟨hI, hcc, hcn, hcm⟩ := h_Z hown x_
     have HI := a_2 hI; have HCN := a_2 hcn; have HCM := a_2 hcm
     have hb64 : g_g st a ≤ 65 := by
      have := h_T HSO.out (st.length - a) st.length; rw [List.take_of_length_le (by rw [List.length_drop]; omega)] at this; unfold g_g; omega
     have hp64 := j_J st a; clear hI hcn hcm; have HRa := a_2 (fun W (hW : Below wr.heap.size wr W) => h_7 A' st c' a W (HI.out.below hW) o_ hcc HCN.out HSO.out o_ HCM.out)
     by_cases h64 : 64 < g_g st a
     ·have HE := a_2 (HV.out 2 (i_9 hok (by rw [ha]; omega) (by rw [ha]; simpa using h64)))
      clear hok hok1 ha ha0 ha8 ha1; generalize g_g st a = y at *
      go_wp2_with (first
       | (go_at_call 231; refine (HF1.out _).mono ?_; rintro e w1 ⟨rfl, hb1⟩; obtain ⟨m0, m1, m2, m3, m4, m5⟩ := HN.out _ hb1)
       | (go_at_call 232; refine (HA1.out _).mono ?_; rintro e w1 ⟨rfl, hb2⟩; have hb1 := a_9 hb2 hb1; obtain ⟨m0, m1, m2, m3, m4, m5⟩ := HN.out _ hb1; clear hb2)
       | (go_at_call 233; refine (HRa.out _ hb1).mono ?_; rintro e w1 ⟨rfl, q, rfl⟩))
      go_ret
      exact ⟨by rw [HE.out]; rfl, a_4 (a_9 hb1 hbel) _⟩
     ·have HE := a_2 (HS.out _ (i_c hok (by rw [ha]; omega) (by rw [ha]; simpa using h64)))
      rw [ha, Int.toNat_natCast] at HE; clear hok hok1 ha ha0 ha8 ha1; generalize g_g st a = y at *
      go_wp2_with (first
       | (go_at_call 231; refine (HF1.out _).mono ?_; rintro e w1 ⟨rfl, hb1⟩; obtain ⟨m0, m1, m2, m3, m4, m5⟩ := HN.out _ hb1)
       | (go_at_call 232; refine (HA1.out _).mono ?_; rintro e w1 ⟨rfl, hb2⟩; have hb1 := a_9 hb2 hb1; obtain ⟨m0, m1, m2, m3, m4, m5⟩ := HN.out _ hb1; clear hb2)
       | (go_at_call 233; refine (HRa.out _ hb1).mono ?_; rintro e w2 ⟨rfl, q, rfl⟩)
       | (at_builtin; refine wpList_append_own _ rfl _ _ 23 rfl w.heap.size 3 i0 _ 1 8 underlying23 hi hz0 hz1 hz2 rfl d_ _ _ _ rfl (h_H (a_g hown (a_4 hb1 q)) (Nat.sub_le _ a) |>.alloc _) ⟨(w1.drewN q).heap.size, 0, none⟩ 1 1 [.int .i64 y] rfl rfl (by exact b_3 (heap_alloc_new _ _)) c_ x_ o_ (by have := hb1.size; simp; omega) ?_; intro v' w3 hown3 hgrow _))
      obtain ⟨A3, c3, rfl⟩ := a_j hown3; have hlen : (st.take (st.length - a) ++ [y]).length = st.length - a + 1 := by simp
      have hvals : d_T (st.take (st.length - a) ++ [y]) = (d_T st).take (st.length - a) ++ [.int .i64 y] := by simp [d_T, List.map_take]
      have hb3 : Below w.heap.size w w3 := ((a_9 (a_4 hb1 q) hbel).alloc (by have := hb1.size; show _ ≤ (w1.drewN q).heap.size; exact Nat.le_trans hsz this) _).grown hgrow (by have := hb1.size; first | (simp; done) | (simp; omega)) (fun k hk => ((h_H (a_g hown (a_4 hb1 q)) (Nat.sub_le st.length a)).lt k hk).1); have HO := a_2 (show w3.ownsRow w.heap.size 3 1 (.slice A3 (st.take (st.length - a) ++ [y]).length c3) (st.take (st.length - a) ++ [y]).length (d_T (st.take (st.length - a) ++ [y])) from by rw [hlen, hvals]; exact hown3); have HL := a_2 hlen.symm; clear hown3 hgrow hvals hlen hown
      go_wp2
      exact ⟨⟨k + 1, _, A3, c3, by rw [← HL.out], t_, o_, HE, HO.out, hb3⟩, w_⟩
  ·obtain rfl : k = es.length := by omega
   have HE := a_2 (i_n H256.out HR.out)
   by_cases h1 : st.length = 1
   ·have hb1 : ((st.length : Int) != 1) = false := by simp; omega
    rw [if_pos h1] at HE
    go_wp2
    exact q_2
   ·have hb1 : ((st.length : Int) != 1) = true := by simp; omega
    rw [if_neg h1] at HE
    go_wp2
    exact q_2
set_option maxRecDepth 512
theorem n_W (st : List Int) (a : Nat) (ha : a ≤ st.length) : g_g st a = 1 + ((st.drop (st.length - a)).take a).foldl max 0 := by
 unfold g_g
 rw [List.take_of_length_le (by rw [List.length_drop]; omega)]; omega
set_option maxRecDepth 100000
theorem b_m (A : Option Addr) (es : List Nd) (c : Nat) (w : World) (hW : a_v w 1 a_w) (h : b_q w A es) (hl : es.length ≤ 8796093022208) (hx : b_Q es) :
  Calls prog 99 #[.slice A es.length c] w fun e w' => e = .returned (.int .i64 (a_u es)) ∧ Below w.heap.size w w' := by
 have HA := a_2 h; have HX := a_2 hx; have HW := a_2 hW
 clear h hx hW
 by_cases h256 : 256 < es.length
 ·have HE := a_2 (show a_u es = 2 by unfold a_u; rw [if_pos h256])
  go_enter func99, ntmps99
  go_wp2
  go_ret
  exact ⟨by rw [HE.out]; rfl, zX⟩
 have H256 := a_2 h256
 obtain ⟨i0, hi, hz0, hz1, hz2⟩ := info_parts Tryz.info_int
 go_enter func99, ntmps99
 go_wp2
 go_loopw [3, 15] (fun s i wr => ∃ (k : Nat) (st : List Int) (A' : Option Addr) (c' : Nat), s = .slice A' st.length c' ∧ i = .int .i64 k ∧ k ≤ es.length ∧ Hid (c_0 es k st) ∧
   wr.ownsRow w.heap.size 3 1 (.slice A' st.length c') st.length (d_T st) ∧ Below w.heap.size w wr) (fun _ i _ => es.length - (intOf i).toNat)
 case atStart => exact ⟨0, [], none, 0, rfl, rfl, o_, rfl, b_f _ _ _ _, b_ _ _⟩
 case round =>
  obtain ⟨k, st, A', c', rfl, rfl, hk, HR, hown, hbel⟩ := hrel
  obtain ⟨hso, hsl⟩ := HR.out.facts hk
  have HSO := a_2 hso
  clear hso
  have hsz := hbel.size
  by_cases hlt : k < es.length
  ·rcases HA.out.below hbel with e | ⟨g, off, rfl, hg, hc⟩
   ·exact absurd hlt e_
   refine s_t ?_; intro HN; have HF := a_2 (fun W (hW : Below w.heap.size w W) => g_B es[k].op es[k].val.kind es[k].val.num es[k].arity ⟨es[k].val.text.toArray⟩ ⟨es[k].name.toArray⟩ W (HW.out.below hW) (by show es[k].name.toArray.size ≤ _; have := HX.out _ (List.getElem_mem hlt); simpa using this)); have HAr := a_2 (fun W => e_j es[k].op es[k].val.kind es[k].val.num es[k].arity ⟨es[k].val.text.toArray⟩ ⟨es[k].name.toArray⟩ W); refine _ak ?_; intro HV HS; clear hc; obtain ⟨n, hn⟩ : ∃ n, n = es[k] := ⟨_, rfl⟩; rw [← hn] at HN HF HAr HV HS; clear hn; obtain ⟨n0, n1, n2, n3, n4, n5⟩ := HN.out wr (b_ _ _); have hok1 : a_H n.op n.val.kind n.val.num (bs ⟨n.val.text.toArray⟩) (bs ⟨n.name.toArray⟩) n.arity = n.ok := rfl; have hcur := b_ (wr.heap.size + 1) (wr.alloc (d_x n.op n.val.kind n.val.num ⟨n.val.text.toArray⟩ ⟨n.name.toArray⟩ n.arity))
   cases hok : n.ok
   ·have HE := a_2 (HV.out 8 (e_3 (.inl hok)))
    rw [hok] at hok1; have HF1 := a_2 (fun W hW => by have := HF.out W hW; rw [hok1] at this; exact this); clear hok hok1
    go_wp2_with (go_at_call 157; refine (HF1.out _ (a_9 (a_5 hcur) hbel)).mono ?_; rintro e w1 ⟨rfl, hb1⟩; have hcur := a_1 hcur s_ hb1)
    go_ret
    exact ⟨by rw [HE.out]; rfl, a_9 (a_5 hcur) hbel⟩
   ·rw [hok] at hok1
    have HF1 := a_2 (fun W hW => by have := HF.out W hW; rw [hok1] at this; exact this); obtain ⟨ha0, ha8⟩ := g_u hok; obtain ⟨a, ha⟩ : ∃ a : Nat, n.ar = a := ⟨n.ar.toNat, o_⟩; have ha1 : b_N n.op n.arity = (a : Int) := ha; refine q_V ?_; intro HA1
    by_cases hlt2 : st.length < a
    ·have HE := a_2 (HV.out 8 (e_3 (.inr (by rw [ha]; omega))))
     clear hok hok1 ha ha0 ha8 ha1
     go_wp2_with (first
      | (go_at_call 157; refine (HF1.out _ (a_9 (a_5 hcur) hbel)).mono ?_; rintro e w1 ⟨rfl, hb1⟩; have hcur := a_1 hcur s_ hb1; obtain ⟨k0, k1, k2, k3, k4, k5, k6⟩ := a_R hcur; clear hb1)
      | (go_at_call 158; refine (HA1.out _).mono ?_; rintro e w1 ⟨rfl, hb1⟩; have hcur := a_1 hcur s_ hb1; obtain ⟨k0, k1, k2, k3, k4, k5, k6⟩ := a_R hcur; clear hb1))
     go_ret
     exact ⟨by rw [HE.out]; rfl, a_9 (a_5 hcur) hbel⟩
    ·obtain ⟨hI, hcc, hcn, hcm⟩ := h_Z hown x_
     have HI := a_2 hI; have HCN := a_2 hcn; have HCM := a_2 hcm; unfold maxLen at hcm; obtain ⟨r, hr⟩ : ∃ r, r = st.length - a := ⟨_, rfl⟩; have hr2 : st.length = r + a := by omega
     have hsub : (st.length : Int) - (a : Int) = (r : Int) := by omega
     have HT := a_2 (n_W st a o_); rw [← hr] at HT; have HST := a_2 (fun (h3 : ¬ 64 < g_g st a) => HS.out _ (i_c hok (by rw [ha]; omega) (by rw [ha, Int.toNat_natCast]; exact h3))); rw [ha, Int.toNat_natCast, ← hr] at HST; have HV2 := a_2 (fun (h3 : 64 < g_g st a) => HV.out 2 (i_9 hok (by rw [ha]; omega) (by rw [ha, Int.toNat_natCast]; exact h3))); clear hI hcn hok hok1 ha ha0 ha8 ha1 hr HAr HF
     go_wp2_with (first
      | (go_at_call 157; refine (HF1.out _ (a_9 (a_5 hcur) hbel)).mono ?_; rintro e w1 ⟨rfl, hb1⟩; have hcur := a_1 hcur s_ hb1; obtain ⟨k0, k1, k2, k3, k4, k5, k6⟩ := a_R hcur; clear hb1)
      | (go_at_call 158; refine (HA1.out _).mono ?_; rintro e w1 ⟨rfl, hb1⟩; have hcur := a_1 hcur s_ hb1; obtain ⟨k0, k1, k2, k3, k4, k5, k6⟩ := a_R hcur; clear hb1))
     all_goals
      (try (have hcr := (by assumption : c' = r); subst c'))
      have hbx := a_5 hcur; have hby := a_9 hbx hbel; have hII := HI.out.below hbx; have HII := a_2 hII; have hHO := a_g hown hbx; have HOwn := a_2 hHO; have hzz := hbx.size; clear hII hHO hcur hown k0 k1 k2 k3 k4 k5 n0 n1 n2 n3 n4 n5
      go_wp2
      go_loop [7, 38] (fun h j => ∃ i : Nat, i ≤ a ∧ j = .int .i64 i ∧ h = .int .i64 (1 + ((st.drop r).take i).foldl max 0)) (fun _ j => a - (intOf j).toNat)
      case atStart => exact ⟨0, o_, rfl, s_⟩
      case round =>
       obtain ⟨i, hia, rfl, rfl⟩ := hrel; have hfb := h_T HSO.out r i
       by_cases hi2 : i < a
       ·rcases (show False ∨ True from by first | (left; omega) | (right; trivial)) with hf | _
        ·exact hf.elim
        rcases HII.out with e | ⟨x, rfl, _, _, hac⟩
        ·rw [e] at hr2; simp at hr2; omega
        have hcell := hac (r + i) o_; rw [← Go.Deep.add_add] at hcell; have hx := k_q HSO.out (r + i) o_; have HF := a_2 (i_A st r i o_); clear hac; generalize st.getD (r + i) 0 = z at *; generalize ((st.drop r).take i).foldl max 0 = y at *
        go_wp2
        all_goals
         go_round
         case rel => exact ⟨i + 1, o_, t_, by rw [HF.out]⟩
         case measure => simp [intOf]; omega
       ·obtain rfl : i = a := by omega
        rw [HT.out] at HST HV2; clear HT; generalize ((st.drop r).take i).foldl max 0 = y at *; have hto := h_H (r := r) HOwn.out o_
        by_cases h64 : 64 < 1 + y
        ·have HE := a_2 (HV2.out h64)
         go_wp2
         go_ret
         exact ⟨by rw [HE.out]; rfl, hby⟩
        ·have HE := a_2 (HST.out o_)
         have hlen : (st.take r ++ [1 + y]).length = r + 1 := by simp; omega
         have hvals : d_T (st.take r ++ [1 + y]) = (d_T st).take r ++ [.int .i64 (1 + y)] := by simp [d_T, List.map_take]
         have HLV := a_2 (And.intro hlen hvals); have HTo := a_2 hto; clear hlen hvals hto
         go_wp2_with (at_builtin; refine wpList_append_own _ rfl _ _ 23 rfl w.heap.size 3 i0 _ 1 8 underlying23 hi hz0 hz1 hz2 rfl d_ _ _ _ rfl (HTo.out.alloc _) ⟨w1.heap.size, 0, none⟩ 1 1 [.int .i64 (1 + y)] rfl rfl (by exact b_3 (heap_alloc_new _ _)) c_ x_ o_ m_ ?_; intro v' w3 hown3 hgrow _)
         obtain ⟨A3, c3, rfl⟩ := a_j hown3; obtain ⟨hlen, hvals⟩ := HLV.out; have hb3 : Below w.heap.size w w3 := (hby.alloc o_ _).grown hgrow n_ (fun k hk => (HTo.out.lt k hk).1); have HO := a_2 (show w3.ownsRow w.heap.size 3 1 (.slice A3 (st.take r ++ [1 + y]).length c3) (st.take r ++ [1 + y]).length (d_T (st.take r ++ [1 + y])) from by rw [hlen, hvals]; exact hown3); have HL := a_2 hlen.symm; clear hown3 hgrow hvals hlen; exact ⟨⟨k + 1, _, A3, c3, by rw [← HL.out], t_, o_, HE, HO.out, hb3⟩, w_⟩
  ·obtain rfl : k = es.length := by omega
   have HE := a_2 (i_n H256.out HR.out)
   by_cases h1 : st.length = 1
   ·have hb1 : ((st.length : Int) != 1) = false := by simp; omega
    rw [if_pos h1] at HE
    go_wp2
    exact q_2
   ·have hb1 : ((st.length : Int) != 1) = true := by simp; omega
    rw [if_neg h1] at HE
    go_wp2
    exact q_2
set_option maxRecDepth 512
theorem bx2 {w w1 : World} {a0 a1 : Value} {t : TypeId} (h : Below (w.heap.size + 1) (w.alloc (.cells #[a0, a1] t)) w1) : w1.cell? ⟨w.heap.size, 0, none⟩ = some a0 ∧ w1.cell? ⟨w.heap.size, 1, none⟩ = some a1 ∧ w.heap.size < w1.heap.size := by
 refine _ai ?_; intro hheap
 exact ⟨a_0 hheap 0, a_0 hheap 1, a_6 hheap⟩
theorem bx3 {w w1 : World} {a0 a1 a2 : Value} {t : TypeId} (h : Below (w.heap.size + 1) (w.alloc (.cells #[a0, a1, a2] t)) w1) : w1.cell? ⟨w.heap.size, 0, none⟩ = some a0 ∧ w1.cell? ⟨w.heap.size, 1, none⟩ = some a1 ∧ w1.cell? ⟨w.heap.size, 2, none⟩ = some a2 ∧ w.heap.size < w1.heap.size := by
 refine _ai ?_; intro hheap
 exact ⟨a_0 hheap 0, a_0 hheap 1, a_0 hheap 2, a_6 hheap⟩
theorem bx7 {w w1 : World} {a0 a1 a2 a3 a4 a5 a6 : Value} {t : TypeId} (h : Below (w.heap.size + 1) (w.alloc (.cells #[a0, a1, a2, a3, a4, a5, a6] t)) w1) : w1.cell? ⟨w.heap.size, 0, none⟩ = some a0 ∧ w1.cell? ⟨w.heap.size, 1, none⟩ = some a1 ∧ w1.cell? ⟨w.heap.size, 2, none⟩ = some a2 ∧ w1.cell? ⟨w.heap.size, 3, none⟩ = some a3 ∧ w1.cell? ⟨w.heap.size, 4, none⟩ = some a4 ∧ w1.cell? ⟨w.heap.size, 5, none⟩ = some a5 ∧ w1.cell? ⟨w.heap.size, 6, none⟩ = some a6 ∧ w.heap.size < w1.heap.size := by
 refine _ai ?_; intro hheap
 exact ⟨a_0 hheap 0, a_0 hheap 1, a_0 hheap 2, a_0 hheap 3, a_0 hheap 4, a_0 hheap 5, a_0 hheap 6, a_6 hheap⟩
theorem bx8 {w w1 : World} {a0 a1 a2 a3 a4 a5 a6 a7 : Value} {t : TypeId} (h : Below (w.heap.size + 1) (w.alloc (.cells #[a0, a1, a2, a3, a4, a5, a6, a7] t)) w1) : w1.cell? ⟨w.heap.size, 0, none⟩ = some a0 ∧ w1.cell? ⟨w.heap.size, 1, none⟩ = some a1 ∧ w1.cell? ⟨w.heap.size, 2, none⟩ = some a2 ∧ w1.cell? ⟨w.heap.size, 3, none⟩ = some a3 ∧ w1.cell? ⟨w.heap.size, 4, none⟩ = some a4 ∧ w1.cell? ⟨w.heap.size, 5, none⟩ = some a5 ∧ w1.cell? ⟨w.heap.size, 6, none⟩ = some a6 ∧ w1.cell? ⟨w.heap.size, 7, none⟩ = some a7 ∧ w.heap.size < w1.heap.size := by
 refine _ai ?_; intro hheap
 exact ⟨a_0 hheap 0, a_0 hheap 1, a_0 hheap 2, a_0 hheap 3, a_0 hheap 4, a_0 hheap 5, a_0 hheap 6, a_0 hheap 7, a_6 hheap⟩
theorem d_k {w w1 : World} {a0 a1 a2 a3 a4 a5 a6 a7 a8 a9 a10 a11 a12 a13 : Value} {t : TypeId} (h : Below (w.heap.size + 1) (w.alloc (.cells #[a0, a1, a2, a3, a4, a5, a6, a7, a8, a9, a10, a11, a12, a13] t)) w1) : w1.cell? ⟨w.heap.size, 0, none⟩ = some a0 ∧ w1.cell? ⟨w.heap.size, 1, none⟩ = some a1 ∧ w1.cell? ⟨w.heap.size, 2, none⟩ = some a2 ∧ w1.cell? ⟨w.heap.size, 3, none⟩ = some a3 ∧ w1.cell? ⟨w.heap.size, 4, none⟩ = some a4 ∧ w1.cell? ⟨w.heap.size, 5, none⟩ = some a5 ∧ w1.cell? ⟨w.heap.size, 6, none⟩ = some a6 ∧ w1.cell? ⟨w.heap.size, 7, none⟩ = some a7 ∧ w1.cell? ⟨w.heap.size, 8, none⟩ = some a8 ∧ w1.cell? ⟨w.heap.size, 9, none⟩ = some a9 ∧ w1.cell? ⟨w.heap.size, 10, none⟩ = some a10 ∧ w1.cell? ⟨w.heap.size, 11, none⟩ = some a11 ∧ w1.cell? ⟨w.heap.size, 12, none⟩ = some a12 ∧ w1.cell? ⟨w.heap.size, 13, none⟩ = some a13 ∧ w.heap.size < w1.heap.size := by
 refine _ai ?_; intro hheap
 exact ⟨a_0 hheap 0, a_0 hheap 1, a_0 hheap 2, a_0 hheap 3, a_0 hheap 4, a_0 hheap 5, a_0 hheap 6, a_0 hheap 7, a_0 hheap 8, a_0 hheap 9, a_0 hheap 10, a_0 hheap 11, a_0 hheap 12, a_0 hheap 13, a_6 hheap⟩
theorem a_K {W : World} {o x : Obj} {k : Nat} (h : W.heap[k]? = some x) : (W.alloc o).heap[k]? = some x := by
 rw [Below.heap_alloc W o k (a_6 h)]; exact h
theorem a_M (W : World) (o : Obj) (k : Nat) (h : k = W.heap.size) : (W.alloc o).heap[k]? = some o := by subst h; exact heap_alloc_new W o
end Go.Proofs.YtnpjibaolicbmaaGreatDoor
