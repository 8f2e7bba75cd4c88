/- Parts of the proof. -/
import Derived.Test.YtmbeeefkpgfgmaaGreatDoorPp10
import Derived.Test.YtmbeeefkpgfgmaaGreatDoorPp11
import Derived.Deep.Slices
import Derived.Laws.Rows
set_option linter.unusedVariables false
set_option linter.unusedSimpArgs false
set_option maxHeartbeats 4000000
namespace Go.Proofs.YtmbeeefkpgfgmaaGreatDoor
open Go.Proofs.Tryz
open Go.RowKit
theorem a_n {w a b : World} (h2 : Below a.heap.size a b) (h1 : Below w.heap.size w a) : Below w.heap.size w b := h1.trans (h2.mono h1.size)
theorem j_X (st : List Int) (r j : Nat) (h : r + j < st.length) : ((st.drop r).take (j + 1)).foldl max 0 = max (((st.drop r).take j).foldl max 0) (st.getD (r + j) 0) := by
 have hj : j < (st.drop r).length := by rw [List.length_drop]; omega
 rw [List.take_succ_eq_append_getElem hj, List.foldl_append]
 simp [List.getD_eq_getElem?_getD, List.getElem?_eq_getElem h]
theorem o_2 {st : List Int} (hs : k_D st) (i : Nat) (h : i < st.length) : 1 ≤ st.getD i 0 ∧ st.getD i 0 ≤ 64 := by
 rw [List.getD_eq_getElem?_getD, List.getElem?_eq_getElem h]
 exact hs _ (List.getElem_mem h)
theorem j_h {st : List Int} (hs : k_D st) (r j : Nat) : 0 ≤ ((st.drop r).take j).foldl max 0 ∧ ((st.drop r).take j).foldl max 0 ≤ 64 :=
 ⟨(e_s _ 0).1, g_L _ 0 64 o_ (fun x hx => (hs x (List.mem_of_mem_drop (List.mem_of_mem_take hx))).2)⟩
set_option maxRecDepth 100000
theorem i_s (A : Option Addr) (st : List Int) (c ar : Nat) (w : World) (h : g_0 w A st) (har : ar ≤ st.length) (hc : st.length ≤ c) (hn : A = none → c = 0) (hs : k_D st) (hl : st.length ≤ 1000000) (hcm : c ≤ maxLen) :
  Calls prog 102 #[.slice A st.length c, .int .i64 ar] w fun e w' => e = .returned (.tuple #[.int .i64 (i_8 st ar), .slice A (st.length - ar : Nat) c]) ∧ ∃ n, w' = w.drewN n := by
 have HI := a_0 h
 have HS := a_0 hs
 unfold maxLen at hcm
 have HT := a_0 (show i_8 st ar = ((st.drop (st.length - ar)).take ar).foldl max 0 + 1 by
  unfold i_8; rw [List.take_of_length_le (by rw [List.length_drop]; omega)])
 have hb := j_h hs (st.length - ar) ar
 obtain ⟨r, hr⟩ : ∃ r, r = st.length - ar := ⟨_, rfl⟩
 have hr2 : st.length = r + ar := by omega
 rw [← hr] at HT hb
 rw [show (st.length - ar : Nat) = r from hr.symm]
 clear h hs hr
 have hsub : (st.length : Int) - (ar : Int) = (r : Int) := by omega
 obtain ⟨n, hnn⟩ : ∃ n, n = st.length := ⟨_, rfl⟩
 have HM := a_0 hnn
 rw [← hnn] at har hc hl hr2 hsub ⊢
 clear hnn
 go_enter func102, ntmps102
 go_wp2
 go_loop [6, 8] (fun h i => ∃ j : Nat, j ≤ ar ∧ i = .int .i64 ((r : Int) + (j : Int)) ∧ h = .int .i64 (((st.drop r).take j).foldl max 0)) (fun _ i => n - (intOf i).toNat)
 case atStart => exact ⟨0, o_, s_, s_⟩
 case round =>
  obtain ⟨j, hj, rfl, rfl⟩ := hrel
  by_cases hlt : j < ar
  ·rcases HI.out with e | ⟨a, rfl, _, _, hac⟩
   ·have := HM.out; rw [e] at this; simp at this; omega
   have hcell := hac (r + j) (by rw [← HM.out]; omega); have hx := o_2 HS.out (r + j) (by rw [← HM.out]; omega); have HF := a_0 (j_X st r j (by rw [← HM.out]; omega)); have hb2 := j_h HS.out r j; clear hac hb; generalize st.getD (r + j) 0 = x at *; generalize ((st.drop r).take j).foldl max 0 = y at *
   go_wp2
   go_round
   case rel => exact ⟨j + 1, o_, m_, by rw [HF.out]⟩
   case measure => simp [intOf]; omega
  ·obtain rfl : j = ar := by omega
   clear hj hlt; generalize ((st.drop r).take j).foldl max 0 = y at *
   cases A with
   | none =>
    obtain rfl := hn rfl; obtain rfl : n = 0 := by omega
    obtain rfl : r = 0 := by omega
    obtain rfl : j = 0 := by omega
    have hw : IntKind.i64.wrap (y + 1) = y + 1 := IntWalk.i64_in _ o_; clear hsub hr2 hc hl har hb hcm HI hn
    go_wp2
    go_big_quiet (fail)
    go_wp2
    exact v_U
   | some a =>
    have c1 : (r : Int) ≤ (c : Int) := by omega
    have c2 : r ≤ c := by omega
    have hw : IntKind.i64.wrap (y + 1) = y + 1 := IntWalk.i64_in _ o_
    go_wp2
    go_big_quiet (fail)
    go_wp2
    exact v_U
set_option maxRecDepth 512
theorem Tryz.info_int : (prog.info? 3).map (fun i => (i.zero, i.size, i.bytes)) = some (some (.int .i64 0), 1, 8) := by kernel_rfl
theorem d_L {W : World} {B : Nat} {a : Value} {t : TypeId} (h : W.heap[B]? = some (.cells #[a] t)) : ∀ (j : Nat) (u : Value), [a][j]? = some u → W.cell? ((⟨B, 0, none⟩ : Addr).add j) = some u := by
 intro j u hu
 have e : (⟨B, 0, none⟩ : Addr).add j = ⟨B, j, none⟩ := by unfold Addr.add; split <;> simp_all
 rw [e, a_2 h]
 simpa using hu
abbrev h_q (st : List Int) : List Value := st.map (Value.int .i64)
theorem l_B {w : World} {base e c : Nat} {A : Option Addr} {st : List Int} (h : w.ownsRow base e 1 (.slice A st.length c) st.length (h_q st)) (hl : st.length ≤ maxLen) : g_0 w A st ∧ st.length ≤ c ∧ (A = none → c = 0) ∧ c ≤ maxLen := by
 rcases h.2 with ⟨hv, hn⟩ | ⟨g, cap, cur, hv, hg, hh, hnc, hcap, hsz, htk⟩
 ·injection hv with h1 h2 h3
  subst h1 h3
  exact ⟨.inl (List.eq_nil_of_length_eq_zero hn), o_, fun _ => rfl, Nat.zero_le _⟩
 ·injection hv with h1 h2 h3
  subst h1 h3
  refine ⟨.inr ⟨⟨g, 0, none⟩, rfl, a_6 hh, hl, fun k hk => ?_⟩, hnc, (fun e => by cases e), hcap⟩
  have e : (⟨g, 0, none⟩ : Addr).add k = ⟨g, k, none⟩ := by unfold Addr.add; split <;> simp_all
  rw [e, World.ownsRow.cellAt h k o_]
  simp [List.getD_eq_getElem?_getD, List.getElem?_eq_getElem hk]
theorem j_a {w : World} {base e c n r : Nat} {A : Option Addr} {xs : List Value} (h : w.ownsRow base e 1 (.slice A n c) n xs) (hr : r ≤ n) : w.ownsRow base e 1 (.slice A r c) r (xs.take r) := by
 refine ⟨by rw [List.length_take, h.1]; omega, ?_⟩
 rcases h.2 with ⟨hv, hn⟩ | ⟨g, cap, cur, hv, hg, hh, hnc, hcap, hsz, htk⟩
 ·injection hv with h1 h2 h3
  subst h1 h3
  left
  have : r = 0 := by omega
  subst this
  exact ⟨rfl, rfl⟩
 ·injection hv with h1 h2 h3
  subst h1 h3
  right
  refine ⟨g, c, cur, rfl, hg, hh, o_, hcap, hsz, ?_⟩
  rw [← htk, List.take_take]
  congr 1; omega
def b_9 (es : List Nd) : Prop := ∀ n ∈ es, n.name.length ≤ maxLen
def e_i (es : List Nd) (k : Nat) (st : List Int) : Prop := j_C (es.take k) [] = .ok st
theorem e_i.facts {es : List Nd} {k : Nat} {st : List Int} (h : e_i es k st) (hk : k ≤ es.length) : k_D st ∧ st.length ≤ k := by
 obtain ⟨a, b⟩ := m_4 _ _ _ h (fun x hx => by cases hx)
 refine ⟨a, ?_⟩
 rw [List.length_take] at b
 simp at b; omega
theorem k_v {es : List Nd} {st : List Int} (h256 : ¬ 256 < es.length) (h : e_i es es.length st) : a_x es = if st.length = 1 then 0 else 8 := by
 unfold e_i at h
 rw [List.take_length] at h
 unfold a_x
 rw [if_neg h256, h]
theorem m_Q {es : List Nd} {k : Nat} {st : List Int} {x : Int} (h256 : ¬ 256 < es.length) (h : e_i es k st) (hk : k < es.length) (hf : d_Y es[k] st = .error x) : a_x es = x := by
 have h2 : j_C es [] = .error x := m_r (k := k + 1) (by rw [j_O h hk]; exact hf)
 unfold a_x
 rw [if_neg h256, h2]
theorem e_i.step {es : List Nd} {k : Nat} {st st' : List Int} (h : e_i es k st) (hk : k < es.length) (hf : d_Y es[k] st = .ok st') : e_i es (k + 1) st' := by
 unfold e_i
 rw [j_O h hk]; exact hf
theorem e_V {n : Nd} {st : List Int} (h : n.ok = false ∨ (st.length : Int) < n.ar) : d_Y n st = .error 8 := by unfold d_Y; rw [if_pos h]
theorem k_h {n : Nd} {st : List Int} (h : n.ok = true) (h2 : ¬ (st.length : Int) < n.ar) (h3 : 64 < i_8 st n.ar.toNat) : d_Y n st = .error 2 := by unfold d_Y; rw [if_neg (by simp [h]; omega), if_pos h3]
theorem k_i {n : Nd} {st : List Int} (h : n.ok = true) (h2 : ¬ (st.length : Int) < n.ar) (h3 : ¬ 64 < i_8 st n.ar.toNat) : d_Y n st = .ok (st.take (st.length - n.ar.toNat) ++ [i_8 st n.ar.toNat]) := by unfold d_Y; rw [if_neg (by simp [h]; omega), if_neg h3]
set_option maxRecDepth 100000
theorem c_O (A : Option Addr) (es : List Nd) (c : Nat) (w : World) (h : c_L w A es) (hl : es.length ≤ 1000000) (hx : b_9 es) :
  Calls prog 61 #[.slice A es.length c] w fun e w' => e = .returned (.int .i64 (a_x es)) ∧ Below w.heap.size w w' := by
 have HA := a_0 h; have HX := a_0 hx
 clear h hx
 by_cases h256 : 256 < es.length
 ·have HE := a_0 (show a_x es = 2 by unfold a_x; rw [if_pos h256])
  go_enter func61, ntmps61
  go_wp2
  go_ret
  exact ⟨by rw [HE.out]; rfl, zX⟩
 have H256 := a_0 h256
 obtain ⟨i0, hi, hz0, hz1, hz2⟩ := info_parts Tryz.info_int
 go_enter func61, ntmps61
 go_wp2
 go_loopw [3, 4] (fun s i wr => ∃ (k : Nat) (st : List Int) (A' : Option Addr) (c' : Nat), s = .slice A' st.length c' ∧ i = .int .i64 k ∧ k ≤ es.length ∧ Hid (e_i es k st) ∧
   wr.ownsRow w.heap.size 3 1 (.slice A' st.length c') st.length (h_q st) ∧ Below w.heap.size w wr) (fun _ i _ => es.length - (intOf i).toNat)
 case atStart => exact ⟨0, [], none, 0, rfl, rfl, o_, rfl, a_o _ _ _ _, b_ _ _⟩
 case round =>
  obtain ⟨k, st, A', c', rfl, rfl, hk, HR, hown, hbel⟩ := hrel
  obtain ⟨hso, hsl⟩ := HR.out.facts hk
  have HSO := a_0 hso
  clear hso
  have hsz := hbel.size
  by_cases hlt : k < es.length
  ·rcases HA.out.below hbel with e | ⟨g, off, rfl, hg, hc⟩
   ·exact absurd hlt e_
   refine v_v ?_; intro HN; have HF := a_0 (fun W => h_h es[k].op es[k].val.kind es[k].val.num es[k].arity ⟨es[k].val.text.toArray⟩ ⟨es[k].name.toArray⟩ W (by show es[k].name.toArray.size ≤ _; have := HX.out _ (List.getElem_mem hlt); simpa using this)); have HAr := a_0 (fun W => d_G es[k].op es[k].val.kind es[k].val.num es[k].arity ⟨es[k].val.text.toArray⟩ ⟨es[k].name.toArray⟩ W); refine w_1 ?_; intro HV HS; clear hc; obtain ⟨n, hn⟩ : ∃ n, n = es[k] := ⟨_, rfl⟩; rw [← hn] at HN HF HAr HV HS; clear hn; obtain ⟨n0, n1, n2, n3, n4, n5⟩ := HN.out wr (b_ _ _); have hok1 : a_L n.op n.val.kind n.val.num (bs ⟨n.val.text.toArray⟩) (bs ⟨n.name.toArray⟩) n.arity = n.ok := rfl
   cases hok : n.ok
   ·have HE := a_0 (HV.out 8 (e_V (.inl hok)))
    rw [hok] at hok1; have HF1 := a_0 (fun W => by have := HF.out W; rw [hok1] at this; exact this); clear hok hok1
    go_wp2_with (go_at_call 100; refine (HF1.out _).mono ?_; rintro e w1 ⟨rfl, hb1⟩)
    go_ret
    exact ⟨by rw [HE.out]; rfl, a_n hb1 hbel⟩
   ·rw [hok] at hok1
    have HF1 := a_0 (fun W => by have := HF.out W; rw [hok1] at this; exact this); obtain ⟨ha0, ha8⟩ := j_W hok; obtain ⟨a, ha⟩ : ∃ a : Nat, n.ar = a := ⟨n.ar.toNat, o_⟩; have ha1 : c_B n.op n.arity = (a : Int) := ha; have HA1 := a_0 (fun W => by have := HAr.out W; rw [ha1] at this; exact this)
    by_cases hlt2 : st.length < a
    ·have HE := a_0 (HV.out 8 (e_V (.inr (by rw [ha]; omega))))
     clear hok hok1 ha ha0 ha8 ha1
     go_wp2_with (first
      | (go_at_call 100; refine (HF1.out _).mono ?_; rintro e w1 ⟨rfl, hb1⟩; obtain ⟨m0, m1, m2, m3, m4, m5⟩ := HN.out _ hb1)
      | (go_at_call 101; refine (HA1.out _).mono ?_; rintro e w2 ⟨rfl, hb2⟩))
     go_ret
     exact ⟨by rw [HE.out]; rfl, a_n hb2 (a_n hb1 hbel)⟩
    ·obtain ⟨hI, hcc, hcn, hcm⟩ := l_B hown x_
     have HI := a_0 hI; have HCN := a_0 hcn; have HCM := a_0 hcm
     have hb64 : i_8 st a ≤ 65 := by
      have := j_h HSO.out (st.length - a) st.length; rw [List.take_of_length_le (by rw [List.length_drop]; omega)] at this; unfold i_8; omega
     have hp64 := l_S st a; clear hI hcn hcm; have HRa := a_0 (fun W (hW : Below wr.heap.size wr W) => i_s A' st c' a W (HI.out.below hW) o_ hcc HCN.out HSO.out o_ HCM.out)
     by_cases h64 : 64 < i_8 st a
     ·have HE := a_0 (HV.out 2 (k_h hok (by rw [ha]; omega) (by rw [ha]; simpa using h64)))
      clear hok hok1 ha ha0 ha8 ha1; generalize i_8 st a = y at *
      go_wp2_with (first
       | (go_at_call 100; refine (HF1.out _).mono ?_; rintro e w1 ⟨rfl, hb1⟩; obtain ⟨m0, m1, m2, m3, m4, m5⟩ := HN.out _ hb1)
       | (go_at_call 101; refine (HA1.out _).mono ?_; rintro e w1 ⟨rfl, hb2⟩; have hb1 := a_n hb2 hb1; obtain ⟨m0, m1, m2, m3, m4, m5⟩ := HN.out _ hb1; clear hb2)
       | (go_at_call 102; refine (HRa.out _ hb1).mono ?_; rintro e w1 ⟨rfl, q, rfl⟩))
      go_ret
      exact ⟨by rw [HE.out]; rfl, a_f (a_n hb1 hbel) _⟩
     ·have HE := a_0 (HS.out _ (k_i hok (by rw [ha]; omega) (by rw [ha]; simpa using h64)))
      rw [ha, Int.toNat_natCast] at HE; clear hok hok1 ha ha0 ha8 ha1; generalize i_8 st a = y at *
      go_wp2_with (first
       | (go_at_call 100; refine (HF1.out _).mono ?_; rintro e w1 ⟨rfl, hb1⟩; obtain ⟨m0, m1, m2, m3, m4, m5⟩ := HN.out _ hb1)
       | (go_at_call 101; refine (HA1.out _).mono ?_; rintro e w1 ⟨rfl, hb2⟩; have hb1 := a_n hb2 hb1; obtain ⟨m0, m1, m2, m3, m4, m5⟩ := HN.out _ hb1; clear hb2)
       | (go_at_call 102; refine (HRa.out _ hb1).mono ?_; rintro e w2 ⟨rfl, q, rfl⟩)
       | (at_builtin; refine wpList_append_own _ rfl _ _ 28 rfl w.heap.size 3 i0 _ 1 8 underlying28 hi hz0 hz1 hz2 rfl d_ _ _ _ rfl (j_a (a_8 hown (a_f hb1 q)) (Nat.sub_le _ a) |>.alloc _) ⟨(w1.drewN q).heap.size, 0, none⟩ 1 1 [.int .i64 y] rfl rfl (by exact d_L (heap_alloc_new _ _)) c_ x_ o_ (by have := hb1.size; simp; omega) ?_; intro v' w3 hown3 hgrow _))
      obtain ⟨A3, c3, rfl⟩ := a_i hown3; have hlen : (st.take (st.length - a) ++ [y]).length = st.length - a + 1 := by simp
      have hvals : h_q (st.take (st.length - a) ++ [y]) = (h_q st).take (st.length - a) ++ [.int .i64 y] := by simp [h_q, List.map_take]
      have hb3 : Below w.heap.size w w3 := ((a_n (a_f hb1 q) hbel).alloc (by have := hb1.size; show _ ≤ (w1.drewN q).heap.size; exact Nat.le_trans hsz this) _).grown hgrow (by have := hb1.size; first | (simp; done) | (simp; omega)) (fun k hk => ((j_a (a_8 hown (a_f hb1 q)) (Nat.sub_le st.length a)).lt k hk).1); have HO := a_0 (show w3.ownsRow w.heap.size 3 1 (.slice A3 (st.take (st.length - a) ++ [y]).length c3) (st.take (st.length - a) ++ [y]).length (h_q (st.take (st.length - a) ++ [y])) from by rw [hlen, hvals]; exact hown3); have HL := a_0 hlen.symm; clear hown3 hgrow hvals hlen hown
      go_wp2
      exact ⟨⟨k + 1, _, A3, c3, by rw [← HL.out], t_, o_, HE, HO.out, hb3⟩, w_⟩
  ·obtain rfl : k = es.length := by omega
   have HE := a_0 (k_v H256.out HR.out)
   by_cases h1 : st.length = 1
   ·have hb1 : ((st.length : Int) != 1) = false := by simp; omega
    rw [if_pos h1] at HE
    go_wp2
    exact _at
   ·have hb1 : ((st.length : Int) != 1) = true := by simp; omega
    rw [if_neg h1] at HE
    go_wp2
    exact _at
set_option maxRecDepth 512
theorem r_0 (st : List Int) (a : Nat) (ha : a ≤ st.length) : i_8 st a = 1 + ((st.drop (st.length - a)).take a).foldl max 0 := by
 unfold i_8
 rw [List.take_of_length_le (by rw [List.length_drop]; omega)]; omega
set_option maxRecDepth 100000
theorem c_R (A : Option Addr) (es : List Nd) (c : Nat) (w : World) (hW : a_X w 2 a_J) (h : c_L w A es) (hl : es.length ≤ 1000000) (hx : b_9 es) :
  Calls prog 45 #[.slice A es.length c] w fun e w' => e = .returned (.int .i64 (a_x es)) ∧ Below w.heap.size w w' := by
 have HA := a_0 h; have HX := a_0 hx; have HW := a_0 hW
 clear h hx hW
 by_cases h256 : 256 < es.length
 ·have HE := a_0 (show a_x es = 2 by unfold a_x; rw [if_pos h256])
  go_enter func45, ntmps45
  go_wp2
  go_ret
  exact ⟨by rw [HE.out]; rfl, zX⟩
 have H256 := a_0 h256
 obtain ⟨i0, hi, hz0, hz1, hz2⟩ := info_parts Tryz.info_int
 go_enter func45, ntmps45
 go_wp2
 go_loopw [3, 15] (fun s i wr => ∃ (k : Nat) (st : List Int) (A' : Option Addr) (c' : Nat), s = .slice A' st.length c' ∧ i = .int .i64 k ∧ k ≤ es.length ∧ Hid (e_i es k st) ∧
   wr.ownsRow w.heap.size 3 1 (.slice A' st.length c') st.length (h_q st) ∧ Below w.heap.size w wr) (fun _ i _ => es.length - (intOf i).toNat)
 case atStart => exact ⟨0, [], none, 0, rfl, rfl, o_, rfl, a_o _ _ _ _, b_ _ _⟩
 case round =>
  obtain ⟨k, st, A', c', rfl, rfl, hk, HR, hown, hbel⟩ := hrel
  obtain ⟨hso, hsl⟩ := HR.out.facts hk
  have HSO := a_0 hso
  clear hso
  have hsz := hbel.size
  by_cases hlt : k < es.length
  ·rcases HA.out.below hbel with e | ⟨g, off, rfl, hg, hc⟩
   ·exact absurd hlt e_
   refine v_v ?_; intro HN; have HF := a_0 (fun W (hW : Below w.heap.size w W) => h_H es[k].op es[k].val.kind es[k].val.num es[k].arity ⟨es[k].val.text.toArray⟩ ⟨es[k].name.toArray⟩ W (HW.out.below hW) (by show es[k].name.toArray.size ≤ _; have := HX.out _ (List.getElem_mem hlt); simpa using this)); have HAr := a_0 (fun W => b_N es[k].op es[k].val.kind es[k].val.num es[k].arity ⟨es[k].val.text.toArray⟩ ⟨es[k].name.toArray⟩ W); refine w_1 ?_; intro HV HS; clear hc; obtain ⟨n, hn⟩ : ∃ n, n = es[k] := ⟨_, rfl⟩; rw [← hn] at HN HF HAr HV HS; clear hn; obtain ⟨n0, n1, n2, n3, n4, n5⟩ := HN.out wr (b_ _ _); have hok1 : a_L n.op n.val.kind n.val.num (bs ⟨n.val.text.toArray⟩) (bs ⟨n.name.toArray⟩) n.arity = n.ok := rfl; have hcur := b_ (wr.heap.size + 1) (wr.alloc (i_b n.op n.val.kind n.val.num ⟨n.val.text.toArray⟩ ⟨n.name.toArray⟩ n.arity))
   cases hok : n.ok
   ·have HE := a_0 (HV.out 8 (e_V (.inl hok)))
    rw [hok] at hok1; have HF1 := a_0 (fun W hW => by have := HF.out W hW; rw [hok1] at this; exact this); clear hok hok1
    go_wp2_with (go_at_call 91; refine (HF1.out _ (a_n (a_5 hcur) hbel)).mono ?_; rintro e w1 ⟨rfl, hb1⟩; have hcur := a_4 hcur s_ hb1)
    go_ret
    exact ⟨by rw [HE.out]; rfl, a_n (a_5 hcur) hbel⟩
   ·rw [hok] at hok1
    have HF1 := a_0 (fun W hW => by have := HF.out W hW; rw [hok1] at this; exact this); obtain ⟨ha0, ha8⟩ := j_W hok; obtain ⟨a, ha⟩ : ∃ a : Nat, n.ar = a := ⟨n.ar.toNat, o_⟩; have ha1 : c_B n.op n.arity = (a : Int) := ha; have HA1 := a_0 (fun W => by have := HAr.out W; rw [ha1] at this; exact this)
    by_cases hlt2 : st.length < a
    ·have HE := a_0 (HV.out 8 (e_V (.inr (by rw [ha]; omega))))
     clear hok hok1 ha ha0 ha8 ha1
     go_wp2_with (first
      | (go_at_call 91; refine (HF1.out _ (a_n (a_5 hcur) hbel)).mono ?_; rintro e w1 ⟨rfl, hb1⟩; have hcur := a_4 hcur s_ hb1; obtain ⟨k0, k1, k2, k3, k4, k5, k6⟩ := b_k hcur; clear hb1)
      | (go_at_call 92; refine (HA1.out _).mono ?_; rintro e w1 ⟨rfl, hb1⟩; have hcur := a_4 hcur s_ hb1; obtain ⟨k0, k1, k2, k3, k4, k5, k6⟩ := b_k hcur; clear hb1))
     go_ret
     exact ⟨by rw [HE.out]; rfl, a_n (a_5 hcur) hbel⟩
    ·obtain ⟨hI, hcc, hcn, hcm⟩ := l_B hown x_
     have HI := a_0 hI; have HCN := a_0 hcn; have HCM := a_0 hcm; unfold maxLen at hcm; obtain ⟨r, hr⟩ : ∃ r, r = st.length - a := ⟨_, rfl⟩; have hr2 : st.length = r + a := by omega
     have hsub : (st.length : Int) - (a : Int) = (r : Int) := by omega
     have HT := a_0 (r_0 st a o_); rw [← hr] at HT; have HST := a_0 (fun (h3 : ¬ 64 < i_8 st a) => HS.out _ (k_i hok (by rw [ha]; omega) (by rw [ha, Int.toNat_natCast]; exact h3))); rw [ha, Int.toNat_natCast, ← hr] at HST; have HV2 := a_0 (fun (h3 : 64 < i_8 st a) => HV.out 2 (k_h hok (by rw [ha]; omega) (by rw [ha, Int.toNat_natCast]; exact h3))); clear hI hcn hok hok1 ha ha0 ha8 ha1 hr HAr HF
     go_wp2_with (first
      | (go_at_call 91; refine (HF1.out _ (a_n (a_5 hcur) hbel)).mono ?_; rintro e w1 ⟨rfl, hb1⟩; have hcur := a_4 hcur s_ hb1; obtain ⟨k0, k1, k2, k3, k4, k5, k6⟩ := b_k hcur; clear hb1)
      | (go_at_call 92; refine (HA1.out _).mono ?_; rintro e w1 ⟨rfl, hb1⟩; have hcur := a_4 hcur s_ hb1; obtain ⟨k0, k1, k2, k3, k4, k5, k6⟩ := b_k hcur; clear hb1))
     all_goals
      (try (have hcr := (by assumption : c' = r); subst c'))
      have hbx := a_5 hcur; have hby := a_n hbx hbel; have hII := HI.out.below hbx; have HII := a_0 hII; have hHO := a_8 hown hbx; have HOwn := a_0 hHO; have hzz := hbx.size; clear hII hHO hcur hown k0 k1 k2 k3 k4 k5 n0 n1 n2 n3 n4 n5
      go_wp2
      go_loop [7, 38] (fun h j => ∃ i : Nat, i ≤ a ∧ j = .int .i64 i ∧ h = .int .i64 (1 + ((st.drop r).take i).foldl max 0)) (fun _ j => a - (intOf j).toNat)
      case atStart => exact ⟨0, o_, rfl, s_⟩
      case round =>
       obtain ⟨i, hia, rfl, rfl⟩ := hrel; have hfb := j_h HSO.out r i
       by_cases hi2 : i < a
       ·rcases (show False ∨ True from by first | (left; omega) | (right; trivial)) with hf | _
        ·exact hf.elim
        rcases HII.out with e | ⟨x, rfl, _, _, hac⟩
        ·rw [e] at hr2; simp at hr2; omega
        have hcell := hac (r + i) o_; rw [← Go.Deep.add_add] at hcell; have hx := o_2 HSO.out (r + i) o_; have HF := a_0 (j_X st r i o_); clear hac; generalize st.getD (r + i) 0 = z at *; generalize ((st.drop r).take i).foldl max 0 = y at *
        go_wp2
        all_goals
         go_round
         case rel => exact ⟨i + 1, o_, t_, by rw [HF.out]⟩
         case measure => simp [intOf]; omega
       ·obtain rfl : i = a := by omega
        rw [HT.out] at HST HV2; clear HT; generalize ((st.drop r).take i).foldl max 0 = y at *; have hto := j_a (r := r) HOwn.out o_
        by_cases h64 : 64 < 1 + y
        ·have HE := a_0 (HV2.out h64)
         go_wp2
         go_ret
         exact ⟨by rw [HE.out]; rfl, hby⟩
        ·have HE := a_0 (HST.out o_)
         have hlen : (st.take r ++ [1 + y]).length = r + 1 := by simp; omega
         have hvals : h_q (st.take r ++ [1 + y]) = (h_q st).take r ++ [.int .i64 (1 + y)] := by simp [h_q, List.map_take]
         have HLV := a_0 (And.intro hlen hvals); have HTo := a_0 hto; clear hlen hvals hto
         go_wp2_with (at_builtin; refine wpList_append_own _ rfl _ _ 28 rfl w.heap.size 3 i0 _ 1 8 underlying28 hi hz0 hz1 hz2 rfl d_ _ _ _ rfl (HTo.out.alloc _) ⟨w1.heap.size, 0, none⟩ 1 1 [.int .i64 (1 + y)] rfl rfl (by exact d_L (heap_alloc_new _ _)) c_ x_ o_ m_ ?_; intro v' w3 hown3 hgrow _)
         obtain ⟨A3, c3, rfl⟩ := a_i hown3; obtain ⟨hlen, hvals⟩ := HLV.out; have hb3 : Below w.heap.size w w3 := (hby.alloc o_ _).grown hgrow n_ (fun k hk => (HTo.out.lt k hk).1); have HO := a_0 (show w3.ownsRow w.heap.size 3 1 (.slice A3 (st.take r ++ [1 + y]).length c3) (st.take r ++ [1 + y]).length (h_q (st.take r ++ [1 + y])) from by rw [hlen, hvals]; exact hown3); have HL := a_0 hlen.symm; clear hown3 hgrow hvals hlen; exact ⟨⟨k + 1, _, A3, c3, by rw [← HL.out], t_, o_, HE, HO.out, hb3⟩, w_⟩
  ·obtain rfl : k = es.length := by omega
   have HE := a_0 (k_v H256.out HR.out)
   by_cases h1 : st.length = 1
   ·have hb1 : ((st.length : Int) != 1) = false := by simp; omega
    rw [if_pos h1] at HE
    go_wp2
    exact _at
   ·have hb1 : ((st.length : Int) != 1) = true := by simp; omega
    rw [if_neg h1] at HE
    go_wp2
    exact _at
set_option maxRecDepth 512
theorem r_Q (i : Int) : bits .and .i64 i 31 = i % 32 := by
 show IntKind.i64.wrap ((BitVec.ofInt 64 i &&& BitVec.ofInt 64 31).toNat : Int) = _
 have h : (BitVec.ofInt 64 (31 : Int)).toNat = 2 ^ 5 - 1 := by decide
 rw [BitVec.toNat_and, h, Nat.and_two_pow_sub_one_eq_mod, IntKind.wrap_i64]
 simp only [BitVec.toNat_ofInt]
 omega
def k_M (w w' : World) (es : List Nd) (e : Ending) : Prop :=
 ∃ (A : Option Addr) (c : Nat), e = .returned (.slice A es.length c) ∧ w'.ownsRow w.heap.size 116 6 (.slice A es.length c) es.length (a_a es)
theorem d_o (w : World) {base e size n : Nat} {cur : Array Value} (hb : base ≤ w.heap.size) (hs : cur.size = n * size) (hm : n ≤ maxLen) :
  (w.alloc (.cells cur e)).ownsRow base e size (.slice (some ⟨w.heap.size, 0, none⟩) n n) n cur.toList :=
 ⟨by simpa using hs, .inr ⟨w.heap.size, n, cur, rfl, hb, heap_alloc_new w _, l_ _, hm, hs, by rw [List.take_of_length_le (by simp [hs])]⟩⟩
structure Col where
 name : a_3
 kind : Int
 null : Bool
def u_Z (w : World) (g off : Nat) (c : Col) : Prop := w.cell? ⟨g, off, none⟩ = some (str c.name) ∧ w.cell? ⟨g, off + 1, none⟩ = some (.int .i64 c.kind) ∧ w.cell? ⟨g, off + 2, none⟩ = some (.bool c.null)
def n_h (w : World) (A : Option Addr) (cs : List Col) : Prop :=
 cs = [] ∨ ∃ g off, A = some ⟨g, off, none⟩ ∧ g < w.heap.size ∧ ∀ i (h : i < cs.length), u_Z w g (off + i * 3) cs[i]
theorem n_h.below {w w' : World} {A : Option Addr} {cs : List Col} (h : n_h w A cs) (hb : Below w.heap.size w w') : n_h w' A cs := by
 rcases h with h | ⟨g, off, hA, hg, hc⟩
 ·exact .inl h
 ·refine .inr ⟨g, off, hA, Nat.lt_of_lt_of_le hg hb.size, fun i hi => ?_⟩
  obtain ⟨h1, h2, h3⟩ := hc i hi
  exact ⟨(hb.cell (p := ⟨g, _, none⟩) hg).trans h1, (hb.cell (p := ⟨g, _, none⟩) hg).trans h2, (hb.cell (p := ⟨g, _, none⟩) hg).trans h3⟩
theorem a_Z {w : World} {base b2 e size n : Nat} {v : Value} {xs : List Value} (h : w.ownsRow base e size v n xs) (hb : b2 ≤ base) : w.ownsRow b2 e size v n xs :=
 ⟨h.1, h.2.elim .inl fun ⟨g, cap, cur, a, b, r⟩ => .inr ⟨g, cap, cur, a, Nat.le_trans hb b, r⟩⟩
theorem Tryz.info_nd : (prog.info? 116).map (fun i => (i.zero, i.size, i.bytes)) = some (some (.agg #[.int .i64 0, .int .i64 0, .int .i64 0, .string ⟨#[]⟩, .string ⟨#[]⟩, .int .i64 0]), 6, 64) := by kernel_rfl
theorem e_d : ∀ (es : List Nd), ∀ u ∈ a_a es, u.oneCell' = true
 | [], u, h => by cases h
 | n :: es, u, h => by
  rw [show a_a (n :: es) = n.cells ++ a_a es from rfl] at h
  rcases List.mem_append.1 h with h | h
  ·simp [Nd.cells] at h
   rcases h with rfl | rfl | rfl | rfl | rfl | rfl <;> rfl
  ·exact e_d es u h
theorem b_h {W : World} {B : Nat} {a b c d e f : Value} {t : TypeId} (h : W.heap[B]? = some (.cells #[a, b, c, d, e, f] t)) : ∀ (j : Nat) (u : Value), [a, b, c, d, e, f][j]? = some u → W.cell? ((⟨B, 0, none⟩ : Addr).add j) = some u := by
 intro j u hu
 have e : (⟨B, 0, none⟩ : Addr).add j = ⟨B, j, none⟩ := by unfold Addr.add; split <;> simp_all
 rw [e, a_2 h]
 simpa using hu
structure Opd where
 A : Option Addr
 es : List Nd
 c : Nat
def r_y (w : World) (g off : Nat) (os : List Opd) : Prop := g < w.heap.size ∧ ∀ i (h : i < os.length), w.cell? ⟨g, off + i, none⟩ = some (.slice os[i].A os[i].es.length os[i].c) ∧ c_L w os[i].A os[i].es ∧ os[i].es ≠ [] ∧ os[i].es.length ≤ 10000
theorem r_y.below {w w' : World} {g off : Nat} {os : List Opd} (h : r_y w g off os) (hb : Below w.heap.size w w') : r_y w' g off os :=
 ⟨Nat.lt_of_lt_of_le h.1 hb.size, fun i hi => by
  obtain ⟨h1, h2, h3, h4⟩ := h.2 i hi
  exact ⟨(hb.cell (p := ⟨g, _, none⟩) h.1).trans h1, h2.below hb, h3, h4⟩⟩
theorem b_v (a b : List Nd) : a_a (a ++ b) = a_a a ++ a_a b := by simp [a_a]
theorem p_A {es : List Nd} (h : a_x es = 0) : es.length ≤ 256 := by
 unfold a_x at h
 split at h <;> omega
theorem i_5 {W : World} {o : Obj} {B : Nat} (h : W.heap.size = B) : (W.alloc o).heap[B]? = some o := by subst h; exact heap_alloc_new W o
theorem f_z (w : World) (o1 o2 : Obj) : ((w.alloc o1).alloc o2).heap[w.heap.size]? = some o1 ∧ ((w.alloc o1).alloc o2).heap[w.heap.size + 1]? = some o2 :=
 ⟨((Below.alloc (b_ _ (w.alloc o1)) (l_ _) o2).block _ s_).trans (heap_alloc_new w o1), i_5 s_⟩
theorem f_h (w : World) (o1 o2 o3 : Obj) : (((w.alloc o1).alloc o2).alloc o3).heap[w.heap.size]? = some o1 ∧ (((w.alloc o1).alloc o2).alloc o3).heap[w.heap.size + 1]? = some o2 ∧ (((w.alloc o1).alloc o2).alloc o3).heap[w.heap.size + 2]? = some o3 :=
 ⟨((Below.alloc (b_ _ ((w.alloc o1).alloc o2)) (l_ _) o3).block _ m_).trans (f_z w o1 o2).1, ((Below.alloc (b_ _ ((w.alloc o1).alloc o2)) (l_ _) o3).block _ s_).trans (f_z w o1 o2).2, i_5 s_⟩
def t_H (w : World) (S : Option Addr) (m : Nat) : Prop :=
 m = 0 ∨ ∃ g off, S = some ⟨g, off, none⟩ ∧ g < w.heap.size ∧ ∀ i, i < m → ∃ a b : Int, w.cell? ⟨g, off + i * 2, none⟩ = some (.int .i64 a) ∧ w.cell? ⟨g, off + i * 2 + 1, none⟩ = some (.int .i64 b)
theorem t_H.below {w w' : World} {S : Option Addr} {m : Nat} (h : t_H w S m) (hb : Below w.heap.size w w') : t_H w' S m := by
 rcases h with h | ⟨g, off, hA, hg, hc⟩
 ·exact .inl h
 ·refine .inr ⟨g, off, hA, Nat.lt_of_lt_of_le hg hb.size, fun i hi => ?_⟩
  obtain ⟨a, b, h1, h2⟩ := hc i hi
  exact ⟨a, b, (hb.cell (p := ⟨g, _, none⟩) hg).trans h1, (hb.cell (p := ⟨g, _, none⟩) hg).trans h2⟩
def l_2 (w : World) (Z : Option Addr) (m : Nat) : Prop :=
 m = 0 ∨ ∃ g off, Z = some ⟨g, off, none⟩ ∧ g < w.heap.size ∧ ∀ i, i < m → ∃ (nm : a_3) (o : Int) (S : Option Addr) (sm sc : Nat),
  w.cell? ⟨g, off + i * 3, none⟩ = some (str nm) ∧ w.cell? ⟨g, off + i * 3 + 1, none⟩ = some (.int .i64 o) ∧ w.cell? ⟨g, off + i * 3 + 2, none⟩ = some (.slice S sm sc) ∧ t_H w S sm ∧ sm ≤ 1000000
theorem l_2.below {w w' : World} {Z : Option Addr} {m : Nat} (h : l_2 w Z m) (hb : Below w.heap.size w w') : l_2 w' Z m := by
 rcases h with h | ⟨g, off, hA, hg, hc⟩
 ·exact .inl h
 ·refine .inr ⟨g, off, hA, Nat.lt_of_lt_of_le hg hb.size, fun i hi => ?_⟩
  obtain ⟨nm, o, S, sm, sc, h1, h2, h3, h4, h5⟩ := hc i hi
  exact ⟨nm, o, S, sm, sc, (hb.cell (p := ⟨g, _, none⟩) hg).trans h1, (hb.cell (p := ⟨g, _, none⟩) hg).trans h2, (hb.cell (p := ⟨g, _, none⟩) hg).trans h3, h4.below hb, h5⟩
def r_E (w : World) (X : Option Addr) (m : Nat) : Prop :=
 m = 0 ∨ ∃ g off, X = some ⟨g, off, none⟩ ∧ g < w.heap.size ∧ ∀ i, i < m → ∃ (k : Int) (b : Bool), w.cell? ⟨g, off + i * 2, none⟩ = some (.int .i64 k) ∧ w.cell? ⟨g, off + i * 2 + 1, none⟩ = some (.bool b)
theorem r_E.below {w w' : World} {X : Option Addr} {m : Nat} (h : r_E w X m) (hb : Below w.heap.size w w') : r_E w' X m := by
 rcases h with h | ⟨g, off, hA, hg, hc⟩
 ·exact .inl h
 ·refine .inr ⟨g, off, hA, Nat.lt_of_lt_of_le hg hb.size, fun i hi => ?_⟩
  obtain ⟨k, b, h1, h2⟩ := hc i hi
  exact ⟨k, b, (hb.cell (p := ⟨g, _, none⟩) hg).trans h1, (hb.cell (p := ⟨g, _, none⟩) hg).trans h2⟩
end Go.Proofs.YtmbeeefkpgfgmaaGreatDoor
