/- Parts of the proof. -/
import Derived.Test.YtmbeeefkpgfgmaaGreatDoorPp04
import Derived.Test.YtmbeeefkpgfgmaaGreatDoorPp08
import Derived.Deep.RegionHeld3
import Derived.Maps.Own
import Derived.Maps.OwnOps
import Derived.Maps.OwnSet
set_option linter.unusedVariables false
set_option linter.unusedSimpArgs false
set_option maxHeartbeats 4000000
namespace Go.Proofs.YtmbeeefkpgfgmaaGreatDoor
open Go.Proofs.Tryz
section
open Go.RowKit
theorem o_6 (ls : List a_3) (j : Nat) (h : j < ls.length) : (ls.map fun l => (⟨l.toArray⟩ : ByteArray)).getD j ByteArray.empty = ⟨(ls.getD j []).toArray⟩ := by
 simp [List.getD_eq_getElem?_getD, h]
theorem g_A (b off cp : Nat) (ls : List a_3) (x : ByteArray) (w : World) (hn : ls.length ≤ 9223372036854775807) (hc : ∀ j, j < ls.length → w.cell? ⟨b, off + j, none⟩ = some (str (ls.getD j []))) :
  Calls prog 68 #[.slice (some ⟨b, off, none⟩) ls.length cp, .string x] w fun e w' => e = .returned (.bool (k_N ls (bs x))) ∧ w = w' := by
 refine (Tryz.slices_Contains_string b off ls.length cp (ls.map fun l => ⟨l.toArray⟩) x w s_ hn (fun j hj => ?_)).mono fun e w' ⟨h1, h2⟩ => ⟨?_, h2.symm⟩
 ·have hj' : j < ls.length := by simpa using hj
  rw [hc j hj', o_6 ls j hj']
 ·rw [h1, List.take_of_length_le s_, f_V]
theorem o_a (x : a_3) (n : Int) : c_i 0 x n = (x.isEmpty && n == 0) := rfl
theorem j_7 (x : a_3) (n : Int) : c_i 1 x n = (a_K 24 x && n == 0) := rfl
theorem k_U (x : a_3) (n : Int) : c_i 2 x n = (x.isEmpty && (decide (0 ≤ n) && decide (n ≤ 1073741824))) := rfl
theorem o_l (x : a_3) (n : Int) : c_i 3 x n = (decide (x.length ≤ 64) && n == 0) := rfl
theorem o_T (x : a_3) (n : Int) : c_i 4 x n = (x.isEmpty && (decide (0 ≤ n) && decide (n ≤ 575999999))) := rfl
theorem j_5 (x : a_3) (n : Int) : c_i 5 x n = (n_6 x && n == 0) := rfl
theorem m_8 {k : Int} (h0 : (k == 0) = false) (h1 : (k == 1) = false) (h2 : (k == 2) = false) (h3 : (k == 3) = false) (h4 : (k == 4) = false) (h5 : (k == 5) = false) (x : a_3) (n : Int) : c_i k x n = false := by
 simp only [beq_eq_false_iff_ne] at *
 unfold c_i
 rw [if_neg h0, if_neg h1, if_neg h2, if_neg h3, if_neg h4, if_neg h5]
theorem c_j (s : ByteArray) : bs s = s.toList := (ByteArray.toList_eq s).symm
theorem k_5 (s : ByteArray) : s.toList.length = s.size := by rw [← c_j]; rfl
theorem c_E (k n o : Int) (s : ByteArray) (w : World) (hG : Glob w) (hs : s.size ≤ maxLen) :
  Calls prog 108 #[.agg #[.int .i64 k, .string s, .int .i64 n, .int .i64 o]] w fun e w' => e = .returned (.bool (c_i k (bs s) n)) ∧ Below w.heap.size w w' := by
 have hs' := hs
 unfold maxLen at hs
 obtain ⟨hg, b, off, cp, hb, hv, hcells⟩ := hG.syms
 have HX := a_0 (fun W => b_m s W hs')
 have HS := a_0 (fun W (hW : Below w.heap.size w W) => g_A b off cp a_l s W d_ (fun j hj => by rw [hW.cell (p := ⟨b, off + j, none⟩) hb]; exact hcells j hj))
 rw [show k_N a_l (bs s) = n_6 (bs s) from rfl] at HS
 have hl18 : a_l.length = 18 := rfl
 rw [hl18] at hv HS
 clear hcells hl18 hG
 have HL := a_0 (k_5 s)
 have HB := a_0 (c_j s)
 have hk5 := a_0 (fun h0 h1 h2 h3 h4 h5 => m_8 (k := k) h0 h1 h2 h3 h4 h5 (bs s) n)
 go_enter func108, ntmps108
 go_wp2_with (first
  | (go_at_call 88; refine (HX.out _).mono ?_; rintro e w1 ⟨rfl, hb1⟩; obtain ⟨k0, k1, k2, k3, ⟨f0, f1, f2, f3⟩, hz, hb0⟩ := v_Q (by simpa using hb1); clear hb1)
  | (go_at_call 68; refine (HS.out _ ((b_ _ _).alloc (l_ _) _)).mono ?_; rintro e w1 ⟨rfl, rfl⟩))
 all_goals
  go_ret
  refine ⟨a_g ?_, by first | assumption | exact zX⟩
  clear HX HS
  rw [HB.out]
  have hlen := HL.out
  have hbs := HB.out
  clear HL HB hk5 hv hb
  simp_all [c_i] <;> omega
def d_c (k : Int) (x : a_3) (n : Int) : Bool := if k = 0 then false else c_i k x n
theorem o_D {l : a_3} (h : l ≠ []) : (j_v l == l) = n_6 l := by
 rw [Bool.eq_iff_iff, beq_iff_eq]
 unfold n_6
 rw [List.contains_iff_mem]
 constructor
 ·intro e
  unfold j_v at e
  cases hf : a_l.find? (fun x => x.isPrefixOf l) with
  | none => rw [hf] at e; exact absurd e.symm h
  | some x =>
   rw [hf] at e; have : x = l := e; subst this; exact List.mem_of_find?_eq_some hf
 ·intro hm
  have : ∀ x ∈ a_l, j_v x = x := by decide
  exact this l hm
theorem f_4 (k n o : Int) (s : ByteArray) (w : World) (hs : s.size ≤ maxLen) :
  Calls prog 116 #[.agg #[.int .i64 k, .string s, .int .i64 n, .int .i64 o]] w fun e w' => e = .returned (.bool (d_c k (bs s) n)) ∧ Below w.heap.size w w' := by
 have hs' := hs
 unfold maxLen at hs
 have HX := a_0 (fun W => d_b s W hs')
 have HL := a_0 (k_5 s)
 have HB := a_0 (c_j s)
 by_cases h5 : k = 5
 ·subst h5
  by_cases hn : n = 0
  ·subst hn
   by_cases he : s.size = 0
   ·have hE : s.toList = [] := by rw [ByteArray.toList_eq]; exact List.eq_nil_of_length_eq_zero he
    have hE2 : (!s.toList.isEmpty) = false := by rw [hE]; rfl
    have HR := a_0 (show d_c 5 (bs s) 0 = false by rw [c_j, hE]; rfl); clear hE he
    go_enter func116, ntmps116
    go_wp2
    go_big_quiet (fail)
    go_wp2
    go_ret
    exact ⟨a_g (by rw [HR.out]), zX⟩
   ·have hE2 : (!s.toList.isEmpty) = true := by
     cases h : s.toList with
     | nil => exact absurd (by rw [← k_5, h]; rfl) he
     | cons => rfl
    have HR := a_0 (show d_c 5 (bs s) 0 = (j_v (bs s) == s.toList) by
     have hne : bs s ≠ [] := by
      rw [c_j]; intro e; rw [e] at hE2; cases hE2
     unfold d_c
     rw [if_neg d_, j_5, ← o_D hne, c_j]; simp)
    have HSy := a_0 (fun W => e_M s W hs' o_); clear he; generalize j_v (bs s) = y at *
    go_enter func116, ntmps116
    go_wp2
    go_region_held3 (fun w' => w'.cell? ⟨w.heap.size, 1, none⟩ = some (.string s) ∧ w'.cell? ⟨w.heap.size, 2, none⟩ = some (.int .i64 0)) (first | go_keep | exact ⟨k1, k2⟩)
     (first
      | (go_at_call 127; refine (HSy.out _).mono ?_; rintro e w1 ⟨rfl, hb1⟩; have k1 : w1.cell? ⟨w.heap.size, 1, none⟩ = some (.string s) := (hb1.cell (p := ⟨w.heap.size, 1, none⟩) s_).trans s_; have k2 : w1.cell? ⟨w.heap.size, 2, none⟩ = some (.int .i64 0) := (hb1.cell (p := ⟨w.heap.size, 2, none⟩) s_).trans s_; have hb0 : Below w.heap.size w w1 := Below.trans zX (hb1.mono s_)))
    go_wp2
    go_ret
    exact ⟨a_g (by rw [HR.out]), by assumption⟩
  ·have hn2 : (n == 0) = false := by simpa using hn
   have HR := a_0 (show d_c 5 (bs s) n = false by unfold d_c; rw [if_neg d_, j_5, hn2, Bool.and_false]); clear hn
   go_enter func116, ntmps116
   go_wp2
   go_big_quiet (fail)
   go_wp2
   go_ret
   exact ⟨a_g (by rw [HR.out]), zX⟩
 have b5 : (k == 5) = false := by simpa using h5
 clear h5
 go_enter func116, ntmps116
 go_wp2_with (first
  | (go_at_call 98; refine (HX.out _).mono ?_; rintro e w1 ⟨rfl, rfl⟩))
 all_goals
  go_ret
  refine ⟨a_g ?_, by first | assumption | exact zX⟩
  clear HX
  rw [HB.out]
  have hlen := HL.out
  have hbs := HB.out
  clear HL HB
  simp_all [c_i, d_c] <;> omega
def l_w (ts : List Tok) (k : Nat) : Prop := ∀ j (h : j < ts.length), j < k → ts[j].ok = true ∧ (ts[j].kind = 0 ↔ j = ts.length - 1)
theorem k_Y {ts : List Tok} {k : Nat} (h : l_w ts k) (hk : k < ts.length) (b : Bool) (h1 : c_i ts[k].kind ts[k].text ts[k].num = true) (h2 : (ts[k].kind == 0) = b) (h3 : ((k : Int) == (ts.length : Int) - 1) = b) : l_w ts (k + 1) := by
 intro j hj hjk
 by_cases e : j = k
 ·subst e
  refine ⟨h1, ?_⟩
  have : ts[j].kind = 0 ↔ (j : Int) = (ts.length : Int) - 1 := by rw [← beq_iff_eq (a := ts[j].kind), ← beq_iff_eq (a := (j : Int)), h2, h3]
  rw [this]; omega
 ·exact h j hj o_
theorem r_7 {ts : List Tok} {k : Nat} (hk : k < ts.length) (h : c_i ts[k].kind ts[k].text ts[k].num = false ∨ (ts[k].kind == 0) ≠ ((k : Int) == (ts.length : Int) - 1)) : h_N ts = 8 := by
 unfold h_N
 rw [if_neg]
 intro hv
 have := ((c_q ts).1 hv).2 k hk
 rcases h with h | h
 ·rw [show c_i ts[k].kind ts[k].text ts[k].num = ts[k].ok from rfl, this.1] at h; cases h
 ·apply h
  rw [Bool.eq_iff_iff, beq_iff_eq, beq_iff_eq, this.2]; omega
theorem l_x {ts : List Tok} (h : ts.length = 0) : h_N ts = 8 := by
 obtain rfl : ts = [] := List.eq_nil_of_length_eq_zero h
 rfl
theorem p_z {ts : List Tok} (h : l_w ts ts.length) (h0 : 0 < ts.length) : h_N ts = 0 := by
 unfold h_N
 rw [if_pos ((c_q ts).2 ⟨h0, fun i hi => h i hi hi⟩)]
theorem r_2 {W w1 : World} {B : Nat} {a b c d : Value} {t : TypeId} (h : Below (B + 1) W w1) (h0 : W.heap[B]? = some (.cells #[a, b, c, d] t)) :
  (w1.cell? ⟨B, 0, none⟩ = some a ∧ w1.cell? ⟨B, 1, none⟩ = some b ∧ w1.cell? ⟨B, 2, none⟩ = some c ∧ w1.cell? ⟨B, 3, none⟩ = some d) := by
 have : w1.heap[B]? = some (.cells #[a, b, c, d] t) := by rw [h.block B o_]; exact h0
 exact ⟨by rw [a_2 this]; rfl, by rw [a_2 this]; rfl, by rw [a_2 this]; rfl, by rw [a_2 this]; rfl⟩
set_option maxRecDepth 100000
theorem d_z (A : Option Addr) (ts : List Tok) (c : Nat) (w : World) (hG : Glob w) (hA : d_a w A ts) (hl : ts.length ≤ 1000000) (hx : ∀ j (h : j < ts.length), ts[j].text.length ≤ maxLen) :
  Calls prog 72 #[.slice A ts.length c] w fun e w' => e = .returned (.int .i64 (h_N ts)) ∧ Below w.heap.size w w' := by
 have HG := a_0 hG
 clear hG
 have HA := a_0 hA
 clear hA
 have HX := a_0 hx
 clear hx
 go_enter func72, ntmps72
 go_wp2
 go_loopw [7] (fun i wr => ∃ k : Nat, k ≤ ts.length ∧ i = .int .i64 k ∧ Hid (l_w ts k) ∧ Below w.heap.size w wr) (fun i _ => ts.length - (intOf i).toNat)
 case atStart => exact ⟨0, o_, rfl, fun _ _ h => absurd h (Nat.not_lt_zero _), b_ _ _⟩
 case round =>
  obtain ⟨k, hk, rfl, HR, hbel⟩ := hrel
  have hsz := hbel.size
  by_cases hlt : k < ts.length
  ·rcases HA.out.below (hbel.mono (l_ _)) with h | ⟨g, off, rfl, hg, hc⟩
   ·exact absurd hlt (by rw [h]; simp)
   obtain ⟨c1, c2, c3, c4⟩ := hc k hlt; have HXk := a_0 (HX.out k hlt); clear hc; have HStep := a_0 (fun b => k_Y HR.out hlt b); have HNo := a_0 (r_7 hlt); generalize ts[k] = x at *
   cases h1 : c_i x.kind x.text x.num
   ·have HE := a_0 (HNo.out (.inl h1))
    have H1 := a_0 h1; clear h1
    go_wp2_with fail
    refine (c_E x.kind x.num x.off ⟨x.text.toArray⟩ _ (HG.out.below zX) HXk.out).mono ?_; rintro e w1 ⟨rfl, hb1⟩; rw [show c_i x.kind (bs ⟨x.text.toArray⟩) x.num = false from H1.out]; refine t_W ?_; intro hb2
    go_wp2
    exact t_B
   ·have H1 := a_0 h1; clear h1
    cases h2 : (x.kind == 0) <;> cases h3 : ((k : Int) == (ts.length : Int) - 1)
    case false.true =>
     have HE := a_0 (HNo.out (.inr (by rw [h2, h3]; decide)))
     go_wp2_with fail
     refine (c_E x.kind x.num x.off ⟨x.text.toArray⟩ _ (HG.out.below zX) HXk.out).mono ?_; rintro e w1 ⟨rfl, hb1⟩; rw [show c_i x.kind (bs ⟨x.text.toArray⟩) x.num = true from H1.out]; refine t_W ?_; intro hb2; obtain ⟨k0, _, _, _⟩ := r_2 (B := wr.heap.size) (by simpa using hb1) (heap_alloc_new wr _)
     go_wp2
     exact t_B
    case true.false =>
     have HE := a_0 (HNo.out (.inr (by rw [h2, h3]; decide)))
     go_wp2_with fail
     refine (c_E x.kind x.num x.off ⟨x.text.toArray⟩ _ (HG.out.below zX) HXk.out).mono ?_; rintro e w1 ⟨rfl, hb1⟩; rw [show c_i x.kind (bs ⟨x.text.toArray⟩) x.num = true from H1.out]; refine t_W ?_; intro hb2; obtain ⟨k0, _, _, _⟩ := r_2 (B := wr.heap.size) (by simpa using hb1) (heap_alloc_new wr _)
     go_wp2
     exact t_B
    all_goals
     have HR2 := a_0 (HStep.out _ H1.out h2 h3)
     go_wp2_with fail
     refine (c_E x.kind x.num x.off ⟨x.text.toArray⟩ _ (HG.out.below zX) HXk.out).mono ?_; rintro e w1 ⟨rfl, hb1⟩; rw [show c_i x.kind (bs ⟨x.text.toArray⟩) x.num = true from H1.out]; refine t_W ?_; intro hb2; obtain ⟨k0, _, _, _⟩ := r_2 (B := wr.heap.size) (by simpa using hb1) (heap_alloc_new wr _)
     go_wp2
     exact ⟨⟨k + 1, o_, t_, HR2, hb2⟩, w_⟩
  ·have hkl : k = ts.length := by omega
   by_cases h0 : ts.length = 0
   ·have HE := a_0 (l_x h0)
    have hz : ((ts.length : Int) == 0) = true := by simp [h0]
    clear h0 hkl
    go_wp2
    exact u_t
   ·have hz : ((ts.length : Int) == 0) = false := by simp only [beq_eq_false_iff_ne]; omega
    have HE := a_0 (p_z (by have := HR.out; rwa [hkl] at this) (Nat.pos_of_ne_zero h0)); clear h0 hkl
    go_wp2
    exact u_t
set_option maxRecDepth 512
theorem i_X (k : Int) (x : a_3) (n : Int) : d_c k x n = true ↔ c_i k x n = true ∧ k ≠ 0 := by
 unfold d_c
 by_cases h : k = 0
 ·rw [if_pos h]; simp [h]
 ·rw [if_neg h]; simp [h]
def j_D (ts : List Tok) (k : Nat) : Prop := ∀ j (h : j < ts.length), j < k → d_c ts[j].kind ts[j].text ts[j].num = true
theorem k_k {ts : List Tok} {k : Nat} (h : j_D ts k) (hk : k < ts.length) (h1 : d_c ts[k].kind ts[k].text ts[k].num = true) : j_D ts (k + 1) := by
 intro j hj hjk
 by_cases e : j = k
 ·subst e; exact h1
 ·exact h j hj o_
theorem q_Z {ts : List Tok} {k : Nat} (hk : k + 1 < ts.length) (h : d_c ts[k].kind ts[k].text ts[k].num = false) : h_N ts = 8 := by
 unfold h_N
 rw [if_neg]
 intro hv
 have := ((c_q ts).1 hv).2 k o_
 have h2 : d_c ts[k].kind ts[k].text ts[k].num = true := (i_X _ _ _).2 ⟨this.1, fun e => by have := this.2.1 e; omega⟩
 rw [h] at h2; cases h2
theorem p_p {ts : List Tok} {m : Nat} (hm : ts.length = m + 1) (h : ts[m].kind ≠ 0 ∨ ts[m].num ≠ 0 ∨ ts[m].text ≠ []) : h_N ts = 8 := by
 unfold h_N
 rw [if_neg]
 intro hv
 have h2 := ((c_q ts).1 hv).2 m o_
 have hk : ts[m].kind = 0 := h2.2.2 o_
 have h3 : c_i ts[m].kind ts[m].text ts[m].num = true := h2.1
 rw [hk, o_a] at h3
 simp at h3
 rcases h with h | h | h
 ·exact h hk
 ·exact h h3.2
 ·exact h h3.1
theorem q_f {ts : List Tok} {m : Nat} (hm : ts.length = m + 1) (h : j_D ts m) (h1 : ts[m].kind = 0) (h2 : ts[m].num = 0) (h3 : ts[m].text = []) : h_N ts = 0 := by
 unfold h_N
 rw [if_pos]
 refine (c_q ts).2 ⟨o_, fun i hi => ?_⟩
 by_cases e : i = m
 ·subst e
  refine ⟨?_, by rw [h1]; simp; omega⟩
  show c_i ts[i].kind ts[i].text ts[i].num = true
  rw [h1, h2, h3]; rfl
 ·have := (i_X _ _ _).1 (h i hi o_)
  exact ⟨this.1, ⟨fun h => absurd h this.2, fun h => by omega⟩⟩
set_option maxRecDepth 100000
theorem d_O (A : Option Addr) (ts : List Tok) (c : Nat) (w : World) (hA : d_a w A ts) (hl : ts.length ≤ 1000000) (hx : ∀ j (h : j < ts.length), ts[j].text.length ≤ maxLen) :
  Calls prog 74 #[.slice A ts.length c] w fun e w' => e = .returned (.int .i64 (h_N ts)) ∧ Below w.heap.size w w' := by
 have HX := a_0 hx
 clear hx
 by_cases h0 : ts.length = 0
 ·have HE := a_0 (l_x h0)
  rw [h0]
  clear hA
  go_enter func74, ntmps74
  go_wp2
  exact _as
 obtain ⟨m, hm⟩ : ∃ m, ts.length = m + 1 := ⟨ts.length - 1, o_⟩
 have HA := a_0 hA
 rcases hA with h | ⟨g, off, rfl, hg, hc⟩
 ·exact absurd (by rw [h]; rfl) h0
 obtain ⟨c1, c2, c3, c4⟩ := hc m o_
 clear c4 hc h0
 have HEnd := a_0 (p_p hm)
 have HYes := a_0 (fun h => q_f hm h)
 have HLt := a_0 (show m < ts.length by omega)
 have hm1 : m + 1 ≤ 1000000 := by omega
 generalize ts[m] = y at *
 rw [hm]
 have HM := a_0 hm
 clear hm hl
 by_cases k1 : y.kind = 0
 case neg =>
  have HE := a_0 (HEnd.out (.inl k1))
  have b1 : (y.kind != 0) = true := by simpa using k1
  clear k1
  go_enter func74, ntmps74
  go_wp2
  exact _as
 by_cases k2 : y.num = 0
 case neg =>
  have HE := a_0 (HEnd.out (.inr (.inl k2)))
  have b1 : (y.kind != 0) = false := by simpa using k1
  have b2 : (y.num != 0) = true := by simpa using k2
  clear k1 k2
  go_enter func74, ntmps74
  go_wp2
  exact _as
 by_cases k3 : y.text = []
 case neg =>
  have HE := a_0 (HEnd.out (.inr (.inr k3)))
  have b1 : (y.kind != 0) = false := by simpa using k1
  have b2 : (y.num != 0) = false := by simpa using k2
  have b3 : (!y.text.isEmpty) = true := by cases h : y.text <;> simp_all
  clear k1 k2
  go_enter func74, ntmps74
  go_wp2
  exact _as
 have HYY := a_0 (fun h => HYes.out h k1 k2 k3)
 rw [k1] at c1
 rw [k2] at c3
 rw [k3] at c2
 clear k1 k2 k3 HEnd HYes
 have hz : ((m : Int) + 1 == 0) = false := by simp only [beq_eq_false_iff_ne]; omega
 go_enter func74, ntmps74
 go_wp2
 clear c1 c2 c3
 go_loopw [4] (fun i wr => ∃ k : Nat, k ≤ m ∧ i = .int .i64 k ∧ Hid (j_D ts k) ∧ Below w.heap.size w wr) (fun i _ => m - (intOf i).toNat)
 case atStart => exact ⟨0, o_, rfl, fun _ _ h => absurd h (Nat.not_lt_zero _), b_ _ _⟩
 case round =>
  obtain ⟨k, hk, rfl, HR, hbel⟩ := hrel
  have hsz := hbel.size
  by_cases hlt : k < m
  ·have hlt2 : k < ts.length := Nat.lt_trans hlt HLt.out
   rcases HA.out.below (hbel.mono (l_ _)) with h | ⟨g, off, hA2, hg, hc⟩
   ·exact absurd hlt2 (by rw [h]; simp)
   injection hA2 with hA2; injection hA2 with h1 h2 h3; subst h1 h2; clear h3; obtain ⟨c1, c2, c3, c4⟩ := hc k hlt2; have HXk := a_0 (HX.out k hlt2); clear hc; have HStep := a_0 (k_k HR.out hlt2); have HNo := a_0 (q_Z (ts := ts) (k := k) (by have := HM.out; omega)); generalize ts[k] = x at *; clear hlt2
   cases h1 : d_c x.kind x.text x.num
   ·have HE := a_0 (HNo.out h1)
    have H1 := a_0 h1; clear h1
    go_wp2_with fail
    refine (f_4 x.kind x.num x.off ⟨x.text.toArray⟩ _ HXk.out).mono ?_; rintro e w1 ⟨rfl, hb1⟩; rw [show d_c x.kind (bs ⟨x.text.toArray⟩) x.num = false from H1.out]; have hb2 : Below w.heap.size w w1 := Below.trans zX (hb1.mono (by first | omega | (simp; omega)))
    go_wp2
    exact t_B
   ·have HR2 := a_0 (HStep.out h1)
    have H1 := a_0 h1; clear h1
    go_wp2_with fail
    refine (f_4 x.kind x.num x.off ⟨x.text.toArray⟩ _ HXk.out).mono ?_; rintro e w1 ⟨rfl, hb1⟩; rw [show d_c x.kind (bs ⟨x.text.toArray⟩) x.num = true from H1.out]; have hb2 : Below w.heap.size w w1 := Below.trans zX (hb1.mono (by first | omega | (simp; omega)))
    go_wp2
    exact ⟨⟨k + 1, o_, t_, HR2, hb2⟩, w_⟩
  ·obtain rfl : k = m := by omega
   have HE := a_0 (HYY.out HR.out)
   go_wp2
   exact u_t
set_option maxRecDepth 512
structure Vl where
 kind : Int
 num : Int
 text : a_3
def Vl.cells (v : Vl) : List Value := [.int .i64 v.kind, .int .i64 v.num, str v.text]
abbrev Vl.agg (v : Vl) : Value := .agg #[.int .i64 v.kind, .int .i64 v.num, str v.text]
def vl0 : Vl := ⟨0, 0, []⟩
def g_y (k n : Int) (x : a_3) : Bool :=
 if k = 0 then n == 0 && x.isEmpty
 else if k = 1 then (n == 0 || n == 1) && x.isEmpty
 else if k = 2 then (decide (-1073741824 ≤ n) && decide (n ≤ 1073741824)) && x.isEmpty
 else if k = 3 then n == 0 && decide (x.length ≤ 64)
 else if k = 4 then (decide (0 ≤ n) && decide (n ≤ 575999999)) && x.isEmpty
 else false
theorem i_i (k n : Int) (s : ByteArray) (w : World) : Calls prog 163 #[.agg #[.int .i64 k, .int .i64 n, .string s]] w fun e w' => e = .returned (.bool (g_y k n (bs s))) ∧ Below w.heap.size w w' := by
 have HL := a_0 (k_5 s)
 have HB := a_0 (c_j s)
 go_enter func163, ntmps163
 go_wp2
 all_goals
  go_ret
  refine ⟨a_g ?_, by first | assumption | exact zX⟩
  rw [HB.out]
  have hlen := HL.out
  have hbs := HB.out
  clear HL HB
  simp_all [g_y] <;> omega
theorem h_X (k n : Int) (s : ByteArray) (w : World) : Calls prog 159 #[.agg #[.int .i64 k, .int .i64 n, .string s]] w fun e w' => e = .returned (.bool (g_y k n (bs s))) ∧ Below w.heap.size w w' := by
 have HL := a_0 (k_5 s)
 have HB := a_0 (c_j s)
 go_enter func159, ntmps159
 go_wp2
 all_goals
  go_ret
  refine ⟨a_g ?_, by first | assumption | exact zX⟩
  rw [HB.out]
  have hlen := HL.out
  have hbs := HB.out
  clear HL HB
  simp_all [g_y] <;> omega
structure Nd where
 op : Int
 val : Vl
 name : a_3
 arity : Int
def Nd.cells (n : Nd) : List Value := [.int .i64 n.op, .int .i64 n.val.kind, .int .i64 n.val.num, str n.val.text, str n.name, .int .i64 n.arity]
abbrev Nd.agg (n : Nd) : Value := .agg #[.int .i64 n.op, .int .i64 n.val.kind, .int .i64 n.val.num, str n.val.text, str n.name, .int .i64 n.arity]
abbrev a_a (es : List Nd) : List Value := es.flatMap Nd.cells
theorem b_4 : ∀ es : List Nd, (a_a es).length = es.length * 6
 | [] => rfl
 | n :: es => by
  have := b_4 es
  rw [show a_a (n :: es) = n.cells ++ a_a es from rfl, List.length_append, this, List.length_cons]
  simp [Nd.cells]; omega
theorem i_1 : ∀ (es : List Nd) (i : Nat) (h : i < es.length), (a_a es)[i * 6]? = some (.int .i64 es[i].op) ∧ (a_a es)[i * 6 + 1]? = some (.int .i64 es[i].val.kind) ∧ (a_a es)[i * 6 + 2]? = some (.int .i64 es[i].val.num) ∧
  (a_a es)[i * 6 + 3]? = some (str es[i].val.text) ∧ (a_a es)[i * 6 + 4]? = some (str es[i].name) ∧ (a_a es)[i * 6 + 5]? = some (.int .i64 es[i].arity)
 | [], i, h => by simp at h
 | n :: es, 0, _ => ⟨rfl, rfl, rfl, rfl, rfl, rfl⟩
 | n :: es, i + 1, h => by
  obtain ⟨h1, h2, h3, h4, h5, h6⟩ := i_1 es i (by simpa using h)
  have e : ∀ j, (a_a (n :: es))[(i + 1) * 6 + j]? = (a_a es)[i * 6 + j]? := by
   intro j; rw [show a_a (n :: es) = n.cells ++ a_a es from rfl, List.getElem?_append_right (by simp [Nd.cells]; omega)]
   congr 1
   simp [Nd.cells]; omega
  exact ⟨by simpa using (e 0).trans h1, (e 1).trans h2, (e 2).trans h3, (e 3).trans h4, (e 4).trans h5, (e 5).trans h6⟩
def w_I (w : World) (g off : Nat) (n : Nd) : Prop :=
 w.cell? ⟨g, off, none⟩ = some (.int .i64 n.op) ∧ w.cell? ⟨g, off + 1, none⟩ = some (.int .i64 n.val.kind) ∧ w.cell? ⟨g, off + 2, none⟩ = some (.int .i64 n.val.num) ∧
  w.cell? ⟨g, off + 3, none⟩ = some (str n.val.text) ∧ w.cell? ⟨g, off + 4, none⟩ = some (str n.name) ∧ w.cell? ⟨g, off + 5, none⟩ = some (.int .i64 n.arity)
def c_L (w : World) (A : Option Addr) (es : List Nd) : Prop :=
 es = [] ∨ ∃ g off, A = some ⟨g, off, none⟩ ∧ g < w.heap.size ∧ ∀ j u, (a_a es)[j]? = some u → w.cell? ⟨g, off + j, none⟩ = some u
theorem nd_of_cells {w : World} {g off : Nat} {es : List Nd} (hc : ∀ j u, (a_a es)[j]? = some u → w.cell? ⟨g, off + j, none⟩ = some u) (i : Nat) (hi : i < es.length) : w_I w g (off + i * 6) es[i] := by
 obtain ⟨h1, h2, h3, h4, h5, h6⟩ := i_1 es i hi
 exact ⟨hc _ _ h1, hc _ _ h2, hc _ _ h3, hc _ _ h4, hc _ _ h5, hc _ _ h6⟩
theorem c_X {w : World} {base e c : Nat} {A : Option Addr} {es : List Nd} (h : w.ownsRow base e 6 (.slice A es.length c) es.length (a_a es)) : c_L w A es := by
 rcases h.2 with ⟨_, hn⟩ | ⟨g, cap, cur, hv, hg, hh, hnc, hcap, hsz, htk⟩
 ·exact .inl (List.eq_nil_of_length_eq_zero hn)
 ·injection hv with h1 h2 h3
  subst h1
  refine .inr ⟨g, 0, rfl, a_6 hh, fun j u hu => ?_⟩
  have hj : j < es.length * 6 := by
   rcases Nat.lt_or_ge j (a_a es).length with h | h
   ·rwa [b_4] at h
   ·rw [List.getElem?_eq_none h] at hu; cases hu
  have hc : w.cell? ⟨g, j, none⟩ = (a_a es)[j]? := World.ownsRow.cellAt h j hj
  rw [Nat.zero_add, hc, hu]
theorem c_L.below {w w' : World} {A : Option Addr} {es : List Nd} (h : c_L w A es) (hb : Below w.heap.size w w') : c_L w' A es := by
 rcases h with h | ⟨g, off, hA, hg, hc⟩
 ·exact .inl h
 ·exact .inr ⟨g, off, hA, Nat.lt_of_lt_of_le hg hb.size, fun j u hu => (hb.cell (p := ⟨g, _, none⟩) hg).trans (hc j u hu)⟩
def c_B (op a : Int) : Int :=
 if op = 0 ∨ op = 1 then 0
 else if op = 2 ∨ op = 3 ∨ op = 16 ∨ op = 19 ∨ op = 20 then 1
 else if op = 17 then 3
 else if op = 21 then a
 else if 4 ≤ op ∧ op ≤ 18 then 2
 else -1
def g_a : List a_3 := [[105, 102], [99, 111, 97, 108, 101, 115, 99, 101], [105, 115, 110, 117, 108, 108], [108, 101, 110, 103, 116, 104], [100, 97, 121]]
def biB (l : a_3) : Bool := k_N g_a l
def h_2 (k n : Int) (x : a_3) : Bool := (k == 0) && (n == 0) && x.isEmpty
def a_L (op k n : Int) (x nm : a_3) (a : Int) : Bool :=
  if op = 0 then g_y k n x && nm.isEmpty && (a == 0)
  else h_2 k n x &&
    (if op = 1 then (a == 0) && a_p 24 nm && !e_g nm
     else if op = 20 then (a == 0) && a_K 24 nm && !e_g nm
     else if op = 21 then a_K 24 nm && !biB nm && !e_g nm && decide (0 ≤ a) && decide (a ≤ 8)
     else (a == 0) && nm.isEmpty && decide (0 ≤ c_B op a))
abbrev Nd.ar (n : Nd) : Int := c_B n.op n.arity
abbrev Nd.ok (n : Nd) : Bool := a_L n.op n.val.kind n.val.num n.val.text n.name n.arity
theorem j_W {n : Nd} (h : n.ok = true) : 0 ≤ n.ar ∧ n.ar ≤ 8 := by
 obtain ⟨op, ⟨k, m, x⟩, nm, a⟩ := n
 have h : a_L op k m x nm a = true := h
 show 0 ≤ c_B op a ∧ c_B op a ≤ 8
 unfold a_L at h
 unfold c_B at h ⊢
 repeat' split at h
 all_goals (try simp at h) <;> (repeat' split) <;> first | omega | (simp_all; done) | (simp_all <;> omega)
def i_8 (st : List Int) (a : Nat) : Int := ((st.drop (st.length - a)).foldl max 0) + 1
def d_Y (n : Nd) (st : List Int) : Except Int (List Int) :=
 if n.ok = false ∨ (st.length : Int) < n.ar then .error 8
 else if 64 < i_8 st n.ar.toNat then .error 2
 else .ok (st.take (st.length - n.ar.toNat) ++ [i_8 st n.ar.toNat])
def j_C : List Nd → List Int → Except Int (List Int)
 | [], st => .ok st
 | n :: r, st => match d_Y n st with | .error x => .error x | .ok st' => j_C r st'
def a_x (es : List Nd) : Int :=
 if 256 < es.length then 2 else match j_C es [] with | .error x => x | .ok st => if st.length = 1 then 0 else 8
theorem k_L (n : Nd) (r : List Nd) (st : List Int) : j_C (n :: r) st = match d_Y n st with | .error x => .error x | .ok st' => j_C r st' := rfl
theorem d_X : ∀ (a b : List Nd) (st : List Int), j_C (a ++ b) st = match j_C a st with | .error x => .error x | .ok st' => j_C b st'
 | [], b, st => rfl
 | n :: a, b, st => by
  rw [List.cons_append, k_L, k_L]
  cases d_Y n st with
  | error x => rfl
  | ok st' => exact d_X a b st'
theorem l_Z (n : Nd) (st : List Int) : j_C [n] st = d_Y n st := by
 unfold j_C
 cases d_Y n st <;> rfl
theorem j_O {es : List Nd} {k : Nat} {st : List Int} (h : j_C (es.take k) [] = .ok st) (hk : k < es.length) : j_C (es.take (k + 1)) [] = d_Y es[k] st := by
 rw [List.take_succ_eq_append_getElem hk, d_X, h]
 exact l_Z _ _
theorem m_r {es : List Nd} {k : Nat} {x : Int} (h : j_C (es.take k) [] = .error x) : j_C es [] = .error x := by
 rw [← List.take_append_drop k es, d_X, h]
theorem e_s : ∀ (l : List Int) (b : Int), b ≤ l.foldl max b ∧ ∀ x ∈ l, x ≤ l.foldl max b
 | [], b => ⟨Int.le_refl _, fun x hx => by cases hx⟩
 | y :: l, b => by
  obtain ⟨h1, h2⟩ := e_s l (max b y)
  rw [List.foldl_cons]
  refine ⟨o_, fun x hx => ?_⟩
  rcases List.mem_cons.1 hx with rfl | hx
  ·omega
  ·exact h2 x hx
theorem g_L : ∀ (l : List Int) (b m : Int), b ≤ m → (∀ x ∈ l, x ≤ m) → l.foldl max b ≤ m
 | [], b, m, h, _ => h
 | y :: l, b, m, h, hl => by
  rw [List.foldl_cons]
  have := hl y s_
  exact g_L l _ m o_ (fun x hx => hl x (List.mem_cons_of_mem _ hx))
theorem p_Y {n : Nd} {st st' : List Int} (h : d_Y n st = .ok st') : n.ok = true ∧ n.ar ≤ st.length ∧ i_8 st n.ar.toNat ≤ 64 ∧ st' = st.take (st.length - n.ar.toNat) ++ [i_8 st n.ar.toNat] := by
 unfold d_Y at h
 split at h
 ·cases h
 ·rename_i h1
  split at h
  ·cases h
  ·injection h with h
   refine ⟨by cases hh : n.ok <;> simp_all, o_, o_, h.symm⟩
theorem l_S (st : List Int) (a : Nat) : 1 ≤ i_8 st a := by
 unfold i_8
 have := (e_s (st.drop (st.length - a)) 0).1
 omega
def k_D (st : List Int) : Prop := ∀ x ∈ st, 1 ≤ x ∧ x ≤ 64
theorem n_i {n : Nd} {st st' : List Int} (h : d_Y n st = .ok st') (hs : k_D st) : k_D st' ∧ st'.length ≤ st.length + 1 := by
 obtain ⟨h1, h2, h3, rfl⟩ := p_Y h
 refine ⟨fun x hx => ?_, s_⟩
 rcases List.mem_append.1 hx with hx | hx
 ·exact hs x (List.mem_of_mem_take hx)
 ·simp at hx; subst hx; exact ⟨l_S _ _, h3⟩
theorem m_4 : ∀ (es : List Nd) (st st' : List Int), j_C es st = .ok st' → k_D st → k_D st' ∧ st'.length ≤ st.length + es.length
 | [], st, st', h, hs => by injection h with h; subst h; exact ⟨hs, s_⟩
 | n :: es, st, st', h, hs => by
  unfold j_C at h
  split at h
  ·cases h
  ·rename_i s1 h1
   obtain ⟨a, b⟩ := n_i h1 hs; obtain ⟨c, d⟩ := m_4 es s1 st' h a; exact ⟨c, m_⟩
def p_9 : Nat → Nat
 | 0 => 1
 | d + 1 => 3 * p_9 d + 1
def l_3 (cs : List a_3) (es : List Nd) : Prop := ∀ n ∈ es, n.op = 1 → n.name ∈ cs
theorem l_3.append {cs : List a_3} {a b : List Nd} (h : l_3 cs a) (k : l_3 cs b) : l_3 cs (a ++ b) := fun n hn => by
 rcases List.mem_append.1 hn with hn | hn
 ·exact h n hn
 ·exact k n hn
theorem l_3.one {cs : List a_3} {n : Nd} (h : n.ar ≠ 0) : l_3 cs [n] := fun m hm e => by
 simp at hm; subst hm
 exact absurd (show c_B m.op m.arity = 0 by rw [e]; rfl) h
def p_1 (cs : List a_3) (d : Nat) (es : List Nd) : Prop := es.length ≤ p_9 d ∧ l_3 cs es ∧ ∃ h : Int, 1 ≤ h ∧ h ≤ d + 1 ∧ ∀ st, j_C es st = .ok (st ++ [h])
theorem p_1.mono {cs : List a_3} {d : Nat} {es : List Nd} (h : p_1 cs d es) : p_1 cs (d + 1) es := by
 obtain ⟨h1, hc, x, h2, h3, h4⟩ := h
 exact ⟨by unfold p_9; omega, hc, x, h2, o_, h4⟩
theorem p_1.ne {cs : List a_3} {d : Nat} {es : List Nd} (h : p_1 cs d es) : es ≠ [] := by
 obtain ⟨h1, hc, x, h2, h3, h4⟩ := h
 rintro rfl
 have := h4 []
 injection this with e
 cases e
theorem p_l {n : Nd} {a : Nat} (st ts : List Int) (hn : n.ok = true) (ha : n.ar = a) (hl : ts.length = a) (hm : ts.foldl max 0 < 64) : d_Y n (st ++ ts) = .ok (st ++ [ts.foldl max 0 + 1]) := by
 have e1 : (st ++ ts).length - a = st.length := by rw [List.length_append, hl]; omega
 have e2 : i_8 (st ++ ts) n.ar.toNat = ts.foldl max 0 + 1 := by
  unfold i_8
  rw [ha, Int.toNat_natCast, e1, List.drop_left]
 unfold d_Y
 rw [if_neg (by rw [hn, ha, List.length_append, hl]; simp; omega), e2, if_neg o_, ha, Int.toNat_natCast, e1, List.take_left]
theorem p_1.un {cs : List a_3} {n : Nd} {d : Nat} {a : List Nd} (hd : d < 62) (h : p_1 cs d a) (hn : n.ok = true) (ha : n.ar = 1) : p_1 cs (d + 1) (a ++ [n]) := by
 obtain ⟨h1, hc, x, h2, h3, h4⟩ := h
 refine ⟨by unfold p_9; simp; omega, hc.append (.one o_), x + 1, o_, o_, fun st => ?_⟩
 have hx : [x].foldl max 0 = x := by simp; omega
 rw [d_X, h4]
 show j_C [n] (st ++ [x]) = _
 rw [l_Z, p_l (a := 1) st [x] hn (by simpa using ha) rfl (by rw [hx]; omega), hx]
theorem o_V (d : Nat) : p_9 (d + 1) = 3 * p_9 d + 1 := rfl
theorem o_q {d e : Nat} (h : d ≤ e) : p_9 d ≤ p_9 e := by
 induction e with
 | zero =>
   have : d = 0 := by omega
   subst this; exact l_ _
 | succ e ih =>
  by_cases h2 : d = e + 1
  ·subst h2; exact l_ _
  ·have := ih o_
   rw [o_V]; omega
theorem p_1.valid {cs : List a_3} {d : Nat} {es : List Nd} (h : p_1 cs d es) (hd : d ≤ 4) : a_x es = 0 := by
 obtain ⟨h1, hc, x, h2, h3, h4⟩ := h
 have h5 : p_9 d ≤ 121 := o_q (e := 4) hd
 unfold a_x
 rw [if_neg o_, h4 []]
 rfl
end
section
open Go.RowKit Go.WideMaps Go.Maps
theorem a_Q : Keyed prog 9 := string_keyed underlying9
def biD : DataW Unit := ((((((DataW.map [] : DataW Unit).put (.string [105, 102]) (.lit (.int .i64 17))).put (.string [99, 111, 97, 108, 101, 115, 99, 101]) (.lit (.int .i64 18))).put (.string [105, 115, 110, 117, 108, 108]) (.lit (.int .i64 16))).put (.string [108, 101, 110, 103, 116, 104]) (.lit (.int .i64 19))).put (.string [100, 97, 121]) (.lit (.int .i64 20)))
def w_L (w w' : World) (e : Ending) : Prop := ∃ B, e = .returned (.map (some B)) ∧ w'.ownsMap prog 9 (plainElem prog 3) B 5 biD ∧ w.heap.size ≤ B ∧ B < w'.heap.size
set_option maxRecDepth 100000
theorem e_a (w : World) : Calls prog 160 #[] w fun e w' => w_L w w' e ∧ Below w.heap.size w w' := by
 refine t_b ?_; intro hmm hm
 obtain ⟨w1, r1, o1, g1⟩ := hm.update (t := 152) a_Q underlying152 d_ (keyOf_string_mk (s := ⟨#[105, 102]⟩) underlying9 d_) (plainElem_int (a := 17) underlying3 d_)
 obtain ⟨w2, r2, o2, g2⟩ := o1.update (t := 152) a_Q underlying152 d_ (keyOf_string_mk (s := ⟨#[99, 111, 97, 108, 101, 115, 99, 101]⟩) underlying9 d_) (plainElem_int (a := 18) underlying3 d_)
 obtain ⟨w3, r3, o3, g3⟩ := o2.update (t := 152) a_Q underlying152 d_ (keyOf_string_mk (s := ⟨#[105, 115, 110, 117, 108, 108]⟩) underlying9 d_) (plainElem_int (a := 16) underlying3 d_)
 obtain ⟨w4, r4, o4, g4⟩ := o3.update (t := 152) a_Q underlying152 d_ (keyOf_string_mk (s := ⟨#[108, 101, 110, 103, 116, 104]⟩) underlying9 d_) (plainElem_int (a := 19) underlying3 d_)
 obtain ⟨w5, r5, o5, g5⟩ := o4.update (t := 152) a_Q underlying152 d_ (keyOf_string_mk (s := ⟨#[100, 97, 121]⟩) underlying9 d_) (plainElem_int (a := 20) underlying3 d_)
 have HO := a_0 o5
 have hz : w.heap.size < w5.heap.size := by have := g1.size; have := g2.size; have := g3.size; have := g4.size; have := g5.size; simp at *; omega
 have hb : Below w.heap.size w w5 := by
  refine Below.grown (Below.grown (Below.grown (Below.grown (Below.grown ((b_ _ w).alloc (l_ _) _) g1 ?_ ?_) g2 ?_ ?_) g3 ?_ ?_) g4 ?_ ?_) g5 ?_ ?_
  all_goals first
   | (intro k hk; injection hk with hk; omega)
   | (have := g1.size; have := g2.size; have := g3.size; have := g4.size; simp at *; first | done | omega)
 have HB := a_0 hb
 clear hm o1 o2 o3 o4 o5 g1 g2 g3 g4 g5 hb
 go_enter func160, ntmps160
 go_wp2
 go_ret
 exact ⟨⟨w.heap.size, rfl, HO.out, l_ _, hz⟩, HB.out⟩
set_option maxRecDepth 512
theorem q_t : biD = .map [(.string [99, 111, 97, 108, 101, 115, 99, 101], .lit (.int .i64 18)), (.string [100, 97, 121], .lit (.int .i64 20)), (.string [105, 102], .lit (.int .i64 17)), (.string [105, 115, 110, 117, 108, 108], .lit (.int .i64 16)), (.string [108, 101, 110, 103, 116, 104], .lit (.int .i64 19))] := by rfl
theorem r_J (l : a_3) : Maps.has biD (.string l) = biB l := by
 rw [q_t]
 unfold biB k_N g_a Maps.has
 rw [Bool.eq_iff_iff]
 simp [Lit.sameKey]
 grind
end
end Go.Proofs.YtmbeeefkpgfgmaaGreatDoor
