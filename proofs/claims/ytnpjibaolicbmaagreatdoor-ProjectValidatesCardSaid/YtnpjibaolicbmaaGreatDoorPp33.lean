/- Parts of the proof. -/
import Derived.Test.YtnpjibaolicbmaaGreatDoorPp21
import Derived.Laws.AppendOwnNone
import Derived.Deep.Strs
import Derived.Carry
import Derived.Sort.OwnSorted
import Derived.Sort.Walk0
set_option linter.unusedVariables false
set_option linter.unusedSimpArgs false
set_option maxHeartbeats 2000000
namespace Go.Proofs.YtnpjibaolicbmaaGreatDoor
open Go.Proofs.Tryz
open Go.RowKit Go.Sort
def f_l : List a_3 → a_3 → List a_3
 | [], x => [x]
 | y :: l, x => if y < x then y :: f_l l x else if y = x then y :: l else x :: y :: l
def Asc (l : List a_3) : Prop := l.Pairwise (· < ·)
theorem g_V (a b : a_3) : a < b ∨ a = b ∨ b < a := by
 by_cases h : a < b
 ·exact .inl h
 ·by_cases h2 : b < a
  ·exact .inr (.inr h2)
  ·exact .inr (.inl (List.le_antisymm (List.not_lt.1 h2) (List.not_lt.1 h)))
theorem h_Y : ∀ (l : List a_3) (x z : a_3), z ∈ f_l l x ↔ z = x ∨ z ∈ l
 | [], x, z => by simp [f_l]
 | y :: l, x, z => by
  unfold f_l
  split
  ·simp only [List.mem_cons, h_Y l x z]
   constructor
   ·rintro (h | h | h) <;> simp [h]
   ·rintro (h | h | h) <;> simp [h]
  ·split
   ·rename_i h; subst h; simp
   ·simp
theorem j_M : ∀ (l : List a_3) (x : a_3), Asc l → Asc (f_l l x)
 | [], x, _ => by simp [f_l, Asc]
 | y :: l, x, h => by
  have h' := h
  unfold Asc at h
  rw [List.pairwise_cons] at h
  unfold f_l
  split
  ·rename_i hy
   unfold Asc; rw [List.pairwise_cons]; refine ⟨fun z hz => ?_, j_M l x h.2⟩
   rcases (h_Y l x z).1 hz with rfl | hz
   ·exact hy
   ·exact h.1 z hz
  ·split
   ·exact h'
   ·rename_i h1 h2
    have h3 : x < y := by
     rcases g_V x y with h | h | h
     ·exact h
     ·exact absurd h.symm h2
     ·exact absurd h h1
    unfold Asc; rw [List.pairwise_cons]; refine ⟨fun z hz => ?_, h'⟩
    rcases List.mem_cons.1 hz with rfl | hz
    ·exact h3
    ·exact List.lt_trans h3 (h.1 z hz)
theorem i_B : ∀ (xs l : List a_3), Asc l → Asc (xs.foldl f_l l) ∧ ∀ z, z ∈ xs.foldl f_l l ↔ z ∈ xs ∨ z ∈ l
 | [], l, h => ⟨h, fun z => by simp⟩
 | x :: xs, l, h => by
  obtain ⟨h1, h2⟩ := i_B xs (f_l l x) (j_M l x h)
  refine ⟨h1, fun z => ?_⟩
  rw [List.foldl_cons, h2 z, h_Y]
  simp only [List.mem_cons]
  constructor
  ·rintro (h | h | h) <;> simp [h]
  ·rintro ((h | h) | h) <;> simp [h]
def b_W (es : List Nd) : List a_3 := (es.filter fun n => n.op == 1).map Nd.name
def d_c (es : List Nd) : List a_3 := (b_W es).foldl f_l []
def d_y (w : World) (A : Option Addr) (l : List a_3) : Prop :=
 l = [] ∨ ∃ g off, A = some ⟨g, off, none⟩ ∧ g < w.heap.size ∧ ∀ j (h : j < l.length), w.cell? ⟨g, off + j, none⟩ = some (str l[j])
theorem d_y.below {w w' : World} {A : Option Addr} {l : List a_3} (h : d_y w A l) (hb : Below w.heap.size w w') : d_y w' A l := by
 rcases h with h | ⟨g, off, hA, hg, hc⟩
 ·exact .inl h
 ·exact .inr ⟨g, off, hA, Nat.lt_of_lt_of_le hg hb.size, fun j hj => (hb.cell (p := ⟨g, _, none⟩) hg).trans (hc j hj)⟩
theorem e_h {w : World} {base e c : Nat} {A : Option Addr} {l : List a_3} (h : w.ownsRow base e 1 (.slice A l.length c) l.length (l.map encStr)) : d_y w A l := by
 rcases h.2 with ⟨_, hn⟩ | ⟨g, cap, cur, hv, hg, hh, hnc, hcap, hsz, htk⟩
 ·exact .inl (List.eq_nil_of_length_eq_zero hn)
 ·injection hv with h1 h2 h3
  subst h1
  refine .inr ⟨g, 0, rfl, a_6 hh, fun j hj => ?_⟩
  have hc : w.cell? ⟨g, j, none⟩ = (l.map encStr)[j]? := World.ownsRow.cellAt h j o_
  rw [Nat.zero_add, hc]
  simp [hj]
theorem i_4 {es : List Nd} {k : Nat} (h : k < es.length) (ho : es[k].op = 1) : b_W (es.take (k + 1)) = b_W (es.take k) ++ [es[k].name] := by
 unfold b_W
 rw [List.take_succ_eq_append_getElem h, List.filter_append, List.map_append]
 simp [ho]
theorem j_h {es : List Nd} {k : Nat} (h : k < es.length) (ho : es[k].op ≠ 1) : b_W (es.take (k + 1)) = b_W (es.take k) := by
 unfold b_W
 rw [List.take_succ_eq_append_getElem h, List.filter_append, List.map_append]
 simp [ho]
theorem i_s (es : List Nd) (k : Nat) : (b_W (es.take k)).length ≤ k := by
 unfold b_W
 rw [List.length_map]
 exact Nat.le_trans (List.length_filter_le _ _) (by rw [List.length_take]; omega)
theorem g_t {W : World} {g off : Nat} {l m : List a_3} (h : ∀ j (h : j < l.length), W.cell? ⟨g, off + j, none⟩ = some (str l[j])) (hm : m <+: l) : ∀ j u, (m.map str)[j]? = some u → W.cell? ((⟨g, off, none⟩ : Addr).add j) = some u := by
 intro j u hu
 obtain ⟨r, rfl⟩ := hm
 have hj : j < m.length := by
  rcases Nat.lt_or_ge j m.length with h9 | h9
  ·exact h9
  ·rw [List.getElem?_eq_none (by simpa using h9)] at hu; cases hu
 have e : (⟨g, off, none⟩ : Addr).add j = ⟨g, off + j, none⟩ := by cases j <;> simp [Addr.add]
 rw [e, h j m_, ← hu]
 simp [hj]
theorem k_2 {W : World} {g off : Nat} {l : List a_3} (h : ∀ j (h : j < l.length), W.cell? ⟨g, off + j, none⟩ = some (str l[j])) (k : Nat) : ∀ j u, ((l.drop k).map str)[j]? = some u → W.cell? ((⟨g, off + k, none⟩ : Addr).add j) = some u := by
 intro j u hu
 have hj : j < (l.drop k).length := by
  rcases Nat.lt_or_ge j (l.drop k).length with h9 | h9
  ·exact h9
  ·rw [List.getElem?_eq_none (by simpa using h9)] at hu; cases hu
 have hj2 : k + j < l.length := by rw [List.length_drop] at hj; omega
 have e : (⟨g, off + k, none⟩ : Addr).add j = ⟨g, off + (k + j), none⟩ := by cases j <;> simp [Addr.add]; omega
 rw [e, h (k + j) hj2, ← hu]
 simp [hj2]
theorem h_J (m : List a_3) : ∀ u ∈ m.map str, u.oneCell' = true := fun u hu => by
 obtain ⟨b, _, rfl⟩ := List.mem_map.1 hu
 rfl
theorem j_e : ∀ (l : List a_3) (x : a_3) (k : Nat) (hk : k ≤ l.length), (∀ j (h : j < l.length), j < k → l[j] < x) → (∀ h : k < l.length, ¬ l[k] < x) →
  f_l l x = if h : k < l.length then (if l[k] = x then l else l.take k ++ x :: l.drop k) else l ++ [x]
 | [], x, k, hk, _, _ => by simp [f_l]
 | y :: l, x, 0, hk, _, h2 => by
  have := h2 s_
  simp only [List.getElem_cons_zero] at this
  simp [f_l, this]
 | y :: l, x, k + 1, hk, h1, h2 => by
  have hy := h1 0 s_ o_
  simp only [List.getElem_cons_zero] at hy
  have ih := j_e l x k (by simpa using hk) (fun j h hj => by have := h1 (j + 1) (by simpa using h) o_; rwa [List.getElem_cons_succ] at this) (fun h => by have := h2 (by simpa using h); rwa [List.getElem_cons_succ] at this)
  unfold f_l
  rw [if_pos hy, ih]
  by_cases hl : k < l.length
  ·simp only [dif_pos hl, List.length_cons, Nat.add_lt_add_iff_right, List.getElem_cons_succ]
   split
   ·rfl
   ·simp
  ·simp [hl]
set_option maxRecDepth 100000
theorem i_v (A : Option Addr) (l : List a_3) (c : Nat) (x : a_3) (w : World) (hA : d_y w A l) (hl : l.length ≤ 999999) (hc : l.length ≤ c) (hcm : c ≤ maxLen) (hn : A = none → c = 0) :
  Calls prog 234 #[.slice A l.length c, str x] w fun e w' => (∃ (B : Option Addr) (d : Nat), e = .returned (.slice B (f_l l x).length d) ∧ d_y w' B (f_l l x) ∧ (f_l l x).length ≤ d ∧ d ≤ maxLen ∧ (B = none → d = 0)) ∧ Below w.heap.size w w' := by
 have HA := a_2 hA
 clear hA
 refine l_R ?_; intro i0 hi hz0 hz1 hz2
 go_enter func234, ntmps234
 go_wp2
 go_loopw [5] (fun i wr => ∃ k : Nat, k ≤ l.length ∧ i = .int .i64 k ∧ Hid (∀ j (h : j < l.length), j < k → l[j] < x) ∧ Below w.heap.size w wr) (fun i _ => l.length - (intOf i).toNat)
 case atStart => exact ⟨0, o_, rfl, a_2 (fun j h hj => by omega), b_ _ _⟩
 case round =>
  obtain ⟨k, hk, rfl, HL, hbel⟩ := hrel
  have hsz := hbel.size
  by_cases hlt : k < l.length
  ·rcases HA.out.below hbel with e | ⟨ga, oa, rfl, hga, hca⟩
   ·exact absurd hlt e_
   have c0 := hca k hlt
   by_cases hx : l[k] < x
   ·have hbx : Op.bytesLess l[k] x = true := by rw [bytesLess_eq]; simpa using hx
    have HN := a_2 (show ∀ j (h : j < l.length), j < k + 1 → l[j] < x from fun j h hj => by
     by_cases e : j = k
     ·subst e; exact hx
     ·exact HL.out j h o_)
    clear hx hca
    go_wp2
    exact ⟨⟨k + 1, o_, t_, HN, hbel⟩, w_⟩
   ·have hbx : Op.bytesLess l[k] x = false := by rw [bytesLess_eq]; simpa using hx
    have HE := a_2 (j_e l x k hk HL.out (fun _ => hx))
    by_cases he : l[k] = x
    ·have heb : (l[k] == x) = true := by simpa using he
     have HR := a_2 (show f_l l x = l from by rw [HE.out, dif_pos hlt, if_pos he]); clear hca hx he
     go_wp2
     go_ret
     rw [HR.out]; exact ⟨⟨some ⟨ga, oa, none⟩, c, rfl, HA.out.below hbel, hc, hcm, fun e => by cases e⟩, hbel⟩
    ·have heb : (l[k] == x) = false := by simpa using he
     have HR := a_2 (show f_l l x = l.take k ++ x :: l.drop k from by rw [HE.out, dif_pos hlt, if_neg he]); have HC1 := a_2 (g_t hca (List.take_prefix k l)); have HC2 := a_2 (fun W (hW : Below wr.heap.size wr W) => k_2 (W := W) (fun j h => (hW.cell (p := ⟨ga, _, none⟩) hga).trans (hca j h)) k); clear hx he; have hck : ¬ c = k := by omega
     go_wp2_with (first
      | (at_builtin; refine wpList_append_own _ rfl _ _ 26 rfl wr.heap.size 9 i0 _ 1 16 underlying26 hi hz0 hz1 hz2 rfl d_ _ 0 [] rfl (b_f _ _ _ _) ⟨ga, oa, none⟩ k c ((l.take k).map str) rfl m_ HC1.out (h_J _) x_ o_ o_ ?_; intro v1 w1 o1 g1 _; obtain ⟨A1, c1, rfl⟩ := a_j o1; rw [Nat.zero_add, List.nil_append] at o1; have hs1 : Below wr.heap.size wr w1 := (b_ _ _).grown g1 (l_ _) (fun k hk => by cases hk); have hb1 := a_9 hs1 hbel; have hh1 := hb1.size)
      | (at_builtin; refine wpList_append_own _ rfl _ _ 26 rfl wr.heap.size 9 i0 _ 1 16 underlying26 hi hz0 hz1 hz2 rfl d_ _ _ _ rfl (o1.alloc _) ⟨w1.heap.size, 0, none⟩ 1 1 [str x] rfl rfl (by exact b_3 (heap_alloc_new _ _)) c_ x_ o_ (by have := hs1.size; simp; omega) ?_; intro v2 w2 o2 g2 _; obtain ⟨A2, c2, rfl⟩ := a_j o2; have hb2 : Below w.heap.size w w2 := (hb1.alloc hh1 _).grown g2 m_ (fun k hk => Nat.le_trans hsz (o1.lt k hk).1); have hs2 : Below wr.heap.size wr w2 := (hs1.alloc hs1.size _).grown g2 (by have := hs1.size; simp; omega) (fun k hk => (o1.lt k hk).1); have hh2 := hb2.size)
      | (at_builtin; refine wpList_append_own _ rfl _ _ 26 rfl wr.heap.size 9 i0 _ 1 16 underlying26 hi hz0 hz1 hz2 rfl d_ _ _ _ rfl o2 ⟨ga, oa + k, none⟩ (l.length - k) (c - k) ((l.drop k).map str) rfl s_ (HC2.out _ hs2) (h_J _) x_ o_ hs2.size ?_; intro v3 w3 o3 g3 _; obtain ⟨A3, c3, rfl⟩ := a_j o3; have hb3 : Below w.heap.size w w3 := hb2.grown g3 hh2 (fun k hk => Nat.le_trans hsz (o2.lt k hk).1)))
     have hL : (l.take k ++ x :: l.drop k).length = k + 1 + (l.length - k) := by simp; omega
     have hV : (l.take k ++ x :: l.drop k).map str = (l.take k).map str ++ [str x] ++ (l.drop k).map str := by simp
     have own : w3.ownsRow w.heap.size 9 1 (.slice A3 (l.take k ++ x :: l.drop k).length c3) (l.take k ++ x :: l.drop k).length ((l.take k ++ x :: l.drop k).map str) := by rw [hL, hV]; exact own_low o3 hsz
     have HO := a_2 own; have HLn := a_2 hL; clear o3 own hL hV
     go_wp2
     exact _ao
  ·obtain rfl : k = l.length := by omega
   have HE := a_2 (j_e l x l.length (l_ _) HL.out (fun h => absurd h (Nat.lt_irrefl _))); have HR := a_2 (show f_l l x = l ++ [x] from by rw [HE.out, dif_neg (Nat.lt_irrefl _)])
   cases A with
   | none =>
    obtain rfl := hn rfl; obtain rfl : l = [] := List.eq_nil_of_length_eq_zero o_; simp only [List.length_nil, List.nil_append] at *
    go_wp2_with (first
     | (at_builtin; refine wpList_append_own_none rfl _ _ _ rfl wr.heap.size 9 i0 1 underlying26 hi _ _ _ rfl (b_f _ _ _ _) rfl ?_)
     | (at_builtin; refine wpList_append_own _ rfl _ _ 26 rfl wr.heap.size 9 i0 _ 1 16 underlying26 hi hz0 hz1 hz2 rfl d_ _ _ _ rfl ((b_f wr wr.heap.size _ _).alloc _) ⟨wr.heap.size, 0, none⟩ 1 1 [str x] rfl rfl (by exact b_3 (heap_alloc_new _ _)) c_ x_ o_ s_ ?_; intro v2 w2 o2 g2 _; obtain ⟨A2, c2, rfl⟩ := a_j o2; have hb2 : Below w.heap.size w w2 := (hbel.alloc hsz _).grown g2 m_ (fun k hk => by cases hk); have hs2 : Below wr.heap.size wr w2 := ((b_ _ _).alloc (l_ _) _).grown g2 s_ (fun k hk => by cases hk); have hh2 := hb2.size)
     | (at_builtin; refine wpList_append_own_none rfl _ _ _ rfl wr.heap.size 9 i0 1 underlying26 hi _ _ _ rfl o2 rfl ?_))
    have own : w2.ownsRow w.heap.size 9 1 (.slice A2 [x].length c2) [x].length ([x].map str) := own_low o2 hsz; have HO := a_2 own; clear own o2
    go_ret
    rw [HR.out]; exact ⟨⟨A2, c2, rfl, e_h HO.out, (c_L HO.out).1, (c_L HO.out).2.1, fun e => ((c_L HO.out).2.2 e).2⟩, hb2⟩
   | some ad =>
    have HC1 := a_2 (show ∀ j u, (l.map str)[j]? = some u → wr.cell? (ad.add j) = some u from by
     rcases HA.out.below hbel with e | ⟨ga, oa, ha, hga, hca⟩
     ·rw [e]; intro j u hu; simp at hu
     ·injection ha with ha; subst ha
      exact g_t hca (List.prefix_refl l))
    by_cases hcl : c = l.length
    ·subst hcl
     go_wp2_with (first
      | (at_builtin; refine wpList_append_own _ rfl _ _ 26 rfl wr.heap.size 9 i0 _ 1 16 underlying26 hi hz0 hz1 hz2 rfl d_ _ 0 [] rfl (b_f _ _ _ _) ad l.length _ (l.map str) rfl s_ HC1.out (h_J _) x_ o_ o_ ?_; intro v1 w1 o1 g1 _; obtain ⟨A1, c1, rfl⟩ := a_j o1; rw [Nat.zero_add, List.nil_append] at o1; have hs1 : Below wr.heap.size wr w1 := (b_ _ _).grown g1 (l_ _) (fun k hk => by cases hk); have hb1 := a_9 hs1 hbel; have hh1 := hb1.size)
      | (at_builtin; refine wpList_append_own _ rfl _ _ 26 rfl wr.heap.size 9 i0 _ 1 16 underlying26 hi hz0 hz1 hz2 rfl d_ _ _ _ rfl (o1.alloc _) ⟨w1.heap.size, 0, none⟩ 1 1 [str x] rfl rfl (by exact b_3 (heap_alloc_new _ _)) c_ x_ o_ (by have := hs1.size; simp; omega) ?_; intro v2 w2 o2 g2 _; obtain ⟨A2, c2, rfl⟩ := a_j o2; have hb2 : Below w.heap.size w w2 := (hb1.alloc hh1 _).grown g2 m_ (fun k hk => Nat.le_trans hsz (o1.lt k hk).1); have hs2 : Below wr.heap.size wr w2 := (hs1.alloc hs1.size _).grown g2 (by have := hs1.size; simp; omega) (fun k hk => (o1.lt k hk).1); have hh2 := hb2.size)
      | (at_builtin; refine wpList_append_own _ rfl _ _ 26 rfl wr.heap.size 9 i0 _ 1 16 underlying26 hi hz0 hz1 hz2 rfl d_ _ _ _ rfl o2 _ 0 _ [] rfl rfl (fun j u hu => by simp at hu) s_ x_ o_ hs2.size ?_; intro v3 w3 o3 g3 _; obtain ⟨A3, c3, rfl⟩ := a_j o3; have hb3 : Below w.heap.size w w3 := hb2.grown g3 hh2 (fun k hk => Nat.le_trans hsz (o2.lt k hk).1)))
     have own : w3.ownsRow w.heap.size 9 1 (.slice A3 (l ++ [x]).length c3) (l ++ [x]).length ((l ++ [x]).map str) := by
      have e1 : (l ++ [x]).length = l.length + 1 := by simp
      have e2 : (l ++ [x]).map str = l.map str ++ [str x] := by simp
      rw [e1, e2]; have := own_low o3 hsz
      rwa [Nat.add_zero, List.append_nil] at this
     have HO := a_2 own; have HLn := a_2 (show (l ++ [x]).length = l.length + 1 from by simp); clear own o3
     go_wp2
     exact _ao
    ·skip
     go_wp2_with (first
      | (at_builtin; refine wpList_append_own _ rfl _ _ 26 rfl wr.heap.size 9 i0 _ 1 16 underlying26 hi hz0 hz1 hz2 rfl d_ _ 0 [] rfl (b_f _ _ _ _) ad l.length _ (l.map str) rfl s_ HC1.out (h_J _) x_ o_ o_ ?_; intro v1 w1 o1 g1 _; obtain ⟨A1, c1, rfl⟩ := a_j o1; rw [Nat.zero_add, List.nil_append] at o1; have hs1 : Below wr.heap.size wr w1 := (b_ _ _).grown g1 (l_ _) (fun k hk => by cases hk); have hb1 := a_9 hs1 hbel; have hh1 := hb1.size)
      | (at_builtin; refine wpList_append_own _ rfl _ _ 26 rfl wr.heap.size 9 i0 _ 1 16 underlying26 hi hz0 hz1 hz2 rfl d_ _ _ _ rfl (o1.alloc _) ⟨w1.heap.size, 0, none⟩ 1 1 [str x] rfl rfl (by exact b_3 (heap_alloc_new _ _)) c_ x_ o_ (by have := hs1.size; simp; omega) ?_; intro v2 w2 o2 g2 _; obtain ⟨A2, c2, rfl⟩ := a_j o2; have hb2 : Below w.heap.size w w2 := (hb1.alloc hh1 _).grown g2 m_ (fun k hk => Nat.le_trans hsz (o1.lt k hk).1); have hs2 : Below wr.heap.size wr w2 := (hs1.alloc hs1.size _).grown g2 (by have := hs1.size; simp; omega) (fun k hk => (o1.lt k hk).1); have hh2 := hb2.size)
      | (at_builtin; refine wpList_append_own _ rfl _ _ 26 rfl wr.heap.size 9 i0 _ 1 16 underlying26 hi hz0 hz1 hz2 rfl d_ _ _ _ rfl o2 _ 0 _ [] rfl rfl (fun j u hu => by simp at hu) s_ x_ o_ hs2.size ?_; intro v3 w3 o3 g3 _; obtain ⟨A3, c3, rfl⟩ := a_j o3; have hb3 : Below w.heap.size w w3 := hb2.grown g3 hh2 (fun k hk => Nat.le_trans hsz (o2.lt k hk).1)))
     have own : w3.ownsRow w.heap.size 9 1 (.slice A3 (l ++ [x]).length c3) (l ++ [x]).length ((l ++ [x]).map str) := by
      have e1 : (l ++ [x]).length = l.length + 1 := by simp
      have e2 : (l ++ [x]).map str = l.map str ++ [str x] := by simp
      rw [e1, e2]; have := own_low o3 hsz
      rwa [Nat.add_zero, List.append_nil] at this
     have HO := a_2 own; have HLn := a_2 (show (l ++ [x]).length = l.length + 1 from by simp); clear own o3
     go_wp2
     exact _ao
set_option maxRecDepth 512
theorem j_s : ∀ (l : List a_3) (x : a_3), (f_l l x).length ≤ l.length + 1
 | [], x => by simp [f_l]
 | y :: l, x => by
  unfold f_l
  split
  ·have := j_s l x
   simp only [List.length_cons]; omega
  ·split <;> simp
theorem i_g : ∀ (xs l : List a_3), (xs.foldl f_l l).length ≤ l.length + xs.length
 | [], l => by simp
 | x :: xs, l => by
  have h1 := i_g xs (f_l l x)
  have h2 := j_s l x
  simp only [List.foldl_cons, List.length_cons]; omega
theorem i_f (es : List Nd) (k : Nat) : (d_c (es.take k)).length ≤ k := by
 unfold d_c
 have h1 := i_g (b_W (es.take k)) []
 have h2 := i_s es k
 simp at h1; omega
theorem k_r {es : List Nd} {k : Nat} (h : k < es.length) (ho : es[k].op = 1) : d_c (es.take (k + 1)) = f_l (d_c (es.take k)) es[k].name := by
 unfold d_c
 rw [i_4 h ho, List.foldl_append]; rfl
theorem m_c {es : List Nd} {k : Nat} (h : k < es.length) (ho : es[k].op ≠ 1) : d_c (es.take (k + 1)) = d_c (es.take k) := by
 unfold d_c
 rw [j_h h ho]
set_option maxRecDepth 100000
theorem f_P (A : Option Addr) (es : List Nd) (c : Nat) (w : World) (h : b_q w A es) (hl : es.length ≤ 999998) :
  Calls prog 183 #[.slice A es.length c] w fun e w' => (∃ (B : Option Addr) (d : Nat), e = .returned (.slice B (d_c es).length d) ∧ d_y w' B (d_c es)) ∧ Below w.heap.size w w' := by
 have HA := a_2 h
 clear h
 go_enter func183, ntmps183
 go_wp2
 go_loopw [3, 4] (fun s i wr => ∃ (k : Nat) (B : Option Addr) (d : Nat), s = .slice B (d_c (es.take k)).length d ∧ i = .int .i64 k ∧ k ≤ es.length ∧ Hid (d_y wr B (d_c (es.take k))) ∧ (d_c (es.take k)).length ≤ d ∧ d ≤ maxLen ∧ Hid (B = none → d = 0) ∧ Below w.heap.size w wr) (fun _ i _ => es.length - (intOf i).toNat)
 case atStart => exact ⟨0, none, 0, rfl, rfl, o_, a_2 (.inl rfl), Nat.zero_le _, Nat.zero_le _, a_2 (fun _ => rfl), b_ _ _⟩
 case round =>
  obtain ⟨k, B, d, rfl, rfl, hk, HT, hd, hdm, HN, hbel⟩ := hrel
  have hcl := i_f es k
  by_cases hlt : k < es.length
  ·rcases HA.out.below hbel with e | ⟨g, off, rfl, hg, hc⟩
   ·exact absurd hlt e_
   obtain ⟨n0, n1, n2, n3, n4, n5⟩ := nd_of_cells hc k hlt; have HY := a_2 (fun ho => k_r (es := es) hlt ho); have HNo := a_2 (fun ho => m_c (es := es) hlt ho); clear hc; generalize hF : d_c (es.take k) = fl at *; clear hF; generalize es[k] = nd at *
   by_cases ho : nd.op = 1
   ·have HY2 := a_2 (HY.out ho)
    rw [ho] at n0
    go_wp2_with fail
    refine (i_v B fl d nd.name wr HT.out o_ hd hdm HN.out).mono ?_; rintro e w3 ⟨⟨B3, d3, rfl, hT3, h31, h32, h33⟩, hb3⟩; have HF := a_2 (And.intro hT3 (And.intro h31 (And.intro h32 h33))); clear hT3 h31 h32 h33
    go_wp2
    exact ⟨⟨k + 1, B3, d3, by rw [HY2.out], t_, o_, a_2 (by rw [HY2.out]; exact HF.out.1), by rw [HY2.out]; exact HF.out.2.1, HF.out.2.2.1, a_2 HF.out.2.2.2, a_9 hb3 hbel⟩, w_⟩
   ·have hob : (nd.op == 1) = false := beq_eq_false_iff_ne.2 ho
    have HN2 := a_2 (HNo.out ho)
    go_wp2
    exact ⟨⟨k + 1, B, d, by rw [HN2.out], t_, o_, a_2 (by rw [HN2.out]; exact HT.out), by rw [HN2.out]; exact hd, hdm, HN, hbel⟩, w_⟩
  ·obtain rfl : k = es.length := by omega
   rw [List.take_length] at HT hd ⊢
   go_wp2
   go_ret
   exact ⟨⟨B, d, rfl, HT.out⟩, hbel⟩
set_option maxRecDepth 512
theorem j_n (es : List Nd) (z : a_3) : z ∈ d_c es ↔ ∃ n ∈ es, n.op = 1 ∧ n.name = z := by
 unfold d_c
 rw [(i_B (b_W es) [] List.Pairwise.nil).2 z]
 unfold b_W
 simp [and_assoc]
end Go.Proofs.YtnpjibaolicbmaaGreatDoor
