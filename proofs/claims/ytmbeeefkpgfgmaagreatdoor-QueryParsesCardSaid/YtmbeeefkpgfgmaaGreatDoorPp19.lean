/- Parts of the proof. -/
import Derived.Test.YtmbeeefkpgfgmaaGreatDoorPp18
import Derived.Lib.SmallJoins
import Derived.Lib.SlBytesConst
import Derived.Test.YtmbeeefkpgfgmaaGreatDoorPp17
set_option linter.unusedVariables false
set_option linter.unusedSimpArgs false
namespace Go.Proofs.YtmbeeefkpgfgmaaGreatDoor
open Go.Proofs.Tryz
open Go.RowKit
def u_X (n : Int) (k j : Nat) (d : Int) : Prop := k ≤ 1095 ∧ j < 12 ∧ 1 ≤ d ∧ d ≤ j_I (1970 + k) (1 + j) ∧ d - 1 + g_e k + g_w (1970 + k) j = n
theorem q_V (f : Nat → Int) (n : Int) (h0 : f 0 ≤ n) : ∀ m : Nat, n < f m → ∃ k, k < m ∧ f k ≤ n ∧ n < f (k + 1)
 | 0, h => by omega
 | m + 1, h => by
  by_cases hm : n < f m
  ·obtain ⟨k, h1, h2, h3⟩ := q_V f n h0 m hm
   exact ⟨k, o_, h2, h3⟩
  ·exact ⟨m, o_, o_, h⟩
def s_8 : Nat → Int → a_3
 | 0, _ => []
 | k + 1, n => s_8 k (n / 10) ++ [UInt8.ofNat (48 + (n % 10).toNat)]
def Fmt (n : Int) (l : a_3) : Prop := ∃ (k j : Nat) (d : Int), u_X (n / 1440) k j d ∧ l = s_8 4 (1970 + k) ++ [45] ++ s_8 2 (1 + j) ++ [45] ++ s_8 2 d ++ [84] ++ s_8 2 (n / 60 % 24) ++ [58] ++ s_8 2 (n % 60)
open Classical in
noncomputable def w_Q (n : Int) : a_3 := if h : ∃ l, Fmt n l then h.choose else []
theorem d_S (a b : Array UInt8) : (⟨a⟩ : ByteArray) ++ ⟨b⟩ = ⟨a ++ b⟩ := by
 apply ByteArray.ext; simp [ByteArray.data_append]
theorem j_i (u : Nat) (h : ¬ u < 10) : Lib.decDigits u = Lib.decDigits (u / 10) ++ [UInt8.ofNat (48 + u % 10)] := by rw [Lib.decDigits, dif_neg h]
def u_w (c : UInt8) : a_3 := if c.toNat = 39 then [39, 39] else [c]
def s_l (l : a_3) : a_3 := 39 :: (l.flatMap u_w ++ [39])
theorem d_W {m : Nat} {l : a_3} (h : a_p m l = true) : l.length ≤ m := by
 unfold a_p at h
 simp at h
 exact h.1
theorem i_M {l : a_3} (h : a_K 24 l = true) : l.length ≤ 49 := by
 unfold a_K at h
 split at h
 ·simp at h
  have h1 := d_W h.1
  have h2 := d_W h.2
  rw [List.length_take] at h1
  rw [List.length_drop] at h2
  omega
 ·have := d_W h; omega
theorem l_0 {k n : Int} {x : a_3} (h : c_i k x n = true) : (k = 0 ∧ x = [] ∧ n = 0) ∨ (k = 1 ∧ a_K 24 x = true ∧ n = 0) ∨ (k = 2 ∧ x = [] ∧ 0 ≤ n ∧ n ≤ 1073741824) ∨ (k = 3 ∧ x.length ≤ 64 ∧ n = 0) ∨ (k = 4 ∧ x = [] ∧ 0 ≤ n ∧ n ≤ 575999999) ∨ (k = 5 ∧ n_6 x = true ∧ n = 0) := by
 unfold c_i at h
 split at h
 ·simp_all
 split at h
 ·simp_all
 split at h
 ·simp_all
 split at h
 ·simp_all
 split at h
 ·simp_all
 split at h
 ·simp_all
 ·cases h
theorem p_x {x : a_3} (h : n_6 x = true) : x.length ≤ 2 ∧ x ≠ [] := by
 unfold n_6 at h
 rw [List.contains_iff_mem] at h
 have : ∀ x ∈ a_l, x.length ≤ 2 ∧ x ≠ [] := by decide
 exact this x h
theorem j_K {k n : Int} {x : a_3} (h : c_i k x n = true) : x.length ≤ 64 := by
 rcases l_0 h with ⟨_, rfl, _⟩ | ⟨_, h2, _⟩ | ⟨_, rfl, _⟩ | ⟨_, h2, _⟩ | ⟨_, rfl, _⟩ | ⟨_, h2, _⟩
 ·simp
 ·have := i_M h2; omega
 ·simp
 ·exact h2
 ·simp
 ·have := (p_x h2).1; omega
theorem g_I {n : Nat} (h : n ≤ 1073741824) : (Lib.decDigits n).length ≤ 100 := by
 have : ∀ (f u : Nat), u < 10 ^ (f + 1) → (Lib.decDigits u).length ≤ f + 1
  := by
  intro f
  induction f with
  | zero => intro u hu; rw [Lib.decDigits_one o_]; simp
  | succ f ih =>
   intro u hu
   by_cases h10 : u < 10
   ·rw [Lib.decDigits_one h10]; simp
   ·rw [j_i u h10, List.length_append]
    have := ih (u / 10) (by rw [Nat.pow_succ] at hu; omega)
    simp; omega
 have := this 9 n o_
 omega
structure GlobJ (w : World) : Prop where
 glob : Glob w
 len : ∃ m, w.cell? ⟨4, 0, none⟩ = some (.int .i64 m)
 tab : Lib.TabIs prog w "internal/strconv.uint64pow10" .u64 Lib.pow10Tab
theorem u_Q : prog.globalNamed "internal/strconv.uint64pow10" = some 6 := by kernel_rfl
theorem t_t {w : World} {n : String} {g : Nat} {cs : Array Value} (hg : prog.globalNamed n = some g) (h : w.var? prog n = some cs) (hs : 0 < cs.size) : g < w.heap.size := by
 have := World.var?_cell hg h 0
 rw [Array.getElem?_eq_getElem hs] at this
 exact World.block_lt_of_cell? w _ this
theorem GlobJ.below {w w' : World} (h : GlobJ w) (hb : Below w.heap.size w w') : GlobJ w' := by
 refine ⟨h.glob.below hb, ?_, ?_⟩
 ·obtain ⟨m, hm⟩ := h.len
  exact ⟨m, by rw [hb.cell (p := ⟨4, 0, none⟩) (World.block_lt_of_cell? w _ hm)]; exact hm⟩
 ·exact var?_below hb u_Q (t_t u_Q h.tab d_) h.tab
theorem m_F (w : World) (k : Nat) (os : Array Obj) : Below w.heap.size w (Go.Sort.grow (w.drewN k) os) :=
 ⟨rfl, rfl, rfl, by simp [Go.Sort.grow, World.drewN], fun i hi => by
  show ((w.drewN k).heap ++ os)[i]? = _
  rw [Array.getElem?_append_left (by simpa [World.drewN] using hi)]
  rfl⟩
theorem o_R {c : UInt8} (h : c_K c = true) : b_S c = true := by unfold b_S; rw [h]; rfl
theorem f_l {m : Nat} {l : a_3} : a_p m l = true ↔ l.length ≤ m ∧ (∃ c r, l = c :: r ∧ c_K c = true) ∧ ∀ x ∈ l, b_S x = true := by
 unfold a_p
 cases l with
 | nil => simp
 | cons c r =>
  simp only [Bool.and_eq_true, decide_eq_true_eq, List.all_eq_true]
  constructor
  ·rintro ⟨h1, h2, h3⟩
   refine ⟨h1, ⟨c, r, rfl, h2⟩, fun x hx => ?_⟩
   rcases List.mem_cons.1 hx with rfl | hx
   ·exact o_R h2
   ·exact h3 x hx
  ·rintro ⟨h1, ⟨c', r', h2, h3⟩, h4⟩
   injection h2 with h5 h6; subst h5 h6; exact ⟨h1, h3, fun x hx => h4 x (List.mem_cons_of_mem _ hx)⟩
def t_l : a_3 := [32, 44, 41, 40, 59, 58, 124, 10]
def Stop (rest : a_3) : Prop := rest = [] ∨ ∃ c r, rest = c :: r ∧ c ∈ t_l
theorem f_6 {p : UInt8 → Bool} {x rest : a_3} (h : ∀ c ∈ x, p c = true) (hr : rest = [] ∨ ∃ c r, rest = c :: r ∧ p c = false) : (x ++ rest).takeWhile p = x := by
 rw [List.takeWhile_append_of_pos h]
 rcases hr with rfl | ⟨c, r, rfl, hc⟩
 ·simp
 ·rw [List.takeWhile_cons, hc]; simp
theorem Stop.no {p : UInt8 → Bool} {rest : a_3} (h : Stop rest) (hp : ∀ c ∈ t_l, p c = false) : rest = [] ∨ ∃ c r, rest = c :: r ∧ p c = false := by
 rcases h with h | ⟨c, r, h, hc⟩
 ·exact .inl h
 ·exact .inr ⟨c, r, h, hp c hc⟩
theorem o_f {c : UInt8} (h : b_S c = true) : c.toNat ≠ 46 := by
 intro e
 have : c = 46 := UInt8.toNat_inj.1 (by rw [e]; rfl)
 subst this
 exact absurd h d_
theorem n_V {x : a_3} (h : ∀ c ∈ x, b_S c = true) : c_w x = x.length := by
 have := f_6 (p := fun c => c.toNat != 46) (x := x) (rest := []) (fun c hc => by have := o_f (h c hc); simpa using this) (.inl rfl)
 rw [List.append_nil] at this
 unfold c_w; rw [this]
theorem q_q {a b : a_3} (h : ∀ c ∈ a, b_S c = true) : c_w (a ++ 46 :: b) = a.length := by
 have := f_6 (p := fun c => c.toNat != 46) (x := a) (rest := 46 :: b) (fun c hc => by have := o_f (h c hc); simpa using this) (.inr ⟨46, b, rfl, d_⟩)
 unfold c_w; rw [this]
theorem k_m {x : a_3} (h : a_p 24 x = true) : a_K 24 x = true := by
 unfold a_K
 rw [n_V (f_l.1 h).2.2, if_neg (Nat.lt_irrefl _)]; exact h
theorem k_X {a b : a_3} (h : a_p 24 a = true) (h2 : a_p 24 b = true) : a_K 24 (a ++ 46 :: b) = true := by
 unfold a_K
 rw [q_q (f_l.1 h).2.2, if_pos s_]
 simp [h, h2]
theorem j_P (c : UInt8) (r : a_3) : e_Y (c :: r) = if c_K c = true then c_l (c :: r) else if c_T c = true then i_O (c :: r) else if c.toNat = 39 then i_h (c :: r) else if c.toNat = 64 then atS (c :: r) else m_5 (c :: r) := rfl
def r_V (t : Tok) : Prop := t.ok = true ∧ t.kind ≠ 0
theorem e_y {l : a_3} {n : Nat} (hn : n ≤ a_s l) (h1 : 1 ≤ n) (h2 : n ≤ 24) (hh : ∃ c r, l = c :: r ∧ c_K c = true) : a_p 24 (l.take n) = true := by
 refine f_l.2 ⟨by rw [List.length_take]; omega, ?_, fun x hx => ?_⟩
 ·obtain ⟨c, r, rfl, hc⟩ := hh
  obtain ⟨m, rfl⟩ : ∃ m, n = m + 1 := ⟨n - 1, o_⟩
  exact ⟨c, r.take m, rfl, hc⟩
 ·obtain ⟨i, hi, rfl⟩ := List.mem_iff_getElem.1 hx
  rw [List.length_take] at hi
  obtain ⟨h3, h4⟩ := h_c l i o_
  rw [List.getElem_take]; exact h4
theorem m_k {c : UInt8} {r : a_3} {t : Tok} {n : Nat} (hc : c_K c = true) (h : c_l (c :: r) = .ok (t, n)) : r_V t := by
 have hp := h_M (r := r) hc
 have hl := c_D (c :: r)
 unfold c_l at h
 generalize hlst : c :: r = l at *
 have hh : ∃ c r, l = c :: r ∧ c_K c = true := ⟨c, r, hlst.symm, hc⟩
 split at h
 ·cases h
 rename_i h24
 split at h
 ·rename_i hd
  split at h
  ·cases h
  rename_i hk
  injection h with h
  injection h with h3 h4
  subst h3
  refine ⟨?_, s_⟩
  show c_i 1 _ 0 = true
  rw [j_7, show ((0 : Int) == 0) = true from rfl, Bool.and_true]
  unfold p_7 at hd
  split at hd
  ·rename_i hlt
   simp only [Bool.and_eq_true, beq_iff_eq] at hd; have e46 : l[a_s l] = 46 := UInt8.toNat_inj.1 (by rw [hd.1]; rfl); have hdr : l.drop (a_s l) = 46 :: l.drop (a_s l + 1) := by rw [List.drop_eq_getElem_cons o_, e46]
   have e : l.take (a_s l + (1 + a_s (l.drop (a_s l + 1)))) = l.take (a_s l) ++ 46 :: (l.drop (a_s l + 1)).take (a_s (l.drop (a_s l + 1))) := by
    rw [List.take_add, hdr, Nat.add_comm 1, List.take_succ_cons]
   rw [e]; have hhead : ∃ c r, l.drop (a_s l + 1) = c :: r ∧ c_K c = true := ⟨l[a_s l + 1], l.drop (a_s l + 1 + 1), List.drop_eq_getElem_cons hlt, hd.2⟩; refine k_X (e_y (l_ _) hp o_ hh) (e_y (l_ _) ?_ o_ hhead); obtain ⟨c2, r2, e2, hc2⟩ := hhead; rw [e2]; exact h_M hc2
  ·cases hd
 ·injection h with h
  injection h with h3 h4
  subst h3
  refine ⟨?_, s_⟩
  show c_i 1 _ 0 = true
  rw [j_7, show ((0 : Int) == 0) = true from rfl, Bool.and_true]
  exact k_m (e_y (l_ _) hp o_ hh)
theorem o_e {l : a_3} {t : Tok} {n : Nat} (h : i_O l = .ok (t, n)) : r_V t := by
 rw [h_E] at h
 split at h
 ·cases h
 split at h
 ·cases h
 rename_i hv
 injection h with h
 injection h with h3 h4
 subst h3
 have hb := j_s ⟨l.toArray⟩ (c_0 l) (l_ _)
 rw [p_M] at hb
 refine ⟨?_, s_⟩
 show c_i 2 [] (f_X (l.take (c_0 l))) = true
 rw [k_U]
 simp; omega
theorem n_t {l : a_3} {t : Tok} {n : Nat} (h : i_h l = .ok (t, n)) : r_V t := by
 unfold i_h at h
 split at h
 ·cases h
 ·split at h
  ·cases h
  ·rename_i hl
   injection h with h; injection h with h3 h4; subst h3; refine ⟨?_, s_⟩
   show c_i 3 _ 0 = true
   rw [o_l]
   simp; omega
theorem m_n {l : a_3} {m : Int} (h : c_Y l = .ok m) : 0 ≤ m ∧ m ≤ 575999999 := by
 have hm : bs ⟨l.toArray⟩ = l := rfl
 have he := j_H ⟨l.toArray⟩
 rw [hm] at he
 unfold c_Y at h
 split at h
 ·cases h
 rename_i hf
 have hf' : i_N a_P (bs ⟨l.toArray⟩) = true := by rw [hm]; simpa using hf
 obtain ⟨p1, p2, p3, p4, p5⟩ := n_L hf'
 rw [b_B, hm] at p4 p5
 split at h
 ·cases h
 rename_i n hn
 have hd := l_j hn
 split at h
 ·cases h
 rename_i hr
 injection h with h
 have q4 := c_U _ p4 m_
 have q5 := c_U _ p5 m_
 omega
theorem p_I {l : a_3} {t : Tok} {n : Nat} (h : atS l = .ok (t, n)) : r_V t := by
 unfold atS at h
 split at h
 ·cases h
 split at h
 ·cases h
 ·rename_i m hm
  injection h with h
  injection h with h3 h4
  subst h3
  obtain ⟨h0, h1⟩ := m_n hm
  refine ⟨?_, s_⟩
  show c_i 4 [] m = true
  rw [o_T]
  simp; omega
theorem o_J {l : a_3} {t : Tok} {n : Nat} (h : m_5 l = .ok (t, n)) : r_V t := by
 unfold m_5 at h
 split at h
 ·rename_i x hx
  injection h with h
  injection h with h3 h4
  subst h3
  refine ⟨?_, s_⟩
  show c_i 5 x 0 = true
  rw [j_5]
  have : n_6 x = true := by unfold n_6; rw [List.contains_iff_mem]; exact List.mem_of_find?_eq_some hx
  rw [this]; rfl
 ·cases h
theorem o_B {c : UInt8} {r : a_3} {t : Tok} {n : Nat} (h : e_Y (c :: r) = .ok (t, n)) : r_V t := by
 rw [j_P] at h
 split at h
 ·rename_i hc; exact m_k hc h
 split at h
 ·exact o_e h
 split at h
 ·exact n_t h
 split at h
 ·exact p_I h
 ·exact o_J h
theorem d_C : ∀ (f : Nat) (l : a_3) (i : Nat) (ts : List Tok), a_U f l i = .ok ts → a_O ts = true
 | 0, l, i, ts, h => by injection h with h; subst h; rfl
 | f + 1, [], i, ts, h => by injection h with h; subst h; rfl
 | f + 1, c :: r, i, ts, h => by
  rw [d_D] at h
  split at h
  ·exact d_C f _ _ _ h
  ·split at h
   ·exact d_C f _ _ _ h
   ·split at h
    ·cases h
    ·rename_i t n ho
     split at h
     ·cases h
     ·rename_i ts' hg
      injection h with h; subst h; have ih := d_C f _ _ _ hg; obtain ⟨h1, h2⟩ := o_B ho
      cases ts' with
      | nil => cases ih
      | cons u us =>
       have h1' : ({ t with off := i } : Tok).ok = true := h1
       simp [a_O, h1', h2, ih]
theorem i_0 {l : a_3} {ts : List Tok} (h : b_z l = .ok ts) : a_O ts = true := by
 unfold b_z at h
 split at h
 ·cases h
 ·exact d_C _ _ _ _ h
theorem n_d {l : a_3} {e : Int} (h : c_Y l = .error e) : e ≠ 0 := by
 unfold c_Y at h
 split at h
 ·injection h with h; subst h; decide
 split at h
 ·injection h with h; subst h; decide
 split at h
 ·injection h with h; subst h; decide
 ·cases h
theorem q_9 {l : a_3} {e : Int} (h : e_Y l = .error e) : e ≠ 0 := by
 cases l with
 | nil => injection h with h; subst h; decide
 | cons c r =>
  rw [j_P] at h
  split at h
  ·unfold c_l at h
   split at h
   ·injection h with h; subst h; decide
   split at h
   ·split at h
    ·injection h with h; subst h; decide
    ·cases h
   ·cases h
  split at h
  ·rw [h_E] at h
   split at h
   ·injection h with h; subst h; decide
   split at h
   ·injection h with h; subst h; decide
   ·cases h
  split at h
  ·unfold i_h at h
   split at h
   ·injection h with h; subst h; decide
   ·split at h
    ·injection h with h; subst h; decide
    ·cases h
  split at h
  ·unfold atS at h
   split at h
   ·injection h with h; subst h; decide
   split at h
   ·rename_i e2 he
    injection h with h; subst h; exact n_d he
   ·cases h
  ·unfold m_5 at h
   split at h
   ·cases h
   ·injection h with h; subst h; decide
theorem e_5 : ∀ (f : Nat) (l : a_3) (i : Nat) (x : Nat × Int), a_U f l i = .error x → x.2 ≠ 0
 | 0, l, i, x, h => by cases h
 | f + 1, [], i, x, h => by cases h
 | f + 1, c :: r, i, x, h => by
  rw [d_D] at h
  split at h
  ·exact e_5 f _ _ _ h
  ·split at h
   ·exact e_5 f _ _ _ h
   ·split at h
    ·rename_i e he
     injection h with h; subst h; exact q_9 he
    ·split at h
     ·rename_i y hy
      injection h with h; subst h; exact e_5 f _ _ _ hy
     ·cases h
theorem m_l {l : a_3} {x : Nat × Int} (h : b_z l = .error x) : x.2 ≠ 0 := by
 unfold b_z at h
 split at h
 ·injection h with h; subst h; decide
 ·exact e_5 _ _ _ _ h
structure Pc where
 text : a_3
 level : Int
 num : Bool
def pc0 : Pc := ⟨[], 0, false⟩
def Pc.at' (p : Pc) (l : Int) : a_3 := if p.level < l then [40] ++ p.text ++ [41] else p.text
noncomputable def w_H (v : Vl) : Pc :=
 if v.kind = 1 then ⟨if v.num = 1 then d_I else c_o, 8, false⟩
 else if v.kind = 2 then (if v.num < 0 then ⟨[45] ++ Lib.decDigits (-v.num).toNat, 7, true⟩ else ⟨Lib.decDigits v.num.toNat, 8, true⟩)
 else if v.kind = 3 then ⟨s_l v.text, 8, false⟩
 else if v.kind = 4 then ⟨64 :: w_Q v.num, 8, false⟩
 else ⟨d_K, 8, false⟩
def w_O (o : Int) : Option (a_3 × Int × Int × Int) :=
 if o = 15 then some ([111, 114], 0, 0, 1)
 else if o = 14 then some ([97, 110, 100], 1, 1, 2)
 else if o = 10 then some ([61], 3, 4, 4)
 else if o = 11 then some ([33, 61], 3, 4, 4)
 else if o = 12 then some ([60], 3, 4, 4)
 else if o = 13 then some ([60, 61], 3, 4, 4)
 else if o = 9 then some ([43, 43], 4, 4, 5)
 else if o = 4 then some ([43], 5, 5, 6)
 else if o = 5 then some ([45], 5, 5, 6)
 else if o = 6 then some ([42], 6, 6, 7)
 else if o = 7 then some ([47], 6, 6, 7)
 else if o = 8 then some ([37], 6, 6, 7)
 else none
def fnS (o : Int) (x : a_3) : a_3 :=
 if o = 16 then [105, 115, 110, 117, 108, 108] else if o = 17 then [105, 102] else if o = 18 then [99, 111, 97, 108, 101, 115, 99, 101]
 else if o = 19 then [108, 101, 110, 103, 116, 104] else if o = 20 then m_0 else x
def w_J (n : Nd) (l : List Pc) : List a_3 := l.map Pc.text ++ (if n.op = 20 then [n.name] else [])
noncomputable def t_a (n : Nd) (l : List Pc) : Pc := match w_O n.op with
 | some (t, o, a, b) => ⟨(l.getD 0 pc0).at' a ++ [32] ++ t ++ [32] ++ (l.getD 1 pc0).at' b, o, false⟩
 | none =>
  if n.op = 0 then w_H n.val
  else if n.op = 1 then ⟨n.name, 8, false⟩
  else if n.op = 2 then ⟨[110, 111, 116, 32] ++ (l.getD 0 pc0).at' 2, 2, false⟩
  else if n.op = 3 then (if (l.getD 0 pc0).num = true then ⟨[45, 40] ++ (l.getD 0 pc0).text ++ [41], 7, false⟩ else ⟨[45] ++ (l.getD 0 pc0).at' 7, 7, false⟩)
  else ⟨fnS n.op n.name ++ [40] ++ List.intercalate [44, 32] (w_J n l) ++ [41], 8, false⟩
noncomputable def u_c (n : Nd) (st : List Pc) : List Pc := st.take (st.length - n.ar.toNat) ++ [t_a n (st.drop (st.length - n.ar.toNat))]
noncomputable def w_p : List Nd → List Pc → List Pc
 | [], st => st
 | n :: es, st => w_p es (u_c n st)
noncomputable def v_x (es : List Nd) : a_3 × Int := if a_x es = 0 then (((w_p es []).getD 0 pc0).text, 0) else ([], a_x es)
def Pc.cells (p : Pc) : List Value := [str p.text, .int .i64 p.level, .bool p.num]
abbrev Pc.agg (p : Pc) : Value := .agg #[str p.text, .int .i64 p.level, .bool p.num]
abbrev e_9 (l : List Pc) : List Value := l.flatMap Pc.cells
theorem o_g (n : Int) (w : World) (hG : GlobJ w) (h0 : -1073741824 ≤ n) (h1 : n ≤ 1073741824) :
  Calls prog 206 #[.int .i64 n] w fun e w' => e = .returned (str (if n < 0 then [45] ++ Lib.decDigits (-n).toNat else Lib.decDigits n.toNat)) ∧ Below w.heap.size w w' := by
 refine (Tryz.strconv_Itoa n o_ o_ w hG.tab).mono fun e w' ⟨he, hb⟩ => ⟨?_, ?_⟩
 ·rw [he]
  unfold Lib.itoa
  have : n.natAbs = (-n).toNat ∨ ¬ n < 0 := by omega
  split
  ·rename_i hn
   rw [show n.natAbs = (-n).toNat by omega]; rfl
  ·rfl
 ·obtain ⟨k, os, rfl⟩ := hb
  exact m_F w k os
theorem i_6 : ∀ (l : List Pc) (i : Nat) (h : i < l.length), (e_9 l)[i * 3]? = some (str l[i].text) ∧ (e_9 l)[i * 3 + 1]? = some (.int .i64 l[i].level) ∧ (e_9 l)[i * 3 + 2]? = some (.bool l[i].num)
 | [], i, h => by simp at h
 | n :: es, 0, _ => ⟨rfl, rfl, rfl⟩
 | n :: es, i + 1, h => by
  obtain ⟨h1, h2, h3⟩ := i_6 es i (by simpa using h)
  have e : ∀ j, (e_9 (n :: es))[(i + 1) * 3 + j]? = (e_9 es)[i * 3 + j]? := by
   intro j; rw [show e_9 (n :: es) = n.cells ++ e_9 es from rfl, List.getElem?_append_right (by simp [Pc.cells]; omega)]
   congr 1
   simp [Pc.cells]; omega
  exact ⟨by simpa using (e 0).trans h1, (e 1).trans h2, (e 2).trans h3⟩
def r_i (w : World) (g off : Nat) (p : Pc) : Prop := w.cell? ⟨g, off, none⟩ = some (str p.text) ∧ w.cell? ⟨g, off + 1, none⟩ = some (.int .i64 p.level) ∧ w.cell? ⟨g, off + 2, none⟩ = some (.bool p.num)
def l_i (w : World) (A : Option Addr) (l : List Pc) : Prop :=
 l = [] ∨ ∃ g off, A = some ⟨g, off, none⟩ ∧ g < w.heap.size ∧ ∀ j u, (e_9 l)[j]? = some u → w.cell? ⟨g, off + j, none⟩ = some u
theorem f_p {w : World} {g off : Nat} {l : List Pc} (hc : ∀ j u, (e_9 l)[j]? = some u → w.cell? ⟨g, off + j, none⟩ = some u) (i : Nat) (hi : i < l.length) : r_i w g (off + i * 3) l[i] := by
 obtain ⟨h1, h2, h3⟩ := i_6 l i hi
 exact ⟨hc _ _ h1, hc _ _ h2, hc _ _ h3⟩
theorem l_i.below {w w' : World} {A : Option Addr} {l : List Pc} (h : l_i w A l) (hb : Below w.heap.size w w') : l_i w' A l := by
 rcases h with h | ⟨g, off, hA, hg, hc⟩
 ·exact .inl h
 ·exact .inr ⟨g, off, hA, Nat.lt_of_lt_of_le hg hb.size, fun j u hu => (hb.cell (p := ⟨g, _, none⟩) hg).trans (hc j u hu)⟩
theorem l_i.one {w : World} {A : Option Addr} {p : Pc} {l : List Pc} (h : l_i w A (p :: l)) : ∃ g off, A = some ⟨g, off, none⟩ ∧ g < w.heap.size ∧ r_i w g off p := by
 rcases h with h | ⟨g, off, hA, hg, hc⟩
 ·cases h
 ·have := f_p hc 0 s_
  simp only [Nat.zero_mul, Nat.add_zero, List.getElem_cons_zero] at this
  exact ⟨g, off, hA, hg, this⟩
theorem l_i.two {w : World} {A : Option Addr} {p q : Pc} {l : List Pc} (h : l_i w A (p :: q :: l)) : ∃ g off, A = some ⟨g, off, none⟩ ∧ g < w.heap.size ∧ r_i w g off p ∧ r_i w g (off + 3) q := by
 rcases h with h | ⟨g, off, hA, hg, hc⟩
 ·cases h
 ·have h0 := f_p hc 0 s_
  have h1 := f_p hc 1 s_
  simp only [Nat.zero_mul, Nat.add_zero, List.getElem_cons_zero, Nat.one_mul, List.getElem_cons_succ] at h0 h1
  exact ⟨g, off, hA, hg, h0, h1⟩
theorem r_i.below {w w' : World} {g off : Nat} {p : Pc} (h : r_i w g off p) (hg : g < w.heap.size) (hb : Below w.heap.size w w') : r_i w' g off p :=
 ⟨(hb.cell (p := ⟨g, _, none⟩) hg).trans h.1, (hb.cell (p := ⟨g, _, none⟩) hg).trans h.2.1, (hb.cell (p := ⟨g, _, none⟩) hg).trans h.2.2⟩
def h_R : List a_3 := [[], [99, 111, 117, 110, 116], [118, 97, 108, 117, 101, 115], [115, 117, 109], [109, 105, 110], [109, 97, 120], [100, 105, 115, 116, 105, 110, 99, 116], [109, 101, 97, 110]]
def f_i : List a_3 := [[], [99, 111, 117, 110, 116], [], [115, 117, 109], [], [], [], [], [110, 117, 109, 98, 101, 114], [114, 97, 110, 107], [108, 97, 103], [108, 101, 97, 100], [102, 105, 114, 115, 116], [108, 97, 115, 116]]
def d_Z : List a_3 := [[102, 114, 111, 109], [119, 104, 101, 114, 101], [100, 101, 114, 105, 118, 101], [115, 101, 108, 101, 99, 116], [106, 111, 105, 110], [108, 101, 102, 116], [115, 101, 109, 105], [97, 110, 116, 105], [117, 110, 105, 111, 110], [101, 120, 99, 101, 112, 116], [100, 105, 115, 116, 105, 110, 99, 116], [103, 114, 111, 117, 112], [119, 105, 110, 100, 111, 119]]
def wAs : a_3 := [32, 61, 32]
def g_f (l : List a_3) : a_3 := List.intercalate [44, 32] l
def i_g (s p : a_3) : a_3 := if p = [] then s else s ++ [32] ++ p
noncomputable def r_b (n : Int) : a_3 := if n = 0 then [] else [44, 32] ++ Lib.decDigits n.toNat
def fnQ (op f : Int) : a_3 := (if op = 11 then h_R else f_i).getD f.toNat []
noncomputable def f_g (op : Int) (x : It) : a_3 := fnQ op x.fn ++ [40] ++ x.col ++ r_b x.num ++ [41]
noncomputable def q_z (op : Int) (x : It) : a_3 := if op = 2 then (v_x x.expr).1 else if op = 4 ∨ op = 5 then x.col else f_g op x
noncomputable def s_T (op : Int) (x : It) : a_3 := x.name ++ wAs ++ q_z op x
noncomputable def i_C (op : Int) (l : List It) : a_3 := g_f (l.map (s_T op))
def u_o (a b : List a_3) : List a_3 := List.zipWith (fun x y => x ++ wAs ++ y) a b
noncomputable def d_x (s : Stp) : a_3 :=
 let w := d_Z.getD s.op.toNat []
 if s.op = 1 then w ++ [32] ++ (v_x s.cond).1
 else if s.op = 2 then w ++ [32] ++ i_C 2 s.items
 else if s.op = 3 then w ++ [32] ++ g_f s.names
 else if s.op = 4 ∨ s.op = 5 ∨ s.op = 6 ∨ s.op = 7 then w ++ [32] ++ s.src ++ [32, 111, 110, 32] ++ g_f (u_o s.names s.others) ++ (if s.items = [] then [] else [58, 32] ++ i_C s.op s.items)
 else if s.op = 11 then i_g (i_g w (g_f s.names) ++ [58]) (i_C 11 s.items)
 else if s.op = 12 then i_g (i_g (i_g w (g_f s.names) ++ [32, 98, 121]) (g_f s.others) ++ [58]) (i_C 12 s.items)
 else i_g w s.src
noncomputable def k_z (ss : List Stp) : a_3 := List.intercalate [32, 124, 32] (ss.map d_x)
noncomputable def q_K (ss : List Stp) : a_3 × Int := if a_E ss ≠ 0 then ([], a_E ss) else if 65536 < (k_z ss).length then ([], 2) else (k_z ss, 0)
structure ItQ (op : Int) (x : It) : Prop where
 name : x.name.length ≤ 24
 col : x.col.length ≤ 24
 num : 0 ≤ x.num ∧ x.num ≤ 4096
 expr : op = 2 → a_x x.expr = 0
 grp : op = 11 → 1 ≤ x.fn ∧ x.fn ≤ 7
 win : op = 12 → x.fn = 1 ∨ x.fn = 3 ∨ (8 ≤ x.fn ∧ x.fn ≤ 13)
structure StQ (s : Stp) : Prop where
 op : 0 ≤ s.op ∧ s.op ≤ 12
 src : s.src.length ≤ 49
 nl : s.names.length ≤ 12
 names : ∀ x ∈ s.names, x.length ≤ 24
 ol : s.others.length ≤ 12
 others : ∀ x ∈ s.others, x.length ≤ 24
 same : s.op = 4 ∨ s.op = 5 ∨ s.op = 6 ∨ s.op = 7 → s.names.length = s.others.length
 il : s.items.length ≤ 12
 items : ∀ x ∈ s.items, ItQ s.op x
 cond : s.op = 1 → a_x s.cond = 0
 jit : s.op = 6 ∨ s.op = 7 → s.items = []
 srn : s.op = 0 ∨ s.op = 8 ∨ s.op = 9 → s.src ≠ []
 sre : s.op = 10 → s.src = []
theorem g_h {f : Nat → Int} : ∀ {n : Nat}, b_p f n = 0 → ∀ j, j < n → f j = 0
 | 0, _, j, hj => absurd hj (Nat.not_lt_zero _)
 | n + 1, h, j, hj => by
  unfold b_p at h
  split at h
  ·rename_i h0
   by_cases e : j = n
   ·subst e; exact h
   ·exact g_h h0 j o_
  ·rename_i h0; exact absurd h h0
theorem j_8 {x : a_3} (h : nmB x = true) : x.length ≤ 24 := d_W (m := 24) (by unfold nmB at h; simp only [Bool.and_eq_true] at h; exact h.1)
theorem o_W {x : a_3} (h : qlB x = true) : x.length ≤ 49 ∧ x ≠ [] := by
 unfold qlB at h
 simp only [Bool.and_eq_true] at h
 refine ⟨i_M h.1, fun e => ?_⟩
 rw [e] at h
 exact absurd h.1 d_
theorem d_E {l : List a_3} {k : Nat} (h : a_Y l k = 0) : l.length ≤ 12 ∧ ∀ x ∈ l, x.length ≤ 24 := by
 unfold a_Y at h
 split at h
 ·exact absurd h d_
 rename_i hk
 refine ⟨o_, fun x hx => ?_⟩
 obtain ⟨i, hi, rfl⟩ := List.getElem_of_mem hx
 have h1 := g_h h i hi
 unfold i_j at h1
 rw [show l.getD i [] = l[i] from by simp [hi]] at h1
 by_cases hn : nmB l[i] = true
 ·exact j_8 hn
 ·rw [if_neg hn] at h1
  exact absurd h1 d_
theorem f_L {its : List It} {m : Nat} {f c n e : Bool} {own : It → Int} (h : a_F its m f c n e own = 0) :
  its.length ≤ 12 ∧ ∀ x ∈ its, x.name.length ≤ 24 ∧ (f = false → x.fn = 0) ∧ (c = false → x.col = []) ∧ (n = false → x.num = 0) ∧ (e = false → x.expr = []) ∧ own x = 0 := by
 unfold a_F at h
 split at h
 ·exact absurd h d_
 rename_i hk
 refine ⟨o_, fun x hx => ?_⟩
 obtain ⟨i, hi, rfl⟩ := List.getElem_of_mem hx
 have h1 := g_h h i hi
 have e0 : its.getD i it0 = its[i] := by simp [hi]
 simp only [e0] at h1
 by_cases hz : d_v its i f c n e = 0
 ·rw [if_pos hz] at h1
  unfold d_v at hz
  simp only [e0] at hz
  split at hz
  ·exact absurd hz d_
  rename_i hu
  split at hz
  ·exact absurd hz d_
  rename_i hnm
  refine ⟨j_8 (by simpa using hnm), fun hf => ?_, fun hf => ?_, fun hf => ?_, fun hf => ?_, h1⟩
  ·by_cases h9 : its[i].fn = 0
   ·exact h9
   ·exact absurd (.inl ⟨hf, h9⟩) hu
  ·by_cases h9 : its[i].col = []
   ·exact h9
   ·exact absurd (.inr (.inl ⟨hf, h9⟩)) hu
  ·by_cases h9 : its[i].num = 0
   ·exact h9
   ·exact absurd (.inr (.inr (.inl ⟨hf, h9⟩))) hu
  ·by_cases h9 : its[i].expr = []
   ·exact h9
   ·exact absurd (.inr (.inr (.inr ⟨hf, h9⟩))) hu
 ·rw [if_neg hz] at h1
  exact absurd h1 hz
theorem j_T {x : a_3} (h : c_f x = 0) : x.length ≤ 24 := by
 unfold c_f at h
 split at h
 ·exact j_8 (by assumption)
 ·exact absurd h d_
theorem f_U {x : a_3} (h : d_3 x = 0) : x.length ≤ 49 ∧ x ≠ [] := by
 unfold d_3 at h
 split at h
 ·rename_i e
  rw [e]
  exact ⟨d_, d_⟩
 split at h
 ·exact o_W (by assumption)
 ·exact absurd h d_
theorem n_v {x : a_3} (h : g_X x = 0) : x.length ≤ 49 ∧ x ≠ [] := by
 unfold g_X at h
 split at h
 ·exact o_W (by assumption)
 ·exact absurd h d_
theorem b_Z {a b : Int} (h : b_8 a b = 0) : a = 0 ∧ b = 0 := by
 unfold b_8 at h
 split at h
 ·exact ⟨by assumption, h⟩
 ·exact absurd h (by assumption)
theorem k_c {l : List a_3} {x : It} (h : c_e l x = 0) : x.col.length ≤ 24 ∧ 1 ≤ x.fn ∧ x.fn ≤ 7 := by
 unfold c_e at h
 split at h
 ·exact absurd h d_
 split at h
 ·exact absurd h d_
 rename_i h2
 split at h
 ·exact ⟨j_T h, o_, o_⟩
 ·rename_i h3
  have h4 : x.fn = 1 := by omega
  by_cases h5 : x.col = []
  ·rw [h5]
   exact ⟨s_, o_, o_⟩
  ·exact absurd (.inr (.inr ⟨h4, h5⟩)) h2
theorem m_J {x : It} (h : b_I x = 0) : x.col.length ≤ 24 ∧ 0 ≤ x.num ∧ x.num ≤ 4096 ∧ (x.fn = 1 ∨ x.fn = 3 ∨ (8 ≤ x.fn ∧ x.fn ≤ 13)) := by
 unfold b_I at h
 split at h
 ·exact absurd h d_
 rename_i h1
 split at h
 ·exact absurd h d_
 rename_i h2
 split at h
 ·exact absurd h d_
 rename_i h3
 have hf : (e_l x.fn).1 = true := by
  by_cases h9 : (e_l x.fn).1 = true
  ·exact h9
  ·exact absurd (.inl (by simpa using h9)) h1
 have hcol : (e_l x.fn).2.1 = false → x.col = [] := fun h8 => by
  by_cases h9 : x.col = []
  ·exact h9
  ·exact absurd (.inr (.inl ⟨h8, h9⟩)) h1
 have hnum : (e_l x.fn).2.2 = false → x.num = 0 := fun h8 => by
  by_cases h9 : x.num = 0
  ·exact h9
  ·exact absurd (.inr (.inr ⟨h8, h9⟩)) h1
 refine ⟨?_, ?_, ?_, ?_⟩
 ·cases hc : (e_l x.fn).2.1 with
  | false => rw [hcol hc]; simp
  | true =>
   refine j_8 ?_
   by_cases h9 : nmB x.col = true
   ·exact h9
   ·exact absurd ⟨hc, by simpa using h9⟩ h2
 ·cases hc : (e_l x.fn).2.2 with
  | false => rw [hnum hc]; simp
  | true =>
   by_cases h9 : x.num < 1
   ·exact absurd ⟨hc, .inl h9⟩ h3
   ·omega
 ·cases hc : (e_l x.fn).2.2 with
  | false => rw [hnum hc]; simp
  | true =>
   by_cases h9 : 4096 < x.num
   ·exact absurd ⟨hc, .inr h9⟩ h3
   ·omega
 ·unfold e_l at hf
  split at hf
  ·omega
  split at hf
  ·omega
  split at hf
  ·omega
  ·exact absurd hf s_
theorem m_m {s : Stp} (h : d_0 s = 0) : 0 ≤ s.op ∧ s.op ≤ 12 ∧ a_W s.op s.src s.names.length s.others.length s.items.length s.cond.length = false ∧ opS s = 0 := by
 unfold d_0 at h
 split at h
 ·exact absurd h d_
 rename_i hn
 refine ⟨o_, o_, ?_, h⟩
 cases hu : a_W s.op s.src s.names.length s.others.length s.items.length s.cond.length with
 | false => rfl
 | true => exact absurd (.inr (.inr hu)) hn
theorem q_l {s : Stp} (h : d_0 s = 0) : StQ s := by
 obtain ⟨h0, h12, hu, ho⟩ := m_m h
 clear h
 obtain ⟨op, src, names, others, items, cond⟩ := s
 simp only at h0 h12 hu
 have n0 : ∀ x ∈ ([] : List a_3), x.length ≤ 24 := fun _ h => absurd h s_
 have i0 : ∀ x ∈ ([] : List It), ItQ op x := fun _ h => absurd h s_
 have hc : op = 0 ∨ op = 1 ∨ op = 2 ∨ op = 3 ∨ (op = 4 ∨ op = 5) ∨ (op = 6 ∨ op = 7) ∨ (op = 8 ∨ op = 9) ∨ op = 10 ∨ op = 11 ∨ op = 12 := by omega
 rcases hc with rfl | rfl | rfl | rfl | hc | hc | hc | rfl | rfl | rfl
 ·simp [a_W, and_assoc] at hu
  obtain ⟨rfl, rfl, rfl, rfl⟩ := hu
  have := n_v (show g_X src = 0 from ho)
  exact ⟨s_, this.1, s_, n0, s_, n0, s_, s_, i0, s_, s_, fun _ => this.2, s_⟩
 ·simp [a_W, and_assoc] at hu
  obtain ⟨rfl, rfl, rfl, rfl⟩ := hu
  exact ⟨s_, s_, s_, n0, s_, n0, s_, s_, i0, fun _ => ho, s_, s_, s_⟩
 ·simp [a_W, and_assoc] at hu
  obtain ⟨rfl, rfl, rfl, rfl⟩ := hu
  have hi := f_L (show a_F items 1 false false false true (fun x => a_x x.expr) = 0 from ho)
  exact ⟨s_, s_, s_, n0, s_, n0, s_, hi.1, fun x hx => ⟨(hi.2 x hx).1, by rw [(hi.2 x hx).2.2.1 rfl]; simp, by rw [(hi.2 x hx).2.2.2.1 rfl]; simp, fun _ => (hi.2 x hx).2.2.2.2.2, s_, s_⟩, s_, s_, s_, s_⟩
 ·simp [a_W, and_assoc] at hu
  obtain ⟨rfl, rfl, rfl, rfl⟩ := hu
  have hl := d_E (show a_Y names 1 = 0 from ho)
  exact ⟨s_, s_, hl.1, hl.2, s_, n0, s_, s_, i0, s_, s_, s_, s_⟩
 ·have hj : g_d ⟨op, src, names, others, items, cond⟩ = 0 := by rcases hc with rfl | rfl <;> exact ho
  obtain ⟨j1, hj⟩ := b_Z hj
  obtain ⟨j2, hj⟩ := b_Z hj
  obtain ⟨j3, hj⟩ := b_Z hj
  obtain ⟨j4, hj⟩ := b_Z hj
  simp only at j1 j2 j3 j4 hj
  have hi := f_L hj
  have l1 := d_E j2
  have l2 := d_E j3
  have hs : names.length = others.length := by
   by_cases h9 : names.length = others.length
   ·exact h9
   ·rw [if_neg h9] at j4
    exact absurd j4 d_
  refine ⟨⟨h0, h12⟩, (f_U j1).1, l1.1, l1.2, l2.1, l2.2, fun _ => hs, hi.1, fun x hx => ⟨(hi.2 x hx).1, j_T (hi.2 x hx).2.2.2.2.2, by rw [(hi.2 x hx).2.2.2.1 rfl]; simp, fun h9 => ?_, fun h9 => ?_, fun h9 => ?_⟩, fun h9 => ?_, fun h9 => ?_, fun h9 => ?_, fun h9 => ?_⟩
  all_goals (simp only at h9; exfalso; omega)
 ·have hj : g_d ⟨op, src, names, others, items, cond⟩ = 0 := by rcases hc with rfl | rfl <;> exact ho
  have hit : items = [] := by rcases hc with rfl | rfl <;> simp [a_W, and_assoc] at hu <;> exact hu.1
  obtain ⟨j1, hj⟩ := b_Z hj
  obtain ⟨j2, hj⟩ := b_Z hj
  obtain ⟨j3, hj⟩ := b_Z hj
  obtain ⟨j4, hj⟩ := b_Z hj
  simp only at j1 j2 j3 j4 hj
  have l1 := d_E j2
  have l2 := d_E j3
  have hs : names.length = others.length := by
   by_cases h9 : names.length = others.length
   ·exact h9
   ·rw [if_neg h9] at j4
    exact absurd j4 d_
  subst hit
  refine ⟨⟨h0, h12⟩, (f_U j1).1, l1.1, l1.2, l2.1, l2.2, fun _ => hs, s_, i0, fun h9 => ?_, fun _ => rfl, fun h9 => ?_, fun h9 => ?_⟩
  all_goals (simp only at h9; exfalso; omega)
 ·have hr : d_3 src = 0 := by rcases hc with rfl | rfl <;> exact ho
  have hu2 : names = [] ∧ others = [] ∧ items = [] ∧ cond = [] := by rcases hc with rfl | rfl <;> simp [a_W, and_assoc] at hu <;> exact hu
  obtain ⟨rfl, rfl, rfl, rfl⟩ := hu2
  refine ⟨⟨h0, h12⟩, (f_U hr).1, s_, n0, s_, n0, fun h9 => ?_, s_, i0, fun h9 => ?_, fun h9 => ?_, fun _ => (f_U hr).2, fun h9 => ?_⟩
  all_goals (simp only at h9; exfalso; omega)
 ·simp [a_W, and_assoc] at hu
  obtain ⟨rfl, rfl, rfl, rfl, rfl⟩ := hu
  exact ⟨s_, s_, s_, n0, s_, n0, s_, s_, i0, s_, s_, s_, s_⟩
 ·simp [a_W, and_assoc] at hu
  obtain ⟨rfl, rfl, rfl⟩ := hu
  have hg : f_W ⟨11, [], names, [], items, []⟩ = 0 := ho
  obtain ⟨g1, g2⟩ := b_Z hg
  simp only at g1 g2
  split at g2
  ·exact absurd g2 d_
  have hi := f_L g2
  have l1 := d_E g1
  exact ⟨s_, s_, l1.1, l1.2, s_, n0, s_, hi.1, fun x hx => ⟨(hi.2 x hx).1, (k_c (hi.2 x hx).2.2.2.2.2).1, by rw [(hi.2 x hx).2.2.2.1 rfl]; simp, s_, fun _ => (k_c (hi.2 x hx).2.2.2.2.2).2, s_⟩, s_, s_, s_, s_⟩
 ·simp [a_W, and_assoc] at hu
  obtain ⟨rfl, rfl⟩ := hu
  have hg : e_O ⟨12, [], names, others, items, []⟩ = 0 := ho
  obtain ⟨g1, g2⟩ := b_Z hg
  obtain ⟨g3, g4⟩ := b_Z g2
  simp only at g1 g3 g4
  have hi := f_L g4
  have l1 := d_E g1
  have l2 := d_E g3
  have hw := fun x hx => m_J (hi.2 x hx).2.2.2.2.2
  exact ⟨s_, s_, l1.1, l1.2, l2.1, l2.2, s_, hi.1, fun x hx => ⟨(hi.2 x hx).1, (hw x hx).1, ⟨(hw x hx).2.1, (hw x hx).2.2.1⟩, s_, s_, fun _ => (hw x hx).2.2.2⟩, s_, s_, s_, s_⟩
theorem i_I (sep : a_3) : ∀ l : List a_3, (List.intercalate sep l).length ≤ (l.map List.length).sum + sep.length * l.length
 | [] => by simp
 | [x] => by simp [List.intercalate]
 | x :: y :: l => by
  have h := i_I sep (y :: l)
  have e : List.intercalate sep (x :: y :: l) = x ++ sep ++ List.intercalate sep (y :: l) := by simp [List.intercalate, List.intersperse]
  rw [e]
  simp only [List.length_append, List.map_cons, List.sum_cons, List.length_cons, Nat.mul_add, Nat.mul_one] at h ⊢
  omega
theorem q_B {M : Nat} : ∀ {l : List a_3}, (∀ x ∈ l, x.length ≤ M) → (l.map List.length).sum ≤ M * l.length
 | [], _ => by simp
 | x :: l, h => by
  have h1 := h x s_
  have h2 := q_B (l := l) (fun y hy => h y (by simp [hy]))
  simp only [List.map_cons, List.sum_cons, List.length_cons, Nat.mul_add, Nat.mul_one]
  omega
theorem j_b {M : Nat} {l : List a_3} (h : ∀ x ∈ l, x.length ≤ M) (hl : l.length ≤ 12) : (g_f l).length ≤ M * 12 + 24 := by
 have h1 := i_I [44, 32] l
 have h2 := q_B h
 have h3 : M * l.length ≤ M * 12 := Nat.mul_le_mul_left M hl
 unfold g_f
 simp only [List.length_cons, List.length_nil] at h1
 omega
def paS (ts : List Tok) (a : Int) : List Nd × Int × Int :=
 if a_O ts = false then ([], 0, 8)
 else if a < 0 ∨ (ts.length : Int) ≤ a then ([], 0, 1)
 else match prs ts ((ts.length - a.toNat) * 10 + 9) 0 a.toNat 0 with
  | .ok es j => if a_x es = 0 then (es, (j : Int), 0) else ([], (j : Int), a_x es)
  | .err x j => ([], (j : Int), x)
  | .out => ([], 0, 0)
structure QSt where
 i : Nat
 e : Int
def QSt.fail (s : QSt) (x : Int) : QSt := if s.e = 0 then ⟨s.i, x⟩ else s
def isT (ts : List Tok) (s : QSt) (k : Int) (x : a_3) : Bool := s.e == 0 && (tk ts s.i).kind == k && (tk ts s.i).text == x
def a_c (ts : List Tok) (s : QSt) (k : Int) (x : a_3) : QSt := if isT ts s k x = true then ⟨s.i + 1, 0⟩ else s.fail 3
def a_e (ts : List Tok) (s : QSt) : Bool := s.e == 0 && (tk ts s.i).kind == 1
def a_7 (ts : List Tok) (s : QSt) : a_3 × QSt := if a_e ts s = true then ((tk ts s.i).text, ⟨s.i + 1, 0⟩) else ([], s.fail 3)
def l_X (ts : List Tok) (s : QSt) : Int × QSt := if s.e = 0 ∧ (tk ts s.i).kind = 2 then ((tk ts s.i).num, ⟨s.i + 1, 0⟩) else (0, s.fail 3)
def b_J (ts : List Tok) (s : QSt) : List Nd × QSt := if s.e ≠ 0 then ([], s) else ((paS ts s.i).1, ⟨(paS ts s.i).2.1.toNat, (paS ts s.i).2.2⟩)
def b_t : a_3 := [44]
def wEq : a_3 := [61]
def a_M : a_3 := [58]
def q_D : a_3 := [124]
def f_0 : a_3 := [40]
def c_Z : a_3 := [41]
def wOn : a_3 := [111, 110]
def wBy : a_3 := [98, 121]
def d_7 : a_3 := [102, 114, 111, 109]
def d_1 {α : Type} (ts : List Tok) (part : α → QSt → α × QSt) : Nat → α → QSt → α × QSt
 | 0, c, s => (c, s)
 | G + 1, c, s => if isT ts (part c s).2 5 b_t = true then d_1 ts part G (part c s).1 ⟨(part c s).2.i + 1, 0⟩ else part c s
def a_z {α : Type} (d : Bool) (ts : List Tok) (part : α → QSt → α × QSt) (c : α) (s : QSt) : α × QSt := if s.e ≠ 0 ∧ d = false then (c, s) else d_1 ts part (ts.length + 1) c s
def f_J (ts : List Tok) (c : List a_3) (s : QSt) : List a_3 × QSt := (c ++ [(a_7 ts s).1], (a_7 ts s).2)
def c_1 (ts : List Tok) (c : List a_3 × List a_3) (s : QSt) : (List a_3 × List a_3) × QSt :=
 let a := a_7 ts s
 let b := a_7 ts (a_c ts a.2 5 wEq)
 ((c.1 ++ [a.1], c.2 ++ [b.1]), b.2)
def h_P (ts : List Tok) (s : QSt) : Int × QSt := if isT ts s 5 b_t = true then l_X ts ⟨s.i + 1, 0⟩ else (0, s)
def inT (ts : List Tok) (s : QSt) : a_3 × Int × QSt :=
 if a_e ts s = true then ((a_7 ts s).1, (h_P ts (a_7 ts s).2).1, (h_P ts (a_7 ts s).2).2) else ([], 0, s)
def d_2 : List (a_3 × Int) → a_3 → Int
 | [], _ => 0
 | (k, n) :: r, x => if x = k then n else d_2 r x
def d_y : List (a_3 × Int) := [([109, 101, 97, 110], 7), ([100, 105, 115, 116, 105, 110, 99, 116], 6), ([109, 97, 120], 5), ([109, 105, 110], 4), ([115, 117, 109], 3), ([118, 97, 108, 117, 101, 115], 2), ([99, 111, 117, 110, 116], 1)]
def c_g : List (a_3 × Int) := [([108, 97, 115, 116], 13), ([102, 105, 114, 115, 116], 12), ([108, 101, 97, 100], 11), ([108, 97, 103], 10), ([114, 97, 110, 107], 9), ([110, 117, 109, 98, 101, 114], 8), ([115, 117, 109], 3), ([99, 111, 117, 110, 116], 1)]
def b_o : List (a_3 × Int) := [([119, 105, 110, 100, 111, 119], 12), ([103, 114, 111, 117, 112], 11), ([100, 105, 115, 116, 105, 110, 99, 116], 10), ([101, 120, 99, 101, 112, 116], 9), ([117, 110, 105, 111, 110], 8), ([97, 110, 116, 105], 7), ([115, 101, 109, 105], 6), ([108, 101, 102, 116], 5), ([106, 111, 105, 110], 4), ([115, 101, 108, 101, 99, 116], 3), ([100, 101, 114, 105, 118, 101], 2), ([119, 104, 101, 114, 101], 1)]
def a_u (d : Bool) (ts : List Tok) (s : QSt) : List a_3 × QSt := a_z d ts (f_J ts) [] s
def a_t (d : Bool) (ts : List Tok) (s : QSt) : (List a_3 × List a_3) × QSt := a_z d ts (c_1 ts) ([], []) s
structure Go (n : Nat) (s t : QSt) : Prop where
 lt : s.i < n → t.i < n
 mono : t.e = 0 → s.e = 0 ∧ s.i ≤ t.i
theorem Go.refl (n : Nat) (s : QSt) : Go n s s := ⟨id, fun h => ⟨h, l_ _⟩⟩
theorem Go.trans {n : Nat} {a b c : QSt} (h : Go n a b) (g : Go n b c) : Go n a c :=
 ⟨fun x => g.lt (h.lt x), fun e => ⟨(h.mono (g.mono e).1).1, Nat.le_trans (h.mono (g.mono e).1).2 (g.mono e).2⟩⟩
theorem h_o (n : Nat) (s : QSt) {x : Int} (hx : x ≠ 0) : Go n s (s.fail x) := by
 unfold QSt.fail
 split
 ·exact ⟨id, fun h => absurd h hx⟩
 ·exact Go.refl _ _
theorem b_3 {ts : List Tok} {s : QSt} {k : Int} {x : a_3} (h : isT ts s k x = true) : s.e = 0 ∧ (tk ts s.i).kind = k ∧ (tk ts s.i).text = x := by
 unfold isT at h
 simp at h
 exact ⟨h.1.1, h.1.2, h.2⟩
theorem a_D {ts : List Tok} {s : QSt} (h : a_e ts s = true) : s.e = 0 ∧ (tk ts s.i).kind = 1 := by
 unfold a_e at h
 simp at h
 exact h
theorem h_b {ts : List Tok} {s : QSt} (h : s.e ≠ 0) (k : Int) (x : a_3) : isT ts s k x = false := by unfold isT; simp [h]
theorem h_z {ts : List Tok} {s : QSt} (h : s.e ≠ 0) : a_e ts s = false := by unfold a_e; simp [h]
theorem b_e {ts : List Tok} (hv : a_O ts = true) {s : QSt} (hi : s.i < ts.length) {k : Int} (hk : k ≠ 0) {x : a_3} (h : isT ts s k x = true) : s.i + 1 < ts.length :=
 b_0 hv hi (by rw [(b_3 h).2.1]; exact hk)
theorem b_r {ts : List Tok} (hv : a_O ts = true) {s : QSt} (hi : s.i < ts.length) (h : a_e ts s = true) : s.i + 1 < ts.length :=
 b_0 hv hi (by rw [(a_D h).2]; decide)
theorem a_H {ts : List Tok} (hv : a_O ts = true) (s : QSt) {k : Int} (hk : k ≠ 0) (x : a_3) : Go ts.length s (a_c ts s k x) := by
 unfold a_c
 split
 ·rename_i h
  exact ⟨fun hi => b_e hv hi hk h, fun _ => ⟨(b_3 h).1, Nat.le_succ _⟩⟩
 ·exact h_o _ _ d_
theorem a_V {ts : List Tok} (hv : a_O ts = true) (s : QSt) : Go ts.length s (a_7 ts s).2 := by
 unfold a_7
 split
 ·rename_i h
  exact ⟨fun hi => b_r hv hi h, fun _ => ⟨(a_D h).1, Nat.le_succ _⟩⟩
 ·exact h_o _ _ d_
theorem o_M {ts : List Tok} (hv : a_O ts = true) (s : QSt) : Go ts.length s (l_X ts s).2 := by
 unfold l_X
 split
 ·rename_i h
  exact ⟨fun hi => b_0 hv hi (by rw [h.2]; decide), fun _ => ⟨h.1, Nat.le_succ _⟩⟩
 ·exact h_o _ _ d_
theorem h_8 {ts : List Tok} (hv : a_O ts = true) {i : Nat} (hi : i < ts.length) :
  ∃ j : Nat, (paS ts i).2.1 = (j : Int) ∧ j < ts.length ∧ ((paS ts i).2.2 = 0 → i ≤ j) ∧ b_9 (paS ts i).1 ∧ (paS ts i).1.length ≤ 1000000 := by
 have hf := b_6 hv ((ts.length - i) * 10 + 9) 0 i 0 hi (fun e => absurd e o_)
 have hn := e_n hv ((ts.length - i) * 10 + 9) 0 i 0 hi o_ (fun e => absurd e o_) o_
 have h0 : b_9 [] := fun n hn => absurd hn s_
 unfold paS
 rw [if_neg (by rw [hv]; decide), if_neg o_]
 simp only [Int.toNat_natCast]
 cases hp : prs ts ((ts.length - i) * 10 + 9) 0 i 0 with
 | ok es j =>
  rw [hp] at hf
  simp only
  split
  ·rename_i h
   have := p_A h; exact ⟨j, rfl, hf.2.1, fun _ => Nat.le_of_lt hf.1, hf.2.2.2, z_⟩
  ·rename_i h
   exact ⟨j, rfl, hf.2.1, fun e => absurd e h, h0, s_⟩
 | err x j =>
  rw [hp] at hf
  simp only
  exact ⟨j, rfl, hf.1, fun e => by rcases hf.2 with h | h <;> omega, h0, s_⟩
 | out => exact absurd hp hn
theorem l_5 {ts : List Tok} (hv : a_O ts = true) (s : QSt) (hi : s.i < ts.length) : Go ts.length s (b_J ts s).2 := by
 unfold b_J
 obtain ⟨j, h1, h2, h3, _, _⟩ := h_8 hv hi
 split
 ·exact Go.refl _ _
 ·rename_i h
  refine ⟨fun _ => by simp [h1, h2], fun e => ⟨o_, ?_⟩⟩
  simp only [h1, Int.toNat_natCast]
  exact h3 e
theorem n_u {ts : List Tok} (hv : a_O ts = true) (s : QSt) (hi : s.i < ts.length) : b_9 (b_J ts s).1 ∧ (b_J ts s).1.length ≤ 1000000 := by
 unfold b_J
 obtain ⟨j, _, _, _, h4, h5⟩ := h_8 hv hi
 split
 ·exact ⟨fun n hn => absurd hn s_, s_⟩
 ·exact ⟨h4, h5⟩
theorem o_Q {ts : List Tok} (hv : a_O ts = true) (s : QSt) : Go ts.length s (h_P ts s).2 := by
 unfold h_P
 split
 ·rename_i h
  exact Go.trans ⟨fun hi => b_e hv hi d_ h, fun _ => ⟨(b_3 h).1, Nat.le_succ _⟩⟩ (o_M hv _)
 ·exact Go.refl _ _
theorem u_j {ts : List Tok} (hv : a_O ts = true) (s : QSt) : Go ts.length s (inT ts s).2.2 := by
 unfold inT
 split
 ·exact (a_V hv s).trans (o_Q hv _)
 ·exact Go.refl _ _
def f_5 {α : Type} (ts : List Tok) (part : α → QSt → α × QSt) : Prop := ∀ c s, s.i < ts.length → Go ts.length s (part c s).2
theorem c_s {ts : List Tok} (hv : a_O ts = true) : f_5 ts (f_J ts) := fun _ s _ => a_V hv s
theorem f_B {ts : List Tok} (hv : a_O ts = true) : f_5 ts (c_1 ts) := fun _ s _ =>
 ((a_V hv s).trans (a_H hv (a_7 ts s).2 (k := 5) d_ wEq)).trans (a_V hv _)
theorem j_e {α : Type} {ts : List Tok} (hv : a_O ts = true) {part : α → QSt → α × QSt} (hp : f_5 ts part) : ∀ G c s, s.i < ts.length → Go ts.length s (d_1 ts part G c s).2
 | 0, _, s, _ => Go.refl _ s
 | G + 1, c, s, hi => by
  have h1 := hp c s hi
  unfold d_1
  split
  ·rename_i h
   have hn := b_e hv (h1.lt hi) d_ h; exact h1.trans (Go.trans ⟨fun _ => hn, fun _ => ⟨(b_3 h).1, Nat.le_succ _⟩⟩ (j_e hv hp G _ ⟨(part c s).2.i + 1, 0⟩ hn))
  ·exact h1
theorem b_x {α : Type} {ts : List Tok} (hv : a_O ts = true) {part : α → QSt → α × QSt} (hp : f_5 ts part) (d : Bool) (c : α) (s : QSt) (hi : s.i < ts.length) : Go ts.length s (a_z d ts part c s).2 := by
 unfold a_z
 split
 ·exact Go.refl _ _
 ·exact j_e hv hp _ c s hi
theorem h_l {α : Type} {ts : List Tok} (hv : a_O ts = true) {part : α → QSt → α × QSt} (hp : f_5 ts part) (I : Nat → α → Prop) (hI : ∀ k c s, s.i < ts.length → I k c → I (k + 1) (part c s).1) :
  ∀ G k c s, s.i < ts.length → I k c → ∃ m, m ≤ k + G ∧ I m (d_1 ts part G c s).1
 | 0, k, c, _, _, h => ⟨k, l_ _, h⟩
 | G + 1, k, c, s, hi, h => by
  have h1 := hp c s hi
  have h2 := hI k c s hi h
  unfold d_1
  split
  ·rename_i hc
   obtain ⟨m, hm, h3⟩ := h_l hv hp I hI G (k + 1) (part c s).1 ⟨(part c s).2.i + 1, 0⟩ (b_e hv (h1.lt hi) d_ hc) h2; exact ⟨m, o_, h3⟩
  ·exact ⟨k + 1, o_, h2⟩
theorem e_D {α : Type} {ts : List Tok} (hv : a_O ts = true) {part : α → QSt → α × QSt} (hp : f_5 ts part) (I : Nat → α → Prop) (hI : ∀ k c s, s.i < ts.length → I k c → I (k + 1) (part c s).1) (d : Bool) (c : α) (s : QSt) (hi : s.i < ts.length) (h : I 0 c) :
  ∃ m, m ≤ ts.length + 1 ∧ I m (a_z d ts part c s).1 := by
 unfold a_z
 split
 ·exact ⟨0, Nat.zero_le _, h⟩
 ·obtain ⟨m, hm, h1⟩ := h_l hv hp I hI (ts.length + 1) 0 c s hi h
  exact ⟨m, o_, h1⟩
end Go.Proofs.YtmbeeefkpgfgmaaGreatDoor
