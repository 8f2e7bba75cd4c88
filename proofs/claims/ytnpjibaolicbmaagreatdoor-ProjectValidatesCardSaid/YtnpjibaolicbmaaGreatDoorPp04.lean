/- Parts of the proof. -/
import Derived.Test.YtnpjibaolicbmaaGreatDoorPp03
import Derived.Deep.RegionHeld3
import Derived.Maps.Own
import Derived.Maps.OwnOps
import Derived.Maps.OwnSet
import Derived.BigGuardPart
set_option linter.unusedVariables false
set_option linter.unusedSimpArgs false
set_option maxHeartbeats 4000000
namespace Go.Proofs.YtnpjibaolicbmaaGreatDoor
open Go.Proofs.Tryz
section
open Go.RowKit
theorem l_4 (ls : List a_3) (j : Nat) (h : j < ls.length) : (ls.map fun l => (⟨l.toArray⟩ : ByteArray)).getD j ByteArray.empty = ⟨(ls.getD j []).toArray⟩ := by
 simp [List.getD_eq_getElem?_getD, h]
theorem i_J (b off cp : Nat) (ls : List a_3) (x : ByteArray) (w : World) (hn : ls.length ≤ 9223372036854775807) (hc : ∀ j, j < ls.length → w.cell? ⟨b, off + j, none⟩ = some (str (ls.getD j []))) :
  Calls prog 85 #[.slice (some ⟨b, off, none⟩) ls.length cp, .string x] w fun e w' => e = .returned (.bool (c_N ls (bs x))) ∧ w = w' := by
 refine (Tryz.slices_Contains_string b off ls.length cp (ls.map fun l => ⟨l.toArray⟩) x w s_ hn (fun j hj => ?_)).mono fun e w' ⟨h1, h2⟩ => ⟨?_, h2.symm⟩
 ·have hj' : j < ls.length := by simpa using hj
  rw [hc j hj', l_4 ls j hj']
 ·rw [h1, List.take_of_length_le s_, e_G]
theorem d_R (s : ByteArray) : bs s = s.toList := (ByteArray.toList_eq s).symm
theorem n_6 (s : ByteArray) : s.toList.length = s.size := by rw [← d_R]; rfl
structure Vl where
 kind : Int
 num : Int
 text : a_3
def Vl.cells (v : Vl) : List Value := [.int .i64 v.kind, .int .i64 v.num, str v.text]
abbrev Vl.agg (v : Vl) : Value := .agg #[.int .i64 v.kind, .int .i64 v.num, str v.text]
def vl0 : Vl := ⟨0, 0, []⟩
def b_M (k n : Int) (x : a_3) : Bool :=
 if k = 0 then n == 0 && x.isEmpty
 else if k = 1 then (n == 0 || n == 1) && x.isEmpty
 else if k = 2 then (decide (-1073741824 ≤ n) && decide (n ≤ 1073741824)) && x.isEmpty
 else if k = 3 then n == 0 && decide (x.length ≤ 64)
 else if k = 4 then (decide (0 ≤ n) && decide (n ≤ 575999999)) && x.isEmpty
 else false
theorem h_4 (k n : Int) (s : ByteArray) (w : World) : Calls prog 265 #[.agg #[.int .i64 k, .int .i64 n, .string s]] w fun e w' => e = .returned (.bool (b_M k n (bs s))) ∧ Below w.heap.size w w' := by
 have HL := a_2 (n_6 s)
 have HB := a_2 (d_R s)
 go_enter func265, ntmps265
 go_wp2
 all_goals
  go_ret
  refine ⟨a_a ?_, by first | assumption | exact zX⟩
  rw [HB.out]
  have hlen := HL.out
  have hbs := HB.out
  clear HL HB
  simp_all [b_M] <;> omega
theorem g_T (k n : Int) (s : ByteArray) (w : World) : Calls prog 205 #[.agg #[.int .i64 k, .int .i64 n, .string s]] w fun e w' => e = .returned (.bool (b_M k n (bs s))) ∧ Below w.heap.size w w' := by
 have HL := a_2 (n_6 s)
 have HB := a_2 (d_R s)
 go_enter func205, ntmps205
 go_wp2
 all_goals
  go_ret
  refine ⟨a_a ?_, by first | assumption | exact zX⟩
  rw [HB.out]
  have hlen := HL.out
  have hbs := HB.out
  clear HL HB
  simp_all [b_M] <;> omega
structure Nd where
 op : Int
 val : Vl
 name : a_3
 arity : Int
def Nd.cells (n : Nd) : List Value := [.int .i64 n.op, .int .i64 n.val.kind, .int .i64 n.val.num, str n.val.text, str n.name, .int .i64 n.arity]
abbrev Nd.agg (n : Nd) : Value := .agg #[.int .i64 n.op, .int .i64 n.val.kind, .int .i64 n.val.num, str n.val.text, str n.name, .int .i64 n.arity]
abbrev a_D (es : List Nd) : List Value := es.flatMap Nd.cells
theorem d_z : ∀ es : List Nd, (a_D es).length = es.length * 6
 | [] => rfl
 | n :: es => by
  have := d_z es
  rw [show a_D (n :: es) = n.cells ++ a_D es from rfl, List.length_append, this, List.length_cons]
  simp [Nd.cells]; omega
theorem e_s : ∀ (es : List Nd) (i : Nat) (h : i < es.length), (a_D es)[i * 6]? = some (.int .i64 es[i].op) ∧ (a_D es)[i * 6 + 1]? = some (.int .i64 es[i].val.kind) ∧ (a_D es)[i * 6 + 2]? = some (.int .i64 es[i].val.num) ∧
  (a_D es)[i * 6 + 3]? = some (str es[i].val.text) ∧ (a_D es)[i * 6 + 4]? = some (str es[i].name) ∧ (a_D es)[i * 6 + 5]? = some (.int .i64 es[i].arity)
 | [], i, h => by simp at h
 | n :: es, 0, _ => ⟨rfl, rfl, rfl, rfl, rfl, rfl⟩
 | n :: es, i + 1, h => by
  obtain ⟨h1, h2, h3, h4, h5, h6⟩ := e_s es i (by simpa using h)
  have e : ∀ j, (a_D (n :: es))[(i + 1) * 6 + j]? = (a_D es)[i * 6 + j]? := by
   intro j; rw [show a_D (n :: es) = n.cells ++ a_D es from rfl, List.getElem?_append_right (by simp [Nd.cells]; omega)]
   congr 1
   simp [Nd.cells]; omega
  exact ⟨by simpa using (e 0).trans h1, (e 1).trans h2, (e 2).trans h3, (e 3).trans h4, (e 4).trans h5, (e 5).trans h6⟩
def t_q (w : World) (g off : Nat) (n : Nd) : Prop :=
 w.cell? ⟨g, off, none⟩ = some (.int .i64 n.op) ∧ w.cell? ⟨g, off + 1, none⟩ = some (.int .i64 n.val.kind) ∧ w.cell? ⟨g, off + 2, none⟩ = some (.int .i64 n.val.num) ∧
  w.cell? ⟨g, off + 3, none⟩ = some (str n.val.text) ∧ w.cell? ⟨g, off + 4, none⟩ = some (str n.name) ∧ w.cell? ⟨g, off + 5, none⟩ = some (.int .i64 n.arity)
def b_q (w : World) (A : Option Addr) (es : List Nd) : Prop :=
 es = [] ∨ ∃ g off, A = some ⟨g, off, none⟩ ∧ g < w.heap.size ∧ ∀ j u, (a_D es)[j]? = some u → w.cell? ⟨g, off + j, none⟩ = some u
theorem nd_of_cells {w : World} {g off : Nat} {es : List Nd} (hc : ∀ j u, (a_D es)[j]? = some u → w.cell? ⟨g, off + j, none⟩ = some u) (i : Nat) (hi : i < es.length) : t_q w g (off + i * 6) es[i] := by
 obtain ⟨h1, h2, h3, h4, h5, h6⟩ := e_s es i hi
 exact ⟨hc _ _ h1, hc _ _ h2, hc _ _ h3, hc _ _ h4, hc _ _ h5, hc _ _ h6⟩
theorem b_i {w : World} {base e c : Nat} {A : Option Addr} {es : List Nd} (h : w.ownsRow base e 6 (.slice A es.length c) es.length (a_D es)) : b_q w A es := by
 rcases h.2 with ⟨_, hn⟩ | ⟨g, cap, cur, hv, hg, hh, hnc, hcap, hsz, htk⟩
 ·exact .inl (List.eq_nil_of_length_eq_zero hn)
 ·injection hv with h1 h2 h3
  subst h1
  refine .inr ⟨g, 0, rfl, a_6 hh, fun j u hu => ?_⟩
  have hj : j < es.length * 6 := by
   rcases Nat.lt_or_ge j (a_D es).length with h | h
   ·rwa [d_z] at h
   ·rw [List.getElem?_eq_none h] at hu; cases hu
  have hc : w.cell? ⟨g, j, none⟩ = (a_D es)[j]? := World.ownsRow.cellAt h j hj
  rw [Nat.zero_add, hc, hu]
theorem b_q.below {w w' : World} {A : Option Addr} {es : List Nd} (h : b_q w A es) (hb : Below w.heap.size w w') : b_q w' A es := by
 rcases h with h | ⟨g, off, hA, hg, hc⟩
 ·exact .inl h
 ·exact .inr ⟨g, off, hA, Nat.lt_of_lt_of_le hg hb.size, fun j u hu => (hb.cell (p := ⟨g, _, none⟩) hg).trans (hc j u hu)⟩
def b_N (op a : Int) : Int :=
 if op = 0 ∨ op = 1 then 0
 else if op = 2 ∨ op = 3 ∨ op = 16 ∨ op = 19 ∨ op = 20 then 1
 else if op = 17 then 3
 else if op = 21 then a
 else if 4 ≤ op ∧ op ≤ 18 then 2
 else -1
def b_I : List a_3 := [[105, 102], [99, 111, 97, 108, 101, 115, 99, 101], [105, 115, 110, 117, 108, 108], [108, 101, 110, 103, 116, 104], [100, 97, 121]]
def biB (l : a_3) : Bool := c_N b_I l
def f_Y (k n : Int) (x : a_3) : Bool := (k == 0) && (n == 0) && x.isEmpty
def a_H (op k n : Int) (x nm : a_3) (a : Int) : Bool :=
  if op = 0 then b_M k n x && nm.isEmpty && (a == 0)
  else f_Y k n x &&
    (if op = 1 then (a == 0) && a_i 24 nm && !c_T nm
     else if op = 20 then (a == 0) && b_4 24 nm && !c_T nm
     else if op = 21 then b_4 24 nm && !biB nm && !c_T nm && decide (0 ≤ a) && decide (a ≤ 8)
     else (a == 0) && nm.isEmpty && decide (0 ≤ b_N op a))
abbrev Nd.ar (n : Nd) : Int := b_N n.op n.arity
abbrev Nd.ok (n : Nd) : Bool := a_H n.op n.val.kind n.val.num n.val.text n.name n.arity
theorem g_u {n : Nd} (h : n.ok = true) : 0 ≤ n.ar ∧ n.ar ≤ 8 := by
 obtain ⟨op, ⟨k, m, x⟩, nm, a⟩ := n
 have h : a_H op k m x nm a = true := h
 show 0 ≤ b_N op a ∧ b_N op a ≤ 8
 unfold a_H at h
 unfold b_N at h ⊢
 repeat' split at h
 all_goals (try simp at h) <;> (repeat' split) <;> first | omega | (simp_all; done) | (simp_all <;> omega)
def g_g (st : List Int) (a : Nat) : Int := ((st.drop (st.length - a)).foldl max 0) + 1
def d_8 (n : Nd) (st : List Int) : Except Int (List Int) :=
 if n.ok = false ∨ (st.length : Int) < n.ar then .error 8
 else if 64 < g_g st n.ar.toNat then .error 2
 else .ok (st.take (st.length - n.ar.toNat) ++ [g_g st n.ar.toNat])
def e_e : List Nd → List Int → Except Int (List Int)
 | [], st => .ok st
 | n :: r, st => match d_8 n st with | .error x => .error x | .ok st' => e_e r st'
def a_u (es : List Nd) : Int :=
 if 256 < es.length then 2 else match e_e es [] with | .error x => x | .ok st => if st.length = 1 then 0 else 8
theorem i_C (n : Nd) (r : List Nd) (st : List Int) : e_e (n :: r) st = match d_8 n st with | .error x => .error x | .ok st' => e_e r st' := rfl
theorem b_u : ∀ (a b : List Nd) (st : List Int), e_e (a ++ b) st = match e_e a st with | .error x => .error x | .ok st' => e_e b st'
 | [], b, st => rfl
 | n :: a, b, st => by
  rw [List.cons_append, i_C, i_C]
  cases d_8 n st with
  | error x => rfl
  | ok st' => exact b_u a b st'
theorem e_L (n : Nd) (st : List Int) : e_e [n] st = d_8 n st := by
 unfold e_e
 cases d_8 n st <;> rfl
theorem g_F {es : List Nd} {k : Nat} {st : List Int} (h : e_e (es.take k) [] = .ok st) (hk : k < es.length) : e_e (es.take (k + 1)) [] = d_8 es[k] st := by
 rw [List.take_succ_eq_append_getElem hk, b_u, h]
 exact e_L _ _
theorem h_j {es : List Nd} {k : Nat} {x : Int} (h : e_e (es.take k) [] = .error x) : e_e es [] = .error x := by
 rw [← List.take_append_drop k es, b_u, h]
theorem e_0 : ∀ (l : List Int) (b : Int), b ≤ l.foldl max b ∧ ∀ x ∈ l, x ≤ l.foldl max b
 | [], b => ⟨Int.le_refl _, fun x hx => by cases hx⟩
 | y :: l, b => by
  obtain ⟨h1, h2⟩ := e_0 l (max b y)
  rw [List.foldl_cons]
  refine ⟨o_, fun x hx => ?_⟩
  rcases List.mem_cons.1 hx with rfl | hx
  ·omega
  ·exact h2 x hx
theorem f_G : ∀ (l : List Int) (b m : Int), b ≤ m → (∀ x ∈ l, x ≤ m) → l.foldl max b ≤ m
 | [], b, m, h, _ => h
 | y :: l, b, m, h, hl => by
  rw [List.foldl_cons]
  have := hl y s_
  exact f_G l _ m o_ (fun x hx => hl x (List.mem_cons_of_mem _ hx))
theorem h_P {n : Nd} {st st' : List Int} (h : d_8 n st = .ok st') : n.ok = true ∧ n.ar ≤ st.length ∧ g_g st n.ar.toNat ≤ 64 ∧ st' = st.take (st.length - n.ar.toNat) ++ [g_g st n.ar.toNat] := by
 unfold d_8 at h
 split at h
 ·cases h
 ·rename_i h1
  split at h
  ·cases h
  ·injection h with h
   refine ⟨by cases hh : n.ok <;> simp_all, o_, o_, h.symm⟩
theorem l_y {n : Nd} {st : List Int} {x : Int} (h : d_8 n st = .error x) : x = 8 ∨ x = 2 := by
 unfold d_8 at h
 split at h
 ·injection h with h; exact .inl h.symm
 ·split at h
  ·injection h with h; exact .inr h.symm
  ·cases h
theorem j_B : ∀ (es : List Nd) (st : List Int) (x : Int), e_e es st = .error x → x = 8 ∨ x = 2
 | [], st, x, h => by cases h
 | n :: es, st, x, h => by
  unfold e_e at h
  split at h
  ·rename_i y hy; injection h with h; subst h; exact l_y hy
  ·exact j_B es _ x h
theorem j_J (st : List Int) (a : Nat) : 1 ≤ g_g st a := by
 unfold g_g
 have := (e_0 (st.drop (st.length - a)) 0).1
 omega
def i_5 (st : List Int) : Prop := ∀ x ∈ st, 1 ≤ x ∧ x ≤ 64
theorem l_r {n : Nd} {st st' : List Int} (h : d_8 n st = .ok st') (hs : i_5 st) : i_5 st' ∧ st'.length ≤ st.length + 1 := by
 obtain ⟨h1, h2, h3, rfl⟩ := h_P h
 refine ⟨fun x hx => ?_, s_⟩
 rcases List.mem_append.1 hx with hx | hx
 ·exact hs x (List.mem_of_mem_take hx)
 ·simp at hx; subst hx; exact ⟨j_J _ _, h3⟩
theorem j_t : ∀ (es : List Nd) (st st' : List Int), e_e es st = .ok st' → i_5 st → i_5 st' ∧ st'.length ≤ st.length + es.length
 | [], st, st', h, hs => by injection h with h; subst h; exact ⟨hs, s_⟩
 | n :: es, st, st', h, hs => by
  unfold e_e at h
  split at h
  ·cases h
  ·rename_i s1 h1
   obtain ⟨a, b⟩ := l_r h1 hs; obtain ⟨c, d⟩ := j_t es s1 st' h a; exact ⟨c, m_⟩
def k_o : Nat → Nat
 | 0 => 1
 | d + 1 => 3 * k_o d + 1
theorem m_P : ∀ d, 1 ≤ k_o d
 | 0 => l_ _
 | d + 1 => by unfold k_o; omega
def j_4 (cs : List a_3) (es : List Nd) : Prop := ∀ n ∈ es, n.op = 1 → n.name ∈ cs
theorem j_4.append {cs : List a_3} {a b : List Nd} (h : j_4 cs a) (k : j_4 cs b) : j_4 cs (a ++ b) := fun n hn => by
 rcases List.mem_append.1 hn with hn | hn
 ·exact h n hn
 ·exact k n hn
theorem j_4.one {cs : List a_3} {n : Nd} (h : n.ar ≠ 0) : j_4 cs [n] := fun m hm e => by
 simp at hm; subst hm
 exact absurd (show b_N m.op m.arity = 0 by rw [e]; rfl) h
def d_A (cs : List a_3) (d : Nat) (es : List Nd) : Prop := es.length ≤ k_o d ∧ j_4 cs es ∧ ∃ h : Int, 1 ≤ h ∧ h ≤ d + 1 ∧ ∀ st, e_e es st = .ok (st ++ [h])
theorem d_A.mono {cs : List a_3} {d : Nat} {es : List Nd} (h : d_A cs d es) : d_A cs (d + 1) es := by
 obtain ⟨h1, hc, x, h2, h3, h4⟩ := h
 exact ⟨by unfold k_o; omega, hc, x, h2, o_, h4⟩
theorem d_A.ne {cs : List a_3} {d : Nat} {es : List Nd} (h : d_A cs d es) : es ≠ [] := by
 obtain ⟨h1, hc, x, h2, h3, h4⟩ := h
 rintro rfl
 have := h4 []
 injection this with e
 cases e
theorem g_7 {n : Nd} {a : Nat} (st ts : List Int) (hn : n.ok = true) (ha : n.ar = a) (hl : ts.length = a) (hm : ts.foldl max 0 < 64) : d_8 n (st ++ ts) = .ok (st ++ [ts.foldl max 0 + 1]) := by
 have e1 : (st ++ ts).length - a = st.length := by rw [List.length_append, hl]; omega
 have e2 : g_g (st ++ ts) n.ar.toNat = ts.foldl max 0 + 1 := by
  unfold g_g
  rw [ha, Int.toNat_natCast, e1, List.drop_left]
 unfold d_8
 rw [if_neg (by rw [hn, ha, List.length_append, hl]; simp; omega), e2, if_neg o_, ha, Int.toNat_natCast, e1, List.take_left]
theorem d_A.leaf {cs : List a_3} {n : Nd} (d : Nat) (hn : n.ok = true) (ha : n.ar = 0) (hc : n.op = 1 → n.name ∈ cs) : d_A cs d [n] := by
 refine ⟨m_P d, fun m hm => by simp at hm; subst hm; exact hc, 1, o_, o_, fun st => ?_⟩
 have := g_7 (a := 0) st [] hn (by simpa using ha) rfl d_
 rw [List.append_nil] at this
 rw [e_L, this]; rfl
theorem d_A.un {cs : List a_3} {n : Nd} {d : Nat} {a : List Nd} (hd : d < 62) (h : d_A cs d a) (hn : n.ok = true) (ha : n.ar = 1) : d_A cs (d + 1) (a ++ [n]) := by
 obtain ⟨h1, hc, x, h2, h3, h4⟩ := h
 refine ⟨by unfold k_o; simp; omega, hc.append (.one o_), x + 1, o_, o_, fun st => ?_⟩
 have hx : [x].foldl max 0 = x := by simp; omega
 rw [b_u, h4]
 show e_e [n] (st ++ [x]) = _
 rw [e_L, g_7 (a := 1) st [x] hn (by simpa using ha) rfl (by rw [hx]; omega), hx]
theorem d_A.bin {cs : List a_3} {n : Nd} {d : Nat} {a b : List Nd} (hd : d < 62) (h : d_A cs d a) (k : d_A cs d b) (hn : n.ok = true) (ha : n.ar = 2) : d_A cs (d + 1) (a ++ b ++ [n]) := by
 obtain ⟨h1, hc, x, h2, h3, h4⟩ := h
 obtain ⟨k1, kc, y, k2, k3, k4⟩ := k
 have hx : [x, y].foldl max 0 = max x y := by simp; omega
 refine ⟨by unfold k_o; simp; omega, (hc.append kc).append (.one o_), max x y + 1, o_, o_, fun st => ?_⟩
 rw [b_u, b_u, h4]
 show (match e_e b (st ++ [x]) with | .error x => _ | .ok st' => e_e [n] st') = _
 rw [k4]
 show e_e [n] (st ++ [x] ++ [y]) = _
 rw [e_L, show st ++ [x] ++ [y] = st ++ [x, y] by simp, g_7 (a := 2) st [x, y] hn (by simpa using ha) rfl (by rw [hx]; omega), hx]
theorem d_A.tri {cs : List a_3} {n : Nd} {d : Nat} {a b c : List Nd} (hd : d < 62) (h : d_A cs d a) (k : d_A cs d b) (m : d_A cs d c) (hn : n.ok = true) (ha : n.ar = 3) : d_A cs (d + 1) (a ++ b ++ c ++ [n]) := by
 obtain ⟨h1, hc, x, h2, h3, h4⟩ := h
 obtain ⟨k1, kc, y, k2, k3, k4⟩ := k
 obtain ⟨m1, mc, z, m2, m3, m4⟩ := m
 have hx : [x, y, z].foldl max 0 = max (max x y) z := by simp; omega
 refine ⟨by unfold k_o; simp; omega, ((hc.append kc).append mc).append (.one o_), max (max x y) z + 1, o_, o_, fun st => ?_⟩
 rw [b_u, b_u, b_u, h4]
 show (match (match e_e b (st ++ [x]) with | .error x => _ | .ok st' => e_e c st') with | .error x => _ | .ok st' => e_e [n] st') = _
 rw [k4]
 show (match e_e c (st ++ [x] ++ [y]) with | .error x => _ | .ok st' => e_e [n] st') = _
 rw [m4]
 show e_e [n] (st ++ [x] ++ [y] ++ [z]) = _
 rw [e_L, show st ++ [x] ++ [y] ++ [z] = st ++ [x, y, z] by simp, g_7 (a := 3) st [x, y, z] hn (by simpa using ha) rfl (by rw [hx]; omega), hx]
theorem j_r : ∀ (es : List Nd) (st st' : List Int), e_e es st = .ok st' → ∀ n ∈ es, n.ok = true
 | [], _, _, _, n, hn => by cases hn
 | m :: es, st, st', h, n, hn => by
  unfold e_e at h
  split at h
  ·cases h
  ·rename_i s1 h1
   rcases List.mem_cons.1 hn with rfl | hn
   ·exact (h_P h1).1
   ·exact j_r es s1 st' h n hn
theorem d_A.oks {cs : List a_3} {d : Nat} {es : List Nd} (h : d_A cs d es) : ∀ n ∈ es, n.ok = true := by
 obtain ⟨h1, hc, x, h2, h3, h4⟩ := h
 exact j_r es _ _ (h4 [])
theorem l_a (d : Nat) : k_o (d + 1) = 3 * k_o d + 1 := rfl
theorem k_U {d e : Nat} (h : d ≤ e) : k_o d ≤ k_o e := by
 induction e with
 | zero =>
   have : d = 0 := by omega
   subst this; exact l_ _
 | succ e ih =>
  by_cases h2 : d = e + 1
  ·subst h2; exact l_ _
  ·have := ih o_
   rw [l_a]; omega
end
section
open Go.RowKit Go.WideMaps Go.Maps
theorem h_q : Keyed prog 9 := string_keyed underlying9
def biD : DataW Unit := ((((((DataW.map [] : DataW Unit).put (.string [105, 102]) (.lit (.int .i64 17))).put (.string [99, 111, 97, 108, 101, 115, 99, 101]) (.lit (.int .i64 18))).put (.string [105, 115, 110, 117, 108, 108]) (.lit (.int .i64 16))).put (.string [108, 101, 110, 103, 116, 104]) (.lit (.int .i64 19))).put (.string [100, 97, 121]) (.lit (.int .i64 20)))
def s_I (w w' : World) (e : Ending) : Prop := ∃ B, e = .returned (.map (some B)) ∧ w'.ownsMap prog 9 (plainElem prog 3) B 5 biD ∧ w.heap.size ≤ B ∧ B < w'.heap.size
set_option maxRecDepth 100000
theorem j_d (w : World) : Calls prog 206 #[] w fun e w' => s_I w w' e ∧ Below w.heap.size w w' := by
 have hmm := @run_makeMap prog
 have hm := World.ownsMap_made (H := Unit) w prog 9 (plainElem prog 3)
 obtain ⟨w1, r1, o1, g1⟩ := hm.update (t := 213) h_q underlying213 d_ (keyOf_string_mk (s := ⟨#[105, 102]⟩) underlying9 d_) (plainElem_int (a := 17) underlying3 d_)
 obtain ⟨w2, r2, o2, g2⟩ := o1.update (t := 213) h_q underlying213 d_ (keyOf_string_mk (s := ⟨#[99, 111, 97, 108, 101, 115, 99, 101]⟩) underlying9 d_) (plainElem_int (a := 18) underlying3 d_)
 obtain ⟨w3, r3, o3, g3⟩ := o2.update (t := 213) h_q underlying213 d_ (keyOf_string_mk (s := ⟨#[105, 115, 110, 117, 108, 108]⟩) underlying9 d_) (plainElem_int (a := 16) underlying3 d_)
 obtain ⟨w4, r4, o4, g4⟩ := o3.update (t := 213) h_q underlying213 d_ (keyOf_string_mk (s := ⟨#[108, 101, 110, 103, 116, 104]⟩) underlying9 d_) (plainElem_int (a := 19) underlying3 d_)
 obtain ⟨w5, r5, o5, g5⟩ := o4.update (t := 213) h_q underlying213 d_ (keyOf_string_mk (s := ⟨#[100, 97, 121]⟩) underlying9 d_) (plainElem_int (a := 20) underlying3 d_)
 have HO := a_2 o5
 have hz : w.heap.size < w5.heap.size := by have := g1.size; have := g2.size; have := g3.size; have := g4.size; have := g5.size; simp at *; omega
 have hb : Below w.heap.size w w5 := by
  refine Below.grown (Below.grown (Below.grown (Below.grown (Below.grown ((b_ _ w).alloc (l_ _) _) g1 ?_ ?_) g2 ?_ ?_) g3 ?_ ?_) g4 ?_ ?_) g5 ?_ ?_
  all_goals first
   | (intro k hk; injection hk with hk; omega)
   | (have := g1.size; have := g2.size; have := g3.size; have := g4.size; simp at *; first | done | omega)
 have HB := a_2 hb
 clear hm o1 o2 o3 o4 o5 g1 g2 g3 g4 g5 hb
 go_enter func206, ntmps206
 go_wp2
 go_ret
 exact ⟨⟨w.heap.size, rfl, HO.out, l_ _, hz⟩, HB.out⟩
set_option maxRecDepth 512
theorem p_c : biD = .map [(.string [99, 111, 97, 108, 101, 115, 99, 101], .lit (.int .i64 18)), (.string [100, 97, 121], .lit (.int .i64 20)), (.string [105, 102], .lit (.int .i64 17)), (.string [105, 115, 110, 117, 108, 108], .lit (.int .i64 16)), (.string [108, 101, 110, 103, 116, 104], .lit (.int .i64 19))] := by rfl
theorem n_E (l : a_3) : Maps.has biD (.string l) = biB l := by
 rw [p_c]
 unfold biB c_N b_I Maps.has
 rw [Bool.eq_iff_iff]
 simp [Lit.sameKey]
 grind
abbrev ndV (op k m : Int) (x nm : ByteArray) (a : Int) : Value := .agg #[.int .i64 op, .int .i64 k, .int .i64 m, .string x, .string nm, .int .i64 a]
abbrev d_x (op k m : Int) (x nm : ByteArray) (a : Int) : Obj := .cells #[.int .i64 op, .int .i64 k, .int .i64 m, .string x, .string nm, .int .i64 a] 72
set_option maxRecDepth 100000
theorem e_j (op k m a : Int) (x nm : ByteArray) (w : World) : Calls prog 158 #[ndV op k m x nm a] w fun e w' => e = .returned (.int .i64 (b_N op a)) ∧ Below w.heap.size w w' := by
 go_enter func158, ntmps158
 go_wp2
 all_goals
  go_ret
  refine ⟨a_d ?_, zX⟩
  simp_all [b_N] <;> omega
theorem e_l (op k m a : Int) (x nm : ByteArray) (w : World) : Calls prog 232 #[ndV op k m x nm a] w fun e w' => e = .returned (.int .i64 (b_N op a)) ∧ Below w.heap.size w w' := by
 go_enter func232, ntmps232
 go_wp2
 all_goals
  go_ret
  refine ⟨a_d ?_, zX⟩
  simp_all [b_N] <;> omega
set_option maxRecDepth 512
theorem a_1 {B : Nat} {W0 W W1 : World} (h : Below B W0 W) (hB : B ≤ W0.heap.size) (h1 : Below W.heap.size W W1) : Below B W0 W1 := h.trans (h1.mono (Nat.le_trans hB h.size))
theorem a_R {w w1 : World} {a b c d e f : Value} {t : TypeId} (h : Below (w.heap.size + 1) (w.alloc (.cells #[a, b, c, d, e, f] t)) w1) :
  w1.cell? ⟨w.heap.size, 0, none⟩ = some a ∧ w1.cell? ⟨w.heap.size, 1, none⟩ = some b ∧ w1.cell? ⟨w.heap.size, 2, none⟩ = some c ∧ w1.cell? ⟨w.heap.size, 3, none⟩ = some d ∧ w1.cell? ⟨w.heap.size, 4, none⟩ = some e ∧ w1.cell? ⟨w.heap.size, 5, none⟩ = some f ∧ w.heap.size < w1.heap.size := by
 refine _ai ?_; intro hheap
 exact ⟨a_0 hheap 0, a_0 hheap 1, a_0 hheap 2, a_0 hheap 3, a_0 hheap 4, a_0 hheap 5, a_6 hheap⟩
theorem a_5 {w w1 : World} {o : Obj} (h : Below (w.heap.size + 1) (w.alloc o) w1) : Below w.heap.size w w1 := ((b_ _ _).alloc (l_ _) _).trans (h.mono (Nat.le_succ _))
theorem d_o (s : ByteArray) (w : World) : Calls prog 32 #[.string s] w fun e w' => e = .returned (.bool (a_i 24 (bs s) && !c_T (bs s))) ∧ Below w.heap.size w w' := by
 have H1 := a_2 (fun W => b_5 s W)
 have H2 := a_2 (fun W => b_H s W)
 generalize a_i 24 (bs s) = p at *
 generalize c_T (bs s) = q at *
 go_enter func32, ntmps32
 cases p <;> cases q
 all_goals
  go_wp2_with (first
   | (go_at_call 89; refine (H1.out _).mono ?_; rintro e w' ⟨rfl, rfl⟩)
   | (go_at_call 90; refine (H2.out _).mono ?_; rintro e w1 ⟨rfl, hb1⟩))
  go_ret
  exact ⟨rfl, by first | assumption | exact zX⟩
theorem b_O (s : ByteArray) (w : World) (hs : s.size ≤ maxLen) : Calls prog 67 #[.string s] w fun e w' => e = .returned (.bool (b_4 24 (bs s) && !c_T (bs s))) ∧ Below w.heap.size w w' := by
 have H1 := a_2 (fun W => c_w s W hs)
 have H2 := a_2 (fun W => b_H s W)
 generalize b_4 24 (bs s) = p at *
 generalize c_T (bs s) = q at *
 go_enter func67, ntmps67
 cases p <;> cases q
 all_goals
  go_wp2_with (first
   | (go_at_call 129; refine (H1.out _).mono ?_; rintro e w' ⟨rfl, rfl⟩)
   | (go_at_call 90; refine (H2.out _).mono ?_; rintro e w1 ⟨rfl, hb1⟩))
  go_ret
  exact ⟨rfl, by first | assumption | exact zX⟩
theorem d_3 (s : ByteArray) (w : World) : Calls prog 230 #[.string s] w fun e w' => e = .returned (.bool (biB (bs s))) ∧ Below w.heap.size w w' := by
 go_enter func230, ntmps230
 go_wp2_with fail
 refine (d_4 _ b_I 5 s _ (.inr ⟨w.heap.size, 0, rfl, s_, fun i hi => ?_⟩) d_).mono ?_
 ·have hi' : i < 5 := hi
  rw [a_0 (heap_alloc_new w _)]
  match i, hi' with
  | 0, _ => rfl
  | 1, _ => rfl
  | 2, _ => rfl
  | 3, _ => rfl
  | 4, _ => rfl
 rintro e w' ⟨rfl, rfl⟩
 have HE := a_2 (show c_N b_I (bs s) = biB (bs s) from rfl)
 go_wp2
 go_ret
 exact ⟨a_a (by rw [← HE.out]), zX⟩
theorem g_R (k m a : Int) (x nm : a_3) : a_H 0 k m x nm a = (b_M k m x && nm.isEmpty && (a == 0)) := rfl
theorem g_E (k m a : Int) (x nm : a_3) : a_H 1 k m x nm a = (f_Y k m x && ((a == 0) && a_i 24 nm && !c_T nm)) := rfl
theorem h_p (k m a : Int) (x nm : a_3) : a_H 20 k m x nm a = (f_Y k m x && ((a == 0) && b_4 24 nm && !c_T nm)) := rfl
theorem h_t (k m a : Int) (x nm : a_3) : a_H 21 k m x nm a = (f_Y k m x && (b_4 24 nm && !biB nm && !c_T nm && decide (0 ≤ a) && decide (a ≤ 8))) := rfl
theorem e_X {op : Int} (h0 : op ≠ 0) (h1 : op ≠ 1) (h20 : op ≠ 20) (h21 : op ≠ 21) (k m a : Int) (x nm : a_3) : a_H op k m x nm a = (f_Y k m x && ((a == 0) && nm.isEmpty && decide (0 ≤ b_N op a))) := by
 unfold a_H
 rw [if_neg h0, if_neg h1, if_neg h20, if_neg h21]
theorem d_w (a : Int) : a = 0 ∨ (a == 0) = false := by
 by_cases h : a = 0
 ·exact .inl h
 ·exact .inr (by simpa using h)
theorem h_m (k m : Int) (x : ByteArray) : (k = 0 ∧ m = 0 ∧ x = ⟨#[]⟩ ∧ f_Y k m (bs x) = true) ∨ ((k == 0) = false ∧ f_Y k m (bs x) = false) ∨ (k = 0 ∧ (m == 0) = false ∧ f_Y k m (bs x) = false) ∨
  (k = 0 ∧ m = 0 ∧ (x.toList == []) = false ∧ x.toList.isEmpty = false ∧ f_Y k m (bs x) = false) := by
 have hb := d_R x
 by_cases hk : k = 0
 ·by_cases hm : m = 0
  ·by_cases hx : x = ⟨#[]⟩
   ·left; subst hk hm hx; exact ⟨rfl, rfl, rfl, rfl⟩
   ·right; right; right
    have h1 : bs x ≠ [] := fun e => hx (by rw [← c_y x, e]); subst hk hm; refine ⟨rfl, rfl, by rw [← hb]; simpa using h1, by rw [← hb]; cases h : bs x <;> simp_all, ?_⟩; unfold f_Y; cases h : bs x <;> simp_all
  ·right; right; left
   subst hk; exact ⟨rfl, by simpa using hm, by unfold f_Y; simp [hm]⟩
 ·right; left
  exact ⟨by simpa using hk, by unfold f_Y; simp [hk]⟩
set_option maxRecDepth 100000
theorem h_U (k m a : Int) (x nm : ByteArray) (w : World) : Calls prog 231 #[ndV 0 k m x nm a] w fun e w' => e = .returned (.bool (a_H 0 k m (bs x) (bs nm) a)) ∧ Below w.heap.size w w' := by
 have H1 := a_2 (fun W => h_4 k m x W)
 have hcur := b_ (w.heap.size + 1) (w.alloc (d_x 0 k m x nm a))
 have HE := a_2 (g_R k m a (bs x) (bs nm))
 refine m_0 ?_; intro HZ HY
 generalize b_M k m (bs x) = v at *
 generalize a_H 0 k m (bs x) (bs nm) a = r at *
 rcases HZ with ⟨rfl, rfl, rfl, z⟩ | ⟨z1, z⟩ | ⟨rfl, z1, z⟩ | ⟨rfl, rfl, z1, z2, z⟩ <;> (try rw [z] at HE) <;> clear z
 all_goals rcases d_w a with rfl | za
 all_goals
  go_enter func231, ntmps231
  go_wp2_with (first
   | (go_at_call 265; refine (H1.out _).mono ?_; rintro e w1 ⟨rfl, hb1⟩; have hcur := a_1 hcur s_ hb1; obtain ⟨k0, k1, k2, k3, k4, k5, k6⟩ := a_R hcur; clear hb1))
  all_goals
   go_ret
   refine ⟨a_a ?_, by first | exact a_5 hcur | exact zX⟩; refine m_2 ?_; intro he hy; clear HE HY H1
   simp_all
theorem h_I (k m a : Int) (x nm : ByteArray) (w : World) : Calls prog 231 #[ndV 1 k m x nm a] w fun e w' => e = .returned (.bool (a_H 1 k m (bs x) (bs nm) a)) ∧ Below w.heap.size w w' := by
 have H1 := a_2 (fun W => d_o nm W)
 have hcur := b_ (w.heap.size + 1) (w.alloc (d_x 1 k m x nm a))
 have HE := a_2 (g_E k m a (bs x) (bs nm))
 refine m_0 ?_; intro HZ HY
 generalize a_i 24 (bs nm) = p at *
 generalize c_T (bs nm) = q at *
 generalize a_H 1 k m (bs x) (bs nm) a = r at *
 rcases HZ with ⟨rfl, rfl, rfl, z⟩ | ⟨z1, z⟩ | ⟨rfl, z1, z⟩ | ⟨rfl, rfl, z1, z2, z⟩ <;> (try rw [z] at HE) <;> clear z
 all_goals rcases d_w a with rfl | za
 all_goals
  go_enter func231, ntmps231
  go_wp2_with (first
   | (go_at_call 32; refine (H1.out _).mono ?_; rintro e w1 ⟨rfl, hb1⟩; have hcur := a_1 hcur s_ hb1; obtain ⟨k0, k1, k2, k3, k4, k5, k6⟩ := a_R hcur; clear hb1))
  all_goals
   go_ret
   refine ⟨a_a ?_, by first | exact a_5 hcur | exact zX⟩; refine m_2 ?_; intro he hy; clear HE HY H1
   simp_all
theorem h_e (k m a : Int) (x nm : ByteArray) (w : World) (hn : nm.size ≤ maxLen) : Calls prog 231 #[ndV 20 k m x nm a] w fun e w' => e = .returned (.bool (a_H 20 k m (bs x) (bs nm) a)) ∧ Below w.heap.size w w' := by
 have H1 := a_2 (fun W => b_O nm W hn)
 have hcur := b_ (w.heap.size + 1) (w.alloc (d_x 20 k m x nm a))
 clear hn
 have HE := a_2 (h_p k m a (bs x) (bs nm))
 refine m_0 ?_; intro HZ HY
 generalize b_4 24 (bs nm) = p at *
 generalize c_T (bs nm) = q at *
 generalize a_H 20 k m (bs x) (bs nm) a = r at *
 rcases HZ with ⟨rfl, rfl, rfl, z⟩ | ⟨z1, z⟩ | ⟨rfl, z1, z⟩ | ⟨rfl, rfl, z1, z2, z⟩ <;> (try rw [z] at HE) <;> clear z
 all_goals rcases d_w a with rfl | za
 all_goals
  go_enter func231, ntmps231
  go_wp2_with (first
   | (go_at_call 67; refine (H1.out _).mono ?_; rintro e w1 ⟨rfl, hb1⟩; have hcur := a_1 hcur s_ hb1; obtain ⟨k0, k1, k2, k3, k4, k5, k6⟩ := a_R hcur; clear hb1))
  all_goals
   go_ret
   refine ⟨a_a ?_, by first | exact a_5 hcur | exact zX⟩; refine m_2 ?_; intro he hy; clear HE HY H1
   simp_all
theorem h_9 (k m a : Int) (x nm : ByteArray) (w : World) (hn : nm.size ≤ maxLen) : Calls prog 231 #[ndV 21 k m x nm a] w fun e w' => e = .returned (.bool (a_H 21 k m (bs x) (bs nm) a)) ∧ Below w.heap.size w w' := by
 have H1 := a_2 (fun W => b_O nm W hn)
 have H2 := a_2 (fun W => d_3 nm W)
 have hcur := b_ (w.heap.size + 1) (w.alloc (d_x 21 k m x nm a))
 clear hn
 have HE := a_2 (h_t k m a (bs x) (bs nm))
 refine m_0 ?_; intro HZ HY
 generalize b_4 24 (bs nm) = p at *
 generalize c_T (bs nm) = q at *
 generalize biB (bs nm) = b at *
 generalize a_H 21 k m (bs x) (bs nm) a = r at *
 rcases HZ with ⟨rfl, rfl, rfl, z⟩ | ⟨z1, z⟩ | ⟨rfl, z1, z⟩ | ⟨rfl, rfl, z1, z2, z⟩ <;> (try rw [z] at HE) <;> clear z
 all_goals rcases d_w a with rfl | za
 all_goals
  go_enter func231, ntmps231
  go_wp2_with (first
   | (go_at_call 67; refine (H1.out _).mono ?_; rintro e w1 ⟨rfl, hb1⟩; have hcur := a_1 hcur s_ hb1; obtain ⟨k0, k1, k2, k3, k4, k5, k6⟩ := a_R hcur; clear hb1)
   | (go_at_call 230; refine (H2.out _).mono ?_; rintro e w1 ⟨rfl, hb1⟩; have hcur := a_1 hcur s_ hb1; obtain ⟨k0, k1, k2, k3, k4, k5, k6⟩ := a_R hcur; clear hb1))
  all_goals
   go_ret
   refine ⟨a_a ?_, by first | exact a_5 hcur | exact zX⟩; refine m_2 ?_; intro he hy; clear HE HY H1 H2; clear hcur
   (try clear k0 k1 k2 k3 k4 k5 k6)
   (try clear k0 k1 k2 k3 k4 k5 k6)
   (try clear hcur)
   (try clear hcur)
   clear hy; rw [he]; clear he
   grind
theorem f_t (op k m a : Int) (x nm : ByteArray) (w : World) (h0 : op ≠ 0) (h1 : op ≠ 1) (h20 : op ≠ 20) (h21 : op ≠ 21) : Calls prog 231 #[ndV op k m x nm a] w fun e w' => e = .returned (.bool (a_H op k m (bs x) (bs nm) a)) ∧ Below w.heap.size w w' := by
 have H1 := a_2 (fun W => e_l op k m a x nm W)
 refine r_Q ?_; intro hcur b0 b1 b20 b21
 have HE := a_2 (e_X h0 h1 h20 h21 k m a (bs x) (bs nm))
 refine m_0 ?_; intro HZ HY
 generalize b_N op a = y at *
 clear h0 h1 h20 h21
 generalize a_H op k m (bs x) (bs nm) a = r at *
 rcases HZ with ⟨rfl, rfl, rfl, z⟩ | ⟨z1, z⟩ | ⟨rfl, z1, z⟩ | ⟨rfl, rfl, z1, z2, z⟩ <;> (try rw [z] at HE) <;> clear z
 all_goals rcases d_w a with rfl | za
 all_goals
  go_enter func231, ntmps231
  go_wp2_with (first
   | (go_at_call 232; refine (H1.out _).mono ?_; rintro e w1 ⟨rfl, hb1⟩; have hcur := a_1 hcur s_ hb1; obtain ⟨k0, k1, k2, k3, k4, k5, k6⟩ := a_R hcur; clear hb1))
  all_goals
   go_ret
   refine ⟨a_a ?_, by first | exact a_5 hcur | exact zX⟩; refine m_2 ?_; intro he hy; clear HE HY H1
   simp_all
set_option maxRecDepth 512
theorem g_q (op k m a : Int) (x nm : ByteArray) (w : World) (hn : nm.size ≤ maxLen) : Calls prog 231 #[ndV op k m x nm a] w fun e w' => e = .returned (.bool (a_H op k m (bs x) (bs nm) a)) ∧ Below w.heap.size w w' := by
 by_cases h0 : op = 0
 ·subst h0; exact h_U k m a x nm w
 by_cases h1 : op = 1
 ·subst h1; exact h_I k m a x nm w
 by_cases h20 : op = 20
 ·subst h20; exact h_e k m a x nm w hn
 by_cases h21 : op = 21
 ·subst h21; exact h_9 k m a x nm w hn
 exact f_t op k m a x nm w h0 h1 h20 h21
set_option maxRecDepth 100000
theorem m_q (k m a : Int) (x nm : ByteArray) (w : World) (hW : a_v w 1 a_w) : Calls prog 157 #[ndV 0 k m x nm a] w fun e w' => e = .returned (.bool (a_H 0 k m (bs x) (bs nm) a)) ∧ Below w.heap.size w w' := by
 have H1 := a_2 (fun W => g_T k m x W)
 have hcur := b_ (w.heap.size + 1) (w.alloc (d_x 0 k m x nm a))
 clear hW
 have HE := a_2 (g_R k m a (bs x) (bs nm))
 refine m_0 ?_; intro HZ HY
 generalize b_M k m (bs x) = v at *
 generalize a_H 0 k m (bs x) (bs nm) a = r at *
 rcases HZ with ⟨rfl, rfl, rfl, z⟩ | ⟨z1, z⟩ | ⟨rfl, z1, z⟩ | ⟨rfl, rfl, z1, z2, z⟩ <;> (try rw [z] at HE) <;> clear z
 all_goals rcases d_w a with rfl | za
 all_goals
  go_enter func157, ntmps157
  go_wp2_with (first
   | (go_at_call 205; refine (H1.out _).mono ?_; rintro e w1 ⟨rfl, hb1⟩; have hcur := a_1 hcur s_ hb1; obtain ⟨k0, k1, k2, k3, k4, k5, k6⟩ := a_R hcur; clear hb1))
  all_goals
   go_ret
   refine ⟨a_a ?_, by first | exact a_5 hcur | exact zX⟩; refine m_2 ?_; intro he hy; clear HE HY H1
   (try rw [hy] at he)
   clear hy; rw [he]; clear he
   grind
theorem m_L (k m a : Int) (x nm : ByteArray) (w : World) (hW : a_v w 1 a_w) : Calls prog 157 #[ndV 1 k m x nm a] w fun e w' => e = .returned (.bool (a_H 1 k m (bs x) (bs nm) a)) ∧ Below w.heap.size w w' := by
 have H1 := a_2 (fun W => a_Z nm W)
 refine _aj ?_; intro HR
 have hcur := b_ (w.heap.size + 1) (w.alloc (d_x 1 k m x nm a))
 clear hW
 have HE := a_2 (g_E k m a (bs x) (bs nm))
 refine m_0 ?_; intro HZ HY
 generalize a_i 24 (bs nm) = p at *
 generalize c_T (bs nm) = q at *
 generalize a_H 1 k m (bs x) (bs nm) a = r at *
 rcases HZ with ⟨rfl, rfl, rfl, z⟩ | ⟨z1, z⟩ | ⟨rfl, z1, z⟩ | ⟨rfl, rfl, z1, z2, z⟩ <;> (try rw [z] at HE) <;> clear z
 all_goals rcases d_w a with rfl | za
 all_goals
  go_enter func157, ntmps157
  go_wp2_with (first
   | (go_at_call 81; refine (H1.out _).mono ?_; rintro e w1 ⟨rfl, hb1⟩; have hcur := a_1 hcur s_ hb1; obtain ⟨k0, k1, k2, k3, k4, k5, k6⟩ := a_R hcur; clear hb1)
   | (go_at_call 82; refine (HR.out _ (a_5 hcur)).mono ?_; rintro e w1 ⟨rfl, rfl⟩))
  all_goals
   go_ret
   refine ⟨a_a ?_, by first | exact a_5 hcur | exact zX⟩; refine m_2 ?_; intro he hy; clear HE HY H1 HR
   (try rw [hy] at he)
   clear hy; rw [he]; clear he
   grind
theorem k_N (k m a : Int) (x nm : ByteArray) (w : World) (hW : a_v w 1 a_w) (hn : nm.size ≤ maxLen) : Calls prog 157 #[ndV 20 k m x nm a] w fun e w' => e = .returned (.bool (a_H 20 k m (bs x) (bs nm) a)) ∧ Below w.heap.size w w' := by
 have H1 := a_2 (fun W => b_c nm W hn)
 refine _aj ?_; intro HR
 have hcur := b_ (w.heap.size + 1) (w.alloc (d_x 20 k m x nm a))
 clear hn
 clear hW
 have HE := a_2 (h_p k m a (bs x) (bs nm))
 refine m_0 ?_; intro HZ HY
 generalize b_4 24 (bs nm) = p at *
 generalize c_T (bs nm) = q at *
 generalize a_H 20 k m (bs x) (bs nm) a = r at *
 rcases HZ with ⟨rfl, rfl, rfl, z⟩ | ⟨z1, z⟩ | ⟨rfl, z1, z⟩ | ⟨rfl, rfl, z1, z2, z⟩ <;> (try rw [z] at HE) <;> clear z
 all_goals rcases d_w a with rfl | za
 all_goals
  go_enter func157, ntmps157
  go_wp2_with (first
   | (go_at_call 113; refine (H1.out _).mono ?_; rintro e w1 ⟨rfl, hb1⟩; have hcur := a_1 hcur s_ hb1; obtain ⟨k0, k1, k2, k3, k4, k5, k6⟩ := a_R hcur; clear hb1)
   | (go_at_call 82; refine (HR.out _ (a_5 hcur)).mono ?_; rintro e w1 ⟨rfl, rfl⟩))
  all_goals
   go_ret
   refine ⟨a_a ?_, by first | exact a_5 hcur | exact zX⟩; refine m_2 ?_; intro he hy; clear HE HY H1 HR
   (try rw [hy] at he)
   clear hy; rw [he]; clear he
   grind
theorem i_6 (op k m a : Int) (x nm : ByteArray) (w : World) (hW : a_v w 1 a_w) (h0 : op ≠ 0) (h1 : op ≠ 1) (h20 : op ≠ 20) (h21 : op ≠ 21) : Calls prog 157 #[ndV op k m x nm a] w fun e w' => e = .returned (.bool (a_H op k m (bs x) (bs nm) a)) ∧ Below w.heap.size w w' := by
 have H1 := a_2 (fun W => e_j op k m a x nm W)
 refine r_Q ?_; intro hcur b0 b1 b20 b21
 have c0 : (op != 0) = true := by simpa using h0
 have c21 : (op != 21) = true := by simpa using h21
 clear hW
 have HE := a_2 (e_X h0 h1 h20 h21 k m a (bs x) (bs nm))
 refine m_0 ?_; intro HZ HY
 generalize b_N op a = y at *
 clear h0 h1 h20 h21
 generalize a_H op k m (bs x) (bs nm) a = r at *
 rcases HZ with ⟨rfl, rfl, rfl, z⟩ | ⟨z1, z⟩ | ⟨rfl, z1, z⟩ | ⟨rfl, rfl, z1, z2, z⟩ <;> (try rw [z] at HE) <;> clear z
 all_goals rcases d_w a with rfl | za
 all_goals
  go_enter func157, ntmps157
  go_wp2_with (first
   | (go_at_call 158; refine (H1.out _).mono ?_; rintro e w1 ⟨rfl, hb1⟩; have hcur := a_1 hcur s_ hb1; obtain ⟨k0, k1, k2, k3, k4, k5, k6⟩ := a_R hcur; clear hb1))
  all_goals
   go_ret
   refine ⟨a_a ?_, by first | exact a_5 hcur | exact zX⟩; refine m_2 ?_; intro he hy; clear HE HY H1
   (try rw [hy] at he)
   clear hy; rw [he]; clear he
   grind
set_option maxRecDepth 512
theorem r_F (w : World) : (zeroValue 3).run prog w = .ok (.int .i64 0) w := by kernel_rfl
theorem o_6 {w : World} {B : Nat} (h : w.ownsMap prog 9 (plainElem prog 3) B 5 biD) (s : ByteArray) (hs : s.size ≤ maxLen) :
  ∃ c : Int, (Instr.lookup 213 (.map (some B)) (.string s) true).run prog w = .ok (.tuple #[.int .i64 c, .bool (biB (bs s))]) w ∧ biD.atKey (.string (bs s)) (.lit (.int .i64 0)) = .lit (.int .i64 c) := by
 obtain ⟨v, ps, hrun, hv⟩ := h.look_ok h_q underlying213 (r_F w) (plainElem_int underlying3 d_) (keyOf_string_mk underlying9 hs)
 obtain ⟨c, rfl, hc, hwc⟩ := plainElem_int_inv underlying3 hv
 have e : Maps.has biD (.string s.data.toList) = biB (bs s) := n_E (bs s)
 rw [e] at hrun
 exact ⟨c, hrun, congrArg Prod.fst hc⟩
set_option maxRecDepth 100000
theorem k_V (k m a : Int) (x nm : ByteArray) (w : World) (hW : a_v w 1 a_w) (hn : nm.size ≤ maxLen) : Calls prog 157 #[ndV 21 k m x nm a] w fun e w' => e = .returned (.bool (a_H 21 k m (bs x) (bs nm) a)) ∧ Below w.heap.size w w' := by
 have H1 := a_2 (fun W => b_c nm W hn)
 refine _aj ?_; intro HR
 have hcur := b_ (w.heap.size + 1) (w.alloc (d_x 21 k m x nm a))
 have HN := a_2 hn
 clear hW hn
 have HE := a_2 (h_t k m a (bs x) (bs nm))
 have HZ := h_m k m x
 have HB := a_2 (show biB (bs nm) = biB (bs nm) from rfl)
 generalize b_4 24 (bs nm) = p at *
 generalize c_T (bs nm) = q at *
 generalize a_H 21 k m (bs x) (bs nm) a = r at *
 rcases HZ with ⟨rfl, rfl, rfl, z⟩ | ⟨z1, z⟩ | ⟨rfl, z1, z⟩ | ⟨rfl, rfl, z1, z2, z⟩ <;> (try rw [z] at HE) <;> clear z
 case inl =>
  go_enter func157, ntmps157
  go_wp2_with fail
  go_region_with (go_at_call 206; refine (j_d _).mono ?_; rintro e w1 ⟨⟨B, rfl, hown, hB1, hB2⟩, hb1⟩; have hcur := a_1 (show Below (w.heap.size + 1) (w.alloc (d_x 21 0 0 ⟨#[]⟩ nm a)) _ from zX) s_ hb1; obtain ⟨k0, k1, k2, k3, k4, k5, k6⟩ := a_R hcur; obtain ⟨c, hrun, _⟩ := o_6 hown nm HN.out; clear hown hb1)
  all_goals
   generalize biB (bs nm) = b at *; clear hB1 hB2
   go_wp2_with (first
    | (go_at_call 113; refine (H1.out _).mono ?_; rintro e w1 ⟨rfl, hb1⟩; have hcur := a_1 hcur s_ hb1; obtain ⟨k0, k1, k2, k3, k4, k5, k6⟩ := a_R hcur; clear hb1)
    | (go_at_call 82; refine (HR.out _ (a_5 hcur)).mono ?_; rintro e w1 ⟨rfl, rfl⟩))
   all_goals
    go_ret
    refine ⟨a_a ?_, by first | exact a_5 hcur | exact zX⟩; have he := HE.out; clear HE H1 HR; rw [he]; clear he
    grind
 all_goals
  go_enter func157, ntmps157
  go_wp2
  go_ret
  refine ⟨a_a ?_, zX⟩
  rw [HE.out]; rfl
set_option maxRecDepth 512
theorem g_B (op k m a : Int) (x nm : ByteArray) (w : World) (hW : a_v w 1 a_w) (hn : nm.size ≤ maxLen) : Calls prog 157 #[ndV op k m x nm a] w fun e w' => e = .returned (.bool (a_H op k m (bs x) (bs nm) a)) ∧ Below w.heap.size w w' := by
 by_cases h0 : op = 0
 ·subst h0; exact m_q k m a x nm w hW
 by_cases h1 : op = 1
 ·subst h1; exact m_L k m a x nm w hW
 by_cases h20 : op = 20
 ·subst h20; exact k_N k m a x nm w hW hn
 by_cases h21 : op = 21
 ·subst h21; exact k_V k m a x nm w hW hn
 exact i_6 op k m a x nm w hW h0 h1 h20 h21
end
end Go.Proofs.YtnpjibaolicbmaaGreatDoor
