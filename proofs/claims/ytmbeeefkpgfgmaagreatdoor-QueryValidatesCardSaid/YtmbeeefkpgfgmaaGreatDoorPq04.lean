/- Plain functions and contracts: the values; value.Valid, ref1.Valid. Plain: the nodes of expressions, their arity and shape, the machine of heights, valid lists. No program in sight. The built-in names: a map that a call makes of constants. -/
import Derived.Test.YtmbeeefkpgfgmaaGreatDoorPq03
import Derived.Maps.Own
import Derived.Maps.OwnOps
import Derived.Maps.OwnSet
set_option linter.unusedVariables false
set_option linter.unusedSimpArgs false
namespace Go.Proofs.YtmbeeefkpgfgmaaGreatDoor
open Go.RowKit
structure Vl where
  kind : Int
  num : Int
  text : Bytes
def Vl.cells (v : Vl) : List Value := [.int .i64 v.kind, .int .i64 v.num, str v.text]
abbrev Vl.agg (v : Vl) : Value := .agg #[.int .i64 v.kind, .int .i64 v.num, str v.text]
def vl0 : Vl := ⟨0, 0, []⟩
def validV (k n : Int) (x : Bytes) : Bool :=
  if k = 0 then n == 0 && x.isEmpty
  else if k = 1 then (n == 0 || n == 1) && x.isEmpty
  else if k = 2 then (decide (-1073741824 ≤ n) && decide (n ≤ 1073741824)) && x.isEmpty
  else if k = 3 then n == 0 && decide (x.length ≤ 64)
  else if k = 4 then (decide (0 ≤ n) && decide (n ≤ 575999999)) && x.isEmpty
  else false
set_option maxHeartbeats 4000000 in
theorem ref1_Valid_any (k n : Int) (s : ByteArray) (w : World) : Calls Tryz.prog 163 #[.agg #[.int .i64 k, .int .i64 n, .string s]] w fun e w' => e = .returned (.bool (validV k n (bs s))) ∧ Below w.heap.size w w' := by
  have HL := hide (bs_len s)
  have HB := hide (bs_toList s)
  go_enter Tryz.func163, Tryz.ntmps163
  go_wp2
  all_goals
    go_ret
    refine ⟨ret_bool ?_, by first | assumption | (repeat (first | exact Below.refl _ _ | assumption | refine Below.drew ?_ | refine below_drewN ?_ _ | refine Below.alloc ?_ (by first | omega | simp <;> omega) _ | refine Below.setCell ?_ (by first | omega | simp <;> omega) _))⟩
    rw [HB.out]
    have hlen := HL.out
    have hbs := HB.out
    clear HL HB
    simp_all [validV] <;> omega
set_option maxHeartbeats 4000000 in
theorem value_Valid_any (k n : Int) (s : ByteArray) (w : World) : Calls Tryz.prog 159 #[.agg #[.int .i64 k, .int .i64 n, .string s]] w fun e w' => e = .returned (.bool (validV k n (bs s))) ∧ Below w.heap.size w w' := by
  have HL := hide (bs_len s)
  have HB := hide (bs_toList s)
  go_enter Tryz.func159, Tryz.ntmps159
  go_wp2
  all_goals
    go_ret
    refine ⟨ret_bool ?_, by first | assumption | (repeat (first | exact Below.refl _ _ | assumption | refine Below.drew ?_ | refine below_drewN ?_ _ | refine Below.alloc ?_ (by first | omega | simp <;> omega) _ | refine Below.setCell ?_ (by first | omega | simp <;> omega) _))⟩
    rw [HB.out]
    have hlen := HL.out
    have hbs := HB.out
    clear HL HB
    simp_all [validV] <;> omega
end Go.Proofs.YtmbeeefkpgfgmaaGreatDoor

namespace Go.Proofs.YtmbeeefkpgfgmaaGreatDoor
open Go.RowKit
structure Nd where
  op : Int
  val : Vl
  name : Bytes
  arity : Int
def Nd.cells (n : Nd) : List Value := [.int .i64 n.op, .int .i64 n.val.kind, .int .i64 n.val.num, str n.val.text, str n.name, .int .i64 n.arity]
abbrev Nd.agg (n : Nd) : Value := .agg #[.int .i64 n.op, .int .i64 n.val.kind, .int .i64 n.val.num, str n.val.text, str n.name, .int .i64 n.arity]
abbrev ndCells (es : List Nd) : List Value := es.flatMap Nd.cells
theorem ndCells_len : ∀ es : List Nd, (ndCells es).length = es.length * 6
  | [] => rfl
  | n :: es => by
    have := ndCells_len es
    rw [show ndCells (n :: es) = n.cells ++ ndCells es from rfl, List.length_append, this, List.length_cons]
    simp [Nd.cells]; omega
theorem ndCells_get : ∀ (es : List Nd) (i : Nat) (h : i < es.length), (ndCells es)[i * 6]? = some (.int .i64 es[i].op) ∧ (ndCells es)[i * 6 + 1]? = some (.int .i64 es[i].val.kind) ∧ (ndCells es)[i * 6 + 2]? = some (.int .i64 es[i].val.num) ∧
    (ndCells es)[i * 6 + 3]? = some (str es[i].val.text) ∧ (ndCells es)[i * 6 + 4]? = some (str es[i].name) ∧ (ndCells es)[i * 6 + 5]? = some (.int .i64 es[i].arity)
  | [], i, h => by simp at h
  | n :: es, 0, _ => ⟨rfl, rfl, rfl, rfl, rfl, rfl⟩
  | n :: es, i + 1, h => by
    obtain ⟨h1, h2, h3, h4, h5, h6⟩ := ndCells_get es i (by simpa using h)
    have e : ∀ j, (ndCells (n :: es))[(i + 1) * 6 + j]? = (ndCells es)[i * 6 + j]? := by
      intro j
      rw [show ndCells (n :: es) = n.cells ++ ndCells es from rfl, List.getElem?_append_right (by simp [Nd.cells]; omega)]
      congr 1
      simp [Nd.cells]; omega
    exact ⟨by simpa using (e 0).trans h1, (e 1).trans h2, (e 2).trans h3, (e 3).trans h4, (e 4).trans h5, (e 5).trans h6⟩
def NdAt (w : World) (g off : Nat) (n : Nd) : Prop :=
  w.cell? ⟨g, off, none⟩ = some (.int .i64 n.op) ∧ w.cell? ⟨g, off + 1, none⟩ = some (.int .i64 n.val.kind) ∧ w.cell? ⟨g, off + 2, none⟩ = some (.int .i64 n.val.num) ∧
    w.cell? ⟨g, off + 3, none⟩ = some (str n.val.text) ∧ w.cell? ⟨g, off + 4, none⟩ = some (str n.name) ∧ w.cell? ⟨g, off + 5, none⟩ = some (.int .i64 n.arity)
def NdsAt (w : World) (A : Option Addr) (es : List Nd) : Prop :=
  es = [] ∨ ∃ g off, A = some ⟨g, off, none⟩ ∧ g < w.heap.size ∧ ∀ j u, (ndCells es)[j]? = some u → w.cell? ⟨g, off + j, none⟩ = some u
theorem nd_of_cells {w : World} {g off : Nat} {es : List Nd} (hc : ∀ j u, (ndCells es)[j]? = some u → w.cell? ⟨g, off + j, none⟩ = some u) (i : Nat) (hi : i < es.length) : NdAt w g (off + i * 6) es[i] := by
  obtain ⟨h1, h2, h3, h4, h5, h6⟩ := ndCells_get es i hi
  exact ⟨hc _ _ h1, hc _ _ h2, hc _ _ h3, hc _ _ h4, hc _ _ h5, hc _ _ h6⟩
theorem NdsAt_of_own {w : World} {base e c : Nat} {A : Option Addr} {es : List Nd} (h : w.ownsRow base e 6 (.slice A es.length c) es.length (ndCells es)) : NdsAt w A es := by
  rcases h.2 with ⟨_, hn⟩ | ⟨g, cap, cur, hv, hg, hh, hnc, hcap, hsz, htk⟩
  · exact .inl (List.eq_nil_of_length_eq_zero hn)
  · injection hv with h1 h2 h3
    subst h1
    refine .inr ⟨g, 0, rfl, lt_of_heap hh, fun j u hu => ?_⟩
    have hj : j < es.length * 6 := by
      rcases Nat.lt_or_ge j (ndCells es).length with h | h
      · rwa [ndCells_len] at h
      · rw [List.getElem?_eq_none h] at hu; cases hu
    have hc : w.cell? ⟨g, j, none⟩ = (ndCells es)[j]? := World.ownsRow.cellAt h j hj
    rw [Nat.zero_add, hc, hu]
theorem NdsAt.below {w w' : World} {A : Option Addr} {es : List Nd} (h : NdsAt w A es) (hb : Below w.heap.size w w') : NdsAt w' A es := by
  rcases h with h | ⟨g, off, hA, hg, hc⟩
  · exact .inl h
  · exact .inr ⟨g, off, hA, Nat.lt_of_lt_of_le hg hb.size, fun j u hu => (hb.cell (p := ⟨g, _, none⟩) hg).trans (hc j u hu)⟩

/-! ### arity and shape -/
def arityN (op a : Int) : Int :=
  if op = 0 ∨ op = 1 then 0
  else if op = 2 ∨ op = 3 ∨ op = 16 ∨ op = 19 ∨ op = 20 then 1
  else if op = 17 then 3
  else if op = 21 then a
  else if 4 ≤ op ∧ op ≤ 18 then 2
  else -1
def builtinS : List Bytes := [[105, 102], [99, 111, 97, 108, 101, 115, 99, 101], [105, 115, 110, 117, 108, 108], [108, 101, 110, 103, 116, 104], [100, 97, 121]]
def biB (l : Bytes) : Bool := hasB builtinS l
def zeroV (k n : Int) (x : Bytes) : Bool := (k == 0) && (n == 0) && x.isEmpty
def shapedN (op k n : Int) (x nm : Bytes) (a : Int) : Bool :=
  if op = 0 then validV k n x && nm.isEmpty && (a == 0)
  else zeroV k n x &&
    (if op = 1 then (a == 0) && isNameB 24 nm && !resB nm
     else if op = 20 then (a == 0) && isQualB 24 nm && !resB nm
     else if op = 21 then isQualB 24 nm && !biB nm && !resB nm && decide (0 ≤ a) && decide (a ≤ 8)
     else (a == 0) && nm.isEmpty && decide (0 ≤ arityN op a))
abbrev Nd.ar (n : Nd) : Int := arityN n.op n.arity
abbrev Nd.ok (n : Nd) : Bool := shapedN n.op n.val.kind n.val.num n.val.text n.name n.arity
theorem shaped_ar {n : Nd} (h : n.ok = true) : 0 ≤ n.ar ∧ n.ar ≤ 8 := by
  obtain ⟨op, ⟨k, m, x⟩, nm, a⟩ := n
  have h : shapedN op k m x nm a = true := h
  show 0 ≤ arityN op a ∧ arityN op a ≤ 8
  unfold shapedN at h
  unfold arityN at h ⊢
  repeat' split at h
  all_goals (try simp at h) <;> (repeat' split) <;> first | omega | (simp_all; done) | (simp_all <;> omega)

/-! ### the machine of heights -/
def topH (st : List Int) (a : Nat) : Int := ((st.drop (st.length - a)).foldl max 0) + 1
def stepE (n : Nd) (st : List Int) : Except Int (List Int) :=
  if n.ok = false ∨ (st.length : Int) < n.ar then .error 8
  else if 64 < topH st n.ar.toNat then .error 2
  else .ok (st.take (st.length - n.ar.toNat) ++ [topH st n.ar.toNat])
def runE : List Nd → List Int → Except Int (List Int)
  | [], st => .ok st
  | n :: r, st => match stepE n st with | .error x => .error x | .ok st' => runE r st'
def validE (es : List Nd) : Int :=
  if 256 < es.length then 2 else match runE es [] with | .error x => x | .ok st => if st.length = 1 then 0 else 8
theorem runE_cons (n : Nd) (r : List Nd) (st : List Int) : runE (n :: r) st = match stepE n st with | .error x => .error x | .ok st' => runE r st' := rfl
theorem runE_append : ∀ (a b : List Nd) (st : List Int), runE (a ++ b) st = match runE a st with | .error x => .error x | .ok st' => runE b st'
  | [], b, st => rfl
  | n :: a, b, st => by
    rw [List.cons_append, runE_cons, runE_cons]
    cases stepE n st with
    | error x => rfl
    | ok st' => exact runE_append a b st'
theorem runE_one (n : Nd) (st : List Int) : runE [n] st = stepE n st := by
  unfold runE
  cases stepE n st <;> rfl
theorem runE_take {es : List Nd} {k : Nat} {st : List Int} (h : runE (es.take k) [] = .ok st) (hk : k < es.length) : runE (es.take (k + 1)) [] = stepE es[k] st := by
  rw [List.take_succ_eq_append_getElem hk, runE_append, h]
  exact runE_one _ _
theorem runE_fails {es : List Nd} {k : Nat} {x : Int} (h : runE (es.take k) [] = .error x) : runE es [] = .error x := by
  rw [← List.take_append_drop k es, runE_append, h]
theorem foldl_max_ge : ∀ (l : List Int) (b : Int), b ≤ l.foldl max b ∧ ∀ x ∈ l, x ≤ l.foldl max b
  | [], b => ⟨Int.le_refl _, fun x hx => by cases hx⟩
  | y :: l, b => by
    obtain ⟨h1, h2⟩ := foldl_max_ge l (max b y)
    rw [List.foldl_cons]
    refine ⟨by omega, fun x hx => ?_⟩
    rcases List.mem_cons.1 hx with rfl | hx
    · omega
    · exact h2 x hx
theorem foldl_max_le : ∀ (l : List Int) (b m : Int), b ≤ m → (∀ x ∈ l, x ≤ m) → l.foldl max b ≤ m
  | [], b, m, h, _ => h
  | y :: l, b, m, h, hl => by
    rw [List.foldl_cons]
    have := hl y (by simp)
    exact foldl_max_le l _ m (by omega) (fun x hx => hl x (List.mem_cons_of_mem _ hx))
theorem stepE_ok {n : Nd} {st st' : List Int} (h : stepE n st = .ok st') : n.ok = true ∧ n.ar ≤ st.length ∧ topH st n.ar.toNat ≤ 64 ∧ st' = st.take (st.length - n.ar.toNat) ++ [topH st n.ar.toNat] := by
  unfold stepE at h
  split at h
  · cases h
  · rename_i h1
    split at h
    · cases h
    · injection h with h
      refine ⟨by cases hh : n.ok <;> simp_all, by omega, by omega, h.symm⟩
theorem stepE_err {n : Nd} {st : List Int} {x : Int} (h : stepE n st = .error x) : x = 8 ∨ x = 2 := by
  unfold stepE at h
  split at h
  · injection h with h; exact .inl h.symm
  · split at h
    · injection h with h; exact .inr h.symm
    · cases h
theorem runE_err : ∀ (es : List Nd) (st : List Int) (x : Int), runE es st = .error x → x = 8 ∨ x = 2
  | [], st, x, h => by cases h
  | n :: es, st, x, h => by
    unfold runE at h
    split at h
    · rename_i y hy; injection h with h; subst h; exact stepE_err hy
    · exact runE_err es _ x h
theorem topH_pos (st : List Int) (a : Nat) : 1 ≤ topH st a := by
  unfold topH
  have := (foldl_max_ge (st.drop (st.length - a)) 0).1
  omega
def StkOk (st : List Int) : Prop := ∀ x ∈ st, 1 ≤ x ∧ x ≤ 64
theorem stepE_stk {n : Nd} {st st' : List Int} (h : stepE n st = .ok st') (hs : StkOk st) : StkOk st' ∧ st'.length ≤ st.length + 1 := by
  obtain ⟨h1, h2, h3, rfl⟩ := stepE_ok h
  refine ⟨fun x hx => ?_, by simp⟩
  rcases List.mem_append.1 hx with hx | hx
  · exact hs x (List.mem_of_mem_take hx)
  · simp at hx; subst hx; exact ⟨topH_pos _ _, h3⟩
theorem runE_stk : ∀ (es : List Nd) (st st' : List Int), runE es st = .ok st' → StkOk st → StkOk st' ∧ st'.length ≤ st.length + es.length
  | [], st, st', h, hs => by injection h with h; subst h; exact ⟨hs, by simp⟩
  | n :: es, st, st', h, hs => by
    unfold runE at h
    split at h
    · cases h
    · rename_i s1 h1
      obtain ⟨a, b⟩ := stepE_stk h1 hs
      obtain ⟨c, d⟩ := runE_stk es s1 st' h a
      exact ⟨c, by simp; omega⟩

/-! ### expressions that are built -/
def lenB : Nat → Nat
  | 0 => 1
  | d + 1 => 3 * lenB d + 1
theorem lenB_pos : ∀ d, 1 ≤ lenB d
  | 0 => Nat.le_refl _
  | d + 1 => by unfold lenB; omega
def ColIn (cs : List Bytes) (es : List Nd) : Prop := ∀ n ∈ es, n.op = 1 → n.name ∈ cs
theorem ColIn.append {cs : List Bytes} {a b : List Nd} (h : ColIn cs a) (k : ColIn cs b) : ColIn cs (a ++ b) := fun n hn => by
  rcases List.mem_append.1 hn with hn | hn
  · exact h n hn
  · exact k n hn
theorem ColIn.one {cs : List Bytes} {n : Nd} (h : n.ar ≠ 0) : ColIn cs [n] := fun m hm e => by
  simp at hm; subst hm
  exact absurd (show arityN m.op m.arity = 0 by rw [e]; rfl) h
def Good (cs : List Bytes) (d : Nat) (es : List Nd) : Prop := es.length ≤ lenB d ∧ ColIn cs es ∧ ∃ h : Int, 1 ≤ h ∧ h ≤ d + 1 ∧ ∀ st, runE es st = .ok (st ++ [h])
theorem Good.mono {cs : List Bytes} {d : Nat} {es : List Nd} (h : Good cs d es) : Good cs (d + 1) es := by
  obtain ⟨h1, hc, x, h2, h3, h4⟩ := h
  exact ⟨by unfold lenB; omega, hc, x, h2, by omega, h4⟩
theorem Good.ne {cs : List Bytes} {d : Nat} {es : List Nd} (h : Good cs d es) : es ≠ [] := by
  obtain ⟨h1, hc, x, h2, h3, h4⟩ := h
  rintro rfl
  have := h4 []
  injection this with e
  cases e
theorem step_top {n : Nd} {a : Nat} (st ts : List Int) (hn : n.ok = true) (ha : n.ar = a) (hl : ts.length = a) (hm : ts.foldl max 0 < 64) : stepE n (st ++ ts) = .ok (st ++ [ts.foldl max 0 + 1]) := by
  have e1 : (st ++ ts).length - a = st.length := by rw [List.length_append, hl]; omega
  have e2 : topH (st ++ ts) n.ar.toNat = ts.foldl max 0 + 1 := by
    unfold topH
    rw [ha, Int.toNat_natCast, e1, List.drop_left]
  unfold stepE
  rw [if_neg (by rw [hn, ha, List.length_append, hl]; simp; omega), e2, if_neg (by omega), ha, Int.toNat_natCast, e1, List.take_left]
theorem Good.leaf {cs : List Bytes} {n : Nd} (d : Nat) (hn : n.ok = true) (ha : n.ar = 0) (hc : n.op = 1 → n.name ∈ cs) : Good cs d [n] := by
  refine ⟨lenB_pos d, fun m hm => by simp at hm; subst hm; exact hc, 1, by omega, by omega, fun st => ?_⟩
  have := step_top (a := 0) st [] hn (by simpa using ha) rfl (by decide)
  rw [List.append_nil] at this
  rw [runE_one, this]; rfl
theorem Good.un {cs : List Bytes} {n : Nd} {d : Nat} {a : List Nd} (hd : d < 62) (h : Good cs d a) (hn : n.ok = true) (ha : n.ar = 1) : Good cs (d + 1) (a ++ [n]) := by
  obtain ⟨h1, hc, x, h2, h3, h4⟩ := h
  refine ⟨by unfold lenB; simp; omega, hc.append (.one (by omega)), x + 1, by omega, by omega, fun st => ?_⟩
  have hx : [x].foldl max 0 = x := by simp; omega
  rw [runE_append, h4]
  show runE [n] (st ++ [x]) = _
  rw [runE_one, step_top (a := 1) st [x] hn (by simpa using ha) rfl (by rw [hx]; omega), hx]
theorem Good.bin {cs : List Bytes} {n : Nd} {d : Nat} {a b : List Nd} (hd : d < 62) (h : Good cs d a) (k : Good cs d b) (hn : n.ok = true) (ha : n.ar = 2) : Good cs (d + 1) (a ++ b ++ [n]) := by
  obtain ⟨h1, hc, x, h2, h3, h4⟩ := h
  obtain ⟨k1, kc, y, k2, k3, k4⟩ := k
  have hx : [x, y].foldl max 0 = max x y := by simp; omega
  refine ⟨by unfold lenB; simp; omega, (hc.append kc).append (.one (by omega)), max x y + 1, by omega, by omega, fun st => ?_⟩
  rw [runE_append, runE_append, h4]
  show (match runE b (st ++ [x]) with | .error x => _ | .ok st' => runE [n] st') = _
  rw [k4]
  show runE [n] (st ++ [x] ++ [y]) = _
  rw [runE_one, show st ++ [x] ++ [y] = st ++ [x, y] by simp, step_top (a := 2) st [x, y] hn (by simpa using ha) rfl (by rw [hx]; omega), hx]
theorem Good.tri {cs : List Bytes} {n : Nd} {d : Nat} {a b c : List Nd} (hd : d < 62) (h : Good cs d a) (k : Good cs d b) (m : Good cs d c) (hn : n.ok = true) (ha : n.ar = 3) : Good cs (d + 1) (a ++ b ++ c ++ [n]) := by
  obtain ⟨h1, hc, x, h2, h3, h4⟩ := h
  obtain ⟨k1, kc, y, k2, k3, k4⟩ := k
  obtain ⟨m1, mc, z, m2, m3, m4⟩ := m
  have hx : [x, y, z].foldl max 0 = max (max x y) z := by simp; omega
  refine ⟨by unfold lenB; simp; omega, ((hc.append kc).append mc).append (.one (by omega)), max (max x y) z + 1, by omega, by omega, fun st => ?_⟩
  rw [runE_append, runE_append, runE_append, h4]
  show (match (match runE b (st ++ [x]) with | .error x => _ | .ok st' => runE c st') with | .error x => _ | .ok st' => runE [n] st') = _
  rw [k4]
  show (match runE c (st ++ [x] ++ [y]) with | .error x => _ | .ok st' => runE [n] st') = _
  rw [m4]
  show runE [n] (st ++ [x] ++ [y] ++ [z]) = _
  rw [runE_one, show st ++ [x] ++ [y] ++ [z] = st ++ [x, y, z] by simp, step_top (a := 3) st [x, y, z] hn (by simpa using ha) rfl (by rw [hx]; omega), hx]
theorem runE_oks : ∀ (es : List Nd) (st st' : List Int), runE es st = .ok st' → ∀ n ∈ es, n.ok = true
  | [], _, _, _, n, hn => by cases hn
  | m :: es, st, st', h, n, hn => by
    unfold runE at h
    split at h
    · cases h
    · rename_i s1 h1
      rcases List.mem_cons.1 hn with rfl | hn
      · exact (stepE_ok h1).1
      · exact runE_oks es s1 st' h n hn
theorem Good.oks {cs : List Bytes} {d : Nat} {es : List Nd} (h : Good cs d es) : ∀ n ∈ es, n.ok = true := by
  obtain ⟨h1, hc, x, h2, h3, h4⟩ := h
  exact runE_oks es _ _ (h4 [])
theorem lenB_succ (d : Nat) : lenB (d + 1) = 3 * lenB d + 1 := rfl
theorem lenB_mono {d e : Nat} (h : d ≤ e) : lenB d ≤ lenB e := by
  induction e with
  | zero => have : d = 0 := by omega
            subst this; exact Nat.le_refl _
  | succ e ih =>
    by_cases h2 : d = e + 1
    · subst h2; exact Nat.le_refl _
    · have := ih (by omega)
      rw [lenB_succ]; omega
end Go.Proofs.YtmbeeefkpgfgmaaGreatDoor
namespace Go.Proofs.YtmbeeefkpgfgmaaGreatDoor
open Go.RowKit Go.WideMaps Go.Maps
theorem lawStr : Keyed Tryz.prog 9 := string_keyed Tryz.underlying9
def biD : DataW Unit := ((((((DataW.map [] : DataW Unit).put (.string [105, 102]) (.lit (.int .i64 17))).put (.string [99, 111, 97, 108, 101, 115, 99, 101]) (.lit (.int .i64 18))).put (.string [105, 115, 110, 117, 108, 108]) (.lit (.int .i64 16))).put (.string [108, 101, 110, 103, 116, 104]) (.lit (.int .i64 19))).put (.string [100, 97, 121]) (.lit (.int .i64 20)))
def BiIs (w w' : World) (e : Ending) : Prop := ∃ B, e = .returned (.map (some B)) ∧ w'.ownsMap Tryz.prog 9 (plainElem Tryz.prog 3) B 5 biD ∧ w.heap.size ≤ B ∧ B < w'.heap.size
set_option maxRecDepth 100000 in
theorem builtin_any (w : World) : Calls Tryz.prog 160 #[] w fun e w' => BiIs w w' e ∧ Below w.heap.size w w' := by
  have hmm := @run_makeMap Tryz.prog
  have hm := World.ownsMap_made (H := Unit) w Tryz.prog 9 (plainElem Tryz.prog 3)
  obtain ⟨w1, r1, o1, g1⟩ := hm.update (t := 152) lawStr Tryz.underlying152 (by decide) (keyOf_string_mk (s := ⟨#[105, 102]⟩) Tryz.underlying9 (by decide)) (plainElem_int (a := 17) Tryz.underlying3 (by decide))
  obtain ⟨w2, r2, o2, g2⟩ := o1.update (t := 152) lawStr Tryz.underlying152 (by decide) (keyOf_string_mk (s := ⟨#[99, 111, 97, 108, 101, 115, 99, 101]⟩) Tryz.underlying9 (by decide)) (plainElem_int (a := 18) Tryz.underlying3 (by decide))
  obtain ⟨w3, r3, o3, g3⟩ := o2.update (t := 152) lawStr Tryz.underlying152 (by decide) (keyOf_string_mk (s := ⟨#[105, 115, 110, 117, 108, 108]⟩) Tryz.underlying9 (by decide)) (plainElem_int (a := 16) Tryz.underlying3 (by decide))
  obtain ⟨w4, r4, o4, g4⟩ := o3.update (t := 152) lawStr Tryz.underlying152 (by decide) (keyOf_string_mk (s := ⟨#[108, 101, 110, 103, 116, 104]⟩) Tryz.underlying9 (by decide)) (plainElem_int (a := 19) Tryz.underlying3 (by decide))
  obtain ⟨w5, r5, o5, g5⟩ := o4.update (t := 152) lawStr Tryz.underlying152 (by decide) (keyOf_string_mk (s := ⟨#[100, 97, 121]⟩) Tryz.underlying9 (by decide)) (plainElem_int (a := 20) Tryz.underlying3 (by decide))
  have HO := hide o5
  have hz : w.heap.size < w5.heap.size := by have := g1.size; have := g2.size; have := g3.size; have := g4.size; have := g5.size; simp at *; omega
  have hb : Below w.heap.size w w5 := by
    refine Below.grown (Below.grown (Below.grown (Below.grown (Below.grown ((Below.refl _ w).alloc (Nat.le_refl _) _) g1 ?_ ?_) g2 ?_ ?_) g3 ?_ ?_) g4 ?_ ?_) g5 ?_ ?_
    all_goals first
      | (intro k hk; injection hk with hk; omega)
      | (have := g1.size; have := g2.size; have := g3.size; have := g4.size; simp at *; first | done | omega)
  have HB := hide hb
  clear hm o1 o2 o3 o4 o5 g1 g2 g3 g4 g5 hb
  go_enter Tryz.func160, Tryz.ntmps160
  go_wp2
  go_ret
  exact ⟨⟨w.heap.size, rfl, HO.out, Nat.le_refl _, hz⟩, HB.out⟩
theorem biD_is : biD = .map [(.string [99, 111, 97, 108, 101, 115, 99, 101], .lit (.int .i64 18)), (.string [100, 97, 121], .lit (.int .i64 20)), (.string [105, 102], .lit (.int .i64 17)), (.string [105, 115, 110, 117, 108, 108], .lit (.int .i64 16)), (.string [108, 101, 110, 103, 116, 104], .lit (.int .i64 19))] := by rfl
theorem biD_has (l : Bytes) : Maps.has biD (.string l) = biB l := by
  rw [biD_is]
  unfold biB hasB builtinS Maps.has
  rw [Bool.eq_iff_iff]
  simp [Lit.sameKey]
  grind
end Go.Proofs.YtmbeeefkpgfgmaaGreatDoor
