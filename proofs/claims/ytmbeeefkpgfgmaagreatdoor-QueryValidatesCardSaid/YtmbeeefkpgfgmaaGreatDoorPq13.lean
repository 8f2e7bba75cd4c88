/- Queries: the plain law of the columns that a step gives (ref15.Step), and what lives on while steps are appended. Queries: the columns behind a step are good where those before it are; a name that no column has. Plain Lean. Contracts, told: ref5.Indices, ref5.Same, ref15.many, ref15.condition. Contracts, told: ref15.many, ref15.condition, ref15.Valid, ref5.Same. Contracts, told: ref15.join, ref15.function. -/
import Derived.Test.YtmbeeefkpgfgmaaGreatDoorPq08
import Derived.Test.YtmbeeefkpgfgmaaGreatDoorPq11
import Derived.Test.YtmbeeefkpgfgmaaGreatDoorPq12
import Derived.Deep.QuietTactic
import Derived.BigQuiet
import Derived.Test.YtmbeeefkpgfgmaaGreatDoorPq07
set_option linter.unusedVariables false
set_option linter.unusedSimpArgs false
namespace Go.Proofs.YtmbeeefkpgfgmaaGreatDoor
open Go.RowKit
def KeepsT (w w' : World) : Prop := w.heap.size ≤ w'.heap.size ∧ ∀ (k : Nat) (cs : Array Value) (t : TypeId) (r : Nat × Nat), w.heap[k]? = some (Obj.cells cs t r) → t ≠ 27 → w'.heap[k]? = some (Obj.cells cs t r)
theorem KeepsT.refl (w : World) : KeepsT w w := ⟨Nat.le_refl _, fun _ _ _ _ h _ => h⟩
theorem KeepsT.trans {a b c : World} (h : KeepsT a b) (g : KeepsT b c) : KeepsT a c := ⟨Nat.le_trans h.1 g.1, fun k cs t r e ht => g.2 k cs t r (h.2 k cs t r e ht) ht⟩
theorem KeepsT.of_below {w w' : World} (h : Below w.heap.size w w') : KeepsT w w' :=
  ⟨h.size, fun k cs t r e ht => (h.block k (lt_of_heap e)).trans e⟩
theorem KeepsT.of_grown {w w' : World} {g : Nat} {cur : Array Value} {r : Nat × Nat} {row : Option Nat} (h : w.grownBy w' row) (hr : ∀ k, row = some k → ∃ cur r, w.heap[k]? = some (.cells cur 27 r)) : KeepsT w w' :=
  ⟨h.size, fun k cs t r e ht => (h.block k (lt_of_heap e) (fun hk => by
    obtain ⟨cur, r', hc⟩ := hr k hk.symm
    rw [hc] at e
    injection e with e
    injection e with _ e _
    exact ht e.symm)).trans e⟩
def Firm (F : World → Prop) (w : World) : Prop := ∀ w', KeepsT w w' → F w'
theorem Firm.now {F : World → Prop} {w : World} (h : Firm F w) : F w := h w (KeepsT.refl w)
theorem Firm.keep {F : World → Prop} {w w' : World} (h : Firm F w) (k : KeepsT w w') : Firm F w' := fun v hv => h v (k.trans hv)
theorem Firm.below {F : World → Prop} {w w' : World} (h : Firm F w) (b : Below w.heap.size w w') : Firm F w' := h.keep (KeepsT.of_below b)
theorem Firm.mono {F G : World → Prop} {w : World} (h : Firm F w) (i : ∀ v, F v → G v) : Firm G w := fun v hv => i v (h v hv)
theorem Firm.of_block {F : World → Prop} {w : World} {g : Nat} {cs : Array Value} {t : TypeId} {r : Nat × Nat} (hg : w.heap[g]? = some (.cells cs t r)) (ht : t ≠ 27) (h : ∀ v : World, v.heap[g]? = some (.cells cs t r) → F v) : Firm F w :=
  fun v hv => h v (hv.2 g cs t r hg ht)
theorem Firm.of_own {F : World → Prop} {w : World} {base e size n c : Nat} {A : Option Addr} {xs : List Value} (ho : w.ownsRow base e size (.slice A n c) n xs) (he : e ≠ 27) (h : ∀ v : World, v.ownsRow base e size (.slice A n c) n xs → F v) : Firm F w := by
  intro v hv
  refine h v ⟨ho.1, ?_⟩
  rcases ho.2 with ⟨hn, hz⟩ | ⟨g, cap, cur, hA, hg, hh, hr⟩
  · exact .inl ⟨hn, hz⟩
  · exact .inr ⟨g, cap, cur, hA, hg, hv.2 _ _ _ _ hh he, hr⟩
theorem Firm.nds {w : World} {base c : Nat} {A : Option Addr} {es : List Nd} (h : w.ownsRow base 116 6 (.slice A es.length c) es.length (ndCells es)) : Firm (fun W => NdsAt W A es) w :=
  Firm.of_own h (by decide) fun v hv => NdsAt_of_own hv
/-! ### The columns that a step gives -/
def indE (cs : List Col) (names : List Bytes) (i : Nat) : Int := if idxS cs (names.getD i []) < 0 then 5 else if names.getD i [] ∈ names.take i then 6 else 0
def indX (cs : List Col) (names : List Bytes) : Int := firstE (indE cs names) names.length
def indS (cs : List Col) (names : List Bytes) : List Int := if indX cs names = 0 then names.map (idxS cs) else []
def col0 : Col := ⟨[], 0, false⟩
def colAt (cs : List Col) (i : Int) : Col := if 0 ≤ i ∧ i < cs.length then cs.getD i.toNat col0 else col0
def selS (cs : List Col) (l : List Int) : List Col := l.map (colAt cs)
def joinX (cs : List Col) (s : Stp) (right : List Col) : Int :=
  if indX cs s.names ≠ 0 then indX cs s.names else if indX right s.others ≠ 0 then indX right s.others
  else firstE (fun i => if (colAt cs (idxS cs (s.names.getD i []))).kind = (colAt right (idxS right (s.others.getD i []))).kind then 0 else 7) s.names.length
abbrev CR := List Col × Int
def manyS (cs : List Col) : CR := if 12 < cs.length then ([], 2) else (cs, 0)
def condX (cs : List Col) (es : List Nd) : Int :=
  let r := typS cs zonesL es
  if r.2 = 0 ∧ r.1.1 ≠ 1 ∧ r.1.1 ≠ 0 then 7 else r.2
def growS (cs : List Col) (f : Nat → Int) (g : Nat → Col) (n : Nat) : CR := if firstE f n = 0 then manyS (cs ++ (List.range n).map g) else ([], firstE f n)
def derE (cs : List Col) (its : List It) (i : Nat) : Int :=
  let x := its.getD i it0
  let r := typS cs zonesL x.expr
  if r.2 ≠ 0 then r.2 else if r.1.1 = 0 then 7 else if 0 ≤ idxS cs x.name then 6 else 0
def derC (cs : List Col) (its : List It) (i : Nat) : Col :=
  let x := its.getD i it0
  ⟨x.name, (typS cs zonesL x.expr).1.1, (typS cs zonesL x.expr).1.2⟩
def derS (cs : List Col) (s : Stp) : CR := growS cs (derE cs s.items) (derC cs s.items) s.items.length
def addE (cs right : List Col) (its : List It) (i : Nat) : Int :=
  let x := its.getD i it0
  if idxS right x.col < 0 then 5 else if 0 ≤ idxS cs x.name then 6 else 0
def addC (right : List Col) (op : Int) (its : List It) (i : Nat) : Col :=
  let x := its.getD i it0
  let k := colAt right (idxS right x.col)
  ⟨x.name, k.kind, k.null || op == 5⟩
def addS5 (cs : List Col) (s : Stp) (right : List Col) : CR := if joinX cs s right ≠ 0 then ([], joinX cs s right) else growS cs (addE cs right s.items) (addC right s.op s.items) s.items.length
def funS (cs : List Col) (x : It) : Col × Int :=
  if x.col ≠ [] ∧ idxS cs x.col < 0 then (col0, 5)
  else
    let c := if x.col = [] then col0 else colAt cs (idxS cs x.col)
    if x.fn = 1 ∨ x.fn = 8 ∨ x.fn = 9 ∨ x.fn = 2 ∨ x.fn = 6 then (⟨x.name, 2, false⟩, 0)
    else if x.fn = 3 ∨ x.fn = 7 then (if c.kind ≠ 2 then (⟨x.name, c.kind, c.null⟩, 7) else (⟨x.name, c.kind, true⟩, 0))
    else if x.fn = 4 ∨ x.fn = 5 ∨ x.fn = 10 ∨ x.fn = 11 then (⟨x.name, c.kind, true⟩, 0)
    else (⟨x.name, c.kind, c.null⟩, 0)
def grpS (cs : List Col) (s : Stp) : CR :=
  if indX cs s.names ≠ 0 then ([], indX cs s.names)
  else growS (selS cs (s.names.map (idxS cs))) (fun i => (funS cs (s.items.getD i it0)).2) (fun i => (funS cs (s.items.getD i it0)).1) s.items.length
def wndE (cs : List Col) (x : It) : Int := if (funS cs x).2 ≠ 0 then (funS cs x).2 else if 0 ≤ idxS cs (funS cs x).1.name then 6 else 0
def wndS (cs : List Col) (s : Stp) : CR :=
  if indX cs s.names ≠ 0 then ([], indX cs s.names) else if indX cs s.others ≠ 0 then ([], indX cs s.others)
  else growS cs (fun i => wndE cs (s.items.getD i it0)) (fun i => (funS cs (s.items.getD i it0)).1) s.items.length
def sameB (a b : List Col) : Bool := a.map (fun c => (c.name, c.kind)) == b.map (fun c => (c.name, c.kind))
def widS (a b : List Col) : List Col := (List.range a.length).map fun i => ⟨(a.getD i col0).name, (a.getD i col0).kind, (a.getD i col0).null || (decide (i < b.length) && (b.getD i col0).null)⟩
def unionS (cs : List Col) (s : Stp) (right : List Col) : CR := if sameB cs right = false then ([], 7) else if s.op = 9 then (cs, 0) else (widS cs right, 0)
def opC (cs : List Col) (s : Stp) (right : List Col) : CR :=
  if s.op = 0 then (right, 0) else if s.op = 1 then (if condX cs s.cond ≠ 0 then ([], condX cs s.cond) else (cs, 0)) else if s.op = 2 then derS cs s
  else if s.op = 3 then (if indX cs s.names ≠ 0 then ([], indX cs s.names) else (selS cs (s.names.map (idxS cs)), 0))
  else if s.op = 4 ∨ s.op = 5 then addS5 cs s right else if s.op = 6 ∨ s.op = 7 then (if joinX cs s right ≠ 0 then ([], joinX cs s right) else (cs, 0))
  else if s.op = 8 ∨ s.op = 9 then unionS cs s right else if s.op = 11 then grpS cs s else if s.op = 12 then wndS cs s else (cs, 0)
def stepC (cs : List Col) (s : Stp) (right : List Col) : CR :=
  if stepS s ≠ 0 then ([], stepS s) else if s.op ≠ 0 ∧ colsV cs ≠ 0 then ([], colsV cs) else if s.src ≠ [] ∧ colsV right ≠ 0 then ([], colsV right) else opC cs s right
end Go.Proofs.YtmbeeefkpgfgmaaGreatDoor
namespace Go.Proofs.YtmbeeefkpgfgmaaGreatDoor
open Go.RowKit
structure ColG (cs : List Col) : Prop where
  ok : ColsOk cs
  pos : 0 < cs.length
  le : cs.length ≤ 12
theorem idxS_lt (cs : List Col) (s : Bytes) : idxS cs s < cs.length := (firstI_bd _ _).2
theorem colAt_ok {cs : List Col} (h : ColsOk cs) {i : Int} (h0 : 0 ≤ i) (h1 : i < cs.length) : isNameB 24 (colAt cs i).name = true ∧ resB (colAt cs i).name = false := by
  have hi : i.toNat < cs.length := by omega
  unfold colAt
  rw [if_pos ⟨h0, h1⟩, List.getD_eq_getElem?_getD, List.getElem?_eq_getElem hi]
  exact h _ (List.getElem_mem hi)
theorem nmB_ok {s : Bytes} (h : nmB s = true) : isNameB 24 s = true ∧ resB s = false := by
  unfold nmB at h
  simpa using h
theorem many_good {cs cs' : List Col} (h : ColsOk cs) (hp : 0 < cs.length) (e : manyS cs = (cs', 0)) : ColG cs' := by
  unfold manyS at e
  split at e
  · simp at e
  · simp at e
    subst e
    exact ⟨h, hp, by omega⟩
theorem grow_good {cs cs' : List Col} {f : Nat → Int} {g : Nat → Col} {n : Nat} (h : ColsOk cs) (hp : 0 < cs.length + n) (hg : ∀ i, i < n → isNameB 24 (g i).name = true ∧ resB (g i).name = false) (e : growS cs f g n = (cs', 0)) : ColG cs' := by
  unfold growS at e
  split at e
  · refine many_good (fun c hc => ?_) (by simp; omega) e
    rcases List.mem_append.1 hc with hc | hc
    · exact h c hc
    · simp only [List.mem_map, List.mem_range] at hc
      obtain ⟨i, hi, rfl⟩ := hc
      exact hg i hi
  · rename_i h0
    injection e with _ e
    exact absurd e h0
theorem firstE_zero {f : Nat → Int} : ∀ {n : Nat}, firstE f n = 0 → ∀ j, j < n → f j = 0
  | 0, _, j, hj => absurd hj (Nat.not_lt_zero _)
  | n + 1, h, j, hj => by
    unfold firstE at h
    split at h
    · rename_i h0
      by_cases e : j = n
      · subst e; exact h
      · exact firstE_zero h0 j (by omega)
    · rename_i h0; exact absurd h h0
theorem ind_ok {cs : List Col} {names : List Bytes} (h : indX cs names = 0) (j : Nat) (hj : j < names.length) : 0 ≤ idxS cs (names.getD j []) := by
  have := firstE_zero h j hj
  unfold indE at this
  split at this
  · omega
  · omega
theorem sel_good {cs : List Col} {names : List Bytes} (h : ColsOk cs) (hi : indX cs names = 0) : ColsOk (selS cs (names.map (idxS cs))) := by
  intro c hc
  simp only [selS, List.mem_map] at hc
  obtain ⟨i, ⟨s, hs, rfl⟩, rfl⟩ := hc
  obtain ⟨j, hj, rfl⟩ := List.mem_iff_getElem.1 hs
  have := ind_ok hi j hj
  rw [List.getD_eq_getElem?_getD, List.getElem?_eq_getElem hj] at this
  exact colAt_ok h this (idxS_lt _ _)
theorem sel_len (cs : List Col) (l : List Int) : (selS cs l).length = l.length := by simp [selS]
theorem item_nm {its : List It} (h : ∀ x ∈ its, nmB x.name = true) {i : Nat} (hi : i < its.length) : isNameB 24 (its.getD i it0).name = true ∧ resB (its.getD i it0).name = false := by
  rw [List.getD_eq_getElem?_getD, List.getElem?_eq_getElem hi]
  exact nmB_ok (h _ (List.getElem_mem hi))
theorem fun_name {cs : List Col} {x : It} (h : (funS cs x).2 = 0) : (funS cs x).1.name = x.name := by
  unfold funS at h ⊢
  split
  · rename_i h0; rw [if_pos h0] at h; simp at h
  · rename_i h0
    rw [if_neg h0] at h
    simp only at h ⊢
    repeat' split
    all_goals rfl
theorem sameB_len {a b : List Col} (h : sameB a b = true) : a.length = b.length := by
  unfold sameB at h
  have := congrArg List.length (eq_of_beq h)
  simpa using this
theorem wid_good {a b : List Col} (h : ColG a) : ColG (widS a b) := by
  refine ⟨fun c hc => ?_, by simp [widS]; exact h.pos, by simp [widS]; exact h.le⟩
  simp only [widS, List.mem_map, List.mem_range] at hc
  obtain ⟨i, hi, rfl⟩ := hc
  simp only
  rw [List.getD_eq_getElem?_getD, List.getElem?_eq_getElem hi]
  exact h.ok _ (List.getElem_mem hi)
theorem list_len {l : List Bytes} {m : Nat} (h : listS l m = 0) : m ≤ l.length ∧ l.length ≤ 12 := by
  unfold listS at h
  split at h
  · simp at h
  · omega
theorem group_len {s : Stp} (h : groupS s = 0) : s.names.length ≤ 12 ∧ 0 < s.names.length + s.items.length := by
  unfold groupS thenE at h
  split at h
  · rename_i h0
    refine ⟨(list_len h0).2, ?_⟩
    split at h
    · simp at h
    · omega
  · rename_i h0; exact absurd h h0
theorem op_good {cs cs' : List Col} {s : Stp} {right : List Col} (h : ColG cs) (hn : ∀ x ∈ s.items, nmB x.name = true) (ho : s.op ≠ 0) (hv : opS s = 0) (e : opC cs s right = (cs', 0)) : ColG cs' := by
  unfold opC at e
  rw [if_neg ho] at e
  by_cases h1 : s.op = 1
  · rw [if_pos h1] at e
    split at e
    · rename_i h0; injection e with _ e; exact absurd e h0
    · injection e with e _; subst e; exact h
  rw [if_neg h1] at e
  by_cases h2 : s.op = 2
  · rw [if_pos h2] at e
    exact grow_good h.ok (by have := h.pos; omega) (fun i hi => item_nm hn hi) e
  rw [if_neg h2] at e
  by_cases h3 : s.op = 3
  · rw [if_pos h3] at e
    split at e
    · rename_i h0; injection e with _ e; exact absurd e h0
    · rename_i h0
      injection e with e _
      subst e
      have hl : listS s.names 1 = 0 := by
        unfold opS at hv
        rw [if_neg (by omega), if_neg (by omega), if_neg (by omega), if_pos h3] at hv
        exact hv
      have := list_len hl
      exact ⟨sel_good h.ok (by simpa using h0), by simp [sel_len]; omega, by simp [sel_len]; omega⟩
  rw [if_neg h3] at e
  by_cases h4 : s.op = 4 ∨ s.op = 5
  · rw [if_pos h4] at e
    unfold addS5 at e
    split at e
    · rename_i h0; injection e with _ e; exact absurd e h0
    · exact grow_good h.ok (by have := h.pos; omega) (fun i hi => item_nm hn hi) e
  rw [if_neg h4] at e
  by_cases h6 : s.op = 6 ∨ s.op = 7
  · rw [if_pos h6] at e
    split at e
    · rename_i h0; injection e with _ e; exact absurd e h0
    · injection e with e _; subst e; exact h
  rw [if_neg h6] at e
  by_cases h8 : s.op = 8 ∨ s.op = 9
  · rw [if_pos h8] at e
    unfold unionS at e
    split at e
    · simp at e
    · split at e
      · injection e with e _; subst e; exact h
      · injection e with e _; subst e; exact wid_good h
  rw [if_neg h8] at e
  by_cases h11 : s.op = 11
  · rw [if_pos h11] at e
    have hg : groupS s = 0 := by
      unfold opS at hv
      rw [if_neg (by omega), if_neg (by omega), if_neg (by omega), if_neg (by omega), if_neg (by omega), if_neg (by omega), if_pos h11] at hv
      exact hv
    have hl := group_len hg
    unfold grpS at e
    split at e
    · rename_i h0; injection e with _ e; exact absurd e h0
    · rename_i h0
      have hz : firstE (fun i => (funS cs (s.items.getD i it0)).2) s.items.length = 0 := by
        unfold growS at e
        split at e
        · assumption
        · rename_i h0; exact absurd (congrArg Prod.snd e) h0
      refine grow_good (sel_good h.ok (by simpa using h0)) (by simp [sel_len]; omega) (fun i hi => ?_) e
      rw [fun_name (firstE_zero hz i hi)]
      exact item_nm hn hi
  rw [if_neg h11] at e
  by_cases h12 : s.op = 12
  · rw [if_pos h12] at e
    unfold wndS at e
    split at e
    · rename_i h0; injection e with _ e; exact absurd e h0
    · split at e
      · rename_i h0; injection e with _ e; exact absurd e h0
      · have hz : firstE (fun i => wndE cs (s.items.getD i it0)) s.items.length = 0 := by
          unfold growS at e
          split at e
          · assumption
          · rename_i h0; exact absurd (congrArg Prod.snd e) h0
        refine grow_good h.ok (by have := h.pos; omega) (fun i hi => ?_) e
        have hw := firstE_zero hz i hi
        have hf : (funS cs (s.items.getD i it0)).2 = 0 := by
          unfold wndE at hw
          split at hw
          · rename_i h0; exact absurd hw h0
          · rename_i h0; simpa using h0
        rw [fun_name hf]
        exact item_nm hn hi
  rw [if_neg h12] at e
  injection e with e _
  subst e
  exact h
theorem step_good {cs cs' : List Col} {s : Stp} {right : List Col} (h : ColG cs) (hn : ∀ x ∈ s.items, nmB x.name = true) (ho : s.op ≠ 0) (e : stepC cs s right = (cs', 0)) : ColG cs' ∧ stepS s = 0 := by
  unfold stepC at e
  split at e
  · rename_i h0; injection e with _ e; exact absurd e h0
  · rename_i hs
    have hs0 : stepS s = 0 := by simpa using hs
    have hv : opS s = 0 := by
      unfold stepS at hs0
      split at hs0
      · simp at hs0
      · exact hs0
    split at e
    · rename_i h0; injection e with _ e; exact absurd e h0.2
    · split at e
      · rename_i h0; injection e with _ e; exact absurd e h0.2
      · exact ⟨op_good h hn ho hv e, hs0⟩
/-! ### A name that no column has -/
theorem nodup_le : ∀ (l m : List Bytes), l.Nodup → (∀ x ∈ l, x ∈ m) → l.length ≤ m.length
  | [], _, _, _ => Nat.zero_le _
  | a :: l, m, h, hs => by
    have ha : a ∈ m := hs a List.mem_cons_self
    have hc := List.nodup_cons.1 h
    have ih := nodup_le l (m.erase a) hc.2 (fun x hx => (List.mem_erase_of_ne (fun e => hc.1 (by subst e; exact hx))).2 (hs x (List.mem_cons_of_mem _ hx)))
    rw [List.length_erase_of_mem ha] at ih
    have := List.length_pos_of_mem ha
    simp only [List.length_cons]
    omega
def freN (n : Int) (i : Nat) : Bytes := [110, UInt8.ofNat (97 + ((n + i) % 26).toNat)]
theorem fre_ok : ∀ j, j < 26 → nmB [110, UInt8.ofNat (97 + j)] = true := by decide
theorem fre_two : ∀ a, a < 26 → ∀ b, b < 26 → UInt8.ofNat (97 + a) = UInt8.ofNat (97 + b) → a = b := by decide
theorem freN_ok (n : Int) (i : Nat) : nmB (freN n i) = true := fre_ok _ (by omega)
theorem freN_inj {n : Int} {i j : Nat} (hi : i < 26) (hj : j < 26) (h : freN n i = freN n j) : i = j := by
  unfold freN at h
  simp only [List.cons.injEq, and_true, true_and] at h
  have := fre_two _ (by omega) _ (by omega) h
  omega
theorem idxS_mem {cs : List Col} {s : Bytes} (h : 0 ≤ idxS cs s) : s ∈ colNm cs := by
  rcases Decidable.em (∃ j, j < cs.length ∧ nmIs cs s j = true) with ⟨j, hj, e⟩ | hno
  · rw [nmIs_at hj] at e
    rw [← eq_of_beq e]
    exact List.mem_map.2 ⟨_, List.getElem_mem hj, rfl⟩
  · have : idxS cs s = -1 := firstI_none fun j hj => by
      cases e : nmIs cs s j
      · rfl
      · exact absurd ⟨j, hj, e⟩ hno
    omega
theorem fresh_at (cs : List Col) (n : Int) (hl : cs.length ≤ 12) : ∃ q, q < 26 ∧ idxS cs (freN n q) < 0 ∧ ∀ j, j < q → 0 ≤ idxS cs (freN n j) := by
  have hex : ∃ q, q < 26 ∧ idxS cs (freN n q) < 0 := by
    rcases Classical.em (∃ q, q < 26 ∧ idxS cs (freN n q) < 0) with h | h
    · exact h
    · exfalso
      have hall : ∀ q, q < 26 → 0 ≤ idxS cs (freN n q) := fun q hq => by
        rcases Int.lt_or_le (idxS cs (freN n q)) 0 with h1 | h1
        · exact absurd ⟨q, hq, h1⟩ h
        · exact h1
      have hle := nodup_le ((List.range 26).map (freN n)) (colNm cs) (by
        rw [List.Nodup, List.pairwise_map]
        refine List.Pairwise.imp_of_mem (R := fun a b => a < b) (fun {a b} ha hb hab e => ?_) List.pairwise_lt_range
        have := freN_inj (List.mem_range.1 ha) (List.mem_range.1 hb) e
        omega) (fun x hx => by
        obtain ⟨q, hq, rfl⟩ := List.mem_map.1 hx
        exact idxS_mem (hall q (List.mem_range.1 hq)))
      simp [colNm] at hle
      omega
  obtain ⟨q, hq, h⟩ := hex
  obtain ⟨r, hr, hp, hm⟩ := first_of (fun j => decide (idxS cs (freN n j) < 0)) q (by simpa using h)
  exact ⟨r, by omega, by simpa using hp, fun j hj => by have := hm j hj; simpa using this⟩
end Go.Proofs.YtmbeeefkpgfgmaaGreatDoor
namespace Go.Proofs.YtmbeeefkpgfgmaaGreatDoor
open Go.RowKit
theorem has_str2 (A : Option Addr) (l : List Bytes) (c : Nat) (x : Bytes) (W : World) (h : StrsAt W A l) (hl : l.length ≤ 1000000) : Calls Tryz.prog 20 #[.slice A l.length c, str x] W fun e w' => e = .returned (.bool (decide (x ∈ l))) ∧ W = w' := by
  refine (ref5_Has_any A l c ⟨x.toArray⟩ W h hl).mono ?_
  rintro e w' ⟨rfl, rfl⟩
  refine ⟨ret_bool ?_, rfl⟩
  show l.contains x = _
  cases hc : l.contains x
  · symm; rw [decide_eq_false_iff_not]; intro hm; rw [← List.contains_iff_mem, hc] at hm; cases hm
  · symm; rw [decide_eq_true_eq]; exact List.contains_iff_mem.1 hc
theorem strs_take2 {w : World} {g off : Nat} {l : List Bytes} (hg : g < w.heap.size) (hc : ∀ j (h : j < l.length), w.cell? ⟨g, off + j, none⟩ = some (str l[j])) (k : Nat) : StrsAt w (some ⟨g, off, none⟩) (l.take k) :=
  .inr ⟨g, off, rfl, hg, fun i hi => by
    have h1 : i < l.length := by rw [List.length_take] at hi; omega
    rw [hc i h1, List.getElem_take]⟩
theorem indE_at {cs : List Col} {names : List Bytes} {k : Nat} (h : k < names.length) : indE cs names k = if idxS cs names[k] < 0 then 5 else if names[k] ∈ names.take k then 6 else 0 := by
  unfold indE; rw [List.getD_eq_getElem?_getD, List.getElem?_eq_getElem h]; rfl
def IndIs (cs : List Col) (names : List Bytes) (w' : World) (e : Ending) : Prop := ∃ (A : Option Addr) (c : Nat), e = .returned (.tuple #[.slice A (indS cs names).length c, .int .i64 (indX cs names)]) ∧ IntsAt w' A (indS cs names)
set_option maxRecDepth 100000 in
set_option maxHeartbeats 2000000 in
theorem ref5_Indices_s (C : Option Addr) (cs : List Col) (cc : Nat) (N : Option Addr) (names : List Bytes) (nc : Nat) (w : World) (hC : ColsAt w C cs) (hcl : cs.length ≤ 1000) (hN : StrsAt w N names) (hnl : names.length ≤ 1000000) (hcp : names.length ≤ nc) :
    Calls Tryz.prog 150 #[.slice C cs.length cc, .slice N names.length nc] w fun e w' => IndIs cs names w' e ∧ Below w.heap.size w w' := by
  have HN := hide hN
  have HI := hide (fun s W (hb : Below w.heap.size w W) => ref5_Index_s C cs cc s W (hC.below hb) (by omega))
  clear hC hN
  obtain ⟨i0, hi, hz0, hz1, hz2⟩ := info_parts Tryz.info_int
  go_enter Tryz.func150, Tryz.ntmps150
  go_wp2
  go_loopw [6, 7] (fun s i wr => ∃ (k : Nat) (A' : Option Addr) (c' : Nat), s = .slice A' k c' ∧ i = .int .i64 k ∧ k ≤ names.length ∧ Hid (∀ j, j < k → indE cs names j = 0) ∧
      wr.ownsRow w.heap.size 3 1 (.slice A' k c') k (intVs ((names.take k).map (idxS cs))) ∧ Below w.heap.size w wr) (fun _ i _ => names.length - (intOf i).toNat)
  case atStart => exact ⟨0, none, 0, rfl, rfl, by omega, fun j hj => absurd hj (Nat.not_lt_zero _), own_nil _ _ _ _, Below.refl _ _⟩
  case round =>
    obtain ⟨k, A', c', rfl, rfl, hk, HZ, hown, hbel⟩ := hrel
    have hsz := hbel.size
    by_cases hlt : k < names.length
    · rcases HN.out.below hbel with e | ⟨g, off, rfl, hg, hc⟩
      · exact absurd hlt (by rw [e]; simp)
      have c0 := hc k hlt
      have HX := hide (fun W (hb : Below w.heap.size w W) => show Calls Tryz.prog 222 #[.slice C cs.length cc, str names[k]] W (fun e w' => e = .returned (.int .i64 (idxS cs names[k])) ∧ W = w') from HI.out ⟨names[k].toArray⟩ W hb)
      have HH := hide (fun W (hb : Below wr.heap.size wr W) => by
        have := has_str2 (some ⟨g, off, none⟩) (names.take k) nc names[k] W ((strs_take2 hg hc k).below hb) (by rw [List.length_take]; omega)
        rw [List.length_take, Nat.min_eq_left (Nat.le_of_lt hlt)] at this
        exact this)
      have HT := hide (indE_at (cs := cs) hlt)
      have HF := hide (fun x (e : indE cs names k = x) (hx : x ≠ 0) => show indX cs names = x from (firstE_hit HZ.out (by rw [e]; exact hx) hlt).trans e)
      have HK := hide (fun (e : indE cs names k = 0) => step_lt HZ.out e)
      have HS := hide (show (names.take (k + 1)).map (idxS cs) = (names.take k).map (idxS cs) ++ [idxS cs names[k]] from by rw [List.take_succ_eq_append_getElem hlt, List.map_append]; rfl)
      have hkc : k ≤ nc := by omega
      clear hc
      generalize idxS cs names[k] = y at *
      generalize names[k] = x at *
      by_cases hy : y < 0
      · have HE := hide (HF.out 5 (by rw [HT.out, if_pos hy]) (by decide))
        have HE2 := hide (show indS cs names = [] from by unfold indS; rw [if_neg (by rw [HE.out]; decide)])
        clear HT HF HK HS
        go_wp2_with (go_at_call 222; refine (HX.out _ hbel).mono ?_; rintro e w' ⟨rfl, rfl⟩)
        refine bodyPost_ret (v := .tuple #[.slice none 0 0, .int .i64 5]) (by simp [results, Tryz.results150, go_sem]) rfl ⟨⟨none, 0, by rw [HE.out, HE2.out]; rfl, by rw [HE2.out]; exact .inl rfl⟩, hbel⟩
      rw [if_neg hy] at HT
      by_cases hin : x ∈ names.take k
      · rw [if_pos hin] at HT
        have hinb : decide (x ∈ names.take k) = true := by simpa using hin
        rw [hinb] at HH
        have HE := hide (HF.out 6 HT.out (by decide))
        have HE2 := hide (show indS cs names = [] from by unfold indS; rw [if_neg (by rw [HE.out]; decide)])
        clear hin hinb HF HT HK HS
        go_wp2_with (go_at_call 222; refine (HX.out _ hbel).mono ?_; rintro e w' ⟨rfl, rfl⟩)
        go_region_with (go_at_call 20; refine (HH.out _ (by first | exact Below.refl _ _ | exact below_drewN (Below.refl _ _) 1)).mono ?_; rintro e w' ⟨rfl, rfl⟩)
        all_goals (try go_wp2)
        all_goals
          refine bodyPost_ret (v := .tuple #[.slice none 0 0, .int .i64 6]) (by simp [results, Tryz.results150, go_sem]) rfl ⟨⟨none, 0, by rw [HE.out, HE2.out]; rfl, by rw [HE2.out]; exact .inl rfl⟩, by first | exact hbel | exact below_drewN hbel 1 | exact zX⟩
      · rw [if_neg hin] at HT
        have hinb : decide (x ∈ names.take k) = false := by simpa using hin
        rw [hinb] at HH
        have HE := hide (HK.out HT.out)
        have hb1 : Below wr.heap.size wr wr.drew := below_drewN (Below.refl _ _) 1
        have own1 := own_below hown hb1
        have hb2 : Below w.heap.size w wr.drew := bel2 hb1 hbel
        clear hin hinb HF HT HK
        go_wp2_with (go_at_call 222; refine (HX.out _ hbel).mono ?_; rintro e w' ⟨rfl, rfl⟩)
        go_region_with (go_at_call 20; refine (HH.out _ (by first | exact Below.refl _ _ | exact below_drewN (Below.refl _ _) 1)).mono ?_; rintro e w' ⟨rfl, rfl⟩)
        all_goals
          go_wp2_with (at_builtin; refine wpList_append_own _ rfl _ _ 28 rfl w.heap.size 3 i0 _ 1 8 Tryz.underlying28 hi hz0 hz1 hz2 rfl (by decide) _ _ _ rfl (own1.alloc _) ⟨wr.heap.size, 0, none⟩ 1 1 [.int .i64 y] rfl rfl (by exact cells_1 (heap_alloc_new _ _)) (by simp [Value.oneCell']) (by unfold maxLen; omega) (by omega) (by simp; omega) ?_; intro v' w3 hown3 hgrow _)
          obtain ⟨A3, c3, rfl⟩ := own_form hown3
          have hb3 : Below w.heap.size w w3 := (hb2.alloc hb2.size _).grown hgrow (by first | (simp; done) | (simp; omega)) (fun j hj => (own1.lt j hj).1)
          have HO := hide (show w3.ownsRow w.heap.size 3 1 (.slice A3 (k + 1) c3) (k + 1) (intVs ((names.take (k + 1)).map (idxS cs))) from by rw [HS.out]; simpa [intVs] using hown3)
          clear hown3 hgrow hown own1
          go_wp2
          exact ⟨⟨k + 1, A3, c3, rfl, by go_num, by omega, HE, HO.out, hb3⟩, by simp [intOf]; omega⟩
    · obtain rfl : k = names.length := by omega
      have HE := hide (show indX cs names = 0 from firstE_none HZ.out)
      have HE2 := hide (show indS cs names = names.map (idxS cs) from by unfold indS; rw [if_pos HE.out])
      have HO := hide hown
      go_wp2
      refine bodyPost_ret (v := .tuple #[.slice A' names.length c', .int .i64 0]) (by simp [results, Tryz.results150, go_sem]) rfl ⟨⟨A', c', by rw [HE.out, HE2.out]; simp, ?_⟩, hbel⟩
      have h1 := HO.out
      rw [List.take_length] at h1
      have h2 : (names.map (idxS cs)).length = names.length := by simp
      rw [← h2] at h1
      rw [HE2.out]
      exact (ints_own h1 (by unfold maxLen; omega)).1
end Go.Proofs.YtmbeeefkpgfgmaaGreatDoor
namespace Go.Proofs.YtmbeeefkpgfgmaaGreatDoor
open Go.RowKit
theorem ref15_many_any (C : Option Addr) (n c : Nat) (w : World) (hl : n ≤ 1000000) :
    Calls Tryz.prog 225 #[.slice C n c] w fun e w' => e = .returned (if 12 < n then .tuple #[.slice none 0 0, .int .i64 2] else .tuple #[.slice C n c, .int .i64 0]) ∧ w = w' := by
  by_cases h : 12 < n
  · rw [if_pos h]
    go_enter Tryz.func225, Tryz.ntmps225
    go_wp2
    refine bodyPost_ret (v := .tuple #[.slice none 0 0, .int .i64 2]) (by simp [results, Tryz.results225, go_sem]) rfl ⟨rfl, rfl⟩
  · rw [if_neg h]
    go_enter Tryz.func225, Tryz.ntmps225
    go_wp2
    refine bodyPost_ret (v := .tuple #[.slice C n c, .int .i64 0]) (by simp [results, Tryz.results225, go_sem]) rfl ⟨rfl, rfl⟩
set_option maxRecDepth 100000 in
set_option maxHeartbeats 1000000 in
theorem ref15_condition_any (A : Option Addr) (es : List Nd) (c : Nat) (C : Option Addr) (cs : List Col) (cc : Nat) (Z : Option Addr) (zc : Nat) (w : World) (hE : NdsAt w A es) (hle : es.length ≤ 1000000) (hx : NamesOk es)
    (hC : ColsAt w C cs) (hcl : cs.length ≤ 1000000) (hZ : ZnsAt w Z zonesL) :
    Calls Tryz.prog 148 #[.slice A es.length c, .slice C cs.length cc, .slice Z 3 zc] w fun e w' => e = .returned (.int .i64 (condX cs es)) ∧ Below w.heap.size w w' := by
  have HT := hide (ref9_Type_s node_det A es c C cs cc Z zonesL zc w hE hle hx hC hcl hZ (by decide))
  have HX := hide (show condX cs es = if (typS cs zonesL es).2 = 0 ∧ (typS cs zonesL es).1.1 ≠ 1 ∧ (typS cs zonesL es).1.1 ≠ 0 then 7 else (typS cs zonesL es).2 from rfl)
  have hl3 : zonesL.length = 3 := rfl
  rw [hl3] at HT
  clear hE hx hC hZ
  generalize condX cs es = r at *
  generalize typS cs zonesL es = t at *
  obtain ⟨⟨k, b⟩, x⟩ := t
  simp only at HX
  go_enter Tryz.func148, Tryz.ntmps148
  go_wp2_with fail
  refine HT.out.mono ?_
  rintro e w2 ⟨h, hb2⟩
  obtain rfl : e = .returned (.tuple #[.int .i64 k, .bool b, .int .i64 x]) := h
  clear HT
  by_cases hx0 : x = 0
  rotate_left
  · have h1 : (x == 0) = false := beq_eq_false_iff_ne.2 hx0
    have HR := hide (HX.out.trans (if_neg (fun h => hx0 h.1)))
    clear HX
    go_wp2
    go_ret
    exact ⟨ret_int HR.out.symm, hb2⟩
  subst hx0
  by_cases hk1 : k = 1
  · subst hk1
    have HR := hide (HX.out.trans (if_neg (by simp)))
    clear HX
    go_wp2
    go_ret
    exact ⟨ret_int HR.out.symm, hb2⟩
  have q1 : (k != 1) = true := by simpa using hk1
  by_cases hk0 : k = 0
  · subst hk0
    have HR := hide (HX.out.trans (if_neg (by simp)))
    clear HX
    go_wp2
    go_ret
    exact ⟨ret_int HR.out.symm, hb2⟩
  have q2 : (k != 0) = true := by simpa using hk0
  have HR := hide (HX.out.trans (if_pos ⟨rfl, hk1, hk0⟩))
  clear HX
  go_wp2
  go_ret
  exact ⟨ret_int HR.out.symm, hb2⟩
set_option maxRecDepth 100000 in
set_option maxHeartbeats 1000000 in
theorem ref15_Valid_any (Z : Option Addr) (zs : List Zon) (zc : Nat) (w : World) (hZ : ZnsAt w Z zs) (hz : zs.length ≤ 1000000) (hno : ∀ j, j < zs.length → zerE zs j = 0) :
    Calls Tryz.prog 147 #[.slice Z zs.length zc] w fun e w' => e = .returned (.int .i64 0) ∧ Below w.heap.size w w' := by
  have HZ := hide hZ
  have HNO := hide hno
  clear hZ hno
  go_enter Tryz.func147, Tryz.ntmps147
  go_wp2
  go_loopw [3] (fun i wr => ∃ k : Nat, k ≤ zs.length ∧ i = .int .i64 k ∧ Below w.heap.size w wr) (fun i _ => zs.length - (intOf i).toNat)
  case atStart => exact ⟨0, by omega, rfl, Below.refl _ _⟩
  case round =>
    obtain ⟨k, hk, rfl, hbel⟩ := hrel
    by_cases hlt : k < zs.length
    · rcases HZ.out.below hbel with e | ⟨g, off, rfl, hg, hcz⟩
      · exact absurd hlt (by rw [e]; simp)
      obtain ⟨S, sc, c0, c1, c2, hS, hsm⟩ := hcz k hlt
      have HZV := hide (fun W (hW : Below wr.heap.size wr W) => by
        have := ref4_Validate_s ⟨zs[k].name.toArray⟩ zs[k].off S zs[k].sh sc W (hS.below hW) hsm
        rw [← zerE_at hlt, HNO.out k hlt] at this
        exact this)
      clear hcz hS
      generalize zs[k] = z at *
      go_wp2_with fail
      refine (HZV.out _ (Below.refl _ _)).mono ?_
      rintro e w3 ⟨rfl, hb3⟩
      go_wp2
      exact ⟨⟨k + 1, by omega, by go_num, bel2 hb3 hbel⟩, by simp [intOf]; omega⟩
    · obtain rfl : k = zs.length := by omega
      go_wp2
      go_ret
      exact ⟨rfl, hbel⟩
theorem same_hit {a b : List Col} {k : Nat} (ha : k < a.length) (hb : k < b.length) (h : a[k].name ≠ b[k].name ∨ a[k].kind ≠ b[k].kind) : sameB a b = false := by
  unfold sameB
  rw [beq_eq_false_iff_ne]
  intro e
  have e1 := congrArg (fun l => l[k]?) e
  simp only [List.getElem?_map, List.getElem?_eq_getElem ha, List.getElem?_eq_getElem hb, Option.map_some, Option.some.injEq, Prod.mk.injEq] at e1
  rcases h with h | h
  · exact h e1.1
  · exact h e1.2
theorem same_all {a b : List Col} (hl : a.length = b.length) (h : ∀ k (ha : k < a.length), a[k].name = (b[k]'(by omega)).name ∧ a[k].kind = (b[k]'(by omega)).kind) : sameB a b = true := by
  unfold sameB
  rw [beq_iff_eq]
  apply List.ext_getElem (by simpa using hl)
  intro i h1 h2
  simp only [List.getElem_map]
  have := h i (by simpa using h1)
  rw [this.1, this.2]
set_option maxRecDepth 100000 in
set_option maxHeartbeats 2000000 in
theorem ref5_Same_any (A : Option Addr) (a : List Col) (ac : Nat) (B : Option Addr) (b : List Col) (bc : Nat) (w : World) (hA : ColsAt w A a) (hB : ColsAt w B b) (ha : a.length ≤ 1000000) (hb : b.length ≤ 1000000) :
    Calls Tryz.prog 226 #[.slice A a.length ac, .slice B b.length bc] w fun e w' => e = .returned (.bool (sameB a b)) ∧ Below w.heap.size w w' := by
  have HA := hide hA
  have HB := hide hB
  clear hA hB
  by_cases hl : a.length = b.length
  rotate_left
  · have h1 : ((a.length : Int) != (b.length : Int)) = true := by simp; omega
    have HR := hide (show sameB a b = false from by
      cases h : sameB a b
      · rfl
      · exact absurd (sameB_len h) hl)
    clear hl
    go_enter Tryz.func226, Tryz.ntmps226
    go_wp2
    go_ret
    exact ⟨ret_bool HR.out.symm, Below.refl _ _⟩
  have h1 : ((a.length : Int) != (b.length : Int)) = false := by simp; omega
  go_enter Tryz.func226, Tryz.ntmps226
  go_wp2
  go_loopw [5] (fun i wr => ∃ k : Nat, k ≤ a.length ∧ i = .int .i64 k ∧ Hid (∀ j (hj : j < k) (h1 : j < a.length) (h2 : j < b.length), a[j].name = b[j].name ∧ a[j].kind = b[j].kind) ∧ Below w.heap.size w wr) (fun i _ => a.length - (intOf i).toNat)
  case atStart => exact ⟨0, by omega, rfl, fun j hj => absurd hj (Nat.not_lt_zero _), Below.refl _ _⟩
  case round =>
    obtain ⟨k, hk, rfl, HE, hbel⟩ := hrel
    by_cases hlt : k < a.length
    · have hlt2 : k < b.length := by omega
      rcases HA.out.below hbel with e | ⟨ga, oa, rfl, hga, hca⟩
      · exact absurd hlt (by rw [e]; simp)
      rcases HB.out.below hbel with e | ⟨gb, ob, rfl, hgb, hcb⟩
      · exact absurd hlt2 (by rw [e]; simp)
      obtain ⟨c0, c1, c2⟩ := hca k hlt
      obtain ⟨d0, d1, d2⟩ := hcb k hlt2
      have HF := hide (fun h => same_hit hlt hlt2 h)
      have HN := hide (fun (h : a[k].name = b[k].name ∧ a[k].kind = b[k].kind) => show ∀ j (hj : j < k + 1) (h1 : j < a.length) (h2 : j < b.length), a[j].name = b[j].name ∧ a[j].kind = b[j].kind from fun j hj h1 h2 => by
        by_cases e : j = k
        · subst e; exact h
        · exact HE.out j (by omega) h1 h2)
      clear hca hcb
      generalize a[k] = x at *
      generalize b[k] = y at *
      obtain ⟨xn, xk, xb⟩ := x
      obtain ⟨yn, yk, yb⟩ := y
      simp only at c0 c1 c2 d0 d1 d2 HF HN
      by_cases hn : xn = yn
      rotate_left
      · have hnb : (xn == yn) = false := beq_eq_false_iff_ne.2 hn
        have hnb2 : (xn != yn) = true := by simpa using hn
        have HR := hide (HF.out (.inl hn))
        clear HF HN hn
        go_wp2_with fail
        go_quiet (fail)
        go_wp2
        go_ret
        exact ⟨ret_bool HR.out.symm, by first | exact hbel | exact zX⟩
      subst hn
      have hnb : (xn == xn) = true := by simp
      have hnb2 : (xn != xn) = false := by simp
      by_cases hkk : xk = yk
      · subst hkk
        have hkb : (xk != xk) = false := by simp
        have HR := hide (HN.out ⟨rfl, rfl⟩)
        clear HF HN
        go_wp2_with fail
        go_quiet (fail)
        go_wp2
        exact ⟨⟨k + 1, by omega, by go_num, HR, by first | exact hbel | exact zX⟩, by simp [intOf]; omega⟩
      · have hkb : (xk != yk) = true := by simpa using hkk
        have HR := hide (HF.out (.inr hkk))
        clear HF HN hkk
        go_wp2_with fail
        go_quiet (fail)
        go_wp2
        go_ret
        exact ⟨ret_bool HR.out.symm, by first | exact hbel | exact zX⟩
    · obtain rfl : k = a.length := by omega
      have HR := hide (same_all hl fun j hj => HE.out j hj hj (by omega))
      go_wp2
      go_ret
      exact ⟨ret_bool HR.out.symm, hbel⟩
end Go.Proofs.YtmbeeefkpgfgmaaGreatDoor
namespace Go.Proofs.YtmbeeefkpgfgmaaGreatDoor
open Go.RowKit
theorem col_at {cs : List Col} {names : List Bytes} (h : indX cs names = 0) {k : Nat} (hk : k < names.length) : ∃ (m : Nat) (hm : m < cs.length), idxS cs names[k] = (m : Int) ∧ colAt cs (idxS cs (names.getD k [])) = cs[m] := by
  have h0 := ind_ok h k hk
  have h1 := idxS_lt cs (names.getD k [])
  have e : names.getD k [] = names[k] := by rw [List.getD_eq_getElem?_getD, List.getElem?_eq_getElem hk]; rfl
  refine ⟨(idxS cs (names.getD k [])).toNat, by omega, by rw [← e]; omega, ?_⟩
  unfold colAt
  rw [if_pos ⟨h0, h1⟩, List.getD_eq_getElem?_getD, List.getElem?_eq_getElem (by omega)]
  rfl
theorem indS_ok {cs : List Col} {names : List Bytes} (h : indX cs names = 0) : indS cs names = names.map (idxS cs) := by unfold indS; rw [if_pos h]
def joinF (cs : List Col) (names : List Bytes) (right : List Col) (others : List Bytes) (i : Nat) : Int := if (colAt cs (idxS cs (names.getD i []))).kind = (colAt right (idxS right (others.getD i []))).kind then 0 else 7
set_option maxRecDepth 100000 in
set_option maxHeartbeats 1000000 in
theorem ref15_join_any (C : Option Addr) (cs : List Col) (cc : Nat) (s : Stp) (a : Adr) (R : Option Addr) (right : List Col) (rc : Nat) (w : World) (hC : ColsAt w C cs) (hcl : cs.length ≤ 1000) (hR : ColsAt w R right) (hrl : right.length ≤ 1000) (hA : s.At w a) (ho : s.ok) (hno : s.names.length = s.others.length) :
    Calls Tryz.prog 153 #[.slice C cs.length cc, s.agg a, .slice R right.length rc] w fun e w' => e = .returned (.int .i64 (joinX cs s right)) ∧ Below w.heap.size w w' := by
  have HC := hide hC
  have HR := hide hR
  have HX := hide (show joinX cs s right = if indX cs s.names ≠ 0 then indX cs s.names else if indX right s.others ≠ 0 then indX right s.others else firstE (joinF cs s.names right s.others) s.names.length from rfl)
  have HI1 := hide (fun W (hb : Below w.heap.size w W) => ref5_Indices_s C cs cc a.nA s.names a.nC W (hC.below hb) hcl (hA.names.below hb) ho.names hA.cn)
  have HI2 := hide (fun W (hb : Below w.heap.size w W) => ref5_Indices_s R right rc a.oA s.others a.oC W (hR.below hb) hrl (hA.others.below hb) ho.others hA.co)
  have hln := ho.names
  clear hC hR hA ho
  generalize joinX cs s right = r at *
  obtain ⟨op, src, names, others, its, cond⟩ := s
  obtain ⟨nA, nC, oA, oC, iA, iC, cA, cC⟩ := a
  simp only at HX HI1 HI2 hno hln
  show Calls Tryz.prog 153 #[_, .agg #[.int .i64 op, str src, .slice nA names.length nC, .slice oA others.length oC, .slice iA its.length iC, .slice cA cond.length cC], _] w _
  unfold IndIs at HI1 HI2
  have HNO := hide hno
  clear hno
  have hbox : Below (w.heap.size + 1) (w.alloc (.cells #[.int .i64 op, str src, .slice nA names.length nC, .slice oA others.length oC, .slice iA its.length iC, .slice cA cond.length cC] 27)) (w.alloc (.cells #[.int .i64 op, str src, .slice nA names.length nC, .slice oA others.length oC, .slice iA its.length iC, .slice cA cond.length cC] 27)) := Below.refl _ _
  by_cases h1 : indX cs names = 0
  rotate_left
  · have hb : (indX cs names != 0) = true := by simpa using h1
    have HE := hide (HX.out.trans (if_pos h1))
    clear HX h1 HI2
    generalize indX cs names = e1 at *
    generalize indS cs names = l1 at *
    go_enter Tryz.func153, Tryz.ntmps153
    go_wp2_with (go_at_call 150; refine (HI1.out _ (box_below hbox)).mono ?_; rintro e w1 ⟨⟨A1, c1, rfl, hI1⟩, hb1⟩; have hbx := below_go hbox (by simp) hb1; clear hbox)
    go_ret
    exact ⟨ret_int HE.out.symm, box_below hbx⟩
  by_cases h2 : indX right others = 0
  rotate_left
  · have hb : (indX right others != 0) = true := by simpa using h2
    have HE := hide ((HX.out.trans (if_neg (by simpa using h1))).trans (if_pos h2))
    rw [h1] at HI1
    clear HX h1 h2
    generalize indX right others = e2 at *
    generalize indS right others = l2 at *
    generalize indS cs names = l1 at *
    go_enter Tryz.func153, Tryz.ntmps153
    go_wp2_with (first
      | (go_at_call 150; refine (HI1.out _ (box_below hbox)).mono ?_; rintro e w1 ⟨⟨A1, c1, rfl, hI1⟩, hb1⟩; have hbx := below_go hbox (by simp) hb1; obtain ⟨m0, m1, m2, m3, m4, m5, hlw⟩ := box6 hbx; clear hbox)
      | (go_at_call 150; refine (HI2.out _ (box_below hbx)).mono ?_; rintro e w2 ⟨⟨A2, c2, rfl, hI2⟩, hb2⟩; have hby := below_go hbx (by simp) hb2; clear hbx))
    go_ret
    exact ⟨ret_int HE.out.symm, box_below hby⟩
  have HE := hide ((HX.out.trans (if_neg (by simpa using h1))).trans (if_neg (by simpa using h2)))
  have HM1 := hide (fun k (hk : k < names.length) => col_at h1 hk)
  have HM2 := hide (fun k (hk : k < others.length) => col_at h2 hk)
  rw [h1, indS_ok h1] at HI1
  rw [h2, indS_ok h2] at HI2
  rw [show (names.map (idxS cs)).length = names.length by simp] at HI1
  rw [show (others.map (idxS right)).length = others.length by simp] at HI2
  clear HX h1 h2
  go_enter Tryz.func153, Tryz.ntmps153
  go_wp2_with (first
    | (go_at_call 150; refine (HI1.out _ (box_below hbox)).mono ?_; rintro e w1 ⟨⟨A1, c1, rfl, hI1⟩, hb1⟩; have hbx := below_go hbox (by simp) hb1; obtain ⟨m0, m1, m2, m3, m4, m5, hlw⟩ := box6 hbx; clear hbox; have HJ1 := hide hI1; clear hI1)
    | (go_at_call 150; refine (HI2.out _ (box_below hbx)).mono ?_; rintro e w2 ⟨⟨A2, c2, rfl, hI2⟩, hb2⟩; have hby := below_go hbx (by simp) hb2; clear hbx; have HJ2 := hide hI2; have HJ3 := hide (HJ1.out.below hb2); clear hI2 HJ1))
  clear HI1 HI2 m0 m1 m2 m3 m4 m5 hb1 hb2
  go_loopw [10] (fun i wr => ∃ k : Nat, k ≤ names.length ∧ i = .int .i64 k ∧ Hid (∀ j, j < k → joinF cs names right others j = 0) ∧ Below w2.heap.size w2 wr) (fun i _ => names.length - (intOf i).toNat)
  case atStart => exact ⟨0, by omega, rfl, fun j hj => absurd hj (Nat.not_lt_zero _), Below.refl _ _⟩
  case round =>
    obtain ⟨k, hk, rfl, HZ, hbel⟩ := hrel
    have hbw : Below w.heap.size w wr := bel2 hbel (box_below hby)
    by_cases hlt : k < names.length
    · have hlt2 : k < others.length := by have := HNO.out; omega
      rcases HJ3.out.below hbel with e | ⟨⟨g1, o1, s1⟩, rfl, hg1, hm1, hi1⟩
      · exact absurd hlt (by rw [List.map_eq_nil_iff] at e; rw [e]; simp)
      rcases HJ2.out.below hbel with e | ⟨⟨g2, o2, s2⟩, rfl, hg2, hm2, hi2⟩
      · exact absurd hlt2 (by rw [List.map_eq_nil_iff] at e; rw [e]; simp)
      obtain ⟨p, hp, e1, f1⟩ := HM1.out k hlt
      obtain ⟨q, hq, e2, f2⟩ := HM2.out k hlt2
      rcases HC.out.below hbw with e | ⟨gc, oc, rfl, hgc, hcc⟩
      · exact absurd hp (by rw [e]; simp)
      rcases HR.out.below hbw with e | ⟨gr, or, rfl, hgr, hcr⟩
      · exact absurd hq (by rw [e]; simp)
      have x0 := hi1 k (by simpa using hlt)
      have y0 := hi2 k (by simpa using hlt2)
      rw [List.getD_eq_getElem?_getD, List.getElem?_map, List.getElem?_eq_getElem hlt, Option.map_some, Option.getD_some, e1] at x0
      rw [List.getD_eq_getElem?_getD, List.getElem?_map, List.getElem?_eq_getElem hlt2, Option.map_some, Option.getD_some, e2] at y0
      obtain ⟨u0, u1, u2⟩ := hcc p hp
      obtain ⟨v0, v1, v2⟩ := hcr q hq
      have HT := hide (show joinF cs names right others k = if cs[p].kind = right[q].kind then 0 else 7 from by unfold joinF; rw [f1, f2])
      have HF := hide (fun x (e : joinF cs names right others k = x) (hx : x ≠ 0) => (HE.out.trans (firstE_hit HZ.out (by rw [e]; exact hx) hlt)).trans e)
      have HN := hide (fun (e : joinF cs names right others k = 0) => step_lt HZ.out e)
      have b1 : (0 : Int) ≤ (p : Int) ∧ (p : Int) < (cs.length : Int) := by omega
      have b2 : (0 : Int) ≤ (q : Int) ∧ (q : Int) < (right.length : Int) := by omega
      clear hi1 hi2 hcc hcr f1 f2 e1 e2
      generalize cs[p] = x at *
      generalize right[q] = y at *
      by_cases hkk : x.kind = y.kind
      · have hkb : (x.kind != y.kind) = false := by simp [hkk]
        have HR2 := hide (HN.out (HT.out.trans (if_pos hkk)))
        clear HF HN HT hkk
        go_wp2_with fail
        go_quiet (fail)
        go_wp2
        exact ⟨⟨k + 1, by omega, by go_num, HR2, by first | exact hbel | exact zX⟩, by simp [intOf]; omega⟩
      · have hkb : (x.kind != y.kind) = true := by simpa using hkk
        have HR2 := hide (HF.out 7 (HT.out.trans (if_neg hkk)) (by decide))
        clear HF HN HT hkk
        go_wp2_with fail
        go_quiet (fail)
        go_wp2
        go_ret
        exact ⟨ret_int HR2.out.symm, by first | exact hbw | exact below_drewN hbw _ | exact zX⟩
    · obtain rfl : k = names.length := by omega
      have HR2 := hide (HE.out.trans (firstE_none HZ.out))
      go_wp2
      go_ret
      exact ⟨ret_int HR2.out.symm, hbw⟩
end Go.Proofs.YtmbeeefkpgfgmaaGreatDoor
