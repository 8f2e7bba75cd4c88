/- Parts of the proof. -/
import Derived.Test.YtnpjibaolicbmaaGreatDoorPp21
import Derived.Laws.AppendOwn
import Derived.Deep.Quiet
import Derived.OwnWalk
import Derived.ArgAppend
import Derived.Test.YtnpjibaolicbmaaGreatDoorPp15
import Derived.DataElems
import Derived.Test.YtnpjibaolicbmaaGreatDoorPp16
set_option linter.unusedVariables false
set_option linter.unusedSimpArgs false
set_option maxHeartbeats 1000000
namespace Go.Proofs.YtnpjibaolicbmaaGreatDoor
open Go.Proofs.Tryz
section
open Go.RowKit
structure But (b : Nat) (w w' : World) : Prop where
 size : w.heap.size ≤ w'.heap.size
 block : ∀ k, k < w.heap.size → k ≠ b → w'.heap[k]? = w.heap[k]?
theorem But.refl (b : Nat) (w : World) : But b w w := ⟨l_ _, fun _ _ _ => rfl⟩
theorem But.trans {b : Nat} {u v w : World} (h : But b u v) (k : But b v w) : But b u w := ⟨Nat.le_trans h.size k.size, fun i hi hb => (k.block i (Nat.lt_of_lt_of_le hi h.size) hb).trans (h.block i hi hb)⟩
theorem But.of {b : Nat} {w w' : World} (h : Below w.heap.size w w') : But b w w' := ⟨h.size, fun k hk _ => h.block k hk⟩
theorem But.set (b j : Nat) (w : World) (v : Value) : But b w (w.setCell ⟨b, j, none⟩ v) := ⟨by simp [World.setCell], fun k hk hb => Below.heap_setCell _ _ _ _ hb⟩
theorem But.old {b g : Nat} {w w' : World} {o : Obj} (h : But b w w') (hg : w.heap[g]? = some o) (hb : g ≠ b) : w'.heap[g]? = some o := (h.block g (a_6 hg) hb).trans hg
def e_7 (b : Nat) (F : World → Prop) (w : World) : Prop := ∀ w', But b w w' → F w'
theorem e_7.now {b : Nat} {F : World → Prop} {w : World} (h : e_7 b F w) : F w := h w (But.refl b w)
theorem e_7.go {b : Nat} {F : World → Prop} {w w' : World} (h : e_7 b F w) (k : But b w w') : e_7 b F w' := fun v hv => h v (k.trans hv)
theorem e_7.mono {b : Nat} {F G : World → Prop} {w : World} (h : e_7 b F w) (i : ∀ v, F v → G v) : e_7 b G w := fun v hv => i v (h v hv)
theorem e_7.blk {b g : Nat} {F : World → Prop} {w : World} {o : Obj} (hg : w.heap[g]? = some o) (hb : g ≠ b) (h : ∀ v : World, v.heap[g]? = some o → F v) : e_7 b F w := fun v hv => h v (hv.old hg hb)
theorem e_7.own {b : Nat} {F : World → Prop} {w : World} {base e size n c : Nat} {A : Option Addr} {xs : List Value} (ho : w.ownsRow base e size (.slice A n c) n xs) (hb : b < base) (h : ∀ v : World, v.ownsRow base e size (.slice A n c) n xs → F v) : e_7 b F w := by
 intro v hv
 refine h v ⟨ho.1, ?_⟩
 rcases ho.2 with ⟨hn, hz⟩ | ⟨g, cap, cur, hA, hg, hh, hr⟩
 ·exact .inl ⟨hn, hz⟩
 ·exact .inr ⟨g, cap, cur, hA, hg, hv.old hh o_, hr⟩
theorem e_7.none {b c : Nat} {w : World} : e_7 b (fun W => b_9 W (none, c) []) w := fun _ _ => ⟨.inl rfl, Nat.zero_le _⟩
theorem g_6 {k : Nat} : ∀ (vss : List (List Value)), (∀ v ∈ vss, v.length = k) → vss.flatten.length = vss.length * k
 | [], _ => by simp
 | v :: r, h => by
  rw [List.flatten_cons, List.length_append, g_6 r (fun x hx => h x (by simp [hx])), h v s_, List.length_cons, Nat.succ_mul]
  omega
theorem h_N {k : Nat} : ∀ (vss : List (List Value)), (∀ v ∈ vss, v.length = k) → ∀ (i : Nat) (h : i < vss.length) (j : Nat), j < k → vss.flatten[i * k + j]? = (vss[i])[j]?
 | [], _, i, h, _, _ => absurd h s_
 | v :: r, hv, 0, _, j, hj => by
  have := hv v s_
  rw [List.flatten_cons, Nat.zero_mul, Nat.zero_add, List.getElem?_append_left o_]
  rfl
 | v :: r, hv, i + 1, h, j, hj => by
  have h1 := hv v s_
  have ih := h_N r (fun x hx => hv x (by simp [hx])) i (by simpa using h) j hj
  rw [List.flatten_cons, List.getElem?_append_right (by rw [h1, Nat.succ_mul]; omega), show (i + 1) * k + j - v.length = i * k + j by rw [h1, Nat.succ_mul]; omega, ih]
  rfl
theorem j_i {k : Nat} (hk : 0 < k) : ∀ (vss : List (List Value)), (∀ v ∈ vss, v.length = k) → ∀ (i : Nat) (h : i < vss.length) (f : Nat) (u : Value), f < k → vss.flatten.set (i * k + f) u = (vss.set i ((vss[i]).set f u)).flatten
 | [], _, i, h, _, _, _ => absurd h s_
 | v :: r, hv, 0, _, f, u, hf => by
  have := hv v s_
  rw [List.flatten_cons, Nat.zero_mul, Nat.zero_add, List.set_append_left _ _ o_]
  rfl
 | v :: r, hv, i + 1, h, f, u, hf => by
  have h1 := hv v s_
  have ih := j_i hk r (fun x hx => hv x (by simp [hx])) i (by simpa using h) f u hf
  rw [List.flatten_cons, List.set_append_right _ _ (by rw [h1, Nat.succ_mul]; omega), show (i + 1) * k + f - v.length = i * k + f by rw [h1, Nat.succ_mul]; omega, ih]
  rfl
structure RowsIn {α : Type} (k : Nat) (C : Cel α) (w : World) (xs : List α) (vss : List (List Value)) : Prop where
 len : vss.length = xs.length
 row : ∀ v ∈ vss, v.length = k
 tell : ∀ i (h : i < xs.length) (h' : i < vss.length), C w xs[i] vss[i]
theorem RowsIn.below {α : Type} {k : Nat} {C : Cel α} (hC : g_j C) {w w' : World} {xs : List α} {vss : List (List Value)} (h : RowsIn k C w xs vss) (hb : Below w.heap.size w w') : RowsIn k C w' xs vss :=
 ⟨h.len, h.row, fun i hi hi' => hC _ _ _ _ (h.tell i hi hi') hb⟩
theorem RowsIn.push {α : Type} {k : Nat} {C : Cel α} {w : World} {xs : List α} {vss : List (List Value)} {x : α} {v : List Value} (h : RowsIn k C w xs vss) (hv : v.length = k) (hx : C w x v) : RowsIn k C w (xs ++ [x]) (vss ++ [v]) := by
 refine ⟨by simp [h.len], fun u hu => ?_, fun i hi hi' => ?_⟩
 ·rcases List.mem_append.1 hu with hu | hu
  ·exact h.row u hu
  ·rw [List.mem_singleton] at hu; rw [hu, hv]
 ·by_cases hlt : i < xs.length
  ·rw [List.getElem_append_left hlt, List.getElem_append_left (by have := h.len; omega)]
   exact h.tell i hlt _
  ·have e : i = xs.length := by simp at hi; omega
   subst e; have e1 : (xs ++ [x])[xs.length] = x := by simp
   have e2 : (vss ++ [v])[xs.length]'hi' = v := by simp [← h.len]
   rw [e1, e2]; exact hx
theorem RowsIn.set {α : Type} {k : Nat} {C : Cel α} {w : World} {xs : List α} {vss : List (List Value)} {x : α} {v : List Value} (h : RowsIn k C w xs vss) (i : Nat) (hv : v.length = k) (hx : C w x v) : RowsIn k C w (xs.set i x) (vss.set i v) := by
 refine ⟨by simp [h.len], fun u hu => ?_, fun j hj hj' => ?_⟩
 ·rcases List.mem_or_eq_of_mem_set hu with hu | hu
  ·exact h.row u hu
  ·rw [hu, hv]
 ·rw [List.getElem_set, List.getElem_set]
  split
  ·exact hx
  ·exact h.tell j (by simpa using hj) _
theorem f_e {α : Type} {k : Nat} {C : Cel α} {w : World} {g off : Nat} {xs : List α} {vss : List (List Value)} (h : RowsIn k C w xs vss) (hg : g < w.heap.size) (hc : ∀ j u, vss.flatten[j]? = some u → w.cell? ⟨g, off + j, none⟩ = some u) : a_l k C w (some ⟨g, off, none⟩) xs := by
 refine .inr ⟨g, off, rfl, hg, fun i hi => ?_⟩
 have hi' : i < vss.length := by have := h.len; omega
 refine ⟨vss[i], h.tell i hi hi', fun j hj => ?_⟩
 have hk := h.row _ (List.getElem_mem hi')
 have e := h_N vss h.row i hi' j o_
 rw [List.getElem?_eq_getElem hj] at e
 have := hc _ _ e
 rwa [← Nat.add_assoc] at this
theorem a_x {α : Type} {k : Nat} {C : Cel α} {w : World} {base e c : Nat} {A : Option Addr} {xs : List α} {vss : List (List Value)} (h : RowsIn k C w xs vss) (ho : w.ownsRow base e k (.slice A xs.length c) xs.length vss.flatten) : a_l k C w A xs := by
 rcases ho.2 with ⟨_, hn⟩ | ⟨g, cap, cur, hv, hg, hh, hnc, hcap, hsz, htk⟩
 ·exact .inl (List.eq_nil_of_length_eq_zero hn)
 ·injection hv with h1 h2 h3
  subst h1
  refine f_e h (a_6 hh) fun j u hu => ?_
  have hj : j < xs.length * k := by
   rw [← h.len, ← g_6 vss h.row]; exact (List.getElem?_eq_some_iff.1 hu).1
  rw [Nat.zero_add, World.ownsRow.cellAt ho j hj, hu]
theorem c_O {α : Type} {k : Nat} {C : Cel α} {w : World} {g : Nat} {t : TypeId} {xs : List α} {vss : List (List Value)} (h : RowsIn k C w xs vss) (hh : w.heap[g]? = some (.cells vss.flatten.toArray t)) : a_l k C w (some ⟨g, 0, none⟩) xs :=
 f_e h (a_6 hh) fun j u hu => by rw [Nat.zero_add, a_0 hh]; simpa using hu
theorem l_I {α : Type} {k : Nat} {C : Cel α} {w : World} {A : Option Addr} {xs : List α} (hC : ∀ w x v, C w x v → v.length = k) (h : a_l k C w A xs) :
  ∃ vss, RowsIn k C w xs vss ∧ (xs = [] ∨ ∃ g off, A = some ⟨g, off, none⟩ ∧ g < w.heap.size ∧ ∀ j u, vss.flatten[j]? = some u → w.cell? ⟨g, off + j, none⟩ = some u) := by
 rcases h with rfl | ⟨g, off, hA, hg, hc⟩
 ·exact ⟨[], ⟨rfl, fun v hv => (List.not_mem_nil hv).elim, fun i hi => absurd hi s_⟩, .inl rfl⟩
 ·have one : ∀ i : Nat, ∃ v : List Value, ∀ hi : i < xs.length, C w xs[i] v ∧ o_0 w g (off + i * k) v := fun i => by
   by_cases hi : i < xs.length
   ·obtain ⟨v, h1, h2⟩ := hc i hi
    exact ⟨v, fun _ => ⟨h1, h2⟩⟩
   ·exact ⟨[], fun h => absurd h hi⟩
  obtain ⟨f, hf⟩ := Classical.axiomOfChoice one
  have hrow : ∀ v ∈ (List.range xs.length).map f, v.length = k := fun v hv => by
   obtain ⟨i, hi, rfl⟩ := List.mem_map.1 hv; exact hC _ _ _ (hf i (List.mem_range.1 hi)).1
  refine ⟨(List.range xs.length).map f, ⟨s_, hrow, fun i hi hi' => ?_⟩, .inr ⟨g, off, hA, hg, fun j u hu => ?_⟩⟩
  ·simp only [List.getElem_map, List.getElem_range]
   exact (hf i hi).1
  ·have hj : j < xs.length * k := by
    have := (List.getElem?_eq_some_iff.1 hu).1; rw [g_6 _ hrow] at this
    simpa using this
   have hk0 : 0 < k := Nat.pos_of_ne_zero fun e => by subst e; simp at hj
   have hi : j / k < xs.length := by rw [Nat.div_lt_iff_lt_mul hk0]; exact hj
   have ej : j / k * k + j % k = j := Nat.div_add_mod' j k; have hm : j % k < k := Nat.mod_lt _ hk0; have e := h_N _ hrow (j / k) (by simpa using hi) (j % k) hm; rw [ej, hu] at e; simp only [List.getElem_map, List.getElem_range] at e; have h2 := (hf (j / k) hi).2 (j % k) (by rw [hC _ _ _ (hf (j / k) hi).1]; exact hm); rw [show off + j = off + j / k * k + j % k by omega, h2]; rw [List.getElem?_eq_getElem (by rw [hC _ _ _ (hf (j / k) hi).1]; exact hm)] at e; exact e.symm
structure KeepX (X : Nat → Obj → Prop) (w w' : World) : Prop where
 size : w.heap.size ≤ w'.heap.size
 block : ∀ k o, w.heap[k]? = some o → ¬ X k o → w'.heap[k]? = some o
theorem KeepX.refl (X : Nat → Obj → Prop) (w : World) : KeepX X w w := ⟨l_ _, fun _ _ h _ => h⟩
theorem KeepX.trans {X : Nat → Obj → Prop} {u v w : World} (h : KeepX X u v) (k : KeepX X v w) : KeepX X u w := ⟨Nat.le_trans h.size k.size, fun i o hi hx => k.block i o (h.block i o hi hx) hx⟩
theorem KeepX.of {X : Nat → Obj → Prop} {w w' : World} (h : Below w.heap.size w w') : KeepX X w w' := ⟨h.size, fun k o hk _ => (h.block k (a_6 hk)).trans hk⟩
theorem KeepX.grow {X Y : Nat → Obj → Prop} {w w' : World} (h : KeepX X w w') (hxy : ∀ k o, w.heap[k]? = some o → X k o → Y k o) : KeepX Y w w' := ⟨h.size, fun k o hk hy => h.block k o hk fun hx => hy (hxy k o hk hx)⟩
theorem KeepX.set {X : Nat → Obj → Prop} {g j : Nat} {w : World} {v : Value} (hx : ∀ o, w.heap[g]? = some o → X g o) : KeepX X w (w.setCell ⟨g, j, none⟩ v) :=
 ⟨by simp [World.setCell], fun k o hk hn => by
  by_cases e : k = g
  ·subst e; exact absurd (hx o hk) hn
  ·exact (Below.heap_setCell _ _ _ _ e).trans hk⟩
def a_B (X : Nat → Obj → Prop) (F : World → Prop) (w : World) : Prop := ∀ w', KeepX X w w' → F w'
theorem a_B.now {X : Nat → Obj → Prop} {F : World → Prop} {w : World} (h : a_B X F w) : F w := h w (KeepX.refl X w)
theorem a_B.go {X : Nat → Obj → Prop} {F : World → Prop} {w w' : World} (h : a_B X F w) (k : KeepX X w w') : a_B X F w' := fun v hv => h v (k.trans hv)
theorem a_B.mono {X : Nat → Obj → Prop} {F G : World → Prop} {w : World} (h : a_B X F w) (i : ∀ v, F v → G v) : a_B X G w := fun v hv => i v (h v hv)
theorem a_B.pure {X : Nat → Obj → Prop} {p : Prop} {w : World} (h : p) : a_B X (fun _ => p) w := fun _ _ => h
theorem a_B.and {X : Nat → Obj → Prop} {F G : World → Prop} {w : World} (h : a_B X F w) (k : a_B X G w) : a_B X (fun W => F W ∧ G W) w := fun v hv => ⟨h v hv, k v hv⟩
theorem a_B.blk {X : Nat → Obj → Prop} {g : Nat} {F : World → Prop} {w : World} {o : Obj} (hg : w.heap[g]? = some o) (hx : ¬ X g o) (h : ∀ v : World, v.heap[g]? = some o → F v) : a_B X F w := fun v hv => h v (hv.block g o hg hx)
theorem a_B.own {X : Nat → Obj → Prop} {F : World → Prop} {w : World} {base e size n c : Nat} {A : Option Addr} {xs : List Value} (ho : w.ownsRow base e size (.slice A n c) n xs) (hx : ∀ k cs r, base ≤ k → ¬ X k (.cells cs e r)) (h : ∀ v : World, v.ownsRow base e size (.slice A n c) n xs → F v) : a_B X F w := by
 intro v hv
 refine h v ⟨ho.1, ?_⟩
 rcases ho.2 with ⟨hn, hz⟩ | ⟨g, cap, cur, hA, hg, hh, hr⟩
 ·exact .inl ⟨hn, hz⟩
 ·exact .inr ⟨g, cap, cur, hA, hg, hv.block g _ hh (hx g _ _ hg), hr⟩
def h_W (K : World → World → Prop) (F : World → Prop) (w : World) : Prop := ∀ w', K w w' → F w'
def a_e (P : Program) (o : Oper) (a : Act) (w : World) (K : Value → World → Prop) : Prop :=
 match (execOp a.eval o).run P w with
 | .ok (.value v) w' => K v w'
 | .ok .skip w' => K undef w'
 | .ok (.enter f args) w' => Calls P f args w' fun e w'' => ∃ v, e = .returned v ∧ K v w''
 | _ => False
theorem a_e.wp {P : Program} {o : Oper} {a : Act} {w : World} {K : Value → World → Prop} {K' : Act → World → Prop} {Q : Exit → Act → World → Prop} (h : a_e P o a w K) (hk : ∀ v w', K v w' → K' (a.put o.dst v) w') : o.wp P a w K' Q := by
 unfold a_e at h
 unfold Oper.wp
 generalize (execOp a.eval o).run P w = r at *
 cases r with
 | ok n w' =>
  cases n <;> simp only [Oper.upon] <;> simp only at h
  case value u => exact hk _ _ h
  case skip => exact hk _ _ h
  case enter f args => exact h.mono fun e w'' ⟨v, he, hv⟩ => by subst he; exact hk _ _ hv
 | halt x w' => exact h.elim
def h_3 (l : List Oper) (s : Nat) : Bool := l.any fun o => o.dst == some s
structure FrameOk (l : List Oper) (a0 a : Act) : Prop where
 defers : a.defers = a0.defers
 size : a.tmps.size = a0.tmps.size
 outer : ∀ s, h_3 l s = false → a.tmps.getD s undef = a0.tmps.getD s undef
section
variable (P : Program) (H : (Nat → Bool) → World → World → Prop) (C : (Nat → Bool) → World → Prop) (l : List Oper) (R : Nat → World → Value → Prop) (a0 : Act)
def n_5 (L : Nat → Bool) (i : Nat) (a : Act) (w : World) : Prop := ∀ s, (l[i]?).bind (·.dst) = some s → h_W (H L) (fun W => R i W (a.tmps.getD s undef)) w
abbrev e_b (i : Nat) (L : Nat → Bool) : Nat → Bool := fun j => j == i || L j
def c_I (o : Oper) (i : Nat) : Bool := o.after.toList.any fun e => Region.binds .any e && e.on == i
def l_X (i : Nat) (o : Oper) : Prop :=
 ∀ (L : Nat → Bool) (a : Act) (w : World), FrameOk l a0 a → C L w → L i = false → (∀ j o', l[j]? = some o' → c_I o' i = true → L j = false) → (∀ j, c_I o j = true → L j = true ∧ n_5 H l R L j a w) →
  a_e P o a w (fun v w' => C (e_b i L) w' ∧ H L w w' ∧ (o.dst.isSome = true → h_W (H (e_b i L)) (fun W => R i W v) w'))
structure SlotInv (listed : Array Bool) (a : Act) (w : World) : Prop where
 fr : FrameOk l a0 a
 c : C (fun j => listed.getD j false) w
 tell : ∀ i, listed.getD i false = true → n_5 H l R (fun j => listed.getD j false) i a w
 shut : ∀ i o, l[i]? = some o → listed.getD i false = true → ∀ j, c_I o j = true → listed.getD j false = true
def c_h (n : Nat) (l : List Oper) : Bool :=
 (List.range l.length).all fun i => match l[i]? with
  | none => true
  | some o => o.guard.isNone && o.after.toList.all (fun e => !Region.binds .any e || decide (e.on < i)) && match o.dst with
   | none => true
   | some s => s < n && (List.range l.length).all fun j => j == i || match l[j]? with
    | none => true
    | some o' => o'.dst != some s
end
theorem c_j {n : Nat} {l : List Oper} (h : c_h n l = true) {i : Nat} {o : Oper} (ho : l[i]? = some o) :
  o.guard = none ∧ (∀ e ∈ o.after.toList, Region.binds .any e = true → e.on < i) ∧ ∀ s, o.dst = some s → s < n ∧ ∀ j o', l[j]? = some o' → o'.dst = some s → j = i := by
 obtain ⟨hi, _⟩ := List.getElem?_eq_some_iff.1 ho
 have h1 := List.all_eq_true.1 h i (List.mem_range.2 hi)
 simp only [ho, Bool.and_eq_true] at h1
 obtain ⟨⟨h2, h3⟩, h4⟩ := h1
 refine ⟨by simpa using h2, fun e he hb => by have := List.all_eq_true.1 h3 e he; rw [hb] at this; simpa using this, fun s hs => ?_⟩
 simp only [hs, Bool.and_eq_true, decide_eq_true_eq] at h4
 refine ⟨h4.1, fun j o' hj hs' => ?_⟩
 have h5 := List.all_eq_true.1 h4.2 j (List.mem_range.2 (List.getElem?_eq_some_iff.1 hj).1)
 simp only [hj, hs', bne_self_eq_false, Bool.or_false, beq_iff_eq] at h5
 exact h5
theorem b_J (x : Array Bool) (i j : Nat) (h : (x.setIfInBounds i true).getD j false = true) : j = i ∨ x.getD j false = true := by
 by_cases e : i = j
 ·exact .inl e.symm
 ·right
  simpa [Array.getD_eq_getD_getElem?, Array.getElem?_setIfInBounds, e] using h
theorem e_H (a : Act) (d : Nat) (v : Value) (s : Nat) : (a.put (some d) v).tmps.getD s undef = if d = s ∧ d < a.tmps.size then v else a.tmps.getD s undef := by
 simp only [Act.put, Array.getD_eq_getD_getElem?, Array.getElem?_setIfInBounds]
 by_cases e : d = s
 ·subst e
  by_cases h : d < a.tmps.size <;> simp [h]
 ·simp [e]
theorem c_3 {x : Array Bool} {i : Nat} (hi : i < x.size) : (fun j => (x.setIfInBounds i true).getD j false) = e_b i (fun j => x.getD j false) := by
 unfold e_b
 funext j
 simp only [Array.getD_eq_getD_getElem?, Array.getElem?_setIfInBounds]
 by_cases e : i = j
 ·subst e; simp [hi]
 ·have e' : (j == i) = false := beq_eq_false_iff_ne.2 fun h => e h.symm
  simp [e, e']
theorem j_Z {H : (Nat → Bool) → World → World → Prop} {C : (Nat → Bool) → World → Prop} {l : List Oper} {R : Nat → World → Value → Prop} {a0 : Act} (hT : ∀ L i u v w, H L u v → H (e_b i L) v w → H L u w) (hc : c_h a0.tmps.size l = true) {listed : Array Bool} {a : Act} {w : World} (hI : SlotInv H C l R a0 listed a w)
  {i : Nat} {o : Oper} (hz : i < listed.size) (ho : l[i]? = some o) (hs : ∀ j, c_I o j = true → listed.getD j false = true) {v : Value} {w' : World} (h1 : C (e_b i fun j => listed.getD j false) w') (h2 : H (fun j => listed.getD j false) w w') (h3 : o.dst.isSome = true → h_W (H (e_b i fun j => listed.getD j false)) (fun W => R i W v) w') : SlotInv H C l R a0 (listed.setIfInBounds i true) (a.put o.dst v) w' := by
 obtain ⟨_, _, hd⟩ := c_j hc ho
 have go : ∀ {F : World → Prop}, h_W (H fun j => listed.getD j false) F w → h_W (H (e_b i fun j => listed.getD j false)) F w' := fun h v hv => h v (hT _ _ _ _ _ h2 hv)
 have up : ∀ j, listed.getD j false = true → (listed.setIfInBounds i true).getD j false = true := fun j hj => by
  rw [congrFun (c_3 hz) j]; show (j == i || listed.getD j false) = true; rw [hj, Bool.or_true]
 have shut : ∀ k o', l[k]? = some o' → (listed.setIfInBounds i true).getD k false = true → ∀ j, c_I o' j = true → (listed.setIfInBounds i true).getD j false = true := fun k o' hk hl j hj => by
  rcases b_J _ _ _ hl with rfl | hl
  ·rw [ho] at hk; cases hk; exact up j (hs j hj)
  ·exact up j (hI.shut k o' hk hl j hj)
 rw [← c_3 hz] at h1 h3 go
 cases hdst : o.dst with
 | none =>
  refine ⟨hI.fr, h1, fun j hj s hs => ?_, shut⟩
  rcases b_J _ _ _ hj with rfl | hj
  ·rw [ho] at hs; simp only [Option.bind_some, hdst] at hs; cases hs
  ·exact go (hI.tell j hj s hs)
 | some d =>
  obtain ⟨hdn, hun⟩ := hd d hdst
  have hsz : d < a.tmps.size := by rw [hI.fr.size]; exact hdn
  refine ⟨⟨hI.fr.defers, by simp [Act.put, hI.fr.size], fun s hs => ?_⟩, h1, fun j hj s hs => ?_, shut⟩
  ·rw [e_H, if_neg]
   ·exact hI.fr.outer s hs
   ·rintro ⟨rfl, _⟩
    have : h_3 l d = true := List.any_eq_true.2 ⟨o, List.mem_of_getElem? ho, by simp [hdst]⟩; rw [this] at hs
    cases hs
  ·by_cases hjs : d = s
   ·subst hjs
    exact s_s
   ·rw [e_H, if_neg (fun h => hjs h.1)]
    rcases b_J _ _ _ hj with rfl | hj
    ·rw [ho] at hs; simp only [Option.bind_some, hdst] at hs; exact absurd (Option.some.inj hs) hjs
    ·exact go (hI.tell j hj s hs)
theorem e_J {l : List Oper} {listed : Array Bool} {i : Nat} (h : i ∈ Region.ready .any l.toArray listed) : ∃ o, l[i]? = some o ∧ listed.getD i true = false ∧ ∀ e ∈ o.after.toList, Region.binds .any e = true → listed.getD e.on false = true := by
 unfold Region.ready at h
 rw [List.mem_filter] at h
 obtain ⟨_, h⟩ := h
 simp only [Bool.and_eq_true, Bool.not_eq_true', List.getElem?_toArray] at h
 obtain ⟨h1, h2⟩ := h
 cases ho : l[i]? with
 | none => rw [ho] at h2; cases h2
 | some o =>
  rw [ho] at h2
  refine ⟨o, rfl, h1, fun e he hb => ?_⟩
  have h3 := Array.all_eq_true_iff_forall_mem.1 (show (o.after.all fun e => !Region.binds .any e || listed.getD e.on false) = true from h2) e (Array.mem_toList_iff.1 he)
  rw [hb] at h3
  simpa using h3
theorem c_B {n : Nat} {l : List Oper} (hc : c_h n l = true) {listed : Array Bool} (hz : listed.size = l.length) (h : Region.ready .any l.toArray listed = []) : ∀ i, i < l.length → listed.getD i false = true := by
 intro i
 induction i using Nat.strongRecOn with
 | ind i ih =>
  intro hi
  apply Decidable.byContradiction
  intro hf
  have hf2 : listed.getD i true = false := by
   rw [Array.getD_eq_getD_getElem?, Array.getElem?_eq_getElem o_] at hf ⊢
   simpa using hf
  obtain ⟨_, ha, _⟩ := c_j hc (List.getElem?_eq_getElem hi)
  have : i ∈ Region.ready .any l.toArray listed := by
   unfold Region.ready; rw [List.mem_filter]; refine ⟨List.mem_range.2 (by simpa using hi), ?_⟩; simp only [Bool.and_eq_true, Bool.not_eq_true', List.getElem?_toArray]; refine ⟨hf2, ?_⟩; rw [List.getElem?_eq_getElem hi]; refine Array.all_eq_true_iff_forall_mem.2 fun e he => ?_
   cases hb : Region.binds .any e with
   | false => rfl
   | true =>
    have h1 := ha e (Array.mem_toList_iff.2 he) hb; rw [ih e.on h1 o_]
    rfl
  rw [h] at this
  cases this
theorem c_X (x : Array Bool) (i : Nat) (h : x.getD i true = false) : (x.setIfInBounds i true).toList.count false + 1 = x.toList.count false := by
 have hi : i < x.size := by
  apply Decidable.byContradiction
  intro h2
  rw [Array.getD_eq_getD_getElem?, Array.getElem?_eq_none o_] at h
  cases h
 rw [Array.getD_eq_getD_getElem?, Array.getElem?_eq_getElem hi] at h
 simp only [Option.getD_some] at h
 rw [Array.toList_setIfInBounds]
 have hl : i < x.toList.length := by simpa using hi
 have hx : x.toList[i] = false := by simpa using h
 generalize x.toList = L at *
 clear h hi
 induction L generalizing i with
 | nil => cases hl
 | cons y r ih =>
  cases i with
  | zero =>
   simp only [List.getElem_cons_zero] at hx; subst hx
   simp
  | succ i =>
   simp only [List.getElem_cons_succ] at hx; rw [List.set_cons_succ, List.count_cons, List.count_cons]; have := ih i (by simpa using hl) hx
   omega
theorem j_k {l : List Oper} {listed : Array Bool} {i : Nat} {o : Oper} (hz : listed.size = l.length) (ho : l[i]? = some o) : i < listed.size := by
 rw [hz]; exact (List.getElem?_eq_some_iff.1 ho).1
theorem d_X {x : Array Bool} {i : Nat} (h : x.getD i true = false) : x.getD i false = false := by
 rw [Array.getD_eq_getD_getElem?] at h ⊢
 cases hx : x[i]? with
 | none => rfl
 | some b => rw [hx] at h; exact h
theorem i_y {P : Program} {H : (Nat → Bool) → World → World → Prop} {C : (Nat → Bool) → World → Prop} {l : List Oper} {R : Nat → World → Value → Prop} {a0 : Act} {Q : Exit → Act → World → Prop} (hT : ∀ L i u v w, H L u v → H (e_b i L) v w → H L u w) (hc : c_h a0.tmps.size l = true) (hop : ∀ i o, l[i]? = some o → l_X P H C l R a0 i o)
  (hQ : ∀ a w L, FrameOk l a0 a → C L w → (∀ i, i < l.length → L i = true) → (∀ i, i < l.length → n_5 H l R L i a w) → Q .normal a w) :
  ∀ (fuel : Nat) (listed : Array Bool) (a : Act) (w : World), listed.size = l.length → listed.toList.count false ≤ fuel → SlotInv H C l R a0 listed a w → wpAny P .any l.toArray Q fuel listed a w
 | 0, listed, a, w, hz, hn, hI => by
  have hr : Region.ready .any l.toArray listed = [] := by
   rw [List.eq_nil_iff_forall_not_mem]; intro i hi; obtain ⟨o, ho, hf, _⟩ := e_J hi; have := c_X listed i hf
   omega
  exact ⟨hr, hQ a w _ hI.fr hI.c (c_B hc hz hr) fun i hi => hI.tell i (c_B hc hz hr i hi)⟩
 | fuel + 1, listed, a, w, hz, hn, hI => by
  refine ⟨fun hr => hQ a w _ hI.fr hI.c (c_B hc hz hr) fun i hi => hI.tell i (c_B hc hz hr i hi), fun i hi => ?_⟩
  obtain ⟨o, ho, hf, ha⟩ := e_J hi
  have hcnt := c_X listed i hf
  have hs : ∀ j, c_I o j = true → listed.getD j false = true := fun j hj => by
   exact s_i
  have hf2 := d_X hf
  unfold wpOp
  rw [List.getElem?_toArray, ho]
  have hg := (c_j hc ho).1
  have hw : Region.wanted o (yielded l.toArray a.tmps) = true := by unfold Region.wanted; rw [hg]
  simp only [hw, if_true]
  left
  refine a_e.wp (hop i o ho _ a w hI.fr hI.c hf2 (fun j o' hj hw' => by
   cases hl : listed.getD j false with
   | false => rfl
   | true => rw [hI.shut j o' hj hl i hw'] at hf2; cases hf2) fun j hj => ⟨hs j hj, hI.tell j (hs j hj)⟩) fun v w' ⟨h1, h2, h3⟩ => ?_
  exact i_y hT hc hop hQ fuel _ _ _ (by simpa using hz) o_ (j_Z hT hc hI (j_k hz ho) ho hs h1 h2 h3)
def c_V (V : Nat → Value) : List Oper → Array Value → Array Value
 | [], ts => ts
 | o :: r, ts => c_V V r (match o.dst with
  | some s => ts.setIfInBounds s (V s)
  | none => ts)
theorem i_7 (V : Nat → Value) : ∀ (l : List Oper) (ts : Array Value), (c_V V l ts).size = ts.size
 | [], _ => rfl
 | o :: r, ts => by
  unfold c_V
  rw [i_7 V r]
  cases o.dst <;> simp
theorem h_Q (V : Nat → Value) : ∀ (l : List Oper) (ts : Array Value) (s : Nat), s < ts.size → (c_V V l ts).getD s undef = if h_3 l s = true then V s else ts.getD s undef
 | [], ts, s, _ => by simp [c_V, h_3]
 | o :: r, ts, s, hs => by
  unfold c_V
  cases hd : o.dst with
  | none =>
   simp only
   rw [h_Q V r ts s hs]
   simp [h_3, hd]
  | some d =>
   simp only
   rw [h_Q V r _ s (by simpa using hs)]
   by_cases e : d = s
   ·subst e
    simp [h_3, hd, Array.getD_eq_getD_getElem?, Array.getElem?_setIfInBounds, hs]
   ·simp [h_3, hd, Array.getD_eq_getD_getElem?, Array.getElem?_setIfInBounds, e]
theorem h_v {l : List Oper} {a0 a : Act} (h : FrameOk l a0 a) : a = { a0 with tmps := c_V (fun s => a.tmps.getD s undef) l a0.tmps } := by
 obtain ⟨ts, df⟩ := a
 obtain ⟨h1, h2, h3⟩ := h
 simp only at h1 h2 h3
 subst h1
 congr 1
 refine Array.ext (by rw [i_7, h2]) fun s hs hs2 => ?_
 have h4 := h_Q (fun s => ts.getD s undef) l a0.tmps s o_
 have e1 : (c_V (fun s => ts.getD s undef) l a0.tmps).getD s undef = (c_V (fun s => ts.getD s undef) l a0.tmps)[s] := by
  rw [Array.getD_eq_getD_getElem?, Array.getElem?_eq_getElem hs2]; rfl
 have e2 : ts.getD s undef = ts[s] := by rw [Array.getD_eq_getD_getElem?, Array.getElem?_eq_getElem hs]; rfl
 rw [e1] at h4
 rw [h4]
 by_cases hd : h_3 l s = true
 ·rw [if_pos hd]; exact e2.symm
 ·rw [if_neg hd]; exact e2.symm.trans (h3 s (by simpa using hd))
theorem b_a {P : Program} {id : Nat} {Q : Exit → Act → World → Prop} {a : Act} {w : World} {l : List Oper} (H : (Nat → Bool) → World → World → Prop) (C : (Nat → Bool) → World → Prop) (R : Nat → World → Value → Prop) (hT : ∀ L i u v w, H L u v → H (e_b i L) v w → H L u w) (hm : P.follows .mixedOrders = true) (hc : c_h a.tmps.size l = true)
  (h0 : C (fun _ => false) w.drew) (hop : ∀ i o, l[i]? = some o → l_X P H C l R a i o)
  (hQ : ∀ (V : Nat → Value) (w' : World) (L : Nat → Bool), C L w' → (∀ i, i < l.length → L i = true) → (∀ i s, (l[i]?).bind (·.dst) = some s → h_W (H L) (fun W => R i W (V s)) w') → Q .normal { a with tmps := c_V V l a.tmps } w') : (Code.region id l.toArray true).wp P Q a w := by
 have hz0 : ∀ i, (Array.replicate l.toArray.size false).getD i false = false := fun i => by
  rw [Array.getD_eq_getD_getElem?, Array.getElem?_replicate]
  split <;> rfl
 have hz1 : (fun j => (Array.replicate l.toArray.size false).getD j false) = fun _ => false := funext hz0
 refine wp_region_any hm ?_
 refine i_y (P := P) (H := H) (C := C) (R := R) (a0 := a) hT hc hop ?_ _ _ _ _ s_ ?_ ⟨⟨rfl, rfl, fun _ _ => rfl⟩, hz1 ▸ h0, fun i hi => ?_, fun i o _ hi => ?_⟩
 ·intro a' w' L hf hcw hl ht
  rw [h_v hf]
  refine hQ _ w' L hcw hl fun i s hs => ?_
  obtain ⟨o, ho, _⟩ := Option.bind_eq_some_iff.1 hs
  exact ht i (List.getElem?_eq_some_iff.1 ho).1 s hs
 ·exact Nat.le_trans List.count_le_length s_
 ·rw [hz0] at hi; cases hi
 ·rw [hz0] at hi; cases hi
def c_a (f : Nat → Oper → Prop) : Nat → List Oper → Prop
 | _, [] => True
 | i, o :: r => f i o ∧ c_a f (i + 1) r
theorem c_a.at {f : Nat → Oper → Prop} : ∀ {l : List Oper} {k : Nat}, c_a f k l → ∀ i o, l[i]? = some o → f (k + i) o
 | [], _, _, i, o, h => by simp at h
 | x :: r, k, hf, 0, o, h => by simp at h; subst h; exact hf.1
 | x :: r, k, hf, i + 1, o, h => by
  have := c_a.at hf.2 i o (by simpa using h)
  rwa [Nat.add_assoc, Nat.add_comm 1 i] at this
theorem c_a.all {f : Nat → Oper → Prop} {l : List Oper} (h : c_a f 0 l) : ∀ i o, l[i]? = some o → f i o := fun i o hi => by
 have := c_a.at h i o hi
 rwa [Nat.zero_add] at this
def XB (k : Nat) (o : Obj) : Prop := ∃ cs r, o = .cells cs 34 r ∨ o = .cells cs 36 r
theorem nXB {k : Nat} {cs : Array Value} {t : TypeId} {r : Nat × Nat} (h1 : t ≠ 34) (h2 : t ≠ 36) : ¬ XB k (.cells cs t r) := by
 rintro ⟨cs', r', h | h⟩
 ·injection h with _ h _; exact h1 h
 ·injection h with _ h _; exact h2 h
theorem a_t {w : World} {g j : Nat} {cs : Array Value} {t : TypeId} {r : Nat × Nat} {v : Value} (h : w.heap[g]? = some (.cells cs t r)) : (w.setCell ⟨g, j, none⟩ v).heap[g]? = some (.cells (cs.setIfInBounds j v) t r) := by
 simp [World.setCell, Array.getElem?_modify, h]
def n_R : Cel a_3 := fun _ s vs => vs = [str s]
def ShC : Cel (Int × Int) := fun _ s vs => vs = [.int .i64 s.1, .int .i64 s.2]
def o_Q : Cel Col := fun _ c vs => vs = [str c.name, .int .i64 c.kind, .bool c.null]
def NdC : Cel Nd := fun _ n vs => vs = n.cells
def ItC : Cel It := fun w x vs => ∃ a : Pl, b_q w a.1 x.expr ∧ vs = [str x.name, .int .i64 x.fn, str x.col, .int .i64 x.num, slV a x.expr.length]
def l_H : Cel Stp := fun w s vs => ∃ a : Adr, s.At w a ∧ vs = s.cells a
theorem c_G {w : World} {g off : Nat} {vs : List Value} (h : o_0 w g off vs) {j : Nat} {u : Value} (hu : vs[j]? = some u) : w.cell? ⟨g, off + j, none⟩ = some u := by
 obtain ⟨hj, e⟩ := List.getElem?_eq_some_iff.1 hu
 rw [h j hj, e]
theorem i_E {w : World} {A : Option Addr} {l : List a_3} (h : a_l 1 n_R w A l) : b_b w A l := by
 rcases h with h | ⟨g, off, hA, hg, hc⟩
 ·exact .inl h
 ·refine .inr ⟨g, off, hA, hg, fun i hi => ?_⟩
  obtain ⟨vs, rfl, h1⟩ := hc i hi
  have := c_G h1 (j := 0) rfl
  simpa using this
theorem j_m {w : World} {A : Option Addr} {l : List (Int × Int)} (h : a_l 2 ShC w A l) : h_B w A l := by
 rcases h with h | ⟨g, off, hA, hg, hc⟩
 ·exact .inl h
 ·refine .inr ⟨g, off, hA, hg, fun i hi => ?_⟩
  obtain ⟨vs, rfl, h1⟩ := hc i hi
  exact ⟨c_G h1 (j := 0) rfl, c_G h1 (j := 1) rfl⟩
theorem g_N {w : World} {A : Option Addr} {l : List Col} (h : a_l 3 o_Q w A l) : b_1 w A l := by
 rcases h with h | ⟨g, off, hA, hg, hc⟩
 ·exact .inl h
 ·refine .inr ⟨g, off, hA, hg, fun i hi => ?_⟩
  obtain ⟨vs, rfl, h1⟩ := hc i hi
  exact ⟨c_G h1 (j := 0) rfl, c_G h1 (j := 1) rfl, c_G h1 (j := 2) rfl⟩
theorem j_z {w : World} {A : Option Addr} {l : List It} (h : a_l 5 ItC w A l) : h_1 w A l := by
 rcases h with h | ⟨g, off, hA, hg, hc⟩
 ·exact .inl h
 ·refine .inr ⟨g, off, hA, hg, fun i hi => ?_⟩
  obtain ⟨vs, ⟨a, hn, rfl⟩, h1⟩ := hc i hi
  exact ⟨c_G h1 (j := 0) rfl, c_G h1 (j := 1) rfl, c_G h1 (j := 2) rfl, c_G h1 (j := 3) rfl, a.1, a.2, c_G h1 (j := 4) rfl, hn⟩
theorem f_7 {w : World} {A : Option Addr} {l : List Stp} (h : a_l 6 l_H w A l) : b_L w A l := by
 rcases h with h | ⟨g, off, hA, hg, hc⟩
 ·exact .inl h
 ·refine .inr ⟨g, off, hA, hg, fun i hi => ?_⟩
  obtain ⟨vs, ⟨a, hn, rfl⟩, h1⟩ := hc i hi
  exact ⟨a, hn, c_G h1 (j := 0) rfl, c_G h1 (j := 1) rfl, c_G h1 (j := 2) rfl, c_G h1 (j := 3) rfl, c_G h1 (j := 4) rfl, c_G h1 (j := 5) rfl⟩
theorem m_O {w : World} {A : Option Addr} {l : List Nd} (h : a_l 6 NdC w A l) : b_q w A l := by
 rcases h with h | ⟨g, off, hA, hg, hc⟩
 ·exact .inl h
 ·refine .inr ⟨g, off, hA, hg, fun j u hu => ?_⟩
  have hj : j < l.length * 6 := by
   rcases Nat.lt_or_ge j (a_D l).length with h | h
   ·rw [d_z] at h; exact h
   ·rw [List.getElem?_eq_none h] at hu; cases hu
  have hq : j / 6 < l.length := by omega
  obtain ⟨vs, rfl, h1⟩ := hc (j / 6) hq
  obtain ⟨e0, e1, e2, e3, e4, e5⟩ := e_s l (j / 6) hq
  have hr : j % 6 < 6 := by omega
  have hj2 : j = j / 6 * 6 + j % 6 := by omega
  generalize j % 6 = r at *
  generalize j / 6 = q at *
  subst hj2
  rw [show off + (q * 6 + r) = off + q * 6 + r by omega]
  match r, hr with
  | 0, _ => exact c_G h1 (j := 0) (by rw [← hu, show q * 6 + 0 = q * 6 from rfl, e0]; rfl)
  | 1, _ => exact c_G h1 (j := 1) (by rw [← hu, e1]; rfl)
  | 2, _ => exact c_G h1 (j := 2) (by rw [← hu, e2]; rfl)
  | 3, _ => exact c_G h1 (j := 3) (by rw [← hu, e3]; rfl)
  | 4, _ => exact c_G h1 (j := 4) (by rw [← hu, e4]; rfl)
  | 5, _ => exact c_G h1 (j := 5) (by rw [← hu, e5]; rfl)
theorem c_Y {α : Type} {k g : Nat} {C : Cel α} {W : World} {t : TypeId} {x : α} {vs : List Value} (hh : W.heap[g]? = some (.cells vs.toArray t)) (h1 : t ≠ 34) (h2 : t ≠ 36) (hk : vs.length = k) (hx : a_B XB (fun V => C V x vs) W) : a_B XB (fun V => a_l k C V (some ⟨g, 0, none⟩) [x]) W :=
 fun V hV => c_O (vss := [vs]) ⟨rfl, fun v hv => by rw [List.mem_singleton.1 hv]; exact hk, fun i hi hi' => by
  obtain rfl : i = 0 := by simp at hi; omega
  exact hx V hV⟩ (by rw [List.flatten_cons, List.flatten_nil, List.append_nil]; exact hV.block g _ hh (nXB h1 h2))
theorem h_F {α : Type} {k g : Nat} {C : Cel α} {W : World} {t : TypeId} {x y : α} {vs us : List Value} (hh : W.heap[g]? = some (.cells (vs ++ us).toArray t)) (h1 : t ≠ 34) (h2 : t ≠ 36) (hk : vs.length = k) (hk2 : us.length = k) (hx : a_B XB (fun V => C V x vs) W) (hy : a_B XB (fun V => C V y us) W) : a_B XB (fun V => a_l k C V (some ⟨g, 0, none⟩) [x, y]) W :=
 fun V hV => c_O (vss := [vs, us]) ⟨rfl, fun v hv => by simp at hv; rcases hv with rfl | rfl <;> assumption, fun i hi hi' => by
  match i, hi with
  | 0, _ => exact hx V hV
  | 1, _ => exact hy V hV⟩ (by rw [List.flatten_cons, List.flatten_cons, List.flatten_nil, List.append_nil]; exact hV.block g _ hh (nXB h1 h2))
theorem i_d {α : Type} {k B c : Nat} {e : TypeId} {C : Cel α} {W : World} {A : Option Addr} {xs : List α} {vss : List (List Value)} (ho : W.ownsRow B e k (.slice A xs.length c) xs.length vss.flatten) (h1 : e ≠ 34) (h2 : e ≠ 36) (hl : vss.length = xs.length) (hk : ∀ v ∈ vss, v.length = k) (hx : ∀ i (h : i < xs.length) (h' : i < vss.length), a_B XB (fun V => C V xs[i] vss[i]) W) : a_B XB (fun V => a_l k C V A xs) W :=
 fun V hV => a_x ⟨hl, hk, fun i h h' => hx i h h' V hV⟩ (a_B.own ho (fun _ _ _ _ => nXB h1 h2) (fun _ hv => hv) V hV)
theorem b_t {X : Nat → Obj → Prop} {g c : Nat} {W : World} {t : TypeId} {l : List a_3} (hh : W.heap[g]? = some (.cells (l.map str).toArray t)) (hx : ¬ X g (.cells (l.map str).toArray t)) (hc : l.length ≤ c) : a_B X (fun V => b_9 V (some ⟨g, 0, none⟩, c) l) W :=
 a_B.blk hh hx fun V hv => ⟨.inr ⟨g, 0, rfl, a_6 hv, fun i hi => by rw [Nat.zero_add, a_0 hv]; simp [hi]⟩, hc⟩
theorem b_n {X : Nat → Obj → Prop} {c : Nat} {W : World} : a_B X (fun V => b_9 V (none, c) []) W := fun _ _ => ⟨.inl rfl, Nat.zero_le _⟩
theorem a_e.mono {P : Program} {o : Oper} {a : Act} {w : World} {K K' : Value → World → Prop} (h : a_e P o a w K) (k : ∀ v w', K v w' → K' v w') : a_e P o a w K' := by
 unfold a_e at *
 generalize (execOp a.eval o).run P w = r at *
 cases r with
 | ok n w' =>
  cases n <;> simp only at h ⊢
  case value u => exact k _ _ h
  case skip => exact k _ _ h
  case enter f args => exact h.mono fun e w'' ⟨v, he, hv⟩ => ⟨v, he, k _ _ hv⟩
 | halt x w' => exact h.elim
theorem a_e.veil {P : Program} {o : Oper} {a : Act} {w : World} {K : Value → World → Prop} (h : ∀ K' : Value → World → Prop, (∀ v w', K v w' → K' v w') → a_e P o a w K') : a_e P o a w K := h K fun _ _ h => h
theorem a_e.val {P : Program} {o : Oper} {a : Act} {w w' : World} {v : Value} {K : Value → World → Prop} (h : (execOp a.eval o).run P w = .ok (.value v) w') (k : K v w') : a_e P o a w K := by unfold a_e; rw [h]; exact k
structure Lull (H : (Nat → Bool) → World → World → Prop) (C : (Nat → Bool) → World → Prop) (X : TypeId → Prop) : Prop where
 refl : ∀ L (w : World), H L w w
 anti : ∀ L i u v, H (e_b i L) u v → H L u v
 grow : ∀ L (w w' : World), Below w.heap.size w w' → H L w w'
 keep : ∀ L (w w' : World) (g : Nat) (cs : Array Value) (t : TypeId), X t → H L w w' → w.heap[g]? = some (.cells cs t) → w'.heap[g]? = some (.cells cs t)
 next : ∀ i L (w w' : World), C L w → Below w.heap.size w w' → C (e_b i L) w'
def vS (l : List a_3) (W : World) (v : Value) : Prop := ∃ g, v = .slice (some ⟨g, 0, none⟩) l.length l.length ∧ W.heap[g]? = some (.cells (l.map str).toArray 9)
def vP (l : List a_3) (W : World) (v : Value) : Prop := ∃ g k, k < l.length ∧ v = .pointer (some ⟨g, k, none⟩) ∧ W.heap[g]? = some (.cells (l.map str).toArray 9)
def vT (l : List a_3) (_ : World) (v : Value) : Prop := ∃ s ∈ l, v = str s
def vI (lo hi : Int) (_ : World) (v : Value) : Prop := ∃ n : Int, v = .int .i64 n ∧ lo ≤ n ∧ n ≤ hi
def vC (u : Value) (_ : World) (v : Value) : Prop := v = u
section
variable {H : (Nat → Bool) → World → World → Prop} {C : (Nat → Bool) → World → Prop} {X : TypeId → Prop} {l : List Oper} {R : Nat → World → Value → Prop} {a0 : Act} {i : Nat} {o : Oper}
theorem a_s (cal : Lull H C X) (h : ∀ (L : Nat → Bool) (a : Act) (w : World), FrameOk l a0 a → C L w → L i = false → (∀ j o', l[j]? = some o' → c_I o' i = true → L j = false) → (∀ j, c_I o j = true → n_5 H l R L j a w) →
  a_e prog o a w (fun v w' => Below w.heap.size w w' ∧ ∀ V, H L w' V → R i V v)) : l_X prog H C l R a0 i o := fun L a w hf hc hL hn ht =>
 (h L a w hf hc hL hn fun j hj => (ht j hj).2).mono fun v w' ⟨hb, hr⟩ => ⟨cal.next i L w w' hc hb, cal.grow L w w' hb, fun _ V hV => hr V (cal.anti L i w' V hV)⟩
theorem c_H (cal : Lull H C X) (s : Nat) (hop : o.op = .move (.tmp s)) (hs : h_3 l s = false) (hR : ∀ W, R i W (a0.tmps.getD s undef)) : l_X prog H C l R a0 i o :=
 a_s cal fun L a w hf hc hL hn ht => a_e.val (v := a.tmps.getD s undef) (w' := w) (by simp [execOp, hop, Act.eval]) ⟨b_ _ _, fun V _ => by rw [hf.outer s hs]; exact hR V⟩
theorem g_L (cal : Lull H C X) (hX : X 9) (ls : List a_3) (hrun : ∀ (a : Act) w, (execOp a.eval o).run prog w = .ok (.value (.slice (some ⟨w.heap.size, 0, none⟩) ls.length ls.length)) (w.alloc (.cells (ls.map str).toArray 9))) (hR : R i = vS ls) : l_X prog H C l R a0 i o :=
 a_s cal fun L a w hf hc hL hn ht => a_e.val (hrun a w) ⟨(b_ _ _).alloc (l_ _) _, fun V hV => by rw [hR]; exact ⟨_, rfl, cal.keep L _ _ _ _ _ hX hV (heap_alloc_new w _)⟩⟩
theorem b_V (cal : Lull H C X) (hX : X 9) (ls : List a_3) (j1 s1 j2 s2 : Nat) (hop : o.op = .indexAddr 26 (.tmp s1) (.tmp s2)) (hw1 : c_I o j1 = true) (hw2 : c_I o j2 = true) (hs1 : (l[j1]?).bind (·.dst) = some s1) (hs2 : (l[j2]?).bind (·.dst) = some s2)
  (hR1 : R j1 = vS ls) (hR2 : ∀ W v, R j2 W v → vI 0 (ls.length - 1) W v) (hR : R i = vP ls) : l_X prog H C l R a0 i o :=
 a_s cal fun L a w hf hc hL hn ht => by
  have t1 := ht j1 hw1 s1 hs1 w (cal.refl _ _)
  rw [hR1] at t1
  obtain ⟨g, e1, hg⟩ := t1
  obtain ⟨n, e2, n0, n1⟩ := hR2 _ _ (ht j2 hw2 s2 hs2 w (cal.refl _ _))
  obtain ⟨k, rfl⟩ := Int.eq_ofNat_of_zero_le n0
  have hk : (k : Int) < (ls.length : Int) := by omega
  refine a_e.veil fun K hK => ?_
  unfold a_e
  go_simp
  exact hK _ _ ⟨b_ _ _, fun V hV => by rw [hR]; exact ⟨g, k, o_, rfl, cal.keep L _ _ _ _ _ hX hV hg⟩⟩
theorem c_u (cal : Lull H C X) (ls : List a_3) (j s : Nat) (hop : o.op = .load 9 (.tmp s)) (hw : c_I o j = true) (hs : (l[j]?).bind (·.dst) = some s) (hR1 : R j = vP ls) (hR : R i = vT ls) : l_X prog H C l R a0 i o :=
 a_s cal fun L a w hf hc hL hn ht => by
  have t1 := ht j hw s hs w (cal.refl _ _)
  rw [hR1] at t1
  obtain ⟨g, k, hk, e1, hg⟩ := t1
  have h2 : w.cell? ⟨g, k, none⟩ = some (str ls[k]) := by rw [a_0 hg]; simp [hk]
  refine a_e.veil fun K hK => ?_
  unfold a_e
  go_simp
  exact hK _ _ ⟨b_ _ _, fun V hV => by rw [hR]; exact ⟨_, List.getElem_mem hk, rfl⟩⟩
theorem d_5 (cal : Lull H C X) {lo hi lo' hi' : Int} (f : Int → Int) (j s : Nat) (hrun : ∀ (a : Act) w n, a.tmps.getD s undef = .int .i64 n → lo ≤ n → n ≤ hi → (execOp a.eval o).run prog w = .ok (.value (.int .i64 (f n))) w) (hf : ∀ n, lo ≤ n → n ≤ hi → lo' ≤ f n ∧ f n ≤ hi') (hw : c_I o j = true) (hs : (l[j]?).bind (·.dst) = some s) (hR1 : ∀ W v, R j W v → vI lo hi W v) (hR : R i = vI lo' hi') : l_X prog H C l R a0 i o :=
 a_s cal fun L a w hf' hc hL hn ht => by
  obtain ⟨n, e1, n0, n1⟩ := hR1 _ _ (ht j hw s hs w (cal.refl _ _))
  exact a_e.val (hrun a w n e1 n0 n1) ⟨b_ _ _, fun V hV => by rw [hR]; exact ⟨_, rfl, hf n n0 n1⟩⟩
end
theorem e_n {n lo hi : Int} (h : lo ≤ n ∧ n ≤ hi) (W : World) (v : Value) (hv : vC (.int .i64 n) W v) : vI lo hi W v := ⟨n, hv, h⟩
theorem k_I {C : (Nat → Bool) → World → Prop} (hC : ∀ i L w w', C L w → Below w.heap.size w w' → C (e_b i L) w') : Lull (fun _ => KeepX XB) C (fun t => t ≠ 34 ∧ t ≠ 36) where
 refl := fun _ w => KeepX.refl _ w
 anti := fun _ _ _ _ h => h
 grow := fun _ _ _ h => KeepX.of h
 keep := fun _ _ _ g cs t ht h hg => h.block g _ hg (nXB ht.1 ht.2)
 next := hC
def XT (t : TypeId) (_ : Nat) (o : Obj) : Prop := ∃ cs r, o = .cells cs t r
theorem nXT {k : Nat} {cs : Array Value} {t t' : TypeId} {r : Nat × Nat} (h1 : t' ≠ t) : ¬ XT t k (.cells cs t' r) := by
 rintro ⟨cs', r', h⟩
 injection h with _ h _; exact h1 h
theorem i_w {W : World} {g j : Nat} {v : Value} {t : TypeId} (h : ∃ cs r, W.heap[g]? = some (.cells cs t r)) : KeepX (XT t) W (W.setCell ⟨g, j, none⟩ v) ∧ ∃ cs r, (W.setCell ⟨g, j, none⟩ v).heap[g]? = some (.cells cs t r) := by
 obtain ⟨cs, r, h⟩ := h
 exact ⟨KeepX.set fun o ho => by rw [h] at ho; exact ⟨_, _, (Option.some.inj ho).symm⟩, _, _, a_t h⟩
theorem n_c {T : TypeId} {C : (Nat → Bool) → World → Prop} (hC : ∀ i L w w', C L w → Below w.heap.size w w' → C (e_b i L) w') : Lull (fun _ => KeepX (XT T)) C (fun t => t ≠ T) where
 refl := fun _ w => KeepX.refl _ w
 anti := fun _ _ _ _ h => h
 grow := fun _ _ _ h => KeepX.of h
 keep := fun _ _ _ g cs t ht h hg => h.block g _ hg (nXT ht)
 next := hC
theorem p_x {W : World} {b j : Nat} {v : Value} {o1 o2 : Obj} (h : b < W.heap.size) : ((W.setCell ⟨b, j, none⟩ v).alloc o1).alloc o2 = ((W.alloc o1).alloc o2).setCell ⟨b, j, none⟩ v := by
 rw [World.setCell_alloc_past (w := W.alloc o1) _ b _ _ m_, World.setCell_alloc_past _ b _ _ h]
theorem l_V {W : World} {b j : Nat} {v : Value} {o1 : Obj} (h : b < W.heap.size) : (W.setCell ⟨b, j, none⟩ v).alloc o1 = (W.alloc o1).setCell ⟨b, j, none⟩ v := by
 rw [World.setCell_alloc_past _ b _ _ h]
theorem p_9 {W : World} {b j : Nat} {v : Value} {o1 o2 o3 : Obj} (h : b < W.heap.size) : (((W.setCell ⟨b, j, none⟩ v).alloc o1).alloc o2).alloc o3 = (((W.alloc o1).alloc o2).alloc o3).setCell ⟨b, j, none⟩ v := by
 rw [p_x h, l_V m_]
theorem e_g {b n : Nat} (h : b < n) : b < n + 1 ∧ b < n + 1 + 1 ∧ b < n + 1 + 1 + 1 := by omega
theorem h_C {X : Nat → Obj → Prop} {W : World} {g : Nat} {es : List Nd} (hh : W.heap[g]? = some (.cells (a_D es).toArray 72)) (hx : ¬ X g (.cells (a_D es).toArray 72)) : a_B X (fun V => b_q V (some ⟨g, 0, none⟩) es) W :=
 a_B.blk hh hx fun V hv => .inr ⟨g, 0, rfl, a_6 hv, fun j u hu => by rw [Nat.zero_add, a_0 hv]; simpa using hu⟩
theorem k_H {W : World} {B c : Nat} {A : Option Addr} {es : List Nd} (h : W.ownsRow B 72 6 (.slice A es.length c) es.length (a_D es)) : a_B XB (fun V => b_q V A es) W :=
 a_B.own h (fun _ _ _ _ => nXB d_ d_) fun V hv => b_i hv
theorem j_x {W : World} {g k : Nat} {l : List a_3} {t : TypeId} (h : W.heap[g]? = some (.cells (l.map str).toArray t)) (hk : k < l.length) : ∃ s ∈ l, W.cell? ⟨g, k, none⟩ = some (str s) := ⟨l[k], List.getElem_mem hk, by rw [a_0 h]; simp [hk]⟩
theorem j_N {n : Int} (h : 0 ≤ n) : ∃ k : Nat, n.tmod 4 = (k : Int) ∧ (k : Int) < 4 ∧ k < 4 := by
 rw [Int.tmod_eq_emod_of_nonneg h]
 exact ⟨(n % 4).toNat, o_, o_, o_⟩
theorem d_g {s : a_3} {l : List a_3} (hs : s ∈ l) (h : ∀ x ∈ l, x.length ≤ maxLen) : s.length ≤ maxLen := h s hs
theorem h_z {o : Oper} {a : Act} {w : World} {K : Value → World → Prop} (s x : Operand) (t : TypeId) (hop : o.op = Op.call { callee := Callee.builtin Builtin.append, args := #[s, x], argTypes := #[t, t] })
  (e : TypeId) (i : TypeInfo) (z : Value) (size bytes : Nat) (h1 : prog.underlying t = some (.slice e)) (h2 : prog.info? e = some i) (h3 : i.zero = some z) (h4 : i.size = size) (h5 : i.bytes = bytes) (h6 : z.cells.size = size) (h7 : 0 < size)
  {g g2 : Nat} (olds news : List Value) {n : Nat} (hs : a.eval s = .slice (some ⟨g, 0, none⟩) n n) (hn : olds.length = n * size) {t1 t2 : TypeId} (hg : w.heap[g]? = some (.cells olds.toArray t1))
  (hx : a.eval x = .slice (some ⟨g2, 0, none⟩) 1 1) (hm : news.length = 1 * size) (hg2 : w.heap[g2]? = some (.cells news.toArray t2)) (b1 : n + 1 ≤ maxLen) (b2 : (n + 1) * bytes ≤ 140737488355328)
  (hK : ∀ v' w', w'.ownsRow w.heap.size e size v' (n + 1) (olds ++ news) → Below w.heap.size w w' → K v' w') : a_e prog o a w K := by
 have ha : ∀ (g j : Nat), (⟨g, 0, none⟩ : Addr).add j = ⟨g, j, none⟩ := fun g j => by cases j <;> simp [Addr.add]
 obtain ⟨v', w', hrun, r1, r2⟩ := run_append_arg_grows (P := prog) w t o.type e i z size bytes h1 h2 h3 h4 h5 h6 h7 ⟨g, 0, none⟩ n n olds hn (fun j u hu => by rw [ha, a_0 hg]; simpa using hu) ⟨g2, 0, none⟩ 1 1 news hm (fun j u hu => by rw [ha, a_0 hg2]; simpa using hu) o_ b1 b2
 refine a_e.val (v := v') (w' := w') ?_ (hK v' w' r1 ((b_ _ _).grown r2 (l_ _) (fun k h => by cases h)))
 simp [execOp, hop, resolve, invoke, builtin, hs, hx, hrun, Result.andThen]
theorem m_W (l : List Int) (i : Int) : lAt l i ≤ 131072 := by
 unfold lAt
 split
 ·omega
 ·rename_i h
  have h1 : i % 65536 / (l.length : Int) ≤ i % 65536 := Int.ediv_le_self _ o_
  omega
def i_I (w : World) (a : Pl) (l : List Int) : Prop := b_R w a.1 l ∧ l.length ≤ a.2 ∧ (a.1 = none → a.2 = 0)
theorem i_I.below {w w' : World} {a : Pl} {l : List Int} (h : i_I w a l) (hb : Below w.heap.size w w') : i_I w' a l := ⟨h.1.below hb, h.2⟩
theorem l_m {w : World} {a : Addr} {l : List Int} (h : b_R w (some a) l) (q : Nat) : b_R w (some (a.add q)) (l.drop q) := by
 rcases h with h | ⟨a', e, h1, h2, h3⟩
 ·left; rw [h, List.drop_nil]
 ·cases e
  refine .inr ⟨a.add q, rfl, by unfold Addr.add; split <;> exact h1, by rw [List.length_drop]; omega, fun k hk => ?_⟩
  rw [List.length_drop] at hk
  rw [Addr.add_add, h3 (q + k) o_]
  simp [List.getD_eq_getElem?_getD, List.getElem?_drop]
set_option maxRecDepth 100000
theorem h_S (A : Option Addr) (c : Nat) (l : List Int) (n : Int) (w : World) (h : i_I w (A, c) l) (h0 : 0 ≤ n) (hn : n ≤ 1000) :
  Calls prog 19 #[.slice A l.length c, .int .i64 n] w fun e w' => (∃ (B : Option Addr) (d : Nat) (m : List Int), e = .returned (.slice B m.length d) ∧ ∀ V, i_I V (A, c) l → i_I V (B, d) m) ∧ w' = w := by
 obtain ⟨hA, hl, hz⟩ := h
 simp only at hA hl hz
 have hlm : l.length ≤ maxLen := by
  rcases hA with rfl | ⟨_, _, _, h, _⟩
  ·simp
  ·exact h
 have hA0 := a_2 hA
 clear hA
 obtain ⟨q, hq, hmn⟩ : ∃ q : Nat, q ≤ l.length ∧ min (l.length : Int) n = (q : Int) := ⟨min l.length n.toNat, o_, o_⟩
 have hqc : q ≤ c := by omega
 go_enter func19, ntmps19
 cases A with
 | none =>
  have hc := hz rfl
  subst hc
  have hl0 : l.length = 0 := by omega
  have hq0 : q = 0 := by omega
  subst hq0
  rw [hl0] at hmn ⊢
  go_wp2_with fail
  go_ret
  exact ⟨⟨none, 0, [], rfl, fun V _ => ⟨.inl rfl, l_ _, fun _ => rfl⟩⟩, rfl⟩
 | some a =>
  by_cases hcq : c = q
  ·subst hcq
   go_wp2_with fail
   go_ret
   exact ⟨⟨some a, 0, [], rfl, fun V _ => ⟨.inl rfl, l_ _, fun h => by cases h⟩⟩, rfl⟩
  ·go_wp2_with fail
   go_ret
   exact ⟨⟨some (a.add q), c - q, l.drop q, by rw [List.length_drop]; rfl, fun V hV => ⟨l_m hV.1 q, by show (l.drop q).length ≤ c - q; rw [List.length_drop]; omega, fun h => by cases h⟩⟩, rfl⟩
def g_l : List Col := [⟨[105, 100], 2, false⟩, ⟨[99], 3, false⟩, ⟨[97, 116], 4, false⟩, ⟨[118], 2, true⟩]
abbrev d_Z : Array Value := #[str [105, 100], .int .i64 2, .bool false, str [99], .int .i64 3, .bool false, str [97, 116], .int .i64 4, .bool false, str [118], .int .i64 2, .bool true]
set_option maxRecDepth 512
theorem f_n {w : World} {g : Nat} {t : TypeId} (h : w.heap[g]? = some (.cells d_Z t)) : b_1 w (some ⟨g, 0, none⟩) g_l := by
 refine .inr ⟨g, 0, rfl, a_6 h, fun i hi => ?_⟩
 have hi' : i < 4 := hi
 match i, hi' with
 | 0, _ => exact ⟨a_0 h 0, a_0 h 1, a_0 h 2⟩
 | 1, _ => exact ⟨a_0 h 3, a_0 h 4, a_0 h 5⟩
 | 2, _ => exact ⟨a_0 h 6, a_0 h 7, a_0 h 8⟩
 | 3, _ => exact ⟨a_0 h 9, a_0 h 10, a_0 h 11⟩
theorem m_m : h_w g_l := by
 intro c hc
 simp only [g_l, List.mem_cons, List.mem_nil_iff, or_false] at hc
 rcases hc with rfl | rfl | rfl | rfl <;> exact ⟨d_, d_⟩
set_option maxRecDepth 100000
theorem d_V (w : World) :
  Calls prog 78 #[] w fun e w' => e = .returned (.slice (some ⟨w.heap.size, 0, none⟩) 4 4) ∧ w' = w.alloc (.cells d_Z 126) := by
 go_enter func78, ntmps78
 go_wp2_with fail
 exact m_Y
set_option maxRecDepth 512
def k_L (l : List Oper) : List Nat → List Nat → Bool
 | _, [] => true
 | seen, p :: r => (seen.any fun s => match l[s]? with
  | some o => c_I o p
  | none => false) && k_L l (p :: seen) r
theorem h_n {l : List Oper} {L : Nat → Bool} (shut : ∀ i o, l[i]? = some o → L i = true → ∀ j, c_I o j = true → L j = true) : ∀ (P seen : List Nat), k_L l seen P = true → (∀ s ∈ seen, L s = true) → ∀ p ∈ P, L p = true
 | [], _, _, _, p, h => (List.not_mem_nil h).elim
 | q :: r, seen, h, hs, p, hp => by
  unfold k_L at h
  rw [Bool.and_eq_true] at h
  obtain ⟨s, hm, hw⟩ := List.any_eq_true.1 h.1
  have hq : L q = true := by
   cases ho : l[s]? with
   | none => rw [ho] at hw; cases hw
   | some o => rw [ho] at hw; exact shut s o ho (hs s hm) q hw
  rcases List.mem_cons.1 hp with rfl | hp
  ·exact hq
  ·exact h_n shut r (q :: seen) h.2 (fun t ht => by rcases List.mem_cons.1 ht with rfl | ht; exact hq; exact hs t ht) p hp
section
variable (Q0 : Program) (H : (Nat → Bool) → World → World → Prop) (C : (Nat → Bool) → World → Prop) (l : List Oper) (R : Nat → World → Value → Prop) (a0 : Act) (z : Nat) (P D : List Nat)
def l_F (i : Nat) (o : Oper) : Prop :=
 ∀ (L : Nat → Bool) (a : Act) (w : World), FrameOk l a0 a → C L w → L i = false → (P.contains i = true → L z = false) → (∀ j o', l[j]? = some o' → c_I o' i = true → L j = false) → (∀ j, c_I o j = true → L j = true ∧ ((L z = true → D.contains j = false) → n_5 H l R L j a w)) →
  a_e Q0 o a w (fun v w' => C (e_b i L) w' ∧ (i = z ∨ H L w w') ∧ (o.dst.isSome = true → h_W (H (e_b i L)) (fun W => R i W v) w'))
structure SlotInvD (listed : Array Bool) (a : Act) (w : World) : Prop where
 fr : FrameOk l a0 a
 c : C (fun j => listed.getD j false) w
 tell : ∀ i, listed.getD i false = true → (listed.getD z false = true → D.contains i = false) → n_5 H l R (fun j => listed.getD j false) i a w
 shut : ∀ i o, l[i]? = some o → listed.getD i false = true → ∀ j, c_I o j = true → listed.getD j false = true
end
theorem j_g {H : (Nat → Bool) → World → World → Prop} {C : (Nat → Bool) → World → Prop} {l : List Oper} {R : Nat → World → Value → Prop} {a0 : Act} {z : Nat} {D : List Nat} (hT : ∀ L i u v w, H L u v → H (e_b i L) v w → H L u w) (hD : ∀ j, j ≠ z → D.contains j = false → ∀ W W' v, R j W v → R j W' v) (hr : ∀ L (w : World), H L w w) (hzD : D.contains z = false) (hc : c_h a0.tmps.size l = true) {listed : Array Bool} {a : Act} {w : World} (hI : SlotInvD H C l R a0 z D listed a w)
  {i : Nat} {o : Oper} (hnl : listed.getD i false = false) (hz : i < listed.size) (ho : l[i]? = some o) (hs : ∀ j, c_I o j = true → listed.getD j false = true) {v : Value} {w' : World} (h1 : C (e_b i fun j => listed.getD j false) w') (h2 : i = z ∨ H (fun j => listed.getD j false) w w') (h3 : o.dst.isSome = true → h_W (H (e_b i fun j => listed.getD j false)) (fun W => R i W v) w') : SlotInvD H C l R a0 z D (listed.setIfInBounds i true) (a.put o.dst v) w' := by
 obtain ⟨_, _, hd⟩ := c_j hc ho
 have up : ∀ j, listed.getD j false = true → (listed.setIfInBounds i true).getD j false = true := fun j hj => by
  rw [congrFun (c_3 hz) j]; show (j == i || listed.getD j false) = true; rw [hj, Bool.or_true]
 have go : ∀ j s, listed.getD j false = true → ((listed.setIfInBounds i true).getD z false = true → D.contains j = false) → (l[j]?).bind (·.dst) = some s → h_W (H (e_b i fun j => listed.getD j false)) (fun W => R j W (a.tmps.getD s undef)) w' := fun j s hj hn hb V hV => by
  have hn' : listed.getD z false = true → D.contains j = false := fun h => hn (up z h)
  have ht := hI.tell j hj hn' s hb
  rcases h2 with rfl | h2
  ·have hdz : D.contains j = false := hn (by rw [congrFun (c_3 hz) i]; show (i == i || _) = true; simp)
   exact hD j (fun e => by rw [e, hnl] at hj; cases hj) hdz w V _ (ht w (hr _ w))
  ·exact ht V (hT _ _ _ _ _ h2 hV)
 have shut : ∀ k o', l[k]? = some o' → (listed.setIfInBounds i true).getD k false = true → ∀ j, c_I o' j = true → (listed.setIfInBounds i true).getD j false = true := fun k o' hk hl j hj => by
  rcases b_J _ _ _ hl with rfl | hl
  ·rw [ho] at hk; cases hk; exact up j (hs j hj)
  ·exact up j (hI.shut k o' hk hl j hj)
 rw [← c_3 hz] at h1 h3 go
 cases hdst : o.dst with
 | none =>
  refine ⟨hI.fr, h1, fun j hj hn s hs => ?_, shut⟩
  rcases b_J _ _ _ hj with rfl | hj
  ·rw [ho] at hs; simp only [Option.bind_some, hdst] at hs; cases hs
  ·exact go j s hj hn hs
 | some d =>
  obtain ⟨hdn, hun⟩ := hd d hdst
  have hsz : d < a.tmps.size := by rw [hI.fr.size]; exact hdn
  refine ⟨⟨hI.fr.defers, by simp [Act.put, hI.fr.size], fun s hs => ?_⟩, h1, fun j hj hn s hs => ?_, shut⟩
  ·rw [e_H, if_neg]
   ·exact hI.fr.outer s hs
   ·rintro ⟨rfl, _⟩
    have : h_3 l d = true := List.any_eq_true.2 ⟨o, List.mem_of_getElem? ho, by simp [hdst]⟩; rw [this] at hs
    cases hs
  ·by_cases hjs : d = s
   ·subst hjs
    exact s_s
   ·rw [e_H, if_neg (fun h => hjs h.1)]
    rcases b_J _ _ _ hj with rfl | hj
    ·rw [ho] at hs; simp only [Option.bind_some, hdst] at hs; exact absurd (Option.some.inj hs) hjs
    ·exact go j s hj hn hs
theorem h_r {Q0 : Program} {H : (Nat → Bool) → World → World → Prop} {C : (Nat → Bool) → World → Prop} {l : List Oper} {R : Nat → World → Value → Prop} {a0 : Act} {z : Nat} {P D : List Nat} {Q : Exit → Act → World → Prop} (hT : ∀ L i u v w, H L u v → H (e_b i L) v w → H L u w) (hD : ∀ j, j ≠ z → D.contains j = false → ∀ W W' v, R j W v → R j W' v) (hr : ∀ L (w : World), H L w w) (hzD : D.contains z = false) (hP : k_L l [z] P = true) (hc : c_h a0.tmps.size l = true) (hop : ∀ i o, l[i]? = some o → l_F Q0 H C l R a0 z P D i o)
  (hQ : ∀ a w L, FrameOk l a0 a → C L w → (∀ i, i < l.length → L i = true) → Q .normal a w) :
  ∀ (fuel : Nat) (listed : Array Bool) (a : Act) (w : World), listed.size = l.length → listed.toList.count false ≤ fuel → SlotInvD H C l R a0 z D listed a w → wpAny Q0 .any l.toArray Q fuel listed a w
 | 0, listed, a, w, hz, hn, hI => by
  have hr : Region.ready .any l.toArray listed = [] := by
   rw [List.eq_nil_iff_forall_not_mem]; intro i hi; obtain ⟨o, ho, hf, _⟩ := e_J hi; have := c_X listed i hf
   omega
  exact ⟨hr, hQ a w _ hI.fr hI.c (c_B hc hz hr)⟩
 | fuel + 1, listed, a, w, hz, hn, hI => by
  refine ⟨fun hr => hQ a w _ hI.fr hI.c (c_B hc hz hr), fun i hi => ?_⟩
  obtain ⟨o, ho, hf, ha⟩ := e_J hi
  have hcnt := c_X listed i hf
  have hs : ∀ j, c_I o j = true → listed.getD j false = true := fun j hj => by
   exact s_i
  have hf2 := d_X hf
  have hanc : listed.getD z false = true → ∀ p ∈ P, listed.getD p false = true := fun h => h_n (L := fun j => listed.getD j false) hI.shut P [z] hP (fun s hs => by rw [List.mem_singleton.1 hs]; exact h)
  unfold wpOp
  rw [List.getElem?_toArray, ho]
  have hg := (c_j hc ho).1
  have hw : Region.wanted o (yielded l.toArray a.tmps) = true := by unfold Region.wanted; rw [hg]
  simp only [hw, if_true]
  left
  refine a_e.wp (hop i o ho _ a w hI.fr hI.c hf2 (fun hp => by
   cases hl : listed.getD z false with
   | false => rfl
   | true => rw [hanc hl i (List.contains_iff_mem.1 hp)] at hf2; cases hf2) (fun j o' hj hw' => by
   cases hl : listed.getD j false with
   | false => rfl
   | true => rw [hI.shut j o' hj hl i hw'] at hf2; cases hf2) fun j hj => ⟨hs j hj, hI.tell j (hs j hj)⟩) fun v w' ⟨h1, h2, h3⟩ => ?_
  exact h_r hT hD hr hzD hP hc hop hQ fuel _ _ _ (by simpa using hz) o_ (j_g hT hD hr hzD hc hI hf2 (j_k hz ho) ho hs h1 h2 h3)
theorem c_8 {Q0 : Program} {id : Nat} {Q : Exit → Act → World → Prop} {a : Act} {w : World} {l : List Oper} (H : (Nat → Bool) → World → World → Prop) (C : (Nat → Bool) → World → Prop) (R : Nat → World → Value → Prop) (z : Nat) (P D : List Nat) (hT : ∀ L i u v w, H L u v → H (e_b i L) v w → H L u w) (hr : ∀ L (w : World), H L w w) (hD : ∀ j, j ≠ z → D.contains j = false → ∀ W W' v, R j W v → R j W' v) (hzD : D.contains z = false) (hP : k_L l [z] P = true) (hm : Q0.follows .mixedOrders = true) (hc : c_h a.tmps.size l = true)
  (h0 : C (fun _ => false) w.drew) (hop : ∀ i o, l[i]? = some o → l_F Q0 H C l R a z P D i o)
  (hQ : ∀ (V : Nat → Value) (w' : World) (L : Nat → Bool), C L w' → (∀ i, i < l.length → L i = true) → Q .normal { a with tmps := c_V V l a.tmps } w') : (Code.region id l.toArray true).wp Q0 Q a w := by
 have hz0 : ∀ i, (Array.replicate l.toArray.size false).getD i false = false := fun i => by
  rw [Array.getD_eq_getD_getElem?, Array.getElem?_replicate]
  split <;> rfl
 have hz1 : (fun j => (Array.replicate l.toArray.size false).getD j false) = fun _ => false := funext hz0
 refine wp_region_any hm ?_
 refine h_r (Q0 := Q0) (H := H) (C := C) (R := R) (a0 := a) (P := P) hT hD hr hzD hP hc hop ?_ _ _ _ _ s_ ?_ ⟨⟨rfl, rfl, fun _ _ => rfl⟩, hz1 ▸ h0, fun i hi => ?_, fun i o _ hi => ?_⟩
 ·intro a' w' L hf hcw hl
  rw [h_v hf]
  exact hQ _ w' L hcw hl
 ·exact Nat.le_trans List.count_le_length s_
 ·rw [hz0] at hi; cases hi
 ·rw [hz0] at hi; cases hi
section
variable {H : (Nat → Bool) → World → World → Prop} {C : (Nat → Bool) → World → Prop} {l : List Oper} {R : Nat → World → Value → Prop} {a0 : Act} {z : Nat} {P D : List Nat} {i : Nat} {o : Oper} {X : TypeId → Prop}
theorem a_Q (hp : (P.contains i || o.after.toList.isEmpty) = true) (h : l_X prog H C l R a0 i o) : l_F prog H C l R a0 z P D i o := fun L a w hf hc hL hq hn ht => by
 refine (h L a w hf hc hL hn fun j hj => ⟨(ht j hj).1, (ht j hj).2 fun hl => ?_⟩).mono fun v w' ⟨h1, h2, h3⟩ => ⟨h1, .inr h2, h3⟩
 rw [Bool.or_eq_true] at hp
 rcases hp with hp | hp
 ·rw [hq hp] at hl; cases hl
 ·unfold c_I at hj
  rw [List.isEmpty_iff.1 hp] at hj
  cases hj
theorem d_E (cal : Lull H C X) (hp : P.contains i = true)
  (h : ∀ (L : Nat → Bool) (a : Act) (w : World), FrameOk l a0 a → C L w → L z = false → (∀ j, c_I o j = true → n_5 H l R L j a w) → a_e prog o a w (fun v w' => Below w.heap.size w w' ∧ ∀ V, H L w' V → R i V v)) : l_F prog H C l R a0 z P D i o := fun L a w hf hc hL hq hn ht =>
 (h L a w hf hc (hq hp) fun j hj => (ht j hj).2 fun hl => by rw [hq hp] at hl; cases hl).mono fun v w' ⟨hb, hr⟩ => ⟨cal.next i L w w' hc hb, .inr (cal.grow L w w' hb), fun _ V hV => hr V (cal.anti L i w' V hV)⟩
theorem d_1 (cal : Lull H C X)
  (h : ∀ (L : Nat → Bool) (a : Act) (w : World), FrameOk l a0 a → C L w → (∀ j, c_I o j = true → D.contains j = false → n_5 H l R L j a w) → a_e prog o a w (fun v w' => Below w.heap.size w w' ∧ ∀ V, H L w' V → R i V v)) : l_F prog H C l R a0 z P D i o := fun L a w hf hc hL hq hn ht =>
 (h L a w hf hc fun j hj hd => (ht j hj).2 fun _ => hd).mono fun v w' ⟨hb, hr⟩ => ⟨cal.next i L w w' hc hb, .inr (cal.grow L w w' hb), fun _ V hV => hr V (cal.anti L i w' V hV)⟩
end
set_option maxRecDepth 100000
theorem d_n (B c : Nat) (fs : List (Nat × Array Value)) (f : Nat → Int) (I : Nat → World → Prop) (R : World → Prop) (w : World) (h0 : I 0 w) (hn : fs.length ≤ 10) (hR : ∀ j W, I j W → R W)
  (hc : ∀ j (h : j < fs.length) W, I j W → W.cell? ⟨B, j, none⟩ = some (.func (.func fs[j].1) #[] fs[j].2))
  (eg : ∀ j (h : j < fs.length) args W, (callFunc fs[j].1 args).run prog W = .ok (.enter fs[j].1 args) W)
  (hp : ∀ j (h : j < fs.length) W, I j W → Calls prog fs[j].1 fs[j].2 W fun e w' => e = .returned (.int .i64 (f j)) ∧ R w' ∧ (f j = 0 → I (j + 1) w')) :
  Calls prog 20 #[.slice (some ⟨B, 0, none⟩) fs.length c] w fun e w' => e = .returned (.int .i64 (a_o f fs.length)) ∧ R w' ∧ (a_o f fs.length = 0 → I fs.length w') := by
 have HC := a_2 hc
 have HG := a_2 eg
 have HP := a_2 hp
 have HI := a_2 h0
 clear hc eg hp h0
 go_enter func20, ntmps20
 go_wp2
 go_loopw [8] (fun i wr => ∃ k : Nat, k ≤ fs.length ∧ i = .int .i64 k ∧ Hid (∀ j, j < k → f j = 0) ∧ Hid (I k wr)) (fun i _ => fs.length - (intOf i).toNat)
 case atStart => exact ⟨0, o_, rfl, fun j hj => absurd hj (Nat.not_lt_zero _), HI⟩
 case round =>
  obtain ⟨k, hk, rfl, HZ, HK⟩ := hrel
  by_cases hlt : k < fs.length
  ·have c0 := HC.out k hlt wr HK.out
   have hcall := HP.out k hlt wr HK.out; refine s_a ?_; intro hgo HF HN; obtain ⟨⟨g, lb⟩, hgl⟩ : ∃ r, r = fs[k] := ⟨_, rfl⟩; rw [← hgl] at c0 hcall hgo; simp only at c0 hcall hgo; clear hgl; generalize f k = v at *
   by_cases hv : v = 0
   ·subst hv
    have HR := a_2 (HN.out rfl); clear HF HN
    go_wp2_with (go_at_fn g; refine hcall.mono ?_; rintro e w1 ⟨rfl, _, hi1⟩; have HJ := a_2 (hi1 rfl); clear hi1)
    exact ⟨⟨k + 1, o_, t_, HR, HJ⟩, w_⟩
   ·have hvb : (v != 0) = true := by simpa using hv
    have HR := a_2 (HF.out hv); have HV := a_2 hv; clear HF HN
    go_wp2_with (go_at_fn g; refine hcall.mono ?_; rintro e w1 ⟨rfl, hr1, _⟩; have HJ := a_2 hr1; clear hr1)
    go_ret
    exact ⟨a_d HR.out.symm, HJ.out, fun e9 => absurd (HR.out.symm.trans e9) HV.out⟩
  ·obtain rfl : k = fs.length := by omega
   have HR := a_2 (a_Y HZ.out); have HJ := a_2 (hR _ _ HK.out)
   go_wp2
   go_ret
   exact ⟨a_d HR.out.symm, HJ.out, fun _ => HK.out⟩
set_option maxRecDepth 512
theorem a_U (B c : Nat) (fs : List Thk) (w : World) (hB : B < w.heap.size) (hn : fs.length ≤ 10)
  (hc : ∀ j (h : j < fs.length), w.cell? ⟨B, j, none⟩ = some (.func (.func fs[j].g) #[] fs[j].lb)) (eg : ∀ j (h : j < fs.length) args W, (callFunc fs[j].g args).run prog W = .ok (.enter fs[j].g args) W)
  (ht : ∀ j (h : j < fs.length), (∀ i, i < j → (fs.map Thk.v).getD i 0 = 0) → b_8 w fs[j].g fs[j].lb fs[j].v) :
  Calls prog 20 #[.slice (some ⟨B, 0, none⟩) fs.length c] w fun e w' => e = .returned (.int .i64 (a_o (fun j => (fs.map Thk.v).getD j 0) fs.length)) ∧ Below w.heap.size w w' := by
 have hl : (fs.map fun t => (t.g, t.lb)).length = fs.length := by simp
 have H := d_n B c (fs.map fun t => (t.g, t.lb)) (fun j => (fs.map Thk.v).getD j 0) (fun j W => Below w.heap.size w W ∧ ∀ i, i < j → (fs.map Thk.v).getD i 0 = 0) (fun W => Below w.heap.size w W) w ⟨b_ _ _, fun i hi => absurd hi (Nat.not_lt_zero _)⟩ (by simpa using hn) (fun _ _ h => h.1)
  (fun j h W hW => by
    refine o_o ?_; intro h'; have := (hW.1.cell (p := ⟨B, j, none⟩) hB).trans (hc j h')
    simpa using this)
  (fun j h => by
    refine o_o ?_; intro h'
    simpa using eg j h')
  (fun j h W hW => by
   refine o_o ?_; intro h'; have h2 := (ht j h' hW.2).2 W hW.1; refine r_H ?_; intro e; simp only [List.getElem_map, e]
   exact h2.mono fun e2 w2 ⟨h3, h4⟩ => ⟨h3, a_9 h4 hW.1, fun e0 => ⟨a_9 h4 hW.1, a_T hW.2 (e.trans e0)⟩⟩)
 rw [hl] at H
 exact H.mono fun e w' ⟨h1, h2, _⟩ => ⟨h1, h2⟩
def d_m : List Int → Int
 | [] => 0
 | x :: r => a_c x (d_m r)
theorem g_z (f : Nat → Int) : ∀ n : Nat, a_o f (n + 1) = a_c (f 0) (a_o (fun j => f (j + 1)) n)
 | 0 => by unfold a_o a_c; simp [a_o]
 | n + 1 => by
  show (if a_o f (n + 1) = 0 then f (n + 1) else a_o f (n + 1)) = _
  rw [g_z f n]
  show _ = a_c (f 0) (if a_o (fun j => f (j + 1)) n = 0 then f (n + 1) else a_o (fun j => f (j + 1)) n)
  unfold a_c
  by_cases h : f 0 = 0 <;> simp [h]
theorem b_s : ∀ l : List Int, a_o (fun j => l.getD j 0) l.length = d_m l
 | [] => rfl
 | x :: r => by
  rw [List.length_cons, g_z]
  show a_c x (a_o (fun j => r.getD j 0) r.length) = a_c x (d_m r)
  rw [b_s r]
end
section
open Go.ChangeShapes Go.WideShapes Go.ChangeAt Go.RowKit
theorem g_w (g off i : Nat) : (⟨g, off, none⟩ : Addr).add i = ⟨g, off + i, none⟩ := by unfold Addr.add; split <;> simp_all
theorem Step.cVal : prog.cellsOf 70 = 3 := by kernel_rfl
set_option maxRecDepth 100000
theorem Step.nd_of_cells {H : Type} {enc : TypeId × Value → H} {W : World} {held : Bool} {fuel : Nat} {cs : List Value} {x : DataW H × List MemPlace} (hl : cs.length = 6)
  (h : DataW.trod enc prog W 0 (fun _ => true) held fuel 72 cs = some x) : ∃ n : Nd, cs = n.cells ∧ n.name.length ≤ maxLen ∧ n.val.text.length ≤ maxLen ∧ (Lit.int IntKind.i64 n.op).wf = true ∧ (Lit.int IntKind.i64 n.val.kind).wf = true ∧ (Lit.int IntKind.i64 n.val.num).wf = true ∧ (Lit.int IntKind.i64 n.arity).wf = true := by
 obtain ⟨ys, k, _, _, _, hyl, hg⟩ := DataW.trod_struct underlying72 h
 match cs, hl with
 | [c0, c1, c2, c3, c4, c5], _ =>
  match ys, hyl with
  | [y0, y1, y2, y3], _ =>
   have g0 : DataW.trod enc prog W 0 (fun _ => true) held k 3 (([c0, c1, c2, c3, c4, c5].drop 0).take (prog.cellsOf 3)) = some y0 := hg 0 _ rfl; have g1 : DataW.trod enc prog W 0 (fun _ => true) held k 70 (([c0, c1, c2, c3, c4, c5].drop 1).take (prog.cellsOf 70)) = some y1 := hg 1 _ rfl; have g2 : DataW.trod enc prog W 0 (fun _ => true) held k 9 (([c0, c1, c2, c3, c4, c5].drop 4).take (prog.cellsOf 9)) = some y2 := hg 2 _ rfl; have g3 : DataW.trod enc prog W 0 (fun _ => true) held k 3 (([c0, c1, c2, c3, c4, c5].drop 5).take (prog.cellsOf 3)) = some y3 := hg 3 _ rfl; rw [Step.cInt] at g0 g3; rw [Step.cStr] at g2; rw [Step.cVal] at g1; obtain ⟨zs, k2, _, _, _, hzl, hv⟩ := DataW.trod_struct underlying70 g1
   match zs, hzl with
   | [z0, z1, z2], _ =>
    have v0 : DataW.trod enc prog W 0 (fun _ => true) held k2 3 (([c1, c2, c3].drop 0).take (prog.cellsOf 3)) = some z0 := hv 0 _ rfl; have v1 : DataW.trod enc prog W 0 (fun _ => true) held k2 3 (([c1, c2, c3].drop 1).take (prog.cellsOf 3)) = some z1 := hv 1 _ rfl; have v2 : DataW.trod enc prog W 0 (fun _ => true) held k2 9 (([c1, c2, c3].drop 2).take (prog.cellsOf 9)) = some z2 := hv 2 _ rfl; rw [Step.cInt] at v0 v1; rw [Step.cStr] at v2; obtain ⟨n0, e0, _, f0⟩ := DataW.trod_int underlying3 g0; obtain ⟨n1, e1, _, f1⟩ := DataW.trod_int underlying3 v0; obtain ⟨n2, e2, _, f2⟩ := DataW.trod_int underlying3 v1; obtain ⟨s3, e3, _, f3⟩ := DataW.trod_string underlying9 v2; obtain ⟨s4, e4, _, f4⟩ := DataW.trod_string underlying9 g2; obtain ⟨n5, e5, _, f5⟩ := DataW.trod_int underlying3 g3
    simp at e0 e1 e2 e3 e4 e5
    subst e0 e1 e2 e3 e4 e5; exact ⟨⟨n0, ⟨n1, n2, bs s3⟩, bs s4, n5⟩, by show _ = [_, _, _, Value.string ⟨(bs s3).toArray⟩, Value.string ⟨(bs s4).toArray⟩, _]; rw [c_y, c_y], f4, f3, f0, f1, f2, f5⟩
namespace Step
end Step
end
end Go.Proofs.YtnpjibaolicbmaaGreatDoor
