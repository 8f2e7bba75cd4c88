/- Rows of steps that the call has made: what they read as, how they grow, how one field is stored. Contract, told: base.Step (all kinds but joins). Contract, told: base.joined. -/
import Derived.Test.YtmbeeefkpgfgmaaGreatDoorPq13
import Derived.Laws.OwnMore
import Derived.Test.YtmbeeefkpgfgmaaGreatDoorPq16
import Derived.Test.YtmbeeefkpgfgmaaGreatDoorPq18
import Derived.Test.YtmbeeefkpgfgmaaGreatDoorPq20
import Derived.Deep.RegionHeld3
import Derived.RegionTactic
import Derived.ChangeAlike
import Derived.BigRegion
import Derived.Deep.Cut
set_option linter.unusedVariables false
set_option linter.unusedSimpArgs false
namespace Go.Proofs.YtmbeeefkpgfgmaaGreatDoor
open Go.RowKit
theorem Tryz.info_step : (Tryz.prog.info? 27).map (fun i => (i.zero, i.size, i.bytes)) = some (some (.agg #[.int .i64 0, .string ⟨#[]⟩, .slice none 0 0, .slice none 0 0, .slice none 0 0, .slice none 0 0]), 6, 120) := by kernel_rfl
def stCells : List Stp → List Adr → List Value
  | s :: ss, a :: az => s.cells a ++ stCells ss az
  | _, _ => []
theorem Stp.cells_len (s : Stp) (a : Adr) : (s.cells a).length = 6 := rfl
theorem stCells_push : ∀ (ss : List Stp) (az : List Adr) (s : Stp) (a : Adr), az.length = ss.length → stCells (ss ++ [s]) (az ++ [a]) = stCells ss az ++ s.cells a
  | [], [], s, a, _ => by simp [stCells]
  | [], _ :: _, _, _, h => by simp at h
  | _ :: _, [], _, _, h => by simp at h
  | x :: ss, y :: az, s, a, h => by
    show x.cells y ++ stCells (ss ++ [s]) (az ++ [a]) = x.cells y ++ stCells ss az ++ s.cells a
    rw [stCells_push ss az s a (by simpa using h), List.append_assoc]
theorem stCells_at : ∀ (ss : List Stp) (az : List Adr) (i : Nat) (h : i < ss.length) (h' : i < az.length) (j : Nat), j < 6 → (stCells ss az)[i * 6 + j]? = (ss[i].cells az[i])[j]?
  | [], _, i, h, _, _, _ => absurd h (by simp)
  | _ :: _, [], i, _, h', _, _ => absurd h' (by simp)
  | s :: ss, a :: az, 0, h, h', j, hj => by
    rw [Nat.zero_mul, Nat.zero_add]
    show (s.cells a ++ stCells ss az)[j]? = _
    rw [List.getElem?_append_left (by rw [Stp.cells_len]; exact hj)]
    rfl
  | s :: ss, a :: az, i + 1, h, h', j, hj => by
    show (s.cells a ++ stCells ss az)[(i + 1) * 6 + j]? = _
    rw [List.getElem?_append_right (by rw [Stp.cells_len]; omega), show (i + 1) * 6 + j - (s.cells a).length = i * 6 + j by rw [Stp.cells_len]; omega]
    exact stCells_at ss az i (by simpa using h) (by simpa using h') j hj
def StepsRow (w : World) (base : Nat) (A : Option Addr) (c : Nat) (ss : List Stp) : Prop :=
  ∃ az : List Adr, az.length = ss.length ∧ w.ownsRow base 27 6 (.slice A ss.length c) ss.length (stCells ss az) ∧ ∀ i (h : i < ss.length) (h' : i < az.length), Firm (fun W => ss[i].At W az[i]) w
theorem StepsRow.at {w : World} {base c : Nat} {A : Option Addr} {ss : List Stp} (h : StepsRow w base A c ss) : StpsAt w A ss := by
  obtain ⟨az, hl, ho, hf⟩ := h
  rcases ho.2 with ⟨_, hn⟩ | ⟨g, cap, cur, hv, hg, hh, hnc, hcap, hsz, htk⟩
  · exact .inl (List.eq_nil_of_length_eq_zero hn)
  · injection hv with h1 h2 h3
    subst h1
    refine .inr ⟨g, 0, rfl, lt_of_heap hh, fun i hi => ?_⟩
    have hi' : i < az.length := by omega
    have hc : ∀ j, j < 6 → w.cell? ⟨g, 0 + i * 6 + j, none⟩ = (ss[i].cells az[i])[j]? := fun j hj => by
      rw [← stCells_at ss az i hi hi' j hj, Nat.zero_add]
      exact World.ownsRow.cellAt ho (i * 6 + j) (by omega)
    exact ⟨az[i], (hf i hi hi').now, hc 0 (by omega), hc 1 (by omega), hc 2 (by omega), hc 3 (by omega), hc 4 (by omega), hc 5 (by omega)⟩
theorem StepsRow.below {w w' : World} {base c : Nat} {A : Option Addr} {ss : List Stp} (h : StepsRow w base A c ss) (hb : Below w.heap.size w w') : StepsRow w' base A c ss := by
  obtain ⟨az, hl, ho, hf⟩ := h
  exact ⟨az, hl, own_below ho hb, fun i h h' => (hf i h h').below hb⟩
theorem StepsRow.low {w : World} {base base' c : Nat} {A : Option Addr} {ss : List Stp} (h : StepsRow w base A c ss) (hb : base' ≤ base) : StepsRow w base' A c ss := by
  obtain ⟨az, hl, ho, hf⟩ := h
  exact ⟨az, hl, own_low ho hb, hf⟩
theorem KeepsT.of_row {w w' : World} {base n c : Nat} {A : Option Addr} {xs : List Value} (ho : w.ownsRow base 27 6 (.slice A n c) n xs) (h : w.grownBy w' (Value.slice A n c).ownBlock) : KeepsT w w' :=
  KeepsT.of_grown (g := 0) (cur := #[]) (r := (0, 0)) h (fun k hk => by
    rcases ho.2 with ⟨hv, _⟩ | ⟨g, cap, cur, hv, hg, hh, _⟩
    · rw [hv] at hk; cases hk
    · rw [hv] at hk
      have e : g = k := by simpa [Value.ownBlock] using hk
      subst e
      exact ⟨cur, _, hh⟩)
theorem StepsRow.push {w w' : World} {base c c' : Nat} {A A' : Option Addr} {ss : List Stp} {az : List Adr} {s : Stp} {a : Adr} (hl : az.length = ss.length) (ho : w.ownsRow base 27 6 (.slice A ss.length c) ss.length (stCells ss az)) (hf : ∀ i (h : i < ss.length) (h' : i < az.length), Firm (fun W => ss[i].At W az[i]) w)
    (hs : Firm (fun W => s.At W a) w) (h3 : w'.ownsRow base 27 6 (.slice A' (ss.length + 1) c') (ss.length + 1) (stCells ss az ++ s.cells a)) (hk : KeepsT w w') : StepsRow w' base A' c' (ss ++ [s]) := by
  refine ⟨az ++ [a], by simp [hl], ?_, fun i h h' => ?_⟩
  · rw [stCells_push ss az s a hl]
    simpa using h3
  · by_cases hi : i < ss.length
    · have e1 : (ss ++ [s])[i] = ss[i] := List.getElem_append_left hi
      have e2 : (az ++ [a])[i] = az[i]'(by omega) := List.getElem_append_left (by omega)
      rw [e1, e2]
      exact (hf i hi (by omega)).keep hk
    · have hi2 : i = ss.length := by simp at h; omega
      subst hi2
      have e1 : (ss ++ [s])[ss.length] = s := by simp
      have e2 : (az ++ [a])[ss.length]'h' = a := by simp [← hl]
      rw [e1, e2]
      exact hs.keep hk
end Go.Proofs.YtmbeeefkpgfgmaaGreatDoor
namespace Go.Proofs.YtmbeeefkpgfgmaaGreatDoor
open Go.RowKit
def StpR (s : Stp) (w' : World) (e : Ending) : Prop := ∃ a, e = .returned (s.agg a) ∧ Firm (fun W => s.At W a) w'
def StepTold (cs : List Col) (rs : List Rel) (l : List Int) (i : Int) : Prop := ∃ s : Stp, s.ok ∧ s.op ≠ 0 ∧ (∀ x ∈ s.items, nmB x.name = true) ∧
  ∀ (C : Option Addr) (cc : Nat) (R : Option Addr) (rc : Nat) (L : Option Addr) (lc : Nat) (w : World), ColsAt w C cs → RelsAt w R rs → IntsAt w L l →
    Calls Tryz.prog 83 #[.slice C cs.length cc, .slice R rs.length rc, .slice L l.length lc, .int .i64 i] w fun e w' => StpR s w' e ∧ Below w.heap.size w w'
theorem keep_set {w : World} {B j : Nat} {cs : Array Value} {u : Value} (h : w.heap[B]? = some (.cells cs 27)) : KeepsT w (w.setCell ⟨B, j, none⟩ u) := by
  refine ⟨by simp, fun k cs' t r e ht => ?_⟩
  by_cases hk : k = B
  · subst hk
    rw [h] at e
    injection e with e
    injection e with _ e _
    exact absurd e.symm ht
  · rw [heap_setCell_other w ⟨B, j, none⟩ k u (fun e => hk (by simpa using e))]
    exact e
theorem keep_set6 {w : World} {B : Nat} {cs : Array Value} (h : w.heap[B]? = some (.cells cs 27)) (a b c d e f : Value) :
    KeepsT w ((((((w.setCell ⟨B, 0, none⟩ a).setCell ⟨B, 1, none⟩ b).setCell ⟨B, 2, none⟩ c).setCell ⟨B, 3, none⟩ d).setCell ⟨B, 4, none⟩ e).setCell ⟨B, 5, none⟩ f) := by
  have h1 := heap_setCell_same w B 0 cs _ a h
  have h2 := heap_setCell_same _ B 1 _ _ b h1
  have h3 := heap_setCell_same _ B 2 _ _ c h2
  have h4 := heap_setCell_same _ B 3 _ _ d h3
  have h5 := heap_setCell_same _ B 4 _ _ e h4
  exact (keep_set h).trans ((keep_set h1).trans ((keep_set h2).trans ((keep_set h3).trans ((keep_set h4).trans (keep_set h5)))))
theorem below_set6 {B : Nat} {w w3 : World} {b : Nat} (h : Below B w w3) (hb : B ≤ b) (v0 v1 v2 v3 v4 v5 : Value) :
    Below B w ((((((w3.setCell ⟨b, 0, none⟩ v0).setCell ⟨b, 1, none⟩ v1).setCell ⟨b, 2, none⟩ v2).setCell ⟨b, 3, none⟩ v3).setCell ⟨b, 4, none⟩ v4).setCell ⟨b, 5, none⟩ v5) :=
  (((((h.setCell hb _).setCell hb _).setCell hb _).setCell hb _).setCell hb _).setCell hb _
theorem alloc_old {W : World} {o x : Obj} {k : Nat} (h : W.heap[k]? = some x) : (W.alloc o).heap[k]? = some x := by
  have hb : Below W.heap.size W (W.alloc o) := (Below.refl _ _).alloc (Nat.le_refl _) o
  rw [hb.block k (lt_of_heap h)]
  exact h
theorem KeepsT.alloc {a b : World} (h : KeepsT a b) (hs : b.heap.size = a.heap.size) (o : Obj) : KeepsT (a.alloc o) (b.alloc o) := by
  refine ⟨by simp [hs], fun k cs t r e ht => ?_⟩
  by_cases hk : k < a.heap.size
  · have e2 : a.heap[k]? = some (.cells cs t r) := by
      have hb : Below a.heap.size a (a.alloc o) := (Below.refl _ _).alloc (Nat.le_refl _) o
      rw [← hb.block k hk]
      exact e
    exact alloc_old (h.2 k cs t r e2 ht)
  · have hl := lt_of_heap e
    rw [World.size_alloc] at hl
    have hk2 : k = a.heap.size := by omega
    subst hk2
    rw [heap_alloc_new] at e
    rw [← hs, heap_alloc_new]
    exact e
theorem set6_size (w : World) (B : Nat) (a b c d e f : Value) : ((((((w.setCell ⟨B, 0, none⟩ a).setCell ⟨B, 1, none⟩ b).setCell ⟨B, 2, none⟩ c).setCell ⟨B, 3, none⟩ d).setCell ⟨B, 4, none⟩ e).setCell ⟨B, 5, none⟩ f).heap.size = w.heap.size := by simp
theorem set6_heap {w : World} {B : Nat} {x0 x1 x2 x3 x4 x5 : Value} {t : TypeId} (h : w.heap[B]? = some (.cells #[x0, x1, x2, x3, x4, x5] t)) (a b c d e f : Value) :
    ((((((w.setCell ⟨B, 0, none⟩ a).setCell ⟨B, 1, none⟩ b).setCell ⟨B, 2, none⟩ c).setCell ⟨B, 3, none⟩ d).setCell ⟨B, 4, none⟩ e).setCell ⟨B, 5, none⟩ f).heap[B]? = some (.cells #[a, b, c, d, e, f] t) := by
  have h1 := heap_setCell_same w B 0 _ _ a h
  have h2 := heap_setCell_same _ B 1 _ _ b h1
  have h3 := heap_setCell_same _ B 2 _ _ c h2
  have h4 := heap_setCell_same _ B 3 _ _ d h3
  have h5 := heap_setCell_same _ B 4 _ _ e h4
  have h6 := heap_setCell_same _ B 5 _ _ f h5
  simpa using h6
theorem step_ret {R : Ending → World → Prop} {a : Act} {W : World} {b : Nat} {x0 x1 x2 x3 x4 x5 : Value} {t : TypeId} (ht : a.tmps[8]? = some (.pointer (some ⟨b, 0, none⟩))) (hd : a.defers = []) (hW : W.heap[b]? = some (.cells #[x0, x1, x2, x3, x4, x5] t))
    (hR : R (.returned (.agg #[x0, x1, x2, x3, x4, x5])) W) : bodyPost Tryz.prog Tryz.f83 R .ret a W := by
  have s0 := cell_of_heap hW 0
  have s1 := cell_of_heap hW 1
  have s2 := cell_of_heap hW 2
  have s3 := cell_of_heap hW 3
  have s4 := cell_of_heap hW 4
  have s5 := cell_of_heap hW 5
  simp at s0 s1 s2 s3 s4 s5
  exact bodyPost_ret (v := .agg #[x0, x1, x2, x3, x4, x5]) (by simp [results, Tryz.results83, go_sem, ht, s0, s1, s2, s3, s4, s5]) hd hR
theorem join_ret {R : Ending → World → Prop} {a : Act} {W : World} {b : Nat} {x0 x1 x2 x3 x4 x5 : Value} {t : TypeId} (ht : a.tmps[8]? = some (.pointer (some ⟨b, 0, none⟩))) (hd : a.defers = []) (hW : W.heap[b]? = some (.cells #[x0, x1, x2, x3, x4, x5] t))
    (hR : R (.returned (.agg #[x0, x1, x2, x3, x4, x5])) W) : bodyPost Tryz.prog Tryz.f144 R .ret a W := by
  have s0 := cell_of_heap hW 0
  have s1 := cell_of_heap hW 1
  have s2 := cell_of_heap hW 2
  have s3 := cell_of_heap hW 3
  have s4 := cell_of_heap hW 4
  have s5 := cell_of_heap hW 5
  simp at s0 s1 s2 s3 s4 s5
  exact bodyPost_ret (v := .agg #[x0, x1, x2, x3, x4, x5]) (by simp [results, Tryz.results144, go_sem, ht, s0, s1, s2, s3, s4, s5]) hd hR
theorem firm_strs {w : World} {g : Nat} {l : List Bytes} (h : w.heap[g]? = some (.cells (l.map str).toArray 9)) : Firm (fun W => StrsAt W (some ⟨g, 0, none⟩) l) w :=
  Firm.of_block h (by decide) fun v hv => .inr ⟨g, 0, rfl, lt_of_heap hv, fun i hi => by rw [Nat.zero_add, cell_of_heap hv]; simp [hi]⟩
theorem firm_item {w : World} {x : It} {E : Option Addr} {ec : Nat} (hn : Firm (fun W => NdsAt W E x.expr) w) : Firm (fun W => ItsAt W (some ⟨w.heap.size, 0, none⟩) [x]) (w.alloc (.cells #[str x.name, .int .i64 x.fn, str x.col, .int .i64 x.num, .slice E x.expr.length ec] 61)) := fun W hW => by
  have hh := hW.2 _ _ _ _ (heap_alloc_new w (.cells #[str x.name, .int .i64 x.fn, str x.col, .int .i64 x.num, .slice E x.expr.length ec] 61)) (by decide)
  refine .inr ⟨w.heap.size, 0, rfl, lt_of_heap hh, fun i hi => ?_⟩
  have hi0 : i = 0 := by simpa using hi
  subst hi0
  exact ⟨cell_of_heap hh 0, cell_of_heap hh 1, cell_of_heap hh 2, cell_of_heap hh 3, E, ec, cell_of_heap hh 4, hn W ((KeepsT.of_below ((Below.refl _ _).alloc (Nat.le_refl _) _)).trans hW)⟩
theorem firm_none (w : World) : Firm (fun W => StrsAt W none []) w := fun _ _ => .inl rfl
theorem firm_noIt (w : World) : Firm (fun W => ItsAt W none []) w := fun _ _ => .inl rfl
theorem firm_noNd (w : World) : Firm (fun W => NdsAt W none []) w := fun _ _ => .inl rfl
theorem firm_step {w : World} {s : Stp} {a : Adr} (h1 : Firm (fun W => StrsAt W a.nA s.names) w) (h2 : Firm (fun W => StrsAt W a.oA s.others) w) (h3 : Firm (fun W => ItsAt W a.iA s.items) w) (h4 : Firm (fun W => NdsAt W a.cA s.cond) w) (c1 : s.names.length ≤ a.nC) (c2 : s.others.length ≤ a.oC) (c3 : s.items.length ≤ a.iC) : Firm (fun W => s.At W a) w :=
  fun W hW => ⟨h1 W hW, h2 W hW, h3 W hW, h4 W hW, c1, c2, c3⟩
structure RelG (rs : List Rel) : Prop where
  pos : 0 < rs.length
  le : rs.length ≤ 1000
  cols : ∀ r ∈ rs, ColG r.cols
  names : ∀ r ∈ rs, r.name.length ≤ 100
theorem at_below (A : Option Addr) (l : List Int) (i : Int) (w : World) (c : Nat) (h : IntsAt w A l) :
    Calls Tryz.prog 70 #[.slice A l.length c, .int .i64 i] w fun e w' => e = .returned (.int .i64 (lAt l i)) ∧ Below w.heap.size w w' :=
  (base_At_any A l i w c h).mono fun e w' ⟨h1, n, h2⟩ => ⟨h1, by subst h2; exact below_drewN (Below.refl _ _) n⟩
theorem som_len (cs : List Col) (n : Int) : 0 < (somS cs n).length ∧ (somS cs n).length ≤ 2 := by
  unfold somS; split <;> simp
end Go.Proofs.YtmbeeefkpgfgmaaGreatDoor
namespace Go.Proofs.YtmbeeefkpgfgmaaGreatDoor
open Go.RowKit
def jnA (cs : List Col) (n : Int) (i : Nat) : Col := cs.getD ((n + (i : Int)) % (cs.length : Int)).toNat col0
def jnB (cs rc : List Col) (n : Int) (i : Nat) : Col := rc.getD ((n / 8 + (i : Int) / (cs.length : Int)) % (rc.length : Int)).toNat col0
def kqB (cs rc : List Col) (n : Int) (i : Nat) : Bool := (jnA cs n i).kind == (jnB cs rc n i).kind
def jnN (cs rc : List Col) (n : Int) : List Bytes × List Bytes := match (List.range (cs.length * rc.length)).find? (kqB cs rc n) with
  | some i => ([(jnA cs n i).name], [(jnB cs rc n i).name])
  | none => ([], [])
noncomputable def jnI (op : Int) (cs rc : List Col) (n : Int) : List It := if (op = 4 ∨ op = 5) ∧ 0 < n / 64 % 4 then [⟨freS cs n, 0, namS rc (n / 256), 0, []⟩] else []
noncomputable def jnS (op : Int) (cs : List Col) (r : Rel) (n : Int) : Stp := ⟨op, r.name, (jnN cs r.cols n).1, (jnN cs r.cols n).2, jnI op cs r.cols n, []⟩
theorem jnN_hit {cs rc : List Col} {n : Int} {k : Nat} (hk : k < cs.length * rc.length) (h : kqB cs rc n k = true) (hb : ∀ j, j < k → kqB cs rc n j = false) : jnN cs rc n = ([(jnA cs n k).name], [(jnB cs rc n k).name]) := by
  have e : (List.range (cs.length * rc.length)).find? (kqB cs rc n) = some k := by
    rw [List.find?_range_eq_some]
    exact ⟨h, by simpa using hk, fun j hj => by simp [hb j hj]⟩
  unfold jnN
  rw [e]
theorem jnN_none {cs rc : List Col} {n : Int} (hb : ∀ j, j < cs.length * rc.length → kqB cs rc n j = false) : jnN cs rc n = ([], []) := by
  have e : (List.range (cs.length * rc.length)).find? (kqB cs rc n) = none := by
    rw [List.find?_eq_none]
    intro x hx
    rw [hb x (by simpa using hx)]
    decide
  unfold jnN
  rw [e]
theorem heap3 (w : World) (a b c : Obj) : (((w.alloc a).alloc b).alloc c).heap[w.heap.size]? = some a ∧ (((w.alloc a).alloc b).alloc c).heap[w.heap.size + 1]? = some b ∧ (((w.alloc a).alloc b).alloc c).heap[w.heap.size + 1 + 1]? = some c := by
  have h : ∀ (W W' : World) (o : Obj) (k : Nat), k = W.heap.size → Below (k + 1) (W.alloc o) W' → W'.heap[k]? = some o := fun W W' o k e hb => by subst e; exact heap_of_below hb (Nat.lt_succ_self _)
  refine ⟨h w _ _ _ rfl ?_, h (w.alloc a) _ _ _ (by simp) ?_, h ((w.alloc a).alloc b) _ _ _ (by simp) (Below.refl _ _)⟩
  · exact ((Below.refl _ _).alloc (by simp) _).alloc (by simp) _
  · exact (Below.refl _ _).alloc (by simp) _
theorem quo_len (k n : Nat) (h : 0 < n) : Int.tdiv (k : Int) (n : Int) = (k : Int) / (n : Int) := Int.tdiv_eq_ediv_of_nonneg (by omega)
end Go.Proofs.YtmbeeefkpgfgmaaGreatDoor
