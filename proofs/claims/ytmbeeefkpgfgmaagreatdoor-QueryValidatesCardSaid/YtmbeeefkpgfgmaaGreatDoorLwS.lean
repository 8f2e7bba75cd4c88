/- Contract: law11.spoilt. -/
import Derived.Test.YtmbeeefkpgfgmaaGreatDoorPq32
import Derived.Test.YtmbeeefkpgfgmaaGreatDoorPq18
import Derived.Test.YtmbeeefkpgfgmaaGreatDoorPv01
import Derived.Test.YtmbeeefkpgfgmaaGreatDoorPq20
import Derived.Test.YtmbeeefkpgfgmaaGreatDoorPq07
import Derived.Laws.AppendOwnNone
import Derived.Deep.Cut
import Derived.Deep.RegionHeld3
import Derived.Deep.RegionLawGrows
import Derived.RegionTactic
import Derived.ChangeAlike
import Derived.BigRegion
set_option linter.unusedVariables false
set_option linter.unusedSimpArgs false
namespace Go.Proofs.YtmbeeefkpgfgmaaGreatDoor
open Go.RowKit
theorem steps_at {W : World} {base c : Nat} {A : Option Addr} {ss : List Stp} {az : List Adr} (hl : az.length = ss.length) (ho : W.ownsRow base 27 6 (.slice A ss.length c) ss.length (stCells ss az))
    (hf : ∀ i (h : i < ss.length) (h' : i < az.length), ss[i].At W az[i]) : StpsAt W A ss := by
  rcases ho.2 with ⟨_, hn⟩ | ⟨g, cap, cur, hv, hg, hh, hnc, hcap, hsz, htk⟩
  · exact .inl (List.eq_nil_of_length_eq_zero hn)
  · injection hv with h1 h2 h3
    subst h1
    refine .inr ⟨g, 0, rfl, lt_of_heap hh, fun i hi => ?_⟩
    have hi' : i < az.length := by omega
    have hc : ∀ j, j < 6 → W.cell? ⟨g, 0 + i * 6 + j, none⟩ = (ss[i].cells az[i])[j]? := fun j hj => by
      rw [← stCells_at ss az i hi hi' j hj, Nat.zero_add]
      exact World.ownsRow.cellAt ho (i * 6 + j) (by omega)
    exact ⟨az[i], hf i hi hi', hc 0 (by omega), hc 1 (by omega), hc 2 (by omega), hc 3 (by omega), hc 4 (by omega), hc 5 (by omega)⟩
/-- A row of steps of its own in W, whose slices were there in w. -/
structure SpRow (w W : World) (g c : Nat) (ss : List Stp) (az : List Adr) : Prop where
  len : az.length = ss.length
  own : W.ownsRow w.heap.size 27 6 (.slice (some ⟨g, 0, none⟩) ss.length c) ss.length (stCells ss az)
  at' : ∀ i (h : i < ss.length) (h' : i < az.length), ss[i].At w az[i]
  b : Below w.heap.size w W
  pos : 0 < ss.length
theorem SpRow.lo {w W : World} {g c : Nat} {ss : List Stp} {az : List Adr} (h : SpRow w W g c ss az) : w.heap.size ≤ g ∧ g < W.heap.size := h.own.lt g rfl
theorem SpRow.more {w W W' : World} {g c : Nat} {ss : List Stp} {az : List Adr} (h : SpRow w W g c ss az) (hb : Below W.heap.size W W') : SpRow w W' g c ss az :=
  ⟨h.len, own_below h.own hb, h.at', bel2 hb h.b, h.pos⟩
theorem SpRow.cell {w W : World} {g c : Nat} {ss : List Stp} {az : List Adr} (h : SpRow w W g c ss az) {m : Nat} (hm : m < ss.length) (j : Nat) (hj : j < 6) : W.cell? ⟨g, m * 6 + j, none⟩ = (ss[m].cells (az[m]'(by have := h.len; omega)))[j]? := by
  rw [← stCells_at ss az m hm (by have := h.len; omega) j hj]
  exact World.ownsRow.cellAt h.own (m * 6 + j) (by omega)
theorem SpRow.free {w W : World} {g c : Nat} {ss : List Stp} {az : List Adr} (h : SpRow w W g c ss az) (j : Nat) : W.frozen? ⟨g, j, none⟩ = false := h.own.frozenAt j
theorem SpRow.set {w W : World} {g c m f : Nat} {ss : List Stp} {az : List Adr} {u : Value} {s' : Stp} (h : SpRow w W g c ss az) (hm : m < ss.length) (hf : f < 6) (a' : Adr)
    (he : (ss[m].cells (az[m]'(by have := h.len; omega))).set f u = s'.cells a') (hs : ss[m].At w (az[m]'(by have := h.len; omega)) → s'.At (W.setCell ⟨g, m * 6 + f, none⟩ u) a') :
    StpsAt (W.setCell ⟨g, m * 6 + f, none⟩ u) (some ⟨g, 0, none⟩) (ss.set m s') ∧ Below w.heap.size w (W.setCell ⟨g, m * 6 + f, none⟩ u) := by
  obtain ⟨hl, ho, hz, hb, hp⟩ := h
  have hm' : m < az.length := by omega
  obtain ⟨o2, hg⟩ := World.ownsRow.stored ho (m * 6 + f) u
  have hb2 : Below w.heap.size w (W.setCell ⟨g, m * 6 + f, none⟩ u) := hb.setCell (ho.lt g rfl).1 _
  rw [stCells_set ss az m hm hm' f u s' a' hf he] at o2
  refine ⟨steps_at (az := az.set m a') (c := c) (base := w.heap.size) (by simp [hl]) (by simpa using o2) (fun i h h' => ?_), hb2⟩
  have h1 : i < ss.length := by simpa using h
  have h2 : i < az.length := by simpa using h'
  by_cases hi : i = m
  · subst hi
    have e1 : (ss.set i s')[i] = s' := by simp
    have e2 : (az.set i a')[i]'h' = a' := by simp
    rw [e1, e2]
    exact hs (hz i h1 h2)
  · have e1 : (ss.set m s')[i] = ss[i] := by rw [List.getElem_set, if_neg (Ne.symm hi)]
    have e2 : (az.set m a')[i]'h' = az[i] := by rw [List.getElem_set, if_neg (Ne.symm hi)]
    rw [e1, e2]
    exact (hz i h1 h2).below hb2
theorem StsOk.set {ss : List Stp} {m : Nat} {s' : Stp} (h : StsOk ss) (hs : s'.ok) : StsOk (ss.set m s') := fun s hm => by
  rcases List.mem_or_eq_of_mem_set hm with h9 | h9
  · exact h s h9
  · subst h9; exact hs
theorem strs_blk {w : World} {g : Nat} {l : List Bytes} (h : w.heap[g]? = some (.cells (l.map str).toArray 9)) : StrsAt w (some ⟨g, 0, none⟩) l := (firm_strs h).now
/-- What law11.spoilt gives: some steps that lie in memory. -/
def SpoiltR (w w' : World) (e : Ending) : Prop := ∃ (xs : List Stp) (A : Option Addr) (c : Nat), xs.length ≤ 61 ∧ StsOk xs ∧ e = .returned (.slice A xs.length c) ∧ StpsAt w' A xs
theorem SpoiltR.set {w W : World} {g c m f : Nat} {ss : List Stp} {az : List Adr} {u : Value} {e : Ending} (s' : Stp) (a' : Adr) (h : SpRow w W g c ss az) (hl : ss.length ≤ 60) (ho : StsOk ss) (hm : m < ss.length) (hf : f < 6) (hk : ss[m].ok → s'.ok)
    (he : (ss[m].cells (az[m]'(by have := h.len; omega))).set f u = s'.cells a') (hs : ss[m].At w (az[m]'(by have := h.len; omega)) → s'.At (W.setCell ⟨g, m * 6 + f, none⟩ u) a') (hr : e = .returned (.slice (some ⟨g, 0, none⟩) ss.length c)) :
    SpoiltR w (W.setCell ⟨g, m * 6 + f, none⟩ u) e ∧ Below w.heap.size w (W.setCell ⟨g, m * 6 + f, none⟩ u) := by
  obtain ⟨h1, h2⟩ := h.set hm hf a' he hs
  exact ⟨⟨ss.set m s', some ⟨g, 0, none⟩, c, by simp; omega, ho.set (hk (ho _ (List.getElem_mem hm))), by rw [List.length_set]; exact hr, h1⟩, h2⟩
theorem SpRow.push {w W w3 : World} {g c : Nat} {ss : List Stp} {az : List Adr} {v3 : Value} {e : Ending} (h : SpRow w W g c ss az) (hl : ss.length ≤ 60) (ho : StsOk ss) (ha0 : 0 < az.length)
    (o3 : w3.ownsRow w.heap.size 27 6 v3 (ss.length + 1) (stCells ss az ++ (ss[0]'h.pos).cells az[0])) (hb : Below w.heap.size w w3) (he : e = .returned v3) : SpoiltR w w3 e := by
  obtain ⟨A3, c3, rfl⟩ := own_form o3
  have hl2 : (ss ++ [ss[0]'h.pos]).length = ss.length + 1 := by simp
  refine ⟨ss ++ [ss[0]'h.pos], A3, c3, by omega, fun s hs => ?_, by rw [hl2]; exact he, ?_⟩
  · rcases List.mem_append.1 hs with hs | hs
    · exact ho s hs
    · rw [List.mem_singleton] at hs; subst hs; exact ho _ (List.getElem_mem h.pos)
  · refine steps_at (base := w.heap.size) (c := c3) (az := az ++ [az[0]]) (by simp [h.len]) (by rw [stCells_push ss az _ _ h.len, hl2]; exact o3) (fun i hi hi' => ?_)
    by_cases hlt : i < ss.length
    · have e1 : (ss ++ [ss[0]'h.pos])[i] = ss[i] := List.getElem_append_left hlt
      have e2 : (az ++ [az[0]])[i] = az[i]'(by have := h.len; omega) := List.getElem_append_left (by have := h.len; omega)
      rw [e1, e2]
      exact (h.at' i hlt _).below hb
    · have hi2 : i = ss.length := by omega
      subst hi2
      have e1 : (ss ++ [ss[0]'h.pos])[ss.length] = ss[0]'h.pos := by simp
      have e2 : (az ++ [az[0]])[ss.length]'hi' = az[0] := by simp [← h.len]
      rw [e1, e2]
      exact (h.at' 0 h.pos ha0).below hb
theorem SpRow.read {w W : World} {g c : Nat} {ss : List Stp} {az : List Adr} (h : SpRow w W g c ss az) : StpsAt W (some ⟨g, 0, none⟩) ss :=
  steps_at h.len h.own (fun i hi hi' => (h.at' i hi hi').below h.b)
theorem SpRow.tail {w W : World} {g c c2 : Nat} {A2 : Option Addr} {ss : List Stp} {az : List Adr} {e : Ending} (h : SpRow w W g c ss az) (hl : ss.length ≤ 60) (ho : StsOk ss) (hA : A2 = some ⟨g, 6, none⟩ ∨ ss.length - 1 = 0) (he : e = .returned (.slice A2 (ss.length - 1) c2)) : SpoiltR w W e := by
  refine ⟨ss.tail, A2, c2, by simp; omega, fun s hs => ho s (List.mem_of_mem_tail hs), by rw [List.length_tail]; exact he, ?_⟩
  rcases hA with rfl | hz
  rotate_left
  · exact .inl (List.eq_nil_of_length_eq_zero (by rw [List.length_tail]; exact hz))
  rcases h.read with e1 | ⟨g', off, e1, hg, hc⟩
  · exact absurd h.pos (by rw [e1]; simp)
  · injection e1 with e1
    injection e1 with e1 e2
    subst e1 e2
    refine .inr ⟨g, 6, rfl, hg, fun i hi => ?_⟩
    have hi1 : i + 1 < ss.length := by simp at hi; omega
    have e3 : ss.tail[i] = ss[i + 1] := by simp
    have k := hc (i + 1) hi1
    rw [e3]
    rw [show 0 + (i + 1) * 6 = 6 + i * 6 by omega] at k
    exact k
theorem SpRow.same {w W : World} {g c : Nat} {ss : List Stp} {az : List Adr} {e : Ending} (h : SpRow w W g c ss az) (hl : ss.length ≤ 60) (ho : StsOk ss) (he : e = .returned (.slice (some ⟨g, 0, none⟩) ss.length c)) : SpoiltR w W e :=
  ⟨ss, some ⟨g, 0, none⟩, c, by omega, ho, he, h.read⟩
theorem stp_one (s : Stp) (a : Adr) : ∀ u ∈ s.cells a, u.oneCell' = true := fun u h => by
  simp only [Stp.cells, List.mem_cons, List.not_mem_nil, or_false] at h
  rcases h with rfl | rfl | rfl | rfl | rfl | rfl <;> simp [Value.oneCell']
/-- The cells of a row of items. -/
def itCells : List It → List (Option Addr × Nat) → List Value
  | x :: xs, e :: es => [str x.name, .int .i64 x.fn, str x.col, .int .i64 x.num, .slice e.1 x.expr.length e.2] ++ itCells xs es
  | _, _ => []
theorem itCells_len : ∀ (xs : List It) (es : List (Option Addr × Nat)), es.length = xs.length → (itCells xs es).length = xs.length * 5
  | [], _, _ => rfl
  | x :: xs, [], h => by simp at h
  | x :: xs, e :: es, h => by
    show ([_, _, _, _, _] ++ itCells xs es).length = _
    rw [List.length_append, itCells_len xs es (by simpa using h), List.length_cons]
    simp
    omega
theorem itCells_one : ∀ (xs : List It) (es : List (Option Addr × Nat)), ∀ u ∈ itCells xs es, u.oneCell' = true
  | [], _, u, h => absurd h (by simp [itCells])
  | _ :: _, [], u, h => absurd h (by simp [itCells])
  | x :: xs, e :: es, u, h => by
    rcases List.mem_append.1 (show u ∈ [str x.name, .int .i64 x.fn, str x.col, .int .i64 x.num, .slice e.1 x.expr.length e.2] ++ itCells xs es from h) with h | h
    · simp only [List.mem_cons, List.not_mem_nil, or_false] at h
      rcases h with rfl | rfl | rfl | rfl | rfl <;> simp [Value.oneCell']
    · exact itCells_one xs es u h
theorem itCells_at : ∀ (xs : List It) (es : List (Option Addr × Nat)) (i : Nat) (h : i < xs.length) (h' : i < es.length) (j : Nat), j < 5 →
    (itCells xs es)[i * 5 + j]? = [str xs[i].name, Value.int .i64 xs[i].fn, str xs[i].col, Value.int .i64 xs[i].num, Value.slice es[i].1 xs[i].expr.length es[i].2][j]?
  | [], _, i, h, _, _, _ => absurd h (by simp)
  | _ :: _, [], i, _, h', _, _ => absurd h' (by simp)
  | x :: xs, e :: es, 0, h, h', j, hj => by
    rw [Nat.zero_mul, Nat.zero_add]
    show ([_, _, _, _, _] ++ itCells xs es)[j]? = _
    rw [List.getElem?_append_left (by simpa using hj)]
    rfl
  | x :: xs, e :: es, i + 1, h, h', j, hj => by
    show ([_, _, _, _, _] ++ itCells xs es)[(i + 1) * 5 + j]? = _
    rw [List.getElem?_append_right (by simp; omega), show (i + 1) * 5 + j - [str x.name, Value.int .i64 x.fn, str x.col, Value.int .i64 x.num, Value.slice e.1 x.expr.length e.2].length = i * 5 + j by simp; omega]
    exact itCells_at xs es i (by simpa using h) (by simpa using h') j hj
theorem itCells_push : ∀ (xs : List It) (es : List (Option Addr × Nat)) (x : It) (e : Option Addr × Nat), es.length = xs.length → itCells (xs ++ [x]) (es ++ [e]) = itCells xs es ++ [str x.name, .int .i64 x.fn, str x.col, .int .i64 x.num, .slice e.1 x.expr.length e.2]
  | [], [], x, e, _ => by simp [itCells]
  | [], _ :: _, _, _, h => by simp at h
  | _ :: _, [], _, _, h => by simp at h
  | y :: xs, d :: es, x, e, h => by
    show [_, _, _, _, _] ++ itCells (xs ++ [x]) (es ++ [e]) = [_, _, _, _, _] ++ itCells xs es ++ _
    rw [itCells_push xs es x e (by simpa using h), List.append_assoc]
theorem its_at {W : World} {base c : Nat} {B : Option Addr} {xs : List It} {es : List (Option Addr × Nat)} (hl : es.length = xs.length) (ho : W.ownsRow base 61 5 (.slice B xs.length c) xs.length (itCells xs es))
    (hn : ∀ i (h : i < xs.length) (h' : i < es.length), NdsAt W es[i].1 xs[i].expr) : ItsAt W B xs := by
  rcases ho.2 with ⟨_, hn⟩ | ⟨g, cap, cur, hv, hg, hh, hnc, hcap, hsz, htk⟩
  · exact .inl (List.eq_nil_of_length_eq_zero hn)
  · injection hv with h1 h2 h3
    subst h1
    refine .inr ⟨g, 0, rfl, lt_of_heap hh, fun i hi => ?_⟩
    have hi' : i < es.length := by omega
    have hc : ∀ j, j < 5 → W.cell? ⟨g, 0 + i * 5 + j, none⟩ = [str xs[i].name, Value.int .i64 xs[i].fn, str xs[i].col, Value.int .i64 xs[i].num, Value.slice es[i].1 xs[i].expr.length es[i].2][j]? := fun j hj => by
      rw [← itCells_at xs es i hi hi' j hj, Nat.zero_add]
      exact World.ownsRow.cellAt ho (i * 5 + j) (by omega)
    exact ⟨hc 0 (by omega), hc 1 (by omega), hc 2 (by omega), hc 3 (by omega), es[i].1, es[i].2, hc 4 (by omega), hn i hi hi'⟩
/-- The items of a step, with the places of their expressions. -/
theorem its_pick {w : World} {A : Option Addr} {xs : List It} (h : ItsAt w A xs) : ∃ es : List (Option Addr × Nat), es.length = xs.length ∧ (∀ i (h : i < xs.length) (h' : i < es.length), NdsAt w es[i].1 xs[i].expr) ∧
    (xs = [] ∨ ∃ g off, A = some ⟨g, off, none⟩ ∧ g < w.heap.size ∧ ∀ j u, (itCells xs es)[j]? = some u → w.cell? ⟨g, off + j, none⟩ = some u) := by
  rcases h with rfl | ⟨g, off, hA, hg, hc⟩
  · exact ⟨[], rfl, fun i h => absurd h (by simp), .inl rfl⟩
  · have one : ∀ i : Nat, ∃ p : Option Addr × Nat, ∀ h : i < xs.length, w.cell? ⟨g, off + i * 5 + 4, none⟩ = some (.slice p.1 xs[i].expr.length p.2) ∧ NdsAt w p.1 xs[i].expr := fun i => by
      by_cases h : i < xs.length
      · obtain ⟨_, _, _, _, E, c, h4, hn⟩ := hc i h
        exact ⟨(E, c), fun _ => ⟨h4, hn⟩⟩
      · exact ⟨(none, 0), fun h' => absurd h' h⟩
    obtain ⟨f, hf⟩ := Classical.axiomOfChoice one
    refine ⟨(List.range xs.length).map f, by simp, fun i hi hi' => ?_, .inr ⟨g, off, hA, hg, fun j u hu => ?_⟩⟩
    · simp only [List.getElem_map, List.getElem_range]
      exact (hf i hi).2
    · have hl : ((List.range xs.length).map f).length = xs.length := by simp
      have hj : j < xs.length * 5 := by
        rcases Nat.lt_or_ge j (itCells xs ((List.range xs.length).map f)).length with h | h
        · rwa [itCells_len xs _ hl] at h
        · rw [List.getElem?_eq_none h] at hu; cases hu
      have hi : j / 5 < xs.length := by omega
      obtain ⟨h0, h1, h2, h3, _⟩ := hc (j / 5) hi
      have h4 := (hf (j / 5) hi).1
      have ej : j = j / 5 * 5 + j % 5 := by omega
      have hq := itCells_at xs ((List.range xs.length).map f) (j / 5) hi (by simpa using hi) (j % 5) (by omega)
      rw [← ej, hu] at hq
      simp only [List.getElem_map, List.getElem_range] at hq
      rw [show off + j = off + j / 5 * 5 + j % 5 by omega]
      have h5 : j % 5 = 0 ∨ j % 5 = 1 ∨ j % 5 = 2 ∨ j % 5 = 3 ∨ j % 5 = 4 := by omega
      rcases h5 with e | e | e | e | e <;> rw [e] at hq ⊢ <;> simp only [List.getElem?_cons_succ, List.getElem?_cons_zero, Option.some.injEq] at hq <;> subst hq
      · exact h0
      · exact h1
      · exact h2
      · exact h3
      · exact h4
theorem Tryz.info_item9 : (Tryz.prog.info? 61).map (fun i => (i.zero, i.size, i.bytes)) = some (some (.agg #[.string ⟨#[]⟩, .int .i64 0, .string ⟨#[]⟩, .int .i64 0, .slice none 0 0]), 5, 72) := by kernel_rfl
theorem spo_src : ∀ m : Nat, m < 5 → ∃ x : Bytes, [Value.string ⟨#[]⟩, Value.string ⟨#[115, 101, 108, 102]⟩, Value.string ⟨#[98, 121]⟩, Value.string ⟨#[97, 46, 98]⟩, Value.string ⟨#[65]⟩][m]? = some (str x) ∧ x.length ≤ 9
  | 0, _ => ⟨[], rfl, by decide⟩
  | 1, _ => ⟨[115, 101, 108, 102], rfl, by decide⟩
  | 2, _ => ⟨[98, 121], rfl, by decide⟩
  | 3, _ => ⟨[97, 46, 98], rfl, by decide⟩
  | 4, _ => ⟨[65], rfl, by decide⟩
  | m + 5, h => absurd h (by omega)
theorem spo_nm : ∀ m : Nat, m < 3 → ∃ x : Bytes, [Value.string ⟨#[97]⟩, Value.string ⟨#[122]⟩, Value.string ⟨#[98, 121]⟩][m]? = some (str x) ∧ x.length ≤ 9
  | 0, _ => ⟨[97], rfl, by decide⟩
  | 1, _ => ⟨[122], rfl, by decide⟩
  | 2, _ => ⟨[98, 121], rfl, by decide⟩
  | m + 3, h => absurd h (by omega)
theorem spo_co : ∀ m : Nat, m < 2 → ∃ x : Bytes, [Value.string ⟨#[]⟩, Value.string ⟨#[97]⟩][m]? = some (str x) ∧ x.length ≤ 9
  | 0, _ => ⟨[], rfl, by decide⟩
  | 1, _ => ⟨[97], rfl, by decide⟩
  | m + 2, h => absurd h (by omega)
def spoN : List Bytes := [[97], [98], [97], [98, 121]]
def spoO : List Bytes := [[120], [121], [120, 46, 121]]
theorem spo_arr {w0 : World} {g j k : Nat} {u : Value} {l : List Bytes} (hg : g < w0.heap.size) : StrsAt ((w0.alloc (.cells (l.map str).toArray 9)).setCell ⟨g, j, none⟩ u) (some ⟨w0.heap.size, 0, none⟩) (l.take k) := by
  refine strs_take2 (by simp) (fun i hi => ?_) k
  rw [World.cell?_setCell_other _ _ _ _ (by first | (simp; done) | (simp; omega))]
  have e := cell_of_heap (heap_alloc_new w0 (.cells (l.map str).toArray 9)) (0 + i)
  rw [e]
  simp [hi]
theorem sp_start {w w0 : World} {ss : List Stp} {az : List Adr} {v0 : Value} (hp : 0 < ss.length) (hlz : az.length = ss.length) (hAt : ∀ i (h : i < ss.length) (h' : i < az.length), ss[i].At w az[i])
    (h : w0.ownsRow w.heap.size 27 6 v0 (0 + ss.length) ([] ++ stCells ss az)) (hg : w.grownBy w0 (Value.slice none 0 0).ownBlock) : ∃ g c, v0 = .slice (some ⟨g, 0, none⟩) ss.length c ∧ SpRow w w0 g c ss az := by
  rw [Nat.zero_add, List.nil_append] at h
  obtain ⟨A, c, rfl⟩ := own_form h
  have hb : Below w.heap.size w w0 := (Below.refl _ w).grown hg (Nat.le_refl _) (fun k hk => by cases hk)
  rcases h.2 with ⟨_, hn⟩ | ⟨g, cap, cur, hv, _⟩
  · omega
  · injection hv with h1 h2 h3
    subst h1
    exact ⟨g, c, rfl, hlz, h, hAt, hb, hp⟩
def It.mod (x : It) (a b : Int) : It := ⟨x.name, b, x.col, a, x.expr⟩
theorem itCells_mod {xs : List It} {es : List (Option Addr × Nat)} (hp : 0 < xs.length) (hl : es.length = xs.length) (a b : Int) : ((itCells xs es).set 3 (.int .i64 a)).set 1 (.int .i64 b) = itCells (xs.set 0 (xs[0].mod a b)) es := by
  match xs, es, hp, hl with
  | x :: xs, e :: es, _, _ => rfl
theorem SpRow.items {w W : World} {g c m c4 b : Nat} {ss : List Stp} {az : List Adr} {B : Option Addr} {its' : List It} {es' : List (Option Addr × Nat)} {e : Ending} (h : SpRow w W g c ss az) (hl : ss.length ≤ 60) (ho : StsOk ss) (hm : m < ss.length)
    (o : W.ownsRow b 61 5 (.slice B its'.length c4) its'.length (itCells its' es')) (hb : g < b) (hle : es'.length = its'.length) (hn : ∀ i (h : i < its'.length) (h' : i < es'.length), NdsAt w es'[i].1 its'[i].expr)
    (hk : its'.length ≤ 1000000) (hk2 : ∀ x ∈ its', x.ok) (he : e = .returned (.slice (some ⟨g, 0, none⟩) ss.length c)) : SpoiltR w (W.setCell ⟨g, m * 6 + 4, none⟩ (.slice B its'.length c4)) e ∧ Below w.heap.size w (W.setCell ⟨g, m * 6 + 4, none⟩ (.slice B its'.length c4)) := by
  have hb2 : Below w.heap.size w (W.setCell ⟨g, m * 6 + 4, none⟩ (.slice B its'.length c4)) := h.b.setCell h.lo.1 _
  refine SpoiltR.set { ss[m] with items := its' } { (az[m]'(by have := h.len; omega)) with iA := B, iC := c4 } h hl ho hm (by omega) (fun k => ⟨k.src, k.names, k.others, hk, hk2, k.cond, k.condN⟩) rfl (fun k => ⟨k.names.below hb2, k.others.below hb2, ?_, k.cond.below hb2, k.cn, k.co, (own_cap o).1⟩) he
  have o2 := o.kept (World.ownsRow.stored h.own (m * 6 + 4) (.slice B its'.length c4)).2 (by
    by_cases hz : (Value.slice B its'.length c4).ownBlock = none
    · exact .inl hz
    · refine .inr fun e9 => ?_
      have h9 := (o.lt g e9).1
      omega)
  exact its_at hle o2 (fun i hi hi' => (hn i hi hi').below hb2)
theorem cells_5 {W : World} {B : Nat} {a b c d e : Value} {t : TypeId} (h : W.heap[B]? = some (.cells #[a, b, c, d, e] t)) : ∀ (j : Nat) (u : Value), [a, b, c, d, e][j]? = some u → W.cell? ((⟨B, 0, none⟩ : Addr).add j) = some u := by
  intro j u hu
  rw [nd_addr0, Nat.zero_add, cell_of_heap h j]
  simpa using hu
theorem its_raw {ss : List Stp} (hS : StsOk ss) {m : Nat} (hm : m < ss.length) : ss[m].items.length ≤ 1000000 := (hS _ (List.getElem_mem hm)).items
theorem wpAnyH_more {P : Program} {ops : Array Oper} {Q : Exit → Act → World → Prop} {md : Region.Mode} {S S' : World → Prop} (hSS : ∀ w, S' w → S w) : ∀ (fuel : Nat) (listed : Array Bool) (a : Act) (w : World), wpAnyH P md ops Q S' fuel listed a w → wpAnyH P md ops Q S fuel listed a w
  | 0, _, _, _, h => h
  | n + 1, _, _, _, h => ⟨h.1, fun i hi => wpOp_mono (fun a w hh => ⟨hSS _ hh.1, wpAnyH_more hSS n _ _ _ hh.2⟩) (h.2 i hi)⟩
/-- What lives while the parts of an append of one item are made in whatever order. -/
structure Sp5 (w W0 V : World) (g c : Nat) (ss : List Stp) (az : List Adr) (its : List It) (es : List (Option Addr × Nat)) (x : It) (i5 : Option Value) (i19 : Option Nat) : Prop where
  hr : SpRow w V g c ss az
  b0 : Below W0.heap.size W0 V
  h5 : ∀ v, i5 = some v → V.ownsRow W0.heap.size 61 5 v its.length (itCells its es)
  h19 : ∀ b, i19 = some b → V.heap[b]? = some (.cells #[str x.name, .int .i64 x.fn, str x.col, .int .i64 x.num, .slice none 0 0] 61)
theorem Sp5.more {w W0 V : World} {g c : Nat} {ss : List Stp} {az : List Adr} {its : List It} {es : List (Option Addr × Nat)} {x : It} {i5 : Option Value} {i19 : Option Nat} (h : Sp5 w W0 V g c ss az its es x i5 i19) (o : Obj) : Sp5 w W0 (V.alloc o) g c ss az its es x i5 i19 :=
  have hb : Below V.heap.size V (V.alloc o) := (Below.refl _ _).alloc (Nat.le_refl _) o
  ⟨h.hr.more hb, h.b0.alloc h.b0.size o, fun v e => own_below (h.h5 v e) hb, fun b e => alloc_old (h.h19 b e)⟩
theorem Sp5.item {w W0 V : World} {g c : Nat} {ss : List Stp} {az : List Adr} {its : List It} {es : List (Option Addr × Nat)} {x1 y1 : Bytes} {k : Int} {i5 : Option Value} (h : Sp5 w W0 V g c ss az its es ⟨x1, k, y1, 0, []⟩ i5 none) : Sp5 w W0 (V.alloc (.cells #[str x1, .int .i64 k, str y1, .int .i64 0, .slice none 0 0] 61)) g c ss az its es ⟨x1, k, y1, 0, []⟩ i5 (some V.heap.size) :=
  { h.more _ with h19 := fun b e => by injection e with e; subst e; exact heap_alloc_new _ _ }
theorem Sp5.row {w W0 V V' : World} {g c : Nat} {ss : List Stp} {az : List Adr} {its : List It} {es : List (Option Addr × Nat)} {x : It} {i19 : Option Nat} {v : Value} {n : Nat} {l : List Value} (h : Sp5 w W0 V g c ss az its es x none i19) (ho : V'.ownsRow W0.heap.size 61 5 v (0 + n) ([] ++ l)) (hn : n = its.length) (hl : l = itCells its es) (hg : V.grownBy V' (Value.slice none 0 0).ownBlock) : Sp5 w W0 V' g c ss az its es x (some v) i19 := by
  subst hn hl
  rw [Nat.zero_add, List.nil_append] at ho
  have hb : Below V.heap.size V V' := (Below.refl _ V).grown hg (Nat.le_refl _) (fun k hk => by cases hk)
  exact ⟨h.hr.more hb, bel2 hb h.b0, fun v e => by injection e with e; subst e; exact ho, fun b e => (hb.block _ (lt_of_heap (h.h19 b e))).trans (h.h19 b e)⟩
theorem Sp5.none' {v5 : Value} {w W0 V : World} {g c : Nat} {ss : List Stp} {az : List Adr} {its : List It} {es : List (Option Addr × Nat)} {x : It} {i19 : Option Nat} (h : Sp5 w W0 V g c ss az its es x none i19) (hn : its = []) (hv : v5 = .slice none 0 0) : Sp5 w W0 V g c ss az its es x (some v5) i19 := by
  subst hn hv
  exact { h with h5 := fun v e => by injection e with e; subst e; exact own_nil _ _ _ _ }
theorem step_own {P : Program} {ops : Array Oper} {o : Oper} {a : Act} {w : World} {K : Act → World → Prop} {Q : Exit → Act → World → Prop} {E : Prop} (hgd : o.guard = none) (s x : Operand) (t : TypeId)
    (ho : o.op = .call { callee := .builtin .append, args := #[s, x], argTypes := #[t, t] })
    (base : Nat) (e : TypeId) (i : TypeInfo) (z : Value) (size bytes : Nat) (ht : P.underlying t = some (.slice e)) (hi : P.info? e = some i) (hz : i.zero = some z)
    (hsize : i.size = size) (hby : i.bytes = bytes) (hzs : z.cells.size = size) (hsz : 0 < size)
    (v : Value) (n : Nat) (xs : List Value) (hs : a.eval s = v) (hown : w.ownsRow base e size v n xs)
    (ad : Addr) (m c : Nat) (news : List Value) (hx : a.eval x = .slice (some ad) m c) (hl : news.length = m * size) (hnews : ∀ j u, news[j]? = some u → w.cell? (ad.add j) = some u) (h1 : ∀ u ∈ news, u.oneCell' = true)
    (h63 : n + m ≤ maxLen) (hbytes : (n + m) * bytes ≤ 140737488355328) (hbase : base ≤ w.heap.size)
    (h : ∀ v' w', w'.ownsRow base e size v' (n + m) (xs ++ news) → w.grownBy w' v.ownBlock → K (a.put o.dst v') w') :
    if Region.wanted o (yielded ops a.tmps) = true then Oper.wp P o a w K Q else E := by
  have hw : Region.wanted o (yielded ops a.tmps) = true := by simp [Region.wanted, hgd]
  rw [if_pos hw]
  exact wp_append_own w s x t ho base e i z size bytes ht hi hz hsize hby hzs hsz v n xs hs hown ad m c news hx hl hnews h1 h63 hbytes hbase fun v' w' h2 h3 _ => h v' w' h2 h3
theorem cutK1 {R : Prop} {F G : World → Prop} (main : (∀ x, F x → G x) → R) (rest : ∀ x, F x → G x) : R := main rest
theorem cutK2 {R : Prop} {F G : World → Nat → Prop} (main : (∀ x y, F x y → G x y) → R) (rest : ∀ x y, F x y → G x y) : R := main rest
theorem cutK3 {R : Prop} {F G : World → Nat → Nat → Prop} (main : (∀ x y z, F x y z → G x y z) → R) (rest : ∀ x y z, F x y z → G x y z) : R := main rest
theorem cutK4 {R : Prop} {F G : World → Nat → Nat → Nat → Prop} (main : (∀ x y z u, F x y z u → G x y z u) → R) (rest : ∀ x y z u, F x y z u → G x y z u) : R := main rest
theorem cutK25 {R : Prop} {F G : World → Value → Prop} (main : (∀ x v, F x v → G x v) → R) (rest : ∀ x v, F x v → G x v) : R := main rest
theorem cutK35 {R : Prop} {F G : World → Value → Nat → Prop} (main : (∀ x v y, F x v y → G x v y) → R) (rest : ∀ x v y, F x v y → G x v y) : R := main rest
theorem cutK45 {R : Prop} {F G : World → Value → Nat → Nat → Prop} (main : (∀ x v y z, F x v y z → G x v y z) → R) (rest : ∀ x v y z, F x v y z → G x v y z) : R := main rest
theorem cutK55 {R : Prop} {F G : World → Value → Nat → Nat → Nat → Prop} (main : (∀ x v y z u, F x v y z u → G x v y z u) → R) (rest : ∀ x v y z u, F x v y z u → G x v y z u) : R := main rest
theorem step_nil {P : Program} {ops : Array Oper} {o : Oper} {a : Act} {w : World} {K : Act → World → Prop} {Q : Exit → Act → World → Prop} {E : Prop} (hgd : o.guard = none) (s x : Operand) (t : TypeId)
    (ho : o.op = .call { callee := .builtin .append, args := #[s, x], argTypes := #[t, t] })
    (e : TypeId) (i : TypeInfo) (ht : P.underlying t = some (.slice e)) (hi : P.info? e = some i) (hs : a.eval s = .slice none 0 0) {B : Option Addr} {c : Nat} (hx : a.eval x = .slice B 0 c)
    (h9 : ∀ v', v' = .slice none 0 0 → K (a.put o.dst v') w) : if Region.wanted o (yielded ops a.tmps) = true then Oper.wp P o a w K Q else E := by
  have hw : Region.wanted o (yielded ops a.tmps) = true := by simp [Region.wanted, hgd]
  rw [if_pos hw]
  have h := h9 _ rfl
  have hrun : (Builtin.append_ #[t, t] o.type #[.slice none 0 0, .slice B 0 c]).run P w = .ok (.slice none 0 0) w := by
    cases B <;> simp [Builtin.append_, run_underlying ht, sizeOf, typeInfo, hi, Builtin.lenOf, Builtin.firstCells, loadCells, loadCellsFrom]
  unfold Oper.wp
  simp [execOp, ho, resolve, invoke, builtin, hs, hx, hrun, Result.andThen]
  exact h
theorem spo_push {w V : World} {g cc m b c6 : Nat} {ss : List Stp} {az : List Adr} {A6 : Option Addr} {es : List (Option Addr × Nat)} {xa ya : Bytes} {k : Int} {e : Ending} (h : SpRow w V g cc ss az) (hl : ss.length ≤ 60) (hS : StsOk ss) (hm : m < ss.length) (hb : g < b) (hle : es.length = ss[m].items.length)
    (hne : ∀ i (h : i < ss[m].items.length) (h' : i < es.length), NdsAt w es[i].1 ss[m].items[i].expr) (o : V.ownsRow b 61 5 (.slice A6 (ss[m].items.length + 1) c6) (ss[m].items.length + 1) (itCells ss[m].items es ++ [str xa, .int .i64 k, str ya, .int .i64 0, .slice none 0 0])) (h12 : ss[m].items.length ≤ 12) (he : e = .returned (.slice (some ⟨g, 0, none⟩) ss.length cc)) :
    SpoiltR w (V.setCell ⟨g, m * 6 + 4, none⟩ (.slice A6 (ss[m].items.length + 1) c6)) e ∧ Below w.heap.size w (V.setCell ⟨g, m * 6 + 4, none⟩ (.slice A6 (ss[m].items.length + 1) c6)) := by
  have hl2 : (ss[m].items ++ [(⟨xa, k, ya, 0, []⟩ : It)]).length = ss[m].items.length + 1 := by simp
  have hp := itCells_push ss[m].items es ⟨xa, k, ya, 0, []⟩ (none, 0) hle
  rw [← hl2, ← show itCells (ss[m].items ++ [(⟨xa, k, ya, 0, []⟩ : It)]) (es ++ [(none, 0)]) = itCells ss[m].items es ++ [str xa, .int .i64 k, str ya, .int .i64 0, .slice none 0 0] from hp] at o
  rw [← hl2]
  have h9 := its_raw hS hm
  refine SpRow.items h hl hS hm o hb (by simp [hle]) (fun i hi hi' => ?_) ?_ (fun x hx => ?_) he
  · by_cases hlt : i < ss[m].items.length
    · rw [List.getElem_append_left (by omega), List.getElem_append_left hlt]
      exact hne i hlt (by omega)
    · have hi2 : i = ss[m].items.length := by omega
      subst hi2
      rw [List.getElem_append_right (by omega)]
      exact .inl (by simp)
  · rw [hl2]; omega
  · rcases List.mem_append.1 hx with hx | hx
    · exact (hS _ (List.getElem_mem hm)).item x hx
    · rw [List.mem_singleton] at hx; subst hx; exact ⟨fun n hn => (List.not_mem_nil hn).elim, Nat.zero_le _⟩
theorem own_some {w : World} {base e size n : Nat} {v : Value} {xs : List Value} (hn : 0 < n) (h : w.ownsRow base e size v n xs) : ∃ g c, v = .slice (some ⟨g, 0, none⟩) n c ∧ w.ownsRow base e size (.slice (some ⟨g, 0, none⟩) n c) n xs := by
  obtain ⟨A, c, rfl⟩ := own_form h
  rcases h.2 with ⟨_, h0⟩ | ⟨g, cap, cur, hv, _⟩
  · omega
  · injection hv with h1 h2 h3
    subst h1
    exact ⟨g, c, rfl, h⟩
set_option maxRecDepth 100000 in
set_option maxHeartbeats 16000000 in
theorem spoilt_s (ss : List Stp) (hS : StsOk ss) (hp : 0 < ss.length) (hl : ss.length ≤ 60) (hI : ∀ s ∈ ss, s.items.length ≤ 12) (base : Nat) (A : Option Addr) (c : Nat) (n : Int) (w : World) (hrow : StepsRow w base A c ss) (hres : n / 16 % 16 = 0 ∨ n / 16 % 16 = 1 ∨ n / 16 % 16 = 2 ∨ n / 16 % 16 = 3 ∨ n / 16 % 16 = 4 ∨ n / 16 % 16 = 6 ∨ n / 16 % 16 = 7 ∨ n / 16 % 16 = 8) :
    Calls Tryz.prog 14 #[.slice A ss.length c, .int .i64 n] w fun e w' => SpoiltR w w' e ∧ Below w.heap.size w w' := by
  obtain ⟨az, hlz, ho, hF⟩ := hrow
  have hAt : ∀ i (h : i < ss.length) (h' : i < az.length), ss[i].At w az[i] := fun i h h' => (hF i h h').now
  obtain ⟨g0, rfl⟩ : ∃ g0, A = some ⟨g0, 0, none⟩ := by
    rcases ho.2 with ⟨_, hn⟩ | ⟨g, cap, cur, hv, _⟩
    · omega
    · injection hv with h1 h2 h3
      exact ⟨g, h1⟩
  have hsrc := hide (ho.cells (g := g0) rfl)
  have hlen := stCells_len ss az hlz
  have hone := stCells_one ss az
  obtain ⟨i0, hi, hz0, hz1, hz2⟩ := info_parts Tryz.info_step
  have q15 := mask_15
  have q3 := mask_3
  have q1 := mask_1
  obtain ⟨m, hm, hml⟩ : ∃ m : Nat, n % 16 % (ss.length : Int) = m ∧ m < ss.length := ⟨(n % 16 % (ss.length : Int)).toNat, by have := Int.emod_nonneg (n % 16) (show (ss.length : Int) ≠ 0 by omega); omega, by have := Int.emod_lt_of_pos (n % 16) (show (0 : Int) < ss.length by omega); have := Int.emod_nonneg (n % 16) (show (ss.length : Int) ≠ 0 by omega); omega⟩
  have hm9 : (n % 16).tmod (ss.length : Int) = (m : Int) := by rw [Int.tmod_eq_emod_of_nonneg (by omega), hm]
  have hb0 : (0 : Int) ≤ (m : Int) ∧ (m : Int) < (ss.length : Int) := by omega
  have hz : ¬ (ss.length : Int) = 0 := by omega
  have hk0 : 0 ≤ n / 256 % 16 := by omega
  have hk1 : n / 256 % 16 < 16 := by omega
  have ht0 : 0 ≤ n / 16 % 16 := by omega
  have ht1 : n / 16 % 16 < 16 := by omega
  have HAt := hide hAt
  clear hF hAt ho
  go_enter Tryz.func14, Tryz.ntmps14
  go_upto_region 9 with (at_builtin; refine wpList_append_own _ rfl _ _ 22 rfl w.heap.size 27 i0 _ 6 120 Tryz.underlying22 hi hz0 hz1 hz2 rfl (by decide) (.slice none 0 0) 0 [] rfl (own_nil _ _ _ _) ⟨g0, 0, none⟩ ss.length c (stCells ss az) rfl hlen hsrc.out hone (by unfold maxLen; omega) (by omega) (by simp) ?_; intro v0 w0 hown0 hgrow0 _; obtain ⟨g, cc, rfl, HR0⟩ := sp_start hp hlz HAt.out hown0 hgrow0; clear hown0 hgrow0)
  have HR := hide HR0
  have x0 : w0.cell? ⟨g, m * 6, none⟩ = some (.int .i64 ss[m].op) := HR0.cell hml 0 (by omega)
  have x1 : w0.cell? ⟨g, m * 6 + 1, none⟩ = some (str ss[m].src) := HR0.cell hml 1 (by omega)
  have hma : m < az.length := by omega
  have x2 : w0.cell? ⟨g, m * 6 + 2, none⟩ = some (.slice az[m].nA ss[m].names.length az[m].nC) := HR0.cell hml 2 (by omega)
  have x3 : w0.cell? ⟨g, m * 6 + 3, none⟩ = some (.slice az[m].oA ss[m].others.length az[m].oC) := HR0.cell hml 3 (by omega)
  have x4 : w0.cell? ⟨g, m * 6 + 4, none⟩ = some (.slice az[m].iA ss[m].items.length az[m].iC) := HR0.cell hml 4 (by omega)
  have x5 : w0.cell? ⟨g, m * 6 + 5, none⟩ = some (.slice az[m].cA ss[m].cond.length az[m].cC) := HR0.cell hml 5 (by omega)
  have fz := HR0.free
  have hg1 := HR0.lo
  clear HR0 hm hm9 hsrc hlen hone HAt
  generalize n / 256 % 16 = k at *
  generalize n / 16 % 16 = t at *
  rcases hres with hres | hres | hres | hres | hres | hres | hres | hres
  · subst hres
    go_wp2
    go_ret
    exact SpoiltR.set (f := 0) { ss[m] with op := k - 1 } az[m] HR.out hl hS hml (by omega) (fun h => ⟨h.src, h.names, h.others, h.items, h.item, h.cond, h.condN⟩) rfl (fun h => ⟨h.names.below (HR.out.b.setCell HR.out.lo.1 _), h.others.below (HR.out.b.setCell HR.out.lo.1 _), h.items.below (HR.out.b.setCell HR.out.lo.1 _), h.cond.below (HR.out.b.setCell HR.out.lo.1 _), h.cn, h.co, h.ci⟩) rfl
  · subst hres
    obtain ⟨x, hx, hxl⟩ := spo_src (k % 5).toNat (by omega)
    obtain ⟨hxk, hx2⟩ := List.getElem?_eq_some_iff.1 hx
    have hk5 : k.tmod 5 = k % 5 := Int.tmod_eq_emod_of_nonneg hk0
    have hk6 : 0 ≤ k % 5 := by omega
    have hk7 : k % 5 < 5 := by omega
    go_wp2
    go_ret
    rw [← World.setCell_alloc_past (w := w0) _ g _ _ hg1.2]
    exact SpoiltR.set (f := 1) { ss[m] with src := x } az[m] (HR.out.more ((Below.refl _ _).alloc (Nat.le_refl _) _)) hl hS hml (by omega) (fun h => ⟨Nat.le_trans hxl (by unfold maxLen; omega), h.names, h.others, h.items, h.item, h.cond, h.condN⟩) rfl (fun h => ⟨h.names.below ((HR.out.b.alloc HR.out.b.size _).setCell HR.out.lo.1 _), h.others.below ((HR.out.b.alloc HR.out.b.size _).setCell HR.out.lo.1 _), h.items.below ((HR.out.b.alloc HR.out.b.size _).setCell HR.out.lo.1 _), h.cond.below ((HR.out.b.alloc HR.out.b.size _).setCell HR.out.lo.1 _), h.cn, h.co, h.ci⟩) rfl
  · subst hres
    obtain ⟨k5, hk5⟩ : ∃ k5 : Nat, k % 5 = (k5 : Int) ∧ k5 ≤ 4 := ⟨(k % 5).toNat, by omega, by omega⟩
    obtain ⟨hk6, hk7⟩ := hk5
    have hk8 : k.tmod 5 = (k5 : Int) := by rw [Int.tmod_eq_emod_of_nonneg hk0, hk6]
    clear hk6
    go_wp2
    go_ret
    have hn9 : (spoN.take k5).length = k5 := by simp [spoN]; omega
    rw [← World.setCell_alloc_past (w := w0) _ g _ _ hg1.2]
    exact SpoiltR.set (f := 2) (u := .slice (some ⟨w0.heap.size, 0, none⟩) k5 4) { ss[m] with names := spoN.take k5 } { az[m] with nA := some ⟨w0.heap.size, 0, none⟩, nC := 4 } (HR.out.more ((Below.refl _ _).alloc (Nat.le_refl _) _)) hl hS hml (by omega) (fun h => ⟨h.src, by show (spoN.take k5).length ≤ _; omega, h.others, h.items, h.item, h.cond, h.condN⟩) (by simp [Stp.cells, hn9]) (fun h => ⟨(spo_arr (l := spoN) (k := k5) hg1.2), h.others.below ((HR.out.b.alloc HR.out.b.size _).setCell HR.out.lo.1 _), h.items.below ((HR.out.b.alloc HR.out.b.size _).setCell HR.out.lo.1 _), h.cond.below ((HR.out.b.alloc HR.out.b.size _).setCell HR.out.lo.1 _), by show (spoN.take k5).length ≤ 4; omega, h.co, h.ci⟩) rfl
  · subst hres
    obtain ⟨k5, hk5⟩ : ∃ k5 : Nat, k % 4 = (k5 : Int) ∧ k5 ≤ 3 := ⟨(k % 4).toNat, by omega, by omega⟩
    obtain ⟨hk6, hk7⟩ := hk5
    have hk8 : k.tmod 4 = (k5 : Int) := by rw [Int.tmod_eq_emod_of_nonneg hk0, hk6]
    clear hk6
    go_wp2
    go_ret
    have hn9 : (spoO.take k5).length = k5 := by simp [spoO]; omega
    rw [← World.setCell_alloc_past (w := w0) _ g _ _ hg1.2]
    exact SpoiltR.set (f := 3) (u := .slice (some ⟨w0.heap.size, 0, none⟩) k5 3) { ss[m] with others := spoO.take k5 } { az[m] with oA := some ⟨w0.heap.size, 0, none⟩, oC := 3 } (HR.out.more ((Below.refl _ _).alloc (Nat.le_refl _) _)) hl hS hml (by omega) (fun h => ⟨h.src, h.names, by show (spoO.take k5).length ≤ _; omega, h.items, h.item, h.cond, h.condN⟩) (by simp [Stp.cells, hn9]) (fun h => ⟨h.names.below ((HR.out.b.alloc HR.out.b.size _).setCell HR.out.lo.1 _), (spo_arr (l := spoO) (k := k5) hg1.2), h.items.below ((HR.out.b.alloc HR.out.b.size _).setCell HR.out.lo.1 _), h.cond.below ((HR.out.b.alloc HR.out.b.size _).setCell HR.out.lo.1 _), h.cn, by show (spoO.take k5).length ≤ 3; omega, h.ci⟩) rfl
  · subst hres
    obtain ⟨k3, hk3, hk4⟩ : ∃ k3 : Nat, k % 4 = (k3 : Int) ∧ k3 ≤ 10 := ⟨(k % 4).toNat, by omega, by omega⟩
    have HNd := hide (fun W B (hB : IntsAt W (some ⟨B, 0, none⟩) [n, k]) => base_Nodes_any (some ⟨B, 0, none⟩) [n, k] 2 k3 W hB (by omega))
    have HIn := hide (show IntsAt (w0.alloc (.cells #[.int .i64 n, .int .i64 k] 3)) (some ⟨w0.heap.size, 0, none⟩) [n, k] from IntsAt_of_own (base := w0.heap.size) (e := 3) (c := 2) (show (2 : Nat) ≤ maxLen from by unfold maxLen; omega) (own_fresh (e := 3) (size := 1) (n := 2) (cur := #[.int .i64 n, .int .i64 k]) w0 (Nat.le_refl _) (by simp) (by unfold maxLen; omega)))
    have hba := (Below.refl w0.heap.size w0).alloc (Nat.le_refl _) (.cells #[.int .i64 n, .int .i64 k] 3)
    go_wp2_with (go_at_call 35; refine (HNd.out _ _ HIn.out).mono ?_; rintro e w1 ⟨⟨es, hle, hnk, A, c2, rfl, hown⟩, hb1⟩; have hb2 := bel2 hb1 hba; have HR1 := hide (HR.out.more hb2); have y5 : w1.cell? ⟨g, m * 6 + 5, none⟩ = some (.slice az[m].cA ss[m].cond.length az[m].cC) := HR1.out.cell hml 5 (by omega); have fy := HR1.out.free; have HO := hide hown; have HK := hide hnk; clear hown hnk hb1)
    go_ret
    exact SpoiltR.set (f := 5) { ss[m] with cond := es } { az[m] with cA := A, cC := c2 } HR1.out hl hS hml (by omega) (fun h => ⟨h.src, h.names, h.others, h.items, h.item, by show es.length ≤ _; omega, HK.out⟩) (by simp [Stp.cells, hle]) (fun h => ⟨h.names.below (HR1.out.b.setCell HR1.out.lo.1 _), h.others.below (HR1.out.b.setCell HR1.out.lo.1 _), h.items.below (HR1.out.b.setCell HR1.out.lo.1 _), NdsAt_of_own (HO.out.kept (World.ownsRow.stored HR1.out.own (m * 6 + 5) _).2 (.inr (fun e9 => by have h9 := (HO.out.lt g e9).1; rw [World.size_alloc] at h9; omega))), h.cn, h.co, h.ci⟩) rfl
  · subst hres
    go_wp2
    go_ret
    exact SpoiltR.set (f := 4) (u := .slice none 0 0) { ss[m] with items := [] } { az[m] with iA := none, iC := 0 } HR.out hl hS hml (by omega) (fun h => ⟨h.src, h.names, h.others, Nat.zero_le _, fun x hx => (List.not_mem_nil hx).elim, h.cond, h.condN⟩) rfl (fun h => ⟨h.names.below (HR.out.b.setCell HR.out.lo.1 _), h.others.below (HR.out.b.setCell HR.out.lo.1 _), .inl rfl, h.cond.below (HR.out.b.setCell HR.out.lo.1 _), h.cn, h.co, Nat.le_refl _⟩) rfl
  · subst hres
    have hpi : (0 : Int) < (ss.length : Int) := by omega
    have ha0 : 0 < az.length := by omega
    have a0 : w0.cell? ⟨g, 0, none⟩ = some (.int .i64 ss[0].op) := by have h9 := HR.out.cell hp 0 (by omega); simpa [Stp.cells] using h9
    have a1 : w0.cell? ⟨g, 1, none⟩ = some (str ss[0].src) := by have h9 := HR.out.cell hp 1 (by omega); simpa [Stp.cells] using h9
    have a2 : w0.cell? ⟨g, 2, none⟩ = some (.slice az[0].nA ss[0].names.length az[0].nC) := by have h9 := HR.out.cell hp 2 (by omega); simpa [Stp.cells] using h9
    have a3 : w0.cell? ⟨g, 3, none⟩ = some (.slice az[0].oA ss[0].others.length az[0].oC) := by have h9 := HR.out.cell hp 3 (by omega); simpa [Stp.cells] using h9
    have a4 : w0.cell? ⟨g, 4, none⟩ = some (.slice az[0].iA ss[0].items.length az[0].iC) := by have h9 := HR.out.cell hp 4 (by omega); simpa [Stp.cells] using h9
    have a5 : w0.cell? ⟨g, 5, none⟩ = some (.slice az[0].cA ss[0].cond.length az[0].cC) := by have h9 := HR.out.cell hp 5 (by omega); simpa [Stp.cells] using h9
    clear x0 x1 x2 x3 x4 x5
    go_wp2_with (at_builtin; refine wpList_append_own _ rfl _ _ 22 rfl w.heap.size 27 i0 _ 6 120 Tryz.underlying22 hi hz0 hz1 hz2 rfl (by decide) _ _ _ rfl (HR.out.own.alloc _) ⟨w0.heap.size, 0, none⟩ 1 1 (ss[0].cells az[0]) rfl rfl (by exact cells_6 (heap_alloc_new _ _)) (stp_one _ _) (by unfold maxLen; omega) (by omega) (by simp; omega) ?_; intro v3 w3 hown3 hgrow3 _; have hb3 : Below w.heap.size w w3 := (HR.out.b.alloc HR.out.b.size _).grown hgrow3 (by rw [World.size_alloc]; have := HR.out.b.size; omega) (fun k hk => (HR.out.own.lt k hk).1); have HO3 := hide hown3; clear hown3 hgrow3)
    go_ret
    exact ⟨SpRow.push HR.out hl hS ha0 HO3.out hb3 rfl, hb3⟩
  · subst hres
    have hpi : (1 : Int) ≤ (ss.length : Int) := by omega
    have hcc := (own_cap HR.out.own).1
    go_wp2
    all_goals (go_ret; exact ⟨SpRow.tail HR.out hl hS (by first | exact .inl rfl | exact .inr (by omega)) rfl, HR.out.b⟩)
set_option maxRecDepth 100000 in
set_option maxHeartbeats 16000000 in
theorem spoilt_d (ss : List Stp) (hS : StsOk ss) (hp : 0 < ss.length) (hl : ss.length ≤ 60) (hI : ∀ s ∈ ss, s.items.length ≤ 12) (base : Nat) (A : Option Addr) (c : Nat) (n : Int) (w : World) (hrow : StepsRow w base A c ss) (hres : 9 ≤ n / 16 % 16) :
    Calls Tryz.prog 14 #[.slice A ss.length c, .int .i64 n] w fun e w' => SpoiltR w w' e ∧ Below w.heap.size w w' := by
  obtain ⟨az, hlz, ho, hF⟩ := hrow
  have hAt : ∀ i (h : i < ss.length) (h' : i < az.length), ss[i].At w az[i] := fun i h h' => (hF i h h').now
  obtain ⟨g0, rfl⟩ : ∃ g0, A = some ⟨g0, 0, none⟩ := by
    rcases ho.2 with ⟨_, hn⟩ | ⟨g, cap, cur, hv, _⟩
    · omega
    · injection hv with h1 h2 h3
      exact ⟨g, h1⟩
  have hsrc := hide (ho.cells (g := g0) rfl)
  have hlen := stCells_len ss az hlz
  have hone := stCells_one ss az
  obtain ⟨i0, hi, hz0, hz1, hz2⟩ := info_parts Tryz.info_step
  have q15 := mask_15
  have q3 := mask_3
  have q1 := mask_1
  obtain ⟨m, hm, hml⟩ : ∃ m : Nat, n % 16 % (ss.length : Int) = m ∧ m < ss.length := ⟨(n % 16 % (ss.length : Int)).toNat, by have := Int.emod_nonneg (n % 16) (show (ss.length : Int) ≠ 0 by omega); omega, by have := Int.emod_lt_of_pos (n % 16) (show (0 : Int) < ss.length by omega); have := Int.emod_nonneg (n % 16) (show (ss.length : Int) ≠ 0 by omega); omega⟩
  have hm9 : (n % 16).tmod (ss.length : Int) = (m : Int) := by rw [Int.tmod_eq_emod_of_nonneg (by omega), hm]
  have hb0 : (0 : Int) ≤ (m : Int) ∧ (m : Int) < (ss.length : Int) := by omega
  have hz : ¬ (ss.length : Int) = 0 := by omega
  have hk0 : 0 ≤ n / 256 % 16 := by omega
  have hk1 : n / 256 % 16 < 16 := by omega
  have ht0 : 0 ≤ n / 16 % 16 := by omega
  have ht1 : n / 16 % 16 < 16 := by omega
  have HAt := hide hAt
  clear hF hAt ho
  go_enter Tryz.func14, Tryz.ntmps14
  go_upto_region 9 with (at_builtin; refine wpList_append_own _ rfl _ _ 22 rfl w.heap.size 27 i0 _ 6 120 Tryz.underlying22 hi hz0 hz1 hz2 rfl (by decide) (.slice none 0 0) 0 [] rfl (own_nil _ _ _ _) ⟨g0, 0, none⟩ ss.length c (stCells ss az) rfl hlen hsrc.out hone (by unfold maxLen; omega) (by omega) (by simp) ?_; intro v0 w0 hown0 hgrow0 _; obtain ⟨g, cc, rfl, HR0⟩ := sp_start hp hlz HAt.out hown0 hgrow0; clear hown0 hgrow0)
  have HR := hide HR0
  have x0 : w0.cell? ⟨g, m * 6, none⟩ = some (.int .i64 ss[m].op) := HR0.cell hml 0 (by omega)
  have x1 : w0.cell? ⟨g, m * 6 + 1, none⟩ = some (str ss[m].src) := HR0.cell hml 1 (by omega)
  have hma : m < az.length := by omega
  have x2 : w0.cell? ⟨g, m * 6 + 2, none⟩ = some (.slice az[m].nA ss[m].names.length az[m].nC) := HR0.cell hml 2 (by omega)
  have x3 : w0.cell? ⟨g, m * 6 + 3, none⟩ = some (.slice az[m].oA ss[m].others.length az[m].oC) := HR0.cell hml 3 (by omega)
  have x4 : w0.cell? ⟨g, m * 6 + 4, none⟩ = some (.slice az[m].iA ss[m].items.length az[m].iC) := HR0.cell hml 4 (by omega)
  have x5 : w0.cell? ⟨g, m * 6 + 5, none⟩ = some (.slice az[m].cA ss[m].cond.length az[m].cC) := HR0.cell hml 5 (by omega)
  have fz := HR0.free
  have hg1 := HR0.lo
  clear HR0 hm hm9 hsrc hlen hone HAt
  generalize n / 256 % 16 = k at *
  generalize n / 16 % 16 = t at *
  have hits9 := its_raw hS hml
  obtain ⟨es, hle, hne, hsi⟩ := its_pick (HR.out.at' m hml (by omega)).items
  by_cases hits : ss[m].items.length = 0
  · have hp0 : ¬ (0 : Int) < (ss[m].items.length : Int) := by omega
    go_wp2
    go_ret
    exact ⟨SpRow.same HR.out hl hS rfl, HR.out.b⟩
  rcases hsi with e | ⟨g2, off2, hA2, hg2, hc2⟩
  · exact absurd (by rw [e]; rfl) hits
  rw [hA2] at x4
  have hp0 : (0 : Int) < (ss[m].items.length : Int) := by omega
  have hp1 : 0 < ss[m].items.length := by omega
  have hp2 : 0 < es.length := by omega
  have hsI := hide (fun W (hb : Below w.heap.size w W) (j : Nat) (u : Value) (hu : (itCells ss[m].items es)[j]? = some u) => show W.cell? ((⟨g2, off2, none⟩ : Addr).add j) = some u from by rw [nd_addr_add]; exact (hb.cell (p := ⟨g2, _, none⟩) hg2).trans (hc2 j u hu))
  obtain ⟨j0, hj, hy0, hy1, hy2⟩ := info_parts Tryz.info_item9
  have hlI := itCells_len ss[m].items es hle
  have hoI := itCells_one ss[m].items es
  have HNe := hide hne
  have HMod := hide (itCells_mod hp1 hle (k - 2))
  clear hc2 hne
  go_wp2_with (at_builtin; refine wpList_append_own _ rfl _ _ 24 rfl w0.heap.size 61 j0 _ 5 72 Tryz.underlying24 hj hy0 hy1 hy2 rfl (by decide) (.slice none 0 0) 0 [] rfl (own_nil _ _ _ _) ⟨g2, off2, none⟩ ss[m].items.length az[m].iC (itCells ss[m].items es) rfl hlI (hsI.out _ HR.out.b) hoI (by unfold maxLen; omega) (by omega) (by simp) ?_; intro v4 w4 hown4 hgrow4 _; rw [Nat.zero_add, List.nil_append] at hown4; obtain ⟨g4, c4, rfl, ho4⟩ := own_some hp1 hown4; have hb4 : Below w0.heap.size w0 w4 := (Below.refl _ w0).grown hgrow4 (Nat.le_refl _) (fun k hk => by cases hk); have HO4 := hide ho4; have q1 := (World.ownsRow.cellAt ho4 1 (by omega)).trans (itCells_at _ _ 0 hp1 hp2 1 (by omega)); have q3 := (World.ownsRow.cellAt ho4 3 (by omega)).trans (itCells_at _ _ 0 hp1 hp2 3 (by omega)); simp only [List.getElem?_cons_succ, List.getElem?_cons_zero] at q1 q3; have f4 := ho4.frozenAt; have y4 := (hb4.cell (p := ⟨g, m * 6 + 4, none⟩) hg1.2).trans x4; have fy := (HR.out.more hb4).free; have hg4 := ho4.lt g4 rfl; clear hown4 hgrow4 ho4 x0 x1 x2 x3 x4 x5 fz)
  go_ret
  have hx0 : ss[m].items[0].ok := (hS _ (List.getElem_mem hml)).item _ (List.getElem_mem hp1)
  have o2 := (World.ownsRow.stored (World.ownsRow.stored HO4.out 3 (.int .i64 (k - 2))).1 1 (.int .i64 (wrap64 (ss[m].items[0].fn + k / 8)))).1
  rw [HMod.out] at o2
  have hle2 : (ss[m].items.set 0 (ss[m].items[0].mod (k - 2) (wrap64 (ss[m].items[0].fn + k / 8)))).length = ss[m].items.length := List.length_set ..
  rw [← hle2] at o2 ⊢
  exact SpRow.items (HR.out.more ((hb4.setCell hg4.1 _).setCell hg4.1 _)) hl hS hml o2 hg1.2 (by rw [hle2]; exact hle) (fun i h h' => by
      by_cases h0 : i = 0
      · subst h0
        rw [List.getElem_set_self]
        exact HNe.out 0 hp1 h'
      · rw [List.getElem_set_ne (fun e => h0 e.symm)]
        exact HNe.out i (by rw [List.length_set] at h; exact h) h') (by rw [hle2]; exact hits9) (fun x hx => by
      rcases List.mem_or_eq_of_mem_set hx with h9 | h9
      · exact (hS _ (List.getElem_mem hml)).item x h9
      · subst h9; exact hx0) rfl
set_option maxRecDepth 100000 in
set_option maxHeartbeats 16000000 in
theorem spoilt_v (ss : List Stp) (hS : StsOk ss) (hp : 0 < ss.length) (hl : ss.length ≤ 60) (hI : ∀ s ∈ ss, s.items.length ≤ 12) (base : Nat) (A : Option Addr) (c : Nat) (n : Int) (w : World) (hrow : StepsRow w base A c ss) (hres : n / 16 % 16 = 5) :
    Calls Tryz.prog 14 #[.slice A ss.length c, .int .i64 n] w fun e w' => SpoiltR w w' e ∧ Below w.heap.size w w' := by
  obtain ⟨az, hlz, ho, hF⟩ := hrow
  have hAt : ∀ i (h : i < ss.length) (h' : i < az.length), ss[i].At w az[i] := fun i h h' => (hF i h h').now
  obtain ⟨g0, rfl⟩ : ∃ g0, A = some ⟨g0, 0, none⟩ := by
    rcases ho.2 with ⟨_, hn⟩ | ⟨g, cap, cur, hv, _⟩
    · omega
    · injection hv with h1 h2 h3
      exact ⟨g, h1⟩
  have hsrc := hide (ho.cells (g := g0) rfl)
  have hlen := stCells_len ss az hlz
  have hone := stCells_one ss az
  obtain ⟨i0, hi, hz0, hz1, hz2⟩ := info_parts Tryz.info_step
  have q15 := mask_15
  have q3 := mask_3
  have q1 := mask_1
  obtain ⟨m, hm, hml⟩ : ∃ m : Nat, n % 16 % (ss.length : Int) = m ∧ m < ss.length := ⟨(n % 16 % (ss.length : Int)).toNat, by have := Int.emod_nonneg (n % 16) (show (ss.length : Int) ≠ 0 by omega); omega, by have := Int.emod_lt_of_pos (n % 16) (show (0 : Int) < ss.length by omega); have := Int.emod_nonneg (n % 16) (show (ss.length : Int) ≠ 0 by omega); omega⟩
  have hm9 : (n % 16).tmod (ss.length : Int) = (m : Int) := by rw [Int.tmod_eq_emod_of_nonneg (by omega), hm]
  have hb0 : (0 : Int) ≤ (m : Int) ∧ (m : Int) < (ss.length : Int) := by omega
  have hz : ¬ (ss.length : Int) = 0 := by omega
  have hk0 : 0 ≤ n / 256 % 16 := by omega
  have hk1 : n / 256 % 16 < 16 := by omega
  have ht0 : 0 ≤ n / 16 % 16 := by omega
  have ht1 : n / 16 % 16 < 16 := by omega
  have HAt := hide hAt
  clear hF hAt ho
  go_enter Tryz.func14, Tryz.ntmps14
  go_upto_region 9 with (at_builtin; refine wpList_append_own _ rfl _ _ 22 rfl w.heap.size 27 i0 _ 6 120 Tryz.underlying22 hi hz0 hz1 hz2 rfl (by decide) (.slice none 0 0) 0 [] rfl (own_nil _ _ _ _) ⟨g0, 0, none⟩ ss.length c (stCells ss az) rfl hlen hsrc.out hone (by unfold maxLen; omega) (by omega) (by simp) ?_; intro v0 w0 hown0 hgrow0 _; obtain ⟨g, cc, rfl, HR0⟩ := sp_start hp hlz HAt.out hown0 hgrow0; clear hown0 hgrow0)
  have HR := hide HR0
  have x0 : w0.cell? ⟨g, m * 6, none⟩ = some (.int .i64 ss[m].op) := HR0.cell hml 0 (by omega)
  have x1 : w0.cell? ⟨g, m * 6 + 1, none⟩ = some (str ss[m].src) := HR0.cell hml 1 (by omega)
  have hma : m < az.length := by omega
  have x2 : w0.cell? ⟨g, m * 6 + 2, none⟩ = some (.slice az[m].nA ss[m].names.length az[m].nC) := HR0.cell hml 2 (by omega)
  have x3 : w0.cell? ⟨g, m * 6 + 3, none⟩ = some (.slice az[m].oA ss[m].others.length az[m].oC) := HR0.cell hml 3 (by omega)
  have x4 : w0.cell? ⟨g, m * 6 + 4, none⟩ = some (.slice az[m].iA ss[m].items.length az[m].iC) := HR0.cell hml 4 (by omega)
  have x5 : w0.cell? ⟨g, m * 6 + 5, none⟩ = some (.slice az[m].cA ss[m].cond.length az[m].cC) := HR0.cell hml 5 (by omega)
  have fz := HR0.free
  have hg1 := HR0.lo
  clear HR0 hm hm9 hsrc hlen hone HAt
  generalize n / 256 % 16 = k at *
  generalize n / 16 % 16 = t at *
  have hits9 := its_raw hS hml
  obtain ⟨es, hle, hne, hsi0⟩ := its_pick (HR.out.at' m hml (by omega)).items
  obtain ⟨xa, hx, hxl⟩ := spo_nm (k % 3).toNat (by omega)
  obtain ⟨ya, hy, hyl⟩ := spo_co (k % 2).toNat (by omega)
  obtain ⟨hxk, hx2⟩ := List.getElem?_eq_some_iff.1 hx
  obtain ⟨hyk, hy9⟩ := List.getElem?_eq_some_iff.1 hy
  have hk3 : k.tmod 3 = k % 3 := Int.tmod_eq_emod_of_nonneg hk0
  have hk4 : 0 ≤ k % 3 := by omega
  have hk5 : k % 3 < 3 := by omega
  have hk6 : 0 ≤ k % 2 := by omega
  have hk7 : k % 2 < 2 := by omega
  obtain ⟨j0, hj, hy0, hy1, hy2⟩ := info_parts Tryz.info_item9
  have FIN := hide (fun (V : World) (A6 : Option Addr) (c6 : Nat) (e : Ending) (h : SpRow w V g cc ss az) (o : V.ownsRow w0.heap.size 61 5 (.slice A6 (ss[m].items.length + 1) c6) (ss[m].items.length + 1) (itCells ss[m].items es ++ [str xa, .int .i64 (k / 2), str ya, .int .i64 0, .slice none 0 0])) (he : e = .returned (.slice (some ⟨g, 0, none⟩) ss.length cc)) =>
    show SpoiltR w (V.setCell ⟨g, m * 6 + 4, none⟩ (.slice A6 (ss[m].items.length + 1) c6)) e ∧ Below w.heap.size w (V.setCell ⟨g, m * 6 + 4, none⟩ (.slice A6 (ss[m].items.length + 1) c6)) from spo_push h hl hS hml hg1.2 hle hne o (hI _ (List.getElem_mem hml)) he)
  have hx := hide hx
  have hy := hide hy
  have hsi : ss[m].items.length = 0 ∨ ∃ g2 off2, az[m].iA = some ⟨g2, off2, none⟩ ∧ Hid (∀ W, Below w.heap.size w W → ∀ (j : Nat) (u : Value), (itCells ss[m].items es)[j]? = some u → W.cell? ((⟨g2, off2, none⟩ : Addr).add j) = some u) := by
    rcases hsi0 with h | ⟨g2, off2, hA2, hg2, hc2⟩
    · exact .inl (by rw [h]; rfl)
    · exact .inr ⟨g2, off2, hA2, hide fun W hb j u hu => by rw [nd_addr_add]; exact (hb.cell (p := ⟨g2, _, none⟩) hg2).trans (hc2 j u hu)⟩
  have hlI := itCells_len ss[m].items es hle
  have hoI := itCells_one ss[m].items es
  clear hne hsi0
  go_upto_region 20 with fail
  clear x0 x1 x2 x3 x5 fz
  apply cutK55 (F := fun (V : World) (v5 : Value) (b6 : Nat) (b13 : Nat) (b19 : Nat) => (Sp5 w w0 V g cc ss az ss[m].items es ⟨xa, k / 2, ya, 0, []⟩ (some v5) (some b19)) ∧ ((V.cell? ⟨b6, (k % 3).toNat, none⟩ = some (str xa)) ∧ b6 < V.heap.size ∧ w0.heap.size ≤ b6) ∧ ((∀ j, v5.ownBlock = some j → j ≠ b6)) ∧ ((V.cell? ⟨b13, (k % 2).toNat, none⟩ = some (str ya)) ∧ b13 < V.heap.size ∧ w0.heap.size ≤ b13) ∧ ((∀ j, v5.ownBlock = some j → j ≠ b13)))
  intro k_abcde
  apply cutK45 (F := fun (V : World) (v5 : Value) (b6 : Nat) (b13 : Nat) => (Sp5 w w0 V g cc ss az ss[m].items es ⟨xa, k / 2, ya, 0, []⟩ (some v5) none) ∧ ((V.cell? ⟨b6, (k % 3).toNat, none⟩ = some (str xa)) ∧ b6 < V.heap.size ∧ w0.heap.size ≤ b6) ∧ ((∀ j, v5.ownBlock = some j → j ≠ b6)) ∧ ((V.cell? ⟨b13, (k % 2).toNat, none⟩ = some (str ya)) ∧ b13 < V.heap.size ∧ w0.heap.size ≤ b13) ∧ ((∀ j, v5.ownBlock = some j → j ≠ b13)))
  intro k_abcd
  apply cutK4 (F := fun (V : World) (b6 : Nat) (b13 : Nat) (b19 : Nat) => (Sp5 w w0 V g cc ss az ss[m].items es ⟨xa, k / 2, ya, 0, []⟩ none (some b19)) ∧ ((V.cell? ⟨b6, (k % 3).toNat, none⟩ = some (str xa)) ∧ b6 < V.heap.size ∧ w0.heap.size ≤ b6) ∧ ((V.cell? ⟨b13, (k % 2).toNat, none⟩ = some (str ya)) ∧ b13 < V.heap.size ∧ w0.heap.size ≤ b13))
  intro k_acde
  apply cutK35 (F := fun (V : World) (v5 : Value) (b6 : Nat) => (Sp5 w w0 V g cc ss az ss[m].items es ⟨xa, k / 2, ya, 0, []⟩ (some v5) none) ∧ ((V.cell? ⟨b6, (k % 3).toNat, none⟩ = some (str xa)) ∧ b6 < V.heap.size ∧ w0.heap.size ≤ b6) ∧ ((∀ j, v5.ownBlock = some j → j ≠ b6)))
  intro k_abc
  apply cutK35 (F := fun (V : World) (v5 : Value) (b13 : Nat) => (Sp5 w w0 V g cc ss az ss[m].items es ⟨xa, k / 2, ya, 0, []⟩ (some v5) none) ∧ ((V.cell? ⟨b13, (k % 2).toNat, none⟩ = some (str ya)) ∧ b13 < V.heap.size ∧ w0.heap.size ≤ b13) ∧ ((∀ j, v5.ownBlock = some j → j ≠ b13)))
  intro k_abd
  apply cutK3 (F := fun (V : World) (b6 : Nat) (b13 : Nat) => (Sp5 w w0 V g cc ss az ss[m].items es ⟨xa, k / 2, ya, 0, []⟩ none none) ∧ ((V.cell? ⟨b6, (k % 3).toNat, none⟩ = some (str xa)) ∧ b6 < V.heap.size ∧ w0.heap.size ≤ b6) ∧ ((V.cell? ⟨b13, (k % 2).toNat, none⟩ = some (str ya)) ∧ b13 < V.heap.size ∧ w0.heap.size ≤ b13))
  intro k_acd
  apply cutK4 (F := fun (V : World) (b6 : Nat) (b13 : Nat) (b19 : Nat) => (Sp5 w w0 V g cc ss az ss[m].items es ⟨xa, k / 2, ya, 0, []⟩ none (some b19)) ∧ ((V.cell? ⟨b6, (k % 3).toNat, none⟩ = some (str xa)) ∧ b6 < V.heap.size ∧ w0.heap.size ≤ b6) ∧ ((V.cell? ⟨b13, (k % 2).toNat, none⟩ = some (str ya)) ∧ b13 < V.heap.size ∧ w0.heap.size ≤ b13))
  intro k_cde
  apply cutK25 (F := fun (V : World) (v5 : Value) => (Sp5 w w0 V g cc ss az ss[m].items es ⟨xa, k / 2, ya, 0, []⟩ (some v5) none))
  intro k_ab
  apply cutK2 (F := fun (V : World) (b6 : Nat) => (Sp5 w w0 V g cc ss az ss[m].items es ⟨xa, k / 2, ya, 0, []⟩ none none) ∧ ((V.cell? ⟨b6, (k % 3).toNat, none⟩ = some (str xa)) ∧ b6 < V.heap.size ∧ w0.heap.size ≤ b6))
  intro k_ac
  apply cutK2 (F := fun (V : World) (b13 : Nat) => (Sp5 w w0 V g cc ss az ss[m].items es ⟨xa, k / 2, ya, 0, []⟩ none none) ∧ ((V.cell? ⟨b13, (k % 2).toNat, none⟩ = some (str ya)) ∧ b13 < V.heap.size ∧ w0.heap.size ≤ b13))
  intro k_ad
  apply cutK3 (F := fun (V : World) (b6 : Nat) (b13 : Nat) => (Sp5 w w0 V g cc ss az ss[m].items es ⟨xa, k / 2, ya, 0, []⟩ none none) ∧ ((V.cell? ⟨b6, (k % 3).toNat, none⟩ = some (str xa)) ∧ b6 < V.heap.size ∧ w0.heap.size ≤ b6) ∧ ((V.cell? ⟨b13, (k % 2).toNat, none⟩ = some (str ya)) ∧ b13 < V.heap.size ∧ w0.heap.size ≤ b13))
  intro k_cd
  apply cutK1 (F := fun (V : World) => (Sp5 w w0 V g cc ss az ss[m].items es ⟨xa, k / 2, ya, 0, []⟩ none none))
  intro k_a
  apply cutK2 (F := fun (V : World) (b6 : Nat) => (Sp5 w w0 V g cc ss az ss[m].items es ⟨xa, k / 2, ya, 0, []⟩ none none) ∧ ((V.cell? ⟨b6, (k % 3).toNat, none⟩ = some (str xa)) ∧ b6 < V.heap.size ∧ w0.heap.size ≤ b6))
  intro k_c
  apply cutK2 (F := fun (V : World) (b13 : Nat) => (Sp5 w w0 V g cc ss az ss[m].items es ⟨xa, k / 2, ya, 0, []⟩ none none) ∧ ((V.cell? ⟨b13, (k % 2).toNat, none⟩ = some (str ya)) ∧ b13 < V.heap.size ∧ w0.heap.size ≤ b13))
  intro k_d
  · refine wp_region_held_drew (S := (fun w' => True)) (by kernel_rfl) trivial (fun hHeld => ?_)
    have HV : Sp5 w w0 w0.drew g cc ss az ss[m].items es ⟨xa, k / 2, ya, 0, []⟩ none none := ⟨HR.out.more (Below.drew (Below.refl _ _)), Below.drew (Below.refl _ _), fun _ e => (by cases e), fun _ e => (by cases e)⟩
    generalize w0.drew = V at *
    refine zT 0 ?_; refine zT 1 ?_; refine zT 2 ?_; refine zT 3 ?_; refine zT 7 ?_; refine zT 8 ?_; refine zT 11 ?_; refine zT 12 ?_; refine zT 14 ?_; refine zT 15 ?_
    refine wpAnyH_ready (rs := [4, 6, 13]) (by kernel_rfl) (by simp) ?_
    refine AllReadyH.cons rfl (fun K hK => ?_) ?_
    · have c4 := (HV.b0.cell (p := ⟨g, _, none⟩) hg1.2).trans x4
      go_simp
      refine zB hK trivial (fun hHeld => ?_)
      have f1 := HV
      exact k_a V f1
    refine AllReadyH.cons rfl (fun K hK => ?_) ?_
    · go_simp
      have hb := (Below.refl _ V).alloc (Nat.le_refl _) (.cells #[.string ⟨#[97]⟩, .string ⟨#[122]⟩, .string ⟨#[98, 121]⟩] 9)
      have c6 : (V.alloc (.cells #[.string ⟨#[97]⟩, .string ⟨#[122]⟩, .string ⟨#[98, 121]⟩] 9)).cell? ⟨V.heap.size, (k % 3).toNat, none⟩ = some (str xa) := (cell_of_heap (heap_alloc_new V (.cells #[.string ⟨#[97]⟩, .string ⟨#[122]⟩, .string ⟨#[98, 121]⟩] 9)) _).trans (by simpa using hx.out)
      have l6 : V.heap.size < (V.alloc (.cells #[.string ⟨#[97]⟩, .string ⟨#[122]⟩, .string ⟨#[98, 121]⟩] 9)).heap.size := by rw [World.size_alloc]; omega
      have k6 := HV.b0.size
      have f1 := HV.more (.cells #[.string ⟨#[97]⟩, .string ⟨#[122]⟩, .string ⟨#[98, 121]⟩] 9)
      refine zB hK trivial (fun hHeld => ?_)
      clear hK K hb hHeld HV
      generalize V.alloc (.cells #[.string ⟨#[97]⟩, .string ⟨#[122]⟩, .string ⟨#[98, 121]⟩] 9) = V2 at *
      generalize V.heap.size = b6 at *
      refine wpAnyH_more (S' := (fun w' => w'.cell? ⟨b6, (k % 3).toNat, none⟩ = some (str xa))) (fun _ h => trivial) _ _ _ _ ?_
      have hHeld : V2.cell? ⟨b6, (k % 3).toNat, none⟩ = some (str xa) := c6
      refine zT 9 ?_; refine zT 10 ?_
      exact k_c V2 b6 ⟨f1, ⟨c6, l6, k6⟩⟩
    refine AllReadyH.cons rfl (fun K hK => ?_) AllReadyH.nil
    go_simp
    have hb := (Below.refl _ V).alloc (Nat.le_refl _) (.cells #[.string ⟨#[]⟩, .string ⟨#[97]⟩] 9)
    have c13 : (V.alloc (.cells #[.string ⟨#[]⟩, .string ⟨#[97]⟩] 9)).cell? ⟨V.heap.size, (k % 2).toNat, none⟩ = some (str ya) := (cell_of_heap (heap_alloc_new V (.cells #[.string ⟨#[]⟩, .string ⟨#[97]⟩] 9)) _).trans (by simpa using hy.out)
    have l13 : V.heap.size < (V.alloc (.cells #[.string ⟨#[]⟩, .string ⟨#[97]⟩] 9)).heap.size := by rw [World.size_alloc]; omega
    have k13 := HV.b0.size
    have f1 := HV.more (.cells #[.string ⟨#[]⟩, .string ⟨#[97]⟩] 9)
    refine zB hK trivial (fun hHeld => ?_)
    clear hK K hb hHeld HV
    generalize V.alloc (.cells #[.string ⟨#[]⟩, .string ⟨#[97]⟩] 9) = V2 at *
    generalize V.heap.size = b13 at *
    refine wpAnyH_more (S' := (fun w' => w'.cell? ⟨b13, (k % 2).toNat, none⟩ = some (str ya))) (fun _ h => trivial) _ _ _ _ ?_
    have hHeld : V2.cell? ⟨b13, (k % 2).toNat, none⟩ = some (str ya) := c13
    refine zT 16 ?_; refine zT 17 ?_
    exact k_d V2 b13 ⟨f1, ⟨c13, l13, k13⟩⟩
  · intro V b13 hF
    obtain ⟨HV, ⟨c13, l13, k13⟩⟩ := hF
    have hHeld : V.cell? ⟨b13, (k % 2).toNat, none⟩ = some (str ya) := c13
    refine wpAnyH_ready (rs := [4, 6]) (by kernel_rfl) (by simp) ?_
    refine AllReadyH.cons rfl (fun K hK => ?_) ?_
    · have c4 := (HV.b0.cell (p := ⟨g, _, none⟩) hg1.2).trans x4
      go_simp
      refine zB hK c13 (fun hHeld => ?_)
      have f1 := HV
      exact k_ad V b13 ⟨f1, ⟨c13, l13, k13⟩⟩
    refine AllReadyH.cons rfl (fun K hK => ?_) AllReadyH.nil
    go_simp
    have hb := (Below.refl _ V).alloc (Nat.le_refl _) (.cells #[.string ⟨#[97]⟩, .string ⟨#[122]⟩, .string ⟨#[98, 121]⟩] 9)
    replace c13 := (hb.cell (p := ⟨b13, _, none⟩) l13).trans c13
    replace l13 := Nat.lt_of_lt_of_le l13 hb.size
    have c6 : (V.alloc (.cells #[.string ⟨#[97]⟩, .string ⟨#[122]⟩, .string ⟨#[98, 121]⟩] 9)).cell? ⟨V.heap.size, (k % 3).toNat, none⟩ = some (str xa) := (cell_of_heap (heap_alloc_new V (.cells #[.string ⟨#[97]⟩, .string ⟨#[122]⟩, .string ⟨#[98, 121]⟩] 9)) _).trans (by simpa using hx.out)
    have l6 : V.heap.size < (V.alloc (.cells #[.string ⟨#[97]⟩, .string ⟨#[122]⟩, .string ⟨#[98, 121]⟩] 9)).heap.size := by rw [World.size_alloc]; omega
    have k6 := HV.b0.size
    have f1 := HV.more (.cells #[.string ⟨#[97]⟩, .string ⟨#[122]⟩, .string ⟨#[98, 121]⟩] 9)
    refine zB hK c13 (fun hHeld => ?_)
    clear hK K hb hHeld HV
    generalize V.alloc (.cells #[.string ⟨#[97]⟩, .string ⟨#[122]⟩, .string ⟨#[98, 121]⟩] 9) = V2 at *
    generalize V.heap.size = b6 at *
    refine wpAnyH_more (S' := (fun w' => w'.cell? ⟨b6, (k % 3).toNat, none⟩ = some (str xa) ∧ w'.cell? ⟨b13, (k % 2).toNat, none⟩ = some (str ya))) (fun _ h => h.2) _ _ _ _ ?_
    have hHeld : V2.cell? ⟨b6, (k % 3).toNat, none⟩ = some (str xa) ∧ V2.cell? ⟨b13, (k % 2).toNat, none⟩ = some (str ya) := ⟨c6, c13⟩
    refine zT 9 ?_; refine zT 10 ?_
    refine zT 18 ?_
    exact k_cd V2 b6 b13 ⟨f1, ⟨c6, l6, k6⟩, ⟨c13, l13, k13⟩⟩
  · intro V b6 hF
    obtain ⟨HV, ⟨c6, l6, k6⟩⟩ := hF
    have hHeld : V.cell? ⟨b6, (k % 3).toNat, none⟩ = some (str xa) := c6
    refine wpAnyH_ready (rs := [4, 13]) (by kernel_rfl) (by simp) ?_
    refine AllReadyH.cons rfl (fun K hK => ?_) ?_
    · have c4 := (HV.b0.cell (p := ⟨g, _, none⟩) hg1.2).trans x4
      go_simp
      refine zB hK c6 (fun hHeld => ?_)
      have f1 := HV
      exact k_ac V b6 ⟨f1, ⟨c6, l6, k6⟩⟩
    refine AllReadyH.cons rfl (fun K hK => ?_) AllReadyH.nil
    go_simp
    have hb := (Below.refl _ V).alloc (Nat.le_refl _) (.cells #[.string ⟨#[]⟩, .string ⟨#[97]⟩] 9)
    replace c6 := (hb.cell (p := ⟨b6, _, none⟩) l6).trans c6
    replace l6 := Nat.lt_of_lt_of_le l6 hb.size
    have c13 : (V.alloc (.cells #[.string ⟨#[]⟩, .string ⟨#[97]⟩] 9)).cell? ⟨V.heap.size, (k % 2).toNat, none⟩ = some (str ya) := (cell_of_heap (heap_alloc_new V (.cells #[.string ⟨#[]⟩, .string ⟨#[97]⟩] 9)) _).trans (by simpa using hy.out)
    have l13 : V.heap.size < (V.alloc (.cells #[.string ⟨#[]⟩, .string ⟨#[97]⟩] 9)).heap.size := by rw [World.size_alloc]; omega
    have k13 := HV.b0.size
    have f1 := HV.more (.cells #[.string ⟨#[]⟩, .string ⟨#[97]⟩] 9)
    refine zB hK c6 (fun hHeld => ?_)
    clear hK K hb hHeld HV
    generalize V.alloc (.cells #[.string ⟨#[]⟩, .string ⟨#[97]⟩] 9) = V2 at *
    generalize V.heap.size = b13 at *
    refine wpAnyH_more (S' := (fun w' => w'.cell? ⟨b6, (k % 3).toNat, none⟩ = some (str xa) ∧ w'.cell? ⟨b13, (k % 2).toNat, none⟩ = some (str ya))) (fun _ h => h.1) _ _ _ _ ?_
    have hHeld : V2.cell? ⟨b6, (k % 3).toNat, none⟩ = some (str xa) ∧ V2.cell? ⟨b13, (k % 2).toNat, none⟩ = some (str ya) := ⟨c6, c13⟩
    refine zT 16 ?_; refine zT 17 ?_
    refine zT 18 ?_
    exact k_cd V2 b6 b13 ⟨f1, ⟨c6, l6, k6⟩, ⟨c13, l13, k13⟩⟩
  · intro V hF
    have HV := hF
    have hHeld : True := trivial
    refine wpAnyH_ready (rs := [5, 6, 13]) (by kernel_rfl) (by simp) ?_
    refine AllReadyH.cons rfl (fun K hK => ?_) ?_
    · have hsi2 := hsi
      rcases hsi2 with hnl | ⟨g2, off2, hA2, hsI⟩
      · refine step_nil (by rfl) _ _ _ (by rfl) 61 j0 Tryz.underlying24 hj (by rfl) (by show _ = Value.slice _ 0 _; rw [← hnl]; rfl) ?_
        intro v5 hv5
        have f1 := HV.none' (List.eq_nil_of_length_eq_zero hnl) hv5
        clear hv5
        refine zB hK trivial (fun hHeld => ?_)
        exact k_ab V v5 f1
      · refine step_own (by rfl) _ _ _ (by rfl) V.heap.size 61 j0 _ 5 72 Tryz.underlying24 hj hy0 hy1 hy2 (by rfl) (by omega) (.slice none 0 0) 0 [] (by rfl) (own_nil _ _ _ _) ⟨g2, off2, none⟩ ss[m].items.length az[m].iC (itCells ss[m].items es) (by rw [← hA2]; rfl) hlI (hsI.out _ HV.hr.b) hoI (by unfold maxLen; omega) (by omega) (Nat.le_refl _) ?_
        intro v5 V2 hown5 hgrow5
        have hb : Below V.heap.size V V2 := (Below.refl _ _).grown hgrow5 (Nat.le_refl _) (fun j hj => by cases hj)
        have f1 := Sp5.row HV (own_low hown5 HV.b0.size) rfl rfl hgrow5
        refine zB hK trivial (fun hHeld => ?_)
        exact k_ab V2 v5 f1
    refine AllReadyH.cons rfl (fun K hK => ?_) ?_
    · go_simp
      have hb := (Below.refl _ V).alloc (Nat.le_refl _) (.cells #[.string ⟨#[97]⟩, .string ⟨#[122]⟩, .string ⟨#[98, 121]⟩] 9)
      have c6 : (V.alloc (.cells #[.string ⟨#[97]⟩, .string ⟨#[122]⟩, .string ⟨#[98, 121]⟩] 9)).cell? ⟨V.heap.size, (k % 3).toNat, none⟩ = some (str xa) := (cell_of_heap (heap_alloc_new V (.cells #[.string ⟨#[97]⟩, .string ⟨#[122]⟩, .string ⟨#[98, 121]⟩] 9)) _).trans (by simpa using hx.out)
      have l6 : V.heap.size < (V.alloc (.cells #[.string ⟨#[97]⟩, .string ⟨#[122]⟩, .string ⟨#[98, 121]⟩] 9)).heap.size := by rw [World.size_alloc]; omega
      have k6 := HV.b0.size
      have f1 := HV.more (.cells #[.string ⟨#[97]⟩, .string ⟨#[122]⟩, .string ⟨#[98, 121]⟩] 9)
      refine zB hK trivial (fun hHeld => ?_)
      clear hK K hb hHeld HV
      generalize V.alloc (.cells #[.string ⟨#[97]⟩, .string ⟨#[122]⟩, .string ⟨#[98, 121]⟩] 9) = V2 at *
      generalize V.heap.size = b6 at *
      refine wpAnyH_more (S' := (fun w' => w'.cell? ⟨b6, (k % 3).toNat, none⟩ = some (str xa))) (fun _ h => trivial) _ _ _ _ ?_
      have hHeld : V2.cell? ⟨b6, (k % 3).toNat, none⟩ = some (str xa) := c6
      refine zT 9 ?_; refine zT 10 ?_
      exact k_ac V2 b6 ⟨f1, ⟨c6, l6, k6⟩⟩
    refine AllReadyH.cons rfl (fun K hK => ?_) AllReadyH.nil
    go_simp
    have hb := (Below.refl _ V).alloc (Nat.le_refl _) (.cells #[.string ⟨#[]⟩, .string ⟨#[97]⟩] 9)
    have c13 : (V.alloc (.cells #[.string ⟨#[]⟩, .string ⟨#[97]⟩] 9)).cell? ⟨V.heap.size, (k % 2).toNat, none⟩ = some (str ya) := (cell_of_heap (heap_alloc_new V (.cells #[.string ⟨#[]⟩, .string ⟨#[97]⟩] 9)) _).trans (by simpa using hy.out)
    have l13 : V.heap.size < (V.alloc (.cells #[.string ⟨#[]⟩, .string ⟨#[97]⟩] 9)).heap.size := by rw [World.size_alloc]; omega
    have k13 := HV.b0.size
    have f1 := HV.more (.cells #[.string ⟨#[]⟩, .string ⟨#[97]⟩] 9)
    refine zB hK trivial (fun hHeld => ?_)
    clear hK K hb hHeld HV
    generalize V.alloc (.cells #[.string ⟨#[]⟩, .string ⟨#[97]⟩] 9) = V2 at *
    generalize V.heap.size = b13 at *
    refine wpAnyH_more (S' := (fun w' => w'.cell? ⟨b13, (k % 2).toNat, none⟩ = some (str ya))) (fun _ h => trivial) _ _ _ _ ?_
    have hHeld : V2.cell? ⟨b13, (k % 2).toNat, none⟩ = some (str ya) := c13
    refine zT 16 ?_; refine zT 17 ?_
    exact k_ad V2 b13 ⟨f1, ⟨c13, l13, k13⟩⟩
  · intro V b6 b13 hF
    obtain ⟨HV, ⟨c6, l6, k6⟩, ⟨c13, l13, k13⟩⟩ := hF
    have hHeld : V.cell? ⟨b6, (k % 3).toNat, none⟩ = some (str xa) ∧ V.cell? ⟨b13, (k % 2).toNat, none⟩ = some (str ya) := ⟨c6, c13⟩
    refine wpAnyH_ready (rs := [4, 19]) (by kernel_rfl) (by simp) ?_
    refine AllReadyH.cons rfl (fun K hK => ?_) ?_
    · have c4 := (HV.b0.cell (p := ⟨g, _, none⟩) hg1.2).trans x4
      go_simp
      refine zB hK ⟨c6, c13⟩ (fun hHeld => ?_)
      have f1 := HV
      exact k_acd V b6 b13 ⟨f1, ⟨c6, l6, k6⟩, ⟨c13, l13, k13⟩⟩
    refine AllReadyH.cons rfl (fun K hK => ?_) AllReadyH.nil
    go_simp
    have hb := (Below.refl _ V).alloc (Nat.le_refl _) (.cells #[str xa, .int .i64 (k / 2), str ya, .int .i64 0, .slice none 0 0] 61)
    replace c6 := (hb.cell (p := ⟨b6, _, none⟩) l6).trans c6
    replace l6 := Nat.lt_of_lt_of_le l6 hb.size
    replace c13 := (hb.cell (p := ⟨b13, _, none⟩) l13).trans c13
    replace l13 := Nat.lt_of_lt_of_le l13 hb.size
    have f1 := Sp5.item HV
    refine zB hK ⟨c6, c13⟩ (fun hHeld => ?_)
    clear hK K hb hHeld HV
    generalize V.alloc (.cells #[str xa, .int .i64 (k / 2), str ya, .int .i64 0, .slice none 0 0] 61) = V2 at *
    generalize V.heap.size = b19 at *
    exact k_cde V2 b6 b13 b19 ⟨f1, ⟨c6, l6, k6⟩, ⟨c13, l13, k13⟩⟩
  · intro V b13 hF
    obtain ⟨HV, ⟨c13, l13, k13⟩⟩ := hF
    have hHeld : V.cell? ⟨b13, (k % 2).toNat, none⟩ = some (str ya) := c13
    refine wpAnyH_ready (rs := [5, 6]) (by kernel_rfl) (by simp) ?_
    refine AllReadyH.cons rfl (fun K hK => ?_) ?_
    · have hsi2 := hsi
      rcases hsi2 with hnl | ⟨g2, off2, hA2, hsI⟩
      · refine step_nil (by rfl) _ _ _ (by rfl) 61 j0 Tryz.underlying24 hj (by rfl) (by show _ = Value.slice _ 0 _; rw [← hnl]; rfl) ?_
        intro v5 hv5
        have f1 := HV.none' (List.eq_nil_of_length_eq_zero hnl) hv5
        have n13 : ∀ j, v5.ownBlock = some j → j ≠ b13 := fun j hj => by subst hv5; cases hj
        clear hv5
        refine zB hK c13 (fun hHeld => ?_)
        exact k_abd V v5 b13 ⟨f1, ⟨c13, l13, k13⟩, n13⟩
      · refine step_own (by rfl) _ _ _ (by rfl) V.heap.size 61 j0 _ 5 72 Tryz.underlying24 hj hy0 hy1 hy2 (by rfl) (by omega) (.slice none 0 0) 0 [] (by rfl) (own_nil _ _ _ _) ⟨g2, off2, none⟩ ss[m].items.length az[m].iC (itCells ss[m].items es) (by rw [← hA2]; rfl) hlI (hsI.out _ HV.hr.b) hoI (by unfold maxLen; omega) (by omega) (Nat.le_refl _) ?_
        intro v5 V2 hown5 hgrow5
        have hb : Below V.heap.size V V2 := (Below.refl _ _).grown hgrow5 (Nat.le_refl _) (fun j hj => by cases hj)
        have n13 : ∀ j, v5.ownBlock = some j → j ≠ b13 := fun j hj => (by have h9 := (hown5.lt j hj).1; omega)
        replace c13 := (hb.cell (p := ⟨b13, _, none⟩) l13).trans c13
        replace l13 := Nat.lt_of_lt_of_le l13 hb.size
        have f1 := Sp5.row HV (own_low hown5 HV.b0.size) rfl rfl hgrow5
        refine zB hK c13 (fun hHeld => ?_)
        exact k_abd V2 v5 b13 ⟨f1, ⟨c13, l13, k13⟩, n13⟩
    refine AllReadyH.cons rfl (fun K hK => ?_) AllReadyH.nil
    go_simp
    have hb := (Below.refl _ V).alloc (Nat.le_refl _) (.cells #[.string ⟨#[97]⟩, .string ⟨#[122]⟩, .string ⟨#[98, 121]⟩] 9)
    replace c13 := (hb.cell (p := ⟨b13, _, none⟩) l13).trans c13
    replace l13 := Nat.lt_of_lt_of_le l13 hb.size
    have c6 : (V.alloc (.cells #[.string ⟨#[97]⟩, .string ⟨#[122]⟩, .string ⟨#[98, 121]⟩] 9)).cell? ⟨V.heap.size, (k % 3).toNat, none⟩ = some (str xa) := (cell_of_heap (heap_alloc_new V (.cells #[.string ⟨#[97]⟩, .string ⟨#[122]⟩, .string ⟨#[98, 121]⟩] 9)) _).trans (by simpa using hx.out)
    have l6 : V.heap.size < (V.alloc (.cells #[.string ⟨#[97]⟩, .string ⟨#[122]⟩, .string ⟨#[98, 121]⟩] 9)).heap.size := by rw [World.size_alloc]; omega
    have k6 := HV.b0.size
    have f1 := HV.more (.cells #[.string ⟨#[97]⟩, .string ⟨#[122]⟩, .string ⟨#[98, 121]⟩] 9)
    refine zB hK c13 (fun hHeld => ?_)
    clear hK K hb hHeld HV
    generalize V.alloc (.cells #[.string ⟨#[97]⟩, .string ⟨#[122]⟩, .string ⟨#[98, 121]⟩] 9) = V2 at *
    generalize V.heap.size = b6 at *
    refine wpAnyH_more (S' := (fun w' => w'.cell? ⟨b6, (k % 3).toNat, none⟩ = some (str xa) ∧ w'.cell? ⟨b13, (k % 2).toNat, none⟩ = some (str ya))) (fun _ h => h.2) _ _ _ _ ?_
    have hHeld : V2.cell? ⟨b6, (k % 3).toNat, none⟩ = some (str xa) ∧ V2.cell? ⟨b13, (k % 2).toNat, none⟩ = some (str ya) := ⟨c6, c13⟩
    refine zT 9 ?_; refine zT 10 ?_
    refine zT 18 ?_
    exact k_acd V2 b6 b13 ⟨f1, ⟨c6, l6, k6⟩, ⟨c13, l13, k13⟩⟩
  · intro V b6 hF
    obtain ⟨HV, ⟨c6, l6, k6⟩⟩ := hF
    have hHeld : V.cell? ⟨b6, (k % 3).toNat, none⟩ = some (str xa) := c6
    refine wpAnyH_ready (rs := [5, 13]) (by kernel_rfl) (by simp) ?_
    refine AllReadyH.cons rfl (fun K hK => ?_) ?_
    · have hsi2 := hsi
      rcases hsi2 with hnl | ⟨g2, off2, hA2, hsI⟩
      · refine step_nil (by rfl) _ _ _ (by rfl) 61 j0 Tryz.underlying24 hj (by rfl) (by show _ = Value.slice _ 0 _; rw [← hnl]; rfl) ?_
        intro v5 hv5
        have f1 := HV.none' (List.eq_nil_of_length_eq_zero hnl) hv5
        have n6 : ∀ j, v5.ownBlock = some j → j ≠ b6 := fun j hj => by subst hv5; cases hj
        clear hv5
        refine zB hK c6 (fun hHeld => ?_)
        exact k_abc V v5 b6 ⟨f1, ⟨c6, l6, k6⟩, n6⟩
      · refine step_own (by rfl) _ _ _ (by rfl) V.heap.size 61 j0 _ 5 72 Tryz.underlying24 hj hy0 hy1 hy2 (by rfl) (by omega) (.slice none 0 0) 0 [] (by rfl) (own_nil _ _ _ _) ⟨g2, off2, none⟩ ss[m].items.length az[m].iC (itCells ss[m].items es) (by rw [← hA2]; rfl) hlI (hsI.out _ HV.hr.b) hoI (by unfold maxLen; omega) (by omega) (Nat.le_refl _) ?_
        intro v5 V2 hown5 hgrow5
        have hb : Below V.heap.size V V2 := (Below.refl _ _).grown hgrow5 (Nat.le_refl _) (fun j hj => by cases hj)
        have n6 : ∀ j, v5.ownBlock = some j → j ≠ b6 := fun j hj => (by have h9 := (hown5.lt j hj).1; omega)
        replace c6 := (hb.cell (p := ⟨b6, _, none⟩) l6).trans c6
        replace l6 := Nat.lt_of_lt_of_le l6 hb.size
        have f1 := Sp5.row HV (own_low hown5 HV.b0.size) rfl rfl hgrow5
        refine zB hK c6 (fun hHeld => ?_)
        exact k_abc V2 v5 b6 ⟨f1, ⟨c6, l6, k6⟩, n6⟩
    refine AllReadyH.cons rfl (fun K hK => ?_) AllReadyH.nil
    go_simp
    have hb := (Below.refl _ V).alloc (Nat.le_refl _) (.cells #[.string ⟨#[]⟩, .string ⟨#[97]⟩] 9)
    replace c6 := (hb.cell (p := ⟨b6, _, none⟩) l6).trans c6
    replace l6 := Nat.lt_of_lt_of_le l6 hb.size
    have c13 : (V.alloc (.cells #[.string ⟨#[]⟩, .string ⟨#[97]⟩] 9)).cell? ⟨V.heap.size, (k % 2).toNat, none⟩ = some (str ya) := (cell_of_heap (heap_alloc_new V (.cells #[.string ⟨#[]⟩, .string ⟨#[97]⟩] 9)) _).trans (by simpa using hy.out)
    have l13 : V.heap.size < (V.alloc (.cells #[.string ⟨#[]⟩, .string ⟨#[97]⟩] 9)).heap.size := by rw [World.size_alloc]; omega
    have k13 := HV.b0.size
    have f1 := HV.more (.cells #[.string ⟨#[]⟩, .string ⟨#[97]⟩] 9)
    refine zB hK c6 (fun hHeld => ?_)
    clear hK K hb hHeld HV
    generalize V.alloc (.cells #[.string ⟨#[]⟩, .string ⟨#[97]⟩] 9) = V2 at *
    generalize V.heap.size = b13 at *
    refine wpAnyH_more (S' := (fun w' => w'.cell? ⟨b6, (k % 3).toNat, none⟩ = some (str xa) ∧ w'.cell? ⟨b13, (k % 2).toNat, none⟩ = some (str ya))) (fun _ h => h.1) _ _ _ _ ?_
    have hHeld : V2.cell? ⟨b6, (k % 3).toNat, none⟩ = some (str xa) ∧ V2.cell? ⟨b13, (k % 2).toNat, none⟩ = some (str ya) := ⟨c6, c13⟩
    refine zT 16 ?_; refine zT 17 ?_
    refine zT 18 ?_
    exact k_acd V2 b6 b13 ⟨f1, ⟨c6, l6, k6⟩, ⟨c13, l13, k13⟩⟩
  · intro V v5 hF
    have HV := hF
    have hHeld : True := trivial
    refine wpAnyH_ready (rs := [6, 13]) (by kernel_rfl) (by simp) ?_
    refine AllReadyH.cons rfl (fun K hK => ?_) ?_
    · go_simp
      have hb := (Below.refl _ V).alloc (Nat.le_refl _) (.cells #[.string ⟨#[97]⟩, .string ⟨#[122]⟩, .string ⟨#[98, 121]⟩] 9)
      have c6 : (V.alloc (.cells #[.string ⟨#[97]⟩, .string ⟨#[122]⟩, .string ⟨#[98, 121]⟩] 9)).cell? ⟨V.heap.size, (k % 3).toNat, none⟩ = some (str xa) := (cell_of_heap (heap_alloc_new V (.cells #[.string ⟨#[97]⟩, .string ⟨#[122]⟩, .string ⟨#[98, 121]⟩] 9)) _).trans (by simpa using hx.out)
      have l6 : V.heap.size < (V.alloc (.cells #[.string ⟨#[97]⟩, .string ⟨#[122]⟩, .string ⟨#[98, 121]⟩] 9)).heap.size := by rw [World.size_alloc]; omega
      have k6 := HV.b0.size
      have n6 : ∀ j, v5.ownBlock = some j → j ≠ V.heap.size := fun j hj => by have h9 := ((HV.h5 _ rfl).lt j hj).2; omega
      have f1 := HV.more (.cells #[.string ⟨#[97]⟩, .string ⟨#[122]⟩, .string ⟨#[98, 121]⟩] 9)
      refine zB hK trivial (fun hHeld => ?_)
      clear hK K hb hHeld HV
      generalize V.alloc (.cells #[.string ⟨#[97]⟩, .string ⟨#[122]⟩, .string ⟨#[98, 121]⟩] 9) = V2 at *
      generalize V.heap.size = b6 at *
      refine wpAnyH_more (S' := (fun w' => w'.cell? ⟨b6, (k % 3).toNat, none⟩ = some (str xa))) (fun _ h => trivial) _ _ _ _ ?_
      have hHeld : V2.cell? ⟨b6, (k % 3).toNat, none⟩ = some (str xa) := c6
      refine zT 9 ?_; refine zT 10 ?_
      exact k_abc V2 v5 b6 ⟨f1, ⟨c6, l6, k6⟩, n6⟩
    refine AllReadyH.cons rfl (fun K hK => ?_) AllReadyH.nil
    go_simp
    have hb := (Below.refl _ V).alloc (Nat.le_refl _) (.cells #[.string ⟨#[]⟩, .string ⟨#[97]⟩] 9)
    have c13 : (V.alloc (.cells #[.string ⟨#[]⟩, .string ⟨#[97]⟩] 9)).cell? ⟨V.heap.size, (k % 2).toNat, none⟩ = some (str ya) := (cell_of_heap (heap_alloc_new V (.cells #[.string ⟨#[]⟩, .string ⟨#[97]⟩] 9)) _).trans (by simpa using hy.out)
    have l13 : V.heap.size < (V.alloc (.cells #[.string ⟨#[]⟩, .string ⟨#[97]⟩] 9)).heap.size := by rw [World.size_alloc]; omega
    have k13 := HV.b0.size
    have n13 : ∀ j, v5.ownBlock = some j → j ≠ V.heap.size := fun j hj => by have h9 := ((HV.h5 _ rfl).lt j hj).2; omega
    have f1 := HV.more (.cells #[.string ⟨#[]⟩, .string ⟨#[97]⟩] 9)
    refine zB hK trivial (fun hHeld => ?_)
    clear hK K hb hHeld HV
    generalize V.alloc (.cells #[.string ⟨#[]⟩, .string ⟨#[97]⟩] 9) = V2 at *
    generalize V.heap.size = b13 at *
    refine wpAnyH_more (S' := (fun w' => w'.cell? ⟨b13, (k % 2).toNat, none⟩ = some (str ya))) (fun _ h => trivial) _ _ _ _ ?_
    have hHeld : V2.cell? ⟨b13, (k % 2).toNat, none⟩ = some (str ya) := c13
    refine zT 16 ?_; refine zT 17 ?_
    exact k_abd V2 v5 b13 ⟨f1, ⟨c13, l13, k13⟩, n13⟩
  · intro V b6 b13 b19 hF
    obtain ⟨HV, ⟨c6, l6, k6⟩, ⟨c13, l13, k13⟩⟩ := hF
    have hHeld : V.cell? ⟨b6, (k % 3).toNat, none⟩ = some (str xa) ∧ V.cell? ⟨b13, (k % 2).toNat, none⟩ = some (str ya) := ⟨c6, c13⟩
    refine zR 4 (fun K hK => ?_)
    have c4 := (HV.b0.cell (p := ⟨g, _, none⟩) hg1.2).trans x4
    go_simp
    refine zB hK ⟨c6, c13⟩ (fun hHeld => ?_)
    have f1 := HV
    exact k_acde V b6 b13 b19 ⟨f1, ⟨c6, l6, k6⟩, ⟨c13, l13, k13⟩⟩
  · intro V b6 b13 hF
    obtain ⟨HV, ⟨c6, l6, k6⟩, ⟨c13, l13, k13⟩⟩ := hF
    have hHeld : V.cell? ⟨b6, (k % 3).toNat, none⟩ = some (str xa) ∧ V.cell? ⟨b13, (k % 2).toNat, none⟩ = some (str ya) := ⟨c6, c13⟩
    refine wpAnyH_ready (rs := [5, 19]) (by kernel_rfl) (by simp) ?_
    refine AllReadyH.cons rfl (fun K hK => ?_) ?_
    · have hsi2 := hsi
      rcases hsi2 with hnl | ⟨g2, off2, hA2, hsI⟩
      · refine step_nil (by rfl) _ _ _ (by rfl) 61 j0 Tryz.underlying24 hj (by rfl) (by show _ = Value.slice _ 0 _; rw [← hnl]; rfl) ?_
        intro v5 hv5
        have f1 := HV.none' (List.eq_nil_of_length_eq_zero hnl) hv5
        have n6 : ∀ j, v5.ownBlock = some j → j ≠ b6 := fun j hj => by subst hv5; cases hj
        have n13 : ∀ j, v5.ownBlock = some j → j ≠ b13 := fun j hj => by subst hv5; cases hj
        clear hv5
        refine zB hK ⟨c6, c13⟩ (fun hHeld => ?_)
        exact k_abcd V v5 b6 b13 ⟨f1, ⟨c6, l6, k6⟩, n6, ⟨c13, l13, k13⟩, n13⟩
      · refine step_own (by rfl) _ _ _ (by rfl) V.heap.size 61 j0 _ 5 72 Tryz.underlying24 hj hy0 hy1 hy2 (by rfl) (by omega) (.slice none 0 0) 0 [] (by rfl) (own_nil _ _ _ _) ⟨g2, off2, none⟩ ss[m].items.length az[m].iC (itCells ss[m].items es) (by rw [← hA2]; rfl) hlI (hsI.out _ HV.hr.b) hoI (by unfold maxLen; omega) (by omega) (Nat.le_refl _) ?_
        intro v5 V2 hown5 hgrow5
        have hb : Below V.heap.size V V2 := (Below.refl _ _).grown hgrow5 (Nat.le_refl _) (fun j hj => by cases hj)
        have n6 : ∀ j, v5.ownBlock = some j → j ≠ b6 := fun j hj => (by have h9 := (hown5.lt j hj).1; omega)
        replace c6 := (hb.cell (p := ⟨b6, _, none⟩) l6).trans c6
        replace l6 := Nat.lt_of_lt_of_le l6 hb.size
        have n13 : ∀ j, v5.ownBlock = some j → j ≠ b13 := fun j hj => (by have h9 := (hown5.lt j hj).1; omega)
        replace c13 := (hb.cell (p := ⟨b13, _, none⟩) l13).trans c13
        replace l13 := Nat.lt_of_lt_of_le l13 hb.size
        have f1 := Sp5.row HV (own_low hown5 HV.b0.size) rfl rfl hgrow5
        refine zB hK ⟨c6, c13⟩ (fun hHeld => ?_)
        exact k_abcd V2 v5 b6 b13 ⟨f1, ⟨c6, l6, k6⟩, n6, ⟨c13, l13, k13⟩, n13⟩
    refine AllReadyH.cons rfl (fun K hK => ?_) AllReadyH.nil
    go_simp
    have hb := (Below.refl _ V).alloc (Nat.le_refl _) (.cells #[str xa, .int .i64 (k / 2), str ya, .int .i64 0, .slice none 0 0] 61)
    replace c6 := (hb.cell (p := ⟨b6, _, none⟩) l6).trans c6
    replace l6 := Nat.lt_of_lt_of_le l6 hb.size
    replace c13 := (hb.cell (p := ⟨b13, _, none⟩) l13).trans c13
    replace l13 := Nat.lt_of_lt_of_le l13 hb.size
    have f1 := Sp5.item HV
    refine zB hK ⟨c6, c13⟩ (fun hHeld => ?_)
    clear hK K hb hHeld HV
    generalize V.alloc (.cells #[str xa, .int .i64 (k / 2), str ya, .int .i64 0, .slice none 0 0] 61) = V2 at *
    generalize V.heap.size = b19 at *
    exact k_acde V2 b6 b13 b19 ⟨f1, ⟨c6, l6, k6⟩, ⟨c13, l13, k13⟩⟩
  · intro V v5 b13 hF
    obtain ⟨HV, ⟨c13, l13, k13⟩, n13⟩ := hF
    have hHeld : V.cell? ⟨b13, (k % 2).toNat, none⟩ = some (str ya) := c13
    refine zR 6 (fun K hK => ?_)
    go_simp
    have hb := (Below.refl _ V).alloc (Nat.le_refl _) (.cells #[.string ⟨#[97]⟩, .string ⟨#[122]⟩, .string ⟨#[98, 121]⟩] 9)
    replace c13 := (hb.cell (p := ⟨b13, _, none⟩) l13).trans c13
    replace l13 := Nat.lt_of_lt_of_le l13 hb.size
    have c6 : (V.alloc (.cells #[.string ⟨#[97]⟩, .string ⟨#[122]⟩, .string ⟨#[98, 121]⟩] 9)).cell? ⟨V.heap.size, (k % 3).toNat, none⟩ = some (str xa) := (cell_of_heap (heap_alloc_new V (.cells #[.string ⟨#[97]⟩, .string ⟨#[122]⟩, .string ⟨#[98, 121]⟩] 9)) _).trans (by simpa using hx.out)
    have l6 : V.heap.size < (V.alloc (.cells #[.string ⟨#[97]⟩, .string ⟨#[122]⟩, .string ⟨#[98, 121]⟩] 9)).heap.size := by rw [World.size_alloc]; omega
    have k6 := HV.b0.size
    have n6 : ∀ j, v5.ownBlock = some j → j ≠ V.heap.size := fun j hj => by have h9 := ((HV.h5 _ rfl).lt j hj).2; omega
    have f1 := HV.more (.cells #[.string ⟨#[97]⟩, .string ⟨#[122]⟩, .string ⟨#[98, 121]⟩] 9)
    refine zB hK c13 (fun hHeld => ?_)
    clear hK K hb hHeld HV
    generalize V.alloc (.cells #[.string ⟨#[97]⟩, .string ⟨#[122]⟩, .string ⟨#[98, 121]⟩] 9) = V2 at *
    generalize V.heap.size = b6 at *
    refine wpAnyH_more (S' := (fun w' => w'.cell? ⟨b6, (k % 3).toNat, none⟩ = some (str xa) ∧ w'.cell? ⟨b13, (k % 2).toNat, none⟩ = some (str ya))) (fun _ h => h.2) _ _ _ _ ?_
    have hHeld : V2.cell? ⟨b6, (k % 3).toNat, none⟩ = some (str xa) ∧ V2.cell? ⟨b13, (k % 2).toNat, none⟩ = some (str ya) := ⟨c6, c13⟩
    refine zT 9 ?_; refine zT 10 ?_
    refine zT 18 ?_
    exact k_abcd V2 v5 b6 b13 ⟨f1, ⟨c6, l6, k6⟩, n6, ⟨c13, l13, k13⟩, n13⟩
  · intro V v5 b6 hF
    obtain ⟨HV, ⟨c6, l6, k6⟩, n6⟩ := hF
    have hHeld : V.cell? ⟨b6, (k % 3).toNat, none⟩ = some (str xa) := c6
    refine zR 13 (fun K hK => ?_)
    go_simp
    have hb := (Below.refl _ V).alloc (Nat.le_refl _) (.cells #[.string ⟨#[]⟩, .string ⟨#[97]⟩] 9)
    replace c6 := (hb.cell (p := ⟨b6, _, none⟩) l6).trans c6
    replace l6 := Nat.lt_of_lt_of_le l6 hb.size
    have c13 : (V.alloc (.cells #[.string ⟨#[]⟩, .string ⟨#[97]⟩] 9)).cell? ⟨V.heap.size, (k % 2).toNat, none⟩ = some (str ya) := (cell_of_heap (heap_alloc_new V (.cells #[.string ⟨#[]⟩, .string ⟨#[97]⟩] 9)) _).trans (by simpa using hy.out)
    have l13 : V.heap.size < (V.alloc (.cells #[.string ⟨#[]⟩, .string ⟨#[97]⟩] 9)).heap.size := by rw [World.size_alloc]; omega
    have k13 := HV.b0.size
    have n13 : ∀ j, v5.ownBlock = some j → j ≠ V.heap.size := fun j hj => by have h9 := ((HV.h5 _ rfl).lt j hj).2; omega
    have f1 := HV.more (.cells #[.string ⟨#[]⟩, .string ⟨#[97]⟩] 9)
    refine zB hK c6 (fun hHeld => ?_)
    clear hK K hb hHeld HV
    generalize V.alloc (.cells #[.string ⟨#[]⟩, .string ⟨#[97]⟩] 9) = V2 at *
    generalize V.heap.size = b13 at *
    refine wpAnyH_more (S' := (fun w' => w'.cell? ⟨b6, (k % 3).toNat, none⟩ = some (str xa) ∧ w'.cell? ⟨b13, (k % 2).toNat, none⟩ = some (str ya))) (fun _ h => h.1) _ _ _ _ ?_
    have hHeld : V2.cell? ⟨b6, (k % 3).toNat, none⟩ = some (str xa) ∧ V2.cell? ⟨b13, (k % 2).toNat, none⟩ = some (str ya) := ⟨c6, c13⟩
    refine zT 16 ?_; refine zT 17 ?_
    refine zT 18 ?_
    exact k_abcd V2 v5 b6 b13 ⟨f1, ⟨c6, l6, k6⟩, n6, ⟨c13, l13, k13⟩, n13⟩
  · intro V b6 b13 b19 hF
    obtain ⟨HV, ⟨c6, l6, k6⟩, ⟨c13, l13, k13⟩⟩ := hF
    have hHeld : V.cell? ⟨b6, (k % 3).toNat, none⟩ = some (str xa) ∧ V.cell? ⟨b13, (k % 2).toNat, none⟩ = some (str ya) := ⟨c6, c13⟩
    refine zR 5 (fun K hK => ?_)
    have hsi2 := hsi
    rcases hsi2 with hnl | ⟨g2, off2, hA2, hsI⟩
    · refine step_nil (by rfl) _ _ _ (by rfl) 61 j0 Tryz.underlying24 hj (by rfl) (by show _ = Value.slice _ 0 _; rw [← hnl]; rfl) ?_
      intro v5 hv5
      have f1 := HV.none' (List.eq_nil_of_length_eq_zero hnl) hv5
      have n6 : ∀ j, v5.ownBlock = some j → j ≠ b6 := fun j hj => by subst hv5; cases hj
      have n13 : ∀ j, v5.ownBlock = some j → j ≠ b13 := fun j hj => by subst hv5; cases hj
      clear hv5
      refine zB hK ⟨c6, c13⟩ (fun hHeld => ?_)
      exact k_abcde V v5 b6 b13 b19 ⟨f1, ⟨c6, l6, k6⟩, n6, ⟨c13, l13, k13⟩, n13⟩
    · refine step_own (by rfl) _ _ _ (by rfl) V.heap.size 61 j0 _ 5 72 Tryz.underlying24 hj hy0 hy1 hy2 (by rfl) (by omega) (.slice none 0 0) 0 [] (by rfl) (own_nil _ _ _ _) ⟨g2, off2, none⟩ ss[m].items.length az[m].iC (itCells ss[m].items es) (by rw [← hA2]; rfl) hlI (hsI.out _ HV.hr.b) hoI (by unfold maxLen; omega) (by omega) (Nat.le_refl _) ?_
      intro v5 V2 hown5 hgrow5
      have hb : Below V.heap.size V V2 := (Below.refl _ _).grown hgrow5 (Nat.le_refl _) (fun j hj => by cases hj)
      have n6 : ∀ j, v5.ownBlock = some j → j ≠ b6 := fun j hj => (by have h9 := (hown5.lt j hj).1; omega)
      replace c6 := (hb.cell (p := ⟨b6, _, none⟩) l6).trans c6
      replace l6 := Nat.lt_of_lt_of_le l6 hb.size
      have n13 : ∀ j, v5.ownBlock = some j → j ≠ b13 := fun j hj => (by have h9 := (hown5.lt j hj).1; omega)
      replace c13 := (hb.cell (p := ⟨b13, _, none⟩) l13).trans c13
      replace l13 := Nat.lt_of_lt_of_le l13 hb.size
      have f1 := Sp5.row HV (own_low hown5 HV.b0.size) rfl rfl hgrow5
      refine zB hK ⟨c6, c13⟩ (fun hHeld => ?_)
      exact k_abcde V2 v5 b6 b13 b19 ⟨f1, ⟨c6, l6, k6⟩, n6, ⟨c13, l13, k13⟩, n13⟩
  · intro V v5 b6 b13 hF
    obtain ⟨HV, ⟨c6, l6, k6⟩, n6, ⟨c13, l13, k13⟩, n13⟩ := hF
    have hHeld : V.cell? ⟨b6, (k % 3).toNat, none⟩ = some (str xa) ∧ V.cell? ⟨b13, (k % 2).toNat, none⟩ = some (str ya) := ⟨c6, c13⟩
    refine zR 19 (fun K hK => ?_)
    go_simp
    have hb := (Below.refl _ V).alloc (Nat.le_refl _) (.cells #[str xa, .int .i64 (k / 2), str ya, .int .i64 0, .slice none 0 0] 61)
    replace c6 := (hb.cell (p := ⟨b6, _, none⟩) l6).trans c6
    replace l6 := Nat.lt_of_lt_of_le l6 hb.size
    replace c13 := (hb.cell (p := ⟨b13, _, none⟩) l13).trans c13
    replace l13 := Nat.lt_of_lt_of_le l13 hb.size
    have f1 := Sp5.item HV
    refine zB hK ⟨c6, c13⟩ (fun hHeld => ?_)
    clear hK K hb hHeld HV
    generalize V.alloc (.cells #[str xa, .int .i64 (k / 2), str ya, .int .i64 0, .slice none 0 0] 61) = V2 at *
    generalize V.heap.size = b19 at *
    exact k_abcde V2 v5 b6 b13 b19 ⟨f1, ⟨c6, l6, k6⟩, n6, ⟨c13, l13, k13⟩, n13⟩
  · intro V v5 b6 b13 b19 hF
    obtain ⟨HV, ⟨c6, l6, k6⟩, n6, ⟨c13, l13, k13⟩, n13⟩ := hF
    have hHeld : V.cell? ⟨b6, (k % 3).toNat, none⟩ = some (str xa) ∧ V.cell? ⟨b13, (k % 2).toNat, none⟩ = some (str ya) := ⟨c6, c13⟩
    refine zR 20 (fun K hK => ?_)
    refine step_own (by rfl) _ _ _ (by rfl) w0.heap.size 61 j0 _ 5 72 Tryz.underlying24 hj hy0 hy1 hy2 (by rfl) (by omega) v5 ss[m].items.length (itCells ss[m].items es) (by rfl) (HV.h5 _ rfl) ⟨b19, 0, none⟩ 1 1 [str xa, .int .i64 (k / 2), str ya, .int .i64 0, .slice none 0 0] (by rfl) (by rfl) (by exact cells_5 (HV.h19 _ rfl)) (by simp [Value.oneCell']) (by unfold maxLen; omega) (by omega) HV.b0.size ?_
    intro v6 V2 hown6 hgrow6
    obtain ⟨A6, c9, rfl⟩ := own_form hown6
    have hb : Below w0.heap.size w0 V2 := HV.b0.grown hgrow6 HV.b0.size (fun j hj => ((HV.h5 _ rfl).lt j hj).1)
    have HR6 := hide (HR.out.more hb)
    have y4 := (hb.cell (p := ⟨g, _, none⟩) hg1.2).trans x4
    have y6 := hgrow6.cell c6 (fun e => n6 b6 e.symm rfl)
    have y13 := hgrow6.cell c13 (fun e => n13 b13 e.symm rfl)
    have HO6 := hide hown6
    refine zB hK ⟨y6, y13⟩ (fun hHeld => ?_)
    clear hK K hown6 hgrow6 n6 n13
    have fy := HR6.out.free
    refine zT 21 ?_; refine zT 22 ?_
    refine zR 23 (fun K hK => ?_)
    go_simp
    refine zB hK ⟨(World.cell?_setCell_other _ _ _ _ (by first | (simp; done) | (simp; omega))).trans y6, (World.cell?_setCell_other _ _ _ _ (by first | (simp; done) | (simp; omega))).trans y13⟩ (fun hHeld => ?_)
    clear hK K
    refine wpAnyH_done (by kernel_rfl) ?_ _
    go_wp2
    go_ret
    exact FIN.out _ _ _ _ HR6.out HO6.out rfl

theorem law11_spoilt_any (ss : List Stp) (hS : StsOk ss) (hp : 0 < ss.length) (hl : ss.length ≤ 60) (hI : ∀ s ∈ ss, s.items.length ≤ 12) (base : Nat) (A : Option Addr) (c : Nat) (n : Int) (w : World) (hrow : StepsRow w base A c ss) :
    Calls Tryz.prog 14 #[.slice A ss.length c, .int .i64 n] w fun e w' => SpoiltR w w' e ∧ Below w.heap.size w w' := by
  have h : (n / 16 % 16 = 0 ∨ n / 16 % 16 = 1 ∨ n / 16 % 16 = 2 ∨ n / 16 % 16 = 3 ∨ n / 16 % 16 = 4 ∨ n / 16 % 16 = 6 ∨ n / 16 % 16 = 7 ∨ n / 16 % 16 = 8) ∨ n / 16 % 16 = 5 ∨ 9 ≤ n / 16 % 16 := by omega
  rcases h with h | h | h
  · exact spoilt_s ss hS hp hl hI base A c n w hrow h
  · exact spoilt_v ss hS hp hl hI base A c n w hrow h
  · exact spoilt_d ss hS hp hl hI base A c n w hrow h
end Go.Proofs.YtmbeeefkpgfgmaaGreatDoor

